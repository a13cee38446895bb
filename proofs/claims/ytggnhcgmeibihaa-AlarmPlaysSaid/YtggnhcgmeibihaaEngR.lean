/-
  An engine of rules for walks, part R: small rules over parts O to Q. No program's text; conditions: each theorem's own.
-/
import Derived.Test.YtggnhcgmeibihaaEngQ
namespace Go.Proofs.Ytggnhcgmeibihaa
open Go Go.RowKit
set_option linter.unusedVariables false

/-- A variable that was made: its place is the answer. -/
def ptrE (v : Value) (cs : List Value) (e : TypeId) : HE := match v with
  | .pointer (some ⟨b, 0, none⟩) => .blk b (.cells ⟨cs⟩ e (0, 0)) true
  | _ => .rep (fun _ => False) (fun _ => False) false
theorem ptrE_form {v : Value} {cs : List Value} {e : TypeId} {w : World} (h : (ptrE v cs e).holds w) : ∃ b, v = .pointer (some ⟨b, 0, none⟩) := by
  unfold ptrE at h
  split at h
  · exact ⟨_, rfl⟩
  · exact h.1.elim
/-- What is said of no place. -/
def factE (p : Prop) : HE := .rep (fun _ => p) (fun _ => False) false
theorem Hp.addF {w0 w : World} {o : OL} {p : Prop} (h : Hp w0 w o) (hp : p) : Hp w0 w (factE p :: o) :=
  h.more ⟨hp, fun _ _ _ _ => hp, fun k hk => hk.elim⟩ fun e he hr k hk => hk.elim
theorem Hp.fact {w0 w : World} {o : OL} {p : Prop} (h : Hp w0 w o) (i : Nat) (hi : getE o i = some (factE p)) : p := (h.own _ (getE_mem hi)).1
def newP (w0 : World) (v : Value) : Prop := ∃ b, v = .pointer (some ⟨b, 0, none⟩) ∧ w0.heap.size ≤ b
abbrev repE (p : Vp) (x : Value × (Nat → Prop)) : HE := .rep (fun w => p.at_ w x.2 x.1) x.2 false

section
variable {γ : Type} {P : Program} {tb : Tab} {n : Nat} {w0 : World} {all : Array Oper} {o : Oper} {dl : DL} {ol : OL} {o2 : Value × γ → OL} {tk : Option Value}
/-- What the heap says may be used. -/
theorem OpA.pre {X : Prop} (hx : ∀ w, Hp w0 w ol → X) (hl : ∀ d, o.dst = some d → d < n) (h : X → OpA P n w0 all ol o2 dl o tk) : OpA P n w0 all ol o2 dl o tk :=
  ⟨fun a w h1 h2 h3 h4 => (h (hx w h3)).ok a w h1 h2 h3 h4, hl⟩
/-- What answers a value that is told, and leaves the heap alone. -/
theorem OpA.told {d : Nat} {v : Value} (g : γ) (hd : o.dst = some d) (h : D P n w0 all [o] dl ol (fun dl' => lk dl' d = some (.ex v))) (ho : o2 (v, g) = ol) : OpA P n w0 all ol o2 dl o (some v) :=
  OpS.toF g (fun u h => by cases h; rfl) (by rw [ho]; exact OpS.ofD hd h)
end
section
variable {P : Program} {tb : Tab} {n : Nat} {w0 : World} {all : Array Oper} {o : Oper} {dl : DL} {ol : OL} {o2 : Value × (Nat → Prop) → OL}
theorem OpA.callV (p : Vp) (A : Nat → Prop) {d : Nat} {f : FuncId} {Es : List Ent} (hs : callD? n all dl o = some (d, f, Es)) (hcall : ∀ args w, (callFunc f args).run P w = .ok (.enter f args) w)
    (hc : ∀ w vs, Hp w0 w ol → EntsAt Es vs w → Calls P f vs.toArray w (fun e w' => ∃ v, e = .returned v ∧ Below w.heap.size w w' ∧ p.at_ w' (BB w0 A ol) v))
    (h : ∀ w x, (∀ k, x.2 k → A k ∨ w0.heap.size ≤ k) → Hp w0 w (repE p x :: ol) → Hp w0 w (o2 x)) : OpA P n w0 all ol o2 dl o none :=
  OpA.call hs hcall fun w vs hh he => (hc w vs hh he).mono fun e w' ⟨v, e1, hb, hp⟩ => by
    obtain ⟨F, h1, h2, h3⟩ := (hh.ext hb).addV hp
    exact ⟨v, F, e1, h w' (v, F) h1 h3⟩
end
section
variable {γ : Type} {P : Program} {n : Nat} {w0 : World} {all : Array Oper} {o : Oper} {dl dl' : DL} {ol : OL} {o2 : Value × γ → OL} {tk : Option Value}
theorem OpA.swap (hl : ∀ t ∈ o.looksAt all, lk dl t = lk dl' t) (h : OpA P n w0 all ol o2 dl' o tk) : OpA P n w0 all ol o2 dl o tk :=
  ⟨fun a w h1 h2 h3 h4 => h.ok a w h1 h2 h3 fun t ht => by rw [← hl t ht]; exact h4 t ht, h.lt⟩
end
end Go.Proofs.Ytggnhcgmeibihaa
