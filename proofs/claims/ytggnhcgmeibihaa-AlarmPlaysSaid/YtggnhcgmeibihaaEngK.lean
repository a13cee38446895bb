/-
  An engine of rules for walks, part K: places in the list of what is known, found step by step. No program's text; conditions: each theorem's own.
-/
import Derived.Test.YtggnhcgmeibihaaEngJ
namespace Go.Proofs.Ytggnhcgmeibihaa
open Go Go.RowKit
set_option linter.unusedVariables false
def snocO : OL → HE → Option OL
  | [], x => some [x]
  | e :: ol, x => match snocO ol x with
    | some r => some (e :: r)
    | none => none
theorem snocO_eq : ∀ {ol r : OL} {x : HE}, snocO ol x = some r → r = ol ++ [x]
  | [], r, x, h => by simp [snocO] at h; subst h; rfl
  | e :: ol, r, x, h => by
    simp only [snocO] at h
    split at h
    · rename_i q hq
      simp at h
      rw [← h, snocO_eq hq]
      rfl
    · cases h
theorem Hp.toEnd {w0 w : World} {ol r : OL} {x : HE} (h : Hp w0 w (x :: ol)) (hr : snocO ol x = some r) : Hp w0 w r := by
  rw [snocO_eq hr]
  exact h.perm (List.perm_append_comm (l₁ := [x]))
section
variable {P : Program} {n : Nat} {w0 : World} {all : Array Oper} {os : List Oper} {o : Oper} {l : FL} {ol : OL} {K : FL → OL → Prop} {Q : Post} {d : Nat}
/-- A callee that turns nothing, and of whose answer something is said: told last. -/
theorem S_callZ (p : Vp) (A : Nat → Prop) {f : FuncId} {vs : List Value} (hs : callAt? n all (look l) o = some (d, f, vs)) (hcall : ∀ args w, (callFunc f args).run P w = .ok (.enter f args) w)
    (hc : ∀ w, Hp w0 w ol → Calls P f vs.toArray w (fun e w' => ∃ v, e = .returned v ∧ Below w.heap.size w w' ∧ p.at_ w' (BB w0 A ol) v))
    (k : ∀ v F w1, (∀ k, F k → A k ∨ w0.heap.size ≤ k) → p.at_ w1 F v → ∃ ol', snocO ol (.rep (fun w => p.at_ w F v) F false) = some ol' ∧ S P n w0 all os ((d, v) :: l) ol' K Q) : S P n w0 all (o :: os) l ol K Q :=
  S_call hs hcall fun w hh => (hc w hh).mono fun e w' ⟨v, he, hb, hp⟩ => by
    obtain ⟨F, h1, h2, h3⟩ := (hh.ext hb).addV hp
    obtain ⟨ol', g1, g2⟩ := k v F w' h1 h2
    exact ⟨v, ol', he, h3.toEnd g1, g2⟩
theorem S_callXZ {ι : Type} (I : ι → Prop) (p : ι → Vp) (A : Nat → Prop) {f : FuncId} {vs : List Value} (hs : callAt? n all (look l) o = some (d, f, vs)) (hcall : ∀ args w, (callFunc f args).run P w = .ok (.enter f args) w)
    (hc : ∀ w, Hp w0 w ol → Calls P f vs.toArray w (fun e w' => ∃ v i, e = .returned v ∧ Below w.heap.size w w' ∧ I i ∧ (p i).at_ w' (BB w0 A ol) v))
    (k : ∀ i v F w1, I i → (∀ k, F k → A k ∨ w0.heap.size ≤ k) → (p i).at_ w1 F v → ∃ ol', snocO ol (.rep (fun w => (p i).at_ w F v) F false) = some ol' ∧ S P n w0 all os ((d, v) :: l) ol' K Q) : S P n w0 all (o :: os) l ol K Q :=
  S_call hs hcall fun w hh => (hc w hh).mono fun e w' ⟨v, i, he, hb, hi, hp⟩ => by
    obtain ⟨F, h1, h2, h3⟩ := (hh.ext hb).addV hp
    obtain ⟨ol', g1, g2⟩ := k i v F w' hi h1 h2
    exact ⟨v, ol', he, h3.toEnd g1, g2⟩
end
theorem Hp.mapRep {w0 w : World} {o : OL} {p q : Vp} {F : Nat → Prop} {v : Value} (h : Hp w0 w (.rep (fun w => p.at_ w F v) F false :: o)) (hpq : ∀ w, p.at_ w F v → q.at_ w F v) : Hp w0 w (.rep (fun w => q.at_ w F v) F false :: o) := by
  have h0 := h.own _ List.mem_cons_self
  refine h.dropr.more ⟨hpq w h0.1, fun w1 w2 g1 g2 => q.keep g2 fun k hk _ => ⟨g1 k hk, hk⟩, h0.2.2⟩ fun e he hx k hk hk' => ?_
  exact (List.pairwise_cons.1 h.apart).1 e he hx k hk hk'
end Go.Proofs.Ytggnhcgmeibihaa
