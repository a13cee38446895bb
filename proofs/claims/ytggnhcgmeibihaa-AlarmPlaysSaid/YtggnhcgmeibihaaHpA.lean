/-
  Methods called through an interface value; objects that a callee turns. No program's text; conditions: each theorem's own.
-/
import Derived.Test.YtggnhcgmeibihaaEngV
namespace Go.Proofs.Ytggnhcgmeibihaa
open Go Go.RowKit
set_option linter.unusedVariables false

/-- A value's method, by name: it is found, and what its call does. -/
def Meth (P : Program) (iv : Value) (name : String) (vs : List Value) (w : World) (Q : Ending → World → Prop) : Prop :=
  ∃ g as, (callMethod iv name vs.toArray).run P w = .ok (.enter g as) w ∧ Calls P g as w Q
theorem Meth.mono {P : Program} {iv : Value} {name : String} {vs : List Value} {w : World} {Q R : Ending → World → Prop} (h : Meth P iv name vs w Q) (hq : ∀ e w', Q e w' → R e w') : Meth P iv name vs w R := by
  obtain ⟨g, as, h1, h2⟩ := h
  exact ⟨g, as, h1, h2.mono hq⟩

theorem Hp.graftT {w0 w w' : World} {ol ol' : OL} (i : Nat) {Φ Ψ : World → Prop} {F F' : Nat → Prop} (hh : Hp w0 w ol) (hi : getE ol i = some (.rep Φ F true)) (h2 : Hp w w' [.rep Ψ F' true]) (hF : ∀ k, F k → F' k) (hF' : ∀ k, F' k → F k ∨ w.heap.size ≤ k)
    (hput : putE ol i (.rep Ψ F' true) = some ol') : Hp w0 w' ol' := by
  obtain ⟨pre, post, e1, e2⟩ := putE_eq hi hput
  rw [e1] at hh
  rw [e2]
  refine hh.turn (x' := .rep Ψ F' true) rfl h2.os h2.tape h2.output h2.size (fun j hj hne => h2.old j hj fun e he _ hk => ?_) (h2.own _ List.mem_cons_self) hF' (fun k hk => .inr (hF k hk))
  rw [List.mem_singleton] at he
  subst he
  rcases hF' j hk with h | h
  · exact hne h
  · omega
/-- One object that is turned. -/
theorem Hp.startO {w : World} {p : Vp} {v : Value} {F : Nat → Prop} (hv : p.at_ w F v) (hF : ∀ k, F k → k < w.heap.size) : Hp w w [.rep (fun w => p.at_ w F v) F true] :=
  (Hp.refl w).more ⟨hv, fun w1 w2 h1 h2 => p.keep h2 fun k hk _ => ⟨h1 k hk, hk⟩, hF⟩ fun e he => (by cases he)

section
variable {P : Program} {n : Nat} {w0 : World} {all : Array Oper} {os : List Oper} {o : Oper} {l : FL} {ol : OL} {K : FL → OL → Prop} {Q : Post} {d : Nat}
theorem S_inv {x : Operand} {name : String} {as : Array Operand} {ts : Array TypeId} {iv : Value} {vs : List Value} (hs : opAt? n all (look l) o = some (d, .call ⟨.invoke x name, as, ts⟩)) (hx : ev (look l) x = some iv) (ha : evs (look l) as.toList = some vs)
    (hc : ∀ w, Hp w0 w ol → Meth P iv name vs w (fun e w' => ∃ v ol', e = .returned v ∧ Hp w0 w' ol' ∧ S P n w0 all os ((d, v) :: l) ol' K Q)) : S P n w0 all (o :: os) l ol K Q := by
  obtain ⟨hdst, hlt, hg, hop⟩ := opAt_spec hs
  refine ⟨fun a w hfr hh => ?_⟩
  have hm : as.map a.eval = vs.toArray := by
    apply Array.ext'
    simpa using hfr.rd.evs ha
  obtain ⟨g, as', hcall, hcs⟩ := hc w hh
  have hr : (execOp a.eval o).run P w = .ok (.enter g as') w := by
    unfold execOp
    simp [hop, resolve, hfr.rd.ev hx, invoke, hm]
    exact hcall
  unfold wpList
  rw [if_pos (gd_wanted hfr.rd hg)]
  left
  simp only [Oper.wp, hr, Oper.upon]
  refine hcs.mono ?_
  rintro e w' ⟨v, ol', rfl, hh', k⟩
  show wpList P all _ os (a.put o.dst v) w'
  rw [hdst]
  exact k.out _ _ (hfr.put hlt _) hh'
theorem S_invq {x : Operand} {name : String} {as : Array Operand} {ts : Array TypeId} {iv v : Value} {vs : List Value} (hs : opAt? n all (look l) o = some (d, .call ⟨.invoke x name, as, ts⟩)) (hx : ev (look l) x = some iv) (ha : evs (look l) as.toList = some vs)
    (hc : ∀ w, Hp w0 w ol → Meth P iv name vs w (fun e w' => e = .returned v ∧ Below w.heap.size w w')) (k : S P n w0 all os ((d, v) :: l) ol K Q) : S P n w0 all (o :: os) l ol K Q :=
  S_inv hs hx ha fun w hh => (hc w hh).mono fun e w' ⟨he, hb⟩ => ⟨v, ol, he, hh.ext hb, k⟩
theorem S_invT (i : Nat) {x : Operand} {name : String} {as : Array Operand} {ts : Array TypeId} {iv : Value} {vs : List Value} {Φ : World → Prop} {F : Nat → Prop} (hs : opAt? n all (look l) o = some (d, .call ⟨.invoke x name, as, ts⟩)) (hx : ev (look l) x = some iv) (ha : evs (look l) as.toList = some vs) (hi : getE ol i = some (.rep Φ F true))
    (hc : ∀ w, Hp w0 w ol → Meth P iv name vs w (fun e w' => ∃ v Ψ F', e = .returned v ∧ Hp w w' [.rep Ψ F' true] ∧ (∀ k, F k → F' k) ∧ (∀ k, F' k → F k ∨ w.heap.size ≤ k) ∧ ∃ ol', putE ol i (.rep Ψ F' true) = some ol' ∧ S P n w0 all os ((d, v) :: l) ol' K Q)) : S P n w0 all (o :: os) l ol K Q :=
  S_inv hs hx ha fun w hh => (hc w hh).mono fun e w' ⟨v, Ψ, F', he, h2, g1, g2, ol', hput, k⟩ => ⟨v, ol', he, hh.graftT i hi h2 g1 g2 hput, k⟩
theorem S_callT (i : Nat) {f : FuncId} {vs : List Value} {Φ : World → Prop} {F : Nat → Prop} (hs : callAt? n all (look l) o = some (d, f, vs)) (hcall : ∀ args w, (callFunc f args).run P w = .ok (.enter f args) w) (hi : getE ol i = some (.rep Φ F true))
    (hc : ∀ w, Hp w0 w ol → Calls P f vs.toArray w (fun e w' => ∃ v Ψ F', e = .returned v ∧ Hp w w' [.rep Ψ F' true] ∧ (∀ k, F k → F' k) ∧ (∀ k, F' k → F k ∨ w.heap.size ≤ k) ∧ ∃ ol', putE ol i (.rep Ψ F' true) = some ol' ∧ S P n w0 all os ((d, v) :: l) ol' K Q)) : S P n w0 all (o :: os) l ol K Q :=
  S_call hs hcall fun w hh => (hc w hh).mono fun e w' ⟨v, Ψ, F', he, h2, g1, g2, ol', hput, k⟩ => ⟨v, ol', he, hh.graftT i hi h2 g1 g2 hput, k⟩
end

/-- What a value of sort.Interface's kind is: a state, its length, its order, its swap; each method's call. -/
structure HOb (P : Program) (iv : Value) (St : Type) where
  p : St → Vp
  len : St → Nat
  lt : St → Nat → Nat → Bool
  sw : St → Nat → Nat → St
  lenSw : ∀ s i j, len (sw s i j) = len s
  hle : ∀ {s w F}, (p s).at_ w F (.bool true) → len s ≤ 1073741824
  hlen : ∀ {s w F}, (p s).at_ w F (.bool true) → Meth P iv "Len" [] w fun e w' => e = .returned (.int .i64 (len s : Int)) ∧ Below w.heap.size w w'
  hlt : ∀ {s w F} {i j : Nat}, (p s).at_ w F (.bool true) → i < len s → j < len s → Meth P iv "Less" [.int .i64 (i : Int), .int .i64 (j : Int)] w fun e w' => e = .returned (.bool (lt s i j)) ∧ Below w.heap.size w w'
  hsw : ∀ {s w F} {i j : Nat}, (p s).at_ w F (.bool true) → (∀ k, F k → k < w.heap.size) → i < len s → j < len s → Meth P iv "Swap" [.int .i64 (i : Int), .int .i64 (j : Int)] w fun e w' => e = .returned (.tuple #[]) ∧ Hp w w' [.rep (fun w => (p (sw s i j)).at_ w F (.bool true)) F true]

section
variable {P : Program} {iv : Value} {St : Type} (O : HOb P iv St)
/-- the lesser child -/
def HOb.ch (n : Nat) (s : St) (i : Nat) : Nat := if 2 * i + 2 < n ∧ O.lt s (2 * i + 2) (2 * i + 1) = true then 2 * i + 2 else 2 * i + 1
def HOb.dn (n : Nat) : Nat → St → Nat → St × Nat
  | 0, s, i => (s, i)
  | f + 1, s, i => if n ≤ 2 * i + 1 then (s, i) else if O.lt s (O.ch n s i) i = true then HOb.dn n f (O.sw s i (O.ch n s i)) (O.ch n s i) else (s, i)
def HOb.up : Nat → St → Nat → St
  | 0, s, j => s
  | f + 1, s, j => if (j - 1) / 2 = j then s else if O.lt s j ((j - 1) / 2) = true then HOb.up f (O.sw s ((j - 1) / 2) j) ((j - 1) / 2) else s
theorem HOb.ch_lt {n : Nat} {s : St} {i : Nat} (h : 2 * i + 1 < n) : O.ch n s i < n ∧ i < O.ch n s i := by
  unfold HOb.ch
  split <;> omega
theorem HOb.dn_len (n : Nat) : ∀ (f : Nat) (s : St) (i : Nat), O.len (O.dn n f s i).1 = O.len s
  | 0, s, i => rfl
  | f + 1, s, i => by
    unfold HOb.dn
    split
    · rfl
    · split
      · rw [HOb.dn_len n f, O.lenSw]
      · rfl
theorem HOb.up_len : ∀ (f : Nat) (s : St) (j : Nat), O.len (O.up f s j) = O.len s
  | 0, s, j => rfl
  | f + 1, s, j => by
    unfold HOb.up
    split
    · rfl
    · split
      · rw [HOb.up_len f, O.lenSw]
      · rfl
end
section
variable {P : Program} {iv : Value} {St : Type} (O : HOb P iv St)
theorem HOb.hltI {s : St} {w : World} {F : Nat → Prop} {x y : Int} (i j : Nat) (h : (O.p s).at_ w F (.bool true)) (hx : x = (i : Int)) (hy : y = (j : Int)) (hi : i < O.len s) (hj : j < O.len s) : Meth P iv "Less" [.int .i64 x, .int .i64 y] w fun e w' => e = .returned (.bool (O.lt s i j)) ∧ Below w.heap.size w w' := by
  subst hx
  subst hy
  exact O.hlt h hi hj
theorem HOb.hswI {s : St} {w : World} {F : Nat → Prop} {x y : Int} (i j : Nat) (h : (O.p s).at_ w F (.bool true)) (hF : ∀ k, F k → k < w.heap.size) (hx : x = (i : Int)) (hy : y = (j : Int)) (hi : i < O.len s) (hj : j < O.len s) : Meth P iv "Swap" [.int .i64 x, .int .i64 y] w fun e w' => e = .returned (.tuple #[]) ∧ Hp w w' [.rep (fun w => (O.p (O.sw s i j)).at_ w F (.bool true)) F true] := by
  subst hx
  subst hy
  exact O.hsw h hF hi hj
end
end Go.Proofs.Ytggnhcgmeibihaa
