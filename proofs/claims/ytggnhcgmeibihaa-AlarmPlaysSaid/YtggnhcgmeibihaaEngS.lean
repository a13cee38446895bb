/-
  An engine of rules for walks, part S: entries that are new, or shared, may be forgotten. No program's text; conditions: each theorem's own.
-/
import Derived.Test.YtggnhcgmeibihaaEngL
namespace Go.Proofs.Ytggnhcgmeibihaa
open Go Go.RowKit
set_option linter.unusedVariables false

inductive Less (w0 : World) : OL → OL → Prop
  | nil : Less w0 [] []
  | keep {e : HE} {o' o : OL} : Less w0 o' o → Less w0 (e :: o') (e :: o)
  | dropB {b : Nat} {x : Obj} {r : Bool} {o' o : OL} : w0.heap.size ≤ b → Less w0 o' o → Less w0 o' (.blk b x r :: o)
  | dropR {Φ : World → Prop} {F : Nat → Prop} {o' o : OL} : Less w0 o' o → Less w0 o' (.rep Φ F false :: o)
  | dropW {base : Nat} {v : Value} {e : TypeId} {sz n : Nat} {xs : List Value} {o' o : OL} : w0.heap.size ≤ base → Less w0 o' o → Less w0 o' (.row base v e sz n xs :: o)
theorem Less.sub {w0 : World} {o' o : OL} (h : Less w0 o' o) : o'.Sublist o := by
  induction h with
  | nil => exact List.Sublist.slnil
  | keep _ ih => exact ih.cons_cons _
  | dropB _ _ ih => exact ih.cons _
  | dropR _ ih => exact ih.cons _
  | dropW _ _ ih => exact ih.cons _
theorem Less.new {w0 w : World} {o' o : OL} (h : Less w0 o' o) (ho : ∀ e ∈ o, e.holds w) : ∀ e ∈ o, e ∈ o' ∨ (e.ex = true → ∀ k, e.has k → w0.heap.size ≤ k) := by
  induction h with
  | nil => exact fun e he => (by cases he)
  | keep _ ih =>
    intro e he
    rcases List.mem_cons.1 he with rfl | he
    · exact .inl List.mem_cons_self
    · exact (ih (fun e he => ho e (List.mem_cons_of_mem _ he)) e he).imp (List.mem_cons_of_mem _) id
  | dropB hb _ ih =>
    intro e he
    rcases List.mem_cons.1 he with rfl | he
    · exact .inr fun _ k hk => by simp only [HE.has, Option.some.injEq] at hk; omega
    · exact ih (fun e he => ho e (List.mem_cons_of_mem _ he)) e he
  | dropR _ ih =>
    intro e he
    rcases List.mem_cons.1 he with rfl | he
    · exact .inr fun hx => (by cases hx)
    · exact ih (fun e he => ho e (List.mem_cons_of_mem _ he)) e he
  | dropW hb _ ih =>
    intro e he
    rcases List.mem_cons.1 he with rfl | he
    · exact .inr fun _ k hk => Nat.le_trans hb (World.ownsRow.lt (ho _ List.mem_cons_self) k hk).1
    · exact ih (fun e he => ho e (List.mem_cons_of_mem _ he)) e he
theorem Hp.less {w0 w : World} {o' o : OL} (h : Hp w0 w o) (hl : Less w0 o' o) : Hp w0 w o' :=
  ⟨h.os, h.tape, h.output, h.size, fun k hk hk' => h.old k hk fun e he hx hh => by
    rcases hl.new h.own e he with h1 | h1
    · exact hk' e h1 hx hh
    · have := h1 hx k hh
      omega, fun e he => h.own e (hl.sub.subset he), h.apart.sublist hl.sub⟩

/-- A call that turns one block of the caller's and answers what has a row of its own. -/
theorem Hp.graft1 {w0 w w' : World} {pre post : OL} {b : Nat} {x y : Obj} (h : Hp w0 w (pre ++ .blk b x true :: post)) (h2 : Hp w w' [.blk b y true]) : Hp w0 w' (pre ++ .blk b y true :: post) :=
  h.turn (x' := .blk b y true) rfl h2.os h2.tape h2.output h2.size (fun j hj hne => h2.old j hj (fun e he => by rw [List.mem_singleton] at he; subst he; exact fun _ => hne)) (h2.own _ List.mem_cons_self) (fun k hk => .inl hk) (fun k hk => .inr hk)
theorem Hp.graftR {w0 w w' : World} {ol ol' : OL} (i : Nat) {b : Nat} {x y : Obj} {v : Value} {E : TypeId} {sz m : Nat} {xs : List Value} (hh : Hp w0 w ol) (hi : getE ol i = some (.blk b x true)) (h2 : Hp w w' [.row w.heap.size v E sz m xs, .blk b y true]) (hput : putE ol i (.blk b y true) = some ol') :
    Hp w0 w' (.row w0.heap.size v E sz m xs :: ol') := by
  obtain ⟨pre, post, e1, e2⟩ := putE_eq hi hput
  rw [e1] at hh
  rw [e2]
  have hrow : w'.ownsRow w.heap.size E sz v m xs := h2.own _ List.mem_cons_self
  have hid : ∀ k, (HE.row w.heap.size v E sz m xs).has k → w.heap.size ≤ k := fun k hk => (World.ownsRow.lt hrow k hk).1
  have h3 := hh.graft1 (h2.drop fun _ => hid)
  refine h3.more (x := .row w0.heap.size v E sz m xs) (own_rebase hrow hh.size) fun e he _ k hk hk' => ?_
  have h4 := hid k hk
  have h5 : k < w.heap.size := by
    rcases List.mem_append.1 he with he | he
    · exact hh.lt (List.mem_append.2 (.inl he)) hk'
    · rcases List.mem_cons.1 he with rfl | he
      · exact hh.lt (e := .blk b x true) (List.mem_append.2 (.inr List.mem_cons_self)) hk'
      · exact hh.lt (List.mem_append.2 (.inr (List.mem_cons_of_mem _ he))) hk'
  omega
section
variable {P : Program} {n : Nat} {w0 : World} {all : Array Oper} {os : List Oper} {o : Oper} {l : FL} {ol : OL} {K : FL → OL → Prop} {Q : Post}
theorem S_callobjR (i : Nat) {d b : Nat} {f : FuncId} {vs : List Value} {x : Obj} (hs : callAt? n all (look l) o = some (d, f, vs)) (hcall : ∀ args w, (callFunc f args).run P w = .ok (.enter f args) w) (hi : getE ol i = some (.blk b x true))
    (hc : ∀ w, Hp w0 w ol → Calls P f vs.toArray w (fun e w' => ∃ v u y E sz m xs, e = .returned v ∧ Hp w w' [.row w.heap.size u E sz m xs, .blk b y true] ∧ ∃ ol', putE ol i (.blk b y true) = some ol' ∧ S P n w0 all os ((d, v) :: l) (.row w0.heap.size u E sz m xs :: ol') K Q)) : S P n w0 all (o :: os) l ol K Q :=
  S_call hs hcall fun w hh => (hc w hh).mono fun e w' ⟨v, u, y, E, sz, m, xs, he, h2, ol', hput, k⟩ => ⟨v, _, he, hh.graftR i hi h2 hput, k⟩
end
/-- One block that is turned, and a slice that is read. -/
theorem Hp.startV {w : World} {b : Nat} {x : Obj} {p : Vp} {A : Nat → Prop} {v : Value} (hb : w.heap[b]? = some x) (hv : p.at_ w A v) (ha : ¬ A b) : ∃ F : Nat → Prop, (∀ k, F k → A k) ∧ Hp w w [.blk b x true, .rep (fun w => p.at_ w F v) F false] := by
  obtain ⟨F, hF0⟩ : ∃ F : Nat → Prop, F = fun k => A k ∧ k < w.heap.size := ⟨_, rfl⟩
  have hF : p.at_ w F v := p.keep hv fun k hk hlt => ⟨rfl, by rw [hF0]; exact ⟨hk, hlt⟩⟩
  have h1 : Hp w w [.rep (fun w => p.at_ w F v) F false] :=
    (Hp.refl w).more ⟨hF, fun w1 w2 h1 h2 => p.keep h2 fun k hk _ => ⟨h1 k hk, hk⟩, fun k hk => by rw [hF0] at hk; exact hk.2⟩ fun e he => (by cases he)
  refine ⟨F, fun k hk => by rw [hF0] at hk; exact hk.1, h1.more (x := .blk b x true) hb fun e he _ k hk hk' => ?_⟩
  rw [List.mem_singleton] at he
  subst he
  simp only [HE.has, Option.some.injEq] at hk
  subst hk
  have hk2 : F b := hk'
  rw [hF0] at hk2
  exact ha hk2.1
end Go.Proofs.Ytggnhcgmeibihaa
