/-
  A queue's Takes, own, Get. Conditions: each theorem's own.
-/
import Derived.Test.YteogkadjambmkaaQuE
import Derived.Test.YteogkadjambmkaaSh
namespace Go.Proofs.Yteogkadjambmkaa
open Go Go.RowKit
set_option linter.unusedVariables false

theorem ResIs.cellO {P : Program} {tb : Tab} {w0 : World} {l : FL} {o : OL} (ht : TabOk P tb) (i : Nat) {t ty b : Nat} {ti : TI} {cs : List Value} {e : TypeId} {fz : Nat × Nat} {r : Bool} {v : Value} (hl : look l t = some (.pointer (some ⟨b, 0, none⟩))) (hti : tl tb ty = some ti) (hi : getE o i = some (.blk b (.cells ⟨cs⟩ e fz) r)) (hv : loadOf ti cs 0 = some v) : ResIs P w0 l o (.cell t ty) v :=
  ⟨_, hl, fun w hw => loadVar_own ht hti (hw.own _ (getE_mem hi)) hv⟩
/-- a span: its class, its bytes, where they lie -/
structure Sq where
  to : Int
  bs : List Int
  a : Option Addr
  c : Nat
abbrev cellQ (p : Sq) : List Value := [.int .i64 p.to, .slice p.a p.bs.length p.c]
set_option maxHeartbeats 2000000 in
theorem qown_ok {p : Sq} (w : World) (hpi : Ints .u8 w p.a p.bs.length p.c p.bs) (hb : p.bs.length ≤ 70000) : Calls Try.prog 51 #[.agg ⟨cellQ p⟩] w fun e w' => ∃ a c, e = .returned (.agg ⟨cellQ ⟨p.to, p.bs, a, c⟩⟩) ∧ Below w.heap.size w w' ∧ w'.ownsRow w.heap.size 5 1 (.slice a (p.bs).length c) (p.bs).length ((p.bs).map (.int .u8)) := by
  refine enter1 Try.func51 rfl rfl (Hp.refl w) ?_
  repeat (first | refine T_seq ?_ | refine T_region ?_)
  refine S_new tabOk rfl (fun b1 hb1 => ?_)
  skip
  refine S_new tabOk rfl (fun b2 hb2 => ?_)
  repeat (first | refine T_seq ?_ | refine S_nil ?_)
  let lst : Bool → Bool → Bool → Value × (Unit) → Value × (Unit) → OL := fun l4 l5 l6 x4 x5 =>
    .blk b2 (.cells ⟨cond l6 [.int .i64 p.to, x4.1] [.int .i64 0, .slice none 0 0]⟩ 52 (0, 0)) true :: .blk b1 (.cells ⟨cellQ p⟩ 52 (0, 0)) true :: (cond l4 [.row w.heap.size x4.1 5 1 (p.bs).length ((p.bs).map (.int .u8))] [] ++ cond l5 [factE (x5.1 = .agg ⟨[.int .i64 p.to, x4.1]⟩)] [])
  refine T_drawF (γ := Unit) (by kernel_rfl) (by kernel_rfl) () (fun L f => lst (L 4) (L 5) (L 6) (f 4) (f 5)) rfl [some (.pointer (some ⟨b1, 0, none⟩)), some (.int .i64 p.to), some (.pointer (some ⟨b1, 1, none⟩)), some (.slice p.a p.bs.length p.c), none, none, none] ?_ ?_
  · refine ⟨?_, ?_, ?_, ?_, ?_, ?_, ?_, trivial⟩
    · exact fun L f hc hl hp => OpA.told () rfl (D_pure tabOk rfl D_last) rfl
    · intro L f hc hl hp
      have h5 := closed_no hc (j := 5) rfl ⟨1, .data⟩ (by simp) rfl hl
      have h6 := closed_no hc (j := 6) rfl ⟨1, .phase⟩ (by simp) rfl hl
      show OpA _ _ _ _ (lst (L 4) (L 5) (L 6) (f 4) (f 5)) (fun y => lst (L 4) (L 5) (L 6) (f 4) (f 5)) _ _ _
      rw [h5, h6]
      exact OpA.told () rfl (D_load tabOk 1 rfl rfl rfl D_last) rfl
    · exact fun L f hc hl hp => OpA.told () rfl (D_pure tabOk rfl D_last) rfl
    · intro L f hc hl hp
      have h4 := closed_no hc (j := 4) rfl ⟨3, .data⟩ (by simp) rfl hl
      have h5 := closed_no hc (j := 5) rfl ⟨4, .data⟩ (by simp) rfl h4
      have h6 := closed_no hc (j := 6) rfl ⟨3, .phase⟩ (by simp) rfl hl
      show OpA _ _ _ _ (lst (L 4) (L 5) (L 6) (f 4) (f 5)) (fun y => lst (L 4) (L 5) (L 6) (f 4) (f 5)) _ _ _
      rw [h4, h5, h6]
      exact OpA.told () rfl (D_load tabOk 1 rfl rfl rfl D_last) rfl
    · intro L f hc hl hp
      have h5 := closed_no hc (j := 5) rfl ⟨4, .data⟩ (by simp) rfl hl
      have h6 := closed_no hc (j := 6) rfl ⟨4, .chain⟩ (by simp) rfl hl
      show OpA _ _ _ _ (lst (L 4) (L 5) (L 6) (f 4) (f 5)) (fun y => lst true (L 5) (L 6) y (f 5)) _ _ _
      rw [hl, h5, h6]
      refine OpA.callrow rfl Try.call66 (fun w1 vs hw1 h => by
        obtain ⟨u1, _, rfl, rfl, u2, _, rfl, rfl, rfl⟩ := h
        exact clone_ok p.a p.bs.length p.c p.bs w1 (ints_ext hpi (hw1.below (by repeat (first | exact new_nil | refine new_cons (by first | assumption | omega) ?_)))) (by omega)) (fun w1 v hw1 => ⟨(), hw1.perm (by repeat (first | exact List.Perm.refl _ | refine (List.Perm.swap _ _ _).trans (List.Perm.cons _ ?_)))⟩)
    · intro L f hc hl hp
      have h4 : L 4 = true := hp ⟨4, .data⟩ (by simp) rfl
      have h6 := closed_no hc (j := 6) rfl ⟨5, .data⟩ (by simp) rfl hl
      show OpA _ _ _ _ (lst (L 4) (L 5) (L 6) (f 4) (f 5)) (fun y => lst (L 4) true (L 6) (f 4) y) _ _ _
      rw [hl, h4, h6]
      refine OpA.pre (X := ∃ A C, (f 4).1 = .slice A (p.bs).length C) (fun w hw => ?_) (fun d h => by cases h; decide) ?_
      · obtain ⟨A, C, e2, _⟩ := hw.rowForm 2 rfl
        exact ⟨A, C, e2⟩
      · rintro ⟨A', C', e2⟩
        refine OpA.swap (dl' := [(4, .ex (.int .i64 p.to)), (7, .ex (f 4).1)]) (List.forall_mem_cons.2 ⟨rfl, List.forall_mem_cons.2 ⟨rfl, fun _ h => nomatch h⟩⟩) ?_
        generalize f 4 = x4 at *
        obtain ⟨x4, g4⟩ := x4
        dsimp only at e2
        subst e2
        exact OpA.known () rfl (D_q (Q_build tabOk rfl rfl rfl rfl rfl rfl rfl) D_last) (fun w hw => (hw.addF rfl).perm (by repeat (first | exact List.Perm.refl _ | refine (List.Perm.swap _ _ _).trans (List.Perm.cons _ ?_))))
    · intro L f hc hl hp
      have h4 : L 4 = true := hp ⟨4, .chain⟩ (by simp) rfl
      have h5 : L 5 = true := hp ⟨5, .data⟩ (by simp) rfl
      show OpA _ _ _ _ (lst (L 4) (L 5) (L 6) (f 4) (f 5)) (fun y => lst (L 4) (L 5) true (f 4) (f 5)) _ _ _
      rw [hl, h4, h5]
      refine OpA.pre (X := (∃ A C, (f 4).1 = .slice A (p.bs).length C) ∧ (f 5).1 = .agg ⟨[.int .i64 p.to, (f 4).1]⟩) (fun w hw => ?_) (fun d h => by cases h) ?_
      · obtain ⟨A, C, e2, _⟩ := hw.rowForm 2 rfl
        exact ⟨⟨A, C, e2⟩, hw.fact 3 rfl⟩
      · rintro ⟨⟨A', C', e2⟩, e3⟩
        refine OpA.swap (dl' := [(2, .ex (.pointer (some ⟨b2, 0, none⟩))), (8, .ex (f 5).1)]) (List.forall_mem_cons.2 ⟨rfl, List.forall_mem_cons.2 ⟨rfl, fun _ h => nomatch h⟩⟩) ?_
        generalize f 4 = x4 at *
        generalize f 5 = x5 at *
        obtain ⟨x4, g4⟩ := x4
        obtain ⟨x5, g5⟩ := x5
        dsimp only at e2 e3
        subst e2
        subst e3
        exact OpS.toF () (fun u h => by cases h) (OpS.store tabOk 0 rfl rfl (fun u h => by simp only [List.mem_cons, List.not_mem_nil, or_false] at h; rcases h with rfl | rfl <;> rfl) rfl rfl rfl)
  · intro L f w5 hL hw
    change Hp _ _ (lst (L 4) (L 5) (L 6) (f 4) (f 5)) at hw
    rw [hL 4 (by decide), hL 5 (by decide), hL 6 (by decide)] at hw
    obtain ⟨A', C', e2, _⟩ := hw.rowForm 2 rfl
    generalize f 4 = x4 at hw e2 ⊢
    obtain ⟨x4, g4⟩ := x4
    have e3 : x4 = .slice A' (p.bs).length C' := e2
    subst e3
    refine ⟨[(2, .pointer (some ⟨b2, 0, none⟩))], [.blk b2 (.cells ⟨[.int .i64 p.to, .slice A' (p.bs).length C']⟩ 52 (0, 0)) true, .blk b1 (.cells ⟨cellQ p⟩ 52 (0, 0)) true, .row w.heap.size (.slice A' (p.bs).length C') 5 1 (p.bs).length ((p.bs).map (.int .u8)), factE ((f 5).1 = _)], (by repeat (first | exact SubD.nil | refine SubD.cons rfl ?_)), hw, ?_⟩
    repeat (first | refine T_ret ?_)
    exact ret1 rfl (ResIs.cellO tabOk 0 rfl rfl rfl rfl) (fun w' hw => ⟨A', C', rfl, hw.below (by repeat (first | exact new_nil | refine new_ro ?_ | refine new_cons (by first | assumption | omega) ?_ | refine newrow hw 2 rfl (Nat.le_refl _) ?_)), hw.own _ (getE_mem (i := 2) rfl)⟩)
end Go.Proofs.Yteogkadjambmkaa
