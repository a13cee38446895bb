/-
  The row of the law BoardPlays: for every input the call returns true, and each argument reads behind it as it read before. No condition.
-/
import Derived.Test.YtidhpofcofknhaaRows
import Derived.Test.YtidhpofcofknhaaAr
import Derived.Test.YtidhpofcofknhaaBoQ
namespace Go.Proofs.Ytidhpofcofknhaa.boardPlays
open Go Go.ChangeShapes Go.WideShapes Go.ChangeAt Go.RowKit
set_option linter.unusedVariables false

theorem own : ownKnob Try.prog.godebug = none := by kernel_rfl
theorem laidOut : laidOutB Try.prog = true := by kernel_rfl

set_option maxRecDepth 100000 in
theorem lifted (os : Os) (started : os.Started) (H : Type) (enc : TypeId × Value → H) :
    ReturnsInHanded {} Try.checked os 3 .any (Rows.boardPlaysSpec.pre6 enc Try.prog Try.f3 Rows.boardPlaysRow.domain false) (Rows.boardPlaysSpec.post enc Try.prog Try.f3 false true false false) := by
  refine returnsInHanded_of_change (C := Try.checked) own started (by kernel_rfl) Try.func3
    (ChangeSpec.witness6 (enc := enc) (C := Try.checked) false ⟨#[], #[(Try.t22.zero.getD undef), (Try.t22.zero.getD undef), (Try.t23.zero.getD undef)], []⟩ 8 (by kernel_rfl) (by kernel_rfl) (by kernel_rfl) (by kernel_rfl)) ?_
  intro W base args ds gs before hval0 hW hcnd _
  have hval : ∀ (j : Nat) t v, Try.f3.params[j]? = some t → args[j]? = some v → Value.okWide Try.prog W .any base t v := hval0
  have hW' := hW
  obtain ⟨p, q, hA0, hV, rfl, hfz, hnd⟩ := hW
  have hA : DataW.TrodAll enc Try.prog W 0 (fun _ => true) true Try.f3.params.toList args.toList ds p := hA0
  rw [Try.params3] at hA hval
  obtain ⟨v0, vs0, d0, ds0, p0, q0, hargs, rfl, rfl, h0, r0⟩ := trodAll_cons hA
  obtain ⟨v1, vs1, d1, ds1, p1, q1, rfl, rfl, rfl, h1, r1⟩ := trodAll_cons r0
  obtain ⟨v2, vs2, d2, ds2, p2, q2, rfl, rfl, rfl, h2, r2⟩ := trodAll_cons r1
  obtain ⟨rfl, rfl, rfl⟩ := trodAll_nil r2
  obtain rfl : args = #[v0, v1, v2] := by cases args; simp_all
  obtain ⟨rfl, rfl⟩ := trodVars_none hV
  have k0 := h0
  have lt0 : ∀ x ∈ p0, x.block < W.heap.size := by obtain ⟨m, hm⟩ := k0; exact DataW.trod_lt m _ _ _ hm
  have k1 := h1
  have lt1 : ∀ x ∈ p1, x.block < W.heap.size := by obtain ⟨m, hm⟩ := k1; exact DataW.trod_lt m _ _ _ hm
  have k2 := h2
  have lt2 : ∀ x ∈ p2, x.block < W.heap.size := by obtain ⟨m, hm⟩ := k2; exact DataW.trod_lt m _ _ _ hm
  obtain ⟨x0, rfl, w0⟩ := arg_int Try.underlying22 (hval 0 22 v0 rfl rfl) k0
  obtain ⟨x1, rfl, w1⟩ := arg_int Try.underlying22 (hval 1 22 v1 rfl rfl) k1
  obtain ⟨x2, w2⟩ := opv_slice Try.underlying23 (opc_slice Try.underlying23 (by kernel_rfl) (by decide) (opc_struct Try.underlying40 (by kernel_rfl) (opf_cons (opc_int Try.underlying5 (by kernel_rfl)) rfl (opf_cons (opc_int Try.underlying5 (by kernel_rfl)) rfl (opf_cons (opc_slice Try.underlying37 (by kernel_rfl) (by decide) (opc_int Try.underlying34 (by kernel_rfl))) rfl (opf_one (opc_slice Try.underlying38 (by kernel_rfl) (by decide) (opc_struct Try.underlying47 (by kernel_rfl) (opf_cons (opc_int Try.underlying34 (by kernel_rfl)) rfl (opf_one (opc_int Try.underlying34 (by kernel_rfl)) rfl)))) rfl)))))) (hval 2 23 v2 rfl rfl) k2
  clear hA0 hval0
  refine (boardPlays_walk x0 x1 v2 x2 W w0 w1 w2).mono fun e W' ⟨he, bel⟩ => ?_
  subst he
  exact ⟨_, rfl, _, _, _, [], _, [], hW', trodAll_mk1 (shut_bool Try.underlying4 _), (trodAll_cons_mk (Below.trod laidOut (by kernel_rfl) (of_decide_eq_true (by kernel_rfl)) h0 bel lt0) (trodAll_cons_mk (Below.trod laidOut (by kernel_rfl) (of_decide_eq_true (by kernel_rfl)) h1 bel lt1) (trodAll_cons_mk (Below.trod laidOut (by kernel_rfl) (of_decide_eq_true (by kernel_rfl)) h2 bel lt2) trodAll_mk0))), rfl, bel.frame _, fun h => by cases h⟩

theorem proved : Rows.BoardPlaysSaid :=
  OpenClaim.holds_of_wide 3 Try.f3 rfl rfl rfl rfl rfl rfl rfl ⟨rfl, rfl, rfl, rfl, rfl⟩ rfl rfl rfl rfl rfl (by kernel_rfl) Try.func3 (by kernel_rfl)
    (of_decide_eq_true (by kernel_rfl)) (by unfold Func.isWrapper; rw [if_neg (of_decide_eq_false (by kernel_rfl))]; exact ⟨rfl, rfl⟩)
    (fun os started H enc _ => lifted os started H enc)
end Go.Proofs.Ytidhpofcofknhaa.boardPlays
