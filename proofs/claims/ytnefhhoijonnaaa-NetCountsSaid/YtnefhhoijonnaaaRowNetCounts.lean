/-
  The row of the law NetCounts: for every input the call returns true, and each argument reads behind it as it read before. No condition.
-/
import Derived.Test.YtnefhhoijonnaaaRows
import Derived.Test.YtnefhhoijonnaaaAr
import Derived.Test.YtnefhhoijonnaaaNy
namespace Go.Proofs.Ytnefhhoijonnaaa.netCounts
open Go Go.ChangeShapes Go.WideShapes Go.ChangeAt Go.RowKit
set_option linter.unusedVariables false

theorem own : ownKnob Try.prog.godebug = none := by kernel_rfl
theorem laidOut : laidOutB Try.prog = true := by kernel_rfl

set_option maxRecDepth 100000 in
theorem lifted (os : Os) (started : os.Started) (H : Type) (enc : TypeId × Value → H) :
    ReturnsInHanded {} Try.checked os 13 .any (Rows.netCountsSpec.pre6 enc Try.prog Try.f13 Rows.netCountsRow.domain false) (Rows.netCountsSpec.post enc Try.prog Try.f13 false true false false) := by
  refine returnsInHanded_of_change (C := Try.checked) own started (by kernel_rfl) Try.func13
    (ChangeSpec.witness6 (enc := enc) (C := Try.checked) false ⟨#[], #[(Try.t63.zero.getD undef)], []⟩ 8 (by kernel_rfl) (by kernel_rfl) (by kernel_rfl) (by kernel_rfl)) ?_
  intro W base args ds gs before hval0 hW hcnd _
  have hval : ∀ (j : Nat) t v, Try.f13.params[j]? = some t → args[j]? = some v → Value.okWide Try.prog W .any base t v := hval0
  have hW' := hW
  obtain ⟨p, q, hA0, hV, rfl, hfz, hnd⟩ := hW
  have hA : DataW.TrodAll enc Try.prog W 0 (fun _ => true) true Try.f13.params.toList args.toList ds p := hA0
  rw [Try.params13] at hA hval
  obtain ⟨v0, vs0, d0, ds0, p0, q0, hargs, rfl, rfl, h0, r0⟩ := trodAll_cons hA
  obtain ⟨rfl, rfl, rfl⟩ := trodAll_nil r0
  obtain rfl : args = #[v0] := by cases args; simp_all
  obtain ⟨rfl, rfl⟩ := trodVars_none hV
  have k0 := h0
  have lt0 : ∀ x ∈ p0, x.block < W.heap.size := by obtain ⟨m, hm⟩ := k0; exact DataW.trod_lt m _ _ _ hm
  obtain ⟨x0, w0⟩ := opv_slice Try.underlying63 (opc_slice Try.underlying63 (by kernel_rfl) (by decide) (opc_struct Try.underlying73 (by kernel_rfl) (opf_cons (opc_int Try.underlying5 (by kernel_rfl)) rfl (opf_cons (opc_struct Try.underlying71 (by kernel_rfl) (opf_cons (opc_int Try.underlying3 (by kernel_rfl)) rfl (opf_one (opc_slice Try.underlying37 (by kernel_rfl) (by decide) (opc_int Try.underlying5 (by kernel_rfl))) rfl))) rfl (opf_cons (opc_int Try.underlying3 (by kernel_rfl)) rfl (opf_cons (opc_int Try.underlying3 (by kernel_rfl)) rfl (opf_one (opc_int Try.underlying5 (by kernel_rfl)) rfl))))))) (hval 0 63 v0 rfl rfl) k0
  clear hA0 hval0
  refine (netCounts_walk v0 x0 W w0).mono fun e W' ⟨he, bel⟩ => ?_
  subst he
  exact ⟨_, rfl, _, _, _, [], _, [], hW', trodAll_mk1 (shut_bool Try.underlying4 _), (trodAll_cons_mk (Below.trod laidOut (by kernel_rfl) (of_decide_eq_true (by kernel_rfl)) h0 bel lt0) trodAll_mk0), rfl, bel.frame _, fun h => by cases h⟩

theorem proved : Rows.NetCountsSaid :=
  OpenClaim.holds_of_wide 13 Try.f13 rfl rfl rfl rfl rfl rfl rfl ⟨rfl, rfl, rfl, rfl, rfl⟩ rfl rfl rfl rfl rfl (by kernel_rfl) Try.func13 (by kernel_rfl)
    (of_decide_eq_true (by kernel_rfl)) (by unfold Func.isWrapper; rw [if_neg (of_decide_eq_false (by kernel_rfl))]; exact ⟨rfl, rfl⟩)
    (fun os started H enc _ => lifted os started H enc)
end Go.Proofs.Ytnefhhoijonnaaa.netCounts
