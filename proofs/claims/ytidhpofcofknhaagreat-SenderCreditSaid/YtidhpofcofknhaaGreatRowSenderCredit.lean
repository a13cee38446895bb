/-
  The row of the law SenderCredit: for every input the call returns true, and each argument reads behind it as it read before. No condition.
-/
import Derived.Test.YtidhpofcofknhaaGreatRows
import Derived.Test.YtidhpofcofknhaaGreatAr
import Derived.Test.YtidhpofcofknhaaGreatSz
namespace Go.Proofs.YtidhpofcofknhaaGreat.senderCredit
open Go Go.ChangeShapes Go.WideShapes Go.ChangeAt Go.RowKit
set_option linter.unusedVariables false
theorem own:ownKnob Tryz.prog.godebug=none:=by kernel_rfl
theorem laidOut:laidOutB Tryz.prog=true:=by kernel_rfl
set_option maxRecDepth 100000 in
theorem lifted (os:Os) (started:os.Started) (H:Type) (enc:TypeId × Value->H):
 ReturnsInHanded {} Tryz.checked os 5 .any (Rows.senderCreditSpec.pre6 enc Tryz.prog Tryz.f5 Rows.senderCreditRow.domain false) (Rows.senderCreditSpec.post enc Tryz.prog Tryz.f5 false true false false):=by
 refine returnsInHanded_of_change (C:=Tryz.checked) own started (by kernel_rfl) Tryz.func5
  (ChangeSpec.witness6 (enc:=enc) (C:=Tryz.checked) false ⟨#[],#[(Tryz.t22.zero.getD undef),(Tryz.t22.zero.getD undef),(Tryz.t5.zero.getD undef),(Tryz.t5.zero.getD undef),(Tryz.t23.zero.getD undef)],[]⟩ 8 (by kernel_rfl) (by kernel_rfl) (by kernel_rfl) (by kernel_rfl)) ?_
 intro W base args ds gs before hval0 hW hcnd _;have hval:∀ (j:Nat) t v,Tryz.f5.params[j]? =some t->args[j]? =some v->Value.okWide Tryz.prog W .any base t v:=hval0;have hW':=hW;obtain ⟨p,q,hA0,hV,rfl,hfz,hnd⟩:=hW;have hA:DataW.TrodAll enc Tryz.prog W 0 (fun _=>true) true Tryz.f5.params.toList args.toList ds p:=hA0;rw [Tryz.params5] at hA hval;obtain ⟨v0,vs0,d0,ds0,p0,q0,hargs,rfl,rfl,h0,r0⟩:=trodAll_cons hA;obtain ⟨v1,vs1,d1,ds1,p1,q1,rfl,rfl,rfl,h1,r1⟩:=trodAll_cons r0;obtain ⟨v2,vs2,d2,ds2,p2,q2,rfl,rfl,rfl,h2,r2⟩:=trodAll_cons r1;obtain ⟨v3,vs3,d3,ds3,p3,q3,rfl,rfl,rfl,h3,r3⟩:=trodAll_cons r2;obtain ⟨v4,vs4,d4,ds4,p4,q4,rfl,rfl,rfl,h4,r4⟩:=trodAll_cons r3;obtain ⟨rfl,rfl,rfl⟩:=trodAll_nil r4
 obtain rfl:args= #[v0,v1,v2,v3,v4]:=by cases args;simp_all
 obtain ⟨rfl,rfl⟩:=trodVars_none hV;have k0:=h0
 have lt0:∀ x ∈ p0,x.block < W.heap.size:=by obtain ⟨m,hm⟩:=k0;exact DataW.trod_lt m _ _ _ hm
 have k1:=h1
 have lt1:∀ x ∈ p1,x.block < W.heap.size:=by obtain ⟨m,hm⟩:=k1;exact DataW.trod_lt m _ _ _ hm
 have k2:=h2
 have lt2:∀ x ∈ p2,x.block < W.heap.size:=by obtain ⟨m,hm⟩:=k2;exact DataW.trod_lt m _ _ _ hm
 have k3:=h3
 have lt3:∀ x ∈ p3,x.block < W.heap.size:=by obtain ⟨m,hm⟩:=k3;exact DataW.trod_lt m _ _ _ hm
 have k4:=h4
 have lt4:∀ x ∈ p4,x.block < W.heap.size:=by obtain ⟨m,hm⟩:=k4;exact DataW.trod_lt m _ _ _ hm
 obtain ⟨x0,rfl,w0⟩:=Jq Tryz.underlying22 (hval 0 22 v0 rfl rfl) k0;obtain ⟨x1,rfl,w1⟩:=Jq Tryz.underlying22 (hval 1 22 v1 rfl rfl) k1;obtain ⟨x2,rfl,w2⟩:=Jq Tryz.underlying5 (hval 2 5 v2 rfl rfl) k2;obtain ⟨x3,rfl,w3⟩:=Jq Tryz.underlying5 (hval 3 5 v3 rfl rfl) k3
 obtain ⟨x4,w4⟩:=Ps Tryz.underlying23 (Fx Tryz.underlying23 (by kernel_rfl) (by decide) (D6 Tryz.underlying38 (by kernel_rfl) (Ce (Cq Tryz.underlying5 (by kernel_rfl)) rfl (Ce (Cq Tryz.underlying5 (by kernel_rfl)) rfl (Ce (D6 Tryz.underlying36 (by kernel_rfl) (Ce (Cq Tryz.underlying5 (by kernel_rfl)) rfl (Ce (Cq Tryz.underlying3 (by kernel_rfl)) rfl (Ce (Cq Tryz.underlying32 (by kernel_rfl)) rfl (Ce (Cq Tryz.underlying32 (by kernel_rfl)) rfl (Ce (Cq Tryz.underlying32 (by kernel_rfl)) rfl (Ce (Cq Tryz.underlying32 (by kernel_rfl)) rfl (Ce (Cq Tryz.underlying32 (by kernel_rfl)) rfl (Ce (Fx Tryz.underlying33 (by kernel_rfl) (by decide) (D6 Tryz.underlying82 (by kernel_rfl) (Ce (Cq Tryz.underlying32 (by kernel_rfl)) rfl (GJ (Cq Tryz.underlying32 (by kernel_rfl)) rfl)))) rfl (GJ (Fx Tryz.underlying34 (by kernel_rfl) (by decide) (D6 Tryz.underlying227 (by kernel_rfl) (Ce (Cq Tryz.underlying32 (by kernel_rfl)) rfl (GJ (D6 Tryz.underlying225 (by kernel_rfl) (Ce (Cq Tryz.underlying3 (by kernel_rfl)) rfl (GJ (Fx Tryz.underlying223 (by kernel_rfl) (by decide) (Cq Tryz.underlying5 (by kernel_rfl))) rfl))) rfl)))) rfl)))))))))) rfl (Ce (Cq Tryz.underlying5 (by kernel_rfl)) rfl (Ce (Cq Tryz.underlying22 (by kernel_rfl)) rfl (GJ (Fx Tryz.underlying33 (by kernel_rfl) (by decide) (D6 Tryz.underlying82 (by kernel_rfl) (Ce (Cq Tryz.underlying32 (by kernel_rfl)) rfl (GJ (Cq Tryz.underlying32 (by kernel_rfl)) rfl)))) rfl)))))))) (hval 4 23 v4 rfl rfl) k4;clear hA0 hval0
 refine (HH x0 x1 x2 x3 v4 x4 W w0 w1 w2 w3 w4).mono fun e W' ⟨he,bel⟩=>?_;subst he;exact ⟨_,rfl,_,_,_,[],_,[],hW',trodAll_mk1 (shut_bool Tryz.underlying4 _),(trodAll_cons_mk (Below.trod laidOut (by kernel_rfl) (of_decide_eq_true (by kernel_rfl)) h0 bel lt0) (trodAll_cons_mk (Below.trod laidOut (by kernel_rfl) (of_decide_eq_true (by kernel_rfl)) h1 bel lt1) (trodAll_cons_mk (Below.trod laidOut (by kernel_rfl) (of_decide_eq_true (by kernel_rfl)) h2 bel lt2) (trodAll_cons_mk (Below.trod laidOut (by kernel_rfl) (of_decide_eq_true (by kernel_rfl)) h3 bel lt3) (trodAll_cons_mk (Below.trod laidOut (by kernel_rfl) (of_decide_eq_true (by kernel_rfl)) h4 bel lt4) trodAll_mk0))))),rfl,bel.frame _,fun h=>by cases h⟩
theorem proved:Rows.SenderCreditSaid:=
 OpenClaim.holds_of_wide 5 Tryz.f5 rfl rfl rfl rfl rfl rfl rfl ⟨rfl,rfl,rfl,rfl,rfl⟩ rfl rfl rfl rfl rfl (by kernel_rfl) Tryz.func5 (by kernel_rfl)
  (of_decide_eq_true (by kernel_rfl)) (by unfold Func.isWrapper;rw [if_neg (of_decide_eq_false (by kernel_rfl))];exact ⟨rfl,rfl⟩)
  (fun os started H enc _=>lifted os started H enc)
end Go.Proofs.YtidhpofcofknhaaGreat.senderCredit
