/-
  A pair of senders: both are alike. Conditions: each theorem's own.
-/
import Derived.Test.YtidhpofcofknhaaGreatSxH
namespace Go.Proofs.YtidhpofcofknhaaGreat
open Go Go.RowKit
set_option linter.unusedVariables false
theorem Hp.reads {w:World} {o:OL} (h:∀ e ∈ o,e.holds w) (hx:∀ e ∈ o,e.ex=false):Hp w w o:=
 ⟨rfl,rfl,rfl,Nat.le_refl _,fun _ _ _=>rfl,h,by
  induction o with
  |nil=>exact List.Pairwise.nil
  |cons e o ih=>
   exact List.pairwise_cons.2 ⟨(fun e' he hr=>by
    rw [hx e List.mem_cons_self,hx e' (List.mem_cons_of_mem _ he)] at hr
    cases hr),ih (fun e' he=>h e' (List.mem_cons_of_mem _ he)) fun e' he=>hx e' (List.mem_cons_of_mem _ he)⟩⟩
section
variable {w0 w:World} {rest:OL} {pb sb xb qc:Nat} {p:R9} {qa:Option Addr} {F1 F2 Fq:Nat->Prop}
set_option maxHeartbeats 8000000 in
theorem XB (h:Hp w0 w (PL pb sb xb p qa qc F1 F2 Fq ++ rest)):Calls Tryz.prog 22 #[AG pb] w fun e w'=>e= .returned (.bool true)/\Below w.heap.size w w':=by
 obtain ⟨s,ql,last,now⟩:=p;have o0:w.heap[pb]? =some (WP sb xb ⟨s,ql,last,now⟩ qa qc):=h.own _ (Af (i:=0) rfl);have o1:=h.own _ (Af (i:=1) rfl);have o2:=h.own _ (Af (i:=2) rfl);obtain ⟨bb,Fb,_,hst,_⟩:=Jf o2.1 false;obtain ⟨hsok,hbok,hbne⟩:=Oi o2.1;have hbok':CU s.last s.gs:=hbok;have o3:w.heap[xb]? =some (FK bb s):=hst.own _ (Af (i:=0) rfl);have o4:=hst.own _ (Af (i:=1) rfl)
 have hst2:Hp w w [.blk pb (WP sb xb ⟨s,ql,last,now⟩ qa qc) false,.rep (fun w=>(G0 sb s).at_ w F1 (.bool true)) F1 false,.rep (fun w=>(I5 xb s).at_ w F2 (.bool true)) F2 false,.blk xb (FK bb s) false,.rep (fun w=>(DH bb s.f s.m s.gs s.last).at_ w Fb (.bool true)) Fb false]:=Hp.reads (fun e he=>by
  simp only [List.mem_cons,List.not_mem_nil,or_false] at he
  rcases he with rfl |rfl |rfl |rfl |rfl
  ·exact o0
  ·exact o1
  ·exact o2
  ·exact o3
  ·exact o4) (fun e he=>by
  simp only [List.mem_cons,List.not_mem_nil,or_false] at he
  rcases he with rfl |rfl |rfl |rfl |rfl<;>rfl)
 have hlen:=hbok'.len;have hsl:=HB hbok'.nd;refine BL Tryz.func22 rfl rfl hst2 ?_;repeat (first |refine Ai ?_ |refine Ab ?_ |refine Ag ?_ |refine Ae Aa rfl ?_ |refine Ap Aa 0 rfl rfl rfl ?_)
 refine Bo (v:=.tuple #[.int .i64 (UE s),.bool (UF s)]) rfl Tryz.call40 (fun w1 g1=>Sk (g1.own _ (Af (i:=1) rfl)).1) ?_;repeat (first |refine Ai ?_ |refine Ab ?_ |refine Ag ?_ |refine Ae Aa rfl ?_ |refine Ap Aa 0 rfl rfl rfl ?_)
 refine Bo (v:=.tuple #[.int .i64 (UE s),.bool (UF s)]) rfl Tryz.call41 (fun w1 g1=>Sv (g1.own _ (Af (i:=2) rfl)).1) ?_;repeat (first |refine AZ (by kernel_rfl) (by kernel_rfl) ?_ |refine Ah Aa rfl ?_ |refine AD Aa 0 rfl rfl rfl ?_ |refine Ai ?_ |refine Ag ?_ |refine Ae Aa rfl ?_)
 refine Bc (v:=.bool s.op) rfl Tryz.call12 (fun w' vs hw' h=>by
  obtain ⟨u1,_,rfl,rfl,rfl⟩:=h
  exact KI (hw'.own _ (Af (i:=1) rfl)).1) ?_
 repeat (first |refine Ah Aa rfl ?_ |refine AD Aa 0 rfl rfl rfl ?_ |refine AD Aa 3 rfl rfl rfl ?_)
 refine Bv (RT Aa rfl rfl rfl rfl rfl) ?_;repeat (first |refine Ah Aa rfl ?_)
 refine BN 36 (v':=.bool true) rfl (congrArg Value.bool (by simp)) ?_;repeat (first |refine Ah Aa rfl ?_ |refine AD Aa 0 rfl rfl rfl ?_)
 refine Bc (v:=.int .u64 s.ep) rfl Tryz.call42 (fun w' vs hw' h=>by
  obtain ⟨u1,_,rfl,rfl,rfl⟩:=h
  exact P6 (hw'.own _ (Af (i:=1) rfl)).1) ?_
 repeat (first |refine Ah Aa rfl ?_ |refine AD Aa 0 rfl rfl rfl ?_ |refine AD Aa 3 rfl rfl rfl ?_)
 refine BN 51 (v':=.bool true) rfl (congrArg Value.bool (decide_eq_true rfl)) ?_;repeat (first |refine Ah Aa rfl ?_ |refine AD Aa 0 rfl rfl rfl ?_)
 refine Bc (v:=.int .u64 s.inc) rfl Tryz.call14 (fun w' vs hw' h=>by
  obtain ⟨u1,_,rfl,rfl,rfl⟩:=h
  exact UX (hw'.own _ (Af (i:=1) rfl)).1) ?_
 repeat (first |refine Ah Aa rfl ?_ |refine AD Aa 0 rfl rfl rfl ?_ |refine AD Aa 3 rfl rfl rfl ?_)
 refine BN 66 (v':=.bool true) rfl (congrArg Value.bool (decide_eq_true rfl)) ?_;repeat (first |refine Ah Aa rfl ?_ |refine AD Aa 0 rfl rfl rfl ?_)
 refine Bc (v:=.int .u64 s.lim) rfl Tryz.call16 (fun w' vs hw' h=>by
  obtain ⟨u1,_,rfl,rfl,rfl⟩:=h
  exact UW (hw'.own _ (Af (i:=1) rfl)).1) ?_
 repeat (first |refine Ah Aa rfl ?_ |refine AD Aa 0 rfl rfl rfl ?_ |refine AD Aa 3 rfl rfl rfl ?_)
 refine BN 81 (v':=.bool true) rfl (congrArg Value.bool (decide_eq_true rfl)) ?_;repeat (first |refine Ah Aa rfl ?_ |refine AD Aa 0 rfl rfl rfl ?_)
 refine GT (Bs (· ∈ AA s.gs) (AA s.gs).length) (fun _=>False) rfl Tryz.call15 (fun w' vs hw' h=>by
  obtain ⟨u1,_,rfl,rfl,rfl⟩:=h
  exact (O8 (hw'.own _ (Af (i:=1) rfl)).1).mono fun e w2 ⟨r,e1,e2,e3⟩=>⟨r,e1,e2,PM hw' e3⟩) ?_
 repeat (first |refine Ah Aa rfl ?_ |refine AD Aa 0 rfl rfl rfl ?_ |refine AD Aa 3 rfl rfl rfl ?_)
 obtain ⟨U,hU⟩:∃ U,U=By (AA s.gs):=⟨_,rfl⟩
 have hUm:∀ x,x ∈ U ↔ x ∈ AA s.gs:=fun x=>by rw [hU,Cw]
 have hUf:∀ x ∈ U,AT .u64 x:=fun x hx=>hbok'.nfit ((hUm x).1 hx);rw [<-hU] at hsl
 refine GT ((Ay (A8 .u64)).vp U) (fun _=>False) rfl Tryz.call44 (fun w' vs hw' h=>by
  obtain ⟨u1,_,rfl,rfl,rfl⟩:=h;obtain ⟨hok',_,a,c,hR⟩:=Mo (hw'.own _ (Af (i:=4) rfl)).1;refine (Iu hR hok').mono fun e w2 ⟨a',c',e1,e2,e3⟩=>⟨_,e1,e2,PM hw' ?_⟩;rw [hU]
  exact ((Ay (A8 .u64)).vp _).mono (D8 e3 rfl (hU ▸ hUf)).val fun k hk=>(World.ownsRow.lt e3 k hk).1) ?_
 skip
 refine GT (Bs (· ∈ U) U.length) (fun _=>False) rfl Tryz.call43 (fun w' vs hw' h=>by
  obtain ⟨u1,_,rfl,hu,rfl⟩:=h;obtain ⟨a',n',c',rfl,h5⟩:=Bq.form (show (Ay (A8 .u64)).val w' _ u1 U from hu);have:=h5.len
  exact (SO a' n' c' U w' h5 (by omega)).mono fun e w2 ⟨r,e1,e2,e3⟩=>⟨r,e1,e2,PM hw' e3⟩) ?_
 skip
 refine Bc (v:=.bool true) rfl Tryz.call18 (fun w' vs hw' h=>by
  obtain ⟨u1,_,rfl,hu1,u2,_,rfl,hu2,rfl⟩:=h
  exact UZ w' hu1 hu2 fun x=>(hUm x).symm) ?_
 repeat (first |refine Ah Aa rfl ?_)
 refine BN 98 (v':=.bool true) rfl (congrArg Value.bool (rfl)) ?_;skip;refine BN 103 (v':=.bool true) rfl (congrArg Value.bool (decide_eq_true rfl)) ?_;repeat (first |refine Ah Aa rfl ?_)
 refine Bv (RT Aa rfl rfl rfl rfl rfl) ?_;repeat (first |refine Ah Aa rfl ?_)
 refine BN 2 (v':=.bool true) rfl (congrArg Value.bool (by simp)) ?_;refine Kz rfl ?_;repeat (first |refine AB ?_)
 exact AY rfl rfl (fun w' hw=>⟨rfl,hw.below (by repeat (first |exact An |refine Cg ?_ |refine BE ?_))⟩)
end
end Go.Proofs.YtidhpofcofknhaaGreat
