/-
  A pair of senders is made; what acts are. Conditions: each theorem's own.
-/
import Derived.Test.YtidhpofcofknhaaGreatSxL
namespace Go.Proofs.YtidhpofcofknhaaGreat
open Go Go.RowKit
set_option linter.unusedVariables false
section
variable {n:Nat} {w0 w:World} {all:Array Oper} {os:List Oper} {o:Oper} {l:FL} {ol rest:OL} {K:FL->OL->Prop} {Q:B1} {d:Nat}
theorem Wv {f m p q ep:Int} (hc:cR f m p q) (he:AT .u64 ep/\ep ≠ 0) (hs:BJ n all (AQ l) o=some (d,26,[.int .i64 f,.int .i64 m,.int .i64 p,.int .i64 q,.int .u64 ep]))
 (k:∀ sb (F:Nat->Prop),(∀ k,F k->w0.heap.size <= k)->S Tryz.prog n w0 all os ((d,AG sb)::l) (.rep (fun w=>(I5 sb ⟨f,m,p,q,ep,false,0,0,0,0,[],0⟩).at_ w F (.bool true)) F true::ol) K Q):S Tryz.prog n w0 all (o::os) l ol K Q:=
 Jp hs Tryz.call26 fun w1 h1=>(U2 f m p q ep hc he w1).mono fun e w' ⟨sb,F,e1,e2,e3⟩=>⟨_,_,F,e1,e3,e2,fun hN=>k sb F hN⟩
set_option maxHeartbeats 4000000 in
theorem SC (h:Hp w0 w rest) {f m p q ep:Int} (hc:cR f m p q) (he:AT .u64 ep/\ep ≠ 0):Calls Tryz.prog 9 #[.agg ⟨[.int .i64 f,.int .i64 m,.int .i64 p,.int .i64 q]⟩,.int .u64 ep] w fun e w'=>∃ (pb sb xb:Nat) (F1 F2:Nat->Prop),e= .returned (AG pb)/\w0.heap.size <= pb/\(∀ k,F1 k->w0.heap.size <= k)/\(∀ k,F2 k->w0.heap.size <= k)/\
 Hp w0 w' (PL pb sb xb ⟨⟨f,m,p,q,ep,false,0,0,0,0,[],0⟩,[],0,0⟩ none 0 F1 F2 (fun _=>False) ++ rest):=by
 refine GO Tryz.func9 rfl rfl h ?_;repeat (first |refine Ai ?_ |refine Ab ?_)
 refine A5 Aa rfl (fun b2 hb2=>?_);repeat (first |refine Ai ?_ |refine Ab ?_ |refine Ag ?_ |refine Ae Aa rfl ?_ |refine Ap Aa 0 rfl rfl rfl ?_)
 refine RG ⟨hc,he.2⟩ he.1 rfl (fun sb F1 hN1=>?_);repeat (first |refine Ai ?_ |refine Ab ?_ |refine Ag ?_ |refine Ae Aa rfl ?_)
 refine Ak rfl (fun h=>absurd rfl h) (fun _=>?_);repeat (first |refine Ai ?_ |refine Ab ?_ |refine Ad ?_ |refine Ao ?_ |refine Ae Aa rfl ?_ |refine Ap Aa 1 rfl rfl rfl ?_)
 refine Wv hc he rfl (fun xb F2 hN2=>?_);repeat (first |refine BF (Bf Aa rfl rfl rfl rfl rfl rfl rfl) ?_)
 refine A5 Aa rfl (fun pb hpb=>?_);repeat (first |refine Ag ?_ |refine AB ?_ |refine Ae Aa rfl ?_)
 refine AY rfl rfl (fun w' hw=>⟨pb,sb,xb,F1,F2,rfl,hpb,hN1,hN2,?_⟩);exact ((hw.none (p:=R4 64 2 0 []) (v:=.slice none 0 0) (fun w=>⟨⟨rfl,.inl ⟨rfl,rfl⟩⟩,fun k hk=>by simp [Value.ownBlock] at hk⟩) true).pm [1,3,2,0] rfl rfl rfl).less (by repeat (first |refine Au.keep ?_ |refine Au.dropB (by first |assumption |omega) ?_ |exact Bp _))
end
end Go.Proofs.YtidhpofcofknhaaGreat
