/-
  The document's sender: Tick. Conditions: each theorem's own.
-/
import Derived.Test.YtidhpofcofknhaaGreatSxB
namespace Go.Proofs.YtidhpofcofknhaaGreat
open Go Go.RowKit
set_option linter.unusedVariables false
abbrev Kw:Ec (Int × List Int):=CY (A8 .i64) (Ay (A8 .u64))
abbrev G7:Ec (List (Int × List Int)):=Ay Kw
def Dd (x:SX):List Value:=[.int .i64 3,x.v]
theorem UH {w:World} {A:Nat->Prop} {v:Value} {a:Option Addr} {n c:Nat} {xs:List SX} {L:List (List Int)} (h:(DG a n c xs L).at_ w A v):(Cl Kw (xs.map Dd) (L.map fun l=>((3:Int),l))).at_ w A (.bool true):=by
 have hl:=DG.len h;refine ⟨by rw [List.length_map,List.length_map];omega,fun i cs x hc hx=>?_⟩;rw [List.getElem?_map] at hc hx
 cases h1:xs[i]? with
 |none=>rw [h1] at hc;cases hc
 |some y=>
  cases h2:L[i]? with
  |none=>rw [h2] at hx;cases hx
  |some l=>
   rw [h1] at hc;rw [h2] at hx;cases hc;cases hx;exact ⟨[.int .i64 3],[y.v],rfl,⟨rfl,(show AT .i64 3 by decide)⟩,(DG.get h h1 h2).val⟩
theorem Mt {w:World} {F:Nat->Prop} {k:Int} (hk:AT .i64 k):(Cl Kw [[.int .i64 k,.slice none 0 0]] [((k:Int),([]:List Int))]).at_ w F (.bool true):=
 ⟨rfl,fun i cs x h1 h2=>by
  match i,h1,h2 with
  |0,h1,h2=>
   cases h1;cases h2;exact ⟨[.int .i64 k],[.slice none 0 0],rfl,⟨rfl,hk⟩,_,_,_,rfl,Bq.nil_⟩
  |i + 1,h1,_=>simp at h1⟩
section
variable {n:Nat} {w0:World} {all:Array Oper} {os:List Oper} {o:Oper} {l:FL} {ol:OL} {K:FL->OL->Prop} {Q:B1} {d bb:Nat} {f m last:Int} {gs:List BG} {F:Nat->Prop}
theorem RH (i:Nat) {now:Int} (hs:BJ n all (AQ l) o=some (d,59,[AG bb,.int .i64 now])) (hi:B9 ol i=some (.rep (fun w=>(DH bb f m gs last).at_ w F (.bool true)) F true)) (hnow:0 <= now/\now <= 1152921504606846976) (htr:∀ g ∈ gs,g.tries < 1099511627776)
 (k:∀ a ln c xs (Fv F':Nat->Prop),(∀ k,Fv k->w0.heap.size <= k)->(∀ k,F' k->F k \/ w0.heap.size <= k)->(Ew gs now).length=ln/\xs.length=ln->∃ ol',C8 ol i (.rep (fun w=>(DH bb f m (Ej f m now gs) last).at_ w F' (.bool true)) F' true)=some ol'/\S Tryz.prog n w0 all os ((d,.slice a ln c)::l) (.rep (fun w=>(DG a ln c xs (Ew gs now)).at_ w Fv (.bool true)) Fv false::ol') K Q):S Tryz.prog n w0 all (o::os) l ol K Q:=
 A7 hs Tryz.call59 fun w g=>(U5 (g.own _ (Af hi)).1 (g.own _ (Af hi)).2.2 hnow htr).mono fun e w' ⟨v,Fv,he,hv,F',g1,g2,g3⟩=>by
  obtain ⟨a,ln,c,xs,rfl,hx⟩:=Sf (g3.own _ (Af (i:=0) rfl)).1;have g4:=g3.mapI 0 rfl (Ψ:=fun w=>(DG a ln c xs (Ew gs now)).at_ w Fv (.bool true)) (fun _=>hx) (Vp.loc (p:=DG _ _ _ _ _)) rfl;obtain ⟨ol',e1,e2⟩:=k a ln c xs Fv F' (fun j hj=>Nat.le_trans g.size (hv j hj)) (fun j hj=>(g2 j hj).imp id (Nat.le_trans g.size)) (DG.len hx);exact ⟨_,_,he,g.graftTV i hi g4 hv g1 g2 e1,e2⟩
theorem PC (i:Nat) {a:Option Addr} {ln c:Nat} {now:Int} {L:List Int} (hs:BJ n all (AQ l) o=some (d,61,[AG bb,.int .i64 now,.slice a ln c])) (hi:B9 ol i=some (.rep (fun w=>(DH bb f m gs last).at_ w F (.bool true)) F true))
 (hl:∀ w,Hp w0 w ol->X4 w F a ln c L) (hnow:0 <= now/\now <= 1152921504606846976) (hln:L.length + (AA gs).length <= 60000) (hcn:gs.length < 60000) (hla:last + 1 <= 1099511627776)
 (k:∀ F':Nat->Prop,(∀ k,F' k->F k \/ w0.heap.size <= k)->∃ ol',C8 ol i (.rep (fun w=>(DH bb f m (B5 f m gs last now L).1 (B5 f m gs last now L).2.1).at_ w F' (.bool true)) F' true)=some ol'/\S Tryz.prog n w0 all os ((d,.int .u64 (B5 f m gs last now L).2.2)::l) ol' K Q):S Tryz.prog n w0 all (o::os) l ol K Q:=
 CB i hs Tryz.call61 hi fun w g=>by
  obtain ⟨A0,h1,h2⟩:=hl w g
  exact (SA (g.own _ (Af hi)).1 (g.own _ (Af hi)).2.2 h1 h2 hnow hln hcn hla).mono fun e w' ⟨he,F',g1,g2,g3⟩=>by
   obtain ⟨ol',e1,e2⟩:=k F' fun j hj=>(g2 j hj).imp id (Nat.le_trans g.size);exact ⟨_,_,F',he,g3,g1,g2,ol',e1,e2⟩
theorem Lo (i:Nat) {a:Option Addr} {ln c:Nat} {rl:List BT} {s:Int->Bool} (hs:BJ n all (AQ l) o=some (d,55,[AG bb,.slice a ln c])) (hi:B9 ol i=some (.rep (fun w=>(DH bb f m gs last).at_ w F (.bool true)) F true))
 (hl:∀ w,Hp w0 w ol->XW w F a ln c rl) (hln:ln <= 1000000) (hsr:∀ x,s x=true ↔ Cu rl x)
 (k:∀ A C (F':Nat->Prop),(∀ k,F' k->F k \/ w0.heap.size <= k)->∃ ol',C8 ol i (.rep (fun w=>(DH bb f m (Eh gs s) last).at_ w F' (.bool true)) F' true)=some ol'/\S Tryz.prog n w0 all os ((d,.slice A (By ((AA gs).filter s)).length C)::l) (.row w0.heap.size (.slice A (By ((AA gs).filter s)).length C) 32 1 (By ((AA gs).filter s)).length (Bj (By ((AA gs).filter s)))::ol') K Q):S Tryz.prog n w0 all (o::os) l ol K Q:=
 Ij i hs Tryz.call55 hi fun w g=>by
  obtain ⟨A0,h1,h2⟩:=hl w g
  exact (Sz (g.own _ (Af hi)).1 (g.own _ (Af hi)).2.2 h1 h2 hln hsr).mono fun e w' ⟨A,C,he,F',g1,g2,g3⟩=>by
   obtain ⟨ol',e1,e2⟩:=k A C F' fun j hj=>(g2 j hj).imp id (Nat.le_trans g.size);exact ⟨_,_,F',_,_,_,_,_,he,g3,g1,g2,ol',e1,e2⟩
theorem OO (i:Nat) (hs:BJ n all (AQ l) o=some (d,44,[AG bb])) (hi:B9 ol i=some (.rep (fun w=>(DH bb f m gs last).at_ w F (.bool true)) F true))
 (k:∀ a c,(By (AA gs)).length <= c->c <= maxLen->S Tryz.prog n w0 all os ((d,.slice a (By (AA gs)).length c)::l) (.row w0.heap.size (.slice a (By (AA gs)).length c) 32 1 (By (AA gs)).length (Bj (By (AA gs)))::ol) K Q):S Tryz.prog n w0 all (o::os) l ol K Q:=
 D7 hs Tryz.call44 (fun w1 h1=>by
  obtain ⟨hok,_,a,c,hR⟩:=Mo (h1.own _ (Af hi)).1
  exact Iu hR hok) k
end
theorem WE {P:Program} {tb:EU} {n d:Nat} {w0:World} {all:Array Oper} {os:List Oper} {o:Oper} {dl:DL} {ol:OL} {F:DL->Prop} (ht:AX P tb) (tx:Nat) {m:Nat} {v:Value} (hd:o.dst=some d) (hn:Nat.blt d n=true) (hg:gd all (rs all o dl) o.guard=some true) (htx:(o.looksAt all).contains tx=true) (hx:lk dl tx=some (.pr fun v _=>∃ a c,v= .slice a m c))
 (hp:∀ a c,Jh tb (rp (rs all o dl) tx (.slice a m c)) o.op=some v) (k:D P n w0 all os ((d,.ex v)::dl) ol F):D P n w0 all (o::os) dl ol F:=by
 refine UP tx (.ex v) hd hn hg htx hx trivial (fun ac u w hrd hh hu=>?_) k;obtain ⟨a,c,rfl⟩:=hu;exact ⟨v,JM ht hrd (hp a c) w,rfl⟩
structure XF where
 i:Nat
 a16:Option Addr
 c16:Nat
 a17:Option Addr
 c17:Nat
 a18:Option Addr
 c18:Nat
 css:List (List Value)
 Fo:Nat->Prop
theorem Nz {U qs:List Int} {j:Nat} (h:j < U.length):Do (U.take (j + 1)) qs=Do (U.take j) qs ++ if U[j] ∈ qs then [] else [(U[j],U[j])]:=by
 unfold Do;rw [List.take_succ_eq_append_getElem h,List.filter_append,List.map_append];congr 1;by_cases hm:U[j] ∈ qs
 ·rw [if_pos hm,List.filter_cons_of_neg (by simpa using hm)];rfl
 ·rw [if_neg hm,List.filter_cons_of_pos (by simpa using hm)];rfl
section
variable {sb:Nat} {s:Bn} {w w0:World} {F:Nat->Prop} {ol:OL}
set_option maxHeartbeats 16000000 in
theorem Su (h:(I5 sb s).at_ w F (.bool true)) (hF:∀ k,F k->k < w.heap.size) {now:Int} (hnow:0 <= now/\now <= 1152921504606846976) {qa:Option Addr} {qn qc:Nat} {ql:List (Int × Int)} {A:Nat->Prop} (hq:Bq Ek w A qa qn qc ql) (hAF:∀ k,A k->¬ F k) (hqz:∀ x ∈ ql,0 <= x.2/\x.2 <= 1099511627776) (hqs:(ql.map (·.1)).Pairwise (· < ·))
 (hb1:(AA s.gs).length + qn <= 60000) (hb2:s.gs.length + qn < 59999) (hb3:s.last + (qn:Int) + 1 <= 1099511627776) (htr:∀ g ∈ s.gs,g.tries < 1099511627776) (hstr:s.tr < 1099511627776):
 Calls Tryz.prog 32 #[AG sb,.int .i64 now,.slice qa qn qc] w fun e w'=>∃ (v:Value) (Fv F':Nat->Prop),e= .returned v/\(∀ k,Fv k->w.heap.size <= k)/\(∀ k,F k->F' k)/\(∀ k,F' k->F k \/ w.heap.size <= k)/\
  Hp w w' [.rep (fun w=>(G7.vp (s.told now ql)).at_ w Fv v) Fv false,.rep (fun w=>(I5 sb (s.tick now ql)).at_ w F' (.bool true)) F' true]:=by
 obtain ⟨bb,Fb,hok,hst,hFsb,hFb⟩:=Jf h true
 obtain ⟨Fq,hFq,_,hst2⟩:=hst.addV (p:=(Ay Ek).vp ql) (A:=A) (v:=.slice qa qn qc) (((Ay Ek).vp ql).mono hq.val fun k hk=>⟨.inl hk,fun e he hex hh=>hAF k hk (by
  rcases List.mem_cons.1 he with rfl |he
  ·exact Option.some.inj hh ▸ hFsb
  ·rw [List.mem_singleton] at he;subst he
   exact hFb k hh)⟩)
 have hst3:Hp w w [.blk sb (FK bb s) true,.rep (fun w=>(DH bb s.f s.m s.gs s.last).at_ w Fb (.bool true)) Fb true,.rep (fun w=>((Ay Ek).vp ql).at_ w Fq (.slice qa qn qc)) Fq false]:=hst2.pm [1,2,0] rfl rfl rfl;have hql:=hq.len;have hqok:∀ (i:Nat) (hi:i < ql.length),U7 ql[i]:=fun i hi=>(hq.flat EL).2 _ (List.getElem_mem hi);obtain ⟨qs,hqs0⟩:∃ q,q=ql.map (·.1):=⟨_,rfl⟩;rw [<-hqs0] at hqs
 have hqsl:qs.length=qn:=by rw [hqs0,List.length_map];exact hql
 refine Eb Tryz.func32 rfl rfl hst3 ?_;refine Fh (fun w1 g1=>(Qd (g1.own _ (Af (i:=1) rfl)).1).2) (fun ⟨hbok,hbne⟩=>?_);have hbl:=hbok.len;repeat (first |refine Ai ?_ |refine Ab ?_ |refine Ag ?_ |refine Ae Aa rfl ?_ |refine Ap Aa 0 rfl rfl rfl ?_)
 refine OO 1 rfl rfl (fun a1 c1 hc1 hd1=>?_);obtain ⟨U,hU⟩:∃ U,U=By (AA s.gs):=⟨_,rfl⟩
 have hUl:U.length <= 60000:=by have:=@D0 (AA s.gs);rw [hU];omega
 rw [<-hU] at hc1 ⊢;repeat (first |refine Ar ?_ |refine Ag ?_ |refine Ae Aa rfl ?_)
 refine AM (ι:=XE) (fun q=>[(0,AG sb),(1,.int .i64 now),(2,.slice qa qn qc),(28,.slice a1 U.length c1),(29,.int .i64 (U.length:Int)),(30,.int .i64 (q.j:Int)),(7,.slice q.a (Do (U.take q.j) qs).length q.c)])
  (fun q=>[.row w.heap.size (.slice q.a (Do (U.take q.j) qs).length q.c) 83 2 (Do (U.take q.j) qs).length (Br (Do (U.take q.j) qs)),.row w.heap.size (.slice a1 U.length c1) 32 1 U.length (Bj U),.blk sb (FK bb s) true,.rep (fun w=>(DH bb s.f s.m s.gs s.last).at_ w Fb (.bool true)) Fb true,.rep (fun w=>((Ay Ek).vp ql).at_ w Fq (.slice qa qn qc)) Fq false])
  (fun q=>q.j <= U.length) (fun q=>U.length - q.j) ⟨0,none,0⟩ (Nat.zero_le _) (by repeat (first |exact As.nil |refine As.cons rfl ?_)) (fun w' hw=>hw.nilRow _ _) ?_
 rintro ⟨j,a7,c7⟩ hj;dsimp only at hj ⊢
 have hgl:(Do (U.take j) qs).length <= U.length:=by
  unfold Do;rw [List.length_map];exact Nat.le_trans (List.length_filter_le _ _) (by rw [List.length_take];omega)
 repeat (first |refine Ai ?_ |refine Ab ?_ |refine Ag ?_ |refine Ae Aa rfl ?_)
 refine Ak rfl (fun hlt=>?_) (fun hge=>?_)
 ·have hjl:j < U.length:=by omega
  repeat (first |refine Ai ?_ |refine Ab ?_ |refine Ar ?_ |refine Ad ?_ |refine Ao ?_)
  refine Fi 1 rfl (by omega) (fun bU hbU=>?_);subst hbU;refine BF (Bu (sz:=1) Aa rfl rfl rfl rfl rfl rfl rfl (j:=j) rfl hjl) ?_;refine Bb Aa (v:=.int .u64 U[j]) rfl rfl (fun w' hw=>by rw [Nat.zero_add,Nat.mul_one];exact Cp (hw.own _ (Af (i:=1) rfl)) (by omega) (Hy hjl)) ?_;repeat (first |refine Ai ?_ |refine Ab ?_ |refine Ag ?_ |refine Ae Aa rfl ?_)
  refine BP (ι:=Unit) (fun _=>True) (fun _=>[(0,AG sb),(1,.int .i64 now),(2,.slice qa qn qc),(28,.slice (some ⟨bU,0,none⟩) U.length c1),(29,.int .i64 (U.length:Int)),(30,.int .i64 (j:Int)),(7,.slice a7 (Do (U.take j) qs).length c7),(9,.int .u64 U[j]),(10,.bool (decide (U[j] ∈ qs)))])
   (fun _=>[.row w.heap.size (.slice a7 (Do (U.take j) qs).length c7) 83 2 (Do (U.take j) qs).length (Br (Do (U.take j) qs)),.row w.heap.size (.slice (some ⟨bU,0,none⟩) U.length c1) 32 1 U.length (Bj U),.blk sb (FK bb s) true,.rep (fun w=>(DH bb s.f s.m s.gs s.last).at_ w Fb (.bool true)) Fb true,.rep (fun w=>((Ay Ek).vp ql).at_ w Fq (.slice qa qn qc)) Fq false]) ?_ ?_
  ·refine Ar ?_
   refine AM (ι:=Nat) (fun i=>[(0,AG sb),(1,.int .i64 now),(2,.slice qa qn qc),(28,.slice (some ⟨bU,0,none⟩) U.length c1),(29,.int .i64 (U.length:Int)),(30,.int .i64 (j:Int)),(7,.slice a7 (Do (U.take j) qs).length c7),(9,.int .u64 U[j]),(10,.bool (decide (U[j] ∈ qs.take i))),(34,.slice qa qn qc),(35,.int .i64 (qn:Int)),(36,.int .i64 (i:Int))])
    (fun _=>[.row w.heap.size (.slice a7 (Do (U.take j) qs).length c7) 83 2 (Do (U.take j) qs).length (Br (Do (U.take j) qs)),.row w.heap.size (.slice (some ⟨bU,0,none⟩) U.length c1) 32 1 U.length (Bj U),.blk sb (FK bb s) true,.rep (fun w=>(DH bb s.f s.m s.gs s.last).at_ w Fb (.bool true)) Fb true,.rep (fun w=>((Ay Ek).vp ql).at_ w Fq (.slice qa qn qc)) Fq false])
    (fun i=>i <= qn) (fun i=>qn - i) 0 (Nat.zero_le _) (by rw [show decide (U[j] ∈ qs.take 0)=false from by rw [List.take_zero];exact decide_eq_false (by simp)];repeat (first |exact As.nil |refine As.cons rfl ?_)) (fun w' hw=>hw) ?_
   intro i hi;repeat (first |refine Ai ?_ |refine Ab ?_ |refine Ag ?_ |refine Ae Aa rfl ?_)
   refine Ak rfl (fun hlt2=>?_) (fun hge2=>?_);rotate_left
   ·rw [List.take_of_length_le (show qs.length <= i by omega)];repeat (first |refine Ad ?_ |refine AC ?_ |refine Am ?_ |refine AH ?_)
    exact ⟨(),trivial,(by repeat (first |exact As.nil |refine As.cons rfl ?_)),fun w' hw=>hw⟩
   have hi':i < ql.length:=by omega
   have hqi:qs[i]? =some ql[i].1:=by rw [hqs0,List.getElem?_map,List.getElem?_eq_getElem hi'];rfl
   have hmem:U[j] ∈ qs.take (i + 1) ↔ U[j] ∈ qs.take i \/ ql[i].1=U[j]:=by
    rw [List.take_add_one,hqi,List.mem_append,Option.toList_some,List.mem_singleton];exact or_congr Iff.rfl ⟨Eq.symm,Eq.symm⟩
   obtain ⟨ab,off,cs,hqae,hlt3,_⟩:=hq.get_ hi';subst hqae;repeat (first |refine Ai ?_ |refine Ab ?_ |refine Ar ?_ |refine Ad ?_ |refine Ao ?_)
   refine BF (Bu (sz:=2) Aa rfl rfl rfl rfl rfl rfl rfl rfl (j:=i) (by omega)) ?_;refine BX Aa (vs:=FE ql[i]) rfl rfl rfl (fun w' hw=>ED (Bq.of_val (hw.own _ (Af (i:=4) rfl)).1) hi') ?_;refine A5 Aa rfl (fun b12 hb12=>?_);repeat (first |refine Ag ?_ |refine Ae Aa rfl ?_ |refine Aq ?_ |refine Aw Aa 0 rfl rfl rfl rfl rfl rfl ?_)
   by_cases hm:U[j] ∈ qs.take i
   ·refine Cb 41 (v':=.bool true) rfl (congrArg Value.bool (decide_eq_true hm)) ?_;repeat (first |refine Ab ?_ |refine Ag ?_ |refine Ad ?_ |refine Al ?_ |refine AE Aa rfl (by omega) ?_ |refine Ae Aa rfl ?_ |refine Bh rfl rfl rfl ?_)
    refine ⟨i + 1,by show i + 1 <= qn;omega,?_,fun w' hw=>hw.less (by repeat (first |exact Au.nil |refine Au.keep ?_ |refine Au.dropB (by first |assumption |omega) ?_)),by show qn - (i + 1) < qn - i;omega⟩;rw [decide_eq_true (hmem.2 (.inl hm))];repeat (first |exact As.nil |refine As.cons rfl ?_)
   ·refine Cb 41 (v':=.bool false) rfl (congrArg Value.bool (decide_eq_false hm)) ?_;repeat (first |refine Ab ?_ |refine Ag ?_ |refine Ad ?_ |refine Al ?_ |refine AE Aa rfl (by omega) ?_ |refine Ae Aa rfl ?_ |refine Ap Aa 0 rfl rfl rfl ?_)
    refine ⟨i + 1,by show i + 1 <= qn;omega,?_,fun w' hw=>hw.less (by repeat (first |exact Au.nil |refine Au.keep ?_ |refine Au.dropB (by first |assumption |omega) ?_)),by show qn - (i + 1) < qn - i;omega⟩;rw [show decide (U[j] ∈ qs.take (i + 1))=decide (ql[i].1=U[j]) from decide_eq_decide.2 (hmem.trans ⟨fun h=>h.resolve_left hm,.inr⟩)];repeat (first |exact As.nil |refine As.cons rfl ?_)
  intro _ _;have hgs:=Nz (qs:=qs) hjl;repeat (first |refine Ai ?_ |refine Ab ?_ |refine Ag ?_ |refine Ae Aa rfl ?_)
  refine CC rfl (fun h1=>?_) (fun h1=>?_)
  ·have hno:U[j] ∉ qs:=by simpa using h1
   rw [if_neg hno] at hgs;repeat (first |refine Ae Aa rfl ?_ |refine Aq ?_ |refine BF (Bf Aa rfl rfl rfl rfl rfl rfl rfl) ?_)
   refine AO Aa rfl rfl rfl rfl rfl rfl rfl rfl rfl rfl rfl rfl (fun b54 hb54=>?_);refine AU (ty:=0) Aa 1 (k:=1) (news:=Br [(U[j],U[j])]) rfl rfl rfl rfl rfl rfl rfl rfl rfl (by decide) (fun w' hw=>Sl.of_blk (hw.own _ (Af (i:=0) rfl)) rfl (fun j u hu=>by rw [Nat.zero_add];exact hu)) (Dc _) (by simp only [maxLen];omega) (by show (_ + _) * 16 <= _;omega) rfl (fun A1 C1 hc3 hd3=>⟨_,rfl,?_⟩);rw [<-CT,<-hgs,show (Do (U.take j) qs).length + 1=(Do (U.take (j + 1)) qs).length from by rw [hgs,List.length_append];rfl];repeat (first |refine Ab ?_ |refine Ag ?_ |refine Ad ?_ |refine Al ?_ |refine AE Aa rfl (by omega) ?_ |refine Ae Aa rfl ?_)
   exact ⟨⟨j + 1,A1,C1⟩,by show j + 1 <= U.length;omega,(by repeat (first |exact As.nil |refine As.cons rfl ?_)),fun w' hw=>hw.less (by repeat (first |exact Au.nil |refine Au.keep ?_ |refine Au.dropB (by first |assumption |omega) ?_)),by show U.length - (j + 1) < U.length - j;omega⟩
  ·have hyes:U[j] ∈ qs:=by simpa using h1
   rw [if_pos hyes,List.append_nil] at hgs;repeat (first |refine Ab ?_ |refine Ag ?_ |refine Ad ?_ |refine Al ?_ |refine Ao ?_ |refine AE Aa rfl (by omega) ?_ |refine Ae Aa rfl ?_)
   exact ⟨⟨j + 1,a7,c7⟩,by show j + 1 <= U.length;omega,(by dsimp only;rw [hgs];repeat (first |exact As.nil |refine As.cons rfl ?_)),fun w' hw=>by dsimp only;rw [hgs];exact hw,by show U.length - (j + 1) < U.length - j;omega⟩
 have hje:j=U.length:=by omega
 subst hje;rw [List.take_length];rw [List.take_length] at hgl;obtain ⟨gr,hgr⟩:∃ gr,gr=Do U qs:=⟨_,rfl⟩;rw [<-hgr] at hgl ⊢
 have hrm:Eh s.gs (ST gr)=(s.keep_ qs).gs:=Is fun n hn=>by
  have h1:=@Mw gr n;rw [hgr,Pk] at h1
  have hU2:n ∈ U:=by rw [hU,Cw];exact hn
  by_cases h:n ∈ qs
  ·rw [decide_eq_true h];exact Bool.eq_false_iff.2 fun h9=>(h1.1 (hgr ▸ h9)).2 h
  ·rw [decide_eq_false h];exact hgr ▸ h1.2 ⟨hU2,h⟩
 have hgrf:∀ r ∈ gr,UD r:=fun r hr=>by
  rw [hgr] at hr;obtain ⟨k,hk,rfl⟩:=List.mem_map.1 hr;have:=hbok.nfit (Cw.1 (hU ▸ (List.mem_filter.1 hk).1));exact ⟨this,this⟩
 repeat (first |refine Ai ?_ |refine Ab ?_ |refine Ad ?_ |refine AC ?_ |refine Am ?_ |refine AH ?_ |refine Ae Aa rfl ?_ |refine Ap Aa 2 rfl rfl rfl ?_)
 refine Lo 3 (rl:=gr) (s:=ST gr) rfl rfl (fun w1 g1=>⟨fun k=>(Value.slice a7 gr.length c7).ownBlock=some k,Bq.of_row CA (g1.own (.row w.heap.size (.slice a7 gr.length c7) 83 2 gr.length (Br gr)) (Af (i:=0) rfl)) rfl hgrf (fun k _ hk=>hk),fun k hk hF=>g1.dis 0 3 rfl rfl rfl rfl hk hF⟩) (by omega) (fun x=>Mw) (fun A3 C3 Fb2' hFb2'=>⟨_,rfl,?_⟩);obtain ⟨Fb2,hFb2e⟩:∃ Fb2,Fb2=Fb2':=⟨_,rfl⟩;rw [hrm,<-hFb2e];have hFb2:∀ k,Fb2 k->F k \/ w.heap.size <= k:=fun k hk=>(hFb2' k (hFb2e ▸ hk)).imp (hFb k) id;refine B6 (fun w' hw=>Hp.less (o':=[.blk sb (FK bb s) true,.rep (fun w=>(DH bb s.f s.m (s.keep_ qs).gs s.last).at_ w Fb2 (.bool true)) Fb2 true,.rep (fun w=>((Ay Ek).vp ql).at_ w Fq (.slice qa qn qc)) Fq false]) hw (by repeat (first |exact Au.nil |refine Au.keep ?_ |refine Au.dropW (Nat.le_refl _) ?_))) ?_
 have fin:∀ (s':Bn) (Fb' Fv:Nat->Prop) (w':World) (v:Value),Hp w w' [.blk sb (FK bb s') true,.rep (fun w=>(DH bb s'.f s'.m s'.gs s'.last).at_ w Fb' (.bool true)) Fb' true,.rep (fun w=>(G7.vp (s.told now ql)).at_ w Fv v) Fv false]->D6 s'->(∀ k,Fb' k->F k \/ w.heap.size <= k)->(∀ k,Fv k->w.heap.size <= k)->s.tick now ql=s'->
  ∃ (v':Value) (Fv F':Nat->Prop),Ending.returned v= .returned v'/\(∀ k,Fv k->w.heap.size <= k)/\(∀ k,F k->F' k)/\(∀ k,F' k->F k \/ w.heap.size <= k)/\Hp w w' [.rep (fun w=>(G7.vp (s.told now ql)).at_ w Fv v') Fv false,.rep (fun w=>(I5 sb (s.tick now ql)).at_ w F' (.bool true)) F' true]:=fun s' Fb' Fv w' v hw hok' hFb' hFv e=>by
  rw [e]
  obtain ⟨F',j1,j2,j3⟩:=HI (F0:=F) (ol:=[.rep (fun w=>(G7.vp (s.told now ql)).at_ w Fv v) Fv false]) hw hok' hF (fun e he k hk=>by
   rw [List.mem_singleton] at he;subst he
   exact hFv k hk) (.inl hFsb) hFb'
  exact ⟨_,Fv,F',rfl,hFv,j1,j2,j3.pm [1,0] rfl rfl rfl⟩
 have hokk:D6 (s.keep_ qs):=⟨hok.conf,hok.ep,hok.inc,hok.lim,hok.tm,hok.tr⟩
 have htrk:∀ g ∈ (s.keep_ qs).gs,g.tries < 1099511627776:=fun g hg=>by
  obtain ⟨x,hx,rfl⟩:=Gi hg;exact htr x hx
 repeat (first |refine Ai ?_ |refine Ab ?_ |refine Ag ?_ |refine Ae Aa rfl ?_ |refine Ap Aa 0 rfl rfl rfl ?_)
 refine CC rfl (fun h1=>?_) (fun h1=>?_)
 ·have hop:s.op=false:=by simpa using h1
  have htk:s.tick now ql=(s.keep_ qs).try_ now:=by unfold Bn.tick;rw [if_neg (by rw [hop];decide),hqs0]
  have hto:s.told now ql=if s.tm <= now then [(1,[])] else []:=by unfold Bn.told;rw [if_neg (by rw [hop];decide)]
  repeat (first |refine Ai ?_ |refine Ab ?_ |refine Ae Aa rfl ?_)
  refine A7 rfl Tryz.call58 (fun w1 g1=>(KJ (s:=s.keep_ qs) g1 hok.conf.1 hnow ⟨hok.tr.1,hstr⟩).mono fun e w' ⟨he,h9⟩=>⟨_,_,he,h9,?_⟩);repeat (first |refine Ag ?_)
  refine Ak rfl (fun h2=>?_) (fun h2=>?_)
  ·rw [if_pos (show s.tm <= now from h2)] at hto;repeat (first |refine Ai ?_ |refine Ab ?_ |refine BF (Bf Aa rfl rfl rfl rfl rfl rfl rfl) ?_)
   refine AO Aa rfl rfl rfl rfl rfl rfl rfl rfl rfl rfl rfl rfl (fun nb hnb=>?_);repeat (first |refine Ag ?_ |refine AI ?_ |refine AB ?_ |refine Ae Aa rfl ?_)
   refine AY rfl rfl (fun w' hw=>?_);have o0:=hw.own _ (Af (i:=0) rfl);have h9:=hw.blkV hnb (G7.vp [(1,[])]) (v:=.slice (some ⟨nb,0,none⟩) 1 1) (Kj (R:=Kw) (F:=fun k=>k=nb) (css:=[[.int .i64 1,.slice none 0 0]]) (v:=.bool true) o0 (Mt (by decide)) rfl (by show 1 <= maxLen;decide)).val;refine fin ((s.keep_ qs).try_ now) Fb2 (fun k=>k=nb) w' (.slice (some ⟨nb,0,none⟩) 1 1) ?_ (hokk.try_ hnow hstr) hFb2 (fun k h=>by rw [h];exact hnb) htk;rw [Bn.tryR_same,hto];exact (h9.pm [1,2,0,3] rfl rfl rfl).less (by repeat (first |exact Au.nil |refine Au.keep ?_ |refine Au.dropR ?_))
  ·rw [if_neg (show ¬ s.tm <= now from h2)] at hto;repeat (first |refine Ai ?_ |refine Ab ?_ |refine Ag ?_ |refine Ad ?_ |refine AI ?_ |refine Ao ?_ |refine AB ?_ |refine Ae Aa rfl ?_)
   refine AY rfl rfl (fun w' hw=>?_);refine fin ((s.keep_ qs).try_ now) Fb2 (fun _=>False) w' _ ?_ (hokk.try_ hnow hstr) hFb2 (fun k h=>h.elim) htk;rw [Bn.tryR_same,hto];exact ((Hp.none (hw.less (o':=[.blk sb (FK bb ((s.keep_ qs).try_ now)) true,.rep (fun w=>(DH bb s.f s.m (s.keep_ qs).gs s.last).at_ w Fb2 (.bool true)) Fb2 true]) (by repeat (first |exact Au.nil |refine Au.keep ?_ |refine Au.dropR ?_))) (p:=G7.vp []) (v:=.slice none 0 0) (fun w=>Bq.nil_.val) false).pm [1,2,0] rfl rfl rfl)
 have hop:s.op=true:=by simpa using h1
 repeat (first |refine Ai ?_ |refine Ab ?_ |refine Ag ?_ |refine Ad ?_ |refine Ao ?_ |refine Ae Aa rfl ?_ |refine Ap Aa 0 rfl rfl rfl ?_)
 refine RH 1 rfl rfl hnow htrk (fun d1 dn dc xs Fd Fb3 hFd hFb3 hdl=>⟨_,rfl,?_⟩);obtain ⟨DL,hDL⟩:∃ DL,DL=Ew (s.keep_ qs).gs now:=⟨_,rfl⟩;rw [<-hDL] at hdl ⊢;obtain ⟨rfl,hxl⟩:=hdl;have hFb4:∀ k,Fb3 k->F k \/ w.heap.size <= k:=fun k hk=>(hFb3 k hk).elim (hFb2 k) .inr
 have hDb:DL.length <= s.gs.length:=by
  have h1:(Ew (s.keep_ qs).gs now).length <= (s.keep_ qs).gs.length:=by unfold Ew;rw [List.length_map];exact H4
  rw [<-hDL] at h1;have h2:(s.keep_ qs).gs.length <= s.gs.length:=Nat.le_trans (List.length_filter_le _ _) (by rw [List.length_map];exact Nat.le_refl _);omega
 repeat (first |refine Ar ?_ |refine Ag ?_ |refine Ae Aa rfl ?_)
 refine AM (ι:=Nat × Option Addr × Nat) (fun j=>[(0,AG sb),(1,.int .i64 now),(2,.slice qa qn qc),(13,.slice j.2.1 j.1 j.2.2),(78,.slice d1 DL.length dc),(79,.int .i64 (DL.length:Int)),(80,.int .i64 (j.1:Int))])
  (fun j=>[.row w.heap.size (.slice j.2.1 j.1 j.2.2) 94 2 j.1 ((xs.take j.1).map Dd).flatten,.rep (fun w=>(DG d1 DL.length dc xs DL).at_ w Fd (.bool true)) Fd false,.blk sb (FK bb s) true,.rep (fun w=>(DH bb s.f s.m (Ej s.f s.m now (s.keep_ qs).gs) s.last).at_ w Fb3 (.bool true)) Fb3 true,.rep (fun w=>((Ay Ek).vp ql).at_ w Fq (.slice qa qn qc)) Fq false])
  (fun j=>j.1 <= DL.length) (fun j=>DL.length - j.1) (0,none,0) (Nat.zero_le _) (by repeat (first |exact As.nil |refine As.cons rfl ?_)) (fun w' hw=>hw.nilRow 94 2) ?_
 rintro ⟨j,A1,C1⟩ hj;dsimp only at hj ⊢;repeat (first |refine Ai ?_ |refine Ab ?_ |refine Ag ?_ |refine Ae Aa rfl ?_)
 refine Ak rfl (fun hlt1=>?_) (fun hge1=>?_)
 ·have hin:j < DL.length:=by omega
  obtain ⟨⟨xa,xn,xc⟩,hx⟩:∃ x,xs[j]? =some x:=⟨_,List.getElem?_eq_getElem (by omega)⟩;refine Fh (X:=∃ b off,d1=some ⟨b,off,none⟩) (fun w1 g1=>DG.addr (g1.own _ (Af (i:=1) rfl)).1 (by omega)) (fun ⟨b5,o5,e5⟩=>?_);subst e5;repeat (first |refine Ai ?_ |refine Ab ?_ |refine Ar ?_ |refine Ad ?_ |refine Ao ?_)
  refine BF (Bu (sz:=1) Aa rfl rfl rfl rfl rfl rfl rfl (j:=j) rfl hin) ?_;refine Bb Aa (v:=.slice xa xn xc) rfl rfl (fun w1 h1=>by rw [Nat.mul_one];exact DG.cell (h1.own _ (Af (i:=1) rfl)).1 hx) ?_;repeat (first |refine Ag ?_ |refine Ae Aa rfl ?_ |refine Aq ?_ |refine BF (Bf Aa rfl rfl rfl rfl rfl rfl rfl) ?_)
  refine AO Aa rfl rfl rfl rfl rfl rfl rfl rfl rfl rfl rfl rfl (fun nb hnb=>?_)
  refine AU (ty:=0) (k:=1) (news:=[.int .i64 3,.slice xa xn xc]) Aa 1 (sz:=2) rfl rfl rfl rfl rfl rfl rfl rfl rfl (by decide) (fun w' hw=>Sl.of_blk (hw.own _ (Af (i:=0) rfl)) rfl (fun j u hu=>by rw [Nat.zero_add];exact hu)) (fun u hu=>by
   simp only [List.mem_cons,List.not_mem_nil,or_false] at hu
   rcases hu with rfl |rfl<;>rfl) (by simp only [maxLen];omega) (by show (_ + _) * 32 <= _;omega) rfl (fun A' C' hA' hC'=>⟨_,rfl,?_⟩)
  repeat (first |refine Ab ?_ |refine Ag ?_ |refine Ad ?_ |refine Al ?_ |refine AE Aa rfl (by omega) ?_ |refine Ae Aa rfl ?_)
  refine ⟨(j + 1,A',C'),hin,(by repeat (first |exact As.nil |refine As.cons rfl ?_)),fun w' hw=>?_,by dsimp only;omega⟩
  have e9:((xs.take (j + 1)).map Dd).flatten=((xs.take j).map Dd).flatten ++ [.int .i64 3,.slice xa xn xc]:=by
   rw [List.getElem?_eq_some_iff] at hx;obtain ⟨hx1,hx2⟩:=hx;rw [List.take_succ_eq_append_getElem hx1,hx2,List.map_append,List.flatten_append];rfl
  dsimp only;rw [e9];exact hw.less (by repeat (first |exact Au.nil |refine Au.keep ?_ |refine Au.dropB (by first |assumption |omega) ?_))
 have hje:j=DL.length:=by omega
 subst hje;rw [List.take_of_length_le (by omega)];obtain ⟨s2,hs2⟩:∃ t,t=(s.keep_ qs).due_ now:=⟨_,rfl⟩
 have hok2:D6 s2:=by rw [hs2];exact ⟨hok.conf,hok.ep,hok.inc,hok.lim,hok.tm,hok.tr⟩
 have hs2g:s2.gs.length <= s.gs.length/\(AA s2.gs).length <= (AA s.gs).length/\s2.last=s.last:=by
  rw [hs2];refine ⟨?_,?_,rfl⟩
  ·show ((s.keep_ qs).gs.map _).length <= _;rw [List.length_map];exact Nat.le_trans (List.length_filter_le _ _) (by rw [List.length_map];exact Nat.le_refl _)
  ·show (AA (Ej s.f s.m now (s.keep_ qs).gs)).length <= _;rw [II,show AA (s.keep_ qs).gs=(AA s.gs).filter fun n=>!!decide (n ∈ qs) from GI _ _];exact List.length_filter_le _ _
 have e20:DH bb s.f s.m (Ej s.f s.m now (s.keep_ qs).gs) s.last=DH bb s2.f s2.m s2.gs s2.last:=by rw [hs2];rfl
 have e21:FK bb s=FK bb s2:=by rw [hs2];rfl
 rw [e20,e21];obtain ⟨nums,hnums⟩:∃ nums,nums=AA s2.gs:=⟨_,rfl⟩;have hp1:1 <= s2.p:=hok2.conf.2.1;have hp64:s2.p <= 64:=hok2.conf.2.2.1;have hq1024:=hok2.conf.2.2.2.2;obtain ⟨stO,hstO⟩:∃ stO:Nat->De,stO=fun i=>F5 s2.p s2.lim nums (ql.take i) (Da s2.q nums):=⟨_,rfl⟩
 have hst0:stO 0=Da s2.q nums:=by rw [hstO];rfl
 have hfr0:Il s2.p s2.q nums.length (stO 0) 0:=by
  rw [hst0];exact ⟨Nat.le_refl _,Nat.le_refl _,⟨Int.le_refl _,by show (0:Int) <= _;omega⟩,rfl,fun n hn=>by cases hn⟩
 repeat (first |refine Ai ?_ |refine Ab ?_ |refine Ag ?_ |refine Ad ?_ |refine AC ?_ |refine Am ?_ |refine AH ?_ |refine Ae Aa rfl ?_)
 refine BP (ι:=XF) (fun q=>q.css.flatten.length=(stO qn).out.length/\(∀ k,q.Fo k->w.heap.size <= k)/\Il s2.p s2.q nums.length (stO qn) qn) (fun q=>[(0,AG sb),(1,.int .i64 now),(2,.slice qa qn qc),(13,.slice A1 DL.length C1),(17,.slice q.a17 (stO qn).cur.length q.c17),(18,.slice q.a18 (stO qn).out.length q.c18)])
  (fun q=>[.blk sb (FK bb s2) true,.rep (fun w=>(DH bb s2.f s2.m s2.gs s2.last).at_ w Fb3 (.bool true)) Fb3 true,.row w.heap.size (.slice q.a17 (stO qn).cur.length q.c17) 32 1 (stO qn).cur.length (Bj (stO qn).cur),.row w.heap.size (.slice q.a18 (stO qn).out.length q.c18) 59 1 (stO qn).out.length q.css.flatten,.rep (fun w=>(Cl (Ay (A8 .u64)) q.css (stO qn).out).at_ w q.Fo (.bool true)) q.Fo false,.row w.heap.size (.slice A1 DL.length C1) 94 2 DL.length (xs.map Dd).flatten,.rep (fun w=>(DG d1 DL.length dc xs DL).at_ w Fd (.bool true)) Fd false]) ?_ ?_
 ·refine Ar ?_
  refine AM (ι:=XF) (fun q=>[(0,AG sb),(1,.int .i64 now),(2,.slice qa qn qc),(13,.slice A1 DL.length C1),(16,.slice q.a16 ((stO q.i).out.flatten ++ (stO q.i).cur).length q.c16),(17,.slice q.a17 (stO q.i).cur.length q.c17),(18,.slice q.a18 (stO q.i).out.length q.c18),(19,.int .i64 (stO q.i).sum),(90,.slice qa qn qc),(91,.int .i64 (qn:Int)),(92,.int .i64 (q.i:Int))])
   (fun q=>[.blk sb (FK bb s2) true,.rep (fun w=>(DH bb s2.f s2.m s2.gs s2.last).at_ w Fb3 (.bool true)) Fb3 true,.rep (fun w=>((Ay Ek).vp ql).at_ w Fq (.slice qa qn qc)) Fq false,.row w.heap.size (.slice q.a16 ((stO q.i).out.flatten ++ (stO q.i).cur).length q.c16) 32 1 ((stO q.i).out.flatten ++ (stO q.i).cur).length (Bj ((stO q.i).out.flatten ++ (stO q.i).cur)),.row w.heap.size (.slice q.a17 (stO q.i).cur.length q.c17) 32 1 (stO q.i).cur.length (Bj (stO q.i).cur),.row w.heap.size (.slice q.a18 (stO q.i).out.length q.c18) 59 1 (stO q.i).out.length q.css.flatten,.rep (fun w=>(Cl (Ay (A8 .u64)) q.css (stO q.i).out).at_ w q.Fo (.bool true)) q.Fo false,.row w.heap.size (.slice A1 DL.length C1) 94 2 DL.length (xs.map Dd).flatten,.rep (fun w=>(DG d1 DL.length dc xs DL).at_ w Fd (.bool true)) Fd false])
   (fun q=>q.i <= qn/\q.css.flatten.length=(stO q.i).out.length/\(∀ k,q.Fo k->w.heap.size <= k)/\Il s2.p s2.q nums.length (stO q.i) q.i) (fun q=>qn - q.i) ⟨0,none,0,none,0,none,0,[],fun _=>False⟩ ⟨Nat.zero_le _,by rw [hst0];rfl,fun k hk=>hk.elim,hfr0⟩ (by dsimp only;rw [hst0];repeat (first |exact As.nil |refine As.cons rfl ?_)) (fun w' hw=>?_) ?_
  ·dsimp only;rw [hst0];exact (((((hw.pm [2,3,4,0,1] rfl rfl rfl).none (p:=Cl (Ay (A8 .u64)) [] []) (v:=.bool true) (fun w=>Cl.nil_) false).nilRow 59 1).nilRow 32 1).nilRow 32 1).pm [4,5,6,0,1,2,3,7,8] rfl rfl rfl
  rintro ⟨i,a16,c16,a17,c17,a18,c18,css,Fo⟩ ⟨hi,hcss,hFo,hfr⟩;dsimp only at hi hcss hFo hfr ⊢;obtain ⟨st,hst⟩:∃ st,st=stO i:=⟨_,rfl⟩;rw [<-hst] at hcss hfr ⊢;have hfo1:=hfr.out;have hfo2:=hfr.fl;have hfo3:=hfr.sum;have hfo4:=hfr.room;have hfl2:(st.out.flatten ++ st.cur).length=st.out.flatten.length + st.cur.length:=List.length_append
  have hnn:nums.length <= 60000:=by rw [hnums];omega
  repeat (first |refine Ai ?_ |refine Ab ?_ |refine Ag ?_ |refine Ae Aa rfl ?_)
  refine Ak rfl (fun hlt1=>?_) (fun hge2=>?_);rotate_left
  ·have hie:i=qn:=by omega
   subst hie;repeat (first |refine Ad ?_ |refine AC ?_ |refine Am ?_ |refine AH ?_)
   exact ⟨⟨0,none,0,a17,c17,a18,c18,css,Fo⟩,⟨by rw [<-hst];exact hcss,hFo,by rw [<-hst];exact hfr⟩,(by dsimp only;rw [<-hst];repeat (first |exact As.nil |refine As.cons rfl ?_)),fun w' hw=>by
    dsimp only;rw [<-hst]
    exact (hw.pm [0,1,4,5,6,7,8,2,3] rfl rfl rfl).less (by repeat (first |exact Au.nil |refine Au.keep ?_ |refine Au.dropR ?_ |refine Au.dropW (Nat.le_refl _) ?_))⟩
  have hi':i < ql.length:=by omega
  have hokk2:=hqok i hi';have hzz:=hqz _ (List.getElem_mem hi')
  have hstS:stO (i + 1)=Ea s2.p s2.lim nums st ql[i]:=by
   rw [hst,hstO];dsimp only;rw [List.take_succ_eq_append_getElem hi',NF]
  obtain ⟨ab,off,cs,hqae,hlt3,_⟩:=hq.get_ hi';subst hqae;repeat (first |refine Ai ?_ |refine Ab ?_ |refine Ar ?_ |refine Ad ?_ |refine Ao ?_)
  refine BF (Bu (sz:=2) Aa rfl rfl rfl rfl rfl rfl rfl rfl (j:=i) (by omega)) ?_;refine BX Aa (vs:=FE ql[i]) rfl rfl rfl (fun w' hw=>ED (Bq.of_val (hw.own _ (Af (i:=2) rfl)).1) hi') ?_;refine A5 Aa rfl (fun b21 hb21=>?_);obtain ⟨x,hx⟩:∃ x,x=ql[i]:=⟨_,rfl⟩;rw [<-hx] at hokk2 hzz hstS ⊢;repeat (first |refine AZ (by kernel_rfl) (by kernel_rfl) ?_ |refine Ah Aa rfl ?_ |refine AD Aa 0 rfl rfl rfl ?_ |refine AD Aa 1 rfl rfl rfl ?_ |refine Ai ?_ |refine Ag ?_ |refine Aw Aa 0 rfl rfl rfl rfl rfl rfl ?_)
  refine Bc (v:=.bool (decide (x.1 ∈ nums))) rfl Tryz.call60 (fun w' vs hw' h=>by
   obtain ⟨u1,_,rfl,rfl,u2,_,rfl,rfl,rfl⟩:=h;obtain ⟨hok',_,a,c,hR⟩:=Mo (hw'.own _ (Af (i:=2) rfl)).1;rw [hnums]
   exact It hR hok' x.1) ?_
  repeat (first |refine Ah Aa rfl ?_)
  have hskip:NC s2.lim nums x st->stO (i + 1)=st:=fun h=>by rw [hstS,Ea,if_pos h]
  by_cases hin1:x.1 ∈ nums
  ·refine BN 103 (v':=.bool true) rfl (congrArg Value.bool (decide_eq_true hin1)) ?_;repeat (first |refine AP rfl ?_ |refine Ah Aa rfl ?_ |refine BO rfl rfl rfl ?_)
   refine AN rfl ?_;repeat (first |refine Ab ?_ |refine Ag ?_ |refine Ad ?_ |refine AC ?_ |refine Am ?_ |refine AH ?_ |refine AE Aa rfl (by omega) ?_ |refine Ae Aa rfl ?_)
   exact ⟨⟨i + 1,a16,c16,a17,c17,a18,c18,css,Fo⟩,⟨by show i + 1 <= qn;omega,by rw [hskip (.inl hin1)];exact hcss,hFo,by rw [hskip (.inl hin1)];exact hfr.up (Nat.le_succ _)⟩,(by dsimp only;rw [hskip (.inl hin1)];repeat (first |exact As.nil |refine As.cons rfl ?_)),fun w' hw=>by dsimp only;rw [hskip (.inl hin1)];exact hw.less (by repeat (first |exact Au.nil |refine Au.keep ?_ |refine Au.dropB (by first |assumption |omega) ?_)),by show qn - (i + 1) < qn - i;omega⟩
  refine BN 103 (v':=.bool false) rfl (congrArg Value.bool (decide_eq_false hin1)) ?_;repeat (first |refine Ah Aa rfl ?_ |refine AD Aa 0 rfl rfl rfl ?_ |refine AD Aa 1 rfl rfl rfl ?_)
  by_cases hlim:s2.lim < x.1
  ·refine BN 112 (v':=.bool true) rfl (congrArg Value.bool (decide_eq_true hlim)) ?_;repeat (first |refine AP rfl ?_ |refine Ah Aa rfl ?_ |refine BO rfl rfl rfl ?_)
   refine AN rfl ?_;repeat (first |refine Ab ?_ |refine Ag ?_ |refine Ad ?_ |refine AC ?_ |refine Am ?_ |refine AH ?_ |refine AE Aa rfl (by omega) ?_ |refine Ae Aa rfl ?_)
   exact ⟨⟨i + 1,a16,c16,a17,c17,a18,c18,css,Fo⟩,⟨by show i + 1 <= qn;omega,by rw [hskip (.inr (.inl hlim))];exact hcss,hFo,by rw [hskip (.inr (.inl hlim))];exact hfr.up (Nat.le_succ _)⟩,(by dsimp only;rw [hskip (.inr (.inl hlim))];repeat (first |exact As.nil |refine As.cons rfl ?_)),fun w' hw=>by dsimp only;rw [hskip (.inr (.inl hlim))];exact hw.less (by repeat (first |exact Au.nil |refine Au.keep ?_ |refine Au.dropB (by first |assumption |omega) ?_)),by show qn - (i + 1) < qn - i;omega⟩
  refine BN 112 (v':=.bool false) rfl (congrArg Value.bool (decide_eq_false hlim)) ?_;repeat (first |refine Ah Aa rfl ?_ |refine AD Aa 1 rfl rfl rfl ?_)
  refine OW (fun v _=>∃ a c,v= .slice a nums.length c) rfl Tryz.call44 (fun v w w' h _=>h) (fun w' vs hw' h=>by
   obtain ⟨u1,_,rfl,rfl,rfl⟩:=h;obtain ⟨hok',_,a,c,hR⟩:=Mo (hw'.own _ (Af (i:=2) rfl)).1;refine (Iu hR hok').mono fun e w2 ⟨a',c',e1,e2,_⟩=>⟨_,e1,e2,a',c',?_⟩
   rw [hnums,HB hok'.nd]) ?_
  refine WE Aa 117 (m:=nums.length) (v:=.int .i64 (nums.length:Int)) rfl rfl rfl rfl rfl (fun a c=>rfl) ?_;repeat (first |refine BD Aa rfl (by omega) ?_ |refine Ah Aa rfl ?_ |refine AD Aa 1 rfl rfl rfl ?_)
  refine Kz rfl ?_;skip;by_cases hroom:st.room <= 0
  ·refine Ak rfl (fun _=>?_) (fun h=>absurd (show s2.q <= (nums.length:Int) + ((st.out.flatten ++ st.cur).length:Int) by omega) h);repeat (first |refine Ab ?_ |refine Ag ?_ |refine Ad ?_ |refine AC ?_ |refine Am ?_ |refine AH ?_ |refine AE Aa rfl (by omega) ?_ |refine Ae Aa rfl ?_)
   exact ⟨⟨i + 1,a16,c16,a17,c17,a18,c18,css,Fo⟩,⟨by show i + 1 <= qn;omega,by rw [hskip (.inr (.inr hroom))];exact hcss,hFo,by rw [hskip (.inr (.inr hroom))];exact hfr.up (Nat.le_succ _)⟩,(by dsimp only;rw [hskip (.inr (.inr hroom))];repeat (first |exact As.nil |refine As.cons rfl ?_)),fun w' hw=>by dsimp only;rw [hskip (.inr (.inr hroom))];exact hw.less (by repeat (first |exact Au.nil |refine Au.keep ?_ |refine Au.dropB (by first |assumption |omega) ?_)),by show qn - (i + 1) < qn - i;omega⟩
  refine Ak rfl (fun h=>absurd h (show ¬ s2.q <= (nums.length:Int) + ((st.out.flatten ++ st.cur).length:Int) by omega)) (fun _=>?_)
  have hstN:stO (i + 1)=CX x (Cc s2.p x st):=by rw [hstS,Ea,if_neg (fun h=>h.elim hin1 fun h=>h.elim hlim hroom)]
  have hfrN:=hfr.step hzz hokk2.1 (x:=x);rw [<-hstN] at hfrN;obtain ⟨st1,hst1⟩:∃ st1,st1=Cc s2.p x st:=⟨_,rfl⟩;obtain ⟨hfe1,hfe2⟩:=@HV s2.p x st;rw [<-hst1] at hstN hfe1 hfe2;repeat (first |refine Ai ?_ |refine Ab ?_ |refine Ad ?_ |refine Ao ?_ |refine Ae Aa rfl ?_)
  refine FI (ι:=Bool) (fun b=>b=true ↔ Jj s2.p x st) (fun b=>[(0,AG sb),(1,.int .i64 now),(2,.slice (some ⟨ab,off,none⟩) qn qc),(13,.slice A1 DL.length C1),(90,.slice (some ⟨ab,off,none⟩) qn qc),(91,.int .i64 (qn:Int)),(92,.int .i64 (i:Int)),(21,.pointer (some ⟨b21,0,none⟩)),(16,.slice a16 (st.out.flatten ++ st.cur).length c16),(17,.slice a17 st.cur.length c17),(18,.slice a18 st.out.length c18),(19,.int .i64 st.sum),(146,.bool b)])
   (fun _=>[.blk b21 (.cells ⟨[.int .u64 x.1,.int .i64 x.2]⟩ 90 (0,0)) true,.blk sb (FK bb s2) true,.rep (fun w=>(DH bb s2.f s2.m s2.gs s2.last).at_ w Fb3 (.bool true)) Fb3 true,.rep (fun w=>((Ay Ek).vp ql).at_ w Fq (.slice (some ⟨ab,off,none⟩) qn qc)) Fq false,.row w.heap.size (.slice a16 (st.out.flatten ++ st.cur).length c16) 32 1 (st.out.flatten ++ st.cur).length (Bj (st.out.flatten ++ st.cur)),.row w.heap.size (.slice a17 (st.cur).length c17) 32 1 (st.cur).length (Bj (st.cur)),.row w.heap.size (.slice a18 (st.out).length c18) 59 1 (st.out).length css.flatten,.rep (fun w=>(Cl (Ay (A8 .u64)) css (st.out)).at_ w Fo (.bool true)) Fo false,.row w.heap.size (.slice A1 DL.length C1) 94 2 DL.length (xs.map Dd).flatten,.rep (fun w=>(DG d1 DL.length dc xs DL).at_ w Fd (.bool true)) Fd false]) ?_ ?_
  ·by_cases hc0:0 < (st.cur.length:Int)
   ·refine Cb 131 (v':=.bool true) rfl (congrArg Value.bool (decide_eq_true hc0)) ?_;repeat (first |refine Ae Aa rfl ?_ |refine Ap Aa 1 rfl rfl rfl ?_)
    by_cases hc1:s2.p <= (st.cur.length:Int)
    ·refine Cb 139 (v':=.bool true) rfl (congrArg Value.bool (decide_eq_true hc1)) ?_;repeat (first |refine Ag ?_ |refine Ae Aa rfl ?_ |refine Bh rfl rfl rfl ?_)
     exact ⟨true,⟨fun _=>⟨hc0,.inl hc1⟩,fun _=>rfl⟩,(by repeat (first |exact As.nil |refine As.cons rfl ?_)),fun w hw=>hw⟩
    ·refine Cb 139 (v':=.bool false) rfl (congrArg Value.bool (decide_eq_false hc1)) ?_;repeat (first |refine Ag ?_ |refine AE Aa rfl (by omega) ?_ |refine Ae Aa rfl ?_ |refine Ap Aa 0 rfl rfl rfl ?_)
     exact ⟨decide (60000 < st.sum + x.2),⟨fun h=>⟨hc0,.inr (of_decide_eq_true h)⟩,fun h=>decide_eq_true (h.2.resolve_left hc1)⟩,(by repeat (first |exact As.nil |refine As.cons rfl ?_)),fun w hw=>hw⟩
   ·refine Cb 131 (v':=.bool false) rfl (congrArg Value.bool (decide_eq_false hc0)) ?_;repeat (first |refine Ag ?_ |refine Ae Aa rfl ?_ |refine Bh rfl rfl rfl ?_)
    exact ⟨false,⟨(fun h=>by cases h),fun h=>(hc0 h.1).elim⟩,(by repeat (first |exact As.nil |refine As.cons rfl ?_)),fun w hw=>hw⟩
  intro b hb
  refine BP (ι:=XF) (fun q=>q.css.flatten.length=st1.out.length/\∀ k,q.Fo k->w.heap.size <= k) (fun q=>[(0,AG sb),(1,.int .i64 now),(2,.slice (some ⟨ab,off,none⟩) qn qc),(13,.slice A1 DL.length C1),(90,.slice (some ⟨ab,off,none⟩) qn qc),(91,.int .i64 (qn:Int)),(92,.int .i64 (i:Int)),(21,.pointer (some ⟨b21,0,none⟩)),(16,.slice a16 (st.out.flatten ++ st.cur).length c16),(17,.slice q.a17 st1.cur.length q.c17),(18,.slice q.a18 st1.out.length q.c18),(19,.int .i64 st1.sum)])
   (fun q=>[.blk b21 (.cells ⟨[.int .u64 x.1,.int .i64 x.2]⟩ 90 (0,0)) true,.blk sb (FK bb s2) true,.rep (fun w=>(DH bb s2.f s2.m s2.gs s2.last).at_ w Fb3 (.bool true)) Fb3 true,.rep (fun w=>((Ay Ek).vp ql).at_ w Fq (.slice (some ⟨ab,off,none⟩) qn qc)) Fq false,.row w.heap.size (.slice a16 (st.out.flatten ++ st.cur).length c16) 32 1 (st.out.flatten ++ st.cur).length (Bj (st.out.flatten ++ st.cur)),.row w.heap.size (.slice q.a17 (st1.cur).length q.c17) 32 1 (st1.cur).length (Bj (st1.cur)),.row w.heap.size (.slice q.a18 (st1.out).length q.c18) 59 1 (st1.out).length q.css.flatten,.rep (fun w=>(Cl (Ay (A8 .u64)) q.css (st1.out)).at_ w q.Fo (.bool true)) q.Fo false,.row w.heap.size (.slice A1 DL.length C1) 94 2 DL.length (xs.map Dd).flatten,.rep (fun w=>(DG d1 DL.length dc xs DL).at_ w Fd (.bool true)) Fd false]) ?_ ?_
  ·cases b with
   |false=>
    have hnf:¬ Jj s2.p x st:=fun h=>by have:=hb.2 h;cases this
    have e1:st1=st:=by rw [hst1,Cc,if_neg hnf]
    rw [e1];refine AF rfl ?_;repeat (first |refine Ad ?_ |refine Ao ?_)
    exact ⟨⟨0,none,0,a17,c17,a18,c18,css,Fo⟩,⟨hcss,hFo⟩,(by repeat (first |exact As.nil |refine As.cons rfl ?_)),fun w' hw=>hw⟩
   |true=>
    have e1:st1= { st with out:=st.out ++ [st.cur],cur:=[],sum:=0}:=by rw [hst1,Cc,if_pos (hb.1 rfl)]
    rw [e1];dsimp only;refine AN rfl ?_;refine Gy (fun w' hw=>hw.pm [5,0,1,2,3,4,6,7,8,9] rfl rfl rfl) ?_;refine L0 ((Ay (A8 .u64)).vp st.cur) (fun w' h=>(D8 h rfl (fun n hn=>hfr.fit n (List.mem_append.2 (.inr hn)))).val) (fun Fl hFl=>?_);repeat (first |refine Ai ?_ |refine Ab ?_ |refine Ae Aa rfl ?_)
    refine AO Aa rfl rfl rfl rfl rfl rfl rfl rfl rfl rfl rfl rfl (fun b49 hb49=>?_);refine AU (ty:=0) Aa 7 (k:=1) (news:=[.slice a17 st.cur.length c17]) rfl rfl rfl rfl rfl rfl rfl rfl rfl (by decide) (fun w' hw=>Sl.of_blk (hw.own _ (Af (i:=0) rfl)) rfl (fun j u hu=>by rw [Nat.zero_add];exact hu)) (fun u hu=>by rw [List.mem_singleton] at hu;subst hu;rfl) (by simp only [maxLen];omega) (by show (_ + _) * 24 <= _;omega) rfl (fun A' C' hA' hC'=>⟨_,rfl,?_⟩);repeat (first |refine Ab ?_ |refine Ag ?_ |refine Ae Aa rfl ?_)
    have e9:(css ++ [[Value.slice a17 st.cur.length c17]]).flatten=css.flatten ++ [Value.slice a17 st.cur.length c17]:=by rw [List.flatten_append];rfl
    have e8:(st.out ++ [st.cur]).length=st.out.length + 1:=by rw [List.length_append];rfl
    refine ⟨⟨0,none,0,none,0,A',C',css ++ [[.slice a17 st.cur.length c17]],fun k=>Fl k \/ Fo k⟩,⟨by dsimp only;rw [e9,e8,List.length_append,hcss];rfl,fun k hk=>hk.elim (hFl k) (hFo k)⟩,(by dsimp only;rw [e8];repeat (first |exact As.nil |refine As.cons rfl ?_)),fun w' hw=>?_⟩;dsimp only;rw [e8,e9];have h8:=(hw.pm [1,8,2,3,4,5,6,7,9,10,0] rfl rfl rfl).merge (Ψ:=fun w=>(Cl (Ay (A8 .u64)) (css ++ [[Value.slice a17 st.cur.length c17]]) (st.out ++ [st.cur])).at_ w (fun k=>Fl k \/ Fo k) (.bool true)) (fun q1 q2=>Cl.snoc ((Cl _ _ _).mono q2 fun k hk=>.inr hk) ((Ay (A8 .u64)).at_mono q1 fun k hk=>.inl hk)) (Vp.loc (p:=Cl _ _ _));exact ((h8.nilRow 32 1).pm [2,3,4,5,6,0,7,1,8,9,10] rfl rfl rfl).less (by repeat (first |exact Au.nil |refine Au.keep ?_ |refine Au.dropB (by first |assumption |omega) ?_))
  rintro ⟨_,_,_,a17,c17,a18,c18,css,Fo⟩ ⟨hcss,hFo⟩;dsimp only at hcss hFo ⊢;repeat (first |refine Ai ?_)
  have hfe3:(st1.out.flatten ++ st1.cur).length=st1.out.flatten.length + st1.cur.length:=List.length_append;rw [hfe1] at hfe3;have hsm:=hfrN.sum;rw [hstN] at hsm;change 0 <= st1.sum + x.2/\st1.sum + x.2 <= ((i + 1:Nat):Int) * 1099511627776 at hsm
  have eN1:((CX x st1).out.flatten ++ (CX x st1).cur).length=(st.out.flatten ++ st.cur).length + 1:=by rw [Hf,hfe1,List.length_append (bs:=[x.1])];rfl
  have eN2:(CX x st1).cur.length=st1.cur.length + 1:=by show (st1.cur ++ [x.1]).length=_;rw [List.length_append];rfl
  have eN3:Bj ((CX x st1).out.flatten ++ (CX x st1).cur)=Bj (st.out.flatten ++ st.cur) ++ [.int .u64 x.1]:=by rw [Hf,hfe1];unfold Bj;rw [List.map_append];rfl
  have eN4:Bj (CX x st1).cur=Bj st1.cur ++ [.int .u64 x.1]:=by show Bj (st1.cur ++ [x.1])=_;unfold Bj;rw [List.map_append];rfl
  refine Ii (by kernel_rfl) (by kernel_rfl) [3,4,8,9,10,11] (by kernel_rfl) (by kernel_rfl) (by kernel_rfl) (by kernel_rfl) [.blk b21 (.cells ⟨[.int .u64 x.1,.int .i64 x.2]⟩ 90 (0,0)) false] (CH DO)
   [some (.slice a17 st1.cur.length c17),some (.pointer (some ⟨b21,0 + 0,none⟩)),some (.int .u64 x.1),none,none,some (.slice a16 (st.out.flatten ++ st.cur).length c16),some (.pointer (some ⟨b21,0 + 0,none⟩)),some (.int .u64 x.1),none,none,none,none]
   ⟨.inr ⟨_,_,rfl,rfl,fun w f=>Ah Aa rfl Aj⟩,.inr ⟨_,_,rfl,rfl,fun w f=>Ah Aa rfl Aj⟩,.inr ⟨_,_,rfl,rfl,fun w f=>AD Aa 0 rfl rfl rfl Aj⟩,.inl rfl,.inl rfl,.inr ⟨_,_,rfl,rfl,fun w f=>Ah Aa rfl Aj⟩,.inr ⟨_,_,rfl,rfl,fun w f=>Ah Aa rfl Aj⟩,.inr ⟨_,_,rfl,rfl,fun w f=>AD Aa 0 rfl rfl rfl Aj⟩,.inl rfl,.inl rfl,.inl rfl,.inl rfl,trivial⟩ ?_
  refine DA (i:=3) (i2:=8) [(153,.int .u64 x.1)] [(158,.int .u64 x.1)] (.inr (AL 0 rfl AW)) (by kernel_rfl) rfl rfl (.cons rfl rfl .nil) (.cons rfl rfl .nil) ?_ ?_
  ·refine AO Aa rfl rfl rfl rfl rfl rfl rfl rfl rfl rfl rfl rfl (fun b3 hb3=>?_);refine Ag ⟨_,rfl,(fun u h=>by cases h),?_⟩;refine DA (i:=4) (i2:=8) [(151,.slice a17 st1.cur.length c17),(154,.slice (some ⟨b3,0,none⟩) 1 1)] [(158,.int .u64 x.1)] (.inr (AL 1 rfl AW)) (by kernel_rfl) rfl rfl (.cons rfl rfl (.cons rfl rfl .nil)) (.cons rfl rfl .nil) ?_ ?_
   ·refine AU (ty:=0) Aa 6 (k:=1) (news:=[.int .u64 x.1]) rfl rfl rfl rfl rfl rfl rfl rfl rfl (by decide) (fun w' hw=>Sl.of_blk (hw.own _ (Af (i:=0) rfl)) rfl (fun j u hu=>by rw [Nat.zero_add];exact hu)) (fun u hu=>by rw [List.mem_singleton] at hu;subst hu;rfl) (by simp only [maxLen];omega) (by show (_ + _) * 8 <= _;omega) rfl (fun A4 C4 hA' hC'=>⟨_,rfl,?_⟩);refine Ag ⟨_,rfl,(fun u h=>by cases h),?_⟩;refine AS (i:=8) [(158,.int .u64 x.1)] (.inr (AL 1 rfl AW)) (by kernel_rfl) rfl (.cons rfl rfl .nil) ?_;refine AO Aa rfl rfl rfl rfl rfl rfl rfl rfl rfl rfl rfl rfl (fun b8 hb8=>?_);refine Ag ⟨_,rfl,(fun u h=>by cases h),?_⟩;refine AS (i:=9) [(156,.slice a16 (st.out.flatten ++ st.cur).length c16),(159,.slice (some ⟨b8,0,none⟩) 1 1)] (.inr (AL 2 rfl AW)) (by kernel_rfl) rfl (.cons rfl rfl (.cons rfl rfl .nil)) ?_;refine AU (ty:=0) Aa 6 (k:=1) (news:=[.int .u64 x.1]) rfl rfl rfl rfl rfl rfl rfl rfl rfl (by decide) (fun w' hw=>Sl.of_blk (hw.own _ (Af (i:=0) rfl)) rfl (fun j u hu=>by rw [Nat.zero_add];exact hu)) (fun u hu=>by rw [List.mem_singleton] at hu;subst hu;rfl) (by simp only [maxLen];omega) (by show (_ + _) * 8 <= _;omega) rfl (fun A9 C9 hA' hC'=>⟨_,rfl,?_⟩);refine Ag ⟨_,rfl,(fun u h=>by cases h),?_⟩;refine AS (i:=10) [(155,.slice A4 (st1.cur.length + 1) C4)] (.inr (AL 2 rfl AW)) (by kernel_rfl) rfl (.cons rfl rfl .nil) ?_;refine Ae Aa rfl ?_;refine Ag ⟨_,rfl,(fun u h=>by cases h),?_⟩
    refine AS (i:=11) [(160,.slice A9 ((st.out.flatten ++ st.cur).length + 1) C9)] (.inl (by kernel_rfl)) (by kernel_rfl) rfl (.cons rfl rfl .nil) ?_;refine Ae Aa rfl ?_;refine Ag ⟨_,rfl,(fun u h=>by cases h),?_⟩;refine Cv [(0,AG sb),(1,.int .i64 now),(2,.slice (some ⟨ab,off,none⟩) qn qc),(13,.slice A1 DL.length C1),(90,.slice (some ⟨ab,off,none⟩) qn qc),(91,.int .i64 (qn:Int)),(92,.int .i64 (i:Int)),(21,.pointer (some ⟨b21,0,none⟩)),(16,.slice A9 ((st.out.flatten ++ st.cur).length + 1) C9),(17,.slice A4 (st1.cur.length + 1) C4),(18,.slice a18 st1.out.length c18),(19,.int .i64 st1.sum)] (by repeat (first |exact Bg.nil |refine Bg.cons rfl ?_)) ?_;repeat (first |refine Ab ?_ |refine Ag ?_ |refine Ad ?_ |refine Al ?_ |refine AE Aa rfl (by omega) ?_ |refine Ae Aa rfl ?_ |refine Aq ?_ |refine Ap Aa 2 rfl rfl rfl ?_)
    refine ⟨⟨i + 1,A9,C9,A4,C4,a18,c18,css,Fo⟩,⟨by show i + 1 <= qn;omega,by rw [hstN];exact hcss,hFo,hfrN⟩,(by dsimp only;rw [hstN,eN1,eN2];repeat (first |exact As.nil |refine As.cons rfl ?_)),fun w' hw=>?_,by show qn - (i + 1) < qn - i;omega⟩;dsimp only;rw [hstN,eN1,eN2,eN3,eN4];exact (hw.pm [3,4,5,6,7,8,9,10,11,2,0,1] rfl rfl rfl).less (by repeat (first |exact Au.nil |refine Au.keep ?_ |refine Au.dropB (by first |assumption |omega) ?_))
   ·refine AO Aa rfl rfl rfl rfl rfl rfl rfl rfl rfl rfl rfl rfl (fun b8 hb8=>?_);refine Ag ⟨_,rfl,(fun u h=>by cases h),?_⟩;refine AS (i:=4) [(151,.slice a17 st1.cur.length c17),(154,.slice (some ⟨b3,0,none⟩) 1 1)] (.inr (AL 2 rfl AW)) (by kernel_rfl) rfl (.cons rfl rfl (.cons rfl rfl .nil)) ?_;refine AU (ty:=0) Aa 7 (k:=1) (news:=[.int .u64 x.1]) rfl rfl rfl rfl rfl rfl rfl rfl rfl (by decide) (fun w' hw=>Sl.of_blk (hw.own _ (Af (i:=1) rfl)) rfl (fun j u hu=>by rw [Nat.zero_add];exact hu)) (fun u hu=>by rw [List.mem_singleton] at hu;subst hu;rfl) (by simp only [maxLen];omega) (by show (_ + _) * 8 <= _;omega) rfl (fun A4 C4 hA' hC'=>⟨_,rfl,?_⟩);refine Ag ⟨_,rfl,(fun u h=>by cases h),?_⟩;refine AS (i:=9) [(156,.slice a16 (st.out.flatten ++ st.cur).length c16),(159,.slice (some ⟨b8,0,none⟩) 1 1)] (.inr (AL 2 rfl AW)) (by kernel_rfl) rfl (.cons rfl rfl (.cons rfl rfl .nil)) ?_;refine AU (ty:=0) Aa 6 (k:=1) (news:=[.int .u64 x.1]) rfl rfl rfl rfl rfl rfl rfl rfl rfl (by decide) (fun w' hw=>Sl.of_blk (hw.own _ (Af (i:=0) rfl)) rfl (fun j u hu=>by rw [Nat.zero_add];exact hu)) (fun u hu=>by rw [List.mem_singleton] at hu;subst hu;rfl) (by simp only [maxLen];omega) (by show (_ + _) * 8 <= _;omega) rfl (fun A9 C9 hA' hC'=>⟨_,rfl,?_⟩);refine Ag ⟨_,rfl,(fun u h=>by cases h),?_⟩;refine AS (i:=10) [(155,.slice A4 (st1.cur.length + 1) C4)] (.inr (AL 2 rfl AW)) (by kernel_rfl) rfl (.cons rfl rfl .nil) ?_;refine Ae Aa rfl ?_;refine Ag ⟨_,rfl,(fun u h=>by cases h),?_⟩
    refine AS (i:=11) [(160,.slice A9 ((st.out.flatten ++ st.cur).length + 1) C9)] (.inl (by kernel_rfl)) (by kernel_rfl) rfl (.cons rfl rfl .nil) ?_;refine Ae Aa rfl ?_;refine Ag ⟨_,rfl,(fun u h=>by cases h),?_⟩;refine Cv [(0,AG sb),(1,.int .i64 now),(2,.slice (some ⟨ab,off,none⟩) qn qc),(13,.slice A1 DL.length C1),(90,.slice (some ⟨ab,off,none⟩) qn qc),(91,.int .i64 (qn:Int)),(92,.int .i64 (i:Int)),(21,.pointer (some ⟨b21,0,none⟩)),(16,.slice A9 ((st.out.flatten ++ st.cur).length + 1) C9),(17,.slice A4 (st1.cur.length + 1) C4),(18,.slice a18 st1.out.length c18),(19,.int .i64 st1.sum)] (by repeat (first |exact Bg.nil |refine Bg.cons rfl ?_)) ?_;repeat (first |refine Ab ?_ |refine Ag ?_ |refine Ad ?_ |refine Al ?_ |refine AE Aa rfl (by omega) ?_ |refine Ae Aa rfl ?_ |refine Aq ?_ |refine Ap Aa 2 rfl rfl rfl ?_)
    refine ⟨⟨i + 1,A9,C9,A4,C4,a18,c18,css,Fo⟩,⟨by show i + 1 <= qn;omega,by rw [hstN];exact hcss,hFo,hfrN⟩,(by dsimp only;rw [hstN,eN1,eN2];repeat (first |exact As.nil |refine As.cons rfl ?_)),fun w' hw=>?_,by show qn - (i + 1) < qn - i;omega⟩;dsimp only;rw [hstN,eN1,eN2,eN3,eN4];exact (hw.pm [3,4,5,6,7,8,9,10,11,2,0,1] rfl rfl rfl).less (by repeat (first |exact Au.nil |refine Au.keep ?_ |refine Au.dropB (by first |assumption |omega) ?_))
  ·refine AO Aa rfl rfl rfl rfl rfl rfl rfl rfl rfl rfl rfl rfl (fun b8 hb8=>?_);refine Ag ⟨_,rfl,(fun u h=>by cases h),?_⟩;refine AS (i:=3) [(153,.int .u64 x.1)] (.inr (AL 1 rfl AW)) (by kernel_rfl) rfl (.cons rfl rfl .nil) ?_;refine AO Aa rfl rfl rfl rfl rfl rfl rfl rfl rfl rfl rfl rfl (fun b3 hb3=>?_);refine Ag ⟨_,rfl,(fun u h=>by cases h),?_⟩;refine AS (i:=4) [(151,.slice a17 st1.cur.length c17),(154,.slice (some ⟨b3,0,none⟩) 1 1)] (.inr (AL 2 rfl AW)) (by kernel_rfl) rfl (.cons rfl rfl (.cons rfl rfl .nil)) ?_;refine AU (ty:=0) Aa 7 (k:=1) (news:=[.int .u64 x.1]) rfl rfl rfl rfl rfl rfl rfl rfl rfl (by decide) (fun w' hw=>Sl.of_blk (hw.own _ (Af (i:=0) rfl)) rfl (fun j u hu=>by rw [Nat.zero_add];exact hu)) (fun u hu=>by rw [List.mem_singleton] at hu;subst hu;rfl) (by simp only [maxLen];omega) (by show (_ + _) * 8 <= _;omega) rfl (fun A4 C4 hA' hC'=>⟨_,rfl,?_⟩);refine Ag ⟨_,rfl,(fun u h=>by cases h),?_⟩;refine AS (i:=9) [(156,.slice a16 (st.out.flatten ++ st.cur).length c16),(159,.slice (some ⟨b8,0,none⟩) 1 1)] (.inr (AL 2 rfl AW)) (by kernel_rfl) rfl (.cons rfl rfl (.cons rfl rfl .nil)) ?_;refine AU (ty:=0) Aa 6 (k:=1) (news:=[.int .u64 x.1]) rfl rfl rfl rfl rfl rfl rfl rfl rfl (by decide) (fun w' hw=>Sl.of_blk (hw.own _ (Af (i:=1) rfl)) rfl (fun j u hu=>by rw [Nat.zero_add];exact hu)) (fun u hu=>by rw [List.mem_singleton] at hu;subst hu;rfl) (by simp only [maxLen];omega) (by show (_ + _) * 8 <= _;omega) rfl (fun A9 C9 hA' hC'=>⟨_,rfl,?_⟩)
   refine Ag ⟨_,rfl,(fun u h=>by cases h),?_⟩;refine AS (i:=10) [(155,.slice A4 (st1.cur.length + 1) C4)] (.inr (AL 2 rfl AW)) (by kernel_rfl) rfl (.cons rfl rfl .nil) ?_;refine Ae Aa rfl ?_;refine Ag ⟨_,rfl,(fun u h=>by cases h),?_⟩;refine AS (i:=11) [(160,.slice A9 ((st.out.flatten ++ st.cur).length + 1) C9)] (.inl (by kernel_rfl)) (by kernel_rfl) rfl (.cons rfl rfl .nil) ?_;refine Ae Aa rfl ?_;refine Ag ⟨_,rfl,(fun u h=>by cases h),?_⟩;refine Cv [(0,AG sb),(1,.int .i64 now),(2,.slice (some ⟨ab,off,none⟩) qn qc),(13,.slice A1 DL.length C1),(90,.slice (some ⟨ab,off,none⟩) qn qc),(91,.int .i64 (qn:Int)),(92,.int .i64 (i:Int)),(21,.pointer (some ⟨b21,0,none⟩)),(16,.slice A9 ((st.out.flatten ++ st.cur).length + 1) C9),(17,.slice A4 (st1.cur.length + 1) C4),(18,.slice a18 st1.out.length c18),(19,.int .i64 st1.sum)] (by repeat (first |exact Bg.nil |refine Bg.cons rfl ?_)) ?_;repeat (first |refine Ab ?_ |refine Ag ?_ |refine Ad ?_ |refine Al ?_ |refine AE Aa rfl (by omega) ?_ |refine Ae Aa rfl ?_ |refine Aq ?_ |refine Ap Aa 2 rfl rfl rfl ?_)
   refine ⟨⟨i + 1,A9,C9,A4,C4,a18,c18,css,Fo⟩,⟨by show i + 1 <= qn;omega,by rw [hstN];exact hcss,hFo,hfrN⟩,(by dsimp only;rw [hstN,eN1,eN2];repeat (first |exact As.nil |refine As.cons rfl ?_)),fun w' hw=>?_,by show qn - (i + 1) < qn - i;omega⟩;dsimp only;rw [hstN,eN1,eN2,eN3,eN4];exact (hw.pm [3,4,5,6,7,8,9,10,11,2,0,1] rfl rfl rfl).less (by repeat (first |exact Au.nil |refine Au.keep ?_ |refine Au.dropB (by first |assumption |omega) ?_))
 rintro ⟨_,_,_,a17,c17,a18,c18,css,Fo⟩ ⟨hcss,hFo,hfr⟩;dsimp only at hcss hFo hfr ⊢
 have hstq:stO qn=F5 s2.p s2.lim nums ql (Da s2.q nums):=by
  rw [hstO];dsimp only;rw [List.take_of_length_le (by omega)]
 obtain ⟨st,hst⟩:∃ st,st=stO qn:=⟨_,rfl⟩;obtain ⟨FL,hFL⟩:∃ t,t=s2.batch now ql:=⟨_,rfl⟩
 have hFLe:FL=st.out ++ if 0 < (st.cur.length:Int) then [st.cur] else []:=by
  rw [hFL,hst,hstq];show Dy s2.p s2.q s2.lim (AA s2.gs) ql=_;rw [<-hnums];exact Pm hp1 (hqs0 ▸ hqs)
 rw [<-hst] at hcss hfr ⊢;have hfo1:=hfr.out;have hfo2:=hfr.fl;have hFll:=IF s2.p s2.q s2.lim (AA s2.gs) ql;rw [show Dy s2.p s2.q s2.lim (AA s2.gs) ql=FL from hFL.symm,hql] at hFll;repeat (first |refine Ai ?_ |refine Ab ?_ |refine Ag ?_ |refine Ae Aa rfl ?_)
 refine BP (ι:=XF) (fun q=>q.css.flatten.length=FL.length/\∀ k,q.Fo k->w.heap.size <= k) (fun q=>[(0,AG sb),(1,.int .i64 now),(2,.slice qa qn qc),(13,.slice A1 DL.length C1),(18,.slice q.a18 FL.length q.c18)])
  (fun q=>[.row w.heap.size (.slice q.a18 FL.length q.c18) 59 1 FL.length q.css.flatten,.rep (fun w=>(Cl (Ay (A8 .u64)) q.css FL).at_ w q.Fo (.bool true)) q.Fo false,.blk sb (FK bb s2) true,.rep (fun w=>(DH bb s2.f s2.m s2.gs s2.last).at_ w Fb3 (.bool true)) Fb3 true,.row w.heap.size (.slice A1 DL.length C1) 94 2 DL.length (xs.map Dd).flatten,.rep (fun w=>(DG d1 DL.length dc xs DL).at_ w Fd (.bool true)) Fd false]) ?_ ?_
 ·refine Ak rfl (fun hlt=>?_) (fun hge=>?_)
  ·rw [if_pos hlt] at hFLe
   have e8:FL.length=st.out.length + 1:=by rw [hFLe,List.length_append];rfl
   refine Gy (fun w' hw=>hw.pm [2,0,1,3,4,5,6] rfl rfl rfl) ?_;refine L0 ((Ay (A8 .u64)).vp st.cur) (fun w' h=>(D8 h rfl (fun n hn=>hfr.fit n (List.mem_append.2 (.inr hn)))).val) (fun Fl hFl=>?_);repeat (first |refine Ab ?_ |refine Ae Aa rfl ?_)
   refine AO Aa rfl rfl rfl rfl rfl rfl rfl rfl rfl rfl rfl rfl (fun b49 hb49=>?_);refine AU (ty:=0) Aa 4 (k:=1) (news:=[.slice a17 st.cur.length c17]) rfl rfl rfl rfl rfl rfl rfl rfl rfl (by decide) (fun w' hw=>Sl.of_blk (hw.own _ (Af (i:=0) rfl)) rfl (fun j u hu=>by rw [Nat.zero_add];exact hu)) (fun u hu=>by rw [List.mem_singleton] at hu;subst hu;rfl) (by simp only [maxLen];omega) (by show (_ + _) * 24 <= _;omega) rfl (fun A' C' hA' hC'=>⟨_,rfl,?_⟩);repeat (first |refine Ag ?_ |refine Ae Aa rfl ?_)
   have e9:(css ++ [[Value.slice a17 st.cur.length c17]]).flatten=css.flatten ++ [Value.slice a17 st.cur.length c17]:=by rw [List.flatten_append];rfl
   refine ⟨⟨0,none,0,none,0,A',C',css ++ [[.slice a17 st.cur.length c17]],fun k=>Fl k \/ Fo k⟩,⟨by dsimp only;rw [e9,e8,List.length_append,hcss];rfl,fun k hk=>hk.elim (hFl k) (hFo k)⟩,(by dsimp only;rw [e8];repeat (first |exact As.nil |refine As.cons rfl ?_)),fun w' hw=>?_⟩;dsimp only;rw [e8,e9,hFLe];have h8:=(hw.pm [1,5,0,2,3,4,6,7] rfl rfl rfl).merge (Ψ:=fun w=>(Cl (Ay (A8 .u64)) (css ++ [[Value.slice a17 st.cur.length c17]]) (st.out ++ [st.cur])).at_ w (fun k=>Fl k \/ Fo k) (.bool true)) (fun q1 q2=>Cl.snoc ((Cl _ _ _).mono q2 fun k hk=>.inr hk) ((Ay (A8 .u64)).at_mono q1 fun k hk=>.inl hk)) (Vp.loc (p:=Cl _ _ _));exact (h8.pm [4,0,2,3,5,6,1] rfl rfl rfl).less (by repeat (first |exact Au.nil |refine Au.keep ?_ |refine Au.dropB (by first |assumption |omega) ?_))
  ·rw [if_neg hge,List.append_nil] at hFLe;repeat (first |refine Ad ?_ |refine Ao ?_)
   exact ⟨⟨0,none,0,none,0,a18,c18,css,Fo⟩,⟨by rw [hFLe];exact hcss,hFo⟩,(by dsimp only;rw [hFLe];repeat (first |exact As.nil |refine As.cons rfl ?_)),fun w' hw=>by
    dsimp only;rw [hFLe]
    exact (hw.pm [3,4,0,1,5,6,2] rfl rfl rfl).less (by repeat (first |exact Au.nil |refine Au.keep ?_ |refine Au.dropW (Nat.le_refl _) ?_))⟩
 rintro ⟨_,_,_,_,_,e1,ec_,css,Fo⟩ ⟨hcss,hFo⟩;dsimp only at hcss hFo ⊢;refine MU (ι:=List SX × (Nat->Prop)) (fun q=>(∀ k,q.2 k->w.heap.size <= k)/\q.1.length=FL.length) (fun q=>[.rep (fun w=>(DG e1 FL.length ec_ q.1 FL).at_ w q.2 (.bool true)) q.2 false,.blk sb (FK bb s2) true,.rep (fun w=>(DH bb s2.f s2.m s2.gs s2.last).at_ w Fb3 (.bool true)) Fb3 true,.row w.heap.size (.slice A1 DL.length C1) 94 2 DL.length (xs.map Dd).flatten,.rep (fun w=>(DG d1 DL.length dc xs DL).at_ w Fd (.bool true)) Fd false]) (fun w' hw=>?_) ?_
 ·obtain ⟨Fr,hFr,h1⟩:=hw.share (p:=JH w.heap.size 59 1 FL.length css.flatten) (fun h=>⟨h,fun k hk=>hk⟩);have h2:=h1.merge (Ψ:=fun w=>((Ay (Ay (A8 .u64))).vp FL).at_ w (fun k=>Fr k \/ Fo k) (.slice e1 FL.length ec_)) (fun q1 q2=>(Cl.slr (R:=Ay (A8 .u64)) ((Cl _ _ _).mono q2 fun k hk=>.inr hk) q1.1 rfl fun k _ hk=>.inl (q1.2 k hk)).val) (Vp.loc (p:=(Ay (Ay (A8 .u64))).vp _));obtain ⟨a,ln,c,ys,he,hx⟩:=Sf (h2.own _ (Af (i:=0) rfl)).1;cases he;exact ⟨(ys,fun k=>Fr k \/ Fo k),⟨fun k hk=>hk.elim (hFr k) (hFo k),(DG.len hx).2⟩,h2.mapI 0 rfl (Ψ:=fun w=>(DG e1 FL.length ec_ ys FL).at_ w (fun k=>Fr k \/ Fo k) (.bool true)) (fun _=>hx) (Vp.loc (p:=DG _ _ _ _ _)) rfl⟩
 rintro ⟨ys,Ff⟩ ⟨hFf,hyl⟩;dsimp only at hFf hyl ⊢;have hsl:=fun (j:Nat)=>Bn.sendAll_len now (FL.take j) s2;repeat (first |refine Ai ?_ |refine Ab ?_ |refine Ar ?_ |refine Ag ?_ |refine Ae Aa rfl ?_)
 refine AM (ι:=Nat × Option Addr × Nat × (Nat->Prop)) (fun j=>[(0,AG sb),(1,.int .i64 now),(2,.slice qa qn qc),(13,.slice j.2.1 (DL.length + j.1) j.2.2.1),(173,.slice e1 FL.length ec_),(174,.int .i64 (FL.length:Int)),(175,.int .i64 (j.1:Int))])
  (fun j=>[.rep (fun w=>(DG e1 FL.length ec_ ys FL).at_ w Ff (.bool true)) Ff false,.row w.heap.size (.slice j.2.1 (DL.length + j.1) j.2.2.1) 94 2 (DL.length + j.1) ((xs ++ ys.take j.1).map Dd).flatten,.rep (fun w=>(DG d1 DL.length dc xs DL).at_ w Fd (.bool true)) Fd false,.blk sb (FK bb s2) true,.rep (fun w=>(DH bb s2.f s2.m (s2.sendAll now (FL.take j.1)).gs (s2.sendAll now (FL.take j.1)).last).at_ w j.2.2.2 (.bool true)) j.2.2.2 true])
  (fun j=>j.1 <= FL.length/\∀ k,j.2.2.2 k->F k \/ w.heap.size <= k) (fun j=>FL.length - j.1) (0,A1,C1,Fb3) ⟨Nat.zero_le _,hFb4⟩ (by repeat (first |exact As.nil |refine As.cons rfl ?_)) (fun w' hw=>?_) ?_
 ·dsimp only;rw [List.take_zero (l:=ys),List.append_nil];exact hw.pm [0,3,4,1,2] rfl rfl rfl
 rintro ⟨j,A2,C2,Fj⟩ ⟨hj,hFj⟩;dsimp only at hj hFj ⊢;repeat (first |refine Ai ?_ |refine Ab ?_ |refine Ag ?_ |refine Ae Aa rfl ?_)
 refine Ak rfl (fun hlt1=>?_) (fun hge2=>?_)
 ·have hin:j < FL.length:=by omega
  obtain ⟨l',hl'⟩:∃ l',FL[j]? =some l':=⟨_,List.getElem?_eq_getElem hin⟩;obtain ⟨⟨ya,yn,yc⟩,hy⟩:∃ x,ys[j]? =some x:=⟨_,List.getElem?_eq_getElem (by omega)⟩;have hslj:=hsl j
  have htk:FL.take (j + 1)=FL.take j ++ [l']:=by
   rw [List.take_succ_eq_append_getElem hin];rw [List.getElem?_eq_getElem hin] at hl';rw [Option.some.inj hl']
  have hfl:(FL.take j).flatten.length + l'.length <= qn:=by
   have h1:((FL.take j).flatten ++ l').length <= FL.flatten.length:=by
    have h2:((FL.take (j + 1)).flatten).length <= FL.flatten.length:=by
     conv=>rhs;rw [<-List.take_append_drop (j + 1) FL,List.flatten_append,List.length_append]
     omega
    rw [htk,List.flatten_append] at h2;simpa using h2
   rw [List.length_append] at h1;omega
  have htl:(FL.take j).length=j:=by rw [List.length_take];omega
  rw [htl] at hslj;refine Fh (X:=(∃ b off,e1=some ⟨b,off,none⟩)/\l'.length=yn) (fun w1 g1=>⟨DG.addr (g1.own _ (Af (i:=0) rfl)).1 (by omega),(DG.get (g1.own _ (Af (i:=0) rfl)).1 hy hl').len⟩) (fun ⟨⟨b5,o5,e5⟩,hyn⟩=>?_);subst e5 hyn;repeat (first |refine Ai ?_ |refine Ab ?_ |refine Ar ?_ |refine Ad ?_ |refine Ao ?_)
  refine BF (Bu (sz:=1) Aa rfl rfl rfl rfl rfl rfl rfl (j:=j) rfl hin) ?_;refine Bb Aa (v:=.slice ya l'.length yc) rfl rfl (fun w1 h1=>by rw [Nat.mul_one];exact DG.cell (h1.own _ (Af (i:=0) rfl)).1 hy) ?_;repeat (first |refine Ai ?_ |refine Ab ?_ |refine Ag ?_ |refine Ae Aa rfl ?_ |refine Ap Aa 3 rfl rfl rfl ?_)
  refine PC 4 (L:=l') rfl rfl (fun w1 g1=>⟨Ff,DG.get (g1.own _ (Af (i:=0) rfl)).1 hy hl',fun k hk hF=>g1.dis 0 4 rfl rfl rfl rfl hk hF⟩) hnow (by omega) (by omega) (by omega) (fun F7 hF7=>⟨_,rfl,?_⟩);repeat (first |refine Ag ?_ |refine Ae Aa rfl ?_ |refine Aq ?_ |refine BF (Bf Aa rfl rfl rfl rfl rfl rfl rfl) ?_)
  refine AO Aa rfl rfl rfl rfl rfl rfl rfl rfl rfl rfl rfl rfl (fun nb hnb=>?_)
  refine AU (ty:=0) (k:=1) (news:=[.int .i64 3,.slice ya l'.length yc]) Aa 2 (sz:=2) rfl rfl rfl rfl rfl rfl rfl rfl rfl (by decide) (fun w' hw=>Sl.of_blk (hw.own _ (Af (i:=0) rfl)) rfl (fun j u hu=>by rw [Nat.zero_add];exact hu)) (fun u hu=>by
   simp only [List.mem_cons,List.not_mem_nil,or_false] at hu
   rcases hu with rfl |rfl<;>rfl) (by simp only [maxLen];omega) (by show (_ + _) * 32 <= _;omega) rfl (fun A' C' hA' hC'=>⟨_,rfl,?_⟩)
  repeat (first |refine Ab ?_ |refine Ag ?_ |refine Ad ?_ |refine Al ?_ |refine AE Aa rfl (by omega) ?_ |refine Ae Aa rfl ?_)
  refine ⟨(j + 1,A',C',F7),⟨hin,fun k hk=>(hF7 k hk).elim (hFj k) .inr⟩,(by repeat (first |exact As.nil |refine As.cons rfl ?_)),fun w' hw=>?_,by dsimp only;omega⟩
  have e9:((xs ++ ys.take (j + 1)).map Dd).flatten=((xs ++ ys.take j).map Dd).flatten ++ [.int .i64 3,.slice ya l'.length yc]:=by
   rw [List.getElem?_eq_some_iff] at hy;obtain ⟨hy1,hy2⟩:=hy;rw [List.take_succ_eq_append_getElem hy1,hy2,<-List.append_assoc,List.map_append,List.flatten_append];rfl
  obtain ⟨q1,q2,_⟩:=Bn.sendAll_eq now (FL.take j) s2
  have e10:DH bb s2.f s2.m (s2.sendAll now (FL.take (j + 1))).gs (s2.sendAll now (FL.take (j + 1))).last=DH bb s2.f s2.m (B5 s2.f s2.m (s2.sendAll now (FL.take j)).gs (s2.sendAll now (FL.take j)).last now l').1 (B5 s2.f s2.m (s2.sendAll now (FL.take j)).gs (s2.sendAll now (FL.take j)).last now l').2.1:=by
   rw [htk,Bn.sendAll_snoc];show DH bb s2.f s2.m (B5 (s2.sendAll now (FL.take j)).f (s2.sendAll now (FL.take j)).m _ _ now l').1 (B5 (s2.sendAll now (FL.take j)).f (s2.sendAll now (FL.take j)).m _ _ now l').2.1=_;rw [q1,q2]
  dsimp only;rw [e9,e10];exact hw.less (by repeat (first |exact Au.nil |refine Au.keep ?_ |refine Au.dropB (by first |assumption |omega) ?_))
 have hje:j=FL.length:=by omega
 subst hje;obtain ⟨s3,hs3⟩:∃ t,t=s2.sendAll now FL:=⟨_,rfl⟩;rw [List.take_length,<-hs3,List.take_of_length_le (show ys.length <= FL.length by omega)];obtain ⟨a1,a2,a3,a4,a5,a6,a7,a8,a9,a10⟩:=Bn.sendAll_eq now FL s2;rw [<-hs3] at a1 a2 a3 a4 a5 a6 a7 a8 a9 a10
 have e3:FK bb s2=FK bb s3:=by
  unfold FK;rw [a1,a2,a3,a4,a5,a6,a7,a8,a9,a10]
 have hok3:D6 s3:=⟨by rw [a1,a2,a3,a4];exact hok2.conf,by rw [a5];exact hok2.ep,by rw [a7];exact hok2.inc,by rw [a8];exact hok2.lim,by rw [a9];exact hok2.tm,by rw [a10];exact hok2.tr⟩
 have hs3o:s.open_ now ql=s3:=by rw [hs3,hFL,hs2,hqs0];rfl
 have hs3t:s3.tr=s.tr:=by rw [a10,hs2];rfl
 have hs3u:s3.tm=s.tm:=by rw [a9,hs2];rfl
 have hout:s.outs now ql=(DL ++ FL).map fun l=>((3:Int),l):=by rw [hDL,hFL,hs2,hqs0];rfl
 have fin2:∀ (s4:Bn) (w':World) (A:Option Addr) (C:Nat) (ec:List (List Value)) (eo:List (Int × List Int)),(∀ F:Nat->Prop,(Cl Kw ec eo).at_ w' F (.bool true))->s.told now ql=s.outs now ql ++ eo->s.tick now ql=s4->D6 s4->DH bb s4.f s4.m s4.gs s4.last=DH bb s2.f s2.m s3.gs s3.last->
  Hp w w' [.blk sb (FK bb s4) true,.rep (fun w=>(DG e1 FL.length ec_ ys FL).at_ w Ff (.bool true)) Ff false,.row w.heap.size (.slice A (DL.length + FL.length + eo.length) C) 94 2 (DL.length + FL.length + eo.length) ((xs ++ ys).map Dd ++ ec).flatten,.rep (fun w=>(DG d1 DL.length dc xs DL).at_ w Fd (.bool true)) Fd false,.rep (fun w=>(DH bb s2.f s2.m s3.gs s3.last).at_ w Fj (.bool true)) Fj true]->
  ∃ (v':Value) (Fv F':Nat->Prop),Ending.returned (.slice A (DL.length + FL.length + eo.length) C)= .returned v'/\(∀ k,Fv k->w.heap.size <= k)/\(∀ k,F k->F' k)/\(∀ k,F' k->F k \/ w.heap.size <= k)/\Hp w w' [.rep (fun w=>(G7.vp (s.told now ql)).at_ w Fv v') Fv false,.rep (fun w=>(I5 sb (s.tick now ql)).at_ w F' (.bool true)) F' true]:=fun s4 w' A C ec eo hec hto htk hok4 ebo hw=>by
  obtain ⟨Fr,hFr,h1⟩:=(hw.pm [2,0,1,3,4] rfl rfl rfl).share (p:=JH w.heap.size 94 2 (DL.length + FL.length + eo.length) ((xs ++ ys).map Dd ++ ec).flatten) (fun h=>⟨h,fun k hk=>hk⟩)
  have h2:=(h1.pm [2,3,0,1,4] rfl rfl rfl).merge (Ψ:=fun w=>(Cl Kw ((xs ++ ys).map Dd ++ ec) (s.told now ql)).at_ w (fun k=>Ff k \/ Fd k) (.bool true)) (fun q1 q2=>by
   rw [hto,hout,List.map_append,List.map_append]
   exact Cl.append (Cl.append ((Cl _ _ _).mono (UH q2) fun k hk=>.inr hk) ((Cl _ _ _).mono (UH q1) fun k hk=>.inl hk)) (hec _)) (Vp.loc (p:=Cl _ _ _))
  have h3:=(h2.pm [1,0,2,3] rfl rfl rfl).merge (Ψ:=fun w=>(G7.vp (s.told now ql)).at_ w (fun k=>Fr k \/ (Ff k \/ Fd k)) (.slice A (DL.length + FL.length + eo.length) C)) (fun q1 q2=>(Cl.slr (R:=Kw) ((Cl _ _ _).mono q2 fun k hk=>.inr hk) q1.1 (by rw [hto,hout,List.length_append,List.length_map,List.length_append]) fun k _ hk=>.inl (q1.2 k hk)).val) (Vp.loc (p:=G7.vp _));refine fin s4 Fj (fun k=>Fr k \/ (Ff k \/ Fd k)) w' _ ?_ hok4 hFj (fun k hk=>hk.elim (hFr k) fun h=>h.elim (hFf k) (hFd k)) htk;rw [ebo];exact h3.pm [1,2,0] rfl rfl rfl
 have hslN:=hsl FL.length;rw [List.take_length,<-hs3] at hslN;rw [e3];repeat (first |refine Ai ?_ |refine Ab ?_ |refine Ad ?_ |refine AC ?_ |refine Am ?_ |refine AH ?_ |refine Ae Aa rfl ?_ |refine Ap Aa 3 rfl rfl rfl ?_)
 refine OO 4 rfl rfl (fun a9' c9' hc9 hd9=>?_);obtain ⟨U9,hU9⟩:∃ U9,U9=By (AA s3.gs):=⟨_,rfl⟩;rw [<-hU9] at hc9 ⊢
 have hbusy:s.busy now ql ↔ (0 < ((AA s3.gs).length:Int) \/ (ql.length:Int)=0):=by show (0 < ((AA (s.open_ now ql).gs).length:Int) \/ _) ↔ _;rw [hs3o]
 have hU0:U9.length=0 ↔ (AA s3.gs).length=0:=by
  rw [List.length_eq_zero_iff,List.length_eq_zero_iff,List.eq_nil_iff_forall_not_mem,List.eq_nil_iff_forall_not_mem];exact forall_congr' fun n=>not_congr (by rw [hU9];exact Cw)
 refine FI (ι:=Bool) (fun b=>b=true ↔ ¬ s.busy now ql) (fun b=>[(0,AG sb),(1,.int .i64 now),(13,.slice A2 (DL.length + FL.length) C2),(203,.bool b)])
  (fun b=>[.blk sb (FK bb s3) true,.rep (fun w=>(DG e1 FL.length ec_ ys FL).at_ w Ff (.bool true)) Ff false,.row w.heap.size (.slice A2 (DL.length + FL.length) C2) 94 2 (DL.length + FL.length) ((xs ++ ys).map Dd).flatten,.rep (fun w=>(DG d1 DL.length dc xs DL).at_ w Fd (.bool true)) Fd false,.rep (fun w=>(DH bb s2.f s2.m s3.gs s3.last).at_ w Fj (.bool true)) Fj true]) ?_ ?_
 ·repeat (first |refine Ae Aa rfl ?_)
  by_cases h4:(U9.length:Int)=0
  ·refine Cb 199 (v':=.bool true) rfl (congrArg Value.bool (decide_eq_true h4)) ?_;repeat (first |refine Ag ?_ |refine Ae Aa rfl ?_)
   refine ⟨decide (0 < (qn:Int)),?_,(by repeat (first |exact As.nil |refine As.cons rfl ?_)),fun w hw=>(hw.pm [4,1,2,3,5,0] rfl rfl rfl).less (by repeat (first |exact Au.nil |refine Au.keep ?_ |refine Au.dropW (Nat.le_refl _) ?_))⟩;have h5:=hU0.1 (by omega);rw [decide_eq_true_iff,hbusy,h5,hql];omega
  ·refine Cb 199 (v':=.bool false) rfl (congrArg Value.bool (decide_eq_false h4)) ?_;repeat (first |refine Ag ?_ |refine Ae Aa rfl ?_ |refine Bh rfl rfl rfl ?_)
   refine ⟨false,⟨(fun h=>by cases h),fun h=>(h (hbusy.2 (.inl ?_))).elim⟩,(by repeat (first |exact As.nil |refine As.cons rfl ?_)),fun w hw=>(hw.pm [4,1,2,3,5,0] rfl rfl rfl).less (by repeat (first |exact Au.nil |refine Au.keep ?_ |refine Au.dropW (Nat.le_refl _) ?_))⟩;have h5:(AA s3.gs).length ≠ 0:=fun e=>h4 (by rw [hU0.2 e];rfl);omega
 intro b hb
 have hto0:s.told now ql=s.outs now ql ++ (if s.busy now ql then [] else if s.tm <= now then [(3,[])] else []):=by unfold Bn.told;rw [if_pos hop]
 have htk0:s.tick now ql=if s.busy now ql then s3.calm_ else s3.try_ now:=by
  unfold Bn.tick;rw [if_pos hop];by_cases h:s.busy now ql
  ·rw [if_pos h,if_pos h,hs3o]
  ·rw [if_neg h,if_neg h,hs3o]
 skip;refine CC rfl (fun h5=>?_) (fun h5=>?_)
 ·have hnb:=hb.1 h5;rw [if_neg hnb] at hto0 htk0;repeat (first |refine Ai ?_ |refine Ab ?_ |refine Ae Aa rfl ?_)
  refine A7 rfl Tryz.call58 (fun w1 g1=>(KJ (s:=s3) g1 hok3.conf.1 hnow ⟨hok3.tr.1,by rw [hs3t];exact hstr⟩).mono fun e w' ⟨he,h9⟩=>⟨_,_,he,h9,?_⟩);repeat (first |refine Ag ?_)
  refine Ak rfl (fun h6=>?_) (fun h6=>?_)
  ·rw [if_pos (show s.tm <= now by rw [<-hs3u];exact h6)] at hto0;repeat (first |refine Ab ?_ |refine Ae Aa rfl ?_ |refine BF (Bf Aa rfl rfl rfl rfl rfl rfl rfl) ?_)
   refine AO Aa rfl rfl rfl rfl rfl rfl rfl rfl rfl rfl rfl rfl (fun nb hnb2=>?_)
   refine AU (ty:=0) (k:=1) (news:=[.int .i64 3,.slice none 0 0]) Aa 3 (sz:=2) rfl rfl rfl rfl rfl rfl rfl rfl rfl (by decide) (fun w' hw=>Sl.of_blk (hw.own _ (Af (i:=0) rfl)) rfl (fun j u hu=>by rw [Nat.zero_add];exact hu)) (fun u hu=>by
    simp only [List.mem_cons,List.not_mem_nil,or_false] at hu
    rcases hu with rfl |rfl<;>rfl) (by simp only [maxLen];omega) (by show (_ + _) * 32 <= _;omega) rfl (fun A' C' hA' hC'=>⟨_,rfl,?_⟩)
   repeat (first |refine Ai ?_ |refine Ab ?_ |refine Ag ?_ |refine AI ?_ |refine AB ?_ |refine Ae Aa rfl ?_)
   exact AY rfl rfl (fun w' hw=>fin2 (s3.try_ now) w' A' C' [[.int .i64 3,.slice none 0 0]] [(3,[])] (fun F=>Mt (by decide)) hto0 htk0 (hok3.try_ hnow (by rw [hs3t];exact hstr)) (by rw [Bn.tryR_same,a1,a2]) (by
    rw [List.flatten_append]
    exact hw.less (by repeat (first |exact Au.nil |refine Au.keep ?_ |refine Au.dropB (by first |assumption |omega) ?_))))
  ·rw [if_neg (show ¬ s.tm <= now by rw [<-hs3u];exact h6)] at hto0;repeat (first |refine Ai ?_ |refine Ab ?_ |refine Ag ?_ |refine Ad ?_ |refine AI ?_ |refine Ao ?_ |refine AB ?_ |refine Ae Aa rfl ?_)
   exact AY rfl rfl (fun w' hw=>fin2 (s3.try_ now) w' A2 C2 [] [] (fun F=>Cl.nil_) hto0 htk0 (hok3.try_ hnow (by rw [hs3t];exact hstr)) (by rw [Bn.tryR_same,a1,a2]) (by rw [List.append_nil];exact hw))
 ·have hbz:s.busy now ql:=Classical.byContradiction fun h=>by have:=hb.2 h;rw [h5] at this;cases this
  rw [if_pos hbz] at hto0 htk0;repeat (first |refine Ai ?_ |refine Ab ?_ |refine Ag ?_ |refine Ad ?_ |refine Ao ?_ |refine AB ?_ |refine Ae Aa rfl ?_ |refine Aw Aa 0 rfl rfl rfl rfl rfl rfl ?_)
  exact AY rfl rfl (fun w' hw=>fin2 s3.calm_ w' A2 C2 [] [] (fun F=>Cl.nil_) hto0 htk0 ⟨hok3.conf,hok3.ep,hok3.inc,hok3.lim,(show (0:Int) <= 0/\(0:Int) <= 2305843009213693952 by decide),(show (0:Int) <= 0/\(0:Int) <= 1099511627776 by decide)⟩ (by show DH bb s3.f s3.m s3.gs s3.last=_;rw [a1,a2]) (by rw [List.append_nil];exact hw))
end
end Go.Proofs.YtidhpofcofknhaaGreat
