/-
  The document's sender: Tick. Conditions: each theorem's own.
-/
import Derived.Test.YtidhpofcofknhaaGreatSxB
namespace Go.Proofs.YtidhpofcofknhaaGreat
open Go Go.RowKit
set_option linter.unusedVariables false
abbrev Kv:Ef (Int × List Int):=C5 (Bc .i64) (Ax (Bc .u64))
abbrev G8:Ef (List (Int × List Int)):=Ax Kv
def Dl (x:SX):List Value:=[.int .i64 3,x.v]
theorem UJ {w:World} {A:Nat->Prop} {v:Value} {a:Option Addr} {n c:Nat} {xs:List SX} {L:List (List Int)} (h:(DJ a n c xs L).at_ w A v):(Cp Kv (xs.map Dl) (L.map fun l=>((3:Int),l))).at_ w A (.bool true):=by
 have hl:=DJ.len h;refine ⟨by rw [List.length_map,List.length_map];omega,fun i cs x hc hx=>?_⟩;rw [List.getElem?_map] at hc hx
 cases h1:xs[i]? with
 |none=>rw [h1] at hc;cases hc
 |some y=>
  cases h2:L[i]? with
  |none=>rw [h2] at hx;cases hx
  |some l=>
   rw [h1] at hc;rw [h2] at hx;cases hc;cases hx;exact ⟨[.int .i64 3],[y.v],rfl,⟨rfl,(show AV .i64 3 by decide)⟩,(DJ.get h h1 h2).val⟩
theorem Mr {w:World} {F:Nat->Prop} {k:Int} (hk:AV .i64 k):(Cp Kv [[.int .i64 k,.slice none 0 0]] [((k:Int),([]:List Int))]).at_ w F (.bool true):=
 ⟨rfl,fun i cs x h1 h2=>by
  match i,h1,h2 with
  |0,h1,h2=>
   cases h1;cases h2;exact ⟨[.int .i64 k],[.slice none 0 0],rfl,⟨rfl,hk⟩,_,_,_,rfl,Bq.nil_⟩
  |i + 1,h1,_=>simp at h1⟩
section
variable {n:Nat} {w0:World} {all:Array Oper} {os:List Oper} {o:Oper} {l:FL} {ol:OL} {K:FL->OL->Prop} {Q:B6} {d bb:Nat} {f m last:Int} {gs:List BG} {F:Nat->Prop}
theorem RL (i:Nat) {now:Int} (hs:BQ n all (AT l) o=some (d,59,[AE bb,.int .i64 now])) (hi:Cc ol i=some (.rep (fun w=>(DK bb f m gs last).at_ w F (.bool true)) F true)) (hnow:0 <= now/\now <= 1152921504606846976) (htr:∀ g ∈ gs,g.tries < 1099511627776)
 (k:∀ a ln c xs (Fv F':Nat->Prop),(∀ k,Fv k->w0.heap.size <= k)->(∀ k,F' k->F k \/ w0.heap.size <= k)->(EB gs now).length=ln/\xs.length=ln->∃ ol',De ol i (.rep (fun w=>(DK bb f m (ES f m now gs) last).at_ w F' (.bool true)) F' true)=some ol'/\S Tryz.prog n w0 all os ((d,.slice a ln c)::l) (.rep (fun w=>(DJ a ln c xs (EB gs now)).at_ w Fv (.bool true)) Fv false::ol') K Q):S Tryz.prog n w0 all (o::os) l ol K Q:=
 Bb hs Tryz.call59 fun w g=>(U3 (g.own _ (Af hi)).1 (g.own _ (Af hi)).2.2 hnow htr).mono fun e w' ⟨v,Fv,he,hv,F',g1,g2,g3⟩=>by
  obtain ⟨a,ln,c,xs,rfl,hx⟩:=Sh (g3.own _ (Af (i:=0) rfl)).1;have g4:=g3.mapI 0 rfl (Ψ:=fun w=>(DJ a ln c xs (EB gs now)).at_ w Fv (.bool true)) (fun _=>hx) (Vp.loc (p:=DJ _ _ _ _ _)) rfl;obtain ⟨ol',e1,e2⟩:=k a ln c xs Fv F' (fun j hj=>Nat.le_trans g.size (hv j hj)) (fun j hj=>(g2 j hj).imp id (Nat.le_trans g.size)) (DJ.len hx);exact ⟨_,_,he,g.graftTV i hi g4 hv g1 g2 e1,e2⟩
theorem PG (i:Nat) {a:Option Addr} {ln c:Nat} {now:Int} {L:List Int} (hs:BQ n all (AT l) o=some (d,61,[AE bb,.int .i64 now,.slice a ln c])) (hi:Cc ol i=some (.rep (fun w=>(DK bb f m gs last).at_ w F (.bool true)) F true))
 (hl:∀ w,Hp w0 w ol->X1 w F a ln c L) (hnow:0 <= now/\now <= 1152921504606846976) (hln:L.length + (Az gs).length <= 60000) (hcn:gs.length < 60000) (hla:last + 1 <= 1099511627776)
 (k:∀ F':Nat->Prop,(∀ k,F' k->F k \/ w0.heap.size <= k)->∃ ol',De ol i (.rep (fun w=>(DK bb f m (Ce f m gs last now L).1 (Ce f m gs last now L).2.1).at_ w F' (.bool true)) F' true)=some ol'/\S Tryz.prog n w0 all os ((d,.int .u64 (Ce f m gs last now L).2.2)::l) ol' K Q):S Tryz.prog n w0 all (o::os) l ol K Q:=
 CE i hs Tryz.call61 hi fun w g=>by
  obtain ⟨A0,h1,h2⟩:=hl w g
  exact (SD (g.own _ (Af hi)).1 (g.own _ (Af hi)).2.2 h1 h2 hnow hln hcn hla).mono fun e w' ⟨he,F',g1,g2,g3⟩=>by
   obtain ⟨ol',e1,e2⟩:=k F' fun j hj=>(g2 j hj).imp id (Nat.le_trans g.size);exact ⟨_,_,F',he,g3,g1,g2,ol',e1,e2⟩
theorem Ll (i:Nat) {a:Option Addr} {ln c:Nat} {rl:List BX} {s:Int->Bool} (hs:BQ n all (AT l) o=some (d,55,[AE bb,.slice a ln c])) (hi:Cc ol i=some (.rep (fun w=>(DK bb f m gs last).at_ w F (.bool true)) F true))
 (hl:∀ w,Hp w0 w ol->XT w F a ln c rl) (hln:ln <= 1000000) (hsr:∀ x,s x=true ↔ Cx rl x)
 (k:∀ A C (F':Nat->Prop),(∀ k,F' k->F k \/ w0.heap.size <= k)->∃ ol',De ol i (.rep (fun w=>(DK bb f m (Et gs s) last).at_ w F' (.bool true)) F' true)=some ol'/\S Tryz.prog n w0 all os ((d,.slice A (BA ((Az gs).filter s)).length C)::l) (.row w0.heap.size (.slice A (BA ((Az gs).filter s)).length C) 32 1 (BA ((Az gs).filter s)).length (Bj (BA ((Az gs).filter s)))::ol') K Q):S Tryz.prog n w0 all (o::os) l ol K Q:=
 Ih i hs Tryz.call55 hi fun w g=>by
  obtain ⟨A0,h1,h2⟩:=hl w g
  exact (SC (g.own _ (Af hi)).1 (g.own _ (Af hi)).2.2 h1 h2 hln hsr).mono fun e w' ⟨A,C,he,F',g1,g2,g3⟩=>by
   obtain ⟨ol',e1,e2⟩:=k A C F' fun j hj=>(g2 j hj).imp id (Nat.le_trans g.size);exact ⟨_,_,F',_,_,_,_,_,he,g3,g1,g2,ol',e1,e2⟩
theorem OQ (i:Nat) (hs:BQ n all (AT l) o=some (d,44,[AE bb])) (hi:Cc ol i=some (.rep (fun w=>(DK bb f m gs last).at_ w F (.bool true)) F true))
 (k:∀ a c,(BA (Az gs)).length <= c->c <= maxLen->S Tryz.prog n w0 all os ((d,.slice a (BA (Az gs)).length c)::l) (.row w0.heap.size (.slice a (BA (Az gs)).length c) 32 1 (BA (Az gs)).length (Bj (BA (Az gs)))::ol) K Q):S Tryz.prog n w0 all (o::os) l ol K Q:=
 D8 hs Tryz.call44 (fun w1 h1=>by
  obtain ⟨hok,_,a,c,hR⟩:=Mm (h1.own _ (Af hi)).1
  exact It hR hok) k
end
theorem WB {P:Program} {tb:EW} {n d:Nat} {w0:World} {all:Array Oper} {os:List Oper} {o:Oper} {dl:DL} {ol:OL} {F:DL->Prop} (ht:AZ P tb) (tx:Nat) {m:Nat} {v:Value} (hd:o.dst=some d) (hn:Nat.blt d n=true) (hg:gd all (rs all o dl) o.guard=some true) (htx:(o.looksAt all).contains tx=true) (hx:lk dl tx=some (.pr fun v _=>∃ a c,v= .slice a m c))
 (hp:∀ a c,Jf tb (rp (rs all o dl) tx (.slice a m c)) o.op=some v) (k:D P n w0 all os ((d,.ex v)::dl) ol F):D P n w0 all (o::os) dl ol F:=by
 refine UQ tx (.ex v) hd hn hg htx hx trivial (fun ac u w hrd hh hu=>?_) k;obtain ⟨a,c,rfl⟩:=hu;exact ⟨v,JK ht hrd (hp a c) w,rfl⟩
structure XA where
 i:Nat
 a16:Option Addr
 c16:Nat
 a17:Option Addr
 c17:Nat
 a18:Option Addr
 c18:Nat
 css:List (List Value)
 Fo:Nat->Prop
theorem ND {U qs:List Int} {j:Nat} (h:j < U.length):Ds (U.take (j + 1)) qs=Ds (U.take j) qs ++ if U[j] ∈ qs then [] else [(U[j],U[j])]:=by
 unfold Ds;rw [List.take_succ_eq_append_getElem h,List.filter_append,List.map_append];congr 1;by_cases hm:U[j] ∈ qs
 ·rw [if_pos hm,List.filter_cons_of_neg (by simpa using hm)];rfl
 ·rw [if_neg hm,List.filter_cons_of_pos (by simpa using hm)];rfl
section
variable {sb:Nat} {s:BI} {w w0:World} {F:Nat->Prop} {ol:OL}
set_option maxHeartbeats 16000000 in
theorem Sw (h:(IS sb s).at_ w F (.bool true)) (hF:∀ k,F k->k < w.heap.size) {now:Int} (hnow:0 <= now/\now <= 1152921504606846976) {qa:Option Addr} {qn qc:Nat} {ql:List (Int × Int)} {A:Nat->Prop} (hq:Bq Eo w A qa qn qc ql) (hAF:∀ k,A k->¬ F k) (hqz:∀ x ∈ ql,0 <= x.2/\x.2 <= 1099511627776) (hqs:(ql.map (·.1)).Pairwise (· < ·))
 (hb1:(Az s.gs).length + qn <= 60000) (hb2:s.gs.length + qn < 59999) (hb3:s.last + (qn:Int) + 1 <= 1099511627776) (htr:∀ g ∈ s.gs,g.tries < 1099511627776) (hstr:s.tr < 1099511627776):
 Calls Tryz.prog 32 #[AE sb,.int .i64 now,.slice qa qn qc] w fun e w'=>∃ (v:Value) (Fv F':Nat->Prop),e= .returned v/\(∀ k,Fv k->w.heap.size <= k)/\(∀ k,F k->F' k)/\(∀ k,F' k->F k \/ w.heap.size <= k)/\
  Hp w w' [.rep (fun w=>(G8.vp (s.told now ql)).at_ w Fv v) Fv false,.rep (fun w=>(IS sb (s.tick now ql)).at_ w F' (.bool true)) F' true]:=by
 obtain ⟨bb,Fb,hok,hst,hFsb,hFb⟩:=Jd h true
 obtain ⟨Fq,hFq,_,hst2⟩:=hst.addV (p:=(Ax Eo).vp ql) (A:=A) (v:=.slice qa qn qc) (((Ax Eo).vp ql).mono hq.val fun k hk=>⟨.inl hk,fun e he hex hh=>hAF k hk (by
  rcases List.mem_cons.1 he with rfl |he
  ·exact Option.some.inj hh ▸ hFsb
  ·rw [List.mem_singleton] at he;subst he
   exact hFb k hh)⟩)
 have hst3:Hp w w [.blk sb (FK bb s) true,.rep (fun w=>(DK bb s.f s.m s.gs s.last).at_ w Fb (.bool true)) Fb true,.rep (fun w=>((Ax Eo).vp ql).at_ w Fq (.slice qa qn qc)) Fq false]:=hst2.pm [1,2,0] rfl rfl rfl;have hql:=hq.len;have hqok:∀ (i:Nat) (hi:i < ql.length),U4 ql[i]:=fun i hi=>(hq.flat EN).2 _ (List.getElem_mem hi);obtain ⟨qs,hqs0⟩:∃ q,q=ql.map (·.1):=⟨_,rfl⟩;rw [<-hqs0] at hqs
 have hqsl:qs.length=qn:=by rw [hqs0,List.length_map];exact hql
 refine Ee Tryz.func32 rfl rfl hst3 ?_;refine FI (fun w1 g1=>(Qh (g1.own _ (Af (i:=1) rfl)).1).2) (fun ⟨hbok,hbne⟩=>?_);have hbl:=hbok.len;repeat (first |refine Ai ?_ |refine Ab ?_ |refine Ag ?_ |refine Ae Aa rfl ?_ |refine Aq Aa 0 rfl rfl rfl ?_)
 refine OQ 1 rfl rfl (fun a1 c1 hc1 hd1=>?_);obtain ⟨U,hU⟩:∃ U,U=BA (Az s.gs):=⟨_,rfl⟩
 have hUl:U.length <= 60000:=by have:=@D3 (Az s.gs);rw [hU];omega
 rw [<-hU] at hc1 ⊢;repeat (first |refine Ar ?_ |refine Ag ?_ |refine Ae Aa rfl ?_)
 refine AP (ι:=Xz) (fun q=>[(0,AE sb),(1,.int .i64 now),(2,.slice qa qn qc),(28,.slice a1 U.length c1),(29,.int .i64 (U.length:Int)),(30,.int .i64 (q.j:Int)),(7,.slice q.a (Ds (U.take q.j) qs).length q.c)])
  (fun q=>[.row w.heap.size (.slice q.a (Ds (U.take q.j) qs).length q.c) 83 2 (Ds (U.take q.j) qs).length (Bs (Ds (U.take q.j) qs)),.row w.heap.size (.slice a1 U.length c1) 32 1 U.length (Bj U),.blk sb (FK bb s) true,.rep (fun w=>(DK bb s.f s.m s.gs s.last).at_ w Fb (.bool true)) Fb true,.rep (fun w=>((Ax Eo).vp ql).at_ w Fq (.slice qa qn qc)) Fq false])
  (fun q=>q.j <= U.length) (fun q=>U.length - q.j) ⟨0,none,0⟩ (Nat.zero_le _) (by repeat (first |exact As.nil |refine As.cons rfl ?_)) (fun w' hw=>hw.nilRow _ _) ?_
 rintro ⟨j,a7,c7⟩ hj;dsimp only at hj ⊢
 have hgl:(Ds (U.take j) qs).length <= U.length:=by
  unfold Ds;rw [List.length_map];exact Nat.le_trans (List.length_filter_le _ _) (by rw [List.length_take];omega)
 repeat (first |refine Ai ?_ |refine Ab ?_ |refine Ag ?_ |refine Ae Aa rfl ?_)
 refine Ak rfl (fun hlt=>?_) (fun hge=>?_)
 ·have hjl:j < U.length:=by omega
  repeat (first |refine Ai ?_ |refine Ab ?_ |refine Ar ?_ |refine Ad ?_ |refine Ap ?_)
  refine Fi 1 rfl (by omega) (fun bU hbU=>?_);subst hbU;refine BM (Bw (sz:=1) Aa rfl rfl rfl rfl rfl rfl rfl (j:=j) rfl hjl) ?_;refine Bf Aa (v:=.int .u64 U[j]) rfl rfl (fun w' hw=>by rw [Nat.zero_add,Nat.mul_one];exact Ct (hw.own _ (Af (i:=1) rfl)) (by omega) (Hx hjl)) ?_;repeat (first |refine Ai ?_ |refine Ab ?_ |refine Ag ?_ |refine Ae Aa rfl ?_)
  refine BO (ι:=Unit) (fun _=>True) (fun _=>[(0,AE sb),(1,.int .i64 now),(2,.slice qa qn qc),(28,.slice (some ⟨bU,0,none⟩) U.length c1),(29,.int .i64 (U.length:Int)),(30,.int .i64 (j:Int)),(7,.slice a7 (Ds (U.take j) qs).length c7),(9,.int .u64 U[j]),(10,.bool (decide (U[j] ∈ qs)))])
   (fun _=>[.row w.heap.size (.slice a7 (Ds (U.take j) qs).length c7) 83 2 (Ds (U.take j) qs).length (Bs (Ds (U.take j) qs)),.row w.heap.size (.slice (some ⟨bU,0,none⟩) U.length c1) 32 1 U.length (Bj U),.blk sb (FK bb s) true,.rep (fun w=>(DK bb s.f s.m s.gs s.last).at_ w Fb (.bool true)) Fb true,.rep (fun w=>((Ax Eo).vp ql).at_ w Fq (.slice qa qn qc)) Fq false]) ?_ ?_
  ·refine Ar ?_
   refine AP (ι:=Nat) (fun i=>[(0,AE sb),(1,.int .i64 now),(2,.slice qa qn qc),(28,.slice (some ⟨bU,0,none⟩) U.length c1),(29,.int .i64 (U.length:Int)),(30,.int .i64 (j:Int)),(7,.slice a7 (Ds (U.take j) qs).length c7),(9,.int .u64 U[j]),(10,.bool (decide (U[j] ∈ qs.take i))),(34,.slice qa qn qc),(35,.int .i64 (qn:Int)),(36,.int .i64 (i:Int))])
    (fun _=>[.row w.heap.size (.slice a7 (Ds (U.take j) qs).length c7) 83 2 (Ds (U.take j) qs).length (Bs (Ds (U.take j) qs)),.row w.heap.size (.slice (some ⟨bU,0,none⟩) U.length c1) 32 1 U.length (Bj U),.blk sb (FK bb s) true,.rep (fun w=>(DK bb s.f s.m s.gs s.last).at_ w Fb (.bool true)) Fb true,.rep (fun w=>((Ax Eo).vp ql).at_ w Fq (.slice qa qn qc)) Fq false])
    (fun i=>i <= qn) (fun i=>qn - i) 0 (Nat.zero_le _) (by rw [show decide (U[j] ∈ qs.take 0)=false from by rw [List.take_zero];exact decide_eq_false (by simp)];repeat (first |exact As.nil |refine As.cons rfl ?_)) (fun w' hw=>hw) ?_
   intro i hi;repeat (first |refine Ai ?_ |refine Ab ?_ |refine Ag ?_ |refine Ae Aa rfl ?_)
   refine Ak rfl (fun hlt2=>?_) (fun hge2=>?_);rotate_left
   ·rw [List.take_of_length_le (show qs.length <= i by omega)];repeat (first |refine Ad ?_ |refine AD ?_ |refine Am ?_ |refine AJ ?_)
    exact ⟨(),trivial,(by repeat (first |exact As.nil |refine As.cons rfl ?_)),fun w' hw=>hw⟩
   have hi':i < ql.length:=by omega
   have hqi:qs[i]? =some ql[i].1:=by rw [hqs0,List.getElem?_map,List.getElem?_eq_getElem hi'];rfl
   have hmem:U[j] ∈ qs.take (i + 1) ↔ U[j] ∈ qs.take i \/ ql[i].1=U[j]:=by
    rw [List.take_add_one,hqi,List.mem_append,Option.toList_some,List.mem_singleton];exact or_congr Iff.rfl ⟨Eq.symm,Eq.symm⟩
   obtain ⟨ab,off,cs,hqae,hlt3,_⟩:=hq.get_ hi';subst hqae;repeat (first |refine Ai ?_ |refine Ab ?_ |refine Ar ?_ |refine Ad ?_ |refine Ap ?_)
   refine BM (Bw (sz:=2) Aa rfl rfl rfl rfl rfl rfl rfl rfl (j:=i) (by omega)) ?_;refine B2 Aa (vs:=FE ql[i]) rfl rfl rfl (fun w' hw=>EG (Bq.of_val (hw.own _ (Af (i:=4) rfl)).1) hi') ?_;refine AU Aa rfl (fun b12 hb12=>?_);repeat (first |refine Ag ?_ |refine Ae Aa rfl ?_ |refine Ao ?_ |refine Au Aa 0 rfl rfl rfl rfl rfl rfl ?_)
   by_cases hm:U[j] ∈ qs.take i
   ·refine Ci 41 (v':=.bool true) rfl (congrArg Value.bool (decide_eq_true hm)) ?_;repeat (first |refine Ab ?_ |refine Ag ?_ |refine Ad ?_ |refine Al ?_ |refine AG Aa rfl (by omega) ?_ |refine Ae Aa rfl ?_ |refine Bn rfl rfl rfl ?_)
    refine ⟨i + 1,by show i + 1 <= qn;omega,?_,fun w' hw=>hw.less (by repeat (first |exact At.nil |refine At.keep ?_ |refine At.dropB (by first |assumption |omega) ?_)),by show qn - (i + 1) < qn - i;omega⟩;rw [decide_eq_true (hmem.2 (.inl hm))];repeat (first |exact As.nil |refine As.cons rfl ?_)
   ·refine Ci 41 (v':=.bool false) rfl (congrArg Value.bool (decide_eq_false hm)) ?_;repeat (first |refine Ab ?_ |refine Ag ?_ |refine Ad ?_ |refine Al ?_ |refine AG Aa rfl (by omega) ?_ |refine Ae Aa rfl ?_ |refine Aq Aa 0 rfl rfl rfl ?_)
    refine ⟨i + 1,by show i + 1 <= qn;omega,?_,fun w' hw=>hw.less (by repeat (first |exact At.nil |refine At.keep ?_ |refine At.dropB (by first |assumption |omega) ?_)),by show qn - (i + 1) < qn - i;omega⟩;rw [show decide (U[j] ∈ qs.take (i + 1))=decide (ql[i].1=U[j]) from decide_eq_decide.2 (hmem.trans ⟨fun h=>h.resolve_left hm,.inr⟩)];repeat (first |exact As.nil |refine As.cons rfl ?_)
  intro _ _;have hgs:=ND (qs:=qs) hjl;repeat (first |refine Ai ?_ |refine Ab ?_ |refine Ag ?_ |refine Ae Aa rfl ?_)
  refine CN rfl (fun h1=>?_) (fun h1=>?_)
  ·have hno:U[j] ∉ qs:=by simpa using h1
   rw [if_neg hno] at hgs;repeat (first |refine Ae Aa rfl ?_ |refine Ao ?_ |refine BM (Bi Aa rfl rfl rfl rfl rfl rfl rfl) ?_)
   refine AS Aa rfl rfl rfl rfl rfl rfl rfl rfl rfl rfl rfl rfl (fun b54 hb54=>?_);refine AW (ty:=0) Aa 1 (k:=1) (news:=Bs [(U[j],U[j])]) rfl rfl rfl rfl rfl rfl rfl rfl rfl (by decide) (fun w' hw=>Sl.of_blk (hw.own _ (Af (i:=0) rfl)) rfl (fun j u hu=>by rw [Nat.zero_add];exact hu)) (Dj _) (by simp only [maxLen];omega) (by show (_ + _) * 16 <= _;omega) rfl (fun A1 C1 hc3 hd3=>⟨_,rfl,?_⟩);rw [<-CX,<-hgs,show (Ds (U.take j) qs).length + 1=(Ds (U.take (j + 1)) qs).length from by rw [hgs,List.length_append];rfl];repeat (first |refine Ab ?_ |refine Ag ?_ |refine Ad ?_ |refine Al ?_ |refine AG Aa rfl (by omega) ?_ |refine Ae Aa rfl ?_)
   exact ⟨⟨j + 1,A1,C1⟩,by show j + 1 <= U.length;omega,(by repeat (first |exact As.nil |refine As.cons rfl ?_)),fun w' hw=>hw.less (by repeat (first |exact At.nil |refine At.keep ?_ |refine At.dropB (by first |assumption |omega) ?_)),by show U.length - (j + 1) < U.length - j;omega⟩
  ·have hyes:U[j] ∈ qs:=by simpa using h1
   rw [if_pos hyes,List.append_nil] at hgs;repeat (first |refine Ab ?_ |refine Ag ?_ |refine Ad ?_ |refine Al ?_ |refine Ap ?_ |refine AG Aa rfl (by omega) ?_ |refine Ae Aa rfl ?_)
   exact ⟨⟨j + 1,a7,c7⟩,by show j + 1 <= U.length;omega,(by dsimp only;rw [hgs];repeat (first |exact As.nil |refine As.cons rfl ?_)),fun w' hw=>by dsimp only;rw [hgs];exact hw,by show U.length - (j + 1) < U.length - j;omega⟩
 have hje:j=U.length:=by omega
 subst hje;rw [List.take_length];rw [List.take_length] at hgl;obtain ⟨gr,hgr⟩:∃ gr,gr=Ds U qs:=⟨_,rfl⟩;rw [<-hgr] at hgl ⊢
 have hrm:Et s.gs (SV gr)=(s.keep_ qs).gs:=Ir fun n hn=>by
  have h1:=@Mu gr n;rw [hgr,Pn] at h1
  have hU2:n ∈ U:=by rw [hU,Cy];exact hn
  by_cases h:n ∈ qs
  ·rw [decide_eq_true h];exact Bool.eq_false_iff.2 fun h9=>(h1.1 (hgr ▸ h9)).2 h
  ·rw [decide_eq_false h];exact hgr ▸ h1.2 ⟨hU2,h⟩
 have hgrf:∀ r ∈ gr,UF r:=fun r hr=>by
  rw [hgr] at hr;obtain ⟨k,hk,rfl⟩:=List.mem_map.1 hr;have:=hbok.nfit (Cy.1 (hU ▸ (List.mem_filter.1 hk).1));exact ⟨this,this⟩
 repeat (first |refine Ai ?_ |refine Ab ?_ |refine Ad ?_ |refine AD ?_ |refine Am ?_ |refine AJ ?_ |refine Ae Aa rfl ?_ |refine Aq Aa 2 rfl rfl rfl ?_)
 refine Ll 3 (rl:=gr) (s:=SV gr) rfl rfl (fun w1 g1=>⟨fun k=>(Value.slice a7 gr.length c7).ownBlock=some k,Bq.of_row CD (g1.own (.row w.heap.size (.slice a7 gr.length c7) 83 2 gr.length (Bs gr)) (Af (i:=0) rfl)) rfl hgrf (fun k _ hk=>hk),fun k hk hF=>g1.dis 0 3 rfl rfl rfl rfl hk hF⟩) (by omega) (fun x=>Mu) (fun A3 C3 Fb2' hFb2'=>⟨_,rfl,?_⟩);obtain ⟨Fb2,hFb2e⟩:∃ Fb2,Fb2=Fb2':=⟨_,rfl⟩;rw [hrm,<-hFb2e];have hFb2:∀ k,Fb2 k->F k \/ w.heap.size <= k:=fun k hk=>(hFb2' k (hFb2e ▸ hk)).imp (hFb k) id;refine Cd (fun w' hw=>Hp.less (o':=[.blk sb (FK bb s) true,.rep (fun w=>(DK bb s.f s.m (s.keep_ qs).gs s.last).at_ w Fb2 (.bool true)) Fb2 true,.rep (fun w=>((Ax Eo).vp ql).at_ w Fq (.slice qa qn qc)) Fq false]) hw (by repeat (first |exact At.nil |refine At.keep ?_ |refine At.dropW (Nat.le_refl _) ?_))) ?_
 have fin:∀ (s':BI) (Fb' Fv:Nat->Prop) (w':World) (v:Value),Hp w w' [.blk sb (FK bb s') true,.rep (fun w=>(DK bb s'.f s'.m s'.gs s'.last).at_ w Fb' (.bool true)) Fb' true,.rep (fun w=>(G8.vp (s.told now ql)).at_ w Fv v) Fv false]->Ek s'->(∀ k,Fb' k->F k \/ w.heap.size <= k)->(∀ k,Fv k->w.heap.size <= k)->s.tick now ql=s'->
  ∃ (v':Value) (Fv F':Nat->Prop),Ending.returned v= .returned v'/\(∀ k,Fv k->w.heap.size <= k)/\(∀ k,F k->F' k)/\(∀ k,F' k->F k \/ w.heap.size <= k)/\Hp w w' [.rep (fun w=>(G8.vp (s.told now ql)).at_ w Fv v') Fv false,.rep (fun w=>(IS sb (s.tick now ql)).at_ w F' (.bool true)) F' true]:=fun s' Fb' Fv w' v hw hok' hFb' hFv e=>by
  rw [e]
  obtain ⟨F',j1,j2,j3⟩:=HH (F0:=F) (ol:=[.rep (fun w=>(G8.vp (s.told now ql)).at_ w Fv v) Fv false]) hw hok' hF (fun e he k hk=>by
   rw [List.mem_singleton] at he;subst he
   exact hFv k hk) (.inl hFsb) hFb'
  exact ⟨_,Fv,F',rfl,hFv,j1,j2,j3.pm [1,0] rfl rfl rfl⟩
 have hokk:Ek (s.keep_ qs):=⟨hok.conf,hok.ep,hok.inc,hok.lim,hok.tm,hok.tr⟩
 have htrk:∀ g ∈ (s.keep_ qs).gs,g.tries < 1099511627776:=fun g hg=>by
  obtain ⟨x,hx,rfl⟩:=HJ hg;exact htr x hx
 repeat (first |refine Ai ?_ |refine Ab ?_ |refine Ag ?_ |refine Ae Aa rfl ?_ |refine Aq Aa 0 rfl rfl rfl ?_)
 refine CN rfl (fun h1=>?_) (fun h1=>?_)
 ·have hop:s.op=false:=by simpa using h1
  have htk:s.tick now ql=(s.keep_ qs).try_ now:=by unfold BI.tick;rw [if_neg (by rw [hop];decide),hqs0]
  have hto:s.told now ql=if s.tm <= now then [(1,[])] else []:=by unfold BI.told;rw [if_neg (by rw [hop];decide)]
  repeat (first |refine Ai ?_ |refine Ab ?_ |refine Ae Aa rfl ?_)
  refine Bb rfl Tryz.call58 (fun w1 g1=>(KH (s:=s.keep_ qs) g1 hok.conf.1 hnow ⟨hok.tr.1,hstr⟩).mono fun e w' ⟨he,h9⟩=>⟨_,_,he,h9,?_⟩);repeat (first |refine Ag ?_)
  refine Ak rfl (fun h2=>?_) (fun h2=>?_)
  ·rw [if_pos (show s.tm <= now from h2)] at hto;repeat (first |refine Ai ?_ |refine Ab ?_ |refine BM (Bi Aa rfl rfl rfl rfl rfl rfl rfl) ?_)
   refine AS Aa rfl rfl rfl rfl rfl rfl rfl rfl rfl rfl rfl rfl (fun nb hnb=>?_);repeat (first |refine Ag ?_ |refine AK ?_ |refine AC ?_ |refine Ae Aa rfl ?_)
   refine A6 rfl rfl (fun w' hw=>?_);have o0:=hw.own _ (Af (i:=0) rfl);have h9:=hw.blkV hnb (G8.vp [(1,[])]) (v:=.slice (some ⟨nb,0,none⟩) 1 1) (Kh (R:=Kv) (F:=fun k=>k=nb) (css:=[[.int .i64 1,.slice none 0 0]]) (v:=.bool true) o0 (Mr (by decide)) rfl (by show 1 <= maxLen;decide)).val;refine fin ((s.keep_ qs).try_ now) Fb2 (fun k=>k=nb) w' (.slice (some ⟨nb,0,none⟩) 1 1) ?_ (hokk.try_ hnow hstr) hFb2 (fun k h=>by rw [h];exact hnb) htk;rw [BI.tryR_same,hto];exact (h9.pm [1,2,0,3] rfl rfl rfl).less (by repeat (first |exact At.nil |refine At.keep ?_ |refine At.dropR ?_))
  ·rw [if_neg (show ¬ s.tm <= now from h2)] at hto;repeat (first |refine Ai ?_ |refine Ab ?_ |refine Ag ?_ |refine Ad ?_ |refine AK ?_ |refine Ap ?_ |refine AC ?_ |refine Ae Aa rfl ?_)
   refine A6 rfl rfl (fun w' hw=>?_);refine fin ((s.keep_ qs).try_ now) Fb2 (fun _=>False) w' _ ?_ (hokk.try_ hnow hstr) hFb2 (fun k h=>h.elim) htk;rw [BI.tryR_same,hto];exact ((Hp.none (hw.less (o':=[.blk sb (FK bb ((s.keep_ qs).try_ now)) true,.rep (fun w=>(DK bb s.f s.m (s.keep_ qs).gs s.last).at_ w Fb2 (.bool true)) Fb2 true]) (by repeat (first |exact At.nil |refine At.keep ?_ |refine At.dropR ?_))) (p:=G8.vp []) (v:=.slice none 0 0) (fun w=>Bq.nil_.val) false).pm [1,2,0] rfl rfl rfl)
 have hop:s.op=true:=by simpa using h1
 repeat (first |refine Ai ?_ |refine Ab ?_ |refine Ag ?_ |refine Ad ?_ |refine Ap ?_ |refine Ae Aa rfl ?_ |refine Aq Aa 0 rfl rfl rfl ?_)
 refine RL 1 rfl rfl hnow htrk (fun d1 dn dc xs Fd Fb3 hFd hFb3 hdl=>⟨_,rfl,?_⟩);obtain ⟨DL,hDL⟩:∃ DL,DL=EB (s.keep_ qs).gs now:=⟨_,rfl⟩;rw [<-hDL] at hdl ⊢;obtain ⟨rfl,hxl⟩:=hdl;have hFb4:∀ k,Fb3 k->F k \/ w.heap.size <= k:=fun k hk=>(hFb3 k hk).elim (hFb2 k) .inr
 have hDb:DL.length <= s.gs.length:=by
  have h1:(EB (s.keep_ qs).gs now).length <= (s.keep_ qs).gs.length:=by unfold EB;rw [List.length_map];exact H4
  rw [<-hDL] at h1;have h2:(s.keep_ qs).gs.length <= s.gs.length:=Nat.le_trans (List.length_filter_le _ _) (by rw [List.length_map];exact Nat.le_refl _);omega
 repeat (first |refine Ar ?_ |refine Ag ?_ |refine Ae Aa rfl ?_)
 refine AP (ι:=Nat × Option Addr × Nat) (fun j=>[(0,AE sb),(1,.int .i64 now),(2,.slice qa qn qc),(13,.slice j.2.1 j.1 j.2.2),(78,.slice d1 DL.length dc),(79,.int .i64 (DL.length:Int)),(80,.int .i64 (j.1:Int))])
  (fun j=>[.row w.heap.size (.slice j.2.1 j.1 j.2.2) 94 2 j.1 ((xs.take j.1).map Dl).flatten,.rep (fun w=>(DJ d1 DL.length dc xs DL).at_ w Fd (.bool true)) Fd false,.blk sb (FK bb s) true,.rep (fun w=>(DK bb s.f s.m (ES s.f s.m now (s.keep_ qs).gs) s.last).at_ w Fb3 (.bool true)) Fb3 true,.rep (fun w=>((Ax Eo).vp ql).at_ w Fq (.slice qa qn qc)) Fq false])
  (fun j=>j.1 <= DL.length) (fun j=>DL.length - j.1) (0,none,0) (Nat.zero_le _) (by repeat (first |exact As.nil |refine As.cons rfl ?_)) (fun w' hw=>hw.nilRow 94 2) ?_
 rintro ⟨j,A1,C1⟩ hj;dsimp only at hj ⊢;repeat (first |refine Ai ?_ |refine Ab ?_ |refine Ag ?_ |refine Ae Aa rfl ?_)
 refine Ak rfl (fun hlt1=>?_) (fun hge1=>?_)
 ·have hin:j < DL.length:=by omega
  obtain ⟨⟨xa,xn,xc⟩,hx⟩:∃ x,xs[j]? =some x:=⟨_,List.getElem?_eq_getElem (by omega)⟩;refine FI (X:=∃ b off,d1=some ⟨b,off,none⟩) (fun w1 g1=>DJ.addr (g1.own _ (Af (i:=1) rfl)).1 (by omega)) (fun ⟨b5,o5,e5⟩=>?_);subst e5;repeat (first |refine Ai ?_ |refine Ab ?_ |refine Ar ?_ |refine Ad ?_ |refine Ap ?_)
  refine BM (Bw (sz:=1) Aa rfl rfl rfl rfl rfl rfl rfl (j:=j) rfl hin) ?_;refine Bf Aa (v:=.slice xa xn xc) rfl rfl (fun w1 h1=>by rw [Nat.mul_one];exact DJ.cell (h1.own _ (Af (i:=1) rfl)).1 hx) ?_;repeat (first |refine Ag ?_ |refine Ae Aa rfl ?_ |refine Ao ?_ |refine BM (Bi Aa rfl rfl rfl rfl rfl rfl rfl) ?_)
  refine AS Aa rfl rfl rfl rfl rfl rfl rfl rfl rfl rfl rfl rfl (fun nb hnb=>?_)
  refine AW (ty:=0) (k:=1) (news:=[.int .i64 3,.slice xa xn xc]) Aa 1 (sz:=2) rfl rfl rfl rfl rfl rfl rfl rfl rfl (by decide) (fun w' hw=>Sl.of_blk (hw.own _ (Af (i:=0) rfl)) rfl (fun j u hu=>by rw [Nat.zero_add];exact hu)) (fun u hu=>by
   simp only [List.mem_cons,List.not_mem_nil,or_false] at hu
   rcases hu with rfl |rfl<;>rfl) (by simp only [maxLen];omega) (by show (_ + _) * 32 <= _;omega) rfl (fun A' C' hA' hC'=>⟨_,rfl,?_⟩)
  repeat (first |refine Ab ?_ |refine Ag ?_ |refine Ad ?_ |refine Al ?_ |refine AG Aa rfl (by omega) ?_ |refine Ae Aa rfl ?_)
  refine ⟨(j + 1,A',C'),hin,(by repeat (first |exact As.nil |refine As.cons rfl ?_)),fun w' hw=>?_,by dsimp only;omega⟩
  have e9:((xs.take (j + 1)).map Dl).flatten=((xs.take j).map Dl).flatten ++ [.int .i64 3,.slice xa xn xc]:=by
   rw [List.getElem?_eq_some_iff] at hx;obtain ⟨hx1,hx2⟩:=hx;rw [List.take_succ_eq_append_getElem hx1,hx2,List.map_append,List.flatten_append];rfl
  dsimp only;rw [e9];exact hw.less (by repeat (first |exact At.nil |refine At.keep ?_ |refine At.dropB (by first |assumption |omega) ?_))
 have hje:j=DL.length:=by omega
 subst hje;rw [List.take_of_length_le (by omega)];obtain ⟨s2,hs2⟩:∃ t,t=(s.keep_ qs).due_ now:=⟨_,rfl⟩
 have hok2:Ek s2:=by rw [hs2];exact ⟨hok.conf,hok.ep,hok.inc,hok.lim,hok.tm,hok.tr⟩
 have hs2g:s2.gs.length <= s.gs.length/\(Az s2.gs).length <= (Az s.gs).length/\s2.last=s.last:=by
  rw [hs2];refine ⟨?_,?_,rfl⟩
  ·show ((s.keep_ qs).gs.map _).length <= _;rw [List.length_map];exact Nat.le_trans (List.length_filter_le _ _) (by rw [List.length_map];exact Nat.le_refl _)
  ·show (Az (ES s.f s.m now (s.keep_ qs).gs)).length <= _;rw [IH,show Az (s.keep_ qs).gs=(Az s.gs).filter fun n=>!!decide (n ∈ qs) from GK _ _];exact List.length_filter_le _ _
 have e20:DK bb s.f s.m (ES s.f s.m now (s.keep_ qs).gs) s.last=DK bb s2.f s2.m s2.gs s2.last:=by rw [hs2];rfl
 have e21:FK bb s=FK bb s2:=by rw [hs2];rfl
 rw [e20,e21];obtain ⟨nums,hnums⟩:∃ nums,nums=Az s2.gs:=⟨_,rfl⟩;have hp1:1 <= s2.p:=hok2.conf.2.1;have hp64:s2.p <= 64:=hok2.conf.2.2.1;have hq1024:=hok2.conf.2.2.2.2;obtain ⟨stO,hstO⟩:∃ stO:Nat->Dm,stO=fun i=>F5 s2.p s2.lim nums (ql.take i) (Dg s2.q nums):=⟨_,rfl⟩
 have hst0:stO 0=Dg s2.q nums:=by rw [hstO];rfl
 have hfr0:Ik s2.p s2.q nums.length (stO 0) 0:=by
  rw [hst0];exact ⟨Nat.le_refl _,Nat.le_refl _,⟨Int.le_refl _,by show (0:Int) <= _;omega⟩,rfl,fun n hn=>by cases hn⟩
 repeat (first |refine Ai ?_ |refine Ab ?_ |refine Ag ?_ |refine Ad ?_ |refine AD ?_ |refine Am ?_ |refine AJ ?_ |refine Ae Aa rfl ?_)
 refine BO (ι:=XA) (fun q=>q.css.flatten.length=(stO qn).out.length/\(∀ k,q.Fo k->w.heap.size <= k)/\Ik s2.p s2.q nums.length (stO qn) qn) (fun q=>[(0,AE sb),(1,.int .i64 now),(2,.slice qa qn qc),(13,.slice A1 DL.length C1),(17,.slice q.a17 (stO qn).cur.length q.c17),(18,.slice q.a18 (stO qn).out.length q.c18)])
  (fun q=>[.blk sb (FK bb s2) true,.rep (fun w=>(DK bb s2.f s2.m s2.gs s2.last).at_ w Fb3 (.bool true)) Fb3 true,.row w.heap.size (.slice q.a17 (stO qn).cur.length q.c17) 32 1 (stO qn).cur.length (Bj (stO qn).cur),.row w.heap.size (.slice q.a18 (stO qn).out.length q.c18) 59 1 (stO qn).out.length q.css.flatten,.rep (fun w=>(Cp (Ax (Bc .u64)) q.css (stO qn).out).at_ w q.Fo (.bool true)) q.Fo false,.row w.heap.size (.slice A1 DL.length C1) 94 2 DL.length (xs.map Dl).flatten,.rep (fun w=>(DJ d1 DL.length dc xs DL).at_ w Fd (.bool true)) Fd false]) ?_ ?_
 ·refine Ar ?_
  refine AP (ι:=XA) (fun q=>[(0,AE sb),(1,.int .i64 now),(2,.slice qa qn qc),(13,.slice A1 DL.length C1),(16,.slice q.a16 ((stO q.i).out.flatten ++ (stO q.i).cur).length q.c16),(17,.slice q.a17 (stO q.i).cur.length q.c17),(18,.slice q.a18 (stO q.i).out.length q.c18),(19,.int .i64 (stO q.i).sum),(90,.slice qa qn qc),(91,.int .i64 (qn:Int)),(92,.int .i64 (q.i:Int))])
   (fun q=>[.blk sb (FK bb s2) true,.rep (fun w=>(DK bb s2.f s2.m s2.gs s2.last).at_ w Fb3 (.bool true)) Fb3 true,.rep (fun w=>((Ax Eo).vp ql).at_ w Fq (.slice qa qn qc)) Fq false,.row w.heap.size (.slice q.a16 ((stO q.i).out.flatten ++ (stO q.i).cur).length q.c16) 32 1 ((stO q.i).out.flatten ++ (stO q.i).cur).length (Bj ((stO q.i).out.flatten ++ (stO q.i).cur)),.row w.heap.size (.slice q.a17 (stO q.i).cur.length q.c17) 32 1 (stO q.i).cur.length (Bj (stO q.i).cur),.row w.heap.size (.slice q.a18 (stO q.i).out.length q.c18) 59 1 (stO q.i).out.length q.css.flatten,.rep (fun w=>(Cp (Ax (Bc .u64)) q.css (stO q.i).out).at_ w q.Fo (.bool true)) q.Fo false,.row w.heap.size (.slice A1 DL.length C1) 94 2 DL.length (xs.map Dl).flatten,.rep (fun w=>(DJ d1 DL.length dc xs DL).at_ w Fd (.bool true)) Fd false])
   (fun q=>q.i <= qn/\q.css.flatten.length=(stO q.i).out.length/\(∀ k,q.Fo k->w.heap.size <= k)/\Ik s2.p s2.q nums.length (stO q.i) q.i) (fun q=>qn - q.i) ⟨0,none,0,none,0,none,0,[],fun _=>False⟩ ⟨Nat.zero_le _,by rw [hst0];rfl,fun k hk=>hk.elim,hfr0⟩ (by dsimp only;rw [hst0];repeat (first |exact As.nil |refine As.cons rfl ?_)) (fun w' hw=>?_) ?_
  ·dsimp only;rw [hst0];exact (((((hw.pm [2,3,4,0,1] rfl rfl rfl).none (p:=Cp (Ax (Bc .u64)) [] []) (v:=.bool true) (fun w=>Cp.nil_) false).nilRow 59 1).nilRow 32 1).nilRow 32 1).pm [4,5,6,0,1,2,3,7,8] rfl rfl rfl
  rintro ⟨i,a16,c16,a17,c17,a18,c18,css,Fo⟩ ⟨hi,hcss,hFo,hfr⟩;dsimp only at hi hcss hFo hfr ⊢;obtain ⟨st,hst⟩:∃ st,st=stO i:=⟨_,rfl⟩;rw [<-hst] at hcss hfr ⊢;have hfo1:=hfr.out;have hfo2:=hfr.fl;have hfo3:=hfr.sum;have hfo4:=hfr.room;have hfl2:(st.out.flatten ++ st.cur).length=st.out.flatten.length + st.cur.length:=List.length_append
  have hnn:nums.length <= 60000:=by rw [hnums];omega
  repeat (first |refine Ai ?_ |refine Ab ?_ |refine Ag ?_ |refine Ae Aa rfl ?_)
  refine Ak rfl (fun hlt1=>?_) (fun hge2=>?_);rotate_left
  ·have hie:i=qn:=by omega
   subst hie;repeat (first |refine Ad ?_ |refine AD ?_ |refine Am ?_ |refine AJ ?_)
   exact ⟨⟨0,none,0,a17,c17,a18,c18,css,Fo⟩,⟨by rw [<-hst];exact hcss,hFo,by rw [<-hst];exact hfr⟩,(by dsimp only;rw [<-hst];repeat (first |exact As.nil |refine As.cons rfl ?_)),fun w' hw=>by
    dsimp only;rw [<-hst]
    exact (hw.pm [0,1,4,5,6,7,8,2,3] rfl rfl rfl).less (by repeat (first |exact At.nil |refine At.keep ?_ |refine At.dropR ?_ |refine At.dropW (Nat.le_refl _) ?_))⟩
  have hi':i < ql.length:=by omega
  have hokk2:=hqok i hi';have hzz:=hqz _ (List.getElem_mem hi')
  have hstS:stO (i + 1)=Ed s2.p s2.lim nums st ql[i]:=by
   rw [hst,hstO];dsimp only;rw [List.take_succ_eq_append_getElem hi',NJ]
  obtain ⟨ab,off,cs,hqae,hlt3,_⟩:=hq.get_ hi';subst hqae;repeat (first |refine Ai ?_ |refine Ab ?_ |refine Ar ?_ |refine Ad ?_ |refine Ap ?_)
  refine BM (Bw (sz:=2) Aa rfl rfl rfl rfl rfl rfl rfl rfl (j:=i) (by omega)) ?_;refine B2 Aa (vs:=FE ql[i]) rfl rfl rfl (fun w' hw=>EG (Bq.of_val (hw.own _ (Af (i:=2) rfl)).1) hi') ?_;refine AU Aa rfl (fun b21 hb21=>?_);obtain ⟨x,hx⟩:∃ x,x=ql[i]:=⟨_,rfl⟩;rw [<-hx] at hokk2 hzz hstS ⊢;repeat (first |refine AX (by kernel_rfl) (by kernel_rfl) ?_ |refine Ah Aa rfl ?_ |refine AA Aa 0 rfl rfl rfl ?_ |refine AA Aa 1 rfl rfl rfl ?_ |refine Ai ?_ |refine Ag ?_ |refine Au Aa 0 rfl rfl rfl rfl rfl rfl ?_)
  refine A7 (v:=.bool (decide (x.1 ∈ nums))) rfl Tryz.call60 (fun w' vs hw' h=>by
   obtain ⟨u1,_,rfl,rfl,u2,_,rfl,rfl,rfl⟩:=h;obtain ⟨hok',_,a,c,hR⟩:=Mm (hw'.own _ (Af (i:=2) rfl)).1;rw [hnums]
   exact Is hR hok' x.1) ?_
  repeat (first |refine Ah Aa rfl ?_)
  have hskip:NG s2.lim nums x st->stO (i + 1)=st:=fun h=>by rw [hstS,Ed,if_pos h]
  by_cases hin1:x.1 ∈ nums
  ·refine BP 103 (v':=.bool true) rfl (congrArg Value.bool (decide_eq_true hin1)) ?_;repeat (first |refine AO rfl ?_ |refine Ah Aa rfl ?_ |refine BC rfl rfl rfl ?_)
   refine AQ rfl ?_;repeat (first |refine Ab ?_ |refine Ag ?_ |refine Ad ?_ |refine AD ?_ |refine Am ?_ |refine AJ ?_ |refine AG Aa rfl (by omega) ?_ |refine Ae Aa rfl ?_)
   exact ⟨⟨i + 1,a16,c16,a17,c17,a18,c18,css,Fo⟩,⟨by show i + 1 <= qn;omega,by rw [hskip (.inl hin1)];exact hcss,hFo,by rw [hskip (.inl hin1)];exact hfr.up (Nat.le_succ _)⟩,(by dsimp only;rw [hskip (.inl hin1)];repeat (first |exact As.nil |refine As.cons rfl ?_)),fun w' hw=>by dsimp only;rw [hskip (.inl hin1)];exact hw.less (by repeat (first |exact At.nil |refine At.keep ?_ |refine At.dropB (by first |assumption |omega) ?_)),by show qn - (i + 1) < qn - i;omega⟩
  refine BP 103 (v':=.bool false) rfl (congrArg Value.bool (decide_eq_false hin1)) ?_;repeat (first |refine Ah Aa rfl ?_ |refine AA Aa 0 rfl rfl rfl ?_ |refine AA Aa 1 rfl rfl rfl ?_)
  by_cases hlim:s2.lim < x.1
  ·refine BP 112 (v':=.bool true) rfl (congrArg Value.bool (decide_eq_true hlim)) ?_;repeat (first |refine AO rfl ?_ |refine Ah Aa rfl ?_ |refine BC rfl rfl rfl ?_)
   refine AQ rfl ?_;repeat (first |refine Ab ?_ |refine Ag ?_ |refine Ad ?_ |refine AD ?_ |refine Am ?_ |refine AJ ?_ |refine AG Aa rfl (by omega) ?_ |refine Ae Aa rfl ?_)
   exact ⟨⟨i + 1,a16,c16,a17,c17,a18,c18,css,Fo⟩,⟨by show i + 1 <= qn;omega,by rw [hskip (.inr (.inl hlim))];exact hcss,hFo,by rw [hskip (.inr (.inl hlim))];exact hfr.up (Nat.le_succ _)⟩,(by dsimp only;rw [hskip (.inr (.inl hlim))];repeat (first |exact As.nil |refine As.cons rfl ?_)),fun w' hw=>by dsimp only;rw [hskip (.inr (.inl hlim))];exact hw.less (by repeat (first |exact At.nil |refine At.keep ?_ |refine At.dropB (by first |assumption |omega) ?_)),by show qn - (i + 1) < qn - i;omega⟩
  refine BP 112 (v':=.bool false) rfl (congrArg Value.bool (decide_eq_false hlim)) ?_;repeat (first |refine Ah Aa rfl ?_ |refine AA Aa 1 rfl rfl rfl ?_)
  refine OZ (fun v _=>∃ a c,v= .slice a nums.length c) rfl Tryz.call44 (fun v w w' h _=>h) (fun w' vs hw' h=>by
   obtain ⟨u1,_,rfl,rfl,rfl⟩:=h;obtain ⟨hok',_,a,c,hR⟩:=Mm (hw'.own _ (Af (i:=2) rfl)).1;refine (It hR hok').mono fun e w2 ⟨a',c',e1,e2,_⟩=>⟨_,e1,e2,a',c',?_⟩
   rw [hnums,HA hok'.nd]) ?_
  refine WB Aa 117 (m:=nums.length) (v:=.int .i64 (nums.length:Int)) rfl rfl rfl rfl rfl (fun a c=>rfl) ?_;repeat (first |refine BK Aa rfl (by omega) ?_ |refine Ah Aa rfl ?_ |refine AA Aa 1 rfl rfl rfl ?_)
  refine IP rfl ?_;skip;by_cases hroom:st.room <= 0
  ·refine Ak rfl (fun _=>?_) (fun h=>absurd (show s2.q <= (nums.length:Int) + ((st.out.flatten ++ st.cur).length:Int) by omega) h);repeat (first |refine Ab ?_ |refine Ag ?_ |refine Ad ?_ |refine AD ?_ |refine Am ?_ |refine AJ ?_ |refine AG Aa rfl (by omega) ?_ |refine Ae Aa rfl ?_)
   exact ⟨⟨i + 1,a16,c16,a17,c17,a18,c18,css,Fo⟩,⟨by show i + 1 <= qn;omega,by rw [hskip (.inr (.inr hroom))];exact hcss,hFo,by rw [hskip (.inr (.inr hroom))];exact hfr.up (Nat.le_succ _)⟩,(by dsimp only;rw [hskip (.inr (.inr hroom))];repeat (first |exact As.nil |refine As.cons rfl ?_)),fun w' hw=>by dsimp only;rw [hskip (.inr (.inr hroom))];exact hw.less (by repeat (first |exact At.nil |refine At.keep ?_ |refine At.dropB (by first |assumption |omega) ?_)),by show qn - (i + 1) < qn - i;omega⟩
  refine Ak rfl (fun h=>absurd h (show ¬ s2.q <= (nums.length:Int) + ((st.out.flatten ++ st.cur).length:Int) by omega)) (fun _=>?_)
  have hstN:stO (i + 1)=C0 x (Cg s2.p x st):=by rw [hstS,Ed,if_neg (fun h=>h.elim hin1 fun h=>h.elim hlim hroom)]
  have hfrN:=hfr.step hzz hokk2.1 (x:=x);rw [<-hstN] at hfrN;obtain ⟨st1,hst1⟩:∃ st1,st1=Cg s2.p x st:=⟨_,rfl⟩;obtain ⟨hfe1,hfe2⟩:=@HV s2.p x st;rw [<-hst1] at hstN hfe1 hfe2;repeat (first |refine Ai ?_ |refine Ab ?_ |refine Ad ?_ |refine Ap ?_ |refine Ae Aa rfl ?_)
  refine Gc (ι:=Bool) (fun b=>b=true ↔ Jh s2.p x st) (fun b=>[(0,AE sb),(1,.int .i64 now),(2,.slice (some ⟨ab,off,none⟩) qn qc),(13,.slice A1 DL.length C1),(90,.slice (some ⟨ab,off,none⟩) qn qc),(91,.int .i64 (qn:Int)),(92,.int .i64 (i:Int)),(21,.pointer (some ⟨b21,0,none⟩)),(16,.slice a16 (st.out.flatten ++ st.cur).length c16),(17,.slice a17 st.cur.length c17),(18,.slice a18 st.out.length c18),(19,.int .i64 st.sum),(146,.bool b)])
   (fun _=>[.blk b21 (.cells ⟨[.int .u64 x.1,.int .i64 x.2]⟩ 90 (0,0)) true,.blk sb (FK bb s2) true,.rep (fun w=>(DK bb s2.f s2.m s2.gs s2.last).at_ w Fb3 (.bool true)) Fb3 true,.rep (fun w=>((Ax Eo).vp ql).at_ w Fq (.slice (some ⟨ab,off,none⟩) qn qc)) Fq false,.row w.heap.size (.slice a16 (st.out.flatten ++ st.cur).length c16) 32 1 (st.out.flatten ++ st.cur).length (Bj (st.out.flatten ++ st.cur)),.row w.heap.size (.slice a17 (st.cur).length c17) 32 1 (st.cur).length (Bj (st.cur)),.row w.heap.size (.slice a18 (st.out).length c18) 59 1 (st.out).length css.flatten,.rep (fun w=>(Cp (Ax (Bc .u64)) css (st.out)).at_ w Fo (.bool true)) Fo false,.row w.heap.size (.slice A1 DL.length C1) 94 2 DL.length (xs.map Dl).flatten,.rep (fun w=>(DJ d1 DL.length dc xs DL).at_ w Fd (.bool true)) Fd false]) ?_ ?_
  ·by_cases hc0:0 < (st.cur.length:Int)
   ·refine Ci 131 (v':=.bool true) rfl (congrArg Value.bool (decide_eq_true hc0)) ?_;repeat (first |refine Ae Aa rfl ?_ |refine Aq Aa 1 rfl rfl rfl ?_)
    by_cases hc1:s2.p <= (st.cur.length:Int)
    ·refine Ci 139 (v':=.bool true) rfl (congrArg Value.bool (decide_eq_true hc1)) ?_;repeat (first |refine Ag ?_ |refine Ae Aa rfl ?_ |refine Bn rfl rfl rfl ?_)
     exact ⟨true,⟨fun _=>⟨hc0,.inl hc1⟩,fun _=>rfl⟩,(by repeat (first |exact As.nil |refine As.cons rfl ?_)),fun w hw=>hw⟩
    ·refine Ci 139 (v':=.bool false) rfl (congrArg Value.bool (decide_eq_false hc1)) ?_;repeat (first |refine Ag ?_ |refine AG Aa rfl (by omega) ?_ |refine Ae Aa rfl ?_ |refine Aq Aa 0 rfl rfl rfl ?_)
     exact ⟨decide (60000 < st.sum + x.2),⟨fun h=>⟨hc0,.inr (of_decide_eq_true h)⟩,fun h=>decide_eq_true (h.2.resolve_left hc1)⟩,(by repeat (first |exact As.nil |refine As.cons rfl ?_)),fun w hw=>hw⟩
   ·refine Ci 131 (v':=.bool false) rfl (congrArg Value.bool (decide_eq_false hc0)) ?_;repeat (first |refine Ag ?_ |refine Ae Aa rfl ?_ |refine Bn rfl rfl rfl ?_)
    exact ⟨false,⟨(fun h=>by cases h),fun h=>(hc0 h.1).elim⟩,(by repeat (first |exact As.nil |refine As.cons rfl ?_)),fun w hw=>hw⟩
  intro b hb
  refine BO (ι:=XA) (fun q=>q.css.flatten.length=st1.out.length/\∀ k,q.Fo k->w.heap.size <= k) (fun q=>[(0,AE sb),(1,.int .i64 now),(2,.slice (some ⟨ab,off,none⟩) qn qc),(13,.slice A1 DL.length C1),(90,.slice (some ⟨ab,off,none⟩) qn qc),(91,.int .i64 (qn:Int)),(92,.int .i64 (i:Int)),(21,.pointer (some ⟨b21,0,none⟩)),(16,.slice a16 (st.out.flatten ++ st.cur).length c16),(17,.slice q.a17 st1.cur.length q.c17),(18,.slice q.a18 st1.out.length q.c18),(19,.int .i64 st1.sum)])
   (fun q=>[.blk b21 (.cells ⟨[.int .u64 x.1,.int .i64 x.2]⟩ 90 (0,0)) true,.blk sb (FK bb s2) true,.rep (fun w=>(DK bb s2.f s2.m s2.gs s2.last).at_ w Fb3 (.bool true)) Fb3 true,.rep (fun w=>((Ax Eo).vp ql).at_ w Fq (.slice (some ⟨ab,off,none⟩) qn qc)) Fq false,.row w.heap.size (.slice a16 (st.out.flatten ++ st.cur).length c16) 32 1 (st.out.flatten ++ st.cur).length (Bj (st.out.flatten ++ st.cur)),.row w.heap.size (.slice q.a17 (st1.cur).length q.c17) 32 1 (st1.cur).length (Bj (st1.cur)),.row w.heap.size (.slice q.a18 (st1.out).length q.c18) 59 1 (st1.out).length q.css.flatten,.rep (fun w=>(Cp (Ax (Bc .u64)) q.css (st1.out)).at_ w q.Fo (.bool true)) q.Fo false,.row w.heap.size (.slice A1 DL.length C1) 94 2 DL.length (xs.map Dl).flatten,.rep (fun w=>(DJ d1 DL.length dc xs DL).at_ w Fd (.bool true)) Fd false]) ?_ ?_
  ·cases b with
   |false=>
    have hnf:¬ Jh s2.p x st:=fun h=>by have:=hb.2 h;cases this
    have e1:st1=st:=by rw [hst1,Cg,if_neg hnf]
    rw [e1];refine AH rfl ?_;repeat (first |refine Ad ?_ |refine Ap ?_)
    exact ⟨⟨0,none,0,a17,c17,a18,c18,css,Fo⟩,⟨hcss,hFo⟩,(by repeat (first |exact As.nil |refine As.cons rfl ?_)),fun w' hw=>hw⟩
   |true=>
    have e1:st1= { st with out:=st.out ++ [st.cur],cur:=[],sum:=0}:=by rw [hst1,Cg,if_pos (hb.1 rfl)]
    rw [e1];dsimp only;refine AQ rfl ?_;refine Gz (fun w' hw=>hw.pm [5,0,1,2,3,4,6,7,8,9] rfl rfl rfl) ?_;refine LY ((Ax (Bc .u64)).vp st.cur) (fun w' h=>(Ea h rfl (fun n hn=>hfr.fit n (List.mem_append.2 (.inr hn)))).val) (fun Fl hFl=>?_);repeat (first |refine Ai ?_ |refine Ab ?_ |refine Ae Aa rfl ?_)
    refine AS Aa rfl rfl rfl rfl rfl rfl rfl rfl rfl rfl rfl rfl (fun b49 hb49=>?_);refine AW (ty:=0) Aa 7 (k:=1) (news:=[.slice a17 st.cur.length c17]) rfl rfl rfl rfl rfl rfl rfl rfl rfl (by decide) (fun w' hw=>Sl.of_blk (hw.own _ (Af (i:=0) rfl)) rfl (fun j u hu=>by rw [Nat.zero_add];exact hu)) (fun u hu=>by rw [List.mem_singleton] at hu;subst hu;rfl) (by simp only [maxLen];omega) (by show (_ + _) * 24 <= _;omega) rfl (fun A' C' hA' hC'=>⟨_,rfl,?_⟩);repeat (first |refine Ab ?_ |refine Ag ?_ |refine Ae Aa rfl ?_)
    have e9:(css ++ [[Value.slice a17 st.cur.length c17]]).flatten=css.flatten ++ [Value.slice a17 st.cur.length c17]:=by rw [List.flatten_append];rfl
    have e8:(st.out ++ [st.cur]).length=st.out.length + 1:=by rw [List.length_append];rfl
    refine ⟨⟨0,none,0,none,0,A',C',css ++ [[.slice a17 st.cur.length c17]],fun k=>Fl k \/ Fo k⟩,⟨by dsimp only;rw [e9,e8,List.length_append,hcss];rfl,fun k hk=>hk.elim (hFl k) (hFo k)⟩,(by dsimp only;rw [e8];repeat (first |exact As.nil |refine As.cons rfl ?_)),fun w' hw=>?_⟩;dsimp only;rw [e8,e9];have h8:=(hw.pm [1,8,2,3,4,5,6,7,9,10,0] rfl rfl rfl).merge (Ψ:=fun w=>(Cp (Ax (Bc .u64)) (css ++ [[Value.slice a17 st.cur.length c17]]) (st.out ++ [st.cur])).at_ w (fun k=>Fl k \/ Fo k) (.bool true)) (fun q1 q2=>Cp.snoc ((Cp _ _ _).mono q2 fun k hk=>.inr hk) ((Ax (Bc .u64)).at_mono q1 fun k hk=>.inl hk)) (Vp.loc (p:=Cp _ _ _));exact ((h8.nilRow 32 1).pm [2,3,4,5,6,0,7,1,8,9,10] rfl rfl rfl).less (by repeat (first |exact At.nil |refine At.keep ?_ |refine At.dropB (by first |assumption |omega) ?_))
  rintro ⟨_,_,_,a17,c17,a18,c18,css,Fo⟩ ⟨hcss,hFo⟩;dsimp only at hcss hFo ⊢;repeat (first |refine Ai ?_)
  have hfe3:(st1.out.flatten ++ st1.cur).length=st1.out.flatten.length + st1.cur.length:=List.length_append;rw [hfe1] at hfe3;have hsm:=hfrN.sum;rw [hstN] at hsm;change 0 <= st1.sum + x.2/\st1.sum + x.2 <= ((i + 1:Nat):Int) * 1099511627776 at hsm
  have eN1:((C0 x st1).out.flatten ++ (C0 x st1).cur).length=(st.out.flatten ++ st.cur).length + 1:=by rw [Hg,hfe1,List.length_append (bs:=[x.1])];rfl
  have eN2:(C0 x st1).cur.length=st1.cur.length + 1:=by show (st1.cur ++ [x.1]).length=_;rw [List.length_append];rfl
  have eN3:Bj ((C0 x st1).out.flatten ++ (C0 x st1).cur)=Bj (st.out.flatten ++ st.cur) ++ [.int .u64 x.1]:=by rw [Hg,hfe1];unfold Bj;rw [List.map_append];rfl
  have eN4:Bj (C0 x st1).cur=Bj st1.cur ++ [.int .u64 x.1]:=by show Bj (st1.cur ++ [x.1])=_;unfold Bj;rw [List.map_append];rfl
  refine FW (by kernel_rfl) (by kernel_rfl) [3,4,8,9,10,11] (by kernel_rfl) (by kernel_rfl) (by kernel_rfl) (by kernel_rfl) [.blk b21 (.cells ⟨[.int .u64 x.1,.int .i64 x.2]⟩ 90 (0,0)) false] (Cm Df)
   [some (.slice a17 st1.cur.length c17),some (.pointer (some ⟨b21,0 + 0,none⟩)),some (.int .u64 x.1),none,none,some (.slice a16 (st.out.flatten ++ st.cur).length c16),some (.pointer (some ⟨b21,0 + 0,none⟩)),some (.int .u64 x.1),none,none,none,none]
   ⟨.inr ⟨_,_,rfl,rfl,fun w f=>Ah Aa rfl Aj⟩,.inr ⟨_,_,rfl,rfl,fun w f=>Ah Aa rfl Aj⟩,.inr ⟨_,_,rfl,rfl,fun w f=>AA Aa 0 rfl rfl rfl Aj⟩,.inl rfl,.inl rfl,.inr ⟨_,_,rfl,rfl,fun w f=>Ah Aa rfl Aj⟩,.inr ⟨_,_,rfl,rfl,fun w f=>Ah Aa rfl Aj⟩,.inr ⟨_,_,rfl,rfl,fun w f=>AA Aa 0 rfl rfl rfl Aj⟩,.inl rfl,.inl rfl,.inl rfl,.inl rfl,trivial⟩ ?_
  refine Cf (i:=3) (i2:=8) [(153,.int .u64 x.1)] [(158,.int .u64 x.1)] (.inr (AI 0 rfl AN)) (by kernel_rfl) rfl rfl (.cons rfl rfl .nil) (.cons rfl rfl .nil) ?_ ?_
  ·refine AS Aa rfl rfl rfl rfl rfl rfl rfl rfl rfl rfl rfl rfl (fun b3 hb3=>?_);refine Ag ⟨_,rfl,(fun u h=>by cases h),?_⟩;refine Cf (i:=4) (i2:=8) [(151,.slice a17 st1.cur.length c17),(154,.slice (some ⟨b3,0,none⟩) 1 1)] [(158,.int .u64 x.1)] (.inr (AI 1 rfl AN)) (by kernel_rfl) rfl rfl (.cons rfl rfl (.cons rfl rfl .nil)) (.cons rfl rfl .nil) ?_ ?_
   ·refine AW (ty:=0) Aa 6 (k:=1) (news:=[.int .u64 x.1]) rfl rfl rfl rfl rfl rfl rfl rfl rfl (by decide) (fun w' hw=>Sl.of_blk (hw.own _ (Af (i:=0) rfl)) rfl (fun j u hu=>by rw [Nat.zero_add];exact hu)) (fun u hu=>by rw [List.mem_singleton] at hu;subst hu;rfl) (by simp only [maxLen];omega) (by show (_ + _) * 8 <= _;omega) rfl (fun A4 C4 hA' hC'=>⟨_,rfl,?_⟩);refine Ag ⟨_,rfl,(fun u h=>by cases h),?_⟩;refine AF (i:=8) [(158,.int .u64 x.1)] (.inr (AI 1 rfl AN)) (by kernel_rfl) rfl (.cons rfl rfl .nil) ?_;refine AS Aa rfl rfl rfl rfl rfl rfl rfl rfl rfl rfl rfl rfl (fun b8 hb8=>?_);refine Ag ⟨_,rfl,(fun u h=>by cases h),?_⟩;refine AF (i:=9) [(156,.slice a16 (st.out.flatten ++ st.cur).length c16),(159,.slice (some ⟨b8,0,none⟩) 1 1)] (.inr (AI 2 rfl AN)) (by kernel_rfl) rfl (.cons rfl rfl (.cons rfl rfl .nil)) ?_;refine AW (ty:=0) Aa 6 (k:=1) (news:=[.int .u64 x.1]) rfl rfl rfl rfl rfl rfl rfl rfl rfl (by decide) (fun w' hw=>Sl.of_blk (hw.own _ (Af (i:=0) rfl)) rfl (fun j u hu=>by rw [Nat.zero_add];exact hu)) (fun u hu=>by rw [List.mem_singleton] at hu;subst hu;rfl) (by simp only [maxLen];omega) (by show (_ + _) * 8 <= _;omega) rfl (fun A9 C9 hA' hC'=>⟨_,rfl,?_⟩);refine Ag ⟨_,rfl,(fun u h=>by cases h),?_⟩;refine AF (i:=10) [(155,.slice A4 (st1.cur.length + 1) C4)] (.inr (AI 2 rfl AN)) (by kernel_rfl) rfl (.cons rfl rfl .nil) ?_;refine Ae Aa rfl ?_;refine Ag ⟨_,rfl,(fun u h=>by cases h),?_⟩
    refine AF (i:=11) [(160,.slice A9 ((st.out.flatten ++ st.cur).length + 1) C9)] (.inl (by kernel_rfl)) (by kernel_rfl) rfl (.cons rfl rfl .nil) ?_;refine Ae Aa rfl ?_;refine Ag ⟨_,rfl,(fun u h=>by cases h),?_⟩;refine BJ [(0,AE sb),(1,.int .i64 now),(2,.slice (some ⟨ab,off,none⟩) qn qc),(13,.slice A1 DL.length C1),(90,.slice (some ⟨ab,off,none⟩) qn qc),(91,.int .i64 (qn:Int)),(92,.int .i64 (i:Int)),(21,.pointer (some ⟨b21,0,none⟩)),(16,.slice A9 ((st.out.flatten ++ st.cur).length + 1) C9),(17,.slice A4 (st1.cur.length + 1) C4),(18,.slice a18 st1.out.length c18),(19,.int .i64 st1.sum)] (by repeat (first |exact A5.nil |refine A5.cons rfl ?_)) ?_;repeat (first |refine Ab ?_ |refine Ag ?_ |refine Ad ?_ |refine Al ?_ |refine AG Aa rfl (by omega) ?_ |refine Ae Aa rfl ?_ |refine Ao ?_ |refine Aq Aa 2 rfl rfl rfl ?_)
    refine ⟨⟨i + 1,A9,C9,A4,C4,a18,c18,css,Fo⟩,⟨by show i + 1 <= qn;omega,by rw [hstN];exact hcss,hFo,hfrN⟩,(by dsimp only;rw [hstN,eN1,eN2];repeat (first |exact As.nil |refine As.cons rfl ?_)),fun w' hw=>?_,by show qn - (i + 1) < qn - i;omega⟩;dsimp only;rw [hstN,eN1,eN2,eN3,eN4];exact (hw.pm [3,4,5,6,7,8,9,10,11,2,0,1] rfl rfl rfl).less (by repeat (first |exact At.nil |refine At.keep ?_ |refine At.dropB (by first |assumption |omega) ?_))
   ·refine AS Aa rfl rfl rfl rfl rfl rfl rfl rfl rfl rfl rfl rfl (fun b8 hb8=>?_);refine Ag ⟨_,rfl,(fun u h=>by cases h),?_⟩;refine AF (i:=4) [(151,.slice a17 st1.cur.length c17),(154,.slice (some ⟨b3,0,none⟩) 1 1)] (.inr (AI 2 rfl AN)) (by kernel_rfl) rfl (.cons rfl rfl (.cons rfl rfl .nil)) ?_;refine AW (ty:=0) Aa 7 (k:=1) (news:=[.int .u64 x.1]) rfl rfl rfl rfl rfl rfl rfl rfl rfl (by decide) (fun w' hw=>Sl.of_blk (hw.own _ (Af (i:=1) rfl)) rfl (fun j u hu=>by rw [Nat.zero_add];exact hu)) (fun u hu=>by rw [List.mem_singleton] at hu;subst hu;rfl) (by simp only [maxLen];omega) (by show (_ + _) * 8 <= _;omega) rfl (fun A4 C4 hA' hC'=>⟨_,rfl,?_⟩);refine Ag ⟨_,rfl,(fun u h=>by cases h),?_⟩;refine AF (i:=9) [(156,.slice a16 (st.out.flatten ++ st.cur).length c16),(159,.slice (some ⟨b8,0,none⟩) 1 1)] (.inr (AI 2 rfl AN)) (by kernel_rfl) rfl (.cons rfl rfl (.cons rfl rfl .nil)) ?_;refine AW (ty:=0) Aa 6 (k:=1) (news:=[.int .u64 x.1]) rfl rfl rfl rfl rfl rfl rfl rfl rfl (by decide) (fun w' hw=>Sl.of_blk (hw.own _ (Af (i:=0) rfl)) rfl (fun j u hu=>by rw [Nat.zero_add];exact hu)) (fun u hu=>by rw [List.mem_singleton] at hu;subst hu;rfl) (by simp only [maxLen];omega) (by show (_ + _) * 8 <= _;omega) rfl (fun A9 C9 hA' hC'=>⟨_,rfl,?_⟩);refine Ag ⟨_,rfl,(fun u h=>by cases h),?_⟩;refine AF (i:=10) [(155,.slice A4 (st1.cur.length + 1) C4)] (.inr (AI 2 rfl AN)) (by kernel_rfl) rfl (.cons rfl rfl .nil) ?_;refine Ae Aa rfl ?_;refine Ag ⟨_,rfl,(fun u h=>by cases h),?_⟩
    refine AF (i:=11) [(160,.slice A9 ((st.out.flatten ++ st.cur).length + 1) C9)] (.inl (by kernel_rfl)) (by kernel_rfl) rfl (.cons rfl rfl .nil) ?_;refine Ae Aa rfl ?_;refine Ag ⟨_,rfl,(fun u h=>by cases h),?_⟩;refine BJ [(0,AE sb),(1,.int .i64 now),(2,.slice (some ⟨ab,off,none⟩) qn qc),(13,.slice A1 DL.length C1),(90,.slice (some ⟨ab,off,none⟩) qn qc),(91,.int .i64 (qn:Int)),(92,.int .i64 (i:Int)),(21,.pointer (some ⟨b21,0,none⟩)),(16,.slice A9 ((st.out.flatten ++ st.cur).length + 1) C9),(17,.slice A4 (st1.cur.length + 1) C4),(18,.slice a18 st1.out.length c18),(19,.int .i64 st1.sum)] (by repeat (first |exact A5.nil |refine A5.cons rfl ?_)) ?_;repeat (first |refine Ab ?_ |refine Ag ?_ |refine Ad ?_ |refine Al ?_ |refine AG Aa rfl (by omega) ?_ |refine Ae Aa rfl ?_ |refine Ao ?_ |refine Aq Aa 2 rfl rfl rfl ?_)
    refine ⟨⟨i + 1,A9,C9,A4,C4,a18,c18,css,Fo⟩,⟨by show i + 1 <= qn;omega,by rw [hstN];exact hcss,hFo,hfrN⟩,(by dsimp only;rw [hstN,eN1,eN2];repeat (first |exact As.nil |refine As.cons rfl ?_)),fun w' hw=>?_,by show qn - (i + 1) < qn - i;omega⟩;dsimp only;rw [hstN,eN1,eN2,eN3,eN4];exact (hw.pm [3,4,5,6,7,8,9,10,11,2,0,1] rfl rfl rfl).less (by repeat (first |exact At.nil |refine At.keep ?_ |refine At.dropB (by first |assumption |omega) ?_))
  ·refine AS Aa rfl rfl rfl rfl rfl rfl rfl rfl rfl rfl rfl rfl (fun b8 hb8=>?_);refine Ag ⟨_,rfl,(fun u h=>by cases h),?_⟩;refine AF (i:=3) [(153,.int .u64 x.1)] (.inr (AI 1 rfl AN)) (by kernel_rfl) rfl (.cons rfl rfl .nil) ?_;refine AS Aa rfl rfl rfl rfl rfl rfl rfl rfl rfl rfl rfl rfl (fun b3 hb3=>?_);refine Ag ⟨_,rfl,(fun u h=>by cases h),?_⟩;refine AF (i:=4) [(151,.slice a17 st1.cur.length c17),(154,.slice (some ⟨b3,0,none⟩) 1 1)] (.inr (AI 2 rfl AN)) (by kernel_rfl) rfl (.cons rfl rfl (.cons rfl rfl .nil)) ?_;refine AW (ty:=0) Aa 7 (k:=1) (news:=[.int .u64 x.1]) rfl rfl rfl rfl rfl rfl rfl rfl rfl (by decide) (fun w' hw=>Sl.of_blk (hw.own _ (Af (i:=0) rfl)) rfl (fun j u hu=>by rw [Nat.zero_add];exact hu)) (fun u hu=>by rw [List.mem_singleton] at hu;subst hu;rfl) (by simp only [maxLen];omega) (by show (_ + _) * 8 <= _;omega) rfl (fun A4 C4 hA' hC'=>⟨_,rfl,?_⟩);refine Ag ⟨_,rfl,(fun u h=>by cases h),?_⟩;refine AF (i:=9) [(156,.slice a16 (st.out.flatten ++ st.cur).length c16),(159,.slice (some ⟨b8,0,none⟩) 1 1)] (.inr (AI 2 rfl AN)) (by kernel_rfl) rfl (.cons rfl rfl (.cons rfl rfl .nil)) ?_;refine AW (ty:=0) Aa 6 (k:=1) (news:=[.int .u64 x.1]) rfl rfl rfl rfl rfl rfl rfl rfl rfl (by decide) (fun w' hw=>Sl.of_blk (hw.own _ (Af (i:=1) rfl)) rfl (fun j u hu=>by rw [Nat.zero_add];exact hu)) (fun u hu=>by rw [List.mem_singleton] at hu;subst hu;rfl) (by simp only [maxLen];omega) (by show (_ + _) * 8 <= _;omega) rfl (fun A9 C9 hA' hC'=>⟨_,rfl,?_⟩)
   refine Ag ⟨_,rfl,(fun u h=>by cases h),?_⟩;refine AF (i:=10) [(155,.slice A4 (st1.cur.length + 1) C4)] (.inr (AI 2 rfl AN)) (by kernel_rfl) rfl (.cons rfl rfl .nil) ?_;refine Ae Aa rfl ?_;refine Ag ⟨_,rfl,(fun u h=>by cases h),?_⟩;refine AF (i:=11) [(160,.slice A9 ((st.out.flatten ++ st.cur).length + 1) C9)] (.inl (by kernel_rfl)) (by kernel_rfl) rfl (.cons rfl rfl .nil) ?_;refine Ae Aa rfl ?_;refine Ag ⟨_,rfl,(fun u h=>by cases h),?_⟩;refine BJ [(0,AE sb),(1,.int .i64 now),(2,.slice (some ⟨ab,off,none⟩) qn qc),(13,.slice A1 DL.length C1),(90,.slice (some ⟨ab,off,none⟩) qn qc),(91,.int .i64 (qn:Int)),(92,.int .i64 (i:Int)),(21,.pointer (some ⟨b21,0,none⟩)),(16,.slice A9 ((st.out.flatten ++ st.cur).length + 1) C9),(17,.slice A4 (st1.cur.length + 1) C4),(18,.slice a18 st1.out.length c18),(19,.int .i64 st1.sum)] (by repeat (first |exact A5.nil |refine A5.cons rfl ?_)) ?_;repeat (first |refine Ab ?_ |refine Ag ?_ |refine Ad ?_ |refine Al ?_ |refine AG Aa rfl (by omega) ?_ |refine Ae Aa rfl ?_ |refine Ao ?_ |refine Aq Aa 2 rfl rfl rfl ?_)
   refine ⟨⟨i + 1,A9,C9,A4,C4,a18,c18,css,Fo⟩,⟨by show i + 1 <= qn;omega,by rw [hstN];exact hcss,hFo,hfrN⟩,(by dsimp only;rw [hstN,eN1,eN2];repeat (first |exact As.nil |refine As.cons rfl ?_)),fun w' hw=>?_,by show qn - (i + 1) < qn - i;omega⟩;dsimp only;rw [hstN,eN1,eN2,eN3,eN4];exact (hw.pm [3,4,5,6,7,8,9,10,11,2,0,1] rfl rfl rfl).less (by repeat (first |exact At.nil |refine At.keep ?_ |refine At.dropB (by first |assumption |omega) ?_))
 rintro ⟨_,_,_,a17,c17,a18,c18,css,Fo⟩ ⟨hcss,hFo,hfr⟩;dsimp only at hcss hFo hfr ⊢
 have hstq:stO qn=F5 s2.p s2.lim nums ql (Dg s2.q nums):=by
  rw [hstO];dsimp only;rw [List.take_of_length_le (by omega)]
 obtain ⟨st,hst⟩:∃ st,st=stO qn:=⟨_,rfl⟩;obtain ⟨FL,hFL⟩:∃ t,t=s2.batch now ql:=⟨_,rfl⟩
 have hFLe:FL=st.out ++ if 0 < (st.cur.length:Int) then [st.cur] else []:=by
  rw [hFL,hst,hstq];show DB s2.p s2.q s2.lim (Az s2.gs) ql=_;rw [<-hnums];exact Pp hp1 (hqs0 ▸ hqs)
 rw [<-hst] at hcss hfr ⊢;have hfo1:=hfr.out;have hfo2:=hfr.fl;have hFll:=IE s2.p s2.q s2.lim (Az s2.gs) ql;rw [show DB s2.p s2.q s2.lim (Az s2.gs) ql=FL from hFL.symm,hql] at hFll;repeat (first |refine Ai ?_ |refine Ab ?_ |refine Ag ?_ |refine Ae Aa rfl ?_)
 refine BO (ι:=XA) (fun q=>q.css.flatten.length=FL.length/\∀ k,q.Fo k->w.heap.size <= k) (fun q=>[(0,AE sb),(1,.int .i64 now),(2,.slice qa qn qc),(13,.slice A1 DL.length C1),(18,.slice q.a18 FL.length q.c18)])
  (fun q=>[.row w.heap.size (.slice q.a18 FL.length q.c18) 59 1 FL.length q.css.flatten,.rep (fun w=>(Cp (Ax (Bc .u64)) q.css FL).at_ w q.Fo (.bool true)) q.Fo false,.blk sb (FK bb s2) true,.rep (fun w=>(DK bb s2.f s2.m s2.gs s2.last).at_ w Fb3 (.bool true)) Fb3 true,.row w.heap.size (.slice A1 DL.length C1) 94 2 DL.length (xs.map Dl).flatten,.rep (fun w=>(DJ d1 DL.length dc xs DL).at_ w Fd (.bool true)) Fd false]) ?_ ?_
 ·refine Ak rfl (fun hlt=>?_) (fun hge=>?_)
  ·rw [if_pos hlt] at hFLe
   have e8:FL.length=st.out.length + 1:=by rw [hFLe,List.length_append];rfl
   refine Gz (fun w' hw=>hw.pm [2,0,1,3,4,5,6] rfl rfl rfl) ?_;refine LY ((Ax (Bc .u64)).vp st.cur) (fun w' h=>(Ea h rfl (fun n hn=>hfr.fit n (List.mem_append.2 (.inr hn)))).val) (fun Fl hFl=>?_);repeat (first |refine Ab ?_ |refine Ae Aa rfl ?_)
   refine AS Aa rfl rfl rfl rfl rfl rfl rfl rfl rfl rfl rfl rfl (fun b49 hb49=>?_);refine AW (ty:=0) Aa 4 (k:=1) (news:=[.slice a17 st.cur.length c17]) rfl rfl rfl rfl rfl rfl rfl rfl rfl (by decide) (fun w' hw=>Sl.of_blk (hw.own _ (Af (i:=0) rfl)) rfl (fun j u hu=>by rw [Nat.zero_add];exact hu)) (fun u hu=>by rw [List.mem_singleton] at hu;subst hu;rfl) (by simp only [maxLen];omega) (by show (_ + _) * 24 <= _;omega) rfl (fun A' C' hA' hC'=>⟨_,rfl,?_⟩);repeat (first |refine Ag ?_ |refine Ae Aa rfl ?_)
   have e9:(css ++ [[Value.slice a17 st.cur.length c17]]).flatten=css.flatten ++ [Value.slice a17 st.cur.length c17]:=by rw [List.flatten_append];rfl
   refine ⟨⟨0,none,0,none,0,A',C',css ++ [[.slice a17 st.cur.length c17]],fun k=>Fl k \/ Fo k⟩,⟨by dsimp only;rw [e9,e8,List.length_append,hcss];rfl,fun k hk=>hk.elim (hFl k) (hFo k)⟩,(by dsimp only;rw [e8];repeat (first |exact As.nil |refine As.cons rfl ?_)),fun w' hw=>?_⟩;dsimp only;rw [e8,e9,hFLe];have h8:=(hw.pm [1,5,0,2,3,4,6,7] rfl rfl rfl).merge (Ψ:=fun w=>(Cp (Ax (Bc .u64)) (css ++ [[Value.slice a17 st.cur.length c17]]) (st.out ++ [st.cur])).at_ w (fun k=>Fl k \/ Fo k) (.bool true)) (fun q1 q2=>Cp.snoc ((Cp _ _ _).mono q2 fun k hk=>.inr hk) ((Ax (Bc .u64)).at_mono q1 fun k hk=>.inl hk)) (Vp.loc (p:=Cp _ _ _));exact (h8.pm [4,0,2,3,5,6,1] rfl rfl rfl).less (by repeat (first |exact At.nil |refine At.keep ?_ |refine At.dropB (by first |assumption |omega) ?_))
  ·rw [if_neg hge,List.append_nil] at hFLe;repeat (first |refine Ad ?_ |refine Ap ?_)
   exact ⟨⟨0,none,0,none,0,a18,c18,css,Fo⟩,⟨by rw [hFLe];exact hcss,hFo⟩,(by dsimp only;rw [hFLe];repeat (first |exact As.nil |refine As.cons rfl ?_)),fun w' hw=>by
    dsimp only;rw [hFLe]
    exact (hw.pm [3,4,0,1,5,6,2] rfl rfl rfl).less (by repeat (first |exact At.nil |refine At.keep ?_ |refine At.dropW (Nat.le_refl _) ?_))⟩
 rintro ⟨_,_,_,_,_,e1,ec_,css,Fo⟩ ⟨hcss,hFo⟩;dsimp only at hcss hFo ⊢;refine MS (ι:=List SX × (Nat->Prop)) (fun q=>(∀ k,q.2 k->w.heap.size <= k)/\q.1.length=FL.length) (fun q=>[.rep (fun w=>(DJ e1 FL.length ec_ q.1 FL).at_ w q.2 (.bool true)) q.2 false,.blk sb (FK bb s2) true,.rep (fun w=>(DK bb s2.f s2.m s2.gs s2.last).at_ w Fb3 (.bool true)) Fb3 true,.row w.heap.size (.slice A1 DL.length C1) 94 2 DL.length (xs.map Dl).flatten,.rep (fun w=>(DJ d1 DL.length dc xs DL).at_ w Fd (.bool true)) Fd false]) (fun w' hw=>?_) ?_
 ·obtain ⟨Fr,hFr,h1⟩:=hw.share (p:=JF w.heap.size 59 1 FL.length css.flatten) (fun h=>⟨h,fun k hk=>hk⟩);have h2:=h1.merge (Ψ:=fun w=>((Ax (Ax (Bc .u64))).vp FL).at_ w (fun k=>Fr k \/ Fo k) (.slice e1 FL.length ec_)) (fun q1 q2=>(Cp.slr (R:=Ax (Bc .u64)) ((Cp _ _ _).mono q2 fun k hk=>.inr hk) q1.1 rfl fun k _ hk=>.inl (q1.2 k hk)).val) (Vp.loc (p:=(Ax (Ax (Bc .u64))).vp _));obtain ⟨a,ln,c,ys,he,hx⟩:=Sh (h2.own _ (Af (i:=0) rfl)).1;cases he;exact ⟨(ys,fun k=>Fr k \/ Fo k),⟨fun k hk=>hk.elim (hFr k) (hFo k),(DJ.len hx).2⟩,h2.mapI 0 rfl (Ψ:=fun w=>(DJ e1 FL.length ec_ ys FL).at_ w (fun k=>Fr k \/ Fo k) (.bool true)) (fun _=>hx) (Vp.loc (p:=DJ _ _ _ _ _)) rfl⟩
 rintro ⟨ys,Ff⟩ ⟨hFf,hyl⟩;dsimp only at hFf hyl ⊢;have hsl:=fun (j:Nat)=>BI.sendAll_len now (FL.take j) s2;repeat (first |refine Ai ?_ |refine Ab ?_ |refine Ar ?_ |refine Ag ?_ |refine Ae Aa rfl ?_)
 refine AP (ι:=Nat × Option Addr × Nat × (Nat->Prop)) (fun j=>[(0,AE sb),(1,.int .i64 now),(2,.slice qa qn qc),(13,.slice j.2.1 (DL.length + j.1) j.2.2.1),(173,.slice e1 FL.length ec_),(174,.int .i64 (FL.length:Int)),(175,.int .i64 (j.1:Int))])
  (fun j=>[.rep (fun w=>(DJ e1 FL.length ec_ ys FL).at_ w Ff (.bool true)) Ff false,.row w.heap.size (.slice j.2.1 (DL.length + j.1) j.2.2.1) 94 2 (DL.length + j.1) ((xs ++ ys.take j.1).map Dl).flatten,.rep (fun w=>(DJ d1 DL.length dc xs DL).at_ w Fd (.bool true)) Fd false,.blk sb (FK bb s2) true,.rep (fun w=>(DK bb s2.f s2.m (s2.sendAll now (FL.take j.1)).gs (s2.sendAll now (FL.take j.1)).last).at_ w j.2.2.2 (.bool true)) j.2.2.2 true])
  (fun j=>j.1 <= FL.length/\∀ k,j.2.2.2 k->F k \/ w.heap.size <= k) (fun j=>FL.length - j.1) (0,A1,C1,Fb3) ⟨Nat.zero_le _,hFb4⟩ (by repeat (first |exact As.nil |refine As.cons rfl ?_)) (fun w' hw=>?_) ?_
 ·dsimp only;rw [List.take_zero (l:=ys),List.append_nil];exact hw.pm [0,3,4,1,2] rfl rfl rfl
 rintro ⟨j,A2,C2,Fj⟩ ⟨hj,hFj⟩;dsimp only at hj hFj ⊢;repeat (first |refine Ai ?_ |refine Ab ?_ |refine Ag ?_ |refine Ae Aa rfl ?_)
 refine Ak rfl (fun hlt1=>?_) (fun hge2=>?_)
 ·have hin:j < FL.length:=by omega
  obtain ⟨l',hl'⟩:∃ l',FL[j]? =some l':=⟨_,List.getElem?_eq_getElem hin⟩;obtain ⟨⟨ya,yn,yc⟩,hy⟩:∃ x,ys[j]? =some x:=⟨_,List.getElem?_eq_getElem (by omega)⟩;have hslj:=hsl j
  have htk:FL.take (j + 1)=FL.take j ++ [l']:=by
   rw [List.take_succ_eq_append_getElem hin];rw [List.getElem?_eq_getElem hin] at hl';rw [Option.some.inj hl']
  have hfl:(FL.take j).flatten.length + l'.length <= qn:=by
   have h1:((FL.take j).flatten ++ l').length <= FL.flatten.length:=by
    have h2:((FL.take (j + 1)).flatten).length <= FL.flatten.length:=by
     conv=>rhs;rw [<-List.take_append_drop (j + 1) FL,List.flatten_append,List.length_append]
     omega
    rw [htk,List.flatten_append] at h2;simpa using h2
   rw [List.length_append] at h1;omega
  have htl:(FL.take j).length=j:=by rw [List.length_take];omega
  rw [htl] at hslj;refine FI (X:=(∃ b off,e1=some ⟨b,off,none⟩)/\l'.length=yn) (fun w1 g1=>⟨DJ.addr (g1.own _ (Af (i:=0) rfl)).1 (by omega),(DJ.get (g1.own _ (Af (i:=0) rfl)).1 hy hl').len⟩) (fun ⟨⟨b5,o5,e5⟩,hyn⟩=>?_);subst e5 hyn;repeat (first |refine Ai ?_ |refine Ab ?_ |refine Ar ?_ |refine Ad ?_ |refine Ap ?_)
  refine BM (Bw (sz:=1) Aa rfl rfl rfl rfl rfl rfl rfl (j:=j) rfl hin) ?_;refine Bf Aa (v:=.slice ya l'.length yc) rfl rfl (fun w1 h1=>by rw [Nat.mul_one];exact DJ.cell (h1.own _ (Af (i:=0) rfl)).1 hy) ?_;repeat (first |refine Ai ?_ |refine Ab ?_ |refine Ag ?_ |refine Ae Aa rfl ?_ |refine Aq Aa 3 rfl rfl rfl ?_)
  refine PG 4 (L:=l') rfl rfl (fun w1 g1=>⟨Ff,DJ.get (g1.own _ (Af (i:=0) rfl)).1 hy hl',fun k hk hF=>g1.dis 0 4 rfl rfl rfl rfl hk hF⟩) hnow (by omega) (by omega) (by omega) (fun F7 hF7=>⟨_,rfl,?_⟩);repeat (first |refine Ag ?_ |refine Ae Aa rfl ?_ |refine Ao ?_ |refine BM (Bi Aa rfl rfl rfl rfl rfl rfl rfl) ?_)
  refine AS Aa rfl rfl rfl rfl rfl rfl rfl rfl rfl rfl rfl rfl (fun nb hnb=>?_)
  refine AW (ty:=0) (k:=1) (news:=[.int .i64 3,.slice ya l'.length yc]) Aa 2 (sz:=2) rfl rfl rfl rfl rfl rfl rfl rfl rfl (by decide) (fun w' hw=>Sl.of_blk (hw.own _ (Af (i:=0) rfl)) rfl (fun j u hu=>by rw [Nat.zero_add];exact hu)) (fun u hu=>by
   simp only [List.mem_cons,List.not_mem_nil,or_false] at hu
   rcases hu with rfl |rfl<;>rfl) (by simp only [maxLen];omega) (by show (_ + _) * 32 <= _;omega) rfl (fun A' C' hA' hC'=>⟨_,rfl,?_⟩)
  repeat (first |refine Ab ?_ |refine Ag ?_ |refine Ad ?_ |refine Al ?_ |refine AG Aa rfl (by omega) ?_ |refine Ae Aa rfl ?_)
  refine ⟨(j + 1,A',C',F7),⟨hin,fun k hk=>(hF7 k hk).elim (hFj k) .inr⟩,(by repeat (first |exact As.nil |refine As.cons rfl ?_)),fun w' hw=>?_,by dsimp only;omega⟩
  have e9:((xs ++ ys.take (j + 1)).map Dl).flatten=((xs ++ ys.take j).map Dl).flatten ++ [.int .i64 3,.slice ya l'.length yc]:=by
   rw [List.getElem?_eq_some_iff] at hy;obtain ⟨hy1,hy2⟩:=hy;rw [List.take_succ_eq_append_getElem hy1,hy2,<-List.append_assoc,List.map_append,List.flatten_append];rfl
  obtain ⟨q1,q2,_⟩:=BI.sendAll_eq now (FL.take j) s2
  have e10:DK bb s2.f s2.m (s2.sendAll now (FL.take (j + 1))).gs (s2.sendAll now (FL.take (j + 1))).last=DK bb s2.f s2.m (Ce s2.f s2.m (s2.sendAll now (FL.take j)).gs (s2.sendAll now (FL.take j)).last now l').1 (Ce s2.f s2.m (s2.sendAll now (FL.take j)).gs (s2.sendAll now (FL.take j)).last now l').2.1:=by
   rw [htk,BI.sendAll_snoc];show DK bb s2.f s2.m (Ce (s2.sendAll now (FL.take j)).f (s2.sendAll now (FL.take j)).m _ _ now l').1 (Ce (s2.sendAll now (FL.take j)).f (s2.sendAll now (FL.take j)).m _ _ now l').2.1=_;rw [q1,q2]
  dsimp only;rw [e9,e10];exact hw.less (by repeat (first |exact At.nil |refine At.keep ?_ |refine At.dropB (by first |assumption |omega) ?_))
 have hje:j=FL.length:=by omega
 subst hje;obtain ⟨s3,hs3⟩:∃ t,t=s2.sendAll now FL:=⟨_,rfl⟩;rw [List.take_length,<-hs3,List.take_of_length_le (show ys.length <= FL.length by omega)];obtain ⟨a1,a2,a3,a4,a5,a6,a7,a8,a9,a10⟩:=BI.sendAll_eq now FL s2;rw [<-hs3] at a1 a2 a3 a4 a5 a6 a7 a8 a9 a10
 have e3:FK bb s2=FK bb s3:=by
  unfold FK;rw [a1,a2,a3,a4,a5,a6,a7,a8,a9,a10]
 have hok3:Ek s3:=⟨by rw [a1,a2,a3,a4];exact hok2.conf,by rw [a5];exact hok2.ep,by rw [a7];exact hok2.inc,by rw [a8];exact hok2.lim,by rw [a9];exact hok2.tm,by rw [a10];exact hok2.tr⟩
 have hs3o:s.open_ now ql=s3:=by rw [hs3,hFL,hs2,hqs0];rfl
 have hs3t:s3.tr=s.tr:=by rw [a10,hs2];rfl
 have hs3u:s3.tm=s.tm:=by rw [a9,hs2];rfl
 have hout:s.outs now ql=(DL ++ FL).map fun l=>((3:Int),l):=by rw [hDL,hFL,hs2,hqs0];rfl
 have fin2:∀ (s4:BI) (w':World) (A:Option Addr) (C:Nat) (ec:List (List Value)) (eo:List (Int × List Int)),(∀ F:Nat->Prop,(Cp Kv ec eo).at_ w' F (.bool true))->s.told now ql=s.outs now ql ++ eo->s.tick now ql=s4->Ek s4->DK bb s4.f s4.m s4.gs s4.last=DK bb s2.f s2.m s3.gs s3.last->
  Hp w w' [.blk sb (FK bb s4) true,.rep (fun w=>(DJ e1 FL.length ec_ ys FL).at_ w Ff (.bool true)) Ff false,.row w.heap.size (.slice A (DL.length + FL.length + eo.length) C) 94 2 (DL.length + FL.length + eo.length) ((xs ++ ys).map Dl ++ ec).flatten,.rep (fun w=>(DJ d1 DL.length dc xs DL).at_ w Fd (.bool true)) Fd false,.rep (fun w=>(DK bb s2.f s2.m s3.gs s3.last).at_ w Fj (.bool true)) Fj true]->
  ∃ (v':Value) (Fv F':Nat->Prop),Ending.returned (.slice A (DL.length + FL.length + eo.length) C)= .returned v'/\(∀ k,Fv k->w.heap.size <= k)/\(∀ k,F k->F' k)/\(∀ k,F' k->F k \/ w.heap.size <= k)/\Hp w w' [.rep (fun w=>(G8.vp (s.told now ql)).at_ w Fv v') Fv false,.rep (fun w=>(IS sb (s.tick now ql)).at_ w F' (.bool true)) F' true]:=fun s4 w' A C ec eo hec hto htk hok4 ebo hw=>by
  obtain ⟨Fr,hFr,h1⟩:=(hw.pm [2,0,1,3,4] rfl rfl rfl).share (p:=JF w.heap.size 94 2 (DL.length + FL.length + eo.length) ((xs ++ ys).map Dl ++ ec).flatten) (fun h=>⟨h,fun k hk=>hk⟩)
  have h2:=(h1.pm [2,3,0,1,4] rfl rfl rfl).merge (Ψ:=fun w=>(Cp Kv ((xs ++ ys).map Dl ++ ec) (s.told now ql)).at_ w (fun k=>Ff k \/ Fd k) (.bool true)) (fun q1 q2=>by
   rw [hto,hout,List.map_append,List.map_append]
   exact Cp.append (Cp.append ((Cp _ _ _).mono (UJ q2) fun k hk=>.inr hk) ((Cp _ _ _).mono (UJ q1) fun k hk=>.inl hk)) (hec _)) (Vp.loc (p:=Cp _ _ _))
  have h3:=(h2.pm [1,0,2,3] rfl rfl rfl).merge (Ψ:=fun w=>(G8.vp (s.told now ql)).at_ w (fun k=>Fr k \/ (Ff k \/ Fd k)) (.slice A (DL.length + FL.length + eo.length) C)) (fun q1 q2=>(Cp.slr (R:=Kv) ((Cp _ _ _).mono q2 fun k hk=>.inr hk) q1.1 (by rw [hto,hout,List.length_append,List.length_map,List.length_append]) fun k _ hk=>.inl (q1.2 k hk)).val) (Vp.loc (p:=G8.vp _));refine fin s4 Fj (fun k=>Fr k \/ (Ff k \/ Fd k)) w' _ ?_ hok4 hFj (fun k hk=>hk.elim (hFr k) fun h=>h.elim (hFf k) (hFd k)) htk;rw [ebo];exact h3.pm [1,2,0] rfl rfl rfl
 have hslN:=hsl FL.length;rw [List.take_length,<-hs3] at hslN;rw [e3];repeat (first |refine Ai ?_ |refine Ab ?_ |refine Ad ?_ |refine AD ?_ |refine Am ?_ |refine AJ ?_ |refine Ae Aa rfl ?_ |refine Aq Aa 3 rfl rfl rfl ?_)
 refine OQ 4 rfl rfl (fun a9' c9' hc9 hd9=>?_);obtain ⟨U9,hU9⟩:∃ U9,U9=BA (Az s3.gs):=⟨_,rfl⟩;rw [<-hU9] at hc9 ⊢
 have hbusy:s.busy now ql ↔ (0 < ((Az s3.gs).length:Int) \/ (ql.length:Int)=0):=by show (0 < ((Az (s.open_ now ql).gs).length:Int) \/ _) ↔ _;rw [hs3o]
 have hU0:U9.length=0 ↔ (Az s3.gs).length=0:=by
  rw [List.length_eq_zero_iff,List.length_eq_zero_iff,List.eq_nil_iff_forall_not_mem,List.eq_nil_iff_forall_not_mem];exact forall_congr' fun n=>not_congr (by rw [hU9];exact Cy)
 refine Gc (ι:=Bool) (fun b=>b=true ↔ ¬ s.busy now ql) (fun b=>[(0,AE sb),(1,.int .i64 now),(13,.slice A2 (DL.length + FL.length) C2),(203,.bool b)])
  (fun b=>[.blk sb (FK bb s3) true,.rep (fun w=>(DJ e1 FL.length ec_ ys FL).at_ w Ff (.bool true)) Ff false,.row w.heap.size (.slice A2 (DL.length + FL.length) C2) 94 2 (DL.length + FL.length) ((xs ++ ys).map Dl).flatten,.rep (fun w=>(DJ d1 DL.length dc xs DL).at_ w Fd (.bool true)) Fd false,.rep (fun w=>(DK bb s2.f s2.m s3.gs s3.last).at_ w Fj (.bool true)) Fj true]) ?_ ?_
 ·repeat (first |refine Ae Aa rfl ?_)
  by_cases h4:(U9.length:Int)=0
  ·refine Ci 199 (v':=.bool true) rfl (congrArg Value.bool (decide_eq_true h4)) ?_;repeat (first |refine Ag ?_ |refine Ae Aa rfl ?_)
   refine ⟨decide (0 < (qn:Int)),?_,(by repeat (first |exact As.nil |refine As.cons rfl ?_)),fun w hw=>(hw.pm [4,1,2,3,5,0] rfl rfl rfl).less (by repeat (first |exact At.nil |refine At.keep ?_ |refine At.dropW (Nat.le_refl _) ?_))⟩;have h5:=hU0.1 (by omega);rw [decide_eq_true_iff,hbusy,h5,hql];omega
  ·refine Ci 199 (v':=.bool false) rfl (congrArg Value.bool (decide_eq_false h4)) ?_;repeat (first |refine Ag ?_ |refine Ae Aa rfl ?_ |refine Bn rfl rfl rfl ?_)
   refine ⟨false,⟨(fun h=>by cases h),fun h=>(h (hbusy.2 (.inl ?_))).elim⟩,(by repeat (first |exact As.nil |refine As.cons rfl ?_)),fun w hw=>(hw.pm [4,1,2,3,5,0] rfl rfl rfl).less (by repeat (first |exact At.nil |refine At.keep ?_ |refine At.dropW (Nat.le_refl _) ?_))⟩;have h5:(Az s3.gs).length ≠ 0:=fun e=>h4 (by rw [hU0.2 e];rfl);omega
 intro b hb
 have hto0:s.told now ql=s.outs now ql ++ (if s.busy now ql then [] else if s.tm <= now then [(3,[])] else []):=by unfold BI.told;rw [if_pos hop]
 have htk0:s.tick now ql=if s.busy now ql then s3.calm_ else s3.try_ now:=by
  unfold BI.tick;rw [if_pos hop];by_cases h:s.busy now ql
  ·rw [if_pos h,if_pos h,hs3o]
  ·rw [if_neg h,if_neg h,hs3o]
 skip;refine CN rfl (fun h5=>?_) (fun h5=>?_)
 ·have hnb:=hb.1 h5;rw [if_neg hnb] at hto0 htk0;repeat (first |refine Ai ?_ |refine Ab ?_ |refine Ae Aa rfl ?_)
  refine Bb rfl Tryz.call58 (fun w1 g1=>(KH (s:=s3) g1 hok3.conf.1 hnow ⟨hok3.tr.1,by rw [hs3t];exact hstr⟩).mono fun e w' ⟨he,h9⟩=>⟨_,_,he,h9,?_⟩);repeat (first |refine Ag ?_)
  refine Ak rfl (fun h6=>?_) (fun h6=>?_)
  ·rw [if_pos (show s.tm <= now by rw [<-hs3u];exact h6)] at hto0;repeat (first |refine Ab ?_ |refine Ae Aa rfl ?_ |refine BM (Bi Aa rfl rfl rfl rfl rfl rfl rfl) ?_)
   refine AS Aa rfl rfl rfl rfl rfl rfl rfl rfl rfl rfl rfl rfl (fun nb hnb2=>?_)
   refine AW (ty:=0) (k:=1) (news:=[.int .i64 3,.slice none 0 0]) Aa 3 (sz:=2) rfl rfl rfl rfl rfl rfl rfl rfl rfl (by decide) (fun w' hw=>Sl.of_blk (hw.own _ (Af (i:=0) rfl)) rfl (fun j u hu=>by rw [Nat.zero_add];exact hu)) (fun u hu=>by
    simp only [List.mem_cons,List.not_mem_nil,or_false] at hu
    rcases hu with rfl |rfl<;>rfl) (by simp only [maxLen];omega) (by show (_ + _) * 32 <= _;omega) rfl (fun A' C' hA' hC'=>⟨_,rfl,?_⟩)
   repeat (first |refine Ai ?_ |refine Ab ?_ |refine Ag ?_ |refine AK ?_ |refine AC ?_ |refine Ae Aa rfl ?_)
   exact A6 rfl rfl (fun w' hw=>fin2 (s3.try_ now) w' A' C' [[.int .i64 3,.slice none 0 0]] [(3,[])] (fun F=>Mr (by decide)) hto0 htk0 (hok3.try_ hnow (by rw [hs3t];exact hstr)) (by rw [BI.tryR_same,a1,a2]) (by
    rw [List.flatten_append]
    exact hw.less (by repeat (first |exact At.nil |refine At.keep ?_ |refine At.dropB (by first |assumption |omega) ?_))))
  ·rw [if_neg (show ¬ s.tm <= now by rw [<-hs3u];exact h6)] at hto0;repeat (first |refine Ai ?_ |refine Ab ?_ |refine Ag ?_ |refine Ad ?_ |refine AK ?_ |refine Ap ?_ |refine AC ?_ |refine Ae Aa rfl ?_)
   exact A6 rfl rfl (fun w' hw=>fin2 (s3.try_ now) w' A2 C2 [] [] (fun F=>Cp.nil_) hto0 htk0 (hok3.try_ hnow (by rw [hs3t];exact hstr)) (by rw [BI.tryR_same,a1,a2]) (by rw [List.append_nil];exact hw))
 ·have hbz:s.busy now ql:=Classical.byContradiction fun h=>by have:=hb.2 h;rw [h5] at this;cases this
  rw [if_pos hbz] at hto0 htk0;repeat (first |refine Ai ?_ |refine Ab ?_ |refine Ag ?_ |refine Ad ?_ |refine Ap ?_ |refine AC ?_ |refine Ae Aa rfl ?_ |refine Au Aa 0 rfl rfl rfl rfl rfl rfl ?_)
  exact A6 rfl rfl (fun w' hw=>fin2 s3.calm_ w' A2 C2 [] [] (fun F=>Cp.nil_) hto0 htk0 ⟨hok3.conf,hok3.ep,hok3.inc,hok3.lim,(show (0:Int) <= 0/\(0:Int) <= 2305843009213693952 by decide),(show (0:Int) <= 0/\(0:Int) <= 1099511627776 by decide)⟩ (by show DK bb s3.f s3.m s3.gs s3.last=_;rw [a1,a2]) (by rw [List.append_nil];exact hw))
end
end Go.Proofs.YtidhpofcofknhaaGreat
