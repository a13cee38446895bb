/-
  A pair of senders: what is queued changes. Conditions: each theorem's own.
-/
import Derived.Test.YtidhpofcofknhaaGreatSxI
namespace Go.Proofs.YtidhpofcofknhaaGreat
open Go Go.RowKit
set_option linter.unusedVariables false
structure Ac where
 d:Int
 la:Int
 x:Fm
 nn:Int
 sz:Int
 ra:Option Addr
 rn:Nat
 rc:Nat
abbrev Ac.cs (y:Ac):List Value:=[.int .u8 y.d,.int .u8 y.la,.int .u8 y.x.k,.int .i64 y.x.ag,.int .u64 y.x.ep,.int .u64 y.x.inc,.int .u64 y.x.base,.int .u64 y.x.cum,.int .u64 y.x.lim,.slice y.x.ra y.x.rn y.x.rc,.slice y.x.xa y.x.xn y.x.xc,.int .u8 y.nn,.int .u16 y.sz,.slice y.ra y.rn y.rc]
structure QJ (M j:Nat) (ql:List (Int × Int)) (last:Int):Prop where
 srt:(ql.map (·.1)).Pairwise (· < ·)
 le:∀ x ∈ ql,0 <= x.1/\x.1 <= last
 sz:∀ x ∈ ql,0 <= x.2/\x.2 <= 4112
 len:ql.length <= M * 11 + j
 last:0 <= last/\last <= (M:Int) * 22 + 2 * (j:Int)
theorem QJ.of {M:Nat} {ql:List (Int × Int)} {last:Int} (h:QB M ql last):QJ M 0 ql last:=⟨h.srt,h.le,h.sz,h.len,by have:=h.last;omega⟩
theorem QJ.qb {M j:Nat} {ql:List (Int × Int)} {last:Int} (h:QJ M j ql last) (hj:j <= 11):QB (M + 1) ql last:=⟨h.srt,h.le,h.sz,by have:=h.len;omega,by have:=h.last;omega⟩
theorem QJ.step {M j:Nat} {ql:List (Int × Int)} {last n z:Int} (h:QJ M j ql last) (hn:last < n/\n <= last + 2) (hz:0 <= z/\z <= 4112):QJ M (j + 1) (ql ++ [(n,z)]) n:=by
 have h1:=h.last;refine ⟨?_,fun x hx=>?_,fun x hx=>?_,?_,by omega⟩
 ·rw [List.map_append,List.pairwise_append];refine ⟨h.srt,List.pairwise_singleton _ _,fun a ha b hb=>?_⟩;obtain ⟨y,hy,rfl⟩:=List.mem_map.1 ha
  have hb2:b=n:=by simpa using hb
  have:=h.le y hy;omega
 ·rcases List.mem_append.1 hx with hx |hx
  ·have:=h.le x hx;omega
  ·rw [List.mem_singleton] at hx;subst hx;dsimp only;omega
 ·rcases List.mem_append.1 hx with hx |hx
  ·exact h.sz x hx
  ·rw [List.mem_singleton] at hx;subst hx;exact hz
 ·rw [List.length_append];have:=h.len;show ql.length + 1 <= _;omega
theorem IV {w:World} {e:TypeId} {n c:Nat} {a:Option Addr} {xs:List Value} (h:FR w e 2 (.slice a n c) n xs) (hn:0 < n):FR w e 2 (.slice (if c=1 then a else a.map (·.add (1 * 2))) (n - 1) (c - 1)) (n - 1) (xs.drop 2)/\∀ k,(Value.slice (if c=1 then a else a.map (·.add (1 * 2))) (n - 1) (c - 1)).ownBlock=some k->(Value.slice a n c).ownBlock=some k:=by
 obtain ⟨h0,⟨_,h1⟩ |⟨g,off,cap,cur,h1,h2,h3,h4,h5,h6⟩⟩:=h
 ·omega
 ·cases h1;by_cases hc:c=1
  ·subst hc
   have hn1:n=1:=by omega
   subst hn1;rw [if_pos rfl];refine ⟨⟨by rw [List.length_drop,h0],.inr ⟨g,off,0,cur,rfl,h2,Nat.le_refl _,Nat.zero_le _,by omega,?_⟩⟩,fun k hk=>hk⟩
   have hx2:xs.length <= 2:=by rw [h0];exact Nat.le_refl _
   rw [List.drop_eq_nil_of_le hx2];simp
  ·rw [if_neg hc];refine ⟨⟨by rw [List.length_drop,h0];omega,.inr ⟨g,off + 2,c - 1,cur,by simp [Addr.add_lit],h2,by omega,by omega,by omega,?_⟩⟩,fun k hk=>hk⟩;rw [<-h6,List.drop_take,List.drop_drop];congr 1;omega
abbrev R8 (pb sb xb:Nat) (s:BI) (ql:List (Int × Int)) (last now:Int) (qa:Option Addr) (qc:Nat) (F1 F2 Fq:Nat->Prop):OL:=[.blk pb (.cells ⟨[AE sb,AE xb,.slice qa ql.length qc,.int .u64 last,.int .i64 now]⟩ 45 (0,0)) true,.rep (fun w=>(GI sb s).at_ w F1 (.bool true)) F1 true,.rep (fun w=>(IS xb s).at_ w F2 (.bool true)) F2 true,qE Fq qa qc ql]
theorem Hp.rowQ {w0 w:World} {ol:OL} {v:Value} {e:TypeId} {sz n:Nat} {xs:List Value} (h:Hp w0 w (.row w0.heap.size v e sz n xs::ol)):Hp w0 w (.rep (fun w=>(R7 e sz n xs).at_ w (fun k=>v.ownBlock=some k) v) (fun k=>v.ownBlock=some k) true::ol):=
 have o:=h.own _ (List.mem_cons_self (l:=ol) (a:=HE.row w0.heap.size v e sz n xs))
 ⟨h.os,h.tape,h.output,h.size,fun k hk he=>h.old k hk fun e' hm hx hh=>by
  rcases List.mem_cons.1 hm with rfl |hm
  ·exact he _ List.mem_cons_self rfl hh
  ·exact he e' (List.mem_cons_of_mem _ hm) hx hh,fun e' hm=>by
  rcases List.mem_cons.1 hm with rfl |hm
  ·exact ⟨⟨Iu o,fun k hk=>hk⟩,Vp.loc (p:=R7 _ _ _ _),fun k hk=>(World.ownsRow.lt o k hk).2⟩
  ·exact h.own e' (List.mem_cons_of_mem _ hm),List.pairwise_cons.2 ⟨fun e' he hr k hk hk2=>(List.pairwise_cons.1 h.apart).1 e' he rfl k hk hk2,(List.pairwise_cons.1 h.apart).2⟩⟩
structure Yb where
 j:Nat
 ql:List (Int × Int)
 last:Int
 qa:Option Addr
 qc:Nat
 Fq:Nat->Prop
section
variable {w0 w:World} {rest:OL} {pb sb xb qc:Nat} {p:UB} {qa:Option Addr} {F1 F2 Fq Fr:Nat->Prop}
set_option maxHeartbeats 16000000 in
theorem Pd {y:Ac} {rl:List BX} (h:Hp w0 w (PP pb sb xb p qa qc F1 F2 Fq ++ .rep (fun w=>((Ax Bh).vp rl).at_ w Fr (.slice y.ra y.rn y.rc)) Fr false::rest)) (hNq:∀ k,Fq k->w0.heap.size <= k) {M:Nat} (hqb:QB M p.ql p.last) (hM:M <= 80) (hd:AV .u8 y.d) (hnn:AV .u8 y.nn) (hsz:AV .u16 y.sz):
 Calls Tryz.prog 11 #[AE pb,.agg ⟨y.cs⟩] w fun e w'=>∃ (ql':List (Int × Int)) (last':Int) (qa':Option Addr) (qc':Nat) (Fq':Nat->Prop),e= .returned (.tuple #[])/\QB (M + 1) ql' last'/\(∀ k,Fq' k->w0.heap.size <= k)/\
  Hp w0 w' (PP pb sb xb ⟨p.s,ql',last',p.now⟩ qa' qc' F1 F2 Fq' ++ .rep (fun w=>((Ax Bh).vp rl).at_ w Fr (.slice y.ra y.rn y.rc)) Fr false::rest):=by
 obtain ⟨s,ql,last,now⟩:=p;dsimp only at hqb ⊢;have hd':=EA hd;have hnn':=EA hnn;have hsz':=Gs hsz;have h':Hp w0 w (R8 pb sb xb s ql last now qa qc F1 F2 Fq ++ .rep (fun w=>((Ax Bh).vp rl).at_ w Fr (.slice y.ra y.rn y.rc)) Fr false::rest):=h;refine GQ Tryz.func11 rfl rfl h' ?_;repeat (first |refine Ai ?_ |refine Ab ?_)
 refine AU Aa rfl (fun b3 hb3=>?_);repeat (first |refine Ai ?_ |refine Ab ?_ |refine Ag ?_ |refine Ae Aa rfl ?_ |refine Aq Aa 0 rfl rfl rfl ?_)
 refine BM (Ft rfl rfl rfl (by decide) hd'.1) ?_;repeat (first |refine Ai ?_ |refine Ab ?_ |refine Ar ?_ |refine Ag ?_ |refine Ae Aa rfl ?_)
 refine Ak rfl (fun h4=>?_) (fun h4=>?_)
 ·repeat (first |refine Ai ?_ |refine Ab ?_ |refine Ae Aa rfl ?_ |refine Aq Aa 0 rfl rfl rfl ?_)
  refine BM (Ft rfl rfl rfl (by decide) hnn'.1) ?_;repeat (first |refine Ar ?_ |refine Ag ?_ |refine AG Aa rfl (by omega) ?_ |refine Ae Aa rfl ?_)
  obtain ⟨L,hL⟩:∃ L:Nat,y.nn % 12=(L:Int):=⟨(y.nn % 12).toNat,by omega⟩
  have hL11:L <= 11:=by omega
  rw [hL]
  refine AP (ι:=Yb) (fun q=>[(0,AE pb),(3,.pointer (some ⟨b3,0,none⟩)),(19,.int .i64 (L:Int)),(20,.int .i64 (q.j:Int))])
   (fun q=>.blk b3 (.cells ⟨y.cs⟩ 38 (0,0)) true::(R8 pb sb xb s q.ql q.last now q.qa q.qc F1 F2 q.Fq ++ .rep (fun w=>((Ax Bh).vp rl).at_ w Fr (.slice y.ra y.rn y.rc)) Fr false::rest))
   (fun q=>q.j <= L/\QJ M q.j q.ql q.last/\∀ k,q.Fq k->w0.heap.size <= k) (fun q=>L - q.j) ⟨0,ql,last,qa,qc,Fq⟩ ⟨Nat.zero_le _,QJ.of hqb,hNq⟩ (by repeat (first |exact As.nil |refine As.cons rfl ?_)) (fun w' hw=>hw) ?_
  rintro ⟨j,ql1,last1,qa1,qc1,Fq1⟩ ⟨hj,hqj,hN1⟩;dsimp only at hj hqj hN1 ⊢;have hla:=hqj.last;have hle:=hqj.len;repeat (first |refine Ai ?_ |refine Ab ?_ |refine Ag ?_ |refine Ae Aa rfl ?_)
  refine Ak rfl (fun hlt=>?_) (fun hge=>?_);rotate_left
  ·repeat (first |refine Al ?_ |refine AD ?_ |refine Am ?_ |refine AJ ?_)
   exact CP rfl (fun w' hw=>⟨ql1,last1,qa1,qc1,Fq1,rfl,hqj.qb (by omega),hN1,hw.less (by repeat (first |refine At.keep ?_ |refine At.dropB (by first |assumption |omega) ?_ |exact Br _))⟩)
  repeat (first |refine Ai ?_ |refine Ab ?_ |refine Ar ?_ |refine Ag ?_ |refine Ad ?_ |refine Ap ?_ |refine Ae Aa rfl ?_ |refine Aq Aa 1 rfl rfl rfl ?_)
  refine BM (Ft rfl rfl rfl (by decide) (by omega)) ?_;repeat (first |refine Ag ?_ |refine D1 Aa rfl (by omega) ?_ |refine Ae Aa rfl ?_ |refine Au Aa 1 rfl rfl rfl rfl rfl rfl ?_)
  have hj2:0 <= (j:Int) % 2/\(j:Int) % 2 <= 1:=by omega
  obtain ⟨r3,hr3⟩:∃ r3,r3=(j:Int) % 3:=⟨_,rfl⟩
  have hr3':0 <= r3/\r3 <= 2:=by omega
  have hmul:0 <= y.sz * r3/\y.sz * r3 <= 131070:=by
   have hc:r3=0 \/ r3=1 \/ r3=2:=by omega
   rcases hc with e |e |e<;>rw [e]<;>omega
  obtain ⟨nl,hnl⟩:∃ nl,nl=last1 + (1 + (j:Int) % 2):=⟨_,rfl⟩;rw [<-hnl];have hqs:=hqj.step (n:=nl) (z:=(y.sz * r3) % 4113) (by omega) (by omega);skip;refine BW ?_
  refine OM (by kernel_rfl) (by kernel_rfl) [17,18,21] (by kernel_rfl) (by kernel_rfl) (by kernel_rfl) [.blk pb (.cells ⟨[AE sb,AE xb,.slice qa1 ql1.length qc1,.int .u64 nl,.int .i64 now]⟩ 45 (0,0)) false,.blk b3 (.cells ⟨y.cs⟩ 38 (0,0)) false] (Cm (Cm Df))
   [some (AE pb),some (AE pb),some (.pointer (some ⟨pb,0,none⟩)),some (.pointer (some ⟨pb,0 + 2,none⟩)),some (.slice qa1 ql1.length qc1),some (AE pb),some (.pointer (some ⟨pb,0,none⟩)),some (.pointer (some ⟨pb,0 + 3,none⟩)),some (.int .u64 nl),some (.pointer (some ⟨b3,0 + 12,none⟩)),some (.int .u16 y.sz),some (.int .i64 y.sz),some (.int .i64 (j:Int)),some (.int .i64 ((j:Int) % 3)),some (.int .i64 (y.sz * ((j:Int) % 3))),some (.int .i64 ((y.sz * ((j:Int) % 3)) % 4113)),some (.agg ⟨FE (nl,(y.sz * ((j:Int) % 3)) % 4113)⟩),none,none,some (.pointer (some ⟨pb,0,none⟩)),some (.pointer (some ⟨pb,0 + 2,none⟩)),none]
   21 rfl (by kernel_rfl) ⟨.inr ⟨_,_,rfl,rfl,fun w f=>Ah Aa rfl Aj⟩,.inr ⟨_,_,rfl,rfl,fun w f=>Ah Aa rfl Aj⟩,.inr ⟨_,_,rfl,rfl,fun w f=>Ah Aa rfl Aj⟩,.inr ⟨_,_,rfl,rfl,fun w f=>Ah Aa rfl Aj⟩,.inr ⟨_,_,rfl,rfl,fun w f=>AA Aa 0 rfl rfl rfl Aj⟩,.inr ⟨_,_,rfl,rfl,fun w f=>Ah Aa rfl Aj⟩,.inr ⟨_,_,rfl,rfl,fun w f=>Ah Aa rfl Aj⟩,.inr ⟨_,_,rfl,rfl,fun w f=>Ah Aa rfl Aj⟩,.inr ⟨_,_,rfl,rfl,fun w f=>AA Aa 0 rfl rfl rfl Aj⟩,.inr ⟨_,_,rfl,rfl,fun w f=>Ah Aa rfl Aj⟩,.inr ⟨_,_,rfl,rfl,fun w f=>AA Aa 1 rfl rfl rfl Aj⟩,.inr ⟨_,_,rfl,rfl,fun w f=>BK Aa rfl (by omega) Aj⟩,.inr ⟨_,_,rfl,rfl,fun w f=>Ah Aa rfl Aj⟩,.inr ⟨_,_,rfl,rfl,fun w f=>Bx (Ft rfl rfl rfl (by decide) (by omega)) Aj⟩,.inr ⟨_,_,rfl,rfl,fun w f=>BK Aa rfl (by rw [<-hr3];omega) Aj⟩,.inr ⟨_,_,rfl,rfl,fun w f=>Bx (Ft rfl rfl rfl (by decide) (by rw [<-hr3];exact hmul.1)) Aj⟩,.inr ⟨_,_,rfl,rfl,fun w f=>Bx (Bi Aa rfl rfl rfl rfl rfl rfl rfl) Aj⟩,.inl rfl,.inl rfl,.inr ⟨_,_,rfl,rfl,fun w f=>Ah Aa rfl Aj⟩,.inr ⟨_,_,rfl,rfl,fun w f=>Ah Aa rfl Aj⟩,.inl rfl,trivial⟩ ?_
  rw [<-hr3];refine EC [(50,.agg ⟨FE (nl,(y.sz * r3) % 4113)⟩)] (AI 1 rfl (AI 0 rfl AN)) rfl (.cons rfl rfl .nil) ?_;refine AS Aa rfl rfl rfl rfl rfl rfl rfl rfl rfl rfl rfl rfl (fun b51 hb51=>?_);refine Ag ⟨_,rfl,(fun u h=>by cases h),?_⟩;refine EC [(38,.slice qa1 ql1.length qc1),(51,.slice (some ⟨b51,0,none⟩) 1 1)] (AI 2 rfl (AI 1 rfl AN)) rfl (.cons rfl rfl (.cons rfl rfl .nil)) ?_
  refine N3 (ty:=0) Aa 5 (k:=1) (news:=FE (nl,(y.sz * r3) % 4113)) rfl rfl rfl rfl rfl rfl rfl rfl rfl (by decide) (fun w' hw=>Sl.of_blk (hw.own _ (Af (i:=0) rfl)) rfl (fun j u hu=>by rw [Nat.zero_add];exact hu)) (fun u hu=>by
   simp only [FE,List.mem_cons,List.not_mem_nil,or_false] at hu
   rcases hu with rfl |rfl<;>rfl) (by simp only [maxLen];omega) (by show (_ + _) * 16 <= _;omega) (fun A2 C2 Fq2 hc3 hd3 hF2=>⟨_,rfl,?_⟩)
  refine Ag ⟨_,rfl,(fun u h=>by cases h),?_⟩;refine EC [(54,.pointer (some ⟨pb,0 + 2,none⟩)),(52,.slice A2 (ql1.length + 1) C2)] (AI 2 rfl (AI 1 rfl AN)) rfl (.cons rfl rfl (.cons rfl rfl .nil)) ?_;refine Au Aa 2 rfl rfl rfl rfl rfl rfl ?_;refine Ag ⟨_,rfl,(fun u h=>by cases h),?_⟩;refine RR [(0,AE pb),(3,.pointer (some ⟨b3,0,none⟩)),(19,.int .i64 (L:Int)),(20,.int .i64 (j:Int))] (by repeat (first |exact A5.nil |refine A5.cons rfl ?_)) ?_;repeat (first |refine Ab ?_ |refine Ag ?_ |refine Ad ?_ |refine Al ?_ |refine AG Aa rfl (by omega) ?_ |refine Ae Aa rfl ?_)
  have e1:(ql1 ++ [(nl,(y.sz * r3) % 4113)]).length=ql1.length + 1:=by rw [List.length_append];rfl
  refine ⟨⟨j + 1,ql1 ++ [(nl,(y.sz * r3) % 4113)],nl,A2,C2,Fq2⟩,⟨by show j + 1 <= L;omega,hqs,fun k hk=>(hF2 k hk).elim (hN1 k) id⟩,(by repeat (first |exact As.nil |refine As.cons rfl ?_)),fun w' hw=>?_,by show L - (j + 1) < L - j;omega⟩;dsimp only [R8,qE];rw [e1,Gu];exact hw.less (by repeat (first |refine At.keep ?_ |refine At.dropB (by first |assumption |omega) ?_ |exact Br _))
 ·repeat (first |refine Ai ?_ |refine Ab ?_ |refine Ag ?_ |refine Ae Aa rfl ?_)
  refine Ak rfl (fun h5=>?_) (fun h5=>?_)
  ·repeat (first |refine Ai ?_ |refine Ab ?_ |refine Ag ?_ |refine Ae Aa rfl ?_ |refine Aq Aa 1 rfl rfl rfl ?_)
   refine Ak rfl (fun h7=>?_) (fun h7=>?_)
   ·refine FI (X:=ql.length <= qc) (fun w1 g1=>by
     obtain ⟨_,_,e,h1,_⟩:=Gm (g1.own _ (Af (i:=4) rfl)).1.1;cases e
     exact h1) (fun hlc=>?_)
    repeat (first |refine Ae Aa rfl ?_ |refine Ao ?_ |refine Aq Aa 1 rfl rfl rfl ?_)
    refine BM (GB (L:=1) (sz:=2) Aa rfl rfl rfl rfl rfl rfl rfl rfl (by omega) hlc) ?_;repeat (first |refine Ag ?_ |refine Al ?_ |refine Ae Aa rfl ?_ |refine Au Aa 1 rfl rfl rfl rfl rfl rfl ?_)
    refine CP rfl (fun w' hw=>⟨ql.drop 1,last,(if qc=1 then qa else qa.map (·.add (1 * 2))),qc - 1,Fq,rfl,(hqb.sub (List.drop_sublist 1 ql)).up (Nat.le_succ _),hNq,?_⟩);dsimp only [PP,WL,qE];rw [show (ql.drop 1).length=ql.length - 1 from List.length_drop]
    have hpos:0 < ql.length:=by omega
    have e2:DU (ql.drop 1)=(DU ql).drop 2:=by
     cases ql with
     |nil=>rfl
     |cons x t=>rfl
    rw [e2];have g1:=hw.mapI 4 rfl (Ψ:=fun w=>(R7 64 2 (ql.length - 1) ((DU ql).drop 2)).at_ w Fq (.slice (if qc=1 then qa else qa.map (·.add (1 * 2))) (ql.length - 1) (qc - 1))) (fun h=>⟨(IV h.1 hpos).1,fun k hk=>h.2 k ((IV h.1 hpos).2 k hk)⟩) (Vp.loc (p:=R7 _ _ _ _)) rfl;exact g1.less (by repeat (first |refine At.keep ?_ |refine At.dropB (by first |assumption |omega) ?_ |exact Br _))
   ·repeat (first |refine Al ?_ |refine Ap ?_)
    exact CP rfl (fun w' hw=>⟨ql,last,qa,qc,Fq,rfl,hqb.up (Nat.le_succ _),hNq,hw.less (by repeat (first |refine At.keep ?_ |refine At.dropB (by first |assumption |omega) ?_ |exact Br _))⟩)
  ·repeat (first |refine Ai ?_ |refine Ab ?_ |refine Ag ?_ |refine Ae Aa rfl ?_)
   refine Ak rfl (fun h6=>?_) (fun h6=>?_)
   ·repeat (first |refine Ai ?_ |refine Ab ?_ |refine Ar ?_ |refine Ag ?_ |refine Ae Aa rfl ?_ |refine Aq Aa 1 rfl rfl rfl ?_)
    obtain ⟨d,la,x,nn,sz,ra,rn,rc⟩:=y;dsimp only at hd hnn hsz hd' hnn' hsz' h4 h5 h6 ⊢;have hok:=hqb.ok (by omega);have hql:=hqb.len
    refine FI (X:=rl.length=rn/\rn <= maxLen/\∀ r ∈ rl,UF r) (fun w1 g1=>by
     have h9:Bq Bh w1 Fr ra rn rc rl:=Bq.of_val (g1.own _ (Af (i:=5) rfl)).1
     exact ⟨h9.len,h9.maxn,Do h9⟩) (fun ⟨hrl,hrm,hrok⟩=>?_)
    simp only [maxLen] at hrm;obtain ⟨fl,hfl⟩:∃ fl:Nat->List (Int × Int),fl=fun i=>(ql.take i).filter fun z=>!decide (Cx rl z.1):=⟨_,rfl⟩
    have hf0:fl 0= []:=by rw [hfl];rfl
    have hfll:∀ i,(fl i).length <= ql.length:=fun i=>by
     rw [hfl];exact Nat.le_trans (List.length_filter_le _ _) (by rw [List.length_take];omega)
    refine AP (ι:=Nat × Option Addr × Nat) (fun q=>[(0,AE pb),(3,.pointer (some ⟨b3,0,none⟩)),(77,.slice qa ql.length qc),(78,.int .i64 (ql.length:Int)),(79,.int .i64 (q.1:Int)),(5,.slice q.2.1 (fl q.1).length q.2.2)])
     (fun q=>.row w0.heap.size (.slice q.2.1 (fl q.1).length q.2.2) 64 2 (fl q.1).length (DU (fl q.1))::.blk b3 (.cells ⟨Ac.cs ⟨d,la,x,nn,sz,ra,rn,rc⟩⟩ 38 (0,0)) true::(R8 pb sb xb s ql last now qa qc F1 F2 Fq ++ .rep (fun w=>((Ax Bh).vp rl).at_ w Fr (.slice ra rn rc)) Fr false::rest))
     (fun q=>q.1 <= ql.length) (fun q=>ql.length - q.1) (0,none,0) (Nat.zero_le _) (by dsimp only;rw [hf0];repeat (first |exact As.nil |refine As.cons rfl ?_)) (fun w' hw=>by dsimp only;rw [hf0];exact hw.nilRow _ _) ?_
    rintro ⟨i,a5,c5⟩ hi;dsimp only at hi ⊢;have hfi:=hfll i;repeat (first |refine Ai ?_ |refine Ab ?_ |refine Ag ?_ |refine Ae Aa rfl ?_)
    refine Ak rfl (fun hlt=>?_) (fun hge=>?_);rotate_left
    ·have hie:i=ql.length:=by omega
     repeat (first |refine Ag ?_ |refine Ad ?_ |refine Al ?_ |refine AD ?_ |refine Am ?_ |refine AJ ?_ |refine Ae Aa rfl ?_ |refine Ao ?_ |refine Au Aa 2 rfl rfl rfl rfl rfl rfl ?_)
     refine CP rfl (fun w' hw=>⟨fl i,last,a5,c5,fun k=>(Value.slice a5 (fl i).length c5).ownBlock=some k,rfl,(hqb.sub ?_).up (Nat.le_succ _),fun k hk=>?_,?_⟩)
     ·rw [hfl];exact List.filter_sublist.trans (List.take_sublist _ _)
     ·exact (World.ownsRow.lt (hw.own (.row w0.heap.size (.slice a5 (fl i).length c5) 64 2 (fl i).length (DU (fl i))) List.mem_cons_self) k hk).1
     ·have g1:=((hw.rowQ.pm [5,0,1,2,3,4] rfl rfl rfl).drop (fun _ k hk=>hNq k hk)).pm [2,3,4,0,5,1] rfl rfl rfl;exact g1.less (by repeat (first |refine At.keep ?_ |refine At.dropB (by first |assumption |omega) ?_ |exact Br _))
    have hi':i < ql.length:=by omega
    refine FI (X:=∃ b off,qa=some ⟨b,off,none⟩) (fun w1 g1=>by
     obtain ⟨b,off,cs,e,_⟩:=(Mn (g1.own _ (Af (i:=5) rfl)).1 hok).get_ hi'
     exact ⟨b,off,e⟩) (fun ⟨ab,off,hqe⟩=>?_)
    subst hqe;repeat (first |refine Ai ?_ |refine Ab ?_ |refine Ar ?_ |refine Ad ?_ |refine Ap ?_)
    refine BM (Bw (sz:=2) Aa rfl rfl rfl rfl rfl rfl rfl rfl (j:=i) (by omega)) ?_;refine B2 Aa (vs:=FE ql[i]) rfl rfl rfl (fun w' hw=>EG (Mn (hw.own _ (Af (i:=5) rfl)).1 hok) hi') ?_;refine AU Aa rfl (fun b7 hb7=>?_);obtain ⟨z,hz⟩:∃ z,z=ql[i]:=⟨_,rfl⟩
    have hfs:fl (i + 1)=fl i ++ if Cx rl z.1 then [] else [z]:=by
     rw [hfl,hz];dsimp only;rw [List.take_succ_eq_append_getElem hi',List.filter_append];congr 1;by_cases hm:Cx rl ql[i].1
     ·rw [if_pos hm,List.filter_cons_of_neg (by simpa using hm)];rfl
     ·rw [if_neg hm,List.filter_cons_of_pos (by simpa using hm)];rfl
    rw [<-hz];repeat (first |refine Ai ?_ |refine Ab ?_ |refine Ar ?_ |refine Ag ?_ |refine Ae Aa rfl ?_ |refine Aq Aa 2 rfl rfl rfl ?_ |refine Au Aa 0 rfl rfl rfl rfl rfl rfl ?_)
    refine AP (ι:=Nat) (fun j=>[(0,AE pb),(3,.pointer (some ⟨b3,0,none⟩)),(77,.slice (some ⟨ab,off,none⟩) ql.length qc),(78,.int .i64 (ql.length:Int)),(79,.int .i64 (i:Int)),(5,.slice a5 (fl i).length c5),(7,.pointer (some ⟨b7,0,none⟩)),(8,.bool (decide (Cx (rl.take j) z.1))),(84,.slice ra rn rc),(85,.int .i64 (rn:Int)),(86,.int .i64 (j:Int))])
     (fun _=>.blk b7 (.cells ⟨[.int .u64 z.1,.int .i64 z.2]⟩ 64 (0,0)) true::.row w0.heap.size (.slice a5 (fl i).length c5) 64 2 (fl i).length (DU (fl i))::.blk b3 (.cells ⟨Ac.cs ⟨d,la,x,nn,sz,ra,rn,rc⟩⟩ 38 (0,0)) true::(R8 pb sb xb s ql last now (some ⟨ab,off,none⟩) qc F1 F2 Fq ++ .rep (fun w=>((Ax Bh).vp rl).at_ w Fr (.slice ra rn rc)) Fr false::rest))
     (fun j=>j <= rn) (fun j=>rn - j) 0 (Nat.zero_le _) (by rw [show decide (Cx (rl.take 0) z.1)=false from decide_eq_false (CG _)];repeat (first |exact As.nil |refine As.cons rfl ?_)) (fun w' hw=>hw) ?_
    intro j hj;repeat (first |refine Ai ?_ |refine Ab ?_ |refine Ag ?_ |refine Ae Aa rfl ?_)
    refine Ak rfl (fun hlt2=>?_) (fun hge2=>?_);rotate_left
    ·rw [List.take_of_length_le (show rl.length <= j by omega)];repeat (first |refine Ai ?_ |refine Ab ?_ |refine Ag ?_ |refine Ad ?_ |refine AD ?_ |refine Am ?_ |refine AJ ?_ |refine Ae Aa rfl ?_)
     refine CN rfl (fun h1=>?_) (fun h1=>?_)
     ·have hno:¬ Cx rl z.1:=by simpa using h1
      rw [if_neg hno] at hfs
      have e1:(fl (i + 1)).length=(fl i).length + 1:=by rw [hfs,List.length_append];rfl
      repeat (first |refine Ae Aa rfl ?_ |refine Ao ?_ |refine Aq Aa 0 rfl rfl rfl ?_)
      refine AS Aa rfl rfl rfl rfl rfl rfl rfl rfl rfl rfl rfl rfl (fun b11 hb11=>?_)
      refine AW (ty:=0) Aa 2 (k:=1) (news:=FE z) rfl rfl rfl rfl rfl rfl rfl rfl rfl (by decide) (fun w' hw=>Sl.of_blk (hw.own _ (Af (i:=0) rfl)) rfl (fun j u hu=>by rw [Nat.zero_add];exact hu)) (fun u hu=>by
       simp only [FE,List.mem_cons,List.not_mem_nil,or_false] at hu
       rcases hu with rfl |rfl<;>rfl) (by simp only [maxLen];omega) (by show (_ + _) * 16 <= _;omega) rfl (fun A1 C1 hc3 hd3=>⟨_,rfl,?_⟩)
      rw [<-Gu,<-hfs,<-e1];repeat (first |refine Ab ?_ |refine Ag ?_ |refine Ad ?_ |refine Al ?_ |refine AG Aa rfl (by omega) ?_ |refine Ae Aa rfl ?_)
      exact ⟨(i + 1,A1,C1),hi',(by repeat (first |exact As.nil |refine As.cons rfl ?_)),fun w' hw=>hw.less (by repeat (first |refine At.keep ?_ |refine At.dropB (by first |assumption |omega) ?_ |exact Br _)),by dsimp only;omega⟩
     ·have hyes:Cx rl z.1:=by simpa using h1
      rw [if_pos hyes,List.append_nil] at hfs;repeat (first |refine Ab ?_ |refine Ag ?_ |refine Ad ?_ |refine Al ?_ |refine Ap ?_ |refine AG Aa rfl (by omega) ?_ |refine Ae Aa rfl ?_)
      exact ⟨(i + 1,a5,c5),hi',(by dsimp only;rw [hfs];repeat (first |exact As.nil |refine As.cons rfl ?_)),fun w' hw=>by dsimp only;rw [hfs];exact hw.less (by repeat (first |refine At.keep ?_ |refine At.dropB (by first |assumption |omega) ?_ |exact Br _)),by dsimp only;omega⟩
    have hj':j < rl.length:=by omega
    have hms:=CW hj' z.1
    refine FI (X:=∃ b off,ra=some ⟨b,off,none⟩) (fun w1 g1=>by
     have h9:Bq Bh w1 Fr ra rn rc rl:=Bq.of_val (g1.own _ (Af (i:=7) rfl)).1;obtain ⟨b,off,cs,e,_⟩:=h9.get_ hj'
     exact ⟨b,off,e⟩) (fun ⟨rb,ro,hre⟩=>?_)
    subst hre;repeat (first |refine Ai ?_ |refine Ab ?_ |refine Ar ?_ |refine Ad ?_ |refine Ap ?_)
    refine BM (Bw (sz:=2) Aa rfl rfl rfl rfl rfl rfl rfl (j:=j) rfl (by omega)) ?_;refine B2 Aa (vs:=C8 rl[j]) rfl rfl rfl (fun w' hw=>Ca (Bq.of_val (hw.own _ (Af (i:=7) rfl)).1) hj') ?_;refine AU Aa rfl (fun b10 hb10=>?_);repeat (first |refine Ag ?_ |refine Ae Aa rfl ?_ |refine Ao ?_ |refine Au Aa 0 rfl rfl rfl rfl rfl rfl ?_)
    have go:∀ b:Bool,(b=true ↔ Cx (rl.take (j + 1)) z.1)->b=decide (Cx (rl.take (j + 1)) z.1):=fun b hb=>by
     cases b with
     |true=>exact (decide_eq_true (hb.1 rfl)).symm
     |false=>exact (decide_eq_false fun h=>by have:=hb.2 h;cases this).symm
    by_cases m1:Cx (rl.take j) z.1
    ·refine Ci 91 (v':=.bool true) rfl (congrArg Value.bool (decide_eq_true m1)) ?_;repeat (first |refine Ab ?_ |refine Ag ?_ |refine Ad ?_ |refine Al ?_ |refine AG Aa rfl (by omega) ?_ |refine Ae Aa rfl ?_ |refine Bn rfl rfl rfl ?_)
     refine ⟨j + 1,by show j + 1 <= rn;omega,?_,fun w' hw=>hw.less (by repeat (first |refine At.keep ?_ |refine At.dropB (by first |assumption |omega) ?_ |exact Br _)),by show rn - (j + 1) < rn - j;omega⟩;rw [<-go true ⟨fun _=>hms.2 (.inl m1),fun _=>rfl⟩];repeat (first |exact As.nil |refine As.cons rfl ?_)
    ·refine Ci 91 (v':=.bool false) rfl (congrArg Value.bool (decide_eq_false m1)) ?_;repeat (first |refine Ae Aa rfl ?_ |refine Aq Aa 0 rfl rfl rfl ?_ |refine Aq Aa 1 rfl rfl rfl ?_)
     by_cases m2:rl[j].1 <= z.1
     ·refine Ci 97 (v':=.bool true) rfl (congrArg Value.bool (decide_eq_true m2)) ?_;repeat (first |refine Ab ?_ |refine Ag ?_ |refine Ad ?_ |refine Al ?_ |refine AG Aa rfl (by omega) ?_ |refine Ae Aa rfl ?_ |refine Aq Aa 0 rfl rfl rfl ?_ |refine Aq Aa 1 rfl rfl rfl ?_)
      refine ⟨j + 1,by show j + 1 <= rn;omega,?_,fun w' hw=>hw.less (by repeat (first |refine At.keep ?_ |refine At.dropB (by first |assumption |omega) ?_ |exact Br _)),by show rn - (j + 1) < rn - j;omega⟩;rw [<-go (decide (z.1 <= rl[j].2)) ⟨fun h=>hms.2 (.inr ⟨m2,of_decide_eq_true h⟩),fun h=>decide_eq_true ((hms.1 h).resolve_left m1).2⟩];repeat (first |exact As.nil |refine As.cons rfl ?_)
     ·refine Ci 97 (v':=.bool false) rfl (congrArg Value.bool (decide_eq_false m2)) ?_;repeat (first |refine Ab ?_ |refine Ag ?_ |refine Ad ?_ |refine Al ?_ |refine AG Aa rfl (by omega) ?_ |refine Ae Aa rfl ?_ |refine Bn rfl rfl rfl ?_)
      refine ⟨j + 1,by show j + 1 <= rn;omega,?_,fun w' hw=>hw.less (by repeat (first |refine At.keep ?_ |refine At.dropB (by first |assumption |omega) ?_ |exact Br _)),by show rn - (j + 1) < rn - j;omega⟩;rw [<-go false ⟨(fun h=>by cases h),fun h=>(m2 ((hms.1 h).resolve_left m1).1).elim⟩];repeat (first |exact As.nil |refine As.cons rfl ?_)
   ·repeat (first |refine Al ?_ |refine Ap ?_)
    exact CP rfl (fun w' hw=>⟨ql,last,qa,qc,Fq,rfl,hqb.up (Nat.le_succ _),hNq,hw.less (by repeat (first |refine At.keep ?_ |refine At.dropB (by first |assumption |omega) ?_ |exact Br _))⟩)
end
end Go.Proofs.YtidhpofcofknhaaGreat
