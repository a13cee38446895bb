/-
  The law SenderSpeaks: nothing waits longer than the most; its walk. Conditions: each theorem's own.
-/
import Derived.Test.YtidhpofcofknhaaGreatSxNb
namespace Go.Proofs.YtidhpofcofknhaaGreat
open Go Go.RowKit
set_option linter.unusedVariables false
def FX (D:Int) (s:Bn):Prop:=s.tm <= D/\∀ g ∈ s.gs,g.tm <= D
theorem FX.up {D E:Int} {s:Bn} (h:FX D s) (hD:D <= E):FX E s:=⟨Int.le_trans h.1 hD,fun g hg=>Int.le_trans (h.2 g hg) hD⟩
theorem FX.cut {D:Int} {s:Bn} (h:FX D s) (c:Int->Bool):∀ g ∈ Eh s.gs c,g.tm <= D:=fun g hg=>by
 obtain ⟨x,hx,rfl⟩:=Gi hg;exact h.2 x hx
theorem FX.keep {D:Int} {s:Bn} (h:FX D s) (qs:List Int):FX D (s.keep_ qs):=⟨h.1,h.cut _⟩
theorem FX.due {D now f m:Int} {s:Bn} (hp:PR f m) (hf:s.f=f) (hm:s.m=m) (h:FX D s) (hD:now + m <= D):FX D (s.due_ now):=⟨h.1,fun g hg=>by
 subst hf hm;obtain ⟨x,hx,rfl⟩:=List.mem_map.1 hg;have h1:=h.2 x hx;have h2:=FH hp.1 hp.2.1 x.tries.toNat;split
 ·show now + W s.f s.m x.tries.toNat <= D;omega
 ·exact h1⟩
theorem FX.send {D now:Int}:∀ (LL:List (List Int)) {s:Bn},PR s.f s.m->FX D s->now + s.m <= D->FX D (s.sendAll now LL)
 | [],_,_,h,_=>h
 |L::LL,s,hp,h,hD=>FX.send LL (s:=s.send_ now L) hp ⟨h.1,fun g hg=>by
  have h1:g ∈ (B5 s.f s.m s.gs s.last now L).1:=hg;unfold B5 at h1;have h2:=FH hp.1 hp.2.1 0;split at h1
  ·exact h.2 g h1
  ·rcases List.mem_append.1 h1 with h1 |h1
   ·exact h.2 g h1
   ·rw [List.mem_singleton] at h1;rw [h1];show now + W s.f s.m 0 <= D
    omega⟩ hD
theorem FX.try_ {D now f m:Int} {s:Bn} (hp:PR f m) (hf:s.f=f) (hm:s.m=m) (h:FX D s) (hD:now + m <= D):FX D (s.try_ now):=by
 subst hf hm;have h2:=FH hp.1 hp.2.1 s.tr.toNat;unfold Bn.try_;split
 ·exact ⟨by show now + W s.f s.m s.tr.toNat <= D;omega,h.2⟩
 ·exact h
theorem FX.tick {D now:Int} {s:Bn} {ql:List (Int × Int)} (hp:PR s.f s.m) (h:FX D s) (hD:now + s.m <= D) (h0:0 <= D):FX D (s.tick now ql):=by
 obtain ⟨s2,hs2⟩:∃ s2,s2=(s.keep_ (ql.map (·.1))).due_ now:=⟨_,rfl⟩
 have ef:s2.f=s.f:=by rw [hs2];rfl
 have em:s2.m=s.m:=by rw [hs2];rfl
 have h2:FX D s2:=by
  rw [hs2];have a1:=h.keep (ql.map (·.1));exact FX.due hp (f:=s.f) (m:=s.m) rfl rfl a1 hD
 have e:s.open_ now ql=s2.sendAll now (s2.batch now ql):=by rw [hs2];rfl
 have h1:FX D (s.open_ now ql):=by
  rw [e];exact FX.send _ (by rw [ef,em];exact hp) h2 (by rw [em];exact hD)
 obtain ⟨a1,a2,_⟩:=Bn.sendAll_eq now (s2.batch now ql) s2
 have e1:(s.open_ now ql).f=s.f:=by rw [e,a1,ef]
 have e2:(s.open_ now ql).m=s.m:=by rw [e,a2,em]
 unfold Bn.tick;split
 ·split
  ·exact ⟨h0,h1.2⟩
  ·exact h1.try_ hp e1 e2 hD
 ·have a1:=h.keep (ql.map (·.1));exact FX.try_ hp (f:=s.f) (m:=s.m) rfl rfl a1 hD
theorem FX.rcv {D:Int} {s:Bn} (h:FX D s) (h0:0 <= D) (x:Fm) (rl:List BT):FX D (s.rcv x rl):=by
 unfold Bn.rcv;split
 ·split
  ·exact ⟨h0,fun g hg=>by cases hg⟩
  ·split
   ·exact ⟨h0,fun g hg=>by cases hg⟩
   ·exact ⟨h.1,h.cut _⟩
 ·exact h
theorem FX.doS {y:Ac} {xl:List BT} {p:R9} (hp:PR p.s.f p.s.m) (h:FX (p.now + p.s.m) p.s) (hnow:0 <= p.now) (hla:0 <= y.la):FX (p.now + y.la + p.s.m) (doS y xl p):=by
 have h1:=h.up (E:=p.now + y.la + p.s.m) (by omega)
 have h2:0 <= p.s.m:=by have:=hp.1;have:=hp.2.1;omega
 unfold Proofs.YtidhpofcofknhaaGreat.doS;split
 ·exact h1.tick hp (by omega) (by omega)
 ·split
  ·exact h1.rcv (by omega) _ _
  ·exact h1
theorem Sg (s:Bn) (now:Int) (ql:List (Int × Int)):(s.tick now ql).op=s.op:=by
 obtain ⟨_,_,_,_,_,a6,_⟩:=Bn.sendAll_eq now (((s.keep_ (ql.map (·.1))).due_ now).batch now ql) ((s.keep_ (ql.map (·.1))).due_ now);have h1:(s.open_ now ql).op=s.op:=a6
 have h2:∀ t:Bn,(t.try_ now).op=t.op:=fun t=>by
  unfold Bn.try_;split<;>rfl
 unfold Bn.tick;split
 ·split
  ·exact h1
  ·rw [h2];exact h1
 ·rw [h2];rfl
theorem FX.quiet {s:Bn} {now D:Int} {ql:List (Int × Int)} (hok:CU s.last s.gs) (h:FX D s) (h0:0 <= D) (hq:s.op=true->ql ≠ []) (ht:s.told now ql= []):now < D/\FX D (s.tick now ql):=by
 cases ho:s.op with
 |false=>
  unfold Bn.told at ht;rw [if_neg (by rw [ho];decide)] at ht;by_cases h1:s.tm <= now
  ·rw [if_pos h1] at ht;cases ht
  ·refine ⟨by have:=h.1;omega,?_⟩;unfold Bn.tick;rw [if_neg (by rw [ho];decide)];unfold Bn.try_;rw [if_neg (show ¬ (s.keep_ (ql.map (·.1))).tm <= now from h1)];exact h.keep _
 |true=>
  obtain ⟨s1,hs1⟩:∃ s1,s1=s.keep_ (ql.map (·.1)):=⟨_,rfl⟩
  have hok1:CU s1.last s1.gs:=by rw [hs1];exact hok.rm _
  have hj1:FX D s1:=by rw [hs1];exact h.keep _
  unfold Bn.told at ht;rw [if_pos ho] at ht;have h1:=List.append_eq_nil_iff.1 ht;have h2:=h1.1;unfold Bn.outs at h2;rw [List.map_eq_nil_iff,List.append_eq_nil_iff,<-hs1] at h2;obtain ⟨hd,hb⟩:=h2;have hI:Ex s1.gs now= []:=List.map_eq_nil_iff.1 hd
  have hnd:∀ g ∈ s1.gs,¬ g.tm <= now:=fun g hg h3=>by
   have:=(EP (now:=now) hok1 hg).2 h3;rw [hI] at this;cases this
  have e1:s1.due_ now=s1:=by
   unfold Bn.due_
   have:Ej s1.f s1.m now s1.gs=s1.gs:=by
    unfold Ej;exact (List.map_congr_left fun g hg=>if_neg (hnd g hg)).trans (List.map_id' _)
   rw [this]
  have e2:s.open_ now ql=s1:=by
   unfold Bn.open_;rw [<-hs1,hb,e1];rfl
  have hlen:(ql.length:Int) ≠ 0:=fun e=>hq ho (List.eq_nil_of_length_eq_zero (by omega));unfold Bn.tick;rw [if_pos ho];by_cases hbu:s.busy now ql
  ·rw [if_pos hbu,e2]
   have h3:0 < ((AA s1.gs).length:Int):=by
    rcases hbu with h3 |h3
    ·rw [e2] at h3;exact h3
    ·exact absurd h3 hlen
   refine ⟨?_,h0,hj1.2⟩;obtain ⟨n,hn⟩:∃ n,n ∈ AA s1.gs:=List.exists_mem_of_length_pos (by omega);obtain ⟨g,hg,_⟩:=List.mem_flatMap.1 hn;have h4:=hnd g hg;have h5:=hj1.2 g hg;omega
  ·have h3:=h1.2;rw [if_neg hbu] at h3 ⊢;rw [e2]
   have etm:s1.tm=s.tm:=by rw [hs1];rfl
   by_cases h4:s.tm <= now
   ·rw [if_pos h4] at h3;cases h3
   ·refine ⟨by have:=h.1;omega,?_⟩;unfold Bn.try_;rw [if_neg (by rw [etm];exact h4)];exact hj1
theorem SJ {w:World} {A:Nat->Prop} {v:Value} {L:List (Int × List Int)} (h:(Ho.vp L).at_ w A v):∃ a c,v= .slice a L.length c/\L.length <= c/\c <= maxLen:=by
 obtain ⟨a,n,c,rfl,h1⟩:=Bq.form h;have:=h1.len;subst this;exact ⟨a,c,rfl,h1.cap,h1.max⟩
structure Ya where
 k:Nat
 s:Bn
 now:Int
 si:Int
 F1:Nat->Prop
 F2:Nat->Prop
abbrev WL (a:Int):Ac:=⟨4,0,⟨0,0,0,0,0,0,0,none,0,0,none,0,0⟩,IntKind.u8.wrap (1 + a % 11),0,none,0,0⟩
set_option maxHeartbeats 16000000 in
theorem HF (fi mo ba fl:Int) (v4:Value) (acts:List R1) (mr:Int) (W0:World) (hfi:AT .u16 fi) (hmo:AT .u16 mo) (hba:AT .u8 ba) (hfl:AT .u8 fl) (hv4:(Ay RQ).val W0 TT v4 acts) (hmr:AT .u8 mr):
 Calls Tryz.prog 3 #[.int .u16 fi,.int .u16 mo,.int .u8 ba,.int .u8 fl,v4,.int .u8 mr] W0 fun e W'=>e= .returned (.bool true)/\Below W0.heap.size W0 W':=by
 obtain ⟨a5,n5,c5,rfl,h0⟩:=Bq.form hv4;have hLl:=h0.len;have hmx:=h0.maxn;simp only [maxLen] at hmx;have hfi':=Gr hfi;have hmo':=Gr hmo;have hba':=Dt hba;have hfl':=Dt hfl;have hmr':=Dt hmr;refine Wd Tryz.func3 rfl rfl (Hp.refl W0) ?_;repeat (first |refine Ai ?_ |refine Ab ?_ |refine Ag ?_ |refine Ae Aa rfl ?_)
 refine Bo (v:=.bool true) rfl Tryz.call7 (fun w1 h1=>NQ w1) ?_;repeat (first |refine Ag ?_ |refine Ae Aa rfl ?_)
 refine AF rfl ?_;repeat (first |refine Ai ?_ |refine Ab ?_ |refine Ad ?_ |refine Ao ?_ |refine Ae Aa rfl ?_)
 refine Bo (v:=.agg #[.int .i64 (1 + fi % 20),.int .i64 (1 + fi % 20 + mo % 200),.int .i64 (1 + ba % 8),.int .i64 (1 + fl % 20)]) rfl Tryz.call8 (fun w1 h1=>Pt fi mo ba fl hfi hmo hba hfl w1) ?_;refine A5 Aa rfl (fun b13 hb13=>?_);repeat (first |refine Ai ?_ |refine Ab ?_ |refine Ag ?_ |refine Ap Aa 0 rfl rfl rfl ?_ |refine Aw Aa 0 rfl rfl rfl rfl rfl rfl ?_)
 obtain ⟨f,hf⟩:∃ f,f=1 + fi % 20:=⟨_,rfl⟩;obtain ⟨m,hm⟩:∃ m,m=1 + fi % 20 + mo % 200:=⟨_,rfl⟩;obtain ⟨p,hp⟩:∃ p,p=1 + ba % 8:=⟨_,rfl⟩;obtain ⟨q,hq⟩:∃ q,q=1 + fl % 20:=⟨_,rfl⟩;rw [<-hm,<-hf,<-hp,<-hq];have hc:cR f m p q:=⟨⟨by omega,by omega,by omega⟩,by omega,by omega,by omega,by omega⟩
 have hm2:1 <= m/\m <= 219:=by omega
 refine A7 rfl Tryz.call9 (fun w1 g1=>(SC (ep:=1) g1 hc ⟨by decide,by decide⟩).mono fun e w' ⟨pb,sb,xb,F1,F2,he,hpb,hN1,hN2,h9⟩=>⟨_,_,he,h9,?_⟩);repeat (first |refine Ai ?_ |refine Ab ?_ |refine Ar ?_ |refine Ag ?_ |refine Ae Aa rfl ?_)
 refine AM (ι:=Yc) (fun q=>[(5,.int .u8 mr),(13,.pointer (some ⟨b13,0,none⟩)),(14,AG pb),(29,.slice a5 n5 c5),(30,.int .i64 (n5:Int)),(31,.int .i64 (q.i:Int))])
  (fun z=>R5 pb sb xb z.s z.ql z.last z.now z.qa z.qc z.F1 z.F2 z.Fq ++ [.blk b13 (.cells ⟨[.int .i64 f,.int .i64 m,.int .i64 p,.int .i64 q]⟩ 28 (0,0)) true])
  (fun z=>z.i <= n5/\z.s.cf=(f,m,p,q,1)/\FX (z.now + m) z.s/\FM (2 * min z.i 40) z.s/\QB (min z.i 40) z.ql z.last/\(0 <= z.now/\z.now <= 255 * ((min z.i 40:Nat):Int))/\(∀ k,z.F1 k->W0.heap.size <= k)/\(∀ k,z.F2 k->W0.heap.size <= k)/\∀ k,z.Fq k->W0.heap.size <= k) (fun z=>n5 - z.i)
  ⟨0,⟨f,m,p,q,1,false,0,0,0,0,[],0⟩,[],0,0,none,0,F1,F2,fun _=>False⟩ ⟨Nat.zero_le _,rfl,⟨by show (0:Int) <= 0 + m;omega,fun g hg=>by cases hg⟩,⟨Nat.zero_le _,(by show (0:Int) <= _;omega),(fun g hg=>by cases hg),(by show (0:Int) <= _;omega)⟩,QB.nil,⟨Int.le_refl _,by show (0:Int) <= _;omega⟩,hN1,hN2,fun k hk=>hk.elim⟩ (by repeat (first |exact As.nil |refine As.cons rfl ?_)) (fun w' hw=>hw.less (by repeat (first |exact Au.nil |refine Au.keep ?_))) ?_
 rintro ⟨i,s,ql,last,now,qa,qc,G1,G2,Gq⟩ ⟨hi,hcf,hsj,hsb,hqb,hnow,hG1,hG2,hGq⟩;dsimp only at hi hcf hsj hsb hqb hnow hG1 hG2 hGq ⊢;refine Fh (fun w1 g1=>show D6 s from (Oi (g1.own _ (Af (i:=2) rfl)).1).1) (fun hsok=>?_);have hq1024:=hsok.conf.2.2.2.2;have hPR:PR s.f s.m:=hsok.conf.1;have hsm:s.m=m:=congrArg (·.2.1) hcf;repeat (first |refine Ai ?_ |refine Ab ?_ |refine Ag ?_ |refine Ae Aa rfl ?_)
 refine Ak rfl (fun hlt=>?_) (fun hge=>?_)
 ·have hil:i < acts.length:=by omega
  obtain ⟨ab,off,y,yl,rl,rfl,hy,hyl,hrl,hce⟩:=RD h0 hil;refine Ks ((Ay Bi).vp rl) TT (v:=.slice y.ra y.rn y.rc) (fun w' hw=>Vp.old (Bq.val hrl) hw (by repeat (first |exact An |refine Ha (by assumption) ?_ |refine Az (by first |assumption |omega) ?_))) (fun Fr hFr=>?_);refine Ks ((Ay Bi).vp yl) TT (v:=.slice y.x.ra y.x.rn y.x.rc) (fun w' hw=>Vp.old (Bq.val hyl) hw (by repeat (first |exact An |refine BE ?_ |refine Ha (by assumption) ?_ |refine Az (by first |assumption |omega) ?_))) (fun Fg hFg=>?_);repeat (first |refine Ai ?_ |refine Ab ?_ |refine Ar ?_ |refine Ad ?_ |refine Ao ?_ |refine Ae Aa rfl ?_)
  refine BF (Bu (sz:=14) Aa rfl rfl rfl rfl rfl rfl rfl (j:=i) rfl (by omega)) ?_
  refine BX Aa (vs:=y.cs) rfl rfl rfl (fun w' hw jj u hu=>by
   rw [Addr.add_lit]
   exact hce w' (hw.below (by repeat (first |exact An |refine BE ?_ |refine Ha (by assumption) ?_ |refine Az (by first |assumption |omega) ?_))) jj u hu) ?_
  refine A5 Aa rfl (fun b16 hb16=>?_);have hla':=Dt hy.la;repeat (first |refine Ai ?_ |refine Ab ?_ |refine Ag ?_ |refine Ae Aa rfl ?_ |refine Aw Aa 0 rfl rfl rfl rfl rfl rfl ?_)
  refine BQ rfl rfl (fun h40=>?_) (fun h40=>?_);rotate_left
  ·have e40:min (i + 1) 40=min i 40:=by omega
   repeat (first |refine Ag ?_ |refine Ae Aa rfl ?_ |refine Bh rfl rfl rfl ?_)
   refine AF rfl ?_;repeat (first |refine Ab ?_ |refine Ag ?_ |refine Ad ?_ |refine Al ?_ |refine Ao ?_ |refine AE Aa rfl (by omega) ?_ |refine Ae Aa rfl ?_)
   exact ⟨⟨i + 1,s,ql,last,now,qa,qc,G1,G2,Gq⟩,⟨by show i + 1 <= n5;omega,hcf,hsj,by dsimp only;rw [e40];exact hsb,by dsimp only;rw [e40];exact hqb,by dsimp only;rw [e40];exact hnow,hG1,hG2,hGq⟩,(by repeat (first |exact As.nil |refine As.cons rfl ?_)),fun w' hw=>hw.less (by repeat (first |exact Au.nil |refine Au.keep ?_ |refine Au.dropR ?_ |refine Au.dropB (by first |assumption |omega) ?_)),by show n5 - (i + 1) < n5 - i;omega⟩
  have e40:min (i + 1) 40=min i 40 + 1:=by omega
  repeat (first |refine Ae Aa rfl ?_ |refine Ap Aa 0 rfl rfl rfl ?_)
  refine B6 (fun w' hw=>hw.pm [3,4,5,6,1,2,0,7] rfl rfl rfl) ?_;refine A7 rfl Tryz.call10 (fun w1 g1=>(WO (p:=⟨s,ql,last,now⟩) (y:=y) (xl:=yl) (rl:=rl) g1 hG1 hG2 hGq hsb (by omega) hqb (by omega) (by dsimp only;omega) hy.d hy.la hy.nn hy.sz hy.k hy.cum hy.inc hy.lim).mono fun e w' ⟨ql2,last2,qa2,qc2,H1,H2,Hq,he,k1,k2,⟨k3,k4,k5⟩,h9⟩=>⟨_,_,he,h9,?_⟩);repeat (first |refine Ag ?_ |refine Ae Aa rfl ?_)
  refine AF rfl ?_;repeat (first |refine Ab ?_ |refine Ag ?_ |refine Ad ?_ |refine Al ?_ |refine Ao ?_ |refine AE Aa rfl (by omega) ?_ |refine Ae Aa rfl ?_)
  refine ⟨⟨i + 1,doS y yl ⟨s,ql,last,now⟩,ql2,last2,now + y.la,qa2,qc2,H1,H2,Hq⟩,⟨by show i + 1 <= n5;omega,(Wg _ _ _).trans hcf,?_,?_,by dsimp only;rw [e40];exact k1,by dsimp only;rw [e40];omega,k3,k4,k5⟩,(by repeat (first |exact As.nil |refine As.cons rfl ?_)),fun w' hw=>hw.less (by repeat (first |exact Au.nil |refine Au.keep ?_ |refine Au.dropR ?_ |refine Au.dropB (by first |assumption |omega) ?_)),by show n5 - (i + 1) < n5 - i;omega⟩
  ·have:=FX.doS (y:=y) (xl:=yl) (p:=⟨s,ql,last,now⟩) hPR (by dsimp only;rw [hsm];exact hsj) hnow.1 hla'.1;dsimp only at this ⊢;rw [hsm] at this;exact this
  ·have:=FM.doS (y:=y) (xl:=yl) (p:=⟨s,ql,last,now⟩) hsb hq1024 hqb (by omega);dsimp only;rw [e40];exact this
 refine Ks ((Ay Bi).vp []) TT (v:=.slice none 0 0) (fun w' hw=>Vp.old (Bq.val (Bq.nil_ (w:=W0) (A:=TT))) hw (by repeat (first |exact An |refine Ha (by assumption) ?_ |refine Az (by first |assumption |omega) ?_))) (fun Fr hFr=>?_);repeat (first |refine Ai ?_ |refine Ab ?_ |refine Ad ?_ |refine AC ?_ |refine Am ?_ |refine AH ?_ |refine Ae Aa rfl ?_)
 refine BF (ES rfl rfl rfl (by decide) hmr'.1) ?_;repeat (first |refine Ae Aa rfl ?_ |refine BF (Bf Aa rfl rfl rfl rfl rfl rfl rfl) ?_)
 refine B6 (fun w' hw=>hw.pm [1,2,3,4,0,5] rfl rfl rfl) ?_
 refine A7 rfl Tryz.call11 (fun w1 g1=>(KM (p:=⟨s,ql,last,now⟩) (y:=WL mr) (rl:=[]) g1 hGq hqb (by omega) (show AT .u8 4 by decide) (by
  show AT .u8 (IntKind.u8.wrap (1 + mr % 11));rw [IntWalk.u8_in _ ⟨by omega,by omega⟩];simp only [AT,IntKind.min,IntKind.max,IntKind.signed,IntKind.bits];simp
  omega) (show AT .u16 0 by decide)).mono fun e w' ⟨ql2,last2,qa2,qc2,Fq2,he,k1,_,k2,h9⟩=>⟨_,_,he,h9,?_⟩)
 repeat (first |refine Ai ?_ |refine Ab ?_ |refine Ag ?_ |refine Ae Aa rfl ?_ |refine Ap Aa 0 rfl rfl rfl ?_)
 refine FI (ι:=Bool) (fun b=>b=false->s.op=true->ql2 ≠ []) (fun b=>[(13,.pointer (some ⟨b13,0,none⟩)),(14,AG pb),(63,.bool b)])
  (fun _=>R5 pb sb xb s ql2 last2 now qa2 qc2 G1 G2 Fq2 ++ [.blk b13 (.cells ⟨[.int .i64 f,.int .i64 m,.int .i64 p,.int .i64 q]⟩ 28 (0,0)) true]) ?_ ?_
 ·refine Bo (v:=.bool s.op) rfl Tryz.call12 (fun w1 g1=>KI (g1.own _ (Af (i:=1) rfl)).1) ?_;repeat (first |refine Ae Aa rfl ?_)
  by_cases ho:s.op=true
  ·refine Cb 56 (v':=.bool true) rfl (congrArg Value.bool ho) ?_;repeat (first |refine Ag ?_ |refine Ae Aa rfl ?_ |refine Ap Aa 0 rfl rfl rfl ?_)
   exact ⟨decide ((ql2.length:Int)=0),fun h _ e=>(by rw [e] at h;simp at h),(by repeat (first |exact As.nil |refine As.cons rfl ?_)),fun w' hw=>hw.less (by repeat (first |exact Au.nil |refine Au.keep ?_ |refine Au.dropR ?_))⟩
  ·refine Cb 56 (v':=.bool false) rfl (congrArg Value.bool (by simpa using ho)) ?_;repeat (first |refine Ag ?_ |refine Ae Aa rfl ?_ |refine Bh rfl rfl rfl ?_)
   exact ⟨false,fun _ h=>(ho h).elim,(by repeat (first |exact As.nil |refine As.cons rfl ?_)),fun w' hw=>hw.less (by repeat (first |exact Au.nil |refine Au.keep ?_ |refine Au.dropR ?_))⟩
 intro b hb;refine CC rfl (fun h1=>?_) (fun h1=>?_)
 ·repeat (first |refine Ai ?_ |refine Ab ?_ |refine Ag ?_ |refine AI ?_ |refine AB ?_ |refine Ae Aa rfl ?_)
  exact AY rfl rfl (fun w' hw=>⟨rfl,hw.below (by repeat (first |exact An |refine Ha (by assumption) ?_ |refine Az (by first |assumption |omega) ?_))⟩)
 have hqn:=hb h1;repeat (first |refine Ai ?_ |refine Ab ?_ |refine Ar ?_ |refine Ag ?_ |refine Ad ?_ |refine Ao ?_ |refine AE Aa rfl (by omega) ?_ |refine Ae Aa rfl ?_ |refine Ap Aa 4 rfl rfl rfl ?_)
 refine AM (ι:=Ya) (fun z=>[(13,.pointer (some ⟨b13,0,none⟩)),(14,AG pb),(17,.int .i64 z.si),(67,.int .i64 (3 * m)),(68,.int .i64 (z.k:Int))])
  (fun z=>R5 pb sb xb z.s ql2 last2 z.now qa2 qc2 z.F1 z.F2 Fq2 ++ [.blk b13 (.cells ⟨[.int .i64 f,.int .i64 m,.int .i64 p,.int .i64 q]⟩ 28 (0,0)) true])
  (fun z=>(z.k:Int) <= 3 * m/\z.s.cf=(f,m,p,q,1)/\z.s.op=s.op/\(0 <= z.si/\z.si < m)/\FX (z.now - z.si + m) z.s/\FM (80 + 2 * z.k) z.s/\(0 <= z.now/\z.si <= z.now/\z.now <= 10200 + (z.k:Int))/\(∀ k,z.F1 k->W0.heap.size <= k)/\(∀ k,z.F2 k->W0.heap.size <= k)) (fun z=>(3 * m).toNat - z.k)
  ⟨0,s,now,0,G1,G2⟩ ⟨by show ((0:Nat):Int) <= 3 * m;omega,hcf,rfl,⟨Int.le_refl _,by show 0 < m;omega⟩,by dsimp only;rw [Int.sub_zero];exact hsj,hsb.up (by omega),⟨hnow.1,hnow.1,by show now <= 10200 + ((0:Nat):Int);omega⟩,hG1,hG2⟩ (by repeat (first |exact As.nil |refine As.cons rfl ?_)) (fun w' hw=>hw.less (by repeat (first |exact Au.nil |refine Au.keep ?_))) ?_
 rintro ⟨k,t,nw,si,H1,H2⟩ ⟨hk,htcf,hto,hsi,htj,htb,hnw,hH1,hH2⟩;dsimp only at hk htcf hto hsi htj htb hnw hH1 hH2 ⊢;refine Fh (fun w1 g1=>show D6 t/\CU t.last t.gs/\I9 t.gs from Oi (g1.own _ (Af (i:=2) rfl)).1) (fun ⟨htok,htbo,_⟩=>?_);have htm:t.m=m:=congrArg (·.2.1) htcf;repeat (first |refine Ai ?_ |refine Ab ?_ |refine Ag ?_ |refine Ae Aa rfl ?_)
 refine Ak rfl (fun hlt=>?_) (fun hge=>?_);rotate_left
 ·repeat (first |refine Ai ?_ |refine Ab ?_ |refine Ag ?_ |refine Ad ?_ |refine AC ?_ |refine Am ?_ |refine AB ?_ |refine AH ?_ |refine Ae Aa rfl ?_)
  exact AY rfl rfl (fun w' hw=>⟨rfl,hw.below (by repeat (first |exact An |refine Ha (by assumption) ?_ |refine Az (by first |assumption |omega) ?_))⟩)
 repeat (first |refine Ai ?_ |refine Ab ?_ |refine Ar ?_ |refine Ag ?_ |refine Ad ?_ |refine Ao ?_ |refine AE Aa rfl (by omega) ?_ |refine Ae Aa rfl ?_ |refine Ap Aa 0 rfl rfl rfl ?_ |refine Aw Aa 0 rfl rfl rfl rfl rfl rfl ?_)
 refine A7 rfl Tryz.call13 (fun w1 g1=>(Om (p:=⟨t,ql2,last2,nw + 1⟩) g1 hH1 hH2 htb (by omega) k1 (by omega) (by dsimp only;omega)).mono fun e w' ⟨v,Fv,I1,I2,he,hv,j1,j2,h9⟩=>⟨_,_,he,h9,?_⟩);refine Uv (fun w1 g1=>show ∃ a c,v= .slice a (t.told (nw + 1) ql2).length c/\(t.told (nw + 1) ql2).length <= c/\c <= maxLen from SJ (g1.own _ (Af (i:=0) rfl)).1) (fun ⟨a18,c18,hve,hlc,hcm⟩=>?_);subst hve;simp only [maxLen] at hcm;dsimp only;obtain ⟨TL,hTL⟩:∃ TL,TL=t.told (nw + 1) ql2:=⟨_,rfl⟩;rw [<-hTL] at hlc ⊢;have hcf2:(t.tick (nw + 1) ql2).cf=(f,m,p,q,1):=(N8 _ _ _).trans htcf;have hop2:(t.tick (nw + 1) ql2).op=s.op:=(Sg _ _ _).trans hto
 have htb2:FM (80 + 2 * (k + 1)) (t.tick (nw + 1) ql2):=by
  have:=htb.tick htok.conf.2.2.2.2 (nw + 1) (ql:=ql2) (by have:=k1.len;omega);exact this
 have hql:=k1.len;repeat (first |refine Ai ?_ |refine Ab ?_ |refine Ag ?_ |refine Ae Aa rfl ?_)
 refine AF rfl ?_;repeat (first |refine Ai ?_ |refine Ab ?_ |refine Ag ?_ |refine Ad ?_ |refine Ao ?_ |refine AE Aa rfl (by omega) ?_ |refine Ae Aa rfl ?_)
 refine Ak rfl (fun hpos=>?_) (fun hno=>?_)
 ·repeat (first |refine Ai ?_ |refine Ab ?_ |refine Ag ?_ |refine Ae Aa rfl ?_ |refine Ap Aa 5 rfl rfl rfl ?_)
  refine Ak rfl (fun h=>absurd h (by omega)) (fun _=>?_);repeat (first |refine Ab ?_ |refine Ag ?_ |refine Ad ?_ |refine Al ?_ |refine Ao ?_ |refine AE Aa rfl (by omega) ?_ |refine Ae Aa rfl ?_)
  refine ⟨⟨k + 1,t.tick (nw + 1) ql2,nw + 1,0,I1,I2⟩,⟨by show ((k + 1:Nat):Int) <= 3 * m;omega,hcf2,hop2,⟨Int.le_refl _,by show 0 < m;omega⟩,?_,htb2,⟨by show 0 <= nw + 1;omega,by show 0 <= nw + 1;omega,by show nw + 1 <= 10200 + ((k + 1:Nat):Int);omega⟩,j1,j2⟩,(by repeat (first |exact As.nil |refine As.cons rfl ?_)),fun w' hw=>hw.less (by repeat (first |exact Au.nil |refine Au.keep ?_ |refine Au.dropR ?_)),by show (3 * m).toNat - (k + 1) < (3 * m).toNat - k;omega⟩;dsimp only;rw [Int.sub_zero];exact (htj.up (E:=nw + 1 + m) (by omega)).tick htok.conf.1 (by omega) (by omega)
 ·have hnil:t.told (nw + 1) ql2= []:=by
   rw [<-hTL];exact List.eq_nil_of_length_eq_zero (by omega)
  obtain ⟨hq1,hq2⟩:=htj.quiet htbo (by omega) (fun h=>hqn (hto.symm.trans h)) hnil;repeat (first |refine Ai ?_ |refine Ab ?_ |refine Ag ?_ |refine Ad ?_ |refine Ao ?_ |refine Ae Aa rfl ?_ |refine Ap Aa 5 rfl rfl rfl ?_)
  refine Ak rfl (fun h=>absurd h (by omega)) (fun _=>?_);repeat (first |refine Ab ?_ |refine Ag ?_ |refine Ad ?_ |refine Al ?_ |refine Ao ?_ |refine AE Aa rfl (by omega) ?_ |refine Ae Aa rfl ?_)
  refine ⟨⟨k + 1,t.tick (nw + 1) ql2,nw + 1,si + 1,I1,I2⟩,⟨by show ((k + 1:Nat):Int) <= 3 * m;omega,hcf2,hop2,⟨by show 0 <= si + 1;omega,by show si + 1 < m;omega⟩,?_,htb2,⟨by show 0 <= nw + 1;omega,by show si + 1 <= nw + 1;omega,by show nw + 1 <= 10200 + ((k + 1:Nat):Int);omega⟩,j1,j2⟩,(by repeat (first |exact As.nil |refine As.cons rfl ?_)),fun w' hw=>hw.less (by repeat (first |exact Au.nil |refine Au.keep ?_ |refine Au.dropR ?_)),by show (3 * m).toNat - (k + 1) < (3 * m).toNat - k;omega⟩;dsimp only;rw [show nw + 1 - (si + 1) + m=nw - si + m by omega];exact hq2
end Go.Proofs.YtidhpofcofknhaaGreat
