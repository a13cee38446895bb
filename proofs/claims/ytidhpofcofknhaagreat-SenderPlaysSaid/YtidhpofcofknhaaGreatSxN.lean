/-
  The law SenderPlays: its walk; what acts are. Conditions: each theorem's own.
-/
import Derived.Test.YtidhpofcofknhaaGreatSxM
namespace Go.Proofs.YtidhpofcofknhaaGreat
open Go Go.RowKit
set_option linter.unusedVariables false
abbrev UH:=Int × (Int × (Int × (Int × (Int × (Int × (Int × (List BY × List (Int × (Int × List Int)))))))))
abbrev Xg:Eb (Int × (Int × List Int)):=CX (A8 .u64) (CX (A8 .i64) (Ay (A8 .u8)))
abbrev Xh:Eb UH:=CX (A8 .u8) (CX (A8 .i64) (CX (A8 .u64) (CX (A8 .u64) (CX (A8 .u64) (CX (A8 .u64) (CX (A8 .u64) (CX (Ay Bh) (Ay Xg))))))))
abbrev RV:=Int × (Int × (UH × (Int × (Int × List BY))))
abbrev RJ:Eb RV:=CX (A8 .u8) (CX (A8 .u8) (CX Xh (CX (A8 .u8) (CX (A8 .u16) (Ay Bh)))))
structure XR (y:Ac):Prop where
 d:AU .u8 y.d
 la:AU .u8 y.la
 nn:AU .u8 y.nn
 sz:AU .u16 y.sz
 k:AU .u8 y.x.k
 ep:AU .u64 y.x.ep
 inc:AU .u64 y.x.inc
 cum:AU .u64 y.x.cum
 lim:AU .u64 y.x.lim
theorem Rx {w:World} {A:Nat->Prop} {a:Option Addr} {n c:Nat} {acts:List RV} (h:Bq RJ w A a n c acts) {i:Nat} (hi:i < acts.length):∃ (ab off:Nat) (y:Ac) (xl rl:List BY),a=some ⟨ab,off,none⟩/\XR y/\Bq Bh w A y.x.ra y.x.rn y.x.rc xl/\Bq Bh w A y.ra y.rn y.rc rl/\∀ w':World,Below w.heap.size w w'->∀ j u,y.cs[j]? =some u->w'.cell? ⟨ab,off + i * 14 + j,none⟩=some u:=by
 obtain ⟨ab,off,cs,e,hlt,hat,_,hce,_⟩:=h.get_ (i:=i) hi;obtain ⟨_,_,rfl,⟨rfl,h1⟩,_,_,rfl,⟨rfl,h2⟩,_,_,rfl,⟨_,_,rfl,⟨rfl,g1⟩,_,_,rfl,⟨rfl,g2⟩,_,_,rfl,⟨rfl,g3⟩,_,_,rfl,⟨rfl,g4⟩,_,_,rfl,⟨rfl,g5⟩,_,_,rfl,⟨rfl,g6⟩,_,_,rfl,⟨rfl,g7⟩,_,_,rfl,⟨fa,fn,fc,rfl,hf⟩,xa,xn,xc,rfl,hx⟩,_,_,rfl,⟨rfl,h3⟩,_,_,rfl,⟨rfl,h4⟩,ra,rn,rc,rfl,hr⟩:=hat;exact ⟨ab,off,⟨acts[i].1,acts[i].2.1,⟨acts[i].2.2.1.1,acts[i].2.2.1.2.1,acts[i].2.2.1.2.2.1,acts[i].2.2.1.2.2.2.1,acts[i].2.2.1.2.2.2.2.1,acts[i].2.2.1.2.2.2.2.2.1,acts[i].2.2.1.2.2.2.2.2.2.1,fa,fn,fc,xa,xn,xc⟩,acts[i].2.2.2.1,acts[i].2.2.2.2.1,ra,rn,rc⟩,_,_,e,⟨h1,h2,h3,h4,g1,g3,g4,g6,g7⟩,hf,hr,fun w' hb j u hu=>(hb.cell (p:=⟨ab,off + i * 14 + j,none⟩) hlt).trans (hce j u hu)⟩
theorem XV (e:Int):AU .u64 (bits .or .u64 e 1)/\bits .or .u64 e 1 ≠ 0:=by
 have h1:bits .or .u64 e 1=IntKind.u64.wrap ((BitVec.ofInt 64 e |||1#64).toNat:Int):=rfl;obtain ⟨N,hN⟩:∃ N,N=(BitVec.ofInt 64 e |||1#64).toNat:=⟨_,rfl⟩
 have hlt:N < 18446744073709551616:=by rw [hN];exact BitVec.isLt _
 have hne:N ≠ 0:=by
  intro h0;rw [hN,BitVec.toNat_or] at h0;have h2:=congrArg (fun n=>Nat.testBit n 0) h0;simp at h2
 rw [h1,<-hN,IntWalk.u64_in _ ⟨by omega,by omega⟩];refine ⟨?_,by omega⟩;simp only [AU,IntKind.min,IntKind.max,IntKind.signed,IntKind.bits];simp;omega
structure X1 where
 i:Nat
 s:BI
 ql:List (Int × Int)
 last:Int
 now:Int
 qa:Option Addr
 qc:Nat
 F1:Nat->Prop
 F2:Nat->Prop
 Fq:Nat->Prop
set_option maxHeartbeats 16000000 in
theorem Io (fi mo ba fl ep:Int) (v5:Value) (acts:List RV) (W0:World) (hfi:AU .u16 fi) (hmo:AU .u16 mo) (hba:AU .u8 ba) (hfl:AU .u8 fl) (hep:AU .u64 ep) (hv5:(Ay RJ).val W0 TT v5 acts):
 Calls Tryz.prog 6 #[.int .u16 fi,.int .u16 mo,.int .u8 ba,.int .u8 fl,.int .u64 ep,v5] W0 fun e W'=>e= .returned (.bool true)/\Below W0.heap.size W0 W':=by
 obtain ⟨a5,n5,c5,rfl,h0⟩:=Bq.form hv5;have hLl:=h0.len;have hmx:=h0.maxn;simp only [maxLen] at hmx;have hfi':=Gm hfi;have hmo':=Gm hmo;have hba':=DR hba;have hfl':=DR hfl;refine V5 Tryz.func6 rfl rfl (Hp.refl W0) ?_;repeat (first |refine Ai ?_ |refine Ab ?_ |refine Ag ?_ |refine Ae Aa rfl ?_)
 refine Bn (v:=.bool true) rfl Tryz.call7 (fun w1 h1=>NK w1) ?_;repeat (first |refine Ag ?_ |refine Ae Aa rfl ?_)
 refine AF rfl ?_;repeat (first |refine Ai ?_ |refine Ab ?_ |refine Ad ?_ |refine Ap ?_ |refine Ae Aa rfl ?_)
 refine Bn (v:=.agg #[.int .i64 (1 + fi % 20),.int .i64 (1 + fi % 20 + mo % 200),.int .i64 (1 + ba % 8),.int .i64 (1 + fl % 20)]) rfl Tryz.call8 (fun w1 h1=>Pl fi mo ba fl hfi hmo hba hfl w1) ?_;repeat (first |refine Ae Aa rfl ?_)
 obtain ⟨hE1,hE2⟩:=XV ep;obtain ⟨E,hE⟩:∃ E,E=bits .or .u64 ep 1:=⟨_,rfl⟩;rw [<-hE] at hE1 hE2 ⊢;obtain ⟨f,hf⟩:∃ f,f=1 + fi % 20:=⟨_,rfl⟩;obtain ⟨m,hm⟩:∃ m,m=1 + fi % 20 + mo % 200:=⟨_,rfl⟩;obtain ⟨p,hp⟩:∃ p,p=1 + ba % 8:=⟨_,rfl⟩;obtain ⟨q,hq⟩:∃ q,q=1 + fl % 20:=⟨_,rfl⟩;rw [<-hm,<-hf,<-hp,<-hq];have hc:cR f m p q:=⟨⟨by omega,by omega,by omega⟩,by omega,by omega,by omega,by omega⟩;refine A7 rfl Tryz.call9 (fun w1 g1=>(Ss g1 hc ⟨hE1,hE2⟩).mono fun e w' ⟨pb,sb,xb,F1,F2,he,hpb,hN1,hN2,h9⟩=>⟨_,_,he,h9,?_⟩);repeat (first |refine Ai ?_ |refine Ab ?_ |refine Ag ?_ |refine Ae Aa rfl ?_)
 refine BD (Cl Aa rfl rfl rfl rfl rfl) ?_;repeat (first |refine Ag ?_)
 refine AF rfl ?_;repeat (first |refine Ai ?_ |refine Ab ?_ |refine Ar ?_ |refine Ag ?_ |refine Ad ?_ |refine Ap ?_ |refine Ae Aa rfl ?_)
 refine AM (ι:=X1) (fun q=>[(13,AG pb),(28,.slice a5 n5 c5),(29,.int .i64 (n5:Int)),(30,.int .i64 (q.i:Int))])
  (fun q=>Uu pb sb xb q.s q.ql q.last q.now q.qa q.qc q.F1 q.F2 q.Fq)
  (fun q=>(q.i <= n5/\q.i <= 50)/\FZ (2 * q.i) q.s/\QB q.i q.ql q.last/\(0 <= q.now/\q.now <= 255 * (q.i:Int))/\(∀ k,q.F1 k->W0.heap.size <= k)/\(∀ k,q.F2 k->W0.heap.size <= k)/\∀ k,q.Fq k->W0.heap.size <= k) (fun q=>n5 - q.i)
  ⟨0,⟨f,m,p,q,E,false,0,0,0,0,[],0⟩,[],0,0,none,0,F1,F2,fun _=>False⟩ ⟨⟨Nat.zero_le _,Nat.zero_le _⟩,⟨Nat.zero_le _,(by show (0:Int) <= _;omega),(fun g hg=>by cases hg),(by show (0:Int) <= _;omega)⟩,QB.nil,⟨Int.le_refl _,by show (0:Int) <= _;omega⟩,hN1,hN2,fun k hk=>hk.elim⟩ (by repeat (first |exact As.nil |refine As.cons rfl ?_)) (fun w' hw=>hw.less (by repeat (first |exact Av.nil |refine Av.keep ?_))) ?_
 rintro ⟨i,s,ql,last,now,qa,qc,G1,G2,Gq⟩ ⟨⟨hi,hi50⟩,hsb,hqb,hnow,hG1,hG2,hGq⟩;dsimp only at hi hi50 hsb hqb hnow hG1 hG2 hGq ⊢;repeat (first |refine Ai ?_ |refine Ab ?_ |refine Ag ?_ |refine Ae Aa rfl ?_)
 refine Ak rfl (fun hlt=>?_) (fun hge=>?_);rotate_left
 ·repeat (first |refine Ai ?_ |refine Ab ?_ |refine Ag ?_ |refine Ad ?_ |refine AC ?_ |refine Al ?_ |refine AB ?_ |refine AH ?_ |refine Ae Aa rfl ?_)
  exact AY rfl rfl (fun w' hw=>⟨rfl,hw.below (by repeat (first |exact An |refine Iw (by assumption) ?_ |refine Az (by first |assumption |omega) ?_))⟩)
 have hil:i < acts.length:=by omega
 obtain ⟨ab,off,y,xl,rl,rfl,hy,hxl,hrl,hce⟩:=Rx h0 hil;repeat (first |refine Ai ?_ |refine Ab ?_ |refine Ar ?_ |refine Ad ?_ |refine Ap ?_ |refine Ae Aa rfl ?_)
 refine BD (Bt (sz:=14) Aa rfl rfl rfl rfl rfl rfl rfl (j:=i) rfl (by omega)) ?_
 refine BW Aa (vs:=y.cs) rfl rfl rfl (fun w' hw jj u hu=>by
  rw [Addr.add_lit]
  exact hce w' (hw.below (by repeat (first |exact An |refine Iw (by assumption) ?_ |refine Az (by first |assumption |omega) ?_))) jj u hu) ?_
 refine A5 Aa rfl (fun b15 hb15=>?_);repeat (first |refine Ai ?_ |refine Ab ?_ |refine Ag ?_ |refine Ae Aa rfl ?_ |refine Aw Aa 0 rfl rfl rfl rfl rfl rfl ?_)
 refine Ak rfl (fun h50=>?_) (fun h50=>?_)
 ·repeat (first |refine Al ?_ |refine AH ?_)
  refine Cz rfl ?_;repeat (first |refine Ai ?_ |refine Ab ?_ |refine Ag ?_ |refine Ad ?_ |refine AC ?_ |refine Al ?_ |refine AB ?_ |refine Ae Aa rfl ?_)
  exact AY rfl rfl (fun w' hw=>⟨rfl,hw.below (by repeat (first |exact An |refine Iw (by assumption) ?_ |refine Az (by first |assumption |omega) ?_))⟩)
 refine FG (fun w1 g1=>show Eg s from (P2 (g1.own _ (Af (i:=3) rfl)).1).1) (fun hsok=>?_);have hq1024:=hsok.conf.2.2.2.2;have hla':=DR hy.la;refine LV ((Ay Bh).vp rl) TT (v:=.slice y.ra y.rn y.rc) (fun w' hw=>Vp.old (Bq.val hrl) hw (by repeat (first |exact An |refine Iw (by assumption) ?_ |refine Az (by first |assumption |omega) ?_))) (fun Fr hFr=>?_);refine LV ((Ay Bh).vp xl) TT (v:=.slice y.x.ra y.x.rn y.x.rc) (fun w' hw=>Vp.old (Bq.val hxl) hw (by repeat (first |exact An |refine BE ?_ |refine Iw (by assumption) ?_ |refine Az (by first |assumption |omega) ?_))) (fun Ff hFf=>?_);repeat (first |refine Ai ?_ |refine Ab ?_ |refine Ad ?_ |refine Ap ?_ |refine Ae Aa rfl ?_ |refine Aq Aa 2 rfl rfl rfl ?_)
 refine B7 (fun w' hw=>hw.pm [3,4,5,6,0,1,2] rfl rfl rfl) ?_;refine A7 rfl Tryz.call10 (fun w1 g1=>(WF (p:=⟨s,ql,last,now⟩) (y:=y) (xl:=xl) (rl:=rl) g1 hG1 hG2 hGq hsb (by omega) hqb (by omega) (by dsimp only;omega) hy.d hy.la hy.nn hy.sz hy.k hy.cum hy.inc hy.lim).mono fun e w' ⟨ql2,last2,qa2,qc2,H1,H2,Hq,he,k1,k2,⟨k3,k4,k5⟩,h9⟩=>⟨_,_,he,h9,?_⟩);repeat (first |refine Ae Aa rfl ?_)
 refine Cc 41 (v':=.bool false) rfl rfl ?_;skip;refine Bn (v:=.bool true) rfl Tryz.call22 (fun w2 g2=>Su g2) ?_;repeat (first |refine Ag ?_ |refine Ae Aa rfl ?_)
 refine AF rfl ?_;repeat (first |refine Ab ?_ |refine Ag ?_ |refine Ad ?_ |refine Am ?_ |refine Ap ?_ |refine AE Aa rfl (by omega) ?_ |refine Ae Aa rfl ?_)
 refine ⟨⟨i + 1,doS y xl ⟨s,ql,last,now⟩,ql2,last2,now + y.la,qa2,qc2,H1,H2,Hq⟩,⟨⟨by show i + 1 <= n5;omega,by show i + 1 <= 50;omega⟩,?_,k1,by dsimp only;omega,k3,k4,k5⟩,(by repeat (first |exact As.nil |refine As.cons rfl ?_)),fun w' hw=>hw.less (by repeat (first |exact Av.nil |refine Av.keep ?_ |refine Av.dropR ?_ |refine Av.dropB (by first |assumption |omega) ?_)),by show n5 - (i + 1) < n5 - i;omega⟩;have:=FZ.doS (y:=y) (xl:=xl) (p:=⟨s,ql,last,now⟩) hsb hq1024 hqb (by omega);exact this
end Go.Proofs.YtidhpofcofknhaaGreat
