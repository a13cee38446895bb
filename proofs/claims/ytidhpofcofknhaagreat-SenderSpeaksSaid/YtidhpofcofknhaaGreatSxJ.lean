/-
  A pair of senders: what is queued changes. Conditions: each theorem's own.
-/
import Derived.Test.YtidhpofcofknhaaGreatSxI
namespace Go.Proofs.YtidhpofcofknhaaGreat
open Go Go.RowKit
set_option linter.unusedVariables false
structure Ac where
 d:Int
 la:Int
 x:Fm
 nn:Int
 sz:Int
 ra:Option Addr
 rn:Nat
 rc:Nat
abbrev Ac.cs (y:Ac):List Value:=[.int .u8 y.d,.int .u8 y.la,.int .u8 y.x.k,.int .i64 y.x.ag,.int .u64 y.x.ep,.int .u64 y.x.inc,.int .u64 y.x.base,.int .u64 y.x.cum,.int .u64 y.x.lim,.slice y.x.ra y.x.rn y.x.rc,.slice y.x.xa y.x.xn y.x.xc,.int .u8 y.nn,.int .u16 y.sz,.slice y.ra y.rn y.rc]
structure QJ (M j:Nat) (ql:List (Int × Int)) (last:Int):Prop where
 srt:(ql.map (·.1)).Pairwise (· < ·)
 le:∀ x ∈ ql,0 <= x.1/\x.1 <= last
 sz:∀ x ∈ ql,0 <= x.2/\x.2 <= 4112
 len:ql.length <= M * 11 + j
 last:0 <= last/\last <= (M:Int) * 22 + 2 * (j:Int)
structure Hs (ql:List (Int × Int)) (last:Int) (ql':List (Int × Int)) (last':Int):Prop where
 le:last <= last'
 mem:∀ x ∈ ql',x ∈ ql \/ last < x.1
theorem Hs.sub {ql ql':List (Int × Int)} {last:Int} (h:ql'.Sublist ql):Hs ql last ql' last:=⟨Int.le_refl _,fun x hx=>.inl (h.subset hx)⟩
theorem Hs.step {ql ql1:List (Int × Int)} {last last1 n z:Int} (h:Hs ql last ql1 last1) (hn:last1 < n):Hs ql last (ql1 ++ [(n,z)]) n:=⟨by have:=h.le;omega,fun x hx=>by
 rcases List.mem_append.1 hx with hx |hx
 ·exact h.mem x hx
 ·rw [List.mem_singleton] at hx;subst hx;have:=h.le
  exact .inr (by show last < n;omega)⟩
theorem QJ.of {M:Nat} {ql:List (Int × Int)} {last:Int} (h:QB M ql last):QJ M 0 ql last:=⟨h.srt,h.le,h.sz,h.len,by have:=h.last;omega⟩
theorem QJ.qb {M j:Nat} {ql:List (Int × Int)} {last:Int} (h:QJ M j ql last) (hj:j <= 11):QB (M + 1) ql last:=⟨h.srt,h.le,h.sz,by have:=h.len;omega,by have:=h.last;omega⟩
theorem QJ.step {M j:Nat} {ql:List (Int × Int)} {last n z:Int} (h:QJ M j ql last) (hn:last < n/\n <= last + 2) (hz:0 <= z/\z <= 4112):QJ M (j + 1) (ql ++ [(n,z)]) n:=by
 have h1:=h.last;refine ⟨?_,fun x hx=>?_,fun x hx=>?_,?_,by omega⟩
 ·rw [List.map_append,List.pairwise_append];refine ⟨h.srt,List.pairwise_singleton _ _,fun a ha b hb=>?_⟩;obtain ⟨y,hy,rfl⟩:=List.mem_map.1 ha
  have hb2:b=n:=by simpa using hb
  have:=h.le y hy;omega
 ·rcases List.mem_append.1 hx with hx |hx
  ·have:=h.le x hx;omega
  ·rw [List.mem_singleton] at hx;subst hx;dsimp only;omega
 ·rcases List.mem_append.1 hx with hx |hx
  ·exact h.sz x hx
  ·rw [List.mem_singleton] at hx;subst hx;exact hz
 ·rw [List.length_append];have:=h.len;show ql.length + 1 <= _;omega
theorem IU {w:World} {e:TypeId} {n c:Nat} {a:Option Addr} {xs:List Value} (h:FS w e 2 (.slice a n c) n xs) (hn:0 < n):FS w e 2 (.slice (if c=1 then a else a.map (·.add (1 * 2))) (n - 1) (c - 1)) (n - 1) (xs.drop 2)/\∀ k,(Value.slice (if c=1 then a else a.map (·.add (1 * 2))) (n - 1) (c - 1)).ownBlock=some k->(Value.slice a n c).ownBlock=some k:=by
 obtain ⟨h0,⟨_,h1⟩ |⟨g,off,cap,cur,h1,h2,h3,h4,h5,h6⟩⟩:=h
 ·omega
 ·cases h1;by_cases hc:c=1
  ·subst hc
   have hn1:n=1:=by omega
   subst hn1;rw [if_pos rfl];refine ⟨⟨by rw [List.length_drop,h0],.inr ⟨g,off,0,cur,rfl,h2,Nat.le_refl _,Nat.zero_le _,by omega,?_⟩⟩,fun k hk=>hk⟩
   have hx2:xs.length <= 2:=by rw [h0];exact Nat.le_refl _
   rw [List.drop_eq_nil_of_le hx2];simp
  ·rw [if_neg hc];refine ⟨⟨by rw [List.length_drop,h0];omega,.inr ⟨g,off + 2,c - 1,cur,by simp [Addr.add_lit],h2,by omega,by omega,by omega,?_⟩⟩,fun k hk=>hk⟩;rw [<-h6,List.drop_take,List.drop_drop];congr 1;omega
abbrev R5 (pb sb xb:Nat) (s:Bn) (ql:List (Int × Int)) (last now:Int) (qa:Option Addr) (qc:Nat) (F1 F2 Fq:Nat->Prop):OL:=[.blk pb (.cells ⟨[AG sb,AG xb,.slice qa ql.length qc,.int .u64 last,.int .i64 now]⟩ 45 (0,0)) true,.rep (fun w=>(G0 sb s).at_ w F1 (.bool true)) F1 true,.rep (fun w=>(I5 xb s).at_ w F2 (.bool true)) F2 true,qE Fq qa qc ql]
theorem Hp.rowQ {w0 w:World} {ol:OL} {v:Value} {e:TypeId} {sz n:Nat} {xs:List Value} (h:Hp w0 w (.row w0.heap.size v e sz n xs::ol)):Hp w0 w (.rep (fun w=>(R4 e sz n xs).at_ w (fun k=>v.ownBlock=some k) v) (fun k=>v.ownBlock=some k) true::ol):=
 have o:=h.own _ (List.mem_cons_self (l:=ol) (a:=HE.row w0.heap.size v e sz n xs))
 ⟨h.os,h.tape,h.output,h.size,fun k hk he=>h.old k hk fun e' hm hx hh=>by
  rcases List.mem_cons.1 hm with rfl |hm
  ·exact he _ List.mem_cons_self rfl hh
  ·exact he e' (List.mem_cons_of_mem _ hm) hx hh,fun e' hm=>by
  rcases List.mem_cons.1 hm with rfl |hm
  ·exact ⟨⟨Iv o,fun k hk=>hk⟩,Vp.loc (p:=R4 _ _ _ _),fun k hk=>(World.ownsRow.lt o k hk).2⟩
  ·exact h.own e' (List.mem_cons_of_mem _ hm),List.pairwise_cons.2 ⟨fun e' he hr k hk hk2=>(List.pairwise_cons.1 h.apart).1 e' he rfl k hk hk2,(List.pairwise_cons.1 h.apart).2⟩⟩
structure Ye where
 j:Nat
 ql:List (Int × Int)
 last:Int
 qa:Option Addr
 qc:Nat
 Fq:Nat->Prop
section
variable {w0 w:World} {rest:OL} {pb sb xb qc:Nat} {p:R9} {qa:Option Addr} {F1 F2 Fq Fr:Nat->Prop}
set_option maxHeartbeats 16000000 in
theorem KM {y:Ac} {rl:List BT} (h:Hp w0 w (PL pb sb xb p qa qc F1 F2 Fq ++ .rep (fun w=>((Ay Bi).vp rl).at_ w Fr (.slice y.ra y.rn y.rc)) Fr false::rest)) (hNq:∀ k,Fq k->w0.heap.size <= k) {M:Nat} (hqb:QB M p.ql p.last) (hM:M <= 80) (hd:AT .u8 y.d) (hnn:AT .u8 y.nn) (hsz:AT .u16 y.sz):
 Calls Tryz.prog 11 #[AG pb,.agg ⟨y.cs⟩] w fun e w'=>∃ (ql':List (Int × Int)) (last':Int) (qa':Option Addr) (qc':Nat) (Fq':Nat->Prop),e= .returned (.tuple #[])/\QB (M + 1) ql' last'/\Hs p.ql p.last ql' last'/\(∀ k,Fq' k->w0.heap.size <= k)/\
  Hp w0 w' (PL pb sb xb ⟨p.s,ql',last',p.now⟩ qa' qc' F1 F2 Fq' ++ .rep (fun w=>((Ay Bi).vp rl).at_ w Fr (.slice y.ra y.rn y.rc)) Fr false::rest):=by
 obtain ⟨s,ql,last,now⟩:=p;dsimp only at hqb ⊢;have hd':=Dt hd;have hnn':=Dt hnn;have hsz':=Gr hsz;have h':Hp w0 w (R5 pb sb xb s ql last now qa qc F1 F2 Fq ++ .rep (fun w=>((Ay Bi).vp rl).at_ w Fr (.slice y.ra y.rn y.rc)) Fr false::rest):=h;refine GO Tryz.func11 rfl rfl h' ?_;repeat (first |refine Ai ?_ |refine Ab ?_)
 refine A5 Aa rfl (fun b3 hb3=>?_);repeat (first |refine Ai ?_ |refine Ab ?_ |refine Ag ?_ |refine Ae Aa rfl ?_ |refine Ap Aa 0 rfl rfl rfl ?_)
 refine BF (ES rfl rfl rfl (by decide) hd'.1) ?_;repeat (first |refine Ai ?_ |refine Ab ?_ |refine Ar ?_ |refine Ag ?_ |refine Ae Aa rfl ?_)
 refine Ak rfl (fun h4=>?_) (fun h4=>?_)
 ·repeat (first |refine Ai ?_ |refine Ab ?_ |refine Ae Aa rfl ?_ |refine Ap Aa 0 rfl rfl rfl ?_)
  refine BF (ES rfl rfl rfl (by decide) hnn'.1) ?_;repeat (first |refine Ar ?_ |refine Ag ?_ |refine AE Aa rfl (by omega) ?_ |refine Ae Aa rfl ?_)
  obtain ⟨L,hL⟩:∃ L:Nat,y.nn % 12=(L:Int):=⟨(y.nn % 12).toNat,by omega⟩
  have hL11:L <= 11:=by omega
  rw [hL]
  refine AM (ι:=Ye) (fun q=>[(0,AG pb),(3,.pointer (some ⟨b3,0,none⟩)),(19,.int .i64 (L:Int)),(20,.int .i64 (q.j:Int))])
   (fun q=>.blk b3 (.cells ⟨y.cs⟩ 38 (0,0)) true::(R5 pb sb xb s q.ql q.last now q.qa q.qc F1 F2 q.Fq ++ .rep (fun w=>((Ay Bi).vp rl).at_ w Fr (.slice y.ra y.rn y.rc)) Fr false::rest))
   (fun q=>q.j <= L/\QJ M q.j q.ql q.last/\Hs ql last q.ql q.last/\∀ k,q.Fq k->w0.heap.size <= k) (fun q=>L - q.j) ⟨0,ql,last,qa,qc,Fq⟩ ⟨Nat.zero_le _,QJ.of hqb,Hs.sub (List.Sublist.refl _),hNq⟩ (by repeat (first |exact As.nil |refine As.cons rfl ?_)) (fun w' hw=>hw) ?_
  rintro ⟨j,ql1,last1,qa1,qc1,Fq1⟩ ⟨hj,hqj,hqu,hN1⟩;dsimp only at hj hqj hqu hN1 ⊢;have hla:=hqj.last;have hle:=hqj.len;repeat (first |refine Ai ?_ |refine Ab ?_ |refine Ag ?_ |refine Ae Aa rfl ?_)
  refine Ak rfl (fun hlt=>?_) (fun hge=>?_);rotate_left
  ·repeat (first |refine Al ?_ |refine AC ?_ |refine Am ?_ |refine AH ?_)
   exact CM rfl (fun w' hw=>⟨ql1,last1,qa1,qc1,Fq1,rfl,hqj.qb (by omega),hqu,hN1,hw.less (by repeat (first |refine Au.keep ?_ |refine Au.dropB (by first |assumption |omega) ?_ |exact Bp _))⟩)
  repeat (first |refine Ai ?_ |refine Ab ?_ |refine Ar ?_ |refine Ag ?_ |refine Ad ?_ |refine Ao ?_ |refine Ae Aa rfl ?_ |refine Ap Aa 1 rfl rfl rfl ?_)
  refine BF (ES rfl rfl rfl (by decide) (by omega)) ?_;repeat (first |refine Ag ?_ |refine DY Aa rfl (by omega) ?_ |refine Ae Aa rfl ?_ |refine Aw Aa 1 rfl rfl rfl rfl rfl rfl ?_)
  have hj2:0 <= (j:Int) % 2/\(j:Int) % 2 <= 1:=by omega
  obtain ⟨r3,hr3⟩:∃ r3,r3=(j:Int) % 3:=⟨_,rfl⟩
  have hr3':0 <= r3/\r3 <= 2:=by omega
  have hmul:0 <= y.sz * r3/\y.sz * r3 <= 131070:=by
   have hc:r3=0 \/ r3=1 \/ r3=2:=by omega
   rcases hc with e |e |e<;>rw [e]<;>omega
  obtain ⟨nl,hnl⟩:∃ nl,nl=last1 + (1 + (j:Int) % 2):=⟨_,rfl⟩;rw [<-hnl];have hqs:=hqj.step (n:=nl) (z:=(y.sz * r3) % 4113) (by omega) (by omega);skip;refine Ca ?_
  refine OJ (by kernel_rfl) (by kernel_rfl) [17,18,21] (by kernel_rfl) (by kernel_rfl) (by kernel_rfl) [.blk pb (.cells ⟨[AG sb,AG xb,.slice qa1 ql1.length qc1,.int .u64 nl,.int .i64 now]⟩ 45 (0,0)) false,.blk b3 (.cells ⟨y.cs⟩ 38 (0,0)) false] (CH (CH DO))
   [some (AG pb),some (AG pb),some (.pointer (some ⟨pb,0,none⟩)),some (.pointer (some ⟨pb,0 + 2,none⟩)),some (.slice qa1 ql1.length qc1),some (AG pb),some (.pointer (some ⟨pb,0,none⟩)),some (.pointer (some ⟨pb,0 + 3,none⟩)),some (.int .u64 nl),some (.pointer (some ⟨b3,0 + 12,none⟩)),some (.int .u16 y.sz),some (.int .i64 y.sz),some (.int .i64 (j:Int)),some (.int .i64 ((j:Int) % 3)),some (.int .i64 (y.sz * ((j:Int) % 3))),some (.int .i64 ((y.sz * ((j:Int) % 3)) % 4113)),some (.agg ⟨FE (nl,(y.sz * ((j:Int) % 3)) % 4113)⟩),none,none,some (.pointer (some ⟨pb,0,none⟩)),some (.pointer (some ⟨pb,0 + 2,none⟩)),none]
   21 rfl (by kernel_rfl) ⟨.inr ⟨_,_,rfl,rfl,fun w f=>Ah Aa rfl Aj⟩,.inr ⟨_,_,rfl,rfl,fun w f=>Ah Aa rfl Aj⟩,.inr ⟨_,_,rfl,rfl,fun w f=>Ah Aa rfl Aj⟩,.inr ⟨_,_,rfl,rfl,fun w f=>Ah Aa rfl Aj⟩,.inr ⟨_,_,rfl,rfl,fun w f=>AD Aa 0 rfl rfl rfl Aj⟩,.inr ⟨_,_,rfl,rfl,fun w f=>Ah Aa rfl Aj⟩,.inr ⟨_,_,rfl,rfl,fun w f=>Ah Aa rfl Aj⟩,.inr ⟨_,_,rfl,rfl,fun w f=>Ah Aa rfl Aj⟩,.inr ⟨_,_,rfl,rfl,fun w f=>AD Aa 0 rfl rfl rfl Aj⟩,.inr ⟨_,_,rfl,rfl,fun w f=>Ah Aa rfl Aj⟩,.inr ⟨_,_,rfl,rfl,fun w f=>AD Aa 1 rfl rfl rfl Aj⟩,.inr ⟨_,_,rfl,rfl,fun w f=>BD Aa rfl (by omega) Aj⟩,.inr ⟨_,_,rfl,rfl,fun w f=>Ah Aa rfl Aj⟩,.inr ⟨_,_,rfl,rfl,fun w f=>Bv (ES rfl rfl rfl (by decide) (by omega)) Aj⟩,.inr ⟨_,_,rfl,rfl,fun w f=>BD Aa rfl (by rw [<-hr3];omega) Aj⟩,.inr ⟨_,_,rfl,rfl,fun w f=>Bv (ES rfl rfl rfl (by decide) (by rw [<-hr3];exact hmul.1)) Aj⟩,.inr ⟨_,_,rfl,rfl,fun w f=>Bv (Bf Aa rfl rfl rfl rfl rfl rfl rfl) Aj⟩,.inl rfl,.inl rfl,.inr ⟨_,_,rfl,rfl,fun w f=>Ah Aa rfl Aj⟩,.inr ⟨_,_,rfl,rfl,fun w f=>Ah Aa rfl Aj⟩,.inl rfl,trivial⟩ ?_
  rw [<-hr3];refine Ez [(50,.agg ⟨FE (nl,(y.sz * r3) % 4113)⟩)] (AL 1 rfl (AL 0 rfl AW)) rfl (.cons rfl rfl .nil) ?_;refine AO Aa rfl rfl rfl rfl rfl rfl rfl rfl rfl rfl rfl rfl (fun b51 hb51=>?_);refine Ag ⟨_,rfl,(fun u h=>by cases h),?_⟩;refine Ez [(38,.slice qa1 ql1.length qc1),(51,.slice (some ⟨b51,0,none⟩) 1 1)] (AL 2 rfl (AL 1 rfl AW)) rfl (.cons rfl rfl (.cons rfl rfl .nil)) ?_
  refine NY (ty:=0) Aa 5 (k:=1) (news:=FE (nl,(y.sz * r3) % 4113)) rfl rfl rfl rfl rfl rfl rfl rfl rfl (by decide) (fun w' hw=>Sl.of_blk (hw.own _ (Af (i:=0) rfl)) rfl (fun j u hu=>by rw [Nat.zero_add];exact hu)) (fun u hu=>by
   simp only [FE,List.mem_cons,List.not_mem_nil,or_false] at hu
   rcases hu with rfl |rfl<;>rfl) (by simp only [maxLen];omega) (by show (_ + _) * 16 <= _;omega) (fun A2 C2 Fq2 hc3 hd3 hF2=>⟨_,rfl,?_⟩)
  refine Ag ⟨_,rfl,(fun u h=>by cases h),?_⟩;refine Ez [(54,.pointer (some ⟨pb,0 + 2,none⟩)),(52,.slice A2 (ql1.length + 1) C2)] (AL 2 rfl (AL 1 rfl AW)) rfl (.cons rfl rfl (.cons rfl rfl .nil)) ?_;refine Aw Aa 2 rfl rfl rfl rfl rfl rfl ?_;refine Ag ⟨_,rfl,(fun u h=>by cases h),?_⟩;refine RM [(0,AG pb),(3,.pointer (some ⟨b3,0,none⟩)),(19,.int .i64 (L:Int)),(20,.int .i64 (j:Int))] (by repeat (first |exact Bg.nil |refine Bg.cons rfl ?_)) ?_;repeat (first |refine Ab ?_ |refine Ag ?_ |refine Ad ?_ |refine Al ?_ |refine AE Aa rfl (by omega) ?_ |refine Ae Aa rfl ?_)
  have e1:(ql1 ++ [(nl,(y.sz * r3) % 4113)]).length=ql1.length + 1:=by rw [List.length_append];rfl
  refine ⟨⟨j + 1,ql1 ++ [(nl,(y.sz * r3) % 4113)],nl,A2,C2,Fq2⟩,⟨by show j + 1 <= L;omega,hqs,hqu.step (by omega),fun k hk=>(hF2 k hk).elim (hN1 k) id⟩,(by repeat (first |exact As.nil |refine As.cons rfl ?_)),fun w' hw=>?_,by show L - (j + 1) < L - j;omega⟩;dsimp only [R5,qE];rw [e1,Gt];exact hw.less (by repeat (first |refine Au.keep ?_ |refine Au.dropB (by first |assumption |omega) ?_ |exact Bp _))
 ·repeat (first |refine Ai ?_ |refine Ab ?_ |refine Ag ?_ |refine Ae Aa rfl ?_)
  refine Ak rfl (fun h5=>?_) (fun h5=>?_)
  ·repeat (first |refine Ai ?_ |refine Ab ?_ |refine Ag ?_ |refine Ae Aa rfl ?_ |refine Ap Aa 1 rfl rfl rfl ?_)
   refine Ak rfl (fun h7=>?_) (fun h7=>?_)
   ·refine Fh (X:=ql.length <= qc) (fun w1 g1=>by
     obtain ⟨_,_,e,h1,_⟩:=Gl (g1.own _ (Af (i:=4) rfl)).1.1;cases e
     exact h1) (fun hlc=>?_)
    repeat (first |refine Ae Aa rfl ?_ |refine Aq ?_ |refine Ap Aa 1 rfl rfl rfl ?_)
    refine BF (GA (L:=1) (sz:=2) Aa rfl rfl rfl rfl rfl rfl rfl rfl (by omega) hlc) ?_;repeat (first |refine Ag ?_ |refine Al ?_ |refine Ae Aa rfl ?_ |refine Aw Aa 1 rfl rfl rfl rfl rfl rfl ?_)
    refine CM rfl (fun w' hw=>⟨ql.drop 1,last,(if qc=1 then qa else qa.map (·.add (1 * 2))),qc - 1,Fq,rfl,(hqb.sub (List.drop_sublist 1 ql)).up (Nat.le_succ _),Hs.sub (List.drop_sublist 1 ql),hNq,?_⟩);dsimp only [PL,WP,qE];rw [show (ql.drop 1).length=ql.length - 1 from List.length_drop]
    have hpos:0 < ql.length:=by omega
    have e2:DS (ql.drop 1)=(DS ql).drop 2:=by
     cases ql with
     |nil=>rfl
     |cons x t=>rfl
    rw [e2];have g1:=hw.mapI 4 rfl (Ψ:=fun w=>(R4 64 2 (ql.length - 1) ((DS ql).drop 2)).at_ w Fq (.slice (if qc=1 then qa else qa.map (·.add (1 * 2))) (ql.length - 1) (qc - 1))) (fun h=>⟨(IU h.1 hpos).1,fun k hk=>h.2 k ((IU h.1 hpos).2 k hk)⟩) (Vp.loc (p:=R4 _ _ _ _)) rfl;exact g1.less (by repeat (first |refine Au.keep ?_ |refine Au.dropB (by first |assumption |omega) ?_ |exact Bp _))
   ·repeat (first |refine Al ?_ |refine Ao ?_)
    exact CM rfl (fun w' hw=>⟨ql,last,qa,qc,Fq,rfl,hqb.up (Nat.le_succ _),Hs.sub (List.Sublist.refl _),hNq,hw.less (by repeat (first |refine Au.keep ?_ |refine Au.dropB (by first |assumption |omega) ?_ |exact Bp _))⟩)
  ·repeat (first |refine Ai ?_ |refine Ab ?_ |refine Ag ?_ |refine Ae Aa rfl ?_)
   refine Ak rfl (fun h6=>?_) (fun h6=>?_)
   ·repeat (first |refine Ai ?_ |refine Ab ?_ |refine Ar ?_ |refine Ag ?_ |refine Ae Aa rfl ?_ |refine Ap Aa 1 rfl rfl rfl ?_)
    obtain ⟨d,la,x,nn,sz,ra,rn,rc⟩:=y;dsimp only at hd hnn hsz hd' hnn' hsz' h4 h5 h6 ⊢;have hok:=hqb.ok (by omega);have hql:=hqb.len
    refine Fh (X:=rl.length=rn/\rn <= maxLen/\∀ r ∈ rl,UD r) (fun w1 g1=>by
     have h9:Bq Bi w1 Fr ra rn rc rl:=Bq.of_val (g1.own _ (Af (i:=5) rfl)).1
     exact ⟨h9.len,h9.maxn,Di h9⟩) (fun ⟨hrl,hrm,hrok⟩=>?_)
    simp only [maxLen] at hrm;obtain ⟨fl,hfl⟩:∃ fl:Nat->List (Int × Int),fl=fun i=>(ql.take i).filter fun z=>!decide (Cu rl z.1):=⟨_,rfl⟩
    have hf0:fl 0= []:=by rw [hfl];rfl
    have hfll:∀ i,(fl i).length <= ql.length:=fun i=>by
     rw [hfl];exact Nat.le_trans (List.length_filter_le _ _) (by rw [List.length_take];omega)
    refine AM (ι:=Nat × Option Addr × Nat) (fun q=>[(0,AG pb),(3,.pointer (some ⟨b3,0,none⟩)),(77,.slice qa ql.length qc),(78,.int .i64 (ql.length:Int)),(79,.int .i64 (q.1:Int)),(5,.slice q.2.1 (fl q.1).length q.2.2)])
     (fun q=>.row w0.heap.size (.slice q.2.1 (fl q.1).length q.2.2) 64 2 (fl q.1).length (DS (fl q.1))::.blk b3 (.cells ⟨Ac.cs ⟨d,la,x,nn,sz,ra,rn,rc⟩⟩ 38 (0,0)) true::(R5 pb sb xb s ql last now qa qc F1 F2 Fq ++ .rep (fun w=>((Ay Bi).vp rl).at_ w Fr (.slice ra rn rc)) Fr false::rest))
     (fun q=>q.1 <= ql.length) (fun q=>ql.length - q.1) (0,none,0) (Nat.zero_le _) (by dsimp only;rw [hf0];repeat (first |exact As.nil |refine As.cons rfl ?_)) (fun w' hw=>by dsimp only;rw [hf0];exact hw.nilRow _ _) ?_
    rintro ⟨i,a5,c5⟩ hi;dsimp only at hi ⊢;have hfi:=hfll i;repeat (first |refine Ai ?_ |refine Ab ?_ |refine Ag ?_ |refine Ae Aa rfl ?_)
    refine Ak rfl (fun hlt=>?_) (fun hge=>?_);rotate_left
    ·have hie:i=ql.length:=by omega
     repeat (first |refine Ag ?_ |refine Ad ?_ |refine Al ?_ |refine AC ?_ |refine Am ?_ |refine AH ?_ |refine Ae Aa rfl ?_ |refine Aq ?_ |refine Aw Aa 2 rfl rfl rfl rfl rfl rfl ?_)
     refine CM rfl (fun w' hw=>⟨fl i,last,a5,c5,fun k=>(Value.slice a5 (fl i).length c5).ownBlock=some k,rfl,(hqb.sub ?_).up (Nat.le_succ _),Hs.sub ?_,fun k hk=>?_,?_⟩)
     ·rw [hfl];exact List.filter_sublist.trans (List.take_sublist _ _)
     ·rw [hfl];exact List.filter_sublist.trans (List.take_sublist _ _)
     ·exact (World.ownsRow.lt (hw.own (.row w0.heap.size (.slice a5 (fl i).length c5) 64 2 (fl i).length (DS (fl i))) List.mem_cons_self) k hk).1
     ·have g1:=((hw.rowQ.pm [5,0,1,2,3,4] rfl rfl rfl).drop (fun _ k hk=>hNq k hk)).pm [2,3,4,0,5,1] rfl rfl rfl;exact g1.less (by repeat (first |refine Au.keep ?_ |refine Au.dropB (by first |assumption |omega) ?_ |exact Bp _))
    have hi':i < ql.length:=by omega
    refine Fh (X:=∃ b off,qa=some ⟨b,off,none⟩) (fun w1 g1=>by
     obtain ⟨b,off,cs,e,_⟩:=(Mp (g1.own _ (Af (i:=5) rfl)).1 hok).get_ hi'
     exact ⟨b,off,e⟩) (fun ⟨ab,off,hqe⟩=>?_)
    subst hqe;repeat (first |refine Ai ?_ |refine Ab ?_ |refine Ar ?_ |refine Ad ?_ |refine Ao ?_)
    refine BF (Bu (sz:=2) Aa rfl rfl rfl rfl rfl rfl rfl rfl (j:=i) (by omega)) ?_;refine BX Aa (vs:=FE ql[i]) rfl rfl rfl (fun w' hw=>ED (Mp (hw.own _ (Af (i:=5) rfl)).1 hok) hi') ?_;refine A5 Aa rfl (fun b7 hb7=>?_);obtain ⟨z,hz⟩:∃ z,z=ql[i]:=⟨_,rfl⟩
    have hfs:fl (i + 1)=fl i ++ if Cu rl z.1 then [] else [z]:=by
     rw [hfl,hz];dsimp only;rw [List.take_succ_eq_append_getElem hi',List.filter_append];congr 1;by_cases hm:Cu rl ql[i].1
     ·rw [if_pos hm,List.filter_cons_of_neg (by simpa using hm)];rfl
     ·rw [if_neg hm,List.filter_cons_of_pos (by simpa using hm)];rfl
    rw [<-hz];repeat (first |refine Ai ?_ |refine Ab ?_ |refine Ar ?_ |refine Ag ?_ |refine Ae Aa rfl ?_ |refine Ap Aa 2 rfl rfl rfl ?_ |refine Aw Aa 0 rfl rfl rfl rfl rfl rfl ?_)
    refine AM (ι:=Nat) (fun j=>[(0,AG pb),(3,.pointer (some ⟨b3,0,none⟩)),(77,.slice (some ⟨ab,off,none⟩) ql.length qc),(78,.int .i64 (ql.length:Int)),(79,.int .i64 (i:Int)),(5,.slice a5 (fl i).length c5),(7,.pointer (some ⟨b7,0,none⟩)),(8,.bool (decide (Cu (rl.take j) z.1))),(84,.slice ra rn rc),(85,.int .i64 (rn:Int)),(86,.int .i64 (j:Int))])
     (fun _=>.blk b7 (.cells ⟨[.int .u64 z.1,.int .i64 z.2]⟩ 64 (0,0)) true::.row w0.heap.size (.slice a5 (fl i).length c5) 64 2 (fl i).length (DS (fl i))::.blk b3 (.cells ⟨Ac.cs ⟨d,la,x,nn,sz,ra,rn,rc⟩⟩ 38 (0,0)) true::(R5 pb sb xb s ql last now (some ⟨ab,off,none⟩) qc F1 F2 Fq ++ .rep (fun w=>((Ay Bi).vp rl).at_ w Fr (.slice ra rn rc)) Fr false::rest))
     (fun j=>j <= rn) (fun j=>rn - j) 0 (Nat.zero_le _) (by rw [show decide (Cu (rl.take 0) z.1)=false from decide_eq_false (CD _)];repeat (first |exact As.nil |refine As.cons rfl ?_)) (fun w' hw=>hw) ?_
    intro j hj;repeat (first |refine Ai ?_ |refine Ab ?_ |refine Ag ?_ |refine Ae Aa rfl ?_)
    refine Ak rfl (fun hlt2=>?_) (fun hge2=>?_);rotate_left
    ·rw [List.take_of_length_le (show rl.length <= j by omega)];repeat (first |refine Ai ?_ |refine Ab ?_ |refine Ag ?_ |refine Ad ?_ |refine AC ?_ |refine Am ?_ |refine AH ?_ |refine Ae Aa rfl ?_)
     refine CC rfl (fun h1=>?_) (fun h1=>?_)
     ·have hno:¬ Cu rl z.1:=by simpa using h1
      rw [if_neg hno] at hfs
      have e1:(fl (i + 1)).length=(fl i).length + 1:=by rw [hfs,List.length_append];rfl
      repeat (first |refine Ae Aa rfl ?_ |refine Aq ?_ |refine Ap Aa 0 rfl rfl rfl ?_)
      refine AO Aa rfl rfl rfl rfl rfl rfl rfl rfl rfl rfl rfl rfl (fun b11 hb11=>?_)
      refine AU (ty:=0) Aa 2 (k:=1) (news:=FE z) rfl rfl rfl rfl rfl rfl rfl rfl rfl (by decide) (fun w' hw=>Sl.of_blk (hw.own _ (Af (i:=0) rfl)) rfl (fun j u hu=>by rw [Nat.zero_add];exact hu)) (fun u hu=>by
       simp only [FE,List.mem_cons,List.not_mem_nil,or_false] at hu
       rcases hu with rfl |rfl<;>rfl) (by simp only [maxLen];omega) (by show (_ + _) * 16 <= _;omega) rfl (fun A1 C1 hc3 hd3=>⟨_,rfl,?_⟩)
      rw [<-Gt,<-hfs,<-e1];repeat (first |refine Ab ?_ |refine Ag ?_ |refine Ad ?_ |refine Al ?_ |refine AE Aa rfl (by omega) ?_ |refine Ae Aa rfl ?_)
      exact ⟨(i + 1,A1,C1),hi',(by repeat (first |exact As.nil |refine As.cons rfl ?_)),fun w' hw=>hw.less (by repeat (first |refine Au.keep ?_ |refine Au.dropB (by first |assumption |omega) ?_ |exact Bp _)),by dsimp only;omega⟩
     ·have hyes:Cu rl z.1:=by simpa using h1
      rw [if_pos hyes,List.append_nil] at hfs;repeat (first |refine Ab ?_ |refine Ag ?_ |refine Ad ?_ |refine Al ?_ |refine Ao ?_ |refine AE Aa rfl (by omega) ?_ |refine Ae Aa rfl ?_)
      exact ⟨(i + 1,a5,c5),hi',(by dsimp only;rw [hfs];repeat (first |exact As.nil |refine As.cons rfl ?_)),fun w' hw=>by dsimp only;rw [hfs];exact hw.less (by repeat (first |refine Au.keep ?_ |refine Au.dropB (by first |assumption |omega) ?_ |exact Bp _)),by dsimp only;omega⟩
    have hj':j < rl.length:=by omega
    have hms:=CS hj' z.1
    refine Fh (X:=∃ b off,ra=some ⟨b,off,none⟩) (fun w1 g1=>by
     have h9:Bq Bi w1 Fr ra rn rc rl:=Bq.of_val (g1.own _ (Af (i:=7) rfl)).1;obtain ⟨b,off,cs,e,_⟩:=h9.get_ hj'
     exact ⟨b,off,e⟩) (fun ⟨rb,ro,hre⟩=>?_)
    subst hre;repeat (first |refine Ai ?_ |refine Ab ?_ |refine Ar ?_ |refine Ad ?_ |refine Ao ?_)
    refine BF (Bu (sz:=2) Aa rfl rfl rfl rfl rfl rfl rfl (j:=j) rfl (by omega)) ?_;refine BX Aa (vs:=C0 rl[j]) rfl rfl rfl (fun w' hw=>B7 (Bq.of_val (hw.own _ (Af (i:=7) rfl)).1) hj') ?_;refine A5 Aa rfl (fun b10 hb10=>?_);repeat (first |refine Ag ?_ |refine Ae Aa rfl ?_ |refine Aq ?_ |refine Aw Aa 0 rfl rfl rfl rfl rfl rfl ?_)
    have go:∀ b:Bool,(b=true ↔ Cu (rl.take (j + 1)) z.1)->b=decide (Cu (rl.take (j + 1)) z.1):=fun b hb=>by
     cases b with
     |true=>exact (decide_eq_true (hb.1 rfl)).symm
     |false=>exact (decide_eq_false fun h=>by have:=hb.2 h;cases this).symm
    by_cases m1:Cu (rl.take j) z.1
    ·refine Cb 91 (v':=.bool true) rfl (congrArg Value.bool (decide_eq_true m1)) ?_;repeat (first |refine Ab ?_ |refine Ag ?_ |refine Ad ?_ |refine Al ?_ |refine AE Aa rfl (by omega) ?_ |refine Ae Aa rfl ?_ |refine Bh rfl rfl rfl ?_)
     refine ⟨j + 1,by show j + 1 <= rn;omega,?_,fun w' hw=>hw.less (by repeat (first |refine Au.keep ?_ |refine Au.dropB (by first |assumption |omega) ?_ |exact Bp _)),by show rn - (j + 1) < rn - j;omega⟩;rw [<-go true ⟨fun _=>hms.2 (.inl m1),fun _=>rfl⟩];repeat (first |exact As.nil |refine As.cons rfl ?_)
    ·refine Cb 91 (v':=.bool false) rfl (congrArg Value.bool (decide_eq_false m1)) ?_;repeat (first |refine Ae Aa rfl ?_ |refine Ap Aa 0 rfl rfl rfl ?_ |refine Ap Aa 1 rfl rfl rfl ?_)
     by_cases m2:rl[j].1 <= z.1
     ·refine Cb 97 (v':=.bool true) rfl (congrArg Value.bool (decide_eq_true m2)) ?_;repeat (first |refine Ab ?_ |refine Ag ?_ |refine Ad ?_ |refine Al ?_ |refine AE Aa rfl (by omega) ?_ |refine Ae Aa rfl ?_ |refine Ap Aa 0 rfl rfl rfl ?_ |refine Ap Aa 1 rfl rfl rfl ?_)
      refine ⟨j + 1,by show j + 1 <= rn;omega,?_,fun w' hw=>hw.less (by repeat (first |refine Au.keep ?_ |refine Au.dropB (by first |assumption |omega) ?_ |exact Bp _)),by show rn - (j + 1) < rn - j;omega⟩;rw [<-go (decide (z.1 <= rl[j].2)) ⟨fun h=>hms.2 (.inr ⟨m2,of_decide_eq_true h⟩),fun h=>decide_eq_true ((hms.1 h).resolve_left m1).2⟩];repeat (first |exact As.nil |refine As.cons rfl ?_)
     ·refine Cb 97 (v':=.bool false) rfl (congrArg Value.bool (decide_eq_false m2)) ?_;repeat (first |refine Ab ?_ |refine Ag ?_ |refine Ad ?_ |refine Al ?_ |refine AE Aa rfl (by omega) ?_ |refine Ae Aa rfl ?_ |refine Bh rfl rfl rfl ?_)
      refine ⟨j + 1,by show j + 1 <= rn;omega,?_,fun w' hw=>hw.less (by repeat (first |refine Au.keep ?_ |refine Au.dropB (by first |assumption |omega) ?_ |exact Bp _)),by show rn - (j + 1) < rn - j;omega⟩;rw [<-go false ⟨(fun h=>by cases h),fun h=>(m2 ((hms.1 h).resolve_left m1).1).elim⟩];repeat (first |exact As.nil |refine As.cons rfl ?_)
   ·repeat (first |refine Al ?_ |refine Ao ?_)
    exact CM rfl (fun w' hw=>⟨ql,last,qa,qc,Fq,rfl,hqb.up (Nat.le_succ _),Hs.sub (List.Sublist.refl _),hNq,hw.less (by repeat (first |refine Au.keep ?_ |refine Au.dropB (by first |assumption |omega) ?_ |exact Bp _))⟩)
end
end Go.Proofs.YtidhpofcofknhaaGreat
