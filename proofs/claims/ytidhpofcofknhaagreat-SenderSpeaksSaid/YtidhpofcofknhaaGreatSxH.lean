/-
  A pair of senders: what it is; its tick. Conditions: each theorem's own.
-/
import Derived.Test.YtidhpofcofknhaaGreatSxG
namespace Go.Proofs.YtidhpofcofknhaaGreat
open Go Go.RowKit
set_option linter.unusedVariables false
theorem Bp {w0:World}:∀ (o:OL),Au w0 o o
 | []=>Au.nil
 |_::o=>Au.keep (Bp o)
abbrev RO (k:IntKind):Ec (Int × List Int):=CY (A8 k) (Ay (A8 .u64))
def Kc (k:IntKind) (ys:List (Int × SX)):List (List Value):=ys.map fun y=>[.int k y.1,y.2.v]
def Ik (k:IntKind) (a:Option Addr) (n c:Nat) (ys:List (Int × SX)) (TL:List (Int × List Int)):Vp:=
 ⟨fun w A _=>MV (RO k) w A a n c TL (Kc k ys),fun h hk=>h.keep hk⟩
theorem Oj {k:IntKind} {w:World} {A:Nat->Prop} {cs:List Value} {x:Int × List Int} (h:(RO k).at_ w A cs x):∃ y:SX,cs= [.int k x.1,y.v]/\AT k x.1/\Bq (A8 .u64) w A y.a y.n y.c x.2:=by
 obtain ⟨c1,c2,rfl,⟨rfl,h1⟩,a,n,c,rfl,h2⟩:=h;exact ⟨⟨a,n,c⟩,rfl,h1,h2⟩
theorem WM {k:IntKind} {w:World} {A:Nat->Prop} {v:Value} {TL:List (Int × List Int)} (h:((Ay (RO k)).vp TL).at_ w A v):∃ a n c ys,v= .slice a n c/\(Ik k a n c ys TL).at_ w A (.bool true):=by
 obtain ⟨a,n,c,rfl,h1⟩:=Bq.form h;obtain ⟨css,h2,h3,h4⟩:=h1.each
 have hx:∃ ys:List (Int × SX),css=Kc k ys:=by
  have:∀ cs ∈ css,∃ y:Int × SX,cs= [.int k y.1,y.2.v]:=fun cs hc=>by
   obtain ⟨i,hi⟩:=List.mem_iff_getElem?.1 hc;have hil:=(List.getElem?_eq_some_iff.1 hi).1;obtain ⟨y,hy⟩:∃ y,TL[i]? =some y:=⟨_,List.getElem?_eq_getElem (by rw [h1.len,<-h2];exact hil)⟩;obtain ⟨s,e,_⟩:=Oj (h3 i cs y hi hy);exact ⟨(y.1,s),e⟩
  clear h2 h3 h4
  induction css with
  |nil=>exact ⟨[],rfl⟩
  |cons cs css ih=>
   obtain ⟨x,hx⟩:=this cs List.mem_cons_self;obtain ⟨xs,hxs⟩:=ih fun y hy=>this y (List.mem_cons_of_mem _ hy);exact ⟨x::xs,by rw [hx,hxs];rfl⟩
 obtain ⟨ys,rfl⟩:=hx;exact ⟨a,n,c,ys,rfl,h1,h2,h3,h4⟩
section
variable {k:IntKind} {a:Option Addr} {n c:Nat} {ys:List (Int × SX)} {TL:List (Int × List Int)} {w:World} {A:Nat->Prop} {v:Value}
theorem Ik.len (h:(Ik k a n c ys TL).at_ w A v):TL.length=n/\ys.length=n:=by
 have h1:MV (RO k) w A a n c TL (Kc k ys):=h;exact ⟨h1.base.len,by simpa [Kc] using h1.cl⟩
theorem Ik.get (h:(Ik k a n c ys TL).at_ w A v) {i:Nat} {y:Int × SX} {x:Int × List Int} (hy:ys[i]? =some y) (hx:TL[i]? =some x):y.1=x.1/\AT k x.1/\Bq (A8 .u64) w A y.2.a y.2.n y.2.c x.2:=by
 have h1:MV (RO k) w A a n c TL (Kc k ys):=h;obtain ⟨s,e,h2,h3⟩:=Oj (h1.at_ i [.int k y.1,y.2.v] x (by unfold Kc;rw [List.getElem?_map,hy];rfl) hx);obtain ⟨y1,⟨ya,yn,yc⟩⟩:=y;obtain ⟨sa,sn,sc⟩:=s;simp only [List.cons.injEq,Value.int.injEq,Value.slice.injEq,and_true,true_and] at e;obtain ⟨e1,rfl,rfl,rfl⟩:=e;exact ⟨e1,h2,h3⟩
theorem Ik.addr (h:(Ik k a n c ys TL).at_ w A v) (hn:0 < n):∃ b off,a=some ⟨b,off,none⟩:=by
 have h1:MV (RO k) w A a n c TL (Kc k ys):=h;obtain ⟨b,off,e,_⟩:=h1.sl.get hn;exact ⟨b,off,e⟩
theorem QY {i j:Nat} {y:Int × SX} {u:Value} (hy:ys[i]? =some y) (hu:[Value.int k y.1,y.2.v][j]? =some u):(Kc k ys).flatten[i * 2 + j]? =some u:=by
 induction ys generalizing i with
 |nil=>simp at hy
 |cons z zs ih=>
  cases i with
  |zero=>
   rw [List.getElem?_cons_zero] at hy;cases hy;show ([Value.int k y.1,y.2.v] ++ (Kc k zs).flatten)[0 * 2 + j]? =_;rw [Nat.zero_mul,Nat.zero_add,List.getElem?_append_left (List.getElem?_eq_some_iff.1 hu).1];exact hu
  |succ i=>
   rw [List.getElem?_cons_succ] at hy;show ([Value.int k z.1,z.2.v] ++ (Kc k zs).flatten)[(i + 1) * 2 + j]? =_;rw [List.getElem?_append_right (by show 2 <= _;omega),show (i + 1) * 2 + j - [Value.int k z.1,z.2.v].length=i * 2 + j from by show (i + 1) * 2 + j - 2=_;omega];exact ih hy
end
theorem Ik.cell {k:IntKind} {b off n c:Nat} {ys:List (Int × SX)} {TL:List (Int × List Int)} {w:World} {A:Nat->Prop} {v:Value} (h:(Ik k (some ⟨b,off,none⟩) n c ys TL).at_ w A v) {i j:Nat} {y:Int × SX} {u:Value} (hy:ys[i]? =some y) (hu:[Value.int k y.1,y.2.v][j]? =some u):w.cell? ⟨b,off + i * 2 + j,none⟩=some u:=by
 have h1:MV (RO k) w A (some ⟨b,off,none⟩) n c TL (Kc k ys):=h;have hl:=(Ik.len h).2;have:=(List.getElem?_eq_some_iff.1 hy).1;rw [Nat.add_assoc];exact h1.sl.at_ (by omega) (QY hy hu)
abbrev DS (ql:List (Int × Int)):List Value:=(ql.map FE).flatten
theorem Wh (ql:List (Int × Int)):∀ u ∈ DS ql,u.oneCell'=true:=by
 intro u hu;obtain ⟨c,hc,hu⟩:=List.mem_flatten.1 hu;obtain ⟨x,_,rfl⟩:=List.mem_map.1 hc;simp only [FE,List.mem_cons,List.not_mem_nil,or_false] at hu
 rcases hu with rfl |rfl<;>rfl
theorem Gt (ql:List (Int × Int)) (x:Int × Int):DS (ql ++ [x])=DS ql ++ FE x:=by
 unfold DS;rw [List.map_append,List.flatten_append];simp
theorem Mp {w:World} {e:TypeId} {c:Nat} {a:Option Addr} {ql:List (Int × Int)} {F:Nat->Prop} (h:(R4 e 2 ql.length (DS ql)).at_ w F (.slice a ql.length c)) (hok:∀ x ∈ ql,U7 x):Bq Ek w F a ql.length c ql:=by
 obtain ⟨h1,h2⟩:=h;obtain ⟨A',C',e',h3,h4⟩:=Gl h1;cases e';refine .of_flat EL rfl h3 h4 (fun ha=>?_) (KO h1) hok (fun hn=>?_)
 ·obtain ⟨_,⟨h5,h6⟩ |⟨g,off,cap,cur,h5,_⟩⟩:=h1
  ·injection h5 with _ _ e3
   exact ⟨h6,e3⟩
  ·cases h5;cases ha
 ·obtain ⟨_,⟨h5,h6⟩ |⟨g,off,cap,cur,h5,_⟩⟩:=h1
  ·omega
  ·cases h5;exact ⟨g,off,rfl,h2 g rfl⟩
structure R9 where
 s:Bn
 ql:List (Int × Int)
 last:Int
 now:Int
abbrev WP (sb xb:Nat) (p:R9) (qa:Option Addr) (qc:Nat):Obj:=.cells ⟨[AG sb,AG xb,.slice qa p.ql.length qc,.int .u64 p.last,.int .i64 p.now]⟩ 45 (0,0)
abbrev qE (F:Nat->Prop) (qa:Option Addr) (qc:Nat) (ql:List (Int × Int)):HE:=.rep (fun w=>(R4 64 2 ql.length (DS ql)).at_ w F (.slice qa ql.length qc)) F true
abbrev PL (pb sb xb:Nat) (p:R9) (qa:Option Addr) (qc:Nat) (F1 F2 Fq:Nat->Prop):OL:=[.blk pb (WP sb xb p qa qc) true,.rep (fun w=>(G0 sb p.s).at_ w F1 (.bool true)) F1 true,.rep (fun w=>(I5 xb p.s).at_ w F2 (.bool true)) F2 true,qE Fq qa qc p.ql]
section
variable {n:Nat} {w0:World} {all:Array Oper} {os:List Oper} {o:Oper} {l:FL} {ol:OL} {K:FL->OL->Prop} {Q:B1} {d sb:Nat} {s:Bn} {F:Nat->Prop}
theorem Ut (i:Nat) {now:Int} {qa:Option Addr} {qn qc:Nat} (ql:List (Int × Int)) (hs:BJ n all (AQ l) o=some (d,32,[AG sb,.int .i64 now,.slice qa qn qc])) (hi:B9 ol i=some (.rep (fun w=>(I5 sb s).at_ w F (.bool true)) F true)) (hN:∀ k,F k->w0.heap.size <= k)
 (hq:∀ w,Hp w0 w ol->PG w F qa qn qc ql) (hnow:0 <= now/\now <= 1152921504606846976) (hqz:∀ x ∈ ql,0 <= x.2/\x.2 <= 1099511627776) (hqs:(ql.map (·.1)).Pairwise (· < ·)) (hb1:(AA s.gs).length + qn <= 60000) (hb2:s.gs.length + qn < 59999) (hb3:s.last + (qn:Int) + 1 <= 1099511627776) (htr:∀ g ∈ s.gs,g.tries < 1099511627776) (hstr:s.tr < 1099511627776)
 (k:∀ (v:Value) (Fv F':Nat->Prop),(∀ k,Fv k->w0.heap.size <= k)->(∀ k,F' k->w0.heap.size <= k)->∃ ol',C8 ol i (.rep (fun w=>(I5 sb (s.tick now ql)).at_ w F' (.bool true)) F' true)=some ol'/\S Tryz.prog n w0 all os ((d,v)::l) (.rep (fun w=>(G7.vp (s.told now ql)).at_ w Fv v) Fv false::ol') K Q):S Tryz.prog n w0 all (o::os) l ol K Q:=
 A7 hs Tryz.call32 fun w g=>by
  obtain ⟨A0,h1,h2⟩:=hq w g
  exact (Su (g.own _ (Af hi)).1 (g.own _ (Af hi)).2.2 hnow h1 h2 hqz hqs hb1 hb2 hb3 htr hstr).mono fun e w' ⟨v,Fv,F',he,hv,g1,g2,g3⟩=>by
   obtain ⟨ol',e1,e2⟩:=k v Fv F' (fun j hj=>Nat.le_trans g.size (hv j hj)) (fun j hj=>(g2 j hj).elim (hN j) (Nat.le_trans g.size));exact ⟨_,_,he,g.graftTV i hi g3 hv g1 g2 e1,e2⟩
end
section
variable {w0 w:World} {rest:OL} {pb sb xb qc:Nat} {p:R9} {qa:Option Addr} {F1 F2 Fq:Nat->Prop}
set_option maxHeartbeats 8000000 in
theorem Om (h:Hp w0 w (PL pb sb xb p qa qc F1 F2 Fq ++ rest)) (hN1:∀ k,F1 k->w0.heap.size <= k) (hN2:∀ k,F2 k->w0.heap.size <= k) {N M:Nat} (hsb:FM N p.s) (hN:N <= 100000) (hqb:QB M p.ql p.last) (hM:M <= 80) (hnow:0 <= p.now/\p.now <= 1152921504606846976):
 Calls Tryz.prog 13 #[AG pb] w fun e w'=>∃ (v:Value) (Fv F1' F2':Nat->Prop),e= .returned (.tuple #[v,.bool true])/\(∀ k,Fv k->w0.heap.size <= k)/\(∀ k,F1' k->w0.heap.size <= k)/\(∀ k,F2' k->w0.heap.size <= k)/\
  Hp w0 w' (.rep (fun w=>(Ho.vp (p.s.told p.now p.ql)).at_ w Fv v) Fv false::(PL pb sb xb ⟨p.s.tick p.now p.ql,p.ql,p.last,p.now⟩ qa qc F1' F2' Fq ++ rest)):=by
 obtain ⟨s,ql,last,now⟩:=p;dsimp only at hsb hqb hnow ⊢;have hok:=hqb.ok (by omega)
 have hqz:∀ x ∈ ql,0 <= x.2/\x.2 <= 1099511627776:=fun x hx=>by have:=hqb.sz x hx;omega
 have hql:=hqb.len;have hnums:=hsb.nums;have hlast:=hsb.last
 have htr:∀ g ∈ s.gs,g.tries < 1099511627776:=fun g hg=>by have:=hsb.tries g hg;omega
 have hstr:s.tr < 1099511627776:=by have:=hsb.tr;omega
 refine E5 Tryz.func13 rfl rfl h ?_;refine Fh (fun w1 g1=>(show D6 s/\CU s.last s.gs/\I9 s.gs from Oi (g1.own _ (Af (i:=2) rfl)).1)) (fun ⟨hsok,hbok,hbne⟩=>?_);have hgl:=OC hbne;repeat (first |refine Ai ?_ |refine Ab ?_ |refine Ar ?_ |refine Ag ?_ |refine Ae Aa rfl ?_ |refine Ap Aa 0 rfl rfl rfl ?_)
 refine AM (ι:=Nat × Option Addr × Nat) (fun q=>[(0,AG pb),(14,.slice qa ql.length qc),(15,.int .i64 (ql.length:Int)),(16,.int .i64 (q.1:Int)),(4,.slice q.2.1 q.1 q.2.2)])
  (fun q=>.row w0.heap.size (.slice q.2.1 q.1 q.2.2) 90 2 q.1 (DS (ql.take q.1))::(PL pb sb xb ⟨s,ql,last,now⟩ qa qc F1 F2 Fq ++ rest)) (fun q=>q.1 <= ql.length) (fun q=>ql.length - q.1) (0,none,0) (Nat.zero_le _) (by repeat (first |exact As.nil |refine As.cons rfl ?_)) (fun w' hw=>hw.nilRow _ _) ?_
 rintro ⟨i,a4,c4⟩ hi;dsimp only at hi ⊢;repeat (first |refine Ai ?_ |refine Ab ?_ |refine Ag ?_ |refine Ae Aa rfl ?_)
 refine Ak rfl (fun hlt=>?_) (fun hge=>?_)
 ·have hi':i < ql.length:=by omega
  refine Fh (X:=∃ b off,qa=some ⟨b,off,none⟩) (fun w1 g1=>by
   obtain ⟨b,off,cs,e,_⟩:=(Mp (g1.own _ (Af (i:=4) rfl)).1 hok).get_ hi'
   exact ⟨b,off,e⟩) (fun ⟨ab,off,hqe⟩=>?_)
  subst hqe;repeat (first |refine Ai ?_ |refine Ab ?_ |refine Ar ?_ |refine Ad ?_ |refine Ao ?_)
  refine BF (Bu (sz:=2) Aa rfl rfl rfl rfl rfl rfl rfl rfl (j:=i) (by omega)) ?_;refine BX Aa (vs:=FE ql[i]) rfl rfl rfl (fun w' hw=>ED (Mp (hw.own _ (Af (i:=4) rfl)).1 hok) hi') ?_;refine A5 Aa rfl (fun b6 hb6=>?_);repeat (first |refine Ag ?_ |refine Ae Aa rfl ?_ |refine Aq ?_ |refine Ap Aa 0 rfl rfl rfl ?_ |refine Aw Aa 0 rfl rfl rfl rfl rfl rfl ?_)
  refine AO Aa rfl rfl rfl rfl rfl rfl rfl rfl rfl rfl rfl rfl (fun b22 hb22=>?_)
  refine AU (ty:=0) Aa 2 (k:=1) (news:=FE ql[i]) rfl rfl rfl rfl rfl rfl rfl rfl rfl (by decide) (fun w' hw=>Sl.of_blk (hw.own _ (Af (i:=0) rfl)) rfl (fun j u hu=>by rw [Nat.zero_add];exact hu)) (fun u hu=>by
   simp only [FE,List.mem_cons,List.not_mem_nil,or_false] at hu
   rcases hu with rfl |rfl<;>rfl) (by simp only [maxLen];omega) (by show (_ + _) * 16 <= _;omega) rfl (fun A1 C1 hc3 hd3=>⟨_,rfl,?_⟩)
  rw [<-Gt,<-List.take_succ_eq_append_getElem hi'];repeat (first |refine Ab ?_ |refine Ag ?_ |refine Ad ?_ |refine Al ?_ |refine AE Aa rfl (by omega) ?_ |refine Ae Aa rfl ?_)
  exact ⟨(i + 1,A1,C1),hi',(by repeat (first |exact As.nil |refine As.cons rfl ?_)),fun w' hw=>hw.less (by repeat (first |refine Au.keep ?_ |refine Au.dropB (by first |assumption |omega) ?_ |exact Bp _)),by dsimp only;omega⟩
 have hie:i=ql.length:=by omega
 subst hie;rw [List.take_length];repeat (first |refine Ai ?_ |refine Ad ?_ |refine AC ?_ |refine Am ?_ |refine AH ?_)
 refine OK (by kernel_rfl) (by kernel_rfl) [12,22,23,24] (by kernel_rfl) (by kernel_rfl) (by kernel_rfl) [.blk pb (WP sb xb ⟨s,ql,last,now⟩ qa qc) false] (CH DO)
  [some (AG pb),some (.pointer (some ⟨pb,0,none⟩)),some (.pointer (some ⟨pb,0 + 0,none⟩)),some (AG sb),some (AG pb),some (.pointer (some ⟨pb,0,none⟩)),some (.pointer (some ⟨pb,0 + 4,none⟩)),some (.int .i64 now),some (AG pb),some (.pointer (some ⟨pb,0,none⟩)),some (.pointer (some ⟨pb,0 + 2,none⟩)),some (.slice qa ql.length qc),none,
   some (AG pb),some (.pointer (some ⟨pb,0,none⟩)),some (.pointer (some ⟨pb,0 + 1,none⟩)),some (AG xb),some (AG pb),some (.pointer (some ⟨pb,0,none⟩)),some (.pointer (some ⟨pb,0 + 4,none⟩)),some (.int .i64 now),some (.slice a4 ql.length c4),none,none,none]
  ⟨.inr ⟨_,_,rfl,rfl,fun w f=>Ah Aa rfl Aj⟩,.inr ⟨_,_,rfl,rfl,fun w f=>Ah Aa rfl Aj⟩,.inr ⟨_,_,rfl,rfl,fun w f=>Ah Aa rfl Aj⟩,.inr ⟨_,_,rfl,rfl,fun w f=>AD Aa 0 rfl rfl rfl Aj⟩,.inr ⟨_,_,rfl,rfl,fun w f=>Ah Aa rfl Aj⟩,.inr ⟨_,_,rfl,rfl,fun w f=>Ah Aa rfl Aj⟩,.inr ⟨_,_,rfl,rfl,fun w f=>Ah Aa rfl Aj⟩,.inr ⟨_,_,rfl,rfl,fun w f=>AD Aa 0 rfl rfl rfl Aj⟩,.inr ⟨_,_,rfl,rfl,fun w f=>Ah Aa rfl Aj⟩,.inr ⟨_,_,rfl,rfl,fun w f=>Ah Aa rfl Aj⟩,.inr ⟨_,_,rfl,rfl,fun w f=>Ah Aa rfl Aj⟩,.inr ⟨_,_,rfl,rfl,fun w f=>AD Aa 0 rfl rfl rfl Aj⟩,.inl rfl,.inr ⟨_,_,rfl,rfl,fun w f=>Ah Aa rfl Aj⟩,.inr ⟨_,_,rfl,rfl,fun w f=>Ah Aa rfl Aj⟩,.inr ⟨_,_,rfl,rfl,fun w f=>Ah Aa rfl Aj⟩,.inr ⟨_,_,rfl,rfl,fun w f=>AD Aa 0 rfl rfl rfl Aj⟩,.inr ⟨_,_,rfl,rfl,fun w f=>Ah Aa rfl Aj⟩,.inr ⟨_,_,rfl,rfl,fun w f=>Ah Aa rfl Aj⟩,.inr ⟨_,_,rfl,rfl,fun w f=>Ah Aa rfl Aj⟩,.inr ⟨_,_,rfl,rfl,fun w f=>AD Aa 0 rfl rfl rfl Aj⟩,.inr ⟨_,_,rfl,rfl,fun w f=>Ah Aa rfl Aj⟩,.inl rfl,.inl rfl,.inl rfl,trivial⟩ ?_
 refine FZ [(28,AG sb),(32,.int .i64 now),(36,.slice qa ql.length qc)] (AL 1 rfl AW) rfl (.cons rfl rfl (.cons rfl rfl (.cons rfl rfl .nil))) ?_;refine Wt 2 ql rfl rfl hN1 (fun w1 g1=>⟨Fq,Mp (g1.own _ (Af (i:=4) rfl)).1 hok,fun k hk hF=>g1.dis 4 2 rfl rfl rfl rfl hk hF⟩) hnow hqz (show (AA s.gs).length + ql.length <= 60000 by omega) (show s.gs.length + ql.length < 59999 by omega) (show s.last + (ql.length:Int) + 1 <= 1099511627776 by omega) htr hstr (fun v1 Fv1 G1 hFv1 hG1=>⟨_,rfl,?_⟩);refine Ag ⟨_,rfl,(fun u h=>by cases h),?_⟩;refine FZ [(41,AG xb),(45,.int .i64 now),(46,.slice a4 ql.length c4)] (AL 2 rfl AW) rfl (.cons rfl rfl (.cons rfl rfl (.cons rfl rfl .nil))) ?_;refine Ut 4 ql rfl rfl hN2 (fun w1 g1=>⟨fun k=>(Value.slice a4 ql.length c4).ownBlock=some k,Bq.of_row EL (g1.own (.row w0.heap.size (.slice a4 ql.length c4) 90 2 ql.length (DS ql)) (Af (i:=1) rfl)) rfl hok (fun k _ hk=>hk),fun k hk hF=>g1.dis 1 4 rfl rfl rfl rfl hk hF⟩) hnow hqz hqb.srt (show (AA s.gs).length + ql.length <= 60000 by omega) (show s.gs.length + ql.length < 59999 by omega) (show s.last + (ql.length:Int) + 1 <= 1099511627776 by omega) htr hstr (fun v2 Fv2 G2 hFv2 hG2=>⟨_,rfl,?_⟩);refine Ag ⟨_,rfl,(fun u h=>by cases h),?_⟩;refine FZ [(37,v1)] (AL 3 rfl AW) rfl (.cons rfl rfl .nil) ?_;refine Ae Aa rfl ?_;refine Ag ⟨_,rfl,(fun u h=>by cases h),?_⟩;refine FZ [(47,v2)] (AL 3 rfl AW) rfl (.cons rfl rfl .nil) ?_;refine Ae Aa rfl ?_;refine Ag ⟨_,rfl,(fun u h=>by cases h),?_⟩
 refine RN [(0,AG pb),(7,v1),(8,v2)] (AL 3 rfl AW) (by repeat (first |exact Bg.nil |refine Bg.cons rfl ?_)) ?_;obtain ⟨TL,hTL⟩:∃ TL,TL=s.told now ql:=⟨_,rfl⟩;obtain ⟨s',hs'⟩:∃ s',s'=s.tick now ql:=⟨_,rfl⟩;rw [<-hTL,<-hs']
 refine MU (ι:=(Option Addr × Nat × List (Int × SX)) × (Option Addr × Nat × List (Int × SX))) (fun q=>(v1= .slice q.1.1 TL.length q.1.2.1/\q.1.2.2.length=TL.length)/\(v2= .slice q.2.1 TL.length q.2.2.1/\q.2.2.2.length=TL.length))
  (fun q=>.rep (fun w=>(Ik .i64 q.2.1 TL.length q.2.2.1 q.2.2.2 TL).at_ w Fv2 (.bool true)) Fv2 false::.rep (fun w=>(Ik .u8 q.1.1 TL.length q.1.2.1 q.1.2.2 TL).at_ w Fv1 (.bool true)) Fv1 false::(PL pb sb xb ⟨s',ql,last,now⟩ qa qc G1 G2 Fq ++ rest)) (fun w' hw=>?_) ?_
 ·obtain ⟨a1,n1,c1,y1,e1,h1⟩:=WM (k:=.u8) (hw.own _ (Af (i:=1) rfl)).1;obtain ⟨a2,n2,c2,y2,e2,h2⟩:=WM (k:=.i64) (hw.own _ (Af (i:=0) rfl)).1;obtain ⟨rfl,l1⟩:=Ik.len h1;obtain ⟨l3,l2⟩:=Ik.len h2;subst l3;refine ⟨((a1,c1,y1),(a2,c2,y2)),⟨⟨e1,l1⟩,e2,l2⟩,?_⟩;have g1:=hw.mapI 0 rfl (Ψ:=fun w=>(Ik .i64 a2 TL.length c2 y2 TL).at_ w Fv2 (.bool true)) (fun _=>h2) (Vp.loc (p:=Ik _ _ _ _ _ _)) rfl;have g2:=g1.mapI 1 rfl (Ψ:=fun w=>(Ik .u8 a1 TL.length c1 y1 TL).at_ w Fv1 (.bool true)) (fun _=>h1) (Vp.loc (p:=Ik _ _ _ _ _ _)) rfl;exact g2.less (by repeat (first |refine Au.keep ?_ |refine Au.dropW (Nat.le_refl _) ?_ |exact Bp _))
 rintro ⟨⟨a1,c1,y1⟩,⟨a2,c2,y2⟩⟩ ⟨⟨rfl,hy1⟩,rfl,hy2⟩;dsimp only at hy1 hy2 ⊢;repeat (first |refine Ai ?_ |refine Ab ?_ |refine Ag ?_ |refine Ae Aa rfl ?_)
 refine Ak rfl (fun h=>absurd rfl h) (fun _=>?_);repeat (first |refine Ai ?_ |refine Ab ?_ |refine Ar ?_ |refine Ag ?_ |refine Ad ?_ |refine Ao ?_ |refine Ae Aa rfl ?_)
 refine AM (ι:=Nat) (fun i=>[(0,AG pb),(7,.slice a1 TL.length c1),(8,.slice a2 TL.length c2),(53,.slice a1 TL.length c1),(54,.int .i64 (TL.length:Int)),(55,.int .i64 (i:Int))])
  (fun _=>.rep (fun w=>(Ik .i64 a2 TL.length c2 y2 TL).at_ w Fv2 (.bool true)) Fv2 false::.rep (fun w=>(Ik .u8 a1 TL.length c1 y1 TL).at_ w Fv1 (.bool true)) Fv1 false::(PL pb sb xb ⟨s',ql,last,now⟩ qa qc G1 G2 Fq ++ rest)) (fun i=>i <= TL.length) (fun i=>TL.length - i) 0 (Nat.zero_le _) (by repeat (first |exact As.nil |refine As.cons rfl ?_)) (fun w' hw=>hw) ?_
 intro i hi;repeat (first |refine Ai ?_ |refine Ab ?_ |refine Ag ?_ |refine Ae Aa rfl ?_)
 refine Ak rfl (fun hlt=>?_) (fun hge=>?_);rotate_left
 ·have hie:i=TL.length:=by omega
  subst hie;repeat (first |refine Ai ?_ |refine Ab ?_ |refine Ag ?_ |refine Ad ?_ |refine AC ?_ |refine Am ?_ |refine AB ?_ |refine AH ?_ |refine Ae Aa rfl ?_)
  refine Dw rfl rfl rfl (fun w' hw=>?_);have g1:=hw.mapI 1 rfl (Ψ:=fun w=>(Ho.vp TL).at_ w Fv1 (.slice a1 TL.length c1)) (fun h=>(MV.base (show MV (RO .u8) _ _ _ _ _ _ _ from h)).val) (Vp.loc (p:=Ho.vp TL)) rfl;exact ⟨_,Fv1,G1,G2,rfl,hFv1,hG1,hG2,g1.less (by repeat (first |refine Au.keep ?_ |refine Au.dropR ?_ |exact Bp _))⟩
 have hi':i < TL.length:=by omega
 obtain ⟨x,hx⟩:∃ x,TL[i]? =some x:=⟨_,List.getElem?_eq_getElem hi'⟩;obtain ⟨y,hy⟩:∃ y,y1[i]? =some y:=⟨_,List.getElem?_eq_getElem (by omega)⟩;obtain ⟨z,hz⟩:∃ z,y2[i]? =some z:=⟨_,List.getElem?_eq_getElem (by omega)⟩
 refine Fh (X:=((∃ b off,a1=some ⟨b,off,none⟩)/\∃ b off,a2=some ⟨b,off,none⟩)/\(y.1=x.1/\AT .u8 x.1)/\z.1=x.1/\y.2.n <= maxLen/\TL.length <= maxLen) (fun w1 g1=>by
  have o1:=(g1.own _ (Af (i:=1) rfl)).1;have o2:=(g1.own _ (Af (i:=0) rfl)).1;obtain ⟨e1,e2,e3⟩:=Ik.get o1 hy hx;obtain ⟨e4,_,_⟩:=Ik.get o2 hz hx
  exact ⟨⟨Ik.addr o1 (by omega),Ik.addr o2 (by omega)⟩,⟨e1,e2⟩,e4,e3.maxn,(MV.base (show MV (RO .u8) _ _ _ _ _ _ _ from o1)).maxn⟩) (fun ⟨⟨⟨b1,o1,e1⟩,⟨b2,o2,e2⟩⟩,⟨hyx,hfx⟩,hzx,hym,hTm⟩=>?_)
 simp only [maxLen] at hTm;subst e1 e2;have hfx':=Dt hfx;repeat (first |refine Ai ?_ |refine Ab ?_ |refine Ar ?_ |refine Ad ?_ |refine Ao ?_ |refine Ae Aa rfl ?_)
 refine BF (Bu (sz:=2) Aa rfl rfl rfl rfl rfl rfl rfl (j:=i) rfl hi') ?_
 refine BX Aa (vs:=[.int .u8 y.1,y.2.v]) rfl rfl rfl (fun w' hw j u hu=>by
  rw [Addr.add_lit]
  exact Ik.cell (hw.own _ (Af (i:=1) rfl)).1 hy hu) ?_
 refine A5 Aa rfl (fun b10 hb10=>?_);repeat (first |refine AZ (by kernel_rfl) (by kernel_rfl) ?_ |refine BD Aa rfl (by omega) ?_ |refine Ah Aa rfl ?_ |refine AD Aa 0 rfl rfl rfl ?_ |refine Ai ?_ |refine Ag ?_ |refine Ae Aa rfl ?_ |refine Aw Aa 0 rfl rfl rfl rfl rfl rfl ?_)
 refine Bv (Bu (sz:=2) Aa rfl rfl rfl rfl rfl rfl rfl (j:=i) rfl hi') ?_;repeat (first |refine Ah Aa rfl ?_)
 refine Av Aa (v:=.int .i64 z.1) rfl rfl (fun w' hw=>Ik.cell (hw.own _ (Af (i:=1) rfl)).1 hz (j:=0) rfl) ?_;repeat (first |refine Ah Aa rfl ?_)
 refine BN 69 (v':=.bool false) rfl (congrArg Value.bool (decide_eq_false fun h=>h (by rw [hyx,hzx]))) ?_;repeat (first |refine Ah Aa rfl ?_ |refine AD Aa 0 rfl rfl rfl ?_)
 refine Bv (Bu (sz:=2) Aa rfl rfl rfl rfl rfl rfl rfl (j:=i) rfl hi') ?_;repeat (first |refine Ah Aa rfl ?_)
 refine Av Aa (v:=z.2.v) rfl rfl (fun w' hw=>Ik.cell (hw.own _ (Af (i:=1) rfl)).1 hz (j:=1) rfl) ?_
 refine Bc (v:=.bool true) rfl Tryz.call25 (fun w' vs hw' h=>by
  obtain ⟨u1,_,rfl,rfl,u2,_,rfl,rfl,rfl⟩:=h;have r1:=(Ik.get (hw'.own _ (Af (i:=2) rfl)).1 hy hx).2.2;have r2:=(Ik.get (hw'.own _ (Af (i:=1) rfl)).1 hz hx).2.2;rw [show Value.bool true=Value.bool (decide (x.2=x.2)) from congrArg Value.bool (decide_eq_true rfl).symm]
  exact J6 y.2.a z.2.a y.2.n y.2.c z.2.n z.2.c x.2 x.2 w' r1.ints.sl r2.ints.sl hym) ?_
 repeat (first |refine AP rfl ?_ |refine Ah Aa rfl ?_)
 refine AF rfl ?_;repeat (first |refine Ab ?_ |refine Ag ?_ |refine Ad ?_ |refine Al ?_ |refine Ao ?_ |refine AE Aa rfl (by omega) ?_ |refine Ae Aa rfl ?_)
 exact ⟨i + 1,hi',(by repeat (first |exact As.nil |refine As.cons rfl ?_)),fun w' hw=>hw.less (by repeat (first |refine Au.keep ?_ |refine Au.dropB (by first |assumption |omega) ?_ |exact Bp _)),by omega⟩
end
end Go.Proofs.YtidhpofcofknhaaGreat
