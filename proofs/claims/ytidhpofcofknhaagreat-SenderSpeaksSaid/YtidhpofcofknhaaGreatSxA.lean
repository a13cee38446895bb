/-
  The document's sender: what it is, New, tried, Next; a sender's Next. Conditions: each theorem's own.
-/
import Derived.Test.YtidhpofcofknhaaGreatSb
namespace Go.Proofs.YtidhpofcofknhaaGreat
open Go Go.RowKit
set_option linter.unusedVariables false
abbrev FK (xb:Nat) (s:Bn):Obj:=.cells ⟨[.int .i64 s.f,.int .i64 s.m,.int .i64 s.p,.int .i64 s.q,.int .u64 s.ep,.bool s.op,.int .u64 s.inc,.int .u64 s.lim,AG xb,.int .i64 s.tm,.int .i64 s.tr]⟩ 107 (0,0)
def I5 (sb:Nat) (s:Bn):Vp:=
 ⟨fun w F _=>∃ (bb:Nat) (Fb:Nat->Prop),D6 s/\(w.heap[sb]? =some (FK bb s)/\F sb)/\(DH bb s.f s.m s.gs s.last).at_ w Fb (.bool true)/\(∀ k,Fb k->F k)/\(∀ k,Fb k->k < w.heap.size)/\¬ Fb sb,
  fun {w w' A B v} ⟨bb,Fb,h1,h2,h3,h4,h5,h6⟩ hk=>⟨bb,fun k=>(Fb k/\B k)/\k < w'.heap.size,h1,⟨((hk sb h2.2 (AV h2.1)).1).trans h2.1,(hk sb h2.2 (AV h2.1)).2⟩,
   (DH _ _ _ _ _).keep h3 fun k hf hlt=>⟨(hk k (h4 k hf) hlt).1,⟨hf,(hk k (h4 k hf) hlt).2⟩,by
    have:=(hk k (h4 k hf) hlt).1;have h7:=Array.getElem?_eq_getElem hlt;rw [h7] at this
    exact AV this⟩,fun k h=>h.1.2,fun k h=>h.2,fun h=>h6 h.1.1⟩⟩
abbrev XL (sb bb:Nat) (s:Bn) (Fb:Nat->Prop) (r:Bool):OL:=[.blk sb (FK bb s) r,.rep (fun w=>(DH bb s.f s.m s.gs s.last).at_ w Fb (.bool true)) Fb r]
section
variable {sb:Nat} {s:Bn} {w w0:World} {F:Nat->Prop} {v:Value} {ol:OL}
theorem Qd {xb:Nat} {f m last:Int} {gs:List BG} (h:(DH xb f m gs last).at_ w F v):PR f m/\CU last gs/\I9 gs:=by
 obtain ⟨_,_,_,_,⟨_,h1,h2,h3⟩,_⟩:=h;exact ⟨h1,h2,h3⟩
theorem Oi (h:(I5 sb s).at_ w F v):D6 s/\CU s.last s.gs/\I9 s.gs:=by
 obtain ⟨bb,Fb,h1,_,h3,_⟩:=h;exact ⟨h1,(Qd h3).2⟩
theorem Jf (h:(I5 sb s).at_ w F v) (r:Bool):∃ (bb:Nat) (Fb:Nat->Prop),D6 s/\Hp w w (XL sb bb s Fb r)/\F sb/\∀ k,Fb k->F k:=by
 obtain ⟨bb,Fb,h1,h2,h3,h4,h5,h6⟩:=h;refine ⟨bb,Fb,h1,⟨rfl,rfl,rfl,Nat.le_refl _,fun _ _ _=>rfl,fun e he=>?_,?_⟩,h2.2,h4⟩
 ·rcases List.mem_cons.1 he with rfl |he
  ·exact h2.1
  ·rw [List.mem_singleton] at he;subst he;exact ⟨h3,Vp.loc,h5⟩
 ·refine List.pairwise_cons.2 ⟨fun e he _ k hk hk2=>?_,List.pairwise_singleton _ _⟩;rw [List.mem_singleton] at he;subst he;exact h6 (Option.some.inj hk ▸ hk2)
theorem HI {bb:Nat} {Fb F0:Nat->Prop} (hh:Hp w0 w (XL sb bb s Fb true ++ ol)) (hok:D6 s) (hF0:∀ k,F0 k->k < w0.heap.size) (hol:∀ e ∈ ol,∀ k,e.has k->w0.heap.size <= k) (h1:F0 sb \/ w0.heap.size <= sb) (h2:∀ k,Fb k->F0 k \/ w0.heap.size <= k):
 ∃ F':Nat->Prop,(∀ k,F0 k->F' k)/\(∀ k,F' k->F0 k \/ w0.heap.size <= k)/\Hp w0 w (.rep (fun w=>(I5 sb s).at_ w F' (.bool true)) F' true::ol):=by
 have o0:w.heap[sb]? =some (FK bb s):=hh.own _ (Af (i:=0) rfl);have o1:=hh.own _ (Af (i:=1) rfl)
 refine hh.pack2 hF0 hol (fun e' he' e he=>.inl (by
  rcases List.mem_cons.1 he' with rfl |he'
  ·rfl
  ·rw [List.mem_singleton] at he';subst he'
   rfl)) (fun e he k hk=>?_) (I5 sb s) fun F' hF'=>⟨bb,Fb,hok,⟨o0,hF' _ (Af (i:=0) rfl) sb rfl⟩,o1.1,hF' _ (Af (i:=1) rfl),o1.2.2,fun h=>?_⟩
 ·rcases List.mem_cons.1 he with rfl |he
  ·exact Option.some.inj hk ▸ h1
  ·rw [List.mem_singleton] at he;subst he;exact h2 k hk
 ·exact hh.dis 0 1 rfl rfl rfl rfl (show (HE.blk sb (FK bb s) true).has sb from rfl) h
theorem Bn.tryR_same (s:Bn) (now:Int) (bb:Nat):DH bb (s.try_ now).f (s.try_ now).m (s.try_ now).gs (s.try_ now).last=DH bb s.f s.m s.gs s.last:=by
 unfold Bn.try_;split<;>rfl
theorem U2 (f m p q ep:Int) (hc:cR f m p q) (he:AT .u64 ep/\ep ≠ 0) (w:World):Calls Tryz.prog 26 #[.int .i64 f,.int .i64 m,.int .i64 p,.int .i64 q,.int .u64 ep] w fun e w'=>∃ (sb:Nat) (F:Nat->Prop),e= .returned (AG sb)/\(∀ k,F k->w.heap.size <= k)/\Hp w w' [.rep (fun w=>(I5 sb ⟨f,m,p,q,ep,false,0,0,0,0,[],0⟩).at_ w F (.bool true)) F true]:=by
 refine We Tryz.func26 rfl rfl (Hp.refl w) ?_;repeat (first |refine Ai ?_ |refine Ab ?_ |refine Ag ?_ |refine Ae Aa rfl ?_ |refine BF (Bf Aa rfl rfl rfl rfl rfl rfl rfl) ?_)
 refine A5 Aa rfl (fun xb hxb=>?_);repeat (first |refine BF (Bf Aa rfl rfl rfl rfl rfl rfl rfl) ?_)
 refine A5 Aa rfl (fun sb hsb=>?_);repeat (first |refine Ag ?_ |refine AB ?_ |refine Ae Aa rfl ?_)
 refine AY rfl rfl (fun w' hw=>?_);have h1:=((hw.nilRow 146 4).none (p:=G4 []) (v:=.bool true) (fun w p hp=>by cases hp) false).pm [3,1,0,2] rfl rfl rfl
 obtain ⟨Fb,g1,g2,g3⟩:=Gk (base:=w.heap.size) (F0:=fun _=>False) (K:=[]) (a:=none) (c:=0) (G:=fun _=>False) (f:=f) (m:=m) (last:=0) (xb:=xb) (gs:=[]) (ol:=[.blk sb (FK xb ⟨f,m,p,q,ep,false,0,0,0,0,[],0⟩) true]) [] h1 rfl hc.1 (CU.nil (by decide)) (fun g hg=>by cases hg) (fun k hk=>hk.elim) (fun e he k hk=>by
  rw [List.mem_singleton] at he;subst he
  exact Option.some.inj hk ▸ hsb) (fun e he=>by
  rw [List.mem_singleton] at he;subst he
  exact .inl rfl) (JL (.inr hxb) (fun k hk=>by cases hk) fun k hk=>hk.elim) (fun e he=>by cases he)
 have h2:=g3.pm [1,0] rfl rfl rfl;obtain ⟨F',j1,j2,j3⟩:=HI (F0:=fun _=>False) (ol:=[]) (s:=⟨f,m,p,q,ep,false,0,0,0,0,[],0⟩) h2 ⟨hc,he,(show AT .u64 0 by decide),(show AT .u64 0 by decide),(show (0:Int) <= 0/\(0:Int) <= 2305843009213693952 by decide),(show (0:Int) <= 0/\(0:Int) <= 1099511627776 by decide)⟩ (fun k h=>h.elim) (fun e he=>by cases he) (.inr hsb) (fun k hk=>.inr ((g2 k hk).resolve_left id));exact ⟨sb,F',rfl,fun k hk=>(j2 k hk).resolve_left id,j3⟩
set_option maxHeartbeats 1000000 in
theorem KJ {bb:Nat} {rest:OL} (h:Hp w0 w (.blk sb (FK bb s) true::rest)) {now:Int} (hp:PR s.f s.m) (hnow:0 <= now/\now <= 1152921504606846976) (htr:0 <= s.tr/\s.tr < 1099511627776):Calls Tryz.prog 58 #[AG sb,.int .i64 now] w fun e w'=>e= .returned (.bool (decide (s.tm <= now)))/\Hp w0 w' (.blk sb (FK bb (s.try_ now)) true::rest):=by
 have hW:=FH hp.1 hp.2.1 s.tr.toNat;refine GO Tryz.func58 rfl rfl h ?_;repeat (first |refine Ai ?_ |refine Ab ?_ |refine Ag ?_ |refine Ae Aa rfl ?_ |refine Ap Aa 0 rfl rfl rfl ?_)
 refine Ak rfl (fun h1=>?_) (fun h1=>?_)
 ·repeat (first |refine Ai ?_ |refine Ab ?_ |refine Ag ?_ |refine AI ?_ |refine AB ?_ |refine Ae Aa rfl ?_)
  exact AY rfl rfl (fun w' hw=>⟨by rw [decide_eq_false (by omega)],by rw [Bn.try_,if_neg (by omega)];exact hw⟩)
 ·repeat (first |refine Ai ?_ |refine Ad ?_ |refine Ao ?_)
  refine Cf (by kernel_rfl) 16 rfl (by kernel_rfl) ?_;repeat (first |refine Ah Aa rfl ?_ |refine AD Aa 0 rfl rfl rfl ?_)
  refine Bc (v:=.int .i64 (W s.f s.m s.tr.toNat)) rfl Tryz.call80 (fun w' vs hw' h=>by
   obtain ⟨u1,_,rfl,rfl,u2,_,rfl,rfl,u3,_,rfl,rfl,rfl⟩:=h
   exact Lw s.f s.m s.tr w' hp.1 hp.2.2 hp.2.1 (by omega)) ?_
  have hm:=hp.2.2;repeat (first |refine AP rfl ?_ |refine BD Aa rfl (by omega) ?_ |refine Ai ?_ |refine Ab ?_ |refine Ag ?_ |refine AB ?_ |refine AE Aa rfl (by omega) ?_ |refine Ae Aa rfl ?_ |refine Ap Aa 0 rfl rfl rfl ?_ |refine Aw Aa 0 rfl rfl rfl rfl rfl rfl ?_)
  exact AY rfl rfl (fun w' hw=>⟨by rw [decide_eq_true (by omega)],by rw [Bn.try_,if_pos (by omega)];exact hw⟩)
def UE (s:Bn):Int:=if (s.op=false \/ 0 < s.tr)/\(s.gs= [] \/ s.tm < Li s.gs) then s.tm else Li s.gs
def UF (s:Bn):Bool:=if (s.op=false \/ 0 < s.tr)/\(s.gs= [] \/ s.tm < Li s.gs) then true else decide (0 < (s.gs.length:Int))
theorem WS {s:Bn} (h:(s.op=false \/ 0 < s.tr)/\(s.gs= [] \/ s.tm < Li s.gs)):UE s=s.tm/\UF s=true:=by
 unfold UE UF;rw [if_pos h,if_pos h];exact ⟨rfl,rfl⟩
theorem U8 {s:Bn} (h:¬ ((s.op=false \/ 0 < s.tr)/\(s.gs= [] \/ s.tm < Li s.gs))):UE s=Li s.gs/\UF s=decide (0 < (s.gs.length:Int)):=by
 unfold UE UF;rw [if_neg h,if_neg h];exact ⟨rfl,rfl⟩
set_option maxHeartbeats 2000000 in
theorem Sk (h:(G0 sb s).at_ w F v):Calls Tryz.prog 40 #[AG sb] w fun e w'=>e= .returned (.tuple #[.int .i64 (UE s),.bool (UF s)])/\Below w.heap.size w w':=by
 have hbok:=(WN h).2.1;obtain ⟨bb,Fb,hok,hst,_⟩:=E0 h false;refine BL Tryz.func40 rfl rfl hst ?_;repeat (first |refine Ai ?_ |refine Ab ?_ |refine Ag ?_ |refine Ae Aa rfl ?_)
 refine BF (Cs Aa rfl rfl rfl rfl rfl) ?_;repeat (first |refine Ag ?_)
 refine AF rfl ?_;repeat (first |refine Ai ?_ |refine Ab ?_ |refine Ad ?_ |refine Ao ?_ |refine Ae Aa rfl ?_ |refine Ap Aa 0 rfl rfl rfl ?_)
 refine Bo (v:=.tuple #[.int .i64 (Li s.gs),.bool (decide (0 < (s.gs.length:Int)))]) rfl Tryz.call70 (fun w1 h1=>by
  rw [<-QV hbok]
  exact Uh (h1.own _ (Af (i:=1) rfl)).1) ?_
 repeat (first |refine Ai ?_ |refine Ab ?_ |refine Ag ?_ |refine Ae Aa rfl ?_ |refine Ap Aa 0 rfl rfl rfl ?_)
 have hlen0:s.gs= [] ↔ ¬ 0 < (s.gs.length:Int):=by
  rw [<-List.length_eq_zero_iff];omega
 refine FI (ι:=Bool) (fun b=>b=true ↔ (s.op=false \/ 0 < s.tr)) (fun b=>[(0,AG sb),(4,.int .i64 (Li s.gs)),(5,.bool (decide (0 < (s.gs.length:Int)))),(27,.bool b)]) (fun _=>UY sb bb s Fb false) ?_ ?_
 ·cases hop:s.op with
  |false=>
   refine Cb 21 (v':=.bool true) rfl rfl ?_;repeat (first |refine Ag ?_ |refine Ae Aa rfl ?_ |refine Bh rfl rfl rfl ?_)
   exact ⟨true,⟨fun _=>.inl rfl,fun _=>rfl⟩,(by repeat (first |exact As.nil |refine As.cons rfl ?_)),fun w hw=>hw⟩
  |true=>
   refine Cb 21 (v':=.bool false) rfl rfl ?_;repeat (first |refine Ag ?_ |refine Ae Aa rfl ?_ |refine Ap Aa 0 rfl rfl rfl ?_)
   exact ⟨decide (0 < s.tr),⟨fun h=>.inr (of_decide_eq_true h),fun h=>decide_eq_true (h.resolve_left (by decide))⟩,(by repeat (first |exact As.nil |refine As.cons rfl ?_)),fun w hw=>hw⟩
 intro b hb
 cases b with
 |false=>
  obtain ⟨e1,e2⟩:=U8 (s:=s) fun h=>by have:=hb.2 h.1;cases this
  refine AF rfl ?_;repeat (first |refine Ai ?_ |refine Ab ?_ |refine Ag ?_ |refine Ad ?_ |refine Ao ?_ |refine AB ?_ |refine Ae Aa rfl ?_)
  exact Dw rfl rfl rfl (fun w' hw=>⟨by rw [e1,e2],hw.below (by repeat (first |exact An |refine Cg ?_ |refine BE ?_))⟩)
 |true=>
  have hA:=hb.1 rfl;refine AN rfl ?_;repeat (first |refine Ai ?_ |refine Ab ?_ |refine Ae Aa rfl ?_)
  refine FI (ι:=Bool) (fun b=>b=true ↔ (s.gs= [] \/ s.tm < Li s.gs)) (fun b=>[(0,AG sb),(4,.int .i64 (Li s.gs)),(5,.bool (decide (0 < (s.gs.length:Int)))),(37,.bool b)]) (fun _=>UY sb bb s Fb false) ?_ ?_
  ·by_cases h0:0 < (s.gs.length:Int)
   ·refine Cb 30 (v':=.bool false) rfl (by rw [decide_eq_true h0];rfl) ?_;repeat (first |refine Ag ?_ |refine Ae Aa rfl ?_ |refine Ap Aa 0 rfl rfl rfl ?_)
    exact ⟨decide (s.tm < Li s.gs),⟨fun h=>.inr (of_decide_eq_true h),fun h=>decide_eq_true (h.resolve_left fun h=>hlen0.1 h h0)⟩,(by repeat (first |exact As.nil |refine As.cons rfl ?_)),fun w hw=>hw⟩
   ·refine Cb 30 (v':=.bool true) rfl (by rw [decide_eq_false h0];rfl) ?_;repeat (first |refine Ag ?_ |refine Ae Aa rfl ?_ |refine Bh rfl rfl rfl ?_)
    exact ⟨true,⟨fun _=>.inl (hlen0.2 h0),fun _=>rfl⟩,(by repeat (first |exact As.nil |refine As.cons rfl ?_)),fun w hw=>hw⟩
  intro b2 hb2
  cases b2 with
  |true=>
   obtain ⟨e1,e2⟩:=WS ⟨hA,hb2.1 rfl⟩;refine AN rfl ?_;repeat (first |refine Ai ?_ |refine Ab ?_ |refine Ag ?_ |refine AI ?_ |refine AB ?_ |refine Ae Aa rfl ?_ |refine Ap Aa 0 rfl rfl rfl ?_)
   exact Dw rfl rfl rfl (fun w' hw=>⟨by rw [e1,e2],hw.below (by repeat (first |exact An |refine Cg ?_ |refine BE ?_))⟩)
  |false=>
   obtain ⟨e1,e2⟩:=U8 (s:=s) fun h=>by have:=hb2.2 h.2;cases this
   refine AF rfl ?_;repeat (first |refine Ai ?_ |refine Ab ?_ |refine Ag ?_ |refine Ad ?_ |refine Ao ?_ |refine AB ?_ |refine Ae Aa rfl ?_)
   exact Dw rfl rfl rfl (fun w' hw=>⟨by rw [e1,e2],hw.below (by repeat (first |exact An |refine Cg ?_ |refine BE ?_))⟩)
set_option maxHeartbeats 4000000 in
theorem Sv (h:(I5 sb s).at_ w F v):Calls Tryz.prog 41 #[AG sb] w fun e w'=>e= .returned (.tuple #[.int .i64 (UE s),.bool (UF s)])/\Below w.heap.size w w':=by
 obtain ⟨bb,Fb,hok,hst,_⟩:=Jf h false;obtain ⟨hbok,hne,a,c,hR⟩:=Mo (hst.own _ (Af (i:=1) rfl)).1;have hb0:w.heap[sb]? =some (FK bb s):=hst.own _ (Af (i:=0) rfl);have hcnt:=hbok.cnt
 have hlen0:s.gs= [] ↔ ¬ 0 < (s.gs.length:Int):=by
  rw [<-List.length_eq_zero_iff];omega
 have hcell:∀ {w':World} (hb:Below w.heap.size w w') {j:Nat} {u:Value},[Value.int .i64 s.f,.int .i64 s.m,.int .i64 s.p,.int .i64 s.q,.int .u64 s.ep,.bool s.op,.int .u64 s.inc,.int .u64 s.lim,AG bb,.int .i64 s.tm,.int .i64 s.tr][j]? =some u->w'.cell? ⟨sb,0 + j,none⟩=some u:=fun {w'} hb {j u} hu=>IX ((hb.block sb (AV hb0)).trans hb0) hu;refine BL Tryz.func41 rfl rfl (Hp.refl w) ?_;repeat (first |refine Ai ?_ |refine Ab ?_ |refine Ag ?_ |refine Ae Aa rfl ?_)
 refine Bb Aa (v:=AG bb) rfl rfl (fun w' hw=>hcell (hw.below (by repeat (first |exact An))) (j:=8) rfl) ?_;repeat (first |refine Ae Aa rfl ?_)
 refine Bb Aa (v:=.slice a s.gs.length c) rfl rfl (fun w' hw=>Qg.cell hR (hw.below (by repeat (first |exact An))) (j:=2) rfl) ?_;repeat (first |refine Ag ?_ |refine Ae Aa rfl ?_)
 refine BP (ι:=Unit) (fun _=>True) (fun _=>[(0,AG sb),(4,.int .i64 (Li s.gs)),(5,.bool (decide (0 < (s.gs.length:Int))))]) (fun _=>[]) ?_ ?_
 ·refine Ar ?_
  refine AM (ι:=Nat × Int) (fun q=>[(0,AG sb),(4,.int .i64 q.2),(5,.bool (decide (0 < (q.1:Int)))),(14,.slice a s.gs.length c),(15,.int .i64 (s.gs.length:Int)),(16,.int .i64 (q.1:Int))]) (fun _=>[])
   (fun q=>q.1 <= s.gs.length/\(q.1=0->q.2=0)/\(q.1 ≠ 0->(∃ g ∈ s.gs.take q.1,g.tm=q.2)/\∀ g ∈ s.gs.take q.1,q.2 <= g.tm)) (fun q=>s.gs.length - q.1) (0,0) ⟨Nat.zero_le _,fun _=>rfl,fun h=>absurd rfl h⟩ (by repeat (first |exact As.nil |refine As.cons rfl ?_)) (fun w' hw=>hw) ?_
  rintro ⟨i,t⟩ ⟨hi,ht0,ht1⟩;dsimp only at hi ht0 ht1 ⊢;repeat (first |refine Ai ?_ |refine Ab ?_ |refine Ag ?_ |refine Ae Aa rfl ?_)
  refine Ak rfl (fun hlt=>?_) (fun hge=>?_);rotate_left
  ·have hie:i=s.gs.length:=by omega
   subst hie;rw [List.take_length] at ht1;obtain rfl:=Py hbok (fun e=>ht0 (by rw [e];rfl)) (fun e=>ht1 (fun h=>e (List.length_eq_zero_iff.1 h)));repeat (first |refine Ad ?_ |refine AC ?_ |refine Am ?_ |refine AH ?_)
   exact ⟨(),trivial,by repeat (first |exact As.nil |refine As.cons rfl ?_),fun w' hw=>hw⟩
  obtain ⟨g,hg⟩:∃ g,s.gs[i]? =some g:=⟨_,List.getElem?_eq_getElem (by omega)⟩
  have htk:s.gs.take (i + 1)=s.gs.take i ++ [g]:=by rw [List.take_add_one,hg];rfl
  obtain ⟨ab,off,xa,xc,rfl,hz,hce⟩:=Ny hR.2 hg;repeat (first |refine Ai ?_ |refine Ab ?_ |refine Ar ?_ |refine Ad ?_ |refine Ao ?_)
  refine BF (Bu (sz:=4) Aa rfl rfl rfl rfl rfl rfl rfl (j:=i) rfl (by omega)) ?_
  refine BX Aa (vs:=[.int .u64 g.id,.slice xa g.L.length xc,.int .i64 g.tm,.int .i64 g.tries]) rfl rfl rfl (fun w' hw jj u hu=>by
   rw [Addr.add_lit]
   exact hce w' (hw.below (by repeat (first |exact An))) jj u hu) ?_
  refine A5 Aa rfl (fun b10 hb10=>?_);repeat (first |refine Ai ?_ |refine Ab ?_ |refine Ag ?_ |refine Ae Aa rfl ?_ |refine Aw Aa 0 rfl rfl rfl rfl rfl rfl ?_)
  have hlow:∀ t',t' <= g.tm->(∀ x ∈ s.gs.take i,t' <= x.tm)->∀ x ∈ s.gs.take (i + 1),t' <= x.tm:=fun t' h1 h2 x hx=>by
   rw [htk,List.mem_append,List.mem_singleton] at hx
   rcases hx with hx |rfl
   ·exact h2 x hx
   ·exact h1
  have hin:∀ x,x ∈ s.gs.take i \/ x=g->x ∈ s.gs.take (i + 1):=fun x hx=>by
   rw [htk,List.mem_append,List.mem_singleton];exact hx
  have hd1:decide (0 < ((i + 1:Nat):Int))=true:=decide_eq_true (by omega);by_cases h0:i=0
  ·refine Cb 22 (v':=.bool true) rfl (by rw [decide_eq_false (by omega)];rfl) ?_;repeat (first |refine Ag ?_ |refine Ae Aa rfl ?_ |refine Bh rfl rfl rfl ?_)
   refine AN rfl ?_;repeat (first |refine Ab ?_ |refine Ag ?_ |refine Ad ?_ |refine Al ?_ |refine AE Aa rfl (by omega) ?_ |refine Ae Aa rfl ?_ |refine Aq ?_ |refine Ap Aa 0 rfl rfl rfl ?_)
   exact ⟨(i + 1,g.tm),⟨by show i + 1 <= s.gs.length;omega,fun h=>absurd h (Nat.succ_ne_zero _),fun _=>⟨⟨g,hin g (.inr rfl),rfl⟩,hlow g.tm (Int.le_refl _) (by subst h0;simp)⟩⟩,by dsimp only;rw [hd1];repeat (first |exact As.nil |refine As.cons rfl ?_),fun w' hw=>hw.less (by repeat (first |exact Au.nil |refine Au.dropB (by first |assumption |omega) ?_)),by show s.gs.length - (i + 1) < s.gs.length - i;omega⟩
  ·obtain ⟨⟨y,hy,hyt⟩,hlo⟩:=ht1 h0;have hd2:decide (0 < (i:Int))=true:=decide_eq_true (by omega);rw [hd2];refine Cb 22 (v':=.bool false) rfl rfl ?_;repeat (first |refine Ag ?_ |refine Ae Aa rfl ?_ |refine Ap Aa 0 rfl rfl rfl ?_)
   refine Ak rfl (fun hl=>?_) (fun hl=>?_)
   ·repeat (first |refine Ab ?_ |refine Ag ?_ |refine Ad ?_ |refine Al ?_ |refine AE Aa rfl (by omega) ?_ |refine Ae Aa rfl ?_ |refine Aq ?_ |refine Ap Aa 0 rfl rfl rfl ?_)
    exact ⟨(i + 1,g.tm),⟨by show i + 1 <= s.gs.length;omega,fun h=>absurd h (Nat.succ_ne_zero _),fun _=>⟨⟨g,hin g (.inr rfl),rfl⟩,hlow g.tm (Int.le_refl _) fun x hx=>by have:=hlo x hx;omega⟩⟩,by dsimp only;rw [hd1];repeat (first |exact As.nil |refine As.cons rfl ?_),fun w' hw=>hw.less (by repeat (first |exact Au.nil |refine Au.dropB (by first |assumption |omega) ?_)),by show s.gs.length - (i + 1) < s.gs.length - i;omega⟩
   ·repeat (first |refine Ab ?_ |refine Ag ?_ |refine Ad ?_ |refine Al ?_ |refine Ao ?_ |refine AE Aa rfl (by omega) ?_ |refine Ae Aa rfl ?_)
    exact ⟨(i + 1,t),⟨by show i + 1 <= s.gs.length;omega,fun h=>absurd h (Nat.succ_ne_zero _),fun _=>⟨⟨y,hin y (.inl hy),hyt⟩,hlow t (by omega) hlo⟩⟩,by dsimp only;rw [hd1];repeat (first |exact As.nil |refine As.cons rfl ?_),fun w' hw=>hw.less (by repeat (first |exact Au.nil |refine Au.dropB (by first |assumption |omega) ?_)),by show s.gs.length - (i + 1) < s.gs.length - i;omega⟩
 intro _ _;repeat (first |refine Ai ?_ |refine Ab ?_ |refine Ae Aa rfl ?_)
 refine Bb Aa (v:=.bool s.op) rfl rfl (fun w' hw=>hcell (hw.below (by repeat (first |exact An))) (j:=5) rfl) ?_;repeat (first |refine Ae Aa rfl ?_)
 refine FI (ι:=Bool) (fun b=>b=true ↔ ((s.op=false \/ 0 < s.tr)/\(s.gs= [] \/ s.tm < Li s.gs))) (fun b=>[(0,AG sb),(4,.int .i64 (Li s.gs)),(5,.bool (decide (0 < (s.gs.length:Int)))),(54,.bool b)]) (fun _=>[]) ?_ ?_
 ·cases hop:s.op with
  |false=>
   ·refine Cb 36 (v':=.bool true) rfl rfl ?_;repeat (first |refine Ae Aa rfl ?_ |refine Bh rfl rfl rfl ?_)
    by_cases h0:0 < (s.gs.length:Int)
    ·refine Cb 46 (v':=.bool false) rfl (by rw [decide_eq_true h0];rfl) ?_;repeat (first |refine Ae Aa rfl ?_)
     refine Bb Aa (v:=.int .i64 s.tm) rfl rfl (fun w' hw=>hcell (hw.below (by repeat (first |exact An))) (j:=9) rfl) ?_;repeat (first |refine Ag ?_ |refine Ae Aa rfl ?_)
     exact ⟨decide (s.tm < Li s.gs),⟨fun h=>⟨(.inl rfl),.inr (of_decide_eq_true h)⟩,fun h=>decide_eq_true (h.2.resolve_left fun h=>hlen0.1 h h0)⟩,(by repeat (first |exact As.nil |refine As.cons rfl ?_)),fun w hw=>hw⟩
    ·refine Cb 46 (v':=.bool true) rfl (by rw [decide_eq_false h0];rfl) ?_;repeat (first |refine Ag ?_ |refine Ae Aa rfl ?_ |refine Bh rfl rfl rfl ?_)
     exact ⟨true,⟨fun _=>⟨(.inl rfl),.inl (hlen0.2 h0)⟩,fun _=>rfl⟩,(by repeat (first |exact As.nil |refine As.cons rfl ?_)),fun w hw=>hw⟩
  |true=>
   refine Cb 36 (v':=.bool false) rfl rfl ?_;repeat (first |refine Ae Aa rfl ?_)
   refine Bb Aa (v:=.int .i64 s.tr) rfl rfl (fun w' hw=>hcell (hw.below (by repeat (first |exact An))) (j:=10) rfl) ?_;repeat (first |refine Ae Aa rfl ?_)
   by_cases h9:0 < s.tr
   ·refine Cb 43 (v':=.bool true) rfl (congrArg Value.bool (decide_eq_true h9)) ?_;repeat (first |refine Ae Aa rfl ?_)
    by_cases h0:0 < (s.gs.length:Int)
    ·refine Cb 46 (v':=.bool false) rfl (by rw [decide_eq_true h0];rfl) ?_;repeat (first |refine Ae Aa rfl ?_)
     refine Bb Aa (v:=.int .i64 s.tm) rfl rfl (fun w' hw=>hcell (hw.below (by repeat (first |exact An))) (j:=9) rfl) ?_;repeat (first |refine Ag ?_ |refine Ae Aa rfl ?_)
     exact ⟨decide (s.tm < Li s.gs),⟨fun h=>⟨(.inr h9),.inr (of_decide_eq_true h)⟩,fun h=>decide_eq_true (h.2.resolve_left fun h=>hlen0.1 h h0)⟩,(by repeat (first |exact As.nil |refine As.cons rfl ?_)),fun w hw=>hw⟩
    ·refine Cb 46 (v':=.bool true) rfl (by rw [decide_eq_false h0];rfl) ?_;repeat (first |refine Ag ?_ |refine Ae Aa rfl ?_ |refine Bh rfl rfl rfl ?_)
     exact ⟨true,⟨fun _=>⟨(.inr h9),.inl (hlen0.2 h0)⟩,fun _=>rfl⟩,(by repeat (first |exact As.nil |refine As.cons rfl ?_)),fun w hw=>hw⟩
   ·refine Cb 43 (v':=.bool false) rfl (congrArg Value.bool (decide_eq_false h9)) ?_;repeat (first |refine Ag ?_ |refine Ae Aa rfl ?_ |refine Bh rfl rfl rfl ?_)
    exact ⟨false,⟨(fun h=>by cases h),fun h=>(h.1.elim (by decide) h9).elim⟩,(by repeat (first |exact As.nil |refine As.cons rfl ?_)),fun w hw=>hw⟩
 intro b hb
 cases b with
 |false=>
  obtain ⟨e1,e2⟩:=U8 (s:=s) fun h=>by have:=hb.2 h;cases this
  refine AF rfl ?_;repeat (first |refine Ai ?_ |refine Ab ?_ |refine Ag ?_ |refine Ad ?_ |refine Ao ?_ |refine AB ?_ |refine Ae Aa rfl ?_)
  exact Dw rfl rfl rfl (fun w' hw=>⟨by rw [e1,e2],hw.below (by repeat (first |exact An))⟩)
 |true=>
  obtain ⟨e1,e2⟩:=WS (hb.1 rfl);refine AN rfl ?_;repeat (first |refine Ab ?_ |refine Ae Aa rfl ?_)
  refine Bb Aa (v:=.int .i64 s.tm) rfl rfl (fun w' hw=>hcell (hw.below (by repeat (first |exact An))) (j:=9) rfl) ?_;repeat (first |refine Ai ?_ |refine Ab ?_ |refine Ag ?_ |refine AB ?_ |refine Ae Aa rfl ?_)
  exact Dw rfl rfl rfl (fun w' hw=>⟨by rw [e1,e2],hw.below (by repeat (first |exact An))⟩)
end
end Go.Proofs.YtidhpofcofknhaaGreat
