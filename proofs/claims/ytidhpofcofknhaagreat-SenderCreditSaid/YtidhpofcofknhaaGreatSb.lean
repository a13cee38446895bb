/-
  A sender: what it does to its own block: calm, tried, known, begin. Conditions: each theorem's own. A sender's Receive. Conditions: each theorem's own. A sender's fresh: what of the queued goes for the first time. Conditions: each theorem's own. A sender's Tick. Conditions: each theorem's own. A sender of one's own in a walk: New, Tick, Receive as steps; the document's example; a Conf. Conditions: each theorem's own. A sender, plain: what a frame and a tick make of some states. Conditions: each theorem's own.
  Conditions: each theorem's own.
-/
import Derived.Test.YtidhpofcofknhaaGreatRz
namespace Go.Proofs.YtidhpofcofknhaaGreat
open Go Go.RowKit
set_option linter.unusedVariables false
def Bo.try_ (s:Bo) (now:Int):Bo:=if s.tm <= now then { s with tm:=now + W s.f s.m s.tr.toNat,tr:=s.tr + 1} else s
def Bo.calm_ (s:Bo):Bo:={ s with tm:=0,tr:=0}
def Bo.begin_ (s:Bo) (op:Bool) (inc lim:Int):Bo:={ s with op:=op,inc:=inc,lim:=lim,tm:=0,tr:=0,gs:=[]}
structure Fm where
 k:Int
 ag:Int
 ep:Int
 inc:Int
 base:Int
 cum:Int
 lim:Int
 ra:Option Addr
 rn:Nat
 rc:Nat
 xa:Option Addr
 xn:Nat
 xc:Nat
abbrev Fm.cs (x:Fm):List Value:=[.int .u8 x.k,.int .i64 x.ag,.int .u64 x.ep,.int .u64 x.inc,.int .u64 x.base,.int .u64 x.cum,.int .u64 x.lim,.slice x.ra x.rn x.rc,.slice x.xa x.xn x.xc]
abbrev Ch (s:Bo) (x:Fm):Prop:=(x.k=2 \/ (x.k=4/\s.op=true))/\x.ep=s.ep/\s.inc <= x.inc
section
variable {sb bb:Nat} {s:Bo} {w w0:World} {rest:OL}
theorem OI (h:Hp w0 w (.blk sb (Gd bb s) true::rest)):Calls Tryz.prog 54 #[AF sb] w fun e w'=>e= .returned (.tuple #[])/\Hp w0 w' (.blk sb (Gd bb s.calm_) true::rest):=by
 refine E6 Tryz.func54 rfl rfl h ?_;repeat (first |refine Ag ?_ |refine Ae Aa rfl ?_ |refine Ap ?_ |refine Ax Aa 0 rfl rfl rfl rfl rfl rfl ?_)
 exact CM rfl (fun w' hw=>⟨rfl,hw⟩)
set_option maxHeartbeats 1000000 in
theorem Mr (h:Hp w0 w (.blk sb (Gd bb s) true::rest)) {now:Int} (hp:PR s.f s.m) (hnow:0 <= now/\now <= 1152921504606846976) (htr:0 <= s.tr/\s.tr < 1099511627776):Calls Tryz.prog 49 #[AF sb,.int .i64 now] w fun e w'=>e= .returned (.bool (decide (s.tm <= now)))/\Hp w0 w' (.blk sb (Gd bb (s.try_ now)) true::rest):=by
 have hW:=Hb hp.1 hp.2.1 s.tr.toNat;refine GP Tryz.func49 rfl rfl h ?_;repeat (first |refine Ai ?_ |refine Ab ?_ |refine Ag ?_ |refine Ae Aa rfl ?_ |refine An Aa 0 rfl rfl rfl ?_)
 refine Ak rfl (fun h1=>?_) (fun h1=>?_)
 ·repeat (first |refine Ai ?_ |refine Ab ?_ |refine Ag ?_ |refine AI ?_ |refine AC ?_ |refine Ae Aa rfl ?_)
  exact AZ rfl rfl (fun w' hw=>⟨by rw [decide_eq_false (by omega)],by rw [Bo.try_,if_neg (by omega)];exact hw⟩)
 ·repeat (first |refine Ai ?_ |refine Ad ?_ |refine Ao ?_)
  refine Cd (by kernel_rfl) 15 rfl (by kernel_rfl) ?_;repeat (first |refine Ah Aa rfl ?_ |refine AE Aa 0 rfl rfl rfl ?_)
  refine Bi (v:=.int .i64 (W s.f s.m s.tr.toNat)) rfl Tryz.call74 (fun w' vs hw' h=>by
   obtain ⟨u1,_,rfl,rfl,u2,_,rfl,rfl,rfl⟩:=h
   exact Ng s.f s.m s.tr w' hp.1 hp.2.2 hp.2.1) ?_
  have hm:=hp.2.2;repeat (first |refine AN rfl ?_ |refine BD Aa rfl (by omega) ?_ |refine Ah Aa rfl ?_ |refine Ai ?_ |refine Ab ?_ |refine Ag ?_ |refine AC ?_ |refine AD Aa rfl (by omega) ?_ |refine Ae Aa rfl ?_ |refine An Aa 0 rfl rfl rfl ?_ |refine Ax Aa 0 rfl rfl rfl rfl rfl rfl ?_)
  exact AZ rfl rfl (fun w' hw=>⟨by rw [decide_eq_true (by omega)],by rw [Bo.try_,if_pos (by omega)];exact hw⟩)
theorem QQ (h:w.heap[sb]? =some (Gd bb s)) (x:Fm):Calls Tryz.prog 34 #[AF sb,.agg ⟨x.cs⟩] w fun e w'=>e= .returned (.bool (decide (Ch s x)))/\Below w.heap.size w w':=by
 refine BO Tryz.func34 rfl rfl (Hp.start false h) ?_;repeat (first |refine Ai ?_ |refine Ab ?_)
 refine AY Aa rfl (fun b3 hb3=>?_);repeat (first |refine Ai ?_ |refine Ab ?_ |refine Ag ?_ |refine Ae Aa rfl ?_ |refine An Aa 0 rfl rfl rfl ?_)
 have fin:∀ b:Bool,(b=true ↔ (x.k=2 \/ (x.k=4/\s.op=true)))->∀ c:Bool,(c=true ↔ (b=true/\x.ep=s.ep/\s.inc <= x.inc))->c=decide (Ch s x):=fun b hb c hc=>by
  cases c with
  |true=>exact (decide_eq_true (by have:=hc.1 rfl;exact ⟨hb.1 this.1,this.2⟩)).symm
  |false=>exact (decide_eq_false fun h=>by have:=hc.2 ⟨hb.2 h.1,h.2⟩;cases this).symm
 refine FK (ι:=Bool) (fun b=>b=true ↔ (x.k=2 \/ (x.k=4/\s.op=true))) (fun b=>[(0,AF sb),(3,.pointer (some ⟨b3,0,none⟩)),(4,.bool false),(5,.bool b)]) (fun b=>[.blk b3 (.cells ⟨x.cs⟩ 36 (0,0)) true,.blk sb (Gd bb s) false]) ?_ ?_
 ·refine BI rfl rfl (fun h1=>?_) (fun h1=>?_)
  ·repeat (first |refine Ag ?_ |refine Ae Aa rfl ?_ |refine Bn rfl rfl rfl ?_)
   exact ⟨true,⟨fun _=>.inl h1,fun _=>rfl⟩,(by repeat (first |exact As.nil |refine As.cons rfl ?_)),fun w hw=>hw⟩
  ·repeat (first |refine Ae Aa rfl ?_ |refine An Aa 0 rfl rfl rfl ?_)
   refine BI rfl rfl (fun h2=>?_) (fun h2=>?_)
   ·repeat (first |refine Ag ?_ |refine Ae Aa rfl ?_ |refine An Aa 1 rfl rfl rfl ?_)
    exact ⟨s.op,⟨fun h=>.inr ⟨h2,h⟩,fun h=>(h.resolve_left h1).2⟩,(by repeat (first |exact As.nil |refine As.cons rfl ?_)),fun w hw=>hw⟩
   ·repeat (first |refine Ag ?_ |refine Ae Aa rfl ?_ |refine Bn rfl rfl rfl ?_)
    exact ⟨false,⟨(fun h=>by cases h),fun h=>(h2 (h.resolve_left h1).1).elim⟩,(by repeat (first |exact As.nil |refine As.cons rfl ?_)),fun w hw=>hw⟩
 ·intro b hb;repeat (first |refine A5 (by kernel_rfl) (by kernel_rfl) ?_ |refine Ah Aa rfl ?_ |refine Ai ?_)
  refine Sc rfl rfl (fun h2=>?_) (fun h2=>?_)
  ·subst h2;repeat (first |refine Ah Aa rfl ?_ |refine AE Aa 0 rfl rfl rfl ?_ |refine AE Aa 1 rfl rfl rfl ?_)
   refine Fh rfl rfl (fun h3=>?_) (fun h3=>?_)
   ·repeat (first |refine AN rfl ?_ |refine Ah Aa rfl ?_ |refine AE Aa 0 rfl rfl rfl ?_ |refine AE Aa 1 rfl rfl rfl ?_ |refine AC ?_)
    exact AZ rfl rfl (fun w' hw=>⟨by rw [fin true hb _ ⟨fun h=>⟨rfl,h3,of_decide_eq_true h⟩,fun h=>decide_eq_true h.2.2⟩],hw.below (by repeat (first |exact Ar |refine CQ ?_ |refine AA (by first |assumption |omega) ?_))⟩)
   ·repeat (first |refine AN rfl ?_ |refine Ah Aa rfl ?_ |refine BP rfl rfl rfl ?_ |refine AC ?_)
    exact AZ rfl rfl (fun w' hw=>⟨by rw [fin true hb false ⟨(fun h=>by cases h),fun h=>(h3 h.2.1).elim⟩],hw.below (by repeat (first |exact Ar |refine CQ ?_ |refine AA (by first |assumption |omega) ?_))⟩)
  ·subst h2;repeat (first |refine AN rfl ?_ |refine Ah Aa rfl ?_ |refine BP rfl rfl rfl ?_ |refine AC ?_)
   exact AZ rfl rfl (fun w' hw=>⟨by rw [fin false hb false ⟨(fun h=>by cases h),fun h=>by cases h.1⟩],hw.below (by repeat (first |exact Ar |refine CQ ?_ |refine AA (by first |assumption |omega) ?_))⟩)
theorem MW {Fb:Nat->Prop} (h:Hp w0 w (.blk sb (Gd bb s) true::.rep (fun w=>(DJ bb s.f s.m s.gs s.last).at_ w Fb (.bool true)) Fb true::rest)) (op:Bool) (inc lim:Int):Calls Tryz.prog 37 #[AF sb,.bool op,.int .u64 inc,.int .u64 lim] w fun e w'=>e= .returned (.tuple #[])/\
 ∃ F':Nat->Prop,(∀ k,Fb k->F' k)/\(∀ k,F' k->Fb k \/ w0.heap.size <= k)/\Hp w0 w' (.blk sb (Gd bb (s.begin_ op inc lim)) true::.rep (fun w=>(DJ bb s.f s.m [] s.last).at_ w F' (.bool true)) F' true::rest):=by
 refine GO Tryz.func37 rfl rfl h ?_;repeat (first |refine Ai ?_ |refine Ab ?_ |refine Ae Aa rfl ?_ |refine An Aa 0 rfl rfl rfl ?_)
 refine CA 1 rfl Tryz.call69 rfl (fun w1 g1=>(Rt (g1.own _ (Af (i:=1) rfl)).1 (g1.own _ (Af (i:=1) rfl)).2.2).mono fun e w' ⟨he,F',k1,k2,k3⟩=>⟨_,_,F',he,k3,k1,k2,_,rfl,?_⟩);have hsz:=g1.size;repeat (first |refine Ai ?_ |refine Ab ?_ |refine Ag ?_ |refine Ae Aa rfl ?_ |refine Ap ?_ |refine Ax Aa 0 rfl rfl rfl rfl rfl rfl ?_)
 refine A7 rfl Tryz.call54 (fun w2 g2=>(OI (s:={ s with op:=op,inc:=inc,lim:=lim,gs:=[]}) g2).mono fun e w' ⟨he,h9⟩=>⟨_,_,he,h9,?_⟩);repeat (first |refine Ag ?_)
 exact CM rfl (fun w' hw=>⟨rfl,F',k1,fun k hk=>(k2 k hk).imp id fun h=>by omega,hw⟩)
end
instance XZ (l:List BS) (x:Int):Decidable (Cs l x):=by unfold Cs;infer_instance
def EC (cum:Int) (rl:List BS) (y:Int):Prop:=(0 <= y/\y <= cum) \/ Cs rl y
instance X4 (cum:Int) (rl:List BS) (y:Int):Decidable (EC cum rl y):=by unfold EC;infer_instance
def Bo.ack_ (s:Bo) (cum:Int) (rl:List BS):Bo:={ s with gs:=D1 s.gs (fun n=>decide (EC cum rl n))}
def Bo.rcv (s:Bo) (x:Fm) (rl:List BS):Bo:=
 if Ch s x then if x.k=2/\(s.inc < x.inc \/ s.op=false) then (s.ack_ x.cum rl).begin_ true x.inc x.lim else if s.inc < x.inc then (s.ack_ x.cum rl).begin_ false x.inc 0 else { s.ack_ x.cum rl with lim:=max s.lim x.lim}
 else s
section
variable {sb:Nat} {s:Bo} {w w0:World} {F:Nat->Prop} {ol:OL}
set_option maxHeartbeats 4000000 in
theorem Ni (h:(Io sb s).at_ w F (.bool true)) (hF:∀ k,F k->k < w.heap.size) (now:Int) (x:Fm) {rl:List BS} {A:Nat->Prop} (hx:Br Bg w A x.ra x.rn x.rc rl) (hAF:∀ k,A k->¬ F k) (hn:x.rn <= 800000) (hcum:AS .u64 x.cum) (hinc:AS .u64 x.inc) (hlim:AS .u64 x.lim):
 Calls Tryz.prog 17 #[AF sb,.int .i64 now,.agg ⟨x.cs⟩] w fun e w'=>∃ (v:Value) (Fv F':Nat->Prop),e= .returned (.tuple #[v,.bool (decide (Ch s x))])/\(∀ k,Fv k->w.heap.size <= k)/\(∀ k,F k->F' k)/\(∀ k,F' k->F k \/ w.heap.size <= k)/\
  Hp w w' [.rep (fun w=>(By (fun y=>Ch s x/\EC x.cum rl y) (x.rn + 1)).at_ w Fv v) Fv false,.rep (fun w=>(Io sb (s.rcv x rl)).at_ w F' (.bool true)) F' true]:=by
 obtain ⟨bb,Fb,hok,hst,hFsb,hFb⟩:=GG h true
 obtain ⟨Fq,hFq,_,hst2⟩:=hst.addV (p:=(Az Bg).vp rl) (A:=A) (v:=.slice x.ra x.rn x.rc) (((Az Bg).vp rl).mono hx.val fun k hk=>⟨.inl hk,fun e he hex hh=>hAF k hk (by
  rcases List.mem_cons.1 he with rfl |he
  ·exact Option.some.inj hh ▸ hFsb
  ·rw [List.mem_singleton] at he;subst he
   exact hFb k hh)⟩)
 have hst3:Hp w w [.blk sb (Gd bb s) true,.rep (fun w=>(DJ bb s.f s.m s.gs s.last).at_ w Fb (.bool true)) Fb true,.rep (fun w=>((Az Bg).vp rl).at_ w Fq (.slice x.ra x.rn x.rc)) Fq false]:=hst2.pm [1,2,0] rfl rfl rfl;have hrl:=hx.len;have hrok:=Dl hx;refine Ef Tryz.func17 rfl rfl hst3 ?_;repeat (first |refine Ai ?_ |refine Ab ?_)
 refine AY Aa rfl (fun b5 hb5=>?_);refine AY Aa rfl (fun b6 hb6=>?_);repeat (first |refine Ai ?_ |refine Ab ?_ |refine Ag ?_ |refine Ae Aa rfl ?_)
 refine BE (CS Aa rfl rfl rfl rfl rfl) ?_;repeat (first |refine Ae Aa rfl ?_ |refine An Aa 1 rfl rfl rfl ?_)
 refine Be rfl Tryz.call34 (fun w1 g1=>QQ (g1.own _ (Af (i:=2) rfl)) x) ?_;repeat (first |refine Ag ?_ |refine Ae Aa rfl ?_)
 refine El rfl (fun hk=>?_) (fun hk=>?_)
 ·repeat (first |refine Ai ?_ |refine Ab ?_ |refine Ag ?_ |refine AI ?_ |refine AC ?_ |refine Ae Aa rfl ?_ |refine Ax Aa 0 rfl rfl rfl rfl rfl rfl ?_ |refine BE (Bf Aa rfl rfl rfl rfl rfl rfl rfl) ?_)
  refine Ey rfl (CD Aa 0 rfl rfl rfl rfl) rfl (fun w' hw=>?_);have e1:s.rcv x rl=s:=if_neg hk;have h9:Hp w w' (WX sb bb s Fb true ++ []):=hw.less (by repeat (first |exact Au.nil |refine Au.keep ?_ |refine Au.dropR ?_ |refine Au.dropB (by first |assumption |omega) ?_));obtain ⟨F',j1,j2,j3⟩:=HI (F0:=F) h9 hok hF (fun e he=>by cases he) (.inl hFsb) (fun k hk=>.inl (hFb k hk));refine ⟨_,fun _=>False,F',by rw [decide_eq_false hk],(fun k h=>h.elim),j1,j2,?_⟩;rw [e1];exact j3.none (p:=By (fun y=>Ch s x/\EC x.cum rl y) (x.rn + 1)) (v:=Bz none 0 0) (fun w=>Ew (fun y=>⟨False.elim,fun h=>hk h.1⟩) (Nat.zero_le _) JG) false
 obtain ⟨k,ag,ep,inc,base,cum,lim,ra,rn,rc,xa,xn,xc⟩:=x;dsimp only at hx hn hcum hinc hlim hrl hk ⊢;repeat (first |refine Ai ?_ |refine Ab ?_ |refine Ad ?_ |refine Ao ?_ |refine Ae Aa rfl ?_ |refine An Aa 1 rfl rfl rfl ?_ |refine BE (Bf Aa rfl rfl rfl rfl rfl rfl rfl) ?_)
 refine Dp (By (fun y=>0 <= y/\y <= cum) 1) (fun _=>False) rfl Tryz.call35 (fun w1 g1=>(Qd 0 cum w1 (fun k hk=>ET g1 hk) JG (by decide) (show AS .u64 0 by decide) hcum).mono fun e w' ⟨r,e1,e2,e3⟩=>⟨r,e1,e2,Ew (fun y=>by simp) (Nat.le_refl _) e3⟩) (fun v F0 w1 hF0 hv=>?_);obtain ⟨a0,n0,c0,rfl⟩:=CT hv;skip;refine AY Aa rfl (fun b8 hb8=>?_);repeat (first |refine Ai ?_ |refine Ab ?_ |refine Aq ?_ |refine Ag ?_ |refine Ae Aa rfl ?_ |refine An Aa 3 rfl rfl rfl ?_ |refine Ax Aa 0 rfl rfl rfl rfl rfl rfl ?_)
 refine AM (ι:=Nat × Option Addr × Nat × Nat × (Nat->Prop)) (fun i=>[(0,AF sb),(1,.int .i64 now),(5,.pointer (some ⟨b5,0,none⟩)),(6,.pointer (some ⟨b6,0,none⟩)),(8,.pointer (some ⟨b8,0,none⟩)),(26,.slice ra rn rc),(27,.int .i64 (rn:Int)),(28,.int .i64 (i.1:Int))])
  (fun i=>[.rep (fun w=>(By (fun y=>(0 <= y/\y <= cum) \/ Cs (rl.take i.1) y) (1 + i.1)).at_ w i.2.2.2.2 (Bz i.2.1 i.2.2.1 i.2.2.2.1)) i.2.2.2.2 false,.blk b8 (.cells ⟨[.slice i.2.1 i.2.2.1 i.2.2.2.1]⟩ 52 (0,0)) true,.blk b6 (.cells ⟨[.slice none 0 0]⟩ 52 (0,0)) true,.blk b5 (.cells ⟨Fm.cs ⟨k,ag,ep,inc,base,cum,lim,ra,rn,rc,xa,xn,xc⟩⟩ 36 (0,0)) true,.blk sb (Gd bb s) true,.rep (fun w=>(DJ bb s.f s.m s.gs s.last).at_ w Fb (.bool true)) Fb true,.rep (fun w=>((Az Bg).vp rl).at_ w Fq (.slice ra rn rc)) Fq false])
  (fun i=>i.1 <= rn/\∀ k,i.2.2.2.2 k->w.heap.size <= k) (fun i=>rn - i.1) (0,a0,n0,c0,F0) ⟨Nat.zero_le _,fun k hk=>(hF0 k hk).resolve_left id⟩ (by repeat (first |exact As.nil |refine As.cons rfl ?_)) (fun w' hw=>?_) ?_
 ·have e:(fun y=>0 <= y/\y <= cum)=(fun y=>(0 <= y/\y <= cum) \/ Cs (rl.take 0) y):=by
   funext y;exact propext ⟨.inl,fun h=>h.resolve_right fun h=>CB y h⟩
  simp only [<-e];exact hw.pm [1,0,2,3,4,5,6] rfl rfl rfl
 rintro ⟨i,a1,n1,c1,F1⟩ ⟨hi,hF1⟩;dsimp only at hi hF1 ⊢;repeat (first |refine Ai ?_ |refine Ab ?_ |refine Ag ?_ |refine Ae Aa rfl ?_)
 refine Ak rfl (fun hlt=>?_) (fun hge=>?_)
 ·have hi':i < rl.length:=by omega
  have hokk:=hrok _ (List.getElem_mem hi');obtain ⟨ab,off,cs,rfl,hlt2,_⟩:=hx.get_ hi';repeat (first |refine Ai ?_ |refine Ab ?_ |refine Aq ?_ |refine Ad ?_ |refine Ao ?_)
  refine BE (Bs (sz:=2) Aa rfl rfl rfl rfl rfl rfl rfl rfl (j:=i) (by omega)) ?_;refine BR Aa (vs:=C6 rl[i]) rfl rfl rfl (fun w' hw=>B7 (Br.of_val (hw.own _ (Af (i:=6) rfl)).1) hi') ?_;refine AY Aa rfl (fun b10 hb10=>?_);repeat (first |refine Ag ?_ |refine Ae Aa rfl ?_ |refine Ap ?_ |refine An Aa 0 rfl rfl rfl ?_ |refine An Aa 2 rfl rfl rfl ?_ |refine Ax Aa 0 rfl rfl rfl rfl rfl rfl ?_)
  refine Dp (By (fun y=>(0 <= y/\y <= cum) \/ Cs (rl.take (i + 1)) y) (1 + (i + 1))) (fun _=>False) rfl Tryz.call35 (fun w1 g1=>(Qd rl[i].1 rl[i].2 w1 (fun k hk=>ET g1 hk) (Vp.fact (p:=By (fun y=>(0 <= y/\y <= cum) \/ Cs (rl.take i) y) (1 + i)) g1 1 rfl fun k hk=>.inr (hF1 k hk)) (by omega) hokk.1 hokk.2).mono fun e w' ⟨r,e1,e2,e3⟩=>⟨r,e1,e2,Ew (fun x=>by rw [CX hi',or_assoc]) (by omega) e3⟩) (fun v F7 w1 hF7 hv=>?_);obtain ⟨a7,n7,c7,rfl⟩:=CT hv;repeat (first |refine Ab ?_ |refine Ag ?_ |refine Ad ?_ |refine Am ?_ |refine AD Aa rfl (by omega) ?_ |refine Ae Aa rfl ?_ |refine Ax Aa 3 rfl rfl rfl rfl rfl rfl ?_)
  refine ⟨(i + 1,a7,n7,c7,F7),⟨by dsimp only;omega,fun k hk=>(hF7 k hk).resolve_left id⟩,(by repeat (first |exact As.nil |refine As.cons rfl ?_)),fun w' hw=>?_,by dsimp only;omega⟩;exact hw.less (by repeat (first |exact Au.nil |refine Au.keep ?_ |refine Au.dropR ?_ |refine Au.dropB (by first |assumption |omega) ?_))
 have hie:i=rn:=by omega
 subst hie;rw [List.take_of_length_le (by omega)];repeat (first |refine Ai ?_ |refine Ad ?_ |refine AB ?_ |refine Al ?_ |refine AH ?_)
 refine Cd (by kernel_rfl) 5 rfl (by kernel_rfl) ?_;repeat (first |refine AN rfl ?_ |refine Ah Aa rfl ?_ |refine AE Aa 1 rfl rfl rfl ?_ |refine AE Aa 4 rfl rfl rfl ?_)
 refine Ij 5 rfl Tryz.call36 rfl (fun w1 g1=>(OJ (g1.own _ (Af (i:=5) rfl)).1 (g1.own _ (Af (i:=5) rfl)).2.2 (s:=fun n=>decide (EC cum rl n)) (Bd:=1 + i) (Ew (fun y=>by rw [decide_eq_true_iff];rfl) (Nat.le_refl _) (g1.own _ (Af (i:=0) rfl)).1) (fun k hk hF=>g1.dis 0 5 rfl rfl rfl rfl hk hF) (by omega)).mono fun e w' ⟨A3,C3,he,Fb2,k1,k2,k3⟩=>⟨_,_,Fb2,_,_,_,_,_,he,k3,k1,k2,_,rfl,?_⟩);have hsz:=g1.size;refine B0 (fun w' hw=>(Hp.less (o':=[.rep (fun w=>(By (fun y=>(0 <= y/\y <= cum) \/ Cs rl y) (1 + i)).at_ w F1 (Bz a1 n1 c1)) F1 false,.blk b8 (.cells ⟨[.slice a1 n1 c1]⟩ 52 (0,0)) true,.blk b6 (.cells ⟨[.slice none 0 0]⟩ 52 (0,0)) true,.blk b5 (.cells ⟨Fm.cs ⟨k,ag,ep,inc,base,cum,lim,ra,i,rc,xa,xn,xc⟩⟩ 36 (0,0)) true,.blk sb (Gd bb s) true,.rep (fun w=>(DJ bb s.f s.m (D1 s.gs fun n=>decide (EC cum rl n)) s.last).at_ w Fb2 (.bool true)) Fb2 true]) hw (by repeat (first |exact Au.nil |refine Au.keep ?_ |refine Au.dropR ?_ |refine Au.dropW (Nat.le_refl _) ?_))).pm [4,5,3,1,2,0] rfl rfl rfl) ?_;repeat (first |refine A5 (by kernel_rfl) (by kernel_rfl) ?_ |refine AN rfl ?_ |refine Ah Aa rfl ?_ |refine AE Aa 0 rfl rfl rfl ?_ |refine AE Aa 2 rfl rfl rfl ?_ |refine Ai ?_ |refine Ab ?_ |refine Aq ?_ |refine Ag ?_ |refine Ae Aa rfl ?_ |refine An Aa 2 rfl rfl rfl ?_)
 refine FK (ι:=Bool) (fun b=>b=true ↔ (k=2/\(s.inc < inc \/ s.op=false))) (fun b=>[(0,AF sb),(5,.pointer (some ⟨b5,0,none⟩)),(6,.pointer (some ⟨b6,0,none⟩)),(8,.pointer (some ⟨b8,0,none⟩)),(11,.bool (decide (s.inc < inc))),(62,.bool b)])
  (fun b=>[.blk sb (Gd bb s) true,.rep (fun w=>(DJ bb s.f s.m (D1 s.gs fun n=>decide (EC cum rl n)) s.last).at_ w Fb2 (.bool true)) Fb2 true,.blk b5 (.cells ⟨Fm.cs ⟨k,ag,ep,inc,base,cum,lim,ra,i,rc,xa,xn,xc⟩⟩ 36 (0,0)) true,.blk b8 (.cells ⟨[.slice a1 n1 c1]⟩ 52 (0,0)) true,.blk b6 (.cells ⟨[.slice none 0 0]⟩ 52 (0,0)) true,.rep (fun w=>(By (fun y=>(0 <= y/\y <= cum) \/ Cs rl y) (1 + i)).at_ w F1 (Bz a1 n1 c1)) F1 false]) ?_ ?_
 ·refine BI rfl rfl (fun h1=>?_) (fun h1=>?_)
  ·repeat (first |refine Ae Aa rfl ?_)
   refine BI rfl rfl (fun h2=>?_) (fun h2=>?_)
   ·repeat (first |refine Ag ?_ |refine Ae Aa rfl ?_ |refine Bn rfl rfl rfl ?_)
    exact ⟨true,⟨fun _=>⟨h1,.inl h2⟩,fun _=>rfl⟩,(by repeat (first |exact As.nil |refine As.cons rfl ?_)),fun w hw=>hw⟩
   ·repeat (first |refine Ag ?_ |refine Ae Aa rfl ?_ |refine An Aa 0 rfl rfl rfl ?_)
    exact ⟨!s.op,⟨fun h=>⟨h1,.inr (by simpa using h)⟩,fun h=>by rw [h.2.resolve_left h2];rfl⟩,(by repeat (first |exact As.nil |refine As.cons rfl ?_)),fun w hw=>hw⟩
  ·repeat (first |refine Ag ?_ |refine Ae Aa rfl ?_ |refine Bn rfl rfl rfl ?_)
   exact ⟨false,⟨(fun h=>by cases h),fun h=>(h1 h.1).elim⟩,(by repeat (first |exact As.nil |refine As.cons rfl ?_)),fun w hw=>hw⟩
 intro b hb;have hFb2:∀ k,Fb2 k->F k \/ w.heap.size <= k:=fun k hk=>(k2 k hk).elim (fun h=>.inl (hFb k h)) fun h=>.inr (by omega)
 have fin:∀ (s':Bo) (Fb':Nat->Prop) (w':World),Hp w w' [.blk sb (Gd bb s') true,.rep (fun w=>(DJ bb s'.f s'.m s'.gs s'.last).at_ w Fb' (.bool true)) Fb' true,.blk b5 (.cells ⟨Fm.cs ⟨k,ag,ep,inc,base,cum,lim,ra,i,rc,xa,xn,xc⟩⟩ 36 (0,0)) true,.blk b8 (.cells ⟨[.slice a1 n1 c1]⟩ 52 (0,0)) true,.blk b6 (.cells ⟨[.slice a1 n1 c1]⟩ 52 (0,0)) true,.rep (fun w=>(By (fun y=>(0 <= y/\y <= cum) \/ Cs rl y) (1 + i)).at_ w F1 (Bz a1 n1 c1)) F1 false]->
  Ep s'->(∀ k,Fb' k->Fb2 k \/ w.heap.size <= k)->s.rcv ⟨k,ag,ep,inc,base,cum,lim,ra,i,rc,xa,xn,xc⟩ rl=s'->
  ∃ (v:Value) (Fv F':Nat->Prop),Ending.returned (.tuple #[Bz a1 n1 c1,.bool true])= .returned (.tuple #[v,.bool (decide (Ch s ⟨k,ag,ep,inc,base,cum,lim,ra,i,rc,xa,xn,xc⟩))])/\(∀ k,Fv k->w.heap.size <= k)/\(∀ k,F k->F' k)/\(∀ k,F' k->F k \/ w.heap.size <= k)/\
   Hp w w' [.rep (fun w=>(By (fun y=>Ch s ⟨k,ag,ep,inc,base,cum,lim,ra,i,rc,xa,xn,xc⟩/\EC cum rl y) (i + 1)).at_ w Fv v) Fv false,.rep (fun w=>(Io sb (s.rcv ⟨k,ag,ep,inc,base,cum,lim,ra,i,rc,xa,xn,xc⟩ rl)).at_ w F' (.bool true)) F' true]:=fun s' Fb' w' hw hok' hFb' e=>by
  rw [e];have h9:Hp w w' (WX sb bb s' Fb' true ++ [.rep (fun w=>(By (fun y=>(0 <= y/\y <= cum) \/ Cs rl y) (1 + i)).at_ w F1 (Bz a1 n1 c1)) F1 false]):=hw.less (by repeat (first |exact Au.nil |refine Au.keep ?_ |refine Au.dropB (by first |assumption |omega) ?_))
  obtain ⟨F',j1,j2,j3⟩:=HI (F0:=F) h9 hok' hF (fun e he k hk=>by
   rw [List.mem_singleton] at he;subst he
   exact hF1 k hk) (.inl hFsb) (fun k hk=>(hFb' k hk).elim (hFb2 k) .inr)
  refine ⟨_,F1,F',by rw [decide_eq_true hk],hF1,j1,j2,?_⟩
  have e2:(fun y=>Ch s ⟨k,ag,ep,inc,base,cum,lim,ra,i,rc,xa,xn,xc⟩/\EC cum rl y)=(fun y=>(0 <= y/\y <= cum) \/ Cs rl y):=by
   funext y;exact propext ⟨fun h=>h.2,fun h=>⟨hk,h⟩⟩
  rw [e2,Nat.add_comm i 1];exact j3.pm [1,0] rfl rfl rfl
 have hrcv:s.rcv ⟨k,ag,ep,inc,base,cum,lim,ra,i,rc,xa,xn,xc⟩ rl=if k=2/\(s.inc < inc \/ s.op=false) then (s.ack_ cum rl).begin_ true inc lim else if s.inc < inc then (s.ack_ cum rl).begin_ false inc 0 else { s.ack_ cum rl with lim:=max s.lim lim}:=if_pos hk
 skip;refine CK rfl (fun hb1=>?_) (fun hb1=>?_)
 ·repeat (first |refine Ae Aa rfl ?_ |refine Ap ?_ |refine An Aa 2 rfl rfl rfl ?_)
  refine A7 rfl Tryz.call37 (fun w2 g2=>(MW (s:=s.ack_ cum rl) g2 true inc lim).mono fun e w' ⟨he,Fb3,j1,j2,h9⟩=>⟨_,_,he,h9,?_⟩);repeat (first |refine Ai ?_ |refine Ab ?_ |refine Ag ?_ |refine Ad ?_ |refine Am ?_ |refine AC ?_ |refine Ae Aa rfl ?_ |refine An Aa 3 rfl rfl rfl ?_ |refine Ax Aa 4 rfl rfl rfl rfl rfl rfl ?_)
  exact Ey rfl (CD Aa 4 rfl rfl rfl rfl) rfl (fun w' hw=>fin ((s.ack_ cum rl).begin_ true inc lim) Fb3 w' hw ⟨hok.conf,hok.ep,hinc,hlim,(show (0:Int) <= 0/\(0:Int) <= 2305843009213693952 by decide),(show (0:Int) <= 0/\(0:Int) <= 1099511627776 by decide)⟩ j2 (hrcv.trans (if_pos (hb.1 hb1))))
 have hb2:¬ (k=2/\(s.inc < inc \/ s.op=false)):=fun h=>by
  have:=hb.2 h;rw [hb1] at this;cases this
 repeat (first |refine Ai ?_ |refine Ab ?_ |refine Ag ?_ |refine Ae Aa rfl ?_)
 refine Ak rfl (fun h3=>?_) (fun h3=>?_)
 ·repeat (first |refine Ae Aa rfl ?_ |refine Ap ?_ |refine An Aa 2 rfl rfl rfl ?_)
  refine A7 rfl Tryz.call37 (fun w2 g2=>(MW (s:=s.ack_ cum rl) g2 false inc 0).mono fun e w' ⟨he,Fb3,j1,j2,h9⟩=>⟨_,_,he,h9,?_⟩);repeat (first |refine Ai ?_ |refine Ab ?_ |refine Ag ?_ |refine Ad ?_ |refine Am ?_ |refine AC ?_ |refine Ae Aa rfl ?_ |refine An Aa 3 rfl rfl rfl ?_ |refine Ax Aa 4 rfl rfl rfl rfl rfl rfl ?_)
  exact Ey rfl (CD Aa 4 rfl rfl rfl rfl) rfl (fun w' hw=>fin ((s.ack_ cum rl).begin_ false inc 0) Fb3 w' hw ⟨hok.conf,hok.ep,hinc,(show AS .u64 0 by decide),(show (0:Int) <= 0/\(0:Int) <= 2305843009213693952 by decide),(show (0:Int) <= 0/\(0:Int) <= 1099511627776 by decide)⟩ j2 (hrcv.trans ((if_neg hb2).trans (if_pos h3))))
 ·skip;refine Ca ?_;refine Cd (by kernel_rfl) 10 rfl (by kernel_rfl) ?_;repeat (first |refine AN rfl ?_ |refine Ah Aa rfl ?_ |refine AE Aa 0 rfl rfl rfl ?_ |refine AE Aa 2 rfl rfl rfl ?_ |refine Ai ?_ |refine Ab ?_ |refine Ag ?_ |refine Ad ?_ |refine Am ?_ |refine AC ?_ |refine Ae Aa rfl ?_ |refine An Aa 3 rfl rfl rfl ?_ |refine Ax Aa 0 rfl rfl rfl rfl rfl rfl ?_ |refine Ax Aa 4 rfl rfl rfl rfl rfl rfl ?_)
  have hmx:AS .u64 (max s.lim lim):=by
   rcases Int.le_total s.lim lim with h |h
   ·rw [Int.max_eq_right h];exact hlim
   ·rw [Int.max_eq_left h];exact hok.lim
  exact Ey rfl (CD Aa 4 rfl rfl rfl rfl) rfl (fun w' hw=>fin { s.ack_ cum rl with lim:=max s.lim lim} Fb2 w' hw ⟨hok.conf,hok.ep,hok.inc,hmx,hok.tm,hok.tr⟩ (fun k h=>.inl h) (hrcv.trans ((if_neg hb2).trans (if_neg h3))))
end
abbrev Em:Eh (Int × Int):=C5 (A8 .u64) (A8 .i64)
def EV (p:Int × Int):List Value:=[.int .u64 p.1,.int .i64 p.2]
def Vi (p:Int × Int):Prop:=AS .u64 p.1/\AS .i64 p.2
theorem EN:PX Em EV Vi:=⟨fun w A cs x=>⟨by
 rintro ⟨c1,c2,rfl,⟨rfl,h1⟩,rfl,h2⟩
 exact ⟨rfl,h1,h2⟩,by
 rintro ⟨rfl,h1,h2⟩
 exact ⟨[.int .u64 x.1],[.int .i64 x.2],rfl,⟨rfl,h1⟩,rfl,h2⟩⟩⟩
theorem DF {w:World} {A:Nat->Prop} {b off n c:Nat} {l:List (Int × Int)} (h:Br Em w A (some ⟨b,off,none⟩) n c l) {i:Nat} (hi:i < l.length):∀ j u,(EV l[i])[j]? =some u->w.cell? ((⟨b,off + i * 2,none⟩:Addr).add j)=some u:=by
 obtain ⟨cs,_,h2,_,h3,_⟩:=h.at_ hi;have h4:=((EN.iff _ _ _ _).1 h2).1;subst h4;intro j u hu;rw [Addr.add_lit];exact h3 j u hu
structure CW where
 out:List (List Int)
 cur:List Int
 sum:Int
 room:Int
abbrev LW (p:Int) (x:Int × Int) (st:CW):Prop:=(st.cur.length:Int)=p \/ (0 < (st.cur.length:Int)/\60000 < st.sum + x.2)
def BJ (p:Int) (x:Int × Int) (st:CW):CW:=if LW p x st then { st with out:=st.out ++ [st.cur],cur:=[],sum:=0} else st
def CI (x:Int × Int) (st:CW):CW:={ st with cur:=st.cur ++ [x.1],sum:=st.sum + x.2,room:=st.room - 1}
def DA (p lim:Int) (nums:List Int):List (Int × Int)->CW->CW
 | [],st=>st
 |x::l,st=>if st.room <= 0 \/ lim < x.1 then st else if x.1 ∈ nums then DA p lim nums l st else DA p lim nums l (CI x (BJ p x st))
def CH (q:Int) (nums:List Int):CW:=⟨[],[],0,q - (nums.length:Int)⟩
def CR (p q lim:Int) (nums:List Int) (l:List (Int × Int)):List (List Int):=(DA p lim nums l (CH q nums)).out ++ if 0 < ((DA p lim nums l (CH q nums)).cur.length:Int) then [(DA p lim nums l (CH q nums)).cur] else []
structure M9 (p:Int) (st:CW) (i:Nat):Prop where
 out:st.out.length <= i
 cur:(st.cur.length:Int) <= p
 sum:0 <= st.sum/\st.sum <= 1099511627776 + 60000
 room:-1000000 - (i:Int) <= st.room/\st.room <= 1024
 fit:∀ n ∈ st.cur,AS .u64 n
 emp:st.cur= []->st.sum=0
theorem M9.up {p:Int} {st:CW} {i j:Nat} (h:M9 p st i) (hij:i <= j):M9 p st j:=⟨Nat.le_trans h.out hij,h.cur,h.sum,by have:=h.room;omega,h.fit,h.emp⟩
structure R9 (p:Int) (x:Int × Int) (st:CW) (i:Nat):Prop where
 out:st.out.length <= i + 1
 cur:(st.cur.length:Int) < p
 sum:0 <= st.sum/\st.sum + x.2 <= 1099511627776 + 60000
 room:-1000000 - (i:Int) <= st.room/\st.room <= 1024
 fit:∀ n ∈ st.cur,AS .u64 n
theorem M9.push {p:Int} {x:Int × Int} {st:CW} {i:Nat} (h:M9 p st i) (hp:1 <= p) (hz:0 <= x.2/\x.2 <= 1099511627776):R9 p x (BJ p x st) i:=by
 have h1:=h.out;have h2:=h.cur;have h3:=h.sum;unfold BJ;split
 ·exact ⟨by show (st.out ++ [st.cur]).length <= i + 1;rw [List.length_append];exact Nat.succ_le_succ h1,by show ((0:Nat):Int) < p;omega,by show (0:Int) <= 0/\(0:Int) + x.2 <= _;omega,h.room,fun n hn=>by cases hn⟩
 ·rename_i hf;have h4:¬ (st.cur.length:Int)=p:=fun e=>hf (.inl e);refine ⟨by omega,by omega,⟨h3.1,?_⟩,h.room,h.fit⟩;by_cases e:st.cur= []
  ·rw [h.emp e];omega
  ·have h5:0 < (st.cur.length:Int):=by have:=List.length_pos_iff.2 e;omega
   have h6:¬ 60000 < st.sum + x.2:=fun h7=>hf (.inr ⟨h5,h7⟩);omega
theorem R9.add {p:Int} {x:Int × Int} {st:CW} {i:Nat} (h:R9 p x st i) (hz:0 <= x.2) (hf:AS .u64 x.1):M9 p (CI x st) (i + 1):=by
 have h1:=h.cur;have h2:=h.sum;have h3:=h.room;exact ⟨h.out,by show ((st.cur ++ [x.1]).length:Int) <= p;rw [List.length_append];show ((st.cur.length + 1:Nat):Int) <= p;omega,by show 0 <= st.sum + x.2/\st.sum + x.2 <= _;omega,by show _ <= st.room - 1/\st.room - 1 <= _;omega,fun n hn=>(List.mem_append.1 hn).elim (h.fit n) fun h=>by rw [List.mem_singleton.1 h];exact hf,fun e=>by have:=congrArg List.length e;rw [show (CI x st).cur=st.cur ++ [x.1] from rfl,List.length_append] at this;simp at this⟩
structure Yd where
 st:CW
 A1:Option Addr
 C1:Nat
 css:List (List Value)
 Fo:Nat->Prop
 A2:Option Addr
 C2:Nat
section
variable {sb:Nat} {s:Bo} {w w0:World} {F:Nat->Prop} {ol:OL}
set_option maxHeartbeats 4000000 in
theorem Qg {bb:Nat} {Fb A:Nat->Prop} (hok:Ep s) (hsb:w.heap[sb]? =some (Gd bb s)) (hbo:(DJ bb s.f s.m s.gs s.last).at_ w Fb (.bool true)) (hFb:∀ k,Fb k->k < w.heap.size) {qa:Option Addr} {qn qc:Nat} {ql:List (Int × Int)} (hq:Br Em w A qa qn qc ql) (hqn:qn <= 60000) (hqz:∀ x ∈ ql,0 <= x.2/\x.2 <= 1099511627776):
 Calls Tryz.prog 51 #[AF sb,.slice qa qn qc] w fun e w'=>∃ v,e= .returned v/\Below w.heap.size w w'/\(PT.vp (CR s.p s.q s.lim (Aw s.gs) ql)).at_ w' (fun k=>w.heap.size <= k) v:=by
 have hql:=hq.len;have hqok:∀ (i:Nat) (hi:i < ql.length),Vi ql[i]:=fun i hi=>(hq.flat EN).2 _ (List.getElem_mem hi);obtain ⟨_,hbok,_⟩:=UT hbo;have hbl:=hbok.len;obtain ⟨hc1,hc2,hc3,hc4,hc5⟩:=hok.conf
 have hst:Hp w w [.blk sb (Gd bb s) false,.rep (fun w=>(DJ bb s.f s.m s.gs s.last).at_ w Fb (.bool true)) Fb false]:=by
  refine ⟨rfl,rfl,rfl,Nat.le_refl _,fun _ _ _=>rfl,fun e he=>?_,List.pairwise_cons.2 ⟨fun e he hx=>?_,List.pairwise_singleton _ _⟩⟩
  ·rcases List.mem_cons.1 he with rfl |he
   ·exact hsb
   ·rw [List.mem_singleton] at he;subst he;exact ⟨hbo,Vp.loc,hFb⟩
  ·rw [List.mem_singleton] at he;subst he;cases hx
 refine BO Tryz.func51 rfl rfl hst ?_;repeat (first |refine A5 (by kernel_rfl) (by kernel_rfl) ?_ |refine Ah Aa rfl ?_ |refine AE Aa 0 rfl rfl rfl ?_ |refine Ai ?_ |refine Ab ?_ |refine Ag ?_ |refine Ae Aa rfl ?_)
 refine Bi (v:=.int .i64 ((Aw s.gs).length:Int)) rfl Tryz.call53 (fun w' vs hw' h=>by
  obtain ⟨u1,_,rfl,rfl,rfl⟩:=h
  exact MT (hw'.own _ (Af (i:=1) rfl)).1) ?_
 repeat (first |refine AN rfl ?_ |refine BD Aa rfl (by omega) ?_ |refine Ah Aa rfl ?_ |refine Ai ?_ |refine Ab ?_ |refine Ag ?_ |refine Ae Aa rfl ?_)
 obtain ⟨nums,hnums⟩:∃ n,n=Aw s.gs:=⟨_,rfl⟩;rw [<-hnums] at hbl ⊢
 refine BN (ι:=Yd) (fun j=>j.st=DA s.p s.lim nums ql (CH s.q nums)/\M9 s.p j.st qn/\(∀ k,j.Fo k->w.heap.size <= k)/\j.css.flatten.length=j.st.out.length)
  (fun j=>[(5,.slice j.A1 j.st.out.length j.C1),(6,.slice j.A2 j.st.cur.length j.C2)])
  (fun j=>[.row w.heap.size (.slice j.A1 j.st.out.length j.C1) 59 1 j.st.out.length j.css.flatten,.row w.heap.size (.slice j.A2 j.st.cur.length j.C2) 32 1 j.st.cur.length (Bj j.st.cur),.rep (fun w=>(Cj (Az (A8 .u64)) j.css j.st.out).at_ w j.Fo (.bool true)) j.Fo false,.blk sb (Gd bb s) false,.rep (fun w=>(DJ bb s.f s.m s.gs s.last).at_ w Fb (.bool true)) Fb false]) ?_ ?_
 ·refine Aq ?_
  refine AM (ι:=Yd × Nat) (fun j=>[(0,AF sb),(5,.slice j.1.A1 j.1.st.out.length j.1.C1),(6,.slice j.1.A2 j.1.st.cur.length j.1.C2),(7,.int .i64 j.1.st.sum),(8,.int .i64 j.1.st.room),(22,.slice qa qn qc),(23,.int .i64 (qn:Int)),(24,.int .i64 (j.2:Int))])
   (fun j=>[.row w.heap.size (.slice j.1.A1 j.1.st.out.length j.1.C1) 59 1 j.1.st.out.length j.1.css.flatten,.row w.heap.size (.slice j.1.A2 j.1.st.cur.length j.1.C2) 32 1 j.1.st.cur.length (Bj j.1.st.cur),.rep (fun w=>(Cj (Az (A8 .u64)) j.1.css j.1.st.out).at_ w j.1.Fo (.bool true)) j.1.Fo false,.blk sb (Gd bb s) false,.rep (fun w=>(DJ bb s.f s.m s.gs s.last).at_ w Fb (.bool true)) Fb false])
   (fun j=>j.2 <= qn/\DA s.p s.lim nums (ql.drop j.2) j.1.st=DA s.p s.lim nums ql (CH s.q nums)/\M9 s.p j.1.st j.2/\(∀ k,j.1.Fo k->w.heap.size <= k)/\j.1.css.flatten.length=j.1.st.out.length) (fun j=>qn - j.2)
   (⟨CH s.q nums,none,0,[],fun _=>False,none,0⟩,0) ⟨Nat.zero_le _,rfl,⟨Nat.le_refl _,by show ((0:Nat):Int) <= s.p;omega,by show (0:Int) <= 0/\(0:Int) <= 1099511627776 + 60000;decide,by show -1000000 - ((0:Nat):Int) <= s.q - (nums.length:Int)/\s.q - (nums.length:Int) <= 1024;omega,(fun n hn=>by cases hn),fun _=>rfl⟩,fun k hk=>hk.elim,rfl⟩ (by repeat (first |exact As.nil |refine As.cons rfl ?_)) (fun w' hw=>?_) ?_
  ·exact ((hw.none (p:=Cj (Az (A8 .u64)) [] []) (v:=.bool true) (fun w=>Cj.nil_) false).nilRow 32 1).nilRow 59 1
  rintro ⟨⟨st,A1,C1,css,Fo,A2,C2⟩,i⟩ ⟨hi,hgo,hst2,hFo,hcss⟩;dsimp only at hi hgo hst2 hFo hcss ⊢;repeat (first |refine Ai ?_ |refine Ab ?_ |refine Ag ?_ |refine Ae Aa rfl ?_)
  refine Ak rfl (fun hlt=>?_) (fun hge=>?_);rotate_left
  ·have hie:i=qn:=by omega
   subst hie;rw [List.drop_of_length_le (by omega)] at hgo;repeat (first |refine Ad ?_ |refine AB ?_ |refine Al ?_ |refine AH ?_)
   exact ⟨⟨st,A1,C1,css,Fo,A2,C2⟩,⟨hgo,hst2,hFo,hcss⟩,(by repeat (first |exact As.nil |refine As.cons rfl ?_)),fun w' hw=>hw⟩
  have hi':i < ql.length:=by omega
  have hokk:=hqok i hi';have hz:=hqz _ (List.getElem_mem hi')
  have hgo2:DA s.p s.lim nums (ql.drop i) st=if st.room <= 0 \/ s.lim < (ql[i]).1 then st else if (ql[i]).1 ∈ nums then DA s.p s.lim nums (ql.drop (i + 1)) st else DA s.p s.lim nums (ql.drop (i + 1)) (CI ql[i] (BJ s.p ql[i] st)):=by
   rw [List.drop_eq_getElem_cons hi'];rfl
  obtain ⟨ab,off,cs,rfl,hlt2,_⟩:=hq.get_ hi';repeat (first |refine Ai ?_ |refine Ab ?_ |refine Aq ?_ |refine Ad ?_ |refine Ao ?_)
  refine BE (Bs (sz:=2) Aa rfl rfl rfl rfl rfl rfl rfl rfl (j:=i) (by omega)) ?_;refine BR Aa (vs:=EV ql[i]) rfl rfl rfl (fun w' hw=>DF (hq.ext (hw.below (by repeat (first |exact Ar |refine CQ ?_ |refine BW ?_ |refine Bv hw 0 rfl (Nat.le_refl _) ?_ |refine Bv hw 1 rfl (Nat.le_refl _) ?_)))) hi') ?_;refine AY Aa rfl (fun b10 hb10=>?_);repeat (first |refine A5 (by kernel_rfl) (by kernel_rfl) ?_ |refine Ah Aa rfl ?_ |refine Ai ?_ |refine Ag ?_ |refine Ax Aa 0 rfl rfl rfl rfl rfl rfl ?_)
  have hroom:=hst2.room;refine Fh rfl rfl (fun h1=>?_) (fun h1=>?_)
  ·repeat (first |refine AN rfl ?_ |refine Ah Aa rfl ?_ |refine BP rfl rfl rfl ?_)
   refine AX rfl ?_;repeat (first |refine Al ?_ |refine AH ?_)
   refine Cx rfl ?_;repeat (first |refine Ad ?_ |refine AB ?_ |refine Al ?_)
   exact ⟨⟨st,A1,C1,css,Fo,A2,C2⟩,⟨by rw [<-hgo,hgo2,if_pos (.inl h1)],hst2.up hi,hFo,hcss⟩,(by repeat (first |exact As.nil |refine As.cons rfl ?_)),fun w' hw=>hw.fewer (by repeat (first |exact Ar |refine CQ ?_ |refine BW ?_ |refine AA (by first |assumption |omega) ?_ |refine Bv hw 1 rfl (Nat.le_refl _) ?_ |refine Bv hw 2 rfl (Nat.le_refl _) ?_)) (by repeat (first |exact List.Sublist.slnil |refine List.Sublist.cons_cons _ ?_ |refine List.Sublist.cons _ ?_))⟩
  repeat (first |refine AN rfl ?_ |refine Ah Aa rfl ?_ |refine AE Aa 0 rfl rfl rfl ?_ |refine AE Aa 4 rfl rfl rfl ?_)
  refine Ak rfl (fun h2=>?_) (fun h2=>?_)
  ·repeat (first |refine Al ?_ |refine AH ?_)
   refine Cx rfl ?_;repeat (first |refine Ad ?_ |refine AB ?_ |refine Al ?_)
   exact ⟨⟨st,A1,C1,css,Fo,A2,C2⟩,⟨by rw [<-hgo,hgo2,if_pos (.inr h2)],hst2.up hi,hFo,hcss⟩,(by repeat (first |exact As.nil |refine As.cons rfl ?_)),fun w' hw=>hw.fewer (by repeat (first |exact Ar |refine CQ ?_ |refine BW ?_ |refine AA (by first |assumption |omega) ?_ |refine Bv hw 1 rfl (Nat.le_refl _) ?_ |refine Bv hw 2 rfl (Nat.le_refl _) ?_)) (by repeat (first |exact List.Sublist.slnil |refine List.Sublist.cons_cons _ ?_ |refine List.Sublist.cons _ ?_))⟩
  have hgo3:=hgo2.symm.trans hgo;rw [if_neg (fun h=>h.elim h1 h2)] at hgo3;repeat (first |refine A5 (by kernel_rfl) (by kernel_rfl) ?_ |refine Ah Aa rfl ?_ |refine AE Aa 0 rfl rfl rfl ?_ |refine AE Aa 4 rfl rfl rfl ?_ |refine Ai ?_ |refine Ad ?_ |refine Ao ?_)
  refine Bi (v:=.bool (decide ((ql[i]).1 ∈ nums))) rfl Tryz.call78 (fun w' vs hw' h=>by
   obtain ⟨u1,_,rfl,rfl,u2,_,rfl,rfl,rfl⟩:=h;rw [hnums]
   exact Rr (hw'.own _ (Af (i:=5) rfl)).1 _) ?_
  repeat (first |refine AN rfl ?_)
  refine Ak rfl (fun h3=>?_) (fun h3=>?_)
  ·rw [if_pos h3] at hgo3;repeat (first |refine Ab ?_ |refine Ag ?_ |refine Ad ?_ |refine AB ?_ |refine Al ?_ |refine AH ?_ |refine AD Aa rfl (by omega) ?_ |refine Ae Aa rfl ?_)
   exact ⟨(⟨st,A1,C1,css,Fo,A2,C2⟩,i + 1),⟨by dsimp only;omega,hgo3,hst2.up (Nat.le_succ _),hFo,hcss⟩,(by repeat (first |exact As.nil |refine As.cons rfl ?_)),fun w' hw=>hw.fewer (by repeat (first |exact Ar |refine CQ ?_ |refine BW ?_ |refine AA (by first |assumption |omega) ?_ |refine Bv hw 1 rfl (Nat.le_refl _) ?_ |refine Bv hw 2 rfl (Nat.le_refl _) ?_)) (by repeat (first |exact List.Sublist.slnil |refine List.Sublist.cons_cons _ ?_ |refine List.Sublist.cons _ ?_)),by dsimp only;omega⟩
  rw [if_neg h3] at hgo3;have hsum:=hst2.sum;have hpu:=hst2.push (x:=ql[i]) hc2 hz;have hcur:=hst2.cur;have hout:=hst2.out;repeat (first |refine Ai ?_ |refine Ab ?_ |refine Ad ?_ |refine Ao ?_ |refine Ae Aa rfl ?_ |refine An Aa 4 rfl rfl rfl ?_)
  refine FK (ι:=Bool) (fun b=>b=true ↔ LW s.p ql[i] st) (fun b=>[(0,AF sb),(5,.slice A1 st.out.length C1),(6,.slice A2 st.cur.length C2),(7,.int .i64 st.sum),(8,.int .i64 st.room),(10,.pointer (some ⟨b10,0,none⟩)),(22,.slice (some ⟨ab,off,none⟩) qn qc),(23,.int .i64 (qn:Int)),(24,.int .i64 (i:Int)),(65,.bool b)])
   (fun b=>[.blk b10 (.cells ⟨[.int .u64 (ql[i]).1,.int .i64 (ql[i]).2]⟩ 64 (0,0)) true,.row w.heap.size (.slice A1 st.out.length C1) 59 1 st.out.length css.flatten,.row w.heap.size (.slice A2 st.cur.length C2) 32 1 st.cur.length (Bj st.cur),.rep (fun w=>(Cj (Az (A8 .u64)) css st.out).at_ w Fo (.bool true)) Fo false,.blk sb (Gd bb s) false,.rep (fun w=>(DJ bb s.f s.m s.gs s.last).at_ w Fb (.bool true)) Fb false]) ?_ ?_
  ·refine BI rfl rfl (fun h4=>?_) (fun h4=>?_)
   ·repeat (first |refine Ag ?_ |refine Ae Aa rfl ?_ |refine Bn rfl rfl rfl ?_)
    exact ⟨true,⟨fun _=>.inl h4,fun _=>rfl⟩,(by repeat (first |exact As.nil |refine As.cons rfl ?_)),fun w hw=>hw⟩
   ·repeat (first |refine Ae Aa rfl ?_)
    refine BI rfl rfl (fun h5=>?_) (fun h5=>?_)
    ·repeat (first |refine Ag ?_ |refine AD Aa rfl (by omega) ?_ |refine Ae Aa rfl ?_ |refine An Aa 0 rfl rfl rfl ?_)
     exact ⟨decide (60000 < st.sum + (ql[i]).2),⟨fun h=>.inr ⟨h5,of_decide_eq_true h⟩,fun h=>decide_eq_true (h.resolve_left h4).2⟩,(by repeat (first |exact As.nil |refine As.cons rfl ?_)),fun w hw=>hw⟩
    ·repeat (first |refine Ag ?_ |refine Ae Aa rfl ?_ |refine Bn rfl rfl rfl ?_)
     exact ⟨false,⟨(fun h=>by cases h),fun h=>(h5 (h.resolve_left h4).1).elim⟩,(by repeat (first |exact As.nil |refine As.cons rfl ?_)),fun w hw=>hw⟩
  intro b hb
  refine BN (ι:=Yd) (fun j=>j.st=BJ s.p ql[i] st/\(∀ k,j.Fo k->w.heap.size <= k)/\j.css.flatten.length=j.st.out.length)
   (fun j=>[(0,AF sb),(5,.slice j.A1 j.st.out.length j.C1),(6,.slice j.A2 j.st.cur.length j.C2),(7,.int .i64 j.st.sum),(8,.int .i64 j.st.room),(10,.pointer (some ⟨b10,0,none⟩)),(22,.slice (some ⟨ab,off,none⟩) qn qc),(23,.int .i64 (qn:Int)),(24,.int .i64 (i:Int))])
   (fun j=>[.blk b10 (.cells ⟨[.int .u64 (ql[i]).1,.int .i64 (ql[i]).2]⟩ 64 (0,0)) true,.row w.heap.size (.slice j.A1 j.st.out.length j.C1) 59 1 j.st.out.length j.css.flatten,.row w.heap.size (.slice j.A2 j.st.cur.length j.C2) 32 1 j.st.cur.length (Bj j.st.cur),.rep (fun w=>(Cj (Az (A8 .u64)) j.css j.st.out).at_ w j.Fo (.bool true)) j.Fo false,.blk sb (Gd bb s) false,.rep (fun w=>(DJ bb s.f s.m s.gs s.last).at_ w Fb (.bool true)) Fb false]) ?_ ?_
  ·refine CK rfl (fun h4=>?_) (fun h4=>?_)
   ·have hfu:=hb.1 h4;have epu:BJ s.p ql[i] st= { st with out:=st.out ++ [st.cur],cur:=[],sum:=0}:=if_pos hfu;rw [epu];repeat (first |refine Ab ?_ |refine Ae Aa rfl ?_)
    refine AO Aa rfl rfl rfl rfl rfl rfl rfl rfl rfl rfl rfl rfl (fun nb hnb=>?_);refine AT (ty:=0) (k:=1) (news:=[.slice A2 st.cur.length C2]) Aa 2 (sz:=1) rfl rfl rfl rfl rfl rfl rfl rfl rfl (by decide) (fun w' hw=>Sl.of_blk (hw.own _ (Af (i:=0) rfl)) rfl (fun j u hu=>by rw [Nat.zero_add];exact hu)) (fun u hu=>by rw [List.mem_singleton] at hu;subst hu;rfl) (by simp only [maxLen];omega) (by show (_ + _) * 24 <= _;omega) rfl (fun A' C' hA' hC'=>⟨_,rfl,?_⟩);refine B0 (fun w' hw=>hw.pm [3,0,1,2,4,5,6] rfl rfl rfl) ?_;refine OW ((Az (A8 .u64)).vp st.cur) (fun w h=>(Ex h rfl hst2.fit).val) (fun Fc hFc=>?_);repeat (first |refine Ag ?_ |refine Ae Aa rfl ?_)
    refine ⟨⟨{ st with out:=st.out ++ [st.cur],cur:=[],sum:=0},A',C',css ++ [[Value.slice A2 st.cur.length C2]],fun k=>Fc k \/ Fo k,none,0⟩,⟨rfl,fun k hk=>hk.elim (hFc k) (hFo k),?_⟩,?_,fun w' hw=>?_⟩
    ·show (css ++ [[Value.slice A2 st.cur.length C2]]).flatten.length=(st.out ++ [st.cur]).length;rw [List.flatten_append,List.length_append,hcss,List.length_append];rfl
    ·dsimp only;rw [List.length_append];exact (by repeat (first |exact As.nil |refine As.cons rfl ?_))
    ·have e9:(css ++ [[Value.slice A2 st.cur.length C2]]).flatten=css.flatten ++ [Value.slice A2 st.cur.length C2]:=by rw [List.flatten_append];rfl
     dsimp only;rw [e9,List.length_append];have h9:=(hw.pm [0,4,1,2,3,5,6] rfl rfl rfl).merge (Ψ:=fun w=>(Cj (Az (A8 .u64)) (css ++ [[Value.slice A2 st.cur.length C2]]) (st.out ++ [st.cur])).at_ w (fun k=>Fc k \/ Fo k) (.bool true)) (fun q1 q2=>Cj.snoc ((Cj _ _ _).mono q2 fun k hk=>.inr hk) ((Az (A8 .u64)).at_mono q1 fun k hk=>.inl hk)) (Vp.loc (p:=Cj _ _ _));exact ((h9.nilRow 32 1).pm [2,3,4,0,1,5,6] rfl rfl rfl).less (by repeat (first |exact Au.nil |refine Au.keep ?_ |refine Au.dropB (by first |assumption |omega) ?_))
   ·have epu:BJ s.p ql[i] st=st:=if_neg fun h=>by have:=hb.2 h;rw [h4] at this;cases this
    rw [epu];repeat (first |refine Ad ?_ |refine Ao ?_)
    exact ⟨⟨st,A1,C1,css,Fo,A2,C2⟩,⟨rfl,hFo,hcss⟩,(by repeat (first |exact As.nil |refine As.cons rfl ?_)),fun w' hw=>hw⟩
  rintro ⟨st2,A3,C3,css2,Fo2,A4,C4⟩ ⟨rfl,hFo2,hcss2⟩;dsimp only at hFo2 hcss2 ⊢;obtain ⟨st1,hst1⟩:∃ t,t=BJ s.p ql[i] st:=⟨_,rfl⟩;rw [<-hst1] at hcss2 hpu hgo3 ⊢;have hc6:=hpu.cur;have hs6:=hpu.sum;have hr6:=hpu.room;repeat (first |refine Ai ?_ |refine Ab ?_ |refine Ae Aa rfl ?_ |refine An Aa 0 rfl rfl rfl ?_)
  refine AO Aa rfl rfl rfl rfl rfl rfl rfl rfl rfl rfl rfl rfl (fun nb2 hnb2=>?_);refine AT (ty:=0) (k:=1) (news:=[.int .u64 (ql[i]).1]) Aa 3 (sz:=1) rfl rfl rfl rfl rfl rfl rfl rfl rfl (by decide) (fun w' hw=>Sl.of_blk (hw.own _ (Af (i:=0) rfl)) rfl (fun j u hu=>by rw [Nat.zero_add];exact hu)) (fun u hu=>by rw [List.mem_singleton] at hu;subst hu;rfl) (by simp only [maxLen];omega) (by show (_ + _) * 8 <= _;omega) rfl (fun A' C' hA' hC'=>⟨_,rfl,?_⟩);repeat (first |refine Ai ?_ |refine Ab ?_ |refine Ag ?_ |refine Ad ?_ |refine Am ?_ |refine AD Aa rfl (by omega) ?_ |refine Ae Aa rfl ?_ |refine Ap ?_ |refine An Aa 1 rfl rfl rfl ?_)
  refine ⟨(⟨CI ql[i] st1,A3,C3,css2,Fo2,A',C'⟩,i + 1),⟨by dsimp only;omega,hgo3,hpu.add hz.1 hokk.1,hFo2,hcss2⟩,?_,fun w' hw=>?_,by dsimp only;omega⟩
  ·dsimp only [CI];rw [List.length_append];exact (by repeat (first |exact As.nil |refine As.cons rfl ?_))
  ·dsimp only [CI];rw [List.length_append,show Bj (st1.cur ++ [(ql[i]).1])=Bj st1.cur ++ [.int .u64 (ql[i]).1] by unfold Bj;rw [List.map_append];rfl];exact hw.fewer (by repeat (first |exact Ar |refine CQ ?_ |refine BW ?_ |refine AA (by first |assumption |omega) ?_ |refine Bv hw 2 rfl (Nat.le_refl _) ?_ |refine Bv hw 3 rfl (Nat.le_refl _) ?_)) (by repeat (first |exact List.Sublist.slnil |refine List.Sublist.cons_cons _ ?_ |refine List.Sublist.cons _ ?_))
 ·rintro ⟨st,A1,C1,css,Fo,A2,C2⟩ ⟨hst5,hst2,hFo,hcss⟩;dsimp only at hst5 hst2 hFo hcss ⊢;have hcur:=hst2.cur;have hout:=hst2.out
  have hfin:CR s.p s.q s.lim nums ql=st.out ++ if 0 < (st.cur.length:Int) then [st.cur] else []:=by unfold CR;rw [<-hst5]
  rw [hfin];repeat (first |refine Ai ?_ |refine Ab ?_ |refine Ag ?_ |refine Ae Aa rfl ?_)
  refine Ak rfl (fun h1=>?_) (fun h1=>?_)
  ·rw [if_pos h1];repeat (first |refine Ab ?_ |refine Ae Aa rfl ?_)
   refine AO Aa rfl rfl rfl rfl rfl rfl rfl rfl rfl rfl rfl rfl (fun nb hnb=>?_);refine AT (ty:=0) (k:=1) (news:=[.slice A2 st.cur.length C2]) Aa 1 (sz:=1) rfl rfl rfl rfl rfl rfl rfl rfl rfl (by decide) (fun w' hw=>Sl.of_blk (hw.own _ (Af (i:=0) rfl)) rfl (fun j u hu=>by rw [Nat.zero_add];exact hu)) (fun u hu=>by rw [List.mem_singleton] at hu;subst hu;rfl) (by simp only [maxLen];omega) (by show (_ + _) * 24 <= _;omega) rfl (fun A' C' hA' hC'=>⟨_,rfl,?_⟩);repeat (first |refine Ai ?_ |refine Ab ?_ |refine Ag ?_ |refine AC ?_ |refine Ae Aa rfl ?_)
   refine AZ rfl rfl (fun w' hw=>⟨_,rfl,hw.below (by repeat (first |exact Ar |refine CQ ?_ |refine BW ?_ |refine AA (by first |assumption |omega) ?_ |refine Bv hw 1 rfl (Nat.le_refl _) ?_ |refine Bv hw 2 rfl (Nat.le_refl _) ?_)),?_⟩)
   have e9:(css ++ [[Value.slice A2 st.cur.length C2]]).flatten=css.flatten ++ [Value.slice A2 st.cur.length C2]:=by rw [List.flatten_append];rfl
   have o1:=hw.own _ (Af (i:=1) rfl);have o2:=hw.own _ (Af (i:=2) rfl);exact (Cj.slr (R:=Az (A8 .u64)) (css:=css ++ [[Value.slice A2 st.cur.length C2]]) (v:=.bool true) (Cj.snoc ((Cj _ _ _).mono (hw.own _ (Af (i:=3) rfl)).1 hFo) (Eh.at_mono _ (Ex o2 rfl hst2.fit).val fun k hk=>(World.ownsRow.lt o2 k hk).1)) (by rw [e9];exact o1) (by rw [List.length_append];rfl) fun k hk _=>hk).val
  ·rw [if_neg h1,List.append_nil];repeat (first |refine Ai ?_ |refine Ab ?_ |refine Ag ?_ |refine Ad ?_ |refine Ao ?_ |refine AC ?_ |refine Ae Aa rfl ?_)
   exact AZ rfl rfl (fun w' hw=>⟨_,rfl,hw.below (by repeat (first |exact Ar |refine CQ ?_ |refine BW ?_ |refine Bv hw 0 rfl (Nat.le_refl _) ?_ |refine Bv hw 1 rfl (Nat.le_refl _) ?_)),(Cj.slr (R:=Az (A8 .u64)) ((Cj _ _ _).mono (hw.own _ (Af (i:=2) rfl)).1 hFo) (hw.own _ (Af (i:=0) rfl)) rfl fun k hk _=>hk).val⟩)
end
abbrev N5:Eh (Int × List Int):=C5 (A8 .u8) (Az (A8 .u64))
abbrev Ik:Eh (List (Int × List Int)):=Az N5
def Bo.keep_ (s:Bo) (qs:List Int):Bo:={ s with gs:=D1 s.gs (fun n=>!decide (n ∈ qs))}
def Bo.due_ (s:Bo) (now:Int):Bo:={ s with gs:=EQ s.f s.m now s.gs}
def Bo.send_ (s:Bo) (now:Int) (L:List Int):Bo:={ s with gs:=(B2 s.f s.m s.gs s.last now L).1,last:=(B2 s.f s.m s.gs s.last now L).2.1}
def Bo.sendAll (s:Bo) (now:Int) (LL:List (List Int)):Bo:=LL.foldl (fun s L=>s.send_ now L) s
def Bo.batch (s:Bo) (now:Int) (ql:List (Int × Int)):List (List Int):=CR s.p s.q s.lim (Aw s.gs) ql
def Bo.open_ (s:Bo) (now:Int) (ql:List (Int × Int)):Bo:=((s.keep_ (ql.map (·.1))).due_ now).sendAll now (((s.keep_ (ql.map (·.1))).due_ now).batch now ql)
def Bo.outs (s:Bo) (now:Int) (ql:List (Int × Int)):List (Int × List Int):=
 (DB (s.keep_ (ql.map (·.1))).gs now ++ ((s.keep_ (ql.map (·.1))).due_ now).batch now ql).map fun l=>((3:Int),l)
abbrev Bo.busy (s:Bo) (now:Int) (ql:List (Int × Int)):Prop:=0 < ((Aw (s.open_ now ql).gs).length:Int) \/ (ql.length:Int)=0
def Bo.tick (s:Bo) (now:Int) (ql:List (Int × Int)):Bo:=
 if s.op then if s.busy now ql then (s.open_ now ql).calm_ else (s.open_ now ql).try_ now else (s.keep_ (ql.map (·.1))).try_ now
def Bo.told (s:Bo) (now:Int) (ql:List (Int × Int)):List (Int × List Int):=
 if s.op then s.outs now ql ++ (if s.busy now ql then [] else if s.tm <= now then [(3,[])] else []) else if s.tm <= now then [(1,[])] else []
theorem Bo.sendAll_eq (now:Int):∀ (LL:List (List Int)) (s:Bo),(s.sendAll now LL).f=s.f/\(s.sendAll now LL).m=s.m/\(s.sendAll now LL).p=s.p/\(s.sendAll now LL).q=s.q/\(s.sendAll now LL).ep=s.ep/\(s.sendAll now LL).op=s.op/\(s.sendAll now LL).inc=s.inc/\(s.sendAll now LL).lim=s.lim/\(s.sendAll now LL).tm=s.tm/\(s.sendAll now LL).tr=s.tr
 | [],s=>⟨rfl,rfl,rfl,rfl,rfl,rfl,rfl,rfl,rfl,rfl⟩
 |L::LL,s=>Bo.sendAll_eq now LL (s.send_ now L)
theorem J6 (p lim:Int) (nums:List Int):∀ (l:List (Int × Int)) (st:CW),(DA p lim nums l st).out.length <= st.out.length + l.length/\(DA p lim nums l st).out.flatten.length + (DA p lim nums l st).cur.length <= st.out.flatten.length + st.cur.length + l.length
 | [],st=>⟨Nat.le_refl _,Nat.le_refl _⟩
 |x::l,st=>by
  rw [DA,List.length_cons];split
  ·exact ⟨by omega,by omega⟩
  ·split
   ·have h:=J6 p lim nums l st;exact ⟨by omega,by omega⟩
   ·have h:=J6 p lim nums l (CI x (BJ p x st))
    have h1:(CI x (BJ p x st)).out.length <= st.out.length + 1:=by
     show (BJ p x st).out.length <= _;unfold BJ;split
     ·show (st.out ++ [st.cur]).length <= _;rw [List.length_append];exact Nat.le_refl _
     ·omega
    have h2:(CI x (BJ p x st)).out.flatten.length + (CI x (BJ p x st)).cur.length=st.out.flatten.length + st.cur.length + 1:=by
     show (BJ p x st).out.flatten.length + ((BJ p x st).cur ++ [x.1]).length=_;unfold BJ;split
     ·show (st.out ++ [st.cur]).flatten.length + ([] ++ [x.1]:List Int).length=_;rw [List.flatten_append,List.length_append];simp
     ·rw [List.length_append];simp;omega
    exact ⟨by omega,by omega⟩
theorem II (p q lim:Int) (nums:List Int) (l:List (Int × Int)):(CR p q lim nums l).length <= l.length + 1/\(CR p q lim nums l).flatten.length <= l.length:=by
 have h:=J6 p lim nums l (CH q nums);rw [show (CH q nums).out= [] from rfl,show (CH q nums).cur= [] from rfl] at h;simp only [List.length_nil,List.flatten_nil] at h;unfold CR;obtain ⟨t,ht⟩:∃ t,t=DA p lim nums l (CH q nums):=⟨_,rfl⟩;rw [<-ht] at h ⊢;split
 ·rw [List.length_append,List.flatten_append,List.length_append,show [t.cur].flatten=t.cur by simp];exact ⟨by show _ + 1 <= _;omega,by omega⟩
 ·rw [List.append_nil];exact ⟨by omega,by omega⟩
theorem GQ (f m now:Int) (gs:List BG):Aw (EQ f m now gs)=Aw gs:=HQ (q:=fun g=>if g.tm <= now then ⟨g.id,g.L,now + W f m g.tries.toNat,g.tries + 1⟩ else g) (fun g=>by by_cases h:g.tm <= now<;>simp [h]) gs
theorem Pt {gs:List BG} {l:List Int}:(FA gs l).length <= l.length:=Nat.le_trans Dj (List.length_filter_le _ _)
theorem NU {f m:Int} {gs:List BG} {last now:Int} {l:List Int}:(Aw (B2 f m gs last now l).1).length <= (Aw gs).length + l.length/\(B2 f m gs last now l).1.length <= gs.length + 1/\last <= (B2 f m gs last now l).2.1/\(B2 f m gs last now l).2.1 <= last + 1:=by
 unfold B2;split
 ·exact ⟨Nat.le_add_right _ _,Nat.le_succ _,Int.le_refl _,by show last <= last + 1;omega⟩
 ·have:=Pt (gs:=gs) (l:=l);refine ⟨?_,by simp,by show last <= last + 1;omega,Int.le_refl _⟩;show (Aw (gs ++ [_])).length <= _;rw [Aw,List.flatMap_append,List.length_append];simp only [List.flatMap_cons,List.flatMap_nil,List.append_nil];show _ <= (gs.flatMap BG.L).length + l.length;omega
theorem Bo.sendAll_len (now:Int):∀ (LL:List (List Int)) (s:Bo),(Aw (s.sendAll now LL).gs).length <= (Aw s.gs).length + LL.flatten.length/\(s.sendAll now LL).gs.length <= s.gs.length + LL.length/\(s.sendAll now LL).last <= s.last + (LL.length:Int)
 | [],s=>⟨Nat.le_refl _,Nat.le_refl _,by show s.last <= s.last + ((0:Nat):Int);omega⟩
 |L::LL,s=>by
  have h:=Bo.sendAll_len now LL (s.send_ now L);have h1:=NU (f:=s.f) (m:=s.m) (gs:=s.gs) (last:=s.last) (now:=now) (l:=L);have e1:(s.send_ now L).gs=(B2 s.f s.m s.gs s.last now L).1:=rfl;have e2:(s.send_ now L).last=(B2 s.f s.m s.gs s.last now L).2.1:=rfl;rw [e1,e2] at h;rw [show s.sendAll now (L::LL)=(s.send_ now L).sendAll now LL from rfl,List.flatten_cons,List.length_append,List.length_cons];obtain ⟨a1,a2,a3,a4⟩:=h1;obtain ⟨b1,b2,b3⟩:=h;exact ⟨by omega,by omega,by omega⟩
theorem Bo.sendAll_snoc (s:Bo) (now:Int) (LL:List (List Int)) (L:List Int):s.sendAll now (LL ++ [L])=(s.sendAll now LL).send_ now L:=by
 unfold Bo.sendAll;rw [List.foldl_append];rfl
theorem Cj.append {α:Type} {R:Eh α} {w:World} {A:Nat->Prop} {v:Value} {c1:List (List Value)} {l1:List α} (h1:(Cj R c1 l1).at_ w A v) {c2:List (List Value)} {l2:List α} (h2:(Cj R c2 l2).at_ w A v):(Cj R (c1 ++ c2) (l1 ++ l2)).at_ w A v:=by
 refine ⟨by rw [List.length_append,List.length_append,h1.1,h2.1],fun i cs x hc hx=>?_⟩
 rcases Nat.lt_or_ge i c1.length with h |h
 ·rw [List.getElem?_append_left h] at hc;rw [List.getElem?_append_left (by rw [<-h1.1];exact h)] at hx;exact h1.2 i cs x hc hx
 ·rw [List.getElem?_append_right h] at hc;rw [List.getElem?_append_right (by rw [<-h1.1];exact h),<-h1.1] at hx;exact h2.2 _ cs x hc hx
def cellO (x:SX):List Value:=[.int .u8 3,x.v]
theorem Xp {w:World} {A:Nat->Prop} {v:Value} {a:Option Addr} {n c:Nat} {xs:List SX} {L:List (List Int)} (h:(DI a n c xs L).at_ w A v):(Cj N5 (xs.map cellO) (L.map fun l=>((3:Int),l))).at_ w A (.bool true):=by
 have hl:=DI.len h;refine ⟨by rw [List.length_map,List.length_map];omega,fun i cs x hc hx=>?_⟩;rw [List.getElem?_map] at hc hx
 cases h1:xs[i]? with
 |none=>rw [h1] at hc;cases hc
 |some y=>
  cases h2:L[i]? with
  |none=>rw [h2] at hx;cases hx
  |some l=>
   rw [h1] at hc;rw [h2] at hx;cases hc;cases hx;exact ⟨[.int .u8 3],[y.v],rfl,⟨rfl,(show AS .u8 3 by decide)⟩,(DI.get h h1 h2).val⟩
theorem Bo.try_same (s:Bo) (now:Int) (bb:Nat):DJ bb (s.try_ now).f (s.try_ now).m (s.try_ now).gs (s.try_ now).last=DJ bb s.f s.m s.gs s.last:=by
 unfold Bo.try_;split<;>rfl
theorem Ep.try_ {s:Bo} (h:Ep s) {now:Int} (hnow:0 <= now/\now <= 1152921504606846976) (ht:s.tr < 1099511627776):Ep (s.try_ now):=by
 have h1:=Hb h.conf.1.1 h.conf.1.2.1 s.tr.toNat;have h2:=h.conf.1.2.2;have h3:=h.tr;unfold Bo.try_;split
 ·exact ⟨h.conf,h.ep,h.inc,h.lim,by dsimp only;omega,by dsimp only;omega⟩
 ·exact h
theorem Gg {gs:List BG} {s:Int->Bool} {g:BG} (h:g ∈ D1 gs s):∃ x ∈ gs,g=Cg s x:=by
 obtain ⟨x,hx,e⟩:=List.mem_map.1 (List.mem_filter.1 h).1;exact ⟨x,hx,e.symm⟩
theorem Hp.blkV {w0 w:World} {ol:OL} {b:Nat} {x:Obj} (h:Hp w0 w (.blk b x true::ol)) (hb:w0.heap.size <= b) (p:Vp) {v:Value} (hp:p.at_ w (fun k=>k=b) v):Hp w0 w (.rep (fun w=>p.at_ w (fun k=>k=b) v) (fun k=>k=b) false::ol):=
 (h.drop (fun _ k hk=>Option.some.inj hk ▸ hb)).more ⟨hp,Vp.loc,fun k hk=>hk ▸ AU (h.own _ List.mem_cons_self)⟩ fun e he hr k hk hk2=>(List.pairwise_cons.1 h.apart).1 e he rfl k (by rw [hk];exact rfl) hk2
theorem Kq {α:Type} {R:Eh α} {w:World} {b:Nat} {e:TypeId} {fz:Nat × Nat} {css:List (List Value)} {l:List α} {F:Nat->Prop} {v:Value} (h:w.heap[b]? =some (.cells ⟨css.flatten⟩ e fz)) (hb:(Cj R css l).at_ w F v) (hF:F b) (hm:l.length <= maxLen):Br R w F (some ⟨b,0,none⟩) l.length l.length l:=
 ⟨rfl,Nat.le_refl _,hm,(fun h=>by cases h),⟨css,hb.1,hb.2,Sl.of_blk h (by rw [HY (Cj.szs hb),hb.1]) (fun j u hu=>by rw [Nat.zero_add];exact hu)⟩,fun _=>⟨_,_,rfl,hF⟩⟩
theorem Ox {w:World} {F:Nat->Prop} {k:Int} (hk:AS .u8 k):(Cj N5 [[.int .u8 k,.slice none 0 0]] [((k:Int),([]:List Int))]).at_ w F (.bool true):=
 ⟨rfl,fun i cs x h1 h2=>by
  match i,h1,h2 with
  |0,h1,h2=>
   cases h1;cases h2;exact ⟨[.int .u8 k],[.slice none 0 0],rfl,⟨rfl,hk⟩,_,_,_,rfl,Br.nil_⟩
  |i + 1,h1,_=>simp at h1⟩
section
variable {n:Nat} {w0:World} {all:Array Oper} {os:List Oper} {o:Oper} {l:FL} {ol:OL} {K:FL->OL->Prop} {Q:B3} {d bb:Nat} {f m last:Int} {gs:List BG} {F:Nat->Prop}
theorem UJ (i:Nat) {now:Int} (hs:BL n all (AP l) o=some (d,50,[AF bb,.int .i64 now])) (hi:B9 ol i=some (.rep (fun w=>(DJ bb f m gs last).at_ w F (.bool true)) F true)) (hnow:0 <= now/\now <= 1152921504606846976) (htr:∀ g ∈ gs,g.tries < 1099511627776)
 (k:∀ a ln c xs (Fv F':Nat->Prop),(∀ k,Fv k->w0.heap.size <= k)->(∀ k,F' k->F k \/ w0.heap.size <= k)->(DB gs now).length=ln/\xs.length=ln->∃ ol',Dc ol i (.rep (fun w=>(DJ bb f m (EQ f m now gs) last).at_ w F' (.bool true)) F' true)=some ol'/\S Tryz.prog n w0 all os ((d,.slice a ln c)::l) (.rep (fun w=>(DI a ln c xs (DB gs now)).at_ w Fv (.bool true)) Fv false::ol') K Q):S Tryz.prog n w0 all (o::os) l ol K Q:=
 A7 hs Tryz.call50 fun w g=>(Wu (g.own _ (Af hi)).1 (g.own _ (Af hi)).2.2 hnow htr).mono fun e w' ⟨v,Fv,he,hv,F',g1,g2,g3⟩=>by
  obtain ⟨a,ln,c,xs,rfl,hx⟩:=Sx (g3.own _ (Af (i:=0) rfl)).1;have g4:=g3.mapI 0 rfl (Ψ:=fun w=>(DI a ln c xs (DB gs now)).at_ w Fv (.bool true)) (fun _=>hx) (Vp.loc (p:=DI _ _ _ _ _)) rfl;obtain ⟨ol',e1,e2⟩:=k a ln c xs Fv F' (fun j hj=>Nat.le_trans g.size (hv j hj)) (fun j hj=>(g2 j hj).imp id (Nat.le_trans g.size)) (DI.len hx);exact ⟨_,_,he,g.graftTV i hi g4 hv g1 g2 e1,e2⟩
theorem R0 (i:Nat) {a:Option Addr} {ln c:Nat} {now:Int} {L:List Int} (hs:BL n all (AP l) o=some (d,52,[AF bb,.int .i64 now,.slice a ln c])) (hi:B9 ol i=some (.rep (fun w=>(DJ bb f m gs last).at_ w F (.bool true)) F true))
 (hl:∀ w,Hp w0 w ol->Yh w F a ln c L) (hnow:0 <= now/\now <= 1152921504606846976) (hln:L.length + (Aw gs).length <= 60000) (hcn:gs.length < 60000) (hla:last + 1 <= 1099511627776)
 (k:∀ F':Nat->Prop,(∀ k,F' k->F k \/ w0.heap.size <= k)->∃ ol',Dc ol i (.rep (fun w=>(DJ bb f m (B2 f m gs last now L).1 (B2 f m gs last now L).2.1).at_ w F' (.bool true)) F' true)=some ol'/\S Tryz.prog n w0 all os ((d,.int .u64 (B2 f m gs last now L).2.2)::l) ol' K Q):S Tryz.prog n w0 all (o::os) l ol K Q:=
 CA i hs Tryz.call52 hi fun w g=>by
  obtain ⟨A0,h1,h2⟩:=hl w g
  exact (Uv (g.own _ (Af hi)).1 (g.own _ (Af hi)).2.2 h1 h2 hnow hln hcn hla).mono fun e w' ⟨he,F',g1,g2,g3⟩=>by
   obtain ⟨ol',e1,e2⟩:=k F' fun j hj=>(g2 j hj).imp id (Nat.le_trans g.size);exact ⟨_,_,F',he,g3,g1,g2,ol',e1,e2⟩
theorem RZ {L:List (List Int)} {fn:FuncId} {vs:List Value} (hs:BL n all (AP l) o=some (d,fn,vs)) (hcall:∀ args w,(callFunc fn args).run Tryz.prog w= .ok (.enter fn args) w)
 (hc:∀ w,Hp w0 w ol->Calls Tryz.prog fn vs.toArray w fun e w'=>∃ v,e= .returned v/\Below w.heap.size w w'/\(PT.vp L).at_ w' (fun k=>w.heap.size <= k) v)
 (k:∀ a ln c xs (Fv:Nat->Prop),(∀ k,Fv k->w0.heap.size <= k)->L.length=ln/\xs.length=ln->S Tryz.prog n w0 all os ((d,.slice a ln c)::l) (.rep (fun w=>(DI a ln c xs L).at_ w Fv (.bool true)) Fv false::ol) K Q):S Tryz.prog n w0 all (o::os) l ol K Q:=
 A7 hs hcall fun w hh=>(hc w hh).mono fun e w' ⟨v,he,hb,hp⟩=>by
  obtain ⟨a,ln,c,xs,rfl,hx⟩:=Sx (A:=BB w0 (fun _=>False) ol) ((PT.vp L).mono hp fun k hk=>ET hh hk);obtain ⟨F,h1,h2,h3⟩:=(hh.ext hb).addV (p:=DI a ln c xs L) (v:=.bool true) hx;exact ⟨_,_,he,h3,k a ln c xs F (fun j hj=>(h1 j hj).resolve_left id) (DI.len hx)⟩
end
section
variable {sb:Nat} {s:Bo} {w w0:World} {F:Nat->Prop} {ol:OL}
set_option maxHeartbeats 4000000 in
theorem Om (h:(Io sb s).at_ w F (.bool true)) (hF:∀ k,F k->k < w.heap.size) {now:Int} (hnow:0 <= now/\now <= 1152921504606846976) {qa:Option Addr} {qn qc:Nat} {ql:List (Int × Int)} {A:Nat->Prop} (hq:Br Em w A qa qn qc ql) (hAF:∀ k,A k->¬ F k) (hqz:∀ x ∈ ql,0 <= x.2/\x.2 <= 1099511627776)
 (hb1:(Aw s.gs).length + qn <= 60000) (hb2:s.gs.length + qn < 59999) (hb3:s.last + (qn:Int) + 1 <= 1099511627776) (htr:∀ g ∈ s.gs,g.tries < 1099511627776) (hstr:s.tr < 1099511627776):
 Calls Tryz.prog 24 #[AF sb,.int .i64 now,.slice qa qn qc] w fun e w'=>∃ (v:Value) (Fv F':Nat->Prop),e= .returned v/\(∀ k,Fv k->w.heap.size <= k)/\(∀ k,F k->F' k)/\(∀ k,F' k->F k \/ w.heap.size <= k)/\
  Hp w w' [.rep (fun w=>(Ik.vp (s.told now ql)).at_ w Fv v) Fv false,.rep (fun w=>(Io sb (s.tick now ql)).at_ w F' (.bool true)) F' true]:=by
 obtain ⟨bb,Fb,hok,hst,hFsb,hFb⟩:=GG h true
 obtain ⟨Fq,hFq,_,hst2⟩:=hst.addV (p:=(Az Em).vp ql) (A:=A) (v:=.slice qa qn qc) (((Az Em).vp ql).mono hq.val fun k hk=>⟨.inl hk,fun e he hex hh=>hAF k hk (by
  rcases List.mem_cons.1 he with rfl |he
  ·exact Option.some.inj hh ▸ hFsb
  ·rw [List.mem_singleton] at he;subst he
   exact hFb k hh)⟩)
 have hst3:Hp w w [.blk sb (Gd bb s) true,.rep (fun w=>(DJ bb s.f s.m s.gs s.last).at_ w Fb (.bool true)) Fb true,.rep (fun w=>((Az Em).vp ql).at_ w Fq (.slice qa qn qc)) Fq false]:=hst2.pm [1,2,0] rfl rfl rfl;have hql:=hq.len;have hqok:∀ (i:Nat) (hi:i < ql.length),Vi ql[i]:=fun i hi=>(hq.flat EN).2 _ (List.getElem_mem hi);refine Ef Tryz.func24 rfl rfl hst3 ?_;repeat (first |refine Ai ?_ |refine Ab ?_ |refine Ag ?_ |refine Ae Aa rfl ?_)
 refine BE (CS Aa rfl rfl rfl rfl rfl) ?_;repeat (first |refine Ag ?_)
 refine AG rfl ?_;repeat (first |refine Ai ?_ |refine Ab ?_ |refine Ad ?_ |refine Ao ?_ |refine BE (Bf Aa rfl rfl rfl rfl rfl rfl rfl) ?_)
 refine AY Aa rfl (fun b7 hb7=>?_);repeat (first |refine Ai ?_ |refine Ab ?_ |refine Aq ?_ |refine Ag ?_ |refine Ae Aa rfl ?_ |refine Ax Aa 0 rfl rfl rfl rfl rfl rfl ?_)
 refine L7 (By (fun _=>False) 0) (fun _=>False) (fun w' hw=>JG) (fun F9 hF9=>?_)
 refine AM (ι:=Nat × Option Addr × Nat × Nat × (Nat->Prop)) (fun i=>[(0,AF sb),(1,.int .i64 now),(2,.slice qa qn qc),(7,.pointer (some ⟨b7,0,none⟩)),(18,.slice qa qn qc),(19,.int .i64 (qn:Int)),(20,.int .i64 (i.1:Int))])
  (fun i=>[.rep (fun w=>(By (· ∈ (ql.take i.1).map (·.1)) i.1).at_ w i.2.2.2.2 (Bz i.2.1 i.2.2.1 i.2.2.2.1)) i.2.2.2.2 false,.blk b7 (.cells ⟨[.slice i.2.1 i.2.2.1 i.2.2.2.1]⟩ 52 (0,0)) true,.blk sb (Gd bb s) true,.rep (fun w=>(DJ bb s.f s.m s.gs s.last).at_ w Fb (.bool true)) Fb true,.rep (fun w=>((Az Em).vp ql).at_ w Fq (.slice qa qn qc)) Fq false])
  (fun i=>i.1 <= qn/\∀ k,i.2.2.2.2 k->w.heap.size <= k) (fun i=>qn - i.1) (0,none,0,0,F9) ⟨Nat.zero_le _,fun k hk=>(hF9 k hk).resolve_left id⟩ (by repeat (first |exact As.nil |refine As.cons rfl ?_)) (fun w' hw=>?_) ?_
 ·have e:(fun _:Int=>False)=(· ∈ (ql.take 0).map (·.1)):=by
   funext x;simp
  simp only [<-e];exact hw
 rintro ⟨i,a6,n6,c6,F6⟩ ⟨hi,hF6⟩;dsimp only at hi hF6 ⊢;repeat (first |refine Ai ?_ |refine Ab ?_ |refine Ag ?_ |refine Ae Aa rfl ?_)
 refine Ak rfl (fun hlt=>?_) (fun hge=>?_)
 ·have hi':i < ql.length:=by omega
  have hokk:=hqok i hi';obtain ⟨ab,off,cs,rfl,hlt2,_⟩:=hq.get_ hi';repeat (first |refine Ai ?_ |refine Ab ?_ |refine Aq ?_ |refine Ad ?_ |refine Ao ?_)
  refine BE (Bs (sz:=2) Aa rfl rfl rfl rfl rfl rfl rfl rfl (j:=i) (by omega)) ?_;refine BR Aa (vs:=EV ql[i]) rfl rfl rfl (fun w' hw=>DF (Br.of_val (hw.own _ (Af (i:=4) rfl)).1) hi') ?_;refine AY Aa rfl (fun b9 hb9=>?_);repeat (first |refine Ag ?_ |refine Ae Aa rfl ?_ |refine Ap ?_ |refine An Aa 0 rfl rfl rfl ?_ |refine An Aa 2 rfl rfl rfl ?_ |refine Ax Aa 0 rfl rfl rfl rfl rfl rfl ?_)
  refine Dp (By (· ∈ (ql.take (i + 1)).map (·.1)) (i + 1)) (fun _=>False) rfl Tryz.call47 (fun w1 g1=>(Xu (ql[i]).1 w1 (fun k hk=>ET g1 hk) (Vp.fact (p:=By (· ∈ (ql.take i).map (·.1)) i) g1 1 rfl fun k hk=>.inr (hF6 k hk)) (by omega) hokk.1).mono fun e w' ⟨r,e1,e2,e3⟩=>⟨r,e1,e2,Ew (fun x=>by rw [List.take_succ_eq_append_getElem hi',List.map_append,List.mem_append];simp) (Nat.le_refl _) e3⟩) (fun v F7 w1 hF7 hv=>?_);obtain ⟨a7,n7,c7,rfl⟩:=CT hv;repeat (first |refine Ab ?_ |refine Ag ?_ |refine Ad ?_ |refine Am ?_ |refine AD Aa rfl (by omega) ?_ |refine Ae Aa rfl ?_ |refine Ax Aa 3 rfl rfl rfl rfl rfl rfl ?_)
  exact ⟨(i + 1,a7,n7,c7,F7),⟨by dsimp only;omega,fun k hk=>(hF7 k hk).resolve_left id⟩,(by repeat (first |exact As.nil |refine As.cons rfl ?_)),fun w' hw=>hw.less (by repeat (first |exact Au.nil |refine Au.keep ?_ |refine Au.dropR ?_ |refine Au.dropB (by first |assumption |omega) ?_)),by dsimp only;omega⟩
 have hie:i=qn:=by omega
 subst hie;rw [List.take_of_length_le (by omega)];repeat (first |refine Ai ?_ |refine Ad ?_ |refine AB ?_ |refine Al ?_ |refine AH ?_)
 obtain ⟨qs,hqs⟩:∃ q,q=ql.map (·.1):=⟨_,rfl⟩;rw [<-hqs];obtain ⟨sA,hsA⟩:∃ sA:Int->Bool,sA=fun n=>decide (n ∈ Aw s.gs/\¬ n ∈ qs):=⟨_,rfl⟩
 have hrm:D1 s.gs sA=(s.keep_ qs).gs:=Iv fun n hn=>by rw [hsA];by_cases h:n ∈ qs<;>simp [hn,h]
 refine EY (fun w1 g1=>UT (g1.own _ (Af (i:=3) rfl)).1) (fun ⟨_,hbok,hbne⟩=>?_);have hbl:=hbok.len
 refine OU (by kernel_rfl) (by kernel_rfl) [8,10,11] (by kernel_rfl) (by kernel_rfl) (by kernel_rfl) [.blk sb (Gd bb s) false,.blk b7 (.cells ⟨[.slice a6 n6 c6]⟩ 52 (0,0)) false] (CF (CF DQ))
  [some (AF sb),some (AF sb),some (.pointer (some ⟨sb,0 + 8,none⟩)),some (AF bb),some (AF sb),some (AF sb),some (.pointer (some ⟨sb,0 + 8,none⟩)),some (AF bb),none,some (Bz a6 n6 c6),none,none]
  ⟨.inr ⟨_,_,rfl,rfl,fun w f=>Ah Aa rfl Aj⟩,.inr ⟨_,_,rfl,rfl,fun w f=>Ah Aa rfl Aj⟩,.inr ⟨_,_,rfl,rfl,fun w f=>Ah Aa rfl Aj⟩,.inr ⟨_,_,rfl,rfl,fun w f=>AE Aa 0 rfl rfl rfl Aj⟩,.inr ⟨_,_,rfl,rfl,fun w f=>Ah Aa rfl Aj⟩,.inr ⟨_,_,rfl,rfl,fun w f=>Ah Aa rfl Aj⟩,.inr ⟨_,_,rfl,rfl,fun w f=>Ah Aa rfl Aj⟩,.inr ⟨_,_,rfl,rfl,fun w f=>AE Aa 0 rfl rfl rfl Aj⟩,.inl rfl,.inr ⟨_,_,rfl,rfl,fun w f=>AE Aa 1 rfl rfl rfl Aj⟩,.inl rfl,.inl rfl,trivial⟩ ?_
 refine FY [(36,AF bb)] (AL 2 rfl (AL 1 rfl AV)) rfl (.cons rfl rfl .nil) ?_;refine Dp (By (· ∈ Aw s.gs) (Aw s.gs).length) (fun _=>False) rfl Tryz.call33 (fun w1 g1=>(Lj (g1.own _ (Af (i:=3) rfl)).1).mono fun e w' ⟨r,e1,e2,e3⟩=>⟨r,e1,e2,Sj g1 e3⟩) (fun v8 F8 w8 hF8 hv8=>?_);obtain ⟨a8,n8,c8,rfl⟩:=CT hv8;refine Ag ⟨_,rfl,(fun u h=>by cases h),?_⟩;refine FY [(37,Bz a8 n8 c8),(38,Bz a6 n6 c6)] (AL 3 rfl (AL 2 rfl AV)) rfl (.cons rfl rfl (.cons rfl rfl .nil)) ?_;refine Dp (By (fun x=>x ∈ Aw s.gs/\¬ x ∈ qs) ((Aw s.gs).length + i)) (fun _=>False) rfl Tryz.call48 (fun w1 g1=>QM w1 (fun k hk=>ET g1 hk) (Vp.fact (p:=By (· ∈ Aw s.gs) (Aw s.gs).length) g1 0 rfl hF8) (g1.own _ (Af (i:=1) rfl)).1 (by omega)) (fun v F13 w1 hF13 hv=>?_);obtain ⟨ar,nr,cr,rfl⟩:=CT hv;refine Ag ⟨_,rfl,(fun u h=>by cases h),?_⟩;refine FY [(32,AF bb),(39,Bz ar nr cr)] (AL 4 rfl (AL 3 rfl AV)) rfl (.cons rfl rfl (.cons rfl rfl .nil)) ?_;refine Ij 5 rfl Tryz.call36 rfl (fun w1 g1=>(OJ (g1.own _ (Af (i:=5) rfl)).1 (g1.own _ (Af (i:=5) rfl)).2.2 (s:=sA) (Bd:=(Aw s.gs).length + i) (Ew (fun y=>by rw [hsA,decide_eq_true_iff]) (Nat.le_refl _) (g1.own _ (Af (i:=0) rfl)).1) (fun k hk hF=>g1.dis 0 5 rfl rfl rfl rfl hk hF) (by omega)).mono fun e w' ⟨A3,C3,he,Fb2,k1,k2,k3⟩=>⟨_,_,Fb2,_,_,_,_,_,he,k3,k1,k2,_,rfl,?_⟩);have hsz:=g1.size;have hFb2:∀ k,Fb2 k->F k \/ w.heap.size <= k:=fun k hk=>(k2 k hk).elim (fun h=>.inl (hFb k h)) fun h=>.inr (by omega);rw [hrm];refine Ag ⟨_,rfl,(fun u h=>by cases h),?_⟩
 refine R3 [(0,AF sb),(1,.int .i64 now),(2,.slice qa i qc)] (AL 5 rfl (AL 4 rfl AV)) (by repeat (first |exact Bc.nil |refine Bc.cons rfl ?_)) ?_;refine Gy (fun w' hw=>Hp.less (o':=[.blk sb (Gd bb s) true,.rep (fun w=>(DJ bb s.f s.m (s.keep_ qs).gs s.last).at_ w Fb2 (.bool true)) Fb2 true,.rep (fun w=>((Az Em).vp ql).at_ w Fq (.slice qa i qc)) Fq false]) hw (by repeat (first |exact Au.nil |refine Au.keep ?_ |refine Au.dropR ?_ |refine Au.dropB (by first |assumption |omega) ?_ |refine Au.dropW (Nat.le_refl _) ?_))) ?_
 have fin:∀ (s':Bo) (Fb' Fv:Nat->Prop) (w':World) (v:Value),Hp w w' [.blk sb (Gd bb s') true,.rep (fun w=>(DJ bb s'.f s'.m s'.gs s'.last).at_ w Fb' (.bool true)) Fb' true,.rep (fun w=>(Ik.vp (s.told now ql)).at_ w Fv v) Fv false]->Ep s'->(∀ k,Fb' k->F k \/ w.heap.size <= k)->(∀ k,Fv k->w.heap.size <= k)->s.tick now ql=s'->
  ∃ (v':Value) (Fv F':Nat->Prop),Ending.returned v= .returned v'/\(∀ k,Fv k->w.heap.size <= k)/\(∀ k,F k->F' k)/\(∀ k,F' k->F k \/ w.heap.size <= k)/\Hp w w' [.rep (fun w=>(Ik.vp (s.told now ql)).at_ w Fv v') Fv false,.rep (fun w=>(Io sb (s.tick now ql)).at_ w F' (.bool true)) F' true]:=fun s' Fb' Fv w' v hw hok' hFb' hFv e=>by
  rw [e]
  obtain ⟨F',j1,j2,j3⟩:=HI (F0:=F) (ol:=[.rep (fun w=>(Ik.vp (s.told now ql)).at_ w Fv v) Fv false]) hw hok' hF (fun e he k hk=>by
   rw [List.mem_singleton] at he;subst he
   exact hFv k hk) (.inl hFsb) hFb'
  exact ⟨_,Fv,F',rfl,hFv,j1,j2,j3.pm [1,0] rfl rfl rfl⟩
 have hokk:Ep (s.keep_ qs):=⟨hok.conf,hok.ep,hok.inc,hok.lim,hok.tm,hok.tr⟩
 have htrk:∀ g ∈ (s.keep_ qs).gs,g.tries < 1099511627776:=fun g hg=>by
  obtain ⟨x,hx,rfl⟩:=Gg hg;exact htr x hx
 repeat (first |refine Ai ?_ |refine Ab ?_ |refine Ag ?_ |refine Ae Aa rfl ?_ |refine An Aa 0 rfl rfl rfl ?_)
 refine CK rfl (fun h1=>?_) (fun h1=>?_)
 ·have hop:s.op=false:=by simpa using h1
  have htk:s.tick now ql=(s.keep_ qs).try_ now:=by unfold Bo.tick;rw [if_neg (by rw [hop];decide),hqs]
  have hto:s.told now ql=if s.tm <= now then [(1,[])] else []:=by unfold Bo.told;rw [if_neg (by rw [hop];decide)]
  repeat (first |refine Ai ?_ |refine Ab ?_ |refine Ae Aa rfl ?_)
  refine A7 rfl Tryz.call49 (fun w1 g1=>(Mr (s:=s.keep_ qs) g1 hok.conf.1 hnow ⟨hok.tr.1,hstr⟩).mono fun e w' ⟨he,h9⟩=>⟨_,_,he,h9,?_⟩);repeat (first |refine Ag ?_)
  refine Ak rfl (fun h2=>?_) (fun h2=>?_)
  ·rw [if_pos (show s.tm <= now from h2)] at hto;repeat (first |refine Ai ?_ |refine Ab ?_ |refine BE (Bf Aa rfl rfl rfl rfl rfl rfl rfl) ?_)
   refine AO Aa rfl rfl rfl rfl rfl rfl rfl rfl rfl rfl rfl rfl (fun nb hnb=>?_);repeat (first |refine Ag ?_ |refine AI ?_ |refine AC ?_ |refine Ae Aa rfl ?_)
   refine AZ rfl rfl (fun w' hw=>?_);have o0:=hw.own _ (Af (i:=0) rfl);have h9:=hw.blkV hnb (Ik.vp [(1,[])]) (v:=.slice (some ⟨nb,0,none⟩) 1 1) (Kq (R:=N5) (F:=fun k=>k=nb) (css:=[[.int .u8 1,.slice none 0 0]]) (v:=.bool true) o0 (Ox (by decide)) rfl (by show 1 <= maxLen;decide)).val;refine fin ((s.keep_ qs).try_ now) Fb2 (fun k=>k=nb) w' (.slice (some ⟨nb,0,none⟩) 1 1) ?_ (hokk.try_ hnow hstr) hFb2 (fun k h=>by rw [h];exact hnb) htk;rw [Bo.try_same,hto];exact (h9.pm [1,2,0,3] rfl rfl rfl).less (by repeat (first |exact Au.nil |refine Au.keep ?_ |refine Au.dropR ?_))
  ·rw [if_neg (show ¬ s.tm <= now from h2)] at hto;repeat (first |refine Ai ?_ |refine Ab ?_ |refine Ag ?_ |refine Ad ?_ |refine AI ?_ |refine Ao ?_ |refine AC ?_ |refine Ae Aa rfl ?_)
   refine AZ rfl rfl (fun w' hw=>?_);refine fin ((s.keep_ qs).try_ now) Fb2 (fun _=>False) w' _ ?_ (hokk.try_ hnow hstr) hFb2 (fun k h=>h.elim) htk;rw [Bo.try_same,hto];exact ((Hp.none (hw.less (o':=[.blk sb (Gd bb ((s.keep_ qs).try_ now)) true,.rep (fun w=>(DJ bb s.f s.m (s.keep_ qs).gs s.last).at_ w Fb2 (.bool true)) Fb2 true]) (by repeat (first |exact Au.nil |refine Au.keep ?_ |refine Au.dropR ?_))) (p:=Ik.vp []) (v:=.slice none 0 0) (fun w=>Br.nil_.val) false).pm [1,2,0] rfl rfl rfl)
 ·have hop:s.op=true:=by simpa using h1
  have hkid:∀ x,x ∈ Aw (s.keep_ qs).gs->x ∈ Aw s.gs:=fun x hx=>by
   rw [show Aw (s.keep_ qs).gs=(Aw s.gs).filter fun n=>!!decide (n ∈ qs) from Ec _ _] at hx;exact (List.mem_filter.1 hx).1
  repeat (first |refine Ai ?_ |refine Ab ?_ |refine Ag ?_ |refine Ad ?_ |refine Ao ?_ |refine Ae Aa rfl ?_ |refine An Aa 0 rfl rfl rfl ?_)
  refine UJ 1 rfl rfl hnow htrk (fun d1 dn dc xs Fd Fb3 hFd hFb3 hdl=>⟨_,rfl,?_⟩);obtain ⟨DL,hDL⟩:∃ DL,DL=DB (s.keep_ qs).gs now:=⟨_,rfl⟩;rw [<-hDL] at hdl ⊢;obtain ⟨rfl,hxl⟩:=hdl;have hFb4:∀ k,Fb3 k->F k \/ w.heap.size <= k:=fun k hk=>(hFb3 k hk).elim (hFb2 k) .inr
  have hDb:DL.length <= s.gs.length:=by
   have h1:(DB (s.keep_ qs).gs now).length <= (s.keep_ qs).gs.length:=by unfold DB;rw [List.length_map];exact H6
   rw [<-hDL] at h1;have h2:(s.keep_ qs).gs.length <= s.gs.length:=Nat.le_trans (List.length_filter_le _ _) (by rw [List.length_map];exact Nat.le_refl _);omega
  repeat (first |refine Aq ?_ |refine Ag ?_ |refine Ae Aa rfl ?_)
  refine AM (ι:=Nat × Option Addr × Nat) (fun j=>[(0,AF sb),(1,.int .i64 now),(2,.slice qa i qc),(10,.slice j.2.1 j.1 j.2.2),(56,.slice d1 DL.length dc),(57,.int .i64 (DL.length:Int)),(58,.int .i64 (j.1:Int))])
   (fun j=>[.row w.heap.size (.slice j.2.1 j.1 j.2.2) 61 2 j.1 ((xs.take j.1).map cellO).flatten,.rep (fun w=>(DI d1 DL.length dc xs DL).at_ w Fd (.bool true)) Fd false,.blk sb (Gd bb s) true,.rep (fun w=>(DJ bb s.f s.m (EQ s.f s.m now (s.keep_ qs).gs) s.last).at_ w Fb3 (.bool true)) Fb3 true,.rep (fun w=>((Az Em).vp ql).at_ w Fq (.slice qa i qc)) Fq false])
   (fun j=>j.1 <= DL.length) (fun j=>DL.length - j.1) (0,none,0) (Nat.zero_le _) (by repeat (first |exact As.nil |refine As.cons rfl ?_)) (fun w' hw=>hw.nilRow 61 2) ?_
  rintro ⟨j,A1,C1⟩ hj;dsimp only at hj ⊢;repeat (first |refine Ai ?_ |refine Ab ?_ |refine Ag ?_ |refine Ae Aa rfl ?_)
  refine Ak rfl (fun hlt1=>?_) (fun hge1=>?_)
  ·have hin:j < DL.length:=by omega
   obtain ⟨⟨xa,xn,xc⟩,hx⟩:∃ x,xs[j]? =some x:=⟨_,List.getElem?_eq_getElem (by omega)⟩;refine EY (X:=∃ b off,d1=some ⟨b,off,none⟩) (fun w1 g1=>DI.addr (g1.own _ (Af (i:=1) rfl)).1 (by omega)) (fun ⟨b5,o5,e5⟩=>?_);subst e5;repeat (first |refine Ai ?_ |refine Ab ?_ |refine Aq ?_ |refine Ad ?_ |refine Ao ?_)
   refine BE (Bs (sz:=1) Aa rfl rfl rfl rfl rfl rfl rfl (j:=j) rfl hin) ?_;refine Bh Aa (v:=.slice xa xn xc) rfl rfl (fun w1 h1=>by rw [Nat.mul_one];exact DI.cell (h1.own _ (Af (i:=1) rfl)).1 hx) ?_;repeat (first |refine Ag ?_ |refine Ae Aa rfl ?_ |refine Ap ?_ |refine BE (Bf Aa rfl rfl rfl rfl rfl rfl rfl) ?_)
   refine AO Aa rfl rfl rfl rfl rfl rfl rfl rfl rfl rfl rfl rfl (fun nb hnb=>?_)
   refine AT (ty:=0) (k:=1) (news:=[.int .u8 3,.slice xa xn xc]) Aa 1 (sz:=2) rfl rfl rfl rfl rfl rfl rfl rfl rfl (by decide) (fun w' hw=>Sl.of_blk (hw.own _ (Af (i:=0) rfl)) rfl (fun j u hu=>by rw [Nat.zero_add];exact hu)) (fun u hu=>by
    simp only [List.mem_cons,List.not_mem_nil,or_false] at hu
    rcases hu with rfl |rfl<;>rfl) (by simp only [maxLen];omega) (by show (_ + _) * 32 <= _;omega) rfl (fun A' C' hA' hC'=>⟨_,rfl,?_⟩)
   repeat (first |refine Ab ?_ |refine Ag ?_ |refine Ad ?_ |refine Am ?_ |refine AD Aa rfl (by omega) ?_ |refine Ae Aa rfl ?_)
   refine ⟨(j + 1,A',C'),hin,(by repeat (first |exact As.nil |refine As.cons rfl ?_)),fun w' hw=>?_,by dsimp only;omega⟩
   have e9:((xs.take (j + 1)).map cellO).flatten=((xs.take j).map cellO).flatten ++ [.int .u8 3,.slice xa xn xc]:=by
    rw [List.getElem?_eq_some_iff] at hx;obtain ⟨hx1,hx2⟩:=hx;rw [List.take_succ_eq_append_getElem hx1,hx2,List.map_append,List.flatten_append];rfl
   dsimp only;rw [e9];exact hw.less (by repeat (first |exact Au.nil |refine Au.keep ?_ |refine Au.dropB (by first |assumption |omega) ?_))
  have hje:j=DL.length:=by omega
  subst hje;rw [List.take_of_length_le (by omega)];repeat (first |refine Ai ?_ |refine Ab ?_ |refine Ad ?_ |refine AB ?_ |refine Al ?_ |refine AH ?_ |refine Ae Aa rfl ?_)
  obtain ⟨s2,hs2⟩:∃ t,t=(s.keep_ qs).due_ now:=⟨_,rfl⟩
  have hok2:Ep s2:=by rw [hs2];exact ⟨hok.conf,hok.ep,hok.inc,hok.lim,hok.tm,hok.tr⟩
  obtain ⟨FL,hFL⟩:∃ t,t=s2.batch now ql:=⟨_,rfl⟩
  refine RZ (L:=FL) rfl Tryz.call51 (fun w1 g1=>by
   rw [hFL,hs2]
   exact Qg (s:=(s.keep_ qs).due_ now) (hs2 ▸ hok2) (g1.own _ (Af (i:=2) rfl)) (g1.own _ (Af (i:=3) rfl)).1 (g1.own _ (Af (i:=3) rfl)).2.2 (Br.of_val (g1.own _ (Af (i:=4) rfl)).1) (by omega) hqz) (fun e1 en ec_ ys Ff hFf hel=>?_)
  obtain ⟨rfl,hyl⟩:=hel;have hFll:=II s2.p s2.q s2.lim (Aw s2.gs) ql;rw [show CR s2.p s2.q s2.lim (Aw s2.gs) ql=FL from hFL.symm] at hFll;repeat (first |refine Aq ?_ |refine Ag ?_ |refine Ae Aa rfl ?_)
  have hsl:=fun (j:Nat)=>Bo.sendAll_len now (FL.take j) s2
  have hs2g:s2.gs.length <= s.gs.length/\(Aw s2.gs).length <= (Aw s.gs).length/\s2.last=s.last:=by
   rw [hs2];refine ⟨?_,?_,rfl⟩
   ·show ((s.keep_ qs).gs.map _).length <= _;rw [List.length_map];exact Nat.le_trans (List.length_filter_le _ _) (by rw [List.length_map];exact Nat.le_refl _)
   ·show (Aw (EQ s.f s.m now (s.keep_ qs).gs)).length <= _;rw [GQ,show Aw (s.keep_ qs).gs=(Aw s.gs).filter fun n=>!!decide (n ∈ qs) from Ec _ _];exact List.length_filter_le _ _
  have e0:(DJ bb s.f s.m (EQ s.f s.m now (s.keep_ qs).gs) s.last)=DJ bb s.f s.m (s2.sendAll now (FL.take 0)).gs (s2.sendAll now (FL.take 0)).last:=by rw [hs2];rfl
  refine AM (ι:=Nat × Option Addr × Nat × (Nat->Prop)) (fun j=>[(0,AF sb),(1,.int .i64 now),(2,.slice qa i qc),(10,.slice j.2.1 (DL.length + j.1) j.2.2.1),(70,.slice e1 FL.length ec_),(71,.int .i64 (FL.length:Int)),(72,.int .i64 (j.1:Int))])
   (fun j=>[.rep (fun w=>(DI e1 FL.length ec_ ys FL).at_ w Ff (.bool true)) Ff false,.row w.heap.size (.slice j.2.1 (DL.length + j.1) j.2.2.1) 61 2 (DL.length + j.1) ((xs ++ ys.take j.1).map cellO).flatten,.rep (fun w=>(DI d1 DL.length dc xs DL).at_ w Fd (.bool true)) Fd false,.blk sb (Gd bb s) true,.rep (fun w=>(DJ bb s.f s.m (s2.sendAll now (FL.take j.1)).gs (s2.sendAll now (FL.take j.1)).last).at_ w j.2.2.2 (.bool true)) j.2.2.2 true])
   (fun j=>j.1 <= FL.length/\∀ k,j.2.2.2 k->F k \/ w.heap.size <= k) (fun j=>FL.length - j.1) (0,A1,C1,Fb3) ⟨Nat.zero_le _,hFb4⟩ (by repeat (first |exact As.nil |refine As.cons rfl ?_)) (fun w' hw=>?_) ?_
  ·rw [e0] at hw;dsimp only;rw [List.take_zero (l:=ys),List.append_nil];exact hw.less (by repeat (first |exact Au.nil |refine Au.keep ?_ |refine Au.dropR ?_))
  rintro ⟨j,A2,C2,Fj⟩ ⟨hj,hFj⟩;dsimp only at hj hFj ⊢;repeat (first |refine Ai ?_ |refine Ab ?_ |refine Ag ?_ |refine Ae Aa rfl ?_)
  refine Ak rfl (fun hlt1=>?_) (fun hge2=>?_)
  ·have hin:j < FL.length:=by omega
   obtain ⟨l',hl'⟩:∃ l',FL[j]? =some l':=⟨_,List.getElem?_eq_getElem hin⟩;obtain ⟨⟨ya,yn,yc⟩,hy⟩:∃ x,ys[j]? =some x:=⟨_,List.getElem?_eq_getElem (by omega)⟩;have hslj:=hsl j
   have htk:FL.take (j + 1)=FL.take j ++ [l']:=by
    rw [List.take_succ_eq_append_getElem hin];rw [List.getElem?_eq_getElem hin] at hl';rw [Option.some.inj hl']
   have hfl:(FL.take j).flatten.length + l'.length <= ql.length:=by
    have h1:((FL.take j).flatten ++ l').length <= FL.flatten.length:=by
     have h2:((FL.take (j + 1)).flatten).length <= FL.flatten.length:=by
      conv=>rhs;rw [<-List.take_append_drop (j + 1) FL,List.flatten_append,List.length_append]
      omega
     rw [htk,List.flatten_append] at h2;simpa using h2
    rw [List.length_append] at h1;omega
   have htl:(FL.take j).length=j:=by rw [List.length_take];omega
   rw [htl] at hslj;refine EY (X:=(∃ b off,e1=some ⟨b,off,none⟩)/\l'.length=yn) (fun w1 g1=>⟨DI.addr (g1.own _ (Af (i:=0) rfl)).1 (by omega),(DI.get (g1.own _ (Af (i:=0) rfl)).1 hy hl').len⟩) (fun ⟨⟨b5,o5,e5⟩,hyn⟩=>?_);subst e5 hyn;repeat (first |refine Ai ?_ |refine Ab ?_ |refine Aq ?_ |refine Ad ?_ |refine Ao ?_)
   refine BE (Bs (sz:=1) Aa rfl rfl rfl rfl rfl rfl rfl (j:=j) rfl hin) ?_;refine Bh Aa (v:=.slice ya l'.length yc) rfl rfl (fun w1 h1=>by rw [Nat.mul_one];exact DI.cell (h1.own _ (Af (i:=0) rfl)).1 hy) ?_;repeat (first |refine Ai ?_ |refine Ab ?_ |refine Ag ?_ |refine Ae Aa rfl ?_ |refine An Aa 3 rfl rfl rfl ?_)
   refine R0 4 (L:=l') rfl rfl (fun w1 g1=>⟨Ff,DI.get (g1.own _ (Af (i:=0) rfl)).1 hy hl',fun k hk hF=>g1.dis 0 4 rfl rfl rfl rfl hk hF⟩) hnow (by omega) (by omega) (by omega) (fun F7 hF7=>⟨_,rfl,?_⟩);repeat (first |refine Ag ?_ |refine Ae Aa rfl ?_ |refine Ap ?_ |refine BE (Bf Aa rfl rfl rfl rfl rfl rfl rfl) ?_)
   refine AO Aa rfl rfl rfl rfl rfl rfl rfl rfl rfl rfl rfl rfl (fun nb hnb=>?_)
   refine AT (ty:=0) (k:=1) (news:=[.int .u8 3,.slice ya l'.length yc]) Aa 2 (sz:=2) rfl rfl rfl rfl rfl rfl rfl rfl rfl (by decide) (fun w' hw=>Sl.of_blk (hw.own _ (Af (i:=0) rfl)) rfl (fun j u hu=>by rw [Nat.zero_add];exact hu)) (fun u hu=>by
    simp only [List.mem_cons,List.not_mem_nil,or_false] at hu
    rcases hu with rfl |rfl<;>rfl) (by simp only [maxLen];omega) (by show (_ + _) * 32 <= _;omega) rfl (fun A' C' hA' hC'=>⟨_,rfl,?_⟩)
   repeat (first |refine Ab ?_ |refine Ag ?_ |refine Ad ?_ |refine Am ?_ |refine AD Aa rfl (by omega) ?_ |refine Ae Aa rfl ?_)
   refine ⟨(j + 1,A',C',F7),⟨hin,fun k hk=>(hF7 k hk).elim (hFj k) .inr⟩,(by repeat (first |exact As.nil |refine As.cons rfl ?_)),fun w' hw=>?_,by dsimp only;omega⟩
   have e9:((xs ++ ys.take (j + 1)).map cellO).flatten=((xs ++ ys.take j).map cellO).flatten ++ [.int .u8 3,.slice ya l'.length yc]:=by
    rw [List.getElem?_eq_some_iff] at hy;obtain ⟨hy1,hy2⟩:=hy;rw [List.take_succ_eq_append_getElem hy1,hy2,<-List.append_assoc,List.map_append,List.flatten_append];rfl
   obtain ⟨q1,q2,_⟩:=Bo.sendAll_eq now (FL.take j) s2
   have e10:DJ bb s.f s.m (s2.sendAll now (FL.take (j + 1))).gs (s2.sendAll now (FL.take (j + 1))).last=DJ bb s.f s.m (B2 s.f s.m (s2.sendAll now (FL.take j)).gs (s2.sendAll now (FL.take j)).last now l').1 (B2 s.f s.m (s2.sendAll now (FL.take j)).gs (s2.sendAll now (FL.take j)).last now l').2.1:=by
    rw [htk,Bo.sendAll_snoc];show DJ bb s.f s.m (B2 (s2.sendAll now (FL.take j)).f (s2.sendAll now (FL.take j)).m _ _ now l').1 (B2 (s2.sendAll now (FL.take j)).f (s2.sendAll now (FL.take j)).m _ _ now l').2.1=_;rw [q1,q2,show s2.f=s.f by rw [hs2];rfl,show s2.m=s.m by rw [hs2];rfl]
   dsimp only;rw [e9,e10];exact hw.less (by repeat (first |exact Au.nil |refine Au.keep ?_ |refine Au.dropB (by first |assumption |omega) ?_))
  have hje:j=FL.length:=by omega
  subst hje;obtain ⟨s3,hs3⟩:∃ t,t=s2.sendAll now FL:=⟨_,rfl⟩;rw [List.take_length,<-hs3,List.take_of_length_le (show ys.length <= FL.length by omega)];obtain ⟨a1,a2,a3,a4,a5,a6,a7,a8,a9,a10⟩:=Bo.sendAll_eq now FL s2;rw [<-hs3] at a1 a2 a3 a4 a5 a6 a7 a8 a9 a10
  have e3:Gd bb s=Gd bb s3:=by
   unfold Gd;rw [a1,a2,a3,a4,a5,a6,a7,a8,a9,a10,hs2];rfl
  have hok3:Ep s3:=⟨by rw [a1,a2,a3,a4];exact hok2.conf,by rw [a5];exact hok2.ep,by rw [a7];exact hok2.inc,by rw [a8];exact hok2.lim,by rw [a9];exact hok2.tm,by rw [a10];exact hok2.tr⟩
  have hs3o:s.open_ now ql=s3:=by rw [hs3,hFL,hs2,hqs];rfl
  have hs3f:s3.f=s.f:=by rw [a1,hs2];rfl
  have hs3m:s3.m=s.m:=by rw [a2,hs2];rfl
  have hs3t:s3.tr=s.tr:=by rw [a10,hs2];rfl
  have hs3u:s3.tm=s.tm:=by rw [a9,hs2];rfl
  have hout:s.outs now ql=(DL ++ FL).map fun l=>((3:Int),l):=by rw [hDL,hFL,hs2,hqs];rfl
  have fin2:∀ (s4:Bo) (w':World) (A:Option Addr) (C:Nat) (ec:List (List Value)) (eo:List (Int × List Int)),(∀ F:Nat->Prop,(Cj N5 ec eo).at_ w' F (.bool true))->s.told now ql=s.outs now ql ++ eo->s.tick now ql=s4->Ep s4->DJ bb s4.f s4.m s4.gs s4.last=DJ bb s.f s.m s3.gs s3.last->
   Hp w w' [.blk sb (Gd bb s4) true,.rep (fun w=>(DI e1 FL.length ec_ ys FL).at_ w Ff (.bool true)) Ff false,.row w.heap.size (.slice A (DL.length + FL.length + eo.length) C) 61 2 (DL.length + FL.length + eo.length) ((xs ++ ys).map cellO ++ ec).flatten,.rep (fun w=>(DI d1 DL.length dc xs DL).at_ w Fd (.bool true)) Fd false,.rep (fun w=>(DJ bb s.f s.m s3.gs s3.last).at_ w Fj (.bool true)) Fj true]->
   ∃ (v':Value) (Fv F':Nat->Prop),Ending.returned (.slice A (DL.length + FL.length + eo.length) C)= .returned v'/\(∀ k,Fv k->w.heap.size <= k)/\(∀ k,F k->F' k)/\(∀ k,F' k->F k \/ w.heap.size <= k)/\Hp w w' [.rep (fun w=>(Ik.vp (s.told now ql)).at_ w Fv v') Fv false,.rep (fun w=>(Io sb (s.tick now ql)).at_ w F' (.bool true)) F' true]:=fun s4 w' A C ec eo hec hto htk hok4 ebo hw=>by
   obtain ⟨Fr,hFr,h1⟩:=(hw.pm [2,0,1,3,4] rfl rfl rfl).share (p:=JN w.heap.size 61 2 (DL.length + FL.length + eo.length) ((xs ++ ys).map cellO ++ ec).flatten) (fun h=>⟨h,fun k hk=>hk⟩)
   have h2:=(h1.pm [2,3,0,1,4] rfl rfl rfl).merge (Ψ:=fun w=>(Cj N5 ((xs ++ ys).map cellO ++ ec) (s.told now ql)).at_ w (fun k=>Ff k \/ Fd k) (.bool true)) (fun q1 q2=>by
    rw [hto,hout,List.map_append,List.map_append]
    exact Cj.append (Cj.append ((Cj _ _ _).mono (Xp q2) fun k hk=>.inr hk) ((Cj _ _ _).mono (Xp q1) fun k hk=>.inl hk)) (hec _)) (Vp.loc (p:=Cj _ _ _))
   have h3:=(h2.pm [1,0,2,3] rfl rfl rfl).merge (Ψ:=fun w=>(Ik.vp (s.told now ql)).at_ w (fun k=>Fr k \/ (Ff k \/ Fd k)) (.slice A (DL.length + FL.length + eo.length) C)) (fun q1 q2=>(Cj.slr (R:=N5) ((Cj _ _ _).mono q2 fun k hk=>.inr hk) q1.1 (by rw [hto,hout,List.length_append,List.length_map,List.length_append]) fun k _ hk=>.inl (q1.2 k hk)).val) (Vp.loc (p:=Ik.vp _));refine fin s4 Fj (fun k=>Fr k \/ (Ff k \/ Fd k)) w' _ ?_ hok4 hFj (fun k hk=>hk.elim (hFr k) fun h=>h.elim (hFf k) (hFd k)) htk;rw [ebo];exact h3.pm [1,2,0] rfl rfl rfl
  repeat (first |refine Ai ?_ |refine Ab ?_ |refine Aq ?_ |refine Ad ?_ |refine AB ?_ |refine Al ?_ |refine AH ?_ |refine Ae Aa rfl ?_ |refine An Aa 3 rfl rfl rfl ?_)
  refine Be (v:=.int .i64 ((Aw s3.gs).length:Int)) rfl Tryz.call53 (fun w1 g1=>MT (g1.own _ (Af (i:=4) rfl)).1) ?_;repeat (first |refine Ae Aa rfl ?_)
  refine FK (ι:=Bool) (fun b=>b=true ↔ s.busy now ql) (fun b=>[(0,AF sb),(1,.int .i64 now),(10,.slice A2 (DL.length + FL.length) C2),(89,.bool b)])
   (fun b=>[.blk sb (Gd bb s3) true,.rep (fun w=>(DI e1 FL.length ec_ ys FL).at_ w Ff (.bool true)) Ff false,.row w.heap.size (.slice A2 (DL.length + FL.length) C2) 61 2 (DL.length + FL.length) ((xs ++ ys).map cellO).flatten,.rep (fun w=>(DI d1 DL.length dc xs DL).at_ w Fd (.bool true)) Fd false,.rep (fun w=>(DJ bb s.f s.m s3.gs s3.last).at_ w Fj (.bool true)) Fj true]) ?_ ?_
  ·have hbusy:s.busy now ql ↔ (0 < ((Aw s3.gs).length:Int) \/ (ql.length:Int)=0):=by show (0 < ((Aw (s.open_ now ql).gs).length:Int) \/ _) ↔ _;rw [hs3o]
   refine BI rfl rfl (fun h4=>?_) (fun h4=>?_)
   ·repeat (first |refine Ag ?_ |refine Ae Aa rfl ?_ |refine Bn rfl rfl rfl ?_)
    exact ⟨true,⟨fun _=>hbusy.2 (.inl h4),fun _=>rfl⟩,(by repeat (first |exact As.nil |refine As.cons rfl ?_)),fun w hw=>by rw [<-e3];exact hw.pm [3,0,1,2,4] rfl rfl rfl⟩
   ·repeat (first |refine Ag ?_ |refine Ae Aa rfl ?_)
    exact ⟨_,⟨fun h=>hbusy.2 (.inr (by rw [hql];exact of_decide_eq_true h)),fun h=>decide_eq_true (by have:=(hbusy.1 h).resolve_left h4;rw [hql] at this;exact this)⟩,(by repeat (first |exact As.nil |refine As.cons rfl ?_)),fun w hw=>by rw [<-e3];exact hw.pm [3,0,1,2,4] rfl rfl rfl⟩
  intro b hb
  have hto0:s.told now ql=s.outs now ql ++ (if s.busy now ql then [] else if s.tm <= now then [(3,[])] else []):=by unfold Bo.told;rw [if_pos hop]
  have htk0:s.tick now ql=if s.busy now ql then s3.calm_ else s3.try_ now:=by
   unfold Bo.tick;rw [if_pos hop];by_cases h:s.busy now ql
   ·rw [if_pos h,if_pos h,hs3o]
   ·rw [if_neg h,if_neg h,hs3o]
  skip;refine CK rfl (fun h5=>?_) (fun h5=>?_)
  ·rw [if_pos (hb.1 h5)] at hto0 htk0;repeat (first |refine Ae Aa rfl ?_ |refine Ap ?_)
   refine A7 rfl Tryz.call54 (fun w1 g1=>(OI (s:=s3) g1).mono fun e w' ⟨he,h9⟩=>⟨_,_,he,h9,?_⟩);repeat (first |refine Ai ?_ |refine Ab ?_ |refine Ag ?_ |refine Ad ?_ |refine Am ?_ |refine AC ?_ |refine Ae Aa rfl ?_)
   exact AZ rfl rfl (fun w' hw=>fin2 s3.calm_ w' A2 C2 [] [] (fun F=>Cj.nil_) hto0 htk0 ⟨hok3.conf,hok3.ep,hok3.inc,hok3.lim,(show (0:Int) <= 0/\(0:Int) <= 2305843009213693952 by decide),(show (0:Int) <= 0/\(0:Int) <= 1099511627776 by decide)⟩ (by show DJ bb s3.f s3.m s3.gs s3.last=_;rw [hs3f,hs3m]) (by rw [List.append_nil];exact hw))
  ·have hnb:¬ s.busy now ql:=fun h=>by have:=hb.2 h;rw [h5] at this;cases this
   rw [if_neg hnb] at hto0 htk0;repeat (first |refine Ai ?_ |refine Ab ?_ |refine Ae Aa rfl ?_)
   refine A7 rfl Tryz.call49 (fun w1 g1=>(Mr (s:=s3) g1 hok3.conf.1 hnow ⟨hok3.tr.1,by rw [hs3t];exact hstr⟩).mono fun e w' ⟨he,h9⟩=>⟨_,_,he,h9,?_⟩);repeat (first |refine Ag ?_ |refine Ae Aa rfl ?_)
   refine Ak rfl (fun h6=>?_) (fun h6=>?_)
   ·rw [if_pos (show s.tm <= now by rw [<-hs3u];exact h6)] at hto0;repeat (first |refine Ae Aa rfl ?_ |refine Ap ?_ |refine BE (Bf Aa rfl rfl rfl rfl rfl rfl rfl) ?_)
    refine AO Aa rfl rfl rfl rfl rfl rfl rfl rfl rfl rfl rfl rfl (fun nb hnb2=>?_)
    refine AT (ty:=0) (k:=1) (news:=[.int .u8 3,.slice none 0 0]) Aa 3 (sz:=2) rfl rfl rfl rfl rfl rfl rfl rfl rfl (by decide) (fun w' hw=>Sl.of_blk (hw.own _ (Af (i:=0) rfl)) rfl (fun j u hu=>by rw [Nat.zero_add];exact hu)) (fun u hu=>by
     simp only [List.mem_cons,List.not_mem_nil,or_false] at hu
     rcases hu with rfl |rfl<;>rfl) (by simp only [maxLen];omega) (by show (_ + _) * 32 <= _;omega) rfl (fun A' C' hA' hC'=>⟨_,rfl,?_⟩)
    repeat (first |refine Ai ?_ |refine Ab ?_ |refine Ag ?_ |refine Ad ?_ |refine Am ?_ |refine AC ?_ |refine Ae Aa rfl ?_)
    exact AZ rfl rfl (fun w' hw=>fin2 (s3.try_ now) w' A' C' [[.int .u8 3,.slice none 0 0]] [(3,[])] (fun F=>Ox (by decide)) hto0 htk0 (hok3.try_ hnow (by rw [hs3t];exact hstr)) (by rw [Bo.try_same,hs3f,hs3m]) (by
     rw [List.flatten_append]
     exact hw.less (by repeat (first |exact Au.nil |refine Au.keep ?_ |refine Au.dropB (by first |assumption |omega) ?_))))
   ·rw [if_neg (show ¬ s.tm <= now by rw [<-hs3u];exact h6)] at hto0;repeat (first |refine Ai ?_ |refine Ab ?_ |refine Ag ?_ |refine Ad ?_ |refine Am ?_ |refine Ao ?_ |refine AC ?_ |refine Ae Aa rfl ?_)
    exact AZ rfl rfl (fun w' hw=>fin2 (s3.try_ now) w' A2 C2 [] [] (fun F=>Cj.nil_) hto0 htk0 (hok3.try_ hnow (by rw [hs3t];exact hstr)) (by rw [Bo.try_same,hs3f,hs3m]) (by rw [List.append_nil];exact hw))
end
section
variable {n:Nat} {w0:World} {all:Array Oper} {os:List Oper} {o:Oper} {l:FL} {ol:OL} {K:FL->OL->Prop} {Q:B3} {d sb:Nat} {s:Bo} {F:Nat->Prop}
theorem RW {f m p q ep:Int} (hc:cR f m p q/\ep ≠ 0) (he:AS .u64 ep) (hs:BL n all (AP l) o=some (d,23,[.agg #[.int .i64 f,.int .i64 m,.int .i64 p,.int .i64 q],.int .u64 ep]))
 (k:∀ sb (F:Nat->Prop),(∀ k,F k->w0.heap.size <= k)->S Tryz.prog n w0 all os ((d,.tuple #[AF sb,.int .i64 0])::l) (.rep (fun w=>(Io sb ⟨f,m,p,q,ep,false,0,0,0,0,[],0⟩).at_ w F (.bool true)) F true::ol) K Q):S Tryz.prog n w0 all (o::os) l ol K Q:=
 Jr hs Tryz.call23 fun w1 h1=>(Va f m p q ep he w1).mono fun e w' h=>by
  rw [if_pos hc] at h;obtain ⟨sb,F,e1,e2,e3⟩:=h;exact ⟨_,_,F,e1,e3,e2,fun hN=>k sb F hN⟩
def PU (w:World) (F:Nat->Prop) (a:Option Addr) (n c:Nat) (l:List (Int × Int)):Prop:=∃ A0:Nat->Prop,Br Em w A0 a n c l/\∀ k,A0 k->¬ F k
theorem PU.nil {w:World} {F:Nat->Prop}:PU w F none 0 0 []:=⟨fun _=>False,Br.nil_,fun k h=>h.elim⟩
theorem WE (i:Nat) {now:Int} {qa:Option Addr} {qn qc:Nat} (ql:List (Int × Int)) (hs:BL n all (AP l) o=some (d,24,[AF sb,.int .i64 now,.slice qa qn qc])) (hi:B9 ol i=some (.rep (fun w=>(Io sb s).at_ w F (.bool true)) F true)) (hN:∀ k,F k->w0.heap.size <= k)
 (hq:∀ w,Hp w0 w ol->PU w F qa qn qc ql) (hnow:0 <= now/\now <= 1152921504606846976) (hqz:∀ x ∈ ql,0 <= x.2/\x.2 <= 1099511627776) (hb1:(Aw s.gs).length + qn <= 60000) (hb2:s.gs.length + qn < 59999) (hb3:s.last + (qn:Int) + 1 <= 1099511627776) (htr:∀ g ∈ s.gs,g.tries < 1099511627776) (hstr:s.tr < 1099511627776)
 (k:∀ (v:Value) (Fv F':Nat->Prop),(∀ k,Fv k->w0.heap.size <= k)->(∀ k,F' k->w0.heap.size <= k)->∃ ol',Dc ol i (.rep (fun w=>(Io sb (s.tick now ql)).at_ w F' (.bool true)) F' true)=some ol'/\S Tryz.prog n w0 all os ((d,v)::l) (.rep (fun w=>(Ik.vp (s.told now ql)).at_ w Fv v) Fv false::ol') K Q):S Tryz.prog n w0 all (o::os) l ol K Q:=
 A7 hs Tryz.call24 fun w g=>by
  obtain ⟨A0,h1,h2⟩:=hq w g
  exact (Om (g.own _ (Af hi)).1 (g.own _ (Af hi)).2.2 hnow h1 h2 hqz hb1 hb2 hb3 htr hstr).mono fun e w' ⟨v,Fv,F',he,hv,g1,g2,g3⟩=>by
   obtain ⟨ol',e1,e2⟩:=k v Fv F' (fun j hj=>Nat.le_trans g.size (hv j hj)) (fun j hj=>(g2 j hj).elim (hN j) (Nat.le_trans g.size));exact ⟨_,_,he,g.graftTV i hi g3 hv g1 g2 e1,e2⟩
def XE (w:World) (F:Nat->Prop) (x:Fm) (rl:List BS):Prop:=∃ A0:Nat->Prop,Br Bg w A0 x.ra x.rn x.rc rl/\∀ k,A0 k->¬ F k
theorem N3 (i:Nat) {now:Int} (x:Fm) (rl:List BS) (hs:BL n all (AP l) o=some (d,17,[AF sb,.int .i64 now,.agg ⟨x.cs⟩])) (hi:B9 ol i=some (.rep (fun w=>(Io sb s).at_ w F (.bool true)) F true)) (hN:∀ k,F k->w0.heap.size <= k)
 (hx:∀ w,Hp w0 w ol->XE w F x rl) (hn:x.rn <= 800000) (hcum:AS .u64 x.cum) (hinc:AS .u64 x.inc) (hlim:AS .u64 x.lim)
 (k:∀ (a:Option Addr) (ln c:Nat) (Fv F':Nat->Prop),(∀ k,Fv k->w0.heap.size <= k)->(∀ k,F' k->w0.heap.size <= k)->∃ ol',Dc ol i (.rep (fun w=>(Io sb (s.rcv x rl)).at_ w F' (.bool true)) F' true)=some ol'/\S Tryz.prog n w0 all os ((d,.tuple #[Bz a ln c,.bool (decide (Ch s x))])::l) (.rep (fun w=>(By (fun y=>Ch s x/\EC x.cum rl y) (x.rn + 1)).at_ w Fv (Bz a ln c)) Fv false::ol') K Q):S Tryz.prog n w0 all (o::os) l ol K Q:=
 A7 hs Tryz.call17 fun w g=>by
  obtain ⟨A0,h1,h2⟩:=hx w g
  exact (Ni (g.own _ (Af hi)).1 (g.own _ (Af hi)).2.2 now x h1 h2 hn hcum hinc hlim).mono fun e w' ⟨v,Fv,F',he,hv,g1,g2,g3⟩=>by
   obtain ⟨a,ln,c,rfl⟩:=CT (g3.own _ (Af (i:=0) rfl)).1;obtain ⟨ol',e1,e2⟩:=k a ln c Fv F' (fun j hj=>Nat.le_trans g.size (hv j hj)) (fun j hj=>(g2 j hj).elim (hN j) (Nat.le_trans g.size));exact ⟨_,_,he,g.graftTV i hi g3 hv g1 g2 e1,e2⟩
end
set_option maxHeartbeats 1000000 in
theorem PH (a b c e:Int) (ha:AS .u16 a) (hb:AS .u16 b) (hc:AS .u8 c) (he:AS .u8 e) (w:World):Calls Tryz.prog 8 #[.int .u16 a,.int .u16 b,.int .u8 c,.int .u8 e] w fun x w'=>x= .returned (.agg #[.int .i64 (1 + a % 20),.int .i64 (1 + a % 20 + b % 200),.int .i64 (1 + c % 8),.int .i64 (1 + e % 20)])/\Below w.heap.size w w':=by
 refine Q9 Tryz.func8 rfl rfl (Hp.refl w) ?_;have ha':=Gr ha;have hb':=Gr hb;have hc':=Dv hc;have he':=Dv he;repeat (first |refine Ai ?_ |refine Ab ?_)
 refine AY Aa rfl (fun b8 hb8=>?_);repeat (first |refine Ai ?_ |refine Ab ?_ |refine Ag ?_ |refine Ae Aa rfl ?_)
 refine BE (Er rfl rfl rfl (by decide) ha'.1) ?_;repeat (first |refine AD Aa rfl (by omega) ?_ |refine BE (Bf Aa rfl rfl rfl rfl rfl rfl rfl) ?_)
 refine AY Aa rfl (fun b9 hb9=>?_);repeat (first |refine Ai ?_ |refine Ab ?_ |refine Ag ?_ |refine Ae Aa rfl ?_ |refine An Aa 0 rfl rfl rfl ?_ |refine Ax Aa 0 rfl rfl rfl rfl rfl rfl ?_)
 refine BE (Er rfl rfl rfl (by decide) hb'.1) ?_;repeat (first |refine Ai ?_ |refine Ab ?_ |refine Ag ?_ |refine AD Aa rfl (by omega) ?_ |refine Ae Aa rfl ?_ |refine An Aa 0 rfl rfl rfl ?_ |refine Ax Aa 0 rfl rfl rfl rfl rfl rfl ?_)
 refine BE (Er rfl rfl rfl (by decide) hc'.1) ?_;repeat (first |refine AD Aa rfl (by omega) ?_ |refine Ae Aa rfl ?_)
 refine BE (Er rfl rfl rfl (by decide) he'.1) ?_;repeat (first |refine Ag ?_ |refine AC ?_ |refine AD Aa rfl (by omega) ?_ |refine Ax Aa 1 rfl rfl rfl rfl rfl rfl ?_ |refine BE (Bf Aa rfl rfl rfl rfl rfl rfl rfl) ?_)
 exact AZ rfl (CD Aa 1 rfl rfl rfl rfl) (fun w' hw=>⟨rfl,hw.below (by repeat (first |exact Ar |refine AA (by first |assumption |omega) ?_))⟩)
def O1 (b off:Nat) (k:Int) (x:SX) (l:List Int):Vp:=
 ⟨fun w A _=>(w.cell? ⟨b,off,none⟩=some (.int .u8 k)/\w.cell? ⟨b,off + 1,none⟩=some x.v)/\(A b/\b < w.heap.size)/\Br (A8 .u64) w A x.a x.n x.c l,fun {w w' A B v} ⟨⟨h1,h2⟩,⟨h3,h4⟩,h5⟩ hk=>by
  have e:=(hk b h3 h4).1;have h6:=Array.getElem?_eq_getElem h4;have h7:b < w'.heap.size:=AU (e.trans h6)
  exact ⟨⟨(World.cell?_of_block (w:=w) (a:=⟨b,off,none⟩) e).trans h1,(World.cell?_of_block (w:=w) (a:=⟨b,off + 1,none⟩) e).trans h2⟩,⟨(hk b h3 h4).2,h7⟩,h5.keep hk⟩⟩
theorem XV {w:World} {A:Nat->Prop} {v:Value} {k:Int} {l:List Int} (h:(Ik.vp [(k,l)]).at_ w A v) (hA:∀ k,A k->k < w.heap.size):∃ b off c x,v= .slice (some ⟨b,off,none⟩) 1 c/\(O1 b off k x l).at_ w A (.bool true):=by
 obtain ⟨a,n,c,rfl,h1⟩:=Br.form h;have hl:=h1.len;obtain rfl:n=1:=hl.symm;obtain ⟨b,off,e,hb⟩:=h1.blk (by decide);subst e;obtain ⟨cs,h2,h3,_,h4,_⟩:=h1.at_ (i:=0) (show 0 < 1 by decide);obtain ⟨c1,c2,rfl,⟨rfl,h5⟩,h6⟩:=h3;obtain ⟨xa,xn,xc,rfl,h7⟩:=h6;have h8:=h4 0 _ rfl;have h9:=h4 1 _ rfl;rw [Nat.zero_mul,Nat.add_zero] at h8 h9;exact ⟨b,off,c,⟨xa,xn,xc⟩,rfl,⟨h8,h9⟩,⟨hb,hA b hb⟩,h7⟩
theorem Ux {w:World} {b:Nat} {e:TypeId} {fz:Nat × Nat} {l:List (Int × Int)} (h:w.heap[b]? =some (.cells ⟨(l.map EV).flatten⟩ e fz)) (hok:∀ x ∈ l,Vi x) (hm:l.length <= maxLen):Br Em w (fun k=>k=b) (some ⟨b,0,none⟩) l.length l.length l:=
 Kq (v:=.bool true) h ⟨by rw [List.length_map],fun i cs x hc hx=>by
  rw [List.getElem?_map,hx] at hc;cases hc
  exact (EN.iff _ _ _ _).2 ⟨rfl,hok x (List.mem_of_getElem? hx)⟩⟩ rfl hm
section
variable {n:Nat} {w0:World} {all:Array Oper} {os:List Oper} {o:Oper} {l:FL} {ol:OL} {K:FL->OL->Prop} {Q:B3} {d sb:Nat} {s:Bo} {F:Nat->Prop}
theorem OV (i:Nat) {now:Int} {qa:Option Addr} {qn qc:Nat} (ql:List (Int × Int)) {k1:Int} {l1:List Int} (hs:BL n all (AP l) o=some (d,24,[AF sb,.int .i64 now,.slice qa qn qc])) (hi:B9 ol i=some (.rep (fun w=>(Io sb s).at_ w F (.bool true)) F true)) (hN:∀ k,F k->w0.heap.size <= k)
 (hq:∀ w,Hp w0 w ol->PU w F qa qn qc ql) (hnow:0 <= now/\now <= 1152921504606846976) (hqz:∀ x ∈ ql,0 <= x.2/\x.2 <= 1099511627776) (hb1:(Aw s.gs).length + qn <= 60000) (hb2:s.gs.length + qn < 59999) (hb3:s.last + (qn:Int) + 1 <= 1099511627776) (htr:∀ g ∈ s.gs,g.tries < 1099511627776) (hstr:s.tr < 1099511627776) (ht:s.told now ql= [(k1,l1)])
 (k:∀ b off c x (Fv F':Nat->Prop),(∀ k,Fv k->w0.heap.size <= k)->(∀ k,F' k->w0.heap.size <= k)->∃ ol',Dc ol i (.rep (fun w=>(Io sb (s.tick now ql)).at_ w F' (.bool true)) F' true)=some ol'/\S Tryz.prog n w0 all os ((d,.slice (some ⟨b,off,none⟩) 1 c)::l) (.rep (fun w=>(O1 b off k1 x l1).at_ w Fv (.bool true)) Fv false::ol') K Q):S Tryz.prog n w0 all (o::os) l ol K Q:=
 A7 hs Tryz.call24 fun w g=>by
  obtain ⟨A0,h1,h2⟩:=hq w g
  exact (Om (g.own _ (Af hi)).1 (g.own _ (Af hi)).2.2 hnow h1 h2 hqz hb1 hb2 hb3 htr hstr).mono fun e w' ⟨v,Fv,F',he,hv,g1,g2,g3⟩=>by
   rw [ht] at g3;have o0:=g3.own _ (Af (i:=0) rfl);obtain ⟨b,off,c,x,rfl,hx⟩:=XV o0.1 o0.2.2;have g4:=g3.mapI 0 rfl (Ψ:=fun w=>(O1 b off k1 x l1).at_ w Fv (.bool true)) (fun _=>hx) (Vp.loc (p:=O1 _ _ _ _ _)) rfl;obtain ⟨ol',e1,e2⟩:=k b off c x Fv F' (fun j hj=>Nat.le_trans g.size (hv j hj)) (fun j hj=>(g2 j hj).elim (hN j) (Nat.le_trans g.size));exact ⟨_,_,he,g.graftTV i hi g4 hv g1 g2 e1,e2⟩
end
set_option maxHeartbeats 4000000 in
theorem NV (w:World):Calls Tryz.prog 7 #[] w fun e w'=>e= .returned (.bool true)/\Below w.heap.size w w':=by
 refine Ra Tryz.func7 rfl (Hp.refl w) ?_;repeat (first |refine Ai ?_ |refine Ab ?_ |refine Ag ?_ |refine Ae Aa rfl ?_ |refine BE (Bf Aa rfl rfl rfl rfl rfl rfl rfl) ?_)
 refine RW (by decide) (by decide) rfl (fun sb F0 hN0=>?_);repeat (first |refine Ai ?_ |refine Ab ?_ |refine Ag ?_ |refine Ae Aa rfl ?_)
 refine BE (CS Aa rfl rfl rfl rfl rfl) ?_;repeat (first |refine Ag ?_ |refine Ae Aa rfl ?_)
 refine AG rfl ?_;repeat (first |refine Ai ?_ |refine Ab ?_ |refine Ad ?_ |refine Ao ?_ |refine Ae Aa rfl ?_)
 refine OV 0 [] rfl rfl hN0 (fun w1 g1=>PU.nil) (by decide) (fun x h=>by cases h) (by decide) (by decide) (by decide) (fun g h=>by cases h) (by decide) (show Bo.told ⟨2,9,5,9,1,false,0,0,0,0,[],0⟩ 0 []= [(1,[])] from rfl) (fun b1 o1 c1 x1 F1 G1 hF1 hG1=>⟨_,rfl,?_⟩);rw [show Bo.tick ⟨2,9,5,9,1,false,0,0,0,0,[],0⟩ 0 []=⟨2,9,5,9,1,false,0,0,2,1,[],0⟩ from rfl];repeat (first |refine Ai ?_ |refine Ab ?_ |refine Ag ?_ |refine Ae Aa rfl ?_ |refine BE (Bf Aa rfl rfl rfl rfl rfl rfl rfl) ?_)
 refine N3 1 ⟨2,0,1,1,0,0,2,none,0,0,none,0,0⟩ [] rfl rfl hG1 (fun w1 g1=>⟨fun _=>False,Br.nil_,fun k h=>h.elim⟩) (by decide) (by decide) (by decide) (by decide) (fun a2 n2 c2 F2 G2 hF2 hG2=>⟨_,rfl,?_⟩);rw [show Bo.rcv ⟨2,9,5,9,1,false,0,0,2,1,[],0⟩ ⟨2,0,1,1,0,0,2,none,0,0,none,0,0⟩ []=⟨2,9,5,9,1,true,1,2,0,0,[],0⟩ from rfl,show decide (Ch ⟨2,9,5,9,1,false,0,0,2,1,[],0⟩ ⟨2,0,1,1,0,0,2,none,0,0,none,0,0⟩)=true from by decide];repeat (first |refine Ae Aa rfl ?_)
 refine AY Aa rfl (fun b4 hb4=>?_);repeat (first |refine Ai ?_ |refine Ab ?_ |refine Ag ?_ |refine Ae Aa rfl ?_ |refine Ax Aa 0 rfl rfl rfl rfl rfl rfl ?_ |refine BE (Bf Aa rfl rfl rfl rfl rfl rfl rfl) ?_)
 refine AO Aa rfl rfl rfl rfl rfl rfl rfl rfl rfl rfl rfl rfl (fun nq hnq=>?_);refine OV 4 [(1,0),(2,0),(3,0)] rfl rfl hG2 (fun w1 g1=>⟨fun k=>k=nq,Ux (l:=[(1,0),(2,0),(3,0)]) (g1.own _ (Af (i:=0) rfl)) (by show ∀ x ∈ [((1:Int),(0:Int)),(2,0),(3,0)],AS .u64 x.1/\AS .i64 x.2;decide) (by show 3 <= maxLen;decide),fun k hk hF=>g1.dis 0 4 rfl rfl rfl rfl (by rw [hk];exact rfl) hF⟩) (by decide) (by decide) (by decide) (by decide) (by decide) (fun g h=>by cases h) (by decide) (show Bo.told ⟨2,9,5,9,1,true,1,2,0,0,[],0⟩ 0 [(1,0),(2,0),(3,0)]= [(3,[1,2])] from rfl) (fun b3 o3 c3 x3 F3 G3 hF3 hG3=>⟨_,rfl,?_⟩);repeat (first |refine Ai ?_ |refine Ab ?_ |refine Ag ?_ |refine Ae Aa rfl ?_)
 refine BE (Bs (sz:=2) Aa rfl rfl rfl rfl rfl rfl rfl (j:=0) rfl (by decide)) ?_;repeat (first |refine Ae Aa rfl ?_)
 refine Bh Aa (v:=.int .u8 1) rfl rfl (fun w1 g1=>(g1.own _ (Af (i:=4) rfl)).1.1.1) ?_;repeat (first |refine Ae Aa rfl ?_)
 refine BE (Bs (sz:=2) Aa rfl rfl rfl rfl rfl rfl rfl (j:=0) rfl (by decide)) ?_;repeat (first |refine Ae Aa rfl ?_)
 refine Bh Aa (v:=x3.v) rfl rfl (fun w1 g1=>(g1.own _ (Af (i:=0) rfl)).1.1.2) ?_;refine AO Aa rfl rfl rfl rfl rfl rfl rfl rfl rfl rfl rfl rfl (fun n5 hn5=>?_);refine WJ (L:=[1,2]) (M:=[1,2]) rfl (fun w1 g1=>(g1.own _ (Af (i:=1) rfl)).1.2.2.ints.sl) (fun w1 g1=>Wv (g1.own _ (Af (i:=0) rfl))) (fun w1 g1=>(g1.own _ (Af (i:=1) rfl)).1.2.2.maxn) ?_;repeat (first |refine Ag ?_ |refine AC ?_ |refine Ae Aa rfl ?_)
 exact AZ rfl rfl (fun w' hw=>⟨rfl,hw.below (by repeat (first |exact Ar |refine BW ?_ |refine IB (by assumption) ?_ |refine AA (by first |assumption |omega) ?_))⟩)
end Go.Proofs.YtidhpofcofknhaaGreat
