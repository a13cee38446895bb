/-
  A sender: what it is, its right, what it tells. Conditions: each theorem's own.
  Conditions: each theorem's own.
-/
import Derived.Test.YtidhpofcofknhaaGreatEd
namespace Go.Proofs.YtidhpofcofknhaaGreat
open Go Go.RowKit
set_option linter.unusedVariables false
structure Bo where
 f:Int
 m:Int
 p:Int
 q:Int
 ep:Int
 op:Bool
 inc:Int
 lim:Int
 tm:Int
 tr:Int
 gs:List BG
 last:Int
abbrev cR (f m p q:Int):Prop:=PR f m/\1 <= p/\p <= 64/\1 <= q/\q <= 1024
structure Ep (s:Bo):Prop where
 conf:cR s.f s.m s.p s.q
 ep:AS .u64 s.ep/\s.ep ≠ 0
 inc:AS .u64 s.inc
 lim:AS .u64 s.lim
 tm:0 <= s.tm/\s.tm <= 2305843009213693952
 tr:0 <= s.tr/\s.tr <= 1099511627776
abbrev Gd (bb:Nat) (s:Bo):Obj:=.cells ⟨[.int .i64 s.f,.int .i64 s.m,.int .i64 s.p,.int .i64 s.q,.int .u64 s.ep,.bool s.op,.int .u64 s.inc,.int .u64 s.lim,AF bb,.int .i64 s.tm,.int .i64 s.tr]⟩ 88 (0,0)
def Io (sb:Nat) (s:Bo):Vp:=
 ⟨fun w F _=>∃ (bb:Nat) (Fb:Nat->Prop),Ep s/\(w.heap[sb]? =some (Gd bb s)/\F sb)/\(DJ bb s.f s.m s.gs s.last).at_ w Fb (.bool true)/\(∀ k,Fb k->F k)/\(∀ k,Fb k->k < w.heap.size)/\¬ Fb sb,
  fun {w w' A B v} ⟨bb,Fb,h1,h2,h3,h4,h5,h6⟩ hk=>⟨bb,fun k=>(Fb k/\B k)/\k < w'.heap.size,h1,⟨((hk sb h2.2 (AU h2.1)).1).trans h2.1,(hk sb h2.2 (AU h2.1)).2⟩,
   (DJ _ _ _ _ _).keep h3 fun k hf hlt=>⟨(hk k (h4 k hf) hlt).1,⟨hf,(hk k (h4 k hf) hlt).2⟩,by
    have:=(hk k (h4 k hf) hlt).1;have h7:=Array.getElem?_eq_getElem hlt;rw [h7] at this
    exact AU this⟩,fun k h=>h.1.2,fun k h=>h.2,fun h=>h6 h.1.1⟩⟩
abbrev WX (sb bb:Nat) (s:Bo) (Fb:Nat->Prop) (r:Bool):OL:=[.blk sb (Gd bb s) r,.rep (fun w=>(DJ bb s.f s.m s.gs s.last).at_ w Fb (.bool true)) Fb r]
section
variable {sb:Nat} {s:Bo} {w w0:World} {F:Nat->Prop} {v:Value} {ol:OL}
theorem GG (h:(Io sb s).at_ w F v) (r:Bool):∃ (bb:Nat) (Fb:Nat->Prop),Ep s/\Hp w w (WX sb bb s Fb r)/\F sb/\∀ k,Fb k->F k:=by
 obtain ⟨bb,Fb,h1,h2,h3,h4,h5,h6⟩:=h;refine ⟨bb,Fb,h1,⟨rfl,rfl,rfl,Nat.le_refl _,fun _ _ _=>rfl,fun e he=>?_,?_⟩,h2.2,h4⟩
 ·rcases List.mem_cons.1 he with rfl |he
  ·exact h2.1
  ·rw [List.mem_singleton] at he;subst he;exact ⟨h3,Vp.loc,h5⟩
 ·refine List.pairwise_cons.2 ⟨fun e he _ k hk hk2=>?_,List.pairwise_singleton _ _⟩;rw [List.mem_singleton] at he;subst he;exact h6 (Option.some.inj hk ▸ hk2)
theorem HI {bb:Nat} {Fb F0:Nat->Prop} (hh:Hp w0 w (WX sb bb s Fb true ++ ol)) (hok:Ep s) (hF0:∀ k,F0 k->k < w0.heap.size) (hol:∀ e ∈ ol,∀ k,e.has k->w0.heap.size <= k) (h1:F0 sb \/ w0.heap.size <= sb) (h2:∀ k,Fb k->F0 k \/ w0.heap.size <= k):
 ∃ F':Nat->Prop,(∀ k,F0 k->F' k)/\(∀ k,F' k->F0 k \/ w0.heap.size <= k)/\Hp w0 w (.rep (fun w=>(Io sb s).at_ w F' (.bool true)) F' true::ol):=by
 have o0:w.heap[sb]? =some (Gd bb s):=hh.own _ (Af (i:=0) rfl);have o1:=hh.own _ (Af (i:=1) rfl)
 refine hh.pack2 hF0 hol (fun e' he' e he=>.inl (by
  rcases List.mem_cons.1 he' with rfl |he'
  ·rfl
  ·rw [List.mem_singleton] at he';subst he'
   rfl)) (fun e he k hk=>?_) (Io sb s) fun F' hF'=>⟨bb,Fb,hok,⟨o0,hF' _ (Af (i:=0) rfl) sb rfl⟩,o1.1,hF' _ (Af (i:=1) rfl),o1.2.2,fun h=>?_⟩
 ·rcases List.mem_cons.1 he with rfl |he
  ·exact Option.some.inj hk ▸ h1
  ·rw [List.mem_singleton] at he;subst he;exact h2 k hk
 ·exact hh.dis 0 1 rfl rfl rfl rfl (show (HE.blk sb (Gd bb s) true).has sb from rfl) h
end
theorem NR (f m p q:Int) (w:World):Calls Tryz.prog 45 #[.agg #[.int .i64 f,.int .i64 m,.int .i64 p,.int .i64 q]] w fun e w'=>e= .returned (.bool (decide (cR f m p q)))/\Below w.heap.size w w':=by
 refine BZ Tryz.func45 rfl rfl (Hp.refl w) ?_;repeat (first |refine Ai ?_ |refine Ab ?_)
 refine AY Aa rfl (fun b1 hb1=>?_);repeat (first |refine Ai ?_ |refine Ab ?_ |refine Ag ?_ |refine Ae Aa rfl ?_ |refine An Aa 0 rfl rfl rfl ?_)
 refine Be rfl Tryz.call72 (fun w1 h1=>Mz f m w1) ?_;repeat (first |refine Ae Aa rfl ?_)
 refine BI rfl rfl (fun h0=>?_) (fun h0=>?_)
 ·repeat (first |refine Ae Aa rfl ?_ |refine An Aa 0 rfl rfl rfl ?_)
  refine BI rfl rfl (fun h1=>?_) (fun h1=>?_)
  ·repeat (first |refine Ae Aa rfl ?_ |refine An Aa 0 rfl rfl rfl ?_)
   refine BI rfl rfl (fun h2=>?_) (fun h2=>?_)
   ·repeat (first |refine Ae Aa rfl ?_ |refine An Aa 0 rfl rfl rfl ?_)
    refine BI rfl rfl (fun h3=>?_) (fun h3=>?_)
    ·repeat (first |refine Ag ?_ |refine AC ?_ |refine Ae Aa rfl ?_ |refine An Aa 0 rfl rfl rfl ?_)
     exact AZ rfl rfl (fun w' hw=>⟨by rw [show decide (q <= 1024)=decide (cR f m p q) from decide_eq_decide.2 ⟨fun h=>⟨h0,h1,h2,h3,h⟩,fun h=>h.2.2.2.2⟩],hw.below (by repeat (first |exact Ar |refine AA (by first |assumption |omega) ?_))⟩)
    ·repeat (first |refine Ag ?_ |refine AC ?_ |refine Ae Aa rfl ?_ |refine Bn rfl rfl rfl ?_)
     exact AZ rfl rfl (fun w' hw=>⟨by rw [decide_eq_false fun h:cR f m p q=>h3 h.2.2.2.1],hw.below (by repeat (first |exact Ar |refine AA (by first |assumption |omega) ?_))⟩)
   ·repeat (first |refine Ag ?_ |refine AC ?_ |refine Ae Aa rfl ?_ |refine Bn rfl rfl rfl ?_)
    exact AZ rfl rfl (fun w' hw=>⟨by rw [decide_eq_false fun h:cR f m p q=>h2 h.2.2.1],hw.below (by repeat (first |exact Ar |refine AA (by first |assumption |omega) ?_))⟩)
  ·repeat (first |refine Ag ?_ |refine AC ?_ |refine Ae Aa rfl ?_ |refine Bn rfl rfl rfl ?_)
   exact AZ rfl rfl (fun w' hw=>⟨by rw [decide_eq_false fun h:cR f m p q=>h1 h.2.1],hw.below (by repeat (first |exact Ar |refine AA (by first |assumption |omega) ?_))⟩)
 ·repeat (first |refine Ag ?_ |refine AC ?_ |refine Ae Aa rfl ?_ |refine Bn rfl rfl rfl ?_)
  exact AZ rfl rfl (fun w' hw=>⟨by rw [decide_eq_false fun h:cR f m p q=>h0 h.1],hw.below (by repeat (first |exact Ar |refine AA (by first |assumption |omega) ?_))⟩)
theorem Va (f m p q ep:Int) (he:AS .u64 ep) (w:World):Calls Tryz.prog 23 #[.agg #[.int .i64 f,.int .i64 m,.int .i64 p,.int .i64 q],.int .u64 ep] w fun e w'=>if cR f m p q/\ep ≠ 0 then ∃ (sb:Nat) (F:Nat->Prop),e= .returned (.tuple #[AF sb,.int .i64 0])/\(∀ k,F k->w.heap.size <= k)/\Hp w w' [.rep (fun w=>(Io sb ⟨f,m,p,q,ep,false,0,0,0,0,[],0⟩).at_ w F (.bool true)) F true]
 else e= .returned (.tuple #[.pointer none,.int .i64 1])/\Below w.heap.size w w':=by
 refine BO Tryz.func23 rfl rfl (Hp.refl w) ?_;repeat (first |refine Ai ?_ |refine Ab ?_)
 refine AY Aa rfl (fun b2 hb2=>?_);repeat (first |refine Ai ?_ |refine Ab ?_ |refine Ag ?_ |refine Ae Aa rfl ?_ |refine An Aa 0 rfl rfl rfl ?_)
 refine Be rfl Tryz.call45 (fun w1 h1=>NR f m p q w1) ?_;repeat (first |refine Ae Aa rfl ?_)
 by_cases hc:cR f m p q
 ·refine Co 11 (v':=.bool false) rfl (congrArg Value.bool (by rw [decide_eq_true hc];rfl)) ?_;repeat (first |refine Ag ?_ |refine Ae Aa rfl ?_)
  refine Ak rfl (fun h0=>?_) (fun h0=>?_)
  ·repeat (first |refine Ai ?_ |refine Ab ?_ |refine Ag ?_ |refine AI ?_ |refine AC ?_ |refine Ae Aa rfl ?_)
   exact Ey rfl rfl rfl (fun w' hw=>by
    rw [if_neg fun h=>h.2 h0]
    exact ⟨rfl,hw.below (by repeat (first |exact Ar |refine AA (by first |assumption |omega) ?_))⟩)
  ·repeat (first |refine Ai ?_ |refine Ab ?_ |refine Ad ?_ |refine Ao ?_ |refine Ae Aa rfl ?_ |refine An Aa 0 rfl rfl rfl ?_)
   refine WK hc.1 rfl (fun bb Fb hNb=>?_);repeat (first |refine Ai ?_ |refine Ab ?_ |refine Ag ?_ |refine Ae Aa rfl ?_ |refine An Aa 1 rfl rfl rfl ?_ |refine BE (Bf Aa rfl rfl rfl rfl rfl rfl rfl) ?_)
   refine AY Aa rfl (fun sb hsb=>?_);repeat (first |refine Ag ?_ |refine AC ?_ |refine Ae Aa rfl ?_)
   refine Ey rfl rfl rfl (fun w' hw=>?_);rw [if_pos ⟨hc,h0⟩];have h9:Hp w w' (WX sb bb ⟨f,m,p,q,ep,false,0,0,0,0,[],0⟩ Fb true ++ []):=hw.less (by repeat (first |exact Au.nil |refine Au.keep ?_ |refine Au.dropB (by first |assumption |omega) ?_));obtain ⟨F',g1,g2,g3⟩:=HI (F0:=fun _=>False) h9 ⟨hc,⟨he,h0⟩,(show AS .u64 0 by decide),(show AS .u64 0 by decide),(show (0:Int) <= 0/\(0:Int) <= 2305843009213693952 by decide),(show (0:Int) <= 0/\(0:Int) <= 1099511627776 by decide)⟩ (fun k h=>h.elim) (fun e he=>by cases he) (.inr hsb) (fun k hk=>.inr (hNb k hk));exact ⟨sb,F',rfl,fun k hk=>(g2 k hk).resolve_left id,g3⟩
 ·refine Co 11 (v':=.bool true) rfl (congrArg Value.bool (by rw [decide_eq_false hc];rfl)) ?_;repeat (first |refine Ag ?_ |refine Ae Aa rfl ?_ |refine Bn rfl rfl rfl ?_)
  refine AX rfl ?_;repeat (first |refine Ai ?_ |refine Ab ?_ |refine Ag ?_ |refine AI ?_ |refine AC ?_ |refine Ae Aa rfl ?_)
  exact Ey rfl rfl rfl (fun w' hw=>by
   rw [if_neg fun h=>hc h.1]
   exact ⟨rfl,hw.below (by repeat (first |exact Ar |refine AA (by first |assumption |omega) ?_))⟩)
section
variable {sb:Nat} {s:Bo} {w w0:World} {F:Nat->Prop} {v:Value} {ol:OL}
theorem GH (h:(Io sb s).at_ w F v):Calls Tryz.prog 12 #[AF sb] w fun e w'=>e= .returned (.bool s.op)/\Below w.heap.size w w':=by
 obtain ⟨bb,Fb,hok,hst,_⟩:=GG h false;refine BZ Tryz.func12 rfl rfl hst ?_;repeat (first |refine Ai ?_ |refine Ab ?_ |refine Ag ?_ |refine Ae Aa rfl ?_)
 refine BE (O3 Aa rfl rfl rfl rfl rfl) ?_;repeat (first |refine Ag ?_ |refine AC ?_ |refine Ae Aa rfl ?_ |refine An Aa 0 rfl rfl rfl ?_)
 exact AZ rfl rfl (fun w' hw=>⟨rfl,hw.below (by repeat (first |exact Ar |refine CQ ?_ |refine BW ?_))⟩)
theorem Qf (h:(Io sb s).at_ w F v):Calls Tryz.prog 14 #[AF sb] w fun e w'=>e= .returned (.int .u64 s.inc)/\Below w.heap.size w w':=by
 obtain ⟨bb,Fb,hok,hst,_⟩:=GG h false;refine BZ Tryz.func14 rfl rfl hst ?_;repeat (first |refine Ai ?_ |refine Ab ?_ |refine Ag ?_ |refine Ae Aa rfl ?_)
 refine BE (CS Aa rfl rfl rfl rfl rfl) ?_;repeat (first |refine Ai ?_ |refine Ab ?_ |refine Ag ?_ |refine Ad ?_ |refine Ao ?_ |refine AC ?_ |refine AG rfl ?_ |refine Ae Aa rfl ?_ |refine An Aa 0 rfl rfl rfl ?_)
 exact AZ rfl rfl (fun w' hw=>⟨rfl,hw.below (by repeat (first |exact Ar |refine CQ ?_ |refine BW ?_))⟩)
theorem Vb (h:(Io sb s).at_ w F v):Calls Tryz.prog 16 #[AF sb] w fun e w'=>e= .returned (.int .u64 s.lim)/\Below w.heap.size w w':=by
 obtain ⟨bb,Fb,hok,hst,_⟩:=GG h false;refine BZ Tryz.func16 rfl rfl hst ?_;repeat (first |refine Ai ?_ |refine Ab ?_ |refine Ag ?_ |refine Ae Aa rfl ?_)
 refine BE (CS Aa rfl rfl rfl rfl rfl) ?_;repeat (first |refine Ai ?_ |refine Ab ?_ |refine Ag ?_ |refine Ad ?_ |refine Ao ?_ |refine AC ?_ |refine AG rfl ?_ |refine Ae Aa rfl ?_ |refine An Aa 0 rfl rfl rfl ?_)
 exact AZ rfl rfl (fun w' hw=>⟨rfl,hw.below (by repeat (first |exact Ar |refine CQ ?_ |refine BW ?_))⟩)
theorem Pl (h:(Io sb s).at_ w F v):Calls Tryz.prog 15 #[AF sb] w fun e w'=>∃ r,e= .returned r/\Below w.heap.size w w'/\(By (· ∈ Aw s.gs) (Aw s.gs).length).at_ w' (fun k=>w.heap.size <= k) r:=by
 obtain ⟨bb,Fb,hok,hst,_⟩:=GG h false;refine BZ Tryz.func15 rfl rfl hst ?_;repeat (first |refine Ai ?_ |refine Ab ?_)
 refine AY Aa rfl (fun b2 hb2=>?_);repeat (first |refine Ai ?_ |refine Ab ?_ |refine Ag ?_ |refine Ae Aa rfl ?_)
 refine BE (CS Aa rfl rfl rfl rfl rfl) ?_;repeat (first |refine Ai ?_ |refine Ab ?_ |refine Ag ?_ |refine Ad ?_ |refine Ao ?_ |refine AG rfl ?_ |refine Ae Aa rfl ?_ |refine An Aa 1 rfl rfl rfl ?_)
 refine Dp (By (· ∈ Aw s.gs) (Aw s.gs).length) (fun k=>w.heap.size <= k) rfl Tryz.call33 (fun w1 g1=>(Lj (g1.own _ (Af (i:=2) rfl)).1).mono fun e w' ⟨r,e1,e2,e3⟩=>⟨r,e1,e2,Sj g1 e3⟩) (fun v1 F1 w1 hF1 hv1=>?_);obtain ⟨a1,n1,c1,rfl⟩:=CT hv1;repeat (first |refine Ag ?_ |refine AC ?_ |refine Ax Aa 1 rfl rfl rfl rfl rfl rfl ?_)
 exact AZ rfl (CD Aa 1 rfl rfl rfl rfl) (fun w' hw=>⟨_,rfl,hw.below (by repeat (first |exact Ar |refine CQ ?_ |refine BW ?_ |refine AA (by first |assumption |omega) ?_)),Vp.mono _ (Vp.fact0 hw 0 rfl) fun k hk=>(hF1 k hk).elim id id⟩)
end
end Go.Proofs.YtidhpofcofknhaaGreat
