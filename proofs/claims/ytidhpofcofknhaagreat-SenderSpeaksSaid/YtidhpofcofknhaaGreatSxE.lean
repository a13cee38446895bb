/-
  The document's sender: Receive. Conditions: each theorem's own.
-/
import Derived.Test.YtidhpofcofknhaaGreatSxD
namespace Go.Proofs.YtidhpofcofknhaaGreat
open Go Go.RowKit
set_option linter.unusedVariables false
theorem Hp.toRow {w0 w:World} {ol:OL} {b n sz:Nat} {cs:List Value} {e:TypeId} (h:Hp w0 w (.blk b (.cells ⟨cs⟩ e (0,0)) true::ol)) (hb:w0.heap.size <= b) (hl:cs.length=n * sz) (hn:n <= maxLen):Hp w0 w (.row w0.heap.size (.slice (some ⟨b,0,Option.none⟩) n n) e sz n cs::ol):=
 ⟨h.os,h.tape,h.output,h.size,fun k hk he=>h.old k hk fun e' hm hx hh=>by
  rcases List.mem_cons.1 hm with rfl |hm
  ·exact absurd (Option.some.inj hh) (by omega)
  ·exact he e' (List.mem_cons_of_mem _ hm) hx hh,fun e' hm=>by
  rcases List.mem_cons.1 hm with rfl |hm
  ·exact ⟨hl,.inr ⟨b,n,⟨cs⟩,rfl,hb,h.own _ List.mem_cons_self,Nat.le_refl _,hn,hl,by rw [<-hl];exact List.take_length⟩⟩
  ·exact h.own e' (List.mem_cons_of_mem _ hm),List.pairwise_cons.2 ⟨fun e' he hr k hk hk2=>(List.pairwise_cons.1 h.apart).1 e' he rfl k hk hk2,(List.pairwise_cons.1 h.apart).2⟩⟩
theorem Hp.open1 {w0 w:World} {ol:OL} {b:Nat} {x:Obj} {Φ:World->Prop} {F:Nat->Prop} (h:Hp w0 w (.rep Φ F true::ol)) (hx:w.heap[b]? =some x) (hF:F b):Hp w0 w (.blk b x true::.rep (fun _=>True) (fun k=>F k/\k ≠ b) true::ol):=by
 have hap:=List.pairwise_cons.1 h.apart;have o0:=h.own _ (List.mem_cons_self (l:=ol) (a:=HE.rep Φ F true));refine ⟨h.os,h.tape,h.output,h.size,fun k hk he=>h.old k hk fun e' hm hx' hh=>?_,fun e' hm=>?_,List.pairwise_cons.2 ⟨fun e' he hr k hk hk2=>?_,List.pairwise_cons.2 ⟨fun e' he hr k hk hk2=>hap.1 e' he rfl k hk.1 hk2,hap.2⟩⟩⟩
 ·rcases List.mem_cons.1 hm with rfl |hm
  ·by_cases e:k=b
   ·exact he _ List.mem_cons_self rfl (by rw [e];exact rfl)
   ·exact he _ (List.mem_cons_of_mem _ List.mem_cons_self) rfl ⟨hh,e⟩
  ·exact he e' (List.mem_cons_of_mem _ (List.mem_cons_of_mem _ hm)) hx' hh
 ·rcases List.mem_cons.1 hm with rfl |hm
  ·exact hx
  ·rcases List.mem_cons.1 hm with rfl |hm
   ·exact ⟨trivial,fun _ _ _ _=>trivial,fun k hk=>o0.2.2 k hk.1⟩
   ·exact h.own e' (List.mem_cons_of_mem _ hm)
 ·have hkb:k=b:=(Option.some.inj hk).symm;subst hkb
  rcases List.mem_cons.1 he with rfl |he
  ·exact hk2.2 rfl
  ·exact hap.1 e' he rfl k hF hk2
theorem Hp.close1 {w0 w:World} {ol:OL} {b:Nat} {x:Obj} {Φ Ψ:World->Prop} {G:Nat->Prop} (h:Hp w0 w (.blk b x true::.rep Φ G true::ol)) (hΨ:Ψ w) (hl:PH Ψ fun k=>k=b \/ G k):Hp w0 w (.rep Ψ (fun k=>k=b \/ G k) true::ol):=by
 have hap:=List.pairwise_cons.1 h.apart;have hap2:=List.pairwise_cons.1 hap.2;have o0:w.heap[b]? =some x:=h.own _ (Af (i:=0) rfl);have o1:=h.own _ (Af (i:=1) rfl);refine ⟨h.os,h.tape,h.output,h.size,fun k hk he=>h.old k hk fun e' hm hx' hh=>?_,fun e' hm=>?_,List.pairwise_cons.2 ⟨fun e' he hr k hk hk2=>?_,hap2.2⟩⟩
 ·rcases List.mem_cons.1 hm with rfl |hm
  ·exact he _ List.mem_cons_self rfl (.inl (Option.some.inj hh).symm)
  ·rcases List.mem_cons.1 hm with rfl |hm
   ·exact he _ List.mem_cons_self rfl (.inr hh)
   ·exact he e' (List.mem_cons_of_mem _ hm) hx' hh
 ·rcases List.mem_cons.1 hm with rfl |hm
  ·exact ⟨hΨ,hl,fun k hk=>hk.elim (fun e=>by rw [e];exact AV o0) (o1.2.2 k)⟩
  ·exact h.own e' (List.mem_cons_of_mem _ (List.mem_cons_of_mem _ hm))
 ·rcases hk with rfl |hk
  ·exact hap.1 e' (List.mem_cons_of_mem _ he) rfl k rfl hk2
  ·exact hap2.1 e' he rfl k hk hk2
theorem Qf {xb:Nat} {f m last:Int} {gs:List BG} {w:World} {F:Nat->Prop} {v:Value} (h:(DH xb f m gs last).at_ w F v):∃ (a:Option Addr) (n c:Nat),w.heap[xb]? =some (L9 f m a n c last)/\F xb:=by
 obtain ⟨K,a,c,G,_,h4,_⟩:=h;exact ⟨a,K.length,c,(h4 _ (Af (i:=0) rfl)).1,(h4 _ (Af (i:=0) rfl)).2 xb rfl⟩
theorem Qe {xb:Nat} {f m last:Int} {w:World} {F:Nat->Prop} (hp:PR f m) (hla:0 <= last/\last <= 1099511627776) (h:w.heap[xb]? =some (L9 f m none 0 0 last)) (hF:F xb):(DH xb f m [] last).at_ w F (.bool true):=by
 refine ⟨[],none,0,fun _=>False,⟨rfl,hp,CU.nil hla,fun g hg=>by cases hg⟩,fun e he=>?_,?_⟩
 ·simp only [L8,List.mem_cons,List.not_mem_nil,or_false] at he
  rcases he with rfl |rfl |rfl
  ·exact ⟨h,fun k hk=>Option.some.inj hk ▸ hF⟩
  ·exact ⟨World.ownsRow_nil w _ _ _,fun k hk=>by simp [HE.has,Value.ownBlock] at hk⟩
  ·exact ⟨⟨(fun p hp=>by cases hp),Vp.loc (p:=G4 []) (v:=.bool true),fun k hk=>hk.elim⟩,fun k hk=>hk.elim⟩
 ·refine List.pairwise_cons.2 ⟨fun e he _ k hk hk2=>?_,List.pairwise_cons.2 ⟨fun e he _ k hk hk2=>?_,List.pairwise_singleton _ _⟩⟩
  ·simp only [List.mem_cons,List.not_mem_nil,or_false] at he
   rcases he with rfl |rfl
   ·simp [HE.has,Value.ownBlock] at hk2
   ·exact hk2
  ·simp [HE.has,Value.ownBlock] at hk
abbrev Fm.cs2 (x:Fm):List Value:=[.int .i64 x.k,.int .u64 x.ep,.int .u64 x.inc,.int .u64 x.cum,.int .u64 x.lim,.slice x.ra x.rn x.rc]
section
variable {sb:Nat} {s:Bn} {w w0:World} {F:Nat->Prop} {ol:OL}
set_option maxHeartbeats 16000000 in
theorem Nf (h:(I5 sb s).at_ w F (.bool true)) (hF:∀ k,F k->k < w.heap.size) (x:Fm) {rl:List BT} {A:Nat->Prop} (hx:Bq Bi w A x.ra x.rn x.rc rl) (hAF:∀ k,A k->¬ F k) (hn:x.rn <= 800000) (hcum:AT .u64 x.cum) (hinc:AT .u64 x.inc) (hlim:AT .u64 x.lim):
 Calls Tryz.prog 27 #[AG sb,.agg ⟨x.cs2⟩] w fun e w'=>∃ (v:Value) (Fv F':Nat->Prop),e= .returned (.tuple #[v,.bool (decide (Ci s x))])/\(∀ k,Fv k->w.heap.size <= k)/\(∀ k,F k->F' k)/\(∀ k,F' k->F k \/ w.heap.size <= k)/\
  Hp w w' [.rep (fun w=>((Ay Bi).vp (if Ci s x then (0,x.cum)::rl else [])).at_ w Fv v) Fv false,.rep (fun w=>(I5 sb (s.rcv x rl)).at_ w F' (.bool true)) F' true]:=by
 obtain ⟨bb,Fb,hok,hst,hFsb,hFb⟩:=Jf h true
 obtain ⟨Fq,hFq,_,hst2⟩:=hst.addV (p:=(Ay Bi).vp rl) (A:=A) (v:=.slice x.ra x.rn x.rc) (((Ay Bi).vp rl).mono hx.val fun k hk=>⟨.inl hk,fun e he hex hh=>hAF k hk (by
  rcases List.mem_cons.1 he with rfl |he
  ·exact Option.some.inj hh ▸ hFsb
  ·rw [List.mem_singleton] at he;subst he
   exact hFb k hh)⟩)
 have hst3:Hp w w [.blk sb (FK bb s) true,.rep (fun w=>(DH bb s.f s.m s.gs s.last).at_ w Fb (.bool true)) Fb true,.rep (fun w=>((Ay Bi).vp rl).at_ w Fq (.slice x.ra x.rn x.rc)) Fq false]:=hst2.pm [1,2,0] rfl rfl rfl;have hrl:=hx.len;have hrok:=Di hx;refine GO Tryz.func27 rfl rfl hst3 ?_;refine Fh (fun w1 g1=>(Qd (g1.own _ (Af (i:=1) rfl)).1).2) (fun ⟨hbok,hbne⟩=>?_);repeat (first |refine Ai ?_ |refine Ab ?_)
 refine A5 Aa rfl (fun b3 hb3=>?_);repeat (first |refine Ai ?_ |refine Ag ?_ |refine Ae Aa rfl ?_)
 refine BP (ι:=Bool) (fun b=>b=true ↔ ¬ Ci s x) (fun b=>[(0,AG sb),(3,.pointer (some ⟨b3,0,none⟩)),(4,.slice none 0 0),(5,.bool false),(45,.bool b)])
  (fun _=>[.blk b3 (.cells ⟨x.cs2⟩ 78 (0,0)) true,.blk sb (FK bb s) true,.rep (fun w=>(DH bb s.f s.m s.gs s.last).at_ w Fb (.bool true)) Fb true,.rep (fun w=>((Ay Bi).vp rl).at_ w Fq (.slice x.ra x.rn x.rc)) Fq false]) ?_ ?_
 ·refine Ca ?_;repeat (first |refine AZ (by kernel_rfl) (by kernel_rfl) ?_ |refine Ah Aa rfl ?_ |refine AD Aa 0 rfl rfl rfl ?_)
  by_cases k2:x.k=2
  ·refine BN 11 (v':=.bool false) rfl (congrArg Value.bool (by simp [k2])) ?_;repeat (first |refine Ah Aa rfl ?_ |refine BO rfl rfl rfl ?_ |refine AD Aa 0 rfl rfl rfl ?_ |refine AD Aa 1 rfl rfl rfl ?_)
   by_cases e1:x.ep=s.ep
   ·refine BN 25 (v':=.bool false) rfl (congrArg Value.bool (by simp [e1])) ?_;repeat (first |refine Ah Aa rfl ?_ |refine AD Aa 0 rfl rfl rfl ?_ |refine AD Aa 1 rfl rfl rfl ?_)
    by_cases e2:x.inc < s.inc
    ·refine BN 34 (v':=.bool true) rfl (congrArg Value.bool (decide_eq_true e2)) ?_;repeat (first |refine AP rfl ?_ |refine Ah Aa rfl ?_ |refine BO rfl rfl rfl ?_ |refine Ad ?_)
     exact ⟨true,⟨fun _ h=>absurd h.2.2 (by omega),fun _=>rfl⟩,(by repeat (first |exact As.nil |refine As.cons rfl ?_)),fun w hw=>hw⟩
    ·refine BN 34 (v':=.bool false) rfl (congrArg Value.bool (decide_eq_false e2)) ?_;repeat (first |refine Ah Aa rfl ?_ |refine AD Aa 0 rfl rfl rfl ?_)
     (refine BN 38 (v':=.bool false) rfl (congrArg Value.bool (by simp [k2])) ?_;(repeat (first |refine AP rfl ?_ |refine Ah Aa rfl ?_ |refine BO rfl rfl rfl ?_ |refine Ad ?_));exact ⟨false,⟨(fun h=>by cases h),fun h=>(h ⟨.inl k2,e1,by omega⟩).elim⟩,(by repeat (first |exact As.nil |refine As.cons rfl ?_)),fun w hw=>hw⟩)
   ·refine BN 25 (v':=.bool true) rfl (congrArg Value.bool (by simp [e1])) ?_;repeat (first |refine AP rfl ?_ |refine Ah Aa rfl ?_ |refine BO rfl rfl rfl ?_ |refine Ad ?_)
    exact ⟨true,⟨fun _ h=>e1 h.2.1,fun _=>rfl⟩,(by repeat (first |exact As.nil |refine As.cons rfl ?_)),fun w hw=>hw⟩
  by_cases k4:x.k=4
  ·refine BN 11 (v':=.bool true) rfl (congrArg Value.bool (by simp [k2])) ?_;repeat (first |refine Ah Aa rfl ?_ |refine AD Aa 0 rfl rfl rfl ?_)
   refine BN 16 (v':=.bool false) rfl (congrArg Value.bool (by simp [k4])) ?_;repeat (first |refine Ah Aa rfl ?_ |refine AD Aa 0 rfl rfl rfl ?_ |refine AD Aa 1 rfl rfl rfl ?_)
   by_cases e1:x.ep=s.ep
   ·refine BN 25 (v':=.bool false) rfl (congrArg Value.bool (by simp [e1])) ?_;repeat (first |refine Ah Aa rfl ?_ |refine AD Aa 0 rfl rfl rfl ?_ |refine AD Aa 1 rfl rfl rfl ?_)
    by_cases e2:x.inc < s.inc
    ·refine BN 34 (v':=.bool true) rfl (congrArg Value.bool (decide_eq_true e2)) ?_;repeat (first |refine AP rfl ?_ |refine Ah Aa rfl ?_ |refine BO rfl rfl rfl ?_ |refine Ad ?_)
     exact ⟨true,⟨fun _ h=>absurd h.2.2 (by omega),fun _=>rfl⟩,(by repeat (first |exact As.nil |refine As.cons rfl ?_)),fun w hw=>hw⟩
    ·refine BN 34 (v':=.bool false) rfl (congrArg Value.bool (decide_eq_false e2)) ?_;repeat (first |refine Ah Aa rfl ?_ |refine AD Aa 0 rfl rfl rfl ?_)
     (refine BN 38 (v':=.bool true) rfl (congrArg Value.bool (by simp [k4])) ?_;(repeat (first |refine AP rfl ?_ |refine Ah Aa rfl ?_ |refine AD Aa 1 rfl rfl rfl ?_ |refine Ad ?_));exact ⟨!s.op,⟨(fun h1 h2=>by rw [(h2.1.resolve_left k2).2] at h1;cases h1),fun h=>by cases hop:s.op with |false=>rfl |true=>exact (h ⟨.inr ⟨k4,hop⟩,e1,by omega⟩).elim⟩,(by repeat (first |exact As.nil |refine As.cons rfl ?_)),fun w hw=>hw⟩)
   ·refine BN 25 (v':=.bool true) rfl (congrArg Value.bool (by simp [e1])) ?_;repeat (first |refine AP rfl ?_ |refine Ah Aa rfl ?_ |refine BO rfl rfl rfl ?_ |refine Ad ?_)
    exact ⟨true,⟨fun _ h=>e1 h.2.1,fun _=>rfl⟩,(by repeat (first |exact As.nil |refine As.cons rfl ?_)),fun w hw=>hw⟩
  ·refine BN 11 (v':=.bool true) rfl (congrArg Value.bool (by simp [k2])) ?_;repeat (first |refine Ah Aa rfl ?_ |refine AD Aa 0 rfl rfl rfl ?_)
   refine BN 16 (v':=.bool true) rfl (congrArg Value.bool (by simp [k4])) ?_;repeat (first |refine AP rfl ?_ |refine Ah Aa rfl ?_ |refine BO rfl rfl rfl ?_ |refine Ad ?_)
   exact ⟨true,⟨fun _ h=>h.1.elim k2 fun h=>k4 h.1,fun _=>rfl⟩,(by repeat (first |exact As.nil |refine As.cons rfl ?_)),fun w hw=>hw⟩
 intro b hb;refine CC rfl (fun h1=>?_) (fun h1=>?_)
 ·have hk:=hb.1 h1;repeat (first |refine Ai ?_ |refine Ab ?_ |refine Ag ?_ |refine AI ?_ |refine AB ?_ |refine Ae Aa rfl ?_)
  refine Dw rfl rfl rfl (fun w' hw=>?_);have e1:s.rcv x rl=s:=if_neg hk;have h9:Hp w w' (XL sb bb s Fb true ++ []):=hw.less (by repeat (first |exact Au.nil |refine Au.keep ?_ |refine Au.dropR ?_ |refine Au.dropB (by first |assumption |omega) ?_));obtain ⟨F',j1,j2,j3⟩:=HI (F0:=F) h9 hok hF (fun e he=>by cases he) (.inl hFsb) (fun k hk=>.inl (hFb k hk));refine ⟨_,fun _=>False,F',by rw [decide_eq_false hk],(fun k h=>h.elim),j1,j2,?_⟩;rw [e1,if_neg hk];exact j3.none (p:=(Ay Bi).vp []) (v:=.slice none 0 0) (fun w=>Bq.nil_.val) false
 have hk:Ci s x:=Classical.byContradiction fun h=>by have:=hb.2 h;rw [h1] at this;cases this
 obtain ⟨k,ag,ep,inc,base,cum,lim,ra,rn,rc,xa,xn,xc⟩:=x;dsimp only at hx hn hcum hinc hlim hrl hk ⊢
 have hmem:∀ y,decide (Ey cum rl y)=true ↔ Cu ((0,cum)::rl) y:=fun y=>by
  rw [decide_eq_true_iff];unfold Ey Cu;simp
 repeat (first |refine Ai ?_ |refine Ab ?_ |refine Ad ?_ |refine Ao ?_ |refine Ae Aa rfl ?_ |refine Ap Aa 0 rfl rfl rfl ?_ |refine BF (Bf Aa rfl rfl rfl rfl rfl rfl rfl) ?_)
 refine AO Aa rfl rfl rfl rfl rfl rfl rfl rfl rfl rfl rfl rfl (fun b49 hb49=>?_);repeat (first |refine Ae Aa rfl ?_ |refine Ap Aa 1 rfl rfl rfl ?_)
 refine B6 (fun w' hw=>hw.toRow (n:=1) (sz:=2) hb49 rfl (by decide)) ?_;refine AU (ty:=0) Aa 0 (k:=rn) (news:=Br rl) rfl rfl rfl rfl rfl rfl rfl rfl rfl (by decide) (fun w' hw=>((Bq.of_val (hw.own _ (Af (i:=4) rfl)).1).flat CA).1) (Dc _) (by simp only [maxLen];omega) (by show (_ + _) * 16 <= _;omega) rfl (fun A1 C1 hc3 hd3=>⟨_,rfl,?_⟩)
 have hrl1:((0,cum)::rl).length=1 + rn:=by rw [List.length_cons];omega
 have hok1:∀ r ∈ (0,cum)::rl,UD r:=fun r hr=>by
  rcases List.mem_cons.1 hr with rfl |hr
  ·exact ⟨(show AT .u64 0 by decide),hcum⟩
  ·exact hrok r hr
 repeat (first |refine Ai ?_ |refine Ab ?_ |refine Ag ?_ |refine Ae Aa rfl ?_ |refine Ap Aa 2 rfl rfl rfl ?_)
 refine Lo 3 (rl:=(0,cum)::rl) (s:=fun n=>decide (Ey cum rl n)) rfl rfl (fun w1 g1=>⟨fun k=>(Value.slice A1 (1 + rn) C1).ownBlock=some k,Bq.of_row CA (g1.own (.row w.heap.size (.slice A1 (1 + rn) C1) 83 2 (1 + rn) (Br ((0,cum)::rl))) (Af (i:=0) rfl)) hrl1 hok1 (fun k _ hk=>hk),fun k hk hF=>g1.dis 0 3 rfl rfl rfl rfl hk hF⟩) (by omega) hmem (fun A3 C3 Fb2' hFb2'=>⟨_,rfl,?_⟩);obtain ⟨Fb2,hFb2e⟩:∃ Fb2,Fb2=Fb2':=⟨_,rfl⟩;rw [<-hFb2e];have hFb2:∀ k,Fb2 k->F k \/ w.heap.size <= k:=fun k hk=>(hFb2' k (hFb2e ▸ hk)).imp (hFb k) id;refine B6 (fun w' hw=>Hp.less (o':=[.row w.heap.size (.slice A1 (1 + rn) C1) 83 2 (1 + rn) (Br ((0,cum)::rl)),.blk b3 (.cells ⟨Fm.cs2 ⟨k,ag,ep,inc,base,cum,lim,ra,rn,rc,xa,xn,xc⟩⟩ 78 (0,0)) true,.blk sb (FK bb s) true,.rep (fun w=>(DH bb s.f s.m (Eh s.gs fun n=>decide (Ey cum rl n)) s.last).at_ w Fb2 (.bool true)) Fb2 true]) hw (by repeat (first |exact Au.nil |refine Au.keep ?_ |refine Au.dropR ?_ |refine Au.dropW (Nat.le_refl _) ?_))) ?_;repeat (first |refine AZ (by kernel_rfl) (by kernel_rfl) ?_ |refine AP rfl ?_ |refine Ah Aa rfl ?_ |refine AD Aa 1 rfl rfl rfl ?_ |refine AD Aa 2 rfl rfl rfl ?_ |refine Ai ?_ |refine Ab ?_ |refine Ag ?_ |refine Ae Aa rfl ?_ |refine Ap Aa 1 rfl rfl rfl ?_)
 refine FI (ι:=Bool) (fun b=>b=true ↔ (k=2/\(s.inc < inc \/ s.op=false))) (fun b=>[(0,AG sb),(3,.pointer (some ⟨b3,0,none⟩)),(6,.slice A1 (1 + rn) C1),(7,.bool (decide (s.inc < inc))),(78,.bool b)])
  (fun b=>[.blk sb (FK bb s) true,.blk b3 (.cells ⟨Fm.cs2 ⟨k,ag,ep,inc,base,cum,lim,ra,rn,rc,xa,xn,xc⟩⟩ 78 (0,0)) true,.rep (fun w=>(DH bb s.f s.m (Eh s.gs fun n=>decide (Ey cum rl n)) s.last).at_ w Fb2 (.bool true)) Fb2 true,.row w.heap.size (.slice A1 (1 + rn) C1) 83 2 (1 + rn) (Br ((0,cum)::rl))]) ?_ ?_
 ·by_cases k2:k=2
  ·refine Cb 69 (v':=.bool true) rfl (congrArg Value.bool (decide_eq_true k2)) ?_;repeat (first |refine Ae Aa rfl ?_ |refine Ap Aa 2 rfl rfl rfl ?_)
   by_cases hop:s.op=true
   ·refine Cb 75 (v':=.bool false) rfl (congrArg Value.bool (by rw [hop];rfl)) ?_;repeat (first |refine Ag ?_ |refine Ae Aa rfl ?_)
    exact ⟨decide (s.inc < inc),⟨fun h=>⟨k2,.inl (of_decide_eq_true h)⟩,fun h=>decide_eq_true (h.2.resolve_right fun h=>by rw [hop] at h;cases h)⟩,(by repeat (first |exact As.nil |refine As.cons rfl ?_)),fun w hw=>hw.pm [2,1,3,0] rfl rfl rfl⟩
   ·have hop2:s.op=false:=by simpa using hop
    refine Cb 75 (v':=.bool true) rfl (congrArg Value.bool (by rw [hop2];rfl)) ?_;repeat (first |refine Ag ?_ |refine Ae Aa rfl ?_ |refine Bh rfl rfl rfl ?_)
    exact ⟨true,⟨fun _=>⟨k2,.inr hop2⟩,fun _=>rfl⟩,(by repeat (first |exact As.nil |refine As.cons rfl ?_)),fun w hw=>hw.pm [2,1,3,0] rfl rfl rfl⟩
  ·refine Cb 69 (v':=.bool false) rfl (congrArg Value.bool (decide_eq_false k2)) ?_;repeat (first |refine Ag ?_ |refine Ae Aa rfl ?_ |refine Bh rfl rfl rfl ?_)
   exact ⟨false,⟨(fun h=>by cases h),fun h=>(k2 h.1).elim⟩,(by repeat (first |exact As.nil |refine As.cons rfl ?_)),fun w hw=>hw.pm [2,1,3,0] rfl rfl rfl⟩
 clear hb h1 b;intro b hb
 have fin:∀ (s':Bn) (Fb':Nat->Prop) (w':World),Hp w w' [.blk sb (FK bb s') true,.rep (fun w=>(DH bb s'.f s'.m s'.gs s'.last).at_ w Fb' (.bool true)) Fb' true,.row w.heap.size (.slice A1 (1 + rn) C1) 83 2 (1 + rn) (Br ((0,cum)::rl))]->
  D6 s'->(∀ k,Fb' k->Fb2 k \/ w.heap.size <= k)->s.rcv ⟨k,ag,ep,inc,base,cum,lim,ra,rn,rc,xa,xn,xc⟩ rl=s'->
  ∃ (v:Value) (Fv F':Nat->Prop),Ending.returned (.tuple #[.slice A1 (1 + rn) C1,.bool true])= .returned (.tuple #[v,.bool (decide (Ci s ⟨k,ag,ep,inc,base,cum,lim,ra,rn,rc,xa,xn,xc⟩))])/\(∀ k,Fv k->w.heap.size <= k)/\(∀ k,F k->F' k)/\(∀ k,F' k->F k \/ w.heap.size <= k)/\
   Hp w w' [.rep (fun w=>((Ay Bi).vp (if Ci s ⟨k,ag,ep,inc,base,cum,lim,ra,rn,rc,xa,xn,xc⟩ then (0,cum)::rl else [])).at_ w Fv v) Fv false,.rep (fun w=>(I5 sb (s.rcv ⟨k,ag,ep,inc,base,cum,lim,ra,rn,rc,xa,xn,xc⟩ rl)).at_ w F' (.bool true)) F' true]:=fun s' Fb' w' hw hok' hFb' e=>by
  rw [e,if_pos hk];obtain ⟨Fr,hFr,h1⟩:=(hw.pm [2,0,1] rfl rfl rfl).share (p:=(Ay Bi).vp ((0,cum)::rl)) (fun h=>(Bq.of_row CA h hrl1 hok1 fun k _ hk=>hk).val)
  obtain ⟨F',j1,j2,j3⟩:=HI (F0:=F) (ol:=[.rep (fun w=>((Ay Bi).vp ((0,cum)::rl)).at_ w Fr (.slice A1 (1 + rn) C1)) Fr false]) (show Hp w w' [.blk sb (FK bb s') true,.rep (fun w=>(DH bb s'.f s'.m s'.gs s'.last).at_ w Fb' (.bool true)) Fb' true,.rep (fun w=>((Ay Bi).vp ((0,cum)::rl)).at_ w Fr (.slice A1 (1 + rn) C1)) Fr false] from h1.pm [1,2,0] rfl rfl rfl) hok' hF (fun e he k hk=>by
   rw [List.mem_singleton] at he;subst he
   exact hFr k hk) (.inl hFsb) (fun k hk=>(hFb' k hk).elim (hFb2 k) .inr)
  exact ⟨_,Fr,F',by rw [decide_eq_true hk],hFr,j1,j2,j3.pm [1,0] rfl rfl rfl⟩
 have hrcv:s.rcv ⟨k,ag,ep,inc,base,cum,lim,ra,rn,rc,xa,xn,xc⟩ rl=if k=2/\(s.inc < inc \/ s.op=false) then (s.ack_ cum rl).begin_ true inc lim else if s.inc < inc then (s.ack_ cum rl).begin_ false inc 0 else { s.ack_ cum rl with lim:=max s.lim lim}:=if_pos hk
 refine CC rfl (fun hb1=>?_) (fun hb1=>?_)
 ·repeat (first |refine Ai ?_ |refine Ab ?_ |refine Ae Aa rfl ?_ |refine Ap Aa 0 rfl rfl rfl ?_)
  refine MW (ι:=Option Addr × Nat × Nat) (fun _=>Fb2 bb) (fun q=>[.blk bb (L9 s.f s.m q.1 q.2.1 q.2.2 s.last) true,.rep (fun _=>True) (fun k=>Fb2 k/\k ≠ bb) true,.blk sb (FK bb s) true,.blk b3 (.cells ⟨Fm.cs2 ⟨k,ag,ep,inc,base,cum,lim,ra,rn,rc,xa,xn,xc⟩⟩ 78 (0,0)) true,.row w.heap.size (.slice A1 (1 + rn) C1) 83 2 (1 + rn) (Br ((0,cum)::rl))]) (fun w' hw=>by
   obtain ⟨a,n,c,h1,h2⟩:=Qf (hw.own _ (Af (i:=2) rfl)).1
   exact ⟨(a,n,c),h2,(hw.pm [2,0,1,3] rfl rfl rfl).open1 h1 h2⟩) ?_
  rintro ⟨a0,n0,c0⟩ hFbb;dsimp only;refine Aw Aa 0 rfl rfl rfl rfl rfl rfl ?_;refine B6 (fun w' hw=>hw.close1 (Ψ:=fun w=>(DH bb s.f s.m [] s.last).at_ w (fun k=>k=bb \/ (Fb2 k/\k ≠ bb)) (.bool true)) (Qe hok.conf.1 hbok.lst (hw.own _ (Af (i:=0) rfl)) (.inl rfl)) (Vp.loc (p:=DH _ _ _ _ _))) ?_;repeat (first |refine Ag ?_)
  refine Ca ?_
  refine Ii (by kernel_rfl) (by kernel_rfl) [11,14,17,20,23] (by kernel_rfl) (by kernel_rfl) (by kernel_rfl) (by kernel_rfl) [.blk b3 (.cells ⟨Fm.cs2 ⟨k,ag,ep,inc,base,cum,lim,ra,rn,rc,xa,xn,xc⟩⟩ 78 (0,0)) false] (CH DO)
   [some (AG sb),some (AG sb),some (AG sb),some (AG sb),some (AG sb),some (.pointer (some ⟨b3,0 + 2,none⟩)),some (.int .u64 inc),some (.pointer (some ⟨b3,0 + 4,none⟩)),some (.int .u64 lim),some (.pointer (some ⟨sb,0,none⟩)),some (.pointer (some ⟨sb,0 + 5,none⟩)),none,some (.pointer (some ⟨sb,0,none⟩)),some (.pointer (some ⟨sb,0 + 6,none⟩)),none,some (.pointer (some ⟨sb,0,none⟩)),some (.pointer (some ⟨sb,0 + 7,none⟩)),none,some (.pointer (some ⟨sb,0,none⟩)),some (.pointer (some ⟨sb,0 + 9,none⟩)),none,some (.pointer (some ⟨sb,0,none⟩)),some (.pointer (some ⟨sb,0 + 10,none⟩)),none]
   ⟨.inr ⟨_,_,rfl,rfl,fun w f=>Ah Aa rfl Aj⟩,.inr ⟨_,_,rfl,rfl,fun w f=>Ah Aa rfl Aj⟩,.inr ⟨_,_,rfl,rfl,fun w f=>Ah Aa rfl Aj⟩,.inr ⟨_,_,rfl,rfl,fun w f=>Ah Aa rfl Aj⟩,.inr ⟨_,_,rfl,rfl,fun w f=>Ah Aa rfl Aj⟩,.inr ⟨_,_,rfl,rfl,fun w f=>Ah Aa rfl Aj⟩,.inr ⟨_,_,rfl,rfl,fun w f=>AD Aa 0 rfl rfl rfl Aj⟩,.inr ⟨_,_,rfl,rfl,fun w f=>Ah Aa rfl Aj⟩,.inr ⟨_,_,rfl,rfl,fun w f=>AD Aa 0 rfl rfl rfl Aj⟩,.inr ⟨_,_,rfl,rfl,fun w f=>Ah Aa rfl Aj⟩,.inr ⟨_,_,rfl,rfl,fun w f=>Ah Aa rfl Aj⟩,.inl rfl,.inr ⟨_,_,rfl,rfl,fun w f=>Ah Aa rfl Aj⟩,.inr ⟨_,_,rfl,rfl,fun w f=>Ah Aa rfl Aj⟩,.inl rfl,.inr ⟨_,_,rfl,rfl,fun w f=>Ah Aa rfl Aj⟩,.inr ⟨_,_,rfl,rfl,fun w f=>Ah Aa rfl Aj⟩,.inl rfl,.inr ⟨_,_,rfl,rfl,fun w f=>Ah Aa rfl Aj⟩,.inr ⟨_,_,rfl,rfl,fun w f=>Ah Aa rfl Aj⟩,.inl rfl,.inr ⟨_,_,rfl,rfl,fun w f=>Ah Aa rfl Aj⟩,.inr ⟨_,_,rfl,rfl,fun w f=>Ah Aa rfl Aj⟩,.inl rfl,trivial⟩ ?_
  refine AS (i:=11) [(95,.pointer (some ⟨sb,0 + 5,none⟩))] (.inr (AL 2 rfl AW)) (by kernel_rfl) rfl (.cons rfl rfl .nil) ?_;refine Aw Aa 1 rfl rfl rfl rfl rfl rfl ?_;refine Ag ⟨_,rfl,(fun u h=>by cases h),?_⟩;refine AS (i:=14) [(97,.pointer (some ⟨sb,0 + 6,none⟩)),(91,.int .u64 inc)] (.inr (AL 2 rfl AW)) (by kernel_rfl) rfl (.cons rfl rfl (.cons rfl rfl .nil)) ?_;refine Aw Aa 1 rfl rfl rfl rfl rfl rfl ?_;refine Ag ⟨_,rfl,(fun u h=>by cases h),?_⟩;refine AS (i:=17) [(99,.pointer (some ⟨sb,0 + 7,none⟩)),(93,.int .u64 lim)] (.inr (AL 2 rfl AW)) (by kernel_rfl) rfl (.cons rfl rfl (.cons rfl rfl .nil)) ?_;refine Aw Aa 1 rfl rfl rfl rfl rfl rfl ?_;refine Ag ⟨_,rfl,(fun u h=>by cases h),?_⟩;refine AS (i:=20) [(101,.pointer (some ⟨sb,0 + 9,none⟩))] (.inr (AL 2 rfl AW)) (by kernel_rfl) rfl (.cons rfl rfl .nil) ?_;refine Aw Aa 1 rfl rfl rfl rfl rfl rfl ?_;refine Ag ⟨_,rfl,(fun u h=>by cases h),?_⟩;refine AS (i:=23) [(103,.pointer (some ⟨sb,0 + 10,none⟩))] (.inr (AL 2 rfl AW)) (by kernel_rfl) rfl (.cons rfl rfl .nil) ?_;refine Aw Aa 1 rfl rfl rfl rfl rfl rfl ?_;refine Ag ⟨_,rfl,(fun u h=>by cases h),?_⟩;refine Cv [(0,AG sb),(3,.pointer (some ⟨b3,0,none⟩)),(6,.slice A1 (1 + rn) C1)] (by repeat (first |exact Bg.nil |refine Bg.cons rfl ?_)) ?_;repeat (first |refine Ai ?_ |refine Ab ?_ |refine Ag ?_ |refine Ad ?_ |refine AB ?_ |refine Ae Aa rfl ?_)
  exact Dw rfl rfl rfl (fun w' hw=>fin ((s.ack_ cum rl).begin_ true inc lim) (fun k=>k=bb \/ (Fb2 k/\k ≠ bb)) w' ((hw.pm [1,0,3,2] rfl rfl rfl).less (by repeat (first |exact Au.nil |refine Au.keep ?_ |refine Au.dropB (by first |assumption |omega) ?_))) ⟨hok.conf,hok.ep,hinc,hlim,(show (0:Int) <= 0/\(0:Int) <= 2305843009213693952 by decide),(show (0:Int) <= 0/\(0:Int) <= 1099511627776 by decide)⟩ (fun k h=>.inl (h.elim (fun e=>e ▸ hFbb) fun h=>h.1)) (hrcv.trans (if_pos (hb.1 hb1))))
 have hb2:¬ (k=2/\(s.inc < inc \/ s.op=false)):=fun h=>by
  have:=hb.2 h;rw [hb1] at this;cases this
 repeat (first |refine Ai ?_ |refine Ab ?_ |refine Ag ?_ |refine Ae Aa rfl ?_)
 refine Ak rfl (fun h3=>?_) (fun h3=>?_)
 ·repeat (first |refine Ai ?_ |refine Ab ?_ |refine Ae Aa rfl ?_ |refine Ap Aa 0 rfl rfl rfl ?_)
  refine MW (ι:=Option Addr × Nat × Nat) (fun _=>Fb2 bb) (fun q=>[.blk bb (L9 s.f s.m q.1 q.2.1 q.2.2 s.last) true,.rep (fun _=>True) (fun k=>Fb2 k/\k ≠ bb) true,.blk sb (FK bb s) true,.blk b3 (.cells ⟨Fm.cs2 ⟨k,ag,ep,inc,base,cum,lim,ra,rn,rc,xa,xn,xc⟩⟩ 78 (0,0)) true,.row w.heap.size (.slice A1 (1 + rn) C1) 83 2 (1 + rn) (Br ((0,cum)::rl))]) (fun w' hw=>by
   obtain ⟨a,n,c,h1,h2⟩:=Qf (hw.own _ (Af (i:=2) rfl)).1
   exact ⟨(a,n,c),h2,(hw.pm [2,0,1,3] rfl rfl rfl).open1 h1 h2⟩) ?_
  rintro ⟨a0,n0,c0⟩ hFbb;dsimp only;refine Aw Aa 0 rfl rfl rfl rfl rfl rfl ?_;refine B6 (fun w' hw=>hw.close1 (Ψ:=fun w=>(DH bb s.f s.m [] s.last).at_ w (fun k=>k=bb \/ (Fb2 k/\k ≠ bb)) (.bool true)) (Qe hok.conf.1 hbok.lst (hw.own _ (Af (i:=0) rfl)) (.inl rfl)) (Vp.loc (p:=DH _ _ _ _ _))) ?_;repeat (first |refine Ag ?_)
  refine Ca ?_
  refine Ii (by kernel_rfl) (by kernel_rfl) [9,12,15,18,21] (by kernel_rfl) (by kernel_rfl) (by kernel_rfl) (by kernel_rfl) [.blk b3 (.cells ⟨Fm.cs2 ⟨k,ag,ep,inc,base,cum,lim,ra,rn,rc,xa,xn,xc⟩⟩ 78 (0,0)) false] (CH DO)
   [some (AG sb),some (AG sb),some (AG sb),some (AG sb),some (AG sb),some (.pointer (some ⟨b3,0 + 2,none⟩)),some (.int .u64 inc),some (.pointer (some ⟨sb,0,none⟩)),some (.pointer (some ⟨sb,0 + 5,none⟩)),none,some (.pointer (some ⟨sb,0,none⟩)),some (.pointer (some ⟨sb,0 + 6,none⟩)),none,some (.pointer (some ⟨sb,0,none⟩)),some (.pointer (some ⟨sb,0 + 7,none⟩)),none,some (.pointer (some ⟨sb,0,none⟩)),some (.pointer (some ⟨sb,0 + 9,none⟩)),none,some (.pointer (some ⟨sb,0,none⟩)),some (.pointer (some ⟨sb,0 + 10,none⟩)),none]
   ⟨.inr ⟨_,_,rfl,rfl,fun w f=>Ah Aa rfl Aj⟩,.inr ⟨_,_,rfl,rfl,fun w f=>Ah Aa rfl Aj⟩,.inr ⟨_,_,rfl,rfl,fun w f=>Ah Aa rfl Aj⟩,.inr ⟨_,_,rfl,rfl,fun w f=>Ah Aa rfl Aj⟩,.inr ⟨_,_,rfl,rfl,fun w f=>Ah Aa rfl Aj⟩,.inr ⟨_,_,rfl,rfl,fun w f=>Ah Aa rfl Aj⟩,.inr ⟨_,_,rfl,rfl,fun w f=>AD Aa 0 rfl rfl rfl Aj⟩,.inr ⟨_,_,rfl,rfl,fun w f=>Ah Aa rfl Aj⟩,.inr ⟨_,_,rfl,rfl,fun w f=>Ah Aa rfl Aj⟩,.inl rfl,.inr ⟨_,_,rfl,rfl,fun w f=>Ah Aa rfl Aj⟩,.inr ⟨_,_,rfl,rfl,fun w f=>Ah Aa rfl Aj⟩,.inl rfl,.inr ⟨_,_,rfl,rfl,fun w f=>Ah Aa rfl Aj⟩,.inr ⟨_,_,rfl,rfl,fun w f=>Ah Aa rfl Aj⟩,.inl rfl,.inr ⟨_,_,rfl,rfl,fun w f=>Ah Aa rfl Aj⟩,.inr ⟨_,_,rfl,rfl,fun w f=>Ah Aa rfl Aj⟩,.inl rfl,.inr ⟨_,_,rfl,rfl,fun w f=>Ah Aa rfl Aj⟩,.inr ⟨_,_,rfl,rfl,fun w f=>Ah Aa rfl Aj⟩,.inl rfl,trivial⟩ ?_
  refine AS (i:=9) [(119,.pointer (some ⟨sb,0 + 5,none⟩))] (.inr (AL 2 rfl AW)) (by kernel_rfl) rfl (.cons rfl rfl .nil) ?_;refine Aw Aa 1 rfl rfl rfl rfl rfl rfl ?_;refine Ag ⟨_,rfl,(fun u h=>by cases h),?_⟩;refine AS (i:=12) [(121,.pointer (some ⟨sb,0 + 6,none⟩)),(117,.int .u64 inc)] (.inr (AL 2 rfl AW)) (by kernel_rfl) rfl (.cons rfl rfl (.cons rfl rfl .nil)) ?_;refine Aw Aa 1 rfl rfl rfl rfl rfl rfl ?_;refine Ag ⟨_,rfl,(fun u h=>by cases h),?_⟩;refine AS (i:=15) [(123,.pointer (some ⟨sb,0 + 7,none⟩))] (.inr (AL 2 rfl AW)) (by kernel_rfl) rfl (.cons rfl rfl .nil) ?_;refine Aw Aa 1 rfl rfl rfl rfl rfl rfl ?_;refine Ag ⟨_,rfl,(fun u h=>by cases h),?_⟩;refine AS (i:=18) [(125,.pointer (some ⟨sb,0 + 9,none⟩))] (.inr (AL 2 rfl AW)) (by kernel_rfl) rfl (.cons rfl rfl .nil) ?_;refine Aw Aa 1 rfl rfl rfl rfl rfl rfl ?_;refine Ag ⟨_,rfl,(fun u h=>by cases h),?_⟩;refine AS (i:=21) [(127,.pointer (some ⟨sb,0 + 10,none⟩))] (.inr (AL 2 rfl AW)) (by kernel_rfl) rfl (.cons rfl rfl .nil) ?_;refine Aw Aa 1 rfl rfl rfl rfl rfl rfl ?_;refine Ag ⟨_,rfl,(fun u h=>by cases h),?_⟩;refine Cv [(0,AG sb),(3,.pointer (some ⟨b3,0,none⟩)),(6,.slice A1 (1 + rn) C1)] (by repeat (first |exact Bg.nil |refine Bg.cons rfl ?_)) ?_;repeat (first |refine Ai ?_ |refine Ab ?_ |refine Ag ?_ |refine Ad ?_ |refine AB ?_ |refine Ae Aa rfl ?_)
  exact Dw rfl rfl rfl (fun w' hw=>fin ((s.ack_ cum rl).begin_ false inc 0) (fun k=>k=bb \/ (Fb2 k/\k ≠ bb)) w' ((hw.pm [1,0,3,2] rfl rfl rfl).less (by repeat (first |exact Au.nil |refine Au.keep ?_ |refine Au.dropB (by first |assumption |omega) ?_))) ⟨hok.conf,hok.ep,hinc,(show AT .u64 0 by decide),(show (0:Int) <= 0/\(0:Int) <= 2305843009213693952 by decide),(show (0:Int) <= 0/\(0:Int) <= 1099511627776 by decide)⟩ (fun k h=>.inl (h.elim (fun e=>e ▸ hFbb) fun h=>h.1)) (hrcv.trans ((if_neg hb2).trans (if_pos h3))))
 ·repeat (first |refine AZ (by kernel_rfl) (by kernel_rfl) ?_ |refine AP rfl ?_ |refine Ah Aa rfl ?_ |refine AD Aa 0 rfl rfl rfl ?_ |refine AD Aa 1 rfl rfl rfl ?_ |refine Ai ?_)
  refine Ak rfl (fun h4=>?_) (fun h4=>?_)
  ·repeat (first |refine Ai ?_ |refine Ab ?_ |refine Ag ?_ |refine AB ?_ |refine Ae Aa rfl ?_ |refine Ap Aa 1 rfl rfl rfl ?_ |refine Aw Aa 0 rfl rfl rfl rfl rfl rfl ?_)
   have hmx:max s.lim lim=lim:=Int.max_eq_right (Int.le_of_lt (show s.lim < lim from h4));exact Dw rfl rfl rfl (fun w' hw=>fin { s.ack_ cum rl with lim:=max s.lim lim} Fb2 w' (by rw [hmx];exact hw.less (by repeat (first |exact Au.nil |refine Au.keep ?_ |refine Au.dropB (by first |assumption |omega) ?_))) ⟨hok.conf,hok.ep,hok.inc,by rw [hmx];exact hlim,hok.tm,hok.tr⟩ (fun k h=>.inl h) (hrcv.trans ((if_neg hb2).trans (if_neg h3))))
  ·repeat (first |refine Ai ?_ |refine Ab ?_ |refine Ag ?_ |refine Ad ?_ |refine Ao ?_ |refine AB ?_ |refine Ae Aa rfl ?_)
   have hmx:max s.lim lim=s.lim:=Int.max_eq_left (Int.not_lt.1 (show ¬ s.lim < lim from h4));exact Dw rfl rfl rfl (fun w' hw=>fin { s.ack_ cum rl with lim:=max s.lim lim} Fb2 w' (by rw [hmx];exact hw.less (by repeat (first |exact Au.nil |refine Au.keep ?_ |refine Au.dropB (by first |assumption |omega) ?_))) ⟨hok.conf,hok.ep,hok.inc,by rw [hmx];exact hok.lim,hok.tm,hok.tr⟩ (fun k h=>.inl h) (hrcv.trans ((if_neg hb2).trans (if_neg h3))))
end
end Go.Proofs.YtidhpofcofknhaaGreat
