/-
  A pair of senders: a frame as the document has it. Conditions: each theorem's own.
-/
import Derived.Test.YtidhpofcofknhaaGreatSxJ
namespace Go.Proofs.YtidhpofcofknhaaGreat
open Go Go.RowKit
set_option linter.unusedVariables false
section
variable {w:World} {A:Nat->Prop}
set_option maxHeartbeats 4000000 in
theorem PA {x:Fm} {rl:List BT} (hx:Bq Bi w A x.ra x.rn x.rc rl) (hk:AT .u8 x.k) (hn:x.rn <= 800000):Calls Tryz.prog 28 #[.agg ⟨x.cs⟩] w fun e w'=>∃ (a':Option Addr) (c':Nat),e= .returned (.agg ⟨Fm.cs2 { x with ra:=a',rc:=c'}⟩)/\Below w.heap.size w w'/\Bq Bi w' (fun k=>w.heap.size <= k) a' x.rn c' rl:=by
 obtain ⟨k,ag,ep,inc,base,cum,lim,ra,rn,rc,xa,xn,xc⟩:=x;dsimp only at hx hk hn ⊢;have hk':=Dt hk;have hk2:0 <= (Fm.mk k ag ep inc base cum lim ra rn rc xa xn xc).k/\(Fm.mk k ag ep inc base cum lim ra rn rc xa xn xc).k <= 255:=hk';have hrl:=hx.len;have hrok:=Di hx;refine BL Tryz.func28 rfl rfl (Hp.refl w) ?_;repeat (first |refine Ai ?_ |refine Ab ?_)
 refine A5 Aa rfl (fun b1 hb1=>?_);skip;refine A5 Aa rfl (fun b2 hb2=>?_);repeat (first |refine Ai ?_ |refine Ab ?_ |refine Ag ?_ |refine AE Aa rfl (by omega) ?_ |refine Ae Aa rfl ?_ |refine Ap Aa 1 rfl rfl rfl ?_ |refine BF (Bf Aa rfl rfl rfl rfl rfl rfl rfl) ?_)
 refine A5 Aa rfl (fun b3 hb3=>?_);repeat (first |refine Ai ?_ |refine Ab ?_ |refine Ar ?_ |refine Ag ?_ |refine Ae Aa rfl ?_ |refine Ap Aa 2 rfl rfl rfl ?_ |refine Aw Aa 0 rfl rfl rfl rfl rfl rfl ?_)
 refine AM (ι:=Nat × Option Addr × Nat) (fun q=>[(1,.pointer (some ⟨b1,0,none⟩)),(2,.pointer (some ⟨b2,0,none⟩)),(3,.pointer (some ⟨b3,0,none⟩)),(19,.slice ra rn rc),(20,.int .i64 (rn:Int)),(21,.int .i64 (q.1:Int))])
  (fun q=>[.row w.heap.size (.slice q.2.1 q.1 q.2.2) 83 2 q.1 (Br (rl.take q.1)),.blk b3 (.cells ⟨Fm.cs2 ⟨k,ag,ep,inc,base,cum,lim,q.2.1,q.1,q.2.2,xa,xn,xc⟩⟩ 78 (0,0)) true,.blk b2 (.cells ⟨[.int .i64 0,.int .u64 0,.int .u64 0,.int .u64 0,.int .u64 0,.slice none 0 0]⟩ 78 (0,0)) true])
  (fun q=>q.1 <= rn) (fun q=>rn - q.1) (0,none,0) (Nat.zero_le _) (by repeat (first |exact As.nil |refine As.cons rfl ?_)) (fun w' hw=>(hw.nilRow 83 2).less (by repeat (first |exact Au.nil |refine Au.keep ?_ |refine Au.dropB (by first |assumption |omega) ?_))) ?_
 rintro ⟨i,a5,c5⟩ hi;dsimp only at hi ⊢;repeat (first |refine Ai ?_ |refine Ab ?_ |refine Ag ?_ |refine Ae Aa rfl ?_)
 refine Ak rfl (fun hlt=>?_) (fun hge=>?_);rotate_left
 ·have hie:i=rn:=by omega
  subst hie;repeat (first |refine Ai ?_ |refine Ab ?_ |refine Ag ?_ |refine Ad ?_ |refine AC ?_ |refine Am ?_ |refine AB ?_ |refine AH ?_ |refine Ap Aa 1 rfl rfl rfl ?_ |refine Aw Aa 2 rfl rfl rfl rfl rfl rfl ?_)
  refine AY rfl (CF Aa 2 rfl rfl rfl rfl) (fun w' hw=>⟨a5,c5,rfl,hw.below (by repeat (first |exact An |refine Az (by first |assumption |omega) ?_ |refine Bw hw 0 rfl (Nat.le_refl _) ?_)),?_⟩);have o0:=hw.own (.row w.heap.size (.slice a5 i c5) 83 2 i (Br (rl.take i))) (Af (i:=0) rfl);rw [List.take_of_length_le (by omega)] at o0;exact Bq.of_row CA o0 hrl hrok (fun k hk _=>hk)
 have hi':i < rl.length:=by omega
 obtain ⟨ab,off,cs,rfl,hlt2,_⟩:=hx.get_ hi';repeat (first |refine Ai ?_ |refine Ab ?_ |refine Ar ?_ |refine Ad ?_ |refine Ao ?_)
 refine BF (Bu (sz:=2) Aa rfl rfl rfl rfl rfl rfl rfl rfl (j:=i) (by omega)) ?_;refine BX Aa (vs:=C0 rl[i]) rfl rfl rfl (fun w' hw=>B7 (hx.ext (hw.below (by repeat (first |exact An |refine Az (by first |assumption |omega) ?_ |refine Bw hw 0 rfl (Nat.le_refl _) ?_)))) hi') ?_;refine A5 Aa rfl (fun b5 hb5=>?_);repeat (first |refine Ag ?_ |refine Ae Aa rfl ?_ |refine Aq ?_ |refine Ap Aa 0 rfl rfl rfl ?_ |refine Ap Aa 2 rfl rfl rfl ?_ |refine Aw Aa 0 rfl rfl rfl rfl rfl rfl ?_)
 refine AO Aa rfl rfl rfl rfl rfl rfl rfl rfl rfl rfl rfl rfl (fun b6 hb6=>?_);refine AU (ty:=0) Aa 2 (k:=1) (news:=Br [rl[i]]) rfl rfl rfl rfl rfl rfl rfl rfl rfl (by decide) (fun w' hw=>Sl.of_blk (hw.own _ (Af (i:=0) rfl)) rfl (fun j u hu=>by rw [Nat.zero_add];exact hu)) (Dc _) (by simp only [maxLen];omega) (by show (_ + _) * 16 <= _;omega) rfl (fun A1 C1 hc3 hd3=>⟨_,rfl,?_⟩);rw [<-CT,<-List.take_succ_eq_append_getElem hi'];repeat (first |refine Ab ?_ |refine Ag ?_ |refine Ad ?_ |refine Al ?_ |refine AE Aa rfl (by omega) ?_ |refine Ae Aa rfl ?_ |refine Aw Aa 3 rfl rfl rfl rfl rfl rfl ?_)
 exact ⟨(i + 1,A1,C1),by show i + 1 <= rn;omega,(by repeat (first |exact As.nil |refine As.cons rfl ?_)),fun w' hw=>hw.less (by repeat (first |exact Au.nil |refine Au.keep ?_ |refine Au.dropB (by first |assumption |omega) ?_)),by show rn - (i + 1) < rn - i;omega⟩
end
end Go.Proofs.YtidhpofcofknhaaGreat
