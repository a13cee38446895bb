/-
  slices.Sort at uint64: how a list of numbers lies; what less says. Conditions: each theorem's own. (Made by genSr.py.) slices.Sort at uint64: insertion, heap, reversal. Conditions: each theorem's own. (Made by genSr.py.) slices.Sort at uint64: the partitions. Conditions: each theorem's own. (Made by genSr.py.) slices.Sort at uint64: the partial insertion sort. Conditions: each theorem's own. (Made by genSr.py.) slices.Sort at uint64: the pivot, the patterns; the length of a number. Conditions: each theorem's own. (Made by genSr.py.) slices.Sort at uint64: the pivot, the patterns. Conditions: each theorem's own. (Made by genSr.py.) slices.Sort at uint64: the whole. Conditions: each theorem's own. (Made by genSr.py.) slices.AppendSeq, slices.Collect at uint64, against any iterator value. Conditions: each theorem's own. slices.Collect at uint64, against any iterator value. Conditions: each 
  Conditions: each theorem's own.
-/
import Derived.Laws.Bits64b
import Derived.LoopIn
import Derived.LoopNIn
import Derived.Maps.AppendAt
import Derived.OwnWalkIn
import Derived.RangeFuncBound
import Derived.RangeFuncBox
import Derived.RangeFuncCalls
import Derived.RangeFuncLeaves
import Derived.RangeFuncWrites
import Derived.Shelf.Abstract
import Derived.Sort.AssemblyPlain
import Derived.TacticsInMore
import Derived.WalkKit
import Derived.Test.YtidhpofcofknhaaGreatEc
namespace Go.Proofs.YtidhpofcofknhaaGreat
open Go Go.RowKit
set_option linter.unusedVariables false
open Go.Sort
abbrev BC (x y:Int):Bool:=decide (x < y)
theorem Qb:SWO BC:=⟨fun x=>by simp [BC],fun x y z h1 h2=>by simp [BC] at *;omega,fun x y z h1 h2=>by simp [BC] at *;omega⟩
abbrev uA (d:Array Int) (junk:List Value):List Value:=d.toList.map (Value.int .u64) ++ junk
abbrev uE (g:Nat) (E:TypeId) (d:Array Int) (junk:List Value):HE:=.blk g (.cells ⟨uA d junk⟩ E (0,0)) true
theorem BY {d:Array Int} {junk:List Value}:(uA d junk).length=d.size + junk.length:=by simp
theorem AJ {d:Array Int} {junk:List Value} {i:Nat} (h:i < d.size):(uA d junk)[i]? =some (.int .u64 d[i]!):=by
 rw [List.getElem?_append_left (by simpa using h),List.getElem?_map,Array.getElem?_toList,Array.getElem?_eq_getElem h,Array.getElem!_eq_getD,Array.getD_eq_getD_getElem?,Array.getElem?_eq_getElem h];rfl
theorem Cm (d:Array Int) (i j:Nat):(swp d i j).size=d.size:=by simp [swp]
theorem Dx {d:Array Int} {junk:List Value} {i j:Nat} (hi:i < d.size) (hj:j < d.size):((uA d junk).set i (.int .u64 d[j]!)).set j (.int .u64 d[i]!)=uA (swp d i j) junk:=by
 rw [List.set_append_left _ _ (by simpa using hi),List.set_append_left _ _ (by simpa using hj),<-List.map_set,<-List.map_set];simp [swp,Array.toList_setIfInBounds]
theorem Bu {w0 w:World} {ol:OL} {b:Nat} {e:TypeId} {cs:List Value} (hw:Hp w0 w (.blk b (.cells ⟨cs⟩ e (0,0)) true::ol)) {j:Nat} {u:Value} (hj:cs[j]? =some u):w.cell? ⟨b,0 + j,none⟩=some u:=
 (Sl.of_blk (n:=cs.length) (sz:=1) (xs:=cs) (hw.own _ (Af (i:=0) rfl)) (by rw [Nat.mul_one]) (fun j u hu=>by rw [Nat.zero_add];exact hu)).at_ (by have:=(List.getElem?_eq_some_iff.1 hj).1;omega) hj
theorem Ba:∀ {cs:List Value} {off:Nat} {v:Value},off < cs.length->Cp cs off [v]=some (cs.set off v)
 |c::cs,0,v,h=>by cases cs<;>rfl
 |c::cs,k + 1,v,h=>by
  simp only [Cp,Ba (cs:=cs) (off:=k) (by simpa using h),List.set_cons_succ]
theorem QR (x:Int) (w:World):Calls Tryz.prog 116 #[.int .u64 x] w fun e w'=>e= .returned (.bool false)/\Below w.heap.size w w':=by
 refine BZ Tryz.func116 rfl rfl (Hp.refl w) ?_;repeat (first |refine Ai ?_ |refine Ab ?_ |refine Ag ?_ |refine AC ?_ |refine Ae Aa rfl ?_)
 refine AZ rfl rfl (fun w' hw=>⟨I8 (decide_eq_false (fun h=>h rfl)),hw.below (by repeat (first |exact Ar))⟩)
theorem B8 {x y:Int} {b:Bool} (h:BC x y=b) (w:World):Calls Tryz.prog 106 #[.int .u64 x,.int .u64 y] w fun e w'=>e= .returned (.bool b)/\Below w.heap.size w w':=by
 subst h;refine BO Tryz.func106 rfl rfl (Hp.refl w) ?_;repeat (first |refine Ai ?_ |refine Ab ?_ |refine Ag ?_ |refine Ae Aa rfl ?_)
 refine Be rfl Tryz.call116 (fun w1 h1=>QR x w1) ?_;repeat (first |refine Ag ?_ |refine AC ?_ |refine Ae Aa rfl ?_ |refine Bn rfl rfl rfl ?_)
 exact AZ rfl rfl (fun w' hw=>⟨rfl,hw.below (by repeat (first |exact Ar))⟩)
open Go.Sort
theorem G9 {a j:Nat} {d:Array Int} (h:j <= a \/ BC d[j]! d[j - 1]! =false):insInner BC a j d=d:=by
 cases j with
 |zero=>rfl
 |succ j=>
  unfold insInner;rw [if_neg];intro hh;rw [Bool.and_eq_true,decide_eq_true_eq] at hh
  rcases h with h |h
  ·omega
  ·rw [Nat.add_sub_cancel] at h;rw [h] at hh;exact absurd hh.2 (by decide)
theorem KH {a j:Nat} {d:Array Int} (h:a < j) (hl:BC d[j]! d[j - 1]! =true):insInner BC a j d=insInner BC a (j - 1) (swp d j (j - 1)):=by
 obtain ⟨k,rfl⟩:∃ k,j=k + 1:=⟨j - 1,by omega⟩;rw [Nat.add_sub_cancel] at hl ⊢
 conv=>lhs;unfold insInner
 rw [if_pos (by rw [Bool.and_eq_true,decide_eq_true_eq];exact ⟨h,hl⟩)]
structure WD where
 i:Nat
 d:Array Int
set_option maxHeartbeats 4000000 in
theorem Vq {w0 w:World} {g c n:Nat} {d0:Array Int} {junk:List Value} {rest:OL} (a b:Nat) (h:Hp w0 w (uE g 32 d0 junk::rest)) (hn:d0.size=n) (hab:a <= b) (hb:b <= n) (hm:n <= 4611686018427387904):Calls Tryz.prog 100 #[.slice (some ⟨g,0,none⟩) n c,.int .i64 (a:Int),.int .i64 (b:Int)] w fun e w'=>e= .returned (.tuple #[])/\Hp w0 w' (uE g 32 (insertionSort BC d0 a b) junk::rest)/\(insertionSort BC d0 a b).size=n:=by
 refine Ef Tryz.func100 rfl rfl h ?_;obtain ⟨R,hR⟩:∃ R,R=insertionSort BC d0 a b:=⟨_,rfl⟩;rw [<-hR];unfold insertionSort at hR;repeat (first |refine Ai ?_ |refine Ab ?_ |refine Aq ?_ |refine Ag ?_ |refine AD Aa rfl (by omega) ?_ |refine Ae Aa rfl ?_)
 refine AM (ι:=WD) (fun i=>[(0,.slice (some ⟨g,0,none⟩) n c),(1,.int .i64 (a:Int)),(2,.int .i64 (b:Int)),(6,.int .i64 (i.i:Int))]) (fun i=>uE g 32 i.d junk::rest) (fun i=>a + 1 <= i.i/\i.d.size=n/\R=insOuter BC a b i.i i.d) (fun i=>b - i.i) ⟨a + 1,d0⟩ ⟨Nat.le_refl _,hn,hR⟩ (by repeat (first |exact As.nil |refine As.cons rfl ?_)) (fun w' hw=>hw) ?_;rintro ⟨i,d⟩ ⟨hi,hd,hR⟩;dsimp only at hi hd hR ⊢;unfold insOuter at hR;repeat (first |refine Ai ?_ |refine Ab ?_ |refine Ag ?_ |refine Ae Aa rfl ?_)
 refine Ak rfl (fun h=>?_) (fun h=>?_);rotate_left
 ·rw [if_neg (by omega)] at hR;subst hR;repeat (first |refine AB ?_ |refine Al ?_ |refine AH ?_)
  exact CM rfl (fun w' hw=>⟨rfl,hw,hd⟩)
 rw [if_pos (by omega)] at hR;repeat (first |refine Ai ?_ |refine Ab ?_ |refine Aq ?_ |refine Ag ?_ |refine Ad ?_ |refine Ao ?_ |refine Ae Aa rfl ?_)
 obtain ⟨R2,hR2⟩:∃ R,R=insInner BC a i d:=⟨_,rfl⟩;rw [<-hR2] at hR;refine AM (ι:=WD) (fun j=>[(0,.slice (some ⟨g,0,none⟩) n c),(1,.int .i64 (a:Int)),(2,.int .i64 (b:Int)),(6,.int .i64 (i:Int)),(7,.int .i64 (j.i:Int))]) (fun j=>uE g 32 j.d junk::rest) (fun j=>j.i <= i/\j.d.size=n/\R2=insInner BC a j.i j.d) (fun j=>j.i) ⟨i,d⟩ ⟨Nat.le_refl _,hd,hR2⟩ (by repeat (first |exact As.nil |refine As.cons rfl ?_)) (fun w' hw=>hw) ?_;rintro ⟨j,d⟩ ⟨hj,hd,hR2⟩;dsimp only at hj hd hR2 ⊢;by_cases h1:a < j;rotate_left
 ·rw [G9 (.inl (by omega))] at hR2;subst hR2;repeat (first |refine A5 (by kernel_rfl) (by kernel_rfl) ?_ |refine Ah Aa rfl ?_ |refine Ai ?_)
  refine BX 19 (v':=.bool false) rfl (congrArg Value.bool (decide_eq_false (by omega))) ?_;repeat (first |refine AN rfl ?_ |refine Ah Aa rfl ?_ |refine BP rfl rfl rfl ?_)
  refine AG rfl ?_;repeat (first |refine Ab ?_ |refine Ag ?_ |refine Ad ?_ |refine Am ?_ |refine AB ?_ |refine Al ?_ |refine AH ?_ |refine AD Aa rfl (by omega) ?_ |refine Ae Aa rfl ?_)
  exact ⟨⟨i + 1,R2⟩,⟨by dsimp only;omega,hd,hR⟩,by repeat (first |exact As.nil |refine As.cons rfl ?_),fun w' hw=>hw,by dsimp only;omega⟩
 cases hb:BC d[j]! d[j - 1]! with
 |false=>
  rw [G9 (.inr hb)] at hR2;subst hR2;repeat (first |refine A5 (by kernel_rfl) (by kernel_rfl) ?_ |refine Ah Aa rfl ?_ |refine Ai ?_)
  refine BX 19 (v':=.bool true) rfl (congrArg Value.bool (decide_eq_true (by omega))) ?_;repeat (first |refine Ah Aa rfl ?_)
  refine Bx (Ay Aa rfl rfl rfl rfl rfl rfl rfl (j:=j) (by omega) (by omega)) ?_;refine Av Aa rfl rfl (v:=.int .u64 R2[j]!) (fun w' hw=>Bu hw (AJ (by omega))) ?_;repeat (first |refine BD Aa rfl (by omega) ?_ |refine Ah Aa rfl ?_)
  refine Bx (Ay Aa rfl rfl rfl rfl rfl rfl rfl (j:=(j - 1)) (by omega) (by omega)) ?_;refine Av Aa rfl rfl (v:=.int .u64 R2[(j - 1)]!) (fun w' hw=>Bu hw (AJ (by omega))) ?_;skip;refine Bi rfl Tryz.call106 (v:=.bool false) (fun w' vs hw' h=>by obtain ⟨u1,_,rfl,rfl,u2,_,rfl,rfl,rfl⟩:=h;exact B8 hb w') ?_;repeat (first |refine AN rfl ?_ |refine Ah Aa rfl ?_)
  refine AG rfl ?_;repeat (first |refine Ab ?_ |refine Ag ?_ |refine Ad ?_ |refine Am ?_ |refine AB ?_ |refine Al ?_ |refine AH ?_ |refine AD Aa rfl (by omega) ?_ |refine Ae Aa rfl ?_)
  exact ⟨⟨i + 1,R2⟩,⟨by dsimp only;omega,hd,hR⟩,by repeat (first |exact As.nil |refine As.cons rfl ?_),fun w' hw=>hw,by dsimp only;omega⟩
 |true=>
  rw [KH h1 hb] at hR2;repeat (first |refine A5 (by kernel_rfl) (by kernel_rfl) ?_ |refine Ah Aa rfl ?_ |refine Ai ?_)
  refine BX 19 (v':=.bool true) rfl (congrArg Value.bool (decide_eq_true (by omega))) ?_;repeat (first |refine Ah Aa rfl ?_)
  refine Bx (Ay Aa rfl rfl rfl rfl rfl rfl rfl (j:=j) (by omega) (by omega)) ?_;refine Av Aa rfl rfl (v:=.int .u64 d[j]!) (fun w' hw=>Bu hw (AJ (by omega))) ?_;repeat (first |refine BD Aa rfl (by omega) ?_ |refine Ah Aa rfl ?_)
  refine Bx (Ay Aa rfl rfl rfl rfl rfl rfl rfl (j:=(j - 1)) (by omega) (by omega)) ?_;refine Av Aa rfl rfl (v:=.int .u64 d[(j - 1)]!) (fun w' hw=>Bu hw (AJ (by omega))) ?_;skip;refine Bi rfl Tryz.call106 (v:=.bool true) (fun w' vs hw' h=>by obtain ⟨u1,_,rfl,rfl,u2,_,rfl,rfl,rfl⟩:=h;exact B8 hb w') ?_;repeat (first |refine AN rfl ?_ |refine Ah Aa rfl ?_)
  refine AX rfl ?_;repeat (first |refine Ai ?_ |refine Aq ?_ |refine Ao ?_ |refine Ad ?_)
  have hs:=Cm d j (j - 1)
  let ol0:OL:=uE g 32 d junk::rest
  let ol1:OL:=.blk g (.cells ⟨(uA d junk).set j (.int .u64 d[(j - 1)]!)⟩ 32 (0,0)) true::rest
  let ol2:OL:=uE g 32 (swp d j (j - 1)) junk::rest
  let olf:(Nat->Bool)->OL:=fun L=>match L 17 with
   |true=>ol2
   |false=>match L 15 with
    |true=>ol1
    |false=>ol0
  refine Ca ?_;refine Ci (by kernel_rfl) (by kernel_rfl) [.slice (some ⟨g,0,none⟩) n c,.int .i64 (j:Int),.slice (some ⟨g,0,none⟩) n c,.int .i64 (j:Int),.int .i64 ((j:Int) - 1),.slice (some ⟨g,0,none⟩) n c,.int .i64 (j:Int),.int .i64 ((j:Int) - 1),.pointer (some ⟨g,0 + (j - 1),none⟩),.int .u64 d[(j - 1)]!,.slice (some ⟨g,0,none⟩) n c,.int .i64 (j:Int),.pointer (some ⟨g,0 + j,none⟩),.int .u64 d[j]!,.pointer (some ⟨g,0 + j,none⟩),undef,.pointer (some ⟨g,0 + (j - 1),none⟩),undef] rfl olf rfl ?_ (l':=[(0,.slice (some ⟨g,0,none⟩) n c),(1,.int .i64 (a:Int)),(2,.int .i64 (b:Int)),(6,.int .i64 (i:Int)),(7,.int .i64 (j:Int))]) (ol':=ol2) (fun L h=>by simp only [olf,h 17 (by decide)]) (by repeat (first |exact Bc.nil |refine Bc.cons rfl ?_)) ?_
  ·refine ⟨?_,?_,?_,?_,?_,?_,?_,?_,?_,?_,?_,?_,?_,?_,?_,?_,?_,?_,trivial⟩
   ·exact fun L hc hl hp=>AK.ofD rfl (Ah Aa rfl Aj)
   ·exact fun L hc hl hp=>AK.ofD rfl (Ah Aa rfl Aj)
   ·exact fun L hc hl hp=>AK.ofD rfl (Ah Aa rfl Aj)
   ·exact fun L hc hl hp=>AK.ofD rfl (Ah Aa rfl Aj)
   ·exact fun L hc hl hp=>AK.ofD rfl (BD Aa rfl (by omega) Aj)
   ·exact fun L hc hl hp=>AK.ofD rfl (Ah Aa rfl Aj)
   ·exact fun L hc hl hp=>AK.ofD rfl (Ah Aa rfl Aj)
   ·exact fun L hc hl hp=>AK.ofD rfl (BD Aa rfl (by omega) Aj)
   ·exact fun L hc hl hp=>AK.ofD rfl (Bx (Ay Aa rfl rfl rfl rfl rfl rfl rfl (j:=(j - 1)) (by omega) (by omega)) Aj)
   ·intro L hc hl hp;have h15:=At hc (j:=15) rfl ⟨9,.data⟩ (by simp) rfl hl;have h17:=At hc (j:=17) rfl ⟨9,.phase⟩ (by simp) rfl hl
    have e1:olf L=ol0:=by simp only [olf,h15,h17]
    have e2:olf (add L 9)=ol0:=by simp [olf,add,h15,h17]
    rw [e1,e2];exact AK.ofD rfl (Av Aa (v:=.int .u64 d[(j - 1)]!) rfl rfl (fun w' hw=>Bu hw (AJ (by omega))) Aj)
   ·exact fun L hc hl hp=>AK.ofD rfl (Ah Aa rfl Aj)
   ·exact fun L hc hl hp=>AK.ofD rfl (Ah Aa rfl Aj)
   ·exact fun L hc hl hp=>AK.ofD rfl (Bx (Ay Aa rfl rfl rfl rfl rfl rfl rfl (j:=j) (by omega) (by omega)) Aj)
   ·intro L hc hl hp;have h15:=At hc (j:=15) rfl ⟨13,.phase⟩ (by simp) rfl hl;have h17:=At hc (j:=17) rfl ⟨13,.data⟩ (by simp) rfl hl
    have e1:olf L=ol0:=by simp only [olf,h15,h17]
    have e2:olf (add L 13)=ol0:=by simp [olf,add,h15,h17]
    rw [e1,e2];exact AK.ofD rfl (Av Aa (v:=.int .u64 d[j]!) rfl rfl (fun w' hw=>Bu hw (AJ (by omega))) Aj)
   ·exact fun L hc hl hp=>AK.ofD rfl (Bx (Ay Aa rfl rfl rfl rfl rfl rfl rfl (j:=j) (by omega) (by omega)) Aj)
   ·intro L hc hl hp;have h17:=At hc (j:=17) rfl ⟨15,.chain⟩ (by simp) rfl hl
    have e1:olf L=ol0:=by simp only [olf,hl,h17]
    have e2:olf (add L 15)=ol1:=by simp [olf,add,h17]
    rw [e1,e2];exact AK.store Aa 0 rfl rfl (by intro x hx;rw [List.mem_singleton] at hx;subst hx;rfl) rfl (by rw [Nat.zero_add];exact Ba (by rw [BY];omega)) rfl
   ·exact fun L hc hl hp=>AK.ofD rfl (Bx (Ay Aa rfl rfl rfl rfl rfl rfl rfl (j:=(j - 1)) (by omega) (by omega)) Aj)
   ·intro L hc hl hp;have h15:L 15=true:=hp ⟨15,.chain⟩ (by simp) rfl
    have e1:olf L=ol1:=by simp only [olf,h15,hl]
    have e2:olf (add L 17)=ol2:=by simp [olf,add]
    rw [e1,e2];exact AK.store Aa 0 rfl rfl (by intro x hx;rw [List.mem_singleton] at hx;subst hx;rfl) rfl (by rw [Nat.zero_add];exact (Ba (by rw [List.length_set,BY];omega)).trans (congrArg some (Dx (by omega) (by omega)))) rfl
  clear olf ol0 ol1;dsimp only [ol2];clear ol2;repeat (first |refine Ab ?_ |refine Ag ?_ |refine Ad ?_ |refine Am ?_ |refine AD Aa rfl (by omega) ?_ |refine Ae Aa rfl ?_)
  exact ⟨⟨j - 1,swp d j (j - 1)⟩,⟨by dsimp only;omega,by dsimp only;omega,hR2⟩,(by dsimp only;repeat (first |exact As.nil |refine As.cons rfl ?_ |refine As.cons_int rfl (by omega) ?_)),fun w' hw=>hw,by dsimp only;omega⟩
theorem Pi {hi first root:Nat} {d:Array Int} (h:hi <= 2 * root + 1):siftDown BC hi first root d=d:=by
 unfold siftDown;rw [dif_pos (by omega)]
def K4 (hi first root:Nat) (d:Array Int):Nat:=if 2 * root + 2 < hi/\BC d[first + (2 * root + 1)]! d[first + (2 * root + 2)]! =true then 2 * root + 2 else 2 * root + 1
theorem Vo (hi first root:Nat) (d:Array Int):K4 hi first root d=2 * root + 2 \/ K4 hi first root d=2 * root + 1:=by
 unfold K4;split
 ·exact .inl rfl
 ·exact .inr rfl
theorem W7 {hi first root:Nat} {d:Array Int} (h:2 * root + 1 < hi):root < K4 hi first root d/\K4 hi first root d < hi:=by
 unfold K4;split<;>omega
theorem Pj {hi first root:Nat} {d:Array Int} (h:2 * root + 1 < hi):siftDown BC hi first root d=if BC d[first + root]! d[first + K4 hi first root d]! =true then siftDown BC hi first (K4 hi first root d) (swp d (first + root) (first + K4 hi first root d)) else d:=by
 conv=>lhs;unfold siftDown
 rw [dif_neg (by omega)];unfold K4;by_cases h2:2 * root + 2 < hi/\BC d[first + (2 * root + 1)]! d[first + (2 * root + 2)]! =true
 ·rw [if_pos (by rw [Bool.and_eq_true,decide_eq_true_eq];exact h2),if_pos h2]
  cases h3:BC d[first + root]! d[first + (2 * root + 2)]! with
  |true=>simp only [Bool.not_true,Bool.false_eq_true,if_false,if_true];rw [dif_pos h2.1]
  |false=>simp
 ·rw [if_neg (by rw [Bool.and_eq_true,decide_eq_true_eq];exact h2),if_neg h2]
  cases h3:BC d[first + root]! d[first + (2 * root + 1)]! with
  |true=>simp
  |false=>simp
set_option maxHeartbeats 4000000 in
theorem Ok {w0 w:World} {g c n:Nat} {d0:Array Int} {junk:List Value} {rest:OL} (lo hi first:Nat) (h:Hp w0 w (uE g 32 d0 junk::rest)) (hn:d0.size=n) (hb:first + hi <= n) (hl:lo <= n) (hm:n <= 1152921504606846976):Calls Tryz.prog 111 #[.slice (some ⟨g,0,none⟩) n c,.int .i64 (lo:Int),.int .i64 (hi:Int),.int .i64 (first:Int)] w fun e w'=>e= .returned (.tuple #[])/\Hp w0 w' (uE g 32 (siftDown BC hi first lo d0) junk::rest)/\(siftDown BC hi first lo d0).size=n:=by
 refine GO Tryz.func111 rfl rfl h ?_
 obtain ⟨R,hR⟩:∃ R,R=siftDown BC hi first lo d0:=⟨_,rfl⟩
 rw [<-hR];repeat (first |refine Ai ?_ |refine Ab ?_ |refine Aq ?_ |refine Ag ?_ |refine Ae Aa rfl ?_)
 refine AM (ι:=WD) (fun i=>[(0,.slice (some ⟨g,0,none⟩) n c),(2,.int .i64 (hi:Int)),(3,.int .i64 (first:Int)),(8,.int .i64 (i.i:Int))]) (fun i=>uE g 32 i.d junk::rest) (fun i=>i.i <= n/\i.d.size=n/\R=siftDown BC hi first i.i i.d) (fun i=>n - i.i) ⟨lo,d0⟩ ⟨hl,hn,hR⟩ (by repeat (first |exact As.nil |refine As.cons rfl ?_)) (fun w' hw=>hw) ?_;rintro ⟨root,d⟩ ⟨hr,hd,hR⟩;dsimp only at hr hd hR ⊢;repeat (first |refine Ai ?_ |refine Ab ?_ |refine Aq ?_ |refine Ag ?_ |refine AD Aa rfl (by omega) ?_ |refine Ae Aa rfl ?_)
 refine Ak rfl (fun hc=>?_) (fun hc=>?_)
 ·rw [Pi (by omega)] at hR;subst hR;repeat (first |refine Al ?_ |refine AH ?_)
  refine Cx rfl ?_;repeat (first |refine AB ?_ |refine Al ?_)
  exact CM rfl (fun w' hw=>⟨rfl,hw,hd⟩)
 have hk:=W7 (first:=first) (d:=d) (by omega:2 * root + 1 < hi);rw [Pj (by omega)] at hR;repeat (first |refine Ai ?_ |refine Ao ?_ |refine Ad ?_)
 refine BN (ι:=Unit) (fun _=>True) (fun _=>[(0,.slice (some ⟨g,0,none⟩) n c),(2,.int .i64 (hi:Int)),(3,.int .i64 (first:Int)),(8,.int .i64 (root:Int)),(9,.int .i64 (2 * (root:Int) + 1:Int)),(36,.bool (decide (K4 hi first root d=2 * root + 2)))]) (fun _=>uE g 32 d junk::rest) ?_ ?_
 ·by_cases h1:2 * root + 2 < hi;rotate_left
  ·repeat (first |refine A5 (by kernel_rfl) (by kernel_rfl) ?_ |refine BD Aa rfl (by omega) ?_ |refine Ah Aa rfl ?_)
   refine BX 21 (v':=.bool false) rfl (congrArg Value.bool (decide_eq_false (by omega))) ?_;repeat (first |refine AN rfl ?_ |refine Ah Aa rfl ?_ |refine BP rfl rfl rfl ?_)
   refine ⟨(),trivial,?_,fun w' hw=>hw⟩;rw [show decide (K4 hi first root d=2 * root + 2)=false from decide_eq_false (by unfold K4;rw [if_neg (fun h=>h1 h.1)];omega)];repeat (first |exact As.nil |refine As.cons rfl ?_)
  cases hb:BC d[first + (2 * root + 1)]! d[first + (2 * root + 2)]! with
  |false=>
   repeat (first |refine A5 (by kernel_rfl) (by kernel_rfl) ?_ |refine BD Aa rfl (by omega) ?_ |refine Ah Aa rfl ?_)
   refine BX 21 (v':=.bool true) rfl (congrArg Value.bool (decide_eq_true (by omega))) ?_;repeat (first |refine BD Aa rfl (by omega) ?_ |refine Ah Aa rfl ?_)
   refine Bx (Ay Aa rfl rfl rfl rfl rfl rfl rfl (j:=(first + (2 * root + 1))) (by omega) (by omega)) ?_;refine Av Aa rfl rfl (v:=.int .u64 d[(first + (2 * root + 1))]!) (fun w' hw=>Bu hw (AJ (by omega))) ?_;repeat (first |refine BD Aa rfl (by omega) ?_ |refine Ah Aa rfl ?_)
   refine Bx (Ay Aa rfl rfl rfl rfl rfl rfl rfl (j:=(first + (2 * root + 2))) (by omega) (by omega)) ?_;refine Av Aa rfl rfl (v:=.int .u64 d[(first + (2 * root + 2))]!) (fun w' hw=>Bu hw (AJ (by omega))) ?_;skip;refine Bi rfl Tryz.call106 (v:=.bool false) (fun w' vs hw' h=>by obtain ⟨u1,_,rfl,rfl,u2,_,rfl,rfl,rfl⟩:=h;exact B8 hb w') ?_;repeat (first |refine AN rfl ?_ |refine Ah Aa rfl ?_)
   refine ⟨(),trivial,?_,fun w' hw=>hw⟩;rw [show decide (K4 hi first root d=2 * root + 2)=false from decide_eq_false (by unfold K4;rw [hb,if_neg (fun h=>by cases h.2)];omega)];repeat (first |exact As.nil |refine As.cons rfl ?_)
  |true=>
   repeat (first |refine A5 (by kernel_rfl) (by kernel_rfl) ?_ |refine BD Aa rfl (by omega) ?_ |refine Ah Aa rfl ?_)
   refine BX 21 (v':=.bool true) rfl (congrArg Value.bool (decide_eq_true (by omega))) ?_;repeat (first |refine BD Aa rfl (by omega) ?_ |refine Ah Aa rfl ?_)
   refine Bx (Ay Aa rfl rfl rfl rfl rfl rfl rfl (j:=(first + (2 * root + 1))) (by omega) (by omega)) ?_;refine Av Aa rfl rfl (v:=.int .u64 d[(first + (2 * root + 1))]!) (fun w' hw=>Bu hw (AJ (by omega))) ?_;repeat (first |refine BD Aa rfl (by omega) ?_ |refine Ah Aa rfl ?_)
   refine Bx (Ay Aa rfl rfl rfl rfl rfl rfl rfl (j:=(first + (2 * root + 2))) (by omega) (by omega)) ?_;refine Av Aa rfl rfl (v:=.int .u64 d[(first + (2 * root + 2))]!) (fun w' hw=>Bu hw (AJ (by omega))) ?_;skip;refine Bi rfl Tryz.call106 (v:=.bool true) (fun w' vs hw' h=>by obtain ⟨u1,_,rfl,rfl,u2,_,rfl,rfl,rfl⟩:=h;exact B8 hb w') ?_;repeat (first |refine AN rfl ?_ |refine Ah Aa rfl ?_)
   refine ⟨(),trivial,?_,fun w' hw=>hw⟩;rw [show decide (K4 hi first root d=2 * root + 2)=true from decide_eq_true (by unfold K4;rw [hb,if_pos ⟨h1,rfl⟩])];repeat (first |exact As.nil |refine As.cons rfl ?_)
 rintro _ _;refine BN (ι:=Unit) (fun _=>True) (fun _=>[(0,.slice (some ⟨g,0,none⟩) n c),(2,.int .i64 (hi:Int)),(3,.int .i64 (first:Int)),(8,.int .i64 (root:Int)),(9,.int .i64 (K4 hi first root d:Int))]) (fun _=>uE g 32 d junk::rest) ?_ ?_
 ·refine Ak rfl (fun h1=>?_) (fun h1=>?_)
  ·rw [h1];repeat (first |refine Ab ?_ |refine Ag ?_ |refine AD Aa rfl (by omega) ?_ |refine Ae Aa rfl ?_)
   exact ⟨(),trivial,(by repeat (first |exact As.nil |refine As.cons rfl ?_)),fun w' hw=>hw⟩
  ·have h2:K4 hi first root d=2 * root + 1:=(Vo ..).resolve_left h1
   rw [h2];repeat (first |refine Ad ?_ |refine Ao ?_)
   exact ⟨(),trivial,(by repeat (first |exact As.nil |refine As.cons rfl ?_)),fun w' hw=>hw⟩
 rintro _ _
 generalize K4 hi first root d=k at hk hR ⊢
 cases hb:BC d[first + root]! d[first + k]! with
 |false=>
  rw [hb,if_neg (by decide)] at hR;subst hR;repeat (first |refine A5 (by kernel_rfl) (by kernel_rfl) ?_ |refine BD Aa rfl (by omega) ?_ |refine Ah Aa rfl ?_ |refine Ai ?_)
  refine Bx (Ay Aa rfl rfl rfl rfl rfl rfl rfl (j:=(first + root)) (by omega) (by omega)) ?_;refine Av Aa rfl rfl (v:=.int .u64 R[(first + root)]!) (fun w' hw=>Bu hw (AJ (by omega))) ?_;repeat (first |refine BD Aa rfl (by omega) ?_ |refine Ah Aa rfl ?_)
  refine Bx (Ay Aa rfl rfl rfl rfl rfl rfl rfl (j:=(first + k)) (by omega) (by omega)) ?_;refine Av Aa rfl rfl (v:=.int .u64 R[(first + k)]!) (fun w' hw=>Bu hw (AJ (by omega))) ?_;skip;refine Bi rfl Tryz.call106 (v:=.bool false) (fun w' vs hw' h=>by obtain ⟨u1,_,rfl,rfl,u2,_,rfl,rfl,rfl⟩:=h;exact B8 hb w') ?_;repeat (first |refine AN rfl ?_ |refine Ah Aa rfl ?_)
  refine AX rfl ?_;repeat (first |refine BQ ?_ |refine AI ?_ |refine AC ?_)
  exact Pm rfl (fun w' hw=>⟨rfl,hw,hd⟩)
 |true=>
  rw [hb,if_pos rfl] at hR;repeat (first |refine A5 (by kernel_rfl) (by kernel_rfl) ?_ |refine BD Aa rfl (by omega) ?_ |refine Ah Aa rfl ?_ |refine Ai ?_)
  refine Bx (Ay Aa rfl rfl rfl rfl rfl rfl rfl (j:=(first + root)) (by omega) (by omega)) ?_;refine Av Aa rfl rfl (v:=.int .u64 d[(first + root)]!) (fun w' hw=>Bu hw (AJ (by omega))) ?_;repeat (first |refine BD Aa rfl (by omega) ?_ |refine Ah Aa rfl ?_)
  refine Bx (Ay Aa rfl rfl rfl rfl rfl rfl rfl (j:=(first + k)) (by omega) (by omega)) ?_;refine Av Aa rfl rfl (v:=.int .u64 d[(first + k)]!) (fun w' hw=>Bu hw (AJ (by omega))) ?_;skip;refine Bi rfl Tryz.call106 (v:=.bool true) (fun w' vs hw' h=>by obtain ⟨u1,_,rfl,rfl,u2,_,rfl,rfl,rfl⟩:=h;exact B8 hb w') ?_;repeat (first |refine AN rfl ?_ |refine Ah Aa rfl ?_)
  refine AG rfl ?_;repeat (first |refine Ai ?_ |refine Ao ?_ |refine Ad ?_)
  have hs:=Cm d (first + root) (first + k)
  let ol0:OL:=uE g 32 d junk::rest
  let ol1:OL:=.blk g (.cells ⟨(uA d junk).set (first + root) (.int .u64 d[(first + k)]!)⟩ 32 (0,0)) true::rest
  let ol2:OL:=uE g 32 (swp d (first + root) (first + k)) junk::rest
  let olf:(Nat->Bool)->OL:=fun L=>match L 23 with
   |true=>ol2
   |false=>match L 21 with
    |true=>ol1
    |false=>ol0
  refine Ci (by kernel_rfl) (by kernel_rfl) [.slice (some ⟨g,0,none⟩) n c,.int .i64 (first:Int),.int .i64 (root:Int),.int .i64 ((first:Int) + (root:Int)),.slice (some ⟨g,0,none⟩) n c,.int .i64 (first:Int),.int .i64 (k:Int),.int .i64 ((first:Int) + (k:Int)),.slice (some ⟨g,0,none⟩) n c,.int .i64 (first:Int),.int .i64 (k:Int),.int .i64 ((first:Int) + (k:Int)),.pointer (some ⟨g,0 + (first + k),none⟩),.int .u64 d[(first + k)]!,.slice (some ⟨g,0,none⟩) n c,.int .i64 (first:Int),.int .i64 (root:Int),.int .i64 ((first:Int) + (root:Int)),.pointer (some ⟨g,0 + (first + root),none⟩),.int .u64 d[(first + root)]!,.pointer (some ⟨g,0 + (first + root),none⟩),undef,.pointer (some ⟨g,0 + (first + k),none⟩),undef] rfl olf rfl ?_ (l':=[(0,.slice (some ⟨g,0,none⟩) n c),(2,.int .i64 (hi:Int)),(3,.int .i64 (first:Int)),(8,.int .i64 (root:Int)),(9,.int .i64 (k:Int))]) (ol':=ol2) (fun L h=>by simp only [olf,h 23 (by decide)]) (by repeat (first |exact Bc.nil |refine Bc.cons rfl ?_)) ?_
  ·refine ⟨?_,?_,?_,?_,?_,?_,?_,?_,?_,?_,?_,?_,?_,?_,?_,?_,?_,?_,?_,?_,?_,?_,?_,?_,trivial⟩
   ·exact fun L hc hl hp=>AK.ofD rfl (Ah Aa rfl Aj)
   ·exact fun L hc hl hp=>AK.ofD rfl (Ah Aa rfl Aj)
   ·exact fun L hc hl hp=>AK.ofD rfl (Ah Aa rfl Aj)
   ·exact fun L hc hl hp=>AK.ofD rfl (BD Aa rfl (by omega) Aj)
   ·exact fun L hc hl hp=>AK.ofD rfl (Ah Aa rfl Aj)
   ·exact fun L hc hl hp=>AK.ofD rfl (Ah Aa rfl Aj)
   ·exact fun L hc hl hp=>AK.ofD rfl (Ah Aa rfl Aj)
   ·exact fun L hc hl hp=>AK.ofD rfl (BD Aa rfl (by omega) Aj)
   ·exact fun L hc hl hp=>AK.ofD rfl (Ah Aa rfl Aj)
   ·exact fun L hc hl hp=>AK.ofD rfl (Ah Aa rfl Aj)
   ·exact fun L hc hl hp=>AK.ofD rfl (Ah Aa rfl Aj)
   ·exact fun L hc hl hp=>AK.ofD rfl (BD Aa rfl (by omega) Aj)
   ·exact fun L hc hl hp=>AK.ofD rfl (Bx (Ay Aa rfl rfl rfl rfl rfl rfl rfl (j:=(first + k)) (by omega) (by omega)) Aj)
   ·intro L hc hl hp;have h21:=At hc (j:=21) rfl ⟨13,.data⟩ (by simp) rfl hl;have h23:=At hc (j:=23) rfl ⟨13,.phase⟩ (by simp) rfl hl
    have e1:olf L=ol0:=by simp only [olf,h21,h23]
    have e2:olf (add L 13)=ol0:=by simp [olf,add,h21,h23]
    rw [e1,e2];exact AK.ofD rfl (Av Aa (v:=.int .u64 d[(first + k)]!) rfl rfl (fun w' hw=>Bu hw (AJ (by omega))) Aj)
   ·exact fun L hc hl hp=>AK.ofD rfl (Ah Aa rfl Aj)
   ·exact fun L hc hl hp=>AK.ofD rfl (Ah Aa rfl Aj)
   ·exact fun L hc hl hp=>AK.ofD rfl (Ah Aa rfl Aj)
   ·exact fun L hc hl hp=>AK.ofD rfl (BD Aa rfl (by omega) Aj)
   ·exact fun L hc hl hp=>AK.ofD rfl (Bx (Ay Aa rfl rfl rfl rfl rfl rfl rfl (j:=(first + root)) (by omega) (by omega)) Aj)
   ·intro L hc hl hp;have h21:=At hc (j:=21) rfl ⟨19,.phase⟩ (by simp) rfl hl;have h23:=At hc (j:=23) rfl ⟨19,.data⟩ (by simp) rfl hl
    have e1:olf L=ol0:=by simp only [olf,h21,h23]
    have e2:olf (add L 19)=ol0:=by simp [olf,add,h21,h23]
    rw [e1,e2];exact AK.ofD rfl (Av Aa (v:=.int .u64 d[(first + root)]!) rfl rfl (fun w' hw=>Bu hw (AJ (by omega))) Aj)
   ·exact fun L hc hl hp=>AK.ofD rfl (Bx (Ay Aa rfl rfl rfl rfl rfl rfl rfl (j:=(first + root)) (by omega) (by omega)) Aj)
   ·intro L hc hl hp;have h23:=At hc (j:=23) rfl ⟨21,.chain⟩ (by simp) rfl hl
    have e1:olf L=ol0:=by simp only [olf,hl,h23]
    have e2:olf (add L 21)=ol1:=by simp [olf,add,h23]
    rw [e1,e2];exact AK.store Aa 0 rfl rfl (by intro x hx;rw [List.mem_singleton] at hx;subst hx;rfl) rfl (by rw [Nat.zero_add];exact Ba (by rw [BY];omega)) rfl
   ·exact fun L hc hl hp=>AK.ofD rfl (Bx (Ay Aa rfl rfl rfl rfl rfl rfl rfl (j:=(first + k)) (by omega) (by omega)) Aj)
   ·intro L hc hl hp;have h21:L 21=true:=hp ⟨21,.chain⟩ (by simp) rfl
    have e1:olf L=ol1:=by simp only [olf,h21,hl]
    have e2:olf (add L 23)=ol2:=by simp [olf,add]
    rw [e1,e2];exact AK.store Aa 0 rfl rfl (by intro x hx;rw [List.mem_singleton] at hx;subst hx;rfl) rfl (by rw [Nat.zero_add];exact (Ba (by rw [List.length_set,BY];omega)).trans (congrArg some (Dx (by omega) (by omega)))) rfl
  clear olf ol0 ol1;dsimp only [ol2];clear ol2;repeat (first |refine Ag ?_ |refine Ad ?_ |refine Am ?_ |refine Ae Aa rfl ?_ |refine Ap ?_)
  exact ⟨⟨k,swp d (first + root) (first + k)⟩,⟨by dsimp only;omega,by dsimp only;omega,hR⟩,(by dsimp only;repeat (first |exact As.nil |refine As.cons rfl ?_)),fun w' hw=>hw,by dsimp only;omega⟩
set_option maxHeartbeats 4000000 in
theorem QT {w0 w:World} {g c n:Nat} {d0:Array Int} {junk:List Value} {rest:OL} (a b:Nat) (h:Hp w0 w (uE g 32 d0 junk::rest)) (hn:d0.size=n) (hab:a < b) (hb:b <= n) (hm:n <= 1152921504606846976):Calls Tryz.prog 101 #[.slice (some ⟨g,0,none⟩) n c,.int .i64 (a:Int),.int .i64 (b:Int)] w fun e w'=>e= .returned (.tuple #[])/\Hp w0 w' (uE g 32 (heapSort BC d0 a b) junk::rest)/\(heapSort BC d0 a b).size=n:=by
 refine Ef Tryz.func101 rfl rfl h ?_;obtain ⟨R,hR⟩:∃ R,R=heapSort BC d0 a b:=⟨_,rfl⟩;rw [<-hR];unfold heapSort at hR;obtain ⟨m,hmm⟩:∃ m,m=b - a:=⟨_,rfl⟩;rw [<-hmm] at hR;obtain ⟨d1,hd1⟩:∃ d,d=heapBuild BC m a ((m - 1) / 2 + 1) d0:=⟨_,rfl⟩;rw [<-hd1] at hR;repeat (first |refine Ai ?_ |refine Ab ?_ |refine Ag ?_ |refine AD Aa rfl (by omega) ?_ |refine Ae Aa rfl ?_)
 refine Co 16 (v':=.int .i64 ((m - 1:Nat):Int)) rfl (congrArg (Value.int .i64) (by omega)) ?_;refine BE (Hv rfl rfl rfl (by omega) (by omega) (fun e h1 h2=>IntWalk.i64_in _ (by omega))) ?_;repeat (first |refine Aq ?_ |refine Ag ?_ |refine Ae Aa rfl ?_)
 refine AM (ι:=WD) (fun i=>[(0,.slice (some ⟨g,0,none⟩) n c),(6,.int .i64 (a:Int)),(7,.int .i64 0),(8,.int .i64 (m:Int)),(9,.int .i64 ((i.i:Int) - 1))]) (fun i=>uE g 32 i.d junk::rest) (fun i=>i.i <= m/\i.d.size=n/\d1=heapBuild BC m a i.i i.d) (fun i=>i.i) ⟨(m - 1) / 2 + 1,d0⟩ ⟨by dsimp only;omega,hn,hd1⟩ (by dsimp only;repeat (first |exact As.nil |refine As.cons rfl ?_ |refine As.cons_int rfl (by omega) ?_)) (fun w' hw=>hw) ?_;rintro ⟨k,d⟩ ⟨hk,hd,hd1⟩;dsimp only at hk hd hd1 ⊢
 cases k with
 |succ k=>
  unfold heapBuild at hd1;repeat (first |refine Ai ?_ |refine Ab ?_ |refine Ag ?_ |refine Ae Aa rfl ?_)
  refine Ak rfl (fun _=>?_) (fun h=>absurd (by omega) h);repeat (first |refine Ai ?_ |refine Aq ?_ |refine Ad ?_ |refine Ao ?_ |refine Ae Aa rfl ?_ |refine Ap ?_)
  refine Co 23 (v':=.int .i64 (k:Int)) rfl (congrArg (Value.int .i64) (by omega)) ?_;refine A7 rfl Tryz.call111 (fun w1 h1=>(Ok k m a h1 hd (by omega) (by omega) hm).mono fun e w' ⟨e1,h2,h3⟩=>⟨_,_,e1,h2,?_⟩);repeat (first |refine Ab ?_ |refine Ag ?_ |refine Ad ?_ |refine Am ?_ |refine AD Aa rfl (by omega) ?_ |refine Ae Aa rfl ?_)
  exact ⟨⟨k,siftDown BC m a k d⟩,⟨by dsimp only;omega,h3,hd1⟩,(by dsimp only;repeat (first |exact As.nil |refine As.cons rfl ?_ |refine As.cons_int rfl (by omega) ?_)),fun w' hw=>hw,by dsimp only;omega⟩
 |zero=>
  unfold heapBuild at hd1;subst hd1;repeat (first |refine Ai ?_ |refine Ab ?_ |refine Ag ?_ |refine Ae Aa rfl ?_)
  refine Ak rfl (fun h=>absurd h (by omega)) (fun _=>?_);repeat (first |refine Ai ?_ |refine Ab ?_ |refine Aq ?_ |refine Ag ?_ |refine Ad ?_ |refine AB ?_ |refine Al ?_ |refine AH ?_ |refine AD Aa rfl (by omega) ?_ |refine Ae Aa rfl ?_)
  refine AM (ι:=WD) (fun i=>[(0,.slice (some ⟨g,0,none⟩) n c),(6,.int .i64 (a:Int)),(7,.int .i64 0),(10,.int .i64 ((i.i:Int) - 1))]) (fun i=>uE g 32 i.d junk::rest) (fun i=>i.i <= m/\i.d.size=n/\R=heapPop BC a i.i i.d) (fun i=>i.i) ⟨m,d1⟩ ⟨Nat.le_refl _,hd,hR⟩ (by dsimp only;repeat (first |exact As.nil |refine As.cons rfl ?_)) (fun w' hw=>hw) ?_;rintro ⟨k,d⟩ ⟨hk,hd,hR⟩;dsimp only at hk hd hR ⊢
  cases k with
  |zero=>
   unfold heapPop at hR;subst hR;repeat (first |refine Ai ?_ |refine Ab ?_ |refine Ag ?_ |refine Ae Aa rfl ?_)
   refine Ak rfl (fun h=>absurd h (by omega)) (fun _=>?_);repeat (first |refine AB ?_ |refine Al ?_ |refine AH ?_)
   exact CM rfl (fun w' hw=>⟨rfl,hw,hd⟩)
  |succ k=>
   unfold heapPop at hR;repeat (first |refine Ai ?_ |refine Ab ?_ |refine Ag ?_ |refine Ae Aa rfl ?_)
   refine Ak rfl (fun _=>?_) (fun h=>absurd (by omega) h);repeat (first |refine Ai ?_ |refine Aq ?_ |refine Ao ?_ |refine Ad ?_)
   have hs:=Cm d a (a + k)
   let ol0:OL:=uE g 32 d junk::rest
   let ol1:OL:=.blk g (.cells ⟨(uA d junk).set a (.int .u64 d[(a + k)]!)⟩ 32 (0,0)) true::rest
   let ol2:OL:=uE g 32 (swp d a (a + k)) junk::rest
   let olf:(Nat->Bool)->OL:=fun L=>match L 19 with
    |true=>ol2
    |false=>match L 17 with
     |true=>ol1
     |false=>ol0
   refine Ci (by kernel_rfl) (by kernel_rfl) [.slice (some ⟨g,0,none⟩) n c,.int .i64 (a:Int),.slice (some ⟨g,0,none⟩) n c,.int .i64 (a:Int),.int .i64 (((k + 1:Nat):Int) - 1),.int .i64 ((a:Int) + (((k + 1:Nat):Int) - 1)),.slice (some ⟨g,0,none⟩) n c,.int .i64 (a:Int),.int .i64 (((k + 1:Nat):Int) - 1),.int .i64 ((a:Int) + (((k + 1:Nat):Int) - 1)),.pointer (some ⟨g,0 + (a + k),none⟩),.int .u64 d[(a + k)]!,.slice (some ⟨g,0,none⟩) n c,.int .i64 (a:Int),.pointer (some ⟨g,0 + a,none⟩),.int .u64 d[a]!,.pointer (some ⟨g,0 + a,none⟩),undef,.pointer (some ⟨g,0 + (a + k),none⟩),undef] rfl olf rfl ?_ (l':=[(0,.slice (some ⟨g,0,none⟩) n c),(6,.int .i64 (a:Int)),(7,.int .i64 0),(10,.int .i64 (((k + 1:Nat):Int) - 1))]) (ol':=ol2) (fun L h=>by simp only [olf,h 19 (by decide)]) (by repeat (first |exact Bc.nil |refine Bc.cons rfl ?_)) ?_
   ·refine ⟨?_,?_,?_,?_,?_,?_,?_,?_,?_,?_,?_,?_,?_,?_,?_,?_,?_,?_,?_,?_,trivial⟩
    ·exact fun L hc hl hp=>AK.ofD rfl (Ah Aa rfl Aj)
    ·exact fun L hc hl hp=>AK.ofD rfl (Ah Aa rfl Aj)
    ·exact fun L hc hl hp=>AK.ofD rfl (Ah Aa rfl Aj)
    ·exact fun L hc hl hp=>AK.ofD rfl (Ah Aa rfl Aj)
    ·exact fun L hc hl hp=>AK.ofD rfl (Ah Aa rfl Aj)
    ·exact fun L hc hl hp=>AK.ofD rfl (BD Aa rfl (by omega) Aj)
    ·exact fun L hc hl hp=>AK.ofD rfl (Ah Aa rfl Aj)
    ·exact fun L hc hl hp=>AK.ofD rfl (Ah Aa rfl Aj)
    ·exact fun L hc hl hp=>AK.ofD rfl (Ah Aa rfl Aj)
    ·exact fun L hc hl hp=>AK.ofD rfl (BD Aa rfl (by omega) Aj)
    ·exact fun L hc hl hp=>AK.ofD rfl (Bx (Ay Aa rfl rfl rfl rfl rfl rfl rfl (j:=(a + k)) (by omega) (by omega)) Aj)
    ·intro L hc hl hp;have h17:=At hc (j:=17) rfl ⟨11,.data⟩ (by simp) rfl hl;have h19:=At hc (j:=19) rfl ⟨11,.phase⟩ (by simp) rfl hl
     have e1:olf L=ol0:=by simp only [olf,h17,h19]
     have e2:olf (add L 11)=ol0:=by simp [olf,add,h17,h19]
     rw [e1,e2];exact AK.ofD rfl (Av Aa (v:=.int .u64 d[(a + k)]!) rfl rfl (fun w' hw=>Bu hw (AJ (by omega))) Aj)
    ·exact fun L hc hl hp=>AK.ofD rfl (Ah Aa rfl Aj)
    ·exact fun L hc hl hp=>AK.ofD rfl (Ah Aa rfl Aj)
    ·exact fun L hc hl hp=>AK.ofD rfl (Bx (Ay Aa rfl rfl rfl rfl rfl rfl rfl (j:=a) (by omega) (by omega)) Aj)
    ·intro L hc hl hp;have h17:=At hc (j:=17) rfl ⟨15,.phase⟩ (by simp) rfl hl;have h19:=At hc (j:=19) rfl ⟨15,.data⟩ (by simp) rfl hl
     have e1:olf L=ol0:=by simp only [olf,h17,h19]
     have e2:olf (add L 15)=ol0:=by simp [olf,add,h17,h19]
     rw [e1,e2];exact AK.ofD rfl (Av Aa (v:=.int .u64 d[a]!) rfl rfl (fun w' hw=>Bu hw (AJ (by omega))) Aj)
    ·exact fun L hc hl hp=>AK.ofD rfl (Bx (Ay Aa rfl rfl rfl rfl rfl rfl rfl (j:=a) (by omega) (by omega)) Aj)
    ·intro L hc hl hp;have h19:=At hc (j:=19) rfl ⟨17,.chain⟩ (by simp) rfl hl
     have e1:olf L=ol0:=by simp only [olf,hl,h19]
     have e2:olf (add L 17)=ol1:=by simp [olf,add,h19]
     rw [e1,e2];exact AK.store Aa 0 rfl rfl (by intro x hx;rw [List.mem_singleton] at hx;subst hx;rfl) rfl (by rw [Nat.zero_add];exact Ba (by rw [BY];omega)) rfl
    ·exact fun L hc hl hp=>AK.ofD rfl (Bx (Ay Aa rfl rfl rfl rfl rfl rfl rfl (j:=(a + k)) (by omega) (by omega)) Aj)
    ·intro L hc hl hp;have h17:L 17=true:=hp ⟨17,.chain⟩ (by simp) rfl
     have e1:olf L=ol1:=by simp only [olf,h17,hl]
     have e2:olf (add L 19)=ol2:=by simp [olf,add]
     rw [e1,e2];exact AK.store Aa 0 rfl rfl (by intro x hx;rw [List.mem_singleton] at hx;subst hx;rfl) rfl (by rw [Nat.zero_add];exact (Ba (by rw [List.length_set,BY];omega)).trans (congrArg some (Dx (by omega) (by omega)))) rfl
   clear olf ol0 ol1;dsimp only [ol2];clear ol2;repeat (first |refine Ae Aa rfl ?_ |refine Ap ?_)
   refine Co 53 (v':=.int .i64 (k:Int)) rfl (congrArg (Value.int .i64) (by omega)) ?_;refine A7 rfl Tryz.call111 (fun w1 h1=>(Ok 0 k a h1 (by omega) (by omega) (by omega) hm).mono fun e w' ⟨e1,h2,h3⟩=>⟨_,_,e1,h2,?_⟩);repeat (first |refine Ab ?_ |refine Ag ?_ |refine Ad ?_ |refine Am ?_ |refine AD Aa rfl (by omega) ?_ |refine Ae Aa rfl ?_)
   exact ⟨⟨k,siftDown BC k a 0 (swp d a (a + k))⟩,⟨by dsimp only;omega,h3,hR⟩,(by dsimp only;repeat (first |exact As.nil |refine As.cons rfl ?_ |refine As.cons_int rfl (by omega) ?_)),fun w' hw=>hw,by dsimp only;omega⟩
structure X6 where
 i:Nat
 j:Nat
 d:Array Int
set_option maxHeartbeats 4000000 in
theorem Ve {w0 w:World} {g c n:Nat} {d0:Array Int} {junk:List Value} {rest:OL} (a b:Nat) (h:Hp w0 w (uE g 32 d0 junk::rest)) (hn:d0.size=n) (hab:a < b) (hb:b <= n) (hm:n <= 1152921504606846976):Calls Tryz.prog 104 #[.slice (some ⟨g,0,none⟩) n c,.int .i64 (a:Int),.int .i64 (b:Int)] w fun e w'=>e= .returned (.tuple #[])/\Hp w0 w' (uE g 32 (reverseRange d0 a b) junk::rest)/\(reverseRange d0 a b).size=n:=by
 refine Ef Tryz.func104 rfl rfl h ?_;obtain ⟨R,hR⟩:∃ R,R=reverseRange d0 a b:=⟨_,rfl⟩;rw [<-hR];unfold reverseRange at hR;repeat (first |refine Ai ?_ |refine Ab ?_ |refine Aq ?_ |refine Ag ?_ |refine AD Aa rfl (by omega) ?_ |refine Ae Aa rfl ?_)
 refine AM (ι:=X6) (fun i=>[(0,.slice (some ⟨g,0,none⟩) n c),(6,.int .i64 (i.i:Int)),(7,.int .i64 (i.j:Int))]) (fun i=>uE g 32 i.d junk::rest) (fun i=>i.j < n/\i.d.size=n/\R=reverseLoop i.i i.j i.d) (fun i=>i.j - i.i) ⟨a,b - 1,d0⟩ ⟨by dsimp only;omega,hn,hR⟩ (by dsimp only;repeat (first |exact As.nil |refine As.cons rfl ?_ |refine As.cons_int rfl (by omega) ?_)) (fun w' hw=>hw) ?_;rintro ⟨i,j,d⟩ ⟨hj,hd,hR⟩;dsimp only at hj hd hR ⊢;unfold reverseLoop at hR;repeat (first |refine Ai ?_ |refine Ab ?_ |refine Ag ?_ |refine Ae Aa rfl ?_)
 refine Ak rfl (fun h=>?_) (fun h=>?_);rotate_left
 ·rw [if_neg (by omega)] at hR;subst hR;repeat (first |refine AB ?_ |refine Al ?_ |refine AH ?_)
  exact CM rfl (fun w' hw=>⟨rfl,hw,hd⟩)
 rw [if_pos (by omega)] at hR;repeat (first |refine Ai ?_ |refine Aq ?_ |refine Ao ?_ |refine Ad ?_)
 have hs:=Cm d i j
 let ol0:OL:=uE g 32 d junk::rest
 let ol1:OL:=.blk g (.cells ⟨(uA d junk).set i (.int .u64 d[j]!)⟩ 32 (0,0)) true::rest
 let ol2:OL:=uE g 32 (swp d i j) junk::rest
 let olf:(Nat->Bool)->OL:=fun L=>match L 15 with
  |true=>ol2
  |false=>match L 13 with
   |true=>ol1
   |false=>ol0
 refine Ci (by kernel_rfl) (by kernel_rfl) [.slice (some ⟨g,0,none⟩) n c,.int .i64 (i:Int),.slice (some ⟨g,0,none⟩) n c,.int .i64 (j:Int),.slice (some ⟨g,0,none⟩) n c,.int .i64 (j:Int),.pointer (some ⟨g,0 + j,none⟩),.int .u64 d[j]!,.slice (some ⟨g,0,none⟩) n c,.int .i64 (i:Int),.pointer (some ⟨g,0 + i,none⟩),.int .u64 d[i]!,.pointer (some ⟨g,0 + i,none⟩),undef,.pointer (some ⟨g,0 + j,none⟩),undef] rfl olf rfl ?_ (l':=[(0,.slice (some ⟨g,0,none⟩) n c),(6,.int .i64 (i:Int)),(7,.int .i64 (j:Int))]) (ol':=ol2) (fun L h=>by simp only [olf,h 15 (by decide)]) (by repeat (first |exact Bc.nil |refine Bc.cons rfl ?_)) ?_
 ·refine ⟨?_,?_,?_,?_,?_,?_,?_,?_,?_,?_,?_,?_,?_,?_,?_,?_,trivial⟩
  ·exact fun L hc hl hp=>AK.ofD rfl (Ah Aa rfl Aj)
  ·exact fun L hc hl hp=>AK.ofD rfl (Ah Aa rfl Aj)
  ·exact fun L hc hl hp=>AK.ofD rfl (Ah Aa rfl Aj)
  ·exact fun L hc hl hp=>AK.ofD rfl (Ah Aa rfl Aj)
  ·exact fun L hc hl hp=>AK.ofD rfl (Ah Aa rfl Aj)
  ·exact fun L hc hl hp=>AK.ofD rfl (Ah Aa rfl Aj)
  ·exact fun L hc hl hp=>AK.ofD rfl (Bx (Ay Aa rfl rfl rfl rfl rfl rfl rfl (j:=j) (by omega) (by omega)) Aj)
  ·intro L hc hl hp;have h13:=At hc (j:=13) rfl ⟨7,.data⟩ (by simp) rfl hl;have h15:=At hc (j:=15) rfl ⟨7,.phase⟩ (by simp) rfl hl
   have e1:olf L=ol0:=by simp only [olf,h13,h15]
   have e2:olf (add L 7)=ol0:=by simp [olf,add,h13,h15]
   rw [e1,e2];exact AK.ofD rfl (Av Aa (v:=.int .u64 d[j]!) rfl rfl (fun w' hw=>Bu hw (AJ (by omega))) Aj)
  ·exact fun L hc hl hp=>AK.ofD rfl (Ah Aa rfl Aj)
  ·exact fun L hc hl hp=>AK.ofD rfl (Ah Aa rfl Aj)
  ·exact fun L hc hl hp=>AK.ofD rfl (Bx (Ay Aa rfl rfl rfl rfl rfl rfl rfl (j:=i) (by omega) (by omega)) Aj)
  ·intro L hc hl hp;have h13:=At hc (j:=13) rfl ⟨11,.phase⟩ (by simp) rfl hl;have h15:=At hc (j:=15) rfl ⟨11,.data⟩ (by simp) rfl hl
   have e1:olf L=ol0:=by simp only [olf,h13,h15]
   have e2:olf (add L 11)=ol0:=by simp [olf,add,h13,h15]
   rw [e1,e2];exact AK.ofD rfl (Av Aa (v:=.int .u64 d[i]!) rfl rfl (fun w' hw=>Bu hw (AJ (by omega))) Aj)
  ·exact fun L hc hl hp=>AK.ofD rfl (Bx (Ay Aa rfl rfl rfl rfl rfl rfl rfl (j:=i) (by omega) (by omega)) Aj)
  ·intro L hc hl hp;have h15:=At hc (j:=15) rfl ⟨13,.chain⟩ (by simp) rfl hl
   have e1:olf L=ol0:=by simp only [olf,hl,h15]
   have e2:olf (add L 13)=ol1:=by simp [olf,add,h15]
   rw [e1,e2];exact AK.store Aa 0 rfl rfl (by intro x hx;rw [List.mem_singleton] at hx;subst hx;rfl) rfl (by rw [Nat.zero_add];exact Ba (by rw [BY];omega)) rfl
  ·exact fun L hc hl hp=>AK.ofD rfl (Bx (Ay Aa rfl rfl rfl rfl rfl rfl rfl (j:=j) (by omega) (by omega)) Aj)
  ·intro L hc hl hp;have h13:L 13=true:=hp ⟨13,.chain⟩ (by simp) rfl
   have e1:olf L=ol1:=by simp only [olf,h13,hl]
   have e2:olf (add L 15)=ol2:=by simp [olf,add]
   rw [e1,e2];exact AK.store Aa 0 rfl rfl (by intro x hx;rw [List.mem_singleton] at hx;subst hx;rfl) rfl (by rw [Nat.zero_add];exact (Ba (by rw [List.length_set,BY];omega)).trans (congrArg some (Dx (by omega) (by omega)))) rfl
 clear olf ol0 ol1;dsimp only [ol2];clear ol2;repeat (first |refine Ai ?_ |refine Ab ?_ |refine Ag ?_ |refine Ad ?_ |refine Am ?_ |refine AD Aa rfl (by omega) ?_ |refine Ae Aa rfl ?_ |refine Ap ?_)
 exact ⟨⟨i + 1,j - 1,swp d i j⟩,⟨by dsimp only;omega,by dsimp only;omega,hR⟩,(by dsimp only;repeat (first |exact As.nil |refine As.cons rfl ?_ |refine As.cons_int rfl (by omega) ?_)),fun w' hw=>hw,by dsimp only;omega⟩
open Go.Sort
theorem GD {p:Int->Bool} {d:Array Int} {j i:Nat} (h:¬ i <= j \/ p d[i]! =false):scanUp p d j i=i:=by
 unfold scanUp;rw [if_neg];intro hh;rw [Bool.and_eq_true,decide_eq_true_eq] at hh
 rcases h with h |h
 ·exact h hh.1
 ·rw [h] at hh;exact absurd hh.2 (by decide)
theorem LA {p:Int->Bool} {d:Array Int} {j i:Nat} (h:i <= j) (hp:p d[i]! =true):scanUp p d j i=scanUp p d j (i + 1):=by
 conv=>lhs;unfold scanUp
 rw [if_pos (by rw [Bool.and_eq_true,decide_eq_true_eq];exact ⟨h,hp⟩)]
theorem GS {p:Int->Bool} {d:Array Int} {j i:Nat} (h:¬ i <= j \/ p d[j]! =false) (h1:1 <= i):scanDown p d i j=j:=by
 cases j with
 |zero=>rfl
 |succ j=>
  unfold scanDown;rw [if_neg];intro hh;rw [Bool.and_eq_true,decide_eq_true_eq] at hh
  rcases h with h |h
  ·exact h hh.1
  ·rw [h] at hh;exact absurd hh.2 (by decide)
theorem LX {p:Int->Bool} {d:Array Int} {j i:Nat} (h:i <= j) (h1:1 <= i) (hp:p d[j]! =true):scanDown p d i j=scanDown p d i (j - 1):=by
 obtain ⟨k,rfl⟩:∃ k,j=k + 1:=⟨j - 1,by omega⟩
 conv=>lhs;unfold scanDown
 rw [if_pos (by rw [Bool.and_eq_true,decide_eq_true_eq];exact ⟨h,hp⟩)];rfl
theorem Qh (p q:Int->Bool) (hq:∀ x,q x=!p x) (d:Array Int) {i j:Nat} (h1:1 <= i) (h:i <= j + 1):i <= scanUp p d j i/\scanUp p d j i <= j + 1/\scanDown q d (scanUp p d j i) j <= j/\scanUp p d j i <= scanDown q d (scanUp p d j i) j + 1/\(scanUp p d j i <= scanDown q d (scanUp p d j i) j->scanUp p d j i < scanDown q d (scanUp p d j i) j):=by
 obtain ⟨u1,u2,u3,u4⟩:=scanUp_spec p d j _ i rfl;obtain ⟨v1,v2,v3,v4⟩:=scanDown_spec q d (scanUp p d j i) j;refine ⟨u1,u2 h,v1,v2 (u2 h),fun hh=>?_⟩;generalize scanUp p d j i=i2 at *;generalize scanDown q d i2 j=j2 at *;have a1:=u4 (by omega);have a2:=v4 hh (by omega);rw [hq] at a2
 rcases Nat.lt_or_ge i2 j2 with h3 |h3
 ·exact h3
 ·have:i2=j2:=by omega
  rw [<-this,a1] at a2;cases a2
set_option maxHeartbeats 8000000 in
theorem S1 {w0 w:World} {g c n:Nat} {d0:Array Int} {junk:List Value} {rest:OL} (a b pivot:Nat) (h:Hp w0 w (uE g 32 d0 junk::rest)) (hn:d0.size=n) (hp1:a <= pivot) (hp2:pivot < b) (hb:b <= n) (hm:n <= 1152921504606846976):Calls Tryz.prog 108 #[.slice (some ⟨g,0,none⟩) n c,.int .i64 (a:Int),.int .i64 (b:Int),.int .i64 (pivot:Int)] w fun e w'=>e= .returned (.tuple #[.int .i64 (((partition BC d0 a b pivot).1:Nat):Int),.bool (partition BC d0 a b pivot).2.1])/\Hp w0 w' (uE g 32 ((partition BC d0 a b pivot).2.2) junk::rest)/\((partition BC d0 a b pivot).2.2).size=n:=by
 refine GO Tryz.func108 rfl rfl h ?_;obtain ⟨R,hR⟩:∃ R,R=partition BC d0 a b pivot:=⟨_,rfl⟩;rw [<-hR];unfold partition at hR;repeat (first |refine Ai ?_ |refine Ab ?_ |refine Ag ?_ |refine Ae Aa rfl ?_)
 have hs:=Cm d0 a pivot
 let ol0:OL:=uE g 32 d0 junk::rest
 let ol1:OL:=.blk g (.cells ⟨(uA d0 junk).set a (.int .u64 d0[pivot]!)⟩ 32 (0,0)) true::rest
 let ol2:OL:=uE g 32 (swp d0 a pivot) junk::rest
 let olf:(Nat->Bool)->OL:=fun L=>match L 15 with
  |true=>ol2
  |false=>match L 13 with
   |true=>ol1
   |false=>ol0
 refine Ci (by kernel_rfl) (by kernel_rfl) [.slice (some ⟨g,0,none⟩) n c,.int .i64 (a:Int),.slice (some ⟨g,0,none⟩) n c,.int .i64 (pivot:Int),.slice (some ⟨g,0,none⟩) n c,.int .i64 (pivot:Int),.pointer (some ⟨g,0 + pivot,none⟩),.int .u64 d0[pivot]!,.slice (some ⟨g,0,none⟩) n c,.int .i64 (a:Int),.pointer (some ⟨g,0 + a,none⟩),.int .u64 d0[a]!,.pointer (some ⟨g,0 + a,none⟩),undef,.pointer (some ⟨g,0 + pivot,none⟩),undef] rfl olf rfl ?_ (l':=[(0,.slice (some ⟨g,0,none⟩) n c),(1,.int .i64 (a:Int)),(2,.int .i64 (b:Int))]) (ol':=ol2) (fun L h=>by simp only [olf,h 15 (by decide)]) (by repeat (first |exact Bc.nil |refine Bc.cons rfl ?_)) ?_
 ·refine ⟨?_,?_,?_,?_,?_,?_,?_,?_,?_,?_,?_,?_,?_,?_,?_,?_,trivial⟩
  ·exact fun L hc hl hp=>AK.ofD rfl (Ah Aa rfl Aj)
  ·exact fun L hc hl hp=>AK.ofD rfl (Ah Aa rfl Aj)
  ·exact fun L hc hl hp=>AK.ofD rfl (Ah Aa rfl Aj)
  ·exact fun L hc hl hp=>AK.ofD rfl (Ah Aa rfl Aj)
  ·exact fun L hc hl hp=>AK.ofD rfl (Ah Aa rfl Aj)
  ·exact fun L hc hl hp=>AK.ofD rfl (Ah Aa rfl Aj)
  ·exact fun L hc hl hp=>AK.ofD rfl (Bx (Ay Aa rfl rfl rfl rfl rfl rfl rfl (j:=pivot) (by omega) (by omega)) Aj)
  ·intro L hc hl hp;have h13:=At hc (j:=13) rfl ⟨7,.data⟩ (by simp) rfl hl;have h15:=At hc (j:=15) rfl ⟨7,.phase⟩ (by simp) rfl hl
   have e1:olf L=ol0:=by simp only [olf,h13,h15]
   have e2:olf (add L 7)=ol0:=by simp [olf,add,h13,h15]
   rw [e1,e2];exact AK.ofD rfl (Av Aa (v:=.int .u64 d0[pivot]!) rfl rfl (fun w' hw=>Bu hw (AJ (by omega))) Aj)
  ·exact fun L hc hl hp=>AK.ofD rfl (Ah Aa rfl Aj)
  ·exact fun L hc hl hp=>AK.ofD rfl (Ah Aa rfl Aj)
  ·exact fun L hc hl hp=>AK.ofD rfl (Bx (Ay Aa rfl rfl rfl rfl rfl rfl rfl (j:=a) (by omega) (by omega)) Aj)
  ·intro L hc hl hp;have h13:=At hc (j:=13) rfl ⟨11,.phase⟩ (by simp) rfl hl;have h15:=At hc (j:=15) rfl ⟨11,.data⟩ (by simp) rfl hl
   have e1:olf L=ol0:=by simp only [olf,h13,h15]
   have e2:olf (add L 11)=ol0:=by simp [olf,add,h13,h15]
   rw [e1,e2];exact AK.ofD rfl (Av Aa (v:=.int .u64 d0[a]!) rfl rfl (fun w' hw=>Bu hw (AJ (by omega))) Aj)
  ·exact fun L hc hl hp=>AK.ofD rfl (Bx (Ay Aa rfl rfl rfl rfl rfl rfl rfl (j:=a) (by omega) (by omega)) Aj)
  ·intro L hc hl hp;have h15:=At hc (j:=15) rfl ⟨13,.chain⟩ (by simp) rfl hl
   have e1:olf L=ol0:=by simp only [olf,hl,h15]
   have e2:olf (add L 13)=ol1:=by simp [olf,add,h15]
   rw [e1,e2];exact AK.store Aa 0 rfl rfl (by intro x hx;rw [List.mem_singleton] at hx;subst hx;rfl) rfl (by rw [Nat.zero_add];exact Ba (by rw [BY];omega)) rfl
  ·exact fun L hc hl hp=>AK.ofD rfl (Bx (Ay Aa rfl rfl rfl rfl rfl rfl rfl (j:=pivot) (by omega) (by omega)) Aj)
  ·intro L hc hl hp;have h13:L 13=true:=hp ⟨13,.chain⟩ (by simp) rfl
   have e1:olf L=ol1:=by simp only [olf,h13,hl]
   have e2:olf (add L 15)=ol2:=by simp [olf,add]
   rw [e1,e2];exact AK.store Aa 0 rfl rfl (by intro x hx;rw [List.mem_singleton] at hx;subst hx;rfl) rfl (by rw [Nat.zero_add];exact (Ba (by rw [List.length_set,BY];omega)).trans (congrArg some (Dx (by omega) (by omega)))) rfl
 clear olf ol0 ol1;dsimp only [ol2];clear ol2;obtain ⟨d,hd0⟩:∃ d,d=swp d0 a pivot:=⟨_,rfl⟩;rw [<-hd0] at hR hs ⊢;clear hd0
 have hd:d.size=n:=by omega
 repeat (first |refine Ai ?_ |refine Ab ?_ |refine Ag ?_ |refine AD Aa rfl (by omega) ?_ |refine Ae Aa rfl ?_)
 skip;obtain ⟨ia,hia⟩:∃ i,i=a + 1:=⟨_,rfl⟩;obtain ⟨jb,hjb⟩:∃ j,j=b - 1:=⟨_,rfl⟩;rw [<-hjb,<-hia] at hR;refine Lo (l':=[(0,.slice (some ⟨g,0,none⟩) n c),(1,.int .i64 (a:Int)),(2,.int .i64 (b:Int)),(10,.int .i64 (ia:Int)),(11,.int .i64 (jb:Int))]) (by repeat (first |exact As.nil |refine As.cons rfl ?_ |refine As.cons_int rfl (by omega) ?_)) ?_;obtain ⟨i1,hi1⟩:∃ i,i=scanUp (fun x=>BC x d[a]!) d jb ia:=⟨_,rfl⟩;obtain ⟨j1,hj1⟩:∃ j,j=scanDown (fun x=>!BC x d[a]!) d i1 jb:=⟨_,rfl⟩;obtain ⟨f1,f2,f3,f4,f5⟩:=Qh (fun x=>BC x d[a]!) (fun x=>!BC x d[a]!) (fun _=>rfl) d (i:=ia) (j:=jb) (by omega) (by omega);rw [<-hi1,<-hj1] at f3 f4 f5;rw [<-hi1] at f1 f2
 replace hR:R=if i1 > j1 then (j1,true,swp d j1 a) else ((partLoop BC a (i1 + 1) (j1 - 1) (swp d i1 j1)).1,false,swp (partLoop BC a (i1 + 1) (j1 - 1) (swp d i1 j1)).2 (partLoop BC a (i1 + 1) (j1 - 1) (swp d i1 j1)).1 a):=by rw [hR,hi1,hj1,hi1]
 refine BN (ι:=Unit) (fun _=>True) (fun _=>[(0,.slice (some ⟨g,0,none⟩) n c),(1,.int .i64 (a:Int)),(2,.int .i64 (b:Int)),(11,.int .i64 (jb:Int)),(10,.int .i64 (i1:Int))]) (fun _=>uE g 32 d junk::rest) ?_ ?_
 ·refine Aq ?_;refine AM (ι:=Nat) (fun t=>[(0,.slice (some ⟨g,0,none⟩) n c),(1,.int .i64 (a:Int)),(2,.int .i64 (b:Int)),(11,.int .i64 (jb:Int)),(10,.int .i64 (t:Int))]) (fun _=>uE g 32 d junk::rest) (fun t=>ia <= t/\t <= jb + 1/\i1=scanUp (fun x=>BC x d[a]!) d jb t) (fun t=>jb + 1 - t) ia ⟨by omega,by omega,by assumption⟩ (by repeat (first |exact As.nil |refine As.cons rfl ?_)) (fun w' hw=>hw) ?_;rintro t ⟨ht1,ht2,hR⟩;by_cases hc:t <= jb;rotate_left
  ·rw [GD (p:=fun x=>BC x d[a]!) (.inl hc)] at hR;subst hR;repeat (first |refine A5 (by kernel_rfl) (by kernel_rfl) ?_ |refine Ah Aa rfl ?_ |refine Ai ?_)
   refine BX 33 (v':=.bool false) rfl (congrArg Value.bool (decide_eq_false (by omega))) ?_;repeat (first |refine AN rfl ?_ |refine Ah Aa rfl ?_ |refine BP rfl rfl rfl ?_)
   refine AG rfl ?_;repeat (first |refine Ad ?_ |refine AB ?_ |refine Al ?_ |refine AH ?_)
   exact ⟨(),trivial,by repeat (first |exact As.nil |refine As.cons rfl ?_),fun w' hw=>hw⟩
  cases hb:BC d[t]! d[a]! with
  |false=>
   rw [GD (p:=fun x=>BC x d[a]!) (.inr hb)] at hR;subst hR;repeat (first |refine A5 (by kernel_rfl) (by kernel_rfl) ?_ |refine Ah Aa rfl ?_ |refine Ai ?_)
   refine BX 33 (v':=.bool true) rfl (congrArg Value.bool (decide_eq_true (by omega))) ?_;repeat (first |refine Ah Aa rfl ?_)
   refine Bx (Ay Aa rfl rfl rfl rfl rfl rfl rfl (j:=i1) (by omega) (by omega)) ?_;refine Av Aa rfl rfl (v:=.int .u64 d[i1]!) (fun w' hw=>Bu hw (AJ (by omega))) ?_;repeat (first |refine Ah Aa rfl ?_)
   refine Bx (Ay Aa rfl rfl rfl rfl rfl rfl rfl (j:=a) (by omega) (by omega)) ?_;refine Av Aa rfl rfl (v:=.int .u64 d[a]!) (fun w' hw=>Bu hw (AJ (by omega))) ?_;skip;refine Bi rfl Tryz.call106 (v:=.bool false) (fun w' vs hw' h=>by obtain ⟨u1,_,rfl,rfl,u2,_,rfl,rfl,rfl⟩:=h;exact B8 hb w') ?_;repeat (first |refine AN rfl ?_ |refine Ah Aa rfl ?_)
   refine AG rfl ?_;repeat (first |refine Ad ?_ |refine AB ?_ |refine Al ?_ |refine AH ?_)
   exact ⟨(),trivial,by repeat (first |exact As.nil |refine As.cons rfl ?_),fun w' hw=>hw⟩
  |true=>
   rw [LA (p:=fun x=>BC x d[a]!) hc hb] at hR;repeat (first |refine A5 (by kernel_rfl) (by kernel_rfl) ?_ |refine Ah Aa rfl ?_ |refine Ai ?_)
   refine BX 33 (v':=.bool true) rfl (congrArg Value.bool (decide_eq_true (by omega))) ?_;repeat (first |refine Ah Aa rfl ?_)
   refine Bx (Ay Aa rfl rfl rfl rfl rfl rfl rfl (j:=t) (by omega) (by omega)) ?_;refine Av Aa rfl rfl (v:=.int .u64 d[t]!) (fun w' hw=>Bu hw (AJ (by omega))) ?_;repeat (first |refine Ah Aa rfl ?_)
   refine Bx (Ay Aa rfl rfl rfl rfl rfl rfl rfl (j:=a) (by omega) (by omega)) ?_;refine Av Aa rfl rfl (v:=.int .u64 d[a]!) (fun w' hw=>Bu hw (AJ (by omega))) ?_;skip;refine Bi rfl Tryz.call106 (v:=.bool true) (fun w' vs hw' h=>by obtain ⟨u1,_,rfl,rfl,u2,_,rfl,rfl,rfl⟩:=h;exact B8 hb w') ?_;repeat (first |refine AN rfl ?_ |refine Ah Aa rfl ?_)
   refine AX rfl ?_;repeat (first |refine Aq ?_ |refine Ag ?_ |refine Ad ?_ |refine Am ?_ |refine Ao ?_ |refine AD Aa rfl (by omega) ?_ |refine Ae Aa rfl ?_ |refine Ap ?_)
   exact ⟨t + 1,⟨by omega,by omega,hR⟩,(by repeat (first |exact As.nil |refine As.cons rfl ?_)),fun w' hw=>hw,by omega⟩
 rintro _ _;repeat (first |refine Ai ?_)
 refine BN (ι:=Unit) (fun _=>True) (fun _=>[(0,.slice (some ⟨g,0,none⟩) n c),(1,.int .i64 (a:Int)),(2,.int .i64 (b:Int)),(10,.int .i64 (i1:Int)),(11,.int .i64 (j1:Int))]) (fun _=>uE g 32 d junk::rest) ?_ ?_
 ·refine Aq ?_;refine AM (ι:=Nat) (fun t=>[(0,.slice (some ⟨g,0,none⟩) n c),(1,.int .i64 (a:Int)),(2,.int .i64 (b:Int)),(10,.int .i64 (i1:Int)),(11,.int .i64 (t:Int))]) (fun _=>uE g 32 d junk::rest) (fun t=>t <= jb/\i1 <= t + 1/\j1=scanDown (fun x=>!BC x d[a]!) d i1 t) (fun t=>t) jb ⟨by omega,by omega,by assumption⟩ (by repeat (first |exact As.nil |refine As.cons rfl ?_)) (fun w' hw=>hw) ?_;rintro t ⟨ht1,ht2,hR⟩;by_cases hc:i1 <= t;rotate_left
  ·rw [GS (p:=fun x=>!BC x d[a]!) (.inl hc) (by omega)] at hR;subst hR;repeat (first |refine A5 (by kernel_rfl) (by kernel_rfl) ?_ |refine Ah Aa rfl ?_ |refine Ai ?_)
   refine BX 49 (v':=.bool false) rfl (congrArg Value.bool (decide_eq_false (by omega))) ?_;repeat (first |refine AN rfl ?_ |refine Ah Aa rfl ?_ |refine BP rfl rfl rfl ?_)
   refine AG rfl ?_;repeat (first |refine Ad ?_ |refine AB ?_ |refine Al ?_ |refine AH ?_)
   exact ⟨(),trivial,by repeat (first |exact As.nil |refine As.cons rfl ?_),fun w' hw=>hw⟩
  cases hb:BC d[t]! d[a]! with
  |true=>
   rw [GS (p:=fun x=>!BC x d[a]!) (.inr (by show (!BC d[t]! d[a]!)=false;rw [hb];rfl)) (by omega)] at hR;subst hR;repeat (first |refine A5 (by kernel_rfl) (by kernel_rfl) ?_ |refine Ah Aa rfl ?_ |refine Ai ?_)
   refine BX 49 (v':=.bool true) rfl (congrArg Value.bool (decide_eq_true (by omega))) ?_;repeat (first |refine Ah Aa rfl ?_)
   refine Bx (Ay Aa rfl rfl rfl rfl rfl rfl rfl (j:=j1) (by omega) (by omega)) ?_;refine Av Aa rfl rfl (v:=.int .u64 d[j1]!) (fun w' hw=>Bu hw (AJ (by omega))) ?_;repeat (first |refine Ah Aa rfl ?_)
   refine Bx (Ay Aa rfl rfl rfl rfl rfl rfl rfl (j:=a) (by omega) (by omega)) ?_;refine Av Aa rfl rfl (v:=.int .u64 d[a]!) (fun w' hw=>Bu hw (AJ (by omega))) ?_;skip;refine Bi rfl Tryz.call106 (v:=.bool true) (fun w' vs hw' h=>by obtain ⟨u1,_,rfl,rfl,u2,_,rfl,rfl,rfl⟩:=h;exact B8 hb w') ?_;repeat (first |refine AN rfl ?_ |refine Ah Aa rfl ?_)
   refine AG rfl ?_;repeat (first |refine Ad ?_ |refine AB ?_ |refine Al ?_ |refine AH ?_)
   exact ⟨(),trivial,by repeat (first |exact As.nil |refine As.cons rfl ?_),fun w' hw=>hw⟩
  |false=>
   rw [LX (p:=fun x=>!BC x d[a]!) hc (by omega) (by show (!BC d[t]! d[a]!)=true;rw [hb];rfl)] at hR;repeat (first |refine A5 (by kernel_rfl) (by kernel_rfl) ?_ |refine Ah Aa rfl ?_ |refine Ai ?_)
   refine BX 49 (v':=.bool true) rfl (congrArg Value.bool (decide_eq_true (by omega))) ?_;repeat (first |refine Ah Aa rfl ?_)
   refine Bx (Ay Aa rfl rfl rfl rfl rfl rfl rfl (j:=t) (by omega) (by omega)) ?_;refine Av Aa rfl rfl (v:=.int .u64 d[t]!) (fun w' hw=>Bu hw (AJ (by omega))) ?_;repeat (first |refine Ah Aa rfl ?_)
   refine Bx (Ay Aa rfl rfl rfl rfl rfl rfl rfl (j:=a) (by omega) (by omega)) ?_;refine Av Aa rfl rfl (v:=.int .u64 d[a]!) (fun w' hw=>Bu hw (AJ (by omega))) ?_;skip;refine Bi rfl Tryz.call106 (v:=.bool false) (fun w' vs hw' h=>by obtain ⟨u1,_,rfl,rfl,u2,_,rfl,rfl,rfl⟩:=h;exact B8 hb w') ?_;repeat (first |refine AN rfl ?_ |refine Ah Aa rfl ?_)
   refine AX rfl ?_;repeat (first |refine Aq ?_ |refine Ag ?_ |refine Ad ?_ |refine Am ?_ |refine Ao ?_ |refine AD Aa rfl (by omega) ?_ |refine Ae Aa rfl ?_ |refine Ap ?_)
   exact ⟨t - 1,⟨by omega,by omega,hR⟩,(by repeat (first |exact As.nil |refine As.cons rfl ?_ |refine As.cons_int rfl (by omega) ?_)),fun w' hw=>hw,by omega⟩
 rintro _ _;repeat (first |refine Ai ?_ |refine Ab ?_ |refine Ag ?_ |refine Ae Aa rfl ?_)
 refine Ak rfl (fun hc=>?_) (fun hc=>?_)
 ·rw [if_pos (by omega)] at hR;subst hR;repeat (first |refine Ai ?_)
  have hs2:=Cm d j1 a
  let ol0:OL:=uE g 32 d junk::rest
  let ol1:OL:=.blk g (.cells ⟨(uA d junk).set j1 (.int .u64 d[a]!)⟩ 32 (0,0)) true::rest
  let ol2:OL:=uE g 32 (swp d j1 a) junk::rest
  let olf:(Nat->Bool)->OL:=fun L=>match L 15 with
   |true=>ol2
   |false=>match L 13 with
    |true=>ol1
    |false=>ol0
  refine Ci (by kernel_rfl) (by kernel_rfl) [.slice (some ⟨g,0,none⟩) n c,.int .i64 (j1:Int),.slice (some ⟨g,0,none⟩) n c,.int .i64 (a:Int),.slice (some ⟨g,0,none⟩) n c,.int .i64 (a:Int),.pointer (some ⟨g,0 + a,none⟩),.int .u64 d[a]!,.slice (some ⟨g,0,none⟩) n c,.int .i64 (j1:Int),.pointer (some ⟨g,0 + j1,none⟩),.int .u64 d[j1]!,.pointer (some ⟨g,0 + j1,none⟩),undef,.pointer (some ⟨g,0 + a,none⟩),undef] rfl olf rfl ?_ (l':=[(0,.slice (some ⟨g,0,none⟩) n c),(11,.int .i64 (j1:Int))]) (ol':=ol2) (fun L h=>by simp only [olf,h 15 (by decide)]) (by repeat (first |exact Bc.nil |refine Bc.cons rfl ?_)) ?_
  ·refine ⟨?_,?_,?_,?_,?_,?_,?_,?_,?_,?_,?_,?_,?_,?_,?_,?_,trivial⟩
   ·exact fun L hc hl hp=>AK.ofD rfl (Ah Aa rfl Aj)
   ·exact fun L hc hl hp=>AK.ofD rfl (Ah Aa rfl Aj)
   ·exact fun L hc hl hp=>AK.ofD rfl (Ah Aa rfl Aj)
   ·exact fun L hc hl hp=>AK.ofD rfl (Ah Aa rfl Aj)
   ·exact fun L hc hl hp=>AK.ofD rfl (Ah Aa rfl Aj)
   ·exact fun L hc hl hp=>AK.ofD rfl (Ah Aa rfl Aj)
   ·exact fun L hc hl hp=>AK.ofD rfl (Bx (Ay Aa rfl rfl rfl rfl rfl rfl rfl (j:=a) (by omega) (by omega)) Aj)
   ·intro L hc hl hp;have h13:=At hc (j:=13) rfl ⟨7,.data⟩ (by simp) rfl hl;have h15:=At hc (j:=15) rfl ⟨7,.phase⟩ (by simp) rfl hl
    have e1:olf L=ol0:=by simp only [olf,h13,h15]
    have e2:olf (add L 7)=ol0:=by simp [olf,add,h13,h15]
    rw [e1,e2];exact AK.ofD rfl (Av Aa (v:=.int .u64 d[a]!) rfl rfl (fun w' hw=>Bu hw (AJ (by omega))) Aj)
   ·exact fun L hc hl hp=>AK.ofD rfl (Ah Aa rfl Aj)
   ·exact fun L hc hl hp=>AK.ofD rfl (Ah Aa rfl Aj)
   ·exact fun L hc hl hp=>AK.ofD rfl (Bx (Ay Aa rfl rfl rfl rfl rfl rfl rfl (j:=j1) (by omega) (by omega)) Aj)
   ·intro L hc hl hp;have h13:=At hc (j:=13) rfl ⟨11,.phase⟩ (by simp) rfl hl;have h15:=At hc (j:=15) rfl ⟨11,.data⟩ (by simp) rfl hl
    have e1:olf L=ol0:=by simp only [olf,h13,h15]
    have e2:olf (add L 11)=ol0:=by simp [olf,add,h13,h15]
    rw [e1,e2];exact AK.ofD rfl (Av Aa (v:=.int .u64 d[j1]!) rfl rfl (fun w' hw=>Bu hw (AJ (by omega))) Aj)
   ·exact fun L hc hl hp=>AK.ofD rfl (Bx (Ay Aa rfl rfl rfl rfl rfl rfl rfl (j:=j1) (by omega) (by omega)) Aj)
   ·intro L hc hl hp;have h15:=At hc (j:=15) rfl ⟨13,.chain⟩ (by simp) rfl hl
    have e1:olf L=ol0:=by simp only [olf,hl,h15]
    have e2:olf (add L 13)=ol1:=by simp [olf,add,h15]
    rw [e1,e2];exact AK.store Aa 0 rfl rfl (by intro x hx;rw [List.mem_singleton] at hx;subst hx;rfl) rfl (by rw [Nat.zero_add];exact Ba (by rw [BY];omega)) rfl
   ·exact fun L hc hl hp=>AK.ofD rfl (Bx (Ay Aa rfl rfl rfl rfl rfl rfl rfl (j:=a) (by omega) (by omega)) Aj)
   ·intro L hc hl hp;have h13:L 13=true:=hp ⟨13,.chain⟩ (by simp) rfl
    have e1:olf L=ol1:=by simp only [olf,h13,hl]
    have e2:olf (add L 15)=ol2:=by simp [olf,add]
    rw [e1,e2];exact AK.store Aa 0 rfl rfl (by intro x hx;rw [List.mem_singleton] at hx;subst hx;rfl) rfl (by rw [Nat.zero_add];exact (Ba (by rw [List.length_set,BY];omega)).trans (congrArg some (Dx (by omega) (by omega)))) rfl
  clear olf ol0 ol1;dsimp only [ol2];clear ol2;repeat (first |refine Ai ?_ |refine Ab ?_ |refine Ag ?_ |refine AI ?_ |refine AC ?_ |refine Ae Aa rfl ?_)
  exact Ey rfl rfl rfl (fun w' hw=>⟨rfl,hw,by first |omega |(dsimp only;omega)⟩)
 rw [if_neg (by omega)] at hR;have hij:=f5 (by omega);repeat (first |refine Ai ?_ |refine Ao ?_ |refine Ad ?_)
 have hs2:=Cm d i1 j1
 let ol0:OL:=uE g 32 d junk::rest
 let ol1:OL:=.blk g (.cells ⟨(uA d junk).set i1 (.int .u64 d[j1]!)⟩ 32 (0,0)) true::rest
 let ol2:OL:=uE g 32 (swp d i1 j1) junk::rest
 let olf:(Nat->Bool)->OL:=fun L=>match L 15 with
  |true=>ol2
  |false=>match L 13 with
   |true=>ol1
   |false=>ol0
 refine Ci (by kernel_rfl) (by kernel_rfl) [.slice (some ⟨g,0,none⟩) n c,.int .i64 (i1:Int),.slice (some ⟨g,0,none⟩) n c,.int .i64 (j1:Int),.slice (some ⟨g,0,none⟩) n c,.int .i64 (j1:Int),.pointer (some ⟨g,0 + j1,none⟩),.int .u64 d[j1]!,.slice (some ⟨g,0,none⟩) n c,.int .i64 (i1:Int),.pointer (some ⟨g,0 + i1,none⟩),.int .u64 d[i1]!,.pointer (some ⟨g,0 + i1,none⟩),undef,.pointer (some ⟨g,0 + j1,none⟩),undef] rfl olf rfl ?_ (l':=[(0,.slice (some ⟨g,0,none⟩) n c),(1,.int .i64 (a:Int)),(2,.int .i64 (b:Int)),(10,.int .i64 (i1:Int)),(11,.int .i64 (j1:Int))]) (ol':=ol2) (fun L h=>by simp only [olf,h 15 (by decide)]) (by repeat (first |exact Bc.nil |refine Bc.cons rfl ?_)) ?_
 ·refine ⟨?_,?_,?_,?_,?_,?_,?_,?_,?_,?_,?_,?_,?_,?_,?_,?_,trivial⟩
  ·exact fun L hc hl hp=>AK.ofD rfl (Ah Aa rfl Aj)
  ·exact fun L hc hl hp=>AK.ofD rfl (Ah Aa rfl Aj)
  ·exact fun L hc hl hp=>AK.ofD rfl (Ah Aa rfl Aj)
  ·exact fun L hc hl hp=>AK.ofD rfl (Ah Aa rfl Aj)
  ·exact fun L hc hl hp=>AK.ofD rfl (Ah Aa rfl Aj)
  ·exact fun L hc hl hp=>AK.ofD rfl (Ah Aa rfl Aj)
  ·exact fun L hc hl hp=>AK.ofD rfl (Bx (Ay Aa rfl rfl rfl rfl rfl rfl rfl (j:=j1) (by omega) (by omega)) Aj)
  ·intro L hc hl hp;have h13:=At hc (j:=13) rfl ⟨7,.data⟩ (by simp) rfl hl;have h15:=At hc (j:=15) rfl ⟨7,.phase⟩ (by simp) rfl hl
   have e1:olf L=ol0:=by simp only [olf,h13,h15]
   have e2:olf (add L 7)=ol0:=by simp [olf,add,h13,h15]
   rw [e1,e2];exact AK.ofD rfl (Av Aa (v:=.int .u64 d[j1]!) rfl rfl (fun w' hw=>Bu hw (AJ (by omega))) Aj)
  ·exact fun L hc hl hp=>AK.ofD rfl (Ah Aa rfl Aj)
  ·exact fun L hc hl hp=>AK.ofD rfl (Ah Aa rfl Aj)
  ·exact fun L hc hl hp=>AK.ofD rfl (Bx (Ay Aa rfl rfl rfl rfl rfl rfl rfl (j:=i1) (by omega) (by omega)) Aj)
  ·intro L hc hl hp;have h13:=At hc (j:=13) rfl ⟨11,.phase⟩ (by simp) rfl hl;have h15:=At hc (j:=15) rfl ⟨11,.data⟩ (by simp) rfl hl
   have e1:olf L=ol0:=by simp only [olf,h13,h15]
   have e2:olf (add L 11)=ol0:=by simp [olf,add,h13,h15]
   rw [e1,e2];exact AK.ofD rfl (Av Aa (v:=.int .u64 d[i1]!) rfl rfl (fun w' hw=>Bu hw (AJ (by omega))) Aj)
  ·exact fun L hc hl hp=>AK.ofD rfl (Bx (Ay Aa rfl rfl rfl rfl rfl rfl rfl (j:=i1) (by omega) (by omega)) Aj)
  ·intro L hc hl hp;have h15:=At hc (j:=15) rfl ⟨13,.chain⟩ (by simp) rfl hl
   have e1:olf L=ol0:=by simp only [olf,hl,h15]
   have e2:olf (add L 13)=ol1:=by simp [olf,add,h15]
   rw [e1,e2];exact AK.store Aa 0 rfl rfl (by intro x hx;rw [List.mem_singleton] at hx;subst hx;rfl) rfl (by rw [Nat.zero_add];exact Ba (by rw [BY];omega)) rfl
  ·exact fun L hc hl hp=>AK.ofD rfl (Bx (Ay Aa rfl rfl rfl rfl rfl rfl rfl (j:=j1) (by omega) (by omega)) Aj)
  ·intro L hc hl hp;have h13:L 13=true:=hp ⟨13,.chain⟩ (by simp) rfl
   have e1:olf L=ol1:=by simp only [olf,h13,hl]
   have e2:olf (add L 15)=ol2:=by simp [olf,add]
   rw [e1,e2];exact AK.store Aa 0 rfl rfl (by intro x hx;rw [List.mem_singleton] at hx;subst hx;rfl) rfl (by rw [Nat.zero_add];exact (Ba (by rw [List.length_set,BY];omega)).trans (congrArg some (Dx (by omega) (by omega)))) rfl
 clear olf ol0 ol1;dsimp only [ol2];clear ol2;repeat (first |refine Ai ?_ |refine Ab ?_ |refine Ag ?_ |refine AD Aa rfl (by omega) ?_ |refine Ae Aa rfl ?_)
 skip;obtain ⟨d2,hd2⟩:∃ d2,d2=swp d i1 j1:=⟨_,rfl⟩;rw [<-hd2] at hR hs2 ⊢;obtain ⟨R2,hR2⟩:∃ R,R=partLoop BC a (i1 + 1) (j1 - 1) d2:=⟨_,rfl⟩;rw [<-hR2] at hR;clear hd2 hi1 hj1;refine Aq ?_;refine AM (ι:=X6) (fun t=>[(0,.slice (some ⟨g,0,none⟩) n c),(1,.int .i64 (a:Int)),(2,.int .i64 (b:Int)),(10,.int .i64 (t.i:Int)),(11,.int .i64 (t.j:Int))]) (fun t=>uE g 32 t.d junk::rest) (fun t=>a < t.i/\t.i <= t.j + 1/\t.j < b/\t.d.size=n/\R2=partLoop BC a t.i t.j t.d) (fun t=>t.j + 1 - t.i) ⟨i1 + 1,j1 - 1,d2⟩ ⟨by dsimp only;omega,by dsimp only;omega,by dsimp only;omega,by dsimp only;omega,hR2⟩ (by dsimp only;repeat (first |exact As.nil |refine As.cons rfl ?_ |refine As.cons_int rfl (by omega) ?_)) (fun w' hw=>hw) ?_;clear hR2;rintro ⟨i,j,e⟩ ⟨ha,hij1,hjb,he,hR2⟩;dsimp only at ha hij1 hjb he hR2 ⊢;obtain ⟨i1,hi1⟩:∃ i1,i1=scanUp (fun x=>BC x e[a]!) e j i:=⟨_,rfl⟩;obtain ⟨j1,hj1⟩:∃ j1,j1=scanDown (fun x=>!BC x e[a]!) e i1 j:=⟨_,rfl⟩;obtain ⟨f1,f2,f3,f4,f5⟩:=Qh (fun x=>BC x e[a]!) (fun x=>!BC x e[a]!) (fun _=>rfl) e (i:=i) (j:=j) (by omega) (by omega);rw [<-hi1,<-hj1] at f3 f4 f5;rw [<-hi1] at f1 f2;rw [partLoop_eq,<-hi1,<-hj1] at hR2;skip;refine Aq ?_;repeat (first |refine Ai ?_)
 refine BN (ι:=Unit) (fun _=>True) (fun _=>[(0,.slice (some ⟨g,0,none⟩) n c),(1,.int .i64 (a:Int)),(2,.int .i64 (b:Int)),(11,.int .i64 (j:Int)),(10,.int .i64 (i1:Int))]) (fun _=>uE g 32 e junk::rest) ?_ ?_
 ·refine Aq ?_;refine AM (ι:=Nat) (fun t=>[(0,.slice (some ⟨g,0,none⟩) n c),(1,.int .i64 (a:Int)),(2,.int .i64 (b:Int)),(11,.int .i64 (j:Int)),(10,.int .i64 (t:Int))]) (fun _=>uE g 32 e junk::rest) (fun t=>i <= t/\t <= j + 1/\i1=scanUp (fun x=>BC x e[a]!) e j t) (fun t=>j + 1 - t) i ⟨by omega,by omega,by assumption⟩ (by repeat (first |exact As.nil |refine As.cons rfl ?_)) (fun w' hw=>hw) ?_;rintro t ⟨ht1,ht2,hR⟩;by_cases hc:t <= j;rotate_left
  ·rw [GD (p:=fun x=>BC x e[a]!) (.inl hc)] at hR;subst hR;repeat (first |refine A5 (by kernel_rfl) (by kernel_rfl) ?_ |refine Ah Aa rfl ?_ |refine Ai ?_)
   refine BX 102 (v':=.bool false) rfl (congrArg Value.bool (decide_eq_false (by omega))) ?_;repeat (first |refine AN rfl ?_ |refine Ah Aa rfl ?_ |refine BP rfl rfl rfl ?_)
   refine AG rfl ?_;repeat (first |refine Ad ?_ |refine AB ?_ |refine Al ?_ |refine AH ?_)
   exact ⟨(),trivial,by repeat (first |exact As.nil |refine As.cons rfl ?_),fun w' hw=>hw⟩
  cases hb:BC e[t]! e[a]! with
  |false=>
   rw [GD (p:=fun x=>BC x e[a]!) (.inr hb)] at hR;subst hR;repeat (first |refine A5 (by kernel_rfl) (by kernel_rfl) ?_ |refine Ah Aa rfl ?_ |refine Ai ?_)
   refine BX 102 (v':=.bool true) rfl (congrArg Value.bool (decide_eq_true (by omega))) ?_;repeat (first |refine Ah Aa rfl ?_)
   refine Bx (Ay Aa rfl rfl rfl rfl rfl rfl rfl (j:=i1) (by omega) (by omega)) ?_;refine Av Aa rfl rfl (v:=.int .u64 e[i1]!) (fun w' hw=>Bu hw (AJ (by omega))) ?_;repeat (first |refine Ah Aa rfl ?_)
   refine Bx (Ay Aa rfl rfl rfl rfl rfl rfl rfl (j:=a) (by omega) (by omega)) ?_;refine Av Aa rfl rfl (v:=.int .u64 e[a]!) (fun w' hw=>Bu hw (AJ (by omega))) ?_;skip;refine Bi rfl Tryz.call106 (v:=.bool false) (fun w' vs hw' h=>by obtain ⟨u1,_,rfl,rfl,u2,_,rfl,rfl,rfl⟩:=h;exact B8 hb w') ?_;repeat (first |refine AN rfl ?_ |refine Ah Aa rfl ?_)
   refine AG rfl ?_;repeat (first |refine Ad ?_ |refine AB ?_ |refine Al ?_ |refine AH ?_)
   exact ⟨(),trivial,by repeat (first |exact As.nil |refine As.cons rfl ?_),fun w' hw=>hw⟩
  |true=>
   rw [LA (p:=fun x=>BC x e[a]!) hc hb] at hR;repeat (first |refine A5 (by kernel_rfl) (by kernel_rfl) ?_ |refine Ah Aa rfl ?_ |refine Ai ?_)
   refine BX 102 (v':=.bool true) rfl (congrArg Value.bool (decide_eq_true (by omega))) ?_;repeat (first |refine Ah Aa rfl ?_)
   refine Bx (Ay Aa rfl rfl rfl rfl rfl rfl rfl (j:=t) (by omega) (by omega)) ?_;refine Av Aa rfl rfl (v:=.int .u64 e[t]!) (fun w' hw=>Bu hw (AJ (by omega))) ?_;repeat (first |refine Ah Aa rfl ?_)
   refine Bx (Ay Aa rfl rfl rfl rfl rfl rfl rfl (j:=a) (by omega) (by omega)) ?_;refine Av Aa rfl rfl (v:=.int .u64 e[a]!) (fun w' hw=>Bu hw (AJ (by omega))) ?_;skip;refine Bi rfl Tryz.call106 (v:=.bool true) (fun w' vs hw' h=>by obtain ⟨u1,_,rfl,rfl,u2,_,rfl,rfl,rfl⟩:=h;exact B8 hb w') ?_;repeat (first |refine AN rfl ?_ |refine Ah Aa rfl ?_)
   refine AX rfl ?_;repeat (first |refine Aq ?_ |refine Ag ?_ |refine Ad ?_ |refine Am ?_ |refine Ao ?_ |refine AD Aa rfl (by omega) ?_ |refine Ae Aa rfl ?_ |refine Ap ?_)
   exact ⟨t + 1,⟨by omega,by omega,hR⟩,(by repeat (first |exact As.nil |refine As.cons rfl ?_)),fun w' hw=>hw,by omega⟩
 rintro _ _;repeat (first |refine Ai ?_)
 refine BN (ι:=Unit) (fun _=>True) (fun _=>[(0,.slice (some ⟨g,0,none⟩) n c),(1,.int .i64 (a:Int)),(2,.int .i64 (b:Int)),(10,.int .i64 (i1:Int)),(11,.int .i64 (j1:Int))]) (fun _=>uE g 32 e junk::rest) ?_ ?_
 ·refine Aq ?_;refine AM (ι:=Nat) (fun t=>[(0,.slice (some ⟨g,0,none⟩) n c),(1,.int .i64 (a:Int)),(2,.int .i64 (b:Int)),(10,.int .i64 (i1:Int)),(11,.int .i64 (t:Int))]) (fun _=>uE g 32 e junk::rest) (fun t=>t <= j/\i1 <= t + 1/\j1=scanDown (fun x=>!BC x e[a]!) e i1 t) (fun t=>t) j ⟨by omega,by omega,by assumption⟩ (by repeat (first |exact As.nil |refine As.cons rfl ?_)) (fun w' hw=>hw) ?_;rintro t ⟨ht1,ht2,hR⟩;by_cases hc:i1 <= t;rotate_left
  ·rw [GS (p:=fun x=>!BC x e[a]!) (.inl hc) (by omega)] at hR;subst hR;repeat (first |refine A5 (by kernel_rfl) (by kernel_rfl) ?_ |refine Ah Aa rfl ?_ |refine Ai ?_)
   refine BX 118 (v':=.bool false) rfl (congrArg Value.bool (decide_eq_false (by omega))) ?_;repeat (first |refine AN rfl ?_ |refine Ah Aa rfl ?_ |refine BP rfl rfl rfl ?_)
   refine AG rfl ?_;repeat (first |refine Ad ?_ |refine AB ?_ |refine Al ?_ |refine AH ?_)
   exact ⟨(),trivial,by repeat (first |exact As.nil |refine As.cons rfl ?_),fun w' hw=>hw⟩
  cases hb:BC e[t]! e[a]! with
  |true=>
   rw [GS (p:=fun x=>!BC x e[a]!) (.inr (by show (!BC e[t]! e[a]!)=false;rw [hb];rfl)) (by omega)] at hR;subst hR;repeat (first |refine A5 (by kernel_rfl) (by kernel_rfl) ?_ |refine Ah Aa rfl ?_ |refine Ai ?_)
   refine BX 118 (v':=.bool true) rfl (congrArg Value.bool (decide_eq_true (by omega))) ?_;repeat (first |refine Ah Aa rfl ?_)
   refine Bx (Ay Aa rfl rfl rfl rfl rfl rfl rfl (j:=j1) (by omega) (by omega)) ?_;refine Av Aa rfl rfl (v:=.int .u64 e[j1]!) (fun w' hw=>Bu hw (AJ (by omega))) ?_;repeat (first |refine Ah Aa rfl ?_)
   refine Bx (Ay Aa rfl rfl rfl rfl rfl rfl rfl (j:=a) (by omega) (by omega)) ?_;refine Av Aa rfl rfl (v:=.int .u64 e[a]!) (fun w' hw=>Bu hw (AJ (by omega))) ?_;skip;refine Bi rfl Tryz.call106 (v:=.bool true) (fun w' vs hw' h=>by obtain ⟨u1,_,rfl,rfl,u2,_,rfl,rfl,rfl⟩:=h;exact B8 hb w') ?_;repeat (first |refine AN rfl ?_ |refine Ah Aa rfl ?_)
   refine AG rfl ?_;repeat (first |refine Ad ?_ |refine AB ?_ |refine Al ?_ |refine AH ?_)
   exact ⟨(),trivial,by repeat (first |exact As.nil |refine As.cons rfl ?_),fun w' hw=>hw⟩
  |false=>
   rw [LX (p:=fun x=>!BC x e[a]!) hc (by omega) (by show (!BC e[t]! e[a]!)=true;rw [hb];rfl)] at hR;repeat (first |refine A5 (by kernel_rfl) (by kernel_rfl) ?_ |refine Ah Aa rfl ?_ |refine Ai ?_)
   refine BX 118 (v':=.bool true) rfl (congrArg Value.bool (decide_eq_true (by omega))) ?_;repeat (first |refine Ah Aa rfl ?_)
   refine Bx (Ay Aa rfl rfl rfl rfl rfl rfl rfl (j:=t) (by omega) (by omega)) ?_;refine Av Aa rfl rfl (v:=.int .u64 e[t]!) (fun w' hw=>Bu hw (AJ (by omega))) ?_;repeat (first |refine Ah Aa rfl ?_)
   refine Bx (Ay Aa rfl rfl rfl rfl rfl rfl rfl (j:=a) (by omega) (by omega)) ?_;refine Av Aa rfl rfl (v:=.int .u64 e[a]!) (fun w' hw=>Bu hw (AJ (by omega))) ?_;skip;refine Bi rfl Tryz.call106 (v:=.bool false) (fun w' vs hw' h=>by obtain ⟨u1,_,rfl,rfl,u2,_,rfl,rfl,rfl⟩:=h;exact B8 hb w') ?_;repeat (first |refine AN rfl ?_ |refine Ah Aa rfl ?_)
   refine AX rfl ?_;repeat (first |refine Aq ?_ |refine Ag ?_ |refine Ad ?_ |refine Am ?_ |refine Ao ?_ |refine AD Aa rfl (by omega) ?_ |refine Ae Aa rfl ?_ |refine Ap ?_)
   exact ⟨t - 1,⟨by omega,by omega,hR⟩,(by repeat (first |exact As.nil |refine As.cons rfl ?_ |refine As.cons_int rfl (by omega) ?_)),fun w' hw=>hw,by omega⟩
 rintro _ _;repeat (first |refine Ai ?_ |refine Ab ?_ |refine Ag ?_ |refine Ae Aa rfl ?_)
 refine Ak rfl (fun hc=>?_) (fun hc=>?_)
 ·rw [if_pos (by omega)] at hR2;subst hR2;repeat (first |refine Al ?_ |refine AH ?_)
  refine Cx rfl ?_;repeat (first |refine Ai ?_ |refine Ad ?_ |refine Al ?_ |refine AB ?_)
  have hs3:=Cm e j1 a
  let ol0:OL:=uE g 32 e junk::rest
  let ol1:OL:=.blk g (.cells ⟨(uA e junk).set j1 (.int .u64 e[a]!)⟩ 32 (0,0)) true::rest
  let ol2:OL:=uE g 32 (swp e j1 a) junk::rest
  let olf:(Nat->Bool)->OL:=fun L=>match L 15 with
   |true=>ol2
   |false=>match L 13 with
    |true=>ol1
    |false=>ol0
  refine Ci (by kernel_rfl) (by kernel_rfl) [.slice (some ⟨g,0,none⟩) n c,.int .i64 (j1:Int),.slice (some ⟨g,0,none⟩) n c,.int .i64 (a:Int),.slice (some ⟨g,0,none⟩) n c,.int .i64 (a:Int),.pointer (some ⟨g,0 + a,none⟩),.int .u64 e[a]!,.slice (some ⟨g,0,none⟩) n c,.int .i64 (j1:Int),.pointer (some ⟨g,0 + j1,none⟩),.int .u64 e[j1]!,.pointer (some ⟨g,0 + j1,none⟩),undef,.pointer (some ⟨g,0 + a,none⟩),undef] rfl olf rfl ?_ (l':=[(0,.slice (some ⟨g,0,none⟩) n c),(11,.int .i64 (j1:Int))]) (ol':=ol2) (fun L h=>by simp only [olf,h 15 (by decide)]) (by repeat (first |exact Bc.nil |refine Bc.cons rfl ?_)) ?_
  ·refine ⟨?_,?_,?_,?_,?_,?_,?_,?_,?_,?_,?_,?_,?_,?_,?_,?_,trivial⟩
   ·exact fun L hc hl hp=>AK.ofD rfl (Ah Aa rfl Aj)
   ·exact fun L hc hl hp=>AK.ofD rfl (Ah Aa rfl Aj)
   ·exact fun L hc hl hp=>AK.ofD rfl (Ah Aa rfl Aj)
   ·exact fun L hc hl hp=>AK.ofD rfl (Ah Aa rfl Aj)
   ·exact fun L hc hl hp=>AK.ofD rfl (Ah Aa rfl Aj)
   ·exact fun L hc hl hp=>AK.ofD rfl (Ah Aa rfl Aj)
   ·exact fun L hc hl hp=>AK.ofD rfl (Bx (Ay Aa rfl rfl rfl rfl rfl rfl rfl (j:=a) (by omega) (by omega)) Aj)
   ·intro L hc hl hp;have h13:=At hc (j:=13) rfl ⟨7,.data⟩ (by simp) rfl hl;have h15:=At hc (j:=15) rfl ⟨7,.phase⟩ (by simp) rfl hl
    have e1:olf L=ol0:=by simp only [olf,h13,h15]
    have e2:olf (add L 7)=ol0:=by simp [olf,add,h13,h15]
    rw [e1,e2];exact AK.ofD rfl (Av Aa (v:=.int .u64 e[a]!) rfl rfl (fun w' hw=>Bu hw (AJ (by omega))) Aj)
   ·exact fun L hc hl hp=>AK.ofD rfl (Ah Aa rfl Aj)
   ·exact fun L hc hl hp=>AK.ofD rfl (Ah Aa rfl Aj)
   ·exact fun L hc hl hp=>AK.ofD rfl (Bx (Ay Aa rfl rfl rfl rfl rfl rfl rfl (j:=j1) (by omega) (by omega)) Aj)
   ·intro L hc hl hp;have h13:=At hc (j:=13) rfl ⟨11,.phase⟩ (by simp) rfl hl;have h15:=At hc (j:=15) rfl ⟨11,.data⟩ (by simp) rfl hl
    have e1:olf L=ol0:=by simp only [olf,h13,h15]
    have e2:olf (add L 11)=ol0:=by simp [olf,add,h13,h15]
    rw [e1,e2];exact AK.ofD rfl (Av Aa (v:=.int .u64 e[j1]!) rfl rfl (fun w' hw=>Bu hw (AJ (by omega))) Aj)
   ·exact fun L hc hl hp=>AK.ofD rfl (Bx (Ay Aa rfl rfl rfl rfl rfl rfl rfl (j:=j1) (by omega) (by omega)) Aj)
   ·intro L hc hl hp;have h15:=At hc (j:=15) rfl ⟨13,.chain⟩ (by simp) rfl hl
    have e1:olf L=ol0:=by simp only [olf,hl,h15]
    have e2:olf (add L 13)=ol1:=by simp [olf,add,h15]
    rw [e1,e2];exact AK.store Aa 0 rfl rfl (by intro x hx;rw [List.mem_singleton] at hx;subst hx;rfl) rfl (by rw [Nat.zero_add];exact Ba (by rw [BY];omega)) rfl
   ·exact fun L hc hl hp=>AK.ofD rfl (Bx (Ay Aa rfl rfl rfl rfl rfl rfl rfl (j:=a) (by omega) (by omega)) Aj)
   ·intro L hc hl hp;have h13:L 13=true:=hp ⟨13,.chain⟩ (by simp) rfl
    have e1:olf L=ol1:=by simp only [olf,h13,hl]
    have e2:olf (add L 15)=ol2:=by simp [olf,add]
    rw [e1,e2];exact AK.store Aa 0 rfl rfl (by intro x hx;rw [List.mem_singleton] at hx;subst hx;rfl) rfl (by rw [Nat.zero_add];exact (Ba (by rw [List.length_set,BY];omega)).trans (congrArg some (Dx (by omega) (by omega)))) rfl
  clear olf ol0 ol1;dsimp only [ol2];clear ol2;repeat (first |refine Ai ?_ |refine Ab ?_ |refine Ag ?_ |refine AC ?_ |refine Ae Aa rfl ?_)
  subst hR;exact Ey rfl rfl rfl (fun w' hw=>⟨rfl,hw,by first |omega |(dsimp only;omega)⟩)
 rw [if_neg (by omega)] at hR2;have hij:=f5 (by omega);repeat (first |refine Ai ?_ |refine Ao ?_ |refine Ad ?_)
 have hs3:=Cm e i1 j1
 let ol0:OL:=uE g 32 e junk::rest
 let ol1:OL:=.blk g (.cells ⟨(uA e junk).set i1 (.int .u64 e[j1]!)⟩ 32 (0,0)) true::rest
 let ol2:OL:=uE g 32 (swp e i1 j1) junk::rest
 let olf:(Nat->Bool)->OL:=fun L=>match L 15 with
  |true=>ol2
  |false=>match L 13 with
   |true=>ol1
   |false=>ol0
 refine Ci (by kernel_rfl) (by kernel_rfl) [.slice (some ⟨g,0,none⟩) n c,.int .i64 (i1:Int),.slice (some ⟨g,0,none⟩) n c,.int .i64 (j1:Int),.slice (some ⟨g,0,none⟩) n c,.int .i64 (j1:Int),.pointer (some ⟨g,0 + j1,none⟩),.int .u64 e[j1]!,.slice (some ⟨g,0,none⟩) n c,.int .i64 (i1:Int),.pointer (some ⟨g,0 + i1,none⟩),.int .u64 e[i1]!,.pointer (some ⟨g,0 + i1,none⟩),undef,.pointer (some ⟨g,0 + j1,none⟩),undef] rfl olf rfl ?_ (l':=[(0,.slice (some ⟨g,0,none⟩) n c),(1,.int .i64 (a:Int)),(2,.int .i64 (b:Int)),(10,.int .i64 (i1:Int)),(11,.int .i64 (j1:Int))]) (ol':=ol2) (fun L h=>by simp only [olf,h 15 (by decide)]) (by repeat (first |exact Bc.nil |refine Bc.cons rfl ?_)) ?_
 ·refine ⟨?_,?_,?_,?_,?_,?_,?_,?_,?_,?_,?_,?_,?_,?_,?_,?_,trivial⟩
  ·exact fun L hc hl hp=>AK.ofD rfl (Ah Aa rfl Aj)
  ·exact fun L hc hl hp=>AK.ofD rfl (Ah Aa rfl Aj)
  ·exact fun L hc hl hp=>AK.ofD rfl (Ah Aa rfl Aj)
  ·exact fun L hc hl hp=>AK.ofD rfl (Ah Aa rfl Aj)
  ·exact fun L hc hl hp=>AK.ofD rfl (Ah Aa rfl Aj)
  ·exact fun L hc hl hp=>AK.ofD rfl (Ah Aa rfl Aj)
  ·exact fun L hc hl hp=>AK.ofD rfl (Bx (Ay Aa rfl rfl rfl rfl rfl rfl rfl (j:=j1) (by omega) (by omega)) Aj)
  ·intro L hc hl hp;have h13:=At hc (j:=13) rfl ⟨7,.data⟩ (by simp) rfl hl;have h15:=At hc (j:=15) rfl ⟨7,.phase⟩ (by simp) rfl hl
   have e1:olf L=ol0:=by simp only [olf,h13,h15]
   have e2:olf (add L 7)=ol0:=by simp [olf,add,h13,h15]
   rw [e1,e2];exact AK.ofD rfl (Av Aa (v:=.int .u64 e[j1]!) rfl rfl (fun w' hw=>Bu hw (AJ (by omega))) Aj)
  ·exact fun L hc hl hp=>AK.ofD rfl (Ah Aa rfl Aj)
  ·exact fun L hc hl hp=>AK.ofD rfl (Ah Aa rfl Aj)
  ·exact fun L hc hl hp=>AK.ofD rfl (Bx (Ay Aa rfl rfl rfl rfl rfl rfl rfl (j:=i1) (by omega) (by omega)) Aj)
  ·intro L hc hl hp;have h13:=At hc (j:=13) rfl ⟨11,.phase⟩ (by simp) rfl hl;have h15:=At hc (j:=15) rfl ⟨11,.data⟩ (by simp) rfl hl
   have e1:olf L=ol0:=by simp only [olf,h13,h15]
   have e2:olf (add L 11)=ol0:=by simp [olf,add,h13,h15]
   rw [e1,e2];exact AK.ofD rfl (Av Aa (v:=.int .u64 e[i1]!) rfl rfl (fun w' hw=>Bu hw (AJ (by omega))) Aj)
  ·exact fun L hc hl hp=>AK.ofD rfl (Bx (Ay Aa rfl rfl rfl rfl rfl rfl rfl (j:=i1) (by omega) (by omega)) Aj)
  ·intro L hc hl hp;have h15:=At hc (j:=15) rfl ⟨13,.chain⟩ (by simp) rfl hl
   have e1:olf L=ol0:=by simp only [olf,hl,h15]
   have e2:olf (add L 13)=ol1:=by simp [olf,add,h15]
   rw [e1,e2];exact AK.store Aa 0 rfl rfl (by intro x hx;rw [List.mem_singleton] at hx;subst hx;rfl) rfl (by rw [Nat.zero_add];exact Ba (by rw [BY];omega)) rfl
  ·exact fun L hc hl hp=>AK.ofD rfl (Bx (Ay Aa rfl rfl rfl rfl rfl rfl rfl (j:=j1) (by omega) (by omega)) Aj)
  ·intro L hc hl hp;have h13:L 13=true:=hp ⟨13,.chain⟩ (by simp) rfl
   have e1:olf L=ol1:=by simp only [olf,h13,hl]
   have e2:olf (add L 15)=ol2:=by simp [olf,add]
   rw [e1,e2];exact AK.store Aa 0 rfl rfl (by intro x hx;rw [List.mem_singleton] at hx;subst hx;rfl) rfl (by rw [Nat.zero_add];exact (Ba (by rw [List.length_set,BY];omega)).trans (congrArg some (Dx (by omega) (by omega)))) rfl
 clear olf ol0 ol1;dsimp only [ol2];clear ol2;repeat (first |refine Ai ?_ |refine Ab ?_ |refine Ag ?_ |refine Ad ?_ |refine Am ?_ |refine AD Aa rfl (by omega) ?_ |refine Ae Aa rfl ?_ |refine Ap ?_)
 exact ⟨⟨i1 + 1,j1 - 1,swp e i1 j1⟩,⟨by dsimp only;omega,by dsimp only;omega,by dsimp only;omega,by dsimp only;omega,hR2⟩,(by dsimp only;repeat (first |exact As.nil |refine As.cons rfl ?_ |refine As.cons_int rfl (by omega) ?_)),fun w' hw=>hw,by dsimp only;omega⟩
set_option maxHeartbeats 8000000 in
theorem Pp {w0 w:World} {g c n:Nat} {d0:Array Int} {junk:List Value} {rest:OL} (a b pivot:Nat) (h:Hp w0 w (uE g 32 d0 junk::rest)) (hn:d0.size=n) (hp1:a <= pivot) (hp2:pivot < b) (hb:b <= n) (hm:n <= 1152921504606846976):Calls Tryz.prog 107 #[.slice (some ⟨g,0,none⟩) n c,.int .i64 (a:Int),.int .i64 (b:Int),.int .i64 (pivot:Int)] w fun e w'=>e= .returned (.int .i64 (((partitionEqual BC d0 a b pivot).1:Nat):Int))/\Hp w0 w' (uE g 32 ((partitionEqual BC d0 a b pivot).2) junk::rest)/\((partitionEqual BC d0 a b pivot).2).size=n:=by
 refine GO Tryz.func107 rfl rfl h ?_;obtain ⟨R,hR⟩:∃ R,R=partitionEqual BC d0 a b pivot:=⟨_,rfl⟩;rw [<-hR];unfold partitionEqual at hR;repeat (first |refine Ai ?_ |refine Ab ?_ |refine Ag ?_ |refine Ae Aa rfl ?_)
 have hs:=Cm d0 a pivot
 let ol0:OL:=uE g 32 d0 junk::rest
 let ol1:OL:=.blk g (.cells ⟨(uA d0 junk).set a (.int .u64 d0[pivot]!)⟩ 32 (0,0)) true::rest
 let ol2:OL:=uE g 32 (swp d0 a pivot) junk::rest
 let olf:(Nat->Bool)->OL:=fun L=>match L 15 with
  |true=>ol2
  |false=>match L 13 with
   |true=>ol1
   |false=>ol0
 refine Ci (by kernel_rfl) (by kernel_rfl) [.slice (some ⟨g,0,none⟩) n c,.int .i64 (a:Int),.slice (some ⟨g,0,none⟩) n c,.int .i64 (pivot:Int),.slice (some ⟨g,0,none⟩) n c,.int .i64 (pivot:Int),.pointer (some ⟨g,0 + pivot,none⟩),.int .u64 d0[pivot]!,.slice (some ⟨g,0,none⟩) n c,.int .i64 (a:Int),.pointer (some ⟨g,0 + a,none⟩),.int .u64 d0[a]!,.pointer (some ⟨g,0 + a,none⟩),undef,.pointer (some ⟨g,0 + pivot,none⟩),undef] rfl olf rfl ?_ (l':=[(0,.slice (some ⟨g,0,none⟩) n c),(1,.int .i64 (a:Int)),(2,.int .i64 (b:Int))]) (ol':=ol2) (fun L h=>by simp only [olf,h 15 (by decide)]) (by repeat (first |exact Bc.nil |refine Bc.cons rfl ?_)) ?_
 ·refine ⟨?_,?_,?_,?_,?_,?_,?_,?_,?_,?_,?_,?_,?_,?_,?_,?_,trivial⟩
  ·exact fun L hc hl hp=>AK.ofD rfl (Ah Aa rfl Aj)
  ·exact fun L hc hl hp=>AK.ofD rfl (Ah Aa rfl Aj)
  ·exact fun L hc hl hp=>AK.ofD rfl (Ah Aa rfl Aj)
  ·exact fun L hc hl hp=>AK.ofD rfl (Ah Aa rfl Aj)
  ·exact fun L hc hl hp=>AK.ofD rfl (Ah Aa rfl Aj)
  ·exact fun L hc hl hp=>AK.ofD rfl (Ah Aa rfl Aj)
  ·exact fun L hc hl hp=>AK.ofD rfl (Bx (Ay Aa rfl rfl rfl rfl rfl rfl rfl (j:=pivot) (by omega) (by omega)) Aj)
  ·intro L hc hl hp;have h13:=At hc (j:=13) rfl ⟨7,.data⟩ (by simp) rfl hl;have h15:=At hc (j:=15) rfl ⟨7,.phase⟩ (by simp) rfl hl
   have e1:olf L=ol0:=by simp only [olf,h13,h15]
   have e2:olf (add L 7)=ol0:=by simp [olf,add,h13,h15]
   rw [e1,e2];exact AK.ofD rfl (Av Aa (v:=.int .u64 d0[pivot]!) rfl rfl (fun w' hw=>Bu hw (AJ (by omega))) Aj)
  ·exact fun L hc hl hp=>AK.ofD rfl (Ah Aa rfl Aj)
  ·exact fun L hc hl hp=>AK.ofD rfl (Ah Aa rfl Aj)
  ·exact fun L hc hl hp=>AK.ofD rfl (Bx (Ay Aa rfl rfl rfl rfl rfl rfl rfl (j:=a) (by omega) (by omega)) Aj)
  ·intro L hc hl hp;have h13:=At hc (j:=13) rfl ⟨11,.phase⟩ (by simp) rfl hl;have h15:=At hc (j:=15) rfl ⟨11,.data⟩ (by simp) rfl hl
   have e1:olf L=ol0:=by simp only [olf,h13,h15]
   have e2:olf (add L 11)=ol0:=by simp [olf,add,h13,h15]
   rw [e1,e2];exact AK.ofD rfl (Av Aa (v:=.int .u64 d0[a]!) rfl rfl (fun w' hw=>Bu hw (AJ (by omega))) Aj)
  ·exact fun L hc hl hp=>AK.ofD rfl (Bx (Ay Aa rfl rfl rfl rfl rfl rfl rfl (j:=a) (by omega) (by omega)) Aj)
  ·intro L hc hl hp;have h15:=At hc (j:=15) rfl ⟨13,.chain⟩ (by simp) rfl hl
   have e1:olf L=ol0:=by simp only [olf,hl,h15]
   have e2:olf (add L 13)=ol1:=by simp [olf,add,h15]
   rw [e1,e2];exact AK.store Aa 0 rfl rfl (by intro x hx;rw [List.mem_singleton] at hx;subst hx;rfl) rfl (by rw [Nat.zero_add];exact Ba (by rw [BY];omega)) rfl
  ·exact fun L hc hl hp=>AK.ofD rfl (Bx (Ay Aa rfl rfl rfl rfl rfl rfl rfl (j:=pivot) (by omega) (by omega)) Aj)
  ·intro L hc hl hp;have h13:L 13=true:=hp ⟨13,.chain⟩ (by simp) rfl
   have e1:olf L=ol1:=by simp only [olf,h13,hl]
   have e2:olf (add L 15)=ol2:=by simp [olf,add]
   rw [e1,e2];exact AK.store Aa 0 rfl rfl (by intro x hx;rw [List.mem_singleton] at hx;subst hx;rfl) rfl (by rw [Nat.zero_add];exact (Ba (by rw [List.length_set,BY];omega)).trans (congrArg some (Dx (by omega) (by omega)))) rfl
 clear olf ol0 ol1;dsimp only [ol2];clear ol2;obtain ⟨d,hd0⟩:∃ d,d=swp d0 a pivot:=⟨_,rfl⟩;rw [<-hd0] at hR hs ⊢;clear hd0
 have hd:d.size=n:=by omega
 repeat (first |refine Ai ?_ |refine Ab ?_ |refine Ag ?_ |refine AD Aa rfl (by omega) ?_ |refine Ae Aa rfl ?_)
 skip;obtain ⟨ia,hia⟩:∃ i,i=a + 1:=⟨_,rfl⟩;obtain ⟨jb,hjb⟩:∃ j,j=b - 1:=⟨_,rfl⟩;rw [<-hjb,<-hia] at hR;refine Lo (l':=[(0,.slice (some ⟨g,0,none⟩) n c),(1,.int .i64 (a:Int)),(2,.int .i64 (b:Int)),(9,.int .i64 (ia:Int)),(10,.int .i64 (jb:Int))]) (by repeat (first |exact As.nil |refine As.cons rfl ?_ |refine As.cons_int rfl (by omega) ?_)) ?_;obtain ⟨R2,hR2⟩:∃ R,R=partEqLoop BC a ia jb d:=⟨_,rfl⟩;rw [<-hR2] at hR;refine Aq ?_;refine AM (ι:=X6) (fun t=>[(0,.slice (some ⟨g,0,none⟩) n c),(1,.int .i64 (a:Int)),(2,.int .i64 (b:Int)),(9,.int .i64 (t.i:Int)),(10,.int .i64 (t.j:Int))]) (fun t=>uE g 32 t.d junk::rest) (fun t=>a < t.i/\t.i <= t.j + 1/\t.j < b/\t.d.size=n/\R2=partEqLoop BC a t.i t.j t.d) (fun t=>t.j + 1 - t.i) ⟨ia,jb,d⟩ ⟨by dsimp only;omega,by dsimp only;omega,by dsimp only;omega,by dsimp only;omega,hR2⟩ (by dsimp only;repeat (first |exact As.nil |refine As.cons rfl ?_)) (fun w' hw=>hw) ?_;clear hR2;rintro ⟨i,j,e⟩ ⟨ha,hij1,hjb,he,hR2⟩;dsimp only at ha hij1 hjb he hR2 ⊢;obtain ⟨i1,hi1⟩:∃ i1,i1=scanUp (fun x=>!BC e[a]! x) e j i:=⟨_,rfl⟩;obtain ⟨j1,hj1⟩:∃ j1,j1=scanDown (fun x=>BC e[a]! x) e i1 j:=⟨_,rfl⟩;obtain ⟨f1,f2,f3,f4,f5⟩:=Qh (fun x=>!BC e[a]! x) (fun x=>BC e[a]! x) (fun _=>by rw [Bool.not_not]) e (i:=i) (j:=j) (by omega) (by omega);rw [<-hi1,<-hj1] at f3 f4 f5;rw [<-hi1] at f1 f2;rw [partEqLoop_eq,<-hi1,<-hj1] at hR2;skip;refine Aq ?_;repeat (first |refine Ai ?_)
 refine BN (ι:=Unit) (fun _=>True) (fun _=>[(0,.slice (some ⟨g,0,none⟩) n c),(1,.int .i64 (a:Int)),(2,.int .i64 (b:Int)),(10,.int .i64 (j:Int)),(9,.int .i64 (i1:Int))]) (fun _=>uE g 32 e junk::rest) ?_ ?_
 ·refine Aq ?_;refine AM (ι:=Nat) (fun t=>[(0,.slice (some ⟨g,0,none⟩) n c),(1,.int .i64 (a:Int)),(2,.int .i64 (b:Int)),(10,.int .i64 (j:Int)),(9,.int .i64 (t:Int))]) (fun _=>uE g 32 e junk::rest) (fun t=>i <= t/\t <= j + 1/\i1=scanUp (fun x=>!BC e[a]! x) e j t) (fun t=>j + 1 - t) i ⟨by omega,by omega,by assumption⟩ (by repeat (first |exact As.nil |refine As.cons rfl ?_)) (fun w' hw=>hw) ?_;rintro t ⟨ht1,ht2,hR⟩;by_cases hc:t <= j;rotate_left
  ·rw [GD (p:=fun x=>!BC e[a]! x) (.inl hc)] at hR;subst hR;repeat (first |refine A5 (by kernel_rfl) (by kernel_rfl) ?_ |refine Ah Aa rfl ?_ |refine Ai ?_)
   refine BX 32 (v':=.bool false) rfl (congrArg Value.bool (decide_eq_false (by omega))) ?_;repeat (first |refine AN rfl ?_ |refine Ah Aa rfl ?_ |refine BP rfl rfl rfl ?_)
   refine AG rfl ?_;repeat (first |refine Ad ?_ |refine AB ?_ |refine Al ?_ |refine AH ?_)
   exact ⟨(),trivial,by repeat (first |exact As.nil |refine As.cons rfl ?_),fun w' hw=>hw⟩
  cases hb:BC e[a]! e[t]! with
  |true=>
   rw [GD (p:=fun x=>!BC e[a]! x) (.inr (by show (!BC e[a]! e[t]!)=false;rw [hb];rfl))] at hR;subst hR;repeat (first |refine A5 (by kernel_rfl) (by kernel_rfl) ?_ |refine Ah Aa rfl ?_ |refine Ai ?_)
   refine BX 32 (v':=.bool true) rfl (congrArg Value.bool (decide_eq_true (by omega))) ?_;repeat (first |refine Ah Aa rfl ?_)
   refine Bx (Ay Aa rfl rfl rfl rfl rfl rfl rfl (j:=a) (by omega) (by omega)) ?_;refine Av Aa rfl rfl (v:=.int .u64 e[a]!) (fun w' hw=>Bu hw (AJ (by omega))) ?_;repeat (first |refine Ah Aa rfl ?_)
   refine Bx (Ay Aa rfl rfl rfl rfl rfl rfl rfl (j:=i1) (by omega) (by omega)) ?_;refine Av Aa rfl rfl (v:=.int .u64 e[i1]!) (fun w' hw=>Bu hw (AJ (by omega))) ?_;skip;refine Bi rfl Tryz.call106 (v:=.bool true) (fun w' vs hw' h=>by obtain ⟨u1,_,rfl,rfl,u2,_,rfl,rfl,rfl⟩:=h;exact B8 hb w') ?_;repeat (first |refine AN rfl ?_ |refine Ah Aa rfl ?_)
   refine AG rfl ?_;repeat (first |refine Ad ?_ |refine AB ?_ |refine Al ?_ |refine AH ?_)
   exact ⟨(),trivial,by repeat (first |exact As.nil |refine As.cons rfl ?_),fun w' hw=>hw⟩
  |false=>
   rw [LA (p:=fun x=>!BC e[a]! x) hc (by show (!BC e[a]! e[t]!)=true;rw [hb];rfl)] at hR;repeat (first |refine A5 (by kernel_rfl) (by kernel_rfl) ?_ |refine Ah Aa rfl ?_ |refine Ai ?_)
   refine BX 32 (v':=.bool true) rfl (congrArg Value.bool (decide_eq_true (by omega))) ?_;repeat (first |refine Ah Aa rfl ?_)
   refine Bx (Ay Aa rfl rfl rfl rfl rfl rfl rfl (j:=a) (by omega) (by omega)) ?_;refine Av Aa rfl rfl (v:=.int .u64 e[a]!) (fun w' hw=>Bu hw (AJ (by omega))) ?_;repeat (first |refine Ah Aa rfl ?_)
   refine Bx (Ay Aa rfl rfl rfl rfl rfl rfl rfl (j:=t) (by omega) (by omega)) ?_;refine Av Aa rfl rfl (v:=.int .u64 e[t]!) (fun w' hw=>Bu hw (AJ (by omega))) ?_;skip;refine Bi rfl Tryz.call106 (v:=.bool false) (fun w' vs hw' h=>by obtain ⟨u1,_,rfl,rfl,u2,_,rfl,rfl,rfl⟩:=h;exact B8 hb w') ?_;repeat (first |refine AN rfl ?_ |refine Ah Aa rfl ?_)
   refine AX rfl ?_;repeat (first |refine Aq ?_ |refine Ag ?_ |refine Ad ?_ |refine Am ?_ |refine Ao ?_ |refine AD Aa rfl (by omega) ?_ |refine Ae Aa rfl ?_ |refine Ap ?_)
   exact ⟨t + 1,⟨by omega,by omega,hR⟩,(by repeat (first |exact As.nil |refine As.cons rfl ?_)),fun w' hw=>hw,by omega⟩
 rintro _ _;repeat (first |refine Ai ?_)
 refine BN (ι:=Unit) (fun _=>True) (fun _=>[(0,.slice (some ⟨g,0,none⟩) n c),(1,.int .i64 (a:Int)),(2,.int .i64 (b:Int)),(9,.int .i64 (i1:Int)),(10,.int .i64 (j1:Int))]) (fun _=>uE g 32 e junk::rest) ?_ ?_
 ·refine Aq ?_;refine AM (ι:=Nat) (fun t=>[(0,.slice (some ⟨g,0,none⟩) n c),(1,.int .i64 (a:Int)),(2,.int .i64 (b:Int)),(9,.int .i64 (i1:Int)),(10,.int .i64 (t:Int))]) (fun _=>uE g 32 e junk::rest) (fun t=>t <= j/\i1 <= t + 1/\j1=scanDown (fun x=>BC e[a]! x) e i1 t) (fun t=>t) j ⟨by omega,by omega,by assumption⟩ (by repeat (first |exact As.nil |refine As.cons rfl ?_)) (fun w' hw=>hw) ?_;rintro t ⟨ht1,ht2,hR⟩;by_cases hc:i1 <= t;rotate_left
  ·rw [GS (p:=fun x=>BC e[a]! x) (.inl hc) (by omega)] at hR;subst hR;repeat (first |refine A5 (by kernel_rfl) (by kernel_rfl) ?_ |refine Ah Aa rfl ?_ |refine Ai ?_)
   refine BX 49 (v':=.bool false) rfl (congrArg Value.bool (decide_eq_false (by omega))) ?_;repeat (first |refine AN rfl ?_ |refine Ah Aa rfl ?_ |refine BP rfl rfl rfl ?_)
   refine AG rfl ?_;repeat (first |refine Ad ?_ |refine AB ?_ |refine Al ?_ |refine AH ?_)
   exact ⟨(),trivial,by repeat (first |exact As.nil |refine As.cons rfl ?_),fun w' hw=>hw⟩
  cases hb:BC e[a]! e[t]! with
  |false=>
   rw [GS (p:=fun x=>BC e[a]! x) (.inr hb) (by omega)] at hR;subst hR;repeat (first |refine A5 (by kernel_rfl) (by kernel_rfl) ?_ |refine Ah Aa rfl ?_ |refine Ai ?_)
   refine BX 49 (v':=.bool true) rfl (congrArg Value.bool (decide_eq_true (by omega))) ?_;repeat (first |refine Ah Aa rfl ?_)
   refine Bx (Ay Aa rfl rfl rfl rfl rfl rfl rfl (j:=a) (by omega) (by omega)) ?_;refine Av Aa rfl rfl (v:=.int .u64 e[a]!) (fun w' hw=>Bu hw (AJ (by omega))) ?_;repeat (first |refine Ah Aa rfl ?_)
   refine Bx (Ay Aa rfl rfl rfl rfl rfl rfl rfl (j:=j1) (by omega) (by omega)) ?_;refine Av Aa rfl rfl (v:=.int .u64 e[j1]!) (fun w' hw=>Bu hw (AJ (by omega))) ?_;skip;refine Bi rfl Tryz.call106 (v:=.bool false) (fun w' vs hw' h=>by obtain ⟨u1,_,rfl,rfl,u2,_,rfl,rfl,rfl⟩:=h;exact B8 hb w') ?_;repeat (first |refine AN rfl ?_ |refine Ah Aa rfl ?_)
   refine AG rfl ?_;repeat (first |refine Ad ?_ |refine AB ?_ |refine Al ?_ |refine AH ?_)
   exact ⟨(),trivial,by repeat (first |exact As.nil |refine As.cons rfl ?_),fun w' hw=>hw⟩
  |true=>
   rw [LX (p:=fun x=>BC e[a]! x) hc (by omega) hb] at hR;repeat (first |refine A5 (by kernel_rfl) (by kernel_rfl) ?_ |refine Ah Aa rfl ?_ |refine Ai ?_)
   refine BX 49 (v':=.bool true) rfl (congrArg Value.bool (decide_eq_true (by omega))) ?_;repeat (first |refine Ah Aa rfl ?_)
   refine Bx (Ay Aa rfl rfl rfl rfl rfl rfl rfl (j:=a) (by omega) (by omega)) ?_;refine Av Aa rfl rfl (v:=.int .u64 e[a]!) (fun w' hw=>Bu hw (AJ (by omega))) ?_;repeat (first |refine Ah Aa rfl ?_)
   refine Bx (Ay Aa rfl rfl rfl rfl rfl rfl rfl (j:=t) (by omega) (by omega)) ?_;refine Av Aa rfl rfl (v:=.int .u64 e[t]!) (fun w' hw=>Bu hw (AJ (by omega))) ?_;skip;refine Bi rfl Tryz.call106 (v:=.bool true) (fun w' vs hw' h=>by obtain ⟨u1,_,rfl,rfl,u2,_,rfl,rfl,rfl⟩:=h;exact B8 hb w') ?_;repeat (first |refine AN rfl ?_ |refine Ah Aa rfl ?_)
   refine AX rfl ?_;repeat (first |refine Aq ?_ |refine Ag ?_ |refine Ad ?_ |refine Am ?_ |refine Ao ?_ |refine AD Aa rfl (by omega) ?_ |refine Ae Aa rfl ?_ |refine Ap ?_)
   exact ⟨t - 1,⟨by omega,by omega,hR⟩,(by repeat (first |exact As.nil |refine As.cons rfl ?_ |refine As.cons_int rfl (by omega) ?_)),fun w' hw=>hw,by omega⟩
 rintro _ _;repeat (first |refine Ai ?_ |refine Ab ?_ |refine Ag ?_ |refine Ae Aa rfl ?_)
 refine Ak rfl (fun hc=>?_) (fun hc=>?_)
 ·rw [if_pos (by omega)] at hR2;subst hR2;repeat (first |refine Al ?_ |refine AH ?_)
  refine Cx rfl ?_;repeat (first |refine Ai ?_ |refine Ab ?_ |refine Ag ?_ |refine Ad ?_ |refine AB ?_ |refine Al ?_ |refine AC ?_ |refine Ae Aa rfl ?_)
  subst hR;exact AZ rfl rfl (fun w' hw=>⟨rfl,hw,he⟩)
 rw [if_neg (by omega)] at hR2;have hij:=f5 (by omega);repeat (first |refine Ai ?_ |refine Ao ?_ |refine Ad ?_)
 have hs3:=Cm e i1 j1
 let ol0:OL:=uE g 32 e junk::rest
 let ol1:OL:=.blk g (.cells ⟨(uA e junk).set i1 (.int .u64 e[j1]!)⟩ 32 (0,0)) true::rest
 let ol2:OL:=uE g 32 (swp e i1 j1) junk::rest
 let olf:(Nat->Bool)->OL:=fun L=>match L 15 with
  |true=>ol2
  |false=>match L 13 with
   |true=>ol1
   |false=>ol0
 refine Ci (by kernel_rfl) (by kernel_rfl) [.slice (some ⟨g,0,none⟩) n c,.int .i64 (i1:Int),.slice (some ⟨g,0,none⟩) n c,.int .i64 (j1:Int),.slice (some ⟨g,0,none⟩) n c,.int .i64 (j1:Int),.pointer (some ⟨g,0 + j1,none⟩),.int .u64 e[j1]!,.slice (some ⟨g,0,none⟩) n c,.int .i64 (i1:Int),.pointer (some ⟨g,0 + i1,none⟩),.int .u64 e[i1]!,.pointer (some ⟨g,0 + i1,none⟩),undef,.pointer (some ⟨g,0 + j1,none⟩),undef] rfl olf rfl ?_ (l':=[(0,.slice (some ⟨g,0,none⟩) n c),(1,.int .i64 (a:Int)),(2,.int .i64 (b:Int)),(9,.int .i64 (i1:Int)),(10,.int .i64 (j1:Int))]) (ol':=ol2) (fun L h=>by simp only [olf,h 15 (by decide)]) (by repeat (first |exact Bc.nil |refine Bc.cons rfl ?_)) ?_
 ·refine ⟨?_,?_,?_,?_,?_,?_,?_,?_,?_,?_,?_,?_,?_,?_,?_,?_,trivial⟩
  ·exact fun L hc hl hp=>AK.ofD rfl (Ah Aa rfl Aj)
  ·exact fun L hc hl hp=>AK.ofD rfl (Ah Aa rfl Aj)
  ·exact fun L hc hl hp=>AK.ofD rfl (Ah Aa rfl Aj)
  ·exact fun L hc hl hp=>AK.ofD rfl (Ah Aa rfl Aj)
  ·exact fun L hc hl hp=>AK.ofD rfl (Ah Aa rfl Aj)
  ·exact fun L hc hl hp=>AK.ofD rfl (Ah Aa rfl Aj)
  ·exact fun L hc hl hp=>AK.ofD rfl (Bx (Ay Aa rfl rfl rfl rfl rfl rfl rfl (j:=j1) (by omega) (by omega)) Aj)
  ·intro L hc hl hp;have h13:=At hc (j:=13) rfl ⟨7,.data⟩ (by simp) rfl hl;have h15:=At hc (j:=15) rfl ⟨7,.phase⟩ (by simp) rfl hl
   have e1:olf L=ol0:=by simp only [olf,h13,h15]
   have e2:olf (add L 7)=ol0:=by simp [olf,add,h13,h15]
   rw [e1,e2];exact AK.ofD rfl (Av Aa (v:=.int .u64 e[j1]!) rfl rfl (fun w' hw=>Bu hw (AJ (by omega))) Aj)
  ·exact fun L hc hl hp=>AK.ofD rfl (Ah Aa rfl Aj)
  ·exact fun L hc hl hp=>AK.ofD rfl (Ah Aa rfl Aj)
  ·exact fun L hc hl hp=>AK.ofD rfl (Bx (Ay Aa rfl rfl rfl rfl rfl rfl rfl (j:=i1) (by omega) (by omega)) Aj)
  ·intro L hc hl hp;have h13:=At hc (j:=13) rfl ⟨11,.phase⟩ (by simp) rfl hl;have h15:=At hc (j:=15) rfl ⟨11,.data⟩ (by simp) rfl hl
   have e1:olf L=ol0:=by simp only [olf,h13,h15]
   have e2:olf (add L 11)=ol0:=by simp [olf,add,h13,h15]
   rw [e1,e2];exact AK.ofD rfl (Av Aa (v:=.int .u64 e[i1]!) rfl rfl (fun w' hw=>Bu hw (AJ (by omega))) Aj)
  ·exact fun L hc hl hp=>AK.ofD rfl (Bx (Ay Aa rfl rfl rfl rfl rfl rfl rfl (j:=i1) (by omega) (by omega)) Aj)
  ·intro L hc hl hp;have h15:=At hc (j:=15) rfl ⟨13,.chain⟩ (by simp) rfl hl
   have e1:olf L=ol0:=by simp only [olf,hl,h15]
   have e2:olf (add L 13)=ol1:=by simp [olf,add,h15]
   rw [e1,e2];exact AK.store Aa 0 rfl rfl (by intro x hx;rw [List.mem_singleton] at hx;subst hx;rfl) rfl (by rw [Nat.zero_add];exact Ba (by rw [BY];omega)) rfl
  ·exact fun L hc hl hp=>AK.ofD rfl (Bx (Ay Aa rfl rfl rfl rfl rfl rfl rfl (j:=j1) (by omega) (by omega)) Aj)
  ·intro L hc hl hp;have h13:L 13=true:=hp ⟨13,.chain⟩ (by simp) rfl
   have e1:olf L=ol1:=by simp only [olf,h13,hl]
   have e2:olf (add L 15)=ol2:=by simp [olf,add]
   rw [e1,e2];exact AK.store Aa 0 rfl rfl (by intro x hx;rw [List.mem_singleton] at hx;subst hx;rfl) rfl (by rw [Nat.zero_add];exact (Ba (by rw [List.length_set,BY];omega)).trans (congrArg some (Dx (by omega) (by omega)))) rfl
 clear olf ol0 ol1;dsimp only [ol2];clear ol2;repeat (first |refine Ai ?_ |refine Ab ?_ |refine Ag ?_ |refine Ad ?_ |refine Am ?_ |refine AD Aa rfl (by omega) ?_ |refine Ae Aa rfl ?_ |refine Ap ?_)
 exact ⟨⟨i1 + 1,j1 - 1,swp e i1 j1⟩,⟨by dsimp only;omega,by dsimp only;omega,by dsimp only;omega,by dsimp only;omega,hR2⟩,(by dsimp only;repeat (first |exact As.nil |refine As.cons rfl ?_ |refine As.cons_int rfl (by omega) ?_)),fun w' hw=>hw,by dsimp only;omega⟩
open Go.Sort
theorem Je {d:Array Int} {b i:Nat} (h:¬ i < b \/ BC d[i]! d[i - 1]! =true):scanSorted BC d b i=i:=by
 unfold scanSorted;rw [if_neg];intro hh;rw [Bool.and_eq_true,decide_eq_true_eq] at hh
 rcases h with h |h
 ·exact h hh.1
 ·rw [h] at hh;exact absurd hh.2 (by decide)
theorem Oh {d:Array Int} {b i:Nat} (h:i < b) (hp:BC d[i]! d[i - 1]! =false):scanSorted BC d b i=scanSorted BC d b (i + 1):=by
 conv=>lhs;unfold scanSorted
 rw [if_pos (by rw [Bool.and_eq_true,decide_eq_true_eq];exact ⟨h,by rw [hp];rfl⟩)]
theorem UO {d:Array Int} {b:Nat}:∀ (m i:Nat),b - i=m->i <= b->i <= scanSorted BC d b i/\scanSorted BC d b i <= b
 |0,i,hm,hi=>by rw [Je (.inl (by omega))];omega
 |m + 1,i,hm,hi=>by
  cases hb:BC d[i]! d[i - 1]! with
  |true=>rw [Je (.inr hb)];omega
  |false=>
   rw [Oh (b:=b) (i:=i) (by omega) hb];have:=UO (d:=d) (b:=b) m (i + 1) (by omega) (by omega);omega
theorem On {d:Array Int} {j:Nat} (h:j=0 \/ BC d[j]! d[j - 1]! =false):shiftDown BC j d=d:=by
 cases j with
 |zero=>rfl
 |succ j=>
  unfold shiftDown
  rcases h with h |h
  ·cases h
  ·rw [Nat.add_sub_cancel] at h;rw [h];rfl
theorem SF {d:Array Int} {j:Nat} (h:1 <= j) (hl:BC d[j]! d[j - 1]! =true):shiftDown BC j d=shiftDown BC (j - 1) (swp d j (j - 1)):=by
 obtain ⟨k,rfl⟩:∃ k,j=k + 1:=⟨j - 1,by omega⟩;rw [Nat.add_sub_cancel] at hl ⊢
 conv=>lhs;unfold shiftDown
 rw [hl];rfl
theorem Og {d:Array Int} {b j:Nat} (h:¬ j < b \/ BC d[j]! d[j - 1]! =false):shiftUp BC b j d=d:=by
 unfold shiftUp;by_cases hj:j < b
 ·rw [if_pos hj,h.resolve_left (fun h=>h hj)];rfl
 ·rw [if_neg hj]
theorem SA {d:Array Int} {b j:Nat} (h:j < b) (hl:BC d[j]! d[j - 1]! =true):shiftUp BC b j d=shiftUp BC b (j + 1) (swp d j (j - 1)):=by
 conv=>lhs;unfold shiftUp
 rw [if_pos h,hl];rfl
structure Ym where
 s:Nat
 i:Nat
 d:Array Int
set_option maxHeartbeats 8000000 in
theorem S0 {w0 w:World} {g c n:Nat} {d0:Array Int} {junk:List Value} {rest:OL} (a b:Nat) (h:Hp w0 w (uE g 32 d0 junk::rest)) (hn:d0.size=n) (hab:a < b) (hb:b <= n) (hm:n <= 1152921504606846976):Calls Tryz.prog 105 #[.slice (some ⟨g,0,none⟩) n c,.int .i64 (a:Int),.int .i64 (b:Int)] w fun e w'=>e= .returned (.bool (partialInsertionSort BC d0 a b).2)/\Hp w0 w' (uE g 32 (partialInsertionSort BC d0 a b).1 junk::rest)/\((partialInsertionSort BC d0 a b).1).size=n:=by
 refine Ef Tryz.func105 rfl rfl h ?_;obtain ⟨R,hR⟩:∃ R,R=partialInsertionSort BC d0 a b:=⟨_,rfl⟩;rw [<-hR];unfold partialInsertionSort at hR;repeat (first |refine Ai ?_ |refine Ab ?_ |refine Aq ?_ |refine Ag ?_ |refine AD Aa rfl (by omega) ?_ |refine Ae Aa rfl ?_)
 refine AM (ι:=Ym) (fun t=>[(0,.slice (some ⟨g,0,none⟩) n c),(1,.int .i64 (a:Int)),(2,.int .i64 (b:Int)),(7,.int .i64 (t.i:Int)),(8,.int .i64 (5 - (t.s:Int)))]) (fun t=>uE g 32 t.d junk::rest) (fun t=>t.s <= 5/\a < t.i/\t.i <= b/\t.d.size=n/\R=partialIns BC a b t.s t.i t.d) (fun t=>t.s) ⟨5,a + 1,d0⟩ ⟨by dsimp only;omega,by dsimp only;omega,by dsimp only;omega,hn,hR⟩ (by dsimp only;repeat (first |exact As.nil |refine As.cons rfl ?_)) (fun w' hw=>hw) ?_;clear hR;rintro ⟨s,i,d⟩ ⟨hs5,hi1,hi2,hd,hR⟩;dsimp only at hs5 hi1 hi2 hd hR ⊢;obtain ⟨z,hz⟩:∃ z,z=5 - (s:Int):=⟨_,rfl⟩;rw [<-hz];repeat (first |refine Ai ?_ |refine Ab ?_ |refine Ag ?_ |refine Ae Aa rfl ?_)
 cases s with
 |zero=>
  refine Ak rfl (fun h=>absurd h (by omega)) (fun _=>?_);subst hR;repeat (first |refine Ai ?_ |refine Ab ?_ |refine Ag ?_ |refine Ad ?_ |refine AB ?_ |refine Al ?_ |refine AC ?_ |refine AH ?_ |refine Ae Aa rfl ?_)
  exact AZ rfl rfl (fun w' hw=>⟨rfl,hw,hd⟩)
 |succ s=>
 rw [partialIns_succ] at hR;refine Ak rfl (fun _=>?_) (fun h=>absurd (by omega) h);repeat (first |refine Ai ?_ |refine Ao ?_ |refine Ad ?_)
 refine Aq ?_;repeat (first |refine Ai ?_)
 obtain ⟨k,hk⟩:∃ k,k=scanSorted BC d b i:=⟨_,rfl⟩;have hkb:=UO (d:=d) (b:=b) _ i rfl hi2;rw [<-hk] at hR hkb;refine BN (ι:=Unit) (fun _=>True) (fun _=>[(0,.slice (some ⟨g,0,none⟩) n c),(1,.int .i64 (a:Int)),(2,.int .i64 (b:Int)),(7,.int .i64 (k:Int)),(8,.int .i64 z)]) (fun _=>uE g 32 d junk::rest) ?_ ?_
 ·refine Aq ?_;refine AM (ι:=Nat) (fun t=>[(0,.slice (some ⟨g,0,none⟩) n c),(1,.int .i64 (a:Int)),(2,.int .i64 (b:Int)),(7,.int .i64 (t:Int)),(8,.int .i64 z)]) (fun _=>uE g 32 d junk::rest) (fun t=>i <= t/\t <= b/\k=scanSorted BC d b t) (fun t=>b - t) i ⟨Nat.le_refl _,hi2,hk⟩ (by repeat (first |exact As.nil |refine As.cons rfl ?_)) (fun w' hw=>hw) ?_;rintro t ⟨ht1,ht2,hk⟩;by_cases hc:t < b;rotate_left
  ·rw [Je (.inl hc)] at hk;subst hk;repeat (first |refine A5 (by kernel_rfl) (by kernel_rfl) ?_ |refine Ah Aa rfl ?_ |refine Ai ?_)
   refine BX 20 (v':=.bool false) rfl (congrArg Value.bool (decide_eq_false (by omega))) ?_;repeat (first |refine AN rfl ?_ |refine Ah Aa rfl ?_ |refine BP rfl rfl rfl ?_)
   refine AG rfl ?_;repeat (first |refine Ad ?_ |refine AB ?_ |refine Al ?_ |refine AH ?_)
   exact ⟨(),trivial,by repeat (first |exact As.nil |refine As.cons rfl ?_),fun w' hw=>hw⟩
  cases hb:BC d[t]! d[t - 1]! with
  |true=>
   rw [Je (.inr hb)] at hk;subst hk;repeat (first |refine A5 (by kernel_rfl) (by kernel_rfl) ?_ |refine Ah Aa rfl ?_ |refine Ai ?_)
   refine BX 20 (v':=.bool true) rfl (congrArg Value.bool (decide_eq_true (by omega))) ?_;repeat (first |refine Ah Aa rfl ?_)
   refine Bx (Ay Aa rfl rfl rfl rfl rfl rfl rfl (j:=k) (by omega) (by omega)) ?_;refine Av Aa rfl rfl (v:=.int .u64 d[k]!) (fun w' hw=>Bu hw (AJ (by omega))) ?_;repeat (first |refine BD Aa rfl (by omega) ?_ |refine Ah Aa rfl ?_)
   refine Bx (Ay Aa rfl rfl rfl rfl rfl rfl rfl (j:=(k - 1)) (by omega) (by omega)) ?_;refine Av Aa rfl rfl (v:=.int .u64 d[(k - 1)]!) (fun w' hw=>Bu hw (AJ (by omega))) ?_;skip;refine Bi rfl Tryz.call106 (v:=.bool true) (fun w' vs hw' h=>by obtain ⟨u1,_,rfl,rfl,u2,_,rfl,rfl,rfl⟩:=h;exact B8 hb w') ?_;repeat (first |refine AN rfl ?_ |refine Ah Aa rfl ?_)
   refine AG rfl ?_;repeat (first |refine Ad ?_ |refine AB ?_ |refine Al ?_ |refine AH ?_)
   exact ⟨(),trivial,by repeat (first |exact As.nil |refine As.cons rfl ?_),fun w' hw=>hw⟩
  |false=>
   rw [Oh hc hb] at hk;repeat (first |refine A5 (by kernel_rfl) (by kernel_rfl) ?_ |refine Ah Aa rfl ?_ |refine Ai ?_)
   refine BX 20 (v':=.bool true) rfl (congrArg Value.bool (decide_eq_true (by omega))) ?_;repeat (first |refine Ah Aa rfl ?_)
   refine Bx (Ay Aa rfl rfl rfl rfl rfl rfl rfl (j:=t) (by omega) (by omega)) ?_;refine Av Aa rfl rfl (v:=.int .u64 d[t]!) (fun w' hw=>Bu hw (AJ (by omega))) ?_;repeat (first |refine BD Aa rfl (by omega) ?_ |refine Ah Aa rfl ?_)
   refine Bx (Ay Aa rfl rfl rfl rfl rfl rfl rfl (j:=(t - 1)) (by omega) (by omega)) ?_;refine Av Aa rfl rfl (v:=.int .u64 d[(t - 1)]!) (fun w' hw=>Bu hw (AJ (by omega))) ?_;skip;refine Bi rfl Tryz.call106 (v:=.bool false) (fun w' vs hw' h=>by obtain ⟨u1,_,rfl,rfl,u2,_,rfl,rfl,rfl⟩:=h;exact B8 hb w') ?_;repeat (first |refine AN rfl ?_ |refine Ah Aa rfl ?_)
   refine AX rfl ?_;repeat (first |refine Aq ?_ |refine Ag ?_ |refine Ad ?_ |refine Am ?_ |refine Ao ?_ |refine AD Aa rfl (by omega) ?_ |refine Ae Aa rfl ?_ |refine Ap ?_)
   exact ⟨t + 1,⟨by omega,by omega,hk⟩,(by repeat (first |exact As.nil |refine As.cons rfl ?_)),fun w' hw=>hw,by omega⟩
 rintro _ _;clear hk;repeat (first |refine Ai ?_ |refine Ab ?_ |refine Ag ?_ |refine Ae Aa rfl ?_)
 refine Ak rfl (fun hc=>?_) (fun hc=>?_)
 ·rw [if_pos (by omega)] at hR;subst hR;repeat (first |refine Ai ?_ |refine Ab ?_ |refine Ag ?_ |refine BQ ?_ |refine AI ?_ |refine AC ?_ |refine Ae Aa rfl ?_)
  exact AZ rfl rfl (fun w' hw=>⟨rfl,hw,hd⟩)
 rw [if_neg (by omega)] at hR;repeat (first |refine Ai ?_ |refine Ab ?_ |refine Ag ?_ |refine Ad ?_ |refine Ao ?_ |refine AD Aa rfl (by omega) ?_ |refine Ae Aa rfl ?_)
 refine Ak rfl (fun hc2=>?_) (fun hc2=>?_)
 ·rw [if_pos (by omega)] at hR;subst hR;repeat (first |refine Ai ?_ |refine Ab ?_ |refine Ag ?_ |refine BQ ?_ |refine AI ?_ |refine AC ?_ |refine Ae Aa rfl ?_)
  exact AZ rfl rfl (fun w' hw=>⟨rfl,hw,hd⟩)
 rw [if_neg (by omega)] at hR;repeat (first |refine Ai ?_ |refine Ao ?_ |refine Ad ?_)
 have hs:=Cm d k (k - 1)
 let ol0:OL:=uE g 32 d junk::rest
 let ol1:OL:=.blk g (.cells ⟨(uA d junk).set k (.int .u64 d[(k - 1)]!)⟩ 32 (0,0)) true::rest
 let ol2:OL:=uE g 32 (swp d k (k - 1)) junk::rest
 let olf:(Nat->Bool)->OL:=fun L=>match L 17 with
  |true=>ol2
  |false=>match L 15 with
   |true=>ol1
   |false=>ol0
 refine Ci (by kernel_rfl) (by kernel_rfl) [.slice (some ⟨g,0,none⟩) n c,.int .i64 (k:Int),.slice (some ⟨g,0,none⟩) n c,.int .i64 (k:Int),.int .i64 ((k:Int) - 1),.slice (some ⟨g,0,none⟩) n c,.int .i64 (k:Int),.int .i64 ((k:Int) - 1),.pointer (some ⟨g,0 + (k - 1),none⟩),.int .u64 d[(k - 1)]!,.slice (some ⟨g,0,none⟩) n c,.int .i64 (k:Int),.pointer (some ⟨g,0 + k,none⟩),.int .u64 d[k]!,.pointer (some ⟨g,0 + k,none⟩),undef,.pointer (some ⟨g,0 + (k - 1),none⟩),undef] rfl olf rfl ?_ (l':=[(0,.slice (some ⟨g,0,none⟩) n c),(1,.int .i64 (a:Int)),(2,.int .i64 (b:Int)),(7,.int .i64 (k:Int)),(8,.int .i64 z)]) (ol':=ol2) (fun L h=>by simp only [olf,h 17 (by decide)]) (by repeat (first |exact Bc.nil |refine Bc.cons rfl ?_)) ?_
 ·refine ⟨?_,?_,?_,?_,?_,?_,?_,?_,?_,?_,?_,?_,?_,?_,?_,?_,?_,?_,trivial⟩
  ·exact fun L hc hl hp=>AK.ofD rfl (Ah Aa rfl Aj)
  ·exact fun L hc hl hp=>AK.ofD rfl (Ah Aa rfl Aj)
  ·exact fun L hc hl hp=>AK.ofD rfl (Ah Aa rfl Aj)
  ·exact fun L hc hl hp=>AK.ofD rfl (Ah Aa rfl Aj)
  ·exact fun L hc hl hp=>AK.ofD rfl (BD Aa rfl (by omega) Aj)
  ·exact fun L hc hl hp=>AK.ofD rfl (Ah Aa rfl Aj)
  ·exact fun L hc hl hp=>AK.ofD rfl (Ah Aa rfl Aj)
  ·exact fun L hc hl hp=>AK.ofD rfl (BD Aa rfl (by omega) Aj)
  ·exact fun L hc hl hp=>AK.ofD rfl (Bx (Ay Aa rfl rfl rfl rfl rfl rfl rfl (j:=(k - 1)) (by omega) (by omega)) Aj)
  ·intro L hc hl hp;have h15:=At hc (j:=15) rfl ⟨9,.data⟩ (by simp) rfl hl;have h17:=At hc (j:=17) rfl ⟨9,.phase⟩ (by simp) rfl hl
   have e1:olf L=ol0:=by simp only [olf,h15,h17]
   have e2:olf (add L 9)=ol0:=by simp [olf,add,h15,h17]
   rw [e1,e2];exact AK.ofD rfl (Av Aa (v:=.int .u64 d[(k - 1)]!) rfl rfl (fun w' hw=>Bu hw (AJ (by omega))) Aj)
  ·exact fun L hc hl hp=>AK.ofD rfl (Ah Aa rfl Aj)
  ·exact fun L hc hl hp=>AK.ofD rfl (Ah Aa rfl Aj)
  ·exact fun L hc hl hp=>AK.ofD rfl (Bx (Ay Aa rfl rfl rfl rfl rfl rfl rfl (j:=k) (by omega) (by omega)) Aj)
  ·intro L hc hl hp;have h15:=At hc (j:=15) rfl ⟨13,.phase⟩ (by simp) rfl hl;have h17:=At hc (j:=17) rfl ⟨13,.data⟩ (by simp) rfl hl
   have e1:olf L=ol0:=by simp only [olf,h15,h17]
   have e2:olf (add L 13)=ol0:=by simp [olf,add,h15,h17]
   rw [e1,e2];exact AK.ofD rfl (Av Aa (v:=.int .u64 d[k]!) rfl rfl (fun w' hw=>Bu hw (AJ (by omega))) Aj)
  ·exact fun L hc hl hp=>AK.ofD rfl (Bx (Ay Aa rfl rfl rfl rfl rfl rfl rfl (j:=k) (by omega) (by omega)) Aj)
  ·intro L hc hl hp;have h17:=At hc (j:=17) rfl ⟨15,.chain⟩ (by simp) rfl hl
   have e1:olf L=ol0:=by simp only [olf,hl,h17]
   have e2:olf (add L 15)=ol1:=by simp [olf,add,h17]
   rw [e1,e2];exact AK.store Aa 0 rfl rfl (by intro x hx;rw [List.mem_singleton] at hx;subst hx;rfl) rfl (by rw [Nat.zero_add];exact Ba (by rw [BY];omega)) rfl
  ·exact fun L hc hl hp=>AK.ofD rfl (Bx (Ay Aa rfl rfl rfl rfl rfl rfl rfl (j:=(k - 1)) (by omega) (by omega)) Aj)
  ·intro L hc hl hp;have h15:L 15=true:=hp ⟨15,.chain⟩ (by simp) rfl
   have e1:olf L=ol1:=by simp only [olf,h15,hl]
   have e2:olf (add L 17)=ol2:=by simp [olf,add]
   rw [e1,e2];exact AK.store Aa 0 rfl rfl (by intro x hx;rw [List.mem_singleton] at hx;subst hx;rfl) rfl (by rw [Nat.zero_add];exact (Ba (by rw [List.length_set,BY];omega)).trans (congrArg some (Dx (by omega) (by omega)))) rfl
 clear olf ol0 ol1;dsimp only [ol2];clear ol2;obtain ⟨d1,hd1⟩:∃ d1,d1=swp d k (k - 1):=⟨_,rfl⟩;rw [<-hd1] at hR hs ⊢
 replace hd:d1.size=n:=by omega
 clear hd1 hs d;obtain ⟨d,rfl⟩:∃ d,d=d1:=⟨_,rfl⟩;repeat (first |refine Ai ?_ |refine Ab ?_ |refine Ag ?_ |refine AD Aa rfl (by omega) ?_ |refine Ae Aa rfl ?_)
 obtain ⟨X,hX⟩:∃ X,X=fixDown BC a k d:=⟨_,rfl⟩;rw [<-hX] at hR;refine BN (ι:=Array Int) (fun d'=>d'=X/\d'.size=n) (fun _=>[(0,.slice (some ⟨g,0,none⟩) n c),(1,.int .i64 (a:Int)),(2,.int .i64 (b:Int)),(7,.int .i64 (k:Int)),(8,.int .i64 z)]) (fun d'=>uE g 32 d' junk::rest) ?_ ?_
 ·unfold fixDown at hX;refine Ak rfl (fun hc3=>?_) (fun hc3=>?_);rotate_left
  ·rw [if_neg (by omega)] at hX;repeat (first |refine Ad ?_ |refine Ao ?_)
   exact ⟨d,⟨hX.symm,hd⟩,by repeat (first |exact As.nil |refine As.cons rfl ?_),fun w' hw=>hw⟩
  rw [if_pos (by omega)] at hX;repeat (first |refine Ai ?_ |refine Ab ?_ |refine Ag ?_ |refine AD Aa rfl (by omega) ?_ |refine Ae Aa rfl ?_)
  refine Aq ?_;refine AM (ι:=WD) (fun t=>[(0,.slice (some ⟨g,0,none⟩) n c),(1,.int .i64 (a:Int)),(2,.int .i64 (b:Int)),(7,.int .i64 (k:Int)),(8,.int .i64 z),(9,.int .i64 (t.i:Int))]) (fun t=>uE g 32 t.d junk::rest) (fun t=>t.i < n/\t.d.size=n/\X=shiftDown BC t.i t.d) (fun t=>t.i) ⟨k - 1,d⟩ ⟨by dsimp only;omega,hd,hX⟩ (by dsimp only;repeat (first |exact As.nil |refine As.cons rfl ?_ |refine As.cons_int rfl (by omega) ?_)) (fun w' hw=>hw) ?_;clear hX;rintro ⟨j,d⟩ ⟨hj,hd,hX⟩;dsimp only at hj hd hX ⊢;by_cases hc:1 <= j;rotate_left
  ·rw [On (.inl (by omega))] at hX;subst hX;repeat (first |refine Ai ?_ |refine Ab ?_ |refine Ag ?_ |refine Ae Aa rfl ?_)
   refine Ak rfl (fun h=>absurd h (by omega)) (fun _=>?_);repeat (first |refine Ad ?_ |refine AB ?_ |refine Al ?_ |refine AH ?_)
   exact ⟨X,⟨rfl,hd⟩,by repeat (first |exact As.nil |refine As.cons rfl ?_),fun w' hw=>hw⟩
  cases hb:BC d[j]! d[j - 1]! with
  |false=>
   rw [On (.inr hb)] at hX;subst hX;repeat (first |refine Ai ?_ |refine Ab ?_ |refine Ag ?_ |refine Ae Aa rfl ?_)
   refine Ak rfl (fun _=>?_) (fun h=>absurd (by omega) h);repeat (first |refine A5 (by kernel_rfl) (by kernel_rfl) ?_ |refine Ah Aa rfl ?_ |refine Ai ?_ |refine Aq ?_ |refine Ad ?_ |refine Ao ?_)
   refine Bx (Ay Aa rfl rfl rfl rfl rfl rfl rfl (j:=j) (by omega) (by omega)) ?_;refine Av Aa rfl rfl (v:=.int .u64 X[j]!) (fun w' hw=>Bu hw (AJ (by omega))) ?_;repeat (first |refine BD Aa rfl (by omega) ?_ |refine Ah Aa rfl ?_)
   refine Bx (Ay Aa rfl rfl rfl rfl rfl rfl rfl (j:=(j - 1)) (by omega) (by omega)) ?_;refine Av Aa rfl rfl (v:=.int .u64 X[(j - 1)]!) (fun w' hw=>Bu hw (AJ (by omega))) ?_;skip;refine Bi rfl Tryz.call106 (v:=.bool false) (fun w' vs hw' h=>by obtain ⟨u1,_,rfl,rfl,u2,_,rfl,rfl,rfl⟩:=h;exact B8 hb w') ?_;repeat (first |refine AN rfl ?_ |refine Ah Aa rfl ?_)
   refine AX rfl ?_;repeat (first |refine Al ?_ |refine AH ?_)
   refine Cx rfl ?_;repeat (first |refine Ad ?_ |refine AB ?_ |refine Al ?_)
   exact ⟨X,⟨rfl,hd⟩,by repeat (first |exact As.nil |refine As.cons rfl ?_),fun w' hw=>hw⟩
  |true=>
   rw [SF hc hb] at hX;repeat (first |refine Ai ?_ |refine Ab ?_ |refine Ag ?_ |refine Ae Aa rfl ?_)
   refine Ak rfl (fun _=>?_) (fun h=>absurd (by omega) h);repeat (first |refine A5 (by kernel_rfl) (by kernel_rfl) ?_ |refine Ah Aa rfl ?_ |refine Ai ?_ |refine Aq ?_ |refine Ad ?_ |refine Ao ?_)
   refine Bx (Ay Aa rfl rfl rfl rfl rfl rfl rfl (j:=j) (by omega) (by omega)) ?_;refine Av Aa rfl rfl (v:=.int .u64 d[j]!) (fun w' hw=>Bu hw (AJ (by omega))) ?_;repeat (first |refine BD Aa rfl (by omega) ?_ |refine Ah Aa rfl ?_)
   refine Bx (Ay Aa rfl rfl rfl rfl rfl rfl rfl (j:=(j - 1)) (by omega) (by omega)) ?_;refine Av Aa rfl rfl (v:=.int .u64 d[(j - 1)]!) (fun w' hw=>Bu hw (AJ (by omega))) ?_;skip;refine Bi rfl Tryz.call106 (v:=.bool true) (fun w' vs hw' h=>by obtain ⟨u1,_,rfl,rfl,u2,_,rfl,rfl,rfl⟩:=h;exact B8 hb w') ?_;repeat (first |refine AN rfl ?_ |refine Ah Aa rfl ?_)
   refine AG rfl ?_;repeat (first |refine Ao ?_ |refine Ad ?_)
   have hs:=Cm d j (j - 1)
   let ol0:OL:=uE g 32 d junk::rest
   let ol1:OL:=.blk g (.cells ⟨(uA d junk).set j (.int .u64 d[(j - 1)]!)⟩ 32 (0,0)) true::rest
   let ol2:OL:=uE g 32 (swp d j (j - 1)) junk::rest
   let olf:(Nat->Bool)->OL:=fun L=>match L 17 with
    |true=>ol2
    |false=>match L 15 with
     |true=>ol1
     |false=>ol0
   refine Ca ?_;refine Ci (by kernel_rfl) (by kernel_rfl) [.slice (some ⟨g,0,none⟩) n c,.int .i64 (j:Int),.slice (some ⟨g,0,none⟩) n c,.int .i64 (j:Int),.int .i64 ((j:Int) - 1),.slice (some ⟨g,0,none⟩) n c,.int .i64 (j:Int),.int .i64 ((j:Int) - 1),.pointer (some ⟨g,0 + (j - 1),none⟩),.int .u64 d[(j - 1)]!,.slice (some ⟨g,0,none⟩) n c,.int .i64 (j:Int),.pointer (some ⟨g,0 + j,none⟩),.int .u64 d[j]!,.pointer (some ⟨g,0 + j,none⟩),undef,.pointer (some ⟨g,0 + (j - 1),none⟩),undef] rfl olf rfl ?_ (l':=[(0,.slice (some ⟨g,0,none⟩) n c),(1,.int .i64 (a:Int)),(2,.int .i64 (b:Int)),(7,.int .i64 (k:Int)),(8,.int .i64 z),(9,.int .i64 (j:Int))]) (ol':=ol2) (fun L h=>by simp only [olf,h 17 (by decide)]) (by repeat (first |exact Bc.nil |refine Bc.cons rfl ?_)) ?_
   ·refine ⟨?_,?_,?_,?_,?_,?_,?_,?_,?_,?_,?_,?_,?_,?_,?_,?_,?_,?_,trivial⟩
    ·exact fun L hc hl hp=>AK.ofD rfl (Ah Aa rfl Aj)
    ·exact fun L hc hl hp=>AK.ofD rfl (Ah Aa rfl Aj)
    ·exact fun L hc hl hp=>AK.ofD rfl (Ah Aa rfl Aj)
    ·exact fun L hc hl hp=>AK.ofD rfl (Ah Aa rfl Aj)
    ·exact fun L hc hl hp=>AK.ofD rfl (BD Aa rfl (by omega) Aj)
    ·exact fun L hc hl hp=>AK.ofD rfl (Ah Aa rfl Aj)
    ·exact fun L hc hl hp=>AK.ofD rfl (Ah Aa rfl Aj)
    ·exact fun L hc hl hp=>AK.ofD rfl (BD Aa rfl (by omega) Aj)
    ·exact fun L hc hl hp=>AK.ofD rfl (Bx (Ay Aa rfl rfl rfl rfl rfl rfl rfl (j:=(j - 1)) (by omega) (by omega)) Aj)
    ·intro L hc hl hp;have h15:=At hc (j:=15) rfl ⟨9,.data⟩ (by simp) rfl hl;have h17:=At hc (j:=17) rfl ⟨9,.phase⟩ (by simp) rfl hl
     have e1:olf L=ol0:=by simp only [olf,h15,h17]
     have e2:olf (add L 9)=ol0:=by simp [olf,add,h15,h17]
     rw [e1,e2];exact AK.ofD rfl (Av Aa (v:=.int .u64 d[(j - 1)]!) rfl rfl (fun w' hw=>Bu hw (AJ (by omega))) Aj)
    ·exact fun L hc hl hp=>AK.ofD rfl (Ah Aa rfl Aj)
    ·exact fun L hc hl hp=>AK.ofD rfl (Ah Aa rfl Aj)
    ·exact fun L hc hl hp=>AK.ofD rfl (Bx (Ay Aa rfl rfl rfl rfl rfl rfl rfl (j:=j) (by omega) (by omega)) Aj)
    ·intro L hc hl hp;have h15:=At hc (j:=15) rfl ⟨13,.phase⟩ (by simp) rfl hl;have h17:=At hc (j:=17) rfl ⟨13,.data⟩ (by simp) rfl hl
     have e1:olf L=ol0:=by simp only [olf,h15,h17]
     have e2:olf (add L 13)=ol0:=by simp [olf,add,h15,h17]
     rw [e1,e2];exact AK.ofD rfl (Av Aa (v:=.int .u64 d[j]!) rfl rfl (fun w' hw=>Bu hw (AJ (by omega))) Aj)
    ·exact fun L hc hl hp=>AK.ofD rfl (Bx (Ay Aa rfl rfl rfl rfl rfl rfl rfl (j:=j) (by omega) (by omega)) Aj)
    ·intro L hc hl hp;have h17:=At hc (j:=17) rfl ⟨15,.chain⟩ (by simp) rfl hl
     have e1:olf L=ol0:=by simp only [olf,hl,h17]
     have e2:olf (add L 15)=ol1:=by simp [olf,add,h17]
     rw [e1,e2];exact AK.store Aa 0 rfl rfl (by intro x hx;rw [List.mem_singleton] at hx;subst hx;rfl) rfl (by rw [Nat.zero_add];exact Ba (by rw [BY];omega)) rfl
    ·exact fun L hc hl hp=>AK.ofD rfl (Bx (Ay Aa rfl rfl rfl rfl rfl rfl rfl (j:=(j - 1)) (by omega) (by omega)) Aj)
    ·intro L hc hl hp;have h15:L 15=true:=hp ⟨15,.chain⟩ (by simp) rfl
     have e1:olf L=ol1:=by simp only [olf,h15,hl]
     have e2:olf (add L 17)=ol2:=by simp [olf,add]
     rw [e1,e2];exact AK.store Aa 0 rfl rfl (by intro x hx;rw [List.mem_singleton] at hx;subst hx;rfl) rfl (by rw [Nat.zero_add];exact (Ba (by rw [List.length_set,BY];omega)).trans (congrArg some (Dx (by omega) (by omega)))) rfl
   clear olf ol0 ol1;dsimp only [ol2];clear ol2;repeat (first |refine Ab ?_ |refine Ag ?_ |refine Ad ?_ |refine Am ?_ |refine AD Aa rfl (by omega) ?_ |refine Ae Aa rfl ?_)
   exact ⟨⟨j - 1,swp d j (j - 1)⟩,⟨by dsimp only;omega,by dsimp only;omega,hX⟩,(by dsimp only;repeat (first |exact As.nil |refine As.cons rfl ?_ |refine As.cons_int rfl (by omega) ?_)),fun w' hw=>hw,by dsimp only;omega⟩
 clear hX hd;rintro d' ⟨hd1,hd⟩;rw [<-hd1] at hR;clear hd1 X d;obtain ⟨d,rfl⟩:∃ d,d=d':=⟨_,rfl⟩;repeat (first |refine Ai ?_ |refine Ab ?_ |refine Ag ?_ |refine AD Aa rfl (by omega) ?_ |refine Ae Aa rfl ?_)
 obtain ⟨X,hX⟩:∃ X,X=fixUp BC b k d:=⟨_,rfl⟩;rw [<-hX] at hR;refine Ca ?_;refine BN (ι:=Array Int) (fun d'=>d'=X/\d'.size=n) (fun _=>[(0,.slice (some ⟨g,0,none⟩) n c),(1,.int .i64 (a:Int)),(2,.int .i64 (b:Int)),(7,.int .i64 (k:Int)),(8,.int .i64 z)]) (fun d'=>uE g 32 d' junk::rest) ?_ ?_
 ·unfold fixUp at hX;refine Ak rfl (fun hc3=>?_) (fun hc3=>?_);rotate_left
  ·rw [if_neg (by omega)] at hX;repeat (first |refine Ad ?_ |refine Ao ?_)
   exact ⟨d,⟨hX.symm,hd⟩,by repeat (first |exact As.nil |refine As.cons rfl ?_),fun w' hw=>hw⟩
  rw [if_pos (by omega)] at hX;repeat (first |refine Ai ?_ |refine Ab ?_ |refine Ag ?_ |refine AD Aa rfl (by omega) ?_ |refine Ae Aa rfl ?_)
  refine Aq ?_;refine AM (ι:=WD) (fun t=>[(0,.slice (some ⟨g,0,none⟩) n c),(1,.int .i64 (a:Int)),(2,.int .i64 (b:Int)),(7,.int .i64 (k:Int)),(8,.int .i64 z),(10,.int .i64 (t.i:Int))]) (fun t=>uE g 32 t.d junk::rest) (fun t=>1 <= t.i/\t.d.size=n/\X=shiftUp BC b t.i t.d) (fun t=>b - t.i) ⟨k + 1,d⟩ ⟨by dsimp only;omega,hd,hX⟩ (by dsimp only;repeat (first |exact As.nil |refine As.cons rfl ?_)) (fun w' hw=>hw) ?_;clear hX;rintro ⟨j,d⟩ ⟨hj,hd,hX⟩;dsimp only at hj hd hX ⊢;by_cases hc:j < b;rotate_left
  ·rw [Og (.inl (by omega))] at hX;subst hX;repeat (first |refine Ai ?_ |refine Ab ?_ |refine Ag ?_ |refine Ae Aa rfl ?_)
   refine Ak rfl (fun h=>absurd h (by omega)) (fun _=>?_);repeat (first |refine Ad ?_ |refine AB ?_ |refine Al ?_ |refine AH ?_)
   exact ⟨X,⟨rfl,hd⟩,by repeat (first |exact As.nil |refine As.cons rfl ?_),fun w' hw=>hw⟩
  cases hb:BC d[j]! d[j - 1]! with
  |false=>
   rw [Og (.inr hb)] at hX;subst hX;repeat (first |refine Ai ?_ |refine Ab ?_ |refine Ag ?_ |refine Ae Aa rfl ?_)
   refine Ak rfl (fun _=>?_) (fun h=>absurd (by omega) h);repeat (first |refine A5 (by kernel_rfl) (by kernel_rfl) ?_ |refine Ah Aa rfl ?_ |refine Ai ?_ |refine Aq ?_ |refine Ad ?_ |refine Ao ?_)
   refine Bx (Ay Aa rfl rfl rfl rfl rfl rfl rfl (j:=j) (by omega) (by omega)) ?_;refine Av Aa rfl rfl (v:=.int .u64 X[j]!) (fun w' hw=>Bu hw (AJ (by omega))) ?_;repeat (first |refine BD Aa rfl (by omega) ?_ |refine Ah Aa rfl ?_)
   refine Bx (Ay Aa rfl rfl rfl rfl rfl rfl rfl (j:=(j - 1)) (by omega) (by omega)) ?_;refine Av Aa rfl rfl (v:=.int .u64 X[(j - 1)]!) (fun w' hw=>Bu hw (AJ (by omega))) ?_;skip;refine Bi rfl Tryz.call106 (v:=.bool false) (fun w' vs hw' h=>by obtain ⟨u1,_,rfl,rfl,u2,_,rfl,rfl,rfl⟩:=h;exact B8 hb w') ?_;repeat (first |refine AN rfl ?_ |refine Ah Aa rfl ?_)
   refine AX rfl ?_;repeat (first |refine Al ?_ |refine AH ?_)
   refine Cx rfl ?_;repeat (first |refine Ad ?_ |refine AB ?_ |refine Al ?_)
   exact ⟨X,⟨rfl,hd⟩,by repeat (first |exact As.nil |refine As.cons rfl ?_),fun w' hw=>hw⟩
  |true=>
   rw [SA hc hb] at hX;repeat (first |refine Ai ?_ |refine Ab ?_ |refine Ag ?_ |refine Ae Aa rfl ?_)
   refine Ak rfl (fun _=>?_) (fun h=>absurd (by omega) h);repeat (first |refine A5 (by kernel_rfl) (by kernel_rfl) ?_ |refine Ah Aa rfl ?_ |refine Ai ?_ |refine Aq ?_ |refine Ad ?_ |refine Ao ?_)
   refine Bx (Ay Aa rfl rfl rfl rfl rfl rfl rfl (j:=j) (by omega) (by omega)) ?_;refine Av Aa rfl rfl (v:=.int .u64 d[j]!) (fun w' hw=>Bu hw (AJ (by omega))) ?_;repeat (first |refine BD Aa rfl (by omega) ?_ |refine Ah Aa rfl ?_)
   refine Bx (Ay Aa rfl rfl rfl rfl rfl rfl rfl (j:=(j - 1)) (by omega) (by omega)) ?_;refine Av Aa rfl rfl (v:=.int .u64 d[(j - 1)]!) (fun w' hw=>Bu hw (AJ (by omega))) ?_;skip;refine Bi rfl Tryz.call106 (v:=.bool true) (fun w' vs hw' h=>by obtain ⟨u1,_,rfl,rfl,u2,_,rfl,rfl,rfl⟩:=h;exact B8 hb w') ?_;repeat (first |refine AN rfl ?_ |refine Ah Aa rfl ?_)
   refine AG rfl ?_;repeat (first |refine Ao ?_ |refine Ad ?_)
   have hs:=Cm d j (j - 1)
   let ol0:OL:=uE g 32 d junk::rest
   let ol1:OL:=.blk g (.cells ⟨(uA d junk).set j (.int .u64 d[(j - 1)]!)⟩ 32 (0,0)) true::rest
   let ol2:OL:=uE g 32 (swp d j (j - 1)) junk::rest
   let olf:(Nat->Bool)->OL:=fun L=>match L 17 with
    |true=>ol2
    |false=>match L 15 with
     |true=>ol1
     |false=>ol0
   refine Ca ?_;refine Ci (by kernel_rfl) (by kernel_rfl) [.slice (some ⟨g,0,none⟩) n c,.int .i64 (j:Int),.slice (some ⟨g,0,none⟩) n c,.int .i64 (j:Int),.int .i64 ((j:Int) - 1),.slice (some ⟨g,0,none⟩) n c,.int .i64 (j:Int),.int .i64 ((j:Int) - 1),.pointer (some ⟨g,0 + (j - 1),none⟩),.int .u64 d[(j - 1)]!,.slice (some ⟨g,0,none⟩) n c,.int .i64 (j:Int),.pointer (some ⟨g,0 + j,none⟩),.int .u64 d[j]!,.pointer (some ⟨g,0 + j,none⟩),undef,.pointer (some ⟨g,0 + (j - 1),none⟩),undef] rfl olf rfl ?_ (l':=[(0,.slice (some ⟨g,0,none⟩) n c),(1,.int .i64 (a:Int)),(2,.int .i64 (b:Int)),(7,.int .i64 (k:Int)),(8,.int .i64 z),(10,.int .i64 (j:Int))]) (ol':=ol2) (fun L h=>by simp only [olf,h 17 (by decide)]) (by repeat (first |exact Bc.nil |refine Bc.cons rfl ?_)) ?_
   ·refine ⟨?_,?_,?_,?_,?_,?_,?_,?_,?_,?_,?_,?_,?_,?_,?_,?_,?_,?_,trivial⟩
    ·exact fun L hc hl hp=>AK.ofD rfl (Ah Aa rfl Aj)
    ·exact fun L hc hl hp=>AK.ofD rfl (Ah Aa rfl Aj)
    ·exact fun L hc hl hp=>AK.ofD rfl (Ah Aa rfl Aj)
    ·exact fun L hc hl hp=>AK.ofD rfl (Ah Aa rfl Aj)
    ·exact fun L hc hl hp=>AK.ofD rfl (BD Aa rfl (by omega) Aj)
    ·exact fun L hc hl hp=>AK.ofD rfl (Ah Aa rfl Aj)
    ·exact fun L hc hl hp=>AK.ofD rfl (Ah Aa rfl Aj)
    ·exact fun L hc hl hp=>AK.ofD rfl (BD Aa rfl (by omega) Aj)
    ·exact fun L hc hl hp=>AK.ofD rfl (Bx (Ay Aa rfl rfl rfl rfl rfl rfl rfl (j:=(j - 1)) (by omega) (by omega)) Aj)
    ·intro L hc hl hp;have h15:=At hc (j:=15) rfl ⟨9,.data⟩ (by simp) rfl hl;have h17:=At hc (j:=17) rfl ⟨9,.phase⟩ (by simp) rfl hl
     have e1:olf L=ol0:=by simp only [olf,h15,h17]
     have e2:olf (add L 9)=ol0:=by simp [olf,add,h15,h17]
     rw [e1,e2];exact AK.ofD rfl (Av Aa (v:=.int .u64 d[(j - 1)]!) rfl rfl (fun w' hw=>Bu hw (AJ (by omega))) Aj)
    ·exact fun L hc hl hp=>AK.ofD rfl (Ah Aa rfl Aj)
    ·exact fun L hc hl hp=>AK.ofD rfl (Ah Aa rfl Aj)
    ·exact fun L hc hl hp=>AK.ofD rfl (Bx (Ay Aa rfl rfl rfl rfl rfl rfl rfl (j:=j) (by omega) (by omega)) Aj)
    ·intro L hc hl hp;have h15:=At hc (j:=15) rfl ⟨13,.phase⟩ (by simp) rfl hl;have h17:=At hc (j:=17) rfl ⟨13,.data⟩ (by simp) rfl hl
     have e1:olf L=ol0:=by simp only [olf,h15,h17]
     have e2:olf (add L 13)=ol0:=by simp [olf,add,h15,h17]
     rw [e1,e2];exact AK.ofD rfl (Av Aa (v:=.int .u64 d[j]!) rfl rfl (fun w' hw=>Bu hw (AJ (by omega))) Aj)
    ·exact fun L hc hl hp=>AK.ofD rfl (Bx (Ay Aa rfl rfl rfl rfl rfl rfl rfl (j:=j) (by omega) (by omega)) Aj)
    ·intro L hc hl hp;have h17:=At hc (j:=17) rfl ⟨15,.chain⟩ (by simp) rfl hl
     have e1:olf L=ol0:=by simp only [olf,hl,h17]
     have e2:olf (add L 15)=ol1:=by simp [olf,add,h17]
     rw [e1,e2];exact AK.store Aa 0 rfl rfl (by intro x hx;rw [List.mem_singleton] at hx;subst hx;rfl) rfl (by rw [Nat.zero_add];exact Ba (by rw [BY];omega)) rfl
    ·exact fun L hc hl hp=>AK.ofD rfl (Bx (Ay Aa rfl rfl rfl rfl rfl rfl rfl (j:=(j - 1)) (by omega) (by omega)) Aj)
    ·intro L hc hl hp;have h15:L 15=true:=hp ⟨15,.chain⟩ (by simp) rfl
     have e1:olf L=ol1:=by simp only [olf,h15,hl]
     have e2:olf (add L 17)=ol2:=by simp [olf,add]
     rw [e1,e2];exact AK.store Aa 0 rfl rfl (by intro x hx;rw [List.mem_singleton] at hx;subst hx;rfl) rfl (by rw [Nat.zero_add];exact (Ba (by rw [List.length_set,BY];omega)).trans (congrArg some (Dx (by omega) (by omega)))) rfl
   clear olf ol0 ol1;dsimp only [ol2];clear ol2;repeat (first |refine Ab ?_ |refine Ag ?_ |refine Ad ?_ |refine Am ?_ |refine AD Aa rfl (by omega) ?_ |refine Ae Aa rfl ?_)
   exact ⟨⟨j + 1,swp d j (j - 1)⟩,⟨by dsimp only;omega,by dsimp only;omega,hX⟩,(by dsimp only;repeat (first |exact As.nil |refine As.cons rfl ?_)),fun w' hw=>hw,by dsimp only;omega⟩
 clear hX hd;rintro d' ⟨hd1,hd⟩;rw [<-hd1] at hR;repeat (first |refine Ab ?_ |refine Ag ?_ |refine Ad ?_ |refine Am ?_ |refine AD Aa rfl (by omega) ?_ |refine Ae Aa rfl ?_)
 exact ⟨⟨s,k,d'⟩,⟨by dsimp only;omega,by dsimp only;omega,by dsimp only;omega,hd,hR⟩,(by dsimp only;repeat (first |exact As.nil |refine As.cons rfl ?_ |refine As.cons_int rfl (by omega) ?_)),fun w' hw=>hw,by dsimp only;omega⟩
open Go.Sort
theorem WF {P:Program} {tb:EU} {n:Nat} {w0:World} {all:Array Oper} {os:List Oper} {o:Oper} {l:FL} {ol:OL} {K:FL->OL->Prop} {Q:B3} {d:Nat} (ht:AW P tb) {t:TypeId} {x y:Operand} {k:IntKind} {i:Int} {ti:TI} {s:ByteArray} (Pb:Nat->Nat->Bool) (hs:BV n all (AP l) o=some (d,.index t x y)) (hx:ev (AP l) x=some (.string s)) (hy:ev (AP l) y=some (.int k i)) (hti:tl tb t=some ti) (hd:ti.desc= .string) (h0:0 <= i) (hi:i < 256)
 (hP:(List.range 256).all (fun j=>match s[j]? with |some b=>Pb j b.toNat |none=>false)=true) (kk:∀ b:Nat,b < 256->Pb i.toNat b=true->S P n w0 all os ((d,.int .u8 (b:Int))::l) ol K Q):S P n w0 all (o::os) l ol K Q:=by
 have h1:=List.all_eq_true.1 hP i.toNat (List.mem_range.2 (by omega))
 cases hb:s[i.toNat]? with
 |none=>rw [hb] at h1;cases h1
 |some b=>
  rw [hb] at h1;refine BE (v:=.int .u8 (b.toNat:Int)) (Gc hs fun ac w hrd hh hop=>?_) (kk b.toNat b.toNat_lt h1);have h2:=ht.under hti w;rw [hd] at h2;unfold execOp;simp [hop,hrd.ev hx,hrd.ev hy,Instr.index,asIntOf,h2,h0,hb]
theorem QN {x:Int} (hx:0 <= x/\x < 65536) (w:World):Calls Tryz.prog 110 #[.int .u64 x] w fun e w'=>∃ L:Nat,e= .returned (.int .i64 (L:Int))/\L <= 16/\(0 < x->(2:Int) ^ L <= 2 * x)/\Below w.heap.size w w':=by
 refine BZ Tryz.func110 rfl rfl (Hp.refl w) ?_;repeat (first |refine Ai ?_ |refine Ab ?_ |refine Ag ?_ |refine Ae Aa rfl ?_)
 refine Ak rfl (fun h=>absurd h (by omega)) (fun _=>?_);repeat (first |refine Ai ?_ |refine Ab ?_ |refine Ag ?_ |refine Ad ?_ |refine Ao ?_ |refine Ae Aa rfl ?_)
 refine Ak rfl (fun h=>absurd h (by omega)) (fun _=>?_);repeat (first |refine Ai ?_ |refine Ab ?_ |refine Ag ?_ |refine Ad ?_ |refine Ao ?_ |refine Ae Aa rfl ?_)
 refine BN (ι:=Int × Nat) (fun j=>0 <= j.1/\j.1 < 256/\j.2 <= 8/\(0 < x->0 < j.1/\(2:Int) ^ j.2 * j.1 <= x)) (fun j=>[(0,.int .u64 j.1),(2,.int .i64 (j.2:Int))]) (fun _=>[]) ?_ ?_
 ·refine Ak rfl (fun h=>?_) (fun h=>?_)
  ·repeat (first |refine Ai ?_ |refine Ab ?_ |refine Ae Aa rfl ?_)
   refine BE ((O0 rfl rfl rfl (by decide)).eq (congrArg (Value.int .u64) (show x / 2 ^ ((8:Int).toNat)=x / 256 from rfl))) ?_;repeat (first |refine Ab ?_ |refine Ag ?_ |refine AD Aa rfl (by omega) ?_ |refine Ae Aa rfl ?_)
   exact ⟨(x / 256,8),⟨by dsimp only;omega,by dsimp only;omega,Nat.le_refl _,fun _=>⟨by dsimp only;omega,by show (256:Int) * (x / 256) <= x;omega⟩⟩,by repeat (first |exact As.nil |refine As.cons rfl ?_),fun w' hw=>hw⟩
  ·repeat (first |refine Ad ?_ |refine Ao ?_)
   exact ⟨(x,0),⟨hx.1,by dsimp only;omega,Nat.zero_le _,fun h0=>⟨h0,by show (1:Int) * x <= x;omega⟩⟩,by repeat (first |exact As.nil |refine As.cons rfl ?_),fun w' hw=>hw⟩
 rintro ⟨y,m⟩ ⟨hy0,hy1,hm,hym⟩;dsimp only at hy0 hy1 hm hym ⊢;repeat (first |refine Ai ?_ |refine Ab ?_ |refine Ae Aa rfl ?_)
 refine Co 21 (v':=.int .u8 y) rfl (congrArg (Value.int .u8) (by rw [IntKind.wrap_u8];omega)) ?_;refine WF Aa (fun i b=>decide (b <= 8) && (decide (i=0) || decide (2 ^ b <= 2 * i))) rfl rfl rfl rfl rfl hy0 hy1 (by kernel_rfl) (fun b hb1 hb2=>?_);rw [Bool.and_eq_true,decide_eq_true_eq,Bool.or_eq_true,decide_eq_true_eq,decide_eq_true_eq] at hb2;repeat (first |refine Ag ?_ |refine AC ?_ |refine AD Aa rfl (by omega) ?_ |refine Ae Aa rfl ?_)
 refine AZ rfl rfl (fun w' hw=>⟨m + b,rfl,by omega,fun h0=>?_,hw.below (by repeat (first |exact Ar))⟩);obtain ⟨h1,h2⟩:=hym h0;have h3:2 ^ b <= 2 * y.toNat:=hb2.2.resolve_left (by omega)
 have h4:(2:Int) ^ b <= 2 * y:=by
  have:=Int.ofNat_le.2 h3;rw [Int.natCast_pow] at this
  have h5:((2 * y.toNat:Nat):Int)=2 * y:=by omega
  rw [h5] at this;exact this
 rw [Int.pow_add];refine Int.le_trans (Int.mul_le_mul_of_nonneg_left h4 (Int.le_of_lt (Int.pow_pos (by decide)))) ?_;rw [show (2:Int) ^ m * (2 * y)=2 * (2 ^ m * y) by rw [<-Int.mul_assoc,Int.mul_comm (2 ^ m) 2,Int.mul_assoc]];omega
theorem NA {x:Int} (hx:0 <= x/\x < 65536) (w:World):Calls Tryz.prog 96 #[.int .u64 x] w fun e w'=>∃ L:Nat,e= .returned (.int .i64 (L:Int))/\L <= 16/\(0 < x->(2:Int) ^ L <= 2 * x)/\Below w.heap.size w w':=by
 refine BZ Tryz.func96 rfl rfl (Hp.refl w) ?_;repeat (first |refine Ai ?_ |refine Ab ?_ |refine Ag ?_ |refine Ad ?_ |refine Ao ?_ |refine AG rfl ?_ |refine Ae Aa rfl ?_)
 refine GY (fun v=>∃ L:Nat,v= .int .i64 (L:Int)/\L <= 16/\(0 < x->(2:Int) ^ L <= 2 * x)) rfl Tryz.call110 (fun w1 h1=>(QN hx w1).mono fun e w' ⟨L,e1,e2,e3,e4⟩=>⟨_,e1,e4,L,rfl,e2,e3⟩) (fun v hv=>?_);obtain ⟨L,rfl,h1,h2⟩:=hv;repeat (first |refine Ag ?_ |refine AC ?_ |refine Ae Aa rfl ?_)
 exact AZ rfl rfl (fun w' hw=>⟨L,rfl,h1,h2,hw.below (by repeat (first |exact Ar))⟩)
theorem S4 {x:Int} (hx:0 < x/\x < 65536) (w:World):Calls Tryz.prog 112 #[.int .i64 x] w fun e w'=>∃ m:Nat,e= .returned (.int .u64 (m:Int))/\1 <= m/\(m:Int) <= 2 * x/\Below w.heap.size w w':=by
 refine BZ Tryz.func112 rfl rfl (Hp.refl w) ?_;repeat (first |refine Ai ?_ |refine Ab ?_ |refine Ag ?_ |refine D2 Aa rfl (by omega) ?_ |refine Ae Aa rfl ?_)
 refine GY (fun v=>∃ L:Nat,v= .int .i64 (L:Int)/\L <= 16/\(0 < x->(2:Int) ^ L <= 2 * x)) rfl Tryz.call96 (fun w1 h1=>(NA ⟨by omega,hx.2⟩ w1).mono fun e w' ⟨L,e1,e2,e3,e4⟩=>⟨_,e1,e4,L,rfl,e2,e3⟩) (fun v hv=>?_);obtain ⟨L,rfl,h1,h2⟩:=hv;have h3:=h2 hx.1;have h4:(2:Int) ^ L=((2 ^ L:Nat):Int):=(Int.natCast_pow 2 L).symm;have h5:1 <= 2 ^ L:=Nat.one_le_two_pow;refine BE ((O2 rfl rfl rfl (by refine ⟨by omega,?_⟩;show (L:Int) <= 64;omega)).eq (congrArg (Value.int .u64) (show IntKind.u64.wrap (1 * 2 ^ ((L:Int).toNat))=((2 ^ L:Nat):Int) by rw [Int.toNat_natCast,Int.one_mul,IntKind.wrap_u64,h4];omega))) ?_;repeat (first |refine Ag ?_ |refine AC ?_ |refine Ae Aa rfl ?_)
 exact AZ rfl rfl (fun w' hw=>⟨2 ^ L,rfl,h5,by omega,hw.below (by repeat (first |exact Ar))⟩)
abbrev UN (b:Nat) (r:Int):HE:=.blk b (.cells ⟨[.int .u64 r]⟩ 201 (0,0)) true
theorem Ly {a b:Nat} (ha:a < 18446744073709551616) (hb:b < 18446744073709551616):∃ c:Nat,c < 18446744073709551616/\bits .xor .u64 (a:Int) (b:Int)=(c:Int):=⟨_,Nat.xor_lt_two_pow (n:=64) ha hb,bits_xor_u64_nat a b ha hb⟩
theorem Mp (e:Int):∃ c:Nat,c < 18446744073709551616/\IntKind.u64.wrap e=(c:Int):=⟨(e % 18446744073709551616).toNat,by omega,by rw [IntKind.wrap_u64];omega⟩
set_option maxHeartbeats 1000000 in
theorem S5 {w0 w:World} {b:Nat} {rest:OL} (r:Nat) (hr:r < 18446744073709551616) (h:Hp w0 w (UN b r::rest)):Calls Tryz.prog 113 #[.pointer (some ⟨b,0,none⟩)] w fun e w'=>∃ r':Nat,e= .returned (.int .u64 (r':Int))/\r' < 18446744073709551616/\Hp w0 w' (UN b r'::rest):=by
 refine E6 Tryz.func113 rfl rfl h ?_;repeat (first |refine Ai ?_ |refine Ab ?_ |refine Ag ?_ |refine Ae Aa rfl ?_)
 refine Cd (by kernel_rfl) 9 (by kernel_rfl) (by kernel_rfl) ?_;repeat (first |refine Ah Aa rfl ?_ |refine AE Aa 0 rfl rfl rfl ?_)
 obtain ⟨c1,hb1,e1⟩:=Mp ((r:Int) * 2 ^ ((13:Int).toNat));obtain ⟨r1,hx1,e2⟩:=Ly hr hb1;refine Bx (O2 rfl rfl rfl (by decide)) ?_;refine BX 9 (v':=.int .u64 (c1:Int)) rfl (congrArg (Value.int .u64) e1) ?_;refine FM Aa rfl (congrArg (Value.int .u64) e2) ?_;repeat (first |refine AN rfl ?_ |refine Ah Aa rfl ?_ |refine Ai ?_ |refine Ag ?_ |refine Ax Aa 0 rfl rfl rfl rfl rfl rfl ?_)
 refine Cd (by kernel_rfl) 9 (by kernel_rfl) (by kernel_rfl) ?_;repeat (first |refine Ah Aa rfl ?_ |refine AE Aa 0 rfl rfl rfl ?_)
 obtain ⟨r2,hx2,e3⟩:=Ly hx1 (by omega:r1 / 128 < 18446744073709551616);refine Bx (O0 rfl rfl rfl (by decide)) ?_;refine BX 18 (v':=.int .u64 ((r1 / 128:Nat):Int)) rfl rfl ?_;refine FM Aa rfl (congrArg (Value.int .u64) e3) ?_;repeat (first |refine AN rfl ?_ |refine Ah Aa rfl ?_ |refine Ai ?_ |refine Ag ?_ |refine Ax Aa 0 rfl rfl rfl rfl rfl rfl ?_)
 refine Cd (by kernel_rfl) 9 (by kernel_rfl) (by kernel_rfl) ?_;repeat (first |refine Ah Aa rfl ?_ |refine AE Aa 0 rfl rfl rfl ?_)
 obtain ⟨c3,hb3,e4⟩:=Mp ((r2:Int) * 2 ^ ((17:Int).toNat));obtain ⟨r3,hx3,e5⟩:=Ly hx2 hb3;refine Bx (O2 rfl rfl rfl (by decide)) ?_;refine BX 27 (v':=.int .u64 (c3:Int)) rfl (congrArg (Value.int .u64) e4) ?_;refine FM Aa rfl (congrArg (Value.int .u64) e5) ?_;repeat (first |refine AN rfl ?_ |refine Ah Aa rfl ?_ |refine Ai ?_ |refine Ab ?_ |refine Ag ?_ |refine AC ?_ |refine Ae Aa rfl ?_ |refine An Aa 0 rfl rfl rfl ?_ |refine Ax Aa 0 rfl rfl rfl rfl rfl rfl ?_)
 exact AZ rfl rfl (fun w' hw=>⟨r3,rfl,hx3,hw⟩)
open Go.Sort
set_option maxHeartbeats 1000000 in
theorem Iy {w0 w:World} {g c n bs:Nat} {d:Array Int} {junk:List Value} {rest:OL} {s:Int} (x y:Nat) (h:Hp w0 w (uE g 32 d junk::.blk bs (.cells ⟨[.int .i64 s]⟩ 3 (0,0)) true::rest)) (hd:d.size=n) (hx:x < n) (hy:y < n):Calls Tryz.prog 117 #[.slice (some ⟨g,0,none⟩) n c,.int .i64 (x:Int),.int .i64 (y:Int),.pointer (some ⟨bs,0,none⟩)] w fun e w'=>∃ (s':Int) (p q:Nat),e= .returned (.tuple #[.int .i64 (p:Int),.int .i64 (q:Int)])/\(p=x/\q=y \/ p=y/\q=x)/\Hp w0 w' (uE g 32 d junk::.blk bs (.cells ⟨[.int .i64 s']⟩ 3 (0,0)) true::rest):=by
 refine GO Tryz.func117 rfl rfl h ?_
 cases hb:BC d[y]! d[x]! with
 |true=>
  repeat (first |refine A5 (by kernel_rfl) (by kernel_rfl) ?_ |refine Ah Aa rfl ?_ |refine Ai ?_ |refine Ab ?_ |refine Ag ?_ |refine Ae Aa rfl ?_)
  refine Bx (Ay Aa rfl rfl rfl rfl rfl rfl rfl (j:=y) (by omega) (by omega)) ?_;refine Av Aa rfl rfl (v:=.int .u64 d[y]!) (fun w' hw=>Bu hw (AJ (by omega))) ?_;repeat (first |refine Ah Aa rfl ?_)
  refine Bx (Ay Aa rfl rfl rfl rfl rfl rfl rfl (j:=x) (by omega) (by omega)) ?_;refine Av Aa rfl rfl (v:=.int .u64 d[x]!) (fun w' hw=>Bu hw (AJ (by omega))) ?_;skip;refine Bi rfl Tryz.call106 (v:=.bool true) (fun w' vs hw' h=>by obtain ⟨u1,_,rfl,rfl,u2,_,rfl,rfl,rfl⟩:=h;exact B8 hb w') ?_;repeat (first |refine AN rfl ?_)
  refine AX rfl ?_;repeat (first |refine Ai ?_ |refine Ab ?_ |refine Ag ?_ |refine AI ?_ |refine AC ?_ |refine Ae Aa rfl ?_ |refine An Aa 1 rfl rfl rfl ?_ |refine Ax Aa 1 rfl rfl rfl rfl rfl rfl ?_)
  exact Ey rfl rfl rfl (fun w' hw=>⟨_,y,x,rfl,.inr ⟨rfl,rfl⟩,hw⟩)
 |false=>
  repeat (first |refine A5 (by kernel_rfl) (by kernel_rfl) ?_ |refine Ah Aa rfl ?_ |refine Ai ?_ |refine Ab ?_ |refine Ag ?_ |refine Ae Aa rfl ?_)
  refine Bx (Ay Aa rfl rfl rfl rfl rfl rfl rfl (j:=y) (by omega) (by omega)) ?_;refine Av Aa rfl rfl (v:=.int .u64 d[y]!) (fun w' hw=>Bu hw (AJ (by omega))) ?_;repeat (first |refine Ah Aa rfl ?_)
  refine Bx (Ay Aa rfl rfl rfl rfl rfl rfl rfl (j:=x) (by omega) (by omega)) ?_;refine Av Aa rfl rfl (v:=.int .u64 d[x]!) (fun w' hw=>Bu hw (AJ (by omega))) ?_;skip;refine Bi rfl Tryz.call106 (v:=.bool false) (fun w' vs hw' h=>by obtain ⟨u1,_,rfl,rfl,u2,_,rfl,rfl,rfl⟩:=h;exact B8 hb w') ?_;repeat (first |refine AN rfl ?_)
  refine AG rfl ?_;repeat (first |refine Ai ?_ |refine Ab ?_ |refine Ag ?_ |refine Ad ?_ |refine Ao ?_ |refine AC ?_ |refine Ae Aa rfl ?_)
  exact Ey rfl rfl rfl (fun w' hw=>⟨_,x,y,rfl,.inl ⟨rfl,rfl⟩,hw⟩)
theorem KY {w0 w:World} {g c n bs:Nat} {d:Array Int} {junk:List Value} {rest:OL} {s:Int} (x y z:Nat) (h:Hp w0 w (uE g 32 d junk::.blk bs (.cells ⟨[.int .i64 s]⟩ 3 (0,0)) true::rest)) (hd:d.size=n) (hx:x < n) (hy:y < n) (hz:z < n):Calls Tryz.prog 115 #[.slice (some ⟨g,0,none⟩) n c,.int .i64 (x:Int),.int .i64 (y:Int),.int .i64 (z:Int),.pointer (some ⟨bs,0,none⟩)] w fun e w'=>∃ (s':Int) (m:Nat),e= .returned (.int .i64 (m:Int))/\(m=x \/ m=y \/ m=z)/\Hp w0 w' (uE g 32 d junk::.blk bs (.cells ⟨[.int .i64 s']⟩ 3 (0,0)) true::rest):=by
 refine Uq Tryz.func115 rfl rfl h ?_;repeat (first |refine Ai ?_ |refine Ab ?_ |refine Ag ?_ |refine Ae Aa rfl ?_)
 refine A7 rfl Tryz.call117 (fun w1 h1=>(Iy x y h1 hd hx hy).mono fun e w' ⟨s1,p1,q1,e1,f1,h2⟩=>⟨_,_,e1,h2,?_⟩);repeat (first |refine Ai ?_ |refine Ab ?_ |refine Ag ?_ |refine Ae Aa rfl ?_)
 refine A7 rfl Tryz.call117 (fun w1 h1=>(Iy q1 z h1 hd (by omega) hz).mono fun e w' ⟨s2,p2,q2,e2,f2,h2⟩=>⟨_,_,e2,h2,?_⟩);repeat (first |refine Ai ?_ |refine Ab ?_ |refine Ag ?_ |refine Ae Aa rfl ?_)
 refine A7 rfl Tryz.call117 (fun w1 h1=>(Iy p1 p2 h1 hd (by omega) (by omega)).mono fun e w' ⟨s3,p3,q3,e3,f3,h2⟩=>⟨_,_,e3,h2,?_⟩);repeat (first |refine Ai ?_ |refine Ab ?_ |refine Ag ?_ |refine AC ?_ |refine Ae Aa rfl ?_)
 exact AZ rfl rfl (fun w' hw=>⟨_,q3,rfl,by omega,hw⟩)
theorem ID {w0 w:World} {g c n bs:Nat} {d:Array Int} {junk:List Value} {rest:OL} {s:Int} (x:Nat) (h:Hp w0 w (uE g 32 d junk::.blk bs (.cells ⟨[.int .i64 s]⟩ 3 (0,0)) true::rest)) (hd:d.size=n) (hx:1 <= x) (hx2:x + 1 < n) (hm:n <= 1152921504606846976):Calls Tryz.prog 114 #[.slice (some ⟨g,0,none⟩) n c,.int .i64 (x:Int),.pointer (some ⟨bs,0,none⟩)] w fun e w'=>∃ (s':Int) (m:Nat),e= .returned (.int .i64 (m:Int))/\x <= m + 1/\m <= x + 1/\Hp w0 w' (uE g 32 d junk::.blk bs (.cells ⟨[.int .i64 s']⟩ 3 (0,0)) true::rest):=by
 refine Ef Tryz.func114 rfl rfl h ?_;repeat (first |refine Ai ?_ |refine Ab ?_ |refine Ag ?_ |refine AD Aa rfl (by omega) ?_ |refine Ae Aa rfl ?_)
 refine Co 9 (v':=.int .i64 ((x - 1:Nat):Int)) rfl (congrArg (Value.int .i64) (by omega)) ?_;refine Co 12 (v':=.int .i64 ((x + 1:Nat):Int)) rfl (congrArg (Value.int .i64) (by omega)) ?_;refine A7 rfl Tryz.call115 (fun w1 h1=>(KY (x - 1) x (x + 1) h1 hd (by omega) (by omega) (by omega)).mono fun e w' ⟨s1,m,e1,f1,h2⟩=>⟨_,_,e1,h2,?_⟩);repeat (first |refine Ag ?_ |refine AC ?_ |refine Ae Aa rfl ?_)
 exact AZ rfl rfl (fun w' hw=>⟨_,m,rfl,by omega,by omega,hw⟩)
set_option maxHeartbeats 4000000 in
theorem Qu {w0 w:World} {g c n:Nat} {d:Array Int} {junk:List Value} {rest:OL} (a b:Nat) (h:Hp w0 w (uE g 32 d junk::rest)) (hd:d.size=n) (hab:a < b) (hb:b <= n) (hm:n <= 65535):Calls Tryz.prog 103 #[.slice (some ⟨g,0,none⟩) n c,.int .i64 (a:Int),.int .i64 (b:Int)] w fun e w'=>∃ (p:Nat) (t:Int),e= .returned (.tuple #[.int .i64 (p:Int),.int .i64 t])/\a <= p/\p < b/\Hp w0 w' (uE g 32 d junk::rest):=by
 refine Ef Tryz.func103 rfl rfl h ?_;obtain ⟨l,hl⟩:∃ l,l=b - a:=⟨_,rfl⟩;obtain ⟨r,hr⟩:∃ r,r=l / 4:=⟨_,rfl⟩;repeat (first |refine Ai ?_ |refine Ab ?_ |refine Ag ?_ |refine AD Aa rfl (by omega) ?_ |refine Ae Aa rfl ?_)
 refine Co 8 (v':=.int .i64 ((l:Nat):Int)) rfl (congrArg (Value.int .i64) (by omega)) ?_;refine AY Aa rfl (fun bs hbs=>?_);repeat (first |refine Ai ?_ |refine Ab ?_ |refine Ag ?_ |refine Ae Aa rfl ?_)
 refine BE (Hv rfl rfl rfl (by omega) (by omega) (fun e h1 h2=>IntWalk.i64_in _ (by omega))) ?_;refine Co 18 (v':=.int .i64 ((r:Nat):Int)) rfl (congrArg (Value.int .i64) (by omega)) ?_;repeat (first |refine Ai ?_ |refine Ab ?_ |refine Ag ?_ |refine AD Aa rfl (by omega) ?_ |refine Ae Aa rfl ?_)
 refine BE (Hv rfl rfl rfl (by omega) (by omega) (fun e h1 h2=>IntWalk.i64_in _ (by omega))) ?_;refine Co 23 (v':=.int .i64 ((r:Nat):Int)) rfl (congrArg (Value.int .i64) (by omega)) ?_;repeat (first |refine Ai ?_ |refine Ab ?_ |refine Ag ?_ |refine AD Aa rfl (by omega) ?_ |refine Ae Aa rfl ?_)
 refine BE (Hv rfl rfl rfl (by omega) (by omega) (fun e h1 h2=>IntWalk.i64_in _ (by omega))) ?_;refine Co 28 (v':=.int .i64 ((r:Nat):Int)) rfl (congrArg (Value.int .i64) (by omega)) ?_;repeat (first |refine Ai ?_ |refine Ab ?_ |refine Ag ?_ |refine AD Aa rfl (by omega) ?_ |refine Ae Aa rfl ?_)
 refine M6 (ι:=Unit) (fun _=>True) (fun _=>uE g 32 d junk::.blk bs (.cells ⟨[.int .i64 0]⟩ 3 (0,0)) true::rest) (fun w hw=>⟨(),trivial,hw.perm (List.Perm.swap _ _ _)⟩) (fun _ _=>?_);refine BN (ι:=Int × Nat) (fun j=>a <= j.2/\j.2 < b) (fun j=>[(9,.pointer (some ⟨bs,0,none⟩)),(11,.int .i64 (j.2:Int))]) (fun j=>uE g 32 d junk::.blk bs (.cells ⟨[.int .i64 j.1]⟩ 3 (0,0)) true::rest) ?_ ?_
 ·refine Ak rfl (fun h8=>?_) (fun h8=>?_);rotate_left
  ·repeat (first |refine Ad ?_ |refine Ao ?_)
   exact ⟨(0,a + r * 2),⟨by dsimp only;omega,by dsimp only;omega⟩,(by dsimp only;repeat (first |exact As.nil |refine As.cons rfl ?_)),fun w' hw=>hw⟩
  repeat (first |refine Ai ?_ |refine Ab ?_ |refine Ag ?_ |refine Ae Aa rfl ?_)
  refine BN (ι:=Int × Nat × Nat × Nat) (fun j=>a <= j.2.1/\j.2.1 < b/\a <= j.2.2.1/\j.2.2.1 < b/\a <= j.2.2.2/\j.2.2.2 < b) (fun j=>[(0,.slice (some ⟨g,0,none⟩) n c),(9,.pointer (some ⟨bs,0,none⟩)),(10,.int .i64 (j.2.1:Int)),(11,.int .i64 (j.2.2.1:Int)),(12,.int .i64 (j.2.2.2:Int))]) (fun j=>uE g 32 d junk::.blk bs (.cells ⟨[.int .i64 j.1]⟩ 3 (0,0)) true::rest) ?_ ?_
  ·refine Ak rfl (fun h50=>?_) (fun h50=>?_);rotate_left
   ·repeat (first |refine Ad ?_ |refine Ao ?_)
    exact ⟨(0,a + r,a + r * 2,a + r * 3),⟨by dsimp only;omega,by dsimp only;omega,by dsimp only;omega,by dsimp only;omega,by dsimp only;omega,by dsimp only;omega⟩,(by dsimp only;repeat (first |exact As.nil |refine As.cons rfl ?_ |refine As.cons_int rfl (by omega) ?_)),fun w' hw=>hw⟩
   repeat (first |refine Ai ?_ |refine Ab ?_ |refine Ae Aa rfl ?_)
   refine Co 36 (v':=.int .i64 ((a + r:Nat):Int)) rfl (congrArg (Value.int .i64) (by omega)) ?_;refine A7 rfl Tryz.call114 (fun w1 h1=>(ID (a + r) h1 hd (by omega) (by omega) (by omega)).mono fun e w' ⟨s1,m1,e1,f1,f2,h2⟩=>⟨_,_,e1,h2,?_⟩);repeat (first |refine Ai ?_ |refine Ab ?_ |refine Ag ?_ |refine Ae Aa rfl ?_)
   refine Co 39 (v':=.int .i64 ((a + r * 2:Nat):Int)) rfl (congrArg (Value.int .i64) (by omega)) ?_;refine A7 rfl Tryz.call114 (fun w1 h1=>(ID (a + r * 2) h1 hd (by omega) (by omega) (by omega)).mono fun e w' ⟨s2,m2,e1,f3,f4,h2⟩=>⟨_,_,e1,h2,?_⟩);repeat (first |refine Ab ?_ |refine Ag ?_ |refine Ae Aa rfl ?_)
   refine Co 42 (v':=.int .i64 ((a + r * 3:Nat):Int)) rfl (congrArg (Value.int .i64) (by omega)) ?_;refine A7 rfl Tryz.call114 (fun w1 h1=>(ID (a + r * 3) h1 hd (by omega) (by omega) (by omega)).mono fun e w' ⟨s3,m3,e1,f5,f6,h2⟩=>⟨_,_,e1,h2,?_⟩);repeat (first |refine Ag ?_ |refine Ae Aa rfl ?_)
   exact ⟨(s3,m1,m2,m3),⟨by dsimp only;omega,by dsimp only;omega,by dsimp only;omega,by dsimp only;omega,by dsimp only;omega,by dsimp only;omega⟩,(by dsimp only;repeat (first |exact As.nil |refine As.cons rfl ?_)),fun w' hw=>hw⟩
  rintro ⟨s1,m1,m2,m3⟩ ⟨f1,f2,f3,f4,f5,f6⟩;dsimp only at f1 f2 f3 f4 f5 f6 ⊢;repeat (first |refine Ab ?_ |refine Ae Aa rfl ?_)
  refine A7 rfl Tryz.call115 (fun w1 h1=>(KY m1 m2 m3 h1 hd (by omega) (by omega) (by omega)).mono fun e w' ⟨s4,m4,e1,f7,h2⟩=>⟨_,_,e1,h2,?_⟩);repeat (first |refine Ag ?_ |refine Ae Aa rfl ?_)
  exact ⟨(s4,m4),⟨by dsimp only;omega,by dsimp only;omega⟩,(by dsimp only;repeat (first |exact As.nil |refine As.cons rfl ?_)),fun w' hw=>hw⟩
 rintro ⟨s,p⟩ ⟨f1,f2⟩;dsimp only at f1 f2 ⊢;repeat (first |refine Ai ?_ |refine Ab ?_ |refine Aq ?_ |refine Ag ?_ |refine Ae Aa rfl ?_ |refine An Aa 1 rfl rfl rfl ?_)
 refine Ak rfl (fun _=>?_) (fun _=>?_)
 ·repeat (first |refine Ai ?_ |refine Ab ?_ |refine Ag ?_ |refine BQ ?_ |refine AC ?_ |refine Ae Aa rfl ?_)
  exact Ey rfl rfl rfl (fun w' hw=>⟨p,1,rfl,f1,f2,(hw.perm (List.Perm.swap _ _ _)).dropn hbs⟩)
 repeat (first |refine Ai ?_ |refine Ab ?_ |refine Ag ?_ |refine Ae Aa rfl ?_)
 refine Ak rfl (fun _=>?_) (fun _=>?_)
 ·repeat (first |refine Ai ?_ |refine Ab ?_ |refine Ag ?_ |refine BQ ?_ |refine AC ?_ |refine Ae Aa rfl ?_)
  exact Ey rfl rfl rfl (fun w' hw=>⟨p,2,rfl,f1,f2,(hw.perm (List.Perm.swap _ _ _)).dropn hbs⟩)
 repeat (first |refine Ai ?_ |refine Ab ?_ |refine Ag ?_ |refine BQ ?_ |refine AC ?_ |refine Ae Aa rfl ?_)
 exact Ey rfl rfl rfl (fun w' hw=>⟨p,0,rfl,f1,f2,(hw.perm (List.Perm.swap _ _ _)).dropn hbs⟩)
structure Yj where
 i:Nat
 z:Nat
 d:Array Int
set_option maxHeartbeats 4000000 in
theorem Rp {w0 w:World} {g c n:Nat} {d0:Array Int} {junk:List Value} {rest:OL} (a b:Nat) (h:Hp w0 w (uE g 32 d0 junk::rest)) (hn:d0.size=n) (hab:a <= b) (hb:b <= n) (hm:n <= 65535):Calls Tryz.prog 102 #[.slice (some ⟨g,0,none⟩) n c,.int .i64 (a:Int),.int .i64 (b:Int)] w fun e w'=>∃ d,e= .returned (.tuple #[])/\PermIn a b d0 d/\d.size=n/\Hp w0 w' (uE g 32 d junk::rest):=by
 refine Ef Tryz.func102 rfl rfl h ?_;obtain ⟨l,hl⟩:∃ l,l=b - a:=⟨_,rfl⟩;obtain ⟨r,hr⟩:∃ r,r=l / 4:=⟨_,rfl⟩;repeat (first |refine Ai ?_ |refine Ab ?_ |refine Ag ?_ |refine AD Aa rfl (by omega) ?_ |refine Ae Aa rfl ?_)
 refine Ca ?_;refine Ak rfl (fun h8=>?_) (fun h8=>?_);rotate_left
 ·repeat (first |refine Ad ?_ |refine Ao ?_)
  exact CM rfl (fun w' hw=>⟨d0,rfl,permIn_refl _ _ _,hn,hw⟩)
 refine Lo (l':=[(0,.slice (some ⟨g,0,none⟩) n c),(1,.int .i64 (a:Int)),(2,.int .i64 (b:Int)),(6,.int .i64 ((l:Nat):Int))]) (by repeat (first |exact As.nil |refine As.cons rfl ?_ |refine As.cons_int rfl (by omega) ?_)) ?_;repeat (first |refine Ai ?_ |refine Ab ?_ |refine D2 Aa rfl (by omega) ?_ |refine Ae Aa rfl ?_)
 refine AY Aa rfl (fun bx hbx=>?_);repeat (first |refine Ai ?_ |refine Ab ?_ |refine Ag ?_ |refine Ae Aa rfl ?_ |refine Ax Aa 0 rfl rfl rfl rfl rfl rfl ?_)
 refine GY (fun v=>∃ m:Nat,v= .int .u64 (m:Int)/\1 <= m/\(m:Int) <= 2 * (l:Int)) rfl Tryz.call112 (fun w1 h1=>(S4 (x:=(l:Int)) ⟨by omega,by omega⟩ w1).mono fun e w' ⟨m,e1,e2,e3,e4⟩=>⟨_,e1,e4,m,rfl,e2,e3⟩) (fun v hv=>?_);obtain ⟨m,rfl,hm1,hm2⟩:=hv;repeat (first |refine Ai ?_ |refine Ab ?_ |refine Ag ?_ |refine Ae Aa rfl ?_)
 refine BE (Hv rfl rfl rfl (by omega) (by omega) (fun e h1 h2=>IntWalk.i64_in _ (by omega))) ?_;refine Co 22 (v':=.int .i64 ((r:Nat):Int)) rfl (congrArg (Value.int .i64) (by omega)) ?_;repeat (first |refine Ag ?_ |refine AD Aa rfl (by omega) ?_ |refine Ae Aa rfl ?_)
 refine M6 (ι:=Unit) (fun _=>True) (fun _=>uE g 32 d0 junk::UN bx l::rest) (fun w hw=>⟨(),trivial,hw.perm (List.Perm.swap _ _ _)⟩) (fun _ _=>?_);refine Ca ?_;refine Aq ?_;refine AM (ι:=Yj) (fun t=>[(0,.slice (some ⟨g,0,none⟩) n c),(1,.int .i64 (a:Int)),(2,.int .i64 (b:Int)),(6,.int .i64 ((l:Nat):Int)),(7,.pointer (some ⟨bx,0,none⟩)),(8,.int .u64 (m:Int)),(9,.int .i64 (t.i:Int))]) (fun t=>uE g 32 t.d junk::UN bx t.z::rest) (fun t=>a + r * 2 <= t.i + 1/\t.i <= a + r * 2 + 2/\t.z < 18446744073709551616/\t.d.size=n/\PermIn a b d0 t.d) (fun t=>a + r * 2 + 2 - t.i) ⟨a + r * 2 - 1,l,d0⟩ ⟨by dsimp only;omega,by dsimp only;omega,by dsimp only;omega,hn,permIn_refl _ _ _⟩ (by dsimp only;repeat (first |exact As.nil |refine As.cons rfl ?_ |refine As.cons_int rfl (by omega) ?_)) (fun w' hw=>hw) ?_;rintro ⟨i,z,d⟩ ⟨hi1,hi2,hz,hd,hP⟩;dsimp only at hi1 hi2 hz hd hP ⊢;repeat (first |refine Ai ?_ |refine Ab ?_ |refine Ae Aa rfl ?_)
 refine BE (Hv rfl rfl rfl (by omega) (by omega) (fun e h1 h2=>IntWalk.i64_in _ (by omega))) ?_;refine Co 29 (v':=.int .i64 ((r:Nat):Int)) rfl (congrArg (Value.int .i64) (by omega)) ?_;repeat (first |refine Ag ?_ |refine AD Aa rfl (by omega) ?_ |refine Ae Aa rfl ?_)
 refine Ak rfl (fun hc=>?_) (fun hc=>?_);rotate_left
 ·repeat (first |refine Ad ?_ |refine AB ?_ |refine Al ?_ |refine AH ?_)
  exact CM rfl (fun w' hw=>⟨d,rfl,hP,hd,(hw.perm (List.Perm.swap _ _ _)).dropn hbx⟩)
 repeat (first |refine Ai ?_ |refine Ab ?_ |refine Aq ?_ |refine Ad ?_ |refine Ao ?_)
 refine A7 rfl Tryz.call113 (fun w1 h1=>(S5 z hz (h1.perm (List.Perm.swap _ _ _))).mono fun e w' ⟨z1,e1,hz1,h2⟩=>⟨_,_,e1,h2.perm (List.Perm.swap _ _ _),?_⟩);obtain ⟨o,ho⟩:∃ o,o=z1 &&& (m - 1):=⟨_,rfl⟩
 have hom:o <= m - 1:=by rw [ho];exact Nat.and_le_right
 have hob:IntKind.i64.wrap (bits .and .u64 (z1:Int) ((m:Int) - 1))=(o:Int):=by
  rw [show ((m:Int) - 1)=((m - 1:Nat):Int) by omega,bits_and_u64_nat _ _ hz1 (by omega),<-ho,IntKind.wrap_i64];omega
 repeat (first |refine Ai ?_ |refine Ab ?_ |refine Ag ?_ |refine D2 Aa rfl (by omega) ?_ |refine Ae Aa rfl ?_)
 refine Lo (l':=[(0,.slice (some ⟨g,0,none⟩) n c),(1,.int .i64 (a:Int)),(2,.int .i64 (b:Int)),(6,.int .i64 ((l:Nat):Int)),(7,.pointer (some ⟨bx,0,none⟩)),(8,.int .u64 (m:Int)),(9,.int .i64 (i:Int)),(10,.int .i64 (o:Int)),(43,.bool (decide ((l:Int) <= (o:Int))))]) (by rw [hob];repeat (first |exact As.nil |refine As.cons rfl ?_)) ?_;refine BN (ι:=Nat) (fun j=>j < l) (fun j=>[(0,.slice (some ⟨g,0,none⟩) n c),(1,.int .i64 (a:Int)),(2,.int .i64 (b:Int)),(6,.int .i64 ((l:Nat):Int)),(7,.pointer (some ⟨bx,0,none⟩)),(8,.int .u64 (m:Int)),(9,.int .i64 (i:Int)),(10,.int .i64 (j:Int))]) (fun _=>uE g 32 d junk::UN bx z1::rest) ?_ ?_
 ·refine Ak rfl (fun h=>?_) (fun h=>?_)
  ·repeat (first |refine Ab ?_ |refine Ag ?_ |refine AD Aa rfl (by omega) ?_ |refine Ae Aa rfl ?_)
   exact ⟨o - l,by omega,by repeat (first |exact As.nil |refine As.cons rfl ?_ |refine As.cons_int rfl (by omega) ?_),fun w' hw=>hw⟩
  ·repeat (first |refine Ad ?_ |refine Ao ?_)
   exact ⟨o,by omega,by repeat (first |exact As.nil |refine As.cons rfl ?_),fun w' hw=>hw⟩
 clear hob hom ho;intro o hol;skip;have hs:=Cm d i (a + o)
 let ol0:OL:=uE g 32 d junk::UN bx z1::rest
 let ol1:OL:=.blk g (.cells ⟨(uA d junk).set i (.int .u64 d[(a + o)]!)⟩ 32 (0,0)) true::UN bx z1::rest
 let ol2:OL:=uE g 32 (swp d i (a + o)) junk::UN bx z1::rest
 let olf:(Nat->Bool)->OL:=fun L=>match L 19 with
  |true=>ol2
  |false=>match L 17 with
   |true=>ol1
   |false=>ol0
 refine Ca ?_;refine Ci (by kernel_rfl) (by kernel_rfl) [.slice (some ⟨g,0,none⟩) n c,.int .i64 (i:Int),.slice (some ⟨g,0,none⟩) n c,.int .i64 (a:Int),.int .i64 (o:Int),.int .i64 ((a:Int) + (o:Int)),.slice (some ⟨g,0,none⟩) n c,.int .i64 (a:Int),.int .i64 (o:Int),.int .i64 ((a:Int) + (o:Int)),.pointer (some ⟨g,0 + (a + o),none⟩),.int .u64 d[(a + o)]!,.slice (some ⟨g,0,none⟩) n c,.int .i64 (i:Int),.pointer (some ⟨g,0 + i,none⟩),.int .u64 d[i]!,.pointer (some ⟨g,0 + i,none⟩),undef,.pointer (some ⟨g,0 + (a + o),none⟩),undef] rfl olf rfl ?_ (l':=[(0,.slice (some ⟨g,0,none⟩) n c),(1,.int .i64 (a:Int)),(2,.int .i64 (b:Int)),(6,.int .i64 ((l:Nat):Int)),(7,.pointer (some ⟨bx,0,none⟩)),(8,.int .u64 (m:Int)),(9,.int .i64 (i:Int))]) (ol':=ol2) (fun L h=>by simp only [olf,h 19 (by decide)]) (by repeat (first |exact Bc.nil |refine Bc.cons rfl ?_)) ?_
 ·refine ⟨?_,?_,?_,?_,?_,?_,?_,?_,?_,?_,?_,?_,?_,?_,?_,?_,?_,?_,?_,?_,trivial⟩
  ·exact fun L hc hl hp=>AK.ofD rfl (Ah Aa rfl Aj)
  ·exact fun L hc hl hp=>AK.ofD rfl (Ah Aa rfl Aj)
  ·exact fun L hc hl hp=>AK.ofD rfl (Ah Aa rfl Aj)
  ·exact fun L hc hl hp=>AK.ofD rfl (Ah Aa rfl Aj)
  ·exact fun L hc hl hp=>AK.ofD rfl (Ah Aa rfl Aj)
  ·exact fun L hc hl hp=>AK.ofD rfl (BD Aa rfl (by omega) Aj)
  ·exact fun L hc hl hp=>AK.ofD rfl (Ah Aa rfl Aj)
  ·exact fun L hc hl hp=>AK.ofD rfl (Ah Aa rfl Aj)
  ·exact fun L hc hl hp=>AK.ofD rfl (Ah Aa rfl Aj)
  ·exact fun L hc hl hp=>AK.ofD rfl (BD Aa rfl (by omega) Aj)
  ·exact fun L hc hl hp=>AK.ofD rfl (Bx (Ay Aa rfl rfl rfl rfl rfl rfl rfl (j:=(a + o)) (by omega) (by omega)) Aj)
  ·intro L hc hl hp;have h17:=At hc (j:=17) rfl ⟨11,.data⟩ (by simp) rfl hl;have h19:=At hc (j:=19) rfl ⟨11,.phase⟩ (by simp) rfl hl
   have e1:olf L=ol0:=by simp only [olf,h17,h19]
   have e2:olf (add L 11)=ol0:=by simp [olf,add,h17,h19]
   rw [e1,e2];exact AK.ofD rfl (Av Aa (v:=.int .u64 d[(a + o)]!) rfl rfl (fun w' hw=>Bu hw (AJ (by omega))) Aj)
  ·exact fun L hc hl hp=>AK.ofD rfl (Ah Aa rfl Aj)
  ·exact fun L hc hl hp=>AK.ofD rfl (Ah Aa rfl Aj)
  ·exact fun L hc hl hp=>AK.ofD rfl (Bx (Ay Aa rfl rfl rfl rfl rfl rfl rfl (j:=i) (by omega) (by omega)) Aj)
  ·intro L hc hl hp;have h17:=At hc (j:=17) rfl ⟨15,.phase⟩ (by simp) rfl hl;have h19:=At hc (j:=19) rfl ⟨15,.data⟩ (by simp) rfl hl
   have e1:olf L=ol0:=by simp only [olf,h17,h19]
   have e2:olf (add L 15)=ol0:=by simp [olf,add,h17,h19]
   rw [e1,e2];exact AK.ofD rfl (Av Aa (v:=.int .u64 d[i]!) rfl rfl (fun w' hw=>Bu hw (AJ (by omega))) Aj)
  ·exact fun L hc hl hp=>AK.ofD rfl (Bx (Ay Aa rfl rfl rfl rfl rfl rfl rfl (j:=i) (by omega) (by omega)) Aj)
  ·intro L hc hl hp;have h19:=At hc (j:=19) rfl ⟨17,.chain⟩ (by simp) rfl hl
   have e1:olf L=ol0:=by simp only [olf,hl,h19]
   have e2:olf (add L 17)=ol1:=by simp [olf,add,h19]
   rw [e1,e2];exact AK.store Aa 0 rfl rfl (by intro x hx;rw [List.mem_singleton] at hx;subst hx;rfl) rfl (by rw [Nat.zero_add];exact Ba (by rw [BY];omega)) rfl
  ·exact fun L hc hl hp=>AK.ofD rfl (Bx (Ay Aa rfl rfl rfl rfl rfl rfl rfl (j:=(a + o)) (by omega) (by omega)) Aj)
  ·intro L hc hl hp;have h17:L 17=true:=hp ⟨17,.chain⟩ (by simp) rfl
   have e1:olf L=ol1:=by simp only [olf,h17,hl]
   have e2:olf (add L 19)=ol2:=by simp [olf,add]
   rw [e1,e2];exact AK.store Aa 0 rfl rfl (by intro x hx;rw [List.mem_singleton] at hx;subst hx;rfl) rfl (by rw [Nat.zero_add];exact (Ba (by rw [List.length_set,BY];omega)).trans (congrArg some (Dx (by omega) (by omega)))) rfl
 clear olf ol0 ol1;dsimp only [ol2];clear ol2;repeat (first |refine Ab ?_ |refine Ag ?_ |refine Ad ?_ |refine Am ?_ |refine AD Aa rfl (by omega) ?_ |refine Ae Aa rfl ?_)
 exact ⟨⟨i + 1,z1,swp d i (a + o)⟩,⟨by dsimp only;omega,by dsimp only;omega,hz1,by dsimp only;omega,permIn_trans _ _ _ _ _ hP (swp_permIn d a b i (a + o) (by omega) (by omega) (by omega) (by omega) (by omega))⟩,(by dsimp only;repeat (first |exact As.nil |refine As.cons rfl ?_)),fun w' hw=>hw,by dsimp only;omega⟩
open Go.Sort
theorem Kr {a b:Nat} {d d':Array Int} (h:Go.Sort.Below BC a b d) (hb:b <= d.size) (hp:PermIn a b d d'):Go.Sort.Below BC a b d':=Go.Sort.Below.perm h hb hp
structure Yl where
 a:Nat
 b:Nat
 lim:Nat
 wb:Bool
 wp:Bool
 d:Array Int
structure Yk where
 p:Nat
 t:Int
 d:Array Int
set_option maxHeartbeats 16000000 in
theorem Ns (junk:List Value) (rest:OL) (g c n:Nat) (hm:n <= 65535):∀ (N:Nat) {w0 w:World} {d0:Array Int} (a0 b0 lim0:Nat),b0 - a0 < N->Hp w0 w (uE g 32 d0 junk::rest)->d0.size=n->a0 <= b0->b0 <= n->lim0 <= 1000->Go.Sort.Below BC a0 b0 d0->Calls Tryz.prog 95 #[.slice (some ⟨g,0,none⟩) n c,.int .i64 (a0:Int),.int .i64 (b0:Int),.int .i64 (lim0:Int)] w fun e w'=>∃ d,e= .returned (.tuple #[])/\PermIn a0 b0 d0 d/\SortedIn BC a0 b0 d/\d.size=n/\Hp w0 w' (uE g 32 d junk::rest)
 |0,w0,w,d0,a0,b0,lim0,hN,_,_,_,_,_,_=>by omega
 |N + 1,w0,w,d0,a0,b0,lim0,hN,h,hn,hab0,hb0,hlim0,hB0=>by
  refine GO Tryz.func95 rfl rfl h ?_;repeat (first |refine Ai ?_ |refine Ab ?_ |refine Aq ?_ |refine Ag ?_ |refine Ae Aa rfl ?_)
  refine AM (ι:=Yl) (fun t=>[(0,.slice (some ⟨g,0,none⟩) n c),(1,.int .i64 (t.a:Int)),(2,.int .i64 (t.b:Int)),(3,.int .i64 (t.lim:Int)),(8,.bool t.wb),(9,.bool t.wp)]) (fun t=>uE g 32 t.d junk::rest) (fun t=>t.a <= t.b/\t.b <= n/\t.b - t.a <= b0 - a0/\t.lim <= 1000/\t.d.size=n/\Go.Sort.Below BC t.a t.b t.d/\∀ R,PermIn t.a t.b t.d R->SortedIn BC t.a t.b R->PermIn a0 b0 d0 R/\SortedIn BC a0 b0 R) (fun t=>t.b - t.a) ⟨a0,b0,lim0,true,true,d0⟩ ⟨hab0,hb0,Nat.le_refl _,hlim0,hn,hB0,fun R h1 h2=>⟨h1,h2⟩⟩ (by dsimp only;repeat (first |exact As.nil |refine As.cons rfl ?_)) (fun w' hw=>hw) ?_;rintro ⟨a,b,lim,wb,wp,d⟩ ⟨hab,hb,hle,hlim,hd,hB,hcont⟩;dsimp only at hab hb hle hlim hd hB hcont ⊢;obtain ⟨l,hl⟩:∃ l,l=b - a:=⟨_,rfl⟩;repeat (first |refine Ai ?_ |refine Ab ?_ |refine Aq ?_ |refine Ag ?_ |refine AD Aa rfl (by omega) ?_ |refine Ae Aa rfl ?_)
  refine Ak rfl (fun h12=>?_) (fun h12=>?_)
  ·repeat (first |refine Ai ?_ |refine Ab ?_ |refine Ae Aa rfl ?_)
   refine A7 rfl Tryz.call100 (fun w1 h1=>(Vq a b h1 hd hab hb (by omega)).mono fun e w' ⟨e1,h2,h3⟩=>⟨_,_,e1,h2,?_⟩);repeat (first |refine Ag ?_ |refine BQ ?_ |refine AI ?_ |refine AC ?_)
   obtain ⟨p1,p2⟩:=insertionSort_holds (lt:=BC) Qb d a b hab (by omega);obtain ⟨c1,c2⟩:=hcont _ p1 p2;exact Pm rfl (fun w' hw=>⟨_,rfl,c1,c2,h3,hw⟩)
  repeat (first |refine Ai ?_ |refine Ab ?_ |refine Ag ?_ |refine Ad ?_ |refine Ao ?_ |refine Ae Aa rfl ?_)
  refine Ak rfl (fun h0=>?_) (fun h0=>?_)
  ·repeat (first |refine Ai ?_ |refine Ab ?_ |refine Ae Aa rfl ?_)
   refine A7 rfl Tryz.call101 (fun w1 h1=>(QT a b h1 hd (by omega) hb (by omega)).mono fun e w' ⟨e1,h2,h3⟩=>⟨_,_,e1,h2,?_⟩);repeat (first |refine Ag ?_ |refine BQ ?_ |refine AI ?_ |refine AC ?_)
   obtain ⟨p1,p2⟩:=heapSort_holds (lt:=BC) Qb d a b hab (by omega);obtain ⟨c1,c2⟩:=hcont _ p1 p2;exact Pm rfl (fun w' hw=>⟨_,rfl,c1,c2,h3,hw⟩)
  repeat (first |refine Ai ?_ |refine Ab ?_ |refine Ag ?_ |refine Ad ?_ |refine Ao ?_ |refine Ae Aa rfl ?_)
  refine Lo (l':=[(0,.slice (some ⟨g,0,none⟩) n c),(1,.int .i64 (a:Int)),(2,.int .i64 (b:Int)),(3,.int .i64 (lim:Int)),(8,.bool wb),(9,.bool wp),(10,.int .i64 ((l:Nat):Int)),(35,.bool (!wb))]) (by repeat (first |exact As.nil |refine As.cons rfl ?_ |refine As.cons_int rfl (by omega) ?_)) ?_;refine BN (ι:=Nat × Array Int) (fun j=>j.1 <= 1000/\j.2.size=n/\PermIn a b d j.2) (fun j=>[(0,.slice (some ⟨g,0,none⟩) n c),(1,.int .i64 (a:Int)),(2,.int .i64 (b:Int)),(3,.int .i64 (j.1:Int)),(8,.bool wb),(9,.bool wp),(10,.int .i64 ((l:Nat):Int))]) (fun j=>uE g 32 j.2 junk::rest) ?_ ?_
  ·cases wb with
   |true=>
    refine AG rfl ?_;repeat (first |refine Ad ?_ |refine Ao ?_)
    exact ⟨(lim,d),⟨hlim,hd,permIn_refl _ _ _⟩,by repeat (first |exact As.nil |refine As.cons rfl ?_),fun w' hw=>hw⟩
   |false=>
    refine AX rfl ?_;repeat (first |refine Ai ?_ |refine Ab ?_ |refine Ae Aa rfl ?_)
    refine A7 rfl Tryz.call102 (fun w1 h1=>(Rp a b h1 hd hab hb hm).mono fun e w' ⟨d1,e1,p1,hd1,h2⟩=>⟨_,_,e1,h2,?_⟩);repeat (first |refine Ab ?_ |refine Ag ?_ |refine AD Aa rfl (by omega) ?_ |refine Ae Aa rfl ?_)
    exact ⟨(lim - 1,d1),⟨by dsimp only;omega,hd1,p1⟩,(by dsimp only;repeat (first |exact As.nil |refine As.cons rfl ?_ |refine As.cons_int rfl (by omega) ?_)),fun w' hw=>hw⟩
  rintro ⟨lim1,d1⟩ ⟨hlim1,hd1,hP1⟩;dsimp only at hlim1 hd1 hP1 ⊢;repeat (first |refine Ai ?_ |refine Ab ?_ |refine Ae Aa rfl ?_)
  refine A7 rfl Tryz.call103 (fun w1 h1=>(Qu a b h1 hd1 (by omega) hb hm).mono fun e w' ⟨p0,t0,e1,hp1,hp2,h2⟩=>⟨_,_,e1,h2,?_⟩);clear e1;repeat (first |refine Ai ?_ |refine Ab ?_ |refine Ag ?_ |refine Ae Aa rfl ?_)
  refine Lo (l':=[(0,.slice (some ⟨g,0,none⟩) n c),(1,.int .i64 (a:Int)),(2,.int .i64 (b:Int)),(3,.int .i64 (lim1:Int)),(8,.bool wb),(9,.bool wp),(10,.int .i64 ((l:Nat):Int)),(11,.int .i64 (p0:Int)),(12,.int .i64 t0),(50,.bool (decide (t0=2)))]) (by repeat (first |exact As.nil |refine As.cons rfl ?_)) ?_;refine BN (ι:=Yk) (fun j=>a <= j.p/\j.p < b/\j.d.size=n/\PermIn a b d j.d) (fun j=>[(0,.slice (some ⟨g,0,none⟩) n c),(1,.int .i64 (a:Int)),(2,.int .i64 (b:Int)),(3,.int .i64 (lim1:Int)),(8,.bool wb),(9,.bool wp),(10,.int .i64 ((l:Nat):Int)),(11,.int .i64 (j.p:Int)),(12,.int .i64 j.t)]) (fun j=>uE g 32 j.d junk::rest) ?_ ?_
  ·refine Ak rfl (fun h2=>?_) (fun h2=>?_);rotate_left
   ·repeat (first |refine Ad ?_ |refine Ao ?_)
    exact ⟨⟨p0,t0,d1⟩,⟨hp1,hp2,hd1,hP1⟩,by repeat (first |exact As.nil |refine As.cons rfl ?_),fun w' hw=>hw⟩
   repeat (first |refine Ai ?_ |refine Ab ?_ |refine Ae Aa rfl ?_)
   refine A7 rfl Tryz.call104 (fun w1 h1=>(Ve a b h1 hd1 (by omega) hb (by omega)).mono fun e w' ⟨e1,h2,h3⟩=>⟨_,_,e1,h2,?_⟩);repeat (first |refine Ai ?_ |refine Ab ?_ |refine Ag ?_ |refine AD Aa rfl (by omega) ?_ |refine Ae Aa rfl ?_)
   exact ⟨⟨(b - 1) - (p0 - a),1,reverseRange d1 a b⟩,⟨by dsimp only;omega,by dsimp only;omega,h3,permIn_trans _ _ _ _ _ hP1 (reverseRange_holds d1 a b hab (by omega))⟩,(by dsimp only;repeat (first |exact As.nil |refine As.cons rfl ?_ |refine As.cons_int rfl (by omega) ?_)),fun w' hw=>hw⟩
  clear hp1 hp2 hP1 hd1;rintro ⟨p,t,d2⟩ ⟨hp1,hp2,hd2,hP2⟩;dsimp only at hp1 hp2 hd2 hP2 ⊢;have hB2:=Kr hB (by omega) hP2;repeat (first |refine Ai ?_ |refine Ab ?_ |refine Ae Aa rfl ?_)
  refine FK (ι:=Unit) (fun _=>True) (fun _=>[(0,.slice (some ⟨g,0,none⟩) n c),(1,.int .i64 (a:Int)),(2,.int .i64 (b:Int)),(3,.int .i64 (lim1:Int)),(8,.bool wb),(9,.bool wp),(10,.int .i64 ((l:Nat):Int)),(11,.int .i64 (p:Int)),(68,.bool (wb && wp && decide (t=1)))]) (fun _=>uE g 32 d2 junk::rest) ?_ ?_
  ·cases wb with
   |false=>
    repeat (first |refine Ag ?_ |refine Ae Aa rfl ?_ |refine Bn rfl rfl rfl ?_)
    exact ⟨(),trivial,by repeat (first |exact As.nil |refine As.cons rfl ?_),fun w' hw=>hw⟩
   |true=>
    cases wp with
    |false=>
     repeat (first |refine Ag ?_ |refine Ae Aa rfl ?_ |refine Bn rfl rfl rfl ?_)
     exact ⟨(),trivial,by repeat (first |exact As.nil |refine As.cons rfl ?_),fun w' hw=>hw⟩
    |true=>
     repeat (first |refine Ag ?_ |refine Ae Aa rfl ?_)
     exact ⟨(),trivial,by repeat (first |exact As.nil |refine As.cons rfl ?_),fun w' hw=>hw⟩
  rintro _ _;refine BN (ι:=Array Int) (fun j=>j.size=n/\PermIn a b d j) (fun _=>[(0,.slice (some ⟨g,0,none⟩) n c),(1,.int .i64 (a:Int)),(2,.int .i64 (b:Int)),(3,.int .i64 (lim1:Int)),(8,.bool wb),(9,.bool wp),(10,.int .i64 ((l:Nat):Int)),(11,.int .i64 (p:Int))]) (fun j=>uE g 32 j junk::rest) ?_ ?_
  ·cases hq:(wb && wp && decide (t=1)) with
   |false=>
    refine AG rfl ?_;repeat (first |refine Ad ?_ |refine Ao ?_)
    exact ⟨d2,⟨hd2,hP2⟩,by repeat (first |exact As.nil |refine As.cons rfl ?_),fun w' hw=>hw⟩
   |true=>
    refine AX rfl ?_;repeat (first |refine Ai ?_ |refine Ab ?_ |refine Ae Aa rfl ?_)
    obtain ⟨q1,q2⟩:=partialInsertionSort_holds (lt:=BC) Qb d2 a b (by omega) (by omega) hB2;refine A7 rfl Tryz.call105 (fun w1 h1=>(S0 a b h1 hd2 (by omega) hb (by omega)).mono fun e w' ⟨e1,h2,h3⟩=>⟨_,_,e1,h2,?_⟩);clear e1;repeat (first |refine Ag ?_)
    obtain ⟨X,hX⟩:∃ X,X=partialInsertionSort BC d2 a b:=⟨_,rfl⟩;rw [<-hX] at q1 q2 h3 ⊢;obtain ⟨Xd,Xb⟩:=X;dsimp only at q1 q2 h3 ⊢
    cases Xb with
    |true=>
     refine AX rfl ?_;repeat (first |refine BQ ?_ |refine AI ?_ |refine AC ?_)
     obtain ⟨c1,c2⟩:=hcont _ (permIn_trans _ _ _ _ _ hP2 q1) (q2 rfl);exact Pm rfl (fun w' hw=>⟨_,rfl,c1,c2,h3,hw⟩)
    |false=>
     refine AG rfl ?_;repeat (first |refine Ad ?_ |refine Ao ?_)
     exact ⟨Xd,⟨h3,permIn_trans _ _ _ _ _ hP2 q1⟩,by repeat (first |exact As.nil |refine As.cons rfl ?_),fun w' hw=>hw⟩
  clear hB2 hP2 hd2 d2;rintro d3 ⟨hd3,hP3⟩;have hB3:=Kr hB (by omega) hP3;repeat (first |refine Ai ?_)
  refine BN (ι:=Unit) (fun _=>True) (fun _=>[(0,.slice (some ⟨g,0,none⟩) n c),(1,.int .i64 (a:Int)),(2,.int .i64 (b:Int)),(3,.int .i64 (lim1:Int)),(8,.bool wb),(9,.bool wp),(10,.int .i64 ((l:Nat):Int)),(11,.int .i64 (p:Int)),(87,.bool (decide (0 < a/\BC d3[a - 1]! d3[p]! =false)))]) (fun _=>uE g 32 d3 junk::rest) ?_ ?_
  ·by_cases ha:0 < a;rotate_left
   ·repeat (first |refine A5 (by kernel_rfl) (by kernel_rfl) ?_ |refine Ah Aa rfl ?_)
    refine BX 75 (v':=.bool false) rfl (congrArg Value.bool (decide_eq_false (by omega))) ?_;repeat (first |refine AN rfl ?_ |refine Ah Aa rfl ?_ |refine BP rfl rfl rfl ?_)
    refine ⟨(),trivial,?_,fun w' hw=>hw⟩;rw [show decide (0 < a/\BC d3[a - 1]! d3[p]! =false)=false from decide_eq_false (fun h=>ha h.1)];repeat (first |exact As.nil |refine As.cons rfl ?_)
   cases hb2:BC d3[a - 1]! d3[p]! with
   |true=>
    repeat (first |refine A5 (by kernel_rfl) (by kernel_rfl) ?_ |refine Ah Aa rfl ?_)
    refine BX 75 (v':=.bool true) rfl (congrArg Value.bool (decide_eq_true (by omega))) ?_;repeat (first |refine BD Aa rfl (by omega) ?_ |refine Ah Aa rfl ?_)
    refine Bx (Ay Aa rfl rfl rfl rfl rfl rfl rfl (j:=(a - 1)) (by omega) (by omega)) ?_;refine Av Aa rfl rfl (v:=.int .u64 d3[(a - 1)]!) (fun w' hw=>Bu hw (AJ (by omega))) ?_;repeat (first |refine Ah Aa rfl ?_)
    refine Bx (Ay Aa rfl rfl rfl rfl rfl rfl rfl (j:=p) (by omega) (by omega)) ?_;refine Av Aa rfl rfl (v:=.int .u64 d3[p]!) (fun w' hw=>Bu hw (AJ (by omega))) ?_;skip;refine Bi rfl Tryz.call106 (v:=.bool true) (fun w' vs hw' h=>by obtain ⟨u1,_,rfl,rfl,u2,_,rfl,rfl,rfl⟩:=h;exact B8 hb2 w') ?_;repeat (first |refine AN rfl ?_ |refine Ah Aa rfl ?_)
    refine ⟨(),trivial,?_,fun w' hw=>hw⟩;rw [show decide (0 < a/\true=false)=false from decide_eq_false (fun h=>by cases h.2)];repeat (first |exact As.nil |refine As.cons rfl ?_)
   |false=>
    repeat (first |refine A5 (by kernel_rfl) (by kernel_rfl) ?_ |refine Ah Aa rfl ?_)
    refine BX 75 (v':=.bool true) rfl (congrArg Value.bool (decide_eq_true (by omega))) ?_;repeat (first |refine BD Aa rfl (by omega) ?_ |refine Ah Aa rfl ?_)
    refine Bx (Ay Aa rfl rfl rfl rfl rfl rfl rfl (j:=(a - 1)) (by omega) (by omega)) ?_;refine Av Aa rfl rfl (v:=.int .u64 d3[(a - 1)]!) (fun w' hw=>Bu hw (AJ (by omega))) ?_;repeat (first |refine Ah Aa rfl ?_)
    refine Bx (Ay Aa rfl rfl rfl rfl rfl rfl rfl (j:=p) (by omega) (by omega)) ?_;refine Av Aa rfl rfl (v:=.int .u64 d3[p]!) (fun w' hw=>Bu hw (AJ (by omega))) ?_;skip;refine Bi rfl Tryz.call106 (v:=.bool false) (fun w' vs hw' h=>by obtain ⟨u1,_,rfl,rfl,u2,_,rfl,rfl,rfl⟩:=h;exact B8 hb2 w') ?_;repeat (first |refine AN rfl ?_ |refine Ah Aa rfl ?_)
    refine ⟨(),trivial,?_,fun w' hw=>hw⟩;rw [show decide (0 < a/\false=false)=true from decide_eq_true ⟨ha,rfl⟩];repeat (first |exact As.nil |refine As.cons rfl ?_)
  rintro _ _;skip;refine Ak rfl (fun he=>?_) (fun he=>?_)
  ·repeat (first |refine Ai ?_ |refine Ab ?_ |refine Ae Aa rfl ?_)
   refine A7 rfl Tryz.call107 (fun w1 h1=>(Pp a b p h1 hd3 hp1 hp2 hb (by omega)).mono fun e w' ⟨e1,h2,h3⟩=>⟨_,_,e1,h2,?_⟩);clear e1;obtain ⟨X,hX⟩:∃ X,X=partitionEqual BC d3 a b p:=⟨_,rfl⟩;obtain ⟨r1,r2,r3,r4,r5⟩:=round_eq (lt:=BC) Qb (partitionEqual_holds BC) (d3:=d3) (d4:=X.2) (mid:=X.1) he.1 hp1 hp2 (by omega) hB3 he.2 hX.symm;rw [<-hX] at h3 ⊢;repeat (first |refine Ai ?_ |refine Ab ?_ |refine Ag ?_ |refine Ad ?_ |refine AB ?_ |refine Al ?_ |refine AH ?_ |refine Ae Aa rfl ?_)
   exact ⟨⟨X.1,b,lim1,wb,wp,X.2⟩,⟨r2,hb,by dsimp only;omega,hlim1,h3,r4,fun R s1 s2=>by
    obtain ⟨s3,s4⟩:=r5 R s1 s2
    exact hcont R (permIn_trans _ _ _ _ _ hP3 s3) s4⟩,by repeat (first |exact As.nil |refine As.cons rfl ?_),fun w' hw=>hw,by dsimp only;omega⟩
  repeat (first |refine Ai ?_ |refine Ab ?_ |refine Ad ?_ |refine Ao ?_ |refine Ae Aa rfl ?_)
  refine A7 rfl Tryz.call108 (fun w1 h1=>(S1 a b p h1 hd3 hp1 hp2 hb (by omega)).mono fun e w' ⟨e1,h2,h3⟩=>⟨_,_,e1,h2,?_⟩);clear e1;obtain ⟨X,hX⟩:∃ X,X=partition BC d3 a b p:=⟨_,rfl⟩;rw [<-hX] at h3 ⊢;obtain ⟨m,al,d4⟩:=X;obtain ⟨r1,r2,r3,r4,r5,r6,r7⟩:=round_part (lt:=BC) Qb (partition_holds BC) (d3:=d3) (d4:=d4) (mid:=m) (ap:=al) hp1 hp2 (by omega) hB3 hX.symm;dsimp only at h3 ⊢;repeat (first |refine Ai ?_ |refine Ab ?_ |refine Ag ?_ |refine AD Aa rfl (by omega) ?_ |refine Ae Aa rfl ?_)
  refine Co 109 (v':=.int .i64 ((l:Nat):Int)) rfl rfl ?_;refine BE (Hv rfl rfl rfl (by omega) (by omega) (fun e h1 h2=>IntWalk.i64_in _ (by omega))) ?_;repeat (first |refine Ai ?_ |refine Ab ?_ |refine Ag ?_ |refine Ae Aa rfl ?_)
  refine Ak rfl (fun hlt=>?_) (fun hlt=>?_)
  ·repeat (first |refine Ai ?_ |refine Ab ?_ |refine Ag ?_ |refine Ae Aa rfl ?_)
   refine A7 rfl Tryz.call95 (fun w1 h1=>(Ns junk rest g c n hm N a m lim1 (by omega) h1 h3 r1 (by omega) hlim1 r4).mono fun e w' ⟨L,e1,q1,q2,q3,h2⟩=>⟨_,_,e1,h2,?_⟩);obtain ⟨u1,u2⟩:=r6 L q1 q2;repeat (first |refine Ag ?_ |refine Ad ?_ |refine Am ?_ |refine AD Aa rfl (by omega) ?_ |refine Ae Aa rfl ?_ |refine Ap ?_)
   refine ⟨⟨m + 1,b,lim1,_,al,L⟩,⟨by dsimp only;omega,hb,by dsimp only;omega,hlim1,q3,u1,fun R s1 s2=>?_⟩,(by dsimp only;repeat (first |exact As.nil |refine As.cons rfl ?_)),fun w' hw=>hw,by dsimp only;omega⟩;obtain ⟨s3,s4⟩:=u2 R s1 s2;exact hcont R (permIn_trans _ _ _ _ _ hP3 s3) s4
  ·repeat (first |refine Ai ?_ |refine Ab ?_ |refine Ag ?_ |refine AD Aa rfl (by omega) ?_ |refine Ae Aa rfl ?_)
   refine A7 rfl Tryz.call95 (fun w1 h1=>(Ns junk rest g c n hm N (m + 1) b lim1 (by omega) h1 h3 (by omega) hb hlim1 r5).mono fun e w' ⟨L,e1,q1,q2,q3,h2⟩=>⟨_,_,e1,h2,?_⟩);obtain ⟨u1,u2⟩:=r7 L q1 q2;repeat (first |refine Ag ?_ |refine Ad ?_ |refine Am ?_ |refine Ae Aa rfl ?_ |refine Ap ?_)
   refine ⟨⟨a,m,lim1,_,al,L⟩,⟨r1,by dsimp only;omega,by dsimp only;omega,hlim1,q3,u1,fun R s1 s2=>?_⟩,(by dsimp only;repeat (first |exact As.nil |refine As.cons rfl ?_)),fun w' hw=>hw,by dsimp only;omega⟩;obtain ⟨s3,s4⟩:=u2 R s1 s2;exact hcont R (permIn_trans _ _ _ _ _ hP3 s3) s4
theorem SD {w0 w:World} {g c n:Nat} {d0:Array Int} {junk:List Value} {rest:OL} (h:Hp w0 w (uE g 32 d0 junk::rest)) (hn:d0.size=n) (hm:n <= 65535):Calls Tryz.prog 87 #[.slice (some ⟨g,0,none⟩) n c] w fun e w'=>∃ d,e= .returned (.tuple #[])/\PermIn 0 n d0 d/\SortedIn BC 0 n d/\d.size=n/\Hp w0 w' (uE g 32 d junk::rest):=by
 refine E6 Tryz.func87 rfl rfl h ?_;repeat (first |refine Ai ?_ |refine Ab ?_ |refine Ag ?_ |refine D2 Aa rfl (by omega) ?_ |refine Ae Aa rfl ?_ |refine Ap ?_)
 refine GY (fun v=>∃ L:Nat,v= .int .i64 (L:Int)/\L <= 16) rfl Tryz.call96 (fun w1 h1=>(NA (x:=(n:Int)) ⟨by omega,by omega⟩ w1).mono fun e w' ⟨L,e1,e2,e3,e4⟩=>⟨_,e1,e4,L,rfl,e2⟩) (fun v hv=>?_);obtain ⟨L,rfl,h1⟩:=hv;skip;refine A7 rfl Tryz.call95 (fun w1 h1=>(Ns junk rest g c n hm (n + 1) 0 n L (by omega) h1 hn (by omega) (by omega) (by omega) (.inl rfl)).mono fun e w' ⟨d,e1,q1,q2,q3,h2⟩=>⟨_,_,e1,h2,?_⟩);repeat (first |refine Ag ?_)
 exact CM rfl (fun w' hw=>⟨d,rfl,q1,q2,q3,hw⟩)
theorem Ta (A:Option Addr) (c:Nat) (w:World):Calls Tryz.prog 100 #[.slice A 0 c,.int .i64 0,.int .i64 0] w fun e w'=>e= .returned (.tuple #[])/\Below w.heap.size w w':=by
 refine EP Tryz.func100 rfl rfl (Hp.refl w) ?_;repeat (first |refine Ai ?_ |refine Ab ?_ |refine Aq ?_ |refine Ag ?_ |refine AD Aa rfl (by omega) ?_ |refine Ae Aa rfl ?_)
 refine AM (ι:=Unit) (fun _=>[(2,.int .i64 0),(6,.int .i64 1)]) (fun _=>[]) (fun _=>True) (fun _=>0) () trivial (by repeat (first |exact As.nil |refine As.cons rfl ?_)) (fun w' hw=>hw) ?_;rintro _ _;repeat (first |refine Ai ?_ |refine Ab ?_ |refine Ag ?_ |refine Ae Aa rfl ?_)
 refine Ak rfl (fun h=>absurd h (by decide)) (fun _=>?_);repeat (first |refine AB ?_ |refine Al ?_ |refine AH ?_)
 exact CM rfl (fun w' hw=>⟨rfl,hw.below (by repeat (first |exact Ar))⟩)
theorem Qe (A:Option Addr) (c:Nat) (w:World):Calls Tryz.prog 87 #[.slice A 0 c] w fun e w'=>e= .returned (.tuple #[])/\Below w.heap.size w w':=by
 refine BZ Tryz.func87 rfl rfl (Hp.refl w) ?_;repeat (first |refine Ai ?_ |refine Ab ?_ |refine Ag ?_ |refine D2 Aa rfl (by omega) ?_ |refine Ae Aa rfl ?_ |refine Ap ?_)
 refine GY (fun v=>∃ L:Nat,v= .int .i64 (L:Int)/\L <= 16) rfl Tryz.call96 (fun w1 h1=>(NA (x:=0) ⟨by omega,by omega⟩ w1).mono fun e w' ⟨L,e1,e2,e3,e4⟩=>⟨_,e1,e4,L,rfl,e2⟩) (fun v hv=>?_);obtain ⟨L,rfl,h1⟩:=hv;skip;refine Be (v:=.tuple #[]) rfl Tryz.call95 (fun w1 h1=>?_) ?_
 ·refine Q9 Tryz.func95 rfl rfl (Hp.refl w1) ?_;repeat (first |refine Ai ?_ |refine Ab ?_ |refine Aq ?_ |refine Ag ?_ |refine Ae Aa rfl ?_)
  refine AM (ι:=Unit) (fun _=>[(0,.slice A 0 c),(1,.int .i64 0),(2,.int .i64 0)]) (fun _=>[]) (fun _=>True) (fun _=>0) () trivial (by repeat (first |exact As.nil |refine As.cons rfl ?_)) (fun w' hw=>hw) ?_;rintro _ _;repeat (first |refine Ai ?_ |refine Ab ?_ |refine Aq ?_ |refine Ag ?_ |refine AD Aa rfl (by omega) ?_ |refine Ae Aa rfl ?_)
  refine Ak rfl (fun _=>?_) (fun h=>absurd (by decide) h);repeat (first |refine Ai ?_ |refine Ab ?_ |refine Ae Aa rfl ?_)
  refine Be (v:=.tuple #[]) rfl Tryz.call100 (fun w1 h1=>Ta A c w1) ?_;repeat (first |refine Ag ?_ |refine BQ ?_ |refine AI ?_ |refine AC ?_)
  exact Pm rfl (fun w' hw=>⟨rfl,hw.below (by repeat (first |exact Ar))⟩)
 repeat (first |refine Ag ?_)
 exact CM rfl (fun w' hw=>⟨rfl,hw.below (by repeat (first |exact Ar))⟩)
theorem Mu {d:Array Int} (h:SortedIn BC 0 d.size d):d.toList.Pairwise (· <= ·):=by
 rw [List.pairwise_iff_getElem];intro i j hi hj hij;have h1:=h i j (Nat.zero_le _) hij (by simpa using hj)
 have e1:d[i]! =d.toList[i]:=by rw [Array.getElem!_eq_getD,Array.getD_eq_getD_getElem?,<-Array.getElem?_toList,List.getElem?_eq_getElem hi];rfl
 have e2:d[j]! =d.toList[j]:=by rw [Array.getElem!_eq_getD,Array.getD_eq_getD_getElem?,<-Array.getElem?_toList,List.getElem?_eq_getElem hj];rfl
 rw [e1,e2] at h1;have:=of_decide_eq_false h1;omega
theorem Po {d d':Array Int} (h:PermIn 0 d.size d d'):d'.toList.Perm d.toList:=by
 obtain ⟨h1,_,h2⟩:=h
 have e1:(d'.extract 0 d.size)=d':=by rw [<-h1];simp
 have e2:(d.extract 0 d.size)=d:=by simp
 rwa [e1,e2] at h2
open Go.Shelf
attribute [local go_sem] Oper.semAt_some
abbrev NN:Int->Array Value:=fun x=>#[.int .u64 x]
def O4 (o:Obj):Prop:=(∀ cur f,o ≠ .cells cur 59 f)/\∀ cur f,o ≠ .cells cur 32 f
structure Me (Kp:World->World->Prop) (n₀:Nat):Prop where
 t:∀ {A B C:World},Kp A B->Kp B C->Kp A C
 b:∀ (W:World) (l:Nat) (o o':Obj),n₀ <= l->W.heap[l]? =some o->o.isCells=false->o.isWalk=false->Kp W (W.putObj l o')
 r:∀ W W':World,W.heap.size <= W'.heap.size->(∀ (k:Nat) (o:Obj),W.heap[k]? =some o->O4 o->W'.heap[k]? =some o)->Go.RowKit.Below n₀ W W'->Kp W W'
theorem QP (n₀:Nat):Me KeepsWalks n₀:=
 ⟨fun h k=>h.trans k,fun W l o o' _ h _ hw=>KeepsWalks.putObj _ h hw,fun W W' hs h _=>⟨hs,fun k o hk ho=>h k o hk ⟨fun cur f e=>(by rw [e] at ho;cases ho),fun cur f e=>(by rw [e] at ho;cases ho)⟩⟩⟩
theorem W6 {n n₀:Nat} (hn:n <= n₀):Me (Go.RowKit.Below n) n₀:=
 ⟨fun h k=>h.trans k,fun W l o o' hl h _ _=>(Go.RowKit.Below.refl n W).grown (grownBy_putObj' W l o') (by have:=(Array.getElem?_eq_some_iff.1 h).1;omega) (fun k e=>by cases e;omega),fun W W' _ _ h=>h.mono hn⟩
theorem LR {W w1:World} {n₀ B n:Nat} {v v':Value} {xs:List Value} {tmp:Obj} (hv:Boxed W B 59 v) (hr:W.ownsRow n₀ 32 1 v n xs) (hg:(W.alloc tmp).grownBy w1 v.ownBlock):
 W.heap.size <= (w1.setCell ⟨B,0,none⟩ v').heap.size/\∀ (k:Nat) (o:Obj),W.heap[k]? =some o->O4 o->(w1.setCell ⟨B,0,none⟩ v').heap[k]? =some o:=by
 constructor
 ·have h1:=hg.size;have h2:=(grownBy_setCell' w1 B v').size;simp only [World.size_alloc] at h1;omega
 ·intro k o hk ho;have hlt:=(Array.getElem?_eq_some_iff.1 hk).1
  have h1:k ≠ B:=fun e=>by
   subst e;rw [show W.heap[k]? =_ from hv] at hk;exact ho.1 _ _ (Option.some.inj hk).symm
  have h2:some k ≠ v.ownBlock:=fun e=>by
   rcases hr.2 with ⟨e1,_⟩ |⟨g,c,cur,e1,_,hg',_⟩
   ·rw [e1] at e;cases e
   ·rw [e1] at e;cases e;rw [hg'] at hk;exact ho.2 _ _ (Option.some.inj hk).symm
  rw [Go.RowKit.Below.heap_setCell w1 _ _ k h1,hg.block k (by simp;omega) h2,Go.RowKit.Below.heap_alloc W _ k hlt,hk]
theorem W8:(Tryz.prog.info? 32).map (fun i=>(i.zero,i.size,i.bytes))=some (some (.int .u64 0),1,8):=by kernel_rfl
set_option maxRecDepth 100000 in
set_option maxHeartbeats 4000000 in
theorem RD {gf:Nat} {lb:Array Value} (eg:∀ args w,(callFunc gf args).run Tryz.prog w= .ok (.enter gf args) w) {Kp:World->World->Prop} {S Sp:List Int->Prop} {N:Nat} (hN:N <= 1000000) (w:World) (hKp:Me Kp w.heap.size)
 (hseq:∀ n,SeqStopsK Fence.wide n Tryz.prog gf lb NN Kp S Sp N w):
 CallsIn Fence.wide 4 Tryz.prog 82 #[.slice none 0 0,.func (.func gf) #[] lb] w fun e W'=>∃ v ss,e= .returned v/\S ss/\W'.ownsRow w.heap.size 32 1 v ss.length (ss.map (Value.int .u64))/\(v= .slice none 0 0 ↔ ss= [])/\Go.RowKit.Below w.heap.size w W':=by
 obtain ⟨i0,hi,hz0,hz1,hz2⟩:=info_parts W8;refine callsIn_of_wp_marks Tryz.func82 rfl trivial ?_ rfl;simp only [Tryz.ntmps82,List.size_toArray,List.length_cons,List.length_nil,Nat.reduceAdd,Nat.reduceSub,Array.replicate_succ,Array.replicate_zero,List.push_toArray,List.append_toArray,List.nil_append,List.cons_append]
 gi_wp2
 have bO:=Boxed.new w 59 (.slice none 0 0);have hB0:Go.RowKit.Below w.heap.size w (w.alloc (.cells #[.slice none 0 0] 59)):=(Go.RowKit.Below.refl _ w).alloc (Nat.le_refl _) _
 refine wpIn_rangeFunc_ownG rfl (by decide) (gf:=gf) (lb:=lb) rfl trivial eg (hseq _) hKp.t (fun W l o o' hl=>hKp.b W l o o' (by simp at hl;omega)) hB0 (fun _=>rfl)
  (fun pre W=>(∃ v,Boxed W w.heap.size 59 v/\W.ownsRow w.heap.size 32 1 v pre.length (pre.map (Value.int .u64))/\(v= .slice none 0 0 ↔ pre= []))/\Go.RowKit.Below w.heap.size w W)
  (fun _ _ _=>False)
  (OwnFrom.and (Own.from (holdsRow_own w.heap.size w.heap.size 59 32 1 (fun pre:List Int=>pre.length) (fun pre=>pre.map (Value.int .u64)) (fun pre v=>v= .slice none 0 0 ↔ pre= [])) _) (ownFrom_below (Nat.le_refl _) (by simp)))
  (fun _ _ _ _ _ hs _ _=>hs)
  ⟨⟨_,bO,World.ownsRow_nil _ _ _ _,by simp⟩,hB0⟩
  (fun x=>{ tmps:=#[.slice none 0 0,.func (.func gf) #[] lb,.pointer (some ⟨w.heap.size,0,none⟩),undef,.slice none 0 0,.int .u64 x,.func (.func gf) #[] lb,.int .u64 x,undef,undef,undef,undef,undef],defers:=[]}) ?assign ?body ?done ?stop
 case assign=>
  intro l x W K hK
  gi_wp2
  exact hK
 case body=>
  rintro l pre x W ⟨⟨v,hv,hrow,hnil⟩,hB⟩ hlt;have hc:=hv.cell
  have hml:maxLen=9223372036854775807:=by decide
  gi_wp2_with (gi_at_builtin;refine wpListIn_append_own _ rfl _ _ 59 rfl w.heap.size 32 i0 (.int .u64 0) 1 8 Tryz.underlying59 hi hz0 hz1 hz2 rfl (by decide) _ _ _ rfl (hrow.alloc _) ⟨W.heap.size,0,none⟩ 1 1 [.int .u64 x] rfl rfl (cell_one_new _ _ _) (by simp [Value.oneCell']) (by omega) (by omega) (by have:=hB.size;simp;omega) ?_;intro v' w1 hown' hgrow _;obtain ⟨g',cap',rfl⟩:=ownsRow_succ hown';have hnm:=@LR W w1 w.heap.size w.heap.size pre.length v (.slice (some ⟨g',0,none⟩) (pre.length + 1) cap') _ _ hv hrow hgrow;obtain ⟨hv1,hv2,hr2,hk2,hb2⟩:=hv.appended (by decide) hrow hB.size (Nat.le_refl _) hown' hgrow;have hc1:=hv1.cell;have hf1:=hv1.frozen)
  exact ⟨hk2.from _,hKp.r _ _ hnm.1 hnm.2 hb2,⟨_,hv2,by simpa using hr2,by simp⟩,hB.trans hb2⟩
 case done=>
  rintro D ys W hD hS ⟨⟨v,hv,hrow,hnil⟩,hB⟩ hK;have hc:=hv.cell
  gi_wp2
  refine ⟨by simp,.inl ⟨_,_,rfl,run_takeDeferred hK,?_⟩⟩;exact ⟨_,results_tmp rfl _ _ _,v,ys,rfl,hS,ownsRow_putObj hrow _ hK rfl,hnil,hB.trans (belowK_b (w:=w) (Nat.le_refl _) W D _ _ (by simp at hD;omega) hK rfl rfl)⟩
 case stop=>
  rintro D c pre W _ _ h _;exact h.elim
theorem RC {gf:Nat} {lb:Array Value} (eg:∀ args w,(callFunc gf args).run Tryz.prog w= .ok (.enter gf args) w) {Kp:World->World->Prop} {S Sp:List Int->Prop} {N:Nat} (hN:N <= 1000000) (w:World) (hKp:Me Kp w.heap.size)
 (hseq:∀ n,SeqStopsK Fence.wide n Tryz.prog gf lb NN Kp S Sp N w):
 Calls Tryz.prog 82 #[.slice none 0 0,.func (.func gf) #[] lb] w fun e W'=>∃ v ss,e= .returned v/\S ss/\W'.ownsRow w.heap.size 32 1 v ss.length (ss.map (Value.int .u64))/\(v= .slice none 0 0 ↔ ss= [])/\Go.RowKit.Below w.heap.size w W':=
 callsIn_wide.1 (RD eg hN w hKp hseq)
theorem Me.later {Kp:World->World->Prop} {a b:Nat} (h:Me Kp a) (hab:a <= b):Me Kp b:=
 ⟨h.t,fun W l o o' hl=>h.b W l o o' (by omega),fun W W' hs hk hb=>h.r W W' hs hk (hb.mono hab)⟩
structure U0 (gf:Nat) (lb:Array Value) (Kp:World->World->Prop) (S Sp:List Int->Prop) (N:Nat) (w:World):Prop where
 eg:∀ args w,(callFunc gf args).run Tryz.prog w= .ok (.enter gf args) w
 le:N <= 1000000
 kp:Me Kp w.heap.size
 seq:∀ n,SeqStopsK Fence.wide n Tryz.prog gf lb NN Kp S Sp N w
section
variable {gf:Nat} {lb:Array Value} {Kp:World->World->Prop} {S Sp:List Int->Prop} {N:Nat} {w:World}
theorem U0.later {w':World} (h:U0 gf lb Kp S Sp N w) (hb:Go.RowKit.Below w.heap.size w w'):U0 gf lb Kp S Sp N w':=
 ⟨h.eg,h.le,h.kp.later hb.size,fun n l J Jx W hW=>h.seq n l J Jx W (hb.trans (hW.mono hb.size))⟩
def R8 (v:Value) (ss:List Int):Prop:=(v= .slice none 0 0/\ss= []) \/ ∃ g c,v= .slice (some ⟨g,0,none⟩) ss.length c/\0 < ss.length
theorem Qy {w:World} {base:Nat} {v:Value} {E:TypeId} {ss:List Int} {xs:List Value} (h:w.ownsRow base E 1 v ss.length xs) (hn:v= .slice none 0 0 ↔ ss= []):R8 v ss:=by
 rcases h.2 with ⟨e1,e2⟩ |⟨g,c,cur,e1,_⟩
 ·exact .inl ⟨e1,hn.1 e1⟩
 ·refine .inr ⟨g,c,e1,?_⟩
  rcases Nat.eq_zero_or_pos ss.length with h0 |h0
  ·have:=hn.2 (List.eq_nil_of_length_eq_zero h0);rw [e1] at this;cases this
  ·exact h0
theorem Ez {w:World} {b b':Nat} {E:TypeId} {sz n:Nat} {v:Value} {xs:List Value} (h:w.ownsRow b E sz v n xs) (hb:b' <= b):w.ownsRow b' E sz v n xs:=by
 obtain ⟨h1,h2⟩:=h;refine ⟨h1,?_⟩
 rcases h2 with h2 |⟨g,c,cur,e1,e2,rest⟩
 ·exact .inl h2
 ·exact .inr ⟨g,c,cur,e1,by omega,rest⟩
abbrev GZ (base:Nat) (v:Value) (ss:List Int):HE:=.row base v 32 1 ss.length (ss.map (Value.int .u64))
set_option maxHeartbeats 2000000 in
theorem Hl (hi:U0 gf lb Kp S Sp N w):Calls Tryz.prog 62 #[.func (.func gf) #[] lb] w fun e w'=>∃ v ss,e= .returned v/\S ss/\R8 v ss/\Hp w w' [GZ w.heap.size v ss]:=by
 refine E6 Tryz.func62 rfl rfl (Hp.refl w) ?_;repeat (first |refine A5 (by kernel_rfl) (by kernel_rfl) ?_ |refine AN rfl ?_ |refine BD Aa rfl (by omega) ?_ |refine O6 Aa rfl (by omega) ?_ |refine Ah Aa rfl ?_ |refine BP rfl rfl rfl ?_ |refine AE Aa 0 rfl rfl rfl ?_ |refine AE Aa 1 rfl rfl rfl ?_ |refine AE Aa 2 rfl rfl rfl ?_ |refine AE Aa 3 rfl rfl rfl ?_ |refine AE Aa 4 rfl rfl rfl ?_ |refine Ai ?_ |refine Ab ?_ |refine Aq ?_ |refine Ag ?_ |refine Ad ?_ |refine Am ?_ |refine BQ ?_ |refine AI ?_ |refine AB ?_ |refine Al ?_ |refine Ao ?_ |refine AC ?_ |refine AH ?_ |refine AD Aa rfl (by omega) ?_ |refine D2 Aa rfl (by omega) ?_ |refine Ae Aa rfl ?_ |refine Bn rfl rfl rfl ?_ |refine S_pass0 rfl rfl ?_ |refine Ap ?_ |refine An Aa 0 rfl rfl rfl ?_ |refine An Aa 1 rfl rfl rfl ?_ |refine An Aa 2 rfl rfl rfl ?_ |refine An Aa 3 rfl rfl rfl ?_ |refine An Aa 4 rfl rfl rfl ?_ |refine An Aa 5 rfl rfl rfl ?_ |refine Ax Aa 0 rfl rfl rfl rfl rfl rfl ?_ |refine Ax Aa 1 rfl rfl rfl rfl rfl rfl ?_ |refine Ax Aa 2 rfl rfl rfl rfl rfl rfl ?_ |refine Ax Aa 3 rfl rfl rfl rfl rfl rfl ?_ |refine Ax Aa 4 rfl rfl rfl rfl rfl rfl ?_ |refine Ax Aa 5 rfl rfl rfl rfl rfl rfl ?_ |refine BE (Bf Aa rfl rfl rfl rfl rfl rfl rfl) ?_ |refine Bx (Bf Aa rfl rfl rfl rfl rfl rfl rfl) ?_)
 refine A7 rfl Tryz.call82 (fun w1 h1=>(RC hi.eg hi.le w1 (hi.later (h1.below Ar)).kp (hi.later (h1.below Ar)).seq).mono fun e w' ⟨v,ss,e1,hS,hr,hn,hb⟩=>⟨v,[GZ w.heap.size v ss],e1,h1.fresh hb (x:=GZ w.heap.size v ss) (Ez hr h1.size) (fun k hk=>(World.ownsRow.lt hr k hk).1),?_⟩);have hv:=Qy hr hn
 repeat (first |refine A5 (by kernel_rfl) (by kernel_rfl) ?_ |refine AN rfl ?_ |refine BD Aa rfl (by omega) ?_ |refine O6 Aa rfl (by omega) ?_ |refine Ah Aa rfl ?_ |refine BP rfl rfl rfl ?_ |refine AE Aa 0 rfl rfl rfl ?_ |refine AE Aa 1 rfl rfl rfl ?_ |refine AE Aa 2 rfl rfl rfl ?_ |refine AE Aa 3 rfl rfl rfl ?_ |refine AE Aa 4 rfl rfl rfl ?_ |refine Ai ?_ |refine Ab ?_ |refine Aq ?_ |refine Ag ?_ |refine Ad ?_ |refine Am ?_ |refine BQ ?_ |refine AI ?_ |refine AB ?_ |refine Al ?_ |refine Ao ?_ |refine AC ?_ |refine AH ?_ |refine AD Aa rfl (by omega) ?_ |refine D2 Aa rfl (by omega) ?_ |refine Ae Aa rfl ?_ |refine Bn rfl rfl rfl ?_ |refine S_pass0 rfl rfl ?_ |refine Ap ?_ |refine An Aa 0 rfl rfl rfl ?_ |refine An Aa 1 rfl rfl rfl ?_ |refine An Aa 2 rfl rfl rfl ?_ |refine An Aa 3 rfl rfl rfl ?_ |refine An Aa 4 rfl rfl rfl ?_ |refine An Aa 5 rfl rfl rfl ?_ |refine Ax Aa 0 rfl rfl rfl rfl rfl rfl ?_ |refine Ax Aa 1 rfl rfl rfl rfl rfl rfl ?_ |refine Ax Aa 2 rfl rfl rfl rfl rfl rfl ?_ |refine Ax Aa 3 rfl rfl rfl rfl rfl rfl ?_ |refine Ax Aa 4 rfl rfl rfl rfl rfl rfl ?_ |refine Ax Aa 5 rfl rfl rfl rfl rfl rfl ?_ |refine BE (Bf Aa rfl rfl rfl rfl rfl rfl rfl) ?_ |refine Bx (Bf Aa rfl rfl rfl rfl rfl rfl rfl) ?_)
 exact AZ rfl rfl (fun w' hw=>⟨v,ss,rfl,hS,hv,hw⟩)
end
open Go.Sort
section
variable {gf:Nat} {lb:Array Value} {Kp:World->World->Prop} {S Sp:List Int->Prop} {N:Nat} {w:World}
set_option maxHeartbeats 2000000 in
theorem Pf (hi:U0 gf lb Kp S Sp N w) (hlen:∀ ss,S ss->ss.length <= 65535):Calls Tryz.prog 66 #[.func (.func gf) #[] lb] w fun e w'=>∃ v ss ts,e= .returned v/\S ss/\ts.Perm ss/\ts.Pairwise (· <= ·)/\R8 v ts/\Hp w w' [GZ w.heap.size v ts]:=by
 refine E6 Tryz.func66 rfl rfl (Hp.refl w) ?_;repeat (first |refine Ai ?_ |refine Ab ?_ |refine Ag ?_ |refine Ae Aa rfl ?_)
 refine A7 rfl Tryz.call62 (fun w1 h1=>(Hl (hi.later (h1.below Ar))).mono fun e w' ⟨v,ss,e1,hS,hv,h2⟩=>⟨v,[GZ w.heap.size v ss],e1,h1.fresh (h2.below (Bv h2 0 rfl (Nat.le_refl _) Ar)) (x:=GZ w.heap.size v ss) (Ez (h2.own _ List.mem_cons_self) h1.size) (fun k hk=>(World.ownsRow.lt (h2.own _ List.mem_cons_self) k hk).1),?_⟩)
 rcases hv with ⟨rfl,rfl⟩ |⟨g,c,rfl,hpos⟩
 ·repeat (first |refine Ai ?_ |refine Ab ?_ |refine Ag ?_ |refine Ae Aa rfl ?_)
  refine Be (v:=.tuple #[]) rfl Tryz.call87 (fun w1 h1=>Qe none 0 w1) ?_;repeat (first |refine Ai ?_ |refine Ab ?_ |refine Ag ?_ |refine AC ?_ |refine Ae Aa rfl ?_)
  exact AZ rfl rfl (fun w' hw=>⟨_,[],[],rfl,hS,List.Perm.refl _,List.Pairwise.nil,.inl ⟨rfl,rfl⟩,hw⟩)
 ·repeat (first |refine Ai ?_ |refine Ab ?_ |refine Ag ?_ |refine Ae Aa rfl ?_)
  refine Lq (ι:=List Value) (fun junk=>w.heap.size <= g/\ss.length <= c/\ss.length + junk.length=c/\c <= maxLen) (fun junk=>[uE g 32 ss.toArray junk]) (fun w1 h1=>?_) (fun junk ⟨hg,hc,hj,hm⟩=>?_)
  ·obtain ⟨b,junk,e1,hb,hnc,_,hl,hcm,h3⟩:=h1.openRow (pre:=[]) hpos;cases e1;exact ⟨junk,⟨hb,hnc,by simpa using hl,hcm⟩,h3⟩
  refine A7 rfl Tryz.call87 (fun w1 h1=>(SD h1 (n:=ss.length) (by simp) (hlen _ hS)).mono fun e w' ⟨d,e1,hp,hs,hd,h2⟩=>⟨_,_,e1,h2,?_⟩);have hp':=Po (d:=ss.toArray) (d':=d) (by simpa using hp);have hs':=Mu (d:=d) (by rw [hd];exact hs)
  have hdl:d.toList.length=ss.length:=by simpa using hd
  repeat (first |refine Ai ?_ |refine Ab ?_ |refine Ag ?_ |refine AC ?_ |refine Ae Aa rfl ?_)
  refine AZ rfl rfl (fun w' hw=>⟨_,ss,d.toList,rfl,hS,by simpa using hp',hs',.inr ⟨g,c,by rw [hdl],by omega⟩,?_⟩);have h4:=Hp.closeRow (pre:=[]) (post:=[]) (n:=ss.length) (c:=c) (sz:=1) hw hg hc hm (by simp [hd];omega)
  have e4:List.take (ss.length * 1) (uA d junk)=d.toList.map (Value.int .u64):=by rw [Nat.mul_one,List.take_append_of_le_length (by simp [hd]),List.take_of_length_le (by simp [hd])]
  rw [e4] at h4;show Hp w w' [.row w.heap.size _ _ 1 d.toList.length _];rw [hdl];exact h4
end
end Go.Proofs.YtidhpofcofknhaaGreat
