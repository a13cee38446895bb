/-
  The walk of alarm.entries' Swap. Conditions: each theorem's own. (Made by genAlA.py.) alarm.entries as a heap's object. Conditions: each theorem's own. (Made by genAlB.py.) alarm.entries' Push and Pop; heap.Push, Pop, Fix, Remove of an alarm with its map. Conditions: each theorem's own. heap.Push, Pop, Fix, Remove of an alarm with its map. Conditions: each theorem's own. The plain law of an alarm: its heap and its map against the document's list. Conditions: each theorem's own. The walks of alarm's New, Len, Next, When. Conditions: each theorem's own. The walks of alarm's Set and Clear. Conditions: each theorem's own. The walk of alarm's Due. Conditions: each theorem's own. The document's example; a nil alarm. Conditions: each theorem's own.
  Conditions: each theorem's own.
-/
import Derived.Test.YtidhpofcofknhaaGreatEz
namespace Go.Proofs.YtidhpofcofknhaaGreat
open Go Go.RowKit
set_option linter.unusedVariables false
set_option maxHeartbeats 2000000 in
theorem Rk (g n c i j bx by_:Nat) (cs:List Value) (idx atx plx idy aty ply:Int) (w:World) (hst:Hp w w [.blk g (.cells ⟨cs⟩ 164 (0,0)) true,.blk bx (.cells ⟨[.int .u64 idx,.int .i64 atx,.int .i64 plx]⟩ 174 (0,0)) true,.blk by_ (.cells ⟨[.int .u64 idy,.int .i64 aty,.int .i64 ply]⟩ 174 (0,0)) true]) (hi:i < n) (hj:j < n) (hn:n <= cs.length) (hu:cs[i]? =some (.pointer (some ⟨bx,0,none⟩))) (hv:cs[j]? =some (.pointer (some ⟨by_,0,none⟩))):
 Calls Tryz.prog 137 #[.slice (some ⟨g,0,none⟩) n c,.int .i64 (i:Int),.int .i64 (j:Int)] w fun e w'=>e= .returned (.tuple #[])/\Hp w w' [.blk g (.cells ⟨(cs.set i (.pointer (some ⟨by_,0,none⟩))).set j (.pointer (some ⟨bx,0,none⟩))⟩ 164 (0,0)) true,.blk bx (.cells ⟨[.int .u64 idx,.int .i64 atx,.int .i64 (j:Int)]⟩ 174 (0,0)) true,.blk by_ (.cells ⟨[.int .u64 idy,.int .i64 aty,.int .i64 (i:Int)]⟩ 174 (0,0)) true]:=by
 have hg2:((cs.set i (.pointer (some ⟨by_,0,none⟩))).set j (.pointer (some ⟨bx,0,none⟩)))[i]? =some (.pointer (some ⟨by_,0,none⟩)):=by
  rw [List.getElem?_set];by_cases h:j=i
  ·rw [if_pos h,if_pos (by rw [List.length_set];omega)];subst h;rw [hu] at hv;exact hv
  ·rw [if_neg h,List.getElem?_set_self (by omega)]
 have hg3:((cs.set i (.pointer (some ⟨by_,0,none⟩))).set j (.pointer (some ⟨bx,0,none⟩)))[j]? =some (.pointer (some ⟨bx,0,none⟩)):=List.getElem?_set_self (by rw [List.length_set];omega);refine EO Tryz.func137 rfl rfl hst ?_;repeat (first |refine Ai ?_)
 let ol0:OL:=[.blk g (.cells ⟨cs⟩ 164 (0,0)) true,.blk bx (.cells ⟨[.int .u64 idx,.int .i64 atx,.int .i64 plx]⟩ 174 (0,0)) true,.blk by_ (.cells ⟨[.int .u64 idy,.int .i64 aty,.int .i64 ply]⟩ 174 (0,0)) true]
 let ol1:OL:=[.blk g (.cells ⟨cs.set i (.pointer (some ⟨by_,0,none⟩))⟩ 164 (0,0)) true,.blk bx (.cells ⟨[.int .u64 idx,.int .i64 atx,.int .i64 plx]⟩ 174 (0,0)) true,.blk by_ (.cells ⟨[.int .u64 idy,.int .i64 aty,.int .i64 ply]⟩ 174 (0,0)) true]
 let ol2:OL:=[.blk g (.cells ⟨(cs.set i (.pointer (some ⟨by_,0,none⟩))).set j (.pointer (some ⟨bx,0,none⟩))⟩ 164 (0,0)) true,.blk bx (.cells ⟨[.int .u64 idx,.int .i64 atx,.int .i64 plx]⟩ 174 (0,0)) true,.blk by_ (.cells ⟨[.int .u64 idy,.int .i64 aty,.int .i64 ply]⟩ 174 (0,0)) true]
 let olf:(Nat->Bool)->OL:=fun L=>match L 15 with
  |true=>ol2
  |false=>match L 13 with
   |true=>ol1
   |false=>ol0
 refine Ck (by kernel_rfl) (by kernel_rfl) [.slice (some ⟨g,0,none⟩) n c,.int .i64 (i:Int),.slice (some ⟨g,0,none⟩) n c,.int .i64 (j:Int),.slice (some ⟨g,0,none⟩) n c,.int .i64 (j:Int),.pointer (some ⟨g,0 + j,none⟩),.pointer (some ⟨by_,0,none⟩),.slice (some ⟨g,0,none⟩) n c,.int .i64 (i:Int),.pointer (some ⟨g,0 + i,none⟩),.pointer (some ⟨bx,0,none⟩),.pointer (some ⟨g,0 + i,none⟩),undef,.pointer (some ⟨g,0 + j,none⟩),undef] rfl olf rfl ?_ (l':=[(0,.slice (some ⟨g,0,none⟩) n c),(1,.int .i64 (i:Int)),(2,.int .i64 (j:Int))]) (ol':=ol2) (fun L h=>by simp only [olf,h 15 (by decide)]) (by repeat (first |exact Bg.nil |refine Bg.cons rfl ?_)) ?_
 ·refine ⟨?_,?_,?_,?_,?_,?_,?_,?_,?_,?_,?_,?_,?_,?_,?_,?_,trivial⟩
  ·exact fun L hc hl hp=>AK.ofD rfl (Ah Aa rfl Aj)
  ·exact fun L hc hl hp=>AK.ofD rfl (Ah Aa rfl Aj)
  ·exact fun L hc hl hp=>AK.ofD rfl (Ah Aa rfl Aj)
  ·exact fun L hc hl hp=>AK.ofD rfl (Ah Aa rfl Aj)
  ·exact fun L hc hl hp=>AK.ofD rfl (Ah Aa rfl Aj)
  ·exact fun L hc hl hp=>AK.ofD rfl (Ah Aa rfl Aj)
  ·exact fun L hc hl hp=>AK.ofD rfl (Bv (Ax Aa rfl rfl rfl rfl rfl rfl rfl (j:=j) rfl hj) Aj)
  ·intro L hc hl hp;have h13:=At hc (j:=13) rfl ⟨7,.data⟩ (by simp) rfl hl;have h15:=At hc (j:=15) rfl ⟨13,.phase⟩ (by simp) rfl h13
   have e1:olf L=ol0:=by simp only [olf,h13,h15]
   have e2:olf (add L 7)=ol0:=by simp [olf,add,h13,h15]
   rw [e1,e2];exact AK.ofD rfl (Av Aa (v:=.pointer (some ⟨by_,0,none⟩)) rfl rfl (fun w' hw=>Ds hw hv) Aj)
  ·exact fun L hc hl hp=>AK.ofD rfl (Ah Aa rfl Aj)
  ·exact fun L hc hl hp=>AK.ofD rfl (Ah Aa rfl Aj)
  ·exact fun L hc hl hp=>AK.ofD rfl (Bv (Ax Aa rfl rfl rfl rfl rfl rfl rfl (j:=i) rfl hi) Aj)
  ·intro L hc hl hp;have h13:=At hc (j:=13) rfl ⟨11,.phase⟩ (by simp) rfl hl;have h15:=At hc (j:=15) rfl ⟨13,.phase⟩ (by simp) rfl h13
   have e1:olf L=ol0:=by simp only [olf,h13,h15]
   have e2:olf (add L 11)=ol0:=by simp [olf,add,h13,h15]
   rw [e1,e2];exact AK.ofD rfl (Av Aa (v:=.pointer (some ⟨bx,0,none⟩)) rfl rfl (fun w' hw=>Ds hw hu) Aj)
  ·exact fun L hc hl hp=>AK.ofD rfl (Bv (Ax Aa rfl rfl rfl rfl rfl rfl rfl (j:=i) rfl hi) Aj)
  ·intro L hc hl hp;have h15:=At hc (j:=15) rfl ⟨13,.phase⟩ (by simp) rfl hl
   have e1:olf L=ol0:=by simp only [olf,hl,h15]
   have e2:olf (add L 13)=ol1:=by simp [olf,add,h15]
   rw [e1,e2];exact AK.store Aa 0 rfl rfl (by intro x hx;rw [List.mem_singleton] at hx;subst hx;rfl) rfl (by rw [Nat.zero_add];exact C7 (by omega)) rfl
  ·exact fun L hc hl hp=>AK.ofD rfl (Bv (Ax Aa rfl rfl rfl rfl rfl rfl rfl (j:=j) rfl hj) Aj)
  ·intro L hc hl hp;have h13:L 13=true:=hp ⟨13,.phase⟩ (by simp) rfl
   have e1:olf L=ol1:=by simp only [olf,h13,hl]
   have e2:olf (add L 15)=ol2:=by simp [olf,add]
   rw [e1,e2];exact AK.store Aa 0 rfl rfl (by intro x hx;rw [List.mem_singleton] at hx;subst hx;rfl) rfl (by rw [Nat.zero_add];exact C7 (by rw [List.length_set];omega)) rfl
 clear olf ol1
 let ol3:OL:=[.blk g (.cells ⟨(cs.set i (.pointer (some ⟨by_,0,none⟩))).set j (.pointer (some ⟨bx,0,none⟩))⟩ 164 (0,0)) true,.blk bx (.cells ⟨[.int .u64 idx,.int .i64 atx,.int .i64 plx]⟩ 174 (0,0)) true,.blk by_ (.cells ⟨[.int .u64 idy,.int .i64 aty,.int .i64 (i:Int)]⟩ 174 (0,0)) true]
 let ol4:OL:=[.blk g (.cells ⟨(cs.set i (.pointer (some ⟨by_,0,none⟩))).set j (.pointer (some ⟨bx,0,none⟩))⟩ 164 (0,0)) true,.blk bx (.cells ⟨[.int .u64 idx,.int .i64 atx,.int .i64 (j:Int)]⟩ 174 (0,0)) true,.blk by_ (.cells ⟨[.int .u64 idy,.int .i64 aty,.int .i64 (i:Int)]⟩ 174 (0,0)) true]
 let olg:(Nat->Bool)->OL:=fun L=>match L 15 with
  |true=>ol4
  |false=>match L 12 with
   |true=>ol3
   |false=>ol2
 refine Ca ?_;refine Ck (by kernel_rfl) (by kernel_rfl) [.slice (some ⟨g,0,none⟩) n c,.int .i64 (i:Int),.pointer (some ⟨g,0 + i,none⟩),.pointer (some ⟨by_,0,none⟩),.slice (some ⟨g,0,none⟩) n c,.int .i64 (j:Int),.pointer (some ⟨g,0 + j,none⟩),.pointer (some ⟨bx,0,none⟩),.int .i64 (i:Int),.int .i64 (j:Int),.pointer (some ⟨by_,0,none⟩),.pointer (some ⟨by_,0 + 2,none⟩),undef,.pointer (some ⟨bx,0,none⟩),.pointer (some ⟨bx,0 + 2,none⟩),undef] rfl olg rfl ?_ (l':=[]) (ol':=ol4) (fun L h=>by simp only [olg,h 15 (by decide)]) (by repeat (first |exact Bg.nil)) ?_
 ·refine ⟨?_,?_,?_,?_,?_,?_,?_,?_,?_,?_,?_,?_,?_,?_,?_,?_,trivial⟩
  ·exact fun L hc hl hp=>AK.ofD rfl (Ah Aa rfl Aj)
  ·exact fun L hc hl hp=>AK.ofD rfl (Ah Aa rfl Aj)
  ·exact fun L hc hl hp=>AK.ofD rfl (Bv (Ax Aa rfl rfl rfl rfl rfl rfl rfl (j:=i) rfl hi) Aj)
  ·intro L hc hl hp;have h12:=At hc (j:=12) rfl ⟨3,.phase⟩ (by simp) rfl hl;have h15:=At hc (j:=15) rfl ⟨12,.phase⟩ (by simp) rfl h12
   have e1:olg L=ol2:=by simp only [olg,h12,h15]
   have e2:olg (add L 3)=ol2:=by simp [olg,add,h12,h15]
   rw [e1,e2];exact AK.ofD rfl (Av Aa (v:=.pointer (some ⟨by_,0,none⟩)) rfl rfl (fun w' hw=>Ds hw hg2) Aj)
  ·exact fun L hc hl hp=>AK.ofD rfl (Ah Aa rfl Aj)
  ·exact fun L hc hl hp=>AK.ofD rfl (Ah Aa rfl Aj)
  ·exact fun L hc hl hp=>AK.ofD rfl (Bv (Ax Aa rfl rfl rfl rfl rfl rfl rfl (j:=j) rfl hj) Aj)
  ·intro L hc hl hp;have h15:=At hc (j:=15) rfl ⟨7,.phase⟩ (by simp) rfl hl
   cases h12:L 12 with
   |false=>
    have e1:olg L=ol2:=by simp only [olg,h12,h15]
    have e2:olg (add L 7)=ol2:=by simp [olg,add,h12,h15]
    rw [e1,e2];exact AK.ofD rfl (Av Aa (v:=.pointer (some ⟨bx,0,none⟩)) rfl rfl (fun w' hw=>Ds hw hg3) Aj)
   |true=>
    have e1:olg L=ol3:=by simp only [olg,h12,h15]
    have e2:olg (add L 7)=ol3:=by simp [olg,add,h12,h15]
    rw [e1,e2];exact AK.ofD rfl (Av Aa (v:=.pointer (some ⟨bx,0,none⟩)) rfl rfl (fun w' hw=>Ds hw hg3) Aj)
  ·exact fun L hc hl hp=>AK.ofD rfl (Ah Aa rfl Aj)
  ·exact fun L hc hl hp=>AK.ofD rfl (Ah Aa rfl Aj)
  ·exact fun L hc hl hp=>AK.ofD rfl (Ah Aa rfl Aj)
  ·exact fun L hc hl hp=>AK.ofD rfl (Ah Aa rfl Aj)
  ·intro L hc hl hp;have h15:=At hc (j:=15) rfl ⟨12,.phase⟩ (by simp) rfl hl
   have e1:olg L=ol2:=by simp only [olg,hl,h15]
   have e2:olg (add L 12)=ol3:=by simp [olg,add,h15]
   rw [e1,e2];exact AK.store Aa 2 rfl rfl (by intro x hx;rw [List.mem_singleton] at hx;subst hx;rfl) rfl rfl rfl
  ·exact fun L hc hl hp=>AK.ofD rfl (Ah Aa rfl Aj)
  ·exact fun L hc hl hp=>AK.ofD rfl (Ah Aa rfl Aj)
  ·intro L hc hl hp;have h12:L 12=true:=hp ⟨12,.phase⟩ (by simp) rfl
   have e1:olg L=ol3:=by simp only [olg,h12,hl]
   have e2:olg (add L 15)=ol4:=by simp [olg,add]
   rw [e1,e2];exact AK.store Aa 1 rfl rfl (by intro x hx;rw [List.mem_singleton] at hx;subst hx;rfl) rfl rfl rfl
 exact CM rfl (fun w' hw=>⟨rfl,hw⟩)
set_option maxHeartbeats 2000000 in
theorem Rl (g n c i j bx:Nat) (cs:List Value) (idx atx plx:Int) (w:World) (hst:Hp w w [.blk g (.cells ⟨cs⟩ 164 (0,0)) true,.blk bx (.cells ⟨[.int .u64 idx,.int .i64 atx,.int .i64 plx]⟩ 174 (0,0)) true]) (hi:i < n) (hj:j < n) (hn:n <= cs.length) (hu:cs[i]? =some (.pointer (some ⟨bx,0,none⟩))) (hv:cs[j]? =some (.pointer (some ⟨bx,0,none⟩))) (hij:i=j):
 Calls Tryz.prog 137 #[.slice (some ⟨g,0,none⟩) n c,.int .i64 (i:Int),.int .i64 (j:Int)] w fun e w'=>e= .returned (.tuple #[])/\Hp w w' [.blk g (.cells ⟨(cs.set i (.pointer (some ⟨bx,0,none⟩))).set j (.pointer (some ⟨bx,0,none⟩))⟩ 164 (0,0)) true,.blk bx (.cells ⟨[.int .u64 idx,.int .i64 atx,.int .i64 (j:Int)]⟩ 174 (0,0)) true]:=by
 have hg2:((cs.set i (.pointer (some ⟨bx,0,none⟩))).set j (.pointer (some ⟨bx,0,none⟩)))[i]? =some (.pointer (some ⟨bx,0,none⟩)):=by
  rw [List.getElem?_set];by_cases h:j=i
  ·rw [if_pos h,if_pos (by rw [List.length_set];omega)]
  ·rw [if_neg h,List.getElem?_set_self (by omega)]
 have hg3:((cs.set i (.pointer (some ⟨bx,0,none⟩))).set j (.pointer (some ⟨bx,0,none⟩)))[j]? =some (.pointer (some ⟨bx,0,none⟩)):=List.getElem?_set_self (by rw [List.length_set];omega);refine EO Tryz.func137 rfl rfl hst ?_;repeat (first |refine Ai ?_)
 let ol0:OL:=[.blk g (.cells ⟨cs⟩ 164 (0,0)) true,.blk bx (.cells ⟨[.int .u64 idx,.int .i64 atx,.int .i64 plx]⟩ 174 (0,0)) true]
 let ol1:OL:=[.blk g (.cells ⟨cs.set i (.pointer (some ⟨bx,0,none⟩))⟩ 164 (0,0)) true,.blk bx (.cells ⟨[.int .u64 idx,.int .i64 atx,.int .i64 plx]⟩ 174 (0,0)) true]
 let ol2:OL:=[.blk g (.cells ⟨(cs.set i (.pointer (some ⟨bx,0,none⟩))).set j (.pointer (some ⟨bx,0,none⟩))⟩ 164 (0,0)) true,.blk bx (.cells ⟨[.int .u64 idx,.int .i64 atx,.int .i64 plx]⟩ 174 (0,0)) true]
 let olf:(Nat->Bool)->OL:=fun L=>match L 15 with
  |true=>ol2
  |false=>match L 13 with
   |true=>ol1
   |false=>ol0
 refine Ck (by kernel_rfl) (by kernel_rfl) [.slice (some ⟨g,0,none⟩) n c,.int .i64 (i:Int),.slice (some ⟨g,0,none⟩) n c,.int .i64 (j:Int),.slice (some ⟨g,0,none⟩) n c,.int .i64 (j:Int),.pointer (some ⟨g,0 + j,none⟩),.pointer (some ⟨bx,0,none⟩),.slice (some ⟨g,0,none⟩) n c,.int .i64 (i:Int),.pointer (some ⟨g,0 + i,none⟩),.pointer (some ⟨bx,0,none⟩),.pointer (some ⟨g,0 + i,none⟩),undef,.pointer (some ⟨g,0 + j,none⟩),undef] rfl olf rfl ?_ (l':=[(0,.slice (some ⟨g,0,none⟩) n c),(1,.int .i64 (i:Int)),(2,.int .i64 (j:Int))]) (ol':=ol2) (fun L h=>by simp only [olf,h 15 (by decide)]) (by repeat (first |exact Bg.nil |refine Bg.cons rfl ?_)) ?_
 ·refine ⟨?_,?_,?_,?_,?_,?_,?_,?_,?_,?_,?_,?_,?_,?_,?_,?_,trivial⟩
  ·exact fun L hc hl hp=>AK.ofD rfl (Ah Aa rfl Aj)
  ·exact fun L hc hl hp=>AK.ofD rfl (Ah Aa rfl Aj)
  ·exact fun L hc hl hp=>AK.ofD rfl (Ah Aa rfl Aj)
  ·exact fun L hc hl hp=>AK.ofD rfl (Ah Aa rfl Aj)
  ·exact fun L hc hl hp=>AK.ofD rfl (Ah Aa rfl Aj)
  ·exact fun L hc hl hp=>AK.ofD rfl (Ah Aa rfl Aj)
  ·exact fun L hc hl hp=>AK.ofD rfl (Bv (Ax Aa rfl rfl rfl rfl rfl rfl rfl (j:=j) rfl hj) Aj)
  ·intro L hc hl hp;have h13:=At hc (j:=13) rfl ⟨7,.data⟩ (by simp) rfl hl;have h15:=At hc (j:=15) rfl ⟨13,.phase⟩ (by simp) rfl h13
   have e1:olf L=ol0:=by simp only [olf,h13,h15]
   have e2:olf (add L 7)=ol0:=by simp [olf,add,h13,h15]
   rw [e1,e2];exact AK.ofD rfl (Av Aa (v:=.pointer (some ⟨bx,0,none⟩)) rfl rfl (fun w' hw=>Ds hw hv) Aj)
  ·exact fun L hc hl hp=>AK.ofD rfl (Ah Aa rfl Aj)
  ·exact fun L hc hl hp=>AK.ofD rfl (Ah Aa rfl Aj)
  ·exact fun L hc hl hp=>AK.ofD rfl (Bv (Ax Aa rfl rfl rfl rfl rfl rfl rfl (j:=i) rfl hi) Aj)
  ·intro L hc hl hp;have h13:=At hc (j:=13) rfl ⟨11,.phase⟩ (by simp) rfl hl;have h15:=At hc (j:=15) rfl ⟨13,.phase⟩ (by simp) rfl h13
   have e1:olf L=ol0:=by simp only [olf,h13,h15]
   have e2:olf (add L 11)=ol0:=by simp [olf,add,h13,h15]
   rw [e1,e2];exact AK.ofD rfl (Av Aa (v:=.pointer (some ⟨bx,0,none⟩)) rfl rfl (fun w' hw=>Ds hw hu) Aj)
  ·exact fun L hc hl hp=>AK.ofD rfl (Bv (Ax Aa rfl rfl rfl rfl rfl rfl rfl (j:=i) rfl hi) Aj)
  ·intro L hc hl hp;have h15:=At hc (j:=15) rfl ⟨13,.phase⟩ (by simp) rfl hl
   have e1:olf L=ol0:=by simp only [olf,hl,h15]
   have e2:olf (add L 13)=ol1:=by simp [olf,add,h15]
   rw [e1,e2];exact AK.store Aa 0 rfl rfl (by intro x hx;rw [List.mem_singleton] at hx;subst hx;rfl) rfl (by rw [Nat.zero_add];exact C7 (by omega)) rfl
  ·exact fun L hc hl hp=>AK.ofD rfl (Bv (Ax Aa rfl rfl rfl rfl rfl rfl rfl (j:=j) rfl hj) Aj)
  ·intro L hc hl hp;have h13:L 13=true:=hp ⟨13,.phase⟩ (by simp) rfl
   have e1:olf L=ol1:=by simp only [olf,h13,hl]
   have e2:olf (add L 15)=ol2:=by simp [olf,add]
   rw [e1,e2];exact AK.store Aa 0 rfl rfl (by intro x hx;rw [List.mem_singleton] at hx;subst hx;rfl) rfl (by rw [Nat.zero_add];exact C7 (by rw [List.length_set];omega)) rfl
 clear olf ol1
 let ol3:OL:=[.blk g (.cells ⟨(cs.set i (.pointer (some ⟨bx,0,none⟩))).set j (.pointer (some ⟨bx,0,none⟩))⟩ 164 (0,0)) true,.blk bx (.cells ⟨[.int .u64 idx,.int .i64 atx,.int .i64 (i:Int)]⟩ 174 (0,0)) true]
 let ol4:OL:=[.blk g (.cells ⟨(cs.set i (.pointer (some ⟨bx,0,none⟩))).set j (.pointer (some ⟨bx,0,none⟩))⟩ 164 (0,0)) true,.blk bx (.cells ⟨[.int .u64 idx,.int .i64 atx,.int .i64 (j:Int)]⟩ 174 (0,0)) true]
 let olg:(Nat->Bool)->OL:=fun L=>match L 15 with
  |true=>ol4
  |false=>match L 12 with
   |true=>ol3
   |false=>ol2
 refine Ca ?_;refine Ck (by kernel_rfl) (by kernel_rfl) [.slice (some ⟨g,0,none⟩) n c,.int .i64 (i:Int),.pointer (some ⟨g,0 + i,none⟩),.pointer (some ⟨bx,0,none⟩),.slice (some ⟨g,0,none⟩) n c,.int .i64 (j:Int),.pointer (some ⟨g,0 + j,none⟩),.pointer (some ⟨bx,0,none⟩),.int .i64 (i:Int),.int .i64 (j:Int),.pointer (some ⟨bx,0,none⟩),.pointer (some ⟨bx,0 + 2,none⟩),undef,.pointer (some ⟨bx,0,none⟩),.pointer (some ⟨bx,0 + 2,none⟩),undef] rfl olg rfl ?_ (l':=[]) (ol':=ol4) (fun L h=>by simp only [olg,h 15 (by decide)]) (by repeat (first |exact Bg.nil)) ?_
 ·refine ⟨?_,?_,?_,?_,?_,?_,?_,?_,?_,?_,?_,?_,?_,?_,?_,?_,trivial⟩
  ·exact fun L hc hl hp=>AK.ofD rfl (Ah Aa rfl Aj)
  ·exact fun L hc hl hp=>AK.ofD rfl (Ah Aa rfl Aj)
  ·exact fun L hc hl hp=>AK.ofD rfl (Bv (Ax Aa rfl rfl rfl rfl rfl rfl rfl (j:=i) rfl hi) Aj)
  ·intro L hc hl hp;have h12:=At hc (j:=12) rfl ⟨3,.phase⟩ (by simp) rfl hl;have h15:=At hc (j:=15) rfl ⟨12,.phase⟩ (by simp) rfl h12
   have e1:olg L=ol2:=by simp only [olg,h12,h15]
   have e2:olg (add L 3)=ol2:=by simp [olg,add,h12,h15]
   rw [e1,e2];exact AK.ofD rfl (Av Aa (v:=.pointer (some ⟨bx,0,none⟩)) rfl rfl (fun w' hw=>Ds hw hg2) Aj)
  ·exact fun L hc hl hp=>AK.ofD rfl (Ah Aa rfl Aj)
  ·exact fun L hc hl hp=>AK.ofD rfl (Ah Aa rfl Aj)
  ·exact fun L hc hl hp=>AK.ofD rfl (Bv (Ax Aa rfl rfl rfl rfl rfl rfl rfl (j:=j) rfl hj) Aj)
  ·intro L hc hl hp;have h15:=At hc (j:=15) rfl ⟨7,.phase⟩ (by simp) rfl hl
   cases h12:L 12 with
   |false=>
    have e1:olg L=ol2:=by simp only [olg,h12,h15]
    have e2:olg (add L 7)=ol2:=by simp [olg,add,h12,h15]
    rw [e1,e2];exact AK.ofD rfl (Av Aa (v:=.pointer (some ⟨bx,0,none⟩)) rfl rfl (fun w' hw=>Ds hw hg3) Aj)
   |true=>
    have e1:olg L=ol3:=by simp only [olg,h12,h15]
    have e2:olg (add L 7)=ol3:=by simp [olg,add,h12,h15]
    rw [e1,e2];exact AK.ofD rfl (Av Aa (v:=.pointer (some ⟨bx,0,none⟩)) rfl rfl (fun w' hw=>Ds hw hg3) Aj)
  ·exact fun L hc hl hp=>AK.ofD rfl (Ah Aa rfl Aj)
  ·exact fun L hc hl hp=>AK.ofD rfl (Ah Aa rfl Aj)
  ·exact fun L hc hl hp=>AK.ofD rfl (Ah Aa rfl Aj)
  ·exact fun L hc hl hp=>AK.ofD rfl (Ah Aa rfl Aj)
  ·intro L hc hl hp;have h15:=At hc (j:=15) rfl ⟨12,.phase⟩ (by simp) rfl hl
   have e1:olg L=ol2:=by simp only [olg,hl,h15]
   have e2:olg (add L 12)=ol3:=by simp [olg,add,h15]
   rw [e1,e2];exact AK.store Aa 1 rfl rfl (by intro x hx;rw [List.mem_singleton] at hx;subst hx;rfl) rfl rfl rfl
  ·exact fun L hc hl hp=>AK.ofD rfl (Ah Aa rfl Aj)
  ·exact fun L hc hl hp=>AK.ofD rfl (Ah Aa rfl Aj)
  ·intro L hc hl hp;have h12:L 12=true:=hp ⟨12,.phase⟩ (by simp) rfl
   have e1:olg L=ol3:=by simp only [olg,h12,hl]
   have e2:olg (add L 15)=ol4:=by simp [olg,add]
   rw [e1,e2];exact AK.store Aa 1 rfl rfl (by intro x hx;rw [List.mem_singleton] at hx;subst hx;rfl) rfl rfl rfl
 exact CM rfl (fun w' hw=>⟨rfl,hw⟩)
structure En where
 b:Nat
 id:Int
 tm:Int
abbrev R6 (x:En) (i:Nat):Obj:=.cells ⟨[.int .u64 x.id,.int .i64 x.tm,.int .i64 (i:Int)]⟩ 174 (0,0)
abbrev Dq (x:En):Value:=.pointer (some ⟨x.b,0,none⟩)
def NJ (x y:En):Bool:=decide (x.tm < y.tm \/ (x.tm=y.tm/\x.id < y.id))
theorem IH:SW NJ:=by
 constructor
 ·intro a b h;simp only [NJ,decide_eq_true_eq,decide_eq_false_iff_not] at h ⊢;omega
 ·intro a b c h1 h2;simp only [NJ,decide_eq_false_iff_not] at h1 h2 ⊢;omega
def Rx (base ab mb:Nat) (s:List En):Vp:=
 ⟨fun w F v=>w.heap[ab]? =some (.cells ⟨[v,.map (some mb)]⟩ 170 (0,0))/\F ab/\w.ownsRow base 164 1 v s.length (s.map Dq)/\(∀ k,v.ownBlock=some k->F k)/\(∀ i x,s[i]? =some x->w.heap[x.b]? =some (R6 x i)/\F x.b)/\s.length <= 1073741824,
  fun {w w' A B v} ⟨h1,h2,h3,h4,h5,h6⟩ hk=>⟨((hk ab h2 (AV h1)).1).trans h1,(hk ab h2 (AV h1)).2,JO h3 (fun k hv=>(hk k (h4 k hv) (World.ownsRow.lt h3 k hv).2).1),fun k hv=>(hk k (h4 k hv) (World.ownsRow.lt h3 k hv).2).2,fun i x hx=>⟨((hk x.b (h5 i x hx).2 (AV (h5 i x hx).1)).1).trans (h5 i x hx).1,(hk x.b (h5 i x hx).2 (AV (h5 i x hx).1)).2⟩,h6⟩⟩
def LZ (base ab mb:Nat) (s:List En):Vp:=
 ⟨fun w F _=>∃ v,(Rx base ab mb s).at_ w F v,fun ⟨v,h⟩ hk=>⟨v,(Rx base ab mb s).keep h hk⟩⟩
theorem Hp.startR {w:World} {p:Vp} {v:Value} {F:Nat->Prop} (hv:p.at_ w F v):∃ F':Nat->Prop,Hp w w [.rep (fun w=>p.at_ w F' v) F' false]:=
 ⟨fun k=>F k/\k < w.heap.size,(Hp.refl w).more ⟨p.keep hv fun k hk hlt=>⟨rfl,hk,hlt⟩,Vp.loc,fun k hk=>hk.2⟩ fun e he=>(by cases he)⟩
theorem If {base ab mb:Nat} {s:List En} {w:World} {F:Nat->Prop} {v:Value} (h:(Rx base ab mb s).at_ w F v):∃ a c,v= .slice a s.length c/\s.length <= c:=by
 obtain ⟨a,c,h1,h2,_⟩:=Cz h.2.2.1;exact ⟨a,c,h1,h2⟩
theorem Ig {base ab mb:Nat} {s:List En} {w:World} {F:Nat->Prop} {v:Value} (h:(Rx base ab mb s).at_ w F v) (h0:0 < s.length):∃ g c,v= .slice (some ⟨g,0,none⟩) s.length c:=by
 obtain ⟨_,h2⟩:=h.2.2.1
 rcases h2 with ⟨_,h3⟩ |⟨g,cap,cur,h3,_⟩
 ·omega
 ·exact ⟨g,cap,h3⟩
theorem ER {base ab mb:Nat} {s:List En} {w:World} {F:Nat->Prop} {g c n:Nat} (h:(Rx base ab mb s).at_ w F (.slice (some ⟨g,0,none⟩) n c)) {i:Nat} {x:En} (hx:s[i]? =some x):w.cell? ⟨g,0 + i,none⟩=some (Dq x):=by
 obtain ⟨a,c',e,_⟩:=If h;cases e;rw [Nat.zero_add];have:=(List.getElem?_eq_some_iff.1 hx).1;exact Cp h.2.2.1 (by omega) (by rw [List.getElem?_map,hx];rfl)
theorem Hm {base ab mb:Nat} {s:List En} {w:World} {F:Nat->Prop} {v:Value} (h:(Rx base ab mb s).at_ w F v) {i:Nat} {x:En} (hx:s[i]? =some x) {j:Nat} {u:Value} (hu:[.int .u64 x.id,.int .i64 x.tm,.int .i64 (i:Int)][j]? =some u):w.cell? ⟨x.b,0 + j,none⟩=some u:=
 (Sl.of_blk (n:=3) (sz:=1) (off:=0) (h.2.2.2.2.1 i x hx).1 rfl (fun j u hu=>by rw [Nat.zero_add];exact hu)).at_ (by decide) hu
theorem Up (a:Option Addr) (n c:Nat) (w:World):Calls Tryz.prog 135 #[.slice a n c] w fun e w'=>e= .returned (.int .i64 (n:Int))/\Below w.heap.size w w':=by
 refine BL Tryz.func135 rfl rfl (Hp.refl w) ?_;repeat (first |refine Ai ?_ |refine Ab ?_ |refine Ag ?_ |refine AB ?_ |refine Ae Aa rfl ?_)
 exact AY rfl rfl (fun w' hw=>⟨rfl,hw.below (by repeat (first |exact An))⟩)
set_option maxHeartbeats 1000000 in
theorem Rs (base ab mb:Nat) (s:List En) (F0:Nat->Prop) (v:Value) (i j:Nat) (w:World) (h:(Rx base ab mb s).at_ w F0 v) (hi:i < s.length) (hj:j < s.length):
 Calls Tryz.prog 136 #[v,.int .i64 (i:Int),.int .i64 (j:Int)] w fun e w'=>e= .returned (.bool (Fz NJ s i j))/\Below w.heap.size w w':=by
 obtain ⟨F,hst⟩:=Hp.startR h;obtain ⟨g,c,rfl⟩:=Ig h (by omega);obtain ⟨x,hx⟩:∃ x,s[i]? =some x:=⟨_,List.getElem?_eq_getElem hi⟩;obtain ⟨y,hy⟩:∃ y,s[j]? =some y:=⟨_,List.getElem?_eq_getElem hj⟩
 have hl:Fz NJ s i j=NJ x y:=by unfold Fz;rw [hx,hy]
 rw [hl];refine EO Tryz.func136 rfl rfl hst ?_;repeat (first |refine AZ (by kernel_rfl) (by kernel_rfl) ?_ |refine Ah Aa rfl ?_ |refine Ai ?_ |refine Ab ?_ |refine Ag ?_ |refine Ae Aa rfl ?_)
 refine Bv (Ax Aa rfl rfl rfl rfl rfl rfl rfl (j:=i) rfl hi) ?_;skip;refine Av Aa (v:=Dq x) rfl rfl (fun w' hw=>ER (hw.own _ (Af (i:=0) rfl)).1 hx) ?_;repeat (first |refine Ah Aa rfl ?_)
 refine Av Aa (v:=.int .i64 x.tm) rfl rfl (fun w' hw=>Hm (hw.own _ (Af (i:=0) rfl)).1 hx (j:=1) rfl) ?_;repeat (first |refine Ah Aa rfl ?_)
 refine Bv (Ax Aa rfl rfl rfl rfl rfl rfl rfl (j:=j) rfl hj) ?_;skip;refine Av Aa (v:=Dq y) rfl rfl (fun w' hw=>ER (hw.own _ (Af (i:=0) rfl)).1 hy) ?_;repeat (first |refine Ah Aa rfl ?_)
 refine Av Aa (v:=.int .i64 y.tm) rfl rfl (fun w' hw=>Hm (hw.own _ (Af (i:=0) rfl)).1 hy (j:=1) rfl) ?_;repeat (first |refine AP rfl ?_ |refine Ah Aa rfl ?_)
 refine Ak rfl (fun h1=>?_) (fun h1=>?_)
 ·repeat (first |refine AZ (by kernel_rfl) (by kernel_rfl) ?_ |refine Ah Aa rfl ?_ |refine Ai ?_)
  refine Bv (Ax Aa rfl rfl rfl rfl rfl rfl rfl (j:=i) rfl hi) ?_;skip;refine Av Aa (v:=Dq x) rfl rfl (fun w' hw=>ER (hw.own _ (Af (i:=0) rfl)).1 hx) ?_;repeat (first |refine Ah Aa rfl ?_)
  refine Av Aa (v:=.int .i64 x.tm) rfl rfl (fun w' hw=>Hm (hw.own _ (Af (i:=0) rfl)).1 hx (j:=1) rfl) ?_;repeat (first |refine Ah Aa rfl ?_)
  refine Bv (Ax Aa rfl rfl rfl rfl rfl rfl rfl (j:=j) rfl hj) ?_;skip;refine Av Aa (v:=Dq y) rfl rfl (fun w' hw=>ER (hw.own _ (Af (i:=0) rfl)).1 hy) ?_;repeat (first |refine Ah Aa rfl ?_)
  refine Av Aa (v:=.int .i64 y.tm) rfl rfl (fun w' hw=>Hm (hw.own _ (Af (i:=0) rfl)).1 hy (j:=1) rfl) ?_;repeat (first |refine AP rfl ?_ |refine Ah Aa rfl ?_ |refine AI ?_ |refine AB ?_)
  exact AY rfl rfl (fun w' hw=>⟨congrArg (fun b=>Ending.returned (Value.bool b)) (by unfold NJ;rw [decide_eq_decide];omega),hw.below (by repeat (first |exact An |refine BE ?_))⟩)
 ·repeat (first |refine AZ (by kernel_rfl) (by kernel_rfl) ?_ |refine Ah Aa rfl ?_ |refine Ai ?_ |refine Ad ?_ |refine Ao ?_)
  refine Bv (Ax Aa rfl rfl rfl rfl rfl rfl rfl (j:=i) rfl hi) ?_;skip;refine Av Aa (v:=Dq x) rfl rfl (fun w' hw=>ER (hw.own _ (Af (i:=0) rfl)).1 hx) ?_;repeat (first |refine Ah Aa rfl ?_)
  refine Av Aa (v:=.int .u64 x.id) rfl rfl (fun w' hw=>Hm (hw.own _ (Af (i:=0) rfl)).1 hx (j:=0) rfl) ?_;repeat (first |refine Ah Aa rfl ?_)
  refine Bv (Ax Aa rfl rfl rfl rfl rfl rfl rfl (j:=j) rfl hj) ?_;skip;refine Av Aa (v:=Dq y) rfl rfl (fun w' hw=>ER (hw.own _ (Af (i:=0) rfl)).1 hy) ?_;repeat (first |refine Ah Aa rfl ?_)
  refine Av Aa (v:=.int .u64 y.id) rfl rfl (fun w' hw=>Hm (hw.own _ (Af (i:=0) rfl)).1 hy (j:=0) rfl) ?_;repeat (first |refine AP rfl ?_ |refine Ah Aa rfl ?_ |refine AB ?_)
  exact AY rfl rfl (fun w' hw=>⟨congrArg (fun b=>Ending.returned (Value.bool b)) (by unfold NJ;rw [decide_eq_decide];omega),hw.below (by repeat (first |exact An |refine BE ?_))⟩)
theorem Hp.startL {w:World}:∀ {L:List (Nat × Obj)},(∀ p ∈ L,w.heap[p.1]? =some p.2)->(L.map Prod.fst).Nodup->Hp w w (L.map fun p=>HE.blk p.1 p.2 true)
 | [],_,_=>Hp.refl w
 |p::L,h,hn=>by
  rw [List.map_cons,List.nodup_cons] at hn;refine (Hp.startL (fun q hq=>h q (List.mem_cons_of_mem _ hq)) hn.2).more (x:=.blk p.1 p.2 true) (h p List.mem_cons_self) fun e he _ k hk hk2=>?_;obtain ⟨q,hq,rfl⟩:=List.mem_map.1 he;have h1:p.1=k:=Option.some.inj hk;have h2:q.1=k:=Option.some.inj hk2;exact hn.1 (by rw [h1,<-h2];exact List.mem_map_of_mem hq)
theorem Hp.widenL {w w':World} {A:OL} {Ψ:World->Prop} {F:Nat->Prop} (h:Hp w w' A) (hF:∀ e ∈ A,∀ k,e.has k->F k) (hΨ:Ψ w') (hl:PH Ψ F) (hlt:∀ k,F k->k < w.heap.size):Hp w w' [.rep Ψ F true]:=
 ⟨h.os,h.tape,h.output,h.size,fun k hk he=>h.old k hk fun e hm hx hh=>he _ List.mem_cons_self rfl (hF e hm k hh),
  fun e hm=>by
   rw [List.mem_singleton] at hm;subst hm
   exact ⟨hΨ,hl,fun k hk=>Nat.lt_of_lt_of_le (hlt k hk) h.size⟩,
  List.pairwise_singleton _ _⟩
abbrev R7 (ab:Nat):Value:=.iface 172 (.pointer (some ⟨ab,0,none⟩))
theorem Ko {base ab mb:Nat} {s:List En} {w:World} {F:Nat->Prop} {v:Value} (h:(Rx base ab mb s).at_ w F v):(loadVar 167 ⟨ab,0,none⟩).run Tryz.prog w= .ok v w:=
 E4 Aa (t:=167) rfl rfl (by
  have h1:=Sl.of_blk (n:=2) (sz:=1) (off:=0) (xs:=[v,.map (some mb)]) h.1 rfl (fun j u hu=>by rw [Nat.zero_add];exact hu);have:=h1.at_ (j:=0) (by decide) rfl
  rwa [Nat.zero_add] at this)
theorem Ur {base ab mb:Nat} {s:List En} {w:World} {F:Nat->Prop} (h:(LZ base ab mb s).at_ w F (.bool true)):EX Tryz.prog (R7 ab) "Len" [] w fun e w'=>e= .returned (.int .i64 (s.length:Int))/\Below w.heap.size w w':=by
 obtain ⟨v,hv⟩:=h;obtain ⟨a,c,rfl,_⟩:=If hv;exact Iz (f:=135) (by kernel_rfl) (by kernel_rfl) Tryz.call135 (Ko hv) (Up a s.length c w)
theorem RB {base ab mb:Nat} {s:List En} {w:World} {F:Nat->Prop} {i j:Nat} (h:(LZ base ab mb s).at_ w F (.bool true)) (hi:i < s.length) (hj:j < s.length):EX Tryz.prog (R7 ab) "Less" [.int .i64 (i:Int),.int .i64 (j:Int)] w fun e w'=>e= .returned (.bool (Fz NJ s i j))/\Below w.heap.size w w':=by
 obtain ⟨v,hv⟩:=h;exact Iz (f:=136) (by kernel_rfl) (by kernel_rfl) Tryz.call136 (Ko hv) (Rs base ab mb s F v i j w hv hi hj)
set_option maxHeartbeats 1000000 in
theorem Rz {base ab mb:Nat} {s:List En} {w:World} {F:Nat->Prop} {i j:Nat} (h:(LZ base ab mb s).at_ w F (.bool true)) (hF:∀ k,F k->k < w.heap.size) (hi:i < s.length) (hj:j < s.length):
 EX Tryz.prog (R7 ab) "Swap" [.int .i64 (i:Int),.int .i64 (j:Int)] w fun e w'=>e= .returned (.tuple #[])/\Hp w w' [.rep (fun w=>(LZ base ab mb (M4 s i j)).at_ w F (.bool true)) F true]:=by
 obtain ⟨v,hv⟩:=h;obtain ⟨g,c,rfl⟩:=Ig hv (by omega);obtain ⟨x,hx⟩:∃ x,s[i]? =some x:=⟨_,List.getElem?_eq_getElem hi⟩;obtain ⟨y,hy⟩:∃ y,s[j]? =some y:=⟨_,List.getElem?_eq_getElem hj⟩
 have hs:M4 s i j=(s.set i y).set j x:=by unfold M4;rw [hx,hy]
 have hv0:=hv;obtain ⟨h1,h2,⟨h3,h4⟩,h5,h6,h7⟩:=hv
 rcases h4 with ⟨h4,_⟩ |⟨g',cap,cur,h4,hb,hg,hn,hm,hz,ht⟩
 ·cases h4
 ·cases h4;have hcur:cur=⟨cur.toList⟩:=rfl;rw [hcur] at hg
  have hlen:cur.toList.length=c:=by rw [Array.length_toList,hz,Nat.mul_one]
  have hat:∀ (k:Nat) (z:En),s[k]? =some z->cur.toList[k]? =some (Dq z):=fun k z hk=>by
   have h8:k < s.length:=(List.getElem?_eq_some_iff.1 hk).1
   have h9:(cur.toList.take (s.length * 1))[k]? =(s.map Dq)[k]? :=by rw [ht]
   rw [List.getElem?_take_of_lt (by omega),List.getElem?_map,hk] at h9;exact h9
  have hgx:∀ (k:Nat) (z:En),s[k]? =some z->z.b ≠ g:=fun k z hk hh=>by
   have h9:=(h6 k z hk).1;rw [hh,hg] at h9;exact absurd (Obj.cells.inj (Option.some.inj h9)).2.1 (by decide)
  have hga:ab ≠ g:=fun hh=>by
   rw [hh,hg] at h1;exact absurd (Obj.cells.inj (Option.some.inj h1)).2.1 (by decide)
  have hax:∀ (k:Nat) (z:En),s[k]? =some z->z.b ≠ ab:=fun k z hk hh=>by
   have h9:=(h6 k z hk).1;rw [hh,h1] at h9;exact absurd (Obj.cells.inj (Option.some.inj h9)).2.1 (by decide)
  have hpl:∀ (k:Nat) (z:En) (k':Nat) (z':En),s[k]? =some z->s[k']? =some z'->z.b=z'.b->k=k':=fun k z k' z' hk hk' hh=>by
   have h9:=(h6 k z hk).1;rw [hh,(h6 k' z' hk').1] at h9;have h10:=(Obj.cells.inj (Option.some.inj h9)).1;simp only [Array.mk.injEq,List.cons.injEq,Value.int.injEq,true_and,and_true] at h10;omega
  refine Iz (f:=137) (by kernel_rfl) (by kernel_rfl) Tryz.call137 (Ko hv0) ?_
  have hfin:∀ (w':World) (A:OL),Hp w w' A->(∀ e ∈ A,∀ k,e.has k->k=g \/ k=x.b \/ k=y.b)->w'.heap[g]? =some (.cells ⟨(cur.toList.set i (Dq y)).set j (Dq x)⟩ 164 (0,0))->w'.heap[x.b]? =some (R6 x j)->w'.heap[y.b]? =some (R6 y i)->Hp w w' [.rep (fun w=>(LZ base ab mb (M4 s i j)).at_ w F (.bool true)) F true]:=fun w' A hA hAk k1 k2 k3=>by
   have hold:∀ k o,w.heap[k]? =some o->k ≠ g->k ≠ x.b->k ≠ y.b->w'.heap[k]? =some o:=fun k o ho hk1 hk2 hk3=>(hA.old k (AV ho) fun e he _ hh=>by
    rcases hAk e he k hh with h |h |h
    ·exact hk1 h
    ·exact hk2 h
    ·exact hk3 h).trans ho
   refine hA.widenL (fun e he k hk=>?_) ⟨.slice (some ⟨g,0,none⟩) s.length c,hold _ _ h1 hga (fun h=>hax i x hx h.symm) (fun h=>hax j y hy h.symm),h2,?_,h5,fun k z hk=>?_,?_⟩ (Vp.loc (p:=LZ base ab mb (M4 s i j))) hF
   ·rcases hAk e he k hk with h |h |h
    ·rw [h];exact h5 g rfl
    ·rw [h];exact (h6 i x hx).2
    ·rw [h];exact (h6 j y hy).2
   ·rw [CW];refine ⟨by rw [List.length_map,CW,Nat.mul_one],.inr ⟨g,c,_,rfl,hb,k1,hn,hm,?_,?_⟩⟩
    ·show (List.set _ _ _).length=_;rw [List.length_set,List.length_set,hlen,Nat.mul_one]
    ·show List.take _ (List.set _ _ _)=_;rw [hs,List.take_set,List.take_set,ht,List.map_set,List.map_set]
   ·have hkl:k < s.length:=by have:=(List.getElem?_eq_some_iff.1 hk).1;rwa [CW] at this
    rw [FN hi hj] at hk;unfold tr at hk;split at hk
    ·rename_i hki;subst hki;rw [hy] at hk;cases hk;exact ⟨k3,(h6 j y hy).2⟩
    ·split at hk
     ·rename_i hki hkj;subst hkj;rw [hx] at hk;cases hk;exact ⟨k2,(h6 i x hx).2⟩
     ·rename_i hki hkj;exact ⟨hold _ _ (h6 k z hk).1 (hgx k z hk) (fun hh=>hki (hpl k z i x hk hx hh)) (fun hh=>hkj (hpl k z j y hk hy hh)),(h6 k z hk).2⟩
   ·rw [CW];exact h7
  by_cases hij:i=j
  ·subst hij;rw [hx] at hy;cases hy;refine (Rl g s.length c i i x.b cur.toList x.id x.tm (i:Int) w (Hp.startL (L:=[(g,_),(x.b,_)]) (fun p hp=>?_) ?_) hi hi (by omega) (hat i x hx) (hat i x hx) rfl).mono fun e w' ⟨he,h8⟩=>⟨he,?_⟩
   ·simp only [List.mem_cons,List.not_mem_nil,or_false] at hp
    rcases hp with rfl |rfl
    ·exact hg
    ·exact (h6 i x hx).1
   ·simp only [List.map_cons,List.map_nil,List.nodup_cons,List.mem_singleton,List.not_mem_nil,not_false_eq_true,List.nodup_nil,and_true];exact fun h=>hgx i x hx h.symm
   ·refine hfin w' _ h8 (fun e he k hk=>?_) (h8.own _ (Af (i:=0) rfl)) (h8.own _ (Af (i:=1) rfl)) (h8.own _ (Af (i:=1) rfl));simp only [List.mem_cons,List.not_mem_nil,or_false] at he
    rcases he with rfl |rfl
    ·exact .inl (Option.some.inj hk).symm
    ·exact .inr (.inl (Option.some.inj hk).symm)
  ·have hxy:x.b ≠ y.b:=fun hh=>hij (hpl i x j y hx hy hh);refine (Rk g s.length c i j x.b y.b cur.toList x.id x.tm (i:Int) y.id y.tm (j:Int) w (Hp.startL (L:=[(g,_),(x.b,_),(y.b,_)]) (fun p hp=>?_) ?_) hi hj (by omega) (hat i x hx) (hat j y hy)).mono fun e w' ⟨he,h8⟩=>⟨he,?_⟩
   ·simp only [List.mem_cons,List.not_mem_nil,or_false] at hp
    rcases hp with rfl |rfl |rfl
    ·exact hg
    ·exact (h6 i x hx).1
    ·exact (h6 j y hy).1
   ·simp only [List.map_cons,List.map_nil,List.nodup_cons,List.mem_cons,List.mem_singleton,List.not_mem_nil,not_false_eq_true,List.nodup_nil,and_true,not_or,or_false];exact ⟨⟨fun h=>hgx i x hx h.symm,fun h=>hgx j y hy h.symm⟩,hxy⟩
   ·refine hfin w' _ h8 (fun e he k hk=>?_) (h8.own _ (Af (i:=0) rfl)) (h8.own _ (Af (i:=1) rfl)) (h8.own _ (Af (i:=2) rfl));simp only [List.mem_cons,List.not_mem_nil,or_false] at he
    rcases he with rfl |rfl |rfl
    ·exact .inl (Option.some.inj hk).symm
    ·exact .inr (.inl (Option.some.inj hk).symm)
    ·exact .inr (.inr (Option.some.inj hk).symm)
noncomputable def GY (base ab mb:Nat):DJ Tryz.prog (R7 ab) (List En) where
 p:=LZ base ab mb
 len:=List.length
 lt:=Fz NJ
 sw:=M4
 lenSw:=CW
 hle:=fun ⟨v,h⟩=>h.2.2.2.2.2
 hlen:=Ur
 hlt:=RB
 hsw:=Rz
theorem E9 (base ab mb:Nat):XI (GY base ab mb) NJ:=⟨fun _=>rfl,fun _ _ _=>rfl,fun _ _ _=>rfl⟩
def JH (base:Nat) (E:TypeId) (sz n:Nat) (xs:List Value):Vp:=
 ⟨fun w F v=>w.ownsRow base E sz v n xs/\∀ k,v.ownBlock=some k->F k,
  fun {w w' A B v} ⟨h1,h2⟩ hk=>⟨JO h1 (fun k hv=>(hk k (h2 k hv) (World.ownsRow.lt h1 k hv).2).1),fun k hv=>(hk k (h2 k hv) (World.ownsRow.lt h1 k hv).2).2⟩⟩
section
variable {P:Program} {tb:EU} {n:Nat} {w0:World} {all:Array Oper} {os:List Oper} {o:Oper} {l:FL} {ol:OL} {K:FL->OL->Prop} {Q:B1} {d:Nat} {r:Nat->Option Value}
theorem Ls (ht:AX P tb) {x:Operand} {xt t:TypeId} {v:Value} {ti:TI} (hs:BY n all r o=some (d,.typeAssert x xt t false)) (hx:ev r x=some (.iface t v)) (hti:tl tb t=some ti)
 (hd:(match ti.desc with | .interface _=>false |_=>true)=true):Ht P n w0 all r ol o d v:=
 Ge hs fun ac w hrd hh hop=>by
  have h1:=ht.under' hti
  have h2:(Instr.typeAssert (.iface t v) xt t false).run P w= .ok v w:=by
   unfold Instr.typeAssert
   cases hdd:ti.desc<;>rw [hdd] at hd h1<;>first |(exact Bool.noConfusion (show false=true from hd)) |simp [run_underlying h1]
  unfold execOp;simp [hop,hrd.ev hx,h2]
theorem PE (ht:AX P tb) (i:Nat) {t e:TypeId} {ty:TypeId} {s x:Operand} {v:Value} {m k c sz:Nat} {A:Option Addr} {xs news:List Value} {ti te:TI} {base:Nat} {F:Nat->Prop}
 (hs:BY n all (AQ l) o=some (d,.call ⟨.builtin .append,#[s,x],#[t,t]⟩)) (hv:ev (AQ l) s=some v) (hx:ev (AQ l) x=some (.slice A k c))
 (hi:B9 ol i=some (.rep (fun w=>(JH base e sz m xs).at_ w F v) F true)) (hti:tl tb t=some ti) (hd:ti.desc= .slice e) (hte:tl tb e=some te) (hsz:te.size=sz) (hzs:te.zero.cells.size=sz) (hpos:0 < sz)
 (hr:∀ w,Hp w0 w ol->Sl w sz A k news) (h1:∀ u ∈ news,u.oneCell'=true) (hmax:m + k <= maxLen) (hbytes:(m + k) * te.bytes <= 140737488355328) (hbase:base <= w0.heap.size)
 (kk:∀ A' c' (F':Nat->Prop),m + k <= c'->c' <= maxLen->(∀ k,F k->F' k)->(∀ k,F' k->F k \/ w0.heap.size <= k)->∃ ol',C8 ol i (.rep (fun w=>(JH base e sz (m + k) (xs ++ news)).at_ w F' (.slice A' (m + k) c')) F' true)=some ol'/\S P n w0 all os ((d,.slice A' (m + k) c')::l) ol' K Q):
 S P n w0 all (o::os) l ol K Q:=by
 obtain ⟨hdst,hlt,hg,hop⟩:=CG hs;refine ⟨fun a w hf hh=>?_⟩;obtain ⟨inf,hinf,hz,hs1,hs2⟩:=(ht e te hte).2;obtain ⟨⟨hown,hF⟩,_,hFlt⟩:=hh.own _ (Af hi);have hu:=ht.under' hti;rw [hd] at hu;obtain ⟨v',w',hrun,h2,h3,h4⟩:=EJ (P:=P) w base t o.type e inf te.zero sz te.bytes hu hinf hz (hs1.trans hsz) hs2 hzs hpos v m xs hown A k c news (hr w hh) h1 hmax hbytes (Nat.le_trans hbase hh.size);obtain ⟨A',c',rfl,hmc,hcm⟩:=Cz h2
 have hnb:∀ j,(Value.slice A' (m + k) c').ownBlock=some j->F j \/ j=w.heap.size:=fun j h=>by
  rcases h4 with h4 |h4
  ·exact .inl (hF j (h4.symm.trans h))
  ·have:some j=some w.heap.size:=h.symm.trans h4;cases this;exact .inr rfl
 obtain ⟨ol',hput,kS⟩:=kk A' c' (fun j=>F j \/ (Value.slice A' (m + k) c').ownBlock=some j) hmc hcm (fun j h=>.inl h) (fun j h=>by
  have hsz:=hh.size
  rcases h with h |h
  ·exact .inl h
  ·rcases hnb j h with h |h
   ·exact .inl h
   ·exact .inr (by omega))
 refine B2 (v:=.slice A' (m + k) c') (Be hf.rd hg) ?_ ?_ (w':=w')
 ·unfold execOp;simp [hop,resolve,invoke,builtin,hf.rd.ev hv,hf.rd.ev hx,hrun]
 ·rw [hdst];refine kS.out _ _ (hf.put hlt _) ?_;obtain ⟨pre,post,e1,e2⟩:=CP hi hput;rw [e1] at hh;rw [e2];refine hh.turn rfl h3.os h3.tape h3.output h3.size (fun j hj hne=>h3.block j hj (fun hh=>hne (hF j hh.symm))) ⟨⟨h2,fun j hj=>.inr hj⟩,Vp.loc,fun j hj=>?_⟩ (fun j hj=>?_) (fun j hj=>.inr (.inl hj))
  ·rcases hj with h |h
   ·exact Nat.lt_of_lt_of_le (hFlt j h) h3.size
   ·exact (World.ownsRow.lt h2 j h).2
  ·rcases hj with h |h
   ·exact .inl h
   ·rcases hnb j h with h |h
    ·exact .inl h
    ·exact .inr (by omega)
theorem Hp.widenM {w w':World} {A:OL} {Ψ:World->Prop} {F:Nat->Prop} (h:Hp w w' A) (hF:∀ e ∈ A,∀ k,e.has k->F k) (hΨ:Ψ w') (hl:PH Ψ F) (hlt:∀ k,F k->k < w'.heap.size):Hp w w' [.rep Ψ F true]:=
 ⟨h.os,h.tape,h.output,h.size,fun k hk he=>h.old k hk fun e hm hx hh=>he _ List.mem_cons_self rfl (hF e hm k hh),
  fun e hm=>by
   rw [List.mem_singleton] at hm;subst hm
   exact ⟨hΨ,hl,hlt⟩,
  List.pairwise_singleton _ _⟩
end
theorem Pz (ab g n c mb:Nat) (xs:List Value) (p:Option Addr) (w:World) (hb:w.heap[ab]? =some (.cells ⟨[.slice (some ⟨g,0,none⟩) (n + 1) c,.map (some mb)]⟩ 170 (0,0))) (hr:w.ownsRow 0 164 1 (.slice (some ⟨g,0,none⟩) (n + 1) c) (n + 1) xs) (hg:g ≠ ab) (hx:xs[n]? =some (.pointer p)) (hn:n <= 1073741824) (hnc:n <= c):
 Calls Tryz.prog 138 #[.pointer (some ⟨ab,0,none⟩)] w fun e w'=>e= .returned (.iface 164 (.pointer p))/\Hp w w' [.blk ab (.cells ⟨[.slice (some ⟨g,0,none⟩) n c,.map (some mb)]⟩ 170 (0,0)) true]:=by
 obtain ⟨F,hF,hst⟩:=Hp.startV (p:=JH 0 164 1 (n + 1) xs) (A:=fun k=>k ≠ ab) hb ⟨hr,fun k hk=>by
  have:k=g:=(Option.some.inj hk).symm
  rw [this];exact hg⟩ (fun h=>h rfl)
 refine BL Tryz.func138 rfl rfl hst ?_;repeat (first |refine Ai ?_ |refine Ab ?_ |refine Ag ?_ |refine AE Aa rfl (by omega) ?_ |refine Ae Aa rfl ?_ |refine Ap Aa 0 rfl rfl rfl ?_)
 refine BF (Ax Aa rfl rfl rfl rfl rfl rfl rfl (j:=n) (by omega) (by omega)) ?_
 refine Bb Aa (v:=.pointer p) rfl rfl (fun w' hw=>by
  rw [Nat.zero_add]
  exact Cp (hw.own _ (Af (i:=1) rfl)).1.1 (by omega) hx) ?_
 repeat (first |refine Ai ?_ |refine Ab ?_ |refine Ag ?_ |refine Ae Aa rfl ?_ |refine Ap Aa 0 rfl rfl rfl ?_)
 refine BF (EF Aa rfl rfl rfl rfl rfl rfl (H:=n) (by omega) (by omega)) ?_;repeat (first |refine Ai ?_ |refine Ab ?_ |refine Ag ?_ |refine Ae Aa rfl ?_ |refine Aw Aa 0 rfl rfl rfl rfl rfl rfl ?_)
 refine BF (IN Aa rfl rfl rfl rfl) ?_;repeat (first |refine Ag ?_ |refine AB ?_ |refine Ae Aa rfl ?_)
 exact AY rfl rfl (fun w' hw=>⟨rfl,hw.less (by repeat (first |exact Au.nil |refine Au.keep ?_ |refine Au.dropR ?_))⟩)
theorem NR (ab xb m mb:Nat) (id tm pl:Int) (v:Value) (xs:List Value) (F:Nat->Prop) (w:World) (hst:Hp w w [.blk ab (.cells ⟨[v,.map (some mb)]⟩ 170 (0,0)) true,.blk xb (.cells ⟨[.int .u64 id,.int .i64 tm,.int .i64 pl]⟩ 174 (0,0)) true,.rep (fun w=>(JH 0 164 1 m xs).at_ w F v) F true]) (hm:m <= 1073741823) (hv:∃ a c,v= .slice a m c/\m <= c):
 Calls Tryz.prog 139 #[.pointer (some ⟨ab,0,none⟩),.iface 164 (.pointer (some ⟨xb,0,none⟩))] w fun e w'=>e= .returned (.tuple #[])/\∃ A' c' F',(∀ k,F k->F' k)/\(∀ k,F' k->F k \/ w.heap.size <= k)/\Hp w w' [.blk ab (.cells ⟨[.slice A' (m + 1) c',.map (some mb)]⟩ 170 (0,0)) true,.blk xb (.cells ⟨[.int .u64 id,.int .i64 tm,.int .i64 (m:Int)]⟩ 174 (0,0)) true,.rep (fun w=>(JH 0 164 1 (m + 1) (xs ++ [.pointer (some ⟨xb,0,none⟩)])).at_ w F' (.slice A' (m + 1) c')) F' true]:=by
 obtain ⟨a,c,rfl,hmc⟩:=hv;refine BS Tryz.func139 rfl rfl hst ?_;repeat (first |refine Ai ?_ |refine Ab ?_ |refine Ae Aa rfl ?_)
 refine BF (Ls Aa rfl rfl rfl rfl) ?_;repeat (first |refine Ai ?_ |refine Ab ?_ |refine Ag ?_ |refine Ae Aa rfl ?_ |refine Aq ?_ |refine Ap Aa 0 rfl rfl rfl ?_ |refine Aw Aa 1 rfl rfl rfl rfl rfl rfl ?_)
 refine AO Aa rfl rfl rfl rfl rfl rfl rfl rfl rfl rfl rfl rfl (fun nb hnb=>?_);refine PE (ty:=0) Aa 3 (sz:=1) (news:=[.pointer (some ⟨xb,0,none⟩)]) rfl rfl rfl rfl rfl rfl rfl rfl rfl (by decide) (fun w' h=>Sl.of_blk (h.own _ (Af (i:=0) rfl)) rfl fun j u hu=>by rw [Nat.zero_add];exact hu) (fun u hu=>by rw [List.mem_singleton] at hu;subst hu;rfl) (by simp only [maxLen];omega) (by show (_ + _) * 8 <= _;omega) (Nat.zero_le _) (fun A' c' F' h1 h2 h3 h4=>⟨_,rfl,?_⟩);repeat (first |refine Ag ?_ |refine Ae Aa rfl ?_ |refine Aw Aa 1 rfl rfl rfl rfl rfl rfl ?_)
 exact CM rfl (fun w' hw=>⟨rfl,A',c',F',h3,h4,hw.less (by repeat (first |exact Au.nil |refine Au.keep ?_ |refine Au.dropB (by first |assumption |omega) ?_))⟩)
set_option maxHeartbeats 1000000 in
theorem Pj {iv:Value} {St:Type} (O:DJ Tryz.prog iv St) (q:Vp) (s1:St) (F:Nat->Prop) (w:World) (h:q.at_ w F (.bool true)) (hF:∀ k,F k->k < w.heap.size) (hi:0 < O.len s1) (u:Value)
 (hp:∀ w1,q.at_ w1 F (.bool true)->(∀ k,F k->k < w1.heap.size)->EX Tryz.prog iv "Push" [u] w1 fun e w'=>e= .returned (.tuple #[])/\∃ F',(∀ k,F k->F' k)/\(∀ k,F' k->F k \/ w1.heap.size <= k)/\Hp w1 w' [.rep (fun w=>(O.p s1).at_ w F' (.bool true)) F' true]):
 Calls Tryz.prog 94 #[iv,u] w fun e w'=>e= .returned (.tuple #[])/\∃ F',(∀ k,F k->F' k)/\(∀ k,F' k->F k \/ w.heap.size <= k)/\Hp w w' [.rep (fun w=>(O.p (O.up (O.len s1) s1 (O.len s1 - 1))).at_ w F' (.bool true)) F' true]:=by
 refine BS Tryz.func94 rfl rfl (Hp.startO h hF) ?_;repeat (first |refine Ai ?_ |refine Ab ?_ |refine Ae Aa rfl ?_)
 refine RI rfl rfl rfl (fun w1 g=>?_);have g0:=g.own _ (Af (i:=0) rfl);have hsz:=g.size;refine (hp w1 g0.1 g0.2.2).mono fun e w' ⟨he,F',g1,g2,g3⟩=>⟨_,_,he,g.graftT 0 rfl g3 g1 g2 rfl,?_⟩;have hle:=O.hle (g3.own _ (Af (i:=0) rfl)).1;repeat (first |refine Ag ?_ |refine Ae Aa rfl ?_ |refine Aq ?_)
 refine FY rfl rfl rfl (fun w1 g=>O.hlen (g.own _ (Af (i:=0) rfl)).1) ?_;repeat (first |refine AE Aa rfl (by omega) ?_)
 have hup:=fun w1 h1 h2=>Nv O s1 (O.len s1 - 1) F' w1 h1 h2 (by omega);rw [show O.len s1 - 1 + 1=O.len s1 by omega,show ((O.len s1 - 1:Nat):Int)=(O.len s1:Int) - 1 by omega] at hup;refine CB 0 rfl Tryz.call98 rfl (fun w1 g=>(hup w1 (g.own _ (Af (i:=0) rfl)).1 (g.own _ (Af (i:=0) rfl)).2.2).mono fun e w' ⟨he,g9⟩=>⟨_,_,F',he,g9,fun _ h=>h,fun _ h=>.inl h,_,rfl,?_⟩);repeat (first |refine Ag ?_)
 exact CM rfl (fun w' hw=>⟨rfl,F',g1,fun k hk=>(g2 k hk).imp id (fun h=>Nat.le_trans hsz h),hw⟩)
def UK (ab mb:Nat) (s:List En) (x:En) (p:Nat):Vp:=
 ⟨fun w F v=>(LZ 0 ab mb s).at_ w F v/\w.heap[x.b]? =some (R6 x p)/\F x.b,fun {w w' A B v} ⟨h1,h2,h3⟩ hk=>⟨(LZ 0 ab mb s).keep h1 hk,((hk x.b h3 (AV h2)).1).trans h2,(hk x.b h3 (AV h2)).2⟩⟩
theorem Dr {w:World} {a b:Nat} {x y:Array Value} {t u:TypeId} {p q:Nat × Nat} (ha:w.heap[a]? =some (.cells x t p)) (hb:w.heap[b]? =some (.cells y u q)) (h:t ≠ u):a ≠ b:=fun hh=>by
 rw [hh,hb] at ha;exact h (Obj.cells.inj (Option.some.inj ha)).2.1.symm
theorem IB {w:World} {a b:Nat} {x:Array Value} {t:TypeId} {p:Nat × Nat} {es:Array MapEntry} {c:Nat} (ha:w.heap[a]? =some (.cells x t p)) (hb:w.heap[b]? =some (.map es c)):a ≠ b:=fun hh=>by
 rw [hh,hb] at ha;cases ha
theorem HJ {w:World} {base n:Nat} {e:TypeId} {v:Value} {xs:List Value} (h:w.ownsRow base e 1 v n xs) {k:Nat} (hk:v.ownBlock=some k):∃ cur,w.heap[k]? =some (.cells cur e (0,0)):=by
 obtain ⟨_,h2⟩:=h
 rcases h2 with ⟨rfl,_⟩ |⟨g,cap,cur,rfl,h3,h4,_⟩
 ·cases hk
 ·cases hk;exact ⟨cur,h4⟩
theorem OI {ab mb:Nat} {s:List En} {x:En} {w:World} {F:Nat->Prop} (h:(LZ 0 ab mb s).at_ w F (.bool true)) (hF:∀ k,F k->k < w.heap.size) (hx:s[s.length - 1]? =some x):
 EX Tryz.prog (R7 ab) "Pop" [] w fun e w'=>e= .returned (.iface 164 (Dq x))/\Hp w w' [.rep (fun w=>(UK ab mb (s.take (s.length - 1)) x (s.length - 1)).at_ w F (.bool true)) F true]:=by
 obtain ⟨v,hv⟩:=h;have h0:=(List.getElem?_eq_some_iff.1 hx).1;obtain ⟨g,c,rfl⟩:=Ig hv (by omega);obtain ⟨h1,h2,h3,h5,h6,h7⟩:=hv;obtain ⟨n,hn⟩:∃ n,s.length=n + 1:=⟨s.length - 1,by omega⟩;rw [show s.length - 1=n by omega] at hx ⊢;rw [hn] at h1 h3 h5;have h3':=h3;obtain ⟨hl3,h4⟩:=h3
 rcases h4 with ⟨h4,_⟩ |⟨g',cap,cur,h4,hb,hg,hnc,hm,hz,ht⟩
 ·cases h4
 ·cases h4;have hgb:g ≠ ab:=Dr hg h1 (by decide);refine Mv (u:=167) (f:=138) (by kernel_rfl) (by kernel_rfl) Tryz.call138 ?_;refine (Pz ab g n c mb _ _ w h1 h3' hgb (by rw [List.getElem?_map,hx];rfl) (by omega) (by omega)).mono fun e w' ⟨he,h8⟩=>⟨he,?_⟩
  have hold:∀ k o,w.heap[k]? =some o->k ≠ ab->w'.heap[k]? =some o:=fun k o ho hk=>(h8.old k (AV ho) fun e he _=>by
   rw [List.mem_singleton] at he;subst he;intro hh
   exact hk (Option.some.inj hh).symm).trans ho
  have hlen:(s.take n).length=n:=by rw [List.length_take];omega
  have hb2:w'.heap[ab]? =_:=h8.own _ List.mem_cons_self;refine h8.widen (fun k hk=>?_) ⟨⟨.slice (some ⟨g,0,none⟩) n c,hb2,h2,?_,fun k hk=>h5 k hk,fun i z hz2=>?_,?_⟩,hold _ _ (h6 n x hx).1 (Dr (h6 n x hx).1 h1 (by decide)),(h6 n x hx).2⟩ (Vp.loc (p:=UK ab mb (s.take n) x n)) hF
  ·have:k=ab:=(Option.some.inj hk).symm;rw [this];exact h2
  ·rw [hlen];refine ⟨by rw [List.length_map,hlen,Nat.mul_one],.inr ⟨g,c,cur,rfl,hb,hold _ _ hg hgb,by omega,hm,hz,?_⟩⟩;rw [List.map_take,<-ht,List.take_take];congr 1;omega
  ·have hi:i < n:=by
    have:=(List.getElem?_eq_some_iff.1 hz2).1;omega
   rw [List.getElem?_take_of_lt hi] at hz2;exact ⟨hold _ _ (h6 i z hz2).1 (Dr (h6 i z hz2).1 h1 (by decide)),(h6 i z hz2).2⟩
  ·rw [hlen];omega
theorem RA {ab mb:Nat} {s:List En} {x:En} {p:Nat} {w:World} {F:Nat->Prop} (h:(UK ab mb s x p).at_ w F (.bool true)) (hF:∀ k,F k->k < w.heap.size) (hs:s.length < 1073741824) (hne:∀ (i:Nat) (z:En),s[i]? =some z->z.b ≠ x.b):
 EX Tryz.prog (R7 ab) "Push" [.iface 164 (Dq x)] w fun e w'=>e= .returned (.tuple #[])/\∃ F',(∀ k,F k->F' k)/\(∀ k,F' k->F k \/ w.heap.size <= k)/\Hp w w' [.rep (fun w=>(LZ 0 ab mb (s ++ [x])).at_ w F' (.bool true)) F' true]:=by
 obtain ⟨⟨v,hv⟩,hx1,hx2⟩:=h;have hfm:=If hv;obtain ⟨h1,h2,h3,h5,h6,h7⟩:=hv;refine Mv (u:=167) (f:=139) (by kernel_rfl) (by kernel_rfl) Tryz.call139 ?_;have hax:ab ≠ x.b:=Dr h1 hx1 (by decide);refine (NR ab x.b s.length mb x.id x.tm p v (s.map Dq) (fun k=>v.ownBlock=some k) w ?_ (by omega) hfm).mono fun e w' ⟨he,A',c',F',g1,g2,g3⟩=>⟨he,fun k=>F k \/ F' k,fun k hk=>.inl hk,fun k hk=>?_,?_⟩
 ·have e1:Hp w w [.rep (fun w=>(JH 0 164 1 s.length (s.map Dq)).at_ w (fun k=>v.ownBlock=some k) v) (fun k=>v.ownBlock=some k) true]:=
   (Hp.refl w).more ⟨⟨h3,fun k hk=>hk⟩,Vp.loc,fun k hk=>hF k (h5 k hk)⟩ fun e he=>(by cases he)
  have e2:=e1.more (x:=.blk x.b (R6 x p) true) hx1 fun e he _ k hk hk2=>by
   rw [List.mem_singleton] at he;subst he;obtain ⟨cur,h9⟩:=HJ h3 hk2;exact Dr hx1 h9 (by decide) (Option.some.inj hk)
  refine e2.more (x:=.blk ab _ true) h1 fun e he _ k hk hk2=>?_;have hk0:=Option.some.inj hk
  rcases List.mem_cons.1 he with rfl |he
  ·exact hax (hk0.trans (Option.some.inj hk2).symm)
  ·rw [List.mem_singleton] at he;subst he;obtain ⟨cur,h9⟩:=HJ h3 hk2;exact Dr h1 h9 (by decide) hk0
 ·rcases hk with h |h
  ·exact .inl h
  ·rcases g2 k h with h |h
   ·exact .inl (h5 k h)
   ·exact .inr h
 ·have o0:w'.heap[ab]? =_:=g3.own _ (Af (i:=0) rfl);have o1:w'.heap[x.b]? =_:=g3.own _ (Af (i:=1) rfl);obtain ⟨⟨o2,o3⟩,_,o4⟩:=g3.own _ (Af (i:=2) rfl)
  have hlt:∀ k,F k \/ F' k->k < w'.heap.size:=fun k hk=>by
   rcases hk with h |h
   ·exact Nat.lt_of_lt_of_le (hF k h) g3.size
   ·exact o4 k h
  have hl:(s ++ [x]).length=s.length + 1:=by rw [List.length_append];rfl
  refine g3.widenM (fun e he k hk=>?_) ⟨.slice A' (s.length + 1) c',o0,.inl h2,?_,fun k hk=>.inr (o3 k hk),fun i z hz=>?_,by omega⟩ (Vp.loc (p:=LZ 0 ab mb (s ++ [x]))) hlt
  ·simp only [List.mem_cons,List.not_mem_nil,or_false] at he
   rcases he with rfl |rfl |rfl
   ·left;have:=Option.some.inj hk;rw [<-this];exact h2
   ·left;have:=Option.some.inj hk;rw [<-this];exact hx2
   ·exact .inr hk
  ·rw [hl,List.map_append];exact o2
  ·by_cases hi:i < s.length
   ·rw [List.getElem?_append_left hi] at hz;refine ⟨(g3.old z.b (AV (h6 i z hz).1) fun e he _ hh=>?_).trans (h6 i z hz).1,.inl (h6 i z hz).2⟩;simp only [List.mem_cons,List.not_mem_nil,or_false] at he
    rcases he with rfl |rfl |rfl
    ·exact Dr h1 (h6 i z hz).1 (by decide) (Option.some.inj hh)
    ·exact hne i z hz (Option.some.inj hh).symm
    ·rcases g2 _ hh with h9 |h9
     ·obtain ⟨cur,h9⟩:=HJ h3 h9;exact Dr (h6 i z hz).1 h9 (by decide) rfl
     ·have:=AV (h6 i z hz).1;omega
   ·have hi2:i=s.length:=by
     have:=(List.getElem?_eq_some_iff.1 hz).1;omega
    subst hi2;rw [List.getElem?_append_right (Nat.le_refl _),Nat.sub_self] at hz;cases hz;exact ⟨o1,.inl hx2⟩
def KE (ab mb:Nat) (s:List En) (M:List ME) (c:Nat):Vp:=
 ⟨fun w F v=>(LZ 0 ab mb s).at_ w F v/\w.heap[mb]? =some (Cj .u64 M c)/\F mb,fun {w w' A B v} ⟨h1,h2,h3⟩ hk=>⟨(LZ 0 ab mb s).keep h1 hk,((hk mb h3 (AV h2)).1).trans h2,(hk mb h3 (AV h2)).2⟩⟩
def UJ (ab mb:Nat) (s:List En) (M:List ME) (c:Nat) (x:En) (p:Nat):Vp:=
 ⟨fun w F v=>(UK ab mb s x p).at_ w F v/\w.heap[mb]? =some (Cj .u64 M c)/\F mb,fun {w w' A B v} ⟨h1,h2,h3⟩ hk=>⟨(UK ab mb s x p).keep h1 hk,((hk mb h3 (AV h2)).1).trans h2,(hk mb h3 (AV h2)).2⟩⟩
theorem FG {ab mb:Nat} {s:List En} {w:World} {F:Nat->Prop} {v:Value} {es:Array MapEntry} {c:Nat} (h:(LZ 0 ab mb s).at_ w F v) (hb:w.heap[mb]? =some (.map es c)):(LZ 0 ab mb s).at_ w (fun k=>F k/\k ≠ mb) v:=by
 obtain ⟨v,h1,h2,h3,h5,h6,h7⟩:=h;refine ⟨v,h1,⟨h2,IB h1 hb⟩,h3,fun k hk=>⟨h5 k hk,?_⟩,fun i x hx=>⟨(h6 i x hx).1,(h6 i x hx).2,IB (h6 i x hx).1 hb⟩,h7⟩;obtain ⟨cur,h9⟩:=HJ h3 hk;exact IB h9 hb
theorem Ie {w w':World} {F F1:Nat->Prop} {mb c:Nat} {M:List ME} {q Q:Vp} (hF:∀ k,F k->k < w.heap.size) (hb:w.heap[mb]? =some (Cj .u64 M c)) (hmb:F mb) (h:Hp w w' [.rep (fun w=>q.at_ w F1 (.bool true)) F1 true])
 (g1:∀ k,F k/\k ≠ mb->F1 k) (g2:∀ k,F1 k->(F k/\k ≠ mb) \/ w.heap.size <= k) (hQ:∀ w F2,q.at_ w F2 (.bool true)->w.heap[mb]? =some (Cj .u64 M c)->F2 mb->Q.at_ w F2 (.bool true)):
 ∃ F':Nat->Prop,(∀ k,F k->F' k)/\(∀ k,F' k->F k \/ w.heap.size <= k)/\Hp w w' [.rep (fun w=>Q.at_ w F' (.bool true)) F' true]:=by
 obtain ⟨o1,_,o2⟩:=h.own _ (Af (i:=0) rfl)
 have hmb2:w'.heap[mb]? =some (Cj .u64 M c):=(h.old mb (AV hb) fun e he _ hh=>by
  rw [List.mem_singleton] at he;subst he
  rcases g2 mb hh with h9 |h9
  ·exact h9.2 rfl
  ·have:=AV hb
   omega).trans hb
 refine ⟨fun k=>F k \/ F1 k,fun k hk=>.inl hk,fun k hk=>?_,h.widenM (fun e he k hk=>?_) (hQ w' _ (q.keep o1 fun k hk _=>⟨rfl,.inr hk⟩) hmb2 (.inl hmb)) Vp.loc fun k hk=>?_⟩
 ·rcases hk with h |h
  ·exact .inl h
  ·exact (g2 k h).imp (fun h=>h.1) id
 ·rw [List.mem_singleton] at he;subst he;exact .inr hk
 ·rcases hk with h9 |h9
  ·exact Nat.lt_of_lt_of_le (hF k h9) h.size
  ·exact o2 k h9
section
variable {ab mb c:Nat} {s:List En} {M:List ME} {w:World} {F:Nat->Prop}
theorem NV (h:(KE ab mb s M c).at_ w F (.bool true)) (hF:∀ k,F k->k < w.heap.size) (i:Nat) (hi:i < s.length):Calls Tryz.prog 93 #[R7 ab,.int .i64 (i:Int)] w fun e w'=>e= .returned (.tuple #[])/\
 ∃ F':Nat->Prop,(∀ k,F k->F' k)/\(∀ k,F' k->F k \/ w.heap.size <= k)/\Hp w w' [.rep (fun w=>(KE ab mb ((GY 0 ab mb).fx s i) M c).at_ w F' (.bool true)) F' true]:=by
 obtain ⟨h1,h2,h3⟩:=h;refine (S1 (GY 0 ab mb) s i (fun k=>F k/\k ≠ mb) w (FG h1 h2) (fun k hk=>hF k hk.1) hi).mono fun e w' ⟨he,h8⟩=>⟨he,?_⟩;exact Ie hF h2 h3 h8 (fun k hk=>hk) (fun k hk=>.inl hk) fun w F2 e1 e2 e3=>⟨e1,e2,e3⟩
theorem NU (h:(KE ab mb s M c).at_ w F (.bool true)) (hF:∀ k,F k->k < w.heap.size) {x:En} (hx:s[0]? =some x):Calls Tryz.prog 91 #[R7 ab] w fun e w'=>e= .returned (.iface 164 (Dq x))/\
 ∃ F':Nat->Prop,(∀ k,F k->F' k)/\(∀ k,F' k->F k \/ w.heap.size <= k)/\Hp w w' [.rep (fun w=>(UJ ab mb (((GY 0 ab mb).pp s).take (s.length - 1)) M c x (s.length - 1)).at_ w F' (.bool true)) F' true]:=by
 obtain ⟨h1,h2,h3⟩:=h;have h0:=(List.getElem?_eq_some_iff.1 hx).1;have hl:=(LK (E9 0 ab mb) s).length_eq;have hx2:=On (E9 0 ab mb) s h0;refine (S0 (GY 0 ab mb) s (fun k=>F k/\k ≠ mb) w (FG h1 h2) (fun k hk=>hF k hk.1) h0 (.iface 164 (Dq x)) (UK ab mb (((GY 0 ab mb).pp s).take (s.length - 1)) x (s.length - 1)) fun w1 g1 g2=>?_).mono fun e w' ⟨he,h8⟩=>⟨he,?_⟩
 ·have:=OI (s:=(GY 0 ab mb).pp s) g1 g2 (x:=x) (by rw [hl,hx2,hx]);rw [hl] at this;exact this
 ·exact Ie hF h2 h3 h8 (fun k hk=>hk) (fun k hk=>.inl hk) fun w F2 e1 e2 e3=>⟨e1,e2,e3⟩
theorem KD (h:(KE ab mb s M c).at_ w F (.bool true)) (hF:∀ k,F k->k < w.heap.size) (i:Nat) {x:En} (hx:s[i]? =some x):Calls Tryz.prog 88 #[R7 ab,.int .i64 (i:Int)] w fun e w'=>e= .returned (.iface 164 (Dq x))/\
 ∃ F':Nat->Prop,(∀ k,F k->F' k)/\(∀ k,F' k->F k \/ w.heap.size <= k)/\Hp w w' [.rep (fun w=>(KE ab mb (((GY 0 ab mb).rm s i).take (s.length - 1)) M c).at_ w F' (.bool true)) F' true]:=by
 obtain ⟨h1,h2,h3⟩:=h;have h0:=(List.getElem?_eq_some_iff.1 hx).1;have hl:=(LF (E9 0 ab mb) s i).length_eq;have hx2:=Ol (E9 0 ab mb) s i h0;refine (Nw (GY 0 ab mb) s i (fun k=>F k/\k ≠ mb) w (FG h1 h2) (fun k hk=>hF k hk.1) h0 (.iface 164 (Dq x)) (UK ab mb (((GY 0 ab mb).rm s i).take (s.length - 1)) x (s.length - 1)) fun w1 g1 g2=>?_).mono fun e w' ⟨he,h8⟩=>⟨he,?_⟩
 ·have:=OI (s:=(GY 0 ab mb).rm s i) g1 g2 (x:=x) (by rw [hl,hx2,hx]);rw [hl] at this;exact this
 ·exact Ie hF h2 h3 h8 (fun k hk=>hk) (fun k hk=>.inl hk) fun w F2 e1 e2 e3=>⟨e1.1,e2,e3⟩
theorem MS {x:En} {p:Nat} (h:(UJ ab mb s M c x p).at_ w F (.bool true)) (hF:∀ k,F k->k < w.heap.size) (hs:s.length < 1073741824) (hne:∀ (i:Nat) (z:En),s[i]? =some z->z.b ≠ x.b):Calls Tryz.prog 94 #[R7 ab,.iface 164 (Dq x)] w fun e w'=>e= .returned (.tuple #[])/\
 ∃ F':Nat->Prop,(∀ k,F k->F' k)/\(∀ k,F' k->F k \/ w.heap.size <= k)/\Hp w w' [.rep (fun w=>(KE ab mb ((GY 0 ab mb).up (s.length + 1) (s ++ [x]) s.length) M c).at_ w F' (.bool true)) F' true]:=by
 obtain ⟨⟨h1,h4,h5⟩,h2,h3⟩:=h
 have hl:(s ++ [x]).length=s.length + 1:=by rw [List.length_append];rfl
 have:=Pj (GY 0 ab mb) (UK ab mb s x p) (s ++ [x]) (fun k=>F k/\k ≠ mb) w ⟨FG h1 h2,h4,h5,IB h4 h2⟩ (fun k hk=>hF k hk.1) (by show 0 < (s ++ [x]).length;omega) (.iface 164 (Dq x)) fun w1 g1 g2=>RA g1 g2 hs hne;have hl2:(GY 0 ab mb).len (s ++ [x])=s.length + 1:=hl;rw [hl2,Nat.add_sub_cancel] at this;refine this.mono fun e w' ⟨he,F1,g1,g2,h8⟩=>⟨he,?_⟩;exact Ie hF h2 h3 h8 g1 g2 fun w F2 e1 e2 e3=>⟨e1,e2,e3⟩
end
abbrev DE:=Int × Int
def DI (p q:DE):Prop:=p.2 < q.2 \/ (p.2=q.2/\p.1 < q.1)
instance (p q:DE):Decidable (DI p q):=by unfold DI;infer_instance
def NK (x:DE):List DE->List DE
 | []=>[x]
 |p::l=>if DI p x then p::NK x l else x::p::l
def Db (l:List DE) (id:Int):List DE:=l.filter fun p=>decide (p.1 ≠ id)
def Gd (l:List DE) (id tm:Int):List DE:=NK (id,tm) (Db l id)
theorem NL {a b c:DE} (h1:DI a b) (h2:DI b c):DI a c:=by unfold DI at *;omega
theorem Dm (x:DE):∀ (l:List DE),(NK x l).Perm (x::l)
 | []=>List.Perm.refl _
 |p::l=>by
  unfold NK;split
  ·exact ((Dm x l).cons p).trans (List.Perm.swap ..)
  ·exact List.Perm.refl _
theorem J9 (x:DE):∀ (l:List DE),l.Pairwise DI->(∀ p ∈ l,p.1 ≠ x.1)->(NK x l).Pairwise DI
 | [],_,_=>List.pairwise_singleton _ _
 |p::l,h,hx=>by
  rw [List.pairwise_cons] at h;unfold NK;split
  ·rename_i hb;rw [List.pairwise_cons];refine ⟨fun q hq=>?_,J9 x l h.2 fun q hq=>hx q (List.mem_cons_of_mem _ hq)⟩
   rcases List.mem_cons.1 ((Dm x l).mem_iff.1 hq) with rfl |hq
   ·exact hb
   ·exact h.1 q hq
  ·rename_i hb
   have hxp:DI x p:=by
    have:=hx p List.mem_cons_self;unfold DI at hb ⊢;omega
   rw [List.pairwise_cons,List.pairwise_cons];refine ⟨fun q hq=>?_,h.1,h.2⟩
   rcases List.mem_cons.1 hq with rfl |hq
   ·exact hxp
   ·exact NL hxp (h.1 q hq)
abbrev K9 (x:En):DE:=(x.id,x.tm)
abbrev WH (x:En):Int × Value:=(x.id,Dq x)
structure AR (s:List En) (M:List ME) (l:List DE):Prop where
 hd:Hd NJ s s.length 0
 perm:(s.map K9).Perm l
 srt:l.Pairwise DI
 ids:(l.map (·.1)).Nodup
 keys:(M.map (·.1)).Nodup
 get:∀ id v,DX M id=some v ↔ (id,v) ∈ s.map WH
theorem AR.init:AR [] [] []:=⟨fun j _ h _=>absurd h (Nat.not_lt_zero _),List.Perm.refl _,List.Pairwise.nil,List.nodup_nil,List.nodup_nil,fun id v=>by simp [HR]⟩
theorem AR.len {s:List En} {M:List ME} {l:List DE} (h:AR s M l):s.length=l.length:=by
 have:=h.perm.length_eq
 rwa [List.length_map] at this
theorem AR.sids {s:List En} {M:List ME} {l:List DE} (h:AR s M l):(s.map (·.id)).Nodup:=by
 have h1:(s.map (·.id))=(s.map K9).map (·.1):=by rw [List.map_map];rfl
 rw [h1];exact (h.perm.map _).nodup_iff.2 h.ids
theorem AR.miss {s:List En} {M:List ME} {l:List DE} (h:AR s M l) {id:Int} (hm:DX M id=none):∀ x ∈ s,x.id ≠ id:=fun x hx he=>by
 have:=(h.get id (Dq x)).2 (List.mem_map.2 ⟨x,hx,by rw [<-he]⟩);rw [hm] at this;cases this
theorem AR.missl {s:List En} {M:List ME} {l:List DE} (h:AR s M l) {id:Int} (hm:DX M id=none):∀ p ∈ l,p.1 ≠ id:=fun p hp he=>by
 obtain ⟨x,hx,rfl⟩:=List.mem_map.1 (h.perm.mem_iff.2 hp);exact h.miss hm x hx he
theorem AR.hit {s:List En} {M:List ME} {l:List DE} (h:AR s M l) {id:Int} {v:Value} (hm:DX M id=some v):∃ (i:Nat) (x:En),s[i]? =some x/\x.id=id/\v=Dq x:=by
 obtain ⟨x,hx,he⟩:=List.mem_map.1 ((h.get id v).1 hm);obtain ⟨i,hi⟩:=List.mem_iff_getElem?.1 hx;cases he;exact ⟨i,x,hi,rfl,rfl⟩
theorem Ir {α:Type}:∀ {s:List α} {i:Nat} {x:α},i < s.length->(s.set i x).Perm (x::s.eraseIdx i)
 |p::s,0,x,_=>List.Perm.refl _
 |p::s,i + 1,x,h=>by
  rw [List.set_cons_succ,List.eraseIdx_cons_succ];exact ((Ir (by simpa using h)).cons p).trans (List.Perm.swap ..)
theorem Hz {α:Type} {s:List α} {i:Nat} {x:α} (h:s[i]? =some x):s.Perm (x::s.eraseIdx i):=by
 have hi:=(List.getElem?_eq_some_iff.1 h).1;have:=Ir (x:=x) hi
 rwa [JA h] at this
theorem AR.rest {s:List En} {M:List ME} {l:List DE} (h:AR s M l) {i:Nat} {x:En} (hx:s[i]? =some x):((s.eraseIdx i).map K9).Perm (Db l x.id):=by
 have h1:l.Perm (K9 x::(s.eraseIdx i).map K9):=h.perm.symm.trans ((Hz hx).map K9);have h2:=h1.filter fun p=>decide (p.1 ≠ x.id);rw [List.filter_cons_of_neg (by simp)] at h2
 have h3:((s.eraseIdx i).map K9).filter (fun p=>decide (p.1 ≠ x.id))=(s.eraseIdx i).map K9:=List.filter_eq_self.2 fun p hp=>by
  have h4:=(h1.map (·.1)).nodup_iff.1 h.ids;rw [List.map_cons,List.nodup_cons] at h4;simp only [ne_eq,decide_not,Bool.not_eq_eq_eq_not,Bool.not_true,decide_eq_false_iff_not];intro he;exact h4.1 (List.mem_map.2 ⟨p,hp,he⟩)
 rw [h3] at h2;exact h2.symm
theorem Ka {l:List DE} {id:Int} (h:(l.map (·.1)).Nodup):((Db l id).map (·.1)).Nodup:=h.sublist (List.filter_sublist.map _)
theorem Hg {l:List DE} {id:Int} (h:l.Pairwise DI):(Db l id).Pairwise DI:=h.sublist List.filter_sublist
theorem Lc {l:List DE} {id:Int}:∀ p ∈ Db l id,p.1 ≠ id:=fun p hp=>by simpa using (List.mem_filter.1 hp).2
theorem IW {l:List DE} {id:Int} (h:∀ p ∈ l,p.1 ≠ id):Db l id=l:=List.filter_eq_self.2 fun p hp=>by simpa using h p hp
theorem H5 {l:List DE} {id tm:Int} (h:l.Pairwise DI):(Gd l id tm).Pairwise DI:=J9 _ _ (Hg h) Lc
theorem MI {l:List DE} {id tm:Int} (h:(l.map (·.1)).Nodup):((Gd l id tm).map (·.1)).Nodup:=by
 unfold Gd;rw [((Dm (id,tm) (Db l id)).map (·.1)).nodup_iff,List.map_cons,List.nodup_cons]
 exact ⟨fun hm=>by
  obtain ⟨p,hp,he⟩:=List.mem_map.1 hm
  exact Lc p hp he,Ka h⟩
section
variable {P:Program} {iv:Value} {O:DJ P iv (List En)} (hO:XI O NJ) {s:List En} {M:List ME} {l:List DE}
include hO
theorem AR.setOld (h:AR s M l) {i:Nat} {x:En} (hx:s[i]? =some x) (tm:Int):AR (O.fx (s.set i ⟨x.b,x.id,tm⟩) i) M (Gd l x.id tm):=by
 have hi:=(List.getElem?_eq_some_iff.1 hx).1;have hp:=T5 hO (s.set i ⟨x.b,x.id,tm⟩) i;have hs:=Ir (x:=(⟨x.b,x.id,tm⟩:En)) hi;refine ⟨?_,?_,H5 h.srt,MI h.ids,h.keys,fun id v=>?_⟩
 ·have h1:=T6 hO IH (s.set i ⟨x.b,x.id,tm⟩) i (by rw [List.length_set];exact hi) (h.hd.fk IH hi _);rw [hp.length_eq];exact h1
 ·exact ((hp.trans hs).map K9).trans (((h.rest hx).cons _).trans (Dm _ _).symm)
 ·rw [h.get,(((hp.trans hs).map WH)).mem_iff,((Hz hx).map WH).mem_iff];exact Iff.rfl
theorem AR.setNew (h:AR s M l) {x:En} (hm:DX M x.id=none) (c:Nat):AR (O.up (s.length + 1) (s ++ [x]) s.length) (CZ M x.id (Dq x) c).1 (Gd l x.id x.tm):=by
 have hp:=Ja hO (s.length + 1) (s ++ [x]) s.length;have hs:(s ++ [x]).Perm (x::s):=List.perm_append_comm
 have hl:(s ++ [x]).length=s.length + 1:=by rw [List.length_append];rfl
 refine ⟨?_,?_,H5 h.srt,MI h.ids,JT h.keys,fun id v=>?_⟩
 ·rw [hp.length_eq,hl];refine Jb hO IH (s.length + 1) (s.length + 1) (s ++ [x]) s.length (by omega) (by omega) (by omega) fun j h0 hj=>⟨fun hji=>?_,fun hp2 _=>by omega⟩;have:=h.hd j h0 (by omega) (Nat.zero_le _);unfold Fz at this ⊢;rw [List.getElem?_append_left (by omega),List.getElem?_append_left (by omega)];exact this
 ·unfold Gd;rw [IW (h.missl hm)];exact ((hp.trans hs).map K9).trans ((h.perm.cons _).trans (Dm _ _).symm)
 ·rw [HQ,((hp.trans hs).map WH).mem_iff,List.map_cons,List.mem_cons];by_cases he:id=x.id
  ·rw [if_pos he];constructor
   ·intro h2;cases h2;exact .inl (by rw [he])
   ·rintro (h2 |h2)
    ·cases h2;rfl
    ·rw [he,<-h.get,hm] at h2;cases h2
  ·rw [if_neg he,h.get];exact ⟨.inr,fun h2=>h2.resolve_left fun e=>he (congrArg Prod.fst e)⟩
omit hO in
theorem AR.less_ (h:AR s M l) {i:Nat} {x:En} (hx:s[i]? =some x) {t:List En} (ht:t.Perm (s.eraseIdx i)) (hh:Hd NJ t t.length 0):AR t (D3 M x.id) (Db l x.id):=by
 refine ⟨hh,(ht.map K9).trans (h.rest hx),Hg h.srt,Ka h.ids,Nq h.keys,fun id v=>?_⟩;have hs:=(Hz hx)
 have h4:∀ y ∈ s.eraseIdx i,y.id ≠ x.id:=fun y hy he=>by
  have:=(hs.map (·.id)).nodup_iff.1 h.sids;rw [List.map_cons,List.nodup_cons] at this;exact this.1 (List.mem_map.2 ⟨y,hy,he⟩)
 rw [HS _ _ _ h.keys,(ht.map WH).mem_iff];by_cases he:id=x.id
 ·rw [if_pos he];constructor
  ·intro h2;cases h2
  ·intro h2;obtain ⟨y,hy,h3⟩:=List.mem_map.1 h2;exact absurd ((congrArg Prod.fst h3).trans he) (h4 y hy)
 ·rw [if_neg he,h.get,(hs.map WH).mem_iff,List.map_cons,List.mem_cons];exact ⟨fun h2=>h2.resolve_left fun e=>he (congrArg Prod.fst e),.inr⟩
omit hO in
theorem KN {t s:List En} {i:Nat} {x:En} (hx:s[i]? =some x) (hp:t.Perm s) (hl:t[s.length - 1]? =some x):(t.take (s.length - 1)).Perm (s.eraseIdx i):=by
 have h0:=(List.getElem?_eq_some_iff.1 hx).1;have hlen:=hp.length_eq
 have h1:t=t.take (s.length - 1) ++ [x]:=by
  obtain ⟨h2,h3⟩:=List.getElem?_eq_some_iff.1 hl;have h4:=List.take_append_drop (s.length - 1) t;have h5:=List.drop_eq_getElem_cons h2;rw [h3,show s.length - 1 + 1=t.length by omega,List.drop_length] at h5;rw [h5] at h4;exact h4.symm
 have h2:(x::t.take (s.length - 1)).Perm t:=by
  conv=>rhs;rw [h1]
  exact List.perm_append_comm (l₁:=[x])
 exact (h2.trans (hp.trans (Hz hx))).cons_inv
theorem AR.clear (h:AR s M l) {i:Nat} {x:En} (hx:s[i]? =some x):AR ((O.rm s i).take (s.length - 1)) (D3 M x.id) (Db l x.id):=by
 have hi:=(List.getElem?_eq_some_iff.1 hx).1;have hl:=(LF hO s i).length_eq;refine h.less_ hx (KN hx (LF hO s i) ((Ol hO s i hi).trans hx)) ?_;rw [show ((O.rm s i).take (s.length - 1)).length=s.length - 1 by rw [List.length_take];omega];exact Ou (Sx hO IH s i hi h.hd) (by omega)
theorem AR.pop (h:AR s M l) {x:En} (hx:s[0]? =some x):AR ((O.pp s).take (s.length - 1)) (D3 M x.id) (Db l x.id):=by
 have hi:=(List.getElem?_eq_some_iff.1 hx).1;have hl:=(LK hO s).length_eq;refine h.less_ hx (KN hx (LK hO s) ((On hO s hi).trans hx)) ?_;rw [show ((O.pp s).take (s.length - 1)).length=s.length - 1 by rw [List.length_take];omega];exact Ou (SD hO IH s h.hd.dh hi) (by omega)
end
theorem AR.root {s:List En} {M:List ME} {l:List DE} (h:AR s M l) {x:En} (hx:s[0]? =some x):∃ rest,l=K9 x::rest/\Db l x.id=rest:=by
 have h0:=(List.getElem?_eq_some_iff.1 hx).1;have hr:=S2 IH (Nat.le_refl _) h.hd
 cases l with
 |nil=>
  have:=h.len;rw [List.length_nil] at this;omega
 |cons p rest=>
  have hs:=h.srt;rw [List.pairwise_cons] at hs;have hid:=h.ids;rw [List.map_cons,List.nodup_cons] at hid;have hxl:K9 x ∈ p::rest:=h.perm.mem_iff.1 (List.mem_map.2 ⟨x,List.mem_of_getElem? hx,rfl⟩)
  have hpx:p=K9 x:=by
   rcases List.mem_cons.1 hxl with e |e
   ·exact e.symm
   ·obtain ⟨y,hy,rfl⟩:=List.mem_map.1 (h.perm.mem_iff.2 (List.mem_cons_self (a:=p) (l:=rest)));obtain ⟨i,hi⟩:=List.mem_iff_getElem?.1 hy;have h1:=hr i (List.getElem?_eq_some_iff.1 hi).1;unfold Fz at h1;rw [hi,hx] at h1;have h2:=hs.1 _ e;simp only [NJ,decide_eq_false_iff_not] at h1;exact absurd h2 h1
  subst hpx;refine ⟨rest,rfl,?_⟩;unfold Db;rw [List.filter_cons_of_neg (by simp)]
  exact List.filter_eq_self.2 fun q hq=>by
   simp only [ne_eq,decide_not,Bool.not_eq_eq_eq_not,Bool.not_true,decide_eq_false_iff_not];intro he;exact hid.1 (List.mem_map.2 ⟨q,hq,he⟩)
theorem AR.find {s:List En} {M:List ME} {l:List DE} (h:AR s M l) {i:Nat} {x:En} (hx:s[i]? =some x):K9 x ∈ l:=h.perm.mem_iff.1 (List.mem_map.2 ⟨x,List.mem_of_getElem? hx,rfl⟩)
abbrev NS (ab:Nat):Value:=.pointer (some ⟨ab,0,none⟩)
def IZ (ab:Nat) (l:List DE):Vp:=
 ⟨fun w F v=>∃ mb s M c,(KE ab mb s M c).at_ w F (.bool true)/\AR s M l,fun ⟨mb,s,M,c,h1,h2⟩ hk=>⟨mb,s,M,c,(KE ab mb s M c).keep h1 hk,h2⟩⟩
section
variable {ab mb c:Nat} {s:List En} {M:List ME} {l:List DE} {w:World} {F:Nat->Prop} {v:Value}
theorem Ih (h:(KE ab mb s M c).at_ w F v):w.cell? ⟨ab,0 + 1,none⟩=some (.map (some mb)):=by
 obtain ⟨⟨u,hu⟩,_⟩:=h;exact (Sl.of_blk (n:=2) (sz:=1) (off:=0) (xs:=[u,.map (some mb)]) hu.1 rfl (fun j u hu=>by rw [Nat.zero_add];exact hu)).at_ (j:=1) (by decide) rfl
theorem Rw {base:Nat} (h:(Rx base ab mb s).at_ w F v):w.cell? ⟨ab,0,none⟩=some v:=by
 have:=(Sl.of_blk (n:=2) (sz:=1) (off:=0) (xs:=[v,.map (some mb)]) h.1 rfl (fun j u hu=>by rw [Nat.zero_add];exact hu)).at_ (j:=0) (by decide) rfl
 rwa [Nat.zero_add] at this
theorem Kr (h:(KE ab mb s M c).at_ w F v) {i:Nat} {x:En} (hx:s[i]? =some x):w.heap[x.b]? =some (R6 x i)/\F x.b:=by
 obtain ⟨⟨u,hu⟩,_⟩:=h;exact hu.2.2.2.2.1 i x hx
theorem Jl {x:En} {i:Nat} (h:w.heap[x.b]? =some (R6 x i)) {j:Nat} {u:Value} (hu:[.int .u64 x.id,.int .i64 x.tm,.int .i64 (i:Int)][j]? =some u):w.cell? ⟨x.b,0 + j,none⟩=some u:=
 (Sl.of_blk (n:=3) (sz:=1) (off:=0) h rfl (fun j u hu=>by rw [Nat.zero_add];exact hu)).at_ (by
  have:=(List.getElem?_eq_some_iff.1 hu).1;simp only [List.length_cons,List.length_nil] at this
  omega) hu
end
theorem Wo (w:World):Calls Tryz.prog 89 #[] w fun e w'=>∃ ab F,e= .returned (NS ab)/\Hp w w' [.rep (fun w=>(IZ ab []).at_ w F (.bool true)) F true]/\∀ k,F k->w.heap.size <= k:=by
 refine QQ Tryz.func89 rfl (Hp.refl w) ?_;repeat (first |refine Ai ?_ |refine Ab ?_ |refine Ag ?_ |refine Ae Aa rfl ?_)
 refine IL rfl .u64 (fun mb hmb=>?_);repeat (first |refine BF (Bf Aa rfl rfl rfl rfl rfl rfl rfl) ?_)
 refine A5 Aa rfl (fun ab hab=>?_);repeat (first |refine Ag ?_ |refine AB ?_ |refine Ae Aa rfl ?_)
 refine AY rfl rfl (fun w' hw=>⟨ab,fun k=>k=ab \/ k=mb,rfl,?_,fun k hk=>by rcases hk with rfl |rfl<;>assumption⟩);have h1:w'.heap[ab]? =_:=hw.own _ (Af (i:=0) rfl);have h2:w'.heap[mb]? =_:=hw.own _ (Af (i:=1) rfl);refine hw.widenM (fun e he k hk=>?_) ⟨mb,[],[],0,⟨⟨_,h1,.inl rfl,World.ownsRow_nil w' _ _ _,fun k hk=>(by cases hk),fun i x hx=>(by simp at hx),(by decide)⟩,h2,.inr rfl⟩,.init⟩ (Vp.loc (p:=IZ ab [])) (fun k hk=>?_)
 ·simp only [List.mem_cons,List.not_mem_nil,or_false] at he
  rcases he with rfl |rfl
  ·exact .inl (Option.some.inj hk).symm
  ·exact .inr (Option.some.inj hk).symm
 ·rcases hk with rfl |rfl
  ·exact AV h1
  ·exact AV h2
section
variable {ab:Nat} {l:List DE} {w:World} {F:Nat->Prop}
theorem Ru (h:(IZ ab l).at_ w F (.bool true)):Calls Tryz.prog 99 #[NS ab] w fun e w'=>e= .returned (.int .i64 (l.length:Int))/\Below w.heap.size w w':=by
 obtain ⟨mb,s,M,c,⟨⟨v,hv⟩,_⟩,hR⟩:=h;obtain ⟨a,cc,rfl,_⟩:=If hv;obtain ⟨F2,hst⟩:=Hp.startR hv;refine BL Tryz.func99 rfl rfl hst ?_;repeat (first |refine Ai ?_ |refine Ab ?_ |refine Ag ?_ |refine Ae Aa rfl ?_)
 refine BF (Cs Aa rfl rfl rfl rfl rfl) ?_;repeat (first |refine Ai ?_ |refine Ab ?_ |refine Ag ?_ |refine Ad ?_ |refine Ao ?_ |refine AF rfl ?_ |refine Ae Aa rfl ?_)
 refine Bb Aa (v:=.slice a s.length cc) rfl rfl (fun w' hw=>Rw (hw.own _ (Af (i:=0) rfl)).1) ?_;repeat (first |refine Ag ?_ |refine AB ?_ |refine Ae Aa rfl ?_)
 exact AY rfl rfl (fun w' hw=>⟨by rw [hR.len],hw.below (by repeat (first |exact An |refine BE ?_))⟩)
def MJ (l:List DE):Value:=match l with | []=>.tuple #[.int .i64 0,.bool false] |p::_=>.tuple #[.int .i64 p.2,.bool true]
theorem LY (h:(IZ ab l).at_ w F (.bool true)):Calls Tryz.prog 90 #[NS ab] w fun e w'=>e= .returned (MJ l)/\Below w.heap.size w w':=by
 have h0:=h;obtain ⟨mb,s,M,c,⟨⟨v,hv⟩,hm,hmF⟩,hR⟩:=h;have hl:=hR.len
 cases l with
 |nil=>
  obtain ⟨F2,hst⟩:=Hp.startR h0;refine BL Tryz.func90 rfl rfl hst ?_;repeat (first |refine Ai ?_ |refine Ab ?_ |refine Ag ?_ |refine Ae Aa rfl ?_)
  refine Bo rfl Tryz.call99 (fun w1 h1=>Ru (h1.own _ (Af (i:=0) rfl)).1) ?_;repeat (first |refine Ai ?_ |refine Ab ?_ |refine Ag ?_ |refine AI ?_ |refine AB ?_ |refine AN rfl ?_ |refine Ae Aa rfl ?_)
  exact Dw rfl rfl rfl (fun w' hw=>⟨rfl,hw.below (by repeat (first |exact An |refine BE ?_))⟩)
 |cons p rest=>
  have hpos:0 < s.length:=by rw [hl];exact Nat.succ_pos _
  obtain ⟨g,cc,rfl⟩:=Ig hv hpos;obtain ⟨x,hx⟩:∃ x,s[0]? =some x:=⟨_,List.getElem?_eq_getElem hpos⟩;obtain ⟨_,e1,_⟩:=hR.root hx;cases e1;obtain ⟨F2,hst⟩:=Hp.startR (p:=⟨fun w F v=>(IZ ab (K9 x::rest)).at_ w F (.bool true)/\(Rx 0 ab mb s).at_ w F v,fun ⟨h1,h2⟩ hk=>⟨(IZ ab (K9 x::rest)).keep h1 hk,(Rx 0 ab mb s).keep h2 hk⟩⟩) ⟨h0,hv⟩;refine BL Tryz.func90 rfl rfl hst ?_;repeat (first |refine Ai ?_ |refine Ab ?_ |refine Ag ?_ |refine Ae Aa rfl ?_)
  refine Bo rfl Tryz.call99 (fun w1 h1=>Ru (h1.own _ (Af (i:=0) rfl)).1.1) ?_;repeat (first |refine Ag ?_ |refine Ae Aa rfl ?_)
  refine Ak rfl (fun h=>absurd h (by simp only [List.length_cons];omega)) (fun _=>?_);repeat (first |refine Ai ?_ |refine Ab ?_ |refine Ad ?_ |refine Ao ?_ |refine Ae Aa rfl ?_)
  refine Bb Aa (v:=.slice (some ⟨g,0,none⟩) s.length cc) rfl rfl (fun w' hw=>Rw (hw.own _ (Af (i:=0) rfl)).1.2) ?_;skip;refine BF (Ax Aa rfl rfl rfl rfl rfl rfl rfl (j:=0) rfl hpos) ?_;skip;refine Bb Aa (v:=Dq x) rfl rfl (fun w' hw=>ER (hw.own _ (Af (i:=0) rfl)).1.2 hx) ?_;repeat (first |refine Ae Aa rfl ?_)
  refine Bb Aa (v:=.int .i64 x.tm) rfl rfl (fun w' hw=>Hm (hw.own _ (Af (i:=0) rfl)).1.2 hx (j:=1) rfl) ?_;repeat (first |refine Ag ?_ |refine AB ?_ |refine Ae Aa rfl ?_)
  exact Dw rfl rfl rfl (fun w' hw=>⟨rfl,hw.below (by repeat (first |exact An |refine BE ?_))⟩)
def Xe (l:List DE) (id:Int):Option Int:=(l.find? fun p=>decide (p.1=id)).map (·.2)
theorem QX {l:List DE} {id:Int} (h:∀ p ∈ l,p.1 ≠ id):Xe l id=none:=by
 unfold Xe;rw [List.find?_eq_none.2 fun p hp=>by simpa using h p hp];rfl
theorem QW {l:List DE} {id t:Int} (hn:(l.map (·.1)).Nodup) (h:(id,t) ∈ l):Xe l id=some t:=by
 induction l with
 |nil=>cases h
 |cons p l ih=>
  rw [List.map_cons,List.nodup_cons] at hn;unfold Xe;by_cases hp:p.1=id
  ·rw [List.find?_cons_of_pos (by simpa using hp)]
   rcases List.mem_cons.1 h with h |h
   ·rw [<-h];rfl
   ·exact absurd (List.mem_map.2 ⟨_,h,hp.symm⟩) hn.1
  ·rw [List.find?_cons_of_neg (by simpa using hp)]
   rcases List.mem_cons.1 h with h |h
   ·rw [<-h] at hp;exact absurd rfl hp
   ·exact ih hn.2 h
end
section
variable {ab mb c:Nat} {s:List En} {M:List ME} {l:List DE} {w w':World} {F:Nat->Prop} {v:Value}
theorem Kq (h:(KE ab mb s M c).at_ w F v) {M2:List ME} {c2:Nat} (hk:∀ k,k ≠ mb->w'.heap[k]? =w.heap[k]?) (hb:w'.heap[mb]? =some (Cj .u64 M2 c2)):(KE ab mb s M2 c2).at_ w' F v:=by
 obtain ⟨h1,h2,h3⟩:=h;exact ⟨(LZ 0 ab mb s).keep (FG h1 h2) fun k hk2 _=>⟨hk k hk2.2,hk2.1⟩,hb,h3⟩
theorem NW {x:En} {p:Nat} (h:(UJ ab mb s M c x p).at_ w F v) {M2:List ME} {c2:Nat} (hk:∀ k,k ≠ mb->w'.heap[k]? =w.heap[k]?) (hb:w'.heap[mb]? =some (Cj .u64 M2 c2)):(UJ ab mb s M2 c2 x p).at_ w' F v:=by
 obtain ⟨⟨h1,h4,h5⟩,h2,h3⟩:=h;exact ⟨⟨(LZ 0 ab mb s).keep (FG h1 h2) fun k hk2 _=>⟨hk k hk2.2,hk2.1⟩,(hk _ (IB h4 h2)).trans h4,h5⟩,hb,h3⟩
theorem Uq (h:(KE ab mb s M c).at_ w F v) {i:Nat} {x:En} (hx:s[i]? =some x) (tm:Int) (hk:∀ k,k ≠ x.b->w'.heap[k]? =w.heap[k]?) (hb:w'.heap[x.b]? =some (R6 ⟨x.b,x.id,tm⟩ i)):(KE ab mb (s.set i ⟨x.b,x.id,tm⟩) M c).at_ w' F v:=by
 obtain ⟨⟨u,h1,h2,h3,h5,h6,h7⟩,h8,h9⟩:=h;have hi:=(List.getElem?_eq_some_iff.1 hx).1;refine ⟨⟨u,(hk _ (Dr h1 (h6 i x hx).1 (by decide))).trans h1,h2,?_,h5,fun j z hz=>?_,by rw [List.length_set];exact h7⟩,(hk _ (IB (h6 i x hx).1 h8).symm).trans h8,h9⟩
 ·rw [List.length_set,List.map_set];have e1:(s.map Dq).set i (Dq ⟨x.b,x.id,tm⟩)=s.map Dq:=JA (by rw [List.getElem?_map,hx];rfl);rw [e1];refine JO h3 fun k hv=>hk k fun e=>?_;obtain ⟨cur,h10⟩:=HJ h3 hv;exact Dr h10 (h6 i x hx).1 (by decide) e
 ·by_cases hij:i=j
  ·subst hij;rw [List.getElem?_set_self hi] at hz;cases hz;exact ⟨hb,(h6 i x hx).2⟩
  ·rw [List.getElem?_set_ne hij] at hz;refine ⟨(hk _ fun e=>?_).trans (h6 j z hz).1,(h6 j z hz).2⟩;have h10:=(h6 j z hz).1;rw [e,(h6 i x hx).1] at h10;have h11:=(Obj.cells.inj (Option.some.inj h10)).1;simp only [Array.mk.injEq,List.cons.injEq,Value.int.injEq,true_and,and_true] at h11;omega
theorem Ry {x:En} {p:Nat} {ol:OL} {w0:World} (h:Hp w0 w (.blk x.b (R6 x p) true::.rep (fun w=>(KE ab mb s M c).at_ w F (.bool true)) F true::ol)):Hp w0 w (.rep (fun w=>(UJ ab mb s M c x p).at_ w (fun k=>F k \/ k=x.b) (.bool true)) (fun k=>F k \/ k=x.b) true::ol):=by
 have o0:w.heap[x.b]? =_:=h.own _ (Af (i:=0) rfl);obtain ⟨⟨h1,h2,h3⟩,_,o2⟩:=h.own _ (Af (i:=1) rfl);refine Hp.regroup [.blk x.b (R6 x p) true,.rep (fun w=>(KE ab mb s M c).at_ w F (.bool true)) F true] [.rep (fun w=>(UJ ab mb s M c x p).at_ w (fun k=>F k \/ k=x.b) (.bool true)) (fun k=>F k \/ k=x.b) true] h (fun e he=>?_) (fun e he=>?_) (List.pairwise_singleton _ _) (fun e he k hk=>?_) (fun e he k hk=>?_)
 ·simp only [List.mem_cons,List.not_mem_nil,or_false] at he
  rcases he with rfl |rfl<;>rfl
 ·rw [List.mem_singleton] at he;subst he;refine ⟨rfl,⟨⟨(LZ 0 ab mb s).keep h1 fun k hk _=>⟨rfl,.inl hk⟩,o0,.inr rfl⟩,h2,.inl h3⟩,Vp.loc (p:=UJ ab mb s M c x p),fun k hk=>?_⟩
  rcases hk with hk |rfl
  ·exact o2 k hk
  ·exact AV o0
 ·rw [List.mem_singleton] at he;subst he
  rcases hk with hk |rfl
  ·exact ⟨_,List.mem_cons_of_mem _ List.mem_cons_self,hk⟩
  ·exact ⟨_,List.mem_cons_self,rfl⟩
 ·simp only [List.mem_cons,List.not_mem_nil,or_false] at he
  rcases he with rfl |rfl
  ·exact .inr ⟨_,List.mem_cons_self,.inr (Option.some.inj hk).symm⟩
  ·exact .inr ⟨_,List.mem_cons_self,.inl hk⟩
def Ll (w:World) (F:Nat->Prop) (p:Vp) (w':World):Prop:=∃ F':Nat->Prop,(∀ k,F k->F' k)/\(∀ k,F' k->F k \/ w.heap.size <= k)/\Hp w w' [.rep (fun w=>p.at_ w F' (.bool true)) F' true]
set_option maxHeartbeats 2000000 in
theorem Rt (h:(IZ ab l).at_ w F (.bool true)) (hF:∀ k,F k->k < w.heap.size) (hl:l.length < 1073741824) (id tm:Int):Calls Tryz.prog 77 #[NS ab,.int .u64 id,.int .i64 tm] w fun e w'=>e= .returned (.tuple #[])/\Ll w F (IZ ab (Gd l id tm)) w':=by
 obtain ⟨mb,s,M,c,hS,hR⟩:=h;have hmb:=hS.2.2;refine EO Tryz.func77 rfl rfl (Hp.startO hS hF) ?_;repeat (first |refine Ai ?_ |refine Ab ?_ |refine Ae Aa rfl ?_)
 refine BF (Cs Aa rfl rfl rfl rfl rfl) ?_;repeat (first |refine Ai ?_ |refine Ab ?_ |refine Ag ?_ |refine Ad ?_ |refine Ao ?_ |refine AF rfl ?_ |refine Ae Aa rfl ?_)
 refine Bb Aa (v:=.map (some mb)) rfl rfl (fun w' hw=>Ih (hw.own _ (Af (i:=0) rfl)).1) ?_;repeat (first |refine Ae Aa rfl ?_)
 cases hg:DX M id with
 |some u=>
  obtain ⟨i,x,hx,rfl,rfl⟩:=hR.hit hg;have hi:=(List.getElem?_eq_some_iff.1 hx).1;have hxF:=(Kr hS hx).2;refine BF (L2 Aa rfl rfl rfl rfl rfl rfl rfl rfl (fun w' hw=>(hw.own _ (Af (i:=0) rfl)).1.2.1) hg) ?_;repeat (first |refine Ai ?_ |refine Ab ?_ |refine Ag ?_ |refine Ae Aa rfl ?_)
  refine AN rfl ?_;repeat (first |refine Ai ?_ |refine Ab ?_ |refine Ae Aa rfl ?_)
  refine Kv Aa 0 (Ψ:=fun w=>(KE ab mb (s.set i ⟨x.b,x.id,tm⟩) M c).at_ w F (.bool true)) [.int .u64 x.id,.int .i64 x.tm,.int .i64 (i:Int)] [.int .u64 x.id,.int .i64 tm,.int .i64 (i:Int)] 174 rfl rfl (fun u hu=>by rw [List.mem_singleton] at hu;subst hu;rfl) rfl hxF (fun w h=>(Kr h hx).1) rfl (fun w w' h h1 h2=>Uq h hx tm h1 h2) Vp.loc rfl ?_;repeat (first |refine Ai ?_ |refine Ag ?_)
  refine Cf (by kernel_rfl) 8 rfl (by kernel_rfl) ?_;repeat (first |refine Ah Aa rfl ?_)
  refine Bv (IN Aa rfl rfl rfl rfl) ?_;repeat (first |refine Ah Aa rfl ?_)
  have hx2:(s.set i ⟨x.b,x.id,tm⟩)[i]? =some ⟨x.b,x.id,tm⟩:=List.getElem?_set_self hi;refine Av Aa (v:=.int .i64 (i:Int)) rfl rfl (fun w' hw=>Jl (Kr (hw.own _ (Af (i:=0) rfl)).1 hx2).1 (j:=2) rfl) ?_;repeat (first |refine AP rfl ?_)
  refine CB 0 rfl Tryz.call93 rfl (fun w1 g=>(NV (g.own _ (Af (i:=0) rfl)).1 (g.own _ (Af (i:=0) rfl)).2.2 i (by rw [List.length_set];exact hi)).mono fun e w' ⟨he,F',g1,g2,g3⟩=>⟨_,_,F',he,g3,g1,g2,_,rfl,?_⟩);have hsz:=g.size;repeat (first |refine Ag ?_ |refine AI ?_ |refine AB ?_)
  exact O9 rfl (fun w' hw=>⟨rfl,F',g1,fun k hk=>(g2 k hk).imp id (fun h=>Nat.le_trans hsz h),hw.turnX 0 rfl (fun h=>⟨mb,_,M,c,h,hR.setOld (E9 0 ab mb) hx tm⟩) (Vp.loc (p:=IZ ab (Gd l x.id tm))) rfl⟩)
 |none=>
  refine BF (L3 Aa rfl rfl rfl rfl rfl rfl rfl rfl (fun w' hw=>(hw.own _ (Af (i:=0) rfl)).1.2.1) hg) ?_;repeat (first |refine Ai ?_ |refine Ab ?_ |refine Ag ?_ |refine Ad ?_ |refine Ao ?_ |refine AF rfl ?_ |refine Ae Aa rfl ?_ |refine BF (Bf Aa rfl rfl rfl rfl rfl rfl rfl) ?_)
  refine A5 Aa rfl (fun xb hxb=>?_);obtain ⟨x,hx⟩:∃ x:En,x=⟨xb,id,tm⟩:=⟨_,rfl⟩;repeat (first |refine Ai ?_ |refine Ab ?_ |refine Ag ?_ |refine Ae Aa rfl ?_)
  refine Bb Aa (v:=.map (some mb)) rfl rfl (fun w' hw=>Ih (hw.own _ (Af (i:=1) rfl)).1) ?_;repeat (first |refine Ae Aa rfl ?_)
  refine PD Aa 1 (Ψ:=fun w=>(KE ab mb s (CZ M id (Dq ⟨xb,id,tm⟩) c).1 (CZ M id (Dq ⟨xb,id,tm⟩) c).2).at_ w F (.bool true)) M c rfl rfl rfl rfl rfl rfl rfl rfl rfl hmb (fun w h=>h.2.1) (fun w w' h h1 h2=>Kq h h1 h2) Vp.loc rfl ?_;repeat (first |refine Ag ?_ |refine Ae Aa rfl ?_ |refine Aq ?_)
  refine BF (IN Aa rfl rfl rfl rfl) ?_;repeat (first |refine Ae Aa rfl ?_)
  refine BF (IN Aa rfl rfl rfl rfl) ?_;refine MW (ι:=Unit) (fun _=>True) (fun _=>_) (fun w hh=>⟨(),trivial,Ry (x:=⟨xb,id,tm⟩) (p:=0) hh⟩) (fun _ _=>?_)
  have hne:∀ (i:Nat) (z:En),s[i]? =some z->z.b ≠ xb:=fun i z hz he=>by
   have h1:=hF z.b (Kr hS hz).2;omega
  refine CB 0 rfl Tryz.call94 rfl (fun w1 g=>(MS (x:=⟨xb,id,tm⟩) (p:=0) (g.own _ (Af (i:=0) rfl)).1 (g.own _ (Af (i:=0) rfl)).2.2 (by rw [hR.len];exact hl) hne).mono fun e w' ⟨he,F',g1,g2,g3⟩=>⟨_,_,F',he,g3,g1,g2,_,rfl,?_⟩);have hsz:=g.size;repeat (first |refine Ag ?_)
  exact CM rfl (fun w' hw=>⟨rfl,F',fun k hk=>g1 k (.inl hk),fun k hk=>by
   rcases g2 k hk with (h |h) |h
   ·exact .inl h
   ·exact .inr (by rw [h];exact hxb)
   ·exact .inr (Nat.le_trans hsz h),hw.turnX 0 rfl (fun h=>⟨mb,_,_,_,h,hR.setNew (x:=⟨xb,id,tm⟩) (E9 0 ab mb) hg c⟩) (Vp.loc (p:=IZ ab (Gd l id tm))) rfl⟩)
set_option maxHeartbeats 2000000 in
theorem Rv (h:(IZ ab l).at_ w F (.bool true)) (hF:∀ k,F k->k < w.heap.size) (id:Int):Calls Tryz.prog 68 #[NS ab,.int .u64 id] w fun e w'=>e= .returned (.bool (Xe l id).isSome)/\Ll w F (IZ ab (Db l id)) w':=by
 obtain ⟨mb,s,M,c,hS,hR⟩:=h;have hmb:=hS.2.2;refine BS Tryz.func68 rfl rfl (Hp.startO hS hF) ?_;repeat (first |refine Ai ?_ |refine Ab ?_ |refine Ag ?_ |refine Ae Aa rfl ?_)
 refine BF (Cs Aa rfl rfl rfl rfl rfl) ?_;repeat (first |refine Ai ?_ |refine Ab ?_ |refine Ag ?_ |refine Ad ?_ |refine Ao ?_ |refine AF rfl ?_ |refine Ae Aa rfl ?_)
 refine Bb Aa (v:=.map (some mb)) rfl rfl (fun w' hw=>Ih (hw.own _ (Af (i:=0) rfl)).1) ?_;repeat (first |refine Ae Aa rfl ?_)
 cases hg:DX M id with
 |some u=>
  obtain ⟨i,x,hx,rfl,rfl⟩:=hR.hit hg;have hi:=(List.getElem?_eq_some_iff.1 hx).1;rw [QW hR.ids (hR.find hx)];refine BF (L2 Aa rfl rfl rfl rfl rfl rfl rfl rfl (fun w' hw=>(hw.own _ (Af (i:=0) rfl)).1.2.1) hg) ?_;repeat (first |refine Ai ?_ |refine Ab ?_ |refine Ag ?_ |refine Ae Aa rfl ?_)
  refine AN rfl ?_;repeat (first |refine Ai ?_)
  refine Cf (by kernel_rfl) 8 rfl (by kernel_rfl) ?_;repeat (first |refine Ah Aa rfl ?_)
  refine Bv (IN Aa rfl rfl rfl rfl) ?_;repeat (first |refine Ah Aa rfl ?_)
  refine Av Aa (v:=.int .i64 (i:Int)) rfl rfl (fun w' hw=>Jl (Kr (hw.own _ (Af (i:=0) rfl)).1 hx).1 (j:=2) rfl) ?_;repeat (first |refine AP rfl ?_)
  refine CB 0 rfl Tryz.call88 rfl (fun w1 g=>(KD (g.own _ (Af (i:=0) rfl)).1 (g.own _ (Af (i:=0) rfl)).2.2 i hx).mono fun e w' ⟨he,F',g1,g2,g3⟩=>⟨_,_,F',he,g3,g1,g2,_,rfl,?_⟩);have hsz:=g.size;repeat (first |refine Ab ?_ |refine Ag ?_ |refine Ae Aa rfl ?_)
  refine Bb Aa (v:=.map (some mb)) rfl rfl (fun w' hw=>Ih (hw.own _ (Af (i:=0) rfl)).1) ?_;repeat (first |refine Ae Aa rfl ?_)
  refine Lq Aa 0 (Ψ:=fun w=>(KE ab mb (((GY 0 ab mb).rm s i).take (s.length - 1)) (D3 M x.id) c).at_ w F' (.bool true)) M c rfl rfl rfl rfl rfl rfl rfl rfl (g1 _ hmb) (fun w h=>h.2.1) (fun w w' h h1 h2=>Kq h h1 h2) Vp.loc rfl ?_;repeat (first |refine Ai ?_ |refine Ab ?_ |refine Ag ?_ |refine AB ?_ |refine Ae Aa rfl ?_)
  exact AY rfl rfl (fun w' hw=>⟨rfl,F',g1,fun k hk=>(g2 k hk).imp id (fun h=>Nat.le_trans hsz h),hw.turnX 0 rfl (fun h=>⟨mb,_,_,c,h,hR.clear (E9 0 ab mb) hx⟩) (Vp.loc (p:=IZ ab (Db l x.id))) rfl⟩)
 |none=>
  rw [QX (hR.missl hg),IW (hR.missl hg)];refine BF (L3 Aa rfl rfl rfl rfl rfl rfl rfl rfl (fun w' hw=>(hw.own _ (Af (i:=0) rfl)).1.2.1) hg) ?_;repeat (first |refine Ai ?_ |refine Ab ?_ |refine Ag ?_ |refine Ad ?_ |refine Ao ?_ |refine AB ?_ |refine AF rfl ?_ |refine Ae Aa rfl ?_)
  exact AY rfl rfl (fun w' hw=>⟨rfl,F,fun k hk=>hk,fun k hk=>.inl hk,hw.turnX 0 rfl (fun h=>⟨mb,_,_,c,h,hR⟩) (Vp.loc (p:=IZ ab l)) rfl⟩)
end
def Gs (l:List DE) (now:Int):List Int:=(l.takeWhile fun p=>decide (p.2 <= now)).map (·.1)
def Lb (l:List DE) (now:Int):List DE:=l.dropWhile fun p=>decide (p.2 <= now)
theorem Me {α:Type} {p:α->Bool}:∀ {l:List α} {k:Nat},(∀ j x,j < k->l[j]? =some x->p x=true)->(∀ x,l[k]? =some x->p x=false)->k <= l.length->l.takeWhile p=l.take k/\l.dropWhile p=l.drop k
 | [],k,_,_,h=>by
  have:k=0:=by simpa using h
  subst this;exact ⟨rfl,rfl⟩
 |x::l,0,_,h2,_=>by
  rw [List.takeWhile_cons_of_neg (by rw [h2 x rfl];decide),List.dropWhile_cons_of_neg (by rw [h2 x rfl];decide)];exact ⟨rfl,rfl⟩
 |x::l,k + 1,h1,h2,h=>by
  have:=Me (p:=p) (l:=l) (k:=k) (fun j y hj hy=>h1 (j + 1) y (by omega) (by rw [List.getElem?_cons_succ];exact hy)) (fun y hy=>h2 y (by rw [List.getElem?_cons_succ];exact hy)) (by simpa using h);rw [List.takeWhile_cons_of_pos (h1 0 x (by omega) rfl),List.dropWhile_cons_of_pos (h1 0 x (by omega) rfl),this.1,this.2];exact ⟨rfl,rfl⟩
theorem Wf {l:List DE} {now:Int} {k:Nat} (h1:∀ p ∈ l.take k,p.2 <= now) (h2:∀ p,l[k]? =some p->now < p.2) (h:k <= l.length):Gs l now=(l.take k).map (·.1)/\Lb l now=l.drop k:=by
 have:=Me (p:=fun p:DE=>decide (p.2 <= now)) (l:=l) (k:=k) (fun j x hj hx=>by
  rw [decide_eq_true_eq]
  exact h1 x (List.mem_of_getElem? (i:=j) (by rw [List.getElem?_take_of_lt hj];exact hx))) (fun x hx=>by
  rw [decide_eq_false_iff_not];have:=h2 x hx
  omega) h
 unfold Gs Lb;rw [this.1,this.2];exact ⟨rfl,rfl⟩
structure X0 where
 k:Nat
 A:Option Addr
 C:Nat
 F:Nat->Prop
abbrev Bj (l:List Int):List Value:=l.map (.int .u64)
set_option maxHeartbeats 2000000 in
theorem Wp {ab:Nat} {l:List DE} {w:World} {F:Nat->Prop} (h:(IZ ab l).at_ w F (.bool true)) (hF:∀ k,F k->k < w.heap.size) (hl:l.length < 1073741824) (now:Int):Calls Tryz.prog 75 #[NS ab,.int .i64 now] w fun e w'=>∃ A C,e= .returned (.slice A (Gs l now).length C)/\
 ∃ F':Nat->Prop,(∀ k,F k->F' k)/\(∀ k,F' k->F k \/ w.heap.size <= k)/\Hp w w' [.row w.heap.size (.slice A (Gs l now).length C) 32 1 (Gs l now).length (Bj (Gs l now)),.rep (fun w=>(IZ ab (Lb l now)).at_ w F' (.bool true)) F' true]:=by
 refine BS Tryz.func75 rfl rfl (Hp.startO h hF) ?_;repeat (first |refine Ai ?_ |refine Ab ?_ |refine Ar ?_ |refine Ag ?_ |refine Ae Aa rfl ?_)
 refine AM (ι:=X0) (fun i=>[(0,NS ab),(1,.int .i64 now),(5,.slice i.A i.k i.C)])
  (fun i=>[.row w.heap.size (.slice i.A i.k i.C) 32 1 i.k (Bj ((l.take i.k).map (·.1))),.rep (fun w=>(IZ ab (l.drop i.k)).at_ w i.F (.bool true)) i.F true])
  (fun i=>i.k <= l.length/\(∀ p ∈ l.take i.k,p.2 <= now)/\(∀ k,F k->i.F k)/\(∀ k,i.F k->F k \/ w.heap.size <= k)) (fun i=>l.length - i.k) ⟨0,none,0,F⟩ ⟨Nat.zero_le _,by simp,fun k hk=>hk,fun k hk=>.inl hk⟩ (by repeat (first |exact As.nil |refine As.cons rfl ?_)) (fun w' hw=>hw.nilRow _ _) ?_
 rintro ⟨k,A,C,F1⟩ ⟨hk,hle,hF1,hF2⟩;dsimp only at hk hle hF1 hF2 ⊢
 refine MU (ι:=Nat × List En × List ME × Nat) (fun i=>AR i.2.1 i.2.2.1 (l.drop k)/\F1 i.1) (fun i=>[.row w.heap.size (.slice A k C) 32 1 k (Bj ((l.take k).map (·.1))),.rep (fun w=>(KE ab i.1 i.2.1 i.2.2.1 i.2.2.2).at_ w F1 (.bool true)) F1 true]) (fun w1 hh=>by
  obtain ⟨⟨mb,s,M,c,e1,e2⟩,_,_⟩:=hh.own _ (Af (i:=1) rfl)
  exact ⟨⟨mb,s,M,c⟩,⟨e2,e1.2.2⟩,hh.turnX 1 rfl (fun _=>e1) Vp.loc rfl⟩) ?_
 rintro ⟨mb,s,M,c⟩ ⟨hR,hmb⟩;dsimp only at hR hmb ⊢
 have hfin:∀ w',(∀ p,l[k]? =some p->now < p.2)->Hp w w' [.row w.heap.size (.slice A k C) 32 1 k (Bj ((l.take k).map (·.1))),.rep (fun w=>(KE ab mb s M c).at_ w F1 (.bool true)) F1 true]->∃ A2 C2,Ending.returned (.slice A k C)= .returned (.slice A2 (Gs l now).length C2)/\
  ∃ F':Nat->Prop,(∀ k,F k->F' k)/\(∀ k,F' k->F k \/ w.heap.size <= k)/\Hp w w' [.row w.heap.size (.slice A2 (Gs l now).length C2) 32 1 (Gs l now).length (Bj (Gs l now)),.rep (fun w=>(IZ ab (Lb l now)).at_ w F' (.bool true)) F' true]:=fun w' h2 hw=>by
  obtain ⟨e1,e2⟩:=Wf hle h2 hk
  have e3:(Gs l now).length=k:=by rw [e1,List.length_map,List.length_take];omega
  rw [e3,e1,e2];exact ⟨A,C,rfl,F1,hF1,hF2,hw.turnX 1 rfl (fun h=>⟨mb,s,M,c,h,hR⟩) (Vp.loc (p:=IZ ab (l.drop k))) rfl⟩
 cases hd:l.drop k with
 |nil=>
  rw [hd] at hR;repeat (first |refine Ai ?_ |refine Ab ?_ |refine Ar ?_ |refine Ae Aa rfl ?_)
  refine Bo rfl Tryz.call90 (fun w1 h1=>LY (l:=[]) ⟨mb,s,M,c,(h1.own _ (Af (i:=1) rfl)).1,hR⟩) ?_;repeat (first |refine Ai ?_ |refine Ab ?_ |refine Ag ?_ |refine Ae Aa rfl ?_ |refine Bh rfl rfl rfl ?_)
  refine AN rfl ?_;repeat (first |refine Ai ?_ |refine Ab ?_ |refine Ag ?_ |refine BW ?_ |refine AI ?_ |refine AB ?_ |refine Ae Aa rfl ?_)
  exact AY rfl rfl (fun w' hw=>hfin w' (fun p hp=>by
   have:=(List.getElem?_eq_some_iff.1 hp).1;rw [List.drop_eq_nil_iff] at hd
   omega) hw)
 |cons p rest=>
  have hkl:k < l.length:=by
   rcases Nat.lt_or_ge k l.length with h |h
   ·exact h
   ·rw [List.drop_eq_nil_iff.2 h] at hd;cases hd
  have hpk:l[k]? =some p/\l.drop (k + 1)=rest:=by
   rw [List.drop_eq_getElem_cons hkl] at hd;cases hd;exact ⟨List.getElem?_eq_getElem hkl,rfl⟩
  rw [hd] at hR
  have hpos:0 < s.length:=by rw [hR.len];exact Nat.succ_pos _
  obtain ⟨x,hx⟩:∃ x,s[0]? =some x:=⟨_,List.getElem?_eq_getElem hpos⟩;obtain ⟨rest',e1,e2⟩:=hR.root hx;cases e1;repeat (first |refine Ai ?_ |refine Ab ?_ |refine Ar ?_ |refine Ae Aa rfl ?_)
  refine Bo rfl Tryz.call90 (fun w1 h1=>LY (l:=K9 x::rest) ⟨mb,s,M,c,(h1.own _ (Af (i:=1) rfl)).1,hR⟩) ?_;repeat (first |refine Ai ?_ |refine Ab ?_ |refine Ag ?_ |refine Ae Aa rfl ?_)
  refine Ak rfl (fun hgt=>?_) (fun hgt=>?_)
  ·repeat (first |refine Ai ?_ |refine Ab ?_ |refine Ag ?_ |refine BW ?_ |refine AI ?_ |refine AB ?_ |refine Ae Aa rfl ?_)
   exact AY rfl rfl (fun w' hw=>hfin w' (fun p hp=>by
    rw [hpk.1] at hp;cases hp
    exact hgt) hw)
  ·repeat (first |refine Ai ?_ |refine Ab ?_ |refine Ad ?_ |refine Ao ?_ |refine Ae Aa rfl ?_)
   refine BF (IN Aa rfl rfl rfl rfl) ?_;refine CB 1 rfl Tryz.call91 rfl (fun w1 g=>(NU (g.own _ (Af (i:=1) rfl)).1 (g.own _ (Af (i:=1) rfl)).2.2 hx).mono fun e w' ⟨he,F',g1,g2,g3⟩=>⟨_,_,F',he,g3,g1,g2,_,rfl,?_⟩);have hsz:=g.size;refine BF (Ls Aa rfl rfl rfl rfl) ?_;repeat (first |refine Ai ?_ |refine Ag ?_ |refine Ae Aa rfl ?_)
   refine Cf (by kernel_rfl) 8 rfl (by kernel_rfl) ?_;repeat (first |refine Ah Aa rfl ?_)
   refine Av Aa (v:=.map (some mb)) rfl rfl (fun w' hw=>by
    have h9:=(hw.own _ (Af (i:=1) rfl)).1
    exact Ih (v:=.bool true) ⟨h9.1.1,h9.2⟩) ?_
   repeat (first |refine Ah Aa rfl ?_)
   refine Av Aa (v:=.int .u64 x.id) rfl rfl (fun w' hw=>Jl (hw.own _ (Af (i:=1) rfl)).1.1.2.1 (j:=0) rfl) ?_;repeat (first |refine AP rfl ?_)
   refine Lq Aa 1 (Ψ:=fun w=>(UJ ab mb (((GY 0 ab mb).pp s).take (s.length - 1)) (D3 M x.id) c x (s.length - 1)).at_ w F' (.bool true)) M c rfl rfl rfl rfl rfl rfl rfl rfl (g1 _ hmb) (fun w h=>h.2.1) (fun w w' h h1 h2=>NW h h1 h2) Vp.loc rfl ?_;repeat (first |refine Ag ?_ |refine Ae Aa rfl ?_ |refine Aq ?_)
   refine Bb Aa (v:=.int .u64 x.id) rfl rfl (fun w' hw=>Jl (hw.own _ (Af (i:=1) rfl)).1.1.2.1 (j:=0) rfl) ?_;refine AO Aa rfl rfl rfl rfl rfl rfl rfl rfl rfl rfl rfl rfl (fun nb hnb=>?_);refine AU (ty:=0) Aa 1 (news:=[.int .u64 x.id]) rfl rfl rfl rfl rfl rfl rfl rfl rfl (by decide) (fun w' h=>Sl.of_blk (h.own _ (Af (i:=0) rfl)) rfl fun j u hu=>by rw [Nat.zero_add];exact hu) (fun u hu=>by rw [List.mem_singleton] at hu;subst hu;rfl) (by simp only [maxLen];omega) (by show (_ + _) * 8 <= _;omega) rfl (fun A' C' h1 h2=>⟨_,rfl,?_⟩);repeat (first |refine Ag ?_ |refine Ad ?_ |refine Al ?_ |refine Ae Aa rfl ?_)
   have htk:l.take (k + 1)=l.take k ++ [K9 x]:=by rw [List.take_add_one,hpk.1];rfl
   refine ⟨⟨k + 1,A',C',F'⟩,⟨hkl,fun p hp=>?_,fun j hj=>g1 j (hF1 j hj),fun j hj=>?_⟩,by repeat (first |exact As.nil |refine As.cons rfl ?_),fun w' hw=>?_,by show l.length - (k + 1) < l.length - k;omega⟩
   ·rw [htk] at hp
    rcases List.mem_append.1 hp with hp |hp
    ·exact hle p hp
    ·rw [List.mem_singleton] at hp;subst hp;show x.tm <= now;have:¬ now < x.tm:=hgt;omega
   ·rcases g2 j hj with h |h
    ·exact hF2 j h
    ·exact .inr (Nat.le_trans hsz h)
   ·have h9:=hw.drop (fun _ k hk=>by
     rw [<-Option.some.inj hk]
     exact hnb)
    rw [htk,List.map_append,show Bj (List.map (·.1) (l.take k) ++ List.map (·.1) [K9 x])=Bj (List.map (·.1) (l.take k)) ++ [.int .u64 x.id] from List.map_append]
    exact h9.turnX 1 rfl (fun h=>⟨mb,_,_,c,⟨h.1.1,h.2⟩,by
     have:=hR.pop (E9 0 ab mb) hx;rw [e2] at this;rw [hpk.2]
     exact this⟩) (Vp.loc (p:=IZ ab (l.drop (k + 1)))) rfl
end Go.Proofs.YtidhpofcofknhaaGreat
