/-
  The walk of alarm.entries' Swap. Conditions: each theorem's own. (Made by genAlA.py.) alarm.entries as a heap's object. Conditions: each theorem's own. (Made by genAlB.py.) alarm.entries' Push and Pop; heap.Push, Pop, Fix, Remove of an alarm with its map. Conditions: each theorem's own. heap.Push, Pop, Fix, Remove of an alarm with its map. Conditions: each theorem's own. The plain law of an alarm: its heap and its map against the document's list. Conditions: each theorem's own. The walks of alarm's New, Len, Next, When. Conditions: each theorem's own. The walks of alarm's Set and Clear. Conditions: each theorem's own. The walk of alarm's Due. Conditions: each theorem's own. The document's example; a nil alarm. Conditions: each theorem's own.
  Conditions: each theorem's own.
-/
import Derived.Test.YtidhpofcofknhaaGreatEz
namespace Go.Proofs.YtidhpofcofknhaaGreat
open Go Go.RowKit
set_option linter.unusedVariables false
set_option maxHeartbeats 2000000 in
theorem RA (g n c i j bx by_:Nat) (cs:List Value) (idx atx plx idy aty ply:Int) (w:World) (hst:Hp w w [.blk g (.cells ⟨cs⟩ 164 (0,0)) true,.blk bx (.cells ⟨[.int .u64 idx,.int .i64 atx,.int .i64 plx]⟩ 174 (0,0)) true,.blk by_ (.cells ⟨[.int .u64 idy,.int .i64 aty,.int .i64 ply]⟩ 174 (0,0)) true]) (hi:i < n) (hj:j < n) (hn:n <= cs.length) (hu:cs[i]? =some (.pointer (some ⟨bx,0,none⟩))) (hv:cs[j]? =some (.pointer (some ⟨by_,0,none⟩))):
 Calls Tryz.prog 137 #[.slice (some ⟨g,0,none⟩) n c,.int .i64 (i:Int),.int .i64 (j:Int)] w fun e w'=>e= .returned (.tuple #[])/\Hp w w' [.blk g (.cells ⟨(cs.set i (.pointer (some ⟨by_,0,none⟩))).set j (.pointer (some ⟨bx,0,none⟩))⟩ 164 (0,0)) true,.blk bx (.cells ⟨[.int .u64 idx,.int .i64 atx,.int .i64 (j:Int)]⟩ 174 (0,0)) true,.blk by_ (.cells ⟨[.int .u64 idy,.int .i64 aty,.int .i64 (i:Int)]⟩ 174 (0,0)) true]:=by
 have hg2:((cs.set i (.pointer (some ⟨by_,0,none⟩))).set j (.pointer (some ⟨bx,0,none⟩)))[i]? =some (.pointer (some ⟨by_,0,none⟩)):=by
  rw [List.getElem?_set];by_cases h:j=i
  ·rw [if_pos h,if_pos (by rw [List.length_set];omega)];subst h;rw [hu] at hv;exact hv
  ·rw [if_neg h,List.getElem?_set_self (by omega)]
 have hg3:((cs.set i (.pointer (some ⟨by_,0,none⟩))).set j (.pointer (some ⟨bx,0,none⟩)))[j]? =some (.pointer (some ⟨bx,0,none⟩)):=List.getElem?_set_self (by rw [List.length_set];omega);refine EP Tryz.func137 rfl rfl hst ?_;repeat (first |refine Ai ?_)
 let ol0:OL:=[.blk g (.cells ⟨cs⟩ 164 (0,0)) true,.blk bx (.cells ⟨[.int .u64 idx,.int .i64 atx,.int .i64 plx]⟩ 174 (0,0)) true,.blk by_ (.cells ⟨[.int .u64 idy,.int .i64 aty,.int .i64 ply]⟩ 174 (0,0)) true]
 let ol1:OL:=[.blk g (.cells ⟨cs.set i (.pointer (some ⟨by_,0,none⟩))⟩ 164 (0,0)) true,.blk bx (.cells ⟨[.int .u64 idx,.int .i64 atx,.int .i64 plx]⟩ 174 (0,0)) true,.blk by_ (.cells ⟨[.int .u64 idy,.int .i64 aty,.int .i64 ply]⟩ 174 (0,0)) true]
 let ol2:OL:=[.blk g (.cells ⟨(cs.set i (.pointer (some ⟨by_,0,none⟩))).set j (.pointer (some ⟨bx,0,none⟩))⟩ 164 (0,0)) true,.blk bx (.cells ⟨[.int .u64 idx,.int .i64 atx,.int .i64 plx]⟩ 174 (0,0)) true,.blk by_ (.cells ⟨[.int .u64 idy,.int .i64 aty,.int .i64 ply]⟩ 174 (0,0)) true]
 let olf:(Nat->Bool)->OL:=fun L=>match L 15 with
  |true=>ol2
  |false=>match L 13 with
   |true=>ol1
   |false=>ol0
 refine Ci (by kernel_rfl) (by kernel_rfl) [.slice (some ⟨g,0,none⟩) n c,.int .i64 (i:Int),.slice (some ⟨g,0,none⟩) n c,.int .i64 (j:Int),.slice (some ⟨g,0,none⟩) n c,.int .i64 (j:Int),.pointer (some ⟨g,0 + j,none⟩),.pointer (some ⟨by_,0,none⟩),.slice (some ⟨g,0,none⟩) n c,.int .i64 (i:Int),.pointer (some ⟨g,0 + i,none⟩),.pointer (some ⟨bx,0,none⟩),.pointer (some ⟨g,0 + i,none⟩),undef,.pointer (some ⟨g,0 + j,none⟩),undef] rfl olf rfl ?_ (l':=[(0,.slice (some ⟨g,0,none⟩) n c),(1,.int .i64 (i:Int)),(2,.int .i64 (j:Int))]) (ol':=ol2) (fun L h=>by simp only [olf,h 15 (by decide)]) (by repeat (first |exact Bc.nil |refine Bc.cons rfl ?_)) ?_
 ·refine ⟨?_,?_,?_,?_,?_,?_,?_,?_,?_,?_,?_,?_,?_,?_,?_,?_,trivial⟩
  ·exact fun L hc hl hp=>AK.ofD rfl (Ah Aa rfl Aj)
  ·exact fun L hc hl hp=>AK.ofD rfl (Ah Aa rfl Aj)
  ·exact fun L hc hl hp=>AK.ofD rfl (Ah Aa rfl Aj)
  ·exact fun L hc hl hp=>AK.ofD rfl (Ah Aa rfl Aj)
  ·exact fun L hc hl hp=>AK.ofD rfl (Ah Aa rfl Aj)
  ·exact fun L hc hl hp=>AK.ofD rfl (Ah Aa rfl Aj)
  ·exact fun L hc hl hp=>AK.ofD rfl (Bx (Ay Aa rfl rfl rfl rfl rfl rfl rfl (j:=j) rfl hj) Aj)
  ·intro L hc hl hp;have h13:=At hc (j:=13) rfl ⟨7,.data⟩ (by simp) rfl hl;have h15:=At hc (j:=15) rfl ⟨13,.phase⟩ (by simp) rfl h13
   have e1:olf L=ol0:=by simp only [olf,h13,h15]
   have e2:olf (add L 7)=ol0:=by simp [olf,add,h13,h15]
   rw [e1,e2];exact AK.ofD rfl (Av Aa (v:=.pointer (some ⟨by_,0,none⟩)) rfl rfl (fun w' hw=>Du hw hv) Aj)
  ·exact fun L hc hl hp=>AK.ofD rfl (Ah Aa rfl Aj)
  ·exact fun L hc hl hp=>AK.ofD rfl (Ah Aa rfl Aj)
  ·exact fun L hc hl hp=>AK.ofD rfl (Bx (Ay Aa rfl rfl rfl rfl rfl rfl rfl (j:=i) rfl hi) Aj)
  ·intro L hc hl hp;have h13:=At hc (j:=13) rfl ⟨11,.phase⟩ (by simp) rfl hl;have h15:=At hc (j:=15) rfl ⟨13,.phase⟩ (by simp) rfl h13
   have e1:olf L=ol0:=by simp only [olf,h13,h15]
   have e2:olf (add L 11)=ol0:=by simp [olf,add,h13,h15]
   rw [e1,e2];exact AK.ofD rfl (Av Aa (v:=.pointer (some ⟨bx,0,none⟩)) rfl rfl (fun w' hw=>Du hw hu) Aj)
  ·exact fun L hc hl hp=>AK.ofD rfl (Bx (Ay Aa rfl rfl rfl rfl rfl rfl rfl (j:=i) rfl hi) Aj)
  ·intro L hc hl hp;have h15:=At hc (j:=15) rfl ⟨13,.phase⟩ (by simp) rfl hl
   have e1:olf L=ol0:=by simp only [olf,hl,h15]
   have e2:olf (add L 13)=ol1:=by simp [olf,add,h15]
   rw [e1,e2];exact AK.store Aa 0 rfl rfl (by intro x hx;rw [List.mem_singleton] at hx;subst hx;rfl) rfl (by rw [Nat.zero_add];exact Db (by omega)) rfl
  ·exact fun L hc hl hp=>AK.ofD rfl (Bx (Ay Aa rfl rfl rfl rfl rfl rfl rfl (j:=j) rfl hj) Aj)
  ·intro L hc hl hp;have h13:L 13=true:=hp ⟨13,.phase⟩ (by simp) rfl
   have e1:olf L=ol1:=by simp only [olf,h13,hl]
   have e2:olf (add L 15)=ol2:=by simp [olf,add]
   rw [e1,e2];exact AK.store Aa 0 rfl rfl (by intro x hx;rw [List.mem_singleton] at hx;subst hx;rfl) rfl (by rw [Nat.zero_add];exact Db (by rw [List.length_set];omega)) rfl
 clear olf ol1
 let ol3:OL:=[.blk g (.cells ⟨(cs.set i (.pointer (some ⟨by_,0,none⟩))).set j (.pointer (some ⟨bx,0,none⟩))⟩ 164 (0,0)) true,.blk bx (.cells ⟨[.int .u64 idx,.int .i64 atx,.int .i64 plx]⟩ 174 (0,0)) true,.blk by_ (.cells ⟨[.int .u64 idy,.int .i64 aty,.int .i64 (i:Int)]⟩ 174 (0,0)) true]
 let ol4:OL:=[.blk g (.cells ⟨(cs.set i (.pointer (some ⟨by_,0,none⟩))).set j (.pointer (some ⟨bx,0,none⟩))⟩ 164 (0,0)) true,.blk bx (.cells ⟨[.int .u64 idx,.int .i64 atx,.int .i64 (j:Int)]⟩ 174 (0,0)) true,.blk by_ (.cells ⟨[.int .u64 idy,.int .i64 aty,.int .i64 (i:Int)]⟩ 174 (0,0)) true]
 let olg:(Nat->Bool)->OL:=fun L=>match L 15 with
  |true=>ol4
  |false=>match L 12 with
   |true=>ol3
   |false=>ol2
 refine Ca ?_;refine Ci (by kernel_rfl) (by kernel_rfl) [.slice (some ⟨g,0,none⟩) n c,.int .i64 (i:Int),.pointer (some ⟨g,0 + i,none⟩),.pointer (some ⟨by_,0,none⟩),.slice (some ⟨g,0,none⟩) n c,.int .i64 (j:Int),.pointer (some ⟨g,0 + j,none⟩),.pointer (some ⟨bx,0,none⟩),.int .i64 (i:Int),.int .i64 (j:Int),.pointer (some ⟨by_,0,none⟩),.pointer (some ⟨by_,0 + 2,none⟩),undef,.pointer (some ⟨bx,0,none⟩),.pointer (some ⟨bx,0 + 2,none⟩),undef] rfl olg rfl ?_ (l':=[]) (ol':=ol4) (fun L h=>by simp only [olg,h 15 (by decide)]) (by repeat (first |exact Bc.nil)) ?_
 ·refine ⟨?_,?_,?_,?_,?_,?_,?_,?_,?_,?_,?_,?_,?_,?_,?_,?_,trivial⟩
  ·exact fun L hc hl hp=>AK.ofD rfl (Ah Aa rfl Aj)
  ·exact fun L hc hl hp=>AK.ofD rfl (Ah Aa rfl Aj)
  ·exact fun L hc hl hp=>AK.ofD rfl (Bx (Ay Aa rfl rfl rfl rfl rfl rfl rfl (j:=i) rfl hi) Aj)
  ·intro L hc hl hp;have h12:=At hc (j:=12) rfl ⟨3,.phase⟩ (by simp) rfl hl;have h15:=At hc (j:=15) rfl ⟨12,.phase⟩ (by simp) rfl h12
   have e1:olg L=ol2:=by simp only [olg,h12,h15]
   have e2:olg (add L 3)=ol2:=by simp [olg,add,h12,h15]
   rw [e1,e2];exact AK.ofD rfl (Av Aa (v:=.pointer (some ⟨by_,0,none⟩)) rfl rfl (fun w' hw=>Du hw hg2) Aj)
  ·exact fun L hc hl hp=>AK.ofD rfl (Ah Aa rfl Aj)
  ·exact fun L hc hl hp=>AK.ofD rfl (Ah Aa rfl Aj)
  ·exact fun L hc hl hp=>AK.ofD rfl (Bx (Ay Aa rfl rfl rfl rfl rfl rfl rfl (j:=j) rfl hj) Aj)
  ·intro L hc hl hp;have h15:=At hc (j:=15) rfl ⟨7,.phase⟩ (by simp) rfl hl
   cases h12:L 12 with
   |false=>
    have e1:olg L=ol2:=by simp only [olg,h12,h15]
    have e2:olg (add L 7)=ol2:=by simp [olg,add,h12,h15]
    rw [e1,e2];exact AK.ofD rfl (Av Aa (v:=.pointer (some ⟨bx,0,none⟩)) rfl rfl (fun w' hw=>Du hw hg3) Aj)
   |true=>
    have e1:olg L=ol3:=by simp only [olg,h12,h15]
    have e2:olg (add L 7)=ol3:=by simp [olg,add,h12,h15]
    rw [e1,e2];exact AK.ofD rfl (Av Aa (v:=.pointer (some ⟨bx,0,none⟩)) rfl rfl (fun w' hw=>Du hw hg3) Aj)
  ·exact fun L hc hl hp=>AK.ofD rfl (Ah Aa rfl Aj)
  ·exact fun L hc hl hp=>AK.ofD rfl (Ah Aa rfl Aj)
  ·exact fun L hc hl hp=>AK.ofD rfl (Ah Aa rfl Aj)
  ·exact fun L hc hl hp=>AK.ofD rfl (Ah Aa rfl Aj)
  ·intro L hc hl hp;have h15:=At hc (j:=15) rfl ⟨12,.phase⟩ (by simp) rfl hl
   have e1:olg L=ol2:=by simp only [olg,hl,h15]
   have e2:olg (add L 12)=ol3:=by simp [olg,add,h15]
   rw [e1,e2];exact AK.store Aa 2 rfl rfl (by intro x hx;rw [List.mem_singleton] at hx;subst hx;rfl) rfl rfl rfl
  ·exact fun L hc hl hp=>AK.ofD rfl (Ah Aa rfl Aj)
  ·exact fun L hc hl hp=>AK.ofD rfl (Ah Aa rfl Aj)
  ·intro L hc hl hp;have h12:L 12=true:=hp ⟨12,.phase⟩ (by simp) rfl
   have e1:olg L=ol3:=by simp only [olg,h12,hl]
   have e2:olg (add L 15)=ol4:=by simp [olg,add]
   rw [e1,e2];exact AK.store Aa 1 rfl rfl (by intro x hx;rw [List.mem_singleton] at hx;subst hx;rfl) rfl rfl rfl
 exact CM rfl (fun w' hw=>⟨rfl,hw⟩)
set_option maxHeartbeats 2000000 in
theorem RB (g n c i j bx:Nat) (cs:List Value) (idx atx plx:Int) (w:World) (hst:Hp w w [.blk g (.cells ⟨cs⟩ 164 (0,0)) true,.blk bx (.cells ⟨[.int .u64 idx,.int .i64 atx,.int .i64 plx]⟩ 174 (0,0)) true]) (hi:i < n) (hj:j < n) (hn:n <= cs.length) (hu:cs[i]? =some (.pointer (some ⟨bx,0,none⟩))) (hv:cs[j]? =some (.pointer (some ⟨bx,0,none⟩))) (hij:i=j):
 Calls Tryz.prog 137 #[.slice (some ⟨g,0,none⟩) n c,.int .i64 (i:Int),.int .i64 (j:Int)] w fun e w'=>e= .returned (.tuple #[])/\Hp w w' [.blk g (.cells ⟨(cs.set i (.pointer (some ⟨bx,0,none⟩))).set j (.pointer (some ⟨bx,0,none⟩))⟩ 164 (0,0)) true,.blk bx (.cells ⟨[.int .u64 idx,.int .i64 atx,.int .i64 (j:Int)]⟩ 174 (0,0)) true]:=by
 have hg2:((cs.set i (.pointer (some ⟨bx,0,none⟩))).set j (.pointer (some ⟨bx,0,none⟩)))[i]? =some (.pointer (some ⟨bx,0,none⟩)):=by
  rw [List.getElem?_set];by_cases h:j=i
  ·rw [if_pos h,if_pos (by rw [List.length_set];omega)]
  ·rw [if_neg h,List.getElem?_set_self (by omega)]
 have hg3:((cs.set i (.pointer (some ⟨bx,0,none⟩))).set j (.pointer (some ⟨bx,0,none⟩)))[j]? =some (.pointer (some ⟨bx,0,none⟩)):=List.getElem?_set_self (by rw [List.length_set];omega);refine EP Tryz.func137 rfl rfl hst ?_;repeat (first |refine Ai ?_)
 let ol0:OL:=[.blk g (.cells ⟨cs⟩ 164 (0,0)) true,.blk bx (.cells ⟨[.int .u64 idx,.int .i64 atx,.int .i64 plx]⟩ 174 (0,0)) true]
 let ol1:OL:=[.blk g (.cells ⟨cs.set i (.pointer (some ⟨bx,0,none⟩))⟩ 164 (0,0)) true,.blk bx (.cells ⟨[.int .u64 idx,.int .i64 atx,.int .i64 plx]⟩ 174 (0,0)) true]
 let ol2:OL:=[.blk g (.cells ⟨(cs.set i (.pointer (some ⟨bx,0,none⟩))).set j (.pointer (some ⟨bx,0,none⟩))⟩ 164 (0,0)) true,.blk bx (.cells ⟨[.int .u64 idx,.int .i64 atx,.int .i64 plx]⟩ 174 (0,0)) true]
 let olf:(Nat->Bool)->OL:=fun L=>match L 15 with
  |true=>ol2
  |false=>match L 13 with
   |true=>ol1
   |false=>ol0
 refine Ci (by kernel_rfl) (by kernel_rfl) [.slice (some ⟨g,0,none⟩) n c,.int .i64 (i:Int),.slice (some ⟨g,0,none⟩) n c,.int .i64 (j:Int),.slice (some ⟨g,0,none⟩) n c,.int .i64 (j:Int),.pointer (some ⟨g,0 + j,none⟩),.pointer (some ⟨bx,0,none⟩),.slice (some ⟨g,0,none⟩) n c,.int .i64 (i:Int),.pointer (some ⟨g,0 + i,none⟩),.pointer (some ⟨bx,0,none⟩),.pointer (some ⟨g,0 + i,none⟩),undef,.pointer (some ⟨g,0 + j,none⟩),undef] rfl olf rfl ?_ (l':=[(0,.slice (some ⟨g,0,none⟩) n c),(1,.int .i64 (i:Int)),(2,.int .i64 (j:Int))]) (ol':=ol2) (fun L h=>by simp only [olf,h 15 (by decide)]) (by repeat (first |exact Bc.nil |refine Bc.cons rfl ?_)) ?_
 ·refine ⟨?_,?_,?_,?_,?_,?_,?_,?_,?_,?_,?_,?_,?_,?_,?_,?_,trivial⟩
  ·exact fun L hc hl hp=>AK.ofD rfl (Ah Aa rfl Aj)
  ·exact fun L hc hl hp=>AK.ofD rfl (Ah Aa rfl Aj)
  ·exact fun L hc hl hp=>AK.ofD rfl (Ah Aa rfl Aj)
  ·exact fun L hc hl hp=>AK.ofD rfl (Ah Aa rfl Aj)
  ·exact fun L hc hl hp=>AK.ofD rfl (Ah Aa rfl Aj)
  ·exact fun L hc hl hp=>AK.ofD rfl (Ah Aa rfl Aj)
  ·exact fun L hc hl hp=>AK.ofD rfl (Bx (Ay Aa rfl rfl rfl rfl rfl rfl rfl (j:=j) rfl hj) Aj)
  ·intro L hc hl hp;have h13:=At hc (j:=13) rfl ⟨7,.data⟩ (by simp) rfl hl;have h15:=At hc (j:=15) rfl ⟨13,.phase⟩ (by simp) rfl h13
   have e1:olf L=ol0:=by simp only [olf,h13,h15]
   have e2:olf (add L 7)=ol0:=by simp [olf,add,h13,h15]
   rw [e1,e2];exact AK.ofD rfl (Av Aa (v:=.pointer (some ⟨bx,0,none⟩)) rfl rfl (fun w' hw=>Du hw hv) Aj)
  ·exact fun L hc hl hp=>AK.ofD rfl (Ah Aa rfl Aj)
  ·exact fun L hc hl hp=>AK.ofD rfl (Ah Aa rfl Aj)
  ·exact fun L hc hl hp=>AK.ofD rfl (Bx (Ay Aa rfl rfl rfl rfl rfl rfl rfl (j:=i) rfl hi) Aj)
  ·intro L hc hl hp;have h13:=At hc (j:=13) rfl ⟨11,.phase⟩ (by simp) rfl hl;have h15:=At hc (j:=15) rfl ⟨13,.phase⟩ (by simp) rfl h13
   have e1:olf L=ol0:=by simp only [olf,h13,h15]
   have e2:olf (add L 11)=ol0:=by simp [olf,add,h13,h15]
   rw [e1,e2];exact AK.ofD rfl (Av Aa (v:=.pointer (some ⟨bx,0,none⟩)) rfl rfl (fun w' hw=>Du hw hu) Aj)
  ·exact fun L hc hl hp=>AK.ofD rfl (Bx (Ay Aa rfl rfl rfl rfl rfl rfl rfl (j:=i) rfl hi) Aj)
  ·intro L hc hl hp;have h15:=At hc (j:=15) rfl ⟨13,.phase⟩ (by simp) rfl hl
   have e1:olf L=ol0:=by simp only [olf,hl,h15]
   have e2:olf (add L 13)=ol1:=by simp [olf,add,h15]
   rw [e1,e2];exact AK.store Aa 0 rfl rfl (by intro x hx;rw [List.mem_singleton] at hx;subst hx;rfl) rfl (by rw [Nat.zero_add];exact Db (by omega)) rfl
  ·exact fun L hc hl hp=>AK.ofD rfl (Bx (Ay Aa rfl rfl rfl rfl rfl rfl rfl (j:=j) rfl hj) Aj)
  ·intro L hc hl hp;have h13:L 13=true:=hp ⟨13,.phase⟩ (by simp) rfl
   have e1:olf L=ol1:=by simp only [olf,h13,hl]
   have e2:olf (add L 15)=ol2:=by simp [olf,add]
   rw [e1,e2];exact AK.store Aa 0 rfl rfl (by intro x hx;rw [List.mem_singleton] at hx;subst hx;rfl) rfl (by rw [Nat.zero_add];exact Db (by rw [List.length_set];omega)) rfl
 clear olf ol1
 let ol3:OL:=[.blk g (.cells ⟨(cs.set i (.pointer (some ⟨bx,0,none⟩))).set j (.pointer (some ⟨bx,0,none⟩))⟩ 164 (0,0)) true,.blk bx (.cells ⟨[.int .u64 idx,.int .i64 atx,.int .i64 (i:Int)]⟩ 174 (0,0)) true]
 let ol4:OL:=[.blk g (.cells ⟨(cs.set i (.pointer (some ⟨bx,0,none⟩))).set j (.pointer (some ⟨bx,0,none⟩))⟩ 164 (0,0)) true,.blk bx (.cells ⟨[.int .u64 idx,.int .i64 atx,.int .i64 (j:Int)]⟩ 174 (0,0)) true]
 let olg:(Nat->Bool)->OL:=fun L=>match L 15 with
  |true=>ol4
  |false=>match L 12 with
   |true=>ol3
   |false=>ol2
 refine Ca ?_;refine Ci (by kernel_rfl) (by kernel_rfl) [.slice (some ⟨g,0,none⟩) n c,.int .i64 (i:Int),.pointer (some ⟨g,0 + i,none⟩),.pointer (some ⟨bx,0,none⟩),.slice (some ⟨g,0,none⟩) n c,.int .i64 (j:Int),.pointer (some ⟨g,0 + j,none⟩),.pointer (some ⟨bx,0,none⟩),.int .i64 (i:Int),.int .i64 (j:Int),.pointer (some ⟨bx,0,none⟩),.pointer (some ⟨bx,0 + 2,none⟩),undef,.pointer (some ⟨bx,0,none⟩),.pointer (some ⟨bx,0 + 2,none⟩),undef] rfl olg rfl ?_ (l':=[]) (ol':=ol4) (fun L h=>by simp only [olg,h 15 (by decide)]) (by repeat (first |exact Bc.nil)) ?_
 ·refine ⟨?_,?_,?_,?_,?_,?_,?_,?_,?_,?_,?_,?_,?_,?_,?_,?_,trivial⟩
  ·exact fun L hc hl hp=>AK.ofD rfl (Ah Aa rfl Aj)
  ·exact fun L hc hl hp=>AK.ofD rfl (Ah Aa rfl Aj)
  ·exact fun L hc hl hp=>AK.ofD rfl (Bx (Ay Aa rfl rfl rfl rfl rfl rfl rfl (j:=i) rfl hi) Aj)
  ·intro L hc hl hp;have h12:=At hc (j:=12) rfl ⟨3,.phase⟩ (by simp) rfl hl;have h15:=At hc (j:=15) rfl ⟨12,.phase⟩ (by simp) rfl h12
   have e1:olg L=ol2:=by simp only [olg,h12,h15]
   have e2:olg (add L 3)=ol2:=by simp [olg,add,h12,h15]
   rw [e1,e2];exact AK.ofD rfl (Av Aa (v:=.pointer (some ⟨bx,0,none⟩)) rfl rfl (fun w' hw=>Du hw hg2) Aj)
  ·exact fun L hc hl hp=>AK.ofD rfl (Ah Aa rfl Aj)
  ·exact fun L hc hl hp=>AK.ofD rfl (Ah Aa rfl Aj)
  ·exact fun L hc hl hp=>AK.ofD rfl (Bx (Ay Aa rfl rfl rfl rfl rfl rfl rfl (j:=j) rfl hj) Aj)
  ·intro L hc hl hp;have h15:=At hc (j:=15) rfl ⟨7,.phase⟩ (by simp) rfl hl
   cases h12:L 12 with
   |false=>
    have e1:olg L=ol2:=by simp only [olg,h12,h15]
    have e2:olg (add L 7)=ol2:=by simp [olg,add,h12,h15]
    rw [e1,e2];exact AK.ofD rfl (Av Aa (v:=.pointer (some ⟨bx,0,none⟩)) rfl rfl (fun w' hw=>Du hw hg3) Aj)
   |true=>
    have e1:olg L=ol3:=by simp only [olg,h12,h15]
    have e2:olg (add L 7)=ol3:=by simp [olg,add,h12,h15]
    rw [e1,e2];exact AK.ofD rfl (Av Aa (v:=.pointer (some ⟨bx,0,none⟩)) rfl rfl (fun w' hw=>Du hw hg3) Aj)
  ·exact fun L hc hl hp=>AK.ofD rfl (Ah Aa rfl Aj)
  ·exact fun L hc hl hp=>AK.ofD rfl (Ah Aa rfl Aj)
  ·exact fun L hc hl hp=>AK.ofD rfl (Ah Aa rfl Aj)
  ·exact fun L hc hl hp=>AK.ofD rfl (Ah Aa rfl Aj)
  ·intro L hc hl hp;have h15:=At hc (j:=15) rfl ⟨12,.phase⟩ (by simp) rfl hl
   have e1:olg L=ol2:=by simp only [olg,hl,h15]
   have e2:olg (add L 12)=ol3:=by simp [olg,add,h15]
   rw [e1,e2];exact AK.store Aa 1 rfl rfl (by intro x hx;rw [List.mem_singleton] at hx;subst hx;rfl) rfl rfl rfl
  ·exact fun L hc hl hp=>AK.ofD rfl (Ah Aa rfl Aj)
  ·exact fun L hc hl hp=>AK.ofD rfl (Ah Aa rfl Aj)
  ·intro L hc hl hp;have h12:L 12=true:=hp ⟨12,.phase⟩ (by simp) rfl
   have e1:olg L=ol3:=by simp only [olg,h12,hl]
   have e2:olg (add L 15)=ol4:=by simp [olg,add]
   rw [e1,e2];exact AK.store Aa 1 rfl rfl (by intro x hx;rw [List.mem_singleton] at hx;subst hx;rfl) rfl rfl rfl
 exact CM rfl (fun w' hw=>⟨rfl,hw⟩)
structure En where
 b:Nat
 id:Int
 tm:Int
abbrev Sk (x:En) (i:Nat):Obj:=.cells ⟨[.int .u64 x.id,.int .i64 x.tm,.int .i64 (i:Int)]⟩ 174 (0,0)
abbrev Ds (x:En):Value:=.pointer (some ⟨x.b,0,none⟩)
def NO (x y:En):Bool:=decide (x.tm < y.tm \/ (x.tm=y.tm/\x.id < y.id))
theorem IK:SW NO:=by
 constructor
 ·intro a b h;simp only [NO,decide_eq_true_eq,decide_eq_false_iff_not] at h ⊢;omega
 ·intro a b c h1 h2;simp only [NO,decide_eq_false_iff_not] at h1 h2 ⊢;omega
def RM (base ab mb:Nat) (s:List En):Vp:=
 ⟨fun w F v=>w.heap[ab]? =some (.cells ⟨[v,.map (some mb)]⟩ 170 (0,0))/\F ab/\w.ownsRow base 164 1 v s.length (s.map Ds)/\(∀ k,v.ownBlock=some k->F k)/\(∀ i x,s[i]? =some x->w.heap[x.b]? =some (Sk x i)/\F x.b)/\s.length <= 1073741824,
  fun {w w' A B v} ⟨h1,h2,h3,h4,h5,h6⟩ hk=>⟨((hk ab h2 (AU h1)).1).trans h1,(hk ab h2 (AU h1)).2,JU h3 (fun k hv=>(hk k (h4 k hv) (World.ownsRow.lt h3 k hv).2).1),fun k hv=>(hk k (h4 k hv) (World.ownsRow.lt h3 k hv).2).2,fun i x hx=>⟨((hk x.b (h5 i x hx).2 (AU (h5 i x hx).1)).1).trans (h5 i x hx).1,(hk x.b (h5 i x hx).2 (AU (h5 i x hx).1)).2⟩,h6⟩⟩
def L4 (base ab mb:Nat) (s:List En):Vp:=
 ⟨fun w F _=>∃ v,(RM base ab mb s).at_ w F v,fun ⟨v,h⟩ hk=>⟨v,(RM base ab mb s).keep h hk⟩⟩
theorem Hp.startR {w:World} {p:Vp} {v:Value} {F:Nat->Prop} (hv:p.at_ w F v):∃ F':Nat->Prop,Hp w w [.rep (fun w=>p.at_ w F' v) F' false]:=
 ⟨fun k=>F k/\k < w.heap.size,(Hp.refl w).more ⟨p.keep hv fun k hk hlt=>⟨rfl,hk,hlt⟩,Vp.loc,fun k hk=>hk.2⟩ fun e he=>(by cases he)⟩
theorem If {base ab mb:Nat} {s:List En} {w:World} {F:Nat->Prop} {v:Value} (h:(RM base ab mb s).at_ w F v):∃ a c,v= .slice a s.length c/\s.length <= c:=by
 obtain ⟨a,c,h1,h2,_⟩:=Cy h.2.2.1;exact ⟨a,c,h1,h2⟩
theorem Ig {base ab mb:Nat} {s:List En} {w:World} {F:Nat->Prop} {v:Value} (h:(RM base ab mb s).at_ w F v) (h0:0 < s.length):∃ g c,v= .slice (some ⟨g,0,none⟩) s.length c:=by
 obtain ⟨_,h2⟩:=h.2.2.1
 rcases h2 with ⟨_,h3⟩ |⟨g,cap,cur,h3,_⟩
 ·omega
 ·exact ⟨g,cap,h3⟩
theorem ES {base ab mb:Nat} {s:List En} {w:World} {F:Nat->Prop} {g c n:Nat} (h:(RM base ab mb s).at_ w F (.slice (some ⟨g,0,none⟩) n c)) {i:Nat} {x:En} (hx:s[i]? =some x):w.cell? ⟨g,0 + i,none⟩=some (Ds x):=by
 obtain ⟨a,c',e,_⟩:=If h;cases e;rw [Nat.zero_add];have:=(List.getElem?_eq_some_iff.1 hx).1;exact Cn h.2.2.1 (by omega) (by rw [List.getElem?_map,hx];rfl)
theorem Ht {base ab mb:Nat} {s:List En} {w:World} {F:Nat->Prop} {v:Value} (h:(RM base ab mb s).at_ w F v) {i:Nat} {x:En} (hx:s[i]? =some x) {j:Nat} {u:Value} (hu:[.int .u64 x.id,.int .i64 x.tm,.int .i64 (i:Int)][j]? =some u):w.cell? ⟨x.b,0 + j,none⟩=some u:=
 (Sl.of_blk (n:=3) (sz:=1) (off:=0) (h.2.2.2.2.1 i x hx).1 rfl (fun j u hu=>by rw [Nat.zero_add];exact hu)).at_ (by decide) hu
theorem UC (a:Option Addr) (n c:Nat) (w:World):Calls Tryz.prog 135 #[.slice a n c] w fun e w'=>e= .returned (.int .i64 (n:Int))/\Below w.heap.size w w':=by
 refine BZ Tryz.func135 rfl rfl (Hp.refl w) ?_;repeat (first |refine Ai ?_ |refine Ab ?_ |refine Ag ?_ |refine AC ?_ |refine Ae Aa rfl ?_)
 exact AZ rfl rfl (fun w' hw=>⟨rfl,hw.below (by repeat (first |exact Ar))⟩)
set_option maxHeartbeats 1000000 in
theorem RH (base ab mb:Nat) (s:List En) (F0:Nat->Prop) (v:Value) (i j:Nat) (w:World) (h:(RM base ab mb s).at_ w F0 v) (hi:i < s.length) (hj:j < s.length):
 Calls Tryz.prog 136 #[v,.int .i64 (i:Int),.int .i64 (j:Int)] w fun e w'=>e= .returned (.bool (FB NO s i j))/\Below w.heap.size w w':=by
 obtain ⟨F,hst⟩:=Hp.startR h;obtain ⟨g,c,rfl⟩:=Ig h (by omega);obtain ⟨x,hx⟩:∃ x,s[i]? =some x:=⟨_,List.getElem?_eq_getElem hi⟩;obtain ⟨y,hy⟩:∃ y,s[j]? =some y:=⟨_,List.getElem?_eq_getElem hj⟩
 have hl:FB NO s i j=NO x y:=by unfold FB;rw [hx,hy]
 rw [hl];refine EP Tryz.func136 rfl rfl hst ?_;repeat (first |refine A5 (by kernel_rfl) (by kernel_rfl) ?_ |refine Ah Aa rfl ?_ |refine Ai ?_ |refine Ab ?_ |refine Ag ?_ |refine Ae Aa rfl ?_)
 refine Bx (Ay Aa rfl rfl rfl rfl rfl rfl rfl (j:=i) rfl hi) ?_;skip;refine Av Aa (v:=Ds x) rfl rfl (fun w' hw=>ES (hw.own _ (Af (i:=0) rfl)).1 hx) ?_;repeat (first |refine Ah Aa rfl ?_)
 refine Av Aa (v:=.int .i64 x.tm) rfl rfl (fun w' hw=>Ht (hw.own _ (Af (i:=0) rfl)).1 hx (j:=1) rfl) ?_;repeat (first |refine Ah Aa rfl ?_)
 refine Bx (Ay Aa rfl rfl rfl rfl rfl rfl rfl (j:=j) rfl hj) ?_;skip;refine Av Aa (v:=Ds y) rfl rfl (fun w' hw=>ES (hw.own _ (Af (i:=0) rfl)).1 hy) ?_;repeat (first |refine Ah Aa rfl ?_)
 refine Av Aa (v:=.int .i64 y.tm) rfl rfl (fun w' hw=>Ht (hw.own _ (Af (i:=0) rfl)).1 hy (j:=1) rfl) ?_;repeat (first |refine AN rfl ?_ |refine Ah Aa rfl ?_)
 refine Ak rfl (fun h1=>?_) (fun h1=>?_)
 ·repeat (first |refine A5 (by kernel_rfl) (by kernel_rfl) ?_ |refine Ah Aa rfl ?_ |refine Ai ?_)
  refine Bx (Ay Aa rfl rfl rfl rfl rfl rfl rfl (j:=i) rfl hi) ?_;skip;refine Av Aa (v:=Ds x) rfl rfl (fun w' hw=>ES (hw.own _ (Af (i:=0) rfl)).1 hx) ?_;repeat (first |refine Ah Aa rfl ?_)
  refine Av Aa (v:=.int .i64 x.tm) rfl rfl (fun w' hw=>Ht (hw.own _ (Af (i:=0) rfl)).1 hx (j:=1) rfl) ?_;repeat (first |refine Ah Aa rfl ?_)
  refine Bx (Ay Aa rfl rfl rfl rfl rfl rfl rfl (j:=j) rfl hj) ?_;skip;refine Av Aa (v:=Ds y) rfl rfl (fun w' hw=>ES (hw.own _ (Af (i:=0) rfl)).1 hy) ?_;repeat (first |refine Ah Aa rfl ?_)
  refine Av Aa (v:=.int .i64 y.tm) rfl rfl (fun w' hw=>Ht (hw.own _ (Af (i:=0) rfl)).1 hy (j:=1) rfl) ?_;repeat (first |refine AN rfl ?_ |refine Ah Aa rfl ?_ |refine AI ?_ |refine AC ?_)
  exact AZ rfl rfl (fun w' hw=>⟨congrArg (fun b=>Ending.returned (Value.bool b)) (by unfold NO;rw [decide_eq_decide];omega),hw.below (by repeat (first |exact Ar |refine BW ?_))⟩)
 ·repeat (first |refine A5 (by kernel_rfl) (by kernel_rfl) ?_ |refine Ah Aa rfl ?_ |refine Ai ?_ |refine Ad ?_ |refine Ao ?_)
  refine Bx (Ay Aa rfl rfl rfl rfl rfl rfl rfl (j:=i) rfl hi) ?_;skip;refine Av Aa (v:=Ds x) rfl rfl (fun w' hw=>ES (hw.own _ (Af (i:=0) rfl)).1 hx) ?_;repeat (first |refine Ah Aa rfl ?_)
  refine Av Aa (v:=.int .u64 x.id) rfl rfl (fun w' hw=>Ht (hw.own _ (Af (i:=0) rfl)).1 hx (j:=0) rfl) ?_;repeat (first |refine Ah Aa rfl ?_)
  refine Bx (Ay Aa rfl rfl rfl rfl rfl rfl rfl (j:=j) rfl hj) ?_;skip;refine Av Aa (v:=Ds y) rfl rfl (fun w' hw=>ES (hw.own _ (Af (i:=0) rfl)).1 hy) ?_;repeat (first |refine Ah Aa rfl ?_)
  refine Av Aa (v:=.int .u64 y.id) rfl rfl (fun w' hw=>Ht (hw.own _ (Af (i:=0) rfl)).1 hy (j:=0) rfl) ?_;repeat (first |refine AN rfl ?_ |refine Ah Aa rfl ?_ |refine AC ?_)
  exact AZ rfl rfl (fun w' hw=>⟨congrArg (fun b=>Ending.returned (Value.bool b)) (by unfold NO;rw [decide_eq_decide];omega),hw.below (by repeat (first |exact Ar |refine BW ?_))⟩)
theorem Hp.startL {w:World}:∀ {L:List (Nat × Obj)},(∀ p ∈ L,w.heap[p.1]? =some p.2)->(L.map Prod.fst).Nodup->Hp w w (L.map fun p=>HE.blk p.1 p.2 true)
 | [],_,_=>Hp.refl w
 |p::L,h,hn=>by
  rw [List.map_cons,List.nodup_cons] at hn;refine (Hp.startL (fun q hq=>h q (List.mem_cons_of_mem _ hq)) hn.2).more (x:=.blk p.1 p.2 true) (h p List.mem_cons_self) fun e he _ k hk hk2=>?_;obtain ⟨q,hq,rfl⟩:=List.mem_map.1 he;have h1:p.1=k:=Option.some.inj hk;have h2:q.1=k:=Option.some.inj hk2;exact hn.1 (by rw [h1,<-h2];exact List.mem_map_of_mem hq)
theorem Hp.widenL {w w':World} {A:OL} {Ψ:World->Prop} {F:Nat->Prop} (h:Hp w w' A) (hF:∀ e ∈ A,∀ k,e.has k->F k) (hΨ:Ψ w') (hl:PW Ψ F) (hlt:∀ k,F k->k < w.heap.size):Hp w w' [.rep Ψ F true]:=
 ⟨h.os,h.tape,h.output,h.size,fun k hk he=>h.old k hk fun e hm hx hh=>he _ List.mem_cons_self rfl (hF e hm k hh),
  fun e hm=>by
   rw [List.mem_singleton] at hm;subst hm
   exact ⟨hΨ,hl,fun k hk=>Nat.lt_of_lt_of_le (hlt k hk) h.size⟩,
  List.pairwise_singleton _ _⟩
abbrev Sm (ab:Nat):Value:=.iface 172 (.pointer (some ⟨ab,0,none⟩))
theorem Kv {base ab mb:Nat} {s:List En} {w:World} {F:Nat->Prop} {v:Value} (h:(RM base ab mb s).at_ w F v):(loadVar 167 ⟨ab,0,none⟩).run Tryz.prog w= .ok v w:=
 E5 Aa (t:=167) rfl rfl (by
  have h1:=Sl.of_blk (n:=2) (sz:=1) (off:=0) (xs:=[v,.map (some mb)]) h.1 rfl (fun j u hu=>by rw [Nat.zero_add];exact hu);have:=h1.at_ (j:=0) (by decide) rfl
  rwa [Nat.zero_add] at this)
theorem UE {base ab mb:Nat} {s:List En} {w:World} {F:Nat->Prop} (h:(L4 base ab mb s).at_ w F (.bool true)):EZ Tryz.prog (Sm ab) "Len" [] w fun e w'=>e= .returned (.int .i64 (s.length:Int))/\Below w.heap.size w w':=by
 obtain ⟨v,hv⟩:=h;obtain ⟨a,c,rfl,_⟩:=If hv;exact IC (f:=135) (by kernel_rfl) (by kernel_rfl) Tryz.call135 (Kv hv) (UC a s.length c w)
theorem RR {base ab mb:Nat} {s:List En} {w:World} {F:Nat->Prop} {i j:Nat} (h:(L4 base ab mb s).at_ w F (.bool true)) (hi:i < s.length) (hj:j < s.length):EZ Tryz.prog (Sm ab) "Less" [.int .i64 (i:Int),.int .i64 (j:Int)] w fun e w'=>e= .returned (.bool (FB NO s i j))/\Below w.heap.size w w':=by
 obtain ⟨v,hv⟩:=h;exact IC (f:=136) (by kernel_rfl) (by kernel_rfl) Tryz.call136 (Kv hv) (RH base ab mb s F v i j w hv hi hj)
set_option maxHeartbeats 1000000 in
theorem RP {base ab mb:Nat} {s:List En} {w:World} {F:Nat->Prop} {i j:Nat} (h:(L4 base ab mb s).at_ w F (.bool true)) (hF:∀ k,F k->k < w.heap.size) (hi:i < s.length) (hj:j < s.length):
 EZ Tryz.prog (Sm ab) "Swap" [.int .i64 (i:Int),.int .i64 (j:Int)] w fun e w'=>e= .returned (.tuple #[])/\Hp w w' [.rep (fun w=>(L4 base ab mb (Nc s i j)).at_ w F (.bool true)) F true]:=by
 obtain ⟨v,hv⟩:=h;obtain ⟨g,c,rfl⟩:=Ig hv (by omega);obtain ⟨x,hx⟩:∃ x,s[i]? =some x:=⟨_,List.getElem?_eq_getElem hi⟩;obtain ⟨y,hy⟩:∃ y,s[j]? =some y:=⟨_,List.getElem?_eq_getElem hj⟩
 have hs:Nc s i j=(s.set i y).set j x:=by unfold Nc;rw [hx,hy]
 have hv0:=hv;obtain ⟨h1,h2,⟨h3,h4⟩,h5,h6,h7⟩:=hv
 rcases h4 with ⟨h4,_⟩ |⟨g',cap,cur,h4,hb,hg,hn,hm,hz,ht⟩
 ·cases h4
 ·cases h4;have hcur:cur=⟨cur.toList⟩:=rfl;rw [hcur] at hg
  have hlen:cur.toList.length=c:=by rw [Array.length_toList,hz,Nat.mul_one]
  have hat:∀ (k:Nat) (z:En),s[k]? =some z->cur.toList[k]? =some (Ds z):=fun k z hk=>by
   have h8:k < s.length:=(List.getElem?_eq_some_iff.1 hk).1
   have h9:(cur.toList.take (s.length * 1))[k]? =(s.map Ds)[k]? :=by rw [ht]
   rw [List.getElem?_take_of_lt (by omega),List.getElem?_map,hk] at h9;exact h9
  have hgx:∀ (k:Nat) (z:En),s[k]? =some z->z.b ≠ g:=fun k z hk hh=>by
   have h9:=(h6 k z hk).1;rw [hh,hg] at h9;exact absurd (Obj.cells.inj (Option.some.inj h9)).2.1 (by decide)
  have hga:ab ≠ g:=fun hh=>by
   rw [hh,hg] at h1;exact absurd (Obj.cells.inj (Option.some.inj h1)).2.1 (by decide)
  have hax:∀ (k:Nat) (z:En),s[k]? =some z->z.b ≠ ab:=fun k z hk hh=>by
   have h9:=(h6 k z hk).1;rw [hh,h1] at h9;exact absurd (Obj.cells.inj (Option.some.inj h9)).2.1 (by decide)
  have hpl:∀ (k:Nat) (z:En) (k':Nat) (z':En),s[k]? =some z->s[k']? =some z'->z.b=z'.b->k=k':=fun k z k' z' hk hk' hh=>by
   have h9:=(h6 k z hk).1;rw [hh,(h6 k' z' hk').1] at h9;have h10:=(Obj.cells.inj (Option.some.inj h9)).1;simp only [Array.mk.injEq,List.cons.injEq,Value.int.injEq,true_and,and_true] at h10;omega
  refine IC (f:=137) (by kernel_rfl) (by kernel_rfl) Tryz.call137 (Kv hv0) ?_
  have hfin:∀ (w':World) (A:OL),Hp w w' A->(∀ e ∈ A,∀ k,e.has k->k=g \/ k=x.b \/ k=y.b)->w'.heap[g]? =some (.cells ⟨(cur.toList.set i (Ds y)).set j (Ds x)⟩ 164 (0,0))->w'.heap[x.b]? =some (Sk x j)->w'.heap[y.b]? =some (Sk y i)->Hp w w' [.rep (fun w=>(L4 base ab mb (Nc s i j)).at_ w F (.bool true)) F true]:=fun w' A hA hAk k1 k2 k3=>by
   have hold:∀ k o,w.heap[k]? =some o->k ≠ g->k ≠ x.b->k ≠ y.b->w'.heap[k]? =some o:=fun k o ho hk1 hk2 hk3=>(hA.old k (AU ho) fun e he _ hh=>by
    rcases hAk e he k hh with h |h |h
    ·exact hk1 h
    ·exact hk2 h
    ·exact hk3 h).trans ho
   refine hA.widenL (fun e he k hk=>?_) ⟨.slice (some ⟨g,0,none⟩) s.length c,hold _ _ h1 hga (fun h=>hax i x hx h.symm) (fun h=>hax j y hy h.symm),h2,?_,h5,fun k z hk=>?_,?_⟩ (Vp.loc (p:=L4 base ab mb (Nc s i j))) hF
   ·rcases hAk e he k hk with h |h |h
    ·rw [h];exact h5 g rfl
    ·rw [h];exact (h6 i x hx).2
    ·rw [h];exact (h6 j y hy).2
   ·rw [C0];refine ⟨by rw [List.length_map,C0,Nat.mul_one],.inr ⟨g,c,_,rfl,hb,k1,hn,hm,?_,?_⟩⟩
    ·show (List.set _ _ _).length=_;rw [List.length_set,List.length_set,hlen,Nat.mul_one]
    ·show List.take _ (List.set _ _ _)=_;rw [hs,List.take_set,List.take_set,ht,List.map_set,List.map_set]
   ·have hkl:k < s.length:=by have:=(List.getElem?_eq_some_iff.1 hk).1;rwa [C0] at this
    rw [FO hi hj] at hk;unfold tr at hk;split at hk
    ·rename_i hki;subst hki;rw [hy] at hk;cases hk;exact ⟨k3,(h6 j y hy).2⟩
    ·split at hk
     ·rename_i hki hkj;subst hkj;rw [hx] at hk;cases hk;exact ⟨k2,(h6 i x hx).2⟩
     ·rename_i hki hkj;exact ⟨hold _ _ (h6 k z hk).1 (hgx k z hk) (fun hh=>hki (hpl k z i x hk hx hh)) (fun hh=>hkj (hpl k z j y hk hy hh)),(h6 k z hk).2⟩
   ·rw [C0];exact h7
  by_cases hij:i=j
  ·subst hij;rw [hx] at hy;cases hy;refine (RB g s.length c i i x.b cur.toList x.id x.tm (i:Int) w (Hp.startL (L:=[(g,_),(x.b,_)]) (fun p hp=>?_) ?_) hi hi (by omega) (hat i x hx) (hat i x hx) rfl).mono fun e w' ⟨he,h8⟩=>⟨he,?_⟩
   ·simp only [List.mem_cons,List.not_mem_nil,or_false] at hp
    rcases hp with rfl |rfl
    ·exact hg
    ·exact (h6 i x hx).1
   ·simp only [List.map_cons,List.map_nil,List.nodup_cons,List.mem_singleton,List.not_mem_nil,not_false_eq_true,List.nodup_nil,and_true];exact fun h=>hgx i x hx h.symm
   ·refine hfin w' _ h8 (fun e he k hk=>?_) (h8.own _ (Af (i:=0) rfl)) (h8.own _ (Af (i:=1) rfl)) (h8.own _ (Af (i:=1) rfl));simp only [List.mem_cons,List.not_mem_nil,or_false] at he
    rcases he with rfl |rfl
    ·exact .inl (Option.some.inj hk).symm
    ·exact .inr (.inl (Option.some.inj hk).symm)
  ·have hxy:x.b ≠ y.b:=fun hh=>hij (hpl i x j y hx hy hh);refine (RA g s.length c i j x.b y.b cur.toList x.id x.tm (i:Int) y.id y.tm (j:Int) w (Hp.startL (L:=[(g,_),(x.b,_),(y.b,_)]) (fun p hp=>?_) ?_) hi hj (by omega) (hat i x hx) (hat j y hy)).mono fun e w' ⟨he,h8⟩=>⟨he,?_⟩
   ·simp only [List.mem_cons,List.not_mem_nil,or_false] at hp
    rcases hp with rfl |rfl |rfl
    ·exact hg
    ·exact (h6 i x hx).1
    ·exact (h6 j y hy).1
   ·simp only [List.map_cons,List.map_nil,List.nodup_cons,List.mem_cons,List.mem_singleton,List.not_mem_nil,not_false_eq_true,List.nodup_nil,and_true,not_or,or_false];exact ⟨⟨fun h=>hgx i x hx h.symm,fun h=>hgx j y hy h.symm⟩,hxy⟩
   ·refine hfin w' _ h8 (fun e he k hk=>?_) (h8.own _ (Af (i:=0) rfl)) (h8.own _ (Af (i:=1) rfl)) (h8.own _ (Af (i:=2) rfl));simp only [List.mem_cons,List.not_mem_nil,or_false] at he
    rcases he with rfl |rfl |rfl
    ·exact .inl (Option.some.inj hk).symm
    ·exact .inr (.inl (Option.some.inj hk).symm)
    ·exact .inr (.inr (Option.some.inj hk).symm)
noncomputable def G5 (base ab mb:Nat):DK Tryz.prog (Sm ab) (List En) where
 p:=L4 base ab mb
 len:=List.length
 lt:=FB NO
 sw:=Nc
 lenSw:=C0
 hle:=fun ⟨v,h⟩=>h.2.2.2.2.2
 hlen:=UE
 hlt:=RR
 hsw:=RP
theorem Fe (base ab mb:Nat):XT (G5 base ab mb) NO:=⟨fun _=>rfl,fun _ _ _=>rfl,fun _ _ _=>rfl⟩
def JN (base:Nat) (E:TypeId) (sz n:Nat) (xs:List Value):Vp:=
 ⟨fun w F v=>w.ownsRow base E sz v n xs/\∀ k,v.ownBlock=some k->F k,
  fun {w w' A B v} ⟨h1,h2⟩ hk=>⟨JU h1 (fun k hv=>(hk k (h2 k hv) (World.ownsRow.lt h1 k hv).2).1),fun k hv=>(hk k (h2 k hv) (World.ownsRow.lt h1 k hv).2).2⟩⟩
section
variable {P:Program} {tb:EU} {n:Nat} {w0:World} {all:Array Oper} {os:List Oper} {o:Oper} {l:FL} {ol:OL} {K:FL->OL->Prop} {Q:B3} {d:Nat} {r:Nat->Option Value}
theorem Lv (ht:AW P tb) {x:Operand} {xt t:TypeId} {v:Value} {ti:TI} (hs:BV n all r o=some (d,.typeAssert x xt t false)) (hx:ev r x=some (.iface t v)) (hti:tl tb t=some ti)
 (hd:(match ti.desc with | .interface _=>false |_=>true)=true):Hw P n w0 all r ol o d v:=
 Gc hs fun ac w hrd hh hop=>by
  have h1:=ht.under' hti
  have h2:(Instr.typeAssert (.iface t v) xt t false).run P w= .ok v w:=by
   unfold Instr.typeAssert
   cases hdd:ti.desc<;>rw [hdd] at hd h1<;>first |(exact Bool.noConfusion (show false=true from hd)) |simp [run_underlying h1]
  unfold execOp;simp [hop,hrd.ev hx,h2]
theorem PS (ht:AW P tb) (i:Nat) {t e:TypeId} {ty:TypeId} {s x:Operand} {v:Value} {m k c sz:Nat} {A:Option Addr} {xs news:List Value} {ti te:TI} {base:Nat} {F:Nat->Prop}
 (hs:BV n all (AP l) o=some (d,.call ⟨.builtin .append,#[s,x],#[t,t]⟩)) (hv:ev (AP l) s=some v) (hx:ev (AP l) x=some (.slice A k c))
 (hi:B9 ol i=some (.rep (fun w=>(JN base e sz m xs).at_ w F v) F true)) (hti:tl tb t=some ti) (hd:ti.desc= .slice e) (hte:tl tb e=some te) (hsz:te.size=sz) (hzs:te.zero.cells.size=sz) (hpos:0 < sz)
 (hr:∀ w,Hp w0 w ol->Sl w sz A k news) (h1:∀ u ∈ news,u.oneCell'=true) (hmax:m + k <= maxLen) (hbytes:(m + k) * te.bytes <= 140737488355328) (hbase:base <= w0.heap.size)
 (kk:∀ A' c' (F':Nat->Prop),m + k <= c'->c' <= maxLen->(∀ k,F k->F' k)->(∀ k,F' k->F k \/ w0.heap.size <= k)->∃ ol',Dc ol i (.rep (fun w=>(JN base e sz (m + k) (xs ++ news)).at_ w F' (.slice A' (m + k) c')) F' true)=some ol'/\S P n w0 all os ((d,.slice A' (m + k) c')::l) ol' K Q):
 S P n w0 all (o::os) l ol K Q:=by
 obtain ⟨hdst,hlt,hg,hop⟩:=CE hs;refine ⟨fun a w hf hh=>?_⟩;obtain ⟨inf,hinf,hz,hs1,hs2⟩:=(ht e te hte).2;obtain ⟨⟨hown,hF⟩,_,hFlt⟩:=hh.own _ (Af hi);have hu:=ht.under' hti;rw [hd] at hu;obtain ⟨v',w',hrun,h2,h3,h4⟩:=EL (P:=P) w base t o.type e inf te.zero sz te.bytes hu hinf hz (hs1.trans hsz) hs2 hzs hpos v m xs hown A k c news (hr w hh) h1 hmax hbytes (Nat.le_trans hbase hh.size);obtain ⟨A',c',rfl,hmc,hcm⟩:=Cy h2
 have hnb:∀ j,(Value.slice A' (m + k) c').ownBlock=some j->F j \/ j=w.heap.size:=fun j h=>by
  rcases h4 with h4 |h4
  ·exact .inl (hF j (h4.symm.trans h))
  ·have:some j=some w.heap.size:=h.symm.trans h4;cases this;exact .inr rfl
 obtain ⟨ol',hput,kS⟩:=kk A' c' (fun j=>F j \/ (Value.slice A' (m + k) c').ownBlock=some j) hmc hcm (fun j h=>.inl h) (fun j h=>by
  have hsz:=hh.size
  rcases h with h |h
  ·exact .inl h
  ·rcases hnb j h with h |h
   ·exact .inl h
   ·exact .inr (by omega))
 refine B4 (v:=.slice A' (m + k) c') (Bb hf.rd hg) ?_ ?_ (w':=w')
 ·unfold execOp;simp [hop,resolve,invoke,builtin,hf.rd.ev hv,hf.rd.ev hx,hrun]
 ·rw [hdst];refine kS.out _ _ (hf.put hlt _) ?_;obtain ⟨pre,post,e1,e2⟩:=CP hi hput;rw [e1] at hh;rw [e2];refine hh.turn rfl h3.os h3.tape h3.output h3.size (fun j hj hne=>h3.block j hj (fun hh=>hne (hF j hh.symm))) ⟨⟨h2,fun j hj=>.inr hj⟩,Vp.loc,fun j hj=>?_⟩ (fun j hj=>?_) (fun j hj=>.inr (.inl hj))
  ·rcases hj with h |h
   ·exact Nat.lt_of_lt_of_le (hFlt j h) h3.size
   ·exact (World.ownsRow.lt h2 j h).2
  ·rcases hj with h |h
   ·exact .inl h
   ·rcases hnb j h with h |h
    ·exact .inl h
    ·exact .inr (by omega)
theorem Hp.widenM {w w':World} {A:OL} {Ψ:World->Prop} {F:Nat->Prop} (h:Hp w w' A) (hF:∀ e ∈ A,∀ k,e.has k->F k) (hΨ:Ψ w') (hl:PW Ψ F) (hlt:∀ k,F k->k < w'.heap.size):Hp w w' [.rep Ψ F true]:=
 ⟨h.os,h.tape,h.output,h.size,fun k hk he=>h.old k hk fun e hm hx hh=>he _ List.mem_cons_self rfl (hF e hm k hh),
  fun e hm=>by
   rw [List.mem_singleton] at hm;subst hm
   exact ⟨hΨ,hl,hlt⟩,
  List.pairwise_singleton _ _⟩
end
theorem PM (ab g n c mb:Nat) (xs:List Value) (p:Option Addr) (w:World) (hb:w.heap[ab]? =some (.cells ⟨[.slice (some ⟨g,0,none⟩) (n + 1) c,.map (some mb)]⟩ 170 (0,0))) (hr:w.ownsRow 0 164 1 (.slice (some ⟨g,0,none⟩) (n + 1) c) (n + 1) xs) (hg:g ≠ ab) (hx:xs[n]? =some (.pointer p)) (hn:n <= 1073741824) (hnc:n <= c):
 Calls Tryz.prog 138 #[.pointer (some ⟨ab,0,none⟩)] w fun e w'=>e= .returned (.iface 164 (.pointer p))/\Hp w w' [.blk ab (.cells ⟨[.slice (some ⟨g,0,none⟩) n c,.map (some mb)]⟩ 170 (0,0)) true]:=by
 obtain ⟨F,hF,hst⟩:=Hp.startV (p:=JN 0 164 1 (n + 1) xs) (A:=fun k=>k ≠ ab) hb ⟨hr,fun k hk=>by
  have:k=g:=(Option.some.inj hk).symm
  rw [this];exact hg⟩ (fun h=>h rfl)
 refine BZ Tryz.func138 rfl rfl hst ?_;repeat (first |refine Ai ?_ |refine Ab ?_ |refine Ag ?_ |refine AD Aa rfl (by omega) ?_ |refine Ae Aa rfl ?_ |refine An Aa 0 rfl rfl rfl ?_)
 refine BE (Ay Aa rfl rfl rfl rfl rfl rfl rfl (j:=n) (by omega) (by omega)) ?_
 refine Bh Aa (v:=.pointer p) rfl rfl (fun w' hw=>by
  rw [Nat.zero_add]
  exact Cn (hw.own _ (Af (i:=1) rfl)).1.1 (by omega) hx) ?_
 repeat (first |refine Ai ?_ |refine Ab ?_ |refine Ag ?_ |refine Ae Aa rfl ?_ |refine An Aa 0 rfl rfl rfl ?_)
 refine BE (EH Aa rfl rfl rfl rfl rfl rfl (H:=n) (by omega) (by omega)) ?_;repeat (first |refine Ai ?_ |refine Ab ?_ |refine Ag ?_ |refine Ae Aa rfl ?_ |refine Ax Aa 0 rfl rfl rfl rfl rfl rfl ?_)
 refine BE (IP Aa rfl rfl rfl rfl) ?_;repeat (first |refine Ag ?_ |refine AC ?_ |refine Ae Aa rfl ?_)
 exact AZ rfl rfl (fun w' hw=>⟨rfl,hw.less (by repeat (first |exact Au.nil |refine Au.keep ?_ |refine Au.dropR ?_))⟩)
theorem NW (ab xb m mb:Nat) (id tm pl:Int) (v:Value) (xs:List Value) (F:Nat->Prop) (w:World) (hst:Hp w w [.blk ab (.cells ⟨[v,.map (some mb)]⟩ 170 (0,0)) true,.blk xb (.cells ⟨[.int .u64 id,.int .i64 tm,.int .i64 pl]⟩ 174 (0,0)) true,.rep (fun w=>(JN 0 164 1 m xs).at_ w F v) F true]) (hm:m <= 1073741823) (hv:∃ a c,v= .slice a m c/\m <= c):
 Calls Tryz.prog 139 #[.pointer (some ⟨ab,0,none⟩),.iface 164 (.pointer (some ⟨xb,0,none⟩))] w fun e w'=>e= .returned (.tuple #[])/\∃ A' c' F',(∀ k,F k->F' k)/\(∀ k,F' k->F k \/ w.heap.size <= k)/\Hp w w' [.blk ab (.cells ⟨[.slice A' (m + 1) c',.map (some mb)]⟩ 170 (0,0)) true,.blk xb (.cells ⟨[.int .u64 id,.int .i64 tm,.int .i64 (m:Int)]⟩ 174 (0,0)) true,.rep (fun w=>(JN 0 164 1 (m + 1) (xs ++ [.pointer (some ⟨xb,0,none⟩)])).at_ w F' (.slice A' (m + 1) c')) F' true]:=by
 obtain ⟨a,c,rfl,hmc⟩:=hv;refine BO Tryz.func139 rfl rfl hst ?_;repeat (first |refine Ai ?_ |refine Ab ?_ |refine Ae Aa rfl ?_)
 refine BE (Lv Aa rfl rfl rfl rfl) ?_;repeat (first |refine Ai ?_ |refine Ab ?_ |refine Ag ?_ |refine Ae Aa rfl ?_ |refine Ap ?_ |refine An Aa 0 rfl rfl rfl ?_ |refine Ax Aa 1 rfl rfl rfl rfl rfl rfl ?_)
 refine AO Aa rfl rfl rfl rfl rfl rfl rfl rfl rfl rfl rfl rfl (fun nb hnb=>?_);refine PS (ty:=0) Aa 3 (sz:=1) (news:=[.pointer (some ⟨xb,0,none⟩)]) rfl rfl rfl rfl rfl rfl rfl rfl rfl (by decide) (fun w' h=>Sl.of_blk (h.own _ (Af (i:=0) rfl)) rfl fun j u hu=>by rw [Nat.zero_add];exact hu) (fun u hu=>by rw [List.mem_singleton] at hu;subst hu;rfl) (by simp only [maxLen];omega) (by show (_ + _) * 8 <= _;omega) (Nat.zero_le _) (fun A' c' F' h1 h2 h3 h4=>⟨_,rfl,?_⟩);repeat (first |refine Ag ?_ |refine Ae Aa rfl ?_ |refine Ax Aa 1 rfl rfl rfl rfl rfl rfl ?_)
 exact CM rfl (fun w' hw=>⟨rfl,A',c',F',h3,h4,hw.less (by repeat (first |exact Au.nil |refine Au.keep ?_ |refine Au.dropB (by first |assumption |omega) ?_))⟩)
set_option maxHeartbeats 1000000 in
theorem Px {iv:Value} {St:Type} (O:DK Tryz.prog iv St) (q:Vp) (s1:St) (F:Nat->Prop) (w:World) (h:q.at_ w F (.bool true)) (hF:∀ k,F k->k < w.heap.size) (hi:0 < O.len s1) (u:Value)
 (hp:∀ w1,q.at_ w1 F (.bool true)->(∀ k,F k->k < w1.heap.size)->EZ Tryz.prog iv "Push" [u] w1 fun e w'=>e= .returned (.tuple #[])/\∃ F',(∀ k,F k->F' k)/\(∀ k,F' k->F k \/ w1.heap.size <= k)/\Hp w1 w' [.rep (fun w=>(O.p s1).at_ w F' (.bool true)) F' true]):
 Calls Tryz.prog 94 #[iv,u] w fun e w'=>e= .returned (.tuple #[])/\∃ F',(∀ k,F k->F' k)/\(∀ k,F' k->F k \/ w.heap.size <= k)/\Hp w w' [.rep (fun w=>(O.p (O.up (O.len s1) s1 (O.len s1 - 1))).at_ w F' (.bool true)) F' true]:=by
 refine BO Tryz.func94 rfl rfl (Hp.startO h hF) ?_;repeat (first |refine Ai ?_ |refine Ab ?_ |refine Ae Aa rfl ?_)
 refine RY rfl rfl rfl (fun w1 g=>?_);have g0:=g.own _ (Af (i:=0) rfl);have hsz:=g.size;refine (hp w1 g0.1 g0.2.2).mono fun e w' ⟨he,F',g1,g2,g3⟩=>⟨_,_,he,g.graftT 0 rfl g3 g1 g2 rfl,?_⟩;have hle:=O.hle (g3.own _ (Af (i:=0) rfl)).1;repeat (first |refine Ag ?_ |refine Ae Aa rfl ?_ |refine Ap ?_)
 refine FX rfl rfl rfl (fun w1 g=>O.hlen (g.own _ (Af (i:=0) rfl)).1) ?_;repeat (first |refine AD Aa rfl (by omega) ?_)
 have hup:=fun w1 h1 h2=>NC O s1 (O.len s1 - 1) F' w1 h1 h2 (by omega);rw [show O.len s1 - 1 + 1=O.len s1 by omega,show ((O.len s1 - 1:Nat):Int)=(O.len s1:Int) - 1 by omega] at hup;refine CA 0 rfl Tryz.call98 rfl (fun w1 g=>(hup w1 (g.own _ (Af (i:=0) rfl)).1 (g.own _ (Af (i:=0) rfl)).2.2).mono fun e w' ⟨he,g9⟩=>⟨_,_,F',he,g9,fun _ h=>h,fun _ h=>.inl h,_,rfl,?_⟩);repeat (first |refine Ag ?_)
 exact CM rfl (fun w' hw=>⟨rfl,F',g1,fun k hk=>(g2 k hk).imp id (fun h=>Nat.le_trans hsz h),hw⟩)
def UW (ab mb:Nat) (s:List En) (x:En) (p:Nat):Vp:=
 ⟨fun w F v=>(L4 0 ab mb s).at_ w F v/\w.heap[x.b]? =some (Sk x p)/\F x.b,fun {w w' A B v} ⟨h1,h2,h3⟩ hk=>⟨(L4 0 ab mb s).keep h1 hk,((hk x.b h3 (AU h2)).1).trans h2,(hk x.b h3 (AU h2)).2⟩⟩
theorem Dt {w:World} {a b:Nat} {x y:Array Value} {t u:TypeId} {p q:Nat × Nat} (ha:w.heap[a]? =some (.cells x t p)) (hb:w.heap[b]? =some (.cells y u q)) (h:t ≠ u):a ≠ b:=fun hh=>by
 rw [hh,hb] at ha;exact h (Obj.cells.inj (Option.some.inj ha)).2.1.symm
theorem IE {w:World} {a b:Nat} {x:Array Value} {t:TypeId} {p:Nat × Nat} {es:Array MapEntry} {c:Nat} (ha:w.heap[a]? =some (.cells x t p)) (hb:w.heap[b]? =some (.map es c)):a ≠ b:=fun hh=>by
 rw [hh,hb] at ha;cases ha
theorem HL {w:World} {base n:Nat} {e:TypeId} {v:Value} {xs:List Value} (h:w.ownsRow base e 1 v n xs) {k:Nat} (hk:v.ownBlock=some k):∃ cur,w.heap[k]? =some (.cells cur e (0,0)):=by
 obtain ⟨_,h2⟩:=h
 rcases h2 with ⟨rfl,_⟩ |⟨g,cap,cur,rfl,h3,h4,_⟩
 ·cases hk
 ·cases hk;exact ⟨cur,h4⟩
theorem OS {ab mb:Nat} {s:List En} {x:En} {w:World} {F:Nat->Prop} (h:(L4 0 ab mb s).at_ w F (.bool true)) (hF:∀ k,F k->k < w.heap.size) (hx:s[s.length - 1]? =some x):
 EZ Tryz.prog (Sm ab) "Pop" [] w fun e w'=>e= .returned (.iface 164 (Ds x))/\Hp w w' [.rep (fun w=>(UW ab mb (s.take (s.length - 1)) x (s.length - 1)).at_ w F (.bool true)) F true]:=by
 obtain ⟨v,hv⟩:=h;have h0:=(List.getElem?_eq_some_iff.1 hx).1;obtain ⟨g,c,rfl⟩:=Ig hv (by omega);obtain ⟨h1,h2,h3,h5,h6,h7⟩:=hv;obtain ⟨n,hn⟩:∃ n,s.length=n + 1:=⟨s.length - 1,by omega⟩;rw [show s.length - 1=n by omega] at hx ⊢;rw [hn] at h1 h3 h5;have h3':=h3;obtain ⟨hl3,h4⟩:=h3
 rcases h4 with ⟨h4,_⟩ |⟨g',cap,cur,h4,hb,hg,hnc,hm,hz,ht⟩
 ·cases h4
 ·cases h4;have hgb:g ≠ ab:=Dt hg h1 (by decide);refine MG (u:=167) (f:=138) (by kernel_rfl) (by kernel_rfl) Tryz.call138 ?_;refine (PM ab g n c mb _ _ w h1 h3' hgb (by rw [List.getElem?_map,hx];rfl) (by omega) (by omega)).mono fun e w' ⟨he,h8⟩=>⟨he,?_⟩
  have hold:∀ k o,w.heap[k]? =some o->k ≠ ab->w'.heap[k]? =some o:=fun k o ho hk=>(h8.old k (AU ho) fun e he _=>by
   rw [List.mem_singleton] at he;subst he;intro hh
   exact hk (Option.some.inj hh).symm).trans ho
  have hlen:(s.take n).length=n:=by rw [List.length_take];omega
  have hb2:w'.heap[ab]? =_:=h8.own _ List.mem_cons_self;refine h8.widen (fun k hk=>?_) ⟨⟨.slice (some ⟨g,0,none⟩) n c,hb2,h2,?_,fun k hk=>h5 k hk,fun i z hz2=>?_,?_⟩,hold _ _ (h6 n x hx).1 (Dt (h6 n x hx).1 h1 (by decide)),(h6 n x hx).2⟩ (Vp.loc (p:=UW ab mb (s.take n) x n)) hF
  ·have:k=ab:=(Option.some.inj hk).symm;rw [this];exact h2
  ·rw [hlen];refine ⟨by rw [List.length_map,hlen,Nat.mul_one],.inr ⟨g,c,cur,rfl,hb,hold _ _ hg hgb,by omega,hm,hz,?_⟩⟩;rw [List.map_take,<-ht,List.take_take];congr 1;omega
  ·have hi:i < n:=by
    have:=(List.getElem?_eq_some_iff.1 hz2).1;omega
   rw [List.getElem?_take_of_lt hi] at hz2;exact ⟨hold _ _ (h6 i z hz2).1 (Dt (h6 i z hz2).1 h1 (by decide)),(h6 i z hz2).2⟩
  ·rw [hlen];omega
theorem RQ {ab mb:Nat} {s:List En} {x:En} {p:Nat} {w:World} {F:Nat->Prop} (h:(UW ab mb s x p).at_ w F (.bool true)) (hF:∀ k,F k->k < w.heap.size) (hs:s.length < 1073741824) (hne:∀ (i:Nat) (z:En),s[i]? =some z->z.b ≠ x.b):
 EZ Tryz.prog (Sm ab) "Push" [.iface 164 (Ds x)] w fun e w'=>e= .returned (.tuple #[])/\∃ F',(∀ k,F k->F' k)/\(∀ k,F' k->F k \/ w.heap.size <= k)/\Hp w w' [.rep (fun w=>(L4 0 ab mb (s ++ [x])).at_ w F' (.bool true)) F' true]:=by
 obtain ⟨⟨v,hv⟩,hx1,hx2⟩:=h;have hfm:=If hv;obtain ⟨h1,h2,h3,h5,h6,h7⟩:=hv;refine MG (u:=167) (f:=139) (by kernel_rfl) (by kernel_rfl) Tryz.call139 ?_;have hax:ab ≠ x.b:=Dt h1 hx1 (by decide);refine (NW ab x.b s.length mb x.id x.tm p v (s.map Ds) (fun k=>v.ownBlock=some k) w ?_ (by omega) hfm).mono fun e w' ⟨he,A',c',F',g1,g2,g3⟩=>⟨he,fun k=>F k \/ F' k,fun k hk=>.inl hk,fun k hk=>?_,?_⟩
 ·have e1:Hp w w [.rep (fun w=>(JN 0 164 1 s.length (s.map Ds)).at_ w (fun k=>v.ownBlock=some k) v) (fun k=>v.ownBlock=some k) true]:=
   (Hp.refl w).more ⟨⟨h3,fun k hk=>hk⟩,Vp.loc,fun k hk=>hF k (h5 k hk)⟩ fun e he=>(by cases he)
  have e2:=e1.more (x:=.blk x.b (Sk x p) true) hx1 fun e he _ k hk hk2=>by
   rw [List.mem_singleton] at he;subst he;obtain ⟨cur,h9⟩:=HL h3 hk2;exact Dt hx1 h9 (by decide) (Option.some.inj hk)
  refine e2.more (x:=.blk ab _ true) h1 fun e he _ k hk hk2=>?_;have hk0:=Option.some.inj hk
  rcases List.mem_cons.1 he with rfl |he
  ·exact hax (hk0.trans (Option.some.inj hk2).symm)
  ·rw [List.mem_singleton] at he;subst he;obtain ⟨cur,h9⟩:=HL h3 hk2;exact Dt h1 h9 (by decide) hk0
 ·rcases hk with h |h
  ·exact .inl h
  ·rcases g2 k h with h |h
   ·exact .inl (h5 k h)
   ·exact .inr h
 ·have o0:w'.heap[ab]? =_:=g3.own _ (Af (i:=0) rfl);have o1:w'.heap[x.b]? =_:=g3.own _ (Af (i:=1) rfl);obtain ⟨⟨o2,o3⟩,_,o4⟩:=g3.own _ (Af (i:=2) rfl)
  have hlt:∀ k,F k \/ F' k->k < w'.heap.size:=fun k hk=>by
   rcases hk with h |h
   ·exact Nat.lt_of_lt_of_le (hF k h) g3.size
   ·exact o4 k h
  have hl:(s ++ [x]).length=s.length + 1:=by rw [List.length_append];rfl
  refine g3.widenM (fun e he k hk=>?_) ⟨.slice A' (s.length + 1) c',o0,.inl h2,?_,fun k hk=>.inr (o3 k hk),fun i z hz=>?_,by omega⟩ (Vp.loc (p:=L4 0 ab mb (s ++ [x]))) hlt
  ·simp only [List.mem_cons,List.not_mem_nil,or_false] at he
   rcases he with rfl |rfl |rfl
   ·left;have:=Option.some.inj hk;rw [<-this];exact h2
   ·left;have:=Option.some.inj hk;rw [<-this];exact hx2
   ·exact .inr hk
  ·rw [hl,List.map_append];exact o2
  ·by_cases hi:i < s.length
   ·rw [List.getElem?_append_left hi] at hz;refine ⟨(g3.old z.b (AU (h6 i z hz).1) fun e he _ hh=>?_).trans (h6 i z hz).1,.inl (h6 i z hz).2⟩;simp only [List.mem_cons,List.not_mem_nil,or_false] at he
    rcases he with rfl |rfl |rfl
    ·exact Dt h1 (h6 i z hz).1 (by decide) (Option.some.inj hh)
    ·exact hne i z hz (Option.some.inj hh).symm
    ·rcases g2 _ hh with h9 |h9
     ·obtain ⟨cur,h9⟩:=HL h3 h9;exact Dt (h6 i z hz).1 h9 (by decide) rfl
     ·have:=AU (h6 i z hz).1;omega
   ·have hi2:i=s.length:=by
     have:=(List.getElem?_eq_some_iff.1 hz).1;omega
    subst hi2;rw [List.getElem?_append_right (Nat.le_refl _),Nat.sub_self] at hz;cases hz;exact ⟨o1,.inl hx2⟩
def KJ (ab mb:Nat) (s:List En) (M:List ME) (c:Nat):Vp:=
 ⟨fun w F v=>(L4 0 ab mb s).at_ w F v/\w.heap[mb]? =some (Cb .u64 M c)/\F mb,fun {w w' A B v} ⟨h1,h2,h3⟩ hk=>⟨(L4 0 ab mb s).keep h1 hk,((hk mb h3 (AU h2)).1).trans h2,(hk mb h3 (AU h2)).2⟩⟩
def UV (ab mb:Nat) (s:List En) (M:List ME) (c:Nat) (x:En) (p:Nat):Vp:=
 ⟨fun w F v=>(UW ab mb s x p).at_ w F v/\w.heap[mb]? =some (Cb .u64 M c)/\F mb,fun {w w' A B v} ⟨h1,h2,h3⟩ hk=>⟨(UW ab mb s x p).keep h1 hk,((hk mb h3 (AU h2)).1).trans h2,(hk mb h3 (AU h2)).2⟩⟩
theorem FJ {ab mb:Nat} {s:List En} {w:World} {F:Nat->Prop} {v:Value} {es:Array MapEntry} {c:Nat} (h:(L4 0 ab mb s).at_ w F v) (hb:w.heap[mb]? =some (.map es c)):(L4 0 ab mb s).at_ w (fun k=>F k/\k ≠ mb) v:=by
 obtain ⟨v,h1,h2,h3,h5,h6,h7⟩:=h;refine ⟨v,h1,⟨h2,IE h1 hb⟩,h3,fun k hk=>⟨h5 k hk,?_⟩,fun i x hx=>⟨(h6 i x hx).1,(h6 i x hx).2,IE (h6 i x hx).1 hb⟩,h7⟩;obtain ⟨cur,h9⟩:=HL h3 hk;exact IE h9 hb
theorem Ie {w w':World} {F F1:Nat->Prop} {mb c:Nat} {M:List ME} {q Q:Vp} (hF:∀ k,F k->k < w.heap.size) (hb:w.heap[mb]? =some (Cb .u64 M c)) (hmb:F mb) (h:Hp w w' [.rep (fun w=>q.at_ w F1 (.bool true)) F1 true])
 (g1:∀ k,F k/\k ≠ mb->F1 k) (g2:∀ k,F1 k->(F k/\k ≠ mb) \/ w.heap.size <= k) (hQ:∀ w F2,q.at_ w F2 (.bool true)->w.heap[mb]? =some (Cb .u64 M c)->F2 mb->Q.at_ w F2 (.bool true)):
 ∃ F':Nat->Prop,(∀ k,F k->F' k)/\(∀ k,F' k->F k \/ w.heap.size <= k)/\Hp w w' [.rep (fun w=>Q.at_ w F' (.bool true)) F' true]:=by
 obtain ⟨o1,_,o2⟩:=h.own _ (Af (i:=0) rfl)
 have hmb2:w'.heap[mb]? =some (Cb .u64 M c):=(h.old mb (AU hb) fun e he _ hh=>by
  rw [List.mem_singleton] at he;subst he
  rcases g2 mb hh with h9 |h9
  ·exact h9.2 rfl
  ·have:=AU hb
   omega).trans hb
 refine ⟨fun k=>F k \/ F1 k,fun k hk=>.inl hk,fun k hk=>?_,h.widenM (fun e he k hk=>?_) (hQ w' _ (q.keep o1 fun k hk _=>⟨rfl,.inr hk⟩) hmb2 (.inl hmb)) Vp.loc fun k hk=>?_⟩
 ·rcases hk with h |h
  ·exact .inl h
  ·exact (g2 k h).imp (fun h=>h.1) id
 ·rw [List.mem_singleton] at he;subst he;exact .inr hk
 ·rcases hk with h9 |h9
  ·exact Nat.lt_of_lt_of_le (hF k h9) h.size
  ·exact o2 k h9
section
variable {ab mb c:Nat} {s:List En} {M:List ME} {w:World} {F:Nat->Prop}
theorem N0 (h:(KJ ab mb s M c).at_ w F (.bool true)) (hF:∀ k,F k->k < w.heap.size) (i:Nat) (hi:i < s.length):Calls Tryz.prog 93 #[Sm ab,.int .i64 (i:Int)] w fun e w'=>e= .returned (.tuple #[])/\
 ∃ F':Nat->Prop,(∀ k,F k->F' k)/\(∀ k,F' k->F k \/ w.heap.size <= k)/\Hp w w' [.rep (fun w=>(KJ ab mb ((G5 0 ab mb).fx s i) M c).at_ w F' (.bool true)) F' true]:=by
 obtain ⟨h1,h2,h3⟩:=h;refine (Te (G5 0 ab mb) s i (fun k=>F k/\k ≠ mb) w (FJ h1 h2) (fun k hk=>hF k hk.1) hi).mono fun e w' ⟨he,h8⟩=>⟨he,?_⟩;exact Ie hF h2 h3 h8 (fun k hk=>hk) (fun k hk=>.inl hk) fun w F2 e1 e2 e3=>⟨e1,e2,e3⟩
theorem NZ (h:(KJ ab mb s M c).at_ w F (.bool true)) (hF:∀ k,F k->k < w.heap.size) {x:En} (hx:s[0]? =some x):Calls Tryz.prog 91 #[Sm ab] w fun e w'=>e= .returned (.iface 164 (Ds x))/\
 ∃ F':Nat->Prop,(∀ k,F k->F' k)/\(∀ k,F' k->F k \/ w.heap.size <= k)/\Hp w w' [.rep (fun w=>(UV ab mb (((G5 0 ab mb).pp s).take (s.length - 1)) M c x (s.length - 1)).at_ w F' (.bool true)) F' true]:=by
 obtain ⟨h1,h2,h3⟩:=h;have h0:=(List.getElem?_eq_some_iff.1 hx).1;have hl:=(LP (Fe 0 ab mb) s).length_eq;have hx2:=Ow (Fe 0 ab mb) s h0;refine (Td (G5 0 ab mb) s (fun k=>F k/\k ≠ mb) w (FJ h1 h2) (fun k hk=>hF k hk.1) h0 (.iface 164 (Ds x)) (UW ab mb (((G5 0 ab mb).pp s).take (s.length - 1)) x (s.length - 1)) fun w1 g1 g2=>?_).mono fun e w' ⟨he,h8⟩=>⟨he,?_⟩
 ·have:=OS (s:=(G5 0 ab mb).pp s) g1 g2 (x:=x) (by rw [hl,hx2,hx]);rw [hl] at this;exact this
 ·exact Ie hF h2 h3 h8 (fun k hk=>hk) (fun k hk=>.inl hk) fun w F2 e1 e2 e3=>⟨e1,e2,e3⟩
theorem KI (h:(KJ ab mb s M c).at_ w F (.bool true)) (hF:∀ k,F k->k < w.heap.size) (i:Nat) {x:En} (hx:s[i]? =some x):Calls Tryz.prog 88 #[Sm ab,.int .i64 (i:Int)] w fun e w'=>e= .returned (.iface 164 (Ds x))/\
 ∃ F':Nat->Prop,(∀ k,F k->F' k)/\(∀ k,F' k->F k \/ w.heap.size <= k)/\Hp w w' [.rep (fun w=>(KJ ab mb (((G5 0 ab mb).rm s i).take (s.length - 1)) M c).at_ w F' (.bool true)) F' true]:=by
 obtain ⟨h1,h2,h3⟩:=h;have h0:=(List.getElem?_eq_some_iff.1 hx).1;have hl:=(LJ (Fe 0 ab mb) s i).length_eq;have hx2:=Ou (Fe 0 ab mb) s i h0;refine (ND (G5 0 ab mb) s i (fun k=>F k/\k ≠ mb) w (FJ h1 h2) (fun k hk=>hF k hk.1) h0 (.iface 164 (Ds x)) (UW ab mb (((G5 0 ab mb).rm s i).take (s.length - 1)) x (s.length - 1)) fun w1 g1 g2=>?_).mono fun e w' ⟨he,h8⟩=>⟨he,?_⟩
 ·have:=OS (s:=(G5 0 ab mb).rm s i) g1 g2 (x:=x) (by rw [hl,hx2,hx]);rw [hl] at this;exact this
 ·exact Ie hF h2 h3 h8 (fun k hk=>hk) (fun k hk=>.inl hk) fun w F2 e1 e2 e3=>⟨e1.1,e2,e3⟩
theorem M4 {x:En} {p:Nat} (h:(UV ab mb s M c x p).at_ w F (.bool true)) (hF:∀ k,F k->k < w.heap.size) (hs:s.length < 1073741824) (hne:∀ (i:Nat) (z:En),s[i]? =some z->z.b ≠ x.b):Calls Tryz.prog 94 #[Sm ab,.iface 164 (Ds x)] w fun e w'=>e= .returned (.tuple #[])/\
 ∃ F':Nat->Prop,(∀ k,F k->F' k)/\(∀ k,F' k->F k \/ w.heap.size <= k)/\Hp w w' [.rep (fun w=>(KJ ab mb ((G5 0 ab mb).up (s.length + 1) (s ++ [x]) s.length) M c).at_ w F' (.bool true)) F' true]:=by
 obtain ⟨⟨h1,h4,h5⟩,h2,h3⟩:=h
 have hl:(s ++ [x]).length=s.length + 1:=by rw [List.length_append];rfl
 have:=Px (G5 0 ab mb) (UW ab mb s x p) (s ++ [x]) (fun k=>F k/\k ≠ mb) w ⟨FJ h1 h2,h4,h5,IE h4 h2⟩ (fun k hk=>hF k hk.1) (by show 0 < (s ++ [x]).length;omega) (.iface 164 (Ds x)) fun w1 g1 g2=>RQ g1 g2 hs hne;have hl2:(G5 0 ab mb).len (s ++ [x])=s.length + 1:=hl;rw [hl2,Nat.add_sub_cancel] at this;refine this.mono fun e w' ⟨he,F1,g1,g2,h8⟩=>⟨he,?_⟩;exact Ie hF h2 h3 h8 g1 g2 fun w F2 e1 e2 e3=>⟨e1,e2,e3⟩
end
abbrev DE:=Int × Int
def DV (p q:DE):Prop:=p.2 < q.2 \/ (p.2=q.2/\p.1 < q.1)
instance (p q:DE):Decidable (DV p q):=by unfold DV;infer_instance
def NP (x:DE):List DE->List DE
 | []=>[x]
 |p::l=>if DV p x then p::NP x l else x::p::l
def Dd (l:List DE) (id:Int):List DE:=l.filter fun p=>decide (p.1 ≠ id)
def Gb (l:List DE) (id tm:Int):List DE:=NP (id,tm) (Dd l id)
theorem NQ {a b c:DE} (h1:DV a b) (h2:DV b c):DV a c:=by unfold DV at *;omega
theorem Do (x:DE):∀ (l:List DE),(NP x l).Perm (x::l)
 | []=>List.Perm.refl _
 |p::l=>by
  unfold NP;split
  ·exact ((Do x l).cons p).trans (List.Perm.swap ..)
  ·exact List.Perm.refl _
theorem Ke (x:DE):∀ (l:List DE),l.Pairwise DV->(∀ p ∈ l,p.1 ≠ x.1)->(NP x l).Pairwise DV
 | [],_,_=>List.pairwise_singleton _ _
 |p::l,h,hx=>by
  rw [List.pairwise_cons] at h;unfold NP;split
  ·rename_i hb;rw [List.pairwise_cons];refine ⟨fun q hq=>?_,Ke x l h.2 fun q hq=>hx q (List.mem_cons_of_mem _ hq)⟩
   rcases List.mem_cons.1 ((Do x l).mem_iff.1 hq) with rfl |hq
   ·exact hb
   ·exact h.1 q hq
  ·rename_i hb
   have hxp:DV x p:=by
    have:=hx p List.mem_cons_self;unfold DV at hb ⊢;omega
   rw [List.pairwise_cons,List.pairwise_cons];refine ⟨fun q hq=>?_,h.1,h.2⟩
   rcases List.mem_cons.1 hq with rfl |hq
   ·exact hxp
   ·exact NQ hxp (h.1 q hq)
abbrev Lc (x:En):DE:=(x.id,x.tm)
abbrev WT (x:En):Int × Value:=(x.id,Ds x)
structure AR (s:List En) (M:List ME) (l:List DE):Prop where
 hd:Hd NO s s.length 0
 perm:(s.map Lc).Perm l
 srt:l.Pairwise DV
 ids:(l.map (·.1)).Nodup
 keys:(M.map (·.1)).Nodup
 get:∀ id v,Dz M id=some v ↔ (id,v) ∈ s.map WT
theorem AR.init:AR [] [] []:=⟨fun j _ h _=>absurd h (Nat.not_lt_zero _),List.Perm.refl _,List.Pairwise.nil,List.nodup_nil,List.nodup_nil,fun id v=>by simp [Gm]⟩
theorem AR.len {s:List En} {M:List ME} {l:List DE} (h:AR s M l):s.length=l.length:=by
 have:=h.perm.length_eq
 rwa [List.length_map] at this
theorem AR.sids {s:List En} {M:List ME} {l:List DE} (h:AR s M l):(s.map (·.id)).Nodup:=by
 have h1:(s.map (·.id))=(s.map Lc).map (·.1):=by rw [List.map_map];rfl
 rw [h1];exact (h.perm.map _).nodup_iff.2 h.ids
theorem AR.miss {s:List En} {M:List ME} {l:List DE} (h:AR s M l) {id:Int} (hm:Dz M id=none):∀ x ∈ s,x.id ≠ id:=fun x hx he=>by
 have:=(h.get id (Ds x)).2 (List.mem_map.2 ⟨x,hx,by rw [<-he]⟩);rw [hm] at this;cases this
theorem AR.missl {s:List En} {M:List ME} {l:List DE} (h:AR s M l) {id:Int} (hm:Dz M id=none):∀ p ∈ l,p.1 ≠ id:=fun p hp he=>by
 obtain ⟨x,hx,rfl⟩:=List.mem_map.1 (h.perm.mem_iff.2 hp);exact h.miss hm x hx he
theorem AR.hit {s:List En} {M:List ME} {l:List DE} (h:AR s M l) {id:Int} {v:Value} (hm:Dz M id=some v):∃ (i:Nat) (x:En),s[i]? =some x/\x.id=id/\v=Ds x:=by
 obtain ⟨x,hx,he⟩:=List.mem_map.1 ((h.get id v).1 hm);obtain ⟨i,hi⟩:=List.mem_iff_getElem?.1 hx;cases he;exact ⟨i,x,hi,rfl,rfl⟩
theorem Iu {α:Type}:∀ {s:List α} {i:Nat} {x:α},i < s.length->(s.set i x).Perm (x::s.eraseIdx i)
 |p::s,0,x,_=>List.Perm.refl _
 |p::s,i + 1,x,h=>by
  rw [List.set_cons_succ,List.eraseIdx_cons_succ];exact ((Iu (by simpa using h)).cons p).trans (List.Perm.swap ..)
theorem HC {α:Type} {s:List α} {i:Nat} {x:α} (h:s[i]? =some x):s.Perm (x::s.eraseIdx i):=by
 have hi:=(List.getElem?_eq_some_iff.1 h).1;have:=Iu (x:=x) hi
 rwa [JE h] at this
theorem AR.rest {s:List En} {M:List ME} {l:List DE} (h:AR s M l) {i:Nat} {x:En} (hx:s[i]? =some x):((s.eraseIdx i).map Lc).Perm (Dd l x.id):=by
 have h1:l.Perm (Lc x::(s.eraseIdx i).map Lc):=h.perm.symm.trans ((HC hx).map Lc);have h2:=h1.filter fun p=>decide (p.1 ≠ x.id);rw [List.filter_cons_of_neg (by simp)] at h2
 have h3:((s.eraseIdx i).map Lc).filter (fun p=>decide (p.1 ≠ x.id))=(s.eraseIdx i).map Lc:=List.filter_eq_self.2 fun p hp=>by
  have h4:=(h1.map (·.1)).nodup_iff.1 h.ids;rw [List.map_cons,List.nodup_cons] at h4;simp only [ne_eq,decide_not,Bool.not_eq_eq_eq_not,Bool.not_true,decide_eq_false_iff_not];intro he;exact h4.1 (List.mem_map.2 ⟨p,hp,he⟩)
 rw [h3] at h2;exact h2.symm
theorem Kf {l:List DE} {id:Int} (h:(l.map (·.1)).Nodup):((Dd l id).map (·.1)).Nodup:=h.sublist (List.filter_sublist.map _)
theorem Hk {l:List DE} {id:Int} (h:l.Pairwise DV):(Dd l id).Pairwise DV:=h.sublist List.filter_sublist
theorem Lf {l:List DE} {id:Int}:∀ p ∈ Dd l id,p.1 ≠ id:=fun p hp=>by simpa using (List.mem_filter.1 hp).2
theorem I0 {l:List DE} {id:Int} (h:∀ p ∈ l,p.1 ≠ id):Dd l id=l:=List.filter_eq_self.2 fun p hp=>by simpa using h p hp
theorem H7 {l:List DE} {id tm:Int} (h:l.Pairwise DV):(Gb l id tm).Pairwise DV:=Ke _ _ (Hk h) Lf
theorem MS {l:List DE} {id tm:Int} (h:(l.map (·.1)).Nodup):((Gb l id tm).map (·.1)).Nodup:=by
 unfold Gb;rw [((Do (id,tm) (Dd l id)).map (·.1)).nodup_iff,List.map_cons,List.nodup_cons]
 exact ⟨fun hm=>by
  obtain ⟨p,hp,he⟩:=List.mem_map.1 hm
  exact Lf p hp he,Kf h⟩
section
variable {P:Program} {iv:Value} {O:DK P iv (List En)} (hO:XT O NO) {s:List En} {M:List ME} {l:List DE}
include hO
theorem AR.setOld (h:AR s M l) {i:Nat} {x:En} (hx:s[i]? =some x) (tm:Int):AR (O.fx (s.set i ⟨x.b,x.id,tm⟩) i) M (Gb l x.id tm):=by
 have hi:=(List.getElem?_eq_some_iff.1 hx).1;have hp:=Uj hO (s.set i ⟨x.b,x.id,tm⟩) i;have hs:=Iu (x:=(⟨x.b,x.id,tm⟩:En)) hi;refine ⟨?_,?_,H7 h.srt,MS h.ids,h.keys,fun id v=>?_⟩
 ·have h1:=Ul hO IK (s.set i ⟨x.b,x.id,tm⟩) i (by rw [List.length_set];exact hi) (h.hd.fk IK hi _);rw [hp.length_eq];exact h1
 ·exact ((hp.trans hs).map Lc).trans (((h.rest hx).cons _).trans (Do _ _).symm)
 ·rw [h.get,(((hp.trans hs).map WT)).mem_iff,((HC hx).map WT).mem_iff];exact Iff.rfl
theorem AR.setNew (h:AR s M l) {x:En} (hm:Dz M x.id=none) (c:Nat):AR (O.up (s.length + 1) (s ++ [x]) s.length) (CV M x.id (Ds x) c).1 (Gb l x.id x.tm):=by
 have hp:=Jc hO (s.length + 1) (s ++ [x]) s.length;have hs:(s ++ [x]).Perm (x::s):=List.perm_append_comm
 have hl:(s ++ [x]).length=s.length + 1:=by rw [List.length_append];rfl
 refine ⟨?_,?_,H7 h.srt,MS h.ids,JY h.keys,fun id v=>?_⟩
 ·rw [hp.length_eq,hl];refine Jd hO IK (s.length + 1) (s.length + 1) (s ++ [x]) s.length (by omega) (by omega) (by omega) fun j h0 hj=>⟨fun hji=>?_,fun hp2 _=>by omega⟩;have:=h.hd j h0 (by omega) (Nat.zero_le _);unfold FB at this ⊢;rw [List.getElem?_append_left (by omega),List.getElem?_append_left (by omega)];exact this
 ·unfold Gb;rw [I0 (h.missl hm)];exact ((hp.trans hs).map Lc).trans ((h.perm.cons _).trans (Do _ _).symm)
 ·rw [Gl,((hp.trans hs).map WT).mem_iff,List.map_cons,List.mem_cons];by_cases he:id=x.id
  ·rw [if_pos he];constructor
   ·intro h2;cases h2;exact .inl (by rw [he])
   ·rintro (h2 |h2)
    ·cases h2;rfl
    ·rw [he,<-h.get,hm] at h2;cases h2
  ·rw [if_neg he,h.get];exact ⟨.inr,fun h2=>h2.resolve_left fun e=>he (congrArg Prod.fst e)⟩
omit hO in
theorem AR.less_ (h:AR s M l) {i:Nat} {x:En} (hx:s[i]? =some x) {t:List En} (ht:t.Perm (s.eraseIdx i)) (hh:Hd NO t t.length 0):AR t (D7 M x.id) (Dd l x.id):=by
 refine ⟨hh,(ht.map Lc).trans (h.rest hx),Hk h.srt,Kf h.ids,Nx h.keys,fun id v=>?_⟩;have hs:=(HC hx)
 have h4:∀ y ∈ s.eraseIdx i,y.id ≠ x.id:=fun y hy he=>by
  have:=(hs.map (·.id)).nodup_iff.1 h.sids;rw [List.map_cons,List.nodup_cons] at this;exact this.1 (List.mem_map.2 ⟨y,hy,he⟩)
 rw [HT _ _ _ h.keys,(ht.map WT).mem_iff];by_cases he:id=x.id
 ·rw [if_pos he];constructor
  ·intro h2;cases h2
  ·intro h2;obtain ⟨y,hy,h3⟩:=List.mem_map.1 h2;exact absurd ((congrArg Prod.fst h3).trans he) (h4 y hy)
 ·rw [if_neg he,h.get,(hs.map WT).mem_iff,List.map_cons,List.mem_cons];exact ⟨fun h2=>h2.resolve_left fun e=>he (congrArg Prod.fst e),.inr⟩
omit hO in
theorem KQ {t s:List En} {i:Nat} {x:En} (hx:s[i]? =some x) (hp:t.Perm s) (hl:t[s.length - 1]? =some x):(t.take (s.length - 1)).Perm (s.eraseIdx i):=by
 have h0:=(List.getElem?_eq_some_iff.1 hx).1;have hlen:=hp.length_eq
 have h1:t=t.take (s.length - 1) ++ [x]:=by
  obtain ⟨h2,h3⟩:=List.getElem?_eq_some_iff.1 hl;have h4:=List.take_append_drop (s.length - 1) t;have h5:=List.drop_eq_getElem_cons h2;rw [h3,show s.length - 1 + 1=t.length by omega,List.drop_length] at h5;rw [h5] at h4;exact h4.symm
 have h2:(x::t.take (s.length - 1)).Perm t:=by
  conv=>rhs;rw [h1]
  exact List.perm_append_comm (l₁:=[x])
 exact (h2.trans (hp.trans (HC hx))).cons_inv
theorem AR.clear (h:AR s M l) {i:Nat} {x:En} (hx:s[i]? =some x):AR ((O.rm s i).take (s.length - 1)) (D7 M x.id) (Dd l x.id):=by
 have hi:=(List.getElem?_eq_some_iff.1 hx).1;have hl:=(LJ hO s i).length_eq;refine h.less_ hx (KQ hx (LJ hO s i) ((Ou hO s i hi).trans hx)) ?_;rw [show ((O.rm s i).take (s.length - 1)).length=s.length - 1 by rw [List.length_take];omega];exact OA (SO hO IK s i hi h.hd) (by omega)
theorem AR.pop (h:AR s M l) {x:En} (hx:s[0]? =some x):AR ((O.pp s).take (s.length - 1)) (D7 M x.id) (Dd l x.id):=by
 have hi:=(List.getElem?_eq_some_iff.1 hx).1;have hl:=(LP hO s).length_eq;refine h.less_ hx (KQ hx (LP hO s) ((Ow hO s hi).trans hx)) ?_;rw [show ((O.pp s).take (s.length - 1)).length=s.length - 1 by rw [List.length_take];omega];exact OA (SU hO IK s h.hd.dh hi) (by omega)
end
theorem AR.root {s:List En} {M:List ME} {l:List DE} (h:AR s M l) {x:En} (hx:s[0]? =some x):∃ rest,l=Lc x::rest/\Dd l x.id=rest:=by
 have h0:=(List.getElem?_eq_some_iff.1 hx).1;have hr:=Tf IK (Nat.le_refl _) h.hd
 cases l with
 |nil=>
  have:=h.len;rw [List.length_nil] at this;omega
 |cons p rest=>
  have hs:=h.srt;rw [List.pairwise_cons] at hs;have hid:=h.ids;rw [List.map_cons,List.nodup_cons] at hid;have hxl:Lc x ∈ p::rest:=h.perm.mem_iff.1 (List.mem_map.2 ⟨x,List.mem_of_getElem? hx,rfl⟩)
  have hpx:p=Lc x:=by
   rcases List.mem_cons.1 hxl with e |e
   ·exact e.symm
   ·obtain ⟨y,hy,rfl⟩:=List.mem_map.1 (h.perm.mem_iff.2 (List.mem_cons_self (a:=p) (l:=rest)));obtain ⟨i,hi⟩:=List.mem_iff_getElem?.1 hy;have h1:=hr i (List.getElem?_eq_some_iff.1 hi).1;unfold FB at h1;rw [hi,hx] at h1;have h2:=hs.1 _ e;simp only [NO,decide_eq_false_iff_not] at h1;exact absurd h2 h1
  subst hpx;refine ⟨rest,rfl,?_⟩;unfold Dd;rw [List.filter_cons_of_neg (by simp)]
  exact List.filter_eq_self.2 fun q hq=>by
   simp only [ne_eq,decide_not,Bool.not_eq_eq_eq_not,Bool.not_true,decide_eq_false_iff_not];intro he;exact hid.1 (List.mem_map.2 ⟨q,hq,he⟩)
theorem AR.find {s:List En} {M:List ME} {l:List DE} (h:AR s M l) {i:Nat} {x:En} (hx:s[i]? =some x):Lc x ∈ l:=h.perm.mem_iff.1 (List.mem_map.2 ⟨x,List.mem_of_getElem? hx,rfl⟩)
abbrev NX (ab:Nat):Value:=.pointer (some ⟨ab,0,none⟩)
def I4 (ab:Nat) (l:List DE):Vp:=
 ⟨fun w F v=>∃ mb s M c,(KJ ab mb s M c).at_ w F (.bool true)/\AR s M l,fun ⟨mb,s,M,c,h1,h2⟩ hk=>⟨mb,s,M,c,(KJ ab mb s M c).keep h1 hk,h2⟩⟩
section
variable {ab mb c:Nat} {s:List En} {M:List ME} {l:List DE} {w:World} {F:Nat->Prop} {v:Value}
theorem Ih (h:(KJ ab mb s M c).at_ w F v):w.cell? ⟨ab,0 + 1,none⟩=some (.map (some mb)):=by
 obtain ⟨⟨u,hu⟩,_⟩:=h;exact (Sl.of_blk (n:=2) (sz:=1) (off:=0) (xs:=[u,.map (some mb)]) hu.1 rfl (fun j u hu=>by rw [Nat.zero_add];exact hu)).at_ (j:=1) (by decide) rfl
theorem RL {base:Nat} (h:(RM base ab mb s).at_ w F v):w.cell? ⟨ab,0,none⟩=some v:=by
 have:=(Sl.of_blk (n:=2) (sz:=1) (off:=0) (xs:=[v,.map (some mb)]) h.1 rfl (fun j u hu=>by rw [Nat.zero_add];exact hu)).at_ (j:=0) (by decide) rfl
 rwa [Nat.zero_add] at this
theorem Kx (h:(KJ ab mb s M c).at_ w F v) {i:Nat} {x:En} (hx:s[i]? =some x):w.heap[x.b]? =some (Sk x i)/\F x.b:=by
 obtain ⟨⟨u,hu⟩,_⟩:=h;exact hu.2.2.2.2.1 i x hx
theorem Jm {x:En} {i:Nat} (h:w.heap[x.b]? =some (Sk x i)) {j:Nat} {u:Value} (hu:[.int .u64 x.id,.int .i64 x.tm,.int .i64 (i:Int)][j]? =some u):w.cell? ⟨x.b,0 + j,none⟩=some u:=
 (Sl.of_blk (n:=3) (sz:=1) (off:=0) h rfl (fun j u hu=>by rw [Nat.zero_add];exact hu)).at_ (by
  have:=(List.getElem?_eq_some_iff.1 hu).1;simp only [List.length_cons,List.length_nil] at this
  omega) hu
end
theorem Wz (w:World):Calls Tryz.prog 89 #[] w fun e w'=>∃ ab F,e= .returned (NX ab)/\Hp w w' [.rep (fun w=>(I4 ab []).at_ w F (.bool true)) F true]/\∀ k,F k->w.heap.size <= k:=by
 refine Ra Tryz.func89 rfl (Hp.refl w) ?_;repeat (first |refine Ai ?_ |refine Ab ?_ |refine Ag ?_ |refine Ae Aa rfl ?_)
 refine GW rfl .u64 (fun mb hmb=>?_);repeat (first |refine BE (Bf Aa rfl rfl rfl rfl rfl rfl rfl) ?_)
 refine AY Aa rfl (fun ab hab=>?_);repeat (first |refine Ag ?_ |refine AC ?_ |refine Ae Aa rfl ?_)
 refine AZ rfl rfl (fun w' hw=>⟨ab,fun k=>k=ab \/ k=mb,rfl,?_,fun k hk=>by rcases hk with rfl |rfl<;>assumption⟩);have h1:w'.heap[ab]? =_:=hw.own _ (Af (i:=0) rfl);have h2:w'.heap[mb]? =_:=hw.own _ (Af (i:=1) rfl);refine hw.widenM (fun e he k hk=>?_) ⟨mb,[],[],0,⟨⟨_,h1,.inl rfl,World.ownsRow_nil w' _ _ _,fun k hk=>(by cases hk),fun i x hx=>(by simp at hx),(by decide)⟩,h2,.inr rfl⟩,.init⟩ (Vp.loc (p:=I4 ab [])) (fun k hk=>?_)
 ·simp only [List.mem_cons,List.not_mem_nil,or_false] at he
  rcases he with rfl |rfl
  ·exact .inl (Option.some.inj hk).symm
  ·exact .inr (Option.some.inj hk).symm
 ·rcases hk with rfl |rfl
  ·exact AU h1
  ·exact AU h2
section
variable {ab:Nat} {l:List DE} {w:World} {F:Nat->Prop}
theorem RJ (h:(I4 ab l).at_ w F (.bool true)):Calls Tryz.prog 99 #[NX ab] w fun e w'=>e= .returned (.int .i64 (l.length:Int))/\Below w.heap.size w w':=by
 obtain ⟨mb,s,M,c,⟨⟨v,hv⟩,_⟩,hR⟩:=h;obtain ⟨a,cc,rfl,_⟩:=If hv;obtain ⟨F2,hst⟩:=Hp.startR hv;refine BZ Tryz.func99 rfl rfl hst ?_;repeat (first |refine Ai ?_ |refine Ab ?_ |refine Ag ?_ |refine Ae Aa rfl ?_)
 refine BE (CS Aa rfl rfl rfl rfl rfl) ?_;repeat (first |refine Ai ?_ |refine Ab ?_ |refine Ag ?_ |refine Ad ?_ |refine Ao ?_ |refine AG rfl ?_ |refine Ae Aa rfl ?_)
 refine Bh Aa (v:=.slice a s.length cc) rfl rfl (fun w' hw=>RL (hw.own _ (Af (i:=0) rfl)).1) ?_;repeat (first |refine Ag ?_ |refine AC ?_ |refine Ae Aa rfl ?_)
 exact AZ rfl rfl (fun w' hw=>⟨by rw [hR.len],hw.below (by repeat (first |exact Ar |refine BW ?_))⟩)
def Xn (l:List DE):Value:=match l with | []=>.tuple #[.int .i64 0,.bool false] |p::_=>.tuple #[.int .i64 p.2,.bool true]
theorem OR (h:(I4 ab l).at_ w F (.bool true)):Calls Tryz.prog 90 #[NX ab] w fun e w'=>e= .returned (Xn l)/\Below w.heap.size w w':=by
 have h0:=h;obtain ⟨mb,s,M,c,⟨⟨v,hv⟩,hm,hmF⟩,hR⟩:=h;have hl:=hR.len
 cases l with
 |nil=>
  obtain ⟨F2,hst⟩:=Hp.startR h0;refine BZ Tryz.func90 rfl rfl hst ?_;repeat (first |refine Ai ?_ |refine Ab ?_ |refine Ag ?_ |refine Ae Aa rfl ?_)
  refine Be rfl Tryz.call99 (fun w1 h1=>RJ (h1.own _ (Af (i:=0) rfl)).1) ?_;repeat (first |refine Ai ?_ |refine Ab ?_ |refine Ag ?_ |refine AI ?_ |refine AC ?_ |refine AX rfl ?_ |refine Ae Aa rfl ?_)
  exact Ey rfl rfl rfl (fun w' hw=>⟨rfl,hw.below (by repeat (first |exact Ar |refine BW ?_))⟩)
 |cons p rest=>
  have hpos:0 < s.length:=by rw [hl];exact Nat.succ_pos _
  obtain ⟨g,cc,rfl⟩:=Ig hv hpos;obtain ⟨x,hx⟩:∃ x,s[0]? =some x:=⟨_,List.getElem?_eq_getElem hpos⟩;obtain ⟨_,e1,_⟩:=hR.root hx;cases e1;obtain ⟨F2,hst⟩:=Hp.startR (p:=⟨fun w F v=>(I4 ab (Lc x::rest)).at_ w F (.bool true)/\(RM 0 ab mb s).at_ w F v,fun ⟨h1,h2⟩ hk=>⟨(I4 ab (Lc x::rest)).keep h1 hk,(RM 0 ab mb s).keep h2 hk⟩⟩) ⟨h0,hv⟩;refine BZ Tryz.func90 rfl rfl hst ?_;repeat (first |refine Ai ?_ |refine Ab ?_ |refine Ag ?_ |refine Ae Aa rfl ?_)
  refine Be rfl Tryz.call99 (fun w1 h1=>RJ (h1.own _ (Af (i:=0) rfl)).1.1) ?_;repeat (first |refine Ag ?_ |refine Ae Aa rfl ?_)
  refine Ak rfl (fun h=>absurd h (by simp only [List.length_cons];omega)) (fun _=>?_);repeat (first |refine Ai ?_ |refine Ab ?_ |refine Ad ?_ |refine Ao ?_ |refine Ae Aa rfl ?_)
  refine Bh Aa (v:=.slice (some ⟨g,0,none⟩) s.length cc) rfl rfl (fun w' hw=>RL (hw.own _ (Af (i:=0) rfl)).1.2) ?_;skip;refine BE (Ay Aa rfl rfl rfl rfl rfl rfl rfl (j:=0) rfl hpos) ?_;skip;refine Bh Aa (v:=Ds x) rfl rfl (fun w' hw=>ES (hw.own _ (Af (i:=0) rfl)).1.2 hx) ?_;repeat (first |refine Ae Aa rfl ?_)
  refine Bh Aa (v:=.int .i64 x.tm) rfl rfl (fun w' hw=>Ht (hw.own _ (Af (i:=0) rfl)).1.2 hx (j:=1) rfl) ?_;repeat (first |refine Ag ?_ |refine AC ?_ |refine Ae Aa rfl ?_)
  exact Ey rfl rfl rfl (fun w' hw=>⟨rfl,hw.below (by repeat (first |exact Ar |refine BW ?_))⟩)
def Xo (l:List DE) (id:Int):Option Int:=(l.find? fun p=>decide (p.1=id)).map (·.2)
theorem Rh {l:List DE} {id:Int} (h:∀ p ∈ l,p.1 ≠ id):Xo l id=none:=by
 unfold Xo;rw [List.find?_eq_none.2 fun p hp=>by simpa using h p hp];rfl
theorem Rg {l:List DE} {id t:Int} (hn:(l.map (·.1)).Nodup) (h:(id,t) ∈ l):Xo l id=some t:=by
 induction l with
 |nil=>cases h
 |cons p l ih=>
  rw [List.map_cons,List.nodup_cons] at hn;unfold Xo;by_cases hp:p.1=id
  ·rw [List.find?_cons_of_pos (by simpa using hp)]
   rcases List.mem_cons.1 h with h |h
   ·rw [<-h];rfl
   ·exact absurd (List.mem_map.2 ⟨_,h,hp.symm⟩) hn.1
  ·rw [List.find?_cons_of_neg (by simpa using hp)]
   rcases List.mem_cons.1 h with h |h
   ·rw [<-h] at hp;exact absurd rfl hp
   ·exact ih hn.2 h
end
section
variable {ab mb c:Nat} {s:List En} {M:List ME} {l:List DE} {w w':World} {F:Nat->Prop} {v:Value}
theorem Kw (h:(KJ ab mb s M c).at_ w F v) {M2:List ME} {c2:Nat} (hk:∀ k,k ≠ mb->w'.heap[k]? =w.heap[k]?) (hb:w'.heap[mb]? =some (Cb .u64 M2 c2)):(KJ ab mb s M2 c2).at_ w' F v:=by
 obtain ⟨h1,h2,h3⟩:=h;exact ⟨(L4 0 ab mb s).keep (FJ h1 h2) fun k hk2 _=>⟨hk k hk2.2,hk2.1⟩,hb,h3⟩
theorem N1 {x:En} {p:Nat} (h:(UV ab mb s M c x p).at_ w F v) {M2:List ME} {c2:Nat} (hk:∀ k,k ≠ mb->w'.heap[k]? =w.heap[k]?) (hb:w'.heap[mb]? =some (Cb .u64 M2 c2)):(UV ab mb s M2 c2 x p).at_ w' F v:=by
 obtain ⟨⟨h1,h4,h5⟩,h2,h3⟩:=h;exact ⟨⟨(L4 0 ab mb s).keep (FJ h1 h2) fun k hk2 _=>⟨hk k hk2.2,hk2.1⟩,(hk _ (IE h4 h2)).trans h4,h5⟩,hb,h3⟩
theorem UD (h:(KJ ab mb s M c).at_ w F v) {i:Nat} {x:En} (hx:s[i]? =some x) (tm:Int) (hk:∀ k,k ≠ x.b->w'.heap[k]? =w.heap[k]?) (hb:w'.heap[x.b]? =some (Sk ⟨x.b,x.id,tm⟩ i)):(KJ ab mb (s.set i ⟨x.b,x.id,tm⟩) M c).at_ w' F v:=by
 obtain ⟨⟨u,h1,h2,h3,h5,h6,h7⟩,h8,h9⟩:=h;have hi:=(List.getElem?_eq_some_iff.1 hx).1;refine ⟨⟨u,(hk _ (Dt h1 (h6 i x hx).1 (by decide))).trans h1,h2,?_,h5,fun j z hz=>?_,by rw [List.length_set];exact h7⟩,(hk _ (IE (h6 i x hx).1 h8).symm).trans h8,h9⟩
 ·rw [List.length_set,List.map_set];have e1:(s.map Ds).set i (Ds ⟨x.b,x.id,tm⟩)=s.map Ds:=JE (by rw [List.getElem?_map,hx];rfl);rw [e1];refine JU h3 fun k hv=>hk k fun e=>?_;obtain ⟨cur,h10⟩:=HL h3 hv;exact Dt h10 (h6 i x hx).1 (by decide) e
 ·by_cases hij:i=j
  ·subst hij;rw [List.getElem?_set_self hi] at hz;cases hz;exact ⟨hb,(h6 i x hx).2⟩
  ·rw [List.getElem?_set_ne hij] at hz;refine ⟨(hk _ fun e=>?_).trans (h6 j z hz).1,(h6 j z hz).2⟩;have h10:=(h6 j z hz).1;rw [e,(h6 i x hx).1] at h10;have h11:=(Obj.cells.inj (Option.some.inj h10)).1;simp only [Array.mk.injEq,List.cons.injEq,Value.int.injEq,true_and,and_true] at h11;omega
theorem RN {x:En} {p:Nat} {ol:OL} {w0:World} (h:Hp w0 w (.blk x.b (Sk x p) true::.rep (fun w=>(KJ ab mb s M c).at_ w F (.bool true)) F true::ol)):Hp w0 w (.rep (fun w=>(UV ab mb s M c x p).at_ w (fun k=>F k \/ k=x.b) (.bool true)) (fun k=>F k \/ k=x.b) true::ol):=by
 have o0:w.heap[x.b]? =_:=h.own _ (Af (i:=0) rfl);obtain ⟨⟨h1,h2,h3⟩,_,o2⟩:=h.own _ (Af (i:=1) rfl);refine Hp.regroup [.blk x.b (Sk x p) true,.rep (fun w=>(KJ ab mb s M c).at_ w F (.bool true)) F true] [.rep (fun w=>(UV ab mb s M c x p).at_ w (fun k=>F k \/ k=x.b) (.bool true)) (fun k=>F k \/ k=x.b) true] h (fun e he=>?_) (fun e he=>?_) (List.pairwise_singleton _ _) (fun e he k hk=>?_) (fun e he k hk=>?_)
 ·simp only [List.mem_cons,List.not_mem_nil,or_false] at he
  rcases he with rfl |rfl<;>rfl
 ·rw [List.mem_singleton] at he;subst he;refine ⟨rfl,⟨⟨(L4 0 ab mb s).keep h1 fun k hk _=>⟨rfl,.inl hk⟩,o0,.inr rfl⟩,h2,.inl h3⟩,Vp.loc (p:=UV ab mb s M c x p),fun k hk=>?_⟩
  rcases hk with hk |rfl
  ·exact o2 k hk
  ·exact AU o0
 ·rw [List.mem_singleton] at he;subst he
  rcases hk with hk |rfl
  ·exact ⟨_,List.mem_cons_of_mem _ List.mem_cons_self,hk⟩
  ·exact ⟨_,List.mem_cons_self,rfl⟩
 ·simp only [List.mem_cons,List.not_mem_nil,or_false] at he
  rcases he with rfl |rfl
  ·exact .inr ⟨_,List.mem_cons_self,.inr (Option.some.inj hk).symm⟩
  ·exact .inr ⟨_,List.mem_cons_self,.inl hk⟩
def Ln (w:World) (F:Nat->Prop) (p:Vp) (w':World):Prop:=∃ F':Nat->Prop,(∀ k,F k->F' k)/\(∀ k,F' k->F k \/ w.heap.size <= k)/\Hp w w' [.rep (fun w=>p.at_ w F' (.bool true)) F' true]
set_option maxHeartbeats 2000000 in
theorem RI (h:(I4 ab l).at_ w F (.bool true)) (hF:∀ k,F k->k < w.heap.size) (hl:l.length < 1073741824) (id tm:Int):Calls Tryz.prog 77 #[NX ab,.int .u64 id,.int .i64 tm] w fun e w'=>e= .returned (.tuple #[])/\Ln w F (I4 ab (Gb l id tm)) w':=by
 obtain ⟨mb,s,M,c,hS,hR⟩:=h;have hmb:=hS.2.2;refine EP Tryz.func77 rfl rfl (Hp.startO hS hF) ?_;repeat (first |refine Ai ?_ |refine Ab ?_ |refine Ae Aa rfl ?_)
 refine BE (CS Aa rfl rfl rfl rfl rfl) ?_;repeat (first |refine Ai ?_ |refine Ab ?_ |refine Ag ?_ |refine Ad ?_ |refine Ao ?_ |refine AG rfl ?_ |refine Ae Aa rfl ?_)
 refine Bh Aa (v:=.map (some mb)) rfl rfl (fun w' hw=>Ih (hw.own _ (Af (i:=0) rfl)).1) ?_;repeat (first |refine Ae Aa rfl ?_)
 cases hg:Dz M id with
 |some u=>
  obtain ⟨i,x,hx,rfl,rfl⟩:=hR.hit hg;have hi:=(List.getElem?_eq_some_iff.1 hx).1;have hxF:=(Kx hS hx).2;refine BE (Ma Aa rfl rfl rfl rfl rfl rfl rfl rfl (fun w' hw=>(hw.own _ (Af (i:=0) rfl)).1.2.1) hg) ?_;repeat (first |refine Ai ?_ |refine Ab ?_ |refine Ag ?_ |refine Ae Aa rfl ?_)
  refine AX rfl ?_;repeat (first |refine Ai ?_ |refine Ab ?_ |refine Ae Aa rfl ?_)
  refine KA Aa 0 (Ψ:=fun w=>(KJ ab mb (s.set i ⟨x.b,x.id,tm⟩) M c).at_ w F (.bool true)) [.int .u64 x.id,.int .i64 x.tm,.int .i64 (i:Int)] [.int .u64 x.id,.int .i64 tm,.int .i64 (i:Int)] 174 rfl rfl (fun u hu=>by rw [List.mem_singleton] at hu;subst hu;rfl) rfl hxF (fun w h=>(Kx h hx).1) rfl (fun w w' h h1 h2=>UD h hx tm h1 h2) Vp.loc rfl ?_;repeat (first |refine Ai ?_ |refine Ag ?_)
  refine Cd (by kernel_rfl) 8 rfl (by kernel_rfl) ?_;repeat (first |refine Ah Aa rfl ?_)
  refine Bx (IP Aa rfl rfl rfl rfl) ?_;repeat (first |refine Ah Aa rfl ?_)
  have hx2:(s.set i ⟨x.b,x.id,tm⟩)[i]? =some ⟨x.b,x.id,tm⟩:=List.getElem?_set_self hi;refine Av Aa (v:=.int .i64 (i:Int)) rfl rfl (fun w' hw=>Jm (Kx (hw.own _ (Af (i:=0) rfl)).1 hx2).1 (j:=2) rfl) ?_;repeat (first |refine AN rfl ?_)
  refine CA 0 rfl Tryz.call93 rfl (fun w1 g=>(N0 (g.own _ (Af (i:=0) rfl)).1 (g.own _ (Af (i:=0) rfl)).2.2 i (by rw [List.length_set];exact hi)).mono fun e w' ⟨he,F',g1,g2,g3⟩=>⟨_,_,F',he,g3,g1,g2,_,rfl,?_⟩);have hsz:=g.size;repeat (first |refine Ag ?_ |refine AI ?_ |refine AC ?_)
  exact Pm rfl (fun w' hw=>⟨rfl,F',g1,fun k hk=>(g2 k hk).imp id (fun h=>Nat.le_trans hsz h),hw.turnX 0 rfl (fun h=>⟨mb,_,M,c,h,hR.setOld (Fe 0 ab mb) hx tm⟩) (Vp.loc (p:=I4 ab (Gb l x.id tm))) rfl⟩)
 |none=>
  refine BE (Mb Aa rfl rfl rfl rfl rfl rfl rfl rfl (fun w' hw=>(hw.own _ (Af (i:=0) rfl)).1.2.1) hg) ?_;repeat (first |refine Ai ?_ |refine Ab ?_ |refine Ag ?_ |refine Ad ?_ |refine Ao ?_ |refine AG rfl ?_ |refine Ae Aa rfl ?_ |refine BE (Bf Aa rfl rfl rfl rfl rfl rfl rfl) ?_)
  refine AY Aa rfl (fun xb hxb=>?_);obtain ⟨x,hx⟩:∃ x:En,x=⟨xb,id,tm⟩:=⟨_,rfl⟩;repeat (first |refine Ai ?_ |refine Ab ?_ |refine Ag ?_ |refine Ae Aa rfl ?_)
  refine Bh Aa (v:=.map (some mb)) rfl rfl (fun w' hw=>Ih (hw.own _ (Af (i:=1) rfl)).1) ?_;repeat (first |refine Ae Aa rfl ?_)
  refine PQ Aa 1 (Ψ:=fun w=>(KJ ab mb s (CV M id (Ds ⟨xb,id,tm⟩) c).1 (CV M id (Ds ⟨xb,id,tm⟩) c).2).at_ w F (.bool true)) M c rfl rfl rfl rfl rfl rfl rfl rfl rfl hmb (fun w h=>h.2.1) (fun w w' h h1 h2=>Kw h h1 h2) Vp.loc rfl ?_;repeat (first |refine Ag ?_ |refine Ae Aa rfl ?_ |refine Ap ?_)
  refine BE (IP Aa rfl rfl rfl rfl) ?_;repeat (first |refine Ae Aa rfl ?_)
  refine BE (IP Aa rfl rfl rfl rfl) ?_;refine Lq (ι:=Unit) (fun _=>True) (fun _=>_) (fun w hh=>⟨(),trivial,RN (x:=⟨xb,id,tm⟩) (p:=0) hh⟩) (fun _ _=>?_)
  have hne:∀ (i:Nat) (z:En),s[i]? =some z->z.b ≠ xb:=fun i z hz he=>by
   have h1:=hF z.b (Kx hS hz).2;omega
  refine CA 0 rfl Tryz.call94 rfl (fun w1 g=>(M4 (x:=⟨xb,id,tm⟩) (p:=0) (g.own _ (Af (i:=0) rfl)).1 (g.own _ (Af (i:=0) rfl)).2.2 (by rw [hR.len];exact hl) hne).mono fun e w' ⟨he,F',g1,g2,g3⟩=>⟨_,_,F',he,g3,g1,g2,_,rfl,?_⟩);have hsz:=g.size;repeat (first |refine Ag ?_)
  exact CM rfl (fun w' hw=>⟨rfl,F',fun k hk=>g1 k (.inl hk),fun k hk=>by
   rcases g2 k hk with (h |h) |h
   ·exact .inl h
   ·exact .inr (by rw [h];exact hxb)
   ·exact .inr (Nat.le_trans hsz h),hw.turnX 0 rfl (fun h=>⟨mb,_,_,_,h,hR.setNew (x:=⟨xb,id,tm⟩) (Fe 0 ab mb) hg c⟩) (Vp.loc (p:=I4 ab (Gb l id tm))) rfl⟩)
set_option maxHeartbeats 2000000 in
theorem RK (h:(I4 ab l).at_ w F (.bool true)) (hF:∀ k,F k->k < w.heap.size) (id:Int):Calls Tryz.prog 68 #[NX ab,.int .u64 id] w fun e w'=>e= .returned (.bool (Xo l id).isSome)/\Ln w F (I4 ab (Dd l id)) w':=by
 obtain ⟨mb,s,M,c,hS,hR⟩:=h;have hmb:=hS.2.2;refine BO Tryz.func68 rfl rfl (Hp.startO hS hF) ?_;repeat (first |refine Ai ?_ |refine Ab ?_ |refine Ag ?_ |refine Ae Aa rfl ?_)
 refine BE (CS Aa rfl rfl rfl rfl rfl) ?_;repeat (first |refine Ai ?_ |refine Ab ?_ |refine Ag ?_ |refine Ad ?_ |refine Ao ?_ |refine AG rfl ?_ |refine Ae Aa rfl ?_)
 refine Bh Aa (v:=.map (some mb)) rfl rfl (fun w' hw=>Ih (hw.own _ (Af (i:=0) rfl)).1) ?_;repeat (first |refine Ae Aa rfl ?_)
 cases hg:Dz M id with
 |some u=>
  obtain ⟨i,x,hx,rfl,rfl⟩:=hR.hit hg;have hi:=(List.getElem?_eq_some_iff.1 hx).1;rw [Rg hR.ids (hR.find hx)];refine BE (Ma Aa rfl rfl rfl rfl rfl rfl rfl rfl (fun w' hw=>(hw.own _ (Af (i:=0) rfl)).1.2.1) hg) ?_;repeat (first |refine Ai ?_ |refine Ab ?_ |refine Ag ?_ |refine Ae Aa rfl ?_)
  refine AX rfl ?_;repeat (first |refine Ai ?_)
  refine Cd (by kernel_rfl) 8 rfl (by kernel_rfl) ?_;repeat (first |refine Ah Aa rfl ?_)
  refine Bx (IP Aa rfl rfl rfl rfl) ?_;repeat (first |refine Ah Aa rfl ?_)
  refine Av Aa (v:=.int .i64 (i:Int)) rfl rfl (fun w' hw=>Jm (Kx (hw.own _ (Af (i:=0) rfl)).1 hx).1 (j:=2) rfl) ?_;repeat (first |refine AN rfl ?_)
  refine CA 0 rfl Tryz.call88 rfl (fun w1 g=>(KI (g.own _ (Af (i:=0) rfl)).1 (g.own _ (Af (i:=0) rfl)).2.2 i hx).mono fun e w' ⟨he,F',g1,g2,g3⟩=>⟨_,_,F',he,g3,g1,g2,_,rfl,?_⟩);have hsz:=g.size;repeat (first |refine Ab ?_ |refine Ag ?_ |refine Ae Aa rfl ?_)
  refine Bh Aa (v:=.map (some mb)) rfl rfl (fun w' hw=>Ih (hw.own _ (Af (i:=0) rfl)).1) ?_;repeat (first |refine Ae Aa rfl ?_)
  refine Lt Aa 0 (Ψ:=fun w=>(KJ ab mb (((G5 0 ab mb).rm s i).take (s.length - 1)) (D7 M x.id) c).at_ w F' (.bool true)) M c rfl rfl rfl rfl rfl rfl rfl rfl (g1 _ hmb) (fun w h=>h.2.1) (fun w w' h h1 h2=>Kw h h1 h2) Vp.loc rfl ?_;repeat (first |refine Ai ?_ |refine Ab ?_ |refine Ag ?_ |refine AC ?_ |refine Ae Aa rfl ?_)
  exact AZ rfl rfl (fun w' hw=>⟨rfl,F',g1,fun k hk=>(g2 k hk).imp id (fun h=>Nat.le_trans hsz h),hw.turnX 0 rfl (fun h=>⟨mb,_,_,c,h,hR.clear (Fe 0 ab mb) hx⟩) (Vp.loc (p:=I4 ab (Dd l x.id))) rfl⟩)
 |none=>
  rw [Rh (hR.missl hg),I0 (hR.missl hg)];refine BE (Mb Aa rfl rfl rfl rfl rfl rfl rfl rfl (fun w' hw=>(hw.own _ (Af (i:=0) rfl)).1.2.1) hg) ?_;repeat (first |refine Ai ?_ |refine Ab ?_ |refine Ag ?_ |refine Ad ?_ |refine Ao ?_ |refine AC ?_ |refine AG rfl ?_ |refine Ae Aa rfl ?_)
  exact AZ rfl rfl (fun w' hw=>⟨rfl,F,fun k hk=>hk,fun k hk=>.inl hk,hw.turnX 0 rfl (fun h=>⟨mb,_,_,c,h,hR⟩) (Vp.loc (p:=I4 ab l)) rfl⟩)
end
def Gs (l:List DE) (now:Int):List Int:=(l.takeWhile fun p=>decide (p.2 <= now)).map (·.1)
def Le (l:List DE) (now:Int):List DE:=l.dropWhile fun p=>decide (p.2 <= now)
theorem Mq {α:Type} {p:α->Bool}:∀ {l:List α} {k:Nat},(∀ j x,j < k->l[j]? =some x->p x=true)->(∀ x,l[k]? =some x->p x=false)->k <= l.length->l.takeWhile p=l.take k/\l.dropWhile p=l.drop k
 | [],k,_,_,h=>by
  have:k=0:=by simpa using h
  subst this;exact ⟨rfl,rfl⟩
 |x::l,0,_,h2,_=>by
  rw [List.takeWhile_cons_of_neg (by rw [h2 x rfl];decide),List.dropWhile_cons_of_neg (by rw [h2 x rfl];decide)];exact ⟨rfl,rfl⟩
 |x::l,k + 1,h1,h2,h=>by
  have:=Mq (p:=p) (l:=l) (k:=k) (fun j y hj hy=>h1 (j + 1) y (by omega) (by rw [List.getElem?_cons_succ];exact hy)) (fun y hy=>h2 y (by rw [List.getElem?_cons_succ];exact hy)) (by simpa using h);rw [List.takeWhile_cons_of_pos (h1 0 x (by omega) rfl),List.dropWhile_cons_of_pos (h1 0 x (by omega) rfl),this.1,this.2];exact ⟨rfl,rfl⟩
theorem Wo {l:List DE} {now:Int} {k:Nat} (h1:∀ p ∈ l.take k,p.2 <= now) (h2:∀ p,l[k]? =some p->now < p.2) (h:k <= l.length):Gs l now=(l.take k).map (·.1)/\Le l now=l.drop k:=by
 have:=Mq (p:=fun p:DE=>decide (p.2 <= now)) (l:=l) (k:=k) (fun j x hj hx=>by
  rw [decide_eq_true_eq]
  exact h1 x (List.mem_of_getElem? (i:=j) (by rw [List.getElem?_take_of_lt hj];exact hx))) (fun x hx=>by
  rw [decide_eq_false_iff_not];have:=h2 x hx
  omega) h
 unfold Gs Le;rw [this.1,this.2];exact ⟨rfl,rfl⟩
structure Ye where
 k:Nat
 A:Option Addr
 C:Nat
 F:Nat->Prop
abbrev Bj (l:List Int):List Value:=l.map (.int .u64)
set_option maxHeartbeats 2000000 in
theorem WA {ab:Nat} {l:List DE} {w:World} {F:Nat->Prop} (h:(I4 ab l).at_ w F (.bool true)) (hF:∀ k,F k->k < w.heap.size) (hl:l.length < 1073741824) (now:Int):Calls Tryz.prog 75 #[NX ab,.int .i64 now] w fun e w'=>∃ A C,e= .returned (.slice A (Gs l now).length C)/\
 ∃ F':Nat->Prop,(∀ k,F k->F' k)/\(∀ k,F' k->F k \/ w.heap.size <= k)/\Hp w w' [.row w.heap.size (.slice A (Gs l now).length C) 32 1 (Gs l now).length (Bj (Gs l now)),.rep (fun w=>(I4 ab (Le l now)).at_ w F' (.bool true)) F' true]:=by
 refine BO Tryz.func75 rfl rfl (Hp.startO h hF) ?_;repeat (first |refine Ai ?_ |refine Ab ?_ |refine Aq ?_ |refine Ag ?_ |refine Ae Aa rfl ?_)
 refine AM (ι:=Ye) (fun i=>[(0,NX ab),(1,.int .i64 now),(5,.slice i.A i.k i.C)])
  (fun i=>[.row w.heap.size (.slice i.A i.k i.C) 32 1 i.k (Bj ((l.take i.k).map (·.1))),.rep (fun w=>(I4 ab (l.drop i.k)).at_ w i.F (.bool true)) i.F true])
  (fun i=>i.k <= l.length/\(∀ p ∈ l.take i.k,p.2 <= now)/\(∀ k,F k->i.F k)/\(∀ k,i.F k->F k \/ w.heap.size <= k)) (fun i=>l.length - i.k) ⟨0,none,0,F⟩ ⟨Nat.zero_le _,by simp,fun k hk=>hk,fun k hk=>.inl hk⟩ (by repeat (first |exact As.nil |refine As.cons rfl ?_)) (fun w' hw=>hw.nilRow _ _) ?_
 rintro ⟨k,A,C,F1⟩ ⟨hk,hle,hF1,hF2⟩;dsimp only at hk hle hF1 hF2 ⊢
 refine M6 (ι:=Nat × List En × List ME × Nat) (fun i=>AR i.2.1 i.2.2.1 (l.drop k)/\F1 i.1) (fun i=>[.row w.heap.size (.slice A k C) 32 1 k (Bj ((l.take k).map (·.1))),.rep (fun w=>(KJ ab i.1 i.2.1 i.2.2.1 i.2.2.2).at_ w F1 (.bool true)) F1 true]) (fun w1 hh=>by
  obtain ⟨⟨mb,s,M,c,e1,e2⟩,_,_⟩:=hh.own _ (Af (i:=1) rfl)
  exact ⟨⟨mb,s,M,c⟩,⟨e2,e1.2.2⟩,hh.turnX 1 rfl (fun _=>e1) Vp.loc rfl⟩) ?_
 rintro ⟨mb,s,M,c⟩ ⟨hR,hmb⟩;dsimp only at hR hmb ⊢
 have hfin:∀ w',(∀ p,l[k]? =some p->now < p.2)->Hp w w' [.row w.heap.size (.slice A k C) 32 1 k (Bj ((l.take k).map (·.1))),.rep (fun w=>(KJ ab mb s M c).at_ w F1 (.bool true)) F1 true]->∃ A2 C2,Ending.returned (.slice A k C)= .returned (.slice A2 (Gs l now).length C2)/\
  ∃ F':Nat->Prop,(∀ k,F k->F' k)/\(∀ k,F' k->F k \/ w.heap.size <= k)/\Hp w w' [.row w.heap.size (.slice A2 (Gs l now).length C2) 32 1 (Gs l now).length (Bj (Gs l now)),.rep (fun w=>(I4 ab (Le l now)).at_ w F' (.bool true)) F' true]:=fun w' h2 hw=>by
  obtain ⟨e1,e2⟩:=Wo hle h2 hk
  have e3:(Gs l now).length=k:=by rw [e1,List.length_map,List.length_take];omega
  rw [e3,e1,e2];exact ⟨A,C,rfl,F1,hF1,hF2,hw.turnX 1 rfl (fun h=>⟨mb,s,M,c,h,hR⟩) (Vp.loc (p:=I4 ab (l.drop k))) rfl⟩
 cases hd:l.drop k with
 |nil=>
  rw [hd] at hR;repeat (first |refine Ai ?_ |refine Ab ?_ |refine Aq ?_ |refine Ae Aa rfl ?_)
  refine Be rfl Tryz.call90 (fun w1 h1=>OR (l:=[]) ⟨mb,s,M,c,(h1.own _ (Af (i:=1) rfl)).1,hR⟩) ?_;repeat (first |refine Ai ?_ |refine Ab ?_ |refine Ag ?_ |refine Ae Aa rfl ?_ |refine Bn rfl rfl rfl ?_)
  refine AX rfl ?_;repeat (first |refine Ai ?_ |refine Ab ?_ |refine Ag ?_ |refine BQ ?_ |refine AI ?_ |refine AC ?_ |refine Ae Aa rfl ?_)
  exact AZ rfl rfl (fun w' hw=>hfin w' (fun p hp=>by
   have:=(List.getElem?_eq_some_iff.1 hp).1;rw [List.drop_eq_nil_iff] at hd
   omega) hw)
 |cons p rest=>
  have hkl:k < l.length:=by
   rcases Nat.lt_or_ge k l.length with h |h
   ·exact h
   ·rw [List.drop_eq_nil_iff.2 h] at hd;cases hd
  have hpk:l[k]? =some p/\l.drop (k + 1)=rest:=by
   rw [List.drop_eq_getElem_cons hkl] at hd;cases hd;exact ⟨List.getElem?_eq_getElem hkl,rfl⟩
  rw [hd] at hR
  have hpos:0 < s.length:=by rw [hR.len];exact Nat.succ_pos _
  obtain ⟨x,hx⟩:∃ x,s[0]? =some x:=⟨_,List.getElem?_eq_getElem hpos⟩;obtain ⟨rest',e1,e2⟩:=hR.root hx;cases e1;repeat (first |refine Ai ?_ |refine Ab ?_ |refine Aq ?_ |refine Ae Aa rfl ?_)
  refine Be rfl Tryz.call90 (fun w1 h1=>OR (l:=Lc x::rest) ⟨mb,s,M,c,(h1.own _ (Af (i:=1) rfl)).1,hR⟩) ?_;repeat (first |refine Ai ?_ |refine Ab ?_ |refine Ag ?_ |refine Ae Aa rfl ?_)
  refine Ak rfl (fun hgt=>?_) (fun hgt=>?_)
  ·repeat (first |refine Ai ?_ |refine Ab ?_ |refine Ag ?_ |refine BQ ?_ |refine AI ?_ |refine AC ?_ |refine Ae Aa rfl ?_)
   exact AZ rfl rfl (fun w' hw=>hfin w' (fun p hp=>by
    rw [hpk.1] at hp;cases hp
    exact hgt) hw)
  ·repeat (first |refine Ai ?_ |refine Ab ?_ |refine Ad ?_ |refine Ao ?_ |refine Ae Aa rfl ?_)
   refine BE (IP Aa rfl rfl rfl rfl) ?_;refine CA 1 rfl Tryz.call91 rfl (fun w1 g=>(NZ (g.own _ (Af (i:=1) rfl)).1 (g.own _ (Af (i:=1) rfl)).2.2 hx).mono fun e w' ⟨he,F',g1,g2,g3⟩=>⟨_,_,F',he,g3,g1,g2,_,rfl,?_⟩);have hsz:=g.size;refine BE (Lv Aa rfl rfl rfl rfl) ?_;repeat (first |refine Ai ?_ |refine Ag ?_ |refine Ae Aa rfl ?_)
   refine Cd (by kernel_rfl) 8 rfl (by kernel_rfl) ?_;repeat (first |refine Ah Aa rfl ?_)
   refine Av Aa (v:=.map (some mb)) rfl rfl (fun w' hw=>by
    have h9:=(hw.own _ (Af (i:=1) rfl)).1
    exact Ih (v:=.bool true) ⟨h9.1.1,h9.2⟩) ?_
   repeat (first |refine Ah Aa rfl ?_)
   refine Av Aa (v:=.int .u64 x.id) rfl rfl (fun w' hw=>Jm (hw.own _ (Af (i:=1) rfl)).1.1.2.1 (j:=0) rfl) ?_;repeat (first |refine AN rfl ?_)
   refine Lt Aa 1 (Ψ:=fun w=>(UV ab mb (((G5 0 ab mb).pp s).take (s.length - 1)) (D7 M x.id) c x (s.length - 1)).at_ w F' (.bool true)) M c rfl rfl rfl rfl rfl rfl rfl rfl (g1 _ hmb) (fun w h=>h.2.1) (fun w w' h h1 h2=>N1 h h1 h2) Vp.loc rfl ?_;repeat (first |refine Ag ?_ |refine Ae Aa rfl ?_ |refine Ap ?_)
   refine Bh Aa (v:=.int .u64 x.id) rfl rfl (fun w' hw=>Jm (hw.own _ (Af (i:=1) rfl)).1.1.2.1 (j:=0) rfl) ?_;refine AO Aa rfl rfl rfl rfl rfl rfl rfl rfl rfl rfl rfl rfl (fun nb hnb=>?_);refine AT (ty:=0) Aa 1 (news:=[.int .u64 x.id]) rfl rfl rfl rfl rfl rfl rfl rfl rfl (by decide) (fun w' h=>Sl.of_blk (h.own _ (Af (i:=0) rfl)) rfl fun j u hu=>by rw [Nat.zero_add];exact hu) (fun u hu=>by rw [List.mem_singleton] at hu;subst hu;rfl) (by simp only [maxLen];omega) (by show (_ + _) * 8 <= _;omega) rfl (fun A' C' h1 h2=>⟨_,rfl,?_⟩);repeat (first |refine Ag ?_ |refine Ad ?_ |refine Am ?_ |refine Ae Aa rfl ?_)
   have htk:l.take (k + 1)=l.take k ++ [Lc x]:=by rw [List.take_add_one,hpk.1];rfl
   refine ⟨⟨k + 1,A',C',F'⟩,⟨hkl,fun p hp=>?_,fun j hj=>g1 j (hF1 j hj),fun j hj=>?_⟩,by repeat (first |exact As.nil |refine As.cons rfl ?_),fun w' hw=>?_,by show l.length - (k + 1) < l.length - k;omega⟩
   ·rw [htk] at hp
    rcases List.mem_append.1 hp with hp |hp
    ·exact hle p hp
    ·rw [List.mem_singleton] at hp;subst hp;show x.tm <= now;have:¬ now < x.tm:=hgt;omega
   ·rcases g2 j hj with h |h
    ·exact hF2 j h
    ·exact .inr (Nat.le_trans hsz h)
   ·have h9:=hw.drop (fun _ k hk=>by
     rw [<-Option.some.inj hk]
     exact hnb)
    rw [htk,List.map_append,show Bj (List.map (·.1) (l.take k) ++ List.map (·.1) [Lc x])=Bj (List.map (·.1) (l.take k)) ++ [.int .u64 x.id] from List.map_append]
    exact h9.turnX 1 rfl (fun h=>⟨mb,_,_,c,⟨h.1.1,h.2⟩,by
     have:=hR.pop (Fe 0 ab mb) hx;rw [e2] at this;rw [hpk.2]
     exact this⟩) (Vp.loc (p:=I4 ab (l.drop (k + 1)))) rfl
end Go.Proofs.YtidhpofcofknhaaGreat
