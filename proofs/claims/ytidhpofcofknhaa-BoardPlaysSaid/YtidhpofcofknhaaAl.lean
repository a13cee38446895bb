/-
  The walk of alarm.entries' Swap. Conditions: each theorem's own. (Made by genAlA.py.) alarm.entries as a heap's object. Conditions: each theorem's own. (Made by genAlB.py.) alarm.entries' Push and Pop; heap.Push, Pop, Fix, Remove of an alarm with its map. Conditions: each theorem's own. heap.Push, Pop, Fix, Remove of an alarm with its map. Conditions: each theorem's own. The plain law of an alarm: its heap and its map against the document's list. Conditions: each theorem's own. The walks of alarm's New, Len, Next, When. Conditions: each theorem's own. The walks of alarm's Set and Clear. Conditions: each theorem's own. The walk of alarm's Due. Conditions: each theorem's own. The document's example; a nil alarm. Conditions: each theorem's own.
  Conditions: each theorem's own.
-/
import Derived.Test.YtidhpofcofknhaaEz
namespace Go.Proofs.Ytidhpofcofknhaa
open Go Go.RowKit
set_option linter.unusedVariables false


set_option maxHeartbeats 2000000 in
theorem aswap_ne (g n c i j bx by_ : Nat) (cs : List Value) (idx atx plx idy aty ply : Int) (w : World) (hst : Hp w w [.blk g (.cells ⟨cs⟩ 126 (0, 0)) true, .blk bx (.cells ⟨[.int .u64 idx, .int .i64 atx, .int .i64 plx]⟩ 134 (0, 0)) true, .blk by_ (.cells ⟨[.int .u64 idy, .int .i64 aty, .int .i64 ply]⟩ 134 (0, 0)) true]) (hi : i < n) (hj : j < n) (hn : n ≤ cs.length) (hu : cs[i]? = some (.pointer (some ⟨bx, 0, none⟩))) (hv : cs[j]? = some (.pointer (some ⟨by_, 0, none⟩))) :
    Calls Try.prog 120 #[.slice (some ⟨g, 0, none⟩) n c, .int .i64 (i : Int), .int .i64 (j : Int)] w fun e w' => e = .returned (.tuple #[]) ∧ Hp w w' [.blk g (.cells ⟨(cs.set i (.pointer (some ⟨by_, 0, none⟩))).set j (.pointer (some ⟨bx, 0, none⟩))⟩ 126 (0, 0)) true, .blk bx (.cells ⟨[.int .u64 idx, .int .i64 atx, .int .i64 (j : Int)]⟩ 134 (0, 0)) true, .blk by_ (.cells ⟨[.int .u64 idy, .int .i64 aty, .int .i64 (i : Int)]⟩ 134 (0, 0)) true] := by
  have hg2 : ((cs.set i (.pointer (some ⟨by_, 0, none⟩))).set j (.pointer (some ⟨bx, 0, none⟩)))[i]? = some (.pointer (some ⟨by_, 0, none⟩)) := by
    rw [List.getElem?_set]
    by_cases h : j = i
    · rw [if_pos h, if_pos (by rw [List.length_set]; omega)]; subst h; rw [hu] at hv; exact hv
    · rw [if_neg h, List.getElem?_set_self (by omega)]
  have hg3 : ((cs.set i (.pointer (some ⟨by_, 0, none⟩))).set j (.pointer (some ⟨bx, 0, none⟩)))[j]? = some (.pointer (some ⟨bx, 0, none⟩)) := List.getElem?_set_self (by rw [List.length_set]; omega)
  refine enter3 Try.func120 rfl rfl hst ?_
  repeat (first | refine T_seq ?_)
  let ol0 : OL := [.blk g (.cells ⟨cs⟩ 126 (0, 0)) true, .blk bx (.cells ⟨[.int .u64 idx, .int .i64 atx, .int .i64 plx]⟩ 134 (0, 0)) true, .blk by_ (.cells ⟨[.int .u64 idy, .int .i64 aty, .int .i64 ply]⟩ 134 (0, 0)) true]
  let ol1 : OL := [.blk g (.cells ⟨cs.set i (.pointer (some ⟨by_, 0, none⟩))⟩ 126 (0, 0)) true, .blk bx (.cells ⟨[.int .u64 idx, .int .i64 atx, .int .i64 plx]⟩ 134 (0, 0)) true, .blk by_ (.cells ⟨[.int .u64 idy, .int .i64 aty, .int .i64 ply]⟩ 134 (0, 0)) true]
  let ol2 : OL := [.blk g (.cells ⟨(cs.set i (.pointer (some ⟨by_, 0, none⟩))).set j (.pointer (some ⟨bx, 0, none⟩))⟩ 126 (0, 0)) true, .blk bx (.cells ⟨[.int .u64 idx, .int .i64 atx, .int .i64 plx]⟩ 134 (0, 0)) true, .blk by_ (.cells ⟨[.int .u64 idy, .int .i64 aty, .int .i64 ply]⟩ 134 (0, 0)) true]
  let olf : (Nat → Bool) → OL := fun L => match L 15 with
    | true => ol2
    | false => match L 13 with
      | true => ol1
      | false => ol0
  refine T_drawS (by kernel_rfl) (by kernel_rfl) [.slice (some ⟨g, 0, none⟩) n c, .int .i64 (i : Int), .slice (some ⟨g, 0, none⟩) n c, .int .i64 (j : Int), .slice (some ⟨g, 0, none⟩) n c, .int .i64 (j : Int), .pointer (some ⟨g, 0 + j, none⟩), .pointer (some ⟨by_, 0, none⟩), .slice (some ⟨g, 0, none⟩) n c, .int .i64 (i : Int), .pointer (some ⟨g, 0 + i, none⟩), .pointer (some ⟨bx, 0, none⟩), .pointer (some ⟨g, 0 + i, none⟩), undef, .pointer (some ⟨g, 0 + j, none⟩), undef] rfl olf rfl ?_ (l' := [(0, .slice (some ⟨g, 0, none⟩) n c), (1, .int .i64 (i : Int)), (2, .int .i64 (j : Int))]) (ol' := ol2) (fun L h => by simp only [olf, h 15 (by decide)]) (by repeat (first | exact SubD.nil | refine SubD.cons rfl ?_)) ?_
  · refine ⟨?_, ?_, ?_, ?_, ?_, ?_, ?_, ?_, ?_, ?_, ?_, ?_, ?_, ?_, ?_, ?_, trivial⟩
    · exact fun L hc hl hp => OpS.ofD rfl (D_pure tabOk rfl D_last)
    · exact fun L hc hl hp => OpS.ofD rfl (D_pure tabOk rfl D_last)
    · exact fun L hc hl hp => OpS.ofD rfl (D_pure tabOk rfl D_last)
    · exact fun L hc hl hp => OpS.ofD rfl (D_pure tabOk rfl D_last)
    · exact fun L hc hl hp => OpS.ofD rfl (D_pure tabOk rfl D_last)
    · exact fun L hc hl hp => OpS.ofD rfl (D_pure tabOk rfl D_last)
    · exact fun L hc hl hp => OpS.ofD rfl (D_q (Q_idx1 tabOk rfl rfl rfl rfl rfl rfl rfl (j := j) rfl hj) D_last)
    · intro L hc hl hp
      have h13 := closed_no hc (j := 13) rfl ⟨7, .data⟩ (by simp) rfl hl
      have h15 := closed_no hc (j := 15) rfl ⟨13, .phase⟩ (by simp) rfl h13
      have e1 : olf L = ol0 := by simp only [olf, h13, h15]
      have e2 : olf (add L 7) = ol0 := by simp [olf, add, h13, h15]
      rw [e1, e2]
      exact OpS.ofD rfl (D_load1 tabOk (v := .pointer (some ⟨by_, 0, none⟩)) rfl rfl (fun w' hw => blk_cell hw hv) D_last)
    · exact fun L hc hl hp => OpS.ofD rfl (D_pure tabOk rfl D_last)
    · exact fun L hc hl hp => OpS.ofD rfl (D_pure tabOk rfl D_last)
    · exact fun L hc hl hp => OpS.ofD rfl (D_q (Q_idx1 tabOk rfl rfl rfl rfl rfl rfl rfl (j := i) rfl hi) D_last)
    · intro L hc hl hp
      have h13 := closed_no hc (j := 13) rfl ⟨11, .phase⟩ (by simp) rfl hl
      have h15 := closed_no hc (j := 15) rfl ⟨13, .phase⟩ (by simp) rfl h13
      have e1 : olf L = ol0 := by simp only [olf, h13, h15]
      have e2 : olf (add L 11) = ol0 := by simp [olf, add, h13, h15]
      rw [e1, e2]
      exact OpS.ofD rfl (D_load1 tabOk (v := .pointer (some ⟨bx, 0, none⟩)) rfl rfl (fun w' hw => blk_cell hw hu) D_last)
    · exact fun L hc hl hp => OpS.ofD rfl (D_q (Q_idx1 tabOk rfl rfl rfl rfl rfl rfl rfl (j := i) rfl hi) D_last)
    · intro L hc hl hp
      have h15 := closed_no hc (j := 15) rfl ⟨13, .phase⟩ (by simp) rfl hl
      have e1 : olf L = ol0 := by simp only [olf, hl, h15]
      have e2 : olf (add L 13) = ol1 := by simp [olf, add, h15]
      rw [e1, e2]
      exact OpS.store tabOk 0 rfl rfl (by intro x hx; rw [List.mem_singleton] at hx; subst hx; rfl) rfl (by rw [Nat.zero_add]; exact setMany_one (by omega)) rfl
    · exact fun L hc hl hp => OpS.ofD rfl (D_q (Q_idx1 tabOk rfl rfl rfl rfl rfl rfl rfl (j := j) rfl hj) D_last)
    · intro L hc hl hp
      have h13 : L 13 = true := hp ⟨13, .phase⟩ (by simp) rfl
      have e1 : olf L = ol1 := by simp only [olf, h13, hl]
      have e2 : olf (add L 15) = ol2 := by simp [olf, add]
      rw [e1, e2]
      exact OpS.store tabOk 0 rfl rfl (by intro x hx; rw [List.mem_singleton] at hx; subst hx; rfl) rfl (by rw [Nat.zero_add]; exact setMany_one (by rw [List.length_set]; omega)) rfl
  clear olf ol1
  let ol3 : OL := [.blk g (.cells ⟨(cs.set i (.pointer (some ⟨by_, 0, none⟩))).set j (.pointer (some ⟨bx, 0, none⟩))⟩ 126 (0, 0)) true, .blk bx (.cells ⟨[.int .u64 idx, .int .i64 atx, .int .i64 plx]⟩ 134 (0, 0)) true, .blk by_ (.cells ⟨[.int .u64 idy, .int .i64 aty, .int .i64 (i : Int)]⟩ 134 (0, 0)) true]
  let ol4 : OL := [.blk g (.cells ⟨(cs.set i (.pointer (some ⟨by_, 0, none⟩))).set j (.pointer (some ⟨bx, 0, none⟩))⟩ 126 (0, 0)) true, .blk bx (.cells ⟨[.int .u64 idx, .int .i64 atx, .int .i64 (j : Int)]⟩ 134 (0, 0)) true, .blk by_ (.cells ⟨[.int .u64 idy, .int .i64 aty, .int .i64 (i : Int)]⟩ 134 (0, 0)) true]
  let olg : (Nat → Bool) → OL := fun L => match L 15 with
    | true => ol4
    | false => match L 12 with
      | true => ol3
      | false => ol2
  refine T_asThen ?_
  refine T_drawS (by kernel_rfl) (by kernel_rfl) [.slice (some ⟨g, 0, none⟩) n c, .int .i64 (i : Int), .pointer (some ⟨g, 0 + i, none⟩), .pointer (some ⟨by_, 0, none⟩), .slice (some ⟨g, 0, none⟩) n c, .int .i64 (j : Int), .pointer (some ⟨g, 0 + j, none⟩), .pointer (some ⟨bx, 0, none⟩), .int .i64 (i : Int), .int .i64 (j : Int), .pointer (some ⟨by_, 0, none⟩), .pointer (some ⟨by_, 0 + 2, none⟩), undef, .pointer (some ⟨bx, 0, none⟩), .pointer (some ⟨bx, 0 + 2, none⟩), undef] rfl olg rfl ?_ (l' := []) (ol' := ol4) (fun L h => by simp only [olg, h 15 (by decide)]) (by repeat (first | exact SubD.nil)) ?_
  · refine ⟨?_, ?_, ?_, ?_, ?_, ?_, ?_, ?_, ?_, ?_, ?_, ?_, ?_, ?_, ?_, ?_, trivial⟩
    · exact fun L hc hl hp => OpS.ofD rfl (D_pure tabOk rfl D_last)
    · exact fun L hc hl hp => OpS.ofD rfl (D_pure tabOk rfl D_last)
    · exact fun L hc hl hp => OpS.ofD rfl (D_q (Q_idx1 tabOk rfl rfl rfl rfl rfl rfl rfl (j := i) rfl hi) D_last)
    · intro L hc hl hp
      have h12 := closed_no hc (j := 12) rfl ⟨3, .phase⟩ (by simp) rfl hl
      have h15 := closed_no hc (j := 15) rfl ⟨12, .phase⟩ (by simp) rfl h12
      have e1 : olg L = ol2 := by simp only [olg, h12, h15]
      have e2 : olg (add L 3) = ol2 := by simp [olg, add, h12, h15]
      rw [e1, e2]
      exact OpS.ofD rfl (D_load1 tabOk (v := .pointer (some ⟨by_, 0, none⟩)) rfl rfl (fun w' hw => blk_cell hw hg2) D_last)
    · exact fun L hc hl hp => OpS.ofD rfl (D_pure tabOk rfl D_last)
    · exact fun L hc hl hp => OpS.ofD rfl (D_pure tabOk rfl D_last)
    · exact fun L hc hl hp => OpS.ofD rfl (D_q (Q_idx1 tabOk rfl rfl rfl rfl rfl rfl rfl (j := j) rfl hj) D_last)
    · intro L hc hl hp
      have h15 := closed_no hc (j := 15) rfl ⟨7, .phase⟩ (by simp) rfl hl
      cases h12 : L 12 with
      | false =>
        have e1 : olg L = ol2 := by simp only [olg, h12, h15]
        have e2 : olg (add L 7) = ol2 := by simp [olg, add, h12, h15]
        rw [e1, e2]
        exact OpS.ofD rfl (D_load1 tabOk (v := .pointer (some ⟨bx, 0, none⟩)) rfl rfl (fun w' hw => blk_cell hw hg3) D_last)
      | true =>
        have e1 : olg L = ol3 := by simp only [olg, h12, h15]
        have e2 : olg (add L 7) = ol3 := by simp [olg, add, h12, h15]
        rw [e1, e2]
        exact OpS.ofD rfl (D_load1 tabOk (v := .pointer (some ⟨bx, 0, none⟩)) rfl rfl (fun w' hw => blk_cell hw hg3) D_last)
    · exact fun L hc hl hp => OpS.ofD rfl (D_pure tabOk rfl D_last)
    · exact fun L hc hl hp => OpS.ofD rfl (D_pure tabOk rfl D_last)
    · exact fun L hc hl hp => OpS.ofD rfl (D_pure tabOk rfl D_last)
    · exact fun L hc hl hp => OpS.ofD rfl (D_pure tabOk rfl D_last)
    · intro L hc hl hp
      have h15 := closed_no hc (j := 15) rfl ⟨12, .phase⟩ (by simp) rfl hl
      have e1 : olg L = ol2 := by simp only [olg, hl, h15]
      have e2 : olg (add L 12) = ol3 := by simp [olg, add, h15]
      rw [e1, e2]
      exact OpS.store tabOk 2 rfl rfl (by intro x hx; rw [List.mem_singleton] at hx; subst hx; rfl) rfl rfl rfl
    · exact fun L hc hl hp => OpS.ofD rfl (D_pure tabOk rfl D_last)
    · exact fun L hc hl hp => OpS.ofD rfl (D_pure tabOk rfl D_last)
    · intro L hc hl hp
      have h12 : L 12 = true := hp ⟨12, .phase⟩ (by simp) rfl
      have e1 : olg L = ol3 := by simp only [olg, h12, hl]
      have e2 : olg (add L 15) = ol4 := by simp [olg, add]
      rw [e1, e2]
      exact OpS.store tabOk 1 rfl rfl (by intro x hx; rw [List.mem_singleton] at hx; subst hx; rfl) rfl rfl rfl
  exact ret0n rfl (fun w' hw => ⟨rfl, hw⟩)
set_option maxHeartbeats 2000000 in
theorem aswap_eq (g n c i j bx : Nat) (cs : List Value) (idx atx plx : Int) (w : World) (hst : Hp w w [.blk g (.cells ⟨cs⟩ 126 (0, 0)) true, .blk bx (.cells ⟨[.int .u64 idx, .int .i64 atx, .int .i64 plx]⟩ 134 (0, 0)) true]) (hi : i < n) (hj : j < n) (hn : n ≤ cs.length) (hu : cs[i]? = some (.pointer (some ⟨bx, 0, none⟩))) (hv : cs[j]? = some (.pointer (some ⟨bx, 0, none⟩))) (hij : i = j) :
    Calls Try.prog 120 #[.slice (some ⟨g, 0, none⟩) n c, .int .i64 (i : Int), .int .i64 (j : Int)] w fun e w' => e = .returned (.tuple #[]) ∧ Hp w w' [.blk g (.cells ⟨(cs.set i (.pointer (some ⟨bx, 0, none⟩))).set j (.pointer (some ⟨bx, 0, none⟩))⟩ 126 (0, 0)) true, .blk bx (.cells ⟨[.int .u64 idx, .int .i64 atx, .int .i64 (j : Int)]⟩ 134 (0, 0)) true] := by
  have hg2 : ((cs.set i (.pointer (some ⟨bx, 0, none⟩))).set j (.pointer (some ⟨bx, 0, none⟩)))[i]? = some (.pointer (some ⟨bx, 0, none⟩)) := by
    rw [List.getElem?_set]
    by_cases h : j = i
    · rw [if_pos h, if_pos (by rw [List.length_set]; omega)]
    · rw [if_neg h, List.getElem?_set_self (by omega)]
  have hg3 : ((cs.set i (.pointer (some ⟨bx, 0, none⟩))).set j (.pointer (some ⟨bx, 0, none⟩)))[j]? = some (.pointer (some ⟨bx, 0, none⟩)) := List.getElem?_set_self (by rw [List.length_set]; omega)
  refine enter3 Try.func120 rfl rfl hst ?_
  repeat (first | refine T_seq ?_)
  let ol0 : OL := [.blk g (.cells ⟨cs⟩ 126 (0, 0)) true, .blk bx (.cells ⟨[.int .u64 idx, .int .i64 atx, .int .i64 plx]⟩ 134 (0, 0)) true]
  let ol1 : OL := [.blk g (.cells ⟨cs.set i (.pointer (some ⟨bx, 0, none⟩))⟩ 126 (0, 0)) true, .blk bx (.cells ⟨[.int .u64 idx, .int .i64 atx, .int .i64 plx]⟩ 134 (0, 0)) true]
  let ol2 : OL := [.blk g (.cells ⟨(cs.set i (.pointer (some ⟨bx, 0, none⟩))).set j (.pointer (some ⟨bx, 0, none⟩))⟩ 126 (0, 0)) true, .blk bx (.cells ⟨[.int .u64 idx, .int .i64 atx, .int .i64 plx]⟩ 134 (0, 0)) true]
  let olf : (Nat → Bool) → OL := fun L => match L 15 with
    | true => ol2
    | false => match L 13 with
      | true => ol1
      | false => ol0
  refine T_drawS (by kernel_rfl) (by kernel_rfl) [.slice (some ⟨g, 0, none⟩) n c, .int .i64 (i : Int), .slice (some ⟨g, 0, none⟩) n c, .int .i64 (j : Int), .slice (some ⟨g, 0, none⟩) n c, .int .i64 (j : Int), .pointer (some ⟨g, 0 + j, none⟩), .pointer (some ⟨bx, 0, none⟩), .slice (some ⟨g, 0, none⟩) n c, .int .i64 (i : Int), .pointer (some ⟨g, 0 + i, none⟩), .pointer (some ⟨bx, 0, none⟩), .pointer (some ⟨g, 0 + i, none⟩), undef, .pointer (some ⟨g, 0 + j, none⟩), undef] rfl olf rfl ?_ (l' := [(0, .slice (some ⟨g, 0, none⟩) n c), (1, .int .i64 (i : Int)), (2, .int .i64 (j : Int))]) (ol' := ol2) (fun L h => by simp only [olf, h 15 (by decide)]) (by repeat (first | exact SubD.nil | refine SubD.cons rfl ?_)) ?_
  · refine ⟨?_, ?_, ?_, ?_, ?_, ?_, ?_, ?_, ?_, ?_, ?_, ?_, ?_, ?_, ?_, ?_, trivial⟩
    · exact fun L hc hl hp => OpS.ofD rfl (D_pure tabOk rfl D_last)
    · exact fun L hc hl hp => OpS.ofD rfl (D_pure tabOk rfl D_last)
    · exact fun L hc hl hp => OpS.ofD rfl (D_pure tabOk rfl D_last)
    · exact fun L hc hl hp => OpS.ofD rfl (D_pure tabOk rfl D_last)
    · exact fun L hc hl hp => OpS.ofD rfl (D_pure tabOk rfl D_last)
    · exact fun L hc hl hp => OpS.ofD rfl (D_pure tabOk rfl D_last)
    · exact fun L hc hl hp => OpS.ofD rfl (D_q (Q_idx1 tabOk rfl rfl rfl rfl rfl rfl rfl (j := j) rfl hj) D_last)
    · intro L hc hl hp
      have h13 := closed_no hc (j := 13) rfl ⟨7, .data⟩ (by simp) rfl hl
      have h15 := closed_no hc (j := 15) rfl ⟨13, .phase⟩ (by simp) rfl h13
      have e1 : olf L = ol0 := by simp only [olf, h13, h15]
      have e2 : olf (add L 7) = ol0 := by simp [olf, add, h13, h15]
      rw [e1, e2]
      exact OpS.ofD rfl (D_load1 tabOk (v := .pointer (some ⟨bx, 0, none⟩)) rfl rfl (fun w' hw => blk_cell hw hv) D_last)
    · exact fun L hc hl hp => OpS.ofD rfl (D_pure tabOk rfl D_last)
    · exact fun L hc hl hp => OpS.ofD rfl (D_pure tabOk rfl D_last)
    · exact fun L hc hl hp => OpS.ofD rfl (D_q (Q_idx1 tabOk rfl rfl rfl rfl rfl rfl rfl (j := i) rfl hi) D_last)
    · intro L hc hl hp
      have h13 := closed_no hc (j := 13) rfl ⟨11, .phase⟩ (by simp) rfl hl
      have h15 := closed_no hc (j := 15) rfl ⟨13, .phase⟩ (by simp) rfl h13
      have e1 : olf L = ol0 := by simp only [olf, h13, h15]
      have e2 : olf (add L 11) = ol0 := by simp [olf, add, h13, h15]
      rw [e1, e2]
      exact OpS.ofD rfl (D_load1 tabOk (v := .pointer (some ⟨bx, 0, none⟩)) rfl rfl (fun w' hw => blk_cell hw hu) D_last)
    · exact fun L hc hl hp => OpS.ofD rfl (D_q (Q_idx1 tabOk rfl rfl rfl rfl rfl rfl rfl (j := i) rfl hi) D_last)
    · intro L hc hl hp
      have h15 := closed_no hc (j := 15) rfl ⟨13, .phase⟩ (by simp) rfl hl
      have e1 : olf L = ol0 := by simp only [olf, hl, h15]
      have e2 : olf (add L 13) = ol1 := by simp [olf, add, h15]
      rw [e1, e2]
      exact OpS.store tabOk 0 rfl rfl (by intro x hx; rw [List.mem_singleton] at hx; subst hx; rfl) rfl (by rw [Nat.zero_add]; exact setMany_one (by omega)) rfl
    · exact fun L hc hl hp => OpS.ofD rfl (D_q (Q_idx1 tabOk rfl rfl rfl rfl rfl rfl rfl (j := j) rfl hj) D_last)
    · intro L hc hl hp
      have h13 : L 13 = true := hp ⟨13, .phase⟩ (by simp) rfl
      have e1 : olf L = ol1 := by simp only [olf, h13, hl]
      have e2 : olf (add L 15) = ol2 := by simp [olf, add]
      rw [e1, e2]
      exact OpS.store tabOk 0 rfl rfl (by intro x hx; rw [List.mem_singleton] at hx; subst hx; rfl) rfl (by rw [Nat.zero_add]; exact setMany_one (by rw [List.length_set]; omega)) rfl
  clear olf ol1
  let ol3 : OL := [.blk g (.cells ⟨(cs.set i (.pointer (some ⟨bx, 0, none⟩))).set j (.pointer (some ⟨bx, 0, none⟩))⟩ 126 (0, 0)) true, .blk bx (.cells ⟨[.int .u64 idx, .int .i64 atx, .int .i64 (i : Int)]⟩ 134 (0, 0)) true]
  let ol4 : OL := [.blk g (.cells ⟨(cs.set i (.pointer (some ⟨bx, 0, none⟩))).set j (.pointer (some ⟨bx, 0, none⟩))⟩ 126 (0, 0)) true, .blk bx (.cells ⟨[.int .u64 idx, .int .i64 atx, .int .i64 (j : Int)]⟩ 134 (0, 0)) true]
  let olg : (Nat → Bool) → OL := fun L => match L 15 with
    | true => ol4
    | false => match L 12 with
      | true => ol3
      | false => ol2
  refine T_asThen ?_
  refine T_drawS (by kernel_rfl) (by kernel_rfl) [.slice (some ⟨g, 0, none⟩) n c, .int .i64 (i : Int), .pointer (some ⟨g, 0 + i, none⟩), .pointer (some ⟨bx, 0, none⟩), .slice (some ⟨g, 0, none⟩) n c, .int .i64 (j : Int), .pointer (some ⟨g, 0 + j, none⟩), .pointer (some ⟨bx, 0, none⟩), .int .i64 (i : Int), .int .i64 (j : Int), .pointer (some ⟨bx, 0, none⟩), .pointer (some ⟨bx, 0 + 2, none⟩), undef, .pointer (some ⟨bx, 0, none⟩), .pointer (some ⟨bx, 0 + 2, none⟩), undef] rfl olg rfl ?_ (l' := []) (ol' := ol4) (fun L h => by simp only [olg, h 15 (by decide)]) (by repeat (first | exact SubD.nil)) ?_
  · refine ⟨?_, ?_, ?_, ?_, ?_, ?_, ?_, ?_, ?_, ?_, ?_, ?_, ?_, ?_, ?_, ?_, trivial⟩
    · exact fun L hc hl hp => OpS.ofD rfl (D_pure tabOk rfl D_last)
    · exact fun L hc hl hp => OpS.ofD rfl (D_pure tabOk rfl D_last)
    · exact fun L hc hl hp => OpS.ofD rfl (D_q (Q_idx1 tabOk rfl rfl rfl rfl rfl rfl rfl (j := i) rfl hi) D_last)
    · intro L hc hl hp
      have h12 := closed_no hc (j := 12) rfl ⟨3, .phase⟩ (by simp) rfl hl
      have h15 := closed_no hc (j := 15) rfl ⟨12, .phase⟩ (by simp) rfl h12
      have e1 : olg L = ol2 := by simp only [olg, h12, h15]
      have e2 : olg (add L 3) = ol2 := by simp [olg, add, h12, h15]
      rw [e1, e2]
      exact OpS.ofD rfl (D_load1 tabOk (v := .pointer (some ⟨bx, 0, none⟩)) rfl rfl (fun w' hw => blk_cell hw hg2) D_last)
    · exact fun L hc hl hp => OpS.ofD rfl (D_pure tabOk rfl D_last)
    · exact fun L hc hl hp => OpS.ofD rfl (D_pure tabOk rfl D_last)
    · exact fun L hc hl hp => OpS.ofD rfl (D_q (Q_idx1 tabOk rfl rfl rfl rfl rfl rfl rfl (j := j) rfl hj) D_last)
    · intro L hc hl hp
      have h15 := closed_no hc (j := 15) rfl ⟨7, .phase⟩ (by simp) rfl hl
      cases h12 : L 12 with
      | false =>
        have e1 : olg L = ol2 := by simp only [olg, h12, h15]
        have e2 : olg (add L 7) = ol2 := by simp [olg, add, h12, h15]
        rw [e1, e2]
        exact OpS.ofD rfl (D_load1 tabOk (v := .pointer (some ⟨bx, 0, none⟩)) rfl rfl (fun w' hw => blk_cell hw hg3) D_last)
      | true =>
        have e1 : olg L = ol3 := by simp only [olg, h12, h15]
        have e2 : olg (add L 7) = ol3 := by simp [olg, add, h12, h15]
        rw [e1, e2]
        exact OpS.ofD rfl (D_load1 tabOk (v := .pointer (some ⟨bx, 0, none⟩)) rfl rfl (fun w' hw => blk_cell hw hg3) D_last)
    · exact fun L hc hl hp => OpS.ofD rfl (D_pure tabOk rfl D_last)
    · exact fun L hc hl hp => OpS.ofD rfl (D_pure tabOk rfl D_last)
    · exact fun L hc hl hp => OpS.ofD rfl (D_pure tabOk rfl D_last)
    · exact fun L hc hl hp => OpS.ofD rfl (D_pure tabOk rfl D_last)
    · intro L hc hl hp
      have h15 := closed_no hc (j := 15) rfl ⟨12, .phase⟩ (by simp) rfl hl
      have e1 : olg L = ol2 := by simp only [olg, hl, h15]
      have e2 : olg (add L 12) = ol3 := by simp [olg, add, h15]
      rw [e1, e2]
      exact OpS.store tabOk 1 rfl rfl (by intro x hx; rw [List.mem_singleton] at hx; subst hx; rfl) rfl rfl rfl
    · exact fun L hc hl hp => OpS.ofD rfl (D_pure tabOk rfl D_last)
    · exact fun L hc hl hp => OpS.ofD rfl (D_pure tabOk rfl D_last)
    · intro L hc hl hp
      have h12 : L 12 = true := hp ⟨12, .phase⟩ (by simp) rfl
      have e1 : olg L = ol3 := by simp only [olg, h12, hl]
      have e2 : olg (add L 15) = ol4 := by simp [olg, add]
      rw [e1, e2]
      exact OpS.store tabOk 1 rfl rfl (by intro x hx; rw [List.mem_singleton] at hx; subst hx; rfl) rfl rfl rfl
  exact ret0n rfl (fun w' hw => ⟨rfl, hw⟩)

/-- somebody's entry: its block, whose, when -/
structure En where
  b : Nat
  id : Int
  tm : Int
abbrev enO (x : En) (i : Nat) : Obj := .cells ⟨[.int .u64 x.id, .int .i64 x.tm, .int .i64 (i : Int)]⟩ 134 (0, 0)
abbrev enPt (x : En) : Value := .pointer (some ⟨x.b, 0, none⟩)
def enR (x y : En) : Bool := decide (x.tm < y.tm ∨ (x.tm = y.tm ∧ x.id < y.id))
theorem enR_sw : SW enR := by
  constructor
  · intro a b h
    simp only [enR, decide_eq_true_eq, decide_eq_false_iff_not] at h ⊢
    omega
  · intro a b c h1 h2
    simp only [enR, decide_eq_false_iff_not] at h1 h2 ⊢
    omega
/-- the alarm's block, its row, its entries -/
def alV (base ab mb : Nat) (s : List En) : Vp :=
  ⟨fun w F v => w.heap[ab]? = some (.cells ⟨[v, .map (some mb)]⟩ 132 (0, 0)) ∧ F ab ∧ w.ownsRow base 126 1 v s.length (s.map enPt) ∧ (∀ k, v.ownBlock = some k → F k) ∧ (∀ i x, s[i]? = some x → w.heap[x.b]? = some (enO x i) ∧ F x.b) ∧ s.length ≤ 1073741824,
   fun {w w' A B v} ⟨h1, h2, h3, h4, h5, h6⟩ hk => ⟨((hk ab h2 (heap_lt h1)).1).trans h1, (hk ab h2 (heap_lt h1)).2, own_keep h3 (fun k hv => (hk k (h4 k hv) (World.ownsRow.lt h3 k hv).2).1), fun k hv => (hk k (h4 k hv) (World.ownsRow.lt h3 k hv).2).2, fun i x hx => ⟨((hk x.b (h5 i x hx).2 (heap_lt (h5 i x hx).1)).1).trans (h5 i x hx).1, (hk x.b (h5 i x hx).2 (heap_lt (h5 i x hx).1)).2⟩, h6⟩⟩
def alP (base ab mb : Nat) (s : List En) : Vp :=
  ⟨fun w F _ => ∃ v, (alV base ab mb s).at_ w F v, fun ⟨v, h⟩ hk => ⟨v, (alV base ab mb s).keep h hk⟩⟩
theorem Hp.startR {w : World} {p : Vp} {v : Value} {F : Nat → Prop} (hv : p.at_ w F v) : ∃ F' : Nat → Prop, Hp w w [.rep (fun w => p.at_ w F' v) F' false] :=
  ⟨fun k => F k ∧ k < w.heap.size, (Hp.refl w).more ⟨p.keep hv fun k hk hlt => ⟨rfl, hk, hlt⟩, Vp.loc, fun k hk => hk.2⟩ fun e he => (by cases he)⟩
theorem alV_form {base ab mb : Nat} {s : List En} {w : World} {F : Nat → Prop} {v : Value} (h : (alV base ab mb s).at_ w F v) : ∃ a c, v = .slice a s.length c ∧ s.length ≤ c := by
  obtain ⟨a, c, h1, h2, _⟩ := form_of_own h.2.2.1
  exact ⟨a, c, h1, h2⟩
theorem alV_addr {base ab mb : Nat} {s : List En} {w : World} {F : Nat → Prop} {v : Value} (h : (alV base ab mb s).at_ w F v) (h0 : 0 < s.length) : ∃ g c, v = .slice (some ⟨g, 0, none⟩) s.length c := by
  obtain ⟨_, h2⟩ := h.2.2.1
  rcases h2 with ⟨_, h3⟩ | ⟨g, cap, cur, h3, _⟩
  · omega
  · exact ⟨g, cap, h3⟩
theorem alV_cell {base ab mb : Nat} {s : List En} {w : World} {F : Nat → Prop} {g c n : Nat} (h : (alV base ab mb s).at_ w F (.slice (some ⟨g, 0, none⟩) n c)) {i : Nat} {x : En} (hx : s[i]? = some x) : w.cell? ⟨g, 0 + i, none⟩ = some (enPt x) := by
  obtain ⟨a, c', e, _⟩ := alV_form h
  cases e
  rw [Nat.zero_add]
  have := (List.getElem?_eq_some_iff.1 hx).1
  exact own_cell h.2.2.1 (by omega) (by rw [List.getElem?_map, hx]; rfl)
theorem alV_en {base ab mb : Nat} {s : List En} {w : World} {F : Nat → Prop} {v : Value} (h : (alV base ab mb s).at_ w F v) {i : Nat} {x : En} (hx : s[i]? = some x) {j : Nat} {u : Value} (hu : [.int .u64 x.id, .int .i64 x.tm, .int .i64 (i : Int)][j]? = some u) : w.cell? ⟨x.b, 0 + j, none⟩ = some u :=
  (Sl.of_blk (n := 3) (sz := 1) (off := 0) (h.2.2.2.2.1 i x hx).1 rfl (fun j u hu => by rw [Nat.zero_add]; exact hu)).at_ (by decide) hu
theorem alen_ok (a : Option Addr) (n c : Nat) (w : World) : Calls Try.prog 118 #[.slice a n c] w fun e w' => e = .returned (.int .i64 (n : Int)) ∧ Below w.heap.size w w' := by
  refine enter1 Try.func118 rfl rfl (Hp.refl w) ?_
  repeat (first | refine T_seq ?_ | refine T_region ?_ | refine S_nil ?_ | refine T_ret ?_ | refine S_pure tabOk rfl ?_)
  exact ret1 rfl rfl (fun w' hw => ⟨rfl, hw.below (by repeat (first | exact new_nil))⟩)
set_option maxHeartbeats 1000000 in
theorem aless_ok (base ab mb : Nat) (s : List En) (F0 : Nat → Prop) (v : Value) (i j : Nat) (w : World) (h : (alV base ab mb s).at_ w F0 v) (hi : i < s.length) (hj : j < s.length) :
    Calls Try.prog 119 #[v, .int .i64 (i : Int), .int .i64 (j : Int)] w fun e w' => e = .returned (.bool (ltL enR s i j)) ∧ Below w.heap.size w w' := by
  obtain ⟨F, hst⟩ := Hp.startR h
  obtain ⟨g, c, rfl⟩ := alV_addr h (by omega)
  obtain ⟨x, hx⟩ : ∃ x, s[i]? = some x := ⟨_, List.getElem?_eq_getElem hi⟩
  obtain ⟨y, hy⟩ : ∃ y, s[j]? = some y := ⟨_, List.getElem?_eq_getElem hj⟩
  have hl : ltL enR s i j = enR x y := by unfold ltL; rw [hx, hy]
  rw [hl]
  refine enter3 Try.func119 rfl rfl hst ?_
  repeat (first | refine T_draw (by kernel_rfl) (by kernel_rfl) ?_ | refine D_pure tabOk rfl ?_ | refine T_seq ?_ | refine T_region ?_ | refine S_nil ?_ | refine S_pure tabOk rfl ?_)
  refine D_q (Q_idx1 tabOk rfl rfl rfl rfl rfl rfl rfl (j := i) rfl hi) ?_
  skip
  refine D_load1 tabOk (v := enPt x) rfl rfl (fun w' hw => alV_cell (hw.own _ (getE_mem (i := 0) rfl)).1 hx) ?_
  repeat (first | refine D_pure tabOk rfl ?_)
  refine D_load1 tabOk (v := .int .i64 x.tm) rfl rfl (fun w' hw => alV_en (hw.own _ (getE_mem (i := 0) rfl)).1 hx (j := 1) rfl) ?_
  repeat (first | refine D_pure tabOk rfl ?_)
  refine D_q (Q_idx1 tabOk rfl rfl rfl rfl rfl rfl rfl (j := j) rfl hj) ?_
  skip
  refine D_load1 tabOk (v := enPt y) rfl rfl (fun w' hw => alV_cell (hw.own _ (getE_mem (i := 0) rfl)).1 hy) ?_
  repeat (first | refine D_pure tabOk rfl ?_)
  refine D_load1 tabOk (v := .int .i64 y.tm) rfl rfl (fun w' hw => alV_en (hw.own _ (getE_mem (i := 0) rfl)).1 hy (j := 1) rfl) ?_
  repeat (first | refine D_all rfl ?_ | refine D_pure tabOk rfl ?_)
  refine T_cond_dec rfl (fun h1 => ?_) (fun h1 => ?_)
  · repeat (first | refine T_draw (by kernel_rfl) (by kernel_rfl) ?_ | refine D_pure tabOk rfl ?_ | refine T_seq ?_)
    refine D_q (Q_idx1 tabOk rfl rfl rfl rfl rfl rfl rfl (j := i) rfl hi) ?_
    skip
    refine D_load1 tabOk (v := enPt x) rfl rfl (fun w' hw => alV_cell (hw.own _ (getE_mem (i := 0) rfl)).1 hx) ?_
    repeat (first | refine D_pure tabOk rfl ?_)
    refine D_load1 tabOk (v := .int .i64 x.tm) rfl rfl (fun w' hw => alV_en (hw.own _ (getE_mem (i := 0) rfl)).1 hx (j := 1) rfl) ?_
    repeat (first | refine D_pure tabOk rfl ?_)
    refine D_q (Q_idx1 tabOk rfl rfl rfl rfl rfl rfl rfl (j := j) rfl hj) ?_
    skip
    refine D_load1 tabOk (v := enPt y) rfl rfl (fun w' hw => alV_cell (hw.own _ (getE_mem (i := 0) rfl)).1 hy) ?_
    repeat (first | refine D_pure tabOk rfl ?_)
    refine D_load1 tabOk (v := .int .i64 y.tm) rfl rfl (fun w' hw => alV_en (hw.own _ (getE_mem (i := 0) rfl)).1 hy (j := 1) rfl) ?_
    repeat (first | refine D_all rfl ?_ | refine D_pure tabOk rfl ?_ | refine pthen_ret ?_ | refine T_ret ?_)
    exact ret1 rfl rfl (fun w' hw => ⟨congrArg (fun b => Ending.returned (Value.bool b)) (by unfold enR; rw [decide_eq_decide]; omega), hw.below (by repeat (first | exact new_nil | refine new_ro ?_))⟩)
  · repeat (first | refine T_draw (by kernel_rfl) (by kernel_rfl) ?_ | refine D_pure tabOk rfl ?_ | refine T_seq ?_ | refine pthen_normal ?_ | refine T_skip ?_)
    refine D_q (Q_idx1 tabOk rfl rfl rfl rfl rfl rfl rfl (j := i) rfl hi) ?_
    skip
    refine D_load1 tabOk (v := enPt x) rfl rfl (fun w' hw => alV_cell (hw.own _ (getE_mem (i := 0) rfl)).1 hx) ?_
    repeat (first | refine D_pure tabOk rfl ?_)
    refine D_load1 tabOk (v := .int .u64 x.id) rfl rfl (fun w' hw => alV_en (hw.own _ (getE_mem (i := 0) rfl)).1 hx (j := 0) rfl) ?_
    repeat (first | refine D_pure tabOk rfl ?_)
    refine D_q (Q_idx1 tabOk rfl rfl rfl rfl rfl rfl rfl (j := j) rfl hj) ?_
    skip
    refine D_load1 tabOk (v := enPt y) rfl rfl (fun w' hw => alV_cell (hw.own _ (getE_mem (i := 0) rfl)).1 hy) ?_
    repeat (first | refine D_pure tabOk rfl ?_)
    refine D_load1 tabOk (v := .int .u64 y.id) rfl rfl (fun w' hw => alV_en (hw.own _ (getE_mem (i := 0) rfl)).1 hy (j := 0) rfl) ?_
    repeat (first | refine D_all rfl ?_ | refine D_pure tabOk rfl ?_ | refine T_ret ?_)
    exact ret1 rfl rfl (fun w' hw => ⟨congrArg (fun b => Ending.returned (Value.bool b)) (by unfold enR; rw [decide_eq_decide]; omega), hw.below (by repeat (first | exact new_nil | refine new_ro ?_))⟩)
/-- Blocks that are known, from the beginning on. -/
theorem Hp.startL {w : World} : ∀ {L : List (Nat × Obj)}, (∀ p ∈ L, w.heap[p.1]? = some p.2) → (L.map Prod.fst).Nodup → Hp w w (L.map fun p => HE.blk p.1 p.2 true)
  | [], _, _ => Hp.refl w
  | p :: L, h, hn => by
    rw [List.map_cons, List.nodup_cons] at hn
    refine (Hp.startL (fun q hq => h q (List.mem_cons_of_mem _ hq)) hn.2).more (x := .blk p.1 p.2 true) (h p List.mem_cons_self) fun e he _ k hk hk2 => ?_
    obtain ⟨q, hq, rfl⟩ := List.mem_map.1 he
    have h1 : p.1 = k := Option.some.inj hk
    have h2 : q.1 = k := Option.some.inj hk2
    exact hn.1 (by rw [h1, ← h2]; exact List.mem_map_of_mem hq)
theorem Hp.widenL {w w' : World} {A : OL} {Ψ : World → Prop} {F : Nat → Prop} (h : Hp w w' A) (hF : ∀ e ∈ A, ∀ k, e.has k → F k) (hΨ : Ψ w') (hl : Loc Ψ F) (hlt : ∀ k, F k → k < w.heap.size) : Hp w w' [.rep Ψ F true] :=
  ⟨h.os, h.tape, h.output, h.size, fun k hk he => h.old k hk fun e hm hx hh => he _ List.mem_cons_self rfl (hF e hm k hh),
    fun e hm => by
      rw [List.mem_singleton] at hm
      subst hm
      exact ⟨hΨ, hl, fun k hk => Nat.lt_of_lt_of_le (hlt k hk) h.size⟩,
    List.pairwise_singleton _ _⟩
abbrev alI (ab : Nat) : Value := .iface 136 (.pointer (some ⟨ab, 0, none⟩))
theorem alV_load {base ab mb : Nat} {s : List En} {w : World} {F : Nat → Prop} {v : Value} (h : (alV base ab mb s).at_ w F v) : (loadVar 129 ⟨ab, 0, none⟩).run Try.prog w = .ok v w :=
  loadVar_one tabOk (t := 129) rfl rfl (by
    have h1 := Sl.of_blk (n := 2) (sz := 1) (off := 0) (xs := [v, .map (some mb)]) h.1 rfl (fun j u hu => by rw [Nat.zero_add]; exact hu)
    have := h1.at_ (j := 0) (by decide) rfl
    rwa [Nat.zero_add] at this)
theorem alM_len {base ab mb : Nat} {s : List En} {w : World} {F : Nat → Prop} (h : (alP base ab mb s).at_ w F (.bool true)) : Meth Try.prog (alI ab) "Len" [] w fun e w' => e = .returned (.int .i64 (s.length : Int)) ∧ Below w.heap.size w w' := by
  obtain ⟨v, hv⟩ := h
  obtain ⟨a, c, rfl, _⟩ := alV_form hv
  exact meth_val' (f := 118) (by kernel_rfl) (by kernel_rfl) Try.call118 (alV_load hv) (alen_ok a s.length c w)
theorem alM_less {base ab mb : Nat} {s : List En} {w : World} {F : Nat → Prop} {i j : Nat} (h : (alP base ab mb s).at_ w F (.bool true)) (hi : i < s.length) (hj : j < s.length) : Meth Try.prog (alI ab) "Less" [.int .i64 (i : Int), .int .i64 (j : Int)] w fun e w' => e = .returned (.bool (ltL enR s i j)) ∧ Below w.heap.size w w' := by
  obtain ⟨v, hv⟩ := h
  exact meth_val' (f := 119) (by kernel_rfl) (by kernel_rfl) Try.call119 (alV_load hv) (aless_ok base ab mb s F v i j w hv hi hj)
set_option maxHeartbeats 1000000 in
theorem alM_swap {base ab mb : Nat} {s : List En} {w : World} {F : Nat → Prop} {i j : Nat} (h : (alP base ab mb s).at_ w F (.bool true)) (hF : ∀ k, F k → k < w.heap.size) (hi : i < s.length) (hj : j < s.length) :
    Meth Try.prog (alI ab) "Swap" [.int .i64 (i : Int), .int .i64 (j : Int)] w fun e w' => e = .returned (.tuple #[]) ∧ Hp w w' [.rep (fun w => (alP base ab mb (swL s i j)).at_ w F (.bool true)) F true] := by
  obtain ⟨v, hv⟩ := h
  obtain ⟨g, c, rfl⟩ := alV_addr hv (by omega)
  obtain ⟨x, hx⟩ : ∃ x, s[i]? = some x := ⟨_, List.getElem?_eq_getElem hi⟩
  obtain ⟨y, hy⟩ : ∃ y, s[j]? = some y := ⟨_, List.getElem?_eq_getElem hj⟩
  have hs : swL s i j = (s.set i y).set j x := by unfold swL; rw [hx, hy]
  have hv0 := hv
  obtain ⟨h1, h2, ⟨h3, h4⟩, h5, h6, h7⟩ := hv
  rcases h4 with ⟨h4, _⟩ | ⟨g', cap, cur, h4, hb, hg, hn, hm, hz, ht⟩
  · cases h4
  · cases h4
    have hcur : cur = ⟨cur.toList⟩ := rfl
    rw [hcur] at hg
    have hlen : cur.toList.length = c := by rw [Array.length_toList, hz, Nat.mul_one]
    have hat : ∀ (k : Nat) (z : En), s[k]? = some z → cur.toList[k]? = some (enPt z) := fun k z hk => by
      have h8 : k < s.length := (List.getElem?_eq_some_iff.1 hk).1
      have h9 : (cur.toList.take (s.length * 1))[k]? = (s.map enPt)[k]? := by rw [ht]
      rw [List.getElem?_take_of_lt (by omega), List.getElem?_map, hk] at h9
      exact h9
    have hgx : ∀ (k : Nat) (z : En), s[k]? = some z → z.b ≠ g := fun k z hk hh => by
      have h9 := (h6 k z hk).1
      rw [hh, hg] at h9
      exact absurd (Obj.cells.inj (Option.some.inj h9)).2.1 (by decide)
    have hga : ab ≠ g := fun hh => by
      rw [hh, hg] at h1
      exact absurd (Obj.cells.inj (Option.some.inj h1)).2.1 (by decide)
    have hax : ∀ (k : Nat) (z : En), s[k]? = some z → z.b ≠ ab := fun k z hk hh => by
      have h9 := (h6 k z hk).1
      rw [hh, h1] at h9
      exact absurd (Obj.cells.inj (Option.some.inj h9)).2.1 (by decide)
    have hpl : ∀ (k : Nat) (z : En) (k' : Nat) (z' : En), s[k]? = some z → s[k']? = some z' → z.b = z'.b → k = k' := fun k z k' z' hk hk' hh => by
      have h9 := (h6 k z hk).1
      rw [hh, (h6 k' z' hk').1] at h9
      have h10 := (Obj.cells.inj (Option.some.inj h9)).1
      simp only [Array.mk.injEq, List.cons.injEq, Value.int.injEq, true_and, and_true] at h10
      omega
    refine meth_val' (f := 120) (by kernel_rfl) (by kernel_rfl) Try.call120 (alV_load hv0) ?_
    have hfin : ∀ (w' : World) (A : OL), Hp w w' A → (∀ e ∈ A, ∀ k, e.has k → k = g ∨ k = x.b ∨ k = y.b) → w'.heap[g]? = some (.cells ⟨(cur.toList.set i (enPt y)).set j (enPt x)⟩ 126 (0, 0)) → w'.heap[x.b]? = some (enO x j) → w'.heap[y.b]? = some (enO y i) → Hp w w' [.rep (fun w => (alP base ab mb (swL s i j)).at_ w F (.bool true)) F true] := fun w' A hA hAk k1 k2 k3 => by
      have hold : ∀ k o, w.heap[k]? = some o → k ≠ g → k ≠ x.b → k ≠ y.b → w'.heap[k]? = some o := fun k o ho hk1 hk2 hk3 => (hA.old k (heap_lt ho) fun e he _ hh => by
        rcases hAk e he k hh with h | h | h
        · exact hk1 h
        · exact hk2 h
        · exact hk3 h).trans ho
      refine hA.widenL (fun e he k hk => ?_) ⟨.slice (some ⟨g, 0, none⟩) s.length c, hold _ _ h1 hga (fun h => hax i x hx h.symm) (fun h => hax j y hy h.symm), h2, ?_, h5, fun k z hk => ?_, ?_⟩ (Vp.loc (p := alP base ab mb (swL s i j))) hF
      · rcases hAk e he k hk with h | h | h
        · rw [h]; exact h5 g rfl
        · rw [h]; exact (h6 i x hx).2
        · rw [h]; exact (h6 j y hy).2
      · rw [swL_len]
        refine ⟨by rw [List.length_map, swL_len, Nat.mul_one], .inr ⟨g, c, _, rfl, hb, k1, hn, hm, ?_, ?_⟩⟩
        · show (List.set _ _ _).length = _
          rw [List.length_set, List.length_set, hlen, Nat.mul_one]
        · show List.take _ (List.set _ _ _) = _
          rw [hs, List.take_set, List.take_set, ht, List.map_set, List.map_set]
      · have hkl : k < s.length := by have := (List.getElem?_eq_some_iff.1 hk).1; rwa [swL_len] at this
        rw [swL_get hi hj] at hk
        unfold tr at hk
        split at hk
        · rename_i hki
          subst hki
          rw [hy] at hk
          cases hk
          exact ⟨k3, (h6 j y hy).2⟩
        · split at hk
          · rename_i hki hkj
            subst hkj
            rw [hx] at hk
            cases hk
            exact ⟨k2, (h6 i x hx).2⟩
          · rename_i hki hkj
            exact ⟨hold _ _ (h6 k z hk).1 (hgx k z hk) (fun hh => hki (hpl k z i x hk hx hh)) (fun hh => hkj (hpl k z j y hk hy hh)), (h6 k z hk).2⟩
      · rw [swL_len]; exact h7
    by_cases hij : i = j
    · subst hij
      rw [hx] at hy
      cases hy
      refine (aswap_eq g s.length c i i x.b cur.toList x.id x.tm (i : Int) w (Hp.startL (L := [(g, _), (x.b, _)]) (fun p hp => ?_) ?_) hi hi (by omega) (hat i x hx) (hat i x hx) rfl).mono fun e w' ⟨he, h8⟩ => ⟨he, ?_⟩
      · simp only [List.mem_cons, List.not_mem_nil, or_false] at hp
        rcases hp with rfl | rfl
        · exact hg
        · exact (h6 i x hx).1
      · simp only [List.map_cons, List.map_nil, List.nodup_cons, List.mem_singleton, List.not_mem_nil, not_false_eq_true, List.nodup_nil, and_true]
        exact fun h => hgx i x hx h.symm
      · refine hfin w' _ h8 (fun e he k hk => ?_) (h8.own _ (getE_mem (i := 0) rfl)) (h8.own _ (getE_mem (i := 1) rfl)) (h8.own _ (getE_mem (i := 1) rfl))
        simp only [List.mem_cons, List.not_mem_nil, or_false] at he
        rcases he with rfl | rfl
        · exact .inl (Option.some.inj hk).symm
        · exact .inr (.inl (Option.some.inj hk).symm)
    · have hxy : x.b ≠ y.b := fun hh => hij (hpl i x j y hx hy hh)
      refine (aswap_ne g s.length c i j x.b y.b cur.toList x.id x.tm (i : Int) y.id y.tm (j : Int) w (Hp.startL (L := [(g, _), (x.b, _), (y.b, _)]) (fun p hp => ?_) ?_) hi hj (by omega) (hat i x hx) (hat j y hy)).mono fun e w' ⟨he, h8⟩ => ⟨he, ?_⟩
      · simp only [List.mem_cons, List.not_mem_nil, or_false] at hp
        rcases hp with rfl | rfl | rfl
        · exact hg
        · exact (h6 i x hx).1
        · exact (h6 j y hy).1
      · simp only [List.map_cons, List.map_nil, List.nodup_cons, List.mem_cons, List.mem_singleton, List.not_mem_nil, not_false_eq_true, List.nodup_nil, and_true, not_or, or_false]
        exact ⟨⟨fun h => hgx i x hx h.symm, fun h => hgx j y hy h.symm⟩, hxy⟩
      · refine hfin w' _ h8 (fun e he k hk => ?_) (h8.own _ (getE_mem (i := 0) rfl)) (h8.own _ (getE_mem (i := 1) rfl)) (h8.own _ (getE_mem (i := 2) rfl))
        simp only [List.mem_cons, List.not_mem_nil, or_false] at he
        rcases he with rfl | rfl | rfl
        · exact .inl (Option.some.inj hk).symm
        · exact .inr (.inl (Option.some.inj hk).symm)
        · exact .inr (.inr (Option.some.inj hk).symm)
/-- The alarm's entries are an object. -/
noncomputable def alOb (base ab mb : Nat) : HOb Try.prog (alI ab) (List En) where
  p := alP base ab mb
  len := List.length
  lt := ltL enR
  sw := swL
  lenSw := swL_len
  hle := fun ⟨v, h⟩ => h.2.2.2.2.2
  hlen := alM_len
  hlt := alM_less
  hsw := alM_swap
theorem alOb_ol (base ab mb : Nat) : OL_ (alOb base ab mb) enR := ⟨fun _ => rfl, fun _ _ _ => rfl, fun _ _ _ => rfl⟩

/-- a row of one's own -/
def rowV (base : Nat) (E : TypeId) (sz n : Nat) (xs : List Value) : Vp :=
  ⟨fun w F v => w.ownsRow base E sz v n xs ∧ ∀ k, v.ownBlock = some k → F k,
   fun {w w' A B v} ⟨h1, h2⟩ hk => ⟨own_keep h1 (fun k hv => (hk k (h2 k hv) (World.ownsRow.lt h1 k hv).2).1), fun k hv => (hk k (h2 k hv) (World.ownsRow.lt h1 k hv).2).2⟩⟩
section
variable {P : Program} {tb : Tab} {n : Nat} {w0 : World} {all : Array Oper} {os : List Oper} {o : Oper} {l : FL} {ol : OL} {K : FL → OL → Prop} {Q : Post} {d : Nat} {r : Nat → Option Value}
theorem Q_tassert (ht : TabOk P tb) {x : Operand} {xt t : TypeId} {v : Value} {ti : TI} (hs : opAt? n all r o = some (d, .typeAssert x xt t false)) (hx : ev r x = some (.iface t v)) (hti : tl tb t = some ti)
    (hd : (match ti.desc with | .interface _ => false | _ => true) = true) : QOp P n w0 all r ol o d v :=
  Q_of hs fun ac w hrd hh hop => by
    have h1 := ht.under' hti
    have h2 : (Instr.typeAssert (.iface t v) xt t false).run P w = .ok v w := by
      unfold Instr.typeAssert
      cases hdd : ti.desc <;> rw [hdd] at hd h1 <;> first | (exact Bool.noConfusion (show false = true from hd)) | simp [run_underlying h1]
    unfold execOp
    simp [hop, hrd.ev hx, h2]
/-- append onto a row of an object's: what it was stays the object's. -/
theorem S_appendO (ht : TabOk P tb) (i : Nat) {t e : TypeId} {ty : TypeId} {s x : Operand} {v : Value} {m k c sz : Nat} {A : Option Addr} {xs news : List Value} {ti te : TI} {base : Nat} {F : Nat → Prop}
    (hs : opAt? n all (look l) o = some (d, .call ⟨.builtin .append, #[s, x], #[t, t]⟩)) (hv : ev (look l) s = some v) (hx : ev (look l) x = some (.slice A k c))
    (hi : getE ol i = some (.rep (fun w => (rowV base e sz m xs).at_ w F v) F true)) (hti : tl tb t = some ti) (hd : ti.desc = .slice e) (hte : tl tb e = some te) (hsz : te.size = sz) (hzs : te.zero.cells.size = sz) (hpos : 0 < sz)
    (hr : ∀ w, Hp w0 w ol → Sl w sz A k news) (h1 : ∀ u ∈ news, u.oneCell' = true) (hmax : m + k ≤ maxLen) (hbytes : (m + k) * te.bytes ≤ 140737488355328) (hbase : base ≤ w0.heap.size)
    (kk : ∀ A' c' (F' : Nat → Prop), m + k ≤ c' → c' ≤ maxLen → (∀ k, F k → F' k) → (∀ k, F' k → F k ∨ w0.heap.size ≤ k) → ∃ ol', putE ol i (.rep (fun w => (rowV base e sz (m + k) (xs ++ news)).at_ w F' (.slice A' (m + k) c')) F' true) = some ol' ∧ S P n w0 all os ((d, .slice A' (m + k) c') :: l) ol' K Q) :
    S P n w0 all (o :: os) l ol K Q := by
  obtain ⟨hdst, hlt, hg, hop⟩ := opAt_spec hs
  refine ⟨fun a w hf hh => ?_⟩
  obtain ⟨inf, hinf, hz, hs1, hs2⟩ := (ht e te hte).2
  obtain ⟨⟨hown, hF⟩, _, hFlt⟩ := hh.own _ (getE_mem hi)
  have hu := ht.under' hti
  rw [hd] at hu
  obtain ⟨v', w', hrun, h2, h3, h4⟩ := run_append_row (P := P) w base t o.type e inf te.zero sz te.bytes hu hinf hz (hs1.trans hsz) hs2 hzs hpos v m xs hown A k c news (hr w hh) h1 hmax hbytes (Nat.le_trans hbase hh.size)
  obtain ⟨A', c', rfl, hmc, hcm⟩ := form_of_own h2
  have hnb : ∀ j, (Value.slice A' (m + k) c').ownBlock = some j → F j ∨ j = w.heap.size := fun j h => by
    rcases h4 with h4 | h4
    · exact .inl (hF j (h4.symm.trans h))
    · have : some j = some w.heap.size := h.symm.trans h4
      cases this
      exact .inr rfl
  obtain ⟨ol', hput, kS⟩ := kk A' c' (fun j => F j ∨ (Value.slice A' (m + k) c').ownBlock = some j) hmc hcm (fun j h => .inl h) (fun j h => by
    have hsz := hh.size
    rcases h with h | h
    · exact .inl h
    · rcases hnb j h with h | h
      · exact .inl h
      · exact .inr (by omega))
  refine wpList_run (v := .slice A' (m + k) c') (gd_wanted hf.rd hg) ?_ ?_ (w' := w')
  · unfold execOp
    simp [hop, resolve, invoke, builtin, hf.rd.ev hv, hf.rd.ev hx, hrun]
  · rw [hdst]
    refine kS.out _ _ (hf.put hlt _) ?_
    obtain ⟨pre, post, e1, e2⟩ := putE_eq hi hput
    rw [e1] at hh
    rw [e2]
    refine hh.turn rfl h3.os h3.tape h3.output h3.size (fun j hj hne => h3.block j hj (fun hh => hne (hF j hh.symm))) ⟨⟨h2, fun j hj => .inr hj⟩, Vp.loc, fun j hj => ?_⟩ (fun j hj => ?_) (fun j hj => .inr (.inl hj))
    · rcases hj with h | h
      · exact Nat.lt_of_lt_of_le (hFlt j h) h3.size
      · exact (World.ownsRow.lt h2 j h).2
    · rcases hj with h | h
      · exact .inl h
      · rcases hnb j h with h | h
        · exact .inl h
        · exact .inr (by omega)
/-- Less is known, more is said. -/
theorem Hp.widenM {w w' : World} {A : OL} {Ψ : World → Prop} {F : Nat → Prop} (h : Hp w w' A) (hF : ∀ e ∈ A, ∀ k, e.has k → F k) (hΨ : Ψ w') (hl : Loc Ψ F) (hlt : ∀ k, F k → k < w'.heap.size) : Hp w w' [.rep Ψ F true] :=
  ⟨h.os, h.tape, h.output, h.size, fun k hk he => h.old k hk fun e hm hx hh => he _ List.mem_cons_self rfl (hF e hm k hh),
    fun e hm => by
      rw [List.mem_singleton] at hm
      subst hm
      exact ⟨hΨ, hl, hlt⟩,
    List.pairwise_singleton _ _⟩
end
theorem apop_walk (ab g n c mb : Nat) (xs : List Value) (p : Option Addr) (w : World) (hb : w.heap[ab]? = some (.cells ⟨[.slice (some ⟨g, 0, none⟩) (n + 1) c, .map (some mb)]⟩ 132 (0, 0))) (hr : w.ownsRow 0 126 1 (.slice (some ⟨g, 0, none⟩) (n + 1) c) (n + 1) xs) (hg : g ≠ ab) (hx : xs[n]? = some (.pointer p)) (hn : n ≤ 1073741824) (hnc : n ≤ c) :
    Calls Try.prog 121 #[.pointer (some ⟨ab, 0, none⟩)] w fun e w' => e = .returned (.iface 126 (.pointer p)) ∧ Hp w w' [.blk ab (.cells ⟨[.slice (some ⟨g, 0, none⟩) n c, .map (some mb)]⟩ 132 (0, 0)) true] := by
  obtain ⟨F, hF, hst⟩ := Hp.startV (p := rowV 0 126 1 (n + 1) xs) (A := fun k => k ≠ ab) hb ⟨hr, fun k hk => by
    have : k = g := (Option.some.inj hk).symm
    rw [this]; exact hg⟩ (fun h => h rfl)
  refine enter1 Try.func121 rfl rfl hst ?_
  repeat (first | refine T_seq ?_ | refine T_region ?_ | refine S_nil ?_ | refine S_i64 tabOk rfl (by omega) ?_ | refine S_pure tabOk rfl ?_ | refine S_load tabOk 0 rfl rfl rfl ?_)
  refine S_q (Q_idx1 tabOk rfl rfl rfl rfl rfl rfl rfl (j := n) (by omega) (by omega)) ?_
  refine S_load1 tabOk (v := .pointer p) rfl rfl (fun w' hw => by
    rw [Nat.zero_add]
    exact own_cell (hw.own _ (getE_mem (i := 1) rfl)).1.1 (by omega) hx) ?_
  repeat (first | refine T_seq ?_ | refine T_region ?_ | refine S_nil ?_ | refine S_pure tabOk rfl ?_ | refine S_load tabOk 0 rfl rfl rfl ?_)
  refine S_q (Q_sliceTo tabOk rfl rfl rfl rfl rfl rfl (H := n) (by omega) (by omega)) ?_
  repeat (first | refine T_seq ?_ | refine T_region ?_ | refine S_nil ?_ | refine S_pure tabOk rfl ?_ | refine S_store tabOk 0 rfl rfl rfl rfl rfl rfl ?_)
  refine S_q (Q_mkif tabOk rfl rfl rfl rfl) ?_
  repeat (first | refine S_nil ?_ | refine T_ret ?_ | refine S_pure tabOk rfl ?_)
  exact ret1 rfl rfl (fun w' hw => ⟨rfl, hw.less (by repeat (first | exact Less.nil | refine Less.keep ?_ | refine Less.dropR ?_))⟩)
theorem apush_walk (ab xb m mb : Nat) (id tm pl : Int) (v : Value) (xs : List Value) (F : Nat → Prop) (w : World) (hst : Hp w w [.blk ab (.cells ⟨[v, .map (some mb)]⟩ 132 (0, 0)) true, .blk xb (.cells ⟨[.int .u64 id, .int .i64 tm, .int .i64 pl]⟩ 134 (0, 0)) true, .rep (fun w => (rowV 0 126 1 m xs).at_ w F v) F true]) (hm : m ≤ 1073741823) (hv : ∃ a c, v = .slice a m c ∧ m ≤ c) :
    Calls Try.prog 122 #[.pointer (some ⟨ab, 0, none⟩), .iface 126 (.pointer (some ⟨xb, 0, none⟩))] w fun e w' => e = .returned (.tuple #[]) ∧ ∃ A' c' F', (∀ k, F k → F' k) ∧ (∀ k, F' k → F k ∨ w.heap.size ≤ k) ∧ Hp w w' [.blk ab (.cells ⟨[.slice A' (m + 1) c', .map (some mb)]⟩ 132 (0, 0)) true, .blk xb (.cells ⟨[.int .u64 id, .int .i64 tm, .int .i64 (m : Int)]⟩ 134 (0, 0)) true, .rep (fun w => (rowV 0 126 1 (m + 1) (xs ++ [.pointer (some ⟨xb, 0, none⟩)])).at_ w F' (.slice A' (m + 1) c')) F' true] := by
  obtain ⟨a, c, rfl, hmc⟩ := hv
  refine enter2 Try.func122 rfl rfl hst ?_
  repeat (first | refine T_seq ?_ | refine T_region ?_ | refine S_pure tabOk rfl ?_)
  refine S_q (Q_tassert tabOk rfl rfl rfl rfl) ?_
  repeat (first | refine T_seq ?_ | refine T_region ?_ | refine S_nil ?_ | refine S_pure tabOk rfl ?_ | refine T_region_any ?_ | refine S_load tabOk 0 rfl rfl rfl ?_ | refine S_store tabOk 1 rfl rfl rfl rfl rfl rfl ?_)
  refine S_bslice tabOk rfl rfl rfl rfl rfl rfl rfl rfl rfl rfl rfl rfl (fun nb hnb => ?_)
  refine S_appendO (ty := 0) tabOk 3 (sz := 1) (news := [.pointer (some ⟨xb, 0, none⟩)]) rfl rfl rfl rfl rfl rfl rfl rfl rfl (by decide) (fun w' h => Sl.of_blk (h.own _ (getE_mem (i := 0) rfl)) rfl fun j u hu => by rw [Nat.zero_add]; exact hu) (fun u hu => by rw [List.mem_singleton] at hu; subst hu; rfl) (by simp only [maxLen]; omega) (by show (_ + _) * 8 ≤ _; omega) (Nat.zero_le _) (fun A' c' F' h1 h2 h3 h4 => ⟨_, rfl, ?_⟩)
  repeat (first | refine S_nil ?_ | refine S_pure tabOk rfl ?_ | refine S_store tabOk 1 rfl rfl rfl rfl rfl rfl ?_)
  exact ret0n rfl (fun w' hw => ⟨rfl, A', c', F', h3, h4, hw.less (by repeat (first | exact Less.nil | refine Less.keep ?_ | refine Less.dropB (by first | assumption | omega) ?_))⟩)

set_option maxHeartbeats 1000000 in
/-- heap.Push, from anything that Push turns into the object. -/
theorem hpushq_ok {iv : Value} {St : Type} (O : HOb Try.prog iv St) (q : Vp) (s1 : St) (F : Nat → Prop) (w : World) (h : q.at_ w F (.bool true)) (hF : ∀ k, F k → k < w.heap.size) (hi : 0 < O.len s1) (u : Value)
    (hp : ∀ w1, q.at_ w1 F (.bool true) → (∀ k, F k → k < w1.heap.size) → Meth Try.prog iv "Push" [u] w1 fun e w' => e = .returned (.tuple #[]) ∧ ∃ F', (∀ k, F k → F' k) ∧ (∀ k, F' k → F k ∨ w1.heap.size ≤ k) ∧ Hp w1 w' [.rep (fun w => (O.p s1).at_ w F' (.bool true)) F' true]) :
    Calls Try.prog 66 #[iv, u] w fun e w' => e = .returned (.tuple #[]) ∧ ∃ F', (∀ k, F k → F' k) ∧ (∀ k, F' k → F k ∨ w.heap.size ≤ k) ∧ Hp w w' [.rep (fun w => (O.p (O.up (O.len s1) s1 (O.len s1 - 1))).at_ w F' (.bool true)) F' true] := by
  refine enter2 Try.func66 rfl rfl (Hp.startO h hF) ?_
  repeat (first | refine T_seq ?_ | refine T_region ?_ | refine S_pure tabOk rfl ?_)
  refine S_inv rfl rfl rfl (fun w1 g => ?_)
  have g0 := g.own _ (getE_mem (i := 0) rfl)
  have hsz := g.size
  refine (hp w1 g0.1 g0.2.2).mono fun e w' ⟨he, F', g1, g2, g3⟩ => ⟨_, _, he, g.graftT 0 rfl g3 g1 g2 rfl, ?_⟩
  have hle := O.hle (g3.own _ (getE_mem (i := 0) rfl)).1
  repeat (first | refine S_nil ?_ | refine S_pure tabOk rfl ?_ | refine T_region_any ?_)
  refine S_invq rfl rfl rfl (fun w1 g => O.hlen (g.own _ (getE_mem (i := 0) rfl)).1) ?_
  repeat (first | refine S_i64 tabOk rfl (by omega) ?_)
  have hup := fun w1 h1 h2 => hup_ok O s1 (O.len s1 - 1) F' w1 h1 h2 (by omega)
  rw [show O.len s1 - 1 + 1 = O.len s1 by omega, show ((O.len s1 - 1 : Nat) : Int) = (O.len s1 : Int) - 1 by omega] at hup
  refine S_callT 0 rfl Try.call80 rfl (fun w1 g => (hup w1 (g.own _ (getE_mem (i := 0) rfl)).1 (g.own _ (getE_mem (i := 0) rfl)).2.2).mono fun e w' ⟨he, g9⟩ => ⟨_, _, F', he, g9, fun _ h => h, fun _ h => .inl h, _, rfl, ?_⟩)
  repeat (first | refine S_nil ?_)
  exact ret0n rfl (fun w' hw => ⟨rfl, F', g1, fun k hk => (g2 k hk).imp id (fun h => Nat.le_trans hsz h), hw⟩)
/-- and one more entry -/
def alE (ab mb : Nat) (s : List En) (x : En) (p : Nat) : Vp :=
  ⟨fun w F v => (alP 0 ab mb s).at_ w F v ∧ w.heap[x.b]? = some (enO x p) ∧ F x.b, fun {w w' A B v} ⟨h1, h2, h3⟩ hk => ⟨(alP 0 ab mb s).keep h1 hk, ((hk x.b h3 (heap_lt h2)).1).trans h2, (hk x.b h3 (heap_lt h2)).2⟩⟩
theorem cells_ne {w : World} {a b : Nat} {x y : Array Value} {t u : TypeId} {p q : Nat × Nat} (ha : w.heap[a]? = some (.cells x t p)) (hb : w.heap[b]? = some (.cells y u q)) (h : t ≠ u) : a ≠ b := fun hh => by
  rw [hh, hb] at ha
  exact h (Obj.cells.inj (Option.some.inj ha)).2.1.symm
theorem map_ne {w : World} {a b : Nat} {x : Array Value} {t : TypeId} {p : Nat × Nat} {es : Array MapEntry} {c : Nat} (ha : w.heap[a]? = some (.cells x t p)) (hb : w.heap[b]? = some (.map es c)) : a ≠ b := fun hh => by
  rw [hh, hb] at ha
  cases ha
theorem row_blk {w : World} {base n : Nat} {e : TypeId} {v : Value} {xs : List Value} (h : w.ownsRow base e 1 v n xs) {k : Nat} (hk : v.ownBlock = some k) : ∃ cur, w.heap[k]? = some (.cells cur e (0, 0)) := by
  obtain ⟨_, h2⟩ := h
  rcases h2 with ⟨rfl, _⟩ | ⟨g, cap, cur, rfl, h3, h4, _⟩
  · cases hk
  · cases hk
    exact ⟨cur, h4⟩
theorem alM_pop {ab mb : Nat} {s : List En} {x : En} {w : World} {F : Nat → Prop} (h : (alP 0 ab mb s).at_ w F (.bool true)) (hF : ∀ k, F k → k < w.heap.size) (hx : s[s.length - 1]? = some x) :
    Meth Try.prog (alI ab) "Pop" [] w fun e w' => e = .returned (.iface 126 (enPt x)) ∧ Hp w w' [.rep (fun w => (alE ab mb (s.take (s.length - 1)) x (s.length - 1)).at_ w F (.bool true)) F true] := by
  obtain ⟨v, hv⟩ := h
  have h0 := (List.getElem?_eq_some_iff.1 hx).1
  obtain ⟨g, c, rfl⟩ := alV_addr hv (by omega)
  obtain ⟨h1, h2, h3, h5, h6, h7⟩ := hv
  obtain ⟨n, hn⟩ : ∃ n, s.length = n + 1 := ⟨s.length - 1, by omega⟩
  rw [show s.length - 1 = n by omega] at hx ⊢
  rw [hn] at h1 h3 h5
  have h3' := h3
  obtain ⟨hl3, h4⟩ := h3
  rcases h4 with ⟨h4, _⟩ | ⟨g', cap, cur, h4, hb, hg, hnc, hm, hz, ht⟩
  · cases h4
  · cases h4
    have hgb : g ≠ ab := cells_ne hg h1 (by decide)
    refine meth_own (u := 129) (f := 121) (by kernel_rfl) (by kernel_rfl) Try.call121 ?_
    refine (apop_walk ab g n c mb _ _ w h1 h3' hgb (by rw [List.getElem?_map, hx]; rfl) (by omega) (by omega)).mono fun e w' ⟨he, h8⟩ => ⟨he, ?_⟩
    have hold : ∀ k o, w.heap[k]? = some o → k ≠ ab → w'.heap[k]? = some o := fun k o ho hk => (h8.old k (heap_lt ho) fun e he _ => by
      rw [List.mem_singleton] at he
      subst he
      intro hh
      exact hk (Option.some.inj hh).symm).trans ho
    have hlen : (s.take n).length = n := by rw [List.length_take]; omega
    have hb2 : w'.heap[ab]? = _ := h8.own _ List.mem_cons_self
    refine h8.widen (fun k hk => ?_) ⟨⟨.slice (some ⟨g, 0, none⟩) n c, hb2, h2, ?_, fun k hk => h5 k hk, fun i z hz2 => ?_, ?_⟩, hold _ _ (h6 n x hx).1 (cells_ne (h6 n x hx).1 h1 (by decide)), (h6 n x hx).2⟩ (Vp.loc (p := alE ab mb (s.take n) x n)) hF
    · have : k = ab := (Option.some.inj hk).symm
      rw [this]
      exact h2
    · rw [hlen]
      refine ⟨by rw [List.length_map, hlen, Nat.mul_one], .inr ⟨g, c, cur, rfl, hb, hold _ _ hg hgb, by omega, hm, hz, ?_⟩⟩
      rw [List.map_take, ← ht, List.take_take]
      congr 1
      omega
    · have hi : i < n := by
        have := (List.getElem?_eq_some_iff.1 hz2).1
        omega
      rw [List.getElem?_take_of_lt hi] at hz2
      exact ⟨hold _ _ (h6 i z hz2).1 (cells_ne (h6 i z hz2).1 h1 (by decide)), (h6 i z hz2).2⟩
    · rw [hlen]; omega
theorem alM_push {ab mb : Nat} {s : List En} {x : En} {p : Nat} {w : World} {F : Nat → Prop} (h : (alE ab mb s x p).at_ w F (.bool true)) (hF : ∀ k, F k → k < w.heap.size) (hs : s.length < 1073741824) (hne : ∀ (i : Nat) (z : En), s[i]? = some z → z.b ≠ x.b) :
    Meth Try.prog (alI ab) "Push" [.iface 126 (enPt x)] w fun e w' => e = .returned (.tuple #[]) ∧ ∃ F', (∀ k, F k → F' k) ∧ (∀ k, F' k → F k ∨ w.heap.size ≤ k) ∧ Hp w w' [.rep (fun w => (alP 0 ab mb (s ++ [x])).at_ w F' (.bool true)) F' true] := by
  obtain ⟨⟨v, hv⟩, hx1, hx2⟩ := h
  have hfm := alV_form hv
  obtain ⟨h1, h2, h3, h5, h6, h7⟩ := hv
  refine meth_own (u := 129) (f := 122) (by kernel_rfl) (by kernel_rfl) Try.call122 ?_
  have hax : ab ≠ x.b := cells_ne h1 hx1 (by decide)
  refine (apush_walk ab x.b s.length mb x.id x.tm p v (s.map enPt) (fun k => v.ownBlock = some k) w ?_ (by omega) hfm).mono fun e w' ⟨he, A', c', F', g1, g2, g3⟩ => ⟨he, fun k => F k ∨ F' k, fun k hk => .inl hk, fun k hk => ?_, ?_⟩
  · have e1 : Hp w w [.rep (fun w => (rowV 0 126 1 s.length (s.map enPt)).at_ w (fun k => v.ownBlock = some k) v) (fun k => v.ownBlock = some k) true] :=
      (Hp.refl w).more ⟨⟨h3, fun k hk => hk⟩, Vp.loc, fun k hk => hF k (h5 k hk)⟩ fun e he => (by cases he)
    have e2 := e1.more (x := .blk x.b (enO x p) true) hx1 fun e he _ k hk hk2 => by
      rw [List.mem_singleton] at he
      subst he
      obtain ⟨cur, h9⟩ := row_blk h3 hk2
      exact cells_ne hx1 h9 (by decide) (Option.some.inj hk)
    refine e2.more (x := .blk ab _ true) h1 fun e he _ k hk hk2 => ?_
    have hk0 := Option.some.inj hk
    rcases List.mem_cons.1 he with rfl | he
    · exact hax (hk0.trans (Option.some.inj hk2).symm)
    · rw [List.mem_singleton] at he
      subst he
      obtain ⟨cur, h9⟩ := row_blk h3 hk2
      exact cells_ne h1 h9 (by decide) hk0
  · rcases hk with h | h
    · exact .inl h
    · rcases g2 k h with h | h
      · exact .inl (h5 k h)
      · exact .inr h
  · have o0 : w'.heap[ab]? = _ := g3.own _ (getE_mem (i := 0) rfl)
    have o1 : w'.heap[x.b]? = _ := g3.own _ (getE_mem (i := 1) rfl)
    obtain ⟨⟨o2, o3⟩, _, o4⟩ := g3.own _ (getE_mem (i := 2) rfl)
    have hlt : ∀ k, F k ∨ F' k → k < w'.heap.size := fun k hk => by
      rcases hk with h | h
      · exact Nat.lt_of_lt_of_le (hF k h) g3.size
      · exact o4 k h
    have hl : (s ++ [x]).length = s.length + 1 := by rw [List.length_append]; rfl
    refine g3.widenM (fun e he k hk => ?_) ⟨.slice A' (s.length + 1) c', o0, .inl h2, ?_, fun k hk => .inr (o3 k hk), fun i z hz => ?_, by omega⟩ (Vp.loc (p := alP 0 ab mb (s ++ [x]))) hlt
    · simp only [List.mem_cons, List.not_mem_nil, or_false] at he
      rcases he with rfl | rfl | rfl
      · left
        have := Option.some.inj hk
        rw [← this]; exact h2
      · left
        have := Option.some.inj hk
        rw [← this]; exact hx2
      · exact .inr hk
    · rw [hl, List.map_append]
      exact o2
    · by_cases hi : i < s.length
      · rw [List.getElem?_append_left hi] at hz
        refine ⟨(g3.old z.b (heap_lt (h6 i z hz).1) fun e he _ hh => ?_).trans (h6 i z hz).1, .inl (h6 i z hz).2⟩
        simp only [List.mem_cons, List.not_mem_nil, or_false] at he
        rcases he with rfl | rfl | rfl
        · exact cells_ne h1 (h6 i z hz).1 (by decide) (Option.some.inj hh)
        · exact hne i z hz (Option.some.inj hh).symm
        · rcases g2 _ hh with h9 | h9
          · obtain ⟨cur, h9⟩ := row_blk h3 h9
            exact cells_ne (h6 i z hz).1 h9 (by decide) rfl
          · have := heap_lt (h6 i z hz).1
            omega
      · have hi2 : i = s.length := by
          have := (List.getElem?_eq_some_iff.1 hz).1
          omega
        subst hi2
        rw [List.getElem?_append_right (Nat.le_refl _), Nat.sub_self] at hz
        cases hz
        exact ⟨o1, .inl hx2⟩
/-- the alarm with its map -/
def alS (ab mb : Nat) (s : List En) (M : List ME) (c : Nat) : Vp :=
  ⟨fun w F v => (alP 0 ab mb s).at_ w F v ∧ w.heap[mb]? = some (mapO .u64 M c) ∧ F mb, fun {w w' A B v} ⟨h1, h2, h3⟩ hk => ⟨(alP 0 ab mb s).keep h1 hk, ((hk mb h3 (heap_lt h2)).1).trans h2, (hk mb h3 (heap_lt h2)).2⟩⟩
/-- and one more entry -/
def alQ (ab mb : Nat) (s : List En) (M : List ME) (c : Nat) (x : En) (p : Nat) : Vp :=
  ⟨fun w F v => (alE ab mb s x p).at_ w F v ∧ w.heap[mb]? = some (mapO .u64 M c) ∧ F mb, fun {w w' A B v} ⟨h1, h2, h3⟩ hk => ⟨(alE ab mb s x p).keep h1 hk, ((hk mb h3 (heap_lt h2)).1).trans h2, (hk mb h3 (heap_lt h2)).2⟩⟩
theorem alP_less {ab mb : Nat} {s : List En} {w : World} {F : Nat → Prop} {v : Value} {es : Array MapEntry} {c : Nat} (h : (alP 0 ab mb s).at_ w F v) (hb : w.heap[mb]? = some (.map es c)) : (alP 0 ab mb s).at_ w (fun k => F k ∧ k ≠ mb) v := by
  obtain ⟨v, h1, h2, h3, h5, h6, h7⟩ := h
  refine ⟨v, h1, ⟨h2, map_ne h1 hb⟩, h3, fun k hk => ⟨h5 k hk, ?_⟩, fun i x hx => ⟨(h6 i x hx).1, (h6 i x hx).2, map_ne (h6 i x hx).1 hb⟩, h7⟩
  obtain ⟨cur, h9⟩ := row_blk h3 hk
  exact map_ne h9 hb
/-- what becomes of the entries, said of all -/
theorem al_graft {w w' : World} {F F1 : Nat → Prop} {mb c : Nat} {M : List ME} {q Q : Vp} (hF : ∀ k, F k → k < w.heap.size) (hb : w.heap[mb]? = some (mapO .u64 M c)) (hmb : F mb) (h : Hp w w' [.rep (fun w => q.at_ w F1 (.bool true)) F1 true])
    (g1 : ∀ k, F k ∧ k ≠ mb → F1 k) (g2 : ∀ k, F1 k → (F k ∧ k ≠ mb) ∨ w.heap.size ≤ k) (hQ : ∀ w F2, q.at_ w F2 (.bool true) → w.heap[mb]? = some (mapO .u64 M c) → F2 mb → Q.at_ w F2 (.bool true)) :
    ∃ F' : Nat → Prop, (∀ k, F k → F' k) ∧ (∀ k, F' k → F k ∨ w.heap.size ≤ k) ∧ Hp w w' [.rep (fun w => Q.at_ w F' (.bool true)) F' true] := by
  obtain ⟨o1, _, o2⟩ := h.own _ (getE_mem (i := 0) rfl)
  have hmb2 : w'.heap[mb]? = some (mapO .u64 M c) := (h.old mb (heap_lt hb) fun e he _ hh => by
    rw [List.mem_singleton] at he
    subst he
    rcases g2 mb hh with h9 | h9
    · exact h9.2 rfl
    · have := heap_lt hb
      omega).trans hb
  refine ⟨fun k => F k ∨ F1 k, fun k hk => .inl hk, fun k hk => ?_, h.widenM (fun e he k hk => ?_) (hQ w' _ (q.keep o1 fun k hk _ => ⟨rfl, .inr hk⟩) hmb2 (.inl hmb)) Vp.loc fun k hk => ?_⟩
  · rcases hk with h | h
    · exact .inl h
    · exact (g2 k h).imp (fun h => h.1) id
  · rw [List.mem_singleton] at he
    subst he
    exact .inr hk
  · rcases hk with h9 | h9
    · exact Nat.lt_of_lt_of_le (hF k h9) h.size
    · exact o2 k h9
section
variable {ab mb c : Nat} {s : List En} {M : List ME} {w : World} {F : Nat → Prop}
theorem alheap_fix (h : (alS ab mb s M c).at_ w F (.bool true)) (hF : ∀ k, F k → k < w.heap.size) (i : Nat) (hi : i < s.length) : Calls Try.prog 65 #[alI ab, .int .i64 (i : Int)] w fun e w' => e = .returned (.tuple #[]) ∧
    ∃ F' : Nat → Prop, (∀ k, F k → F' k) ∧ (∀ k, F' k → F k ∨ w.heap.size ≤ k) ∧ Hp w w' [.rep (fun w => (alS ab mb ((alOb 0 ab mb).fx s i) M c).at_ w F' (.bool true)) F' true] := by
  obtain ⟨h1, h2, h3⟩ := h
  refine (hfix_ok (alOb 0 ab mb) s i (fun k => F k ∧ k ≠ mb) w (alP_less h1 h2) (fun k hk => hF k hk.1) hi).mono fun e w' ⟨he, h8⟩ => ⟨he, ?_⟩
  exact al_graft hF h2 h3 h8 (fun k hk => hk) (fun k hk => .inl hk) fun w F2 e1 e2 e3 => ⟨e1, e2, e3⟩
theorem alheap_pop (h : (alS ab mb s M c).at_ w F (.bool true)) (hF : ∀ k, F k → k < w.heap.size) {x : En} (hx : s[0]? = some x) : Calls Try.prog 74 #[alI ab] w fun e w' => e = .returned (.iface 126 (enPt x)) ∧
    ∃ F' : Nat → Prop, (∀ k, F k → F' k) ∧ (∀ k, F' k → F k ∨ w.heap.size ≤ k) ∧ Hp w w' [.rep (fun w => (alQ ab mb (((alOb 0 ab mb).pp s).take (s.length - 1)) M c x (s.length - 1)).at_ w F' (.bool true)) F' true] := by
  obtain ⟨h1, h2, h3⟩ := h
  have h0 := (List.getElem?_eq_some_iff.1 hx).1
  have hl := (pp_perm (alOb_ol 0 ab mb) s).length_eq
  have hx2 := pp_last (alOb_ol 0 ab mb) s h0
  refine (hpop_ok (alOb 0 ab mb) s (fun k => F k ∧ k ≠ mb) w (alP_less h1 h2) (fun k hk => hF k hk.1) h0 (.iface 126 (enPt x)) (alE ab mb (((alOb 0 ab mb).pp s).take (s.length - 1)) x (s.length - 1)) fun w1 g1 g2 => ?_).mono fun e w' ⟨he, h8⟩ => ⟨he, ?_⟩
  · have := alM_pop (s := (alOb 0 ab mb).pp s) g1 g2 (x := x) (by rw [hl, hx2, hx])
    rw [hl] at this
    exact this
  · exact al_graft hF h2 h3 h8 (fun k hk => hk) (fun k hk => .inl hk) fun w F2 e1 e2 e3 => ⟨e1, e2, e3⟩
theorem alheap_remove (h : (alS ab mb s M c).at_ w F (.bool true)) (hF : ∀ k, F k → k < w.heap.size) (i : Nat) {x : En} (hx : s[i]? = some x) : Calls Try.prog 73 #[alI ab, .int .i64 (i : Int)] w fun e w' => e = .returned (.iface 126 (enPt x)) ∧
    ∃ F' : Nat → Prop, (∀ k, F k → F' k) ∧ (∀ k, F' k → F k ∨ w.heap.size ≤ k) ∧ Hp w w' [.rep (fun w => (alS ab mb (((alOb 0 ab mb).rm s i).take (s.length - 1)) M c).at_ w F' (.bool true)) F' true] := by
  obtain ⟨h1, h2, h3⟩ := h
  have h0 := (List.getElem?_eq_some_iff.1 hx).1
  have hl := (rm_perm (alOb_ol 0 ab mb) s i).length_eq
  have hx2 := rm_last (alOb_ol 0 ab mb) s i h0
  refine (hremove_ok (alOb 0 ab mb) s i (fun k => F k ∧ k ≠ mb) w (alP_less h1 h2) (fun k hk => hF k hk.1) h0 (.iface 126 (enPt x)) (alE ab mb (((alOb 0 ab mb).rm s i).take (s.length - 1)) x (s.length - 1)) fun w1 g1 g2 => ?_).mono fun e w' ⟨he, h8⟩ => ⟨he, ?_⟩
  · have := alM_pop (s := (alOb 0 ab mb).rm s i) g1 g2 (x := x) (by rw [hl, hx2, hx])
    rw [hl] at this
    exact this
  · exact al_graft hF h2 h3 h8 (fun k hk => hk) (fun k hk => .inl hk) fun w F2 e1 e2 e3 => ⟨e1.1, e2, e3⟩
theorem alheap_push {x : En} {p : Nat} (h : (alQ ab mb s M c x p).at_ w F (.bool true)) (hF : ∀ k, F k → k < w.heap.size) (hs : s.length < 1073741824) (hne : ∀ (i : Nat) (z : En), s[i]? = some z → z.b ≠ x.b) : Calls Try.prog 66 #[alI ab, .iface 126 (enPt x)] w fun e w' => e = .returned (.tuple #[]) ∧
    ∃ F' : Nat → Prop, (∀ k, F k → F' k) ∧ (∀ k, F' k → F k ∨ w.heap.size ≤ k) ∧ Hp w w' [.rep (fun w => (alS ab mb ((alOb 0 ab mb).up (s.length + 1) (s ++ [x]) s.length) M c).at_ w F' (.bool true)) F' true] := by
  obtain ⟨⟨h1, h4, h5⟩, h2, h3⟩ := h
  have hl : (s ++ [x]).length = s.length + 1 := by rw [List.length_append]; rfl
  have := hpushq_ok (alOb 0 ab mb) (alE ab mb s x p) (s ++ [x]) (fun k => F k ∧ k ≠ mb) w ⟨alP_less h1 h2, h4, h5, map_ne h4 h2⟩ (fun k hk => hF k hk.1) (by show 0 < (s ++ [x]).length; omega) (.iface 126 (enPt x)) fun w1 g1 g2 => alM_push g1 g2 hs hne
  have hl2 : (alOb 0 ab mb).len (s ++ [x]) = s.length + 1 := hl
  rw [hl2, Nat.add_sub_cancel] at this
  refine this.mono fun e w' ⟨he, F1, g1, g2, h8⟩ => ⟨he, ?_⟩
  exact al_graft hF h2 h3 h8 g1 g2 fun w F2 e1 e2 e3 => ⟨e1, e2, e3⟩
end

abbrev DE := Int × Int
def dBef (p q : DE) : Prop := p.2 < q.2 ∨ (p.2 = q.2 ∧ p.1 < q.1)
instance (p q : DE) : Decidable (dBef p q) := by unfold dBef; infer_instance
def dIns (x : DE) : List DE → List DE
  | [] => [x]
  | p :: l => if dBef p x then p :: dIns x l else x :: p :: l
def dClear (l : List DE) (id : Int) : List DE := l.filter fun p => decide (p.1 ≠ id)
def dSet (l : List DE) (id tm : Int) : List DE := dIns (id, tm) (dClear l id)
theorem dBef_trans {a b c : DE} (h1 : dBef a b) (h2 : dBef b c) : dBef a c := by unfold dBef at *; omega
theorem dIns_perm (x : DE) : ∀ (l : List DE), (dIns x l).Perm (x :: l)
  | [] => List.Perm.refl _
  | p :: l => by
    unfold dIns
    split
    · exact ((dIns_perm x l).cons p).trans (List.Perm.swap ..)
    · exact List.Perm.refl _
theorem dIns_srt (x : DE) : ∀ (l : List DE), l.Pairwise dBef → (∀ p ∈ l, p.1 ≠ x.1) → (dIns x l).Pairwise dBef
  | [], _, _ => List.pairwise_singleton _ _
  | p :: l, h, hx => by
    rw [List.pairwise_cons] at h
    unfold dIns
    split
    · rename_i hb
      rw [List.pairwise_cons]
      refine ⟨fun q hq => ?_, dIns_srt x l h.2 fun q hq => hx q (List.mem_cons_of_mem _ hq)⟩
      rcases List.mem_cons.1 ((dIns_perm x l).mem_iff.1 hq) with rfl | hq
      · exact hb
      · exact h.1 q hq
    · rename_i hb
      have hxp : dBef x p := by
        have := hx p List.mem_cons_self
        unfold dBef at hb ⊢
        omega
      rw [List.pairwise_cons, List.pairwise_cons]
      refine ⟨fun q hq => ?_, h.1, h.2⟩
      rcases List.mem_cons.1 hq with rfl | hq
      · exact hxp
      · exact dBef_trans hxp (h.1 q hq)
theorem dIns_at (x : DE) : ∀ (l : List DE) (k : Nat), k ≤ l.length → (∀ j p, j < k → l[j]? = some p → dBef p x) → (∀ p, l[k]? = some p → ¬ dBef p x) → l.take k ++ x :: l.drop k = dIns x l
  | [], k, h, _, _ => by
    rw [List.take_nil, List.drop_nil]
    rfl
  | p :: l, 0, _, _, h2 => by
    unfold dIns
    rw [if_neg (h2 p rfl)]
    rfl
  | p :: l, k + 1, h, h1, h2 => by
    unfold dIns
    rw [if_pos (h1 0 p (Nat.succ_pos _) rfl), List.take_succ_cons, List.drop_succ_cons, List.cons_append, dIns_at x l k (by simpa using h) (fun j q hj hq => h1 (j + 1) q (by omega) (by rw [List.getElem?_cons_succ]; exact hq)) (fun q hq => h2 q (by rw [List.getElem?_cons_succ]; exact hq))]
abbrev enD (x : En) : DE := (x.id, x.tm)
abbrev enK (x : En) : Int × Value := (x.id, enPt x)
/-- An alarm says what the document's list says. -/
structure AR (s : List En) (M : List ME) (l : List DE) : Prop where
  hd : Hd enR s s.length 0
  perm : (s.map enD).Perm l
  srt : l.Pairwise dBef
  ids : (l.map (·.1)).Nodup
  keys : (M.map (·.1)).Nodup
  get : ∀ id v, mGet M id = some v ↔ (id, v) ∈ s.map enK
theorem AR.init : AR [] [] [] := ⟨fun j _ h _ => absurd h (Nat.not_lt_zero _), List.Perm.refl _, List.Pairwise.nil, List.nodup_nil, List.nodup_nil, fun id v => by simp [mGet_nil]⟩
theorem AR.len {s : List En} {M : List ME} {l : List DE} (h : AR s M l) : s.length = l.length := by
  have := h.perm.length_eq
  rwa [List.length_map] at this
theorem AR.sids {s : List En} {M : List ME} {l : List DE} (h : AR s M l) : (s.map (·.id)).Nodup := by
  have h1 : (s.map (·.id)) = (s.map enD).map (·.1) := by rw [List.map_map]; rfl
  rw [h1]
  exact (h.perm.map _).nodup_iff.2 h.ids
theorem AR.miss {s : List En} {M : List ME} {l : List DE} (h : AR s M l) {id : Int} (hm : mGet M id = none) : ∀ x ∈ s, x.id ≠ id := fun x hx he => by
  have := (h.get id (enPt x)).2 (List.mem_map.2 ⟨x, hx, by rw [← he]⟩)
  rw [hm] at this
  cases this
theorem AR.missl {s : List En} {M : List ME} {l : List DE} (h : AR s M l) {id : Int} (hm : mGet M id = none) : ∀ p ∈ l, p.1 ≠ id := fun p hp he => by
  obtain ⟨x, hx, rfl⟩ := List.mem_map.1 (h.perm.mem_iff.2 hp)
  exact h.miss hm x hx he
theorem AR.hit {s : List En} {M : List ME} {l : List DE} (h : AR s M l) {id : Int} {v : Value} (hm : mGet M id = some v) : ∃ (i : Nat) (x : En), s[i]? = some x ∧ x.id = id ∧ v = enPt x := by
  obtain ⟨x, hx, he⟩ := List.mem_map.1 ((h.get id v).1 hm)
  obtain ⟨i, hi⟩ := List.mem_iff_getElem?.1 hx
  cases he
  exact ⟨i, x, hi, rfl, rfl⟩
theorem set_split {α : Type} : ∀ {s : List α} {i : Nat} {x : α}, i < s.length → (s.set i x).Perm (x :: s.eraseIdx i)
  | p :: s, 0, x, _ => List.Perm.refl _
  | p :: s, i + 1, x, h => by
    rw [List.set_cons_succ, List.eraseIdx_cons_succ]
    exact ((set_split (by simpa using h)).cons p).trans (List.Perm.swap ..)
theorem split_at {α : Type} {s : List α} {i : Nat} {x : α} (h : s[i]? = some x) : s.Perm (x :: s.eraseIdx i) := by
  have hi := (List.getElem?_eq_some_iff.1 h).1
  have := set_split (x := x) hi
  rwa [set_self h] at this
theorem AR.rest {s : List En} {M : List ME} {l : List DE} (h : AR s M l) {i : Nat} {x : En} (hx : s[i]? = some x) : ((s.eraseIdx i).map enD).Perm (dClear l x.id) := by
  have h1 : l.Perm (enD x :: (s.eraseIdx i).map enD) := h.perm.symm.trans ((split_at hx).map enD)
  have h2 := h1.filter fun p => decide (p.1 ≠ x.id)
  rw [List.filter_cons_of_neg (by simp)] at h2
  have h3 : ((s.eraseIdx i).map enD).filter (fun p => decide (p.1 ≠ x.id)) = (s.eraseIdx i).map enD := List.filter_eq_self.2 fun p hp => by
    have h4 := (h1.map (·.1)).nodup_iff.1 h.ids
    rw [List.map_cons, List.nodup_cons] at h4
    simp only [ne_eq, decide_not, Bool.not_eq_eq_eq_not, Bool.not_true, decide_eq_false_iff_not]
    intro he
    exact h4.1 (List.mem_map.2 ⟨p, hp, he⟩)
  rw [h3] at h2
  exact h2.symm
theorem dClear_ids {l : List DE} {id : Int} (h : (l.map (·.1)).Nodup) : ((dClear l id).map (·.1)).Nodup := h.sublist (List.filter_sublist.map _)
theorem dClear_srt {l : List DE} {id : Int} (h : l.Pairwise dBef) : (dClear l id).Pairwise dBef := h.sublist List.filter_sublist
theorem dClear_no {l : List DE} {id : Int} : ∀ p ∈ dClear l id, p.1 ≠ id := fun p hp => by simpa using (List.mem_filter.1 hp).2
theorem dClear_same {l : List DE} {id : Int} (h : ∀ p ∈ l, p.1 ≠ id) : dClear l id = l := List.filter_eq_self.2 fun p hp => by simpa using h p hp
theorem dSet_srt {l : List DE} {id tm : Int} (h : l.Pairwise dBef) : (dSet l id tm).Pairwise dBef := dIns_srt _ _ (dClear_srt h) dClear_no
theorem dSet_ids {l : List DE} {id tm : Int} (h : (l.map (·.1)).Nodup) : ((dSet l id tm).map (·.1)).Nodup := by
  unfold dSet
  rw [((dIns_perm (id, tm) (dClear l id)).map (·.1)).nodup_iff, List.map_cons, List.nodup_cons]
  exact ⟨fun hm => by
    obtain ⟨p, hp, he⟩ := List.mem_map.1 hm
    exact dClear_no p hp he, dClear_ids h⟩
section
variable {P : Program} {iv : Value} {O : HOb P iv (List En)} (hO : OL_ O enR) {s : List En} {M : List ME} {l : List DE}
include hO
theorem AR.setOld (h : AR s M l) {i : Nat} {x : En} (hx : s[i]? = some x) (tm : Int) : AR (O.fx (s.set i ⟨x.b, x.id, tm⟩) i) M (dSet l x.id tm) := by
  have hi := (List.getElem?_eq_some_iff.1 hx).1
  have hp := fx_perm hO (s.set i ⟨x.b, x.id, tm⟩) i
  have hs := set_split (x := (⟨x.b, x.id, tm⟩ : En)) hi
  refine ⟨?_, ?_, dSet_srt h.srt, dSet_ids h.ids, h.keys, fun id v => ?_⟩
  · have h1 := fx_heap hO enR_sw (s.set i ⟨x.b, x.id, tm⟩) i (by rw [List.length_set]; exact hi) (h.hd.fk enR_sw hi _)
    rw [hp.length_eq]
    exact h1
  · exact ((hp.trans hs).map enD).trans (((h.rest hx).cons _).trans (dIns_perm _ _).symm)
  · rw [h.get, (((hp.trans hs).map enK)).mem_iff, ((split_at hx).map enK).mem_iff]
    exact Iff.rfl
theorem AR.setNew (h : AR s M l) {x : En} (hm : mGet M x.id = none) (c : Nat) : AR (O.up (s.length + 1) (s ++ [x]) s.length) (mPut M x.id (enPt x) c).1 (dSet l x.id x.tm) := by
  have hp := up_perm hO (s.length + 1) (s ++ [x]) s.length
  have hs : (s ++ [x]).Perm (x :: s) := List.perm_append_comm
  have hl : (s ++ [x]).length = s.length + 1 := by rw [List.length_append]; rfl
  refine ⟨?_, ?_, dSet_srt h.srt, dSet_ids h.ids, mPut_nodup h.keys, fun id v => ?_⟩
  · rw [hp.length_eq, hl]
    refine up_heap hO enR_sw (s.length + 1) (s.length + 1) (s ++ [x]) s.length (by omega) (by omega) (by omega) fun j h0 hj => ⟨fun hji => ?_, fun hp2 _ => by omega⟩
    have := h.hd j h0 (by omega) (Nat.zero_le _)
    unfold ltL at this ⊢
    rw [List.getElem?_append_left (by omega), List.getElem?_append_left (by omega)]
    exact this
  · unfold dSet
    rw [dClear_same (h.missl hm)]
    exact ((hp.trans hs).map enD).trans ((h.perm.cons _).trans (dIns_perm _ _).symm)
  · rw [mGet_put, ((hp.trans hs).map enK).mem_iff, List.map_cons, List.mem_cons]
    by_cases he : id = x.id
    · rw [if_pos he]
      constructor
      · intro h2
        cases h2
        exact .inl (by rw [he])
      · rintro (h2 | h2)
        · cases h2; rfl
        · rw [he, ← h.get, hm] at h2
          cases h2
    · rw [if_neg he, h.get]
      exact ⟨.inr, fun h2 => h2.resolve_left fun e => he (congrArg Prod.fst e)⟩
omit hO in
theorem AR.less_ (h : AR s M l) {i : Nat} {x : En} (hx : s[i]? = some x) {t : List En} (ht : t.Perm (s.eraseIdx i)) (hh : Hd enR t t.length 0) : AR t (mDel M x.id) (dClear l x.id) := by
  refine ⟨hh, (ht.map enD).trans (h.rest hx), dClear_srt h.srt, dClear_ids h.ids, mDel_nodup h.keys, fun id v => ?_⟩
  have hs := (split_at hx)
  have h4 : ∀ y ∈ s.eraseIdx i, y.id ≠ x.id := fun y hy he => by
    have := (hs.map (·.id)).nodup_iff.1 h.sids
    rw [List.map_cons, List.nodup_cons] at this
    exact this.1 (List.mem_map.2 ⟨y, hy, he⟩)
  rw [mGet_del _ _ _ h.keys, (ht.map enK).mem_iff]
  by_cases he : id = x.id
  · rw [if_pos he]
    constructor
    · intro h2; cases h2
    · intro h2
      obtain ⟨y, hy, h3⟩ := List.mem_map.1 h2
      exact absurd ((congrArg Prod.fst h3).trans he) (h4 y hy)
  · rw [if_neg he, h.get, (hs.map enK).mem_iff, List.map_cons, List.mem_cons]
    exact ⟨fun h2 => h2.resolve_left fun e => he (congrArg Prod.fst e), .inr⟩
omit hO in
theorem perm_rest {t s : List En} {i : Nat} {x : En} (hx : s[i]? = some x) (hp : t.Perm s) (hl : t[s.length - 1]? = some x) : (t.take (s.length - 1)).Perm (s.eraseIdx i) := by
  have h0 := (List.getElem?_eq_some_iff.1 hx).1
  have hlen := hp.length_eq
  have h1 : t = t.take (s.length - 1) ++ [x] := by
    obtain ⟨h2, h3⟩ := List.getElem?_eq_some_iff.1 hl
    have h4 := List.take_append_drop (s.length - 1) t
    have h5 := List.drop_eq_getElem_cons h2
    rw [h3, show s.length - 1 + 1 = t.length by omega, List.drop_length] at h5
    rw [h5] at h4
    exact h4.symm
  have h2 : (x :: t.take (s.length - 1)).Perm t := by
    conv => rhs; rw [h1]
    exact List.perm_append_comm (l₁ := [x])
  exact (h2.trans (hp.trans (split_at hx))).cons_inv
theorem AR.clear (h : AR s M l) {i : Nat} {x : En} (hx : s[i]? = some x) : AR ((O.rm s i).take (s.length - 1)) (mDel M x.id) (dClear l x.id) := by
  have hi := (List.getElem?_eq_some_iff.1 hx).1
  have hl := (rm_perm hO s i).length_eq
  refine h.less_ hx (perm_rest hx (rm_perm hO s i) ((rm_last hO s i hi).trans hx)) ?_
  rw [show ((O.rm s i).take (s.length - 1)).length = s.length - 1 by rw [List.length_take]; omega]
  exact hd_take (rm_heap hO enR_sw s i hi h.hd) (by omega)
theorem AR.pop (h : AR s M l) {x : En} (hx : s[0]? = some x) : AR ((O.pp s).take (s.length - 1)) (mDel M x.id) (dClear l x.id) := by
  have hi := (List.getElem?_eq_some_iff.1 hx).1
  have hl := (pp_perm hO s).length_eq
  refine h.less_ hx (perm_rest hx (pp_perm hO s) ((pp_last hO s hi).trans hx)) ?_
  rw [show ((O.pp s).take (s.length - 1)).length = s.length - 1 by rw [List.length_take]; omega]
  exact hd_take (pp_heap hO enR_sw s h.hd.dh hi) (by omega)
end
/-- The root is the list's first. -/
theorem AR.root {s : List En} {M : List ME} {l : List DE} (h : AR s M l) {x : En} (hx : s[0]? = some x) : ∃ rest, l = enD x :: rest ∧ dClear l x.id = rest := by
  have h0 := (List.getElem?_eq_some_iff.1 hx).1
  have hr := hd_root enR_sw (Nat.le_refl _) h.hd
  cases l with
  | nil =>
    have := h.len
    rw [List.length_nil] at this
    omega
  | cons p rest =>
    have hs := h.srt
    rw [List.pairwise_cons] at hs
    have hid := h.ids
    rw [List.map_cons, List.nodup_cons] at hid
    have hxl : enD x ∈ p :: rest := h.perm.mem_iff.1 (List.mem_map.2 ⟨x, List.mem_of_getElem? hx, rfl⟩)
    have hpx : p = enD x := by
      rcases List.mem_cons.1 hxl with e | e
      · exact e.symm
      · obtain ⟨y, hy, rfl⟩ := List.mem_map.1 (h.perm.mem_iff.2 (List.mem_cons_self (a := p) (l := rest)))
        obtain ⟨i, hi⟩ := List.mem_iff_getElem?.1 hy
        have h1 := hr i (List.getElem?_eq_some_iff.1 hi).1
        unfold ltL at h1
        rw [hi, hx] at h1
        have h2 := hs.1 _ e
        simp only [enR, decide_eq_false_iff_not] at h1
        exact absurd h2 h1
    subst hpx
    refine ⟨rest, rfl, ?_⟩
    unfold dClear
    rw [List.filter_cons_of_neg (by simp)]
    exact List.filter_eq_self.2 fun q hq => by
      simp only [ne_eq, decide_not, Bool.not_eq_eq_eq_not, Bool.not_true, decide_eq_false_iff_not]
      intro he
      exact hid.1 (List.mem_map.2 ⟨q, hq, he⟩)
theorem AR.find {s : List En} {M : List ME} {l : List DE} (h : AR s M l) {i : Nat} {x : En} (hx : s[i]? = some x) : enD x ∈ l := h.perm.mem_iff.1 (List.mem_map.2 ⟨x, List.mem_of_getElem? hx, rfl⟩)

abbrev aptr (ab : Nat) : Value := .pointer (some ⟨ab, 0, none⟩)
/-- an alarm that says what a list says -/
def alA (ab : Nat) (l : List DE) : Vp :=
  ⟨fun w F v => ∃ mb s M c, (alS ab mb s M c).at_ w F (.bool true) ∧ AR s M l, fun ⟨mb, s, M, c, h1, h2⟩ hk => ⟨mb, s, M, c, (alS ab mb s M c).keep h1 hk, h2⟩⟩
section
variable {ab mb c : Nat} {s : List En} {M : List ME} {l : List DE} {w : World} {F : Nat → Prop} {v : Value}
theorem alS_map (h : (alS ab mb s M c).at_ w F v) : w.cell? ⟨ab, 0 + 1, none⟩ = some (.map (some mb)) := by
  obtain ⟨⟨u, hu⟩, _⟩ := h
  exact (Sl.of_blk (n := 2) (sz := 1) (off := 0) (xs := [u, .map (some mb)]) hu.1 rfl (fun j u hu => by rw [Nat.zero_add]; exact hu)).at_ (j := 1) (by decide) rfl
theorem alV_sl {base : Nat} (h : (alV base ab mb s).at_ w F v) : w.cell? ⟨ab, 0, none⟩ = some v := by
  have := (Sl.of_blk (n := 2) (sz := 1) (off := 0) (xs := [v, .map (some mb)]) h.1 rfl (fun j u hu => by rw [Nat.zero_add]; exact hu)).at_ (j := 0) (by decide) rfl
  rwa [Nat.zero_add] at this
theorem alS_en (h : (alS ab mb s M c).at_ w F v) {i : Nat} {x : En} (hx : s[i]? = some x) : w.heap[x.b]? = some (enO x i) ∧ F x.b := by
  obtain ⟨⟨u, hu⟩, _⟩ := h
  exact hu.2.2.2.2.1 i x hx
theorem en_cell {x : En} {i : Nat} (h : w.heap[x.b]? = some (enO x i)) {j : Nat} {u : Value} (hu : [.int .u64 x.id, .int .i64 x.tm, .int .i64 (i : Int)][j]? = some u) : w.cell? ⟨x.b, 0 + j, none⟩ = some u :=
  (Sl.of_blk (n := 3) (sz := 1) (off := 0) h rfl (fun j u hu => by rw [Nat.zero_add]; exact hu)).at_ (by
    have := (List.getElem?_eq_some_iff.1 hu).1
    simp only [List.length_cons, List.length_nil] at this
    omega) hu
end
theorem al_new (w : World) : Calls Try.prog 47 #[] w fun e w' => ∃ ab F, e = .returned (aptr ab) ∧ Hp w w' [.rep (fun w => (alA ab []).at_ w F (.bool true)) F true] ∧ ∀ k, F k → w.heap.size ≤ k := by
  refine enter0 Try.func47 rfl (Hp.refl w) ?_
  repeat (first | refine T_seq ?_ | refine T_region ?_ | refine S_nil ?_ | refine S_pure tabOk rfl ?_)
  refine S_makemap rfl .u64 (fun mb hmb => ?_)
  repeat (first | refine S_q (Q_build tabOk rfl rfl rfl rfl rfl rfl rfl) ?_)
  refine S_new tabOk rfl (fun ab hab => ?_)
  repeat (first | refine S_nil ?_ | refine T_ret ?_ | refine S_pure tabOk rfl ?_)
  refine ret1 rfl rfl (fun w' hw => ⟨ab, fun k => k = ab ∨ k = mb, rfl, ?_, fun k hk => by rcases hk with rfl | rfl <;> assumption⟩)
  have h1 : w'.heap[ab]? = _ := hw.own _ (getE_mem (i := 0) rfl)
  have h2 : w'.heap[mb]? = _ := hw.own _ (getE_mem (i := 1) rfl)
  refine hw.widenM (fun e he k hk => ?_) ⟨mb, [], [], 0, ⟨⟨_, h1, .inl rfl, World.ownsRow_nil w' _ _ _, fun k hk => (by cases hk), fun i x hx => (by simp at hx), (by decide)⟩, h2, .inr rfl⟩, .init⟩ (Vp.loc (p := alA ab [])) (fun k hk => ?_)
  · simp only [List.mem_cons, List.not_mem_nil, or_false] at he
    rcases he with rfl | rfl
    · exact .inl (Option.some.inj hk).symm
    · exact .inr (Option.some.inj hk).symm
  · rcases hk with rfl | rfl
    · exact heap_lt h1
    · exact heap_lt h2
section
variable {ab : Nat} {l : List DE} {w : World} {F : Nat → Prop}
theorem al_len (h : (alA ab l).at_ w F (.bool true)) : Calls Try.prog 78 #[aptr ab] w fun e w' => e = .returned (.int .i64 (l.length : Int)) ∧ Below w.heap.size w w' := by
  obtain ⟨mb, s, M, c, ⟨⟨v, hv⟩, _⟩, hR⟩ := h
  obtain ⟨a, cc, rfl, _⟩ := alV_form hv
  obtain ⟨F2, hst⟩ := Hp.startR hv
  refine enter1 Try.func78 rfl rfl hst ?_
  repeat (first | refine T_seq ?_ | refine T_region ?_ | refine S_nil ?_ | refine S_pure tabOk rfl ?_)
  refine S_q (Q_eqptr tabOk rfl rfl rfl rfl rfl) ?_
  repeat (first | refine T_seq ?_ | refine T_region ?_ | refine S_nil ?_ | refine pthen_normal ?_ | refine T_skip ?_ | refine T_cond_f rfl ?_ | refine S_pure tabOk rfl ?_)
  refine S_load1 tabOk (v := .slice a s.length cc) rfl rfl (fun w' hw => alV_sl (hw.own _ (getE_mem (i := 0) rfl)).1) ?_
  repeat (first | refine S_nil ?_ | refine T_ret ?_ | refine S_pure tabOk rfl ?_)
  exact ret1 rfl rfl (fun w' hw => ⟨by rw [hR.len], hw.below (by repeat (first | exact new_nil | refine new_ro ?_))⟩)
theorem al_len0 (w : World) : Calls Try.prog 78 #[.pointer none] w fun e w' => e = .returned (.int .i64 0) ∧ Below w.heap.size w w' := by
  refine enter1 Try.func78 rfl rfl (Hp.refl w) ?_
  repeat (first | refine T_seq ?_ | refine T_region ?_ | refine S_nil ?_ | refine S_pure tabOk rfl ?_)
  refine S_q (Q_eqptr tabOk rfl rfl rfl rfl rfl) ?_
  repeat (first | refine T_seq ?_ | refine T_region ?_ | refine S_nil ?_ | refine pthen_ret ?_ | refine T_ret ?_ | refine T_cond_t rfl ?_ | refine S_pure tabOk rfl ?_)
  exact ret1 rfl rfl (fun w' hw => ⟨rfl, hw.below (by repeat (first | exact new_nil))⟩)
/-- the least time -/
def dNext (l : List DE) : Value := match l with | [] => .tuple #[.int .i64 0, .bool false] | p :: _ => .tuple #[.int .i64 p.2, .bool true]
theorem al_next (h : (alA ab l).at_ w F (.bool true)) : Calls Try.prog 64 #[aptr ab] w fun e w' => e = .returned (dNext l) ∧ Below w.heap.size w w' := by
  have h0 := h
  obtain ⟨mb, s, M, c, ⟨⟨v, hv⟩, hm, hmF⟩, hR⟩ := h
  have hl := hR.len
  cases l with
  | nil =>
    obtain ⟨F2, hst⟩ := Hp.startR h0
    refine enter1 Try.func64 rfl rfl hst ?_
    repeat (first | refine T_seq ?_ | refine T_region ?_ | refine S_nil ?_ | refine S_pure tabOk rfl ?_)
    refine S_callq rfl Try.call78 (fun w1 h1 => al_len (h1.own _ (getE_mem (i := 0) rfl)).1) ?_
    repeat (first | refine T_seq ?_ | refine T_region ?_ | refine S_nil ?_ | refine pthen_ret ?_ | refine T_ret ?_ | refine T_cond_t rfl ?_ | refine S_pure tabOk rfl ?_)
    exact ret2 rfl rfl rfl (fun w' hw => ⟨rfl, hw.below (by repeat (first | exact new_nil | refine new_ro ?_))⟩)
  | cons p rest =>
    have hpos : 0 < s.length := by rw [hl]; exact Nat.succ_pos _
    obtain ⟨g, cc, rfl⟩ := alV_addr hv hpos
    obtain ⟨x, hx⟩ : ∃ x, s[0]? = some x := ⟨_, List.getElem?_eq_getElem hpos⟩
    obtain ⟨_, e1, _⟩ := hR.root hx
    cases e1
    obtain ⟨F2, hst⟩ := Hp.startR (p := ⟨fun w F v => (alA ab (enD x :: rest)).at_ w F (.bool true) ∧ (alV 0 ab mb s).at_ w F v, fun ⟨h1, h2⟩ hk => ⟨(alA ab (enD x :: rest)).keep h1 hk, (alV 0 ab mb s).keep h2 hk⟩⟩) ⟨h0, hv⟩
    refine enter1 Try.func64 rfl rfl hst ?_
    repeat (first | refine T_seq ?_ | refine T_region ?_ | refine S_nil ?_ | refine S_pure tabOk rfl ?_)
    refine S_callq rfl Try.call78 (fun w1 h1 => al_len (h1.own _ (getE_mem (i := 0) rfl)).1.1) ?_
    repeat (first | refine S_nil ?_ | refine S_pure tabOk rfl ?_)
    refine T_cond_dec rfl (fun h => absurd h (by simp only [List.length_cons]; omega)) (fun _ => ?_)
    repeat (first | refine T_seq ?_ | refine T_region ?_ | refine pthen_normal ?_ | refine T_skip ?_ | refine S_pure tabOk rfl ?_)
    refine S_load1 tabOk (v := .slice (some ⟨g, 0, none⟩) s.length cc) rfl rfl (fun w' hw => alV_sl (hw.own _ (getE_mem (i := 0) rfl)).1.2) ?_
    skip
    refine S_q (Q_idx1 tabOk rfl rfl rfl rfl rfl rfl rfl (j := 0) rfl hpos) ?_
    skip
    refine S_load1 tabOk (v := enPt x) rfl rfl (fun w' hw => alV_cell (hw.own _ (getE_mem (i := 0) rfl)).1.2 hx) ?_
    repeat (first | refine S_pure tabOk rfl ?_)
    refine S_load1 tabOk (v := .int .i64 x.tm) rfl rfl (fun w' hw => alV_en (hw.own _ (getE_mem (i := 0) rfl)).1.2 hx (j := 1) rfl) ?_
    repeat (first | refine S_nil ?_ | refine T_ret ?_ | refine S_pure tabOk rfl ?_)
    exact ret2 rfl rfl rfl (fun w' hw => ⟨rfl, hw.below (by repeat (first | exact new_nil | refine new_ro ?_))⟩)
theorem al_next0 (w : World) : Calls Try.prog 64 #[.pointer none] w fun e w' => e = .returned (.tuple #[.int .i64 0, .bool false]) ∧ Below w.heap.size w w' := by
  refine enter1 Try.func64 rfl rfl (Hp.refl w) ?_
  repeat (first | refine T_seq ?_ | refine T_region ?_ | refine S_nil ?_ | refine S_pure tabOk rfl ?_)
  refine S_callq rfl Try.call78 (fun w1 h1 => al_len0 w1) ?_
  repeat (first | refine T_seq ?_ | refine T_region ?_ | refine S_nil ?_ | refine pthen_ret ?_ | refine T_ret ?_ | refine T_cond_t rfl ?_ | refine S_pure tabOk rfl ?_)
  exact ret2 rfl rfl rfl (fun w' hw => ⟨rfl, hw.below (by repeat (first | exact new_nil))⟩)
/-- somebody's time -/
def dAt (l : List DE) (id : Int) : Option Int := (l.find? fun p => decide (p.1 = id)).map (·.2)
def dWhen (l : List DE) (id : Int) : Value := match dAt l id with | none => .tuple #[.int .i64 0, .bool false] | some t => .tuple #[.int .i64 t, .bool true]
theorem dAt_none {l : List DE} {id : Int} (h : ∀ p ∈ l, p.1 ≠ id) : dAt l id = none := by
  unfold dAt
  rw [List.find?_eq_none.2 fun p hp => by simpa using h p hp]
  rfl
theorem dAt_some {l : List DE} {id t : Int} (hn : (l.map (·.1)).Nodup) (h : (id, t) ∈ l) : dAt l id = some t := by
  induction l with
  | nil => cases h
  | cons p l ih =>
    rw [List.map_cons, List.nodup_cons] at hn
    unfold dAt
    by_cases hp : p.1 = id
    · rw [List.find?_cons_of_pos (by simpa using hp)]
      rcases List.mem_cons.1 h with h | h
      · rw [← h]; rfl
      · exact absurd (List.mem_map.2 ⟨_, h, hp.symm⟩) hn.1
    · rw [List.find?_cons_of_neg (by simpa using hp)]
      rcases List.mem_cons.1 h with h | h
      · rw [← h] at hp; exact absurd rfl hp
      · exact ih hn.2 h
end

section
variable {ab mb c : Nat} {s : List En} {M : List ME} {l : List DE} {w w' : World} {F : Nat → Prop} {v : Value}
theorem alS_map_of (h : (alS ab mb s M c).at_ w F v) {M2 : List ME} {c2 : Nat} (hk : ∀ k, k ≠ mb → w'.heap[k]? = w.heap[k]?) (hb : w'.heap[mb]? = some (mapO .u64 M2 c2)) : (alS ab mb s M2 c2).at_ w' F v := by
  obtain ⟨h1, h2, h3⟩ := h
  exact ⟨(alP 0 ab mb s).keep (alP_less h1 h2) fun k hk2 _ => ⟨hk k hk2.2, hk2.1⟩, hb, h3⟩
theorem alQ_map_of {x : En} {p : Nat} (h : (alQ ab mb s M c x p).at_ w F v) {M2 : List ME} {c2 : Nat} (hk : ∀ k, k ≠ mb → w'.heap[k]? = w.heap[k]?) (hb : w'.heap[mb]? = some (mapO .u64 M2 c2)) : (alQ ab mb s M2 c2 x p).at_ w' F v := by
  obtain ⟨⟨h1, h4, h5⟩, h2, h3⟩ := h
  exact ⟨⟨(alP 0 ab mb s).keep (alP_less h1 h2) fun k hk2 _ => ⟨hk k hk2.2, hk2.1⟩, (hk _ (map_ne h4 h2)).trans h4, h5⟩, hb, h3⟩
theorem alS_set (h : (alS ab mb s M c).at_ w F v) {i : Nat} {x : En} (hx : s[i]? = some x) (tm : Int) (hk : ∀ k, k ≠ x.b → w'.heap[k]? = w.heap[k]?) (hb : w'.heap[x.b]? = some (enO ⟨x.b, x.id, tm⟩ i)) : (alS ab mb (s.set i ⟨x.b, x.id, tm⟩) M c).at_ w' F v := by
  obtain ⟨⟨u, h1, h2, h3, h5, h6, h7⟩, h8, h9⟩ := h
  have hi := (List.getElem?_eq_some_iff.1 hx).1
  refine ⟨⟨u, (hk _ (cells_ne h1 (h6 i x hx).1 (by decide))).trans h1, h2, ?_, h5, fun j z hz => ?_, by rw [List.length_set]; exact h7⟩, (hk _ (map_ne (h6 i x hx).1 h8).symm).trans h8, h9⟩
  · rw [List.length_set, List.map_set]
    have e1 : (s.map enPt).set i (enPt ⟨x.b, x.id, tm⟩) = s.map enPt := set_self (by rw [List.getElem?_map, hx]; rfl)
    rw [e1]
    refine own_keep h3 fun k hv => hk k fun e => ?_
    obtain ⟨cur, h10⟩ := row_blk h3 hv
    exact cells_ne h10 (h6 i x hx).1 (by decide) e
  · by_cases hij : i = j
    · subst hij
      rw [List.getElem?_set_self hi] at hz
      cases hz
      exact ⟨hb, (h6 i x hx).2⟩
    · rw [List.getElem?_set_ne hij] at hz
      refine ⟨(hk _ fun e => ?_).trans (h6 j z hz).1, (h6 j z hz).2⟩
      have h10 := (h6 j z hz).1
      rw [e, (h6 i x hx).1] at h10
      have h11 := (Obj.cells.inj (Option.some.inj h10)).1
      simp only [Array.mk.injEq, List.cons.injEq, Value.int.injEq, true_and, and_true] at h11
      omega
theorem alS_join {x : En} {p : Nat} {ol : OL} {w0 : World} (h : Hp w0 w (.blk x.b (enO x p) true :: .rep (fun w => (alS ab mb s M c).at_ w F (.bool true)) F true :: ol)) : Hp w0 w (.rep (fun w => (alQ ab mb s M c x p).at_ w (fun k => F k ∨ k = x.b) (.bool true)) (fun k => F k ∨ k = x.b) true :: ol) := by
  have o0 : w.heap[x.b]? = _ := h.own _ (getE_mem (i := 0) rfl)
  obtain ⟨⟨h1, h2, h3⟩, _, o2⟩ := h.own _ (getE_mem (i := 1) rfl)
  refine Hp.regroup [.blk x.b (enO x p) true, .rep (fun w => (alS ab mb s M c).at_ w F (.bool true)) F true] [.rep (fun w => (alQ ab mb s M c x p).at_ w (fun k => F k ∨ k = x.b) (.bool true)) (fun k => F k ∨ k = x.b) true] h (fun e he => ?_) (fun e he => ?_) (List.pairwise_singleton _ _) (fun e he k hk => ?_) (fun e he k hk => ?_)
  · simp only [List.mem_cons, List.not_mem_nil, or_false] at he
    rcases he with rfl | rfl <;> rfl
  · rw [List.mem_singleton] at he
    subst he
    refine ⟨rfl, ⟨⟨(alP 0 ab mb s).keep h1 fun k hk _ => ⟨rfl, .inl hk⟩, o0, .inr rfl⟩, h2, .inl h3⟩, Vp.loc (p := alQ ab mb s M c x p), fun k hk => ?_⟩
    rcases hk with hk | rfl
    · exact o2 k hk
    · exact heap_lt o0
  · rw [List.mem_singleton] at he
    subst he
    rcases hk with hk | rfl
    · exact ⟨_, List.mem_cons_of_mem _ List.mem_cons_self, hk⟩
    · exact ⟨_, List.mem_cons_self, rfl⟩
  · simp only [List.mem_cons, List.not_mem_nil, or_false] at he
    rcases he with rfl | rfl
    · exact .inr ⟨_, List.mem_cons_self, .inr (Option.some.inj hk).symm⟩
    · exact .inr ⟨_, List.mem_cons_self, .inl hk⟩
/-- what an object's call leaves -/
def Turns (w : World) (F : Nat → Prop) (p : Vp) (w' : World) : Prop := ∃ F' : Nat → Prop, (∀ k, F k → F' k) ∧ (∀ k, F' k → F k ∨ w.heap.size ≤ k) ∧ Hp w w' [.rep (fun w => p.at_ w F' (.bool true)) F' true]
set_option maxHeartbeats 2000000 in
theorem al_set (h : (alA ab l).at_ w F (.bool true)) (hF : ∀ k, F k → k < w.heap.size) (hl : l.length < 1073741824) (id tm : Int) : Calls Try.prog 35 #[aptr ab, .int .u64 id, .int .i64 tm] w fun e w' => e = .returned (.tuple #[]) ∧ Turns w F (alA ab (dSet l id tm)) w' := by
  obtain ⟨mb, s, M, c, hS, hR⟩ := h
  have hmb := hS.2.2
  refine enter3 Try.func35 rfl rfl (Hp.startO hS hF) ?_
  repeat (first | refine T_seq ?_ | refine T_region ?_ | refine S_pure tabOk rfl ?_)
  refine S_q (Q_eqptr tabOk rfl rfl rfl rfl rfl) ?_
  repeat (first | refine T_seq ?_ | refine T_region ?_ | refine S_nil ?_ | refine pthen_normal ?_ | refine T_skip ?_ | refine T_cond_f rfl ?_ | refine S_pure tabOk rfl ?_)
  refine S_load1 tabOk (v := .map (some mb)) rfl rfl (fun w' hw => alS_map (hw.own _ (getE_mem (i := 0) rfl)).1) ?_
  repeat (first | refine S_pure tabOk rfl ?_)
  cases hg : mGet M id with
  | some u =>
    obtain ⟨i, x, hx, rfl, rfl⟩ := hR.hit hg
    have hi := (List.getElem?_eq_some_iff.1 hx).1
    have hxF := (alS_en hS hx).2
    refine S_q (Q_look1 tabOk rfl rfl rfl rfl rfl rfl rfl rfl (fun w' hw => (hw.own _ (getE_mem (i := 0) rfl)).1.2.1) hg) ?_
    repeat (first | refine T_seq ?_ | refine T_region ?_ | refine S_nil ?_ | refine S_pure tabOk rfl ?_)
    refine T_cond_t rfl ?_
    repeat (first | refine T_seq ?_ | refine T_region ?_ | refine S_pure tabOk rfl ?_)
    refine S_storeO tabOk 0 (Ψ := fun w => (alS ab mb (s.set i ⟨x.b, x.id, tm⟩) M c).at_ w F (.bool true)) [.int .u64 x.id, .int .i64 x.tm, .int .i64 (i : Int)] [.int .u64 x.id, .int .i64 tm, .int .i64 (i : Int)] 134 rfl rfl (fun u hu => by rw [List.mem_singleton] at hu; subst hu; rfl) rfl hxF (fun w h => (alS_en h hx).1) rfl (fun w w' h h1 h2 => alS_set h hx tm h1 h2) Vp.loc rfl ?_
    repeat (first | refine T_seq ?_ | refine S_nil ?_)
    refine T_drawT (by kernel_rfl) 8 rfl (by kernel_rfl) ?_
    repeat (first | refine D_pure tabOk rfl ?_)
    refine D_q (Q_mkif tabOk rfl rfl rfl rfl) ?_
    repeat (first | refine D_pure tabOk rfl ?_)
    have hx2 : (s.set i ⟨x.b, x.id, tm⟩)[i]? = some ⟨x.b, x.id, tm⟩ := List.getElem?_set_self hi
    refine D_load1 tabOk (v := .int .i64 (i : Int)) rfl rfl (fun w' hw => en_cell (alS_en (hw.own _ (getE_mem (i := 0) rfl)).1 hx2).1 (j := 2) rfl) ?_
    repeat (first | refine D_all rfl ?_)
    refine S_callT 0 rfl Try.call65 rfl (fun w1 g => (alheap_fix (g.own _ (getE_mem (i := 0) rfl)).1 (g.own _ (getE_mem (i := 0) rfl)).2.2 i (by rw [List.length_set]; exact hi)).mono fun e w' ⟨he, F', g1, g2, g3⟩ => ⟨_, _, F', he, g3, g1, g2, _, rfl, ?_⟩)
    have hsz := g.size
    repeat (first | refine S_nil ?_ | refine pthen_ret ?_ | refine T_ret ?_)
    exact ret0 rfl (fun w' hw => ⟨rfl, F', g1, fun k hk => (g2 k hk).imp id (fun h => Nat.le_trans hsz h), hw.turnX 0 rfl (fun h => ⟨mb, _, M, c, h, hR.setOld (alOb_ol 0 ab mb) hx tm⟩) (Vp.loc (p := alA ab (dSet l x.id tm))) rfl⟩)
  | none =>
    refine S_q (Q_look0 tabOk rfl rfl rfl rfl rfl rfl rfl rfl (fun w' hw => (hw.own _ (getE_mem (i := 0) rfl)).1.2.1) hg) ?_
    repeat (first | refine T_seq ?_ | refine T_region ?_ | refine S_nil ?_ | refine pthen_normal ?_ | refine T_skip ?_ | refine T_cond_f rfl ?_ | refine S_pure tabOk rfl ?_ | refine S_q (Q_build tabOk rfl rfl rfl rfl rfl rfl rfl) ?_)
    refine S_new tabOk rfl (fun xb hxb => ?_)
    obtain ⟨x, hx⟩ : ∃ x : En, x = ⟨xb, id, tm⟩ := ⟨_, rfl⟩
    repeat (first | refine T_seq ?_ | refine T_region ?_ | refine S_nil ?_ | refine S_pure tabOk rfl ?_)
    refine S_load1 tabOk (v := .map (some mb)) rfl rfl (fun w' hw => alS_map (hw.own _ (getE_mem (i := 1) rfl)).1) ?_
    repeat (first | refine S_pure tabOk rfl ?_)
    refine S_mapupdO tabOk 1 (Ψ := fun w => (alS ab mb s (mPut M id (enPt ⟨xb, id, tm⟩) c).1 (mPut M id (enPt ⟨xb, id, tm⟩) c).2).at_ w F (.bool true)) M c rfl rfl rfl rfl rfl rfl rfl rfl rfl hmb (fun w h => h.2.1) (fun w w' h h1 h2 => alS_map_of h h1 h2) Vp.loc rfl ?_
    repeat (first | refine S_nil ?_ | refine S_pure tabOk rfl ?_ | refine T_region_any ?_)
    refine S_q (Q_mkif tabOk rfl rfl rfl rfl) ?_
    repeat (first | refine S_pure tabOk rfl ?_)
    refine S_q (Q_mkif tabOk rfl rfl rfl rfl) ?_
    refine S_toX (ι := Unit) (fun _ => True) (fun _ => _) (fun w hh => ⟨(), trivial, alS_join (x := ⟨xb, id, tm⟩) (p := 0) hh⟩) (fun _ _ => ?_)
    have hne : ∀ (i : Nat) (z : En), s[i]? = some z → z.b ≠ xb := fun i z hz he => by
      have h1 := hF z.b (alS_en hS hz).2
      omega
    refine S_callT 0 rfl Try.call66 rfl (fun w1 g => (alheap_push (x := ⟨xb, id, tm⟩) (p := 0) (g.own _ (getE_mem (i := 0) rfl)).1 (g.own _ (getE_mem (i := 0) rfl)).2.2 (by rw [hR.len]; exact hl) hne).mono fun e w' ⟨he, F', g1, g2, g3⟩ => ⟨_, _, F', he, g3, g1, g2, _, rfl, ?_⟩)
    have hsz := g.size
    repeat (first | refine S_nil ?_)
    exact ret0n rfl (fun w' hw => ⟨rfl, F', fun k hk => g1 k (.inl hk), fun k hk => by
      rcases g2 k hk with (h | h) | h
      · exact .inl h
      · exact .inr (by rw [h]; exact hxb)
      · exact .inr (Nat.le_trans hsz h), hw.turnX 0 rfl (fun h => ⟨mb, _, _, _, h, hR.setNew (x := ⟨xb, id, tm⟩) (alOb_ol 0 ab mb) hg c⟩) (Vp.loc (p := alA ab (dSet l id tm))) rfl⟩)
theorem al_set0 (w : World) (id tm : Int) : Calls Try.prog 35 #[.pointer none, .int .u64 id, .int .i64 tm] w fun e w' => e = .returned (.tuple #[]) ∧ Below w.heap.size w w' := by
  refine enter3 Try.func35 rfl rfl (Hp.refl w) ?_
  repeat (first | refine T_seq ?_ | refine T_region ?_ | refine S_pure tabOk rfl ?_)
  refine S_q (Q_eqptr tabOk rfl rfl rfl rfl rfl) ?_
  repeat (first | refine S_nil ?_ | refine pthen_ret ?_ | refine T_ret ?_ | refine T_cond_t rfl ?_)
  exact ret0 rfl (fun w' hw => ⟨rfl, hw.below (by repeat (first | exact new_nil))⟩)
set_option maxHeartbeats 2000000 in
theorem al_clear (h : (alA ab l).at_ w F (.bool true)) (hF : ∀ k, F k → k < w.heap.size) (id : Int) : Calls Try.prog 45 #[aptr ab, .int .u64 id] w fun e w' => e = .returned (.bool (dAt l id).isSome) ∧ Turns w F (alA ab (dClear l id)) w' := by
  obtain ⟨mb, s, M, c, hS, hR⟩ := h
  have hmb := hS.2.2
  refine enter2 Try.func45 rfl rfl (Hp.startO hS hF) ?_
  repeat (first | refine T_seq ?_ | refine T_region ?_ | refine S_nil ?_ | refine S_pure tabOk rfl ?_)
  refine S_q (Q_eqptr tabOk rfl rfl rfl rfl rfl) ?_
  repeat (first | refine T_seq ?_ | refine T_region ?_ | refine S_nil ?_ | refine pthen_normal ?_ | refine T_skip ?_ | refine T_cond_f rfl ?_ | refine S_pure tabOk rfl ?_)
  refine S_load1 tabOk (v := .map (some mb)) rfl rfl (fun w' hw => alS_map (hw.own _ (getE_mem (i := 0) rfl)).1) ?_
  repeat (first | refine S_pure tabOk rfl ?_)
  cases hg : mGet M id with
  | some u =>
    obtain ⟨i, x, hx, rfl, rfl⟩ := hR.hit hg
    have hi := (List.getElem?_eq_some_iff.1 hx).1
    rw [dAt_some hR.ids (hR.find hx)]
    refine S_q (Q_look1 tabOk rfl rfl rfl rfl rfl rfl rfl rfl (fun w' hw => (hw.own _ (getE_mem (i := 0) rfl)).1.2.1) hg) ?_
    repeat (first | refine T_seq ?_ | refine T_region ?_ | refine S_nil ?_ | refine S_pure tabOk rfl ?_)
    refine T_cond_t rfl ?_
    repeat (first | refine T_seq ?_)
    refine T_drawT (by kernel_rfl) 8 rfl (by kernel_rfl) ?_
    repeat (first | refine D_pure tabOk rfl ?_)
    refine D_q (Q_mkif tabOk rfl rfl rfl rfl) ?_
    repeat (first | refine D_pure tabOk rfl ?_)
    refine D_load1 tabOk (v := .int .i64 (i : Int)) rfl rfl (fun w' hw => en_cell (alS_en (hw.own _ (getE_mem (i := 0) rfl)).1 hx).1 (j := 2) rfl) ?_
    repeat (first | refine D_all rfl ?_)
    refine S_callT 0 rfl Try.call73 rfl (fun w1 g => (alheap_remove (g.own _ (getE_mem (i := 0) rfl)).1 (g.own _ (getE_mem (i := 0) rfl)).2.2 i hx).mono fun e w' ⟨he, F', g1, g2, g3⟩ => ⟨_, _, F', he, g3, g1, g2, _, rfl, ?_⟩)
    have hsz := g.size
    repeat (first | refine T_region ?_ | refine S_nil ?_ | refine S_pure tabOk rfl ?_)
    refine S_load1 tabOk (v := .map (some mb)) rfl rfl (fun w' hw => alS_map (hw.own _ (getE_mem (i := 0) rfl)).1) ?_
    repeat (first | refine S_pure tabOk rfl ?_)
    refine S_deleteO tabOk 0 (Ψ := fun w => (alS ab mb (((alOb 0 ab mb).rm s i).take (s.length - 1)) (mDel M x.id) c).at_ w F' (.bool true)) M c rfl rfl rfl rfl rfl rfl rfl rfl (g1 _ hmb) (fun w h => h.2.1) (fun w w' h h1 h2 => alS_map_of h h1 h2) Vp.loc rfl ?_
    repeat (first | refine T_seq ?_ | refine T_region ?_ | refine S_nil ?_ | refine T_ret ?_ | refine S_pure tabOk rfl ?_)
    exact ret1 rfl rfl (fun w' hw => ⟨rfl, F', g1, fun k hk => (g2 k hk).imp id (fun h => Nat.le_trans hsz h), hw.turnX 0 rfl (fun h => ⟨mb, _, _, c, h, hR.clear (alOb_ol 0 ab mb) hx⟩) (Vp.loc (p := alA ab (dClear l x.id))) rfl⟩)
  | none =>
    rw [dAt_none (hR.missl hg), dClear_same (hR.missl hg)]
    refine S_q (Q_look0 tabOk rfl rfl rfl rfl rfl rfl rfl rfl (fun w' hw => (hw.own _ (getE_mem (i := 0) rfl)).1.2.1) hg) ?_
    repeat (first | refine T_seq ?_ | refine T_region ?_ | refine S_nil ?_ | refine pthen_normal ?_ | refine T_skip ?_ | refine T_ret ?_ | refine T_cond_f rfl ?_ | refine S_pure tabOk rfl ?_)
    exact ret1 rfl rfl (fun w' hw => ⟨rfl, F, fun k hk => hk, fun k hk => .inl hk, hw.turnX 0 rfl (fun h => ⟨mb, _, _, c, h, hR⟩) (Vp.loc (p := alA ab l)) rfl⟩)
theorem al_clear0 (w : World) (id : Int) : Calls Try.prog 45 #[.pointer none, .int .u64 id] w fun e w' => e = .returned (.bool false) ∧ Below w.heap.size w w' := by
  refine enter2 Try.func45 rfl rfl (Hp.refl w) ?_
  repeat (first | refine T_seq ?_ | refine T_region ?_ | refine S_nil ?_ | refine S_pure tabOk rfl ?_)
  refine S_q (Q_eqptr tabOk rfl rfl rfl rfl rfl) ?_
  repeat (first | refine T_seq ?_ | refine T_region ?_ | refine S_nil ?_ | refine pthen_ret ?_ | refine T_ret ?_ | refine T_cond_t rfl ?_ | refine S_pure tabOk rfl ?_)
  exact ret1 rfl rfl (fun w' hw => ⟨rfl, hw.below (by repeat (first | exact new_nil))⟩)
end

def dOut (l : List DE) (now : Int) : List Int := (l.takeWhile fun p => decide (p.2 ≤ now)).map (·.1)
def dRest (l : List DE) (now : Int) : List DE := l.dropWhile fun p => decide (p.2 ≤ now)
theorem while_at {α : Type} {p : α → Bool} : ∀ {l : List α} {k : Nat}, (∀ j x, j < k → l[j]? = some x → p x = true) → (∀ x, l[k]? = some x → p x = false) → k ≤ l.length → l.takeWhile p = l.take k ∧ l.dropWhile p = l.drop k
  | [], k, _, _, h => by
    have : k = 0 := by simpa using h
    subst this
    exact ⟨rfl, rfl⟩
  | x :: l, 0, _, h2, _ => by
    rw [List.takeWhile_cons_of_neg (by rw [h2 x rfl]; decide), List.dropWhile_cons_of_neg (by rw [h2 x rfl]; decide)]
    exact ⟨rfl, rfl⟩
  | x :: l, k + 1, h1, h2, h => by
    have := while_at (p := p) (l := l) (k := k) (fun j y hj hy => h1 (j + 1) y (by omega) (by rw [List.getElem?_cons_succ]; exact hy)) (fun y hy => h2 y (by rw [List.getElem?_cons_succ]; exact hy)) (by simpa using h)
    rw [List.takeWhile_cons_of_pos (h1 0 x (by omega) rfl), List.dropWhile_cons_of_pos (h1 0 x (by omega) rfl), this.1, this.2]
    exact ⟨rfl, rfl⟩
theorem due_at {l : List DE} {now : Int} {k : Nat} (h1 : ∀ p ∈ l.take k, p.2 ≤ now) (h2 : ∀ p, l[k]? = some p → now < p.2) (h : k ≤ l.length) : dOut l now = (l.take k).map (·.1) ∧ dRest l now = l.drop k := by
  have := while_at (p := fun p : DE => decide (p.2 ≤ now)) (l := l) (k := k) (fun j x hj hx => by
    rw [decide_eq_true_eq]
    exact h1 x (List.mem_of_getElem? (i := j) (by rw [List.getElem?_take_of_lt hj]; exact hx))) (fun x hx => by
    rw [decide_eq_false_iff_not]
    have := h2 x hx
    omega) h
  unfold dOut dRest
  rw [this.1, this.2]
  exact ⟨rfl, rfl⟩
structure DueI where
  k : Nat
  A : Option Addr
  C : Nat
  F : Nat → Prop
abbrev u64s (l : List Int) : List Value := l.map (.int .u64)
set_option maxHeartbeats 2000000 in
theorem al_due {ab : Nat} {l : List DE} {w : World} {F : Nat → Prop} (h : (alA ab l).at_ w F (.bool true)) (hF : ∀ k, F k → k < w.heap.size) (hl : l.length < 1073741824) (now : Int) : Calls Try.prog 48 #[aptr ab, .int .i64 now] w fun e w' => ∃ A C, e = .returned (.slice A (dOut l now).length C) ∧
    ∃ F' : Nat → Prop, (∀ k, F k → F' k) ∧ (∀ k, F' k → F k ∨ w.heap.size ≤ k) ∧ Hp w w' [.row w.heap.size (.slice A (dOut l now).length C) 34 1 (dOut l now).length (u64s (dOut l now)), .rep (fun w => (alA ab (dRest l now)).at_ w F' (.bool true)) F' true] := by
  refine enter2 Try.func48 rfl rfl (Hp.startO h hF) ?_
  repeat (first | refine T_seq ?_ | refine T_region ?_ | refine T_block ?_ | refine S_nil ?_ | refine S_pure tabOk rfl ?_)
  refine T_loop (ι := DueI) (fun i => [(0, aptr ab), (1, .int .i64 now), (5, .slice i.A i.k i.C)])
    (fun i => [.row w.heap.size (.slice i.A i.k i.C) 34 1 i.k (u64s ((l.take i.k).map (·.1))), .rep (fun w => (alA ab (l.drop i.k)).at_ w i.F (.bool true)) i.F true])
    (fun i => i.k ≤ l.length ∧ (∀ p ∈ l.take i.k, p.2 ≤ now) ∧ (∀ k, F k → i.F k) ∧ (∀ k, i.F k → F k ∨ w.heap.size ≤ k)) (fun i => l.length - i.k) ⟨0, none, 0, F⟩ ⟨Nat.zero_le _, by simp, fun k hk => hk, fun k hk => .inl hk⟩ (by repeat (first | exact Sub.nil | refine Sub.cons rfl ?_)) (fun w' hw => hw.nilRow _ _) ?_
  rintro ⟨k, A, C, F1⟩ ⟨hk, hle, hF1, hF2⟩
  dsimp only at hk hle hF1 hF2 ⊢
  refine T_toX (ι := Nat × List En × List ME × Nat) (fun i => AR i.2.1 i.2.2.1 (l.drop k) ∧ F1 i.1) (fun i => [.row w.heap.size (.slice A k C) 34 1 k (u64s ((l.take k).map (·.1))), .rep (fun w => (alS ab i.1 i.2.1 i.2.2.1 i.2.2.2).at_ w F1 (.bool true)) F1 true]) (fun w1 hh => by
    obtain ⟨⟨mb, s, M, c, e1, e2⟩, _, _⟩ := hh.own _ (getE_mem (i := 1) rfl)
    exact ⟨⟨mb, s, M, c⟩, ⟨e2, e1.2.2⟩, hh.turnX 1 rfl (fun _ => e1) Vp.loc rfl⟩) ?_
  rintro ⟨mb, s, M, c⟩ ⟨hR, hmb⟩
  dsimp only at hR hmb ⊢
  have hfin : ∀ w', (∀ p, l[k]? = some p → now < p.2) → Hp w w' [.row w.heap.size (.slice A k C) 34 1 k (u64s ((l.take k).map (·.1))), .rep (fun w => (alS ab mb s M c).at_ w F1 (.bool true)) F1 true] → ∃ A2 C2, Ending.returned (.slice A k C) = .returned (.slice A2 (dOut l now).length C2) ∧
    ∃ F' : Nat → Prop, (∀ k, F k → F' k) ∧ (∀ k, F' k → F k ∨ w.heap.size ≤ k) ∧ Hp w w' [.row w.heap.size (.slice A2 (dOut l now).length C2) 34 1 (dOut l now).length (u64s (dOut l now)), .rep (fun w => (alA ab (dRest l now)).at_ w F' (.bool true)) F' true] := fun w' h2 hw => by
    obtain ⟨e1, e2⟩ := due_at hle h2 hk
    have e3 : (dOut l now).length = k := by rw [e1, List.length_map, List.length_take]; omega
    rw [e3, e1, e2]
    exact ⟨A, C, rfl, F1, hF1, hF2, hw.turnX 1 rfl (fun h => ⟨mb, s, M, c, h, hR⟩) (Vp.loc (p := alA ab (l.drop k))) rfl⟩
  cases hd : l.drop k with
  | nil =>
    rw [hd] at hR
    repeat (first | refine T_seq ?_ | refine T_region ?_ | refine T_block ?_ | refine S_pure tabOk rfl ?_)
    refine S_callq rfl Try.call64 (fun w1 h1 => al_next (l := []) ⟨mb, s, M, c, (h1.own _ (getE_mem (i := 1) rfl)).1, hR⟩) ?_
    repeat (first | refine T_seq ?_ | refine T_region ?_ | refine S_nil ?_ | refine S_pure tabOk rfl ?_ | refine S_pass rfl rfl rfl ?_)
    refine T_cond_t rfl ?_
    repeat (first | refine T_seq ?_ | refine T_region ?_ | refine S_nil ?_ | refine inb_ret ?_ | refine pthen_ret ?_ | refine T_ret ?_ | refine S_pure tabOk rfl ?_)
    exact ret1 rfl rfl (fun w' hw => hfin w' (fun p hp => by
      have := (List.getElem?_eq_some_iff.1 hp).1
      rw [List.drop_eq_nil_iff] at hd
      omega) hw)
  | cons p rest =>
    have hkl : k < l.length := by
      rcases Nat.lt_or_ge k l.length with h | h
      · exact h
      · rw [List.drop_eq_nil_iff.2 h] at hd; cases hd
    have hpk : l[k]? = some p ∧ l.drop (k + 1) = rest := by
      rw [List.drop_eq_getElem_cons hkl] at hd
      cases hd
      exact ⟨List.getElem?_eq_getElem hkl, rfl⟩
    rw [hd] at hR
    have hpos : 0 < s.length := by rw [hR.len]; exact Nat.succ_pos _
    obtain ⟨x, hx⟩ : ∃ x, s[0]? = some x := ⟨_, List.getElem?_eq_getElem hpos⟩
    obtain ⟨rest', e1, e2⟩ := hR.root hx
    cases e1
    repeat (first | refine T_seq ?_ | refine T_region ?_ | refine T_block ?_ | refine S_pure tabOk rfl ?_)
    refine S_callq rfl Try.call64 (fun w1 h1 => al_next (l := enD x :: rest) ⟨mb, s, M, c, (h1.own _ (getE_mem (i := 1) rfl)).1, hR⟩) ?_
    repeat (first | refine T_seq ?_ | refine T_region ?_ | refine S_nil ?_ | refine S_pure tabOk rfl ?_)
    refine T_cond_dec rfl (fun hgt => ?_) (fun hgt => ?_)
    · repeat (first | refine T_seq ?_ | refine T_region ?_ | refine S_nil ?_ | refine inb_ret ?_ | refine pthen_ret ?_ | refine T_ret ?_ | refine S_pure tabOk rfl ?_)
      exact ret1 rfl rfl (fun w' hw => hfin w' (fun p hp => by
        rw [hpk.1] at hp
        cases hp
        exact hgt) hw)
    · repeat (first | refine T_seq ?_ | refine T_region ?_ | refine pthen_normal ?_ | refine T_skip ?_ | refine S_pure tabOk rfl ?_)
      refine S_q (Q_mkif tabOk rfl rfl rfl rfl) ?_
      refine S_callT 1 rfl Try.call74 rfl (fun w1 g => (alheap_pop (g.own _ (getE_mem (i := 1) rfl)).1 (g.own _ (getE_mem (i := 1) rfl)).2.2 hx).mono fun e w' ⟨he, F', g1, g2, g3⟩ => ⟨_, _, F', he, g3, g1, g2, _, rfl, ?_⟩)
      have hsz := g.size
      refine S_q (Q_tassert tabOk rfl rfl rfl rfl) ?_
      repeat (first | refine T_seq ?_ | refine S_nil ?_ | refine S_pure tabOk rfl ?_)
      refine T_drawT (by kernel_rfl) 8 rfl (by kernel_rfl) ?_
      repeat (first | refine D_pure tabOk rfl ?_)
      refine D_load1 tabOk (v := .map (some mb)) rfl rfl (fun w' hw => by
        have h9 := (hw.own _ (getE_mem (i := 1) rfl)).1
        exact alS_map (v := .bool true) ⟨h9.1.1, h9.2⟩) ?_
      repeat (first | refine D_pure tabOk rfl ?_)
      refine D_load1 tabOk (v := .int .u64 x.id) rfl rfl (fun w' hw => en_cell (hw.own _ (getE_mem (i := 1) rfl)).1.1.2.1 (j := 0) rfl) ?_
      repeat (first | refine D_all rfl ?_)
      refine S_deleteO tabOk 1 (Ψ := fun w => (alQ ab mb (((alOb 0 ab mb).pp s).take (s.length - 1)) (mDel M x.id) c x (s.length - 1)).at_ w F' (.bool true)) M c rfl rfl rfl rfl rfl rfl rfl rfl (g1 _ hmb) (fun w h => h.2.1) (fun w w' h h1 h2 => alQ_map_of h h1 h2) Vp.loc rfl ?_
      repeat (first | refine S_nil ?_ | refine S_pure tabOk rfl ?_ | refine T_region_any ?_)
      refine S_load1 tabOk (v := .int .u64 x.id) rfl rfl (fun w' hw => en_cell (hw.own _ (getE_mem (i := 1) rfl)).1.1.2.1 (j := 0) rfl) ?_
      refine S_bslice tabOk rfl rfl rfl rfl rfl rfl rfl rfl rfl rfl rfl rfl (fun nb hnb => ?_)
      refine S_append (ty := 0) tabOk 1 (news := [.int .u64 x.id]) rfl rfl rfl rfl rfl rfl rfl rfl rfl (by decide) (fun w' h => Sl.of_blk (h.own _ (getE_mem (i := 0) rfl)) rfl fun j u hu => by rw [Nat.zero_add]; exact hu) (fun u hu => by rw [List.mem_singleton] at hu; subst hu; rfl) (by simp only [maxLen]; omega) (by show (_ + _) * 8 ≤ _; omega) rfl (fun A' C' h1 h2 => ⟨_, rfl, ?_⟩)
      repeat (first | refine S_nil ?_ | refine pthen_normal ?_ | refine inb_normal ?_ | refine S_pure tabOk rfl ?_)
      have htk : l.take (k + 1) = l.take k ++ [enD x] := by rw [List.take_add_one, hpk.1]; rfl
      refine ⟨⟨k + 1, A', C', F'⟩, ⟨hkl, fun p hp => ?_, fun j hj => g1 j (hF1 j hj), fun j hj => ?_⟩, by repeat (first | exact Sub.nil | refine Sub.cons rfl ?_), fun w' hw => ?_, by show l.length - (k + 1) < l.length - k; omega⟩
      · rw [htk] at hp
        rcases List.mem_append.1 hp with hp | hp
        · exact hle p hp
        · rw [List.mem_singleton] at hp
          subst hp
          show x.tm ≤ now
          have : ¬ now < x.tm := hgt
          omega
      · rcases g2 j hj with h | h
        · exact hF2 j h
        · exact .inr (Nat.le_trans hsz h)
      · have h9 := hw.drop (fun _ k hk => by
          rw [← Option.some.inj hk]
          exact hnb)
        rw [htk, List.map_append, show u64s (List.map (·.1) (l.take k) ++ List.map (·.1) [enD x]) = u64s (List.map (·.1) (l.take k)) ++ [.int .u64 x.id] from List.map_append]
        exact h9.turnX 1 rfl (fun h => ⟨mb, _, _, c, ⟨h.1.1, h.2⟩, by
          have := hR.pop (alOb_ol 0 ab mb) hx
          rw [e2] at this
          rw [hpk.2]
          exact this⟩) (Vp.loc (p := alA ab (l.drop (k + 1)))) rfl

section
variable {P : Program} {n : Nat} {w0 : World} {all : Array Oper} {os : List Oper} {o : Oper} {l : FL} {ol : OL} {K : FL → OL → Prop} {Q : Post} {d : Nat}
/-- a call that turns an object of our own -/
theorem S_turn (i : Nat) {p q : Vp} {F : Nat → Prop} {f : FuncId} {vs : List Value} {v : Value} (hs : callAt? n all (look l) o = some (d, f, vs)) (hcall : ∀ args w, (callFunc f args).run P w = .ok (.enter f args) w) (hi : getE ol i = some (.rep (fun w => p.at_ w F (.bool true)) F true)) (hN : ∀ k, F k → w0.heap.size ≤ k)
    (hc : ∀ w, p.at_ w F (.bool true) → (∀ k, F k → k < w.heap.size) → Calls P f vs.toArray w (fun e w' => e = .returned v ∧ Turns w F q w')) (k : ∀ F' : Nat → Prop, (∀ k, F' k → w0.heap.size ≤ k) → ∃ ol', putE ol i (.rep (fun w => q.at_ w F' (.bool true)) F' true) = some ol' ∧ S P n w0 all os ((d, v) :: l) ol' K Q) : S P n w0 all (o :: os) l ol K Q :=
  S_callT i hs hcall hi fun w g => (hc w (g.own _ (getE_mem hi)).1 (g.own _ (getE_mem hi)).2.2).mono fun e w' ⟨he, F', g1, g2, g3⟩ => by
    obtain ⟨ol', e1, e2⟩ := k F' fun j hj => (g2 j hj).elim (hN j) (Nat.le_trans g.size)
    exact ⟨v, _, F', he, g3, g1, g2, ol', e1, e2⟩
/-- .. and makes a slice -/
theorem S_turnR (i : Nat) {p q : Vp} {F : Nat → Prop} {f : FuncId} {vs : List Value} {E : TypeId} {sz m : Nat} {xs : List Value} (hs : callAt? n all (look l) o = some (d, f, vs)) (hcall : ∀ args w, (callFunc f args).run P w = .ok (.enter f args) w) (hi : getE ol i = some (.rep (fun w => p.at_ w F (.bool true)) F true)) (hN : ∀ k, F k → w0.heap.size ≤ k)
    (hc : ∀ w, p.at_ w F (.bool true) → (∀ k, F k → k < w.heap.size) → Calls P f vs.toArray w (fun e w' => ∃ A C, e = .returned (.slice A m C) ∧ ∃ F' : Nat → Prop, (∀ k, F k → F' k) ∧ (∀ k, F' k → F k ∨ w.heap.size ≤ k) ∧ Hp w w' [.row w.heap.size (.slice A m C) E sz m xs, .rep (fun w => q.at_ w F' (.bool true)) F' true]))
    (k : ∀ A C (F' : Nat → Prop), (∀ k, F' k → w0.heap.size ≤ k) → ∃ ol', putE ol i (.rep (fun w => q.at_ w F' (.bool true)) F' true) = some ol' ∧ S P n w0 all os ((d, .slice A m C) :: l) (.row w0.heap.size (.slice A m C) E sz m xs :: ol') K Q) : S P n w0 all (o :: os) l ol K Q :=
  S_callTR i hs hcall hi fun w g => (hc w (g.own _ (getE_mem hi)).1 (g.own _ (getE_mem hi)).2.2).mono fun e w' ⟨A, C, he, F', g1, g2, g3⟩ => by
    obtain ⟨ol', e1, e2⟩ := k A C F' fun j hj => (g2 j hj).elim (hN j) (Nat.le_trans g.size)
    exact ⟨_, _, F', _, E, sz, m, xs, he, g3, g1, g2, ol', e1, e2⟩
end
theorem al_due0 (now : Int) (w : World) : Calls Try.prog 48 #[.pointer none, .int .i64 now] w fun e w' => e = .returned (.slice none 0 0) ∧ Below w.heap.size w w' := by
  refine enter2 Try.func48 rfl rfl (Hp.refl w) ?_
  repeat (first | refine T_seq ?_ | refine T_region ?_ | refine T_block ?_ | refine S_nil ?_ | refine S_pure tabOk rfl ?_)
  refine T_loop (ι := Unit) (fun i => [(0, .pointer none), (1, .int .i64 now), (5, .slice none 0 0)]) (fun i => []) (fun _ => True) (fun _ => 0) () trivial (by repeat (first | exact Sub.nil | refine Sub.cons rfl ?_)) (fun w' hw => hw) ?_
  rintro ⟨⟩ _
  repeat (first | refine T_seq ?_ | refine T_region ?_ | refine T_block ?_ | refine S_pure tabOk rfl ?_)
  refine S_callq rfl Try.call64 (fun w1 h1 => al_next0 w1) ?_
  repeat (first | refine T_seq ?_ | refine T_region ?_ | refine S_nil ?_ | refine S_pure tabOk rfl ?_ | refine S_pass rfl rfl rfl ?_)
  refine T_cond_t rfl ?_
  repeat (first | refine T_seq ?_ | refine T_region ?_ | refine S_nil ?_ | refine inb_ret ?_ | refine pthen_ret ?_ | refine T_ret ?_ | refine S_pure tabOk rfl ?_)
  exact ret1 rfl rfl (fun w' hw => ⟨rfl, hw.below (by repeat (first | exact new_nil))⟩)

end Go.Proofs.Ytidhpofcofknhaa
