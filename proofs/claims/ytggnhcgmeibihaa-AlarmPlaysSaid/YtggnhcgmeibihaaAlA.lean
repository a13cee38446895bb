/-
  The walk of alarm.entries' Swap. Conditions: each theorem's own. (Made by genAlA.py.)
-/
import Derived.Test.YtggnhcgmeibihaaShA
namespace Go.Proofs.Ytggnhcgmeibihaa
open Go Go.RowKit
set_option linter.unusedVariables false

set_option maxHeartbeats 2000000 in
theorem aswap_ne (g n c i j bx by_ : Nat) (cs : List Value) (idx atx plx idy aty ply : Int) (w : World) (hst : Hp w w [.blk g (.cells ⟨cs⟩ 100 (0, 0)) true, .blk bx (.cells ⟨[.int .u64 idx, .int .i64 atx, .int .i64 plx]⟩ 103 (0, 0)) true, .blk by_ (.cells ⟨[.int .u64 idy, .int .i64 aty, .int .i64 ply]⟩ 103 (0, 0)) true]) (hi : i < n) (hj : j < n) (hn : n ≤ cs.length) (hu : cs[i]? = some (.pointer (some ⟨bx, 0, none⟩))) (hv : cs[j]? = some (.pointer (some ⟨by_, 0, none⟩))) :
    Calls Try.prog 121 #[.slice (some ⟨g, 0, none⟩) n c, .int .i64 (i : Int), .int .i64 (j : Int)] w fun e w' => e = .returned (.tuple #[]) ∧ Hp w w' [.blk g (.cells ⟨(cs.set i (.pointer (some ⟨by_, 0, none⟩))).set j (.pointer (some ⟨bx, 0, none⟩))⟩ 100 (0, 0)) true, .blk bx (.cells ⟨[.int .u64 idx, .int .i64 atx, .int .i64 (j : Int)]⟩ 103 (0, 0)) true, .blk by_ (.cells ⟨[.int .u64 idy, .int .i64 aty, .int .i64 (i : Int)]⟩ 103 (0, 0)) true] := by
  have hg2 : ((cs.set i (.pointer (some ⟨by_, 0, none⟩))).set j (.pointer (some ⟨bx, 0, none⟩)))[i]? = some (.pointer (some ⟨by_, 0, none⟩)) := by
    rw [List.getElem?_set]
    by_cases h : j = i
    · rw [if_pos h, if_pos (by rw [List.length_set]; omega)]; subst h; rw [hu] at hv; exact hv
    · rw [if_neg h, List.getElem?_set_self (by omega)]
  have hg3 : ((cs.set i (.pointer (some ⟨by_, 0, none⟩))).set j (.pointer (some ⟨bx, 0, none⟩)))[j]? = some (.pointer (some ⟨bx, 0, none⟩)) := List.getElem?_set_self (by rw [List.length_set]; omega)
  refine enter3 Try.func121 rfl rfl hst ?_
  repeat (first | refine T_seq ?_)
  let ol0 : OL := [.blk g (.cells ⟨cs⟩ 100 (0, 0)) true, .blk bx (.cells ⟨[.int .u64 idx, .int .i64 atx, .int .i64 plx]⟩ 103 (0, 0)) true, .blk by_ (.cells ⟨[.int .u64 idy, .int .i64 aty, .int .i64 ply]⟩ 103 (0, 0)) true]
  let ol1 : OL := [.blk g (.cells ⟨cs.set i (.pointer (some ⟨by_, 0, none⟩))⟩ 100 (0, 0)) true, .blk bx (.cells ⟨[.int .u64 idx, .int .i64 atx, .int .i64 plx]⟩ 103 (0, 0)) true, .blk by_ (.cells ⟨[.int .u64 idy, .int .i64 aty, .int .i64 ply]⟩ 103 (0, 0)) true]
  let ol2 : OL := [.blk g (.cells ⟨(cs.set i (.pointer (some ⟨by_, 0, none⟩))).set j (.pointer (some ⟨bx, 0, none⟩))⟩ 100 (0, 0)) true, .blk bx (.cells ⟨[.int .u64 idx, .int .i64 atx, .int .i64 plx]⟩ 103 (0, 0)) true, .blk by_ (.cells ⟨[.int .u64 idy, .int .i64 aty, .int .i64 ply]⟩ 103 (0, 0)) true]
  let olf : (Nat → Bool) → OL := fun L => match L 15 with
    | true => ol2
    | false => match L 13 with
      | true => ol1
      | false => ol0
  refine T_drawS (by kernel_rfl) (by kernel_rfl) [.slice (some ⟨g, 0, none⟩) n c, .int .i64 (i : Int), .slice (some ⟨g, 0, none⟩) n c, .int .i64 (j : Int), .slice (some ⟨g, 0, none⟩) n c, .int .i64 (j : Int), .pointer (some ⟨g, 0 + j, none⟩), .pointer (some ⟨by_, 0, none⟩), .slice (some ⟨g, 0, none⟩) n c, .int .i64 (i : Int), .pointer (some ⟨g, 0 + i, none⟩), .pointer (some ⟨bx, 0, none⟩), .pointer (some ⟨g, 0 + i, none⟩), undef, .pointer (some ⟨g, 0 + j, none⟩), undef] rfl olf rfl ?_ (l' := [(0, .slice (some ⟨g, 0, none⟩) n c), (1, .int .i64 (i : Int)), (2, .int .i64 (j : Int))]) (ol' := ol2) (fun L h => by simp only [olf, h 15 (by decide)]) (by repeat (first | exact SubD.nil | refine SubD.cons rfl ?_)) ?_
  · refine ⟨?_, ?_, ?_, ?_, ?_, ?_, ?_, ?_, ?_, ?_, ?_, ?_, ?_, ?_, ?_, ?_, trivial⟩
    · exact fun L hc hl hp => OpS.ofD rfl (D_pure tabOk rfl D_last)
    · exact fun L hc hl hp => OpS.ofD rfl (D_pure tabOk rfl D_last)
    · exact fun L hc hl hp => OpS.ofD rfl (D_pure tabOk rfl D_last)
    · exact fun L hc hl hp => OpS.ofD rfl (D_pure tabOk rfl D_last)
    · exact fun L hc hl hp => OpS.ofD rfl (D_pure tabOk rfl D_last)
    · exact fun L hc hl hp => OpS.ofD rfl (D_pure tabOk rfl D_last)
    · exact fun L hc hl hp => OpS.ofD rfl (D_q (Q_idx1 tabOk rfl rfl rfl rfl rfl rfl rfl (j := j) rfl hj) D_last)
    · intro L hc hl hp
      have h13 := closed_no hc (j := 13) rfl ⟨7, .data⟩ (by simp) rfl hl
      have h15 := closed_no hc (j := 15) rfl ⟨13, .phase⟩ (by simp) rfl h13
      have e1 : olf L = ol0 := by simp only [olf, h13, h15]
      have e2 : olf (add L 7) = ol0 := by simp [olf, add, h13, h15]
      rw [e1, e2]
      exact OpS.ofD rfl (D_load1 tabOk (v := .pointer (some ⟨by_, 0, none⟩)) rfl rfl (fun w' hw => blk_cell hw hv) D_last)
    · exact fun L hc hl hp => OpS.ofD rfl (D_pure tabOk rfl D_last)
    · exact fun L hc hl hp => OpS.ofD rfl (D_pure tabOk rfl D_last)
    · exact fun L hc hl hp => OpS.ofD rfl (D_q (Q_idx1 tabOk rfl rfl rfl rfl rfl rfl rfl (j := i) rfl hi) D_last)
    · intro L hc hl hp
      have h13 := closed_no hc (j := 13) rfl ⟨11, .phase⟩ (by simp) rfl hl
      have h15 := closed_no hc (j := 15) rfl ⟨13, .phase⟩ (by simp) rfl h13
      have e1 : olf L = ol0 := by simp only [olf, h13, h15]
      have e2 : olf (add L 11) = ol0 := by simp [olf, add, h13, h15]
      rw [e1, e2]
      exact OpS.ofD rfl (D_load1 tabOk (v := .pointer (some ⟨bx, 0, none⟩)) rfl rfl (fun w' hw => blk_cell hw hu) D_last)
    · exact fun L hc hl hp => OpS.ofD rfl (D_q (Q_idx1 tabOk rfl rfl rfl rfl rfl rfl rfl (j := i) rfl hi) D_last)
    · intro L hc hl hp
      have h15 := closed_no hc (j := 15) rfl ⟨13, .phase⟩ (by simp) rfl hl
      have e1 : olf L = ol0 := by simp only [olf, hl, h15]
      have e2 : olf (add L 13) = ol1 := by simp [olf, add, h15]
      rw [e1, e2]
      exact OpS.store tabOk 0 rfl rfl (by intro x hx; rw [List.mem_singleton] at hx; subst hx; rfl) rfl (by rw [Nat.zero_add]; exact setMany_one (by omega)) rfl
    · exact fun L hc hl hp => OpS.ofD rfl (D_q (Q_idx1 tabOk rfl rfl rfl rfl rfl rfl rfl (j := j) rfl hj) D_last)
    · intro L hc hl hp
      have h13 : L 13 = true := hp ⟨13, .phase⟩ (by simp) rfl
      have e1 : olf L = ol1 := by simp only [olf, h13, hl]
      have e2 : olf (add L 15) = ol2 := by simp [olf, add]
      rw [e1, e2]
      exact OpS.store tabOk 0 rfl rfl (by intro x hx; rw [List.mem_singleton] at hx; subst hx; rfl) rfl (by rw [Nat.zero_add]; exact setMany_one (by rw [List.length_set]; omega)) rfl
  clear olf ol1
  let ol3 : OL := [.blk g (.cells ⟨(cs.set i (.pointer (some ⟨by_, 0, none⟩))).set j (.pointer (some ⟨bx, 0, none⟩))⟩ 100 (0, 0)) true, .blk bx (.cells ⟨[.int .u64 idx, .int .i64 atx, .int .i64 plx]⟩ 103 (0, 0)) true, .blk by_ (.cells ⟨[.int .u64 idy, .int .i64 aty, .int .i64 (i : Int)]⟩ 103 (0, 0)) true]
  let ol4 : OL := [.blk g (.cells ⟨(cs.set i (.pointer (some ⟨by_, 0, none⟩))).set j (.pointer (some ⟨bx, 0, none⟩))⟩ 100 (0, 0)) true, .blk bx (.cells ⟨[.int .u64 idx, .int .i64 atx, .int .i64 (j : Int)]⟩ 103 (0, 0)) true, .blk by_ (.cells ⟨[.int .u64 idy, .int .i64 aty, .int .i64 (i : Int)]⟩ 103 (0, 0)) true]
  let olg : (Nat → Bool) → OL := fun L => match L 15 with
    | true => ol4
    | false => match L 12 with
      | true => ol3
      | false => ol2
  refine T_asThen ?_
  refine T_drawS (by kernel_rfl) (by kernel_rfl) [.slice (some ⟨g, 0, none⟩) n c, .int .i64 (i : Int), .pointer (some ⟨g, 0 + i, none⟩), .pointer (some ⟨by_, 0, none⟩), .slice (some ⟨g, 0, none⟩) n c, .int .i64 (j : Int), .pointer (some ⟨g, 0 + j, none⟩), .pointer (some ⟨bx, 0, none⟩), .int .i64 (i : Int), .int .i64 (j : Int), .pointer (some ⟨by_, 0, none⟩), .pointer (some ⟨by_, 0 + 2, none⟩), undef, .pointer (some ⟨bx, 0, none⟩), .pointer (some ⟨bx, 0 + 2, none⟩), undef] rfl olg rfl ?_ (l' := []) (ol' := ol4) (fun L h => by simp only [olg, h 15 (by decide)]) (by repeat (first | exact SubD.nil)) ?_
  · refine ⟨?_, ?_, ?_, ?_, ?_, ?_, ?_, ?_, ?_, ?_, ?_, ?_, ?_, ?_, ?_, ?_, trivial⟩
    · exact fun L hc hl hp => OpS.ofD rfl (D_pure tabOk rfl D_last)
    · exact fun L hc hl hp => OpS.ofD rfl (D_pure tabOk rfl D_last)
    · exact fun L hc hl hp => OpS.ofD rfl (D_q (Q_idx1 tabOk rfl rfl rfl rfl rfl rfl rfl (j := i) rfl hi) D_last)
    · intro L hc hl hp
      have h12 := closed_no hc (j := 12) rfl ⟨3, .phase⟩ (by simp) rfl hl
      have h15 := closed_no hc (j := 15) rfl ⟨12, .phase⟩ (by simp) rfl h12
      have e1 : olg L = ol2 := by simp only [olg, h12, h15]
      have e2 : olg (add L 3) = ol2 := by simp [olg, add, h12, h15]
      rw [e1, e2]
      exact OpS.ofD rfl (D_load1 tabOk (v := .pointer (some ⟨by_, 0, none⟩)) rfl rfl (fun w' hw => blk_cell hw hg2) D_last)
    · exact fun L hc hl hp => OpS.ofD rfl (D_pure tabOk rfl D_last)
    · exact fun L hc hl hp => OpS.ofD rfl (D_pure tabOk rfl D_last)
    · exact fun L hc hl hp => OpS.ofD rfl (D_q (Q_idx1 tabOk rfl rfl rfl rfl rfl rfl rfl (j := j) rfl hj) D_last)
    · intro L hc hl hp
      have h15 := closed_no hc (j := 15) rfl ⟨7, .phase⟩ (by simp) rfl hl
      cases h12 : L 12 with
      | false =>
        have e1 : olg L = ol2 := by simp only [olg, h12, h15]
        have e2 : olg (add L 7) = ol2 := by simp [olg, add, h12, h15]
        rw [e1, e2]
        exact OpS.ofD rfl (D_load1 tabOk (v := .pointer (some ⟨bx, 0, none⟩)) rfl rfl (fun w' hw => blk_cell hw hg3) D_last)
      | true =>
        have e1 : olg L = ol3 := by simp only [olg, h12, h15]
        have e2 : olg (add L 7) = ol3 := by simp [olg, add, h12, h15]
        rw [e1, e2]
        exact OpS.ofD rfl (D_load1 tabOk (v := .pointer (some ⟨bx, 0, none⟩)) rfl rfl (fun w' hw => blk_cell hw hg3) D_last)
    · exact fun L hc hl hp => OpS.ofD rfl (D_pure tabOk rfl D_last)
    · exact fun L hc hl hp => OpS.ofD rfl (D_pure tabOk rfl D_last)
    · exact fun L hc hl hp => OpS.ofD rfl (D_pure tabOk rfl D_last)
    · exact fun L hc hl hp => OpS.ofD rfl (D_pure tabOk rfl D_last)
    · intro L hc hl hp
      have h15 := closed_no hc (j := 15) rfl ⟨12, .phase⟩ (by simp) rfl hl
      have e1 : olg L = ol2 := by simp only [olg, hl, h15]
      have e2 : olg (add L 12) = ol3 := by simp [olg, add, h15]
      rw [e1, e2]
      exact OpS.store tabOk 2 rfl rfl (by intro x hx; rw [List.mem_singleton] at hx; subst hx; rfl) rfl rfl rfl
    · exact fun L hc hl hp => OpS.ofD rfl (D_pure tabOk rfl D_last)
    · exact fun L hc hl hp => OpS.ofD rfl (D_pure tabOk rfl D_last)
    · intro L hc hl hp
      have h12 : L 12 = true := hp ⟨12, .phase⟩ (by simp) rfl
      have e1 : olg L = ol3 := by simp only [olg, h12, hl]
      have e2 : olg (add L 15) = ol4 := by simp [olg, add]
      rw [e1, e2]
      exact OpS.store tabOk 1 rfl rfl (by intro x hx; rw [List.mem_singleton] at hx; subst hx; rfl) rfl rfl rfl
  exact ret0n rfl (fun w' hw => ⟨rfl, hw⟩)
set_option maxHeartbeats 2000000 in
theorem aswap_eq (g n c i j bx : Nat) (cs : List Value) (idx atx plx : Int) (w : World) (hst : Hp w w [.blk g (.cells ⟨cs⟩ 100 (0, 0)) true, .blk bx (.cells ⟨[.int .u64 idx, .int .i64 atx, .int .i64 plx]⟩ 103 (0, 0)) true]) (hi : i < n) (hj : j < n) (hn : n ≤ cs.length) (hu : cs[i]? = some (.pointer (some ⟨bx, 0, none⟩))) (hv : cs[j]? = some (.pointer (some ⟨bx, 0, none⟩))) (hij : i = j) :
    Calls Try.prog 121 #[.slice (some ⟨g, 0, none⟩) n c, .int .i64 (i : Int), .int .i64 (j : Int)] w fun e w' => e = .returned (.tuple #[]) ∧ Hp w w' [.blk g (.cells ⟨(cs.set i (.pointer (some ⟨bx, 0, none⟩))).set j (.pointer (some ⟨bx, 0, none⟩))⟩ 100 (0, 0)) true, .blk bx (.cells ⟨[.int .u64 idx, .int .i64 atx, .int .i64 (j : Int)]⟩ 103 (0, 0)) true] := by
  have hg2 : ((cs.set i (.pointer (some ⟨bx, 0, none⟩))).set j (.pointer (some ⟨bx, 0, none⟩)))[i]? = some (.pointer (some ⟨bx, 0, none⟩)) := by
    rw [List.getElem?_set]
    by_cases h : j = i
    · rw [if_pos h, if_pos (by rw [List.length_set]; omega)]
    · rw [if_neg h, List.getElem?_set_self (by omega)]
  have hg3 : ((cs.set i (.pointer (some ⟨bx, 0, none⟩))).set j (.pointer (some ⟨bx, 0, none⟩)))[j]? = some (.pointer (some ⟨bx, 0, none⟩)) := List.getElem?_set_self (by rw [List.length_set]; omega)
  refine enter3 Try.func121 rfl rfl hst ?_
  repeat (first | refine T_seq ?_)
  let ol0 : OL := [.blk g (.cells ⟨cs⟩ 100 (0, 0)) true, .blk bx (.cells ⟨[.int .u64 idx, .int .i64 atx, .int .i64 plx]⟩ 103 (0, 0)) true]
  let ol1 : OL := [.blk g (.cells ⟨cs.set i (.pointer (some ⟨bx, 0, none⟩))⟩ 100 (0, 0)) true, .blk bx (.cells ⟨[.int .u64 idx, .int .i64 atx, .int .i64 plx]⟩ 103 (0, 0)) true]
  let ol2 : OL := [.blk g (.cells ⟨(cs.set i (.pointer (some ⟨bx, 0, none⟩))).set j (.pointer (some ⟨bx, 0, none⟩))⟩ 100 (0, 0)) true, .blk bx (.cells ⟨[.int .u64 idx, .int .i64 atx, .int .i64 plx]⟩ 103 (0, 0)) true]
  let olf : (Nat → Bool) → OL := fun L => match L 15 with
    | true => ol2
    | false => match L 13 with
      | true => ol1
      | false => ol0
  refine T_drawS (by kernel_rfl) (by kernel_rfl) [.slice (some ⟨g, 0, none⟩) n c, .int .i64 (i : Int), .slice (some ⟨g, 0, none⟩) n c, .int .i64 (j : Int), .slice (some ⟨g, 0, none⟩) n c, .int .i64 (j : Int), .pointer (some ⟨g, 0 + j, none⟩), .pointer (some ⟨bx, 0, none⟩), .slice (some ⟨g, 0, none⟩) n c, .int .i64 (i : Int), .pointer (some ⟨g, 0 + i, none⟩), .pointer (some ⟨bx, 0, none⟩), .pointer (some ⟨g, 0 + i, none⟩), undef, .pointer (some ⟨g, 0 + j, none⟩), undef] rfl olf rfl ?_ (l' := [(0, .slice (some ⟨g, 0, none⟩) n c), (1, .int .i64 (i : Int)), (2, .int .i64 (j : Int))]) (ol' := ol2) (fun L h => by simp only [olf, h 15 (by decide)]) (by repeat (first | exact SubD.nil | refine SubD.cons rfl ?_)) ?_
  · refine ⟨?_, ?_, ?_, ?_, ?_, ?_, ?_, ?_, ?_, ?_, ?_, ?_, ?_, ?_, ?_, ?_, trivial⟩
    · exact fun L hc hl hp => OpS.ofD rfl (D_pure tabOk rfl D_last)
    · exact fun L hc hl hp => OpS.ofD rfl (D_pure tabOk rfl D_last)
    · exact fun L hc hl hp => OpS.ofD rfl (D_pure tabOk rfl D_last)
    · exact fun L hc hl hp => OpS.ofD rfl (D_pure tabOk rfl D_last)
    · exact fun L hc hl hp => OpS.ofD rfl (D_pure tabOk rfl D_last)
    · exact fun L hc hl hp => OpS.ofD rfl (D_pure tabOk rfl D_last)
    · exact fun L hc hl hp => OpS.ofD rfl (D_q (Q_idx1 tabOk rfl rfl rfl rfl rfl rfl rfl (j := j) rfl hj) D_last)
    · intro L hc hl hp
      have h13 := closed_no hc (j := 13) rfl ⟨7, .data⟩ (by simp) rfl hl
      have h15 := closed_no hc (j := 15) rfl ⟨13, .phase⟩ (by simp) rfl h13
      have e1 : olf L = ol0 := by simp only [olf, h13, h15]
      have e2 : olf (add L 7) = ol0 := by simp [olf, add, h13, h15]
      rw [e1, e2]
      exact OpS.ofD rfl (D_load1 tabOk (v := .pointer (some ⟨bx, 0, none⟩)) rfl rfl (fun w' hw => blk_cell hw hv) D_last)
    · exact fun L hc hl hp => OpS.ofD rfl (D_pure tabOk rfl D_last)
    · exact fun L hc hl hp => OpS.ofD rfl (D_pure tabOk rfl D_last)
    · exact fun L hc hl hp => OpS.ofD rfl (D_q (Q_idx1 tabOk rfl rfl rfl rfl rfl rfl rfl (j := i) rfl hi) D_last)
    · intro L hc hl hp
      have h13 := closed_no hc (j := 13) rfl ⟨11, .phase⟩ (by simp) rfl hl
      have h15 := closed_no hc (j := 15) rfl ⟨13, .phase⟩ (by simp) rfl h13
      have e1 : olf L = ol0 := by simp only [olf, h13, h15]
      have e2 : olf (add L 11) = ol0 := by simp [olf, add, h13, h15]
      rw [e1, e2]
      exact OpS.ofD rfl (D_load1 tabOk (v := .pointer (some ⟨bx, 0, none⟩)) rfl rfl (fun w' hw => blk_cell hw hu) D_last)
    · exact fun L hc hl hp => OpS.ofD rfl (D_q (Q_idx1 tabOk rfl rfl rfl rfl rfl rfl rfl (j := i) rfl hi) D_last)
    · intro L hc hl hp
      have h15 := closed_no hc (j := 15) rfl ⟨13, .phase⟩ (by simp) rfl hl
      have e1 : olf L = ol0 := by simp only [olf, hl, h15]
      have e2 : olf (add L 13) = ol1 := by simp [olf, add, h15]
      rw [e1, e2]
      exact OpS.store tabOk 0 rfl rfl (by intro x hx; rw [List.mem_singleton] at hx; subst hx; rfl) rfl (by rw [Nat.zero_add]; exact setMany_one (by omega)) rfl
    · exact fun L hc hl hp => OpS.ofD rfl (D_q (Q_idx1 tabOk rfl rfl rfl rfl rfl rfl rfl (j := j) rfl hj) D_last)
    · intro L hc hl hp
      have h13 : L 13 = true := hp ⟨13, .phase⟩ (by simp) rfl
      have e1 : olf L = ol1 := by simp only [olf, h13, hl]
      have e2 : olf (add L 15) = ol2 := by simp [olf, add]
      rw [e1, e2]
      exact OpS.store tabOk 0 rfl rfl (by intro x hx; rw [List.mem_singleton] at hx; subst hx; rfl) rfl (by rw [Nat.zero_add]; exact setMany_one (by rw [List.length_set]; omega)) rfl
  clear olf ol1
  let ol3 : OL := [.blk g (.cells ⟨(cs.set i (.pointer (some ⟨bx, 0, none⟩))).set j (.pointer (some ⟨bx, 0, none⟩))⟩ 100 (0, 0)) true, .blk bx (.cells ⟨[.int .u64 idx, .int .i64 atx, .int .i64 (i : Int)]⟩ 103 (0, 0)) true]
  let ol4 : OL := [.blk g (.cells ⟨(cs.set i (.pointer (some ⟨bx, 0, none⟩))).set j (.pointer (some ⟨bx, 0, none⟩))⟩ 100 (0, 0)) true, .blk bx (.cells ⟨[.int .u64 idx, .int .i64 atx, .int .i64 (j : Int)]⟩ 103 (0, 0)) true]
  let olg : (Nat → Bool) → OL := fun L => match L 15 with
    | true => ol4
    | false => match L 12 with
      | true => ol3
      | false => ol2
  refine T_asThen ?_
  refine T_drawS (by kernel_rfl) (by kernel_rfl) [.slice (some ⟨g, 0, none⟩) n c, .int .i64 (i : Int), .pointer (some ⟨g, 0 + i, none⟩), .pointer (some ⟨bx, 0, none⟩), .slice (some ⟨g, 0, none⟩) n c, .int .i64 (j : Int), .pointer (some ⟨g, 0 + j, none⟩), .pointer (some ⟨bx, 0, none⟩), .int .i64 (i : Int), .int .i64 (j : Int), .pointer (some ⟨bx, 0, none⟩), .pointer (some ⟨bx, 0 + 2, none⟩), undef, .pointer (some ⟨bx, 0, none⟩), .pointer (some ⟨bx, 0 + 2, none⟩), undef] rfl olg rfl ?_ (l' := []) (ol' := ol4) (fun L h => by simp only [olg, h 15 (by decide)]) (by repeat (first | exact SubD.nil)) ?_
  · refine ⟨?_, ?_, ?_, ?_, ?_, ?_, ?_, ?_, ?_, ?_, ?_, ?_, ?_, ?_, ?_, ?_, trivial⟩
    · exact fun L hc hl hp => OpS.ofD rfl (D_pure tabOk rfl D_last)
    · exact fun L hc hl hp => OpS.ofD rfl (D_pure tabOk rfl D_last)
    · exact fun L hc hl hp => OpS.ofD rfl (D_q (Q_idx1 tabOk rfl rfl rfl rfl rfl rfl rfl (j := i) rfl hi) D_last)
    · intro L hc hl hp
      have h12 := closed_no hc (j := 12) rfl ⟨3, .phase⟩ (by simp) rfl hl
      have h15 := closed_no hc (j := 15) rfl ⟨12, .phase⟩ (by simp) rfl h12
      have e1 : olg L = ol2 := by simp only [olg, h12, h15]
      have e2 : olg (add L 3) = ol2 := by simp [olg, add, h12, h15]
      rw [e1, e2]
      exact OpS.ofD rfl (D_load1 tabOk (v := .pointer (some ⟨bx, 0, none⟩)) rfl rfl (fun w' hw => blk_cell hw hg2) D_last)
    · exact fun L hc hl hp => OpS.ofD rfl (D_pure tabOk rfl D_last)
    · exact fun L hc hl hp => OpS.ofD rfl (D_pure tabOk rfl D_last)
    · exact fun L hc hl hp => OpS.ofD rfl (D_q (Q_idx1 tabOk rfl rfl rfl rfl rfl rfl rfl (j := j) rfl hj) D_last)
    · intro L hc hl hp
      have h15 := closed_no hc (j := 15) rfl ⟨7, .phase⟩ (by simp) rfl hl
      cases h12 : L 12 with
      | false =>
        have e1 : olg L = ol2 := by simp only [olg, h12, h15]
        have e2 : olg (add L 7) = ol2 := by simp [olg, add, h12, h15]
        rw [e1, e2]
        exact OpS.ofD rfl (D_load1 tabOk (v := .pointer (some ⟨bx, 0, none⟩)) rfl rfl (fun w' hw => blk_cell hw hg3) D_last)
      | true =>
        have e1 : olg L = ol3 := by simp only [olg, h12, h15]
        have e2 : olg (add L 7) = ol3 := by simp [olg, add, h12, h15]
        rw [e1, e2]
        exact OpS.ofD rfl (D_load1 tabOk (v := .pointer (some ⟨bx, 0, none⟩)) rfl rfl (fun w' hw => blk_cell hw hg3) D_last)
    · exact fun L hc hl hp => OpS.ofD rfl (D_pure tabOk rfl D_last)
    · exact fun L hc hl hp => OpS.ofD rfl (D_pure tabOk rfl D_last)
    · exact fun L hc hl hp => OpS.ofD rfl (D_pure tabOk rfl D_last)
    · exact fun L hc hl hp => OpS.ofD rfl (D_pure tabOk rfl D_last)
    · intro L hc hl hp
      have h15 := closed_no hc (j := 15) rfl ⟨12, .phase⟩ (by simp) rfl hl
      have e1 : olg L = ol2 := by simp only [olg, hl, h15]
      have e2 : olg (add L 12) = ol3 := by simp [olg, add, h15]
      rw [e1, e2]
      exact OpS.store tabOk 1 rfl rfl (by intro x hx; rw [List.mem_singleton] at hx; subst hx; rfl) rfl rfl rfl
    · exact fun L hc hl hp => OpS.ofD rfl (D_pure tabOk rfl D_last)
    · exact fun L hc hl hp => OpS.ofD rfl (D_pure tabOk rfl D_last)
    · intro L hc hl hp
      have h12 : L 12 = true := hp ⟨12, .phase⟩ (by simp) rfl
      have e1 : olg L = ol3 := by simp only [olg, h12, hl]
      have e2 : olg (add L 15) = ol4 := by simp [olg, add]
      rw [e1, e2]
      exact OpS.store tabOk 1 rfl rfl (by intro x hx; rw [List.mem_singleton] at hx; subst hx; rfl) rfl rfl rfl
  exact ret0n rfl (fun w' hw => ⟨rfl, hw⟩)
end Go.Proofs.Ytggnhcgmeibihaa
