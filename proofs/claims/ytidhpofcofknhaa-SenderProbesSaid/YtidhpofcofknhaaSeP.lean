/-
  A sender, plain: what a frame and a tick make of some states. Conditions: each theorem's own.
-/
import Derived.Test.YtidhpofcofknhaaSeF
namespace Go.Proofs.Ytidhpofcofknhaa
open Go Go.RowKit
set_option linter.unusedVariables false

theorem rcv_begin {s : SdS} {x : Fm} {rl : List Run} (h1 : knP s x) (h2 : x.k = 2 ∧ (s.inc < x.inc ∨ s.op = false)) : s.rcv x rl = s.begin_ true x.inc x.lim := by
  unfold SdS.rcv
  rw [if_pos h1, if_pos h2]
  rfl
theorem rcv_close {s : SdS} {x : Fm} {rl : List Run} (h1 : knP s x) (h2 : x.k ≠ 2) (h3 : s.inc < x.inc) : s.rcv x rl = s.begin_ false x.inc 0 := by
  unfold SdS.rcv
  rw [if_pos h1, if_neg (fun h => h2 h.1), if_pos h3]
  rfl
theorem tick_off {s : SdS} {now : Int} {ql : List (Int × Int)} (h : s.op = false) (hg : s.gs = []) : s.tick now ql = s.try_ now := by
  unfold SdS.tick
  rw [if_neg (by rw [h]; decide)]
  unfold SdS.keep_
  rw [hg]
  show SdS.try_ { s with gs := [] } now = _
  rw [← hg]
theorem told_off {s : SdS} {now : Int} {ql : List (Int × Int)} (h : s.op = false) : s.told now ql = if s.tm ≤ now then [(1, [])] else [] := by
  unfold SdS.told
  rw [if_neg (by rw [h]; decide)]
theorem tick_idle {s : SdS} {now : Int} (ho : s.op = true) (hg : s.gs = []) : s.tick now [] = s.calm_ ∧ s.told now [] = [] := by
  obtain ⟨f, m, p, q, ep, op, inc, lim, tm, tr, gs, last⟩ := s
  dsimp only at ho hg
  subst ho hg
  exact ⟨rfl, rfl⟩
end Go.Proofs.Ytidhpofcofknhaa
