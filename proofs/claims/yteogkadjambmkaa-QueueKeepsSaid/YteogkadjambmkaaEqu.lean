/-
  slices.Equal of []uint64. Conditions: each theorem's own.
-/
import Derived.Test.YteogkadjambmkaaTab
import Derived.Test.YteogkadjambmkaaEngK
namespace Go.Proofs.Yteogkadjambmkaa
open Go Go.RowKit
set_option linter.unusedVariables false

theorem take_ext {α : Type} {l m : List α} {k : Nat} (h : l.take k = m.take k) (hl : k < l.length) (hm : k < m.length) (he : l[k] = m[k]) : l.take (k + 1) = m.take (k + 1) := by
  rw [List.take_succ_eq_append_getElem hl, List.take_succ_eq_append_getElem hm, h, he]
theorem take_ne {α : Type} {l m : List α} {k : Nat} (hl : k < l.length) (hm : k < m.length) (he : ¬ l[k] = m[k]) : ¬ l = m := by
  rintro rfl
  exact he rfl
theorem equal64_ok (a a' : Option Addr) (n c n' c' : Nat) (l m : List Int) (w : World) (hx : Sl w 1 a n (l.map (.int .u64))) (hy : Sl w 1 a' n' (m.map (.int .u64))) (hn : n ≤ maxLen) :
    Calls Try.prog 49 #[.slice a n c, .slice a' n' c'] w fun e w' => e = .returned (.bool (decide (l = m))) ∧ Below w.heap.size w w' := by
  have hl := hx.len
  have hl' := hy.len
  rw [List.length_map, Nat.mul_one] at hl hl'
  simp only [maxLen] at hn
  refine enter2 Try.func49 rfl rfl (Hp.refl w) ?_
  repeat (first | refine T_seq ?_ | refine T_region ?_ | refine S_nil ?_ | refine S_pure tabOk rfl ?_)
  refine T_cond_dec rfl (fun h => ?_) (fun h => ?_)
  · repeat (first | refine T_seq ?_ | refine T_region ?_ | refine S_nil ?_ | refine pthen_ret ?_ | refine T_ret ?_ | refine S_pure tabOk rfl ?_)
    exact ret1 rfl rfl (fun w' hw => ⟨retb (decide_eq_false fun e => h (by rw [← hl, ← hl', e])).symm, hw.below new_nil⟩)
  have hnn : n = n' := by omega
  subst hnn
  repeat (first | refine T_seq ?_ | refine T_region ?_ | refine T_block ?_ | refine S_nil ?_ | refine pthen_normal ?_ | refine T_skip ?_ | refine S_pure tabOk rfl ?_)
  refine T_loop (ι := Nat) (fun i => [(0, .slice a n c), (1, .slice a' n c'), (12, .int .i64 (n : Int)), (13, .int .i64 (i : Int))])
    (fun i => []) (fun i => i ≤ n ∧ l.take i = m.take i) (fun i => n - i) 0 ⟨Nat.zero_le _, rfl⟩ (by repeat (first | exact Sub.nil | refine Sub.cons rfl ?_)) (fun _ hw => hw) ?_
  rintro k ⟨hk, hkt⟩
  try dsimp only at hk ⊢
  repeat (first | refine T_seq ?_ | refine T_region ?_ | refine S_nil ?_ | refine S_pure tabOk rfl ?_)
  refine T_cond_dec rfl (fun h => ?_) (fun h => ?_)
  · have hk1 : k < l.length := by omega
    have hk2 : k < m.length := by omega
    obtain ⟨b, off, rfl, hlt, _⟩ := hx.get (by omega)
    obtain ⟨b2, off2, rfl, hlt2, _⟩ := hy.get (by omega)
    have e1 : (l.map (Value.int .u64))[k]? = some (.int .u64 l[k]) := by rw [List.getElem?_map, List.getElem?_eq_getElem hk1]; rfl
    have e2 : (m.map (Value.int .u64))[k]? = some (.int .u64 m[k]) := by rw [List.getElem?_map, List.getElem?_eq_getElem hk2]; rfl
    repeat (first | refine T_draw (by kernel_rfl) (by kernel_rfl) ?_ | refine D_pure tabOk rfl ?_ | refine T_seq ?_ | refine T_region ?_ | refine T_block ?_ | refine S_nil ?_ | refine pthen_normal ?_ | refine T_skip ?_ | refine S_pure tabOk rfl ?_)
    refine D_q (Q_idx1 tabOk rfl rfl rfl rfl rfl rfl rfl (j := k) rfl (by omega)) ?_
    refine D_load1 tabOk (v := .int .u64 l[k]) rfl rfl (fun w' hw => (hx.ext (hw.below new_nil)).at_ (by omega) e1) ?_
    repeat (first | refine D_pure tabOk rfl ?_)
    refine D_q (Q_idx1 tabOk rfl rfl rfl rfl rfl rfl rfl (j := k) rfl (by omega)) ?_
    refine D_load1 tabOk (v := .int .u64 m[k]) rfl rfl (fun w' hw => (hy.ext (hw.below new_nil)).at_ (by omega) e2) ?_
    repeat (first | refine D_all rfl ?_ | refine D_pure tabOk rfl ?_)
    refine T_cond_dec rfl (fun h1 => ?_) (fun h1 => ?_)
    · repeat (first | refine T_seq ?_ | refine T_region ?_ | refine S_nil ?_ | refine inb_ret ?_ | refine pthen_ret ?_ | refine T_ret ?_ | refine S_pure tabOk rfl ?_)
      exact ret1 rfl rfl (fun w' hw => ⟨retb (decide_eq_false (take_ne hk1 hk2 h1)).symm, hw.below new_nil⟩)
    · repeat (first | refine T_region ?_ | refine S_nil ?_ | refine pthen_normal ?_ | refine inb_normal ?_ | refine T_skip ?_ | refine S_i64 tabOk rfl (by omega) ?_ | refine S_pure tabOk rfl ?_)
      exact ⟨k + 1, ⟨by omega, take_ext hkt hk1 hk2 (Decidable.not_not.1 h1)⟩, by repeat (first | exact Sub.nil | refine Sub.cons rfl ?_), fun _ h => h, by omega⟩
  · repeat (first | refine T_seq ?_ | refine T_region ?_ | refine S_nil ?_ | refine pthen_normal ?_ | refine inb_hit ?_ | refine pthen_exit ?_ | refine T_ret ?_ | refine T_exit ?_ | refine S_pure tabOk rfl ?_)
    have e : k = n := by omega
    subst e
    rw [List.take_of_length_le (by omega), List.take_of_length_le (by omega)] at hkt
    exact ret1 rfl rfl (fun w' hw => ⟨retb (decide_eq_true hkt).symm, hw.below new_nil⟩)
end Go.Proofs.Yteogkadjambmkaa
