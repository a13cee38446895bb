/-
  Runs: how many are in a set; small things. Conditions: each theorem's own.
-/
import Derived.Test.YtgjibkocpmajdaaEngL
import Derived.Test.YtgjibkocpmajdaaRnN
namespace Go.Proofs.Ytgjibkocpmajdaa
open Go Go.RowKit
set_option linter.unusedVariables false

theorem can_take {l : List Run} (h : Can l) (k : Nat) : Can (l.take k) := ⟨fun r hr => h.le r (List.mem_of_mem_take hr), h.gap.sublist (List.take_sublist _ _)⟩
theorem can_snoc {l : List Run} {k : Nat} (hk : k < l.length) (h : Can (l.take k)) : Can (l.take (k + 1)) ↔ l[k].1 ≤ l[k].2 ∧ ∀ h0 : 0 < k, (l[k - 1]'(by omega)).2 + 1 < l[k].1 := by
  constructor
  · intro h1
    have hl : (l.take (k + 1)).length = k + 1 := by rw [List.length_take]; omega
    have h2 := can_le h1 (show k < (l.take (k + 1)).length by omega)
    rw [List.getElem_take] at h2
    refine ⟨h2, fun h0 => ?_⟩
    have h3 := can_lt h1 (show k - 1 < k by omega) (show k < (l.take (k + 1)).length by omega)
    rw [List.getElem_take, List.getElem_take] at h3
    exact h3
  · rintro ⟨h1, h2⟩
    rw [List.take_succ_eq_append_getElem hk]
    refine can_append.2 ⟨h, can_cons.2 ⟨h1, fun s hs => (by cases hs), can_nil⟩, fun r hr s hs => ?_⟩
    rw [List.mem_singleton] at hs
    subst hs
    obtain ⟨j, hj, rfl⟩ := List.getElem_of_mem hr
    have hl : (l.take k).length = k := by rw [List.length_take]; omega
    have h3 := h2 (by omega)
    by_cases e : j = k - 1
    · subst e
      rw [List.getElem_take]
      exact h3
    · have h4 := can_lt h (show j < k - 1 by omega) (by omega)
      have h5 := can_le h (show k - 1 < (l.take k).length by omega)
      rw [List.getElem_take] at h4 h5 ⊢
      rw [List.getElem_take] at h4
      omega
theorem can_not {l : List Run} {k : Nat} (hk : k < l.length) (h : ¬ Can (l.take (k + 1))) : ¬ Can l := fun hc => h (can_take hc _)

theorem mem_bd {l : List Run} (h : okL l) {y : Int} (hy : Mem l y) : 0 ≤ y ∧ y ≤ lastN := by
  obtain ⟨r, hr, h1, h2⟩ := hy
  have := fits_u64 (h r hr).1
  have := fits_u64 (h r hr).2
  unfold lastN
  omega
theorem fits_of {x : Int} (h0 : 0 ≤ x) (h1 : x ≤ 18446744073709551615) : Fits .u64 x := by simpa [Fits, IntKind.min, IntKind.max, IntKind.signed, IntKind.bits] using And.intro h0 h1
theorem bool_t {q : Bool} {p : Prop} (h : q = true ↔ p) (hp : p) : q = true := h.2 hp
theorem bool_f {q : Bool} {p : Prop} (h : q = true ↔ p) (hp : ¬ p) : q = false := by
  cases q
  · rfl
  · exact absurd (h.1 rfl) hp

/-! ### How many -/
def tot : List Run → Int
  | [] => 0
  | r :: l => (r.2 - r.1 + 1) + tot l
theorem tot_append (l m : List Run) : tot (l ++ m) = tot l + tot m := by
  induction l with
  | nil => simp [tot]
  | cons r l ih => rw [List.cons_append, tot, tot, ih]; omega
theorem tot_snoc {l : List Run} {k : Nat} (hk : k < l.length) : tot (l.take (k + 1)) = tot (l.take k) + (l[k].2 - l[k].1 + 1) := by
  rw [List.take_succ_eq_append_getElem hk, tot_append]
  simp [tot]
theorem tot_nn {l : List Run} (h : Can l) : 0 ≤ tot l := by
  induction l with
  | nil => exact Int.le_refl _
  | cons r l ih =>
    have := ih (can_cons.1 h).2.2
    have := (can_cons.1 h).1
    rw [tot]
    omega
theorem tot_take_le {l : List Run} (h : Can l) (k : Nat) : tot (l.take k) ≤ tot l := by
  have e : tot l = tot (l.take k) + tot (l.drop k) := by rw [← tot_append, List.take_append_drop]
  have : 0 ≤ tot (l.drop k) := tot_nn ⟨fun r hr => h.le r (List.mem_of_mem_drop hr), h.gap.sublist (List.drop_sublist _ _)⟩
  omega
def CountS (S : Int → Prop) (c : Int) : Prop := ∃ m, Can m ∧ (∀ x, Mem m x ↔ S x) ∧ c = min (tot m) lastN
theorem countS_eq {S : Int → Prop} {c d : Int} (h : CountS S c) (k : CountS S d) : c = d := by
  obtain ⟨m, h1, h2, rfl⟩ := h
  obtain ⟨m', k1, k2, rfl⟩ := k
  rw [can_ext h1 k1 fun x => by rw [h2, k2]]

theorem add64_ok {x y : Int} (hx : 0 ≤ x) (hy : 0 ≤ y) (w : World) : (callFunc 67 #[.int .u64 x, .int .u64 y, .int .u64 0]).run Try.prog w = .ok (.value (.tuple #[.int .u64 ((x + y) % 18446744073709551616), .int .u64 ((x + y) / 18446744073709551616)])) w :=
  run_add64c Try.func67 (by kernel_rfl) (by kernel_rfl) (by kernel_rfl) (by kernel_rfl) hx hy w

theorem count_ok (a : Option Addr) (n c : Nat) (l : List Run) (A : Nat → Prop) (w : World) (hx : SlR Rrun w A a n c l) (hc : Can l) (hn : n ≤ 1000000) :
    Calls Try.prog 31 #[setV a n c] w fun e w' => e = .returned (.int .u64 (min (tot l) lastN)) ∧ Below w.heap.size w w' := by
  have hl := hx.len
  have hok := slr_okL hx
  refine enter1 Try.func31 rfl rfl (Hp.refl w) ?_
  repeat (first | refine T_draw (by kernel_rfl) (by kernel_rfl) ?_ | refine D_all rfl ?_ | refine D_i64 tabOk rfl (by omega) ?_ | refine D_u64 tabOk rfl (by omega) ?_ | refine D_pure tabOk rfl ?_ | refine D_pass rfl rfl rfl ?_ | refine D_load tabOk 0 rfl rfl rfl ?_ | refine D_load tabOk 1 rfl rfl rfl ?_ | refine D_load tabOk 2 rfl rfl rfl ?_ | refine D_load tabOk 3 rfl rfl rfl ?_ | refine D_load tabOk 4 rfl rfl rfl ?_ | refine T_seq ?_ | refine T_region ?_ | refine T_block ?_ | refine S_nil ?_ | refine pthen_normal ?_ | refine inb_normal ?_ | refine inb_ret ?_ | refine pthen_ret ?_ | refine inb_hit ?_ | refine pthen_exit ?_ | refine T_skip ?_ | refine T_ret ?_ | refine T_exit ?_  | refine S_i64 tabOk rfl (by omega) ?_ | refine S_u64 tabOk rfl (by omega) ?_ | refine S_pure tabOk rfl ?_ | refine S_pass rfl rfl rfl ?_ | refine S_pass0 rfl rfl ?_ | refine T_region_any ?_  | refine S_load tabOk 0 rfl rfl rfl ?_ | refine S_load tabOk 1 rfl rfl rfl ?_ | refine S_load tabOk 2 rfl rfl rfl ?_ | refine S_load tabOk 3 rfl rfl rfl ?_ | refine S_load tabOk 4 rfl rfl rfl ?_ | refine S_load tabOk 5 rfl rfl rfl ?_ | refine S_store tabOk 0 rfl rfl rfl rfl rfl rfl ?_ | refine S_store tabOk 1 rfl rfl rfl rfl rfl rfl ?_ | refine S_store tabOk 2 rfl rfl rfl rfl rfl rfl ?_ | refine S_store tabOk 3 rfl rfl rfl rfl rfl rfl ?_ | refine S_store tabOk 4 rfl rfl rfl rfl rfl rfl ?_ | refine S_store tabOk 5 rfl rfl rfl rfl rfl rfl ?_ | refine S_q (Q_build tabOk rfl rfl rfl rfl rfl rfl rfl) ?_ | refine D_q (Q_build tabOk rfl rfl rfl rfl rfl rfl rfl) ?_)
  refine S_new tabOk rfl (fun b hb => ?_)
  repeat (first | refine T_draw (by kernel_rfl) (by kernel_rfl) ?_ | refine D_all rfl ?_ | refine D_i64 tabOk rfl (by omega) ?_ | refine D_u64 tabOk rfl (by omega) ?_ | refine D_pure tabOk rfl ?_ | refine D_pass rfl rfl rfl ?_ | refine D_load tabOk 0 rfl rfl rfl ?_ | refine D_load tabOk 1 rfl rfl rfl ?_ | refine D_load tabOk 2 rfl rfl rfl ?_ | refine D_load tabOk 3 rfl rfl rfl ?_ | refine D_load tabOk 4 rfl rfl rfl ?_ | refine T_seq ?_ | refine T_region ?_ | refine T_block ?_ | refine S_nil ?_ | refine pthen_normal ?_ | refine inb_normal ?_ | refine inb_ret ?_ | refine pthen_ret ?_ | refine inb_hit ?_ | refine pthen_exit ?_ | refine T_skip ?_ | refine T_ret ?_ | refine T_exit ?_  | refine S_i64 tabOk rfl (by omega) ?_ | refine S_u64 tabOk rfl (by omega) ?_ | refine S_pure tabOk rfl ?_ | refine S_pass rfl rfl rfl ?_ | refine S_pass0 rfl rfl ?_ | refine T_region_any ?_  | refine S_load tabOk 0 rfl rfl rfl ?_ | refine S_load tabOk 1 rfl rfl rfl ?_ | refine S_load tabOk 2 rfl rfl rfl ?_ | refine S_load tabOk 3 rfl rfl rfl ?_ | refine S_load tabOk 4 rfl rfl rfl ?_ | refine S_load tabOk 5 rfl rfl rfl ?_ | refine S_store tabOk 0 rfl rfl rfl rfl rfl rfl ?_ | refine S_store tabOk 1 rfl rfl rfl rfl rfl rfl ?_ | refine S_store tabOk 2 rfl rfl rfl rfl rfl rfl ?_ | refine S_store tabOk 3 rfl rfl rfl rfl rfl rfl ?_ | refine S_store tabOk 4 rfl rfl rfl rfl rfl rfl ?_ | refine S_store tabOk 5 rfl rfl rfl rfl rfl rfl ?_ | refine S_q (Q_build tabOk rfl rfl rfl rfl rfl rfl rfl) ?_ | refine D_q (Q_build tabOk rfl rfl rfl rfl rfl rfl rfl) ?_)
  refine T_loop (ι := Nat) (fun i => [(3, .int .u64 (tot (l.take i))), (11, .slice a n c), (12, .int .i64 (n : Int)), (13, .int .i64 (i : Int))])
    (fun i => []) (fun i => i ≤ n ∧ tot (l.take i) ≤ lastN) (fun i => n - i) 0 ⟨Nat.zero_le _, by unfold lastN; simp [tot]⟩ (by repeat (first | exact Sub.nil | refine Sub.cons rfl ?_ | refine Sub.cons_int rfl (by omega) ?_)) (fun w' hw => hw.dropn hb) ?_
  rintro k ⟨hk, hT⟩
  have h0 := tot_nn (can_take hc k)
  unfold lastN at hT
  repeat (first | refine T_draw (by kernel_rfl) (by kernel_rfl) ?_ | refine D_all rfl ?_ | refine D_i64 tabOk rfl (by omega) ?_ | refine D_u64 tabOk rfl (by omega) ?_ | refine D_pure tabOk rfl ?_ | refine D_pass rfl rfl rfl ?_ | refine D_load tabOk 0 rfl rfl rfl ?_ | refine D_load tabOk 1 rfl rfl rfl ?_ | refine D_load tabOk 2 rfl rfl rfl ?_ | refine D_load tabOk 3 rfl rfl rfl ?_ | refine D_load tabOk 4 rfl rfl rfl ?_ | refine T_seq ?_ | refine T_region ?_ | refine T_block ?_ | refine S_nil ?_ | refine pthen_normal ?_ | refine inb_normal ?_ | refine inb_ret ?_ | refine pthen_ret ?_ | refine inb_hit ?_ | refine pthen_exit ?_ | refine T_skip ?_ | refine T_ret ?_ | refine T_exit ?_  | refine S_i64 tabOk rfl (by omega) ?_ | refine S_u64 tabOk rfl (by omega) ?_ | refine S_pure tabOk rfl ?_ | refine S_pass rfl rfl rfl ?_ | refine S_pass0 rfl rfl ?_ | refine T_region_any ?_  | refine S_load tabOk 0 rfl rfl rfl ?_ | refine S_load tabOk 1 rfl rfl rfl ?_ | refine S_load tabOk 2 rfl rfl rfl ?_ | refine S_load tabOk 3 rfl rfl rfl ?_ | refine S_load tabOk 4 rfl rfl rfl ?_ | refine S_load tabOk 5 rfl rfl rfl ?_ | refine S_store tabOk 0 rfl rfl rfl rfl rfl rfl ?_ | refine S_store tabOk 1 rfl rfl rfl rfl rfl rfl ?_ | refine S_store tabOk 2 rfl rfl rfl rfl rfl rfl ?_ | refine S_store tabOk 3 rfl rfl rfl rfl rfl rfl ?_ | refine S_store tabOk 4 rfl rfl rfl rfl rfl rfl ?_ | refine S_store tabOk 5 rfl rfl rfl rfl rfl rfl ?_ | refine S_q (Q_build tabOk rfl rfl rfl rfl rfl rfl rfl) ?_ | refine D_q (Q_build tabOk rfl rfl rfl rfl rfl rfl rfl) ?_)
  refine T_cond_dec rfl (fun h => ?_) (fun h => ?_)
  · have hk' : k < l.length := by omega
    have hokk := hok _ (List.getElem_mem hk')
    have u1 := fits_u64 hokk.1
    have u2 := fits_u64 hokk.2
    have hle := can_le hc hk'
    have hs := tot_snoc hk'
    have hT1 := tot_take_le hc (k + 1)
    obtain ⟨ab, off, cs, rfl, hlt, _⟩ := hx.get_ hk'
    repeat (first | refine T_draw (by kernel_rfl) (by kernel_rfl) ?_ | refine D_all rfl ?_ | refine D_i64 tabOk rfl (by omega) ?_ | refine D_u64 tabOk rfl (by omega) ?_ | refine D_pure tabOk rfl ?_ | refine D_pass rfl rfl rfl ?_ | refine D_load tabOk 0 rfl rfl rfl ?_ | refine D_load tabOk 1 rfl rfl rfl ?_ | refine D_load tabOk 2 rfl rfl rfl ?_ | refine D_load tabOk 3 rfl rfl rfl ?_ | refine D_load tabOk 4 rfl rfl rfl ?_ | refine T_seq ?_ | refine T_region ?_ | refine T_block ?_ | refine S_nil ?_ | refine pthen_normal ?_ | refine inb_normal ?_ | refine inb_ret ?_ | refine pthen_ret ?_ | refine inb_hit ?_ | refine pthen_exit ?_ | refine T_skip ?_ | refine T_ret ?_ | refine T_exit ?_  | refine S_i64 tabOk rfl (by omega) ?_ | refine S_u64 tabOk rfl (by omega) ?_ | refine S_pure tabOk rfl ?_ | refine S_pass rfl rfl rfl ?_ | refine S_pass0 rfl rfl ?_ | refine T_region_any ?_  | refine S_load tabOk 0 rfl rfl rfl ?_ | refine S_load tabOk 1 rfl rfl rfl ?_ | refine S_load tabOk 2 rfl rfl rfl ?_ | refine S_load tabOk 3 rfl rfl rfl ?_ | refine S_load tabOk 4 rfl rfl rfl ?_ | refine S_load tabOk 5 rfl rfl rfl ?_ | refine S_store tabOk 0 rfl rfl rfl rfl rfl rfl ?_ | refine S_store tabOk 1 rfl rfl rfl rfl rfl rfl ?_ | refine S_store tabOk 2 rfl rfl rfl rfl rfl rfl ?_ | refine S_store tabOk 3 rfl rfl rfl rfl rfl rfl ?_ | refine S_store tabOk 4 rfl rfl rfl rfl rfl rfl ?_ | refine S_store tabOk 5 rfl rfl rfl rfl rfl rfl ?_ | refine S_q (Q_build tabOk rfl rfl rfl rfl rfl rfl rfl) ?_ | refine D_q (Q_build tabOk rfl rfl rfl rfl rfl rfl rfl) ?_)
    refine S_q (Q_idx (sz := 2) tabOk rfl rfl rfl rfl rfl rfl rfl rfl (j := k) (by omega)) ?_
    refine S_loadN tabOk (vs := encR l[k]) rfl rfl rfl (fun w' hw => run_cells (hx.ext (hw.below (by repeat (first | exact new_nil | refine new_ro ?_ | refine new_cons (by first | assumption | omega) ?_ | refine newrow hw 0 rfl (Nat.le_refl _) ?_ | refine newrow hw 1 rfl (Nat.le_refl _) ?_ | refine newrow hw 2 rfl (Nat.le_refl _) ?_ | refine newrow hw 3 rfl (Nat.le_refl _) ?_ | refine newrow hw 4 rfl (Nat.le_refl _) ?_ | refine newrow hw 5 rfl (Nat.le_refl _) ?_)))) hk') ?_
    refine S_new tabOk rfl (fun b5 hb5 => ?_)
    repeat (first | refine T_draw (by kernel_rfl) (by kernel_rfl) ?_ | refine D_all rfl ?_ | refine D_i64 tabOk rfl (by omega) ?_ | refine D_u64 tabOk rfl (by omega) ?_ | refine D_pure tabOk rfl ?_ | refine D_pass rfl rfl rfl ?_ | refine D_load tabOk 0 rfl rfl rfl ?_ | refine D_load tabOk 1 rfl rfl rfl ?_ | refine D_load tabOk 2 rfl rfl rfl ?_ | refine D_load tabOk 3 rfl rfl rfl ?_ | refine D_load tabOk 4 rfl rfl rfl ?_ | refine T_seq ?_ | refine T_region ?_ | refine T_block ?_ | refine S_nil ?_ | refine pthen_normal ?_ | refine inb_normal ?_ | refine inb_ret ?_ | refine pthen_ret ?_ | refine inb_hit ?_ | refine pthen_exit ?_ | refine T_skip ?_ | refine T_ret ?_ | refine T_exit ?_  | refine S_i64 tabOk rfl (by omega) ?_ | refine S_u64 tabOk rfl (by omega) ?_ | refine S_pure tabOk rfl ?_ | refine S_pass rfl rfl rfl ?_ | refine S_pass0 rfl rfl ?_ | refine T_region_any ?_  | refine S_load tabOk 0 rfl rfl rfl ?_ | refine S_load tabOk 1 rfl rfl rfl ?_ | refine S_load tabOk 2 rfl rfl rfl ?_ | refine S_load tabOk 3 rfl rfl rfl ?_ | refine S_load tabOk 4 rfl rfl rfl ?_ | refine S_load tabOk 5 rfl rfl rfl ?_ | refine S_store tabOk 0 rfl rfl rfl rfl rfl rfl ?_ | refine S_store tabOk 1 rfl rfl rfl rfl rfl rfl ?_ | refine S_store tabOk 2 rfl rfl rfl rfl rfl rfl ?_ | refine S_store tabOk 3 rfl rfl rfl rfl rfl rfl ?_ | refine S_store tabOk 4 rfl rfl rfl rfl rfl rfl ?_ | refine S_store tabOk 5 rfl rfl rfl rfl rfl rfl ?_ | refine S_q (Q_build tabOk rfl rfl rfl rfl rfl rfl rfl) ?_ | refine D_q (Q_build tabOk rfl rfl rfl rfl rfl rfl rfl) ?_)
    refine S_ext rfl (fun w' => add64_ok (x := l[k].2 - l[k].1) (y := 1) (by omega) (by decide) w') ?_
    repeat (first | refine T_draw (by kernel_rfl) (by kernel_rfl) ?_ | refine D_all rfl ?_ | refine D_i64 tabOk rfl (by omega) ?_ | refine D_u64 tabOk rfl (by omega) ?_ | refine D_pure tabOk rfl ?_ | refine D_pass rfl rfl rfl ?_ | refine D_load tabOk 0 rfl rfl rfl ?_ | refine D_load tabOk 1 rfl rfl rfl ?_ | refine D_load tabOk 2 rfl rfl rfl ?_ | refine D_load tabOk 3 rfl rfl rfl ?_ | refine D_load tabOk 4 rfl rfl rfl ?_ | refine T_seq ?_ | refine T_region ?_ | refine T_block ?_ | refine S_nil ?_ | refine pthen_normal ?_ | refine inb_normal ?_ | refine inb_ret ?_ | refine pthen_ret ?_ | refine inb_hit ?_ | refine pthen_exit ?_ | refine T_skip ?_ | refine T_ret ?_ | refine T_exit ?_  | refine S_i64 tabOk rfl (by omega) ?_ | refine S_u64 tabOk rfl (by omega) ?_ | refine S_pure tabOk rfl ?_ | refine S_pass rfl rfl rfl ?_ | refine S_pass0 rfl rfl ?_ | refine T_region_any ?_  | refine S_load tabOk 0 rfl rfl rfl ?_ | refine S_load tabOk 1 rfl rfl rfl ?_ | refine S_load tabOk 2 rfl rfl rfl ?_ | refine S_load tabOk 3 rfl rfl rfl ?_ | refine S_load tabOk 4 rfl rfl rfl ?_ | refine S_load tabOk 5 rfl rfl rfl ?_ | refine S_store tabOk 0 rfl rfl rfl rfl rfl rfl ?_ | refine S_store tabOk 1 rfl rfl rfl rfl rfl rfl ?_ | refine S_store tabOk 2 rfl rfl rfl rfl rfl rfl ?_ | refine S_store tabOk 3 rfl rfl rfl rfl rfl rfl ?_ | refine S_store tabOk 4 rfl rfl rfl rfl rfl rfl ?_ | refine S_store tabOk 5 rfl rfl rfl rfl rfl rfl ?_ | refine S_q (Q_build tabOk rfl rfl rfl rfl rfl rfl rfl) ?_ | refine D_q (Q_build tabOk rfl rfl rfl rfl rfl rfl rfl) ?_)
    refine S_ext rfl (fun w' => add64_ok (x := tot (l.take k)) (y := (l[k].2 - l[k].1 + 1) % 18446744073709551616) h0 (by omega) w') ?_
    repeat (first | refine T_draw (by kernel_rfl) (by kernel_rfl) ?_ | refine D_all rfl ?_ | refine D_i64 tabOk rfl (by omega) ?_ | refine D_u64 tabOk rfl (by omega) ?_ | refine D_pure tabOk rfl ?_ | refine D_pass rfl rfl rfl ?_ | refine D_load tabOk 0 rfl rfl rfl ?_ | refine D_load tabOk 1 rfl rfl rfl ?_ | refine D_load tabOk 2 rfl rfl rfl ?_ | refine D_load tabOk 3 rfl rfl rfl ?_ | refine D_load tabOk 4 rfl rfl rfl ?_ | refine T_seq ?_ | refine T_region ?_ | refine T_block ?_ | refine S_nil ?_ | refine pthen_normal ?_ | refine inb_normal ?_ | refine inb_ret ?_ | refine pthen_ret ?_ | refine inb_hit ?_ | refine pthen_exit ?_ | refine T_skip ?_ | refine T_ret ?_ | refine T_exit ?_  | refine S_i64 tabOk rfl (by omega) ?_ | refine S_u64 tabOk rfl (by omega) ?_ | refine S_pure tabOk rfl ?_ | refine S_pass rfl rfl rfl ?_ | refine S_pass0 rfl rfl ?_ | refine T_region_any ?_  | refine S_load tabOk 0 rfl rfl rfl ?_ | refine S_load tabOk 1 rfl rfl rfl ?_ | refine S_load tabOk 2 rfl rfl rfl ?_ | refine S_load tabOk 3 rfl rfl rfl ?_ | refine S_load tabOk 4 rfl rfl rfl ?_ | refine S_load tabOk 5 rfl rfl rfl ?_ | refine S_store tabOk 0 rfl rfl rfl rfl rfl rfl ?_ | refine S_store tabOk 1 rfl rfl rfl rfl rfl rfl ?_ | refine S_store tabOk 2 rfl rfl rfl rfl rfl rfl ?_ | refine S_store tabOk 3 rfl rfl rfl rfl rfl rfl ?_ | refine S_store tabOk 4 rfl rfl rfl rfl rfl rfl ?_ | refine S_store tabOk 5 rfl rfl rfl rfl rfl rfl ?_ | refine S_q (Q_build tabOk rfl rfl rfl rfl rfl rfl rfl) ?_ | refine D_q (Q_build tabOk rfl rfl rfl rfl rfl rfl rfl) ?_)
    refine T_cond_dec rfl (fun h1 => ?_) (fun h1 => ?_)
    · have e : min (tot l) lastN = 18446744073709551615 := by unfold lastN; omega
      rw [e]
      repeat (first | refine T_draw (by kernel_rfl) (by kernel_rfl) ?_ | refine D_all rfl ?_ | refine D_i64 tabOk rfl (by omega) ?_ | refine D_u64 tabOk rfl (by omega) ?_ | refine D_pure tabOk rfl ?_ | refine D_pass rfl rfl rfl ?_ | refine D_load tabOk 0 rfl rfl rfl ?_ | refine D_load tabOk 1 rfl rfl rfl ?_ | refine D_load tabOk 2 rfl rfl rfl ?_ | refine D_load tabOk 3 rfl rfl rfl ?_ | refine D_load tabOk 4 rfl rfl rfl ?_ | refine T_seq ?_ | refine T_region ?_ | refine T_block ?_ | refine S_nil ?_ | refine pthen_normal ?_ | refine inb_normal ?_ | refine inb_ret ?_ | refine pthen_ret ?_ | refine inb_hit ?_ | refine pthen_exit ?_ | refine T_skip ?_ | refine T_ret ?_ | refine T_exit ?_  | refine S_i64 tabOk rfl (by omega) ?_ | refine S_u64 tabOk rfl (by omega) ?_ | refine S_pure tabOk rfl ?_ | refine S_pass rfl rfl rfl ?_ | refine S_pass0 rfl rfl ?_ | refine T_region_any ?_  | refine S_load tabOk 0 rfl rfl rfl ?_ | refine S_load tabOk 1 rfl rfl rfl ?_ | refine S_load tabOk 2 rfl rfl rfl ?_ | refine S_load tabOk 3 rfl rfl rfl ?_ | refine S_load tabOk 4 rfl rfl rfl ?_ | refine S_load tabOk 5 rfl rfl rfl ?_ | refine S_store tabOk 0 rfl rfl rfl rfl rfl rfl ?_ | refine S_store tabOk 1 rfl rfl rfl rfl rfl rfl ?_ | refine S_store tabOk 2 rfl rfl rfl rfl rfl rfl ?_ | refine S_store tabOk 3 rfl rfl rfl rfl rfl rfl ?_ | refine S_store tabOk 4 rfl rfl rfl rfl rfl rfl ?_ | refine S_store tabOk 5 rfl rfl rfl rfl rfl rfl ?_ | refine S_q (Q_build tabOk rfl rfl rfl rfl rfl rfl rfl) ?_ | refine D_q (Q_build tabOk rfl rfl rfl rfl rfl rfl rfl) ?_)
      exact ret1 rfl rfl (fun w' hw => ⟨rfl, hw.below (by repeat (first | exact new_nil | refine new_ro ?_ | refine new_cons (by first | assumption | omega) ?_ | refine newrow hw 0 rfl (Nat.le_refl _) ?_ | refine newrow hw 1 rfl (Nat.le_refl _) ?_ | refine newrow hw 2 rfl (Nat.le_refl _) ?_ | refine newrow hw 3 rfl (Nat.le_refl _) ?_ | refine newrow hw 4 rfl (Nat.le_refl _) ?_ | refine newrow hw 5 rfl (Nat.le_refl _) ?_))⟩)
    · have e : (tot (l.take k) + (l[k].2 - l[k].1 + 1) % 18446744073709551616) % 18446744073709551616 = tot (l.take (k + 1)) := by omega
      rw [e]
      repeat (first | refine T_draw (by kernel_rfl) (by kernel_rfl) ?_ | refine D_all rfl ?_ | refine D_i64 tabOk rfl (by omega) ?_ | refine D_u64 tabOk rfl (by omega) ?_ | refine D_pure tabOk rfl ?_ | refine D_pass rfl rfl rfl ?_ | refine D_load tabOk 0 rfl rfl rfl ?_ | refine D_load tabOk 1 rfl rfl rfl ?_ | refine D_load tabOk 2 rfl rfl rfl ?_ | refine D_load tabOk 3 rfl rfl rfl ?_ | refine D_load tabOk 4 rfl rfl rfl ?_ | refine T_seq ?_ | refine T_region ?_ | refine T_block ?_ | refine S_nil ?_ | refine pthen_normal ?_ | refine inb_normal ?_ | refine inb_ret ?_ | refine pthen_ret ?_ | refine inb_hit ?_ | refine pthen_exit ?_ | refine T_skip ?_ | refine T_ret ?_ | refine T_exit ?_  | refine S_i64 tabOk rfl (by omega) ?_ | refine S_u64 tabOk rfl (by omega) ?_ | refine S_pure tabOk rfl ?_ | refine S_pass rfl rfl rfl ?_ | refine S_pass0 rfl rfl ?_ | refine T_region_any ?_  | refine S_load tabOk 0 rfl rfl rfl ?_ | refine S_load tabOk 1 rfl rfl rfl ?_ | refine S_load tabOk 2 rfl rfl rfl ?_ | refine S_load tabOk 3 rfl rfl rfl ?_ | refine S_load tabOk 4 rfl rfl rfl ?_ | refine S_load tabOk 5 rfl rfl rfl ?_ | refine S_store tabOk 0 rfl rfl rfl rfl rfl rfl ?_ | refine S_store tabOk 1 rfl rfl rfl rfl rfl rfl ?_ | refine S_store tabOk 2 rfl rfl rfl rfl rfl rfl ?_ | refine S_store tabOk 3 rfl rfl rfl rfl rfl rfl ?_ | refine S_store tabOk 4 rfl rfl rfl rfl rfl rfl ?_ | refine S_store tabOk 5 rfl rfl rfl rfl rfl rfl ?_ | refine S_q (Q_build tabOk rfl rfl rfl rfl rfl rfl rfl) ?_ | refine D_q (Q_build tabOk rfl rfl rfl rfl rfl rfl rfl) ?_)
      exact ⟨k + 1, ⟨by omega, by unfold lastN; omega⟩, by repeat (first | exact Sub.nil | refine Sub.cons rfl ?_ | refine Sub.cons_int rfl (by omega) ?_), fun w' hw => hw.dropn hb5, by omega⟩
  · have e : k = n := by omega
    subst e
    rw [List.take_of_length_le (by omega)] at hT ⊢
    have e : min (tot l) lastN = tot l := by unfold lastN; omega
    rw [e]
    repeat (first | refine T_draw (by kernel_rfl) (by kernel_rfl) ?_ | refine D_all rfl ?_ | refine D_i64 tabOk rfl (by omega) ?_ | refine D_u64 tabOk rfl (by omega) ?_ | refine D_pure tabOk rfl ?_ | refine D_pass rfl rfl rfl ?_ | refine D_load tabOk 0 rfl rfl rfl ?_ | refine D_load tabOk 1 rfl rfl rfl ?_ | refine D_load tabOk 2 rfl rfl rfl ?_ | refine D_load tabOk 3 rfl rfl rfl ?_ | refine D_load tabOk 4 rfl rfl rfl ?_ | refine T_seq ?_ | refine T_region ?_ | refine T_block ?_ | refine S_nil ?_ | refine pthen_normal ?_ | refine inb_normal ?_ | refine inb_ret ?_ | refine pthen_ret ?_ | refine inb_hit ?_ | refine pthen_exit ?_ | refine T_skip ?_ | refine T_ret ?_ | refine T_exit ?_  | refine S_i64 tabOk rfl (by omega) ?_ | refine S_u64 tabOk rfl (by omega) ?_ | refine S_pure tabOk rfl ?_ | refine S_pass rfl rfl rfl ?_ | refine S_pass0 rfl rfl ?_ | refine T_region_any ?_  | refine S_load tabOk 0 rfl rfl rfl ?_ | refine S_load tabOk 1 rfl rfl rfl ?_ | refine S_load tabOk 2 rfl rfl rfl ?_ | refine S_load tabOk 3 rfl rfl rfl ?_ | refine S_load tabOk 4 rfl rfl rfl ?_ | refine S_load tabOk 5 rfl rfl rfl ?_ | refine S_store tabOk 0 rfl rfl rfl rfl rfl rfl ?_ | refine S_store tabOk 1 rfl rfl rfl rfl rfl rfl ?_ | refine S_store tabOk 2 rfl rfl rfl rfl rfl rfl ?_ | refine S_store tabOk 3 rfl rfl rfl rfl rfl rfl ?_ | refine S_store tabOk 4 rfl rfl rfl rfl rfl rfl ?_ | refine S_store tabOk 5 rfl rfl rfl rfl rfl rfl ?_ | refine S_q (Q_build tabOk rfl rfl rfl rfl rfl rfl rfl) ?_ | refine D_q (Q_build tabOk rfl rfl rfl rfl rfl rfl rfl) ?_)
    exact ret1 rfl rfl (fun w' hw => ⟨rfl, hw.below (by repeat (first | exact new_nil | refine new_ro ?_ | refine new_cons (by first | assumption | omega) ?_ | refine newrow hw 0 rfl (Nat.le_refl _) ?_ | refine newrow hw 1 rfl (Nat.le_refl _) ?_ | refine newrow hw 2 rfl (Nat.le_refl _) ?_ | refine newrow hw 3 rfl (Nat.le_refl _) ?_ | refine newrow hw 4 rfl (Nat.le_refl _) ?_ | refine newrow hw 5 rfl (Nat.le_refl _) ?_))⟩)

/-! ### Sums -/
open Classical in
noncomputable def card (P : Int → Prop) : Nat → Int
  | 0 => 0
  | N + 1 => card P N + (if P (N : Int) then 1 else 0)
theorem card_or {P Q : Int → Prop} (h : ∀ x, P x → ¬ Q x) : ∀ N, card (fun x => P x ∨ Q x) N = card P N + card Q N
  | 0 => rfl
  | N + 1 => by
    have ih := card_or h N
    unfold card
    by_cases h1 : P (N : Int)
    · have h2 := h _ h1
      simp only [h1, h2, true_or, if_true, if_false]
      omega
    · by_cases h2 : Q (N : Int)
      · simp only [h1, h2, or_true, if_true, if_false]
        omega
      · simp only [h1, h2, or_self, if_false]
        omega
theorem card_iv {a b : Int} (ha : 0 ≤ a) : ∀ N : Nat, card (fun x => a ≤ x ∧ x ≤ b) N = max 0 (min b ((N : Int) - 1) - a + 1)
  | 0 => by
    show (0 : Int) = _
    omega
  | N + 1 => by
    have ih := card_iv (b := b) ha N
    unfold card
    by_cases h1 : a ≤ (N : Int) ∧ (N : Int) ≤ b
    · rw [if_pos h1]
      omega
    · rw [if_neg h1]
      omega
theorem card_congr {P Q : Int → Prop} (h : ∀ x, P x ↔ Q x) (N : Nat) : card P N = card Q N := by
  have : P = Q := funext fun x => propext (h x)
  rw [this]
theorem card_none : ∀ N, card (fun _ => False) N = 0
  | 0 => rfl
  | N + 1 => by unfold card; rw [card_none N]; simp
theorem tot_card {m : List Run} (hc : Can m) (hb : ∀ r ∈ m, 0 ≤ r.1 ∧ r.2 < 18446744073709551616) : tot m = card (Mem m) 18446744073709551616 := by
  induction m with
  | nil =>
    rw [card_congr (Q := fun _ => False) (fun x => ⟨fun h => mem_nil x h, fun h => h.elim⟩), card_none]
    rfl
  | cons r l ih =>
    obtain ⟨h1, h2, h3⟩ := can_cons.1 hc
    rw [card_congr (Q := fun x => (r.1 ≤ x ∧ x ≤ r.2) ∨ Mem l x) (mem_cons r l), card_or (fun x hx ⟨s, hs, hs2⟩ => by have := h2 s hs; omega), card_iv (hb r (by simp)).1, ← ih h3 fun s hs => hb s (List.mem_cons_of_mem _ hs)]
    have := (hb r (by simp)).2
    rw [tot]
    omega
theorem okL_bd {m : List Run} (h : okL m) : ∀ r ∈ m, 0 ≤ r.1 ∧ r.2 < 18446744073709551616 := fun r hr => by
  have := fits_u64 (h r hr).1
  have := fits_u64 (h r hr).2
  omega
/-- Runs within bounds that are as few as there can be have ends within them. -/
theorem mem_okb {m : List Run} (hc : Can m) (h : ∀ x, Mem m x → 0 ≤ x ∧ x ≤ lastN) : ∀ r ∈ m, 0 ≤ r.1 ∧ r.2 < 18446744073709551616 := fun r hr => by
  have h1 := hc.le r hr
  have h2 := h r.1 ⟨r, hr, Int.le_refl _, h1⟩
  have h3 := h r.2 ⟨r, hr, h1, Int.le_refl _⟩
  unfold lastN at h2 h3
  omega
theorem countS_add {S T U : Int → Prop} {a b c : Int} (hbd : ∀ x, S x → 0 ≤ x ∧ x ≤ lastN) (h1 : CountS S c) (h2 : CountS T a) (h3 : CountS U b) (hS : ∀ x, S x ↔ T x ∨ U x) (hd : ∀ x, T x → ¬ U x) :
    0 ≤ a ∧ a ≤ lastN ∧ 0 ≤ b ∧ b ≤ lastN ∧ (a + b ≤ lastN → c = a + b) := by
  obtain ⟨m, c1, e1, rfl⟩ := h1
  obtain ⟨p, c2, e2, rfl⟩ := h2
  obtain ⟨q, c3, e3, rfl⟩ := h3
  have t1 := tot_card c1 (mem_okb c1 fun x h => hbd x ((e1 x).1 h))
  have t2 := tot_card c2 (mem_okb c2 fun x h => hbd x ((hS x).2 (.inl ((e2 x).1 h))))
  have t3 := tot_card c3 (mem_okb c3 fun x h => hbd x ((hS x).2 (.inr ((e3 x).1 h))))
  rw [card_congr (Q := fun x => Mem p x ∨ Mem q x) (fun x => by rw [e1, e2, e3, hS]), card_or (fun x h h' => hd x ((e2 x).1 h) ((e3 x).1 h')), ← t2, ← t3] at t1
  have n2 := tot_nn c2
  have n3 := tot_nn c3
  unfold lastN
  omega

theorem T_openRow {P : Program} {n : Nat} {w0 : World} {l : FL} {ol : OL} {Q : Post} {code : Code} {a : Option Addr} {m c base sz : Nat} {e : TypeId} {xs : List Value} (hm : 0 < m)
    (k : ∀ b junk, a = some ⟨b, 0, none⟩ → base ≤ b → m ≤ c → xs.length = m * sz → (xs ++ junk).length = c * sz → c ≤ maxLen → T P n w0 code l (.blk b (.cells ⟨xs ++ junk⟩ e (0, 0)) true :: ol) Q) : T P n w0 code l (.row base (.slice a m c) e sz m xs :: ol) Q :=
  ⟨fun ac w hf hh => by
    obtain ⟨b, junk, ha, hb, h1, h2, h3, h4, h5⟩ := Hp.openRow (pre := []) hh hm
    exact (k b junk ha hb h1 h2 h3 h4).out ac w hf h5⟩
theorem setMany_ex : ∀ (vs cs : List Value) (off : Nat), off + vs.length ≤ cs.length → ∃ r, setMany cs off vs = some r ∧ r.length = cs.length
  | [], cs, 0, h => ⟨cs, by cases cs <;> rfl, rfl⟩
  | [], [], k + 1, h => by simp at h
  | [], c :: cs, k + 1, h => by
    obtain ⟨r, h1, h2⟩ := setMany_ex [] cs k (by simp at h ⊢; omega)
    exact ⟨c :: r, by simp only [setMany, h1], by simp [h2]⟩
  | v :: vs, [], off, h => by simp at h
  | v :: vs, c :: cs, 0, h => by
    obtain ⟨r, h1, h2⟩ := setMany_ex vs cs 0 (by simp at h ⊢; omega)
    exact ⟨v :: r, by simp only [setMany, h1], by simp [h2]⟩
  | v :: vs, c :: cs, k + 1, h => by
    obtain ⟨r, h1, h2⟩ := setMany_ex (v :: vs) cs k (by simp at h ⊢; omega)
    exact ⟨c :: r, by simp only [setMany, h1], by simp [h2]⟩
section
variable {S T : Int → Prop} {B C : Nat} {v u : Value} {A D : Nat → Prop}
theorem count_p (w : World) (h : (setP S B).at_ w A v) (hB : B ≤ 900000) :
    Calls Try.prog 31 #[v] w fun e w' => ∃ v, e = .returned v ∧ Below w.heap.size w w' ∧ ∃ k, v = .int .u64 k ∧ CountS S k := by
  obtain ⟨a, n, c, m, rfl, h1, h2, h3, h4⟩ := setP_form h
  have := h4.len
  exact (count_ok a n c m A w h4 h1 (by omega)).mono fun e w' ⟨e1, e2⟩ => ⟨_, e1, e2, _, rfl, m, h1, h2, rfl⟩
theorem same_t (w : World) (h : (setP S B).at_ w A v) (k : (setP T C).at_ w D u) (hST : ∀ x, S x ↔ T x) : Calls Try.prog 22 #[v, u] w fun e w' => e = .returned (.bool true) ∧ Below w.heap.size w w' :=
  (same_p w h k).mono fun e w' ⟨v, e1, e2, q, e3, e4⟩ => by
    obtain rfl := bool_t e4 hST
    exact ⟨by rw [e1, e3], e2⟩
theorem has_v (x : Int) (q : Bool) (w : World) (h : (setP S B).at_ w A v) (hB : B ≤ 900000) (hq : q = true ↔ S x) :
    Calls Try.prog 27 #[v, .int .u64 x] w fun e w' => e = .returned (.bool q) ∧ Below w.heap.size w w' :=
  (has_p x w h hB).mono fun e w' ⟨v, e1, e2, q', e3, e4⟩ => by
    have : q' = q := by cases q <;> cases q' <;> simp_all
    subst this
    exact ⟨by rw [e1, e3], e2⟩
end
end Go.Proofs.Ytgjibkocpmajdaa
