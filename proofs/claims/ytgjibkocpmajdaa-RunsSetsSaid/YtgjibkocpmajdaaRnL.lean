/-
  Runs: contracts of without and of all that is made of it. Conditions: each theorem's own.
-/
import Derived.Test.YtgjibkocpmajdaaRnK
namespace Go.Proofs.Ytgjibkocpmajdaa
open Go Go.RowKit
set_option linter.unusedVariables false

structure WoI (l : List Run) (f t : Int) (k : Nat) (out : List Run) : Prop where
  can : Can out
  ok : okL out
  mem : ∀ y, Mem out y ↔ Mem (l.take k) y ∧ ¬ (f ≤ y ∧ y ≤ t)
  up : ∀ s ∈ out, ∃ (j : Nat) (hj : j < l.length), j < k ∧ s.2 ≤ l[j].2
  len : out.length ≤ k ∨ (out.length ≤ k + 1 ∧ ∀ (j : Nat) (hj : j < l.length), k ≤ j → t < l[j].1)
theorem wo_start {l : List Run} {f t : Int} : WoI l f t 0 [] := ⟨can_nil, fun r h => (by cases h), fun y => by simp [mem_nil], fun s h => (by cases h), .inl (Nat.le_refl _)⟩
section
variable {l out : List Run} {f t : Int} {k : Nat}
theorem wo_gap (hc : Can l) (hk : k < l.length) (h : WoI l f t k out) : ∀ s ∈ out, s.2 + 1 < l[k].1 := fun s hs => by
  obtain ⟨j, hj, hjk, h1⟩ := h.up s hs
  have := can_lt hc hjk hk
  omega
theorem can_snoc1 {p : Run} (h : Can out) (hp : p.1 ≤ p.2) (hg : ∀ s ∈ out, s.2 + 1 < p.1) : Can (out ++ [p]) :=
  can_append.2 ⟨h, can_cons.2 ⟨hp, fun s hs => (by cases hs), can_nil⟩, fun r hr s hs => by
    rw [List.mem_singleton] at hs
    subst hs
    exact hg r hr⟩
theorem ok_snoc {p : Run} (h : okL out) (hp : okR p) : okL (out ++ [p]) := fun r hr => by
  rcases List.mem_append.1 hr with hr | hr
  · exact h r hr
  · rw [List.mem_singleton] at hr
    subst hr
    exact hp
theorem mem_snoc {p : Run} (y : Int) : Mem (out ++ [p]) y ↔ Mem out y ∨ (p.1 ≤ y ∧ y ≤ p.2) := by rw [mem_append, mem_one]
/-- all of the run stays -/
theorem wo_whole (hc : Can l) (hok : okL l) (hk : k < l.length) (h : WoI l f t k out) (ho : l[k].2 < f ∨ t < l[k].1) : WoI l f t (k + 1) (out ++ [l[k]]) := by
  have hle := can_le hc hk
  refine ⟨can_snoc1 h.can hle (wo_gap hc hk h), ok_snoc h.ok (hok _ (List.getElem_mem hk)), fun y => ?_, fun s hs => ?_, ?_⟩
  · rw [mem_snoc, h.mem, mem_take_succ hk]
    constructor
    · rintro (⟨h1, h2⟩ | h1)
      · exact ⟨.inl h1, h2⟩
      · exact ⟨.inr h1, by omega⟩
    · rintro ⟨h1 | h1, h2⟩
      · exact .inl ⟨h1, h2⟩
      · exact .inr h1
  · rcases List.mem_append.1 hs with hs | hs
    · obtain ⟨j, hj, h1, h2⟩ := h.up s hs
      exact ⟨j, hj, by omega, h2⟩
    · rw [List.mem_singleton] at hs
      subst hs
      exact ⟨k, hk, by omega, Int.le_refl _⟩
  · simp only [List.length_append, List.length_cons, List.length_nil]
    rcases h.len with h1 | ⟨h1, h2⟩
    · exact .inl (by omega)
    · exact .inr ⟨by omega, fun j hj hkj => h2 j hj (by omega)⟩
/-- what is left and right of what goes -/
def cutR (r : Run) (f t : Int) : List Run := (if r.1 < f then [(r.1, f - 1)] else []) ++ (if t < r.2 then [(t + 1, r.2)] else [])
theorem wo_cut (hc : Can l) (hok : okL l) (hk : k < l.length) (hft : f ≤ t) (hf : Fits .u64 f) (ht : Fits .u64 t) (h : WoI l f t k out) (ho : ¬ (l[k].2 < f ∨ t < l[k].1)) : WoI l f t (k + 1) (out ++ cutR l[k] f t) := by
  have hle := can_le hc hk
  have hg := wo_gap hc hk h
  have hokk := hok _ (List.getElem_mem hk)
  have u1 := fits_u64 hokk.1
  have u2 := fits_u64 hokk.2
  have hfit : ∀ z : Int, 0 ≤ z → z ≤ 18446744073709551615 → Fits .u64 z := fun z e1 e2 => by simpa [Fits, IntKind.min, IntKind.max, IntKind.signed, IntKind.bits] using And.intro e1 e2
  have hmem : ∀ y, Mem (cutR l[k] f t) y ↔ (l[k].1 ≤ y ∧ y ≤ l[k].2) ∧ ¬ (f ≤ y ∧ y ≤ t) := by
    intro y
    unfold cutR
    rw [mem_append]
    have e1 : Mem (if l[k].1 < f then [(l[k].1, f - 1)] else []) y ↔ l[k].1 < f ∧ l[k].1 ≤ y ∧ y ≤ f - 1 := by
      by_cases h1 : l[k].1 < f
      · rw [if_pos h1, mem_one]
        exact ⟨fun h => ⟨h1, h⟩, fun h => h.2⟩
      · rw [if_neg h1]
        exact ⟨fun h => absurd h (mem_nil y), fun h => absurd h.1 h1⟩
    have e2 : Mem (if t < l[k].2 then [(t + 1, l[k].2)] else []) y ↔ t < l[k].2 ∧ t + 1 ≤ y ∧ y ≤ l[k].2 := by
      by_cases h1 : t < l[k].2
      · rw [if_pos h1, mem_one]
        exact ⟨fun h => ⟨h1, h⟩, fun h => h.2⟩
      · rw [if_neg h1]
        exact ⟨fun h => absurd h (mem_nil y), fun h => absurd h.1 h1⟩
    rw [e1, e2]
    omega
  have hcan : Can (cutR l[k] f t) := by
    unfold cutR
    refine can_append.2 ⟨?_, ?_, fun r hr s hs => ?_⟩
    · split
      · exact can_cons.2 ⟨by show l[k].1 ≤ f - 1; omega, fun s hs => (by cases hs), can_nil⟩
      · exact can_nil
    · split
      · exact can_cons.2 ⟨by show t + 1 ≤ l[k].2; omega, fun s hs => (by cases hs), can_nil⟩
      · exact can_nil
    · split at hr
      · split at hs
        · rw [List.mem_singleton] at hr hs
          subst hr; subst hs
          show f - 1 + 1 < t + 1
          omega
        · cases hs
      · cases hr
  have hsub : ∀ s ∈ cutR l[k] f t, l[k].1 ≤ s.1 ∧ s.2 ≤ l[k].2 ∧ okR s := by
    intro s hs
    unfold cutR at hs
    rcases List.mem_append.1 hs with hs | hs
    · split at hs
      · rw [List.mem_singleton] at hs
        subst hs
        have := fits_u64 hf
        refine ⟨Int.le_refl _, by show f - 1 ≤ l[k].2; omega, hfit _ u1.1 u1.2, hfit _ (by show 0 ≤ f - 1; omega) (by show f - 1 ≤ _; omega)⟩
      · cases hs
    · split at hs
      · rw [List.mem_singleton] at hs
        subst hs
        have := fits_u64 ht
        refine ⟨by show l[k].1 ≤ t + 1; omega, Int.le_refl _, hfit _ (by show 0 ≤ t + 1; omega) (by show t + 1 ≤ _; omega), hfit _ u2.1 u2.2⟩
      · cases hs
  refine ⟨can_append.2 ⟨h.can, hcan, fun r hr s hs => ?_⟩, fun r hr => ?_, fun y => ?_, fun s hs => ?_, ?_⟩
  · have := hg r hr
    have := (hsub s hs).1
    omega
  · rcases List.mem_append.1 hr with hr | hr
    · exact h.ok r hr
    · exact (hsub r hr).2.2
  · rw [mem_append, h.mem, mem_take_succ hk, hmem]
    constructor
    · rintro (⟨h1, h2⟩ | ⟨h1, h2⟩)
      · exact ⟨.inl h1, h2⟩
      · exact ⟨.inr h1, h2⟩
    · rintro ⟨h1 | h1, h2⟩
      · exact .inl ⟨h1, h2⟩
      · exact .inr ⟨h1, h2⟩
  · rcases List.mem_append.1 hs with hs | hs
    · obtain ⟨j, hj, h1, h2⟩ := h.up s hs
      exact ⟨j, hj, by omega, h2⟩
    · exact ⟨k, hk, by omega, (hsub s hs).2.1⟩
  · rw [List.length_append]
    have hlen : (cutR l[k] f t).length ≤ 1 ∨ ((cutR l[k] f t).length ≤ 2 ∧ t < l[k].2) := by
      unfold cutR
      rw [List.length_append]
      by_cases h1 : l[k].1 < f <;> by_cases h2 : t < l[k].2 <;> simp [h1, h2]
    have hnext : t < l[k].2 → ∀ (j : Nat) (hj : j < l.length), k + 1 ≤ j → t < l[j].1 := fun h2 j hj hkj => by
      have := can_lt hc (show k < j by omega) hj
      omega
    rcases h.len with h1 | ⟨h1, h2⟩
    · rcases hlen with h3 | ⟨h3, h4⟩
      · exact .inl (by omega)
      · exact .inr ⟨by omega, hnext h4⟩
    · exact absurd (Or.inr (h2 k hk (Nat.le_refl _))) ho
theorem wo_end (h : WoI l f t l.length out) : out.length ≤ l.length + 1 := by
  rcases h.len with h1 | ⟨h1, _⟩ <;> omega
end

theorem encR_one (p : Run) : ∀ u ∈ encR p, u.oneCell' = true := by
  intro u hu
  exact cellsR_one [p] u (by simpa [cellsR] using hu)
theorem cells_snoc (l : List Run) (p : Run) : cellsR l ++ encR p = cellsR (l ++ [p]) := by rw [cellsR_append]; simp [cellsR]
theorem len_snoc (l : List Run) (p : Run) : l.length + 1 = (l ++ [p]).length := by rw [List.length_append]; rfl

set_option maxHeartbeats 1000000 in
theorem without_ok (a : Option Addr) (n c : Nat) (l : List Run) (f t : Int) (A : Nat → Prop) (w : World) (hx : SlR Rrun w A a n c l) (hc : Can l) (hn : n ≤ 900000) (hft : f ≤ t) (hf : Fits .u64 f) (ht : Fits .u64 t) :
    Calls Try.prog 65 #[setV a n c, .agg ⟨encR (f, t)⟩] w fun e w' => ∃ v m, e = .returned v ∧ Below w.heap.size w w' ∧ WoI l f t l.length m ∧ Rset.val w' (fun k => w.heap.size ≤ k) v m := by
  have hl := hx.len
  have hok := slr_okL hx
  have hf' := fits_u64 hf
  have ht' := fits_u64 ht
  refine enter2 Try.func65 rfl rfl (Hp.refl w) ?_
  repeat (first | refine T_draw (by kernel_rfl) (by kernel_rfl) ?_ | refine D_all rfl ?_ | refine D_i64 tabOk rfl (by omega) ?_ | refine D_pure tabOk rfl ?_ | refine D_pass rfl rfl rfl ?_ | refine D_load tabOk 0 rfl rfl rfl ?_ | refine D_load tabOk 1 rfl rfl rfl ?_ | refine D_load tabOk 2 rfl rfl rfl ?_ | refine T_seq ?_ | refine T_region ?_ | refine T_block ?_ | refine S_nil ?_ | refine pthen_normal ?_ | refine inb_normal ?_ | refine inb_ret ?_ | refine pthen_ret ?_ | refine inb_hit ?_ | refine pthen_exit ?_ | refine T_skip ?_ | refine T_ret ?_ | refine T_exit ?_ | refine T_cond_t rfl ?_ | refine T_cond_f rfl ?_ | refine S_i64 tabOk rfl (by omega) ?_ | refine S_pure tabOk rfl ?_ | refine S_pass rfl rfl rfl ?_ | refine S_pass0 rfl rfl ?_ | refine T_region_any ?_ | refine S_load tabOk 0 rfl rfl rfl ?_ | refine S_load tabOk 1 rfl rfl rfl ?_ | refine S_load tabOk 2 rfl rfl rfl ?_ | refine S_load tabOk 3 rfl rfl rfl ?_ | refine S_store tabOk 0 rfl rfl rfl rfl rfl rfl ?_ | refine S_store tabOk 1 rfl rfl rfl rfl rfl rfl ?_ | refine S_store tabOk 2 rfl rfl rfl rfl rfl rfl ?_ | refine S_store tabOk 3 rfl rfl rfl rfl rfl rfl ?_ | refine S_q (Q_build tabOk rfl rfl rfl rfl rfl rfl rfl) ?_)
  refine S_new tabOk rfl (fun b hb => ?_)
  refine S_new tabOk rfl (fun b3 hb3 => ?_)
  refine S_new tabOk rfl (fun b4 hb4 => ?_)
  repeat (first | refine T_draw (by kernel_rfl) (by kernel_rfl) ?_ | refine D_all rfl ?_ | refine D_i64 tabOk rfl (by omega) ?_ | refine D_pure tabOk rfl ?_ | refine D_pass rfl rfl rfl ?_ | refine D_load tabOk 0 rfl rfl rfl ?_ | refine D_load tabOk 1 rfl rfl rfl ?_ | refine D_load tabOk 2 rfl rfl rfl ?_ | refine T_seq ?_ | refine T_region ?_ | refine T_block ?_ | refine S_nil ?_ | refine pthen_normal ?_ | refine inb_normal ?_ | refine inb_ret ?_ | refine pthen_ret ?_ | refine inb_hit ?_ | refine pthen_exit ?_ | refine T_skip ?_ | refine T_ret ?_ | refine T_exit ?_ | refine T_cond_t rfl ?_ | refine T_cond_f rfl ?_ | refine S_i64 tabOk rfl (by omega) ?_ | refine S_pure tabOk rfl ?_ | refine S_pass rfl rfl rfl ?_ | refine S_pass0 rfl rfl ?_ | refine T_region_any ?_ | refine S_load tabOk 0 rfl rfl rfl ?_ | refine S_load tabOk 1 rfl rfl rfl ?_ | refine S_load tabOk 2 rfl rfl rfl ?_ | refine S_load tabOk 3 rfl rfl rfl ?_ | refine S_store tabOk 0 rfl rfl rfl rfl rfl rfl ?_ | refine S_store tabOk 1 rfl rfl rfl rfl rfl rfl ?_ | refine S_store tabOk 2 rfl rfl rfl rfl rfl rfl ?_ | refine S_store tabOk 3 rfl rfl rfl rfl rfl rfl ?_ | refine S_q (Q_build tabOk rfl rfl rfl rfl rfl rfl rfl) ?_)
  refine T_loop (ι := List Run × Nat × Option Addr × Nat) (fun i => [(3, .pointer (some ⟨b3, 0, none⟩)), (4, .pointer (some ⟨b4, 0, none⟩)), (5, .slice i.2.2.1 i.1.length i.2.2.2), (9, .slice a n c), (10, .int .i64 (n : Int)), (11, .int .i64 (i.2.1 : Int))])
    (fun i => [.row w.heap.size (.slice i.2.2.1 i.1.length i.2.2.2) 49 2 i.1.length (cellsR i.1), .blk b4 (.cells ⟨[.slice none 0 0]⟩ 26 (0, 0)) true, .blk b3 (.cells ⟨encR (f, t)⟩ 49 (0, 0)) true]) (fun i => i.2.1 ≤ n ∧ WoI l f t i.2.1 i.1) (fun i => n - i.2.1) ([], 0, none, 0) ⟨Nat.zero_le _, wo_start⟩ (by repeat (first | exact Sub.nil | refine Sub.cons rfl ?_ | refine Sub.cons_int rfl (by omega) ?_)) (fun w' hw => (hw.fewer (by repeat (first | exact new_nil | refine new_ro ?_ | refine new_cons (by first | assumption | omega) ?_ | refine newrow hw 0 rfl (Nat.le_refl _) ?_ | refine newrow hw 1 rfl (Nat.le_refl _) ?_ | refine newrow hw 2 rfl (Nat.le_refl _) ?_ | refine newrow hw 3 rfl (Nat.le_refl _) ?_ | refine newrow hw 4 rfl (Nat.le_refl _) ?_ | refine newrow hw 5 rfl (Nat.le_refl _) ?_)) (by repeat (first | exact List.Sublist.slnil | refine List.Sublist.cons_cons _ ?_ | refine List.Sublist.cons _ ?_))).nilRow _ _) ?_
  rintro ⟨out, k, a1, c1⟩ ⟨hk, hI⟩
  dsimp only at hk hI ⊢
  repeat (first | refine T_draw (by kernel_rfl) (by kernel_rfl) ?_ | refine D_all rfl ?_ | refine D_i64 tabOk rfl (by omega) ?_ | refine D_u64 tabOk rfl (by omega) ?_ | refine D_pure tabOk rfl ?_ | refine D_pass rfl rfl rfl ?_ | refine D_load tabOk 0 rfl rfl rfl ?_ | refine D_load tabOk 1 rfl rfl rfl ?_ | refine D_load tabOk 2 rfl rfl rfl ?_ | refine D_load tabOk 3 rfl rfl rfl ?_ | refine D_load tabOk 4 rfl rfl rfl ?_ | refine T_seq ?_ | refine T_region ?_ | refine T_block ?_ | refine S_nil ?_ | refine pthen_normal ?_ | refine inb_normal ?_ | refine inb_ret ?_ | refine pthen_ret ?_ | refine inb_hit ?_ | refine pthen_exit ?_ | refine T_skip ?_ | refine T_ret ?_ | refine T_exit ?_  | refine S_i64 tabOk rfl (by omega) ?_ | refine S_u64 tabOk rfl (by omega) ?_ | refine S_pure tabOk rfl ?_ | refine S_pass rfl rfl rfl ?_ | refine S_pass0 rfl rfl ?_ | refine T_region_any ?_  | refine S_load tabOk 0 rfl rfl rfl ?_ | refine S_load tabOk 1 rfl rfl rfl ?_ | refine S_load tabOk 2 rfl rfl rfl ?_ | refine S_load tabOk 3 rfl rfl rfl ?_ | refine S_load tabOk 4 rfl rfl rfl ?_ | refine S_load tabOk 5 rfl rfl rfl ?_ | refine S_store tabOk 0 rfl rfl rfl rfl rfl rfl ?_ | refine S_store tabOk 1 rfl rfl rfl rfl rfl rfl ?_ | refine S_store tabOk 2 rfl rfl rfl rfl rfl rfl ?_ | refine S_store tabOk 3 rfl rfl rfl rfl rfl rfl ?_ | refine S_store tabOk 4 rfl rfl rfl rfl rfl rfl ?_ | refine S_store tabOk 5 rfl rfl rfl rfl rfl rfl ?_ | refine S_q (Q_build tabOk rfl rfl rfl rfl rfl rfl rfl) ?_ | refine D_q (Q_build tabOk rfl rfl rfl rfl rfl rfl rfl) ?_)
  refine T_cond_dec rfl (fun h => ?_) (fun h => ?_)
  · have hk' : k < l.length := by omega
    have hokk := hok _ (List.getElem_mem hk')
    have u1 := fits_u64 hokk.1
    have u2 := fits_u64 hokk.2
    have hln : out.length ≤ k + 1 := by rcases hI.len with h1 | ⟨h1, _⟩ <;> omega
    obtain ⟨ab, off, cs, rfl, hlt, _⟩ := hx.get_ hk'
    repeat (first | refine T_draw (by kernel_rfl) (by kernel_rfl) ?_ | refine D_all rfl ?_ | refine D_i64 tabOk rfl (by omega) ?_ | refine D_u64 tabOk rfl (by omega) ?_ | refine D_pure tabOk rfl ?_ | refine D_pass rfl rfl rfl ?_ | refine D_load tabOk 0 rfl rfl rfl ?_ | refine D_load tabOk 1 rfl rfl rfl ?_ | refine D_load tabOk 2 rfl rfl rfl ?_ | refine D_load tabOk 3 rfl rfl rfl ?_ | refine D_load tabOk 4 rfl rfl rfl ?_ | refine T_seq ?_ | refine T_region ?_ | refine S_nil ?_ | refine pthen_normal ?_ | refine inb_normal ?_ | refine inb_ret ?_ | refine pthen_ret ?_ | refine inb_hit ?_ | refine pthen_exit ?_ | refine T_skip ?_ | refine T_ret ?_ | refine T_exit ?_  | refine S_i64 tabOk rfl (by omega) ?_ | refine S_u64 tabOk rfl (by omega) ?_ | refine S_pure tabOk rfl ?_ | refine S_pass rfl rfl rfl ?_ | refine S_pass0 rfl rfl ?_ | refine T_region_any ?_  | refine S_load tabOk 0 rfl rfl rfl ?_ | refine S_load tabOk 1 rfl rfl rfl ?_ | refine S_load tabOk 2 rfl rfl rfl ?_ | refine S_load tabOk 3 rfl rfl rfl ?_ | refine S_load tabOk 4 rfl rfl rfl ?_ | refine S_load tabOk 5 rfl rfl rfl ?_ | refine S_store tabOk 0 rfl rfl rfl rfl rfl rfl ?_ | refine S_store tabOk 1 rfl rfl rfl rfl rfl rfl ?_ | refine S_store tabOk 2 rfl rfl rfl rfl rfl rfl ?_ | refine S_store tabOk 3 rfl rfl rfl rfl rfl rfl ?_ | refine S_store tabOk 4 rfl rfl rfl rfl rfl rfl ?_ | refine S_store tabOk 5 rfl rfl rfl rfl rfl rfl ?_ | refine S_q (Q_build tabOk rfl rfl rfl rfl rfl rfl rfl) ?_ | refine D_q (Q_build tabOk rfl rfl rfl rfl rfl rfl rfl) ?_)
    refine T_cut (ι := List Run × Option Addr × Nat) (fun i => WoI l f t (k + 1) i.1) (fun i => [(3, .pointer (some ⟨b3, 0, none⟩)), (4, .pointer (some ⟨b4, 0, none⟩)), (5, .slice i.2.1 i.1.length i.2.2), (9, .slice (some ⟨ab, off, none⟩) n c), (10, .int .i64 (n : Int)), (11, .int .i64 (k : Int))])
      (fun i => [.row w.heap.size (.slice i.2.1 i.1.length i.2.2) 49 2 i.1.length (cellsR i.1), .blk b4 (.cells ⟨[.slice none 0 0]⟩ 26 (0, 0)) true, .blk b3 (.cells ⟨encR (f, t)⟩ 49 (0, 0)) true]) ?_ ?_
    · refine T_block ?_
      repeat (first | refine T_draw (by kernel_rfl) (by kernel_rfl) ?_ | refine D_all rfl ?_ | refine D_i64 tabOk rfl (by omega) ?_ | refine D_u64 tabOk rfl (by omega) ?_ | refine D_pure tabOk rfl ?_ | refine D_pass rfl rfl rfl ?_ | refine D_load tabOk 0 rfl rfl rfl ?_ | refine D_load tabOk 1 rfl rfl rfl ?_ | refine D_load tabOk 2 rfl rfl rfl ?_ | refine D_load tabOk 3 rfl rfl rfl ?_ | refine D_load tabOk 4 rfl rfl rfl ?_ | refine T_seq ?_ | refine T_region ?_ | refine S_nil ?_ | refine pthen_normal ?_ | refine inb_normal ?_ | refine inb_ret ?_ | refine pthen_ret ?_ | refine inb_hit ?_ | refine pthen_exit ?_ | refine T_skip ?_ | refine T_ret ?_ | refine T_exit ?_  | refine S_i64 tabOk rfl (by omega) ?_ | refine S_u64 tabOk rfl (by omega) ?_ | refine S_pure tabOk rfl ?_ | refine S_pass rfl rfl rfl ?_ | refine S_pass0 rfl rfl ?_ | refine T_region_any ?_  | refine S_load tabOk 0 rfl rfl rfl ?_ | refine S_load tabOk 1 rfl rfl rfl ?_ | refine S_load tabOk 2 rfl rfl rfl ?_ | refine S_load tabOk 3 rfl rfl rfl ?_ | refine S_load tabOk 4 rfl rfl rfl ?_ | refine S_load tabOk 5 rfl rfl rfl ?_ | refine S_store tabOk 0 rfl rfl rfl rfl rfl rfl ?_ | refine S_store tabOk 1 rfl rfl rfl rfl rfl rfl ?_ | refine S_store tabOk 2 rfl rfl rfl rfl rfl rfl ?_ | refine S_store tabOk 3 rfl rfl rfl rfl rfl rfl ?_ | refine S_store tabOk 4 rfl rfl rfl rfl rfl rfl ?_ | refine S_store tabOk 5 rfl rfl rfl rfl rfl rfl ?_ | refine S_q (Q_build tabOk rfl rfl rfl rfl rfl rfl rfl) ?_ | refine D_q (Q_build tabOk rfl rfl rfl rfl rfl rfl rfl) ?_)
      refine S_q (Q_idx (sz := 2) tabOk rfl rfl rfl rfl rfl rfl rfl rfl (j := k) (by omega)) ?_
      refine S_loadN tabOk (vs := encR l[k]) rfl rfl rfl (fun w' hw => run_cells (hx.ext (hw.below (by repeat (first | exact new_nil | refine new_ro ?_ | refine new_cons (by first | assumption | omega) ?_ | refine newrow hw 0 rfl (Nat.le_refl _) ?_ | refine newrow hw 1 rfl (Nat.le_refl _) ?_ | refine newrow hw 2 rfl (Nat.le_refl _) ?_ | refine newrow hw 3 rfl (Nat.le_refl _) ?_ | refine newrow hw 4 rfl (Nat.le_refl _) ?_ | refine newrow hw 5 rfl (Nat.le_refl _) ?_)))) hk') ?_
      refine S_new tabOk rfl (fun b7 hb7 => ?_)
      refine S_store tabOk 0 rfl rfl rfl rfl rfl rfl ?_
      refine S_nil ?_
      repeat (refine T_seq ?_)
      refine T_cut (ι := Bool) (fun q => q = true ↔ (l[k].2 < f ∨ t < l[k].1)) (fun q => [(3, .pointer (some ⟨b3, 0, none⟩)), (4, .pointer (some ⟨b4, 0, none⟩)), (5, .slice a1 out.length c1), (7, .pointer (some ⟨b7, 0, none⟩)), (9, .slice (some ⟨ab, off, none⟩) n c), (10, .int .i64 (n : Int)), (11, .int .i64 (k : Int)), (26, .bool q)])
        (fun q => [.blk b7 (.cells ⟨encR l[k]⟩ 49 (0, 0)) true, .row w.heap.size (.slice a1 out.length c1) 49 2 out.length (cellsR out), .blk b4 (.cells ⟨[.slice none 0 0]⟩ 26 (0, 0)) true, .blk b3 (.cells ⟨encR (f, t)⟩ 49 (0, 0)) true]) ?_ ?_
      · repeat (first | refine T_draw (by kernel_rfl) (by kernel_rfl) ?_ | refine D_all rfl ?_ | refine D_i64 tabOk rfl (by omega) ?_ | refine D_u64 tabOk rfl (by omega) ?_ | refine D_pure tabOk rfl ?_ | refine D_pass rfl rfl rfl ?_ | refine D_load tabOk 0 rfl rfl rfl ?_ | refine D_load tabOk 1 rfl rfl rfl ?_ | refine D_load tabOk 2 rfl rfl rfl ?_ | refine D_load tabOk 3 rfl rfl rfl ?_ | refine D_load tabOk 4 rfl rfl rfl ?_ | refine T_seq ?_ | refine T_region ?_ | refine T_block ?_ | refine S_nil ?_ | refine pthen_normal ?_ | refine inb_normal ?_ | refine inb_ret ?_ | refine pthen_ret ?_ | refine inb_hit ?_ | refine pthen_exit ?_ | refine T_skip ?_ | refine T_ret ?_ | refine T_exit ?_  | refine S_i64 tabOk rfl (by omega) ?_ | refine S_u64 tabOk rfl (by omega) ?_ | refine S_pure tabOk rfl ?_ | refine S_pass rfl rfl rfl ?_ | refine S_pass0 rfl rfl ?_ | refine T_region_any ?_  | refine S_load tabOk 0 rfl rfl rfl ?_ | refine S_load tabOk 1 rfl rfl rfl ?_ | refine S_load tabOk 2 rfl rfl rfl ?_ | refine S_load tabOk 3 rfl rfl rfl ?_ | refine S_load tabOk 4 rfl rfl rfl ?_ | refine S_load tabOk 5 rfl rfl rfl ?_ | refine S_store tabOk 0 rfl rfl rfl rfl rfl rfl ?_ | refine S_store tabOk 1 rfl rfl rfl rfl rfl rfl ?_ | refine S_store tabOk 2 rfl rfl rfl rfl rfl rfl ?_ | refine S_store tabOk 3 rfl rfl rfl rfl rfl rfl ?_ | refine S_store tabOk 4 rfl rfl rfl rfl rfl rfl ?_ | refine S_store tabOk 5 rfl rfl rfl rfl rfl rfl ?_ | refine S_q (Q_build tabOk rfl rfl rfl rfl rfl rfl rfl) ?_ | refine D_q (Q_build tabOk rfl rfl rfl rfl rfl rfl rfl) ?_)
        refine S_split rfl rfl (fun h2 => ?_) (fun h2 => ?_)
        · repeat (first | refine T_draw (by kernel_rfl) (by kernel_rfl) ?_ | refine D_all rfl ?_ | refine D_i64 tabOk rfl (by omega) ?_ | refine D_u64 tabOk rfl (by omega) ?_ | refine D_pure tabOk rfl ?_ | refine D_pass rfl rfl rfl ?_ | refine D_load tabOk 0 rfl rfl rfl ?_ | refine D_load tabOk 1 rfl rfl rfl ?_ | refine D_load tabOk 2 rfl rfl rfl ?_ | refine D_load tabOk 3 rfl rfl rfl ?_ | refine D_load tabOk 4 rfl rfl rfl ?_ | refine T_seq ?_ | refine T_region ?_ | refine T_block ?_ | refine S_nil ?_ | refine pthen_normal ?_ | refine inb_normal ?_ | refine inb_ret ?_ | refine pthen_ret ?_ | refine inb_hit ?_ | refine pthen_exit ?_ | refine T_skip ?_ | refine T_ret ?_ | refine T_exit ?_  | refine S_i64 tabOk rfl (by omega) ?_ | refine S_u64 tabOk rfl (by omega) ?_ | refine S_pure tabOk rfl ?_ | refine S_pass rfl rfl rfl ?_ | refine S_pass0 rfl rfl ?_ | refine T_region_any ?_  | refine S_load tabOk 0 rfl rfl rfl ?_ | refine S_load tabOk 1 rfl rfl rfl ?_ | refine S_load tabOk 2 rfl rfl rfl ?_ | refine S_load tabOk 3 rfl rfl rfl ?_ | refine S_load tabOk 4 rfl rfl rfl ?_ | refine S_load tabOk 5 rfl rfl rfl ?_ | refine S_store tabOk 0 rfl rfl rfl rfl rfl rfl ?_ | refine S_store tabOk 1 rfl rfl rfl rfl rfl rfl ?_ | refine S_store tabOk 2 rfl rfl rfl rfl rfl rfl ?_ | refine S_store tabOk 3 rfl rfl rfl rfl rfl rfl ?_ | refine S_store tabOk 4 rfl rfl rfl rfl rfl rfl ?_ | refine S_store tabOk 5 rfl rfl rfl rfl rfl rfl ?_ | refine S_q (Q_build tabOk rfl rfl rfl rfl rfl rfl rfl) ?_ | refine D_q (Q_build tabOk rfl rfl rfl rfl rfl rfl rfl) ?_)
          exact ⟨true, ⟨fun _ => .inl h2, fun _ => rfl⟩, by repeat (first | exact Sub.nil | refine Sub.cons rfl ?_ | refine Sub.cons_int rfl (by omega) ?_), fun _ h => h⟩
        · repeat (first | refine T_draw (by kernel_rfl) (by kernel_rfl) ?_ | refine D_all rfl ?_ | refine D_i64 tabOk rfl (by omega) ?_ | refine D_u64 tabOk rfl (by omega) ?_ | refine D_pure tabOk rfl ?_ | refine D_pass rfl rfl rfl ?_ | refine D_load tabOk 0 rfl rfl rfl ?_ | refine D_load tabOk 1 rfl rfl rfl ?_ | refine D_load tabOk 2 rfl rfl rfl ?_ | refine D_load tabOk 3 rfl rfl rfl ?_ | refine D_load tabOk 4 rfl rfl rfl ?_ | refine T_seq ?_ | refine T_region ?_ | refine T_block ?_ | refine S_nil ?_ | refine pthen_normal ?_ | refine inb_normal ?_ | refine inb_ret ?_ | refine pthen_ret ?_ | refine inb_hit ?_ | refine pthen_exit ?_ | refine T_skip ?_ | refine T_ret ?_ | refine T_exit ?_  | refine S_i64 tabOk rfl (by omega) ?_ | refine S_u64 tabOk rfl (by omega) ?_ | refine S_pure tabOk rfl ?_ | refine S_pass rfl rfl rfl ?_ | refine S_pass0 rfl rfl ?_ | refine T_region_any ?_  | refine S_load tabOk 0 rfl rfl rfl ?_ | refine S_load tabOk 1 rfl rfl rfl ?_ | refine S_load tabOk 2 rfl rfl rfl ?_ | refine S_load tabOk 3 rfl rfl rfl ?_ | refine S_load tabOk 4 rfl rfl rfl ?_ | refine S_load tabOk 5 rfl rfl rfl ?_ | refine S_store tabOk 0 rfl rfl rfl rfl rfl rfl ?_ | refine S_store tabOk 1 rfl rfl rfl rfl rfl rfl ?_ | refine S_store tabOk 2 rfl rfl rfl rfl rfl rfl ?_ | refine S_store tabOk 3 rfl rfl rfl rfl rfl rfl ?_ | refine S_store tabOk 4 rfl rfl rfl rfl rfl rfl ?_ | refine S_store tabOk 5 rfl rfl rfl rfl rfl rfl ?_ | refine S_q (Q_build tabOk rfl rfl rfl rfl rfl rfl rfl) ?_ | refine D_q (Q_build tabOk rfl rfl rfl rfl rfl rfl rfl) ?_)
          refine ⟨_, ?_, by repeat (first | exact Sub.nil | refine Sub.cons rfl ?_ | refine Sub.cons_int rfl (by omega) ?_), fun _ h => h⟩
          rw [decide_eq_true_iff]
          exact ⟨fun h => .inr h, fun h => h.resolve_left (by omega)⟩
      · intro q hq
        refine T_cond rfl (fun h2 => ?_) (fun h2 => ?_)
        · have hI2 := wo_whole hc hok hk' hI (hq.1 h2)
          repeat (first | refine T_draw (by kernel_rfl) (by kernel_rfl) ?_ | refine D_all rfl ?_ | refine D_i64 tabOk rfl (by omega) ?_ | refine D_u64 tabOk rfl (by omega) ?_ | refine D_pure tabOk rfl ?_ | refine D_pass rfl rfl rfl ?_ | refine D_load tabOk 0 rfl rfl rfl ?_ | refine D_load tabOk 1 rfl rfl rfl ?_ | refine D_load tabOk 2 rfl rfl rfl ?_ | refine D_load tabOk 3 rfl rfl rfl ?_ | refine D_load tabOk 4 rfl rfl rfl ?_ | refine T_seq ?_ | refine T_region ?_ | refine T_block ?_ | refine S_nil ?_ | refine pthen_normal ?_ | refine inb_normal ?_ | refine inb_ret ?_ | refine pthen_ret ?_ | refine inb_hit ?_ | refine pthen_exit ?_ | refine T_skip ?_ | refine T_ret ?_ | refine T_exit ?_  | refine S_i64 tabOk rfl (by omega) ?_ | refine S_u64 tabOk rfl (by omega) ?_ | refine S_pure tabOk rfl ?_ | refine S_pass rfl rfl rfl ?_ | refine S_pass0 rfl rfl ?_ | refine T_region_any ?_  | refine S_load tabOk 0 rfl rfl rfl ?_ | refine S_load tabOk 1 rfl rfl rfl ?_ | refine S_load tabOk 2 rfl rfl rfl ?_ | refine S_load tabOk 3 rfl rfl rfl ?_ | refine S_load tabOk 4 rfl rfl rfl ?_ | refine S_load tabOk 5 rfl rfl rfl ?_ | refine S_store tabOk 0 rfl rfl rfl rfl rfl rfl ?_ | refine S_store tabOk 1 rfl rfl rfl rfl rfl rfl ?_ | refine S_store tabOk 2 rfl rfl rfl rfl rfl rfl ?_ | refine S_store tabOk 3 rfl rfl rfl rfl rfl rfl ?_ | refine S_store tabOk 4 rfl rfl rfl rfl rfl rfl ?_ | refine S_store tabOk 5 rfl rfl rfl rfl rfl rfl ?_ | refine S_q (Q_build tabOk rfl rfl rfl rfl rfl rfl rfl) ?_ | refine D_q (Q_build tabOk rfl rfl rfl rfl rfl rfl rfl) ?_)
          refine S_bslice tabOk rfl rfl rfl rfl rfl rfl rfl rfl rfl rfl rfl rfl (fun b8 hb8 => ?_)
          refine S_append (ty := 0) tabOk 2 rfl rfl rfl rfl rfl rfl rfl rfl rfl (by decide) (fun w' hw => Sl.of_blk (xs := encR l[k]) (hw.own _ (getE_mem (i := 0) rfl)) rfl (fun j u hu => by rw [Nat.zero_add]; exact hu)) (encR_one _) (by simp only [maxLen]; omega) (by show (_ + _) * 16 ≤ _; omega) rfl (fun A' c' h1 h2 => ⟨_, rfl, ?_⟩)
          rw [cells_snoc, len_snoc]
          repeat (first | refine T_draw (by kernel_rfl) (by kernel_rfl) ?_ | refine D_all rfl ?_ | refine D_i64 tabOk rfl (by omega) ?_ | refine D_u64 tabOk rfl (by omega) ?_ | refine D_pure tabOk rfl ?_ | refine D_pass rfl rfl rfl ?_ | refine D_load tabOk 0 rfl rfl rfl ?_ | refine D_load tabOk 1 rfl rfl rfl ?_ | refine D_load tabOk 2 rfl rfl rfl ?_ | refine D_load tabOk 3 rfl rfl rfl ?_ | refine D_load tabOk 4 rfl rfl rfl ?_ | refine T_seq ?_ | refine T_region ?_ | refine T_block ?_ | refine S_nil ?_ | refine pthen_normal ?_ | refine inb_normal ?_ | refine inb_ret ?_ | refine pthen_ret ?_ | refine inb_hit ?_ | refine pthen_exit ?_ | refine T_skip ?_ | refine T_ret ?_ | refine T_exit ?_  | refine S_i64 tabOk rfl (by omega) ?_ | refine S_u64 tabOk rfl (by omega) ?_ | refine S_pure tabOk rfl ?_ | refine S_pass rfl rfl rfl ?_ | refine S_pass0 rfl rfl ?_ | refine T_region_any ?_  | refine S_load tabOk 0 rfl rfl rfl ?_ | refine S_load tabOk 1 rfl rfl rfl ?_ | refine S_load tabOk 2 rfl rfl rfl ?_ | refine S_load tabOk 3 rfl rfl rfl ?_ | refine S_load tabOk 4 rfl rfl rfl ?_ | refine S_load tabOk 5 rfl rfl rfl ?_ | refine S_store tabOk 0 rfl rfl rfl rfl rfl rfl ?_ | refine S_store tabOk 1 rfl rfl rfl rfl rfl rfl ?_ | refine S_store tabOk 2 rfl rfl rfl rfl rfl rfl ?_ | refine S_store tabOk 3 rfl rfl rfl rfl rfl rfl ?_ | refine S_store tabOk 4 rfl rfl rfl rfl rfl rfl ?_ | refine S_store tabOk 5 rfl rfl rfl rfl rfl rfl ?_ | refine S_q (Q_build tabOk rfl rfl rfl rfl rfl rfl rfl) ?_ | refine D_q (Q_build tabOk rfl rfl rfl rfl rfl rfl rfl) ?_)
          exact ⟨(out ++ [l[k]], A', c'), hI2, by repeat (first | exact Sub.nil | refine Sub.cons rfl ?_ | refine Sub.cons_int rfl (by omega) ?_), fun w' hw => (hw.dropn hb8).dropn hb7⟩
        · have hno : ¬ (l[k].2 < f ∨ t < l[k].1) := fun h => by rw [h2] at hq; exact absurd (hq.2 h) (by decide)
          have hI2 := wo_cut hc hok hk' hft hf ht hI hno
          repeat (first | refine T_draw (by kernel_rfl) (by kernel_rfl) ?_ | refine D_all rfl ?_ | refine D_i64 tabOk rfl (by omega) ?_ | refine D_u64 tabOk rfl (by omega) ?_ | refine D_pure tabOk rfl ?_ | refine D_pass rfl rfl rfl ?_ | refine D_load tabOk 0 rfl rfl rfl ?_ | refine D_load tabOk 1 rfl rfl rfl ?_ | refine D_load tabOk 2 rfl rfl rfl ?_ | refine D_load tabOk 3 rfl rfl rfl ?_ | refine D_load tabOk 4 rfl rfl rfl ?_ | refine T_seq ?_ | refine T_region ?_ | refine T_block ?_ | refine S_nil ?_ | refine pthen_normal ?_ | refine inb_normal ?_ | refine inb_ret ?_ | refine pthen_ret ?_ | refine inb_hit ?_ | refine pthen_exit ?_ | refine T_skip ?_ | refine T_ret ?_ | refine T_exit ?_  | refine S_i64 tabOk rfl (by omega) ?_ | refine S_u64 tabOk rfl (by omega) ?_ | refine S_pure tabOk rfl ?_ | refine S_pass rfl rfl rfl ?_ | refine S_pass0 rfl rfl ?_ | refine T_region_any ?_  | refine S_load tabOk 0 rfl rfl rfl ?_ | refine S_load tabOk 1 rfl rfl rfl ?_ | refine S_load tabOk 2 rfl rfl rfl ?_ | refine S_load tabOk 3 rfl rfl rfl ?_ | refine S_load tabOk 4 rfl rfl rfl ?_ | refine S_load tabOk 5 rfl rfl rfl ?_ | refine S_store tabOk 0 rfl rfl rfl rfl rfl rfl ?_ | refine S_store tabOk 1 rfl rfl rfl rfl rfl rfl ?_ | refine S_store tabOk 2 rfl rfl rfl rfl rfl rfl ?_ | refine S_store tabOk 3 rfl rfl rfl rfl rfl rfl ?_ | refine S_store tabOk 4 rfl rfl rfl rfl rfl rfl ?_ | refine S_store tabOk 5 rfl rfl rfl rfl rfl rfl ?_ | refine S_q (Q_build tabOk rfl rfl rfl rfl rfl rfl rfl) ?_ | refine D_q (Q_build tabOk rfl rfl rfl rfl rfl rfl rfl) ?_)
          refine T_cut (ι := List Run × Option Addr × Nat) (fun i => i.1 = out ++ (if l[k].1 < f then [(l[k].1, f - 1)] else [])) (fun i => [(3, .pointer (some ⟨b3, 0, none⟩)), (4, .pointer (some ⟨b4, 0, none⟩)), (5, .slice i.2.1 i.1.length i.2.2), (7, .pointer (some ⟨b7, 0, none⟩)), (9, .slice (some ⟨ab, off, none⟩) n c), (10, .int .i64 (n : Int)), (11, .int .i64 (k : Int))])
            (fun i => [.blk b7 (.cells ⟨encR l[k]⟩ 49 (0, 0)) true, .row w.heap.size (.slice i.2.1 i.1.length i.2.2) 49 2 i.1.length (cellsR i.1), .blk b4 (.cells ⟨[.slice none 0 0]⟩ 26 (0, 0)) true, .blk b3 (.cells ⟨encR (f, t)⟩ 49 (0, 0)) true]) ?_ ?_
          · refine T_cond_dec rfl (fun h3 => ?_) (fun h3 => ?_)
            · repeat (first | refine T_draw (by kernel_rfl) (by kernel_rfl) ?_ | refine D_all rfl ?_ | refine D_i64 tabOk rfl (by omega) ?_ | refine D_u64 tabOk rfl (by omega) ?_ | refine D_pure tabOk rfl ?_ | refine D_pass rfl rfl rfl ?_ | refine D_load tabOk 0 rfl rfl rfl ?_ | refine D_load tabOk 1 rfl rfl rfl ?_ | refine D_load tabOk 2 rfl rfl rfl ?_ | refine D_load tabOk 3 rfl rfl rfl ?_ | refine D_load tabOk 4 rfl rfl rfl ?_ | refine T_seq ?_ | refine T_region ?_ | refine T_block ?_ | refine S_nil ?_ | refine pthen_normal ?_ | refine inb_normal ?_ | refine inb_ret ?_ | refine pthen_ret ?_ | refine inb_hit ?_ | refine pthen_exit ?_ | refine T_skip ?_ | refine T_ret ?_ | refine T_exit ?_  | refine S_i64 tabOk rfl (by omega) ?_ | refine S_u64 tabOk rfl (by omega) ?_ | refine S_pure tabOk rfl ?_ | refine S_pass rfl rfl rfl ?_ | refine S_pass0 rfl rfl ?_ | refine T_region_any ?_  | refine S_load tabOk 0 rfl rfl rfl ?_ | refine S_load tabOk 1 rfl rfl rfl ?_ | refine S_load tabOk 2 rfl rfl rfl ?_ | refine S_load tabOk 3 rfl rfl rfl ?_ | refine S_load tabOk 4 rfl rfl rfl ?_ | refine S_load tabOk 5 rfl rfl rfl ?_ | refine S_store tabOk 0 rfl rfl rfl rfl rfl rfl ?_ | refine S_store tabOk 1 rfl rfl rfl rfl rfl rfl ?_ | refine S_store tabOk 2 rfl rfl rfl rfl rfl rfl ?_ | refine S_store tabOk 3 rfl rfl rfl rfl rfl rfl ?_ | refine S_store tabOk 4 rfl rfl rfl rfl rfl rfl ?_ | refine S_store tabOk 5 rfl rfl rfl rfl rfl rfl ?_ | refine S_q (Q_build tabOk rfl rfl rfl rfl rfl rfl rfl) ?_ | refine D_q (Q_build tabOk rfl rfl rfl rfl rfl rfl rfl) ?_)
              refine S_bslice tabOk rfl rfl rfl rfl rfl rfl rfl rfl rfl rfl rfl rfl (fun b8 hb8 => ?_)
              refine S_append (ty := 0) tabOk 2 rfl rfl rfl rfl rfl rfl rfl rfl rfl (by decide) (fun w' hw => Sl.of_blk (xs := encR (l[k].1, f - 1)) (hw.own _ (getE_mem (i := 0) rfl)) rfl (fun j u hu => by rw [Nat.zero_add]; exact hu)) (encR_one _) (by simp only [maxLen]; omega) (by show (_ + _) * 16 ≤ _; omega) rfl (fun A' c' h1 h2 => ⟨_, rfl, ?_⟩)
              rw [cells_snoc, len_snoc]
              repeat (first | refine T_draw (by kernel_rfl) (by kernel_rfl) ?_ | refine D_all rfl ?_ | refine D_i64 tabOk rfl (by omega) ?_ | refine D_u64 tabOk rfl (by omega) ?_ | refine D_pure tabOk rfl ?_ | refine D_pass rfl rfl rfl ?_ | refine D_load tabOk 0 rfl rfl rfl ?_ | refine D_load tabOk 1 rfl rfl rfl ?_ | refine D_load tabOk 2 rfl rfl rfl ?_ | refine D_load tabOk 3 rfl rfl rfl ?_ | refine D_load tabOk 4 rfl rfl rfl ?_ | refine T_seq ?_ | refine T_region ?_ | refine T_block ?_ | refine S_nil ?_ | refine pthen_normal ?_ | refine inb_normal ?_ | refine inb_ret ?_ | refine pthen_ret ?_ | refine inb_hit ?_ | refine pthen_exit ?_ | refine T_skip ?_ | refine T_ret ?_ | refine T_exit ?_  | refine S_i64 tabOk rfl (by omega) ?_ | refine S_u64 tabOk rfl (by omega) ?_ | refine S_pure tabOk rfl ?_ | refine S_pass rfl rfl rfl ?_ | refine S_pass0 rfl rfl ?_ | refine T_region_any ?_  | refine S_load tabOk 0 rfl rfl rfl ?_ | refine S_load tabOk 1 rfl rfl rfl ?_ | refine S_load tabOk 2 rfl rfl rfl ?_ | refine S_load tabOk 3 rfl rfl rfl ?_ | refine S_load tabOk 4 rfl rfl rfl ?_ | refine S_load tabOk 5 rfl rfl rfl ?_ | refine S_store tabOk 0 rfl rfl rfl rfl rfl rfl ?_ | refine S_store tabOk 1 rfl rfl rfl rfl rfl rfl ?_ | refine S_store tabOk 2 rfl rfl rfl rfl rfl rfl ?_ | refine S_store tabOk 3 rfl rfl rfl rfl rfl rfl ?_ | refine S_store tabOk 4 rfl rfl rfl rfl rfl rfl ?_ | refine S_store tabOk 5 rfl rfl rfl rfl rfl rfl ?_ | refine S_q (Q_build tabOk rfl rfl rfl rfl rfl rfl rfl) ?_ | refine D_q (Q_build tabOk rfl rfl rfl rfl rfl rfl rfl) ?_)
              exact ⟨(out ++ [(l[k].1, f - 1)], A', c'), by rw [if_pos h3], by repeat (first | exact Sub.nil | refine Sub.cons rfl ?_ | refine Sub.cons_int rfl (by omega) ?_), fun w' hw => hw.dropn hb8⟩
            · repeat (first | refine T_draw (by kernel_rfl) (by kernel_rfl) ?_ | refine D_all rfl ?_ | refine D_i64 tabOk rfl (by omega) ?_ | refine D_u64 tabOk rfl (by omega) ?_ | refine D_pure tabOk rfl ?_ | refine D_pass rfl rfl rfl ?_ | refine D_load tabOk 0 rfl rfl rfl ?_ | refine D_load tabOk 1 rfl rfl rfl ?_ | refine D_load tabOk 2 rfl rfl rfl ?_ | refine D_load tabOk 3 rfl rfl rfl ?_ | refine D_load tabOk 4 rfl rfl rfl ?_ | refine T_seq ?_ | refine T_region ?_ | refine T_block ?_ | refine S_nil ?_ | refine pthen_normal ?_ | refine inb_normal ?_ | refine inb_ret ?_ | refine pthen_ret ?_ | refine inb_hit ?_ | refine pthen_exit ?_ | refine T_skip ?_ | refine T_ret ?_ | refine T_exit ?_  | refine S_i64 tabOk rfl (by omega) ?_ | refine S_u64 tabOk rfl (by omega) ?_ | refine S_pure tabOk rfl ?_ | refine S_pass rfl rfl rfl ?_ | refine S_pass0 rfl rfl ?_ | refine T_region_any ?_  | refine S_load tabOk 0 rfl rfl rfl ?_ | refine S_load tabOk 1 rfl rfl rfl ?_ | refine S_load tabOk 2 rfl rfl rfl ?_ | refine S_load tabOk 3 rfl rfl rfl ?_ | refine S_load tabOk 4 rfl rfl rfl ?_ | refine S_load tabOk 5 rfl rfl rfl ?_ | refine S_store tabOk 0 rfl rfl rfl rfl rfl rfl ?_ | refine S_store tabOk 1 rfl rfl rfl rfl rfl rfl ?_ | refine S_store tabOk 2 rfl rfl rfl rfl rfl rfl ?_ | refine S_store tabOk 3 rfl rfl rfl rfl rfl rfl ?_ | refine S_store tabOk 4 rfl rfl rfl rfl rfl rfl ?_ | refine S_store tabOk 5 rfl rfl rfl rfl rfl rfl ?_ | refine S_q (Q_build tabOk rfl rfl rfl rfl rfl rfl rfl) ?_ | refine D_q (Q_build tabOk rfl rfl rfl rfl rfl rfl rfl) ?_)
              exact ⟨(out, a1, c1), by rw [if_neg h3, List.append_nil], by repeat (first | exact Sub.nil | refine Sub.cons rfl ?_ | refine Sub.cons_int rfl (by omega) ?_), fun w' hw => hw⟩
          rintro ⟨out1, a2, c2⟩ ho1
          dsimp only at ho1 ⊢
          have hln1 : out1.length ≤ k + 2 := by
            rw [ho1, List.length_append]
            split <;> simp <;> omega
          repeat (first | refine T_draw (by kernel_rfl) (by kernel_rfl) ?_ | refine D_all rfl ?_ | refine D_i64 tabOk rfl (by omega) ?_ | refine D_u64 tabOk rfl (by omega) ?_ | refine D_pure tabOk rfl ?_ | refine D_pass rfl rfl rfl ?_ | refine D_load tabOk 0 rfl rfl rfl ?_ | refine D_load tabOk 1 rfl rfl rfl ?_ | refine D_load tabOk 2 rfl rfl rfl ?_ | refine D_load tabOk 3 rfl rfl rfl ?_ | refine D_load tabOk 4 rfl rfl rfl ?_ | refine T_seq ?_ | refine T_region ?_ | refine T_block ?_ | refine S_nil ?_ | refine pthen_normal ?_ | refine inb_normal ?_ | refine inb_ret ?_ | refine pthen_ret ?_ | refine inb_hit ?_ | refine pthen_exit ?_ | refine T_skip ?_ | refine T_ret ?_ | refine T_exit ?_  | refine S_i64 tabOk rfl (by omega) ?_ | refine S_u64 tabOk rfl (by omega) ?_ | refine S_pure tabOk rfl ?_ | refine S_pass rfl rfl rfl ?_ | refine S_pass0 rfl rfl ?_ | refine T_region_any ?_  | refine S_load tabOk 0 rfl rfl rfl ?_ | refine S_load tabOk 1 rfl rfl rfl ?_ | refine S_load tabOk 2 rfl rfl rfl ?_ | refine S_load tabOk 3 rfl rfl rfl ?_ | refine S_load tabOk 4 rfl rfl rfl ?_ | refine S_load tabOk 5 rfl rfl rfl ?_ | refine S_store tabOk 0 rfl rfl rfl rfl rfl rfl ?_ | refine S_store tabOk 1 rfl rfl rfl rfl rfl rfl ?_ | refine S_store tabOk 2 rfl rfl rfl rfl rfl rfl ?_ | refine S_store tabOk 3 rfl rfl rfl rfl rfl rfl ?_ | refine S_store tabOk 4 rfl rfl rfl rfl rfl rfl ?_ | refine S_store tabOk 5 rfl rfl rfl rfl rfl rfl ?_ | refine S_q (Q_build tabOk rfl rfl rfl rfl rfl rfl rfl) ?_ | refine D_q (Q_build tabOk rfl rfl rfl rfl rfl rfl rfl) ?_)
          refine T_cond_dec rfl (fun h3 => ?_) (fun h3 => ?_)
          · have e3 : out ++ cutR l[k] f t = out1 ++ [(t + 1, l[k].2)] := by rw [ho1, cutR, if_pos h3, List.append_assoc]
            rw [e3] at hI2
            repeat (first | refine T_draw (by kernel_rfl) (by kernel_rfl) ?_ | refine D_all rfl ?_ | refine D_i64 tabOk rfl (by omega) ?_ | refine D_u64 tabOk rfl (by omega) ?_ | refine D_pure tabOk rfl ?_ | refine D_pass rfl rfl rfl ?_ | refine D_load tabOk 0 rfl rfl rfl ?_ | refine D_load tabOk 1 rfl rfl rfl ?_ | refine D_load tabOk 2 rfl rfl rfl ?_ | refine D_load tabOk 3 rfl rfl rfl ?_ | refine D_load tabOk 4 rfl rfl rfl ?_ | refine T_seq ?_ | refine T_region ?_ | refine T_block ?_ | refine S_nil ?_ | refine pthen_normal ?_ | refine inb_normal ?_ | refine inb_ret ?_ | refine pthen_ret ?_ | refine inb_hit ?_ | refine pthen_exit ?_ | refine T_skip ?_ | refine T_ret ?_ | refine T_exit ?_  | refine S_i64 tabOk rfl (by omega) ?_ | refine S_u64 tabOk rfl (by omega) ?_ | refine S_pure tabOk rfl ?_ | refine S_pass rfl rfl rfl ?_ | refine S_pass0 rfl rfl ?_ | refine T_region_any ?_  | refine S_load tabOk 0 rfl rfl rfl ?_ | refine S_load tabOk 1 rfl rfl rfl ?_ | refine S_load tabOk 2 rfl rfl rfl ?_ | refine S_load tabOk 3 rfl rfl rfl ?_ | refine S_load tabOk 4 rfl rfl rfl ?_ | refine S_load tabOk 5 rfl rfl rfl ?_ | refine S_store tabOk 0 rfl rfl rfl rfl rfl rfl ?_ | refine S_store tabOk 1 rfl rfl rfl rfl rfl rfl ?_ | refine S_store tabOk 2 rfl rfl rfl rfl rfl rfl ?_ | refine S_store tabOk 3 rfl rfl rfl rfl rfl rfl ?_ | refine S_store tabOk 4 rfl rfl rfl rfl rfl rfl ?_ | refine S_store tabOk 5 rfl rfl rfl rfl rfl rfl ?_ | refine S_q (Q_build tabOk rfl rfl rfl rfl rfl rfl rfl) ?_ | refine D_q (Q_build tabOk rfl rfl rfl rfl rfl rfl rfl) ?_)
            refine S_bslice tabOk rfl rfl rfl rfl rfl rfl rfl rfl rfl rfl rfl rfl (fun b8 hb8 => ?_)
            refine S_append (ty := 0) tabOk 2 rfl rfl rfl rfl rfl rfl rfl rfl rfl (by decide) (fun w' hw => Sl.of_blk (xs := encR (t + 1, l[k].2)) (hw.own _ (getE_mem (i := 0) rfl)) rfl (fun j u hu => by rw [Nat.zero_add]; exact hu)) (encR_one _) (by simp only [maxLen]; omega) (by show (_ + _) * 16 ≤ _; omega) rfl (fun A' c' h1 h2 => ⟨_, rfl, ?_⟩)
            rw [cells_snoc, len_snoc]
            repeat (first | refine T_draw (by kernel_rfl) (by kernel_rfl) ?_ | refine D_all rfl ?_ | refine D_i64 tabOk rfl (by omega) ?_ | refine D_u64 tabOk rfl (by omega) ?_ | refine D_pure tabOk rfl ?_ | refine D_pass rfl rfl rfl ?_ | refine D_load tabOk 0 rfl rfl rfl ?_ | refine D_load tabOk 1 rfl rfl rfl ?_ | refine D_load tabOk 2 rfl rfl rfl ?_ | refine D_load tabOk 3 rfl rfl rfl ?_ | refine D_load tabOk 4 rfl rfl rfl ?_ | refine T_seq ?_ | refine T_region ?_ | refine T_block ?_ | refine S_nil ?_ | refine pthen_normal ?_ | refine inb_normal ?_ | refine inb_ret ?_ | refine pthen_ret ?_ | refine inb_hit ?_ | refine pthen_exit ?_ | refine T_skip ?_ | refine T_ret ?_ | refine T_exit ?_  | refine S_i64 tabOk rfl (by omega) ?_ | refine S_u64 tabOk rfl (by omega) ?_ | refine S_pure tabOk rfl ?_ | refine S_pass rfl rfl rfl ?_ | refine S_pass0 rfl rfl ?_ | refine T_region_any ?_  | refine S_load tabOk 0 rfl rfl rfl ?_ | refine S_load tabOk 1 rfl rfl rfl ?_ | refine S_load tabOk 2 rfl rfl rfl ?_ | refine S_load tabOk 3 rfl rfl rfl ?_ | refine S_load tabOk 4 rfl rfl rfl ?_ | refine S_load tabOk 5 rfl rfl rfl ?_ | refine S_store tabOk 0 rfl rfl rfl rfl rfl rfl ?_ | refine S_store tabOk 1 rfl rfl rfl rfl rfl rfl ?_ | refine S_store tabOk 2 rfl rfl rfl rfl rfl rfl ?_ | refine S_store tabOk 3 rfl rfl rfl rfl rfl rfl ?_ | refine S_store tabOk 4 rfl rfl rfl rfl rfl rfl ?_ | refine S_store tabOk 5 rfl rfl rfl rfl rfl rfl ?_ | refine S_q (Q_build tabOk rfl rfl rfl rfl rfl rfl rfl) ?_ | refine D_q (Q_build tabOk rfl rfl rfl rfl rfl rfl rfl) ?_)
            exact ⟨(out1 ++ [(t + 1, l[k].2)], A', c'), hI2, by repeat (first | exact Sub.nil | refine Sub.cons rfl ?_ | refine Sub.cons_int rfl (by omega) ?_), fun w' hw => (hw.dropn hb8).dropn hb7⟩
          · have e3 : out ++ cutR l[k] f t = out1 := by rw [ho1, cutR, if_neg h3, List.append_nil]
            rw [e3] at hI2
            repeat (first | refine T_draw (by kernel_rfl) (by kernel_rfl) ?_ | refine D_all rfl ?_ | refine D_i64 tabOk rfl (by omega) ?_ | refine D_u64 tabOk rfl (by omega) ?_ | refine D_pure tabOk rfl ?_ | refine D_pass rfl rfl rfl ?_ | refine D_load tabOk 0 rfl rfl rfl ?_ | refine D_load tabOk 1 rfl rfl rfl ?_ | refine D_load tabOk 2 rfl rfl rfl ?_ | refine D_load tabOk 3 rfl rfl rfl ?_ | refine D_load tabOk 4 rfl rfl rfl ?_ | refine T_seq ?_ | refine T_region ?_ | refine T_block ?_ | refine S_nil ?_ | refine pthen_normal ?_ | refine inb_normal ?_ | refine inb_ret ?_ | refine pthen_ret ?_ | refine inb_hit ?_ | refine pthen_exit ?_ | refine T_skip ?_ | refine T_ret ?_ | refine T_exit ?_  | refine S_i64 tabOk rfl (by omega) ?_ | refine S_u64 tabOk rfl (by omega) ?_ | refine S_pure tabOk rfl ?_ | refine S_pass rfl rfl rfl ?_ | refine S_pass0 rfl rfl ?_ | refine T_region_any ?_  | refine S_load tabOk 0 rfl rfl rfl ?_ | refine S_load tabOk 1 rfl rfl rfl ?_ | refine S_load tabOk 2 rfl rfl rfl ?_ | refine S_load tabOk 3 rfl rfl rfl ?_ | refine S_load tabOk 4 rfl rfl rfl ?_ | refine S_load tabOk 5 rfl rfl rfl ?_ | refine S_store tabOk 0 rfl rfl rfl rfl rfl rfl ?_ | refine S_store tabOk 1 rfl rfl rfl rfl rfl rfl ?_ | refine S_store tabOk 2 rfl rfl rfl rfl rfl rfl ?_ | refine S_store tabOk 3 rfl rfl rfl rfl rfl rfl ?_ | refine S_store tabOk 4 rfl rfl rfl rfl rfl rfl ?_ | refine S_store tabOk 5 rfl rfl rfl rfl rfl rfl ?_ | refine S_q (Q_build tabOk rfl rfl rfl rfl rfl rfl rfl) ?_ | refine D_q (Q_build tabOk rfl rfl rfl rfl rfl rfl rfl) ?_)
            exact ⟨(out1, a2, c2), hI2, by repeat (first | exact Sub.nil | refine Sub.cons rfl ?_ | refine Sub.cons_int rfl (by omega) ?_), fun w' hw => hw.dropn hb7⟩
    · rintro ⟨out1, a2, c2⟩ hI2
      dsimp only at hI2 ⊢
      repeat (first | refine T_draw (by kernel_rfl) (by kernel_rfl) ?_ | refine D_all rfl ?_ | refine D_i64 tabOk rfl (by omega) ?_ | refine D_u64 tabOk rfl (by omega) ?_ | refine D_pure tabOk rfl ?_ | refine D_pass rfl rfl rfl ?_ | refine D_load tabOk 0 rfl rfl rfl ?_ | refine D_load tabOk 1 rfl rfl rfl ?_ | refine D_load tabOk 2 rfl rfl rfl ?_ | refine D_load tabOk 3 rfl rfl rfl ?_ | refine D_load tabOk 4 rfl rfl rfl ?_ | refine T_seq ?_ | refine T_region ?_ | refine T_block ?_ | refine S_nil ?_ | refine pthen_normal ?_ | refine inb_normal ?_ | refine inb_ret ?_ | refine pthen_ret ?_ | refine inb_hit ?_ | refine pthen_exit ?_ | refine T_skip ?_ | refine T_ret ?_ | refine T_exit ?_  | refine S_i64 tabOk rfl (by omega) ?_ | refine S_u64 tabOk rfl (by omega) ?_ | refine S_pure tabOk rfl ?_ | refine S_pass rfl rfl rfl ?_ | refine S_pass0 rfl rfl ?_ | refine T_region_any ?_  | refine S_load tabOk 0 rfl rfl rfl ?_ | refine S_load tabOk 1 rfl rfl rfl ?_ | refine S_load tabOk 2 rfl rfl rfl ?_ | refine S_load tabOk 3 rfl rfl rfl ?_ | refine S_load tabOk 4 rfl rfl rfl ?_ | refine S_load tabOk 5 rfl rfl rfl ?_ | refine S_store tabOk 0 rfl rfl rfl rfl rfl rfl ?_ | refine S_store tabOk 1 rfl rfl rfl rfl rfl rfl ?_ | refine S_store tabOk 2 rfl rfl rfl rfl rfl rfl ?_ | refine S_store tabOk 3 rfl rfl rfl rfl rfl rfl ?_ | refine S_store tabOk 4 rfl rfl rfl rfl rfl rfl ?_ | refine S_store tabOk 5 rfl rfl rfl rfl rfl rfl ?_ | refine S_q (Q_build tabOk rfl rfl rfl rfl rfl rfl rfl) ?_ | refine D_q (Q_build tabOk rfl rfl rfl rfl rfl rfl rfl) ?_)
      exact ⟨(out1, k + 1, a2, c2), ⟨by dsimp only; omega, hI2⟩, by repeat (first | exact Sub.nil | refine Sub.cons rfl ?_ | refine Sub.cons_int rfl (by omega) ?_), fun w' hw => hw, by dsimp only; omega⟩
  · have e : k = l.length := by omega
    subst e
    repeat (first | refine T_draw (by kernel_rfl) (by kernel_rfl) ?_ | refine D_all rfl ?_ | refine D_i64 tabOk rfl (by omega) ?_ | refine D_u64 tabOk rfl (by omega) ?_ | refine D_pure tabOk rfl ?_ | refine D_pass rfl rfl rfl ?_ | refine D_load tabOk 0 rfl rfl rfl ?_ | refine D_load tabOk 1 rfl rfl rfl ?_ | refine D_load tabOk 2 rfl rfl rfl ?_ | refine D_load tabOk 3 rfl rfl rfl ?_ | refine D_load tabOk 4 rfl rfl rfl ?_ | refine T_seq ?_ | refine T_region ?_ | refine T_block ?_ | refine S_nil ?_ | refine pthen_normal ?_ | refine inb_normal ?_ | refine inb_ret ?_ | refine pthen_ret ?_ | refine inb_hit ?_ | refine pthen_exit ?_ | refine T_skip ?_ | refine T_ret ?_ | refine T_exit ?_  | refine S_i64 tabOk rfl (by omega) ?_ | refine S_u64 tabOk rfl (by omega) ?_ | refine S_pure tabOk rfl ?_ | refine S_pass rfl rfl rfl ?_ | refine S_pass0 rfl rfl ?_ | refine T_region_any ?_  | refine S_load tabOk 0 rfl rfl rfl ?_ | refine S_load tabOk 1 rfl rfl rfl ?_ | refine S_load tabOk 2 rfl rfl rfl ?_ | refine S_load tabOk 3 rfl rfl rfl ?_ | refine S_load tabOk 4 rfl rfl rfl ?_ | refine S_load tabOk 5 rfl rfl rfl ?_ | refine S_store tabOk 0 rfl rfl rfl rfl rfl rfl ?_ | refine S_store tabOk 1 rfl rfl rfl rfl rfl rfl ?_ | refine S_store tabOk 2 rfl rfl rfl rfl rfl rfl ?_ | refine S_store tabOk 3 rfl rfl rfl rfl rfl rfl ?_ | refine S_store tabOk 4 rfl rfl rfl rfl rfl rfl ?_ | refine S_store tabOk 5 rfl rfl rfl rfl rfl rfl ?_ | refine S_q (Q_build tabOk rfl rfl rfl rfl rfl rfl rfl) ?_ | refine D_q (Q_build tabOk rfl rfl rfl rfl rfl rfl rfl) ?_)
    refine ret1 rfl (res_cell tabOk 1 rfl rfl rfl rfl) (fun w' hw => ⟨_, out, rfl, hw.below (by repeat (first | exact new_nil | refine new_ro ?_ | refine new_cons (by first | assumption | omega) ?_ | refine newrow hw 0 rfl (Nat.le_refl _) ?_ | refine newrow hw 1 rfl (Nat.le_refl _) ?_ | refine newrow hw 2 rfl (Nat.le_refl _) ?_ | refine newrow hw 3 rfl (Nat.le_refl _) ?_ | refine newrow hw 4 rfl (Nat.le_refl _) ?_ | refine newrow hw 5 rfl (Nat.le_refl _) ?_)), hI, set_val (slr_row (hw.own _ (getE_mem (i := 0) rfl)) hI.ok fun k hk => hk)⟩)
end Go.Proofs.Ytgjibkocpmajdaa
