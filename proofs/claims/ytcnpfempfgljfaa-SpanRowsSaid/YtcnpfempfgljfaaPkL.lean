/-
  The document's reading of a number. Conditions: each theorem's own.
-/
import Derived.Test.YtcnpfempfgljfaaPkI
namespace Go.Proofs.Ytcnpfempfgljfaa
open Go Go.RowKit
set_option linter.unusedVariables false

/-- how many bytes stand ahead of the number's last one: at most 9 - i, each with the mark -/
def run : Nat → List Int → Nat
  | _, [] => 0
  | 0, _ => 0
  | k + 1, z :: zs => if 128 ≤ z then run k zs + 1 else 0
/-- the number of so many bytes -/
def val : List Int → Nat
  | [] => 0
  | z :: zs => z.toNat % 128 + 128 * val zs
theorem run_le : ∀ (k : Nat) (zs : List Int), run k zs ≤ k ∧ run k zs ≤ zs.length
  | _, [] => by simp [run]
  | 0, z :: zs => by simp [run]
  | k + 1, z :: zs => by
    have := run_le k zs
    unfold run
    split
    · rw [List.length_cons]; omega
    · exact ⟨Nat.zero_le _, Nat.zero_le _⟩
/-- .. in these words it is what 'dec' says -/
theorem dec_run : ∀ (zs : List Int) (i : Nat), i ≤ 9 → (∀ z ∈ zs, Fits .u8 z) → dec i zs =
    match zs[run (9 - i) zs]? with
    | none => (2, 0, 0)
    | some z => if i + run (9 - i) zs = 9 ∧ 1 < z then (7, 0, 0) else if 0 < i + run (9 - i) zs ∧ z = 0 then (2, 0, 0) else (0, val (zs.take (run (9 - i) zs + 1)), run (9 - i) zs + 1)
  | [], i, hi, _ => by simp [dec, run]
  | z :: zs, i, hi, hf => by
    have hz := fits_u8 (hf z List.mem_cons_self)
    have ih := dec_run zs (i + 1)
    unfold dec
    by_cases h9 : i = 9
    · subst h9
      have hr : run (9 - 9) (z :: zs) = 0 := rfl
      rw [hr]
      simp only [List.getElem?_cons_zero, Nat.add_zero, true_and]
      by_cases h1 : 1 < z
      · rw [if_pos h1, if_pos h1]
      · rw [if_neg h1, if_neg h1]
        by_cases h2 : z = 0
        · rw [if_pos ⟨h2, by decide⟩, if_pos ⟨by decide, h2⟩]
        · rw [if_neg (fun hc => h2 hc.1), if_pos (by omega : z < 128), if_neg (fun hc => h2 hc.2)]
          simp only [List.take_succ_cons, List.take_zero, val, Nat.zero_add, Nat.mul_zero, Nat.add_zero]
          rw [show z.toNat % 128 = z.toNat from by omega]
    · rw [if_neg (fun hc => h9 hc.1)]
      obtain ⟨k, hk⟩ : ∃ k, 9 - i = k + 1 := ⟨8 - i, by omega⟩
      have hk' : 9 - (i + 1) = k := by omega
      by_cases h2 : z = 0 ∧ 0 < i
      · obtain ⟨rfl, h0⟩ := h2
        rw [if_pos ⟨rfl, h0⟩, hk]
        simp [run, h0]
      · rw [if_neg h2]
        by_cases h3 : z < 128
        · have hr : run (9 - i) (z :: zs) = 0 := by rw [hk]; unfold run; rw [if_neg (by omega)]
          rw [if_pos h3, hr]
          simp only [List.getElem?_cons_zero, Nat.add_zero]
          rw [if_neg (fun hc => h9 hc.1), if_neg (fun hc => h2 ⟨hc.2, hc.1⟩)]
          simp only [List.take_succ_cons, List.take_zero, val, Nat.zero_add, Nat.mul_zero, Nat.add_zero]
          rw [show z.toNat % 128 = z.toNat from by omega]
        · have hr : run (9 - i) (z :: zs) = run k zs + 1 := by rw [hk]; conv => lhs; unfold run; rw [if_pos (by omega)]
          rw [if_neg h3, ih (by omega) (fun y hy => hf y (List.mem_cons_of_mem _ hy)), hk', hr]
          simp only [List.getElem?_cons_succ]
          cases hzr : zs[run k zs]? with
          | none => rfl
          | some y =>
            dsimp only
            rw [show i + (run k zs + 1) = i + 1 + run k zs from by omega]
            by_cases c1 : i + 1 + run k zs = 9 ∧ 1 < y
            · simp only [if_pos c1]
              rfl
            · simp only [if_neg c1]
              by_cases c2 : 0 < i + 1 + run k zs ∧ y = 0
              · simp only [if_pos c2]
                rfl
              · simp only [if_neg c2]
                rfl
end Go.Proofs.Ytcnpfempfgljfaa
