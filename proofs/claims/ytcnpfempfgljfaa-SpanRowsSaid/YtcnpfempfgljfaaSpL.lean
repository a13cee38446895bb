/-
  The plain law of SpanRows: items one behind the other, cut off anywhere. Conditions: each theorem's own.
-/
import Derived.Test.YtcnpfempfgljfaaSpK
namespace Go.Proofs.Ytcnpfempfgljfaa
open Go Go.RowKit
set_option linter.unusedVariables false

abbrev It := Nat × (Int × List Int)
abbrev encI (x : It) : List Int := enc x.1 ++ spB x.2.1 x.2.2
def okI (x : It) : Prop := x.1 < 18446744073709551616 ∧ (0 ≤ x.2.1 ∧ x.2.1 < 8) ∧ x.2.2.length ≤ 40 ∧ ∀ z ∈ x.2.2, Fits .u8 z
def encL (l : List It) : List Int := (l.map encI).flatten
theorem encL_snoc (l : List It) (x : It) : encL (l ++ [x]) = encL l ++ encI x := by simp [encL]
theorem encL_cons (l : List It) (x : It) : encL (x :: l) = encI x ++ encL l := by simp [encL]
theorem encI_fits {x : It} (h : okI x) : ∀ z ∈ encI x, Fits .u8 z := app_fits (enc_fits _) (spB_fits h.2.2.2)
theorem encI_len {x : It} (h : okI x) : (encI x).length ≤ 70 := by
  have h1 := enc_len10 h.1
  have h2 := spB_len x.2.1 x.2.2 (by have := h.2.2.1; omega)
  have := h.2.2.1
  simp only [encI, List.length_append]
  omega
theorem encL_fits : ∀ {l : List It}, (∀ x ∈ l, okI x) → ∀ z ∈ encL l, Fits .u8 z
  | [], _, z, hz => by cases hz
  | x :: l, h, z, hz => by
    rw [encL_cons] at hz
    exact app_fits (encI_fits (h x List.mem_cons_self)) (encL_fits fun y hy => h y (List.mem_cons_of_mem _ hy)) z hz
theorem encL_len : ∀ {l : List It}, (∀ x ∈ l, okI x) → (encL l).length ≤ 70 * l.length
  | [], _ => Nat.zero_le _
  | x :: l, h => by
    have h1 := encI_len (h x List.mem_cons_self)
    have h2 := encL_len (l := l) fun y hy => h y (List.mem_cons_of_mem _ hy)
    rw [encL_cons, List.length_append, List.length_cons]
    omega

/-! what is cut off -/
theorem dec_cut : ∀ (N i m : Nat), i ≤ 9 → (i = 0 ∨ 0 < N) → N < 2 ^ (64 - 7 * i) → m < (enc N).length → dec i ((enc N).take m) = (2, 0, 0) := by
  intro N
  induction N using Nat.strongRecOn with
  | ind N ih =>
    intro i m hi h0 hN hm
    cases m with
    | zero => rfl
    | succ m =>
      by_cases hs : N < 128
      · rw [enc_small hs] at hm
        simp at hm
      · rw [enc_big hs] at hm ⊢
        rw [List.length_cons] at hm
        have hi9 : i ≤ 8 := by
          rcases Nat.lt_or_ge i 9 with h | h
          · omega
          · have : i = 9 := by omega
            subst this
            have h2 : (2 : Nat) ^ (64 - 7 * 9) = 2 := rfl
            omega
        have hN2 : N / 128 < 2 ^ (64 - 7 * (i + 1)) := by
          have h3 : 2 ^ (64 - 7 * i) = 2 ^ (64 - 7 * (i + 1)) * 128 := by
            rw [show 64 - 7 * i = (64 - 7 * (i + 1)) + 7 by omega, Nat.pow_add]
          rw [h3] at hN
          exact Nat.div_lt_of_lt_mul (by rw [Nat.mul_comm]; exact hN)
        have hr := ih (N / 128) (by omega) (i + 1) m (by omega) (.inr (by omega)) hN2 (by omega)
        rw [List.take_succ_cons, dec, if_neg (by omega), if_neg (by omega), if_neg (by omega), hr]
        rfl
theorem dec_cut0 {N m : Nat} (hN : N < 18446744073709551616) (hm : m < (enc N).length) : dec 0 ((enc N).take m) = (2, 0, 0) := dec_cut N 0 m (by decide) (.inl rfl) hN hm
theorem rdB_cut {zs : List Int} {m : Nat} (hz : zs.length ≤ 4096) (hm : m < (encB zs).length) : rdB 0 ((encB zs).take m) 4096 = (2, [], 0) := by
  have hl : (encB zs).length = (enc zs.length).length + zs.length := by unfold encB; rw [List.length_append]
  unfold rdB
  rw [if_neg (by decide)]
  by_cases h : m < (enc zs.length).length
  · have e1 : (encB zs).take m = (enc zs.length).take m := by unfold encB; rw [List.take_append_of_le_length (Nat.le_of_lt h)]
    rw [e1, dec_cut0 (by omega) h, if_pos (by decide)]
  · have e1 : (encB zs).take m = enc zs.length ++ zs.take (m - (enc zs.length).length) := by unfold encB; rw [List.take_append, List.take_of_length_le (by omega)]
    have e2 : dec 0 ((encB zs).take m) = (0, zs.length, (enc zs.length).length) := by rw [e1]; exact dec_enc zs.length 0 _ (by decide) (.inl rfl) (by omega)
    rw [e2, if_neg (fun h => h rfl), if_neg (by show ¬ ((4096 : Int) < 0 ∨ (4096 : Int) < (zs.length : Int)); omega), if_pos (by show _ < (enc zs.length).length + zs.length; rw [List.length_take]; omega)]
theorem rdB_err {e : Int} (he : e ≠ 0) (zs : List Int) (m : Int) : rdB e zs m = (e, [], 0) := by unfold rdB; rw [if_pos he]
theorem getS_err (zs : List Int) : ∃ u, getS 2 zs = (2, (0, []), u) := by
  have e1 : by1 2 zs = (2, 0, 0) := by unfold by1; rw [if_pos (by decide)]
  refine ⟨0, ?_⟩
  unfold getS
  rw [e1]
  dsimp only
  rw [if_neg (by decide), rdB_err (by decide)]
  rfl
theorem getS_cut {k : Int} {zs : List Int} {m : Nat} (h0 : 0 ≤ k) (h1 : k < 8) (hz : zs.length ≤ 4096) (hm : m < (spB k zs).length) : ∃ u, getS 0 ((spB k zs).take m) = (2, (0, []), u) := by
  cases m with
  | zero =>
    refine ⟨0, ?_⟩
    unfold getS
    rw [List.take_zero]
    rfl
  | succ m =>
    have e0 : spB k zs = IntKind.u8.wrap k :: encB zs := rfl
    rw [e0, List.length_cons] at hm
    rw [e0, List.take_succ_cons, wrap_small h0 (by omega)]
    have e1 : by1 0 (k :: (encB zs).take m) = (0, k, 1) := by unfold by1; rw [if_neg (by decide)]
    refine ⟨1, ?_⟩
    unfold getS
    rw [e1]
    dsimp only
    rw [if_neg (by omega), List.drop_one, List.tail_cons, rdB_cut hz (by omega)]
    rfl
theorem getI_cut {x : It} {m : Nat} (h : okI x) (hm : m < (encI x).length) : ∃ u, getI 0 ((encI x).take m) = (2, (0, (0, [])), u) := by
  obtain ⟨N, k, zs⟩ := x
  obtain ⟨hN, ⟨h0, h1⟩, hz, _⟩ := h
  dsimp only at hN h0 h1 hz
  simp only [encI, List.length_append] at hm ⊢
  by_cases hc : m < (enc N).length
  · rw [List.take_append_of_le_length (Nat.le_of_lt hc)]
    have e1 : rd 0 ((enc N).take m) = (2, 0, 0) := dec_cut0 hN hc
    obtain ⟨u, hu⟩ := getS_err (((enc N).take m).drop 0)
    refine ⟨0 + u, ?_⟩
    unfold getI
    rw [e1]
    dsimp only
    rw [hu]
    rfl
  · have e0 : (enc N ++ spB k zs).take m = enc N ++ (spB k zs).take (m - (enc N).length) := by rw [List.take_append, List.take_of_length_le (by omega)]
    have e1 : rd 0 (enc N ++ (spB k zs).take (m - (enc N).length)) = (0, N, (enc N).length) := dec_enc N 0 _ (by decide) (.inl rfl) hN
    obtain ⟨u, hu⟩ := getS_cut (k := k) (zs := zs) (m := m - (enc N).length) h0 h1 (by omega) (by omega)
    refine ⟨(enc N).length + u, ?_⟩
    rw [e0]
    unfold getI
    rw [e1]
    dsimp only
    rw [List.drop_left, hu]
    rfl
theorem getI_put' {x : It} (h : okI x) (bh : List Int) : getI 0 (encI x ++ bh) = (0, x, (encI x).length) :=
  getI_put h.1 h.2.1.1 h.2.1.2 (by have := h.2.2.1; omega)

/-- where item j begins -/
def offL (l : List It) (j : Nat) : Nat := (encL (l.take j)).length
theorem offL_succ {l : List It} {j : Nat} (hj : j < l.length) : offL l (j + 1) = offL l j + (encI l[j]).length := by
  unfold offL
  rw [List.take_succ_eq_append_getElem hj, encL_snoc, List.length_append]
theorem offL_all {l : List It} : offL l l.length = (encL l).length := by unfold offL; rw [List.take_length]
theorem encL_drop {l : List It} {j : Nat} (hj : j < l.length) : (encL l).drop (offL l j) = encI l[j] ++ encL (l.drop (j + 1)) := by
  have e : encL l = encL (l.take j) ++ encL (l.drop j) := by
    conv => lhs; rw [← List.take_append_drop j l]
    unfold encL
    rw [List.map_append, List.flatten_append]
  unfold offL
  rw [e, List.drop_left, List.drop_eq_getElem_cons hj, encL_cons]
theorem read_whole {l : List It} {j k : Nat} (hl : ∀ x ∈ l, okI x) (hj : j < l.length) (hk : offL l (j + 1) ≤ k) : getI 0 (((encL l).take k).drop (offL l j)) = (0, l[j], (encI l[j]).length) := by
  rw [offL_succ hj] at hk
  rw [List.drop_take, encL_drop hj, List.take_append, List.take_of_length_le (by omega)]
  exact getI_put' (hl _ (List.getElem_mem hj)) _
theorem read_cut {l : List It} {j k : Nat} (hl : ∀ x ∈ l, okI x) (hj : j < l.length) (hk0 : offL l j ≤ k) (hk : k < offL l (j + 1)) : ∃ u, getI 0 (((encL l).take k).drop (offL l j)) = (2, (0, (0, [])), u) := by
  rw [offL_succ hj] at hk
  rw [List.drop_take, encL_drop hj, List.take_append_of_le_length (by omega)]
  exact getI_cut (hl _ (List.getElem_mem hj)) (by omega)
end Go.Proofs.Ytcnpfempfgljfaa
