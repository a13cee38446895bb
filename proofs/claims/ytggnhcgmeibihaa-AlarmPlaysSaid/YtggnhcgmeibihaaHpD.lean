/-
  The plain law of heaps, over lists. Conditions: each theorem's own.
-/
import Derived.Test.YtggnhcgmeibihaaHpC
namespace Go.Proofs.Ytggnhcgmeibihaa
open Go Go.RowKit
set_option linter.unusedVariables false

def ltL {α : Type} (r : α → α → Bool) (s : List α) (i j : Nat) : Bool := match s[i]?, s[j]? with | some a, some b => r a b | _, _ => false
def swL {α : Type} (s : List α) (i j : Nat) : List α := match s[i]?, s[j]? with | some a, some b => (s.set i b).set j a | _, _ => s
def tr (i j a : Nat) : Nat := if a = i then j else if a = j then i else a
theorem swL_len {α : Type} (s : List α) (i j : Nat) : (swL s i j).length = s.length := by
  unfold swL
  split <;> simp
theorem swL_get {α : Type} {s : List α} {i j : Nat} (hi : i < s.length) (hj : j < s.length) (a : Nat) : (swL s i j)[a]? = s[tr i j a]? := by
  unfold swL tr
  rw [List.getElem?_eq_getElem hi, List.getElem?_eq_getElem hj]
  dsimp only
  rw [List.getElem?_set, List.getElem?_set, List.length_set]
  by_cases h1 : a = i
  · subst h1
    rw [if_pos rfl]
    by_cases h2 : j = a
    · subst h2
      simp [List.getElem?_eq_getElem hi, hi]
    · rw [if_neg h2, if_pos rfl, if_pos hi, List.getElem?_eq_getElem hj]
  · rw [if_neg h1]
    by_cases h2 : a = j
    · subst h2
      rw [if_pos rfl, if_pos hj, if_pos rfl, List.getElem?_eq_getElem hi]
    · rw [if_neg (fun h => h2 h.symm), if_neg (fun h => h1 h.symm), if_neg h2]
theorem set_self {α : Type} : ∀ {s : List α} {i : Nat} {a : α}, s[i]? = some a → s.set i a = s
  | [], i, a, h => by simp at h
  | x :: s, 0, a, h => by simp at h; simp [h]
  | x :: s, i + 1, a, h => by
    rw [List.getElem?_cons_succ] at h
    rw [List.set_cons_succ, set_self h]
theorem swL_perm {α : Type} (s : List α) (i j : Nat) : (swL s i j).Perm s := by
  unfold swL
  split
  · rename_i a b ha hb
    have hi := (List.getElem?_eq_some_iff.1 ha)
    have hj := (List.getElem?_eq_some_iff.1 hb)
    obtain ⟨hi, rfl⟩ := hi
    obtain ⟨hj, rfl⟩ := hj
    exact List.set_set_perm hi hj
  · exact List.Perm.refl _

/-- a strict weak order -/
structure SW {α : Type} (r : α → α → Bool) : Prop where
  asym : ∀ a b, r a b = true → r b a = false
  ntr : ∀ a b c, r a b = false → r b c = false → r a c = false
section
variable {α : Type} {r : α → α → Bool} (hr : SW r)
include hr
theorem ltL_asym {s : List α} {i j : Nat} (h : ltL r s i j = true) : ltL r s j i = false := by
  unfold ltL at h ⊢
  split at h
  · rename_i a b ha hb
    rw [ha, hb]
    exact hr.asym _ _ h
  · cases h
theorem ltL_ntr {s : List α} {i j k : Nat} (hj : j < s.length) (h1 : ltL r s i j = false) (h2 : ltL r s j k = false) : ltL r s i k = false := by
  unfold ltL at h1 h2 ⊢
  rw [List.getElem?_eq_getElem hj] at h1 h2
  cases ha : s[i]? with
  | none => rfl
  | some a =>
    cases hc : s[k]? with
    | none => rfl
    | some c =>
      rw [ha] at h1
      rw [hc] at h2
      exact hr.ntr _ _ _ h1 h2
end
theorem ltL_sw {α : Type} {r : α → α → Bool} {s : List α} {i j : Nat} (hi : i < s.length) (hj : j < s.length) (a b : Nat) : ltL r (swL s i j) a b = ltL r s (tr i j a) (tr i j b) := by
  unfold ltL
  rw [swL_get hi hj, swL_get hi hj]
theorem tr_l (i j : Nat) : tr i j i = j := if_pos rfl
theorem tr_r (i j : Nat) : tr i j j = i := by
  unfold tr
  split
  · assumption
  · exact if_pos rfl
theorem tr_n {i j a : Nat} (h1 : a ≠ i) (h2 : a ≠ j) : tr i j a = a := by unfold tr; rw [if_neg h1, if_neg h2]

/-- a heap from a place on -/
def Hd {α : Type} (r : α → α → Bool) (s : List α) (n lo : Nat) : Prop := ∀ j, 0 < j → j < n → lo ≤ (j - 1) / 2 → ltL r s j ((j - 1) / 2) = false
/-- but for the children of a place -/
def Dk {α : Type} (r : α → α → Bool) (s : List α) (n lo i : Nat) : Prop := ∀ j, 0 < j → j < n → lo ≤ (j - 1) / 2 → ((j - 1) / 2 ≠ i → ltL r s j ((j - 1) / 2) = false) ∧ ((j - 1) / 2 = i → 0 < i → lo ≤ (i - 1) / 2 → ltL r s j ((i - 1) / 2) = false)
/-- but for a place and what is above it -/
def Uk {α : Type} (r : α → α → Bool) (s : List α) (n i : Nat) : Prop := ∀ j, 0 < j → j < n → (j ≠ i → ltL r s j ((j - 1) / 2) = false) ∧ ((j - 1) / 2 = i → 0 < i → ltL r s j ((i - 1) / 2) = false)

/-- a heap but for its root's children -/
def Dh {α : Type} (r : α → α → Bool) (s : List α) : Prop := ∀ j, 0 < j → j < s.length → (j - 1) / 2 ≠ 0 → ltL r s j ((j - 1) / 2) = false
theorem Hd.dh {α : Type} {r : α → α → Bool} {s : List α} (h : Hd r s s.length 0) : Dh r s := fun j h0 hj _ => h j h0 hj (Nat.zero_le _)
theorem Dh.set {α : Type} {r : α → α → Bool} {s : List α} (h : Dh r s) (x : α) : Dh r (s.set 0 x) := by
  intro j h0 hj hp
  rw [List.length_set] at hj
  have := h j h0 hj hp
  unfold ltL at this ⊢
  rw [List.getElem?_set_ne (by omega), List.getElem?_set_ne (by omega)]
  exact this

/-- an object whose state is a list -/
structure OL_ {P : Program} {iv : Value} {α : Type} (O : HOb P iv (List α)) (r : α → α → Bool) : Prop where
  len : ∀ s, O.len s = s.length
  lt : ∀ s i j, O.lt s i j = ltL r s i j
  sw : ∀ s i j, O.sw s i j = swL s i j
section
variable {P : Program} {iv : Value} {α : Type} {O : HOb P iv (List α)} {r : α → α → Bool} (hO : OL_ O r)
include hO
theorem dn_perm (n : Nat) : ∀ (f : Nat) (s : List α) (i : Nat), (O.dn n f s i).1.Perm s
  | 0, s, i => List.Perm.refl _
  | f + 1, s, i => by
    unfold HOb.dn
    split
    · exact List.Perm.refl _
    · split
      · rw [hO.sw]
        exact (dn_perm n f _ _).trans (swL_perm _ _ _)
      · exact List.Perm.refl _
theorem up_perm : ∀ (f : Nat) (s : List α) (i : Nat), (O.up f s i).Perm s
  | 0, s, i => List.Perm.refl _
  | f + 1, s, i => by
    unfold HOb.up
    split
    · exact List.Perm.refl _
    · split
      · rw [hO.sw]
        exact (up_perm f _ _).trans (swL_perm _ _ _)
      · exact List.Perm.refl _
theorem ini_perm (n : Nat) : ∀ (k : Nat) (s : List α), (O.ini n k s).Perm s
  | 0, s => List.Perm.refl _
  | k + 1, s => (ini_perm n k _).trans (dn_perm hO ..)
theorem fx_perm (s : List α) (i : Nat) : (O.fx s i).Perm s := by
  unfold HOb.fx
  split
  · exact dn_perm hO ..
  · exact (up_perm hO ..).trans (dn_perm hO ..)
theorem pp_perm (s : List α) : (O.pp s).Perm s := by
  unfold HOb.pp
  rw [hO.sw]
  exact (dn_perm hO ..).trans (swL_perm ..)
theorem dn_high (n : Nat) : ∀ (f : Nat) (s : List α) (i k : Nat), n ≤ s.length → n ≤ k → (O.dn n f s i).1[k]? = s[k]?
  | 0, s, i, k, _, _ => rfl
  | f + 1, s, i, k, hs, hk => by
    unfold HOb.dn
    split
    · rfl
    · rename_i hn
      have hc := O.ch_lt (n := n) (s := s) (i := i) (by omega)
      split
      · rw [hO.sw, dn_high n f _ _ _ (by rw [swL_len]; exact hs) hk, swL_get (by omega) (by omega), tr_n (by omega) (by omega)]
      · rfl
theorem dn_heap (hr : SW r) (n lo : Nat) : ∀ (f : Nat) (s : List α) (i : Nat), n ≤ s.length → n - i ≤ f → Dk r s n lo i → Hd r (O.dn n f s i).1 n lo
  | 0, s, i, hs, hf, hk => fun j h0 hj hl => (hk j h0 hj hl).1 (by omega)
  | f + 1, s, i, hs, hf, hk => by
    unfold HOb.dn
    by_cases hn : n ≤ 2 * i + 1
    · rw [if_pos hn]
      exact fun j h0 hj hl => (hk j h0 hj hl).1 (by omega)
    · rw [if_neg hn]
      have hc := O.ch_lt (n := n) (s := s) (i := i) (by omega)
      have hcv : (O.ch n s i = 2 * i + 1 ∨ O.ch n s i = 2 * i + 2) ∧ ∀ j, 0 < j → j < n → (j - 1) / 2 = i → ltL r s j (O.ch n s i) = false := by
        unfold HOb.ch
        split
        · rename_i h
          rw [hO.lt] at h
          refine ⟨.inr rfl, fun j h0 hj hp => ?_⟩
          rcases (show j = 2 * i + 1 ∨ j = 2 * i + 2 by omega) with h1 | h1
          · rw [h1]; exact ltL_asym hr h.2
          · rw [h1]
            cases h2 : ltL r s (2 * i + 2) (2 * i + 2) with
            | false => rfl
            | true => rw [ltL_asym hr h2] at h2; cases h2
        · rename_i h
          rw [hO.lt] at h
          refine ⟨.inl rfl, fun j h0 hj hp => ?_⟩
          rcases (show j = 2 * i + 1 ∨ j = 2 * i + 2 by omega) with h1 | h1
          · rw [h1]
            cases h2 : ltL r s (2 * i + 1) (2 * i + 1) with
            | false => rfl
            | true => rw [ltL_asym hr h2] at h2; cases h2
          · subst h1
            cases h2 : ltL r s (2 * i + 2) (2 * i + 1) with
            | false => rfl
            | true => exact absurd ⟨hj, h2⟩ h
      rw [hO.lt]
      generalize O.ch n s i = c at hc hcv
      obtain ⟨hcv, hcl⟩ := hcv
      by_cases hlt : ltL r s c i = true
      · rw [if_pos hlt, hO.sw]
        refine dn_heap hr n lo f _ _ (by rw [swL_len]; exact hs) (by omega) fun j h0 hj hl => ⟨fun hp => ?_, fun hp hc0 hl2 => ?_⟩
        · rw [ltL_sw (by omega) (by omega)]
          by_cases hpi : (j - 1) / 2 = i
          · rw [hpi, tr_l]
            by_cases hjc : j = c
            · rw [hjc, tr_r]; exact ltL_asym hr hlt
            · rw [tr_n (by omega) hjc]; exact hcl j h0 hj hpi
          · rw [tr_n hpi hp]
            by_cases hji : j = i
            · rw [hji, tr_l]
              subst hji
              exact (hk c (by omega) (by omega) (by omega)).2 (by omega) h0 hl
            · rw [tr_n hji (by omega)]
              exact (hk j h0 hj hl).1 hpi
        · rw [ltL_sw (by omega) (by omega), show (c - 1) / 2 = i by omega, tr_l, tr_n (by omega) (by omega)]
          have := (hk j h0 hj hl).1 (by omega)
          rw [hp] at this
          exact this
      · rw [if_neg hlt]
        intro j h0 hj hl
        by_cases hpi : (j - 1) / 2 = i
        · rw [hpi]
          exact ltL_ntr (s := s) hr (show c < s.length by omega) (hcl j h0 hj hpi) (by simpa using hlt)
        · exact (hk j h0 hj hl).1 hpi
theorem up_heap (hr : SW r) (n : Nat) : ∀ (f : Nat) (s : List α) (i : Nat), n ≤ s.length → i < n → i < f → Uk r s n i → Hd r (O.up f s i) n 0
  | 0, s, i, hs, hi, hf, hk => by omega
  | f + 1, s, i, hs, hi, hf, hk => by
    unfold HOb.up
    by_cases h0 : (i - 1) / 2 = i
    · rw [if_pos h0]
      exact fun j h1 hj _ => (hk j h1 hj).1 (by omega)
    · rw [if_neg h0, hO.lt]
      obtain ⟨q, hq⟩ : ∃ q, (i - 1) / 2 = q := ⟨_, rfl⟩
      rw [hq] at h0 ⊢
      by_cases hlt : ltL r s i q = true
      · rw [if_pos hlt, hO.sw]
        refine up_heap hr n f _ _ (by rw [swL_len]; exact hs) (by omega) (by omega) fun j h1 hj => ⟨fun hp => ?_, fun hp hq0 => ?_⟩
        · rw [ltL_sw (by omega) (by omega)]
          by_cases hji : j = i
          · rw [hji, hq, tr_r, tr_l]; exact ltL_asym hr hlt
          · rw [tr_n hp hji]
            by_cases h2 : (j - 1) / 2 = q
            · rw [h2, tr_l]
              have := (hk j h1 hj).1 hji
              rw [h2] at this
              exact ltL_ntr hr (by omega) this (ltL_asym hr hlt)
            · by_cases h3 : (j - 1) / 2 = i
              · rw [h3, tr_r]
                have := (hk j h1 hj).2 h3 (by omega)
                rw [hq] at this
                exact this
              · rw [tr_n h2 h3]
                exact (hk j h1 hj).1 hji
        · rw [ltL_sw (by omega) (by omega), tr_n (a := (q - 1) / 2) (by omega) (by omega)]
          have hqq := (hk q hq0 (by omega)).1 (by omega)
          by_cases hji : j = i
          · rw [hji, tr_r]; exact hqq
          · rw [tr_n (by omega) hji]
            have := (hk j h1 hj).1 hji
            rw [hp] at this
            exact ltL_ntr hr (by omega) this hqq
      · rw [if_neg hlt]
        intro j h1 hj _
        by_cases hji : j = i
        · rw [hji, hq]; simpa using hlt
        · exact (hk j h1 hj).1 hji
theorem ini_heap (hr : SW r) (n : Nat) : ∀ (k : Nat) (s : List α), n ≤ s.length → Hd r s n k → Hd r (O.ini n k s) n 0
  | 0, s, _, h => h
  | k + 1, s, hs, h => by
    rw [HOb.ini]
    refine ini_heap hr n k _ (by rw [(dn_perm hO n n s k).length_eq]; exact hs) (dn_heap hO hr n k n s k hs (Nat.sub_le _ _) fun j h0 hj hl => ⟨fun hp => h j h0 hj (by omega), fun hp hk0 hl2 => by omega⟩)
/-- Init makes a heap. -/
theorem init_heap (hr : SW r) (s : List α) : Hd r (O.ini s.length (s.length / 2) s) s.length 0 :=
  ini_heap hO hr _ _ _ (Nat.le_refl _) fun j h0 hj hl => by omega
/-- Fix, if the root alone was turned. -/
theorem fx0_heap (hr : SW r) (s : List α) (h : Dh r s) : Hd r (O.fx s 0) s.length 0 := by
  unfold HOb.fx
  rw [hO.len]
  have h1 := dn_heap hO hr s.length 0 s.length s 0 (Nat.le_refl _) (Nat.sub_le _ _) (fun j h0 hj hl => ⟨h j h0 hj, fun hp h2 => by omega⟩)
  split
  · exact h1
  · rw [HOb.up, if_pos (by decide)]
    exact h1
theorem pp_last (s : List α) (h : 0 < s.length) : (O.pp s)[s.length - 1]? = s[0]? := by
  unfold HOb.pp
  rw [hO.len, hO.sw, dn_high hO _ _ _ _ _ (by rw [swL_len]; omega) (Nat.le_refl _), swL_get h (by omega), tr_r]
/-- Pop's heap, but for the last. -/
theorem pp_heap (hr : SW r) (s : List α) (h : Dh r s) (h0 : 0 < s.length) : Hd r (O.pp s) (s.length - 1) 0 := by
  unfold HOb.pp
  rw [hO.len, hO.sw]
  refine dn_heap hO hr _ 0 _ _ _ (by rw [swL_len]; omega) (Nat.sub_le _ _) fun j h1 hj hl => ⟨fun hp => ?_, fun hp h2 => by omega⟩
  rw [ltL_sw (by omega) (by omega), tr_n (by omega) (by omega), tr_n (by omega) (by omega)]
  exact h j h1 (by omega) hp
end
/-- none is ahead of the root -/
theorem hd_root {α : Type} {r : α → α → Bool} (hr : SW r) {s : List α} {n : Nat} (hs : n ≤ s.length) (h : Hd r s n 0) : ∀ (i : Nat), i < n → ltL r s i 0 = false := by
  intro i
  induction i using Nat.strongRecOn with
  | ind i ih =>
    intro hi
    by_cases h0 : i = 0
    · subst h0
      cases h2 : ltL r s 0 0 with
      | false => rfl
      | true => rw [ltL_asym hr h2] at h2; cases h2
    · exact ltL_ntr hr (j := (i - 1) / 2) (by omega) (h i (by omega) hi (Nat.zero_le _)) (ih _ (by omega) (by omega))
theorem hd_take {α : Type} {r : α → α → Bool} {s : List α} {n : Nat} (h : Hd r s n 0) (hn : n ≤ s.length) : Hd r (s.take n) n 0 := by
  intro j h0 hj hl
  have := h j h0 hj hl
  unfold ltL at this ⊢
  rw [List.getElem?_take_of_lt hj, List.getElem?_take_of_lt (by omega)]
  exact this
end Go.Proofs.Ytggnhcgmeibihaa
