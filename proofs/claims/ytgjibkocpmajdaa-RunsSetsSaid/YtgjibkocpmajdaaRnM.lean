/-
  Runs: the mathematics of runs of numbers. No program; conditions: each theorem's own.
-/
import Derived.Test.YtgjibkocpmajdaaRnD
namespace Go.Proofs.Ytgjibkocpmajdaa
open Go Go.RowKit
set_option linter.unusedVariables false

abbrev Run := Int × Int
def Mem (l : List Run) (x : Int) : Prop := ∃ r ∈ l, r.1 ≤ x ∧ x ≤ r.2
structure Can (l : List Run) : Prop where
  le : ∀ r ∈ l, r.1 ≤ r.2
  gap : l.Pairwise (fun r s => r.2 + 1 < s.1)
def okL (l : List Run) : Prop := ∀ r ∈ l, okR r

theorem mem_nil (x : Int) : ¬ Mem [] x := by rintro ⟨r, hr, _⟩; cases hr
theorem mem_cons (r : Run) (l : List Run) (x : Int) : Mem (r :: l) x ↔ (r.1 ≤ x ∧ x ≤ r.2) ∨ Mem l x := by
  constructor
  · rintro ⟨s, hs, h⟩
    rcases List.mem_cons.1 hs with rfl | hs
    · exact .inl h
    · exact .inr ⟨s, hs, h⟩
  · rintro (h | ⟨s, hs, h⟩)
    · exact ⟨r, by simp, h⟩
    · exact ⟨s, List.mem_cons_of_mem _ hs, h⟩
theorem mem_append (l m : List Run) (x : Int) : Mem (l ++ m) x ↔ Mem l x ∨ Mem m x := by
  induction l with
  | nil => simp [mem_nil]
  | cons r l ih => rw [List.cons_append, mem_cons, mem_cons, ih, or_assoc]
theorem mem_one (r : Run) (x : Int) : Mem [r] x ↔ r.1 ≤ x ∧ x ≤ r.2 := by
  rw [mem_cons]
  exact ⟨fun h => h.resolve_right (mem_nil x), .inl⟩
theorem can_nil : Can [] := ⟨fun r h => (by cases h), List.Pairwise.nil⟩
theorem can_cons {r : Run} {l : List Run} : Can (r :: l) ↔ r.1 ≤ r.2 ∧ (∀ s ∈ l, r.2 + 1 < s.1) ∧ Can l := by
  constructor
  · rintro ⟨h1, h2⟩
    rw [List.pairwise_cons] at h2
    exact ⟨h1 r (by simp), h2.1, fun s hs => h1 s (List.mem_cons_of_mem _ hs), h2.2⟩
  · rintro ⟨h1, h2, h3⟩
    refine ⟨fun s hs => ?_, List.pairwise_cons.2 ⟨h2, h3.gap⟩⟩
    rcases List.mem_cons.1 hs with rfl | hs
    · exact h1
    · exact h3.le s hs
theorem can_append {l m : List Run} : Can (l ++ m) ↔ Can l ∧ Can m ∧ ∀ r ∈ l, ∀ s ∈ m, r.2 + 1 < s.1 := by
  constructor
  · rintro ⟨h1, h2⟩
    rw [List.pairwise_append] at h2
    exact ⟨⟨fun r hr => h1 r (List.mem_append.2 (.inl hr)), h2.1⟩, ⟨fun r hr => h1 r (List.mem_append.2 (.inr hr)), h2.2.1⟩, h2.2.2⟩
  · rintro ⟨h1, h2, h3⟩
    refine ⟨fun r hr => ?_, List.pairwise_append.2 ⟨h1.gap, h2.gap, h3⟩⟩
    rcases List.mem_append.1 hr with hr | hr
    · exact h1.le r hr
    · exact h2.le r hr
theorem can_head_le {r : Run} {l : List Run} (h : Can (r :: l)) {x : Int} (hx : Mem (r :: l) x) : r.1 ≤ x := by
  rw [mem_cons] at hx
  rcases hx with h1 | ⟨s, hs, h1⟩
  · exact h1.1
  · have := (can_cons.1 h).2.1 s hs
    have := (can_cons.1 h).1
    omega
/-- As few runs as there can be are told by who is in them. -/
theorem can_ext : ∀ {l m : List Run}, Can l → Can m → (∀ x, Mem l x ↔ Mem m x) → l = m
  | [], [], _, _, _ => rfl
  | [], s :: m, _, hm, h => by
    have := (h s.1).2 ⟨s, by simp, Int.le_refl _, (can_cons.1 hm).1⟩
    exact absurd this (mem_nil _)
  | r :: l, [], hl, _, h => by
    have := (h r.1).1 ⟨r, by simp, Int.le_refl _, (can_cons.1 hl).1⟩
    exact absurd this (mem_nil _)
  | r :: l, s :: m, hl, hm, h => by
    obtain ⟨l1, l2, l3⟩ := can_cons.1 hl
    obtain ⟨m1, m2, m3⟩ := can_cons.1 hm
    have a1 : s.1 ≤ r.1 := can_head_le hm ((h r.1).1 ⟨r, by simp, Int.le_refl _, l1⟩)
    have a2 : r.1 ≤ s.1 := can_head_le hl ((h s.1).2 ⟨s, by simp, Int.le_refl _, m1⟩)
    have b1 : ¬ r.2 < s.2 := fun hlt => by
      have h1 : Mem (r :: l) (r.2 + 1) := (h _).2 ⟨s, by simp, by omega, by omega⟩
      rw [mem_cons] at h1
      rcases h1 with h1 | ⟨q, hq, h1⟩
      · omega
      · have := l2 q hq; omega
    have b2 : ¬ s.2 < r.2 := fun hlt => by
      have h1 : Mem (s :: m) (s.2 + 1) := (h _).1 ⟨r, by simp, by omega, by omega⟩
      rw [mem_cons] at h1
      rcases h1 with h1 | ⟨q, hq, h1⟩
      · omega
      · have := m2 q hq; omega
    have e : r = s := Prod.ext (by omega) (by omega)
    subst e
    have htail : ∀ x, Mem l x ↔ Mem m x := by
      intro x
      have hx := h x
      rw [mem_cons, mem_cons] at hx
      constructor
      · intro h1
        rcases hx.1 (.inr h1) with h2 | h2
        · obtain ⟨q, hq, h3⟩ := h1
          have := l2 q hq; omega
        · exact h2
      · intro h1
        rcases hx.2 (.inr h1) with h2 | h2
        · obtain ⟨q, hq, h3⟩ := h1
          have := m2 q hq; omega
        · exact h2
    rw [can_ext l3 m3 htail]

theorem can_lt {l : List Run} (h : Can l) {i j : Nat} (hij : i < j) (hj : j < l.length) : (l[i]'(by omega)).2 + 1 < l[j].1 :=
  List.pairwise_iff_getElem.1 h.gap i j (by omega) hj hij
theorem can_le {l : List Run} (h : Can l) {i : Nat} (hi : i < l.length) : l[i].1 ≤ l[i].2 := h.le _ (List.getElem_mem hi)
theorem mem_at {l : List Run} {x : Int} : Mem l x ↔ ∃ (i : Nat) (hi : i < l.length), l[i].1 ≤ x ∧ x ≤ l[i].2 := by
  constructor
  · rintro ⟨r, hr, h⟩
    obtain ⟨i, hi, rfl⟩ := List.getElem_of_mem hr
    exact ⟨i, hi, h⟩
  · rintro ⟨i, hi, h⟩
    exact ⟨_, List.getElem_mem hi, h⟩

theorem thr_exists {l : List Run} (h : Can l) (x : Int) : ∃ i, Thr l x i := by
  have key : ∀ k, k ≤ l.length → (∃ i, Thr l x i) ∨ ∀ j (hj : j < l.length), j < k → l[j].2 < x := by
    intro k
    induction k with
    | zero => exact fun _ => .inr fun j hj hjk => by omega
    | succ k ih =>
      intro hk
      rcases ih (by omega) with h1 | h1
      · exact .inl h1
      · by_cases h2 : x ≤ (l[k]'(by omega)).2
        · refine .inl ⟨k, by omega, fun j hj => ⟨fun h3 => ?_, fun h3 => ?_⟩⟩
          · rcases Nat.lt_or_ge j k with h4 | h4
            · have := h1 j hj h4; omega
            · exact h4
          · rcases Nat.lt_or_ge k j with h4 | h4
            · have := can_lt h h4 hj
              have := can_le h hj
              omega
            · have : j = k := by omega
              subst this
              exact h2
        · refine .inr fun j hj hjk => ?_
          by_cases h4 : j = k
          · subst h4; omega
          · exact h1 j hj (by omega)
  rcases key l.length (Nat.le_refl _) with h1 | h1
  · exact h1
  · exact ⟨l.length, Nat.le_refl _, fun j hj => ⟨fun h2 => by have := h1 j hj hj; omega, fun h2 => by omega⟩⟩

/-! ### A run more -/
structure SpI (l : List Run) (f t : Int) (i k : Nat) (a b : Int) : Prop where
  ik : i ≤ k
  kn : k ≤ l.length
  af : a ≤ f
  tb : t ≤ b
  a' : a = f ∨ ∃ (j : Nat) (hj : j < l.length), i ≤ j ∧ a = l[j].1
  b' : b = t ∨ ∃ (j : Nat) (hj : j < l.length), i ≤ j ∧ b = l[j].2
  mem : ∀ x, (a ≤ x ∧ x ≤ b) ↔ (f ≤ x ∧ x ≤ t) ∨ ∃ (j : Nat) (hj : j < l.length), i ≤ j ∧ j < k ∧ l[j].1 ≤ x ∧ x ≤ l[j].2
theorem spi_start {l : List Run} {f t : Int} {i : Nat} (hi : i ≤ l.length) : SpI l f t i i f t :=
  ⟨Nat.le_refl _, hi, Int.le_refl _, Int.le_refl _, .inl rfl, .inl rfl, fun x => ⟨.inl, fun h => by
    rcases h with h | ⟨j, hj, h1, h2, _⟩
    · exact h
    · omega⟩⟩
theorem spi_step {l : List Run} {f t : Int} {i k : Nat} {a b : Int} (hc : Can l) (hok : okL l) (h : SpI l f t i k a b) (hft : f ≤ t) (hf : 0 ≤ f) (ht : Thr l (f - min f 1) i) (hk : k < l.length) (hle : l[k].1 - min l[k].1 1 ≤ b) : SpI l f t i (k + 1) (min a l[k].1) (max b l[k].2) := by
  have h1 := h.ik
  have h2 := h.af
  have h3 := h.tb
  have h4 := (ht.iff k hk).2 h1
  have h5 := can_le hc hk
  have h6 := (fits_u64 (hok _ (List.getElem_mem hk)).1)
  refine ⟨by omega, by omega, by omega, by omega, ?_, ?_, fun x => ?_⟩
  · rcases Int.le_total a l[k].1 with e | e
    · rw [Int.min_eq_left e]; exact h.a'
    · rw [Int.min_eq_right e]; exact .inr ⟨k, hk, h1, rfl⟩
  · rcases Int.le_total b l[k].2 with e | e
    · rw [Int.max_eq_right e]; exact .inr ⟨k, hk, h1, rfl⟩
    · rw [Int.max_eq_left e]; exact h.b'
  · have hm := h.mem x
    constructor
    · intro hx
      by_cases h7 : a ≤ x ∧ x ≤ b
      · rcases hm.1 h7 with h8 | ⟨j, hj, g1, g2, g3⟩
        · exact .inl h8
        · exact .inr ⟨j, hj, g1, by omega, g3⟩
      · exact .inr ⟨k, hk, h1, by omega, by omega, by omega⟩
    · rintro (h8 | ⟨j, hj, g1, g2, g3, g4⟩)
      · have := hm.2 (.inl h8); omega
      · by_cases e : j = k
        · subst e; omega
        · have := hm.2 (.inr ⟨j, hj, g1, by omega, g3, g4⟩); omega
theorem spi_end {l : List Run} {f t : Int} {i k : Nat} {a b : Int} (hc : Can l) (hok : okL l) (h : SpI l f t i k a b) (hft : f ≤ t) (hf : 0 ≤ f) (ht : Thr l (f - min f 1) i) (hend : ∀ hk : k < l.length, b < l[k].1 - min l[k].1 1) (hf' : Fits .u64 f) (ht' : Fits .u64 t) :
    Can (l.take i ++ ([(a, b)] ++ l.drop k)) ∧ okL (l.take i ++ ([(a, b)] ++ l.drop k)) ∧ (∀ x, Mem (l.take i ++ ([(a, b)] ++ l.drop k)) x ↔ Mem l x ∨ (f ≤ x ∧ x ≤ t)) ∧ (l.take i ++ ([(a, b)] ++ l.drop k)).length ≤ l.length + 1 := by
  have h1 := h.ik
  have h2 := h.af
  have h3 := h.tb
  have hkn := h.kn
  have hleft : ∀ (j : Nat) (hj : j < l.length), j < i → l[j].2 + 1 < a := by
    intro j hj hji
    have h5 : ¬ (f - min f 1 ≤ l[j].2) := fun hh => by have := (ht.iff j hj).1 hh; omega
    have h6 := (fits_u64 (hok _ (List.getElem_mem hj)).2)
    rcases h.a' with e | ⟨j', hj', g1, e⟩
    · omega
    · have := can_lt hc (show j < j' by omega) hj'; omega
  have hright : ∀ (j : Nat) (hj : j < l.length), k ≤ j → b + 1 < l[j].1 := by
    intro j hj hkj
    have h5 := hend (by omega)
    have h6 := (fits_u64 (hok _ (List.getElem_mem (show k < l.length by omega))).1)
    by_cases e : j = k
    · subst e; omega
    · have := can_lt hc (show k < j by omega) hj
      have := can_le hc (show k < l.length by omega)
      omega
  have hct : Can (l.take i) := ⟨fun r hr => hc.le r (List.mem_of_mem_take hr), hc.gap.sublist (List.take_sublist _ _)⟩
  have hcd : Can (l.drop k) := ⟨fun r hr => hc.le r (List.mem_of_mem_drop hr), hc.gap.sublist (List.drop_sublist _ _)⟩
  refine ⟨can_append.2 ⟨hct, can_append.2 ⟨can_cons.2 ⟨by show a ≤ b; omega, fun s hs => (by cases hs), can_nil⟩, hcd, fun r hr s hs => ?_⟩, fun r hr s hs => ?_⟩, fun r hr => ?_, fun x => ?_, ?_⟩
  · rw [List.mem_singleton] at hr
    subst hr
    obtain ⟨j, hj, rfl⟩ := List.getElem_of_mem hs
    rw [List.getElem_drop]
    rw [List.length_drop] at hj
    exact hright (k + j) (by omega) (by omega)
  · obtain ⟨j, hj, rfl⟩ := List.getElem_of_mem hr
    rw [List.getElem_take]
    rw [List.length_take] at hj
    rcases List.mem_append.1 hs with hs | hs
    · rw [List.mem_singleton] at hs
      subst hs
      exact hleft j (by omega) (by omega)
    · obtain ⟨j', hj', rfl⟩ := List.getElem_of_mem hs
      rw [List.getElem_drop]
      rw [List.length_drop] at hj'
      exact can_lt hc (by omega) (by omega)
  · rcases List.mem_append.1 hr with hr | hr
    · exact hok r (List.mem_of_mem_take hr)
    · rcases List.mem_append.1 hr with hr | hr
      · rw [List.mem_singleton] at hr
        subst hr
        refine ⟨?_, ?_⟩
        · show Fits .u64 a
          rcases h.a' with e | ⟨j, hj, _, e⟩
          · rw [e]; exact hf'
          · rw [e]; exact (hok _ (List.getElem_mem hj)).1
        · show Fits .u64 b
          rcases h.b' with e | ⟨j, hj, _, e⟩
          · rw [e]; exact ht'
          · rw [e]; exact (hok _ (List.getElem_mem hj)).2
      · exact hok r (List.mem_of_mem_drop hr)
  · rw [mem_append, mem_append, mem_one]
    have hm := h.mem x
    constructor
    · rintro (⟨r, hr, g⟩ | g | ⟨r, hr, g⟩)
      · exact .inl ⟨r, List.mem_of_mem_take hr, g⟩
      · rcases hm.1 g with g1 | ⟨j, hj, _, _, g1⟩
        · exact .inr g1
        · exact .inl ⟨_, List.getElem_mem hj, g1⟩
      · exact .inl ⟨r, List.mem_of_mem_drop hr, g⟩
    · rintro (g | g)
      · obtain ⟨j, hj, g1⟩ := mem_at.1 g
        rcases Nat.lt_or_ge j i with g2 | g2
        · exact .inl (mem_at.2 ⟨j, by rw [List.length_take]; omega, by rw [List.getElem_take]; exact g1⟩)
        · rcases Nat.lt_or_ge j k with g3 | g3
          · exact .inr (.inl (hm.2 (.inr ⟨j, hj, g2, g3, g1⟩)))
          · refine .inr (.inr (mem_at.2 ⟨j - k, by rw [List.length_drop]; omega, ?_⟩))
            rw [List.getElem_drop]
            have e : k + (j - k) = j := by omega
            simp only [e]
            exact g1
      · exact .inr (.inl (hm.2 (.inl g)))
  · simp only [List.length_append, List.length_take, List.length_drop, List.length_cons, List.length_nil]
    omega
end Go.Proofs.Ytgjibkocpmajdaa
