/-
  Windows: numbers put in any order; the walk of WindowOrders. Conditions: each theorem's own.
-/
import Derived.Test.YtgjibkocpmajdaaWnG
namespace Go.Proofs.Ytgjibkocpmajdaa
open Go Go.RowKit
set_option linter.unusedVariables false

theorem dec_q (p : Prop) : ∃ q : Bool, q = true ↔ p := by
  by_cases h : p
  · exact ⟨true, fun _ => h, fun _ => rfl⟩
  · exact ⟨false, fun g => (by cases g), fun g => absurd g h⟩
/-- No number stands twice. -/
def Inj (L : List Int) : Prop := ∀ a b (ha : a < L.length) (hb : b < L.length), L[a] = L[b] → a = b
theorem inj_nil : Inj [] := fun a b ha => by simp at ha
theorem inj_cons {x : Int} {L : List Int} (h : Inj (x :: L)) : x ∉ L ∧ Inj L := by
  constructor
  · intro hx
    obtain ⟨k, hk, e⟩ := List.getElem_of_mem hx
    have := h 0 (k + 1) (by simp) (by simp; omega) (by simpa using e.symm)
    omega
  · intro a b ha hb e
    have := h (a + 1) (b + 1) (by simp; omega) (by simp; omega) (by simpa using e)
    omega
theorem inj_snoc {x : Int} {L : List Int} (h : Inj L) (hx : x ∉ L) : Inj (L ++ [x]) := by
  intro a b ha hb e
  rw [List.length_append] at ha hb
  simp only [List.length_cons, List.length_nil] at ha hb
  rw [List.getElem_append, List.getElem_append] at e
  split at e <;> split at e
  · exact h a b _ _ e
  · simp only [List.getElem_singleton] at e
    exact absurd (e ▸ List.getElem_mem _) hx
  · simp only [List.getElem_singleton] at e
    exact absurd (e ▸ List.getElem_mem _) hx
  · omega
theorem inj_take {L : List Int} (h : Inj L) {j : Nat} (hj : j < L.length) : L[j] ∉ L.take j := by
  intro hm
  obtain ⟨k, hk, e⟩ := List.getElem_of_mem hm
  rw [List.length_take] at hk
  rw [List.getElem_take] at e
  have := h k j (by omega) hj e
  omega
theorem inj_sub {L : List Int} (h : Inj L) (j : Nat) : Inj (L.take j) := by
  intro a b ha hb e
  rw [List.length_take] at ha hb
  rw [List.getElem_take, List.getElem_take] at e
  exact h a b (by omega) (by omega) e
/-- Two places of a list changed about. -/
abbrev swp (L : List Int) (i h : Nat) (hi : i < L.length) (hh : h < L.length) : List Int := (L.set i L[h]).set h L[i]
theorem swp_len {L : List Int} {i h : Nat} (hi : i < L.length) (hh : h < L.length) : (swp L i h hi hh).length = L.length := by simp [swp]
theorem swp_at {L : List Int} {i h : Nat} (hi : i < L.length) (hh : h < L.length) {k : Nat} (hk : k < L.length) (hk' : k < (swp L i h hi hh).length) : (swp L i h hi hh)[k] = if h = k then L[i] else if i = k then L[h] else L[k] := by
  rw [List.getElem_set, List.getElem_set]
theorem swp_mem {L : List Int} {i h : Nat} (hi : i < L.length) (hh : h < L.length) (y : Int) : y ∈ swp L i h hi hh ↔ y ∈ L := by
  constructor
  · intro hy
    obtain ⟨k, hk, e⟩ := List.getElem_of_mem hy
    have hk1 : k < L.length := by rw [swp_len] at hk; exact hk
    rw [swp_at hi hh hk1] at e
    split at e
    · exact e ▸ List.getElem_mem _
    · split at e <;> exact e ▸ List.getElem_mem _
  · intro hy
    obtain ⟨k, hk, e⟩ := List.getElem_of_mem hy
    have hl := swp_len hi hh
    by_cases h1 : k = i
    · subst h1
      have := swp_at hk hh (k := h) hh (by omega)
      rw [if_pos rfl, e] at this
      exact this ▸ List.getElem_mem _
    · by_cases h2 : k = h
      · subst h2
        have := swp_at hi hk (k := i) hi (by omega)
        rw [if_neg (by omega), if_pos rfl, e] at this
        exact this ▸ List.getElem_mem _
      · have := swp_at hi hh (k := k) hk (by omega)
        rw [if_neg (by omega), if_neg (by omega), e] at this
        exact this ▸ List.getElem_mem _
theorem swp_inj {L : List Int} {i h : Nat} (hi : i < L.length) (hh : h < L.length) (hL : Inj L) : Inj (swp L i h hi hh) := by
  intro a b ha hb e
  have ha' := ha
  have hb' := hb
  rw [swp_len] at ha' hb'
  rw [swp_at hi hh ha', swp_at hi hh hb'] at e
  have hab := hL a b ha' hb'
  have hib := hL i b hi hb'
  have hhb := hL h b hh hb'
  have hai := hL a i ha' hi
  have hah := hL a h ha' hh
  have hih := hL i h hi hh
  have hhi := hL h i hh hi
  split at e <;> split at e <;> (try split at e) <;> (try split at e) <;> first | omega | (have := hab e; omega) | (have := hib e; omega) | (have := hhb e; omega) | (have := hai e; omega) | (have := hah e; omega) | (have := hih e; omega) | (have := hhi e; omega)
theorem card_list : ∀ {L : List Int}, Inj L → (∀ y ∈ L, 0 ≤ y ∧ y < 18446744073709551616) → card (fun y => y ∈ L) 18446744073709551616 = L.length
  | [], _, _ => by rw [card_congr (Q := fun _ => False) (fun y => by simp), card_none]; rfl
  | x :: L, h, hb => by
    obtain ⟨h1, h2⟩ := inj_cons h
    have ih := card_list h2 fun y hy => hb y (List.mem_cons_of_mem _ hy)
    have hx := hb x List.mem_cons_self
    have c1 := card_iv (a := x) (b := x) hx.1 18446744073709551616
    have c2 := card_or (P := fun y => x ≤ y ∧ y ≤ x) (Q := fun y => y ∈ L) (fun y e hy => by
      have : y = x := by omega
      exact h1 (this ▸ hy)) 18446744073709551616
    rw [card_congr (Q := fun y => (x ≤ y ∧ y ≤ x) ∨ y ∈ L) (fun y => by
      rw [List.mem_cons]
      exact ⟨fun e => e.imp (fun e => by omega) id, fun e => e.imp (fun e => by omega) id⟩), c2, c1, ih, List.length_cons]
    omega

/-- A window that holds just the numbers of a list. -/
structure OrdI (wd lo : Int) (S : Int → Prop) (L : List Int) : Prop where
  inv : WinI lo wd S
  d : ∀ y, Done lo S y ↔ y ≤ 0 ∨ y ∈ L
  bd : ∀ y ∈ L, 1 ≤ y ∧ y ≤ wd
  nd : Inj L
theorem ord_new (wd : Int) : OrdI wd 0 (fun _ => False) [] := ⟨winI_new wd, fun y => by simp [Done], fun y hy => by simp at hy, inj_nil⟩
section
variable {wd lo x : Int} {S : Int → Prop} {L : List Int}
theorem ord_lo (h : OrdI wd lo S L) (hw : 1 ≤ wd) : lo ≤ wd := by
  have h0 := h.inv.lo0
  by_cases h1 : lo ≤ 0
  · omega
  · rcases (h.d lo).1 (.inl (Int.le_refl _)) with g | g
    · omega
    · exact (h.bd _ g).2
theorem ord_S (h : OrdI wd lo S L) (hw : 1 ≤ wd) (hw2 : wd ≤ 64) : ∀ y, S y → 0 ≤ y ∧ y < lastN := fun y hy => by
  have := h.inv.s y hy
  have := h.inv.lo0
  have := ord_lo h hw
  unfold lastN
  omega
theorem ord_put {j : Int × (Int → Prop)} (h : OrdI wd lo S L) (hw : 1 ≤ wd) (hx : 1 ≤ x ∧ x ≤ wd) (hi : PutI lo wd S x j) {L' : List Int} (hL : (x ∉ L ∧ L' = L ++ [x]) ∨ (x ∈ L ∧ L' = L)) : OrdI wd j.1 j.2 L' := by
  obtain ⟨g1, g2, g3, g4⟩ := win_put h.inv (by omega) hi
  have h0 := h.inv.lo0
  rcases hL with ⟨hn, rfl⟩ | ⟨hn, rfl⟩
  · refine ⟨g1, fun y => ?_, fun y hy => ?_, inj_snoc h.nd hn⟩
    · rw [g4, h.d, h.d, List.mem_append, List.mem_singleton]
      constructor
      · rintro ((e | e) | e)
        · exact .inl e
        · exact .inr (.inl e)
        · exact .inr (.inr e.2)
      · rintro (e | e | e)
        · exact .inl (.inl e)
        · exact .inl (.inr e)
        · exact .inr ⟨⟨fun g => g.elim (fun g => by omega) hn, by omega⟩, e⟩
    · rcases List.mem_append.1 hy with hy | hy
      · exact h.bd y hy
      · rw [List.mem_singleton] at hy
        subst hy
        exact hx
  · refine ⟨g1, fun y => ?_, h.bd, h.nd⟩
    rw [g4, h.d, h.d]
    exact ⟨fun e => e.resolve_right fun e => e.1.1 (.inr hn), .inl⟩
theorem ord_takes (h : OrdI wd lo S L) (hx : 1 ≤ x ∧ x ≤ wd) : (¬ Done lo S x ∧ x ≤ lo + wd) ↔ x ∉ L := by
  have h0 := h.inv.lo0
  rw [h.d]
  exact ⟨fun g e => g.1 (.inr e), fun g => ⟨fun e => e.elim (fun e => by omega) g, by omega⟩⟩
theorem ord_mem {K : List Int} (h : OrdI wd lo S L) (hm : ∀ y, y ∈ K ↔ y ∈ L) (hk : Inj K) : OrdI wd lo S K :=
  ⟨h.inv, fun y => by rw [h.d, hm], fun y hy => h.bd y ((hm y).1 hy), hk⟩
theorem ord_eq {lo2 : Int} {S2 : Int → Prop} (h : OrdI wd lo S L) (g : OrdI wd lo2 S2 L) : lo = lo2 ∧ ∀ y, S y ↔ S2 y := by
  have hd : ∀ y, Done lo S y ↔ Done lo2 S2 y := fun y => (h.d y).trans (g.d y).symm
  have e : lo = lo2 := by
    rcases Int.lt_trichotomy lo lo2 with h1 | h1 | h1
    · rcases (hd (lo + 1)).2 (.inl (by omega)) with e | e
      · omega
      · have := h.inv.s _ e
        omega
    · exact h1
    · rcases (hd (lo2 + 1)).1 (.inl (by omega)) with e | e
      · omega
      · have := g.inv.s _ e
        omega
  subst e
  refine ⟨rfl, fun y => ⟨fun hy => ?_, fun hy => ?_⟩⟩
  · have := h.inv.s y hy
    exact ((hd y).1 (.inr hy)).resolve_left (by omega)
  · have := g.inv.s y hy
    exact ((hd y).2 (.inr hy)).resolve_left (by omega)
theorem ord_count {c : Int} (h : OrdI wd lo S L) (hw : 1 ≤ wd) (hw2 : wd ≤ 64) (hc : CountS S c) : c = L.length - lo := by
  obtain ⟨m, h1, h2, rfl⟩ := hc
  have h0 := h.inv.lo0
  have hl := ord_lo h hw
  have hS := ord_S h hw hw2
  have t1 := tot_card h1 (mem_okb h1 fun x hx => by have := hS x ((h2 x).1 hx); unfold lastN at *; omega)
  rw [card_congr h2] at t1
  have c1 := card_iv (a := 1) (b := lo) (by decide) 18446744073709551616
  have c2 := card_or (P := fun y => 1 ≤ y ∧ y ≤ lo) (Q := S) (fun y e hy => by have := h.inv.s y hy; omega) 18446744073709551616
  have c3 := card_list h.nd fun y hy => by have := h.bd y hy; omega
  rw [card_congr (Q := fun y => (1 ≤ y ∧ y ≤ lo) ∨ S y) (fun y => by
    constructor
    · intro hy
      have h3 := h.bd y hy
      rcases (h.d y).2 (.inr hy) with e | e
      · exact .inl ⟨by omega, e⟩
      · exact .inr e
    · rintro (e | e)
      · exact ((h.d y).1 (.inl e.2)).resolve_left (by omega)
      · have h3 := h.inv.s y e
        exact ((h.d y).1 (.inr e)).resolve_left (by omega)), c2, c1, ← t1] at c3
  have c4 := card_mono (P := S) (Q := fun y => 0 ≤ y ∧ y ≤ 128) (fun y hy => by have := h.inv.s y hy; omega) 18446744073709551616
  have c5 := card_iv (a := 0) (b := 128) (by decide) 18446744073709551616
  rw [c5, ← t1] at c4
  unfold lastN
  omega
end
theorem skip_id {lo wd : Int} {S : Int → Prop} {B : Nat} {A : Nat → Prop} {v : Value} (x : Int) (w : World) (hA : ∀ k, w.heap.size ≤ k → A k) (h : (winP lo wd S B).at_ w A v) (hB : B ≤ 800000) (hS : ∀ y, S y → 0 ≤ y ∧ y < lastN) (hx : Fits .u64 x) (hl : lo < lastN) (hxl : x ≤ lo + 1) :
    Calls Try.prog 47 #[v, .int .u64 x] w fun e w' => ∃ r, e = .returned r ∧ Below w.heap.size w w' ∧ (winP lo wd S (B + 1)).at_ w' A r :=
  (skip_ok x w hA h hB hS hx hl).mono fun e w' ⟨r, i, e1, e2, e3, e4⟩ => ⟨r, e1, e2, by
    obtain ⟨g1, g2⟩ := e3.1 hxl
    rw [g1] at e4
    exact winP_to g2 (Nat.le_refl _) e4⟩
theorem setMany_1 : ∀ {cs : List Value} {off : Nat} {v : Value}, off < cs.length → setMany cs off [v] = some (cs.set off v)
  | c :: cs, 0, v, h => by cases cs <;> rfl
  | c :: cs, k + 1, v, h => by
    simp only [setMany, setMany_1 (cs := cs) (off := k) (by simpa using h), List.set_cons_succ]
theorem cells64 {zs : List Int} {junk : List Value} {j : Nat} {x : Int} (h : j < zs.length) : (zs.map (Value.int .u64) ++ junk).set j (.int .u64 x) = (zs.set j x).map (Value.int .u64) ++ junk := by
  rw [List.set_append_left _ _ (by rw [List.length_map]; exact h), List.map_set]
theorem blk_at {w0 w : World} {ol : OL} {b : Nat} {e : TypeId} {K : List Int} {junk : List Value} (hw : Hp w0 w (.blk b (.cells ⟨K.map (Value.int .u64) ++ junk⟩ e (0, 0)) true :: ol)) {j : Nat} (hj : j < K.length) : w.cell? ⟨b, 0 + j, none⟩ = some (.int .u64 K[j]) :=
  (Sl.of_blk (n := K.length) (sz := 1) (xs := K.map (Value.int .u64)) (hw.own _ (getE_mem (i := 0) rfl)) (by rw [List.length_map, Nat.mul_one]) (fun j u hu => by
    have hj : j < (K.map (Value.int .u64)).length := (List.getElem?_eq_some_iff.1 hu).1
    rw [Nat.zero_add, List.getElem?_append_left hj]
    exact hu)).at_ (by omega) (by rw [List.getElem?_map, List.getElem?_eq_getElem hj]; rfl)
end Go.Proofs.Ytgjibkocpmajdaa
