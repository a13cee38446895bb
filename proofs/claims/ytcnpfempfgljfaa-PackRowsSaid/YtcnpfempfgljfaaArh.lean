/-
  More arguments that read as data: an array of integers, a slice of slices of integers. Conditions: each theorem's own.
-/
import Derived.Test.YtcnpfempfgljfaaArg
import Derived.Test.YtcnpfempfgljfaaByt
namespace Go.Proofs.Ytcnpfempfgljfaa
open Go Go.RowKit Go.ChangeShapes Go.WideShapes Go.ChangeAt Go.Joins Go.Deep
set_option linter.unusedVariables false

theorem list_of {α : Type} {Q : Nat → α → Prop} : ∀ n : Nat, (∀ i, i < n → ∃ x, Q i x) → ∃ l : List α, l.length = n ∧ ∀ i x, l[i]? = some x → Q i x
  | 0, _ => ⟨[], rfl, fun i x h => by simp at h⟩
  | n + 1, h => by
    obtain ⟨l, hl, hq⟩ := list_of n fun i hi => h i (Nat.lt_succ_of_lt hi)
    obtain ⟨y, hy⟩ := h n (Nat.lt_succ_self n)
    refine ⟨l ++ [y], by simp [hl], fun i x hx => ?_⟩
    rcases Nat.lt_or_ge i l.length with h1 | h1
    · rw [List.getElem?_append_left h1] at hx
      exact hq i x hx
    · rw [List.getElem?_append_right h1] at hx
      have hi : i - l.length = 0 := by
        rcases Nat.eq_zero_or_pos (i - l.length) with h0 | h0
        · exact h0
        · rw [List.getElem?_eq_none (by simp; omega)] at hx
          cases hx
      rw [hi] at hx
      simp at hx
      subst hx
      rw [show i = n from by omega]
      exact hy

/-- A slice of slices of integers that came in. -/
structure Rows2 (k : IntKind) (w : World) (a : Option Addr) (n c : Nat) (ps : List Bp) : Prop where
  len : ps.length = n
  cap : n ≤ c
  max : c ≤ maxLen
  nil : a = none → n = 0 ∧ c = 0
  each : ∀ p ∈ ps, Ints k w p.a p.n p.c p.zs
  sl : Sl w 1 a n (ps.map Bp.v)

section
variable {H : Type} {enc : TypeId × Value → H} {P : Program} {W : World} {base : Nat}

theorem ints_of_trod {t e : TypeId} {k : IntKind} {fuel : Nat} {cs : List Value} {x : DataW H × List MemPlace} (ht : P.underlying t = some (.slice e)) (he : P.underlying e = some (.int k)) (hC : P.cellsOf e = 1) (hf : DataW.trod enc P W 0 (fun _ => true) true fuel t cs = some x) :
    ∃ p : Bp, cs = [p.v] ∧ Ints k W p.a p.n p.c p.zs := by
  rcases open_ints ht he hC hf with ⟨hcs, _⟩ | ⟨x, l, c, zs, hcs, _, hl, hm, hz, _, hcell, hwz⟩
  · exact ⟨⟨none, 0, 0, []⟩, hcs, rfl, Nat.le_refl _, Nat.zero_le _, fun _ => ⟨rfl, rfl⟩, fun z hz => by simp at hz, Sl.nil_⟩
  · have hzl : zs.length = c := by simpa using hz
    have hle : (zs.take l).length = l := by rw [List.length_take]; omega
    refine ⟨⟨some x, l, c, zs.take l⟩, hcs, ⟨hle, hl, hm, fun h => (by cases h), fun z hz => fits_of_wf (hwz z (List.mem_of_mem_take hz)), ⟨by rw [List.length_map, hle, Nat.mul_one], fun hn => ?_⟩⟩⟩
    have hn : 0 < l := hn
    obtain ⟨b, off, spot⟩ := x
    have h0 := hcell 0 (by omega)
    have hspot : spot = none := by simpa [Addr.add] using World.cell?_spot h0
    subst hspot
    refine ⟨b, off, rfl, ?_, fun j u hu => ?_⟩
    · have := World.block_lt_of_cell? W _ h0
      simpa [Addr.add] using this
    · rw [List.getElem?_map, List.getElem?_take] at hu
      split at hu
      · rename_i hj
        have hjl : j < zs.length := by omega
        have := hcell j hjl
        rw [Addr.add_lit] at this
        rw [this]
        simp only [List.getElem?_eq_getElem hjl, Option.map_some, Option.some.injEq] at hu
        rw [← hu]
        simp [List.getD, List.getElem?_eq_getElem hjl]
      · cases hu

theorem arg_slices {t t' e : TypeId} {k : IntKind} {v : Value} {d : DataW H} {p : List MemPlace} (ht : P.underlying t = some (.slice t')) (ht' : P.underlying t' = some (.slice e)) (he : P.underlying e = some (.int k)) (hC : P.cellsOf e = 1) (hC' : P.cellsOf t' = 1) (hv : Value.okWide P W .any base t v) (h : DataW.Trod enc P W 0 (fun _ => true) true t v d p) :
    ∃ a n c ps, v = .slice a n c ∧ Rows2 k W a n c ps := by
  obtain ⟨a0, len0, cap0, rfl⟩ := okWide_slice ht hv
  obtain ⟨fuel, hf⟩ := h
  rcases DataW.trod_slice ht hf with ⟨hcs, _⟩ | ⟨x, l, c, elems, rest, m, _, hcs, _, _, hl, hm, hlen, hel, _, _⟩
  · simp [Value.cells] at hcs
    obtain ⟨rfl, rfl, rfl⟩ := hcs
    exact ⟨_, _, _, [], rfl, ⟨rfl, Nat.le_refl _, Nat.zero_le _, fun _ => ⟨rfl, rfl⟩, fun z hz => by simp at hz, Sl.nil_⟩⟩
  · simp [Value.cells] at hcs
    obtain ⟨rfl, rfl, rfl⟩ := hcs
    have each : ∀ i, i < len0 → ∃ p : Bp, W.cell? (x.add i) = some p.v ∧ Ints k W p.a p.n p.c p.zs := by
      intro i hi
      have h1 := hel i hi
      have hi' : i < elems.length := by omega
      rw [hC', Nat.mul_one, List.getElem?_eq_getElem hi', Option.bind_eq_some_iff] at h1
      obtain ⟨cs', hcs', hy⟩ := h1
      obtain ⟨p, rfl, hp⟩ := ints_of_trod ht' he hC hy
      exact ⟨p, cell_of_cells?_one hcs', hp⟩
    obtain ⟨ps, hpl, hps⟩ := list_of len0 each
    refine ⟨_, _, _, ps, rfl, ⟨hpl, hl, hm, fun h => (by cases h), fun p hp => ?_, ⟨by rw [List.length_map, hpl, Nat.mul_one], fun hn => ?_⟩⟩⟩
    · obtain ⟨i, hi⟩ := List.getElem?_of_mem hp
      exact (hps i p hi).2
    · obtain ⟨b, off, spot⟩ := x
      obtain ⟨p0, h0, _⟩ := each 0 hn
      have hspot : spot = none := by simpa [Addr.add] using World.cell?_spot h0
      subst hspot
      refine ⟨b, off, rfl, ?_, fun j u hu => ?_⟩
      · have := World.block_lt_of_cell? W _ h0
        simpa [Addr.add] using this
      · rw [List.getElem?_map, Option.map_eq_some_iff] at hu
        obtain ⟨q, hq, rfl⟩ := hu
        have := (hps j q hq).1
        rw [Addr.add_lit] at this
        exact this

theorem okWide_array {r : Reach} {w : World} {t e : TypeId} {n : Nat} {v : Value} (ht : P.underlying t = some (.array n e)) (h : Value.okWide P w r base t v) : ∃ cs, v = .agg cs ∧ cs.size = P.cellsOf t := by
  simp only [Value.okWide, ht] at h
  obtain ⟨cs, rfl, h1, _⟩ := h
  exact ⟨cs, rfl, h1⟩

theorem arg_array {t e : TypeId} {k : IntKind} {m : Nat} {v : Value} {d : DataW H} {p : List MemPlace} (ht : P.underlying t = some (.array m e)) (he : P.underlying e = some (.int k)) (hC : P.cellsOf e = 1) (hCt : P.cellsOf t = m) (hv : Value.okWide P W .any base t v) (h : DataW.Trod enc P W 0 (fun _ => true) true t v d p) :
    ∃ zs : List Int, v = .agg ⟨zs.map (.int k)⟩ ∧ zs.length = m ∧ ∀ z ∈ zs, Fits k z := by
  obtain ⟨cs, rfl, hsz⟩ := okWide_array ht hv
  obtain ⟨fuel, hf⟩ := h
  obtain ⟨xs, f, _, _, hl, hlen, hel⟩ := DataW.trod_array ht hf
  have hl2 : cs.toList.length = m := by rw [Array.length_toList, hsz, hCt]
  have each : ∀ i, i < m → ∃ z : Int, cs.toList[i]? = some (.int k z) ∧ Fits k z := by
    intro i hi
    have h1 := hel i hi
    rw [hC, Nat.mul_one, List.getElem?_eq_getElem (by omega)] at h1
    obtain ⟨z, hz, _, hw⟩ := DataW.trod_int he h1
    refine ⟨z, ?_, fits_of_wf hw⟩
    have : ((Value.agg cs).cells.toList.drop i).take 1 = [.int k z] := hz
    have h2 := congrArg (·[0]?) this
    simp only [List.getElem?_take, List.getElem?_drop] at h2
    simpa [Value.cells] using h2
  obtain ⟨zs, hzl, hzs⟩ := list_of m each
  refine ⟨zs, ?_, hzl, fun z hz => ?_⟩
  · congr 1
    apply Array.ext'
    apply List.ext_getElem?
    intro i
    rcases Nat.lt_or_ge i m with h1 | h1
    · have h2 : zs[i]? = some (zs[i]'(by omega)) := List.getElem?_eq_getElem (by omega)
      rw [(hzs i _ h2).1, List.getElem?_map, h2]
      rfl
    · rw [List.getElem?_eq_none (by omega), List.getElem?_eq_none (by rw [List.length_map]; omega)]
  · obtain ⟨i, hi⟩ := List.getElem?_of_mem hz
    exact (hzs i z hi).2
end
end Go.Proofs.Ytcnpfempfgljfaa
