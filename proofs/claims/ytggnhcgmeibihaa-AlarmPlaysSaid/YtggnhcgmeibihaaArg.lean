/-
  What an argument that reads as data is, by its type's shape. Conditions: each theorem's own.
-/
import Derived.Test.YtggnhcgmeibihaaTab
import Derived.ProofKit
import Derived.OpenShut
import Derived.ShutString
import Derived.ChangeOld
import Derived.Lib.SmallJoins
namespace Go.Proofs.Ytggnhcgmeibihaa
open Go Go.RowKit Go.ChangeShapes Go.WideShapes Go.ChangeAt Go.Joins Go.Deep
set_option linter.unusedVariables false

section
variable {H : Type} {enc : TypeId × Value → H} {P : Program} {W : World} {base : Nat}

theorem fits_of_wf {k : IntKind} {n : Int} (h : (Lit.int k n).wf = true) : Fits k n := by
  simpa [Lit.wf, Fits] using h

theorem arg_int {t : TypeId} {k : IntKind} {v : Value} {d : DataW H} {p : List MemPlace} (ht : P.underlying t = some (.int k)) (hv : Value.okWide P W .any base t v) (h : DataW.Trod enc P W 0 (fun _ => true) true t v d p) :
    ∃ a, v = .int k a ∧ Fits k a := by
  obtain ⟨a, rfl, _, _, w⟩ := open_int ht hv h
  exact ⟨a, rfl, fits_of_wf w⟩
theorem arg_bool {t : TypeId} {v : Value} {d : DataW H} {p : List MemPlace} (ht : P.underlying t = some .bool) (hv : Value.okWide P W .any base t v) (h : DataW.Trod enc P W 0 (fun _ => true) true t v d p) :
    ∃ a, v = .bool a := by
  obtain ⟨a, rfl, _, _⟩ := open_bool ht hv h
  exact ⟨a, rfl⟩

theorem arg_ints {t e : TypeId} {k : IntKind} {v : Value} {d : DataW H} {p : List MemPlace} (ht : P.underlying t = some (.slice e)) (he : P.underlying e = some (.int k)) (hC : P.cellsOf e = 1) (hv : Value.okWide P W .any base t v) (h : DataW.Trod enc P W 0 (fun _ => true) true t v d p) :
    ∃ a n c zs, v = .slice a n c ∧ Ints k W a n c zs := by
  obtain ⟨a0, len0, cap0, rfl⟩ := okWide_slice ht hv
  obtain ⟨fuel, hf⟩ := h
  rcases open_ints ht he hC hf with ⟨hcs, _⟩ | ⟨x, l, c, zs, hcs, _, hl, hm, hz, _, hcell, hwz⟩
  · simp [Value.cells] at hcs
    obtain ⟨rfl, rfl, rfl⟩ := hcs
    exact ⟨_, _, _, [], rfl, ⟨rfl, Nat.le_refl _, Nat.zero_le _, fun _ => ⟨rfl, rfl⟩, fun z hz => by simp at hz, Sl.nil_⟩⟩
  · simp [Value.cells] at hcs
    obtain ⟨rfl, rfl, rfl⟩ := hcs
    have hzl : zs.length = cap0 := by simpa using hz
    refine ⟨_, _, _, zs.take len0, rfl, ⟨by rw [List.length_take]; omega, hl, hm, fun h => (by cases h), fun z hz => fits_of_wf (hwz z (List.mem_of_mem_take hz)), ⟨by rw [List.length_map, List.length_take]; omega, fun hn => ?_⟩⟩⟩
    obtain ⟨b, off, spot⟩ := x
    have h0 := hcell 0 (by omega)
    have hspot : spot = none := by simpa [Addr.add] using World.cell?_spot h0
    subst hspot
    refine ⟨b, off, rfl, ?_, fun j u hu => ?_⟩
    · have := World.block_lt_of_cell? W _ h0
      simpa [Addr.add] using this
    · rw [List.getElem?_map, List.getElem?_take] at hu
      split at hu
      · rename_i hj
        have hjl : j < zs.length := by omega
        have := hcell j hjl
        rw [Addr.add_lit] at this
        rw [this]
        simp only [List.getElem?_eq_getElem hjl, Option.map_some, Option.some.injEq] at hu
        rw [← hu]
        simp [List.getD, List.getElem?_eq_getElem hjl]
      · cases hu

/-- A struct of two integers, by value. -/
theorem arg_int2 {t : TypeId} {f0 f1 : Field} {k0 k1 : IntKind} {v : Value} {d : DataW H} {p : List MemPlace} (ht : P.underlying t = some (.struct #[f0, f1])) (hone : oneCellFields P #[f0, f1] = true) (hC : P.cellsOf t = 2) (h0 : P.underlying f0.type = some (.int k0)) (h1 : P.underlying f1.type = some (.int k1))
    (hv : Value.okWide P W .any base t v) (h : DataW.Trod enc P W 0 (fun _ => true) true t v d p) : ∃ a b, v = .agg #[.int k0 a, .int k1 b] ∧ Fits k0 a ∧ Fits k1 b := by
  obtain ⟨c0, c1, y0, y1, m, rfl, _, _, hy0, hy1⟩ := open_agg2 ht hone hC hv h
  obtain ⟨a, e0, _, wa⟩ := DataW.trod_int h0 hy0
  obtain ⟨b, e1, _, wb⟩ := DataW.trod_int h1 hy1
  simp at e0 e1
  subst e0; subst e1
  exact ⟨a, b, rfl, fits_of_wf wa, fits_of_wf wb⟩
end
end Go.Proofs.Ytggnhcgmeibihaa
