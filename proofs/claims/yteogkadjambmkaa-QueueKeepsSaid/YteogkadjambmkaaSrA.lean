/-
  slices.Sort at uint64: how a list of numbers lies; what less says. Conditions: each theorem's own. (Made by genSr.py.)
-/
import Derived.Sort.AssemblyPlain
import Derived.Test.YteogkadjambmkaaEngAc
namespace Go.Proofs.Yteogkadjambmkaa
open Go Go.RowKit Go.Sort
set_option linter.unusedVariables false

abbrev ltI (x y : Int) : Bool := decide (x < y)
theorem swoI : SWO ltI := ⟨fun x => by simp [ltI], fun x y z h1 h2 => by simp [ltI] at *; omega, fun x y z h1 h2 => by simp [ltI] at *; omega⟩
abbrev uA (d : Array Int) (junk : List Value) : List Value := d.toList.map (Value.int .u64) ++ junk
abbrev uE (g : Nat) (E : TypeId) (d : Array Int) (junk : List Value) : HE := .blk g (.cells ⟨uA d junk⟩ E (0, 0)) true
theorem uA_len {d : Array Int} {junk : List Value} : (uA d junk).length = d.size + junk.length := by simp
theorem uA_get {d : Array Int} {junk : List Value} {i : Nat} (h : i < d.size) : (uA d junk)[i]? = some (.int .u64 d[i]!) := by
  rw [List.getElem?_append_left (by simpa using h), List.getElem?_map, Array.getElem?_toList, Array.getElem?_eq_getElem h, Array.getElem!_eq_getD, Array.getD_eq_getD_getElem?, Array.getElem?_eq_getElem h]
  rfl
theorem swp_size (d : Array Int) (i j : Nat) : (swp d i j).size = d.size := by simp [swp]
theorem uA_swp {d : Array Int} {junk : List Value} {i j : Nat} (hi : i < d.size) (hj : j < d.size) : ((uA d junk).set i (.int .u64 d[j]!)).set j (.int .u64 d[i]!) = uA (swp d i j) junk := by
  rw [List.set_append_left _ _ (by simpa using hi), List.set_append_left _ _ (by simpa using hj), ← List.map_set, ← List.map_set]
  simp [swp, Array.toList_setIfInBounds]
theorem blkc {w0 w : World} {ol : OL} {b : Nat} {e : TypeId} {cs : List Value} (hw : Hp w0 w (.blk b (.cells ⟨cs⟩ e (0, 0)) true :: ol)) {j : Nat} {u : Value} (hj : cs[j]? = some u) : w.cell? ⟨b, 0 + j, none⟩ = some u :=
  (Sl.of_blk (n := cs.length) (sz := 1) (xs := cs) (hw.own _ (getE_mem (i := 0) rfl)) (by rw [Nat.mul_one]) (fun j u hu => by rw [Nat.zero_add]; exact hu)).at_ (by have := (List.getElem?_eq_some_iff.1 hj).1; omega) hj
theorem setMany_1 : ∀ {cs : List Value} {off : Nat} {v : Value}, off < cs.length → setMany cs off [v] = some (cs.set off v)
  | c :: cs, 0, v, h => by cases cs <;> rfl
  | c :: cs, k + 1, v, h => by
    simp only [setMany, setMany_1 (cs := cs) (off := k) (by simpa using h), List.set_cons_succ]
theorem isnan_ok (x : Int) (w : World) : Calls Try.prog 94 #[.int .u64 x] w fun e w' => e = .returned (.bool false) ∧ Below w.heap.size w w' := by
  refine enter1 Try.func94 rfl rfl (Hp.refl w) ?_
  repeat (first | refine T_seq ?_ | refine T_region ?_ | refine S_nil ?_ | refine T_ret ?_ | refine S_pure tabOk rfl ?_)
  refine ret1 rfl rfl (fun w' hw => ⟨retb (decide_eq_false (fun h => h rfl)), hw.below (by repeat (first | exact new_nil))⟩)
theorem less_b {x y : Int} {b : Bool} (h : ltI x y = b) (w : World) : Calls Try.prog 84 #[.int .u64 x, .int .u64 y] w fun e w' => e = .returned (.bool b) ∧ Below w.heap.size w w' := by
  subst h
  refine enter2 Try.func84 rfl rfl (Hp.refl w) ?_
  repeat (first | refine T_seq ?_ | refine T_region ?_ | refine S_nil ?_ | refine S_pure tabOk rfl ?_)
  refine S_callq rfl Try.call94 (fun w1 h1 => isnan_ok x w1) ?_
  repeat (first | refine S_nil ?_ | refine T_ret ?_ | refine S_pure tabOk rfl ?_ | refine S_pass rfl rfl rfl ?_)
  exact ret1 rfl rfl (fun w' hw => ⟨rfl, hw.below (by repeat (first | exact new_nil))⟩)
end Go.Proofs.Yteogkadjambmkaa
