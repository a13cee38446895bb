/-
  Long frames: the plain law. Conditions: each theorem's own.
-/
import Derived.Test.YtnefhhoijonnaaaFrY
namespace Go.Proofs.Ytnefhhoijonnaaa
open Go Go.RowKit
set_option linter.unusedVariables false

def itsL (body : Int) (m : Nat) : List ItemI := (List.range m).map fun j => (((j + 1 : Nat) : Int), ((0 : Int), List.replicate 4096 body))
def hdL : Hd := ⟨3, 0, 1, 0, 1, 0, 0⟩
theorem itsL_len (body : Int) (m : Nat) : (itsL body m).length = m := by unfold itsL; rw [List.length_map, List.length_range]
theorem itsL_succ (body : Int) (m : Nat) : itsL body (m + 1) = itsL body m ++ [(((m + 1 : Nat) : Int), ((0 : Int), List.replicate 4096 body))] := by unfold itsL; rw [List.range_succ, List.map_append]; rfl
theorem itsL_get (body : Int) (m i : Nat) (h : i < (itsL body m).length) : (itsL body m)[i] = (((i + 1 : Nat) : Int), ((0 : Int), List.replicate 4096 body)) := by
  simp only [itsL, List.getElem_map, List.getElem_range]
theorem frR_long (body : Int) {m : Nat} (hm : m ≤ 64) : frR hdL [] (itsL body m) := by
  refine ⟨by decide, by decide, by decide, .inr (.inr ⟨rfl, ⟨by decide, rfl, rfl, rfl, by rw [itsL_len]; exact hm⟩, fun i hi => ?_⟩)⟩
  rw [itsL_get]
  refine ⟨⟨Int.le_refl (0 : Int), (by decide : (0 : Int) < 8), by rw [List.length_replicate]; exact Nat.le_refl _⟩, by show (1 : Int) ≤ _; dsimp only; omega, fun j hj e => ?_⟩
  rw [itsL_get]
  dsimp only
  omega
theorem encU_1 {x : Int} (h : x < 128) : (encU x).length = 1 := by
  unfold encU
  rw [enc_small (by omega)]
  rfl
theorem itsN_long (body : Int) : ∀ m, m ≤ 16 → (itsN (itsL body m)).length = 4100 * m := by
  intro m
  induction m with
  | zero => exact fun _ => rfl
  | succ m ih =>
    intro hm
    have h1 := ih (by omega)
    have h2 := encU_1 (x := ((m + 1 : Nat) : Int)) (by omega)
    have e : itsN (itsL body (m + 1)) = itsN (itsL body m) ++ (encU ((m + 1 : Nat) : Int) ++ spB 0 (List.replicate 4096 body)) := by
      unfold itsN
      rw [itsL_succ, List.map_append, List.flatten_append]
      congr 1
      exact List.append_nil _
    have h3 : (spB 0 (List.replicate 4096 body)).length = 4099 := by
      have h4 : (enc 4096).length = 2 := by
        unfold enc
        rw [if_neg (by decide), List.length_cons, enc_small (by decide)]
        rfl
      unfold spB encB
      rw [List.length_cons, List.length_append, List.length_replicate, h4]
    rw [e, List.length_append, List.length_append, h1, h2, h3]
    omega
theorem frB_long (body : Int) {m : Nat} (hm : m ≤ 16) : (frB hdL [] (itsL body m)).length = 10 + 4100 * m := by
  have h1 := itsN_long body m hm
  have h2 : partB hdL [] (itsL body m) = encN (batN hdL (itsL body m).length) ++ itsN (itsL body m) := rfl
  have h3 : (encN (batN hdL (itsL body m).length)).length = 3 := by
    rw [itsL_len]
    show (encU 0 ++ (encU 1 ++ (encU (m : Int) ++ []))).length = 3
    rw [List.length_append, List.length_append, List.length_append, encU_1 (by decide), encU_1 (by decide), encU_1 (by omega)]
    rfl
  unfold frB
  rw [closeB_len]
  unfold inB
  rw [h2, List.length_append, List.length_append, List.length_append, List.length_append, h1, h3]
  show 1 + (encU 0).length + (encU 1).length + (3 + 4100 * m) + 4 = _
  rw [encU_1 (by decide), encU_1 (by decide)]
  omega
theorem encE_15 (body : Int) : encE hdL [] (itsL body 15) = 0 ∧ (encZ hdL [] (itsL body 15)).length = 61510 := by
  have h := frB_long body (m := 15) (by decide)
  have hR := frR_long body (m := 15) (by decide)
  unfold encE encZ
  rw [if_pos hR, if_neg (by omega), if_pos hR, if_neg (by omega)]
  exact ⟨rfl, h⟩
theorem encE_16 (body : Int) : encE hdL [] (itsL body 16) = 6 ∧ encZ hdL [] (itsL body 16) = [] := by
  have h := frB_long body (m := 16) (by decide)
  have hR := frR_long body (m := 16) (by decide)
  unfold encE encZ
  rw [if_pos hR, if_pos (by omega), if_pos hR, if_pos (by omega)]
  exact ⟨rfl, rfl⟩
theorem decT_long (m : Nat) (h : 65507 < m) : decT (List.replicate m 0) = (6, zH, [], []) := by
  unfold decT
  rw [if_pos (by rw [List.length_replicate]; exact h)]
theorem decT_zero (m : Nat) : (decT (List.replicate m 0)).1 = 6 ↔ 65507 < m := by
  refine ⟨fun h => Classical.byContradiction fun hn => ?_, fun h => by rw [decT_long m h]⟩
  unfold decT at h
  rw [if_neg (by rw [List.length_replicate]; exact hn)] at h
  split at h
  · revert h
    unfold openE
    split
    · intro h; exact absurd h (by decide)
    split
    · intro h; exact absurd h (by decide)
    · intro h; exact absurd h (by decide)
  · rename_i h1
    have hk : (headD (openR (List.replicate m 0))).1.kd = 0 := by
      show (by1 0 ((openR (List.replicate m 0)).drop 0)).2.1 = 0
      rw [List.drop_zero]
      have hz : ∀ z ∈ openR (List.replicate m (0 : Int)), z = 0 := fun z hz => by
        unfold openR at hz
        split at hz
        · cases hz
        split at hz
        · exact List.eq_of_mem_replicate (List.mem_of_mem_take hz)
        · cases hz
      cases ho : openR (List.replicate m (0 : Int)) with
      | nil => rfl
      | cons z l =>
        show z = 0
        exact hz z (by rw [ho]; exact List.mem_cons_self)
    rw [if_pos (by rw [hk]; decide)] at h
    exact absurd h (by decide)
def cssL (b : Nat) (m : Nat) : List (List Value) := (List.range m).map fun j => [.int .u64 ((j + 1 : Nat) : Int), .int .i64 0, .slice (some ⟨b, 0, none⟩) 4096 4096]
theorem cssL_succ (b m : Nat) : cssL b (m + 1) = cssL b m ++ [[.int .u64 ((m + 1 : Nat) : Int), .int .i64 0, .slice (some ⟨b, 0, none⟩) 4096 4096]] := by unfold cssL; rw [List.range_succ, List.map_append]; rfl
theorem cssL_flat (b m : Nat) : (cssL b (m + 1)).flatten = (cssL b m).flatten ++ [.int .u64 ((m + 1 : Nat) : Int), .int .i64 0, .slice (some ⟨b, 0, none⟩) 4096 4096] := by rw [cssL_succ, List.flatten_append]; simp
theorem bod_long {w : World} {b : Nat} {body : Int} (h : SlR (Rint .u8) w TT (some ⟨b, 0, none⟩) 4096 4096 (List.replicate 4096 body)) : ∀ m, m ≤ 16 → (Bod Ritem (cssL b m) (itsL body m)).at_ w TT undef := by
  intro m
  induction m with
  | zero => exact fun _ => Bod.nil_
  | succ m ih =>
    intro hm
    rw [cssL_succ, itsL_succ]
    exact Bod.snoc (ih (by omega)) (item_of (x := (((m + 1 : Nat) : Int), ((0 : Int), List.replicate 4096 body))) (mk_u64 (by dsimp only; omega)) (mk_i64 (n := 0) (by decide)) h)
end Go.Proofs.Ytnefhhoijonnaaa
