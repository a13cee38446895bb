/-
  Contracts of the sums of package mark and of the document; awake; the walk of MarkSums. Conditions: each theorem's own. The walk of MarkSums. Conditions: each theorem's own. Contracts of package mark's Close and Open, of the document's, of bytes.Clone and bytes.Equal. Conditions: each theorem's own. Contracts of package mark's Close and Open and of the document's. Conditions: each theorem's own. Open and the document's Close and Open; the walks of MarkOpens and MarkCloses. Conditions: each theorem's own. The walks of MarkOpens and MarkCloses. Conditions: each theorem's own. What the sum of package mark shows: plain mathematics. Conditions: each theorem's own.
  Conditions: each theorem's own.
-/
import Derived.Laws.BytesArg
import Derived.Test.YtnefhhoijonnaaaBy
namespace Go.Proofs.Ytnefhhoijonnaaa
open Go Go.RowKit
set_option linter.unusedVariables false


def halvesV : List Value := [.int .u32 0, .int .u32 498536548, .int .u32 997073096, .int .u32 651767980, .int .u32 1994146192, .int .u32 1802195444, .int .u32 1303535960, .int .u32 1342533948, .int .u32 3988292384, .int .u32 4027552580, .int .u32 3604390888, .int .u32 3412177804, .int .u32 2607071920, .int .u32 2262029012, .int .u32 2685067896, .int .u32 3183342108]
theorem halves_at (j : Nat) (h : j < 16) : halvesV[j]? = some (.int .u32 ((halfB j).toNat : Int)) := by
  have : j = 0 ∨ j = 1 ∨ j = 2 ∨ j = 3 ∨ j = 4 ∨ j = 5 ∨ j = 6 ∨ j = 7 ∨ j = 8 ∨ j = 9 ∨ j = 10 ∨ j = 11 ∨ j = 12 ∨ j = 13 ∨ j = 14 ∨ j = 15 := by omega
  rcases this with rfl | rfl | rfl | rfl | rfl | rfl | rfl | rfl | rfl | rfl | rfl | rfl | rfl | rfl | rfl | rfl <;> rfl
theorem halves_ok (w : World) : Calls Try.prog 122 #[] w fun e w' => e = .returned (.agg ⟨halvesV⟩) ∧ Below w.heap.size w w' := by
  refine enter0 Try.func122 rfl (Hp.refl w) ?_
  repeat (first | refine T_seq ?_ | refine T_region ?_)
  refine S_new tabOk rfl (fun b hb => ?_)
  repeat (first | refine T_seq ?_ | refine T_region ?_ | refine S_nil ?_)
  refine S_q (Q_buildA tabOk rfl rfl rfl rfl rfl rfl rfl rfl (allLt_mem rfl)) ?_
  repeat (first | refine S_nil ?_ | refine T_ret ?_ | refine S_store tabOk 0 rfl rfl rfl rfl rfl rfl ?_)
  exact ret1 rfl (res_cell tabOk 0 rfl rfl rfl rfl) (fun w' hw => ⟨rfl, hw.below (new_cons hb new_nil)⟩)
theorem crc_take (r : BitVec 32) (zs : List Int) (k : Nat) (h : k < zs.length) : crc r (zs.take (k + 1)) = cb (crc r (zs.take k)) zs[k] := by
  rw [List.take_succ_eq_append_getElem h, crc_snoc]
theorem more_ok (s : BitVec 32) (a : Option Addr) (n c : Nat) (zs : List Int) (w : World) (hw : Ints .u8 w a n c zs) :
    Calls Try.prog 115 #[.int .u32 (s.toNat : Int), .slice a n c] w fun e w' => e = .returned (.int .u32 ((more s zs).toNat : Int)) ∧ Below w.heap.size w w' := by
  have l1 := hw.len
  have m1 : n ≤ 9223372036854775807 := by have := hw.cap; have := hw.max; simp only [maxLen] at this; omega
  refine enter2 Try.func115 rfl rfl (Hp.refl w) ?_
  repeat (first | refine T_seq ?_ | refine T_region ?_ | refine S_nil ?_ | refine S_pure tabOk rfl ?_)
  refine S_callq rfl Try.call122 (fun w1 h1 => halves_ok w1) ?_
  refine S_new tabOk rfl (fun b hb => ?_)
  repeat (first | refine T_seq ?_ | refine T_region ?_ | refine T_block ?_ | refine S_nil ?_ | refine S_pure tabOk rfl ?_ | refine S_store tabOk 0 rfl rfl rfl rfl rfl rfl ?_)
  refine T_loop (ι := Nat) (fun k => [(5, .pointer (some ⟨b, 0, none⟩)), (6, .int .u32 ((crc (~~~ s) (zs.take k)).toNat : Int)), (12, .slice a n c), (13, .int .i64 (n : Int)), (14, .int .i64 (k : Int))]) (fun _ => [.blk b (.cells ⟨halvesV⟩ 173 (0, 0)) true]) (fun k => k ≤ n) (fun k => n - k) 0 (Nat.zero_le _) ?_ (fun _ hw => hw) ?_
  · refine Sub.cons rfl (Sub.cons_eq rfl (congrArg (Value.int .u32) (not32 s)) ?_)
    repeat (first | exact Sub.nil | refine Sub.cons rfl ?_)
  intro k hk
  repeat (first | refine T_seq ?_ | refine T_region ?_ | refine S_nil ?_ | refine S_pure tabOk rfl ?_)
  refine T_cond_dec rfl (fun h => ?_) (fun h => ?_)
  · have hk' : k < n := by omega
    obtain ⟨b1, o1, rfl, lt1, g1⟩ := hw.sl.get (by omega)
    have hz := fits_u8 (hw.fits (zs[k]'(by omega)) (List.getElem_mem _))
    repeat (first | refine T_seq ?_ | refine T_region ?_ | refine T_block ?_ | refine pthen_normal ?_ | refine T_skip ?_)
    refine S_q (Q_idx1 tabOk rfl rfl rfl rfl rfl rfl rfl rfl (j := k) hk') ?_
    refine S_load1 tabOk rfl rfl (v := .int .u8 (zs[k]'(by omega))) (fun w' hw' => Sl.at_ (hw.sl.ext (hw'.below (new_cons hb new_nil))) (by omega) (by simp [l1, hk'])) ?_
    repeat (first | refine T_seq ?_ | refine T_region ?_ | refine S_nil ?_ | refine S_pure tabOk rfl ?_)
    have e0 := crc_take (~~~ s) zs k (by omega)
    generalize crc (~~~ s) (zs.take k) = r at e0 ⊢
    generalize zs[k]'(by omega) = z at e0 hz ⊢
    have ez : IntKind.u32.wrap z = ((BitVec.ofInt 32 z).toNat : Int) := by rw [IntWalk.u32_in _ (by omega), ofInt32_toNat (by omega)]
    have ex : bits .xor .u32 (r.toNat : Int) (IntKind.u32.wrap z) = ((r ^^^ BitVec.ofInt 32 z).toNat : Int) := by rw [ez, xor32]
    refine S_re 6 rfl (congrArg (Value.int .u32) ex) ?_
    refine S_re 22 rfl (congrArg (Value.int .u32) ex) ?_
    rw [cb_nib] at e0
    generalize r ^^^ BitVec.ofInt 32 z = x at e0 ⊢
    refine S_q ((Q_shr rfl rfl rfl (by decide)).eq (congrArg (Value.int .u32) (shr32 x 4))) ?_
    repeat (first | refine S_pure tabOk rfl ?_)
    refine S_re 25 rfl (congrArg (Value.int .u32) (and32 x 15#32)) ?_
    refine S_q (Q_aidx (sz := 1) tabOk rfl rfl rfl rfl rfl rfl rfl rfl (j := (x &&& 15#32).toNat) (and15 x)) ?_
    refine S_load1 tabOk rfl rfl (v := .int .u32 ((halfB (x &&& 15#32).toNat).toNat : Int)) (fun w' hw' => by rw [Nat.zero_add, Nat.mul_one]; exact (cell_of_row w' b _ _ _ _ (hw'.own _ (getE_mem (i := 0) rfl))).trans (by simpa using halves_at _ (and15 x))) ?_
    repeat (first | refine S_nil ?_ | refine S_pure tabOk rfl ?_ | refine T_region_any ?_)
    have ex2 : bits .xor .u32 ((x >>> 4).toNat : Int) ((halfB (x &&& 15#32).toNat).toNat : Int) = ((itb 4 x).toNat : Int) := by rw [xor32, halfB_and, ← nib_eq]
    refine S_re 6 rfl (congrArg (Value.int .u32) ex2) ?_
    refine S_re 29 rfl (congrArg (Value.int .u32) ex2) ?_
    generalize itb 4 x = y at e0 ⊢
    refine S_q ((Q_shr rfl rfl rfl (by decide)).eq (congrArg (Value.int .u32) (shr32 y 4))) ?_
    repeat (first | refine S_pure tabOk rfl ?_)
    refine S_re 32 rfl (congrArg (Value.int .u32) (and32 y 15#32)) ?_
    refine S_q (Q_aidx (sz := 1) tabOk rfl rfl rfl rfl rfl rfl rfl rfl (j := (y &&& 15#32).toNat) (and15 y)) ?_
    refine S_load1 tabOk rfl rfl (v := .int .u32 ((halfB (y &&& 15#32).toNat).toNat : Int)) (fun w' hw' => by rw [Nat.zero_add, Nat.mul_one]; exact (cell_of_row w' b _ _ _ _ (hw'.own _ (getE_mem (i := 0) rfl))).trans (by simpa using halves_at _ (and15 y))) ?_
    repeat (first | refine T_region ?_ | refine S_nil ?_ | refine pthen_normal ?_ | refine inb_normal ?_ | refine S_i64 tabOk rfl (by omega) ?_ | refine S_pure tabOk rfl ?_)
    have ey2 : bits .xor .u32 ((y >>> 4).toNat : Int) ((halfB (y &&& 15#32).toNat).toNat : Int) = ((itb 4 y).toNat : Int) := by rw [xor32, halfB_and, ← nib_eq]
    refine ⟨k + 1, by omega, ?_, fun _ hw => hw, by omega⟩
    rw [e0]
    refine Sub.cons rfl (Sub.cons_eq rfl (congrArg (Value.int .u32) ey2) ?_)
    repeat (first | exact Sub.nil | refine Sub.cons rfl ?_)
  · have e : k = n := by omega
    subst e
    have et : zs.take k = zs := List.take_of_length_le (by omega)
    rw [et]
    repeat (first | refine T_seq ?_ | refine T_region ?_ | refine S_nil ?_ | refine pthen_normal ?_ | refine inb_hit ?_ | refine pthen_exit ?_ | refine T_ret ?_ | refine T_exit ?_ | refine S_pure tabOk rfl ?_)
    exact ret1 rfl rfl (fun w' hw' => ⟨reti (not32 _), hw'.below (new_cons hb new_nil)⟩)
theorem sum_ok (a : Option Addr) (n c : Nat) (zs : List Int) (w : World) (hw : Ints .u8 w a n c zs) :
    Calls Try.prog 95 #[.slice a n c] w fun e w' => e = .returned (.int .u32 ((sumB zs).toNat : Int)) ∧ Below w.heap.size w w' := by
  refine enter1 Try.func95 rfl rfl (Hp.refl w) ?_
  repeat (first | refine T_seq ?_ | refine T_region ?_ | refine S_nil ?_ | refine S_pure tabOk rfl ?_)
  refine S_callq rfl Try.call115 (fun w1 h1 => more_ok 0#32 a n c zs w1 (hw.ext (h1.below new_nil))) ?_
  repeat (first | refine S_nil ?_ | refine T_ret ?_ | refine S_pure tabOk rfl ?_)
  exact ret1 rfl rfl (fun w' hw' => ⟨rfl, hw'.below new_nil⟩)
theorem half32 (a : BitVec 32) : (a.toNat : Int) / (2 : Int) = ((a >>> 1).toNat : Int) := by rw [← shr32, Int.pow_one]
theorem unl_iff (a b : BitVec 32) : (a.toNat : Int) % 2 ≠ (b.toNat : Int) % 2 ↔ (a.getLsbD 0 ^^ b.getLsbD 0) = true := by
  rw [mod32, mod32]
  cases a.getLsbD 0 <;> cases b.getLsbD 0 <;> simp
theorem refsum_ok (a : Option Addr) (n c : Nat) (zs : List Int) (w : World) (hw : Ints .u8 w a n c zs) :
    Calls Try.prog 58 #[.slice a n c] w fun e w' => e = .returned (.int .u32 ((sumB zs).toNat : Int)) ∧ Below w.heap.size w w' := by
  have l1 := hw.len
  have m1 : n ≤ 9223372036854775807 := by have := hw.cap; have := hw.max; simp only [maxLen] at this; omega
  refine enter1 Try.func58 rfl rfl (Hp.refl w) ?_
  repeat (first | refine T_seq ?_ | refine T_region ?_ | refine T_block ?_ | refine S_nil ?_ | refine S_pure tabOk rfl ?_)
  refine T_loop (ι := Nat) (fun k => [(3, .int .u32 ((crc (BitVec.allOnes 32) (zs.take k)).toNat : Int)), (8, .slice a n c), (9, .int .i64 (n : Int)), (10, .int .i64 (k : Int))]) (fun _ => []) (fun k => k ≤ n) (fun k => n - k) 0 (Nat.zero_le _) (by repeat (first | exact Sub.nil | refine Sub.cons rfl ?_)) (fun _ hw => hw) ?_
  intro k hk
  repeat (first | refine T_seq ?_ | refine T_region ?_ | refine S_nil ?_ | refine S_pure tabOk rfl ?_)
  refine T_cond_dec rfl (fun h => ?_) (fun h => ?_)
  · have hk' : k < n := by omega
    obtain ⟨b1, o1, rfl, lt1, g1⟩ := hw.sl.get (by omega)
    have hz := fits_u8 (hw.fits (zs[k]'(by omega)) (List.getElem_mem _))
    repeat (first | refine T_seq ?_ | refine T_region ?_ | refine T_block ?_ | refine pthen_normal ?_ | refine T_skip ?_)
    refine S_q (Q_idx1 tabOk rfl rfl rfl rfl rfl rfl rfl rfl (j := k) hk') ?_
    refine S_load1 tabOk rfl rfl (v := .int .u8 (zs[k]'(by omega))) (fun w' hw' => Sl.at_ (hw.sl.ext (hw'.below new_nil)) (by omega) (by simp [l1, hk'])) ?_
    repeat (first | refine T_seq ?_ | refine T_region ?_ | refine T_block ?_ | refine S_nil ?_ | refine S_pure tabOk rfl ?_)
    have e0 := crc_take (BitVec.allOnes 32) zs k (by omega)
    generalize crc (BitVec.allOnes 32) (zs.take k) = r at e0 ⊢
    generalize zs[k]'(by omega) = z at e0 hz ⊢
    refine T_loop (ι := Nat) (fun j => [(3, .int .u32 ((refS r z j).toNat : Int)), (5, .int .u8 z), (6, .int .i64 (j : Int)), (8, .slice (some ⟨b1, o1, none⟩) n c), (9, .int .i64 (n : Int)), (10, .int .i64 (k : Int))]) (fun _ => []) (fun j => j ≤ 8) (fun j => 8 - j) 0 (Nat.zero_le _) ?_ (fun _ hw => hw) ?_
    · rw [refS_zero]
      repeat (first | exact Sub.nil | refine Sub.cons rfl ?_)
    intro j hj
    have hsz : (0 : Int) ≤ (refS r z j).toNat := by omega
    repeat (first | refine T_seq ?_ | refine T_region ?_ | refine S_nil ?_ | refine S_pure tabOk rfl ?_)
    refine T_cond_dec rfl (fun h => ?_) (fun h => ?_)
    · repeat (first | refine T_seq ?_ | refine T_region ?_ | refine T_block ?_ | refine pthen_normal ?_ | refine T_skip ?_ | refine S_pure tabOk rfl ?_)
      have e1 := refS_succ r z j
      generalize refS r z j = s at e1 hsz ⊢
      refine S_q (Q_rem0 rfl rfl rfl (by decide) hsz) ?_
      repeat (first | refine S_pure tabOk rfl ?_)
      refine S_q ((Q_shr rfl rfl rfl (by simp only [IntKind.bits]; omega)).eq (v' := .int .u8 ((BitVec.ofInt 32 z >>> j).toNat : Int)) (by rw [Int.toNat_natCast, ← shr32, ofInt32_toNat (by omega)])) ?_
      have hb : ((BitVec.ofInt 32 z >>> j).toNat : Int) ≤ 4294967295 := by have := (BitVec.ofInt 32 z >>> j).isLt; omega
      generalize BitVec.ofInt 32 z >>> j = y at e1 hb ⊢
      repeat (first | refine S_pure tabOk rfl ?_)
      refine S_re 23 rfl (congrArg (Value.int .u32) (wrap32 y)) ?_
      refine S_q (Q_rem0 rfl rfl rfl (by decide) (by omega)) ?_
      repeat (first | refine T_seq ?_ | refine T_region ?_ | refine S_nil ?_ | refine S_pure tabOk rfl ?_)
      refine S_q (Q_quo0 rfl rfl rfl (by decide) hsz (fun e h1 h2 => IntWalk.u32_in _ (by have := s.isLt; omega))) ?_
      repeat (first | refine T_seq ?_ | refine T_region ?_ | refine S_nil ?_ | refine S_pure tabOk rfl ?_)
      refine T_cond_dec rfl (fun h => ?_) (fun h => ?_)
      · repeat (first | refine T_region ?_ | refine S_nil ?_ | refine pthen_normal ?_ | refine inb_normal ?_ | refine S_i64 tabOk rfl (by omega) ?_ | refine S_pure tabOk rfl ?_ | refine T_region_any ?_)
        refine ⟨j + 1, by omega, ?_, fun _ hw => hw, by omega⟩
        rw [(unl_iff _ _).1 h] at e1
        rw [e1]
        refine Sub.cons_eq rfl (congrArg (Value.int .u32) ?_) ?_
        · rw [half32]
          exact xor_lay _
        repeat (first | exact Sub.nil | refine Sub.cons rfl ?_)
      · repeat (first | refine T_region ?_ | refine S_nil ?_ | refine pthen_normal ?_ | refine inb_normal ?_ | refine T_skip ?_ | refine S_i64 tabOk rfl (by omega) ?_ | refine S_pure tabOk rfl ?_)
        refine ⟨j + 1, by omega, ?_, fun _ hw => hw, by omega⟩
        rw [Bool.eq_false_iff.2 (fun hh => h ((unl_iff _ _).2 hh)), show lay false = 0#32 from rfl, BitVec.xor_zero] at e1
        rw [e1]
        refine Sub.cons_eq rfl (congrArg (Value.int .u32) (half32 s)) ?_
        repeat (first | exact Sub.nil | refine Sub.cons rfl ?_)
    · have : j = 8 := by omega
      subst this
      rw [refS_eight _ _ hz]
      repeat (first | refine T_region ?_ | refine S_nil ?_ | refine pthen_normal ?_ | refine inb_normal ?_ | refine inb_hit ?_ | refine pthen_exit ?_ | refine T_exit ?_ | refine S_i64 tabOk rfl (by omega) ?_ | refine S_pure tabOk rfl ?_)
      refine ⟨k + 1, by omega, ?_, fun _ hw => hw, by omega⟩
      rw [e0]
      repeat (first | exact Sub.nil | refine Sub.cons rfl ?_)
  · have e : k = n := by omega
    subst e
    have et : zs.take k = zs := List.take_of_length_le (by omega)
    rw [et]
    repeat (first | refine T_seq ?_ | refine T_region ?_ | refine S_nil ?_ | refine pthen_normal ?_ | refine inb_hit ?_ | refine pthen_exit ?_ | refine T_ret ?_ | refine T_exit ?_ | refine S_pure tabOk rfl ?_)
    refine ret1 rfl rfl (fun w' hw' => ⟨reti ?_, hw'.below new_nil⟩)
    rw [sub32, wrap32]
    rfl



/-! a number in bytes -/
def leN (N i : Nat) : Int := ((N / 256 ^ i % 256 : Nat) : Int)
def lesN (N k : Nat) : List Int := (List.range k).map (leN N)
theorem lesN_len (N k : Nat) : (lesN N k).length = k := by simp [lesN]
theorem lesN_succ (N k : Nat) : lesN N (k + 1) = lesN N k ++ [leN N k] := by simp [lesN, List.range_succ]
theorem leN_fits (N i : Nat) : Fits .u8 (leN N i) := fits8 (by unfold leN; omega)
theorem lesN_fits (N k : Nat) : ∀ z ∈ lesN N k, Fits .u8 z := by
  intro z hz
  obtain ⟨i, _, rfl⟩ := List.mem_map.1 hz
  exact leN_fits N i
def valLE : List Int → Int
  | [] => 0
  | z :: zs => 256 * valLE zs + z
theorem valLE_bound {zs : List Int} (h : ∀ z ∈ zs, Fits .u8 z) : 0 ≤ valLE zs ∧ valLE zs < 256 ^ zs.length := by
  induction zs with
  | nil => exact ⟨by decide, by decide⟩
  | cons z zs ih =>
    have h1 := fits_u8 (h z List.mem_cons_self)
    have h2 := ih fun y hy => h y (List.mem_cons_of_mem _ hy)
    rw [List.length_cons, Int.pow_succ]
    unfold valLE
    omega
theorem valLE_64 {zs : List Int} (h : ∀ z ∈ zs, Fits .u8 z) (hl : zs.length ≤ 8) : 0 ≤ valLE zs ∧ valLE zs ≤ 18446744073709551615 := by
  have h1 := valLE_bound h
  have : (256 : Int) ^ zs.length ≤ 256 ^ 8 := by
    have := Nat.pow_le_pow_right (by decide : 0 < 256) hl
    have h2 := Int.ofNat_le.2 this
    rw [Int.natCast_pow, Int.natCast_pow] at h2
    exact h2
  have e : (256 : Int) ^ 8 = 18446744073709551616 := rfl
  omega
theorem valLE_drop (zs : List Int) (k : Nat) (h : k < zs.length) : valLE (zs.drop k) = 256 * valLE (zs.drop (k + 1)) + zs[k] := by
  rw [List.drop_eq_getElem_cons h, valLE]
theorem les4_eq {N : Nat} {q : List Int} (hN : N < 4294967296) (hq : q.length = 4) (hb : ∀ z ∈ q, Fits .u8 z) : lesN N 4 = q ↔ valLE q = N := by
  match q, hq with
  | [a, b, c, d], _ =>
    have ha := fits_u8 (hb a (by simp))
    have hb' := fits_u8 (hb b (by simp))
    have hc := fits_u8 (hb c (by simp))
    have hd := fits_u8 (hb d (by simp))
    have e : lesN N 4 = [leN N 0, leN N 1, leN N 2, leN N 3] := rfl
    have e0 : (256 : Nat) ^ 0 = 1 := rfl
    have e1 : (256 : Nat) ^ 1 = 256 := rfl
    have e2 : (256 : Nat) ^ 2 = 65536 := rfl
    have e3 : (256 : Nat) ^ 3 = 16777216 := rfl
    rw [e]
    simp only [List.cons.injEq, and_true, valLE, leN, e0, e1, e2, e3]
    omega
theorem shr_le (N k : Nat) : (N : Int) / 2 ^ (8 * k) = ((N / 256 ^ k : Nat) : Int) := by
  have e : (256 : Nat) ^ k = 2 ^ (8 * k) := by rw [Nat.pow_mul]
  rw [Int.natCast_ediv, e, Int.natCast_pow]
  rfl
/-! closed -/
def closeB (zs : List Int) : List Int := zs ++ lesN (sumB zs).toNat 4
theorem closeB_len (zs : List Int) : (closeB zs).length = zs.length + 4 := by unfold closeB; rw [List.length_append, lesN_len]
theorem closeB_fits {zs : List Int} (h : ∀ z ∈ zs, Fits .u8 z) : ∀ z ∈ closeB zs, Fits .u8 z := fun z hz => by
  rcases List.mem_append.1 hz with h1 | h1
  · exact h z h1
  · exact lesN_fits _ _ z h1
theorem close_iff {zs : List Int} (h : ∀ z ∈ zs, Fits .u8 z) (hl : 4 ≤ zs.length) : closeB (zs.take (zs.length - 4)) = zs ↔ valLE (zs.drop (zs.length - 4)) = ((sumB (zs.take (zs.length - 4))).toNat : Int) := by
  rw [← les4_eq (sumB (zs.take (zs.length - 4))).isLt (by rw [List.length_drop]; omega) (fun z hz => h z (List.mem_of_mem_drop hz))]
  constructor
  · intro hh
    have := hh.trans (List.take_append_drop (zs.length - 4) zs).symm
    exact List.append_cancel_left this
  · intro hh
    unfold closeB
    rw [hh, List.take_append_drop]
/-- opened; the error -/
def openR (zs : List Int) : List Int := if zs.length < 4 then [] else if closeB (zs.take (zs.length - 4)) = zs then zs.take (zs.length - 4) else []
def openE (zs : List Int) : Int := if zs.length < 4 then 2 else if closeB (zs.take (zs.length - 4)) = zs then 0 else 3
theorem close_ok (a : Option Addr) (n c : Nat) (zs : List Int) (w : World) (hw : Ints .u8 w a n c zs) (hn : zs.length ≤ 1073741824) :
    Calls Try.prog 54 #[.slice a n c] w fun e w' => ∃ a c, e = .returned (.slice a (closeB zs).length c) ∧ Below w.heap.size w w' ∧ w'.ownsRow w.heap.size 5 1 (.slice a (closeB zs).length c) (closeB zs).length ((closeB zs).map (.int .u8)) := by
  have hl := hw.len
  refine enter1 Try.func54 rfl rfl (Hp.refl w) ?_
  repeat (first | refine T_seq ?_ | refine T_region ?_ | refine S_nil ?_ | refine S_pure tabOk rfl ?_)
  refine S_callq rfl Try.call95 (fun w1 h1 => sum_ok a n c zs w1 (hw.ext (h1.below new_nil))) ?_
  repeat (first | refine T_seq ?_ | refine T_region ?_ | refine S_nil ?_ | refine S_pure tabOk rfl ?_)
  refine S_callrow rfl Try.call96 (fun w1 h1 => clone_ok a n c zs w1 (hw.ext (h1.below new_nil)) (by omega)) (fun a1 c1 hc1 hd1 => ?_)
  repeat (first | refine T_seq ?_ | refine T_region ?_ | refine T_block ?_ | refine S_nil ?_ | refine S_pure tabOk rfl ?_)
  have hlen : ∀ k, k ≤ 4 → (zs ++ lesN (sumB zs).toNat k).length = zs.length + k := fun k _ => by rw [List.length_append, lesN_len]
  have h32 := (sumB zs).isLt
  refine T_loop (ι := Nat × Option Addr × Nat) (fun i => [(3, .int .u32 ((sumB zs).toNat : Int)), (4, .slice i.2.1 (zs ++ lesN (sumB zs).toNat i.1).length i.2.2), (10, .int .i64 (i.1 : Int))])
    (fun i => [.row w.heap.size (.slice i.2.1 (zs ++ lesN (sumB zs).toNat i.1).length i.2.2) 5 1 (zs ++ lesN (sumB zs).toNat i.1).length ((zs ++ lesN (sumB zs).toNat i.1).map (.int .u8))]) (fun i => i.1 ≤ 4) (fun i => 4 - i.1) (0, a1, c1) (Nat.zero_le _) ?_ ?_ ?_
  · simp only [lesN, List.range_zero, List.map_nil, List.append_nil]
    repeat (first | exact Sub.nil | refine Sub.cons rfl ?_)
  · simp only [lesN, List.range_zero, List.map_nil, List.append_nil]
    exact fun _ h => h
  rintro ⟨k, a2, c2⟩ hk
  dsimp only at hk ⊢
  repeat (first | refine T_seq ?_ | refine T_region ?_ | refine S_nil ?_ | refine S_pure tabOk rfl ?_)
  refine T_cond_dec rfl (fun h => ?_) (fun h => ?_)
  · have hk4 : k < 4 := by omega
    repeat (first | refine T_seq ?_ | refine T_region ?_ | refine T_block ?_ | refine S_nil ?_ | refine pthen_normal ?_ | refine T_skip ?_ | refine S_i64 tabOk rfl (by omega) ?_ | refine S_pure tabOk rfl ?_ | refine T_region_any ?_)
    refine S_q ((Q_shr rfl rfl rfl (by simp only [IntKind.bits]; omega)).eq (v' := .int .u32 (((sumB zs).toNat / 256 ^ k : Nat) : Int)) ?_) ?_
    · rw [show ((8 : Int) * (k : Int)).toNat = 8 * k from by omega, shr_le]
    repeat (first | refine S_pure tabOk rfl ?_)
    refine S_re 18 rfl (congrArg (Value.int .u8) (wrap8 _)) ?_
    have hz := hlen k hk
    have e3 : zs ++ lesN (sumB zs).toNat (k + 1) = (zs ++ lesN (sumB zs).toNat k) ++ [leN (sumB zs).toNat k] := by rw [lesN_succ, List.append_assoc]
    generalize zs ++ lesN (sumB zs).toNat k = ys at e3 hz ⊢
    refine S_bslice tabOk rfl rfl rfl rfl rfl rfl rfl rfl rfl rfl rfl rfl (fun b hb => ?_)
    refine S_append (ty := 0) tabOk 1 (news := [.int .u8 (leN (sumB zs).toNat k)]) rfl rfl rfl rfl rfl rfl rfl rfl rfl (by decide) (fun w' h => Sl.of_blk (h.own _ (getE_mem (i := 0) rfl)) rfl fun j u hu => by rw [Nat.zero_add]; exact hu) (fun u hu => by rw [List.mem_singleton] at hu; subst hu; rfl) (by simp only [maxLen]; omega) (by show (_ + _) * 1 ≤ _; omega) rfl (fun A' c' h1 h2 => ⟨_, rfl, ?_⟩)
    repeat (first | refine T_region ?_ | refine S_nil ?_ | refine pthen_normal ?_ | refine inb_normal ?_ | refine S_i64 tabOk rfl (by omega) ?_ | refine S_pure tabOk rfl ?_)
    refine ⟨(k + 1, A', c'), hk4, ?_, ?_, by dsimp only; omega⟩
    · simp only [e3, List.length_append, List.length_singleton]
      repeat (first | exact Sub.nil | refine Sub.cons rfl ?_)
    · simp only [e3, List.length_append, List.length_singleton, List.map_append, List.map_cons, List.map_nil]
      exact fun _ h => h.drop (fun _ k hk => by simp only [HE.has, Option.some.injEq] at hk; omega)
  · have e : k = 4 := by omega
    subst e
    repeat (first | refine T_seq ?_ | refine T_region ?_ | refine S_nil ?_ | refine pthen_normal ?_ | refine inb_hit ?_ | refine pthen_exit ?_ | refine T_ret ?_ | refine T_exit ?_ | refine S_pure tabOk rfl ?_)
    exact ret1 rfl rfl (fun w' hw' => ⟨a2, c2, rfl, hw'.below (newrow hw' 0 rfl (Nat.le_refl _) new_nil), hw'.own _ (getE_mem (i := 0) rfl)⟩)
theorem lay_ok (N k : Nat) (w : World) (hN : N < 18446744073709551616) (hk : k ≤ 1024) :
    Calls Try.prog 57 #[.int .u64 (N : Int), .int .i64 (k : Int)] w fun e w' => ∃ a c, e = .returned (.slice a (lesN N k).length c) ∧ Below w.heap.size w w' ∧ w'.ownsRow w.heap.size 5 1 (.slice a (lesN N k).length c) (lesN N k).length ((lesN N k).map (.int .u8)) := by
  refine enter2 Try.func57 rfl rfl (Hp.refl w) ?_
  repeat (first | refine T_seq ?_ | refine T_region ?_ | refine T_block ?_ | refine S_nil ?_ | refine S_pure tabOk rfl ?_)
  refine T_loop (ι := Nat × Option Addr × Nat) (fun i => [(0, .int .u64 ((N / 256 ^ i.1 : Nat) : Int)), (1, .int .i64 (k : Int)), (5, .slice i.2.1 (lesN N i.1).length i.2.2), (6, .int .i64 (i.1 : Int))])
    (fun i => [.row w.heap.size (.slice i.2.1 (lesN N i.1).length i.2.2) 5 1 (lesN N i.1).length ((lesN N i.1).map (.int .u8))]) (fun i => i.1 ≤ k) (fun i => k - i.1) (0, none, 0) (Nat.zero_le _) ?_ (fun _ hw => hw.nilRow _ _) ?_
  · simp only [Nat.pow_zero, Nat.div_one]
    repeat (first | exact Sub.nil | refine Sub.cons rfl ?_)
  rintro ⟨j, a2, c2⟩ hj
  dsimp only at hj ⊢
  have hle : N / 256 ^ j ≤ N := Nat.div_le_self _ _
  have hnn : (0 : Int) ≤ ((N / 256 ^ j : Nat) : Int) := Int.natCast_nonneg _
  repeat (first | refine T_seq ?_ | refine T_region ?_ | refine S_nil ?_ | refine S_pure tabOk rfl ?_)
  refine T_cond_dec rfl (fun h => ?_) (fun h => ?_)
  · have hjk : j < k := by omega
    repeat (first | refine T_seq ?_ | refine T_region ?_ | refine T_block ?_ | refine pthen_normal ?_ | refine T_skip ?_ | refine S_pure tabOk rfl ?_)
    refine S_q (Q_rem0 rfl rfl rfl (by decide) hnn) ?_
    repeat (first | refine S_pure tabOk rfl ?_)
    have ez : IntKind.u8.wrap (((N / 256 ^ j : Nat) : Int) % 256) = leN N j := by rw [IntWalk.u8_in _ (by omega)]; rfl
    refine S_re 15 rfl (congrArg (Value.int .u8) ez) ?_
    have hz := lesN_len N j
    have e3 := lesN_succ N j
    have e4 : N / 256 ^ (j + 1) = N / 256 ^ j / 256 := by rw [Nat.pow_succ, Nat.div_div_eq_div_mul]
    generalize lesN N j = ys at e3 hz ⊢
    refine S_bslice tabOk rfl rfl rfl rfl rfl rfl rfl rfl rfl rfl rfl rfl (fun b hb => ?_)
    refine S_append (ty := 0) tabOk 1 (news := [.int .u8 (leN N j)]) rfl rfl rfl rfl rfl rfl rfl rfl rfl (by decide) (fun w' h => Sl.of_blk (h.own _ (getE_mem (i := 0) rfl)) rfl fun j u hu => by rw [Nat.zero_add]; exact hu) (fun u hu => by rw [List.mem_singleton] at hu; subst hu; rfl) (by simp only [maxLen]; omega) (by show (_ + _) * 1 ≤ _; omega) rfl (fun A' c' h1 h2 => ⟨_, rfl, ?_⟩)
    repeat (first | refine S_nil ?_ | refine S_pure tabOk rfl ?_ | refine T_region_any ?_)
    refine S_q (Q_quo0 rfl rfl rfl (by decide) hnn (fun e h1 h2 => IntWalk.u64_in _ (by have := Int.ofNat_le.2 hle; omega))) ?_
    repeat (first | refine T_region ?_ | refine S_nil ?_ | refine pthen_normal ?_ | refine inb_normal ?_ | refine S_i64 tabOk rfl (by omega) ?_ | refine S_pure tabOk rfl ?_)
    refine ⟨(j + 1, A', c'), hjk, ?_, ?_, by dsimp only; omega⟩
    · simp only [e3, e4, List.length_append, List.length_singleton]
      repeat (first | exact Sub.nil | refine Sub.cons rfl ?_)
    · simp only [e3, List.length_append, List.length_singleton, List.map_append, List.map_cons, List.map_nil]
      exact fun _ h => h.drop (fun _ k hk => by simp only [HE.has, Option.some.injEq] at hk; omega)
  · have e : j = k := by omega
    subst e
    repeat (first | refine T_seq ?_ | refine T_region ?_ | refine S_nil ?_ | refine pthen_normal ?_ | refine inb_hit ?_ | refine pthen_exit ?_ | refine T_ret ?_ | refine T_exit ?_ | refine S_pure tabOk rfl ?_)
    exact ret1 rfl rfl (fun w' hw' => ⟨a2, c2, rfl, hw'.below (newrow hw' 0 rfl (Nat.le_refl _) new_nil), hw'.own _ (getE_mem (i := 0) rfl)⟩)
theorem take_ok (a : Option Addr) (n c : Nat) (zs : List Int) (w : World) (hw : Ints .u8 w a n c zs) (hn : zs.length ≤ 8) :
    Calls Try.prog 100 #[.slice a n c] w fun e w' => e = .returned (.int .u64 (valLE zs)) ∧ Below w.heap.size w w' := by
  have hl := hw.len
  refine enter1 Try.func100 rfl rfl (Hp.refl w) ?_
  repeat (first | refine T_seq ?_ | refine T_region ?_ | refine T_block ?_ | refine S_nil ?_ | refine S_i64 tabOk rfl (by omega) ?_ | refine S_pure tabOk rfl ?_)
  refine T_loop (ι := Nat) (fun k => [(0, .slice a n c), (3, .int .u64 (valLE (zs.drop k))), (4, .int .i64 ((k : Int) - 1))]) (fun _ => []) (fun k => k ≤ n) (fun k => k) n (Nat.le_refl _) ?_ (fun _ h => h) ?_
  · rw [List.drop_of_length_le (by omega)]
    repeat (first | exact Sub.nil | refine Sub.cons rfl ?_)
  intro k hk
  have hb := valLE_64 (zs := zs.drop k) (fun z hz => hw.fits z (List.mem_of_mem_drop hz)) (by rw [List.length_drop]; omega)
  repeat (first | refine T_seq ?_ | refine T_region ?_ | refine S_nil ?_ | refine S_pure tabOk rfl ?_)
  refine T_cond_dec rfl (fun h => ?_) (fun h => ?_)
  · obtain ⟨j, rfl⟩ : ∃ j, k = j + 1 := ⟨k - 1, by omega⟩
    have hj : j < n := by omega
    obtain ⟨b1, o1, rfl, lt1, g1⟩ := hw.sl.get (by omega)
    have e := valLE_drop zs j (by omega)
    have hb2 := valLE_64 (zs := zs.drop j) (fun z hz => hw.fits z (List.mem_of_mem_drop hz)) (by rw [List.length_drop]; omega)
    have hz := fits_u8 (hw.fits (zs[j]'(by omega)) (List.getElem_mem _))
    repeat (first | refine T_seq ?_ | refine T_block ?_ | refine pthen_normal ?_ | refine T_skip ?_ | refine S_pure tabOk rfl ?_ | refine T_region_any ?_)
    refine S_re 13 rfl (congrArg (Value.int .u64) (IntWalk.u64_in _ (by omega))) ?_
    refine S_q (Q_idx1 tabOk rfl rfl rfl rfl rfl rfl rfl (by omega) (j := j) hj) ?_
    refine S_load1 tabOk rfl rfl (v := .int .u8 (zs[j]'(by omega))) (fun w' hw' => Sl.at_ (hw.sl.ext (hw'.below new_nil)) (by omega) (by simp [hl, hj])) ?_
    refine S_u64 tabOk rfl (by omega) ?_
    refine S_u64 tabOk rfl (by omega) ?_
    repeat (first | refine T_region ?_ | refine S_nil ?_ | refine pthen_normal ?_ | refine inb_normal ?_ | refine S_i64 tabOk rfl (by omega) ?_ | refine S_pure tabOk rfl ?_)
    refine ⟨j, by omega, ?_, fun _ h => h, by omega⟩
    rw [e]
    repeat (first | exact Sub.nil | refine Sub.cons rfl ?_ | refine Sub.cons_int rfl (by omega) ?_)
  · have e : k = 0 := by omega
    subst e
    repeat (first | refine T_seq ?_ | refine T_region ?_ | refine S_nil ?_ | refine pthen_normal ?_ | refine inb_hit ?_ | refine pthen_exit ?_ | refine T_ret ?_ | refine T_exit ?_ | refine S_pure tabOk rfl ?_)
    exact ret1 rfl rfl (fun w' hw' => ⟨rfl, hw'.below new_nil⟩)

theorem refclose_ok (a : Option Addr) (n c : Nat) (zs : List Int) (w : World) (hw : Ints .u8 w a n c zs) (hn : zs.length ≤ 1073741824) :
    Calls Try.prog 23 #[.slice a n c] w fun e w' => ∃ a c, e = .returned (.slice a (closeB zs).length c) ∧ Below w.heap.size w w' ∧ w'.ownsRow w.heap.size 5 1 (.slice a (closeB zs).length c) (closeB zs).length ((closeB zs).map (.int .u8)) := by
  have hl := hw.len
  have h32 := (sumB zs).isLt
  refine enter1 Try.func23 rfl rfl (Hp.refl w) ?_
  repeat (first | refine T_seq ?_ | refine T_region ?_ | refine S_nil ?_ | refine S_pure tabOk rfl ?_)
  refine S_callq rfl Try.call58 (fun w1 h1 => refsum_ok a n c zs w1 (hw.ext (h1.below new_nil))) ?_
  refine S_u64 tabOk rfl (by omega) ?_
  refine S_callrow rfl Try.call57 (fun w1 h1 => lay_ok (sumB zs).toNat 4 w1 (by omega) (by decide)) (fun a1 c1 hc1 hd1 => ?_)
  refine S_bslice tabOk rfl rfl rfl rfl rfl rfl rfl rfl rfl rfl rfl rfl (fun b hb => ?_)
  have hcat : cat [⟨a, n, c, zs⟩, ⟨a1, (lesN (sumB zs).toNat 4).length, c1, lesN (sumB zs).toNat 4⟩] = closeB zs := by simp [cat, closeB]
  refine S_callrow (E := 5) (sz := 1) (xs := (closeB zs).map (.int .u8)) (m := (closeB zs).length) rfl Try.call30 (fun w1 h1 => ?_) (fun a2 c2 hc2 hd2 => ?_)
  · have := join_ok (some ⟨b, 0, none⟩) 2 2 [⟨a, n, c, zs⟩, ⟨a1, (lesN (sumB zs).toNat 4).length, c1, lesN (sumB zs).toNat 4⟩] w1 (by decide) (Sl.of_blk (h1.own _ (getE_mem (i := 0) rfl)) rfl fun j u hu => by rw [Nat.zero_add]; exact hu) (fun p hp => by
      simp only [List.mem_cons, List.not_mem_nil, or_false] at hp
      rcases hp with rfl | rfl
      · exact hw.ext (h1.below (new_cons hb (newrow h1 1 rfl (Nat.le_refl _) new_nil)))
      · exact h1.ints 1 rfl (lesN_fits _ _)) (by rw [hcat, closeB_len]; omega)
    rw [hcat] at this
    exact this
  repeat (first | refine S_nil ?_ | refine T_ret ?_ | refine S_pure tabOk rfl ?_)
  exact ret1 rfl rfl (fun w' hw' => ⟨a2, c2, rfl, hw'.below (newrow hw' 0 rfl (Nat.le_refl _) (new_cons hb (newrow hw' 2 rfl (Nat.le_refl _) new_nil))), hw'.own _ (getE_mem (i := 0) rfl)⟩)
theorem open_ok (a : Option Addr) (n c : Nat) (zs : List Int) (w : World) (hw : Ints .u8 w a n c zs) (hn : zs.length ≤ 1073741824) :
    Calls Try.prog 59 #[.slice a n c] w fun e w' => ∃ a c, e = .returned (.tuple #[.slice a (openR zs).length c, .int .i64 (openE zs)]) ∧ Below w.heap.size w w' ∧ w'.ownsRow w.heap.size 5 1 (.slice a (openR zs).length c) (openR zs).length ((openR zs).map (.int .u8)) := by
  have hl := hw.len
  have hcap := hw.cap
  refine enter1 Try.func59 rfl rfl (Hp.refl w) ?_
  repeat (first | refine T_seq ?_ | refine T_region ?_ | refine T_block ?_ | refine S_nil ?_ | refine S_i64 tabOk rfl (by omega) ?_ | refine S_pure tabOk rfl ?_)
  refine T_cond_dec rfl (fun h => ?_) (fun h => ?_)
  · have h4 : zs.length < 4 := by omega
    repeat (first | refine T_seq ?_ | refine T_region ?_ | refine S_nil ?_ | refine inb_ret ?_ | refine pthen_ret ?_ | refine T_ret ?_ | refine S_pure tabOk rfl ?_)
    exact ret2 rfl rfl rfl (fun w' hw' => ⟨none, 0, by unfold openR openE; rw [if_pos h4, if_pos h4]; rfl, hw'.below new_nil, by unfold openR; rw [if_pos h4]; exact World.ownsRow_nil _ _ _ _⟩)
  · have h4 : ¬ zs.length < 4 := by omega
    have hk : n - 4 ≤ n := by omega
    repeat (first | refine T_seq ?_ | refine T_region ?_ | refine S_pure tabOk rfl ?_)
    refine S_q (Q_sliceTo tabOk rfl rfl rfl rfl rfl rfl (H := n - 4) (by omega) (by omega)) ?_
    refine S_callrow rfl Try.call54 (fun w1 h1 => close_ok a (n - 4) c (zs.take (n - 4)) w1 ((hw.ext (h1.below new_nil)).take hk) (by rw [List.length_take]; omega)) (fun a1 c1 hc1 hd1 => ?_)
    repeat (first | refine S_pure tabOk rfl ?_)
    refine S_callq rfl Try.call94 (fun w1 h1 => bequal_ok a1 a (closeB (zs.take (n - 4))).length c1 n c (closeB (zs.take (n - 4))) zs w1 (h1.ints 0 rfl (closeB_fits (fits_take hw.fits _))) (hw.ext (h1.below (newrow h1 0 rfl (Nat.le_refl _) new_nil)))) ?_
    repeat (first | refine S_nil ?_ | refine S_pure tabOk rfl ?_)
    refine T_cond_ndec rfl (fun h => ?_) (fun h => ?_)
    · have hR : openR zs = [] := by unfold openR; rw [if_neg h4, hl, if_neg h]
      have hE : openE zs = 3 := by unfold openE; rw [if_neg h4, hl, if_neg h]
      rw [hR, hE]
      repeat (first | refine T_seq ?_ | refine T_region ?_ | refine S_nil ?_ | refine inb_ret ?_ | refine pthen_ret ?_ | refine T_ret ?_ | refine S_pure tabOk rfl ?_)
      exact ret2 rfl rfl rfl (fun w' hw' => ⟨none, 0, rfl, hw'.below (newrow hw' 0 rfl (Nat.le_refl _) new_nil), World.ownsRow_nil _ _ _ _⟩)
    · have hR : openR zs = zs.take (n - 4) := by unfold openR; rw [if_neg h4, hl, if_pos h]
      have hE : openE zs = 0 := by unfold openE; rw [if_neg h4, hl, if_pos h]
      rw [hR, hE]
      repeat (first | refine T_seq ?_ | refine T_region ?_ | refine pthen_normal ?_ | refine inb_normal ?_ | refine T_skip ?_ | refine S_pure tabOk rfl ?_)
      refine S_q (Q_sliceTo tabOk rfl rfl rfl rfl rfl rfl (H := n - 4) (by omega) (by omega)) ?_
      refine S_callrow rfl Try.call96 (fun w1 h1 => clone_ok a (n - 4) c (zs.take (n - 4)) w1 ((hw.ext (h1.below (newrow h1 0 rfl (Nat.le_refl _) new_nil))).take hk) (by rw [List.length_take]; omega)) (fun a2 c2 hc2 hd2 => ?_)
      repeat (first | refine S_nil ?_ | refine T_ret ?_ | refine S_pure tabOk rfl ?_)
      exact ret2 rfl rfl rfl (fun w' hw' => ⟨a2, c2, rfl, hw'.below (newrow hw' 0 rfl (Nat.le_refl _) (newrow hw' 1 rfl (Nat.le_refl _) new_nil)), hw'.own _ (getE_mem (i := 0) rfl)⟩)
theorem refopen_ok (a : Option Addr) (n c : Nat) (zs : List Int) (w : World) (hw : Ints .u8 w a n c zs) (hn : zs.length ≤ 1073741824) :
    Calls Try.prog 65 #[.slice a n c] w fun e w' => ∃ a c, e = .returned (.tuple #[.slice a (openR zs).length c, .int .i64 (openE zs)]) ∧ Below w.heap.size w w' ∧ w'.ownsRow w.heap.size 5 1 (.slice a (openR zs).length c) (openR zs).length ((openR zs).map (.int .u8)) := by
  have hl := hw.len
  have hcap := hw.cap
  refine enter1 Try.func65 rfl rfl (Hp.refl w) ?_
  repeat (first | refine T_seq ?_ | refine T_region ?_ | refine S_nil ?_ | refine S_pure tabOk rfl ?_)
  refine T_cond_dec rfl (fun h => ?_) (fun h => ?_)
  · have h4 : zs.length < 4 := by omega
    repeat (first | refine T_seq ?_ | refine T_region ?_ | refine S_nil ?_ | refine pthen_ret ?_ | refine T_ret ?_ | refine S_pure tabOk rfl ?_)
    exact ret2 rfl rfl rfl (fun w' hw' => ⟨none, 0, by unfold openR openE; rw [if_pos h4, if_pos h4]; rfl, hw'.below new_nil, by unfold openR; rw [if_pos h4]; exact World.ownsRow_nil _ _ _ _⟩)
  · have h4 : ¬ zs.length < 4 := by omega
    have hk : n - 4 ≤ n := by omega
    have h32 := (sumB (zs.take (n - 4))).isLt
    have hci := close_iff hw.fits (by omega)
    rw [hl] at hci
    repeat (first | refine T_draw (by kernel_rfl) (by kernel_rfl) ?_ | refine D_pure tabOk rfl ?_ | refine T_seq ?_ | refine T_region ?_ | refine S_nil ?_ | refine pthen_normal ?_ | refine T_skip ?_ | refine S_i64 tabOk rfl (by omega) ?_ | refine S_pure tabOk rfl ?_)
    refine D_q (Q_sliceFrom (sz := 1) tabOk rfl rfl rfl rfl rfl rfl rfl (L := n - 4) (by omega) hk hcap) ?_
    refine D_callx rfl Try.call100 (v := .int .u64 (valLE (zs.drop (n - 4)))) (fun w' vs hw' h => by obtain ⟨_, _, rfl, rfl, rfl⟩ := h; exact take_ok _ _ _ (zs.drop (n - 4)) w' ((hw.ext (hw'.below new_nil)).drop hk) (by rw [List.length_drop]; omega)) ?_
    repeat (first | refine D_pure tabOk rfl ?_)
    refine D_q (Q_sliceTo tabOk rfl rfl rfl rfl rfl rfl (H := n - 4) (by omega) (by omega)) ?_
    refine D_callx rfl Try.call58 (v := .int .u32 ((sumB (zs.take (n - 4))).toNat : Int)) (fun w' vs hw' h => by obtain ⟨_, _, rfl, rfl, rfl⟩ := h; exact refsum_ok _ _ _ (zs.take (n - 4)) w' ((hw.ext (hw'.below new_nil)).take hk)) ?_
    refine D_u64 tabOk rfl (by omega) ?_
    repeat (first | refine D_all rfl ?_ | refine D_pure tabOk rfl ?_)
    refine T_cond_dec rfl (fun h => ?_) (fun h => ?_)
    · have h' : ¬ closeB (zs.take (n - 4)) = zs := fun hh => h (hci.1 hh)
      have hR : openR zs = [] := by unfold openR; rw [if_neg h4, hl, if_neg h']
      have hE : openE zs = 3 := by unfold openE; rw [if_neg h4, hl, if_neg h']
      rw [hR, hE]
      repeat (first | refine T_seq ?_ | refine T_region ?_ | refine S_nil ?_ | refine pthen_ret ?_ | refine T_ret ?_ | refine S_pure tabOk rfl ?_)
      exact ret2 rfl rfl rfl (fun w' hw' => ⟨none, 0, rfl, hw'.below new_nil, World.ownsRow_nil _ _ _ _⟩)
    · have h' : closeB (zs.take (n - 4)) = zs := hci.2 (Classical.byContradiction h)
      have hR : openR zs = zs.take (n - 4) := by unfold openR; rw [if_neg h4, hl, if_pos h']
      have hE : openE zs = 0 := by unfold openE; rw [if_neg h4, hl, if_pos h']
      rw [hR, hE]
      repeat (first | refine T_seq ?_ | refine T_region ?_ | refine pthen_normal ?_ | refine T_skip ?_ | refine S_pure tabOk rfl ?_)
      refine S_q (Q_sliceTo tabOk rfl rfl rfl rfl rfl rfl (H := n - 4) (by omega) (by omega)) ?_
      refine S_bslice tabOk rfl rfl rfl rfl rfl rfl rfl rfl rfl rfl rfl rfl (fun b hb => ?_)
      refine S_callrow rfl Try.call30 (fun w1 h1 => join1_ok a (n - 4) c (zs.take (n - 4)) b _ _ w1 ((hw.ext (h1.below (new_cons hb new_nil))).take hk) (h1.own _ (getE_mem (i := 0) rfl)) (by rw [List.length_take]; omega)) (fun a2 c2 hc2 hd2 => ?_)
      repeat (first | refine S_nil ?_ | refine T_ret ?_ | refine S_pure tabOk rfl ?_)
      exact ret2 rfl rfl rfl (fun w' hw' => ⟨a2, c2, rfl, hw'.below (newrow hw' 0 rfl (Nat.le_refl _) (new_cons hb new_nil)), hw'.own _ (getE_mem (i := 0) rfl)⟩)

theorem openR_close (zs : List Int) : openR (closeB zs) = zs ∧ openE (closeB zs) = 0 := by
  have hl := closeB_len zs
  have ht : (closeB zs).take ((closeB zs).length - 4) = zs := by
    rw [hl, Nat.add_sub_cancel]
    unfold closeB
    exact List.take_left
  have h4 : ¬ (closeB zs).length < 4 := by omega
  constructor
  · unfold openR; rw [if_neg h4, ht, if_pos rfl]
  · unfold openE; rw [if_neg h4, ht, if_pos rfl]
theorem openR_fits {zs : List Int} (h : ∀ z ∈ zs, Fits .u8 z) : ∀ z ∈ openR zs, Fits .u8 z := fun z hz => by
  unfold openR at hz
  split at hz
  · cases hz
  · split at hz
    · exact h z (List.mem_of_mem_take hz)
    · cases hz

theorem and_mod (x : BitVec 32) (m k : Nat) (h : m = 2 ^ k - 1) (hk : k ≤ 32) : (x &&& BitVec.ofNat 32 m).toNat = x.toNat % 2 ^ k := by
  subst h
  rw [BitVec.toNat_and, BitVec.toNat_ofNat]
  have : 2 ^ k ≤ 2 ^ 32 := Nat.pow_le_pow_right (by decide) hk
  have hp : 0 < 2 ^ k := Nat.pow_pos (by decide)
  rw [Nat.mod_eq_of_lt (by omega), Nat.and_two_pow_sub_one_eq_mod]
theorem itb8_eq (x : BitVec 32) : itb 8 x = (x >>> 8) ^^^ itb 8 (x &&& 255#32) := by
  have key : ∀ y : BitVec 32, itb 8 y = (y >>> 8) ^^^ (itb 4 ((y >>> 4) &&& 15#32) ^^^ itb 8 (y &&& 15#32)) := by
    intro y
    rw [show itb 8 y = itb 4 (itb 4 y) from itb_add 4 4 y, nib_eq y, itb_xor, nib_eq (y >>> 4), ← BitVec.shiftRight_add, ← itb_add 4 4, BitVec.xor_assoc]
  have e1 : (x &&& 255#32) >>> 8 = 0#32 := by
    apply BitVec.eq_of_toNat_eq
    rw [BitVec.toNat_ushiftRight, Nat.shiftRight_eq_div_pow, and_mod x 255 8 rfl (by decide)]
    exact Nat.div_eq_of_lt (Nat.mod_lt _ (by decide))
  have e2 : ((x &&& 255#32) >>> 4) &&& 15#32 = (x >>> 4) &&& 15#32 := by
    apply BitVec.eq_of_toNat_eq
    rw [and_mod _ 15 4 rfl (by decide), and_mod _ 15 4 rfl (by decide), BitVec.toNat_ushiftRight, BitVec.toNat_ushiftRight, Nat.shiftRight_eq_div_pow, Nat.shiftRight_eq_div_pow, and_mod x 255 8 rfl (by decide)]
    omega
  have e3 : (x &&& 255#32) &&& 15#32 = x &&& 15#32 := by
    apply BitVec.eq_of_toNat_eq
    rw [and_mod _ 15 4 rfl (by decide), and_mod _ 15 4 rfl (by decide), and_mod x 255 8 rfl (by decide)]
    omega
  rw [key x, key (x &&& 255#32), e1, e2, e3, BitVec.zero_xor]
theorem ofInt_leN (N i : Nat) : BitVec.ofInt 32 (leN N i) = BitVec.ofNat 32 (N / 256 ^ i) &&& 255#32 := by
  apply BitVec.eq_of_toNat_eq
  rw [and_mod _ 255 8 rfl (by decide), BitVec.toNat_ofNat]
  unfold leN
  rw [BitVec.ofInt_natCast, BitVec.toNat_ofNat]
  omega
/-- one byte of a number -/
theorem cb_le (r : BitVec 32) (N i : Nat) (hN : N < 4294967296) : itb 8 (r ^^^ BitVec.ofNat 32 (N / 256 ^ i)) = cb r (leN N i) ^^^ BitVec.ofNat 32 (N / 256 ^ (i + 1)) := by
  have hlt : N / 256 ^ i < 4294967296 := Nat.lt_of_le_of_lt (Nat.div_le_self _ _) hN
  have e : BitVec.ofNat 32 (N / 256 ^ i) >>> 8 = BitVec.ofNat 32 (N / 256 ^ (i + 1)) := by
    apply BitVec.eq_of_toNat_eq
    have e5 : N / 256 ^ (i + 1) = N / 256 ^ i / 256 := by rw [Nat.pow_succ, Nat.div_div_eq_div_mul]
    rw [BitVec.toNat_ushiftRight, Nat.shiftRight_eq_div_pow, BitVec.toNat_ofNat, BitVec.toNat_ofNat, Nat.mod_eq_of_lt hlt, e5, Nat.mod_eq_of_lt (Nat.lt_of_le_of_lt (Nat.div_le_self _ _) hlt)]
  unfold cb
  rw [itb_xor, itb_xor, ofInt_leN, itb8_eq (BitVec.ofNat 32 (N / 256 ^ i)), e]
  ac_rfl
/-- four bytes of a number -/
theorem crc_le4 (r : BitVec 32) (N : Nat) (hN : N < 4294967296) : crc r (lesN N 4) = itb 32 (r ^^^ BitVec.ofNat 32 N) := by
  have h0 := cb_le r N 0 hN
  have h1 := cb_le (cb r (leN N 0)) N 1 hN
  have h2 := cb_le (cb (cb r (leN N 0)) (leN N 1)) N 2 hN
  have h3 := cb_le (cb (cb (cb r (leN N 0)) (leN N 1)) (leN N 2)) N 3 hN
  rw [Nat.pow_zero, Nat.div_one] at h0
  have hz : N / 256 ^ (3 + 1) = 0 := Nat.div_eq_of_lt hN
  rw [hz] at h3
  have hx : ∀ a : BitVec 32, a ^^^ BitVec.ofNat 32 0 = a := fun a => BitVec.xor_zero
  rw [hx] at h3
  have e : crc r (lesN N 4) = cb (cb (cb (cb r (leN N 0)) (leN N 1)) (leN N 2)) (leN N 3) := rfl
  rw [e, ← h3, ← h2, ← h1, ← h0, ← itb_add, ← itb_add, ← itb_add]
theorem crc_app (r : BitVec 32) (a b : List Int) : crc r (a ++ b) = crc (crc r a) b := by unfold crc; rw [List.foldl_append]
theorem ofNat_toNat32 (a : BitVec 32) : BitVec.ofNat 32 a.toNat = a := by rw [BitVec.ofNat_toNat, BitVec.setWidth_eq]
def residue : BitVec 32 := itb 32 (BitVec.allOnes 32)
theorem crc_closed (zs : List Int) : crc (BitVec.allOnes 32) (closeB zs) = residue := by
  unfold closeB
  rw [crc_app, crc_le4 _ _ (sumB zs).isLt, ofNat_toNat32]
  unfold residue sumB more
  rw [show ~~~ 0#32 = BitVec.allOnes 32 from rfl]
  congr 1
  generalize crc (BitVec.allOnes 32) zs = x
  rw [← BitVec.allOnes_xor, BitVec.xor_comm, BitVec.xor_assoc, BitVec.xor_self, BitVec.xor_zero]
/-- Four bytes that differ lead to other sums. -/
theorem crc4_inj {r : BitVec 32} {a b : List Int} (ha : a.length = 4) (hb : b.length = 4) (fa : ∀ z ∈ a, Fits .u8 z) (fb : ∀ z ∈ b, Fits .u8 z) (h : crc r a = crc r b) : a = b := by
  have ba := valLE_bound fa
  have bb := valLE_bound fb
  rw [ha] at ba
  rw [hb] at bb
  have e4 : (256 : Int) ^ 4 = 4294967296 := rfl
  obtain ⟨N, hN⟩ := Int.eq_ofNat_of_zero_le ba.1
  obtain ⟨M, hM⟩ := Int.eq_ofNat_of_zero_le bb.1
  have hN' : N < 4294967296 := by omega
  have hM' : M < 4294967296 := by omega
  have ea := (les4_eq hN' ha fa).2 hN
  have eb := (les4_eq hM' hb fb).2 hM
  rw [← ea, ← eb, crc_le4 _ _ hN', crc_le4 _ _ hM'] at h
  have h2 := itb_inj h
  rw [BitVec.xor_comm r, BitVec.xor_comm r] at h2
  have h3 := congrArg BitVec.toNat (xor_left_inj h2)
  rw [BitVec.toNat_ofNat, BitVec.toNat_ofNat] at h3
  rw [← ea, ← eb]
  congr 1
  omega
/-- What was turned within four bytes one behind the other shows. -/
theorem turned {pre a b post : List Int} (ha : a.length = 4) (hb : b.length = 4) (fa : ∀ z ∈ a, Fits .u8 z) (fb : ∀ z ∈ b, Fits .u8 z) (hne : a ≠ b) {ys : List Int} (hq : closeB ys = pre ++ (a ++ post)) (xs : List Int) : closeB xs ≠ pre ++ (b ++ post) := by
  intro h
  have h1 := crc_closed ys
  have h2 := crc_closed xs
  rw [hq, crc_app, crc_app] at h1
  rw [h, crc_app, crc_app] at h2
  exact hne (crc4_inj ha hb fa fb (crc_inj (h1.trans h2.symm)))
/-- One byte turned: another sum. -/
theorem sum_one {pre post : List Int} {a b : Int} (fa : Fits .u8 a) (fb : Fits .u8 b) (hne : a ≠ b) : sumB (pre ++ (a :: post)) ≠ sumB (pre ++ (b :: post)) := by
  intro h
  unfold sumB more at h
  have h1 := not_inj h
  rw [crc_app, crc_app] at h1
  have h2 : crc (cb (crc (~~~ 0#32) pre) a) post = crc (cb (crc (~~~ 0#32) pre) b) post := h1
  have h3 := crc_inj h2
  unfold cb at h3
  have h4 := itb_inj h3
  rw [BitVec.xor_comm _ (BitVec.ofInt 32 a), BitVec.xor_comm _ (BitVec.ofInt 32 b)] at h4
  have h5 := congrArg (fun v => (v.toNat : Int)) (xor_left_inj h4)
  have f1 := fits_u8 fa
  have f2 := fits_u8 fb
  rw [ofInt32_toNat (by omega), ofInt32_toNat (by omega)] at h5
  exact hne h5

end Go.Proofs.Ytnefhhoijonnaaa
