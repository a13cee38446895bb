/-
  What the sum of package mark shows: plain mathematics. Conditions: each theorem's own.
-/
import Derived.Test.YtdoclecibanaoaaMkE
namespace Go.Proofs.Ytdoclecibanaoaa
open Go Go.RowKit
set_option linter.unusedVariables false

theorem and_mod (x : BitVec 32) (m k : Nat) (h : m = 2 ^ k - 1) (hk : k ≤ 32) : (x &&& BitVec.ofNat 32 m).toNat = x.toNat % 2 ^ k := by
  subst h
  rw [BitVec.toNat_and, BitVec.toNat_ofNat]
  have : 2 ^ k ≤ 2 ^ 32 := Nat.pow_le_pow_right (by decide) hk
  have hp : 0 < 2 ^ k := Nat.pow_pos (by decide)
  rw [Nat.mod_eq_of_lt (by omega), Nat.and_two_pow_sub_one_eq_mod]
theorem itb8_eq (x : BitVec 32) : itb 8 x = (x >>> 8) ^^^ itb 8 (x &&& 255#32) := by
  have key : ∀ y : BitVec 32, itb 8 y = (y >>> 8) ^^^ (itb 4 ((y >>> 4) &&& 15#32) ^^^ itb 8 (y &&& 15#32)) := by
    intro y
    rw [show itb 8 y = itb 4 (itb 4 y) from itb_add 4 4 y, nib_eq y, itb_xor, nib_eq (y >>> 4), ← BitVec.shiftRight_add, ← itb_add 4 4, BitVec.xor_assoc]
  have e1 : (x &&& 255#32) >>> 8 = 0#32 := by
    apply BitVec.eq_of_toNat_eq
    rw [BitVec.toNat_ushiftRight, Nat.shiftRight_eq_div_pow, and_mod x 255 8 rfl (by decide)]
    exact Nat.div_eq_of_lt (Nat.mod_lt _ (by decide))
  have e2 : ((x &&& 255#32) >>> 4) &&& 15#32 = (x >>> 4) &&& 15#32 := by
    apply BitVec.eq_of_toNat_eq
    rw [and_mod _ 15 4 rfl (by decide), and_mod _ 15 4 rfl (by decide), BitVec.toNat_ushiftRight, BitVec.toNat_ushiftRight, Nat.shiftRight_eq_div_pow, Nat.shiftRight_eq_div_pow, and_mod x 255 8 rfl (by decide)]
    omega
  have e3 : (x &&& 255#32) &&& 15#32 = x &&& 15#32 := by
    apply BitVec.eq_of_toNat_eq
    rw [and_mod _ 15 4 rfl (by decide), and_mod _ 15 4 rfl (by decide), and_mod x 255 8 rfl (by decide)]
    omega
  rw [key x, key (x &&& 255#32), e1, e2, e3, BitVec.zero_xor]
theorem ofInt_leN (N i : Nat) : BitVec.ofInt 32 (leN N i) = BitVec.ofNat 32 (N / 256 ^ i) &&& 255#32 := by
  apply BitVec.eq_of_toNat_eq
  rw [and_mod _ 255 8 rfl (by decide), BitVec.toNat_ofNat]
  unfold leN
  rw [BitVec.ofInt_natCast, BitVec.toNat_ofNat]
  omega
/-- one byte of a number -/
theorem cb_le (r : BitVec 32) (N i : Nat) (hN : N < 4294967296) : itb 8 (r ^^^ BitVec.ofNat 32 (N / 256 ^ i)) = cb r (leN N i) ^^^ BitVec.ofNat 32 (N / 256 ^ (i + 1)) := by
  have hlt : N / 256 ^ i < 4294967296 := Nat.lt_of_le_of_lt (Nat.div_le_self _ _) hN
  have e : BitVec.ofNat 32 (N / 256 ^ i) >>> 8 = BitVec.ofNat 32 (N / 256 ^ (i + 1)) := by
    apply BitVec.eq_of_toNat_eq
    have e5 : N / 256 ^ (i + 1) = N / 256 ^ i / 256 := by rw [Nat.pow_succ, Nat.div_div_eq_div_mul]
    rw [BitVec.toNat_ushiftRight, Nat.shiftRight_eq_div_pow, BitVec.toNat_ofNat, BitVec.toNat_ofNat, Nat.mod_eq_of_lt hlt, e5, Nat.mod_eq_of_lt (Nat.lt_of_le_of_lt (Nat.div_le_self _ _) hlt)]
  unfold cb
  rw [itb_xor, itb_xor, ofInt_leN, itb8_eq (BitVec.ofNat 32 (N / 256 ^ i)), e]
  ac_rfl
/-- four bytes of a number -/
theorem crc_le4 (r : BitVec 32) (N : Nat) (hN : N < 4294967296) : crc r (lesN N 4) = itb 32 (r ^^^ BitVec.ofNat 32 N) := by
  have h0 := cb_le r N 0 hN
  have h1 := cb_le (cb r (leN N 0)) N 1 hN
  have h2 := cb_le (cb (cb r (leN N 0)) (leN N 1)) N 2 hN
  have h3 := cb_le (cb (cb (cb r (leN N 0)) (leN N 1)) (leN N 2)) N 3 hN
  rw [Nat.pow_zero, Nat.div_one] at h0
  have hz : N / 256 ^ (3 + 1) = 0 := Nat.div_eq_of_lt hN
  rw [hz] at h3
  have hx : ∀ a : BitVec 32, a ^^^ BitVec.ofNat 32 0 = a := fun a => BitVec.xor_zero
  rw [hx] at h3
  have e : crc r (lesN N 4) = cb (cb (cb (cb r (leN N 0)) (leN N 1)) (leN N 2)) (leN N 3) := rfl
  rw [e, ← h3, ← h2, ← h1, ← h0, ← itb_add, ← itb_add, ← itb_add]
theorem crc_app (r : BitVec 32) (a b : List Int) : crc r (a ++ b) = crc (crc r a) b := by unfold crc; rw [List.foldl_append]
theorem ofNat_toNat32 (a : BitVec 32) : BitVec.ofNat 32 a.toNat = a := by rw [BitVec.ofNat_toNat, BitVec.setWidth_eq]
def residue : BitVec 32 := itb 32 (BitVec.allOnes 32)
theorem crc_closed (zs : List Int) : crc (BitVec.allOnes 32) (closeB zs) = residue := by
  unfold closeB
  rw [crc_app, crc_le4 _ _ (sumB zs).isLt, ofNat_toNat32]
  unfold residue sumB more
  rw [show ~~~ 0#32 = BitVec.allOnes 32 from rfl]
  congr 1
  generalize crc (BitVec.allOnes 32) zs = x
  rw [← BitVec.allOnes_xor, BitVec.xor_comm, BitVec.xor_assoc, BitVec.xor_self, BitVec.xor_zero]
/-- Four bytes that differ lead to other sums. -/
theorem crc4_inj {r : BitVec 32} {a b : List Int} (ha : a.length = 4) (hb : b.length = 4) (fa : ∀ z ∈ a, Fits .u8 z) (fb : ∀ z ∈ b, Fits .u8 z) (h : crc r a = crc r b) : a = b := by
  have ba := valLE_bound fa
  have bb := valLE_bound fb
  rw [ha] at ba
  rw [hb] at bb
  have e4 : (256 : Int) ^ 4 = 4294967296 := rfl
  obtain ⟨N, hN⟩ := Int.eq_ofNat_of_zero_le ba.1
  obtain ⟨M, hM⟩ := Int.eq_ofNat_of_zero_le bb.1
  have hN' : N < 4294967296 := by omega
  have hM' : M < 4294967296 := by omega
  have ea := (les4_eq hN' ha fa).2 hN
  have eb := (les4_eq hM' hb fb).2 hM
  rw [← ea, ← eb, crc_le4 _ _ hN', crc_le4 _ _ hM'] at h
  have h2 := itb_inj h
  rw [BitVec.xor_comm r, BitVec.xor_comm r] at h2
  have h3 := congrArg BitVec.toNat (xor_left_inj h2)
  rw [BitVec.toNat_ofNat, BitVec.toNat_ofNat] at h3
  rw [← ea, ← eb]
  congr 1
  omega
/-- What was turned within four bytes one behind the other shows. -/
theorem turned {pre a b post : List Int} (ha : a.length = 4) (hb : b.length = 4) (fa : ∀ z ∈ a, Fits .u8 z) (fb : ∀ z ∈ b, Fits .u8 z) (hne : a ≠ b) {ys : List Int} (hq : closeB ys = pre ++ (a ++ post)) (xs : List Int) : closeB xs ≠ pre ++ (b ++ post) := by
  intro h
  have h1 := crc_closed ys
  have h2 := crc_closed xs
  rw [hq, crc_app, crc_app] at h1
  rw [h, crc_app, crc_app] at h2
  exact hne (crc4_inj ha hb fa fb (crc_inj (h1.trans h2.symm)))
/-- One byte turned: another sum. -/
theorem sum_one {pre post : List Int} {a b : Int} (fa : Fits .u8 a) (fb : Fits .u8 b) (hne : a ≠ b) : sumB (pre ++ (a :: post)) ≠ sumB (pre ++ (b :: post)) := by
  intro h
  unfold sumB more at h
  have h1 := not_inj h
  rw [crc_app, crc_app] at h1
  have h2 : crc (cb (crc (~~~ 0#32) pre) a) post = crc (cb (crc (~~~ 0#32) pre) b) post := h1
  have h3 := crc_inj h2
  unfold cb at h3
  have h4 := itb_inj h3
  rw [BitVec.xor_comm _ (BitVec.ofInt 32 a), BitVec.xor_comm _ (BitVec.ofInt 32 b)] at h4
  have h5 := congrArg (fun v => (v.toNat : Int)) (xor_left_inj h4)
  have f1 := fits_u8 fa
  have f2 := fits_u8 fb
  rw [ofInt32_toNat (by omega), ofInt32_toNat (by omega)] at h5
  exact hne h5
end Go.Proofs.Ytdoclecibanaoaa
