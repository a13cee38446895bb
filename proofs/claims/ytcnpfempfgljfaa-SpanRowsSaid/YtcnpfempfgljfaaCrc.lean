/-
  The sum of package mark in bits, as plain mathematics: bit by bit, half a byte at a time. No program's text; conditions: each theorem's own.
-/
import Derived.Test.YtcnpfempfgljfaaEngG
namespace Go.Proofs.Ytcnpfempfgljfaa
open Go Go.RowKit
set_option linter.unusedVariables false

def poly : BitVec 32 := 0xedb88320#32
def lay (b : Bool) : BitVec 32 := bif b then poly else 0#32
theorem lay_xor (a b : Bool) : lay (a ^^ b) = lay a ^^^ lay b := by cases a <;> cases b <;> decide
/-- one bit -/
def bit1 (r : BitVec 32) : BitVec 32 := (r >>> 1) ^^^ lay (r.getLsbD 0)
theorem bit1_xor (a b : BitVec 32) : bit1 (a ^^^ b) = bit1 a ^^^ bit1 b := by
  unfold bit1
  rw [BitVec.ushiftRight_xor_distrib, BitVec.getLsbD_xor, lay_xor]
  ac_rfl
def itb : Nat → BitVec 32 → BitVec 32
  | 0, r => r
  | k + 1, r => bit1 (itb k r)
theorem itb_xor (k : Nat) (a b : BitVec 32) : itb k (a ^^^ b) = itb k a ^^^ itb k b := by
  induction k with
  | zero => rfl
  | succ k ih => rw [itb, ih, bit1_xor]; rfl
theorem itb_add (j k : Nat) (a : BitVec 32) : itb (j + k) a = itb j (itb k a) := by
  induction j with
  | zero => rw [Nat.zero_add]; rfl
  | succ j ih => rw [Nat.succ_add, itb, ih]; rfl
theorem bit1_even {r : BitVec 32} (h : r.getLsbD 0 = false) : bit1 r = r >>> 1 := by
  unfold bit1
  rw [h]
  exact BitVec.xor_zero
theorem itb4_even {r : BitVec 32} (h0 : r.getLsbD 0 = false) (h1 : r.getLsbD 1 = false) (h2 : r.getLsbD 2 = false) (h3 : r.getLsbD 3 = false) : itb 4 r = r >>> 4 := by
  have e1 : bit1 r = r >>> 1 := bit1_even h0
  have e2 : bit1 (r >>> 1) = r >>> 2 := by rw [bit1_even (by rw [BitVec.getLsbD_ushiftRight]; exact h1), ← BitVec.shiftRight_add]
  have e3 : bit1 (r >>> 2) = r >>> 3 := by rw [bit1_even (by rw [BitVec.getLsbD_ushiftRight]; exact h2), ← BitVec.shiftRight_add]
  have e4 : bit1 (r >>> 3) = r >>> 4 := by rw [bit1_even (by rw [BitVec.getLsbD_ushiftRight]; exact h3), ← BitVec.shiftRight_add]
  simp only [itb, e1, e2, e3, e4]
theorem nib_eq (r : BitVec 32) : itb 4 r = (r >>> 4) ^^^ itb 4 (r &&& 15#32) := by
  have hr : r = (r &&& ~~~ 15#32) ^^^ (r &&& 15#32) := by
    apply BitVec.eq_of_getLsbD_eq
    intro i hi
    simp only [BitVec.getLsbD_xor, BitVec.getLsbD_and, BitVec.getLsbD_not, hi, decide_true, Bool.true_and]
    cases r.getLsbD i <;> cases (15#32).getLsbD i <;> rfl
  have hz : ∀ i, i < 4 → (r &&& ~~~ 15#32).getLsbD i = false := by
    intro i hi
    have : (15#32).getLsbD i = true := by
      have : i = 0 ∨ i = 1 ∨ i = 2 ∨ i = 3 := by omega
      rcases this with rfl | rfl | rfl | rfl <;> decide
    simp only [BitVec.getLsbD_and, BitVec.getLsbD_not, this]
    simp
  have hs : (r &&& ~~~ 15#32) >>> 4 = r >>> 4 := by
    apply BitVec.eq_of_getLsbD_eq
    intro i hi
    simp only [BitVec.getLsbD_ushiftRight, BitVec.getLsbD_and, BitVec.getLsbD_not]
    by_cases h : 4 + i < 32
    · have : (15#32).getLsbD (4 + i) = false := by
        rw [BitVec.getLsbD_ofNat]
        have : (15 : Nat).testBit (4 + i) = false := Nat.testBit_lt_two_pow (Nat.lt_of_lt_of_le (by decide : 15 < 2 ^ 4) (Nat.pow_le_pow_right (by decide) (by omega)))
        rw [this]; simp
      rw [this]
      simp [h]
    · rw [BitVec.getLsbD_of_ge r _ (by omega)]; simp
  have e := itb4_even (hz 0 (by decide)) (hz 1 (by decide)) (hz 2 (by decide)) (hz 3 (by decide))
  calc itb 4 r = itb 4 ((r &&& ~~~ 15#32) ^^^ (r &&& 15#32)) := by rw [← hr]
    _ = _ := by rw [itb_xor, e, hs]

/-- one byte -/
def cb (r : BitVec 32) (z : Int) : BitVec 32 := itb 8 (r ^^^ BitVec.ofInt 32 z)
def crc (r : BitVec 32) (zs : List Int) : BitVec 32 := zs.foldl cb r
def more (s : BitVec 32) (zs : List Int) : BitVec 32 := ~~~ crc (~~~ s) zs
def sumB (zs : List Int) : BitVec 32 := more 0#32 zs
theorem more_app (s : BitVec 32) (a b : List Int) : more (more s a) b = more s (a ++ b) := by
  unfold more crc
  rw [BitVec.not_not, List.foldl_append]
theorem cb_nib (r : BitVec 32) (z : Int) : cb r z = itb 4 (itb 4 (r ^^^ BitVec.ofInt 32 z)) := itb_add 4 4 _
theorem crc_snoc (r : BitVec 32) (zs : List Int) (z : Int) : crc r (zs ++ [z]) = cb (crc r zs) z := by unfold crc; rw [List.foldl_append]; rfl
/-- the document's way: the state after k bits of a byte -/
def refS (r : BitVec 32) (z : Int) (k : Nat) : BitVec 32 := itb k (r ^^^ BitVec.ofInt 32 z) ^^^ (BitVec.ofInt 32 z >>> k)
theorem refS_zero (r : BitVec 32) (z : Int) : refS r z 0 = r := by
  unfold refS itb
  rw [BitVec.ushiftRight_zero, BitVec.xor_assoc, BitVec.xor_self, BitVec.xor_zero]
theorem refS_succ (r : BitVec 32) (z : Int) (k : Nat) : refS r z (k + 1) = (refS r z k >>> 1) ^^^ lay ((refS r z k).getLsbD 0 ^^ (BitVec.ofInt 32 z >>> k).getLsbD 0) := by
  have e : itb k (r ^^^ BitVec.ofInt 32 z) = refS r z k ^^^ (BitVec.ofInt 32 z >>> k) := by
    unfold refS
    rw [BitVec.xor_assoc, BitVec.xor_self, BitVec.xor_zero]
  have e2 : BitVec.ofInt 32 z >>> (k + 1) = (BitVec.ofInt 32 z >>> k) >>> 1 := by rw [← BitVec.shiftRight_add]
  show bit1 (itb k (r ^^^ BitVec.ofInt 32 z)) ^^^ (BitVec.ofInt 32 z >>> (k + 1)) = _
  rw [e, bit1, e2, BitVec.ushiftRight_xor_distrib, BitVec.getLsbD_xor]
  generalize refS r z k = x
  generalize BitVec.ofInt 32 z >>> k = y
  generalize lay (x.getLsbD 0 ^^ y.getLsbD 0) = u
  calc x >>> 1 ^^^ y >>> 1 ^^^ u ^^^ y >>> 1 = x >>> 1 ^^^ u ^^^ (y >>> 1 ^^^ y >>> 1) := by ac_rfl
    _ = _ := by rw [BitVec.xor_self, BitVec.xor_zero]
theorem refS_eight (r : BitVec 32) (z : Int) (h : 0 ≤ z ∧ z ≤ 255) : refS r z 8 = cb r z := by
  have : BitVec.ofInt 32 z >>> 8 = 0#32 := by
    apply BitVec.eq_of_toNat_eq
    rw [BitVec.toNat_ushiftRight, Nat.shiftRight_eq_div_pow]
    have e : (BitVec.ofInt 32 z).toNat = z.toNat := by rw [BitVec.toNat_ofInt]; omega
    rw [e]
    show z.toNat / 256 = 0
    omega
  unfold refS cb
  rw [this, BitVec.xor_zero]

/-! in integers -/
theorem ofInt32_toNat {z : Int} (h : 0 ≤ z ∧ z ≤ 4294967295) : ((BitVec.ofInt 32 z).toNat : Int) = z := by rw [BitVec.toNat_ofInt]; omega
theorem wrap32 (a : BitVec 32) : IntKind.u32.wrap (a.toNat : Int) = a.toNat := IntWalk.u32_in _ (by have := a.isLt; omega)
theorem ofInt32_nat (a : BitVec 32) : BitVec.ofInt 32 (a.toNat : Int) = a := by rw [BitVec.ofInt_natCast, BitVec.ofNat_toNat, BitVec.setWidth_eq]
theorem xor32 (a b : BitVec 32) : bits .xor .u32 (a.toNat : Int) (b.toNat : Int) = ((a ^^^ b).toNat : Int) := by
  have e : bits .xor .u32 (a.toNat : Int) (b.toNat : Int) = IntKind.u32.wrap ((BitVec.ofInt 32 (a.toNat : Int) ^^^ BitVec.ofInt 32 (b.toNat : Int)).toNat : Int) := rfl
  rw [e, ofInt32_nat, ofInt32_nat, wrap32]
theorem and32 (a b : BitVec 32) : bits .and .u32 (a.toNat : Int) (b.toNat : Int) = ((a &&& b).toNat : Int) := by
  have e : bits .and .u32 (a.toNat : Int) (b.toNat : Int) = IntKind.u32.wrap ((BitVec.ofInt 32 (a.toNat : Int) &&& BitVec.ofInt 32 (b.toNat : Int)).toNat : Int) := rfl
  rw [e, ofInt32_nat, ofInt32_nat, wrap32]
theorem not32 (a : BitVec 32) : bits .xor .u32 4294967295 (a.toNat : Int) = ((~~~ a).toNat : Int) := by
  have e := xor32 (BitVec.allOnes 32) a
  rw [BitVec.allOnes_xor] at e
  exact e
theorem shr32 (a : BitVec 32) (k : Nat) : (a.toNat : Int) / 2 ^ k = ((a >>> k).toNat : Int) := by
  rw [BitVec.toNat_ushiftRight, Nat.shiftRight_eq_div_pow, Int.natCast_ediv]
  norm_cast
theorem mod32 (a : BitVec 32) : (a.toNat : Int) % 2 = ((a.getLsbD 0).toNat : Int) := by
  have : a.getLsbD 0 = a.toNat.testBit 0 := rfl
  rw [this, Nat.testBit_zero]
  by_cases h : a.toNat % 2 = 1
  · simp [h]; omega
  · simp [h]; omega

theorem xor_lay (a : BitVec 32) : bits .xor .u32 (a.toNat : Int) 3988292384 = ((a ^^^ lay true).toNat : Int) := xor32 a poly
theorem sub32 (a : BitVec 32) : (4294967295 : Int) - a.toNat = ((~~~ a).toNat : Int) := by
  rw [BitVec.toNat_not]
  have := a.isLt
  omega

/-- the table -/
def halfB (j : Nat) : BitVec 32 := itb 4 (BitVec.ofNat 32 j)
theorem halfB_and (r : BitVec 32) : halfB (r &&& 15#32).toNat = itb 4 (r &&& 15#32) := by unfold halfB; rw [BitVec.ofNat_toNat, BitVec.setWidth_eq]
theorem and15 (r : BitVec 32) : (r &&& 15#32).toNat < 16 := by
  rw [BitVec.toNat_and]
  have : r.toNat &&& (15#32).toNat ≤ 15 := Nat.and_le_right
  omega

/-- Another state, another sum. -/
theorem lay_top (b : Bool) : (lay b).getLsbD 31 = b := by cases b <;> decide
theorem bit1_zero {r : BitVec 32} (h : bit1 r = 0#32) : r = 0#32 := by
  have h31 : r.getLsbD 0 = false := by
    have := congrArg (BitVec.getLsbD · 31) h
    simp only [bit1, BitVec.getLsbD_xor, lay_top, BitVec.getLsbD_ushiftRight] at this
    rw [BitVec.getLsbD_of_ge r (1 + 31) (by decide)] at this
    simpa using this
  rw [bit1_even h31] at h
  apply BitVec.eq_of_getLsbD_eq
  intro i hi
  rcases Nat.eq_zero_or_pos i with h0 | h0
  · subst h0; rw [h31]; simp
  · have := congrArg (BitVec.getLsbD · (i - 1)) h
    simp only [BitVec.getLsbD_ushiftRight] at this
    rw [show 1 + (i - 1) = i from by omega] at this
    rw [this]; simp
theorem itb_zero {k : Nat} {r : BitVec 32} (h : itb k r = 0#32) : r = 0#32 := by
  induction k with
  | zero => exact h
  | succ k ih => exact ih (bit1_zero h)
theorem itb_inj {k : Nat} {a b : BitVec 32} (h : itb k a = itb k b) : a = b := by
  have : itb k (a ^^^ b) = 0#32 := by rw [itb_xor, h, BitVec.xor_self]
  have := itb_zero this
  have h2 := congrArg (· ^^^ b) this
  simp only [BitVec.xor_assoc, BitVec.xor_self, BitVec.xor_zero, BitVec.zero_xor] at h2
  exact h2
theorem xor_left_inj {a b c : BitVec 32} (h : a ^^^ c = b ^^^ c) : a = b := by
  have h2 := congrArg (· ^^^ c) h
  simp only [BitVec.xor_assoc, BitVec.xor_self, BitVec.xor_zero] at h2
  exact h2
theorem cb_inj {a b : BitVec 32} {z : Int} (h : cb a z = cb b z) : a = b := xor_left_inj (itb_inj h)
theorem crc_inj {zs : List Int} : ∀ {a b : BitVec 32}, crc a zs = crc b zs → a = b := by
  induction zs with
  | nil => intro a b h; exact h
  | cons z zs ih => intro a b h; exact cb_inj (ih h)
theorem not_inj {a b : BitVec 32} (h : ~~~ a = ~~~ b) : a = b := by rw [← BitVec.not_not (b := a), h, BitVec.not_not]
end Go.Proofs.Ytcnpfempfgljfaa
