/-
  slices.Sort at uint64: the pivot, the patterns; the length of a number. Conditions: each theorem's own. (Made by genSr.py.)
-/
import Derived.Laws.Bits64b
import Derived.Test.YteogkadjambmkaaSrD
namespace Go.Proofs.Yteogkadjambmkaa
open Go Go.RowKit Go.Sort
set_option linter.unusedVariables false

theorem S_stri {P : Program} {tb : Tab} {n : Nat} {w0 : World} {all : Array Oper} {os : List Oper} {o : Oper} {l : FL} {ol : OL} {K : FL → OL → Prop} {Q : Post} {d : Nat} (ht : TabOk P tb) {t : TypeId} {x y : Operand} {k : IntKind} {i : Int} {ti : TI} {s : ByteArray} (Pb : Nat → Nat → Bool) (hs : opAt? n all (look l) o = some (d, .index t x y)) (hx : ev (look l) x = some (.string s)) (hy : ev (look l) y = some (.int k i)) (hti : tl tb t = some ti) (hd : ti.desc = .string) (h0 : 0 ≤ i) (hi : i < 256)
    (hP : (List.range 256).all (fun j => match s[j]? with | some b => Pb j b.toNat | none => false) = true) (kk : ∀ b : Nat, b < 256 → Pb i.toNat b = true → S P n w0 all os ((d, .int .u8 (b : Int)) :: l) ol K Q) : S P n w0 all (o :: os) l ol K Q := by
  have h1 := List.all_eq_true.1 hP i.toNat (List.mem_range.2 (by omega))
  cases hb : s[i.toNat]? with
  | none => rw [hb] at h1; cases h1
  | some b =>
    rw [hb] at h1
    refine S_q (v := .int .u8 (b.toNat : Int)) (Q_of hs fun ac w hrd hh hop => ?_) (kk b.toNat b.toNat_lt h1)
    have h2 := ht.under hti w
    rw [hd] at h2
    unfold execOp
    simp [hop, hrd.ev hx, hrd.ev hy, Instr.index, asIntOf, h2, h0, hb]
theorem len64_ok {x : Int} (hx : 0 ≤ x ∧ x < 65536) (w : World) : Calls Try.prog 88 #[.int .u64 x] w fun e w' => ∃ L : Nat, e = .returned (.int .i64 (L : Int)) ∧ L ≤ 16 ∧ (0 < x → (2 : Int) ^ L ≤ 2 * x) ∧ Below w.heap.size w w' := by
  refine enter1 Try.func88 rfl rfl (Hp.refl w) ?_
  repeat (first | refine T_seq ?_ | refine T_region ?_ | refine S_nil ?_ | refine S_pure tabOk rfl ?_)
  refine T_cond_dec rfl (fun h => absurd h (by omega)) (fun _ => ?_)
  repeat (first | refine T_seq ?_ | refine T_region ?_ | refine S_nil ?_ | refine pthen_normal ?_ | refine T_skip ?_ | refine S_pure tabOk rfl ?_)
  refine T_cond_dec rfl (fun h => absurd h (by omega)) (fun _ => ?_)
  repeat (first | refine T_seq ?_ | refine T_region ?_ | refine S_nil ?_ | refine pthen_normal ?_ | refine T_skip ?_ | refine S_pure tabOk rfl ?_)
  refine T_cut (ι := Int × Nat) (fun j => 0 ≤ j.1 ∧ j.1 < 256 ∧ j.2 ≤ 8 ∧ (0 < x → 0 < j.1 ∧ (2 : Int) ^ j.2 * j.1 ≤ x)) (fun j => [(0, .int .u64 j.1), (2, .int .i64 (j.2 : Int))]) (fun _ => []) ?_ ?_
  · refine T_cond_dec rfl (fun h => ?_) (fun h => ?_)
    · repeat (first | refine T_seq ?_ | refine T_region ?_ | refine S_pure tabOk rfl ?_)
      refine S_q ((Q_shr rfl rfl rfl (by decide)).eq (congrArg (Value.int .u64) (show x / 2 ^ ((8 : Int).toNat) = x / 256 from rfl))) ?_
      repeat (first | refine T_region ?_ | refine S_nil ?_ | refine S_i64 tabOk rfl (by omega) ?_ | refine S_pure tabOk rfl ?_)
      exact ⟨(x / 256, 8), ⟨by dsimp only; omega, by dsimp only; omega, Nat.le_refl _, fun _ => ⟨by dsimp only; omega, by show (256 : Int) * (x / 256) ≤ x; omega⟩⟩, by repeat (first | exact Sub.nil | refine Sub.cons rfl ?_), fun w' hw => hw⟩
    · repeat (first | refine pthen_normal ?_ | refine T_skip ?_)
      exact ⟨(x, 0), ⟨hx.1, by dsimp only; omega, Nat.zero_le _, fun h0 => ⟨h0, by show (1 : Int) * x ≤ x; omega⟩⟩, by repeat (first | exact Sub.nil | refine Sub.cons rfl ?_), fun w' hw => hw⟩
  rintro ⟨y, m⟩ ⟨hy0, hy1, hm, hym⟩
  dsimp only at hy0 hy1 hm hym ⊢
  repeat (first | refine T_seq ?_ | refine T_region ?_ | refine S_pure tabOk rfl ?_)
  refine S_re 21 (v' := .int .u8 y) rfl (congrArg (Value.int .u8) (by rw [IntKind.wrap_u8]; omega)) ?_
  refine S_stri tabOk (fun i b => decide (b ≤ 8) && (decide (i = 0) || decide (2 ^ b ≤ 2 * i))) rfl rfl rfl rfl rfl hy0 hy1 (by kernel_rfl) (fun b hb1 hb2 => ?_)
  rw [Bool.and_eq_true, decide_eq_true_eq, Bool.or_eq_true, decide_eq_true_eq, decide_eq_true_eq] at hb2
  repeat (first | refine S_nil ?_ | refine T_ret ?_ | refine S_i64 tabOk rfl (by omega) ?_ | refine S_pure tabOk rfl ?_)
  refine ret1 rfl rfl (fun w' hw => ⟨m + b, rfl, by omega, fun h0 => ?_, hw.below (by repeat (first | exact new_nil))⟩)
  obtain ⟨h1, h2⟩ := hym h0
  have h3 : 2 ^ b ≤ 2 * y.toNat := hb2.2.resolve_left (by omega)
  have h4 : (2 : Int) ^ b ≤ 2 * y := by
    have := Int.ofNat_le.2 h3
    rw [Int.natCast_pow] at this
    have h5 : ((2 * y.toNat : Nat) : Int) = 2 * y := by omega
    rw [h5] at this
    exact this
  rw [Int.pow_add]
  refine Int.le_trans (Int.mul_le_mul_of_nonneg_left h4 (Int.le_of_lt (Int.pow_pos (by decide)))) ?_
  rw [show (2 : Int) ^ m * (2 * y) = 2 * (2 ^ m * y) by rw [← Int.mul_assoc, Int.mul_comm (2 ^ m) 2, Int.mul_assoc]]
  omega
theorem len_ok {x : Int} (hx : 0 ≤ x ∧ x < 65536) (w : World) : Calls Try.prog 77 #[.int .u64 x] w fun e w' => ∃ L : Nat, e = .returned (.int .i64 (L : Int)) ∧ L ≤ 16 ∧ (0 < x → (2 : Int) ^ L ≤ 2 * x) ∧ Below w.heap.size w w' := by
  refine enter1 Try.func77 rfl rfl (Hp.refl w) ?_
  repeat (first | refine T_seq ?_ | refine T_region ?_ | refine S_nil ?_ | refine pthen_normal ?_ | refine T_skip ?_ | refine T_cond_f rfl ?_ | refine S_pure tabOk rfl ?_)
  refine S_callE (fun v => ∃ L : Nat, v = .int .i64 (L : Int) ∧ L ≤ 16 ∧ (0 < x → (2 : Int) ^ L ≤ 2 * x)) rfl Try.call88 (fun w1 h1 => (len64_ok hx w1).mono fun e w' ⟨L, e1, e2, e3, e4⟩ => ⟨_, e1, e4, L, rfl, e2, e3⟩) (fun v hv => ?_)
  obtain ⟨L, rfl, h1, h2⟩ := hv
  repeat (first | refine S_nil ?_ | refine T_ret ?_ | refine S_pure tabOk rfl ?_)
  exact ret1 rfl rfl (fun w' hw => ⟨L, rfl, h1, h2, hw.below (by repeat (first | exact new_nil))⟩)
theorem npow_ok {x : Int} (hx : 0 < x ∧ x < 65536) (w : World) : Calls Try.prog 90 #[.int .i64 x] w fun e w' => ∃ m : Nat, e = .returned (.int .u64 (m : Int)) ∧ 1 ≤ m ∧ (m : Int) ≤ 2 * x ∧ Below w.heap.size w w' := by
  refine enter1 Try.func90 rfl rfl (Hp.refl w) ?_
  repeat (first | refine T_seq ?_ | refine T_region ?_ | refine S_nil ?_ | refine S_u64 tabOk rfl (by omega) ?_ | refine S_pure tabOk rfl ?_)
  refine S_callE (fun v => ∃ L : Nat, v = .int .i64 (L : Int) ∧ L ≤ 16 ∧ (0 < x → (2 : Int) ^ L ≤ 2 * x)) rfl Try.call77 (fun w1 h1 => (len_ok ⟨by omega, hx.2⟩ w1).mono fun e w' ⟨L, e1, e2, e3, e4⟩ => ⟨_, e1, e4, L, rfl, e2, e3⟩) (fun v hv => ?_)
  obtain ⟨L, rfl, h1, h2⟩ := hv
  have h3 := h2 hx.1
  have h4 : (2 : Int) ^ L = ((2 ^ L : Nat) : Int) := (Int.natCast_pow 2 L).symm
  have h5 : 1 ≤ 2 ^ L := Nat.one_le_two_pow
  refine S_q ((Q_shl rfl rfl rfl (by refine ⟨by omega, ?_⟩; show (L : Int) ≤ 64; omega)).eq (congrArg (Value.int .u64) (show IntKind.u64.wrap (1 * 2 ^ ((L : Int).toNat)) = ((2 ^ L : Nat) : Int) by rw [Int.toNat_natCast, Int.one_mul, IntKind.wrap_u64, h4]; omega))) ?_
  repeat (first | refine S_nil ?_ | refine T_ret ?_ | refine S_pure tabOk rfl ?_)
  exact ret1 rfl rfl (fun w' hw => ⟨2 ^ L, rfl, h5, by omega, hw.below (by repeat (first | exact new_nil))⟩)
abbrev xsE (b : Nat) (r : Int) : HE := .blk b (.cells ⟨[.int .u64 r]⟩ 156 (0, 0)) true
theorem xor_nat {a b : Nat} (ha : a < 18446744073709551616) (hb : b < 18446744073709551616) : ∃ c : Nat, c < 18446744073709551616 ∧ bits .xor .u64 (a : Int) (b : Int) = (c : Int) := ⟨_, Nat.xor_lt_two_pow (n := 64) ha hb, bits_xor_u64_nat a b ha hb⟩
theorem wrap_nat (e : Int) : ∃ c : Nat, c < 18446744073709551616 ∧ IntKind.u64.wrap e = (c : Int) := ⟨(e % 18446744073709551616).toNat, by omega, by rw [IntKind.wrap_u64]; omega⟩
set_option maxHeartbeats 1000000 in
theorem next_ok {w0 w : World} {b : Nat} {rest : OL} (r : Nat) (hr : r < 18446744073709551616) (h : Hp w0 w (xsE b r :: rest)) : Calls Try.prog 91 #[.pointer (some ⟨b, 0, none⟩)] w fun e w' => ∃ r' : Nat, e = .returned (.int .u64 (r' : Int)) ∧ r' < 18446744073709551616 ∧ Hp w0 w' (xsE b r' :: rest) := by
  refine enterW1 Try.func91 rfl rfl h ?_
  repeat (first | refine T_seq ?_ | refine T_region ?_ | refine S_nil ?_ | refine S_pure tabOk rfl ?_)
  refine T_drawT (by kernel_rfl) 9 (by kernel_rfl) (by kernel_rfl) ?_
  repeat (first | refine D_pure tabOk rfl ?_ | refine D_load tabOk 0 rfl rfl rfl ?_)
  obtain ⟨c1, hb1, e1⟩ := wrap_nat ((r : Int) * 2 ^ ((13 : Int).toNat))
  obtain ⟨r1, hx1, e2⟩ := xor_nat hr hb1
  refine D_q (Q_shl rfl rfl rfl (by decide)) ?_
  refine D_re 9 (v' := .int .u64 (c1 : Int)) rfl (congrArg (Value.int .u64) e1) ?_
  refine D_pure_eq tabOk rfl (congrArg (Value.int .u64) e2) ?_
  repeat (first | refine D_all rfl ?_ | refine D_pure tabOk rfl ?_ | refine T_seq ?_ | refine S_nil ?_ | refine S_store tabOk 0 rfl rfl rfl rfl rfl rfl ?_)
  refine T_drawT (by kernel_rfl) 9 (by kernel_rfl) (by kernel_rfl) ?_
  repeat (first | refine D_pure tabOk rfl ?_ | refine D_load tabOk 0 rfl rfl rfl ?_)
  obtain ⟨r2, hx2, e3⟩ := xor_nat hx1 (by omega : r1 / 128 < 18446744073709551616)
  refine D_q (Q_shr rfl rfl rfl (by decide)) ?_
  refine D_re 18 (v' := .int .u64 ((r1 / 128 : Nat) : Int)) rfl rfl ?_
  refine D_pure_eq tabOk rfl (congrArg (Value.int .u64) e3) ?_
  repeat (first | refine D_all rfl ?_ | refine D_pure tabOk rfl ?_ | refine T_seq ?_ | refine S_nil ?_ | refine S_store tabOk 0 rfl rfl rfl rfl rfl rfl ?_)
  refine T_drawT (by kernel_rfl) 9 (by kernel_rfl) (by kernel_rfl) ?_
  repeat (first | refine D_pure tabOk rfl ?_ | refine D_load tabOk 0 rfl rfl rfl ?_)
  obtain ⟨c3, hb3, e4⟩ := wrap_nat ((r2 : Int) * 2 ^ ((17 : Int).toNat))
  obtain ⟨r3, hx3, e5⟩ := xor_nat hx2 hb3
  refine D_q (Q_shl rfl rfl rfl (by decide)) ?_
  refine D_re 27 (v' := .int .u64 (c3 : Int)) rfl (congrArg (Value.int .u64) e4) ?_
  refine D_pure_eq tabOk rfl (congrArg (Value.int .u64) e5) ?_
  repeat (first | refine D_all rfl ?_ | refine D_pure tabOk rfl ?_ | refine T_seq ?_ | refine T_region ?_ | refine S_nil ?_ | refine T_ret ?_ | refine S_pure tabOk rfl ?_ | refine S_load tabOk 0 rfl rfl rfl ?_ | refine S_store tabOk 0 rfl rfl rfl rfl rfl rfl ?_)
  exact ret1 rfl rfl (fun w' hw => ⟨r3, rfl, hx3, hw⟩)
end Go.Proofs.Yteogkadjambmkaa
