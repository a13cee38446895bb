/-
  What is read of bytes: the mathematics; In's methods. Conditions: each theorem's own.
-/
import Derived.Test.YtcnpfempfgljfaaPkB
namespace Go.Proofs.Ytcnpfempfgljfaa
open Go Go.RowKit
set_option linter.unusedVariables false

/-- the error, the number, how many bytes it has -/
def dec : Nat → List Int → Int × Nat × Nat
  | _, [] => (2, 0, 0)
  | i, z :: zs => if i = 9 ∧ 1 < z then (7, 0, 0) else if z = 0 ∧ 0 < i then (2, 0, 0) else if z < 128 then (0, z.toNat, 1) else
    match dec (i + 1) zs with
    | (e, v, u) => if e = 0 then (0, z.toNat % 128 + 128 * v, u + 1) else (e, 0, 0)
/-- .. behind some that are read already -/
def fin (acc k : Nat) (d : Int × Nat × Nat) : Int × Nat × Nat := if d.1 = 0 then (0, acc + 128 ^ k * d.2.1, k + d.2.2) else (d.1, 0, 0)
theorem dec_err : ∀ (zs : List Int) (i : Nat), (dec i zs).1 ≠ 0 → (dec i zs).2 = (0, 0)
  | [], i, h => rfl
  | z :: zs, i, h => by
    unfold dec at h ⊢
    split
    · rfl
    · split
      · rfl
      · split
        · rename_i h1 h2 h3
          simp [h1, h2, h3] at h
        · rename_i h1 h2 h3
          rw [if_neg h1, if_neg h2, if_neg h3] at h
          generalize dec (i + 1) zs = q at h ⊢
          obtain ⟨e, v, u⟩ := q
          dsimp only at h ⊢
          split
          · rename_i h4
            simp [h4] at h
          · rfl
theorem fin_zero (zs : List Int) : fin 0 0 (dec 0 zs) = dec 0 zs := by
  unfold fin
  split
  · rename_i h
    rw [Nat.zero_add, Nat.pow_zero, Nat.one_mul, Nat.zero_add, ← h]
  · rename_i h
    rw [← dec_err zs 0 h]
theorem fin_step {acc k : Nat} {z : Int} {zs : List Int} (h1 : ¬ (k = 9 ∧ 1 < z)) (h2 : ¬ (z = 0 ∧ 0 < k)) (h3 : ¬ z < 128) : fin acc k (dec k (z :: zs)) = fin (acc + 128 ^ k * (z.toNat % 128)) (k + 1) (dec (k + 1) zs) := by
  rw [dec, if_neg h1, if_neg h2, if_neg h3]
  generalize dec (k + 1) zs = q
  obtain ⟨e, v, u⟩ := q
  dsimp only
  unfold fin
  by_cases he : e = 0
  · simp only [he, if_true]
    congr 2
    · rw [Nat.mul_add, Nat.pow_succ, Nat.mul_assoc, Nat.add_assoc]
    · omega
  · simp only [he, if_false]

/-- What one writes one reads. -/
theorem dec_enc : ∀ (N i : Nat) (rest : List Int), i ≤ 9 → (i = 0 ∨ 0 < N) → N < 2 ^ (64 - 7 * i) → dec i (enc N ++ rest) = (0, N, (enc N).length) := by
  intro N
  induction N using Nat.strongRecOn with
  | ind N ih =>
    intro i rest hi h0 hN
    by_cases h : N < 128
    · rw [enc_small h, List.singleton_append, dec, if_neg, if_neg (by omega), if_pos (by omega)]
      · simp
      · rintro ⟨rfl, h1⟩
        have : (2 : Nat) ^ (64 - 7 * 9) = 2 := rfl
        omega
    · have hi9 : i ≠ 9 := by
        rintro rfl
        have : (2 : Nat) ^ (64 - 7 * 9) = 2 := rfl
        omega
      have e : (2 : Nat) ^ (64 - 7 * i) = 2 ^ (64 - 7 * (i + 1)) * 128 := by rw [show 64 - 7 * i = (64 - 7 * (i + 1)) + 7 from by omega, Nat.pow_add]
      rw [enc_big h, List.cons_append, dec, if_neg (by omega), if_neg (by omega), if_neg (by omega), ih (N / 128) (by omega) (i + 1) rest (by omega) (.inr (by omega)) (by omega)]
      simp only [if_true, List.length_cons]
      congr 2
      omega

/-! ### Slices that are what is left of another one -/
structure Suf (A : Option Addr) (N C k : Nat) (a : Option Addr) (n c : Nat) : Prop where
  kn : k + n = N
  cap : n ≤ c
  le : c ≤ C
  nil : a = none → n = 0 ∧ c = 0
  blk : 0 < n → ∃ b off, A = some ⟨b, off, none⟩ ∧ a = some ⟨b, off + k, none⟩
section
variable {w : World} {A a : Option Addr} {N C k n c : Nat} {zs : List Int}
theorem Suf.refl (h : Ints .u8 w A N C zs) : Suf A N C 0 A N C := ⟨Nat.zero_add _, h.cap, Nat.le_refl _, h.nil, fun hn => by
  obtain ⟨b, off, e, _⟩ := h.sl.get hn
  exact ⟨b, off, e, e⟩⟩
theorem Suf.ints (s : Suf A N C k a n c) (h : Ints .u8 w A N C zs) : Ints .u8 w a n c (zs.drop k) := by
  have hkn := s.kn
  have hl := h.len
  refine ⟨by rw [List.length_drop]; omega, s.cap, Nat.le_trans s.le h.max, s.nil, fun z hz => h.fits z (List.mem_of_mem_drop hz), ⟨by rw [List.length_map, List.length_drop]; omega, fun hn => ?_⟩⟩
  obtain ⟨b, off, e1, e2⟩ := s.blk hn
  obtain ⟨b', off', e3, hlt, hc⟩ := h.sl.get (by omega)
  rw [e1] at e3
  cases e3
  refine ⟨b, off + k, e2, hlt, fun j u hu => ?_⟩
  rw [Nat.add_assoc]
  exact hc (k + j) u (by rw [List.map_drop, List.getElem?_drop] at hu; exact hu)
theorem Suf.drop (s : Suf A N C k a n c) {j : Nat} (hj : j ≤ n) : Suf A N C (k + j) (if c = j then a else a.map (·.add (j * 1))) (n - j) (c - j) := by
  have h1 := s.kn
  have h2 := s.cap
  have h3 := s.le
  refine ⟨by omega, by omega, by omega, fun e => ?_, fun hn => ?_⟩
  · by_cases hc : c = j
    · omega
    · rw [if_neg hc] at e
      have := s.nil (by simpa using e)
      omega
  · obtain ⟨b, off, e1, e2⟩ := s.blk (by omega)
    refine ⟨b, off, e1, ?_⟩
    rw [if_neg (by omega), e2, Option.map_some, Addr.add_lit, Nat.mul_one, Nat.add_assoc]
theorem Ints.old {ki : IntKind} {w0 : World} {ol : OL} (h : Ints ki w0 a n c zs) (ha : ∀ b off, a = some ⟨b, off, none⟩ → b < w0.heap.size → Apart ol b) {w : World} (hw : Hp w0 w ol) : Ints ki w a n c zs := ⟨h.len, h.cap, h.max, h.nil, h.fits, h.sl.old' ha hw⟩
theorem Hp.below_ro {w w' : World} {b : Nat} {x : Obj} {r : Bool} (hb : w.heap[b]? = some x) (h : Hp w w' [.blk b x r]) : Below w.heap.size w w' := ⟨h.os, h.tape, h.output, h.size, fun j hj => by
  by_cases hjb : j = b
  · subst hjb
    rw [hb]
    exact h.own _ List.mem_cons_self
  · exact h.old j hj fun e he => by
      rw [List.mem_singleton] at he
      subst he
      intro _ hh
      exact hjb (Option.some.inj hh).symm⟩
end

/-- An In at a block. -/
abbrev inO (a : Option Addr) (n c : Nat) (e : Int) : Obj := .cells ⟨[.slice a n c, .int .i64 e]⟩ 88 (0, 0)

theorem of_ok (a : Option Addr) (n c : Nat) (zs : List Int) (w : World) (hw : Ints .u8 w a n c zs) (hn : zs.length ≤ 1073741824) :
    Calls Try.prog 19 #[.slice a n c] w fun e w' => ∃ b a c, e = .returned (.pointer (some ⟨b, 0, none⟩)) ∧ Hp w w' [.blk b (inO a zs.length c 0) true, .row w.heap.size (.slice a zs.length c) 5 1 zs.length (zs.map (.int .u8))] ∧ w.heap.size ≤ b := by
  refine enter1 Try.func19 rfl rfl (Hp.refl w) ?_
  repeat (first | refine T_draw (by kernel_rfl) (by kernel_rfl) ?_ | refine D_all rfl ?_ | refine D_i64 tabOk rfl (by omega) ?_ | refine D_pure tabOk rfl ?_ | refine D_pass rfl rfl rfl ?_ | refine D_load tabOk 0 rfl rfl rfl ?_ | refine D_load tabOk 1 rfl rfl rfl ?_ | refine D_load tabOk 2 rfl rfl rfl ?_ | refine T_seq ?_ | refine T_region ?_ | refine T_block ?_ | refine S_nil ?_ | refine pthen_normal ?_ | refine inb_normal ?_ | refine inb_ret ?_ | refine pthen_ret ?_ | refine inb_hit ?_ | refine pthen_exit ?_ | refine T_skip ?_ | refine T_ret ?_ | refine T_exit ?_  | refine S_i64 tabOk rfl (by omega) ?_ | refine S_pure tabOk rfl ?_ | refine S_pass rfl rfl rfl ?_ | refine S_pass0 rfl rfl ?_ | refine T_region_any ?_  | refine S_load tabOk 0 rfl rfl rfl ?_ | refine S_load tabOk 1 rfl rfl rfl ?_ | refine S_load tabOk 2 rfl rfl rfl ?_ | refine S_load tabOk 3 rfl rfl rfl ?_ | refine S_store tabOk 0 rfl rfl rfl rfl rfl rfl ?_ | refine S_store tabOk 1 rfl rfl rfl rfl rfl rfl ?_ | refine S_store tabOk 2 rfl rfl rfl rfl rfl rfl ?_ | refine S_store tabOk 3 rfl rfl rfl rfl rfl rfl ?_ | refine S_q (Q_build tabOk rfl rfl rfl rfl rfl rfl rfl) ?_)
  refine S_callrow rfl Try.call50 (fun w1 h1 => clone_ok a n c zs w1 (hw.ext (h1.below new_nil)) (by omega)) (fun a1 c1 hc1 hd1 => ?_)
  refine S_q (Q_build tabOk rfl rfl rfl rfl rfl rfl rfl) ?_
  refine S_new tabOk rfl (fun b hb => ?_)
  repeat (first | refine T_draw (by kernel_rfl) (by kernel_rfl) ?_ | refine D_all rfl ?_ | refine D_i64 tabOk rfl (by omega) ?_ | refine D_pure tabOk rfl ?_ | refine D_pass rfl rfl rfl ?_ | refine D_load tabOk 0 rfl rfl rfl ?_ | refine D_load tabOk 1 rfl rfl rfl ?_ | refine D_load tabOk 2 rfl rfl rfl ?_ | refine T_seq ?_ | refine T_region ?_ | refine T_block ?_ | refine S_nil ?_ | refine pthen_normal ?_ | refine inb_normal ?_ | refine inb_ret ?_ | refine pthen_ret ?_ | refine inb_hit ?_ | refine pthen_exit ?_ | refine T_skip ?_ | refine T_ret ?_ | refine T_exit ?_  | refine S_i64 tabOk rfl (by omega) ?_ | refine S_pure tabOk rfl ?_ | refine S_pass rfl rfl rfl ?_ | refine S_pass0 rfl rfl ?_ | refine T_region_any ?_  | refine S_load tabOk 0 rfl rfl rfl ?_ | refine S_load tabOk 1 rfl rfl rfl ?_ | refine S_load tabOk 2 rfl rfl rfl ?_ | refine S_load tabOk 3 rfl rfl rfl ?_ | refine S_store tabOk 0 rfl rfl rfl rfl rfl rfl ?_ | refine S_store tabOk 1 rfl rfl rfl rfl rfl rfl ?_ | refine S_store tabOk 2 rfl rfl rfl rfl rfl rfl ?_ | refine S_store tabOk 3 rfl rfl rfl rfl rfl rfl ?_ | refine S_q (Q_build tabOk rfl rfl rfl rfl rfl rfl rfl) ?_)
  exact ret1 rfl rfl (fun w' hw' => ⟨b, a1, c1, rfl, hw', hb⟩)

theorem err_ok (b : Nat) (a : Option Addr) (n c : Nat) (e : Int) (w : World) (hb : w.heap[b]? = some (inO a n c e)) :
    Calls Try.prog 21 #[.pointer (some ⟨b, 0, none⟩)] w fun en w' => en = .returned (.int .i64 e) ∧ Below w.heap.size w w' := by
  refine enter1 Try.func21 rfl rfl (Hp.start false hb) ?_
  repeat (first | refine T_draw (by kernel_rfl) (by kernel_rfl) ?_ | refine D_all rfl ?_ | refine D_i64 tabOk rfl (by omega) ?_ | refine D_pure tabOk rfl ?_ | refine D_pass rfl rfl rfl ?_ | refine D_load tabOk 0 rfl rfl rfl ?_ | refine D_load tabOk 1 rfl rfl rfl ?_ | refine D_load tabOk 2 rfl rfl rfl ?_ | refine T_seq ?_ | refine T_region ?_ | refine T_block ?_ | refine S_nil ?_ | refine pthen_normal ?_ | refine inb_normal ?_ | refine inb_ret ?_ | refine pthen_ret ?_ | refine inb_hit ?_ | refine pthen_exit ?_ | refine T_skip ?_ | refine T_ret ?_ | refine T_exit ?_  | refine S_i64 tabOk rfl (by omega) ?_ | refine S_pure tabOk rfl ?_ | refine S_pass rfl rfl rfl ?_ | refine S_pass0 rfl rfl ?_ | refine T_region_any ?_  | refine S_load tabOk 0 rfl rfl rfl ?_ | refine S_load tabOk 1 rfl rfl rfl ?_ | refine S_load tabOk 2 rfl rfl rfl ?_ | refine S_load tabOk 3 rfl rfl rfl ?_ | refine S_store tabOk 0 rfl rfl rfl rfl rfl rfl ?_ | refine S_store tabOk 1 rfl rfl rfl rfl rfl rfl ?_ | refine S_store tabOk 2 rfl rfl rfl rfl rfl rfl ?_ | refine S_store tabOk 3 rfl rfl rfl rfl rfl rfl ?_ | refine S_q (Q_build tabOk rfl rfl rfl rfl rfl rfl rfl) ?_)
  refine S_q (Q_eqptr tabOk rfl rfl rfl rfl rfl) ?_
  repeat (first | refine T_draw (by kernel_rfl) (by kernel_rfl) ?_ | refine D_all rfl ?_ | refine D_i64 tabOk rfl (by omega) ?_ | refine D_pure tabOk rfl ?_ | refine D_pass rfl rfl rfl ?_ | refine D_load tabOk 0 rfl rfl rfl ?_ | refine D_load tabOk 1 rfl rfl rfl ?_ | refine D_load tabOk 2 rfl rfl rfl ?_ | refine T_seq ?_ | refine T_region ?_ | refine T_block ?_ | refine S_nil ?_ | refine pthen_normal ?_ | refine inb_normal ?_ | refine inb_ret ?_ | refine pthen_ret ?_ | refine inb_hit ?_ | refine pthen_exit ?_ | refine T_skip ?_ | refine T_ret ?_ | refine T_exit ?_ | refine T_cond_t rfl ?_ | refine T_cond_f rfl ?_ | refine S_i64 tabOk rfl (by omega) ?_ | refine S_pure tabOk rfl ?_ | refine S_pass rfl rfl rfl ?_ | refine S_pass0 rfl rfl ?_ | refine T_region_any ?_ | refine S_load tabOk 0 rfl rfl rfl ?_ | refine S_load tabOk 1 rfl rfl rfl ?_ | refine S_load tabOk 2 rfl rfl rfl ?_ | refine S_load tabOk 3 rfl rfl rfl ?_ | refine S_store tabOk 0 rfl rfl rfl rfl rfl rfl ?_ | refine S_store tabOk 1 rfl rfl rfl rfl rfl rfl ?_ | refine S_store tabOk 2 rfl rfl rfl rfl rfl rfl ?_ | refine S_store tabOk 3 rfl rfl rfl rfl rfl rfl ?_ | refine S_q (Q_build tabOk rfl rfl rfl rfl rfl rfl rfl) ?_)
  exact ret1 rfl rfl (fun w' hw' => ⟨rfl, hw'.below_ro hb⟩)
theorem left_ok (b : Nat) (a : Option Addr) (n c : Nat) (e : Int) (w : World) (hb : w.heap[b]? = some (inO a n c e)) :
    Calls Try.prog 22 #[.pointer (some ⟨b, 0, none⟩)] w fun en w' => en = .returned (.int .i64 (n : Int)) ∧ Below w.heap.size w w' := by
  refine enter1 Try.func22 rfl rfl (Hp.start false hb) ?_
  repeat (first | refine T_draw (by kernel_rfl) (by kernel_rfl) ?_ | refine D_all rfl ?_ | refine D_i64 tabOk rfl (by omega) ?_ | refine D_pure tabOk rfl ?_ | refine D_pass rfl rfl rfl ?_ | refine D_load tabOk 0 rfl rfl rfl ?_ | refine D_load tabOk 1 rfl rfl rfl ?_ | refine D_load tabOk 2 rfl rfl rfl ?_ | refine T_seq ?_ | refine T_region ?_ | refine T_block ?_ | refine S_nil ?_ | refine pthen_normal ?_ | refine inb_normal ?_ | refine inb_ret ?_ | refine pthen_ret ?_ | refine inb_hit ?_ | refine pthen_exit ?_ | refine T_skip ?_ | refine T_ret ?_ | refine T_exit ?_  | refine S_i64 tabOk rfl (by omega) ?_ | refine S_pure tabOk rfl ?_ | refine S_pass rfl rfl rfl ?_ | refine S_pass0 rfl rfl ?_ | refine T_region_any ?_  | refine S_load tabOk 0 rfl rfl rfl ?_ | refine S_load tabOk 1 rfl rfl rfl ?_ | refine S_load tabOk 2 rfl rfl rfl ?_ | refine S_load tabOk 3 rfl rfl rfl ?_ | refine S_store tabOk 0 rfl rfl rfl rfl rfl rfl ?_ | refine S_store tabOk 1 rfl rfl rfl rfl rfl rfl ?_ | refine S_store tabOk 2 rfl rfl rfl rfl rfl rfl ?_ | refine S_store tabOk 3 rfl rfl rfl rfl rfl rfl ?_ | refine S_q (Q_build tabOk rfl rfl rfl rfl rfl rfl rfl) ?_)
  refine S_q (Q_eqptr tabOk rfl rfl rfl rfl rfl) ?_
  repeat (first | refine T_draw (by kernel_rfl) (by kernel_rfl) ?_ | refine D_all rfl ?_ | refine D_i64 tabOk rfl (by omega) ?_ | refine D_pure tabOk rfl ?_ | refine D_pass rfl rfl rfl ?_ | refine D_load tabOk 0 rfl rfl rfl ?_ | refine D_load tabOk 1 rfl rfl rfl ?_ | refine D_load tabOk 2 rfl rfl rfl ?_ | refine T_seq ?_ | refine T_region ?_ | refine T_block ?_ | refine S_nil ?_ | refine pthen_normal ?_ | refine inb_normal ?_ | refine inb_ret ?_ | refine pthen_ret ?_ | refine inb_hit ?_ | refine pthen_exit ?_ | refine T_skip ?_ | refine T_ret ?_ | refine T_exit ?_ | refine T_cond_t rfl ?_ | refine T_cond_f rfl ?_ | refine S_i64 tabOk rfl (by omega) ?_ | refine S_pure tabOk rfl ?_ | refine S_pass rfl rfl rfl ?_ | refine S_pass0 rfl rfl ?_ | refine T_region_any ?_ | refine S_load tabOk 0 rfl rfl rfl ?_ | refine S_load tabOk 1 rfl rfl rfl ?_ | refine S_load tabOk 2 rfl rfl rfl ?_ | refine S_load tabOk 3 rfl rfl rfl ?_ | refine S_store tabOk 0 rfl rfl rfl rfl rfl rfl ?_ | refine S_store tabOk 1 rfl rfl rfl rfl rfl rfl ?_ | refine S_store tabOk 2 rfl rfl rfl rfl rfl rfl ?_ | refine S_store tabOk 3 rfl rfl rfl rfl rfl rfl ?_ | refine S_q (Q_build tabOk rfl rfl rfl rfl rfl rfl rfl) ?_)
  exact ret1 rfl rfl (fun w' hw' => ⟨rfl, hw'.below_ro hb⟩)
theorem fail_ok (b : Nat) (a : Option Addr) (n c : Nat) (e x : Int) (w : World) (hb : w.heap[b]? = some (inO a n c e)) :
    Calls Try.prog 39 #[.pointer (some ⟨b, 0, none⟩), .int .i64 x] w fun en w' => en = .returned (.tuple #[]) ∧ Hp w w' [.blk b (inO a n c (if e = 0 then x else e)) true] := by
  refine enter2 Try.func39 rfl rfl (Hp.start true hb) ?_
  repeat (first | refine T_draw (by kernel_rfl) (by kernel_rfl) ?_ | refine D_all rfl ?_ | refine D_i64 tabOk rfl (by omega) ?_ | refine D_pure tabOk rfl ?_ | refine D_pass rfl rfl rfl ?_ | refine D_load tabOk 0 rfl rfl rfl ?_ | refine D_load tabOk 1 rfl rfl rfl ?_ | refine D_load tabOk 2 rfl rfl rfl ?_ | refine T_seq ?_ | refine T_region ?_ | refine T_block ?_ | refine S_nil ?_ | refine pthen_normal ?_ | refine inb_normal ?_ | refine inb_ret ?_ | refine pthen_ret ?_ | refine inb_hit ?_ | refine pthen_exit ?_ | refine T_skip ?_ | refine T_ret ?_ | refine T_exit ?_  | refine S_i64 tabOk rfl (by omega) ?_ | refine S_pure tabOk rfl ?_ | refine S_pass rfl rfl rfl ?_ | refine S_pass0 rfl rfl ?_ | refine T_region_any ?_  | refine S_load tabOk 0 rfl rfl rfl ?_ | refine S_load tabOk 1 rfl rfl rfl ?_ | refine S_load tabOk 2 rfl rfl rfl ?_ | refine S_load tabOk 3 rfl rfl rfl ?_ | refine S_store tabOk 0 rfl rfl rfl rfl rfl rfl ?_ | refine S_store tabOk 1 rfl rfl rfl rfl rfl rfl ?_ | refine S_store tabOk 2 rfl rfl rfl rfl rfl rfl ?_ | refine S_store tabOk 3 rfl rfl rfl rfl rfl rfl ?_ | refine S_q (Q_build tabOk rfl rfl rfl rfl rfl rfl rfl) ?_)
  refine S_q (Q_neptr tabOk rfl rfl rfl rfl rfl) ?_
  repeat (first | refine T_draw (by kernel_rfl) (by kernel_rfl) ?_ | refine D_all rfl ?_ | refine D_i64 tabOk rfl (by omega) ?_ | refine D_pure tabOk rfl ?_ | refine D_pass rfl rfl rfl ?_ | refine D_load tabOk 0 rfl rfl rfl ?_ | refine D_load tabOk 1 rfl rfl rfl ?_ | refine D_load tabOk 2 rfl rfl rfl ?_ | refine T_seq ?_ | refine T_region ?_ | refine T_block ?_ | refine S_nil ?_ | refine pthen_normal ?_ | refine inb_normal ?_ | refine inb_ret ?_ | refine pthen_ret ?_ | refine inb_hit ?_ | refine pthen_exit ?_ | refine T_skip ?_ | refine T_ret ?_ | refine T_exit ?_  | refine S_i64 tabOk rfl (by omega) ?_ | refine S_pure tabOk rfl ?_ | refine S_pass rfl rfl rfl ?_ | refine S_pass0 rfl rfl ?_ | refine T_region_any ?_  | refine S_load tabOk 0 rfl rfl rfl ?_ | refine S_load tabOk 1 rfl rfl rfl ?_ | refine S_load tabOk 2 rfl rfl rfl ?_ | refine S_load tabOk 3 rfl rfl rfl ?_ | refine S_store tabOk 0 rfl rfl rfl rfl rfl rfl ?_ | refine S_store tabOk 1 rfl rfl rfl rfl rfl rfl ?_ | refine S_store tabOk 2 rfl rfl rfl rfl rfl rfl ?_ | refine S_store tabOk 3 rfl rfl rfl rfl rfl rfl ?_ | refine S_q (Q_build tabOk rfl rfl rfl rfl rfl rfl rfl) ?_)
  refine T_cond_dec rfl (fun h => ?_) (fun h => ?_)
  · rw [if_pos h]
    repeat (first | refine T_draw (by kernel_rfl) (by kernel_rfl) ?_ | refine D_all rfl ?_ | refine D_i64 tabOk rfl (by omega) ?_ | refine D_pure tabOk rfl ?_ | refine D_pass rfl rfl rfl ?_ | refine D_load tabOk 0 rfl rfl rfl ?_ | refine D_load tabOk 1 rfl rfl rfl ?_ | refine D_load tabOk 2 rfl rfl rfl ?_ | refine T_seq ?_ | refine T_region ?_ | refine T_block ?_ | refine S_nil ?_ | refine pthen_normal ?_ | refine inb_normal ?_ | refine inb_ret ?_ | refine pthen_ret ?_ | refine inb_hit ?_ | refine pthen_exit ?_ | refine T_skip ?_ | refine T_ret ?_ | refine T_exit ?_  | refine S_i64 tabOk rfl (by omega) ?_ | refine S_pure tabOk rfl ?_ | refine S_pass rfl rfl rfl ?_ | refine S_pass0 rfl rfl ?_ | refine T_region_any ?_  | refine S_load tabOk 0 rfl rfl rfl ?_ | refine S_load tabOk 1 rfl rfl rfl ?_ | refine S_load tabOk 2 rfl rfl rfl ?_ | refine S_load tabOk 3 rfl rfl rfl ?_ | refine S_store tabOk 0 rfl rfl rfl rfl rfl rfl ?_ | refine S_store tabOk 1 rfl rfl rfl rfl rfl rfl ?_ | refine S_store tabOk 2 rfl rfl rfl rfl rfl rfl ?_ | refine S_store tabOk 3 rfl rfl rfl rfl rfl rfl ?_ | refine S_q (Q_build tabOk rfl rfl rfl rfl rfl rfl rfl) ?_)
    exact ret0n rfl (fun w' hw' => ⟨rfl, hw'⟩)
  · rw [if_neg h]
    repeat (first | refine T_draw (by kernel_rfl) (by kernel_rfl) ?_ | refine D_all rfl ?_ | refine D_i64 tabOk rfl (by omega) ?_ | refine D_pure tabOk rfl ?_ | refine D_pass rfl rfl rfl ?_ | refine D_load tabOk 0 rfl rfl rfl ?_ | refine D_load tabOk 1 rfl rfl rfl ?_ | refine D_load tabOk 2 rfl rfl rfl ?_ | refine T_seq ?_ | refine T_region ?_ | refine T_block ?_ | refine S_nil ?_ | refine pthen_normal ?_ | refine inb_normal ?_ | refine inb_ret ?_ | refine pthen_ret ?_ | refine inb_hit ?_ | refine pthen_exit ?_ | refine T_skip ?_ | refine T_ret ?_ | refine T_exit ?_  | refine S_i64 tabOk rfl (by omega) ?_ | refine S_pure tabOk rfl ?_ | refine S_pass rfl rfl rfl ?_ | refine S_pass0 rfl rfl ?_ | refine T_region_any ?_  | refine S_load tabOk 0 rfl rfl rfl ?_ | refine S_load tabOk 1 rfl rfl rfl ?_ | refine S_load tabOk 2 rfl rfl rfl ?_ | refine S_load tabOk 3 rfl rfl rfl ?_ | refine S_store tabOk 0 rfl rfl rfl rfl rfl rfl ?_ | refine S_store tabOk 1 rfl rfl rfl rfl rfl rfl ?_ | refine S_store tabOk 2 rfl rfl rfl rfl rfl rfl ?_ | refine S_store tabOk 3 rfl rfl rfl rfl rfl rfl ?_ | refine S_q (Q_build tabOk rfl rfl rfl rfl rfl rfl rfl) ?_)
    exact ret0n rfl (fun w' hw' => ⟨rfl, hw'⟩)
end Go.Proofs.Ytcnpfempfgljfaa
