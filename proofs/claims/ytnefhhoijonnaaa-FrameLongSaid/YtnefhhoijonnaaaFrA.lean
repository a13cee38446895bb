/-
  Frames: what they read as; the kinds' own judgements. Conditions: each theorem's own.
-/
import Derived.Test.YtnefhhoijonnaaaRn
namespace Go.Proofs.Ytnefhhoijonnaaa
open Go Go.RowKit
set_option linter.unusedVariables false

/-- A frame's numbers. -/
structure Hd where
  kd : Int
  ag : Int
  ep : Int
  inc : Int
  ba : Int
  cu : Int
  li : Int
/-- .. and its slices. -/
structure Fs where
  ra : Option Addr
  rn : Nat
  rc : Nat
  ia : Option Addr
  im : Nat
  ic : Nat
abbrev frC (k : IntKind) (h : Hd) (s : Fs) : List Value := [.int k h.kd, .int .i64 h.ag, .int .u64 h.ep, .int .u64 h.inc, .int .u64 h.ba, .int .u64 h.cu, .int .u64 h.li, .slice s.ra s.rn s.rc, .slice s.ia s.im s.ic]
abbrev frV (h : Hd) (s : Fs) : Value := .agg ⟨frC .u8 h s⟩
structure Hd.Fit (h : Hd) : Prop where
  kd : Fits .u8 h.kd
  ag : Fits .i64 h.ag
  ep : Fits .u64 h.ep
  inc : Fits .u64 h.inc
  ba : Fits .u64 h.ba
  cu : Fits .u64 h.cu
  li : Fits .u64 h.li
def begR (h : Hd) (n m : Nat) : Prop := 1 ≤ h.ba ∧ h.inc = 0 ∧ h.cu = 0 ∧ h.li = 0 ∧ n = 0 ∧ m = 0
instance (h : Hd) (n m : Nat) : Decidable (begR h n m) := by unfold begR; infer_instance
set_option maxHeartbeats 1000000 in
theorem begins_ok (h : Hd) (s : Fs) (w : World) : Calls Try.prog 87 #[frV h s] w fun e w' => e = .returned (.bool (decide (begR h s.rn s.im))) ∧ Below w.heap.size w w' := by
  refine enter1 Try.func87 rfl rfl (Hp.refl w) ?_
  repeat (first | refine T_seq ?_ | refine T_region ?_)
  refine S_new tabOk rfl (fun b hb => ?_)
  repeat (first | refine T_seq ?_ | refine T_region ?_ | refine S_nil ?_ | refine S_pure tabOk rfl ?_ | refine S_load tabOk 0 rfl rfl rfl ?_)
  refine S_split rfl rfl (fun h1 => ?_) (fun h1 => ?_)
  rotate_left
  · repeat (first | refine S_nil ?_ | refine T_ret ?_ | refine S_pure tabOk rfl ?_ | refine S_pass rfl rfl rfl ?_)
    exact ret1 rfl rfl (fun w' hw => ⟨retb (decide_eq_false (by unfold begR; omega)).symm, hw.below (by repeat (first | exact new_nil | refine new_cons (by first | assumption | omega) ?_))⟩)
  repeat (first | refine S_pure tabOk rfl ?_ | refine S_load tabOk 0 rfl rfl rfl ?_)
  refine S_split rfl rfl (fun h2 => ?_) (fun h2 => ?_)
  rotate_left
  · repeat (first | refine S_nil ?_ | refine T_ret ?_ | refine S_pure tabOk rfl ?_ | refine S_pass rfl rfl rfl ?_)
    exact ret1 rfl rfl (fun w' hw => ⟨retb (decide_eq_false (by unfold begR; omega)).symm, hw.below (by repeat (first | exact new_nil | refine new_cons (by first | assumption | omega) ?_))⟩)
  repeat (first | refine S_pure tabOk rfl ?_ | refine S_load tabOk 0 rfl rfl rfl ?_)
  refine S_split rfl rfl (fun h3 => ?_) (fun h3 => ?_)
  rotate_left
  · repeat (first | refine S_nil ?_ | refine T_ret ?_ | refine S_pure tabOk rfl ?_ | refine S_pass rfl rfl rfl ?_)
    exact ret1 rfl rfl (fun w' hw => ⟨retb (decide_eq_false (by unfold begR; omega)).symm, hw.below (by repeat (first | exact new_nil | refine new_cons (by first | assumption | omega) ?_))⟩)
  repeat (first | refine S_pure tabOk rfl ?_ | refine S_load tabOk 0 rfl rfl rfl ?_)
  refine S_split rfl rfl (fun h4 => ?_) (fun h4 => ?_)
  rotate_left
  · repeat (first | refine S_nil ?_ | refine T_ret ?_ | refine S_pure tabOk rfl ?_ | refine S_pass rfl rfl rfl ?_)
    exact ret1 rfl rfl (fun w' hw => ⟨retb (decide_eq_false (by unfold begR; omega)).symm, hw.below (by repeat (first | exact new_nil | refine new_cons (by first | assumption | omega) ?_))⟩)
  repeat (first | refine S_pure tabOk rfl ?_ | refine S_load tabOk 0 rfl rfl rfl ?_)
  refine S_split rfl rfl (fun h5 => ?_) (fun h5 => ?_)
  rotate_left
  · repeat (first | refine S_nil ?_ | refine T_ret ?_ | refine S_pure tabOk rfl ?_ | refine S_pass rfl rfl rfl ?_)
    exact ret1 rfl rfl (fun w' hw => ⟨retb (decide_eq_false (by unfold begR; omega)).symm, hw.below (by repeat (first | exact new_nil | refine new_cons (by first | assumption | omega) ?_))⟩)
  repeat (first | refine S_nil ?_ | refine T_ret ?_ | refine S_pure tabOk rfl ?_ | refine S_load tabOk 0 rfl rfl rfl ?_)
  exact ret1 rfl rfl (fun w' hw => ⟨retb (decide_eq_decide.2 (by unfold begR; omega)), hw.below (by repeat (first | exact new_nil | refine new_cons (by first | assumption | omega) ?_))⟩)
def carR (h : Hd) (n m : Nat) : Prop := 1 ≤ h.ba ∧ h.cu = 0 ∧ h.li = 0 ∧ n = 0 ∧ m ≤ 64
/-- What the items of a Batch are like. -/
def itsR (b : Int) (l : List (Int × (Int × List Int))) : Prop := ∀ (i : Nat) (hi : i < l.length), (0 ≤ l[i].2.1 ∧ l[i].2.1 < 8 ∧ l[i].2.2.length ≤ 4096) ∧ b ≤ l[i].1 ∧ ∀ (j : Nat) (hj : j < l.length), j + 1 = i → l[j].1 < l[i].1
def batR (h : Hd) (n : Nat) (l : List (Int × (Int × List Int))) : Prop := carR h n l.length ∧ itsR h.ba l
def itsA (b : Int) (x : Int × (Int × List Int)) (p : Option (Int × (Int × List Int))) : Prop := (0 ≤ x.2.1 ∧ x.2.1 < 8 ∧ x.2.2.length ≤ 4096) ∧ b ≤ x.1 ∧ ∀ y, p = some y → y.1 < x.1
open Classical in
set_option maxHeartbeats 2000000 in
theorem carries_ok (h : Hd) (s : Fs) (hf : h.Fit) (A : Nat → Prop) (its : List (Int × (Int × List Int))) (w : World) (hx : SlR Ritem w A s.ia s.im s.ic its) : Calls Try.prog 90 #[frV h s] w fun e w' => e = .returned (.bool (decide (batR h s.rn its))) ∧ Below w.heap.size w w' := by
  have hl := hx.len
  have hmx := hx.max
  have hcp := hx.cap
  simp only [maxLen] at hmx
  have hba := fits_u64 hf.ba
  refine enter1 Try.func90 rfl rfl (Hp.refl w) ?_
  repeat (first | refine T_seq ?_ | refine T_region ?_)
  refine S_new tabOk rfl (fun b hb => ?_)
  repeat (first | refine T_seq ?_ | refine T_region ?_ | refine S_nil ?_ | refine S_pure tabOk rfl ?_ | refine S_load tabOk 0 rfl rfl rfl ?_)
  refine S_split rfl rfl (fun h1 => ?_) (fun h1 => ?_)
  · repeat (first | refine S_nil ?_ | refine S_pure tabOk rfl ?_ | refine S_pass rfl rfl rfl ?_)
    refine T_cond_t rfl ?_
    repeat (first | refine T_seq ?_ | refine T_region ?_ | refine S_nil ?_ | refine pthen_ret ?_ | refine T_ret ?_ | refine S_pure tabOk rfl ?_)
    exact ret1 rfl rfl (fun w' hw => ⟨retb (decide_eq_false (fun hb => by obtain ⟨⟨g1, g2, g3, g4, g5⟩, _⟩ := hb; omega)).symm, hw.below (by repeat (first | exact new_nil | refine new_cons (by first | assumption | omega) ?_))⟩)
  repeat (first | refine S_pure tabOk rfl ?_ | refine S_load tabOk 0 rfl rfl rfl ?_)
  refine S_split rfl rfl (fun h2 => ?_) (fun h2 => ?_)
  · repeat (first | refine S_nil ?_ | refine S_pure tabOk rfl ?_ | refine S_pass rfl rfl rfl ?_)
    refine T_cond_t rfl ?_
    repeat (first | refine T_seq ?_ | refine T_region ?_ | refine S_nil ?_ | refine pthen_ret ?_ | refine T_ret ?_ | refine S_pure tabOk rfl ?_)
    exact ret1 rfl rfl (fun w' hw => ⟨retb (decide_eq_false (fun hb => by obtain ⟨⟨g1, g2, g3, g4, g5⟩, _⟩ := hb; omega)).symm, hw.below (by repeat (first | exact new_nil | refine new_cons (by first | assumption | omega) ?_))⟩)
  repeat (first | refine S_pure tabOk rfl ?_ | refine S_load tabOk 0 rfl rfl rfl ?_)
  refine S_split rfl rfl (fun h3 => ?_) (fun h3 => ?_)
  · repeat (first | refine S_nil ?_ | refine S_pure tabOk rfl ?_ | refine S_pass rfl rfl rfl ?_)
    refine T_cond_t rfl ?_
    repeat (first | refine T_seq ?_ | refine T_region ?_ | refine S_nil ?_ | refine pthen_ret ?_ | refine T_ret ?_ | refine S_pure tabOk rfl ?_)
    exact ret1 rfl rfl (fun w' hw => ⟨retb (decide_eq_false (fun hb => by obtain ⟨⟨g1, g2, g3, g4, g5⟩, _⟩ := hb; omega)).symm, hw.below (by repeat (first | exact new_nil | refine new_cons (by first | assumption | omega) ?_))⟩)
  repeat (first | refine S_pure tabOk rfl ?_ | refine S_load tabOk 0 rfl rfl rfl ?_)
  refine S_split rfl rfl (fun h4 => ?_) (fun h4 => ?_)
  · repeat (first | refine S_nil ?_ | refine S_pure tabOk rfl ?_ | refine S_pass rfl rfl rfl ?_)
    refine T_cond_t rfl ?_
    repeat (first | refine T_seq ?_ | refine T_region ?_ | refine S_nil ?_ | refine pthen_ret ?_ | refine T_ret ?_ | refine S_pure tabOk rfl ?_)
    exact ret1 rfl rfl (fun w' hw => ⟨retb (decide_eq_false (fun hb => by obtain ⟨⟨g1, g2, g3, g4, g5⟩, _⟩ := hb; omega)).symm, hw.below (by repeat (first | exact new_nil | refine new_cons (by first | assumption | omega) ?_))⟩)
  repeat (first | refine S_nil ?_ | refine S_pure tabOk rfl ?_ | refine S_load tabOk 0 rfl rfl rfl ?_)
  refine T_cond_dec rfl (fun h5 => ?_) (fun h5 => ?_)
  · repeat (first | refine T_seq ?_ | refine T_region ?_ | refine S_nil ?_ | refine pthen_ret ?_ | refine T_ret ?_ | refine S_pure tabOk rfl ?_)
    exact ret1 rfl rfl (fun w' hw => ⟨retb (decide_eq_false (fun hb => by obtain ⟨⟨g1, g2, g3, g4, g5⟩, _⟩ := hb; omega)).symm, hw.below (by repeat (first | exact new_nil | refine new_cons (by first | assumption | omega) ?_))⟩)
  have hcar : carR h s.rn its.length := by unfold carR; omega
  repeat (first | refine T_seq ?_ | refine T_region ?_ | refine T_block ?_ | refine S_nil ?_ | refine pthen_normal ?_ | refine T_skip ?_ | refine S_pure tabOk rfl ?_ | refine S_load tabOk 0 rfl rfl rfl ?_)
  refine T_loop (ι := Nat) (fun i => [(1, .pointer (some ⟨b, 0, none⟩)), (31, .slice s.ia s.im s.ic), (32, .int .i64 (s.im : Int)), (33, .int .i64 (i : Int))])
    (fun i => [.blk b (.cells ⟨frC .u8 h s⟩ 26 (0, 0)) true]) (fun i => i ≤ s.im ∧ ∀ k (hk : k < its.length), k < i → itsA h.ba its[k] (if k = 0 then none else its[k - 1]?)) (fun i => s.im - i) 0 ⟨Nat.zero_le _, fun k hk h => absurd h (Nat.not_lt_zero _)⟩ (by repeat (first | exact Sub.nil | refine Sub.cons rfl ?_)) (fun w' hw => hw) ?_
  rintro i ⟨hi, hyes⟩
  repeat (first | refine T_seq ?_ | refine T_region ?_ | refine S_nil ?_ | refine S_pure tabOk rfl ?_)
  refine T_cond_dec rfl (fun h => ?_) (fun h => ?_)
  · have hi' : i < its.length := by omega
    obtain ⟨ab, off, a0, n0, c0, hia, hN, hk, hrd⟩ := item_read hx.tt hi'
    rw [hia]
    repeat (first | refine T_seq ?_ | refine T_region ?_ | refine T_block ?_ | refine pthen_normal ?_ | refine T_skip ?_ | refine S_pure tabOk rfl ?_)
    refine S_q (Q_idx (sz := 3) tabOk rfl rfl rfl rfl rfl rfl rfl rfl (j := i) (by omega)) ?_
    refine S_loadN tabOk (vs := [.int .u64 its[i].1, .int .i64 its[i].2.1, .slice a0 n0 c0]) rfl rfl rfl (fun w' hw => (hrd w' (hw.below (by repeat (first | exact new_nil | refine new_cons (by first | assumption | omega) ?_)))).1) ?_
    refine S_new tabOk rfl (fun b9 hb9 => ?_)
    repeat (first | refine T_draw (by kernel_rfl) (by kernel_rfl) ?_ | refine D_pure tabOk rfl ?_ | refine D_load tabOk 0 rfl rfl rfl ?_ | refine T_seq ?_ | refine S_nil ?_ | refine S_pure tabOk rfl ?_ | refine S_store tabOk 0 rfl rfl rfl rfl rfl rfl ?_)
    refine D_callx rfl Try.call112 (v := .bool (sright its[i].2.1 n0)) (fun w' vs hw' h => by obtain ⟨u1, _, rfl, rfl, u2, _, rfl, rfl, rfl⟩ := h; exact spright_ok its[i].2.1 a0 n0 c0 w') ?_
    have hn0 : its[i].2.2.length = n0 := (hrd w (Below.refl _ w)).2.len
    repeat (first | refine D_pure tabOk rfl ?_)
    refine D_splitb rfl rfl (fun g1 => ?_) (fun g1 => ?_)
    · repeat (first | refine D_all rfl ?_ | refine D_pure tabOk rfl ?_ | refine D_pass rfl rfl rfl ?_)
      refine T_cond_t rfl ?_
      repeat (first | refine T_seq ?_ | refine T_region ?_ | refine S_nil ?_ | refine inb_ret ?_ | refine pthen_ret ?_ | refine T_ret ?_ | refine S_pure tabOk rfl ?_)
      exact ret1 rfl rfl (fun w' hw => ⟨retb (decide_eq_false (fun hb => by obtain ⟨g2, _⟩ := hb.2 i hi'; unfold sright at g1; simp only [Bool.not_eq_true', decide_eq_false_iff_not] at g1; omega)).symm, hw.below (by repeat (first | exact new_nil | refine new_cons (by first | assumption | omega) ?_))⟩)
    have g1' : 0 ≤ its[i].2.1 ∧ its[i].2.1 < 8 ∧ its[i].2.2.length ≤ 4096 := by
      unfold sright at g1
      simp only [Bool.not_eq_false', decide_eq_true_eq] at g1
      omega
    repeat (first | refine D_pure tabOk rfl ?_ | refine D_load tabOk 0 rfl rfl rfl ?_ | refine D_load tabOk 1 rfl rfl rfl ?_)
    refine D_split rfl rfl (fun g2 => ?_) (fun g2 => ?_)
    · repeat (first | refine D_all rfl ?_ | refine D_pure tabOk rfl ?_ | refine D_pass rfl rfl rfl ?_)
      refine T_cond_t rfl ?_
      repeat (first | refine T_seq ?_ | refine T_region ?_ | refine S_nil ?_ | refine inb_ret ?_ | refine pthen_ret ?_ | refine T_ret ?_ | refine S_pure tabOk rfl ?_)
      exact ret1 rfl rfl (fun w' hw => ⟨retb (decide_eq_false (fun hb => by obtain ⟨_, g3, _⟩ := hb.2 i hi'; omega)).symm, hw.below (by repeat (first | exact new_nil | refine new_cons (by first | assumption | omega) ?_))⟩)
    repeat (first | refine D_pure tabOk rfl ?_)
    refine D_split rfl rfl (fun g3 => ?_) (fun g3 => ?_)
    · have hip : i - 1 < its.length := by omega
      obtain ⟨ab2, off2, a2, n2, c2, hia2, hN2, hk2, hrd2⟩ := item_read hx.tt hip
      rw [hia] at hia2
      cases hia2
      repeat (first | refine D_i64 tabOk rfl (by omega) ?_ | refine D_pure tabOk rfl ?_ | refine D_load tabOk 0 rfl rfl rfl ?_ | refine D_load tabOk 1 rfl rfl rfl ?_)
      rw [hia]
      refine D_q (Q_idx (sz := 3) tabOk rfl rfl rfl rfl rfl rfl rfl (j := i - 1) (by omega) (by omega)) ?_
      repeat (first | refine D_pure tabOk rfl ?_)
      refine D_load1 tabOk (v := .int .u64 its[i - 1].1) rfl rfl (fun w' hw => (hrd2 w' (hw.below (by repeat (first | exact new_nil | refine new_cons (by first | assumption | omega) ?_)))).1 0 _ rfl) ?_
      repeat (first | refine D_all rfl ?_ | refine D_pure tabOk rfl ?_)
      refine T_cond_dec rfl (fun g4 => ?_) (fun g4 => ?_)
      · repeat (first | refine T_seq ?_ | refine T_region ?_ | refine S_nil ?_ | refine inb_ret ?_ | refine pthen_ret ?_ | refine T_ret ?_ | refine S_pure tabOk rfl ?_)
        exact ret1 rfl rfl (fun w' hw => ⟨retb (decide_eq_false (fun hb => by
          obtain ⟨_, _, g5⟩ := hb.2 i hi'
          have := g5 (i - 1) hip (by omega)
          omega)).symm, hw.below (by repeat (first | exact new_nil | refine new_cons (by first | assumption | omega) ?_))⟩)
      · repeat (first | refine T_region ?_ | refine S_nil ?_ | refine pthen_normal ?_ | refine inb_normal ?_ | refine T_skip ?_ | refine S_i64 tabOk rfl (by omega) ?_ | refine S_pure tabOk rfl ?_)
        exact ⟨i + 1, ⟨by omega, fun k hk hki => by
          rcases Nat.lt_or_ge k i with h6 | h6
          · exact hyes k hk h6
          · have e : k = i := by omega
            subst e
            refine ⟨g1', by omega, fun y hy => ?_⟩
            rw [if_neg (by omega), List.getElem?_eq_getElem hip] at hy
            cases hy
            omega⟩, by repeat (first | exact Sub.nil | refine Sub.cons rfl ?_), fun w' hw => hw.less (by repeat (first | exact Less.nil | refine Less.keep ?_ | refine Less.dropB (by first | assumption | omega) ?_)), by omega⟩
    · repeat (first | refine D_all rfl ?_ | refine D_pure tabOk rfl ?_ | refine D_pass rfl rfl rfl ?_)
      refine T_cond_f rfl ?_
      repeat (first | refine T_region ?_ | refine S_nil ?_ | refine pthen_normal ?_ | refine inb_normal ?_ | refine T_skip ?_ | refine S_i64 tabOk rfl (by omega) ?_ | refine S_pure tabOk rfl ?_)
      exact ⟨i + 1, ⟨by omega, fun k hk hki => by
        have e : k = i := by omega
        subst e
        refine ⟨g1', by omega, fun y hy => ?_⟩
        rw [if_pos (by omega)] at hy
        cases hy⟩, by repeat (first | exact Sub.nil | refine Sub.cons rfl ?_), fun w' hw => hw.less (by repeat (first | exact Less.nil | refine Less.keep ?_ | refine Less.dropB (by first | assumption | omega) ?_)), by omega⟩
  · repeat (first | refine T_seq ?_ | refine T_region ?_ | refine S_nil ?_ | refine pthen_normal ?_ | refine inb_hit ?_ | refine pthen_exit ?_ | refine T_ret ?_ | refine T_exit ?_ | refine S_pure tabOk rfl ?_)
    refine ret1 rfl rfl (fun w' hw => ⟨retb (decide_eq_true ⟨hcar, fun k hk => ?_⟩).symm, hw.below (by repeat (first | exact new_nil | refine new_cons (by first | assumption | omega) ?_))⟩)
    obtain ⟨g1, g2, g3⟩ := hyes k hk (by omega)
    refine ⟨g1, g2, fun j hj hjk => g3 _ ?_⟩
    rw [if_neg (by omega), show k - 1 = j by omega, List.getElem?_eq_getElem hj]
end Go.Proofs.Ytnefhhoijonnaaa
