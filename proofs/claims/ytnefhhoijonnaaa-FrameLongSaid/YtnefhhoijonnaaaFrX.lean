/-
  Frames: the document's Decode. Conditions: each theorem's own.
-/
import Derived.Test.YtnefhhoijonnaaaFrW
namespace Go.Proofs.Ytnefhhoijonnaaa
open Go Go.RowKit
set_option linter.unusedVariables false

abbrev refO (H : Hd) (s : Fs) : Obj := .cells ⟨frC .i64 H s⟩ 33 (0, 0)
def mid1 (all : List Int) (H : Hd) (q : St) : Hd × St := if H.kd = 1 then (H, q) else (⟨H.kd, H.ag, H.ep, (pN all q).2, H.ba, H.cu, H.li⟩, (pN all q).1)
def hCL (H : Hd) (y z : Int) : Hd := ⟨H.kd, H.ag, H.ep, H.inc, H.ba, y, z⟩
def mid2 (all : List Int) (H : Hd) (q : St) : DR :=
  if H.kd = 1 ∨ H.kd = 3 then ⟨hBa H (pN all q).2, [], [], (pN all q).1⟩
  else ⟨hCL H (pN all q).2 (pN all (pN all q).1).2, (pR all (pF all 32 (pN all (pN all q).1).1).1 (pF all 32 (pN all (pN all q).1).1).2.toNat).2, [], (pR all (pF all 32 (pN all (pN all q).1).1).1 (pF all 32 (pN all (pN all q).1).1).2.toNat).1⟩
def mid3 (all : List Int) (d : DR) : DR := if d.H.kd = 3 then ⟨d.H, d.rs, (pI all (pF all 64 d.q).1 (pF all 64 d.q).2.toNat).2, (pI all (pF all 64 d.q).1 (pF all 64 d.q).2.toNat).1⟩ else d
theorem partD_mid (all : List Int) (H : Hd) (q : St) : partD all H q = mid3 all (mid2 all (mid1 all H q).1 (mid1 all H q).2) := by
  by_cases h1 : H.kd = 1
  · have e1 : mid1 all H q = (H, q) := by unfold mid1; rw [if_pos h1]
    have e2 : mid2 all H q = ⟨hBa H (pN all q).2, [], [], (pN all q).1⟩ := by unfold mid2; rw [if_pos (.inl h1)]
    have e3 : mid3 all ⟨hBa H (pN all q).2, [], [], (pN all q).1⟩ = ⟨hBa H (pN all q).2, [], [], (pN all q).1⟩ := by
      unfold mid3
      rw [if_neg (by show ¬ H.kd = 3; omega)]
    rw [e1, e2, e3]
    unfold partD
    rw [if_pos h1]
  · have e1 : mid1 all H q = (⟨H.kd, H.ag, H.ep, (pN all q).2, H.ba, H.cu, H.li⟩, (pN all q).1) := by unfold mid1; rw [if_neg h1]
    obtain ⟨K, hK⟩ : ∃ K : Hd, K = ⟨H.kd, H.ag, H.ep, (pN all q).2, H.ba, H.cu, H.li⟩ := ⟨_, rfl⟩
    obtain ⟨q1, hq1⟩ : ∃ q1, q1 = (pN all q).1 := ⟨_, rfl⟩
    have hk : K.kd = H.kd := by rw [hK]
    rw [e1, ← hK, ← hq1]
    dsimp only
    by_cases h3 : H.kd = 3
    · have e2 : mid2 all K q1 = ⟨hBa K (pN all q1).2, [], [], (pN all q1).1⟩ := by unfold mid2; rw [if_pos (.inr (hk.trans h3))]
      rw [e2]
      unfold mid3
      rw [if_pos (by exact hk.trans h3)]
      unfold partD
      rw [if_neg h1, if_pos h3, hK, hq1]
      rfl
    · have e2 : mid2 all K q1 = ⟨hCL K (pN all q1).2 (pN all (pN all q1).1).2, (pR all (pF all 32 (pN all (pN all q1).1).1).1 (pF all 32 (pN all (pN all q1).1).1).2.toNat).2, [], (pR all (pF all 32 (pN all (pN all q1).1).1).1 (pF all 32 (pN all (pN all q1).1).1).2.toNat).1⟩ := by unfold mid2; rw [if_neg (by omega)]
      rw [e2]
      unfold mid3
      rw [if_neg (show ¬ (hCL K (pN all q1).2 (pN all (pN all q1).1).2).kd = 3 from fun h => h3 (hk.symm.trans h))]
      unfold partD
      rw [if_neg h1, if_neg h3, hK, hq1]
      rfl
structure DrI where
  i : Nat
  k : Int
  a : Option Addr
  c : Nat
structure DsI where
  i : Nat
  k : Int
  a : Option Addr
  c : Nat
  css : List (List Value)
  G : Nat → Prop
theorem pm8 {α : Type} (x0 x1 x2 x3 x4 x5 x6 x7 x8 : α) : List.Perm [x0, x1, x2, x3, x4, x5, x6, x7, x8] [x3, x2, x4, x5, x6, x7, x8, x1, x0] := by
  have hP : List.Perm ([0, 1, 2, 3, 4, 5, 6, 7, 8] : List Nat) [3, 2, 4, 5, 6, 7, 8, 1, 0] := by decide
  exact hP.map fun i => ([x0, x1, x2, x3, x4, x5, x6, x7, x8][i]?).getD x0
theorem pm9 {α : Type} (x0 x1 x2 x3 x4 x5 x6 x7 x8 x9 : α) : List.Perm [x0, x1, x2, x3, x4, x5, x6, x7, x8, x9] [x3, x7, x0, x1, x2, x4, x5, x6, x8, x9] := by
  have hP : List.Perm ([0, 1, 2, 3, 4, 5, 6, 7, 8, 9] : List Nat) [3, 7, 0, 1, 2, 4, 5, 6, 8, 9] := by decide
  exact hP.map fun i => ([x0, x1, x2, x3, x4, x5, x6, x7, x8, x9][i]?).getD x0
theorem pm10 {α : Type} (x0 x1 x2 x3 x4 x5 x6 x7 x8 : α) : List.Perm [x0, x1, x2, x3, x4, x5, x6, x7, x8] [x1, x2, x3, x0, x4, x5, x6, x7, x8] := by
  have hP : List.Perm ([0, 1, 2, 3, 4, 5, 6, 7, 8] : List Nat) [1, 2, 3, 0, 4, 5, 6, 7, 8] := by decide
  exact hP.map fun i => ([x0, x1, x2, x3, x4, x5, x6, x7, x8][i]?).getD x0
theorem pm11 {α : Type} (x0 x1 x2 x3 x4 x5 x6 : α) : List.Perm [x0, x1, x2, x3, x4, x5, x6] [x2, x3, x0, x1, x4, x5, x6] := by
  have hP : List.Perm ([0, 1, 2, 3, 4, 5, 6] : List Nat) [2, 3, 0, 1, 4, 5, 6] := by decide
  exact hP.map fun i => ([x0, x1, x2, x3, x4, x5, x6][i]?).getD x0
open Classical in
set_option maxHeartbeats 8000000 in
theorem rdecode_ok {a : Option Addr} {n c : Nat} {zs : List Int} (w : World) (hx : Ints .u8 w a n c zs) : Calls Try.prog 26 #[.slice a n c] w fun e w' => ∃ s, e = .returned (.tuple #[refV (decT zs).2.1 s, .int .i64 (decT zs).1]) ∧ Below w.heap.size w w' ∧ FsR w' (fun k => w.heap.size ≤ k) s (decT zs).2.2.1 (decT zs).2.2.2 := by
  have hl := hx.len
  refine enter1 Try.func26 rfl rfl (Hp.refl w) ?_
  repeat (first | refine T_seq ?_ | refine T_region ?_)
  refine S_new tabOk rfl (fun b2 hb2 => ?_)
  repeat (first | refine T_seq ?_ | refine T_region ?_ | refine S_nil ?_ | refine S_pure tabOk rfl ?_)
  refine T_cond_dec rfl (fun h1 => ?_) (fun h1 => ?_)
  · have e : decT zs = (6, zH, [], []) := by unfold decT; rw [if_pos (by omega)]
    rw [e]
    repeat (first | refine T_seq ?_ | refine T_region ?_ | refine S_nil ?_ | refine pthen_ret ?_ | refine T_ret ?_ | refine S_pure tabOk rfl ?_ | refine S_store tabOk 0 rfl rfl rfl rfl rfl rfl ?_ | refine S_q (Q_build tabOk rfl rfl rfl rfl rfl rfl rfl) ?_)
    exact ret2 rfl (ResIs.cellO tabOk 0 rfl rfl rfl rfl) rfl (fun w' hw => ⟨⟨none, 0, 0, none, 0, 0⟩, rfl, hw.below (by repeat (first | exact new_nil | refine new_cons (by first | assumption | omega) ?_)), fsR_zero _ _⟩)
  repeat (first | refine T_seq ?_ | refine T_region ?_ | refine pthen_normal ?_ | refine T_skip ?_ | refine S_pure tabOk rfl ?_)
  refine S_callrow2 (m := (openR zs).length) (xs := (openR zs).map (.int .u8)) (v2 := .int .i64 (openE zs)) (E := 5) (sz := 1) rfl Try.call65 (fun w1 h1 => refopen_ok a n c zs w1 (ints_ext hx (h1.below (by repeat (first | exact new_nil | refine new_cons (by first | assumption | omega) ?_)))) (by omega)) (fun A C hc1 hd1 => ?_)
  obtain ⟨all, hall⟩ : ∃ all, all = openR zs := ⟨_, rfl⟩
  have hbd := openR_bd hx.fits
  rw [← hall] at hbd hc1 ⊢
  repeat (first | refine T_seq ?_ | refine T_region ?_ | refine S_nil ?_ | refine S_pure tabOk rfl ?_)
  refine T_cond_dec rfl (fun h2 => ?_) (fun h2 => ?_)
  · have e : decT zs = (openE zs, zH, [], []) := by unfold decT; rw [if_neg (by omega), if_pos h2]
    rw [e]
    repeat (first | refine T_seq ?_ | refine T_region ?_ | refine S_nil ?_ | refine pthen_ret ?_ | refine T_ret ?_ | refine S_pure tabOk rfl ?_ | refine S_store tabOk 1 rfl rfl rfl rfl rfl rfl ?_ | refine S_q (Q_build tabOk rfl rfl rfl rfl rfl rfl rfl) ?_)
    exact ret2 rfl (ResIs.cellO tabOk 1 rfl rfl rfl rfl) rfl (fun w' hw => ⟨⟨none, 0, 0, none, 0, 0⟩, rfl, hw.below (by repeat (first | exact new_nil | refine new_cons (by first | assumption | omega) ?_ | refine newrow hw 0 rfl (Nat.le_refl _) ?_)), fsR_zero _ _⟩)
  have h2' : openE zs = 0 := Decidable.not_not.1 h2
  repeat (first | refine T_seq ?_ | refine T_region ?_ | refine pthen_normal ?_ | refine T_skip ?_ | refine S_pure tabOk rfl ?_ | refine S_q (Q_build tabOk rfl rfl rfl rfl rfl rfl rfl) ?_)
  refine S_new tabOk rfl (fun b hb => ?_)
  obtain ⟨N, hN⟩ : ∃ N, N = all.length := ⟨_, rfl⟩
  rw [← hN] at hc1 ⊢
  have hIn : ∀ {w0 w : World} {o : OL} {base : Nat}, Hp w0 w o → ∀ i, getE o i = some (.row base (.slice A N C) 5 1 N (all.map (.int .u8))) → Ints .u8 w A N C all := fun h i hi => ints_of_own (h.own _ (getE_mem hi)) hbd.1
  have hNN : N ≤ 1073741824 := by omega
  have hNb : ∀ k, FB b k → w.heap.size ≤ k := fun k hk => by rw [show k = b from hk]; exact hb
  refine S_kn (p := (∀ b' off, A = some ⟨b', off, none⟩ → b' ≠ b)) (fun w1 h1 => h1.dis 0 1 rfl rfl) (fun hap => ?_)
  refine S_heap (fun w' h => h.rinAt (s := (0, 0)) 0 rfl (Nat.zero_le _) rfl) ?_
  repeat (first | refine T_seq ?_ | refine T_region ?_ | refine S_nil ?_ | refine S_pure tabOk rfl ?_)
  refine S_rin 0 rfl Try.call66 rfl (fun w1 h1 h => rbyte5_t h (hIn h1 1 rfl) hap hNN) rfl ?_
  have hkf := fits_u8 (pB_fit hbd.1 (0, 0))
  obtain ⟨kd, hkd⟩ : ∃ k, k = (pB all (0, 0)).2 := ⟨_, rfl⟩
  rw [← hkd] at hkf ⊢
  repeat (first | refine S_i64 tabOk rfl (by omega) ?_ | refine S_q (Q_build tabOk rfl rfl rfl rfl rfl rfl rfl) ?_)
  refine S_new tabOk rfl (fun bf hbf => ?_)
  repeat (first | refine T_seq ?_ | refine T_region ?_ | refine S_nil ?_ | refine S_pure tabOk rfl ?_ | refine S_load tabOk 0 rfl rfl rfl ?_ | refine S_store tabOk 0 rfl rfl rfl rfl rfl rfl ?_)
  have hbad : ¬ okK kd → decT zs = (2, zH, [], []) := fun hk => by
    unfold decT
    rw [if_neg (by omega), if_neg h2, ← hall, if_pos (fun h => hk (by rw [hkd]; exact h))]
  by_cases hk1 : kd < 1
  · rw [hbad (by unfold okK; omega)]
    refine S_re 35 (v' := .bool true) rfl (congrArg Value.bool (decide_eq_true hk1)) ?_
    repeat (first | refine S_nil ?_ | refine S_pure tabOk rfl ?_ | refine S_pass rfl rfl rfl ?_)
    refine T_cond_t rfl ?_
    repeat (first | refine T_seq ?_ | refine T_region ?_ | refine S_nil ?_ | refine pthen_ret ?_ | refine T_ret ?_ | refine S_pure tabOk rfl ?_ | refine S_store tabOk 3 rfl rfl rfl rfl rfl rfl ?_ | refine S_q (Q_build tabOk rfl rfl rfl rfl rfl rfl rfl) ?_)
    exact ret2 rfl (ResIs.cellO tabOk 3 rfl rfl rfl rfl) rfl (fun w' hw => ⟨⟨none, 0, 0, none, 0, 0⟩, rfl, hw.below (by repeat (first | exact new_nil | refine new_rx (by assumption) ?_ | refine new_cons (by first | assumption | omega) ?_ | refine newrow hw 2 rfl (Nat.le_refl _) ?_)), fsR_zero _ _⟩)
  refine S_re 35 (v' := .bool false) rfl (congrArg Value.bool (decide_eq_false hk1)) ?_
  repeat (first | refine S_nil ?_ | refine S_pure tabOk rfl ?_ | refine S_load tabOk 0 rfl rfl rfl ?_)
  refine T_cond_dec rfl (fun hk2 => ?_) (fun hk2 => ?_)
  · rw [hbad (by unfold okK; omega)]
    repeat (first | refine T_seq ?_ | refine T_region ?_ | refine S_nil ?_ | refine pthen_ret ?_ | refine T_ret ?_ | refine S_pure tabOk rfl ?_ | refine S_store tabOk 3 rfl rfl rfl rfl rfl rfl ?_ | refine S_q (Q_build tabOk rfl rfl rfl rfl rfl rfl rfl) ?_)
    exact ret2 rfl (ResIs.cellO tabOk 3 rfl rfl rfl rfl) rfl (fun w' hw => ⟨⟨none, 0, 0, none, 0, 0⟩, rfl, hw.below (by repeat (first | exact new_nil | refine new_rx (by assumption) ?_ | refine new_cons (by first | assumption | omega) ?_ | refine newrow hw 2 rfl (Nat.le_refl _) ?_)), fsR_zero _ _⟩)
  have hok : okK kd := by unfold okK; omega
  repeat (first | refine T_seq ?_ | refine T_region ?_ | refine pthen_normal ?_ | refine T_skip ?_ | refine S_pure tabOk rfl ?_)
  refine S_rin 1 rfl Try.call67 rfl (fun w1 h1 h => most_t (by decide) h (hIn h1 2 rfl) hap hNN) rfl ?_
  repeat (first | refine T_seq ?_ | refine T_region ?_ | refine S_nil ?_ | refine S_pure tabOk rfl ?_ | refine S_store tabOk 0 rfl rfl rfl rfl rfl rfl ?_)
  refine S_rin 1 rfl Try.call68 rfl (fun w1 h1 h => rnum_t h (hIn h1 2 rfl) hap hNN) rfl ?_
  repeat (first | refine T_seq ?_ | refine T_region ?_ | refine S_nil ?_ | refine S_pure tabOk rfl ?_ | refine S_load tabOk 0 rfl rfl rfl ?_ | refine S_store tabOk 0 rfl rfl rfl rfl rfl rfl ?_)
  obtain ⟨H0, hH0⟩ : ∃ H0, H0 = (headD all).1 := ⟨_, rfl⟩
  obtain ⟨q0, hq0⟩ : ∃ q0, q0 = (headD all).2 := ⟨_, rfl⟩
  have hkd0 : H0.kd = kd := by rw [hH0, hkd]; rfl
  refine T_cut (ι := Unit) (fun _ => True) (fun _ => [(2, .pointer (some ⟨b2, 0, none⟩)), (3, .int .i64 0), (6, .pointer (some ⟨b, 0, none⟩)), (7, .pointer (some ⟨bf, 0, none⟩))])
    (fun _ => [.blk bf (refO (mid1 all H0 q0).1 ⟨none, 0, 0, none, 0, 0⟩) true, rinE b A N C (mid1 all H0 q0).2, .row w.heap.size (.slice A N C) 5 1 N (all.map (.int .u8)), .blk b2 (refO zH ⟨none, 0, 0, none, 0, 0⟩) true]) ?_ ?_
  · refine T_cond_dec rfl (fun h7 => ?_) (fun h7 => ?_)
    · have e : mid1 all H0 q0 = (⟨H0.kd, H0.ag, H0.ep, (pN all q0).2, H0.ba, H0.cu, H0.li⟩, (pN all q0).1) := by unfold mid1; rw [if_neg (by rw [hkd0]; exact h7)]
      rw [e]
      repeat (first | refine T_region ?_ | refine S_pure tabOk rfl ?_)
      refine S_rin 1 rfl Try.call68 rfl (fun w1 h1 h => rnum_t h (hIn h1 2 rfl) hap hNN) rfl ?_
      repeat (first | refine S_nil ?_ | refine S_pure tabOk rfl ?_ | refine S_store tabOk 0 rfl rfl rfl rfl rfl rfl ?_)
      refine ⟨(), trivial, by repeat (first | exact Sub.nil | refine Sub.cons rfl ?_), fun w' hw => ?_⟩
      rw [hH0, hq0]
      unfold headD
      rw [← hkd]
      exact hw
    · have e : mid1 all H0 q0 = (H0, q0) := by unfold mid1; rw [if_pos (by rw [hkd0]; omega)]
      rw [e]
      repeat (first | refine pthen_normal ?_ | refine T_skip ?_)
      refine ⟨(), trivial, by repeat (first | exact Sub.nil | refine Sub.cons rfl ?_), fun w' hw => ?_⟩
      rw [hH0, hq0]
      unfold headD
      rw [← hkd]
      exact hw
  rintro _ _
  have hk1' : (mid1 all H0 q0).1.kd = kd := by
    rw [← hkd0]
    unfold mid1
    split <;> rfl
  obtain ⟨d2, hd2⟩ : ∃ d, d = mid2 all (mid1 all H0 q0).1 (mid1 all H0 q0).2 := ⟨_, rfl⟩
  have hpd : partD all H0 q0 = mid3 all d2 := by rw [hd2, partD_mid]
  generalize mid1 all H0 q0 = m1 at hk1' hd2 ⊢
  obtain ⟨H1, q1⟩ := m1
  dsimp only at hk1' hd2 ⊢
  repeat (first | refine T_seq ?_ | refine T_region ?_ | refine S_pure tabOk rfl ?_ | refine S_load tabOk 0 rfl rfl rfl ?_)
  refine S_q (Q_rem0 rfl rfl rfl (by decide) (by rw [hk1']; exact hkf.1)) ?_
  repeat (first | refine S_nil ?_ | refine S_pure tabOk rfl ?_)
  refine T_cut (ι := Option Addr × Nat) (fun _ => True) (fun _ => [(2, .pointer (some ⟨b2, 0, none⟩)), (3, .int .i64 0), (6, .pointer (some ⟨b, 0, none⟩)), (7, .pointer (some ⟨bf, 0, none⟩))])
    (fun i => [.blk bf (refO d2.H ⟨i.1, d2.rs.length, i.2, none, 0, 0⟩) true, rinE b A N C d2.q, .row w.heap.size (.slice i.1 d2.rs.length i.2) 101 2 d2.rs.length (cellsR d2.rs), .row w.heap.size (.slice A N C) 5 1 N (all.map (.int .u8)), .blk b2 (refO zH ⟨none, 0, 0, none, 0, 0⟩) true]) ?_ ?_
  · refine T_cond_dec rfl (fun h7 => ?_) (fun h7 => ?_)
    · have e : d2 = ⟨hBa H1 (pN all q1).2, [], [], (pN all q1).1⟩ := by rw [hd2]; unfold mid2; rw [if_pos (by omega)]
      rw [e]
      repeat (first | refine T_region ?_ | refine S_pure tabOk rfl ?_)
      refine S_rin 1 rfl Try.call68 rfl (fun w1 h1 h => rnum_t h (hIn h1 2 rfl) hap hNN) rfl ?_
      repeat (first | refine S_nil ?_ | refine S_pure tabOk rfl ?_ | refine S_store tabOk 0 rfl rfl rfl rfl rfl rfl ?_)
      exact ⟨(none, 0), trivial, by repeat (first | exact Sub.nil | refine Sub.cons rfl ?_), fun w' hw => (hw.nilRow 101 2).perm (by repeat (first | exact List.Perm.refl _ | refine (List.Perm.swap _ _ _).trans (List.Perm.cons _ ?_)))⟩
    · have hd2' : d2 = ⟨hCL H1 (pN all q1).2 (pN all (pN all q1).1).2, (pR all (pF all 32 (pN all (pN all q1).1).1).1 (pF all 32 (pN all (pN all q1).1).1).2.toNat).2, [], (pR all (pF all 32 (pN all (pN all q1).1).1).1 (pF all 32 (pN all (pN all q1).1).1).2.toNat).1⟩ := by rw [hd2]; unfold mid2; rw [if_neg (by omega)]
      repeat (first | refine T_seq ?_ | refine T_region ?_ | refine S_pure tabOk rfl ?_)
      refine S_rin 1 rfl Try.call68 rfl (fun w1 h1 h => rnum_t h (hIn h1 2 rfl) hap hNN) rfl ?_
      repeat (first | refine T_seq ?_ | refine T_region ?_ | refine S_nil ?_ | refine S_pure tabOk rfl ?_ | refine S_store tabOk 0 rfl rfl rfl rfl rfl rfl ?_)
      refine S_rin 1 rfl Try.call68 rfl (fun w1 h1 h => rnum_t h (hIn h1 2 rfl) hap hNN) rfl ?_
      repeat (first | refine T_seq ?_ | refine T_region ?_ | refine S_nil ?_ | refine S_pure tabOk rfl ?_ | refine S_store tabOk 0 rfl rfl rfl rfl rfl rfl ?_)
      refine S_rin 1 rfl Try.call67 rfl (fun w1 h1 h => most_t (by decide) h (hIn h1 2 rfl) hap hNN) rfl ?_
      obtain ⟨p3', hp3⟩ : ∃ x, x = (pN all (pN all q1).1).1 := ⟨_, rfl⟩
      rw [← hp3] at hd2' ⊢
      have hfb := pF_bd hbd.1 (most := 32) (by decide) p3'
      obtain ⟨m, hm⟩ : ∃ m : Nat, (pF all 32 p3').2 = (m : Int) := ⟨(pF all 32 p3').2.toNat, by omega⟩
      have hm32 : m ≤ 32 := by omega
      obtain ⟨q2, hq2⟩ : ∃ x, x = (pF all 32 p3').1 := ⟨_, rfl⟩
      rw [hm, ← hq2, Int.toNat_natCast] at hd2'
      rw [hm, ← hq2]
      obtain ⟨G, hG⟩ : ∃ G, G = hCL H1 (pN all q1).2 (pN all (pN all q1).1).2 := ⟨_, rfl⟩
      rw [← hG] at hd2'
      repeat (first | refine T_block ?_ | refine S_nil ?_ | refine S_pure tabOk rfl ?_)
      refine T_loop (ι := DrI) (fun i => [(2, .pointer (some ⟨b2, 0, none⟩)), (3, .int .i64 0), (6, .pointer (some ⟨b, 0, none⟩)), (7, .pointer (some ⟨bf, 0, none⟩)), (8, .int .i64 i.k)])
        (fun i => [.blk bf (refO G ⟨i.a, i.i, i.c, none, 0, 0⟩) true, rinE b A N C (pR all q2 i.i).1, .row w.heap.size (.slice i.a i.i i.c) 101 2 i.i (cellsR (pR all q2 i.i).2), .row w.heap.size (.slice A N C) 5 1 N (all.map (.int .u8)), .blk b2 (refO zH ⟨none, 0, 0, none, 0, 0⟩) true])
        (fun i => i.i ≤ m ∧ i.k = (m : Int) - i.i) (fun i => m - i.i) ⟨0, m, none, 0⟩ ⟨Nat.zero_le _, by dsimp only; omega⟩ (by repeat (first | exact Sub.nil | refine Sub.cons rfl ?_)) (fun w' hw => by
          rw [hG]
          exact (hw.nilRow 101 2).perm (by repeat (first | exact List.Perm.refl _ | refine (List.Perm.swap _ _ _).trans (List.Perm.cons _ ?_)))) ?_
      rintro ⟨i, k, a1, c1⟩ ⟨hi, hk⟩
      dsimp only at hi hk ⊢
      repeat (first | refine T_seq ?_ | refine T_region ?_ | refine S_nil ?_ | refine S_pure tabOk rfl ?_)
      refine T_cond_dec rfl (fun h => ?_) (fun h => ?_)
      · obtain ⟨σ, hσ⟩ : ∃ σ, σ = (pR all q2 i).1 := ⟨_, rfl⟩
        obtain ⟨rl, hrl⟩ : ∃ rl, rl = (pR all q2 i).2 := ⟨_, rfl⟩
        have hnx : pR all q2 (i + 1) = ((pRun all σ).1, rl ++ [(pRun all σ).2]) := by rw [hσ, hrl]; rfl
        rw [← hσ, ← hrl]
        have hN1 := pN_fit hbd.1 σ
        have hN2 := pN_fit hbd.1 (pN all σ).1
        obtain ⟨x1, hx1⟩ : ∃ x, x = pN all σ := ⟨_, rfl⟩
        obtain ⟨x2, hx2⟩ : ∃ x, x = pN all x1.1 := ⟨_, rfl⟩
        have hpr : pRun all σ = (x2.1, (x1.2, x2.2)) := by rw [hx2, hx1]; rfl
        repeat (first | refine T_seq ?_ | refine T_region ?_ | refine T_block ?_ | refine pthen_normal ?_ | refine T_skip ?_ | refine S_pure tabOk rfl ?_)
        refine S_rin 1 (s' := x1.1) (v := .int .u64 x1.2) rfl Try.call68 rfl (fun w1 h1 h => by rw [hx1]; exact rnum_t h (hIn h1 3 rfl) hap hNN) rfl ?_
        repeat (first | refine S_nil ?_ | refine S_pure tabOk rfl ?_)
        let lst : Bool → Bool → Bool → Bool → Value → Value → OL := fun l4 l6 l7 l9 x6 x7 =>
          .blk bf (.cells ⟨[.int .i64 G.kd, .int .i64 G.ag, .int .u64 G.ep, .int .u64 G.inc, .int .u64 G.ba, .int .u64 G.cu, .int .u64 G.li, cond l9 x7 (.slice a1 i c1), .slice none 0 0]⟩ 33 (0, 0)) true :: rinE b A N C (cond l4 x2.1 x1.1) :: .row w.heap.size (cond l7 x7 (.slice a1 i c1)) 101 2 (cond l7 (i + 1) i) (cond l7 (cellsR rl ++ encR (x1.2, x2.2)) (cellsR rl)) :: .row w.heap.size (.slice A N C) 5 1 N (all.map (.int .u8)) :: .blk b2 (refO zH ⟨none, 0, 0, none, 0, 0⟩) true :: cond l6 [.row w.heap.size x6 101 2 1 (encR (x1.2, x2.2))] []
        refine T_asThen ?_
        refine T_drawF (γ := Unit) (by kernel_rfl) (by kernel_rfl) () (fun L f => lst (L 4) (L 6) (L 7) (L 9) (f 6).1 (f 7).1) rfl [some (.pointer (some ⟨bf, 7, none⟩)), some (.slice a1 i c1), some (.int .u64 x1.2), some (.pointer (some ⟨b, 0, none⟩)), some (.int .u64 x2.2), some (.agg ⟨encR (x1.2, x2.2)⟩), none, none, some (.pointer (some ⟨bf, 7, none⟩)), none] ?_ ?_
        · refine ⟨?_, ?_, ?_, ?_, ?_, ?_, ?_, ?_, ?_, ?_, trivial⟩
          · exact fun L f hc hl hp => OpA.told () rfl (D_pure tabOk rfl D_last) rfl
          · intro L f hc hl hp
            have h9 := closed_no hc (j := 9) rfl ⟨1, .phase⟩ (by simp) rfl hl
            show OpA _ _ _ _ (lst (L 4) (L 6) (L 7) (L 9) (f 6).1 (f 7).1) (fun y => lst (L 4) (L 6) (L 7) (L 9) (f 6).1 (f 7).1) _ _ _
            rw [h9]
            exact OpA.told () rfl (D_load tabOk 0 rfl rfl rfl D_last) rfl
          · exact fun L f hc hl hp => OpA.told () rfl (D_pure tabOk rfl D_last) rfl
          · exact fun L f hc hl hp => OpA.told () rfl (D_pure tabOk rfl D_last) rfl
          · intro L f hc hl hp
            have h5 := closed_no hc (j := 5) rfl ⟨4, .data⟩ (by simp) rfl hl
            have h6 := closed_no hc (j := 6) rfl ⟨5, .data⟩ (by simp) rfl h5
            have h7 := closed_no hc (j := 7) rfl ⟨6, .data⟩ (by simp) rfl h6
            have h9 := closed_no hc (j := 9) rfl ⟨7, .data⟩ (by simp) rfl h7
            show OpA _ _ _ _ (lst (L 4) (L 6) (L 7) (L 9) (f 6).1 (f 7).1) (fun y => lst true (L 6) (L 7) (L 9) (f 6).1 (f 7).1) _ _ _
            rw [hl, h6, h7, h9]
            refine OpA.ofS (l := [(78, .pointer (some ⟨b, 0, none⟩))]) rfl (by decide) (.cons rfl rfl .nil) ?_
            refine S_rin 1 (s' := x2.1) (v := .int .u64 x2.2) rfl Try.call68 rfl (fun w1 h1 h => by rw [hx2]; exact rnum_t h (hIn h1 3 rfl) hap hNN) rfl ?_
            refine S_nil ?_
            exact ⟨_, (), rfl, (fun u h => by cases h; rfl), fun w hw => hw⟩
          · exact fun L f hc hl hp => OpA.told () rfl (D_q (Q_build tabOk rfl rfl rfl rfl rfl rfl rfl) D_last) rfl
          · intro L f hc hl hp
            have h5 : L 5 = true := hp ⟨5, .data⟩ (by simp) rfl
            have h4 : L 4 = true := hc 5 _ rfl h5 ⟨4, .data⟩ (by simp) rfl
            have h7 := closed_no hc (j := 7) rfl ⟨6, .data⟩ (by simp) rfl hl
            have h9 := closed_no hc (j := 9) rfl ⟨7, .data⟩ (by simp) rfl h7
            show OpA _ _ _ _ (lst (L 4) (L 6) (L 7) (L 9) (f 6).1 (f 7).1) (fun y => lst (L 4) true (L 7) (L 9) y.1 (f 7).1) _ _ _
            rw [hl, h4, h7, h9]
            exact OpA.bsliceR tabOk rfl rfl rfl rfl rfl rfl rfl rfl rfl rfl rfl rfl rfl rfl (fun w1 v hw1 => ⟨(), hw1.perm (by repeat (first | exact List.Perm.refl _ | refine (List.Perm.swap _ _ _).trans (List.Perm.cons _ ?_)))⟩)
          · intro L f hc hl hp
            have h6 : L 6 = true := hp ⟨6, .data⟩ (by simp) rfl
            have h5 : L 5 = true := hc 6 _ rfl h6 ⟨5, .data⟩ (by simp) rfl
            have h4 : L 4 = true := hc 5 _ rfl h5 ⟨4, .data⟩ (by simp) rfl
            have h9 := closed_no hc (j := 9) rfl ⟨7, .data⟩ (by simp) rfl hl
            show OpA _ _ _ _ (lst (L 4) (L 6) (L 7) (L 9) (f 6).1 (f 7).1) (fun y => lst (L 4) (L 6) true (L 9) (f 6).1 y.1) _ _ _
            rw [hl, h4, h6, h9]
            refine OpA.pre (X := ∃ A C, (f 6).1 = .slice A 1 C) (fun w hw => ?_) (fun d h => by cases h; decide) ?_
            · obtain ⟨A, C, e2, _⟩ := hw.rowForm 5 rfl
              exact ⟨A, C, e2⟩
            · rintro ⟨A', C', e2⟩
              rw [e2]
              refine OpA.ofS (l := [(76, .slice a1 i c1), (81, .slice A' 1 C')]) rfl (by decide) (.cons rfl rfl (.cons rfl (by show some (Ent.ex (f 6).1) = _; rw [e2]) .nil)) ?_
              refine S_append (ty := 0) tabOk 2 (m := i) (v := .slice a1 i c1) (xs := cellsR rl) (news := encR (x1.2, x2.2)) rfl rfl rfl rfl rfl rfl rfl rfl rfl (by decide) (fun w' hw => Sl.of_own (hw.own _ (getE_mem (i := 5) rfl))) (by intro u hu; simp only [encR, List.mem_cons, List.not_mem_nil, or_false] at hu; rcases hu with rfl | rfl <;> rfl) (by simp only [maxLen]; omega) (by show (_ + _) * 16 ≤ _; omega) rfl (fun AS CS hcS hdS => ⟨_, rfl, ?_⟩)
              refine S_nil ?_
              exact ⟨_, (), rfl, (fun u h => by cases h), fun w hw => hw⟩
          · exact fun L f hc hl hp => OpA.told () rfl (D_pure tabOk rfl D_last) rfl
          · intro L f hc hl hp
            have h7 : L 7 = true := hp ⟨7, .data⟩ (by simp) rfl
            have h6 : L 6 = true := hc 7 _ rfl h7 ⟨6, .data⟩ (by simp) rfl
            have h5 : L 5 = true := hc 6 _ rfl h6 ⟨5, .data⟩ (by simp) rfl
            have h4 : L 4 = true := hc 5 _ rfl h5 ⟨4, .data⟩ (by simp) rfl
            show OpA _ _ _ _ (lst (L 4) (L 6) (L 7) (L 9) (f 6).1 (f 7).1) (fun y => lst (L 4) (L 6) (L 7) true (f 6).1 (f 7).1) _ _ _
            rw [hl, h4, h6, h7]
            refine OpA.pre (X := ∃ A C, (f 7).1 = .slice A (i + 1) C) (fun w hw => ?_) (fun d h => by cases h) ?_
            · obtain ⟨A, C, e2, _⟩ := hw.rowForm 2 rfl
              exact ⟨A, C, e2⟩
            · rintro ⟨A', C', e2⟩
              refine OpA.swap (dl' := [(83, .ex (.pointer (some ⟨bf, 7, none⟩))), (82, .ex (f 7).1)]) (List.forall_mem_cons.2 ⟨rfl, List.forall_mem_cons.2 ⟨rfl, fun _ h => nomatch h⟩⟩) ?_
              generalize f 7 = x7 at *
              obtain ⟨x7, g7⟩ := x7
              dsimp only at e2
              subst e2
              exact OpS.toF () (fun u h => by cases h) (OpS.store tabOk 0 rfl rfl (fun u h => by rw [List.mem_singleton] at h; subst h; rfl) rfl rfl rfl)
        · intro L f w5 hL hw
          change Hp _ _ (lst (L 4) (L 6) (L 7) (L 9) (f 6).1 (f 7).1) at hw
          rw [hL 4 (by decide), hL 6 (by decide), hL 7 (by decide), hL 9 (by decide)] at hw
          obtain ⟨A', C', e2, _⟩ := hw.rowForm 2 rfl
          generalize f 7 = x7 at hw e2 ⊢
          obtain ⟨x7, g7⟩ := x7
          have e3 : x7 = .slice A' (i + 1) C' := e2
          subst e3
          have hce : cellsR rl ++ encR (x1.2, x2.2) = cellsR (rl ++ [(x1.2, x2.2)]) := by rw [cellsR_append]; congr 1
          refine ⟨[(2, .pointer (some ⟨b2, 0, none⟩)), (3, .int .i64 0), (6, .pointer (some ⟨b, 0, none⟩)), (7, .pointer (some ⟨bf, 0, none⟩)), (8, .int .i64 k)], [.blk bf (refO G ⟨A', i + 1, C', none, 0, 0⟩) true, rinE b A N C x2.1, .row w.heap.size (.slice A' (i + 1) C') 101 2 (i + 1) (cellsR rl ++ encR (x1.2, x2.2)), .row w.heap.size (.slice A N C) 5 1 N (all.map (.int .u8)), .blk b2 (refO zH ⟨none, 0, 0, none, 0, 0⟩) true, .row w.heap.size (f 6).1 101 2 1 (encR (x1.2, x2.2))], ?_, hw, ?_⟩
          · repeat (first | exact SubD.nil | refine SubD.cons rfl ?_)
          · repeat (first | refine T_region ?_ | refine S_nil ?_ | refine pthen_normal ?_ | refine inb_normal ?_ | refine S_i64 tabOk rfl (by omega) ?_ | refine S_pure tabOk rfl ?_)
            refine ⟨⟨i + 1, k - 1, A', C'⟩, ⟨by dsimp only; omega, by dsimp only; omega⟩, by repeat (first | exact Sub.nil | refine Sub.cons rfl ?_), fun w' hw => ?_, by dsimp only; omega⟩
            dsimp only
            rw [hnx, hpr, ← hce]
            exact hw.less (by repeat (first | exact Less.nil | refine Less.keep ?_ | refine Less.dropW (Nat.le_refl _) ?_))
      · have e : i = m := by omega
        subst e
        repeat (first | refine pthen_normal ?_ | refine inb_hit ?_ | refine pthen_exit ?_ | refine T_exit ?_)
        refine ⟨(a1, c1), trivial, by repeat (first | exact Sub.nil | refine Sub.cons rfl ?_), fun w' hw => ?_⟩
        rw [hd2']
        dsimp only
        rw [pR_len]
        exact hw
  rintro ⟨ra, rc⟩ _
  obtain ⟨d3, hd3⟩ : ∃ d, d = mid3 all d2 := ⟨_, rfl⟩
  have hi2 : d2.its = [] := by
    rw [hd2]
    unfold mid2
    split <;> rfl
  have hr2 : d2.rs.length ≤ 32 := by
    rw [hd2]
    unfold mid2
    split
    · exact Nat.zero_le _
    · dsimp only
      rw [pR_len]
      have := pF_bd hbd.1 (most := 32) (by decide) (pN all (pN all q1).1).1
      omega
  have hk2 : d2.H.kd = kd := by
    rw [hd2, ← hk1']
    unfold mid2
    split <;> rfl
  clear hd2
  dsimp only
  repeat (first | refine T_seq ?_ | refine T_region ?_ | refine S_nil ?_ | refine S_pure tabOk rfl ?_ | refine S_load tabOk 0 rfl rfl rfl ?_)
  refine T_cut (ι := Option Addr × Nat × List (List Value) × (Nat → Prop)) (fun i => ∀ k, i.2.2.2 k → w.heap.size ≤ k) (fun _ => [(2, .pointer (some ⟨b2, 0, none⟩)), (3, .int .i64 0), (6, .pointer (some ⟨b, 0, none⟩)), (7, .pointer (some ⟨bf, 0, none⟩))])
    (fun i => [.blk bf (refO d3.H ⟨ra, d3.rs.length, rc, i.1, d3.its.length, i.2.1⟩) true, rinE b A N C d3.q, .row w.heap.size (.slice i.1 d3.its.length i.2.1) 98 3 d3.its.length i.2.2.1.flatten, bodE i.2.2.1 d3.its i.2.2.2, .row w.heap.size (.slice ra d3.rs.length rc) 101 2 d3.rs.length (cellsR d3.rs), .row w.heap.size (.slice A N C) 5 1 N (all.map (.int .u8)), .blk b2 (refO zH ⟨none, 0, 0, none, 0, 0⟩) true]) ?_ ?_
  · refine T_cond_dec rfl (fun h7 => ?_) (fun h7 => ?_)
    rotate_left
    · have e : d3 = d2 := by rw [hd3]; unfold mid3; rw [if_neg h7]
      rw [e, hi2]
      repeat (first | refine pthen_normal ?_ | refine T_skip ?_)
      exact ⟨(none, 0, [], fun _ => False), fun k hk => hk.elim, by repeat (first | exact Sub.nil | refine Sub.cons rfl ?_), fun w' hw => ((hw.nilBod).nilRow 98 3).perm (pm11 ..)⟩
    · have hd3' : d3 = ⟨d2.H, d2.rs, (pI all (pF all 64 d2.q).1 (pF all 64 d2.q).2.toNat).2, (pI all (pF all 64 d2.q).1 (pF all 64 d2.q).2.toNat).1⟩ := by rw [hd3]; unfold mid3; rw [if_pos h7]
      repeat (first | refine T_seq ?_ | refine T_region ?_ | refine S_pure tabOk rfl ?_)
      refine S_rin 1 rfl Try.call67 rfl (fun w1 h1 h => most_t (by decide) h (hIn h1 3 rfl) hap hNN) rfl ?_
      have hfb := pF_bd hbd.1 (most := 64) (by decide) d2.q
      obtain ⟨m, hm⟩ : ∃ m : Nat, (pF all 64 d2.q).2 = (m : Int) := ⟨(pF all 64 d2.q).2.toNat, by omega⟩
      have hm32 : m ≤ 64 := by omega
      obtain ⟨q2, hq2⟩ : ∃ x, x = (pF all 64 d2.q).1 := ⟨_, rfl⟩
      rw [hm, ← hq2, Int.toNat_natCast] at hd3'
      rw [hm, ← hq2]
      obtain ⟨G, hG⟩ : ∃ G, G = d2.H := ⟨_, rfl⟩
      rw [← hG] at hd3'
      obtain ⟨rs, hrs⟩ : ∃ G, G = d2.rs := ⟨_, rfl⟩
      rw [← hrs] at hd3' hr2
      obtain ⟨rn, hrn⟩ : ∃ G, G = rs.length := ⟨_, rfl⟩
      repeat (first | refine T_block ?_ | refine S_nil ?_ | refine S_pure tabOk rfl ?_)
      refine T_loop (ι := DsI) (fun i => [(2, .pointer (some ⟨b2, 0, none⟩)), (3, .int .i64 0), (6, .pointer (some ⟨b, 0, none⟩)), (7, .pointer (some ⟨bf, 0, none⟩)), (10, .int .i64 i.k)])
        (fun i => [.blk bf (refO G ⟨ra, rn, rc, i.a, i.i, i.c⟩) true, rinE b A N C (pI all q2 i.i).1, .row w.heap.size (.slice i.a i.i i.c) 98 3 i.i i.css.flatten, bodE i.css (pI all q2 i.i).2 i.G, .row w.heap.size (.slice ra rn rc) 101 2 rn (cellsR rs), .row w.heap.size (.slice A N C) 5 1 N (all.map (.int .u8)), .blk b2 (refO zH ⟨none, 0, 0, none, 0, 0⟩) true])
        (fun i => i.i ≤ m ∧ i.k = (m : Int) - i.i ∧ i.css.flatten.length = i.i * 3 ∧ ∀ k, i.G k → w.heap.size ≤ k) (fun i => m - i.i) ⟨0, m, none, 0, [], fun _ => False⟩ ⟨Nat.zero_le _, by dsimp only; omega, rfl, fun k hk => hk.elim⟩ (by repeat (first | exact Sub.nil | refine Sub.cons rfl ?_)) (fun w' hw => by
          rw [hG, hrn, hrs]
          exact ((hw.nilBod).nilRow 98 3).perm (pm11 ..)) ?_
      rintro ⟨i, k, a1, c1, css, D⟩ ⟨hi, hk, hcl, hD⟩
      dsimp only at hi hk hcl hD ⊢
      repeat (first | refine T_seq ?_ | refine T_region ?_ | refine S_nil ?_ | refine S_pure tabOk rfl ?_)
      refine T_cond_dec rfl (fun h => ?_) (fun h => ?_)
      · obtain ⟨σ, hσ⟩ : ∃ σ, σ = (pI all q2 i).1 := ⟨_, rfl⟩
        obtain ⟨rl, hrl⟩ : ∃ rl, rl = (pI all q2 i).2 := ⟨_, rfl⟩
        have hnx : pI all q2 (i + 1) = ((pIt all σ).1, rl ++ [(pIt all σ).2]) := by rw [hσ, hrl]; rfl
        rw [← hσ, ← hrl]
        obtain ⟨hb1, hb2', hb3⟩ := pIt_bd hbd.1 σ
        obtain ⟨x, hx'⟩ : ∃ x, x = pIt all σ := ⟨_, rfl⟩
        rw [← hx'] at hb1 hb2' hb3 hnx
        repeat (first | refine T_seq ?_ | refine T_block ?_ | refine pthen_normal ?_ | refine T_skip ?_)
        let ci : Option Addr × Nat → List Value := fun y => [.int .u64 x.2.1, .int .i64 x.2.2.1, .slice y.1 x.2.2.2.length y.2]
        let tl : OL := [.row w.heap.size (.slice ra rn rc) 101 2 rn (cellsR rs), .row w.heap.size (.slice A N C) 5 1 N (all.map (.int .u8)), .blk b2 (refO zH ⟨none, 0, 0, none, 0, 0⟩) true]
        let lst : Bool → Bool → Bool → Bool → Value × (Option Addr × Nat) → Value → Value → OL := fun l3 l4 l5 l7 x3 x4 x5 =>
          .blk bf (.cells ⟨[.int .i64 G.kd, .int .i64 G.ag, .int .u64 G.ep, .int .u64 G.inc, .int .u64 G.ba, .int .u64 G.cu, .int .u64 G.li, .slice ra rn rc, cond l7 x5 (.slice a1 i c1)]⟩ 33 (0, 0)) true :: rinE b A N C (cond l3 x.1 σ) :: .row w.heap.size (cond l5 x5 (.slice a1 i c1)) 98 3 (cond l5 (i + 1) i) (cond l5 (css.flatten ++ ci x3.2) css.flatten) :: bodE css rl D :: (tl ++ (cond l3 [.row w.heap.size (.slice x3.2.1 x.2.2.2.length x3.2.2) 5 1 x.2.2.2.length (x.2.2.2.map (.int .u8)), factE (x3.1 = .agg ⟨ci x3.2⟩)] [] ++ cond l4 [.row w.heap.size x4 98 3 1 (ci x3.2)] []))
        refine T_asThen ?_
        refine T_drawF (γ := Option Addr × Nat) (by kernel_rfl) (by kernel_rfl) (none, 0) (fun L f => lst (L 3) (L 4) (L 5) (L 7) (f 3) (f 4).1 (f 5).1) rfl [some (.pointer (some ⟨bf, 8, none⟩)), some (.slice a1 i c1), some (.pointer (some ⟨b, 0, none⟩)), none, none, none, some (.pointer (some ⟨bf, 8, none⟩)), none] ?_ ?_
        · refine ⟨?_, ?_, ?_, ?_, ?_, ?_, ?_, ?_, trivial⟩
          · exact fun L f hc hl hp => OpA.told (none, 0) rfl (D_pure tabOk rfl D_last) rfl
          · intro L f hc hl hp
            have h7 := closed_no hc (j := 7) rfl ⟨1, .phase⟩ (by simp) rfl hl
            show OpA _ _ _ _ (lst (L 3) (L 4) (L 5) (L 7) (f 3) (f 4).1 (f 5).1) (fun y => lst (L 3) (L 4) (L 5) (L 7) (f 3) (f 4).1 (f 5).1) _ _ _
            rw [h7]
            exact OpA.told (none, 0) rfl (D_load tabOk 0 rfl rfl rfl D_last) rfl
          · exact fun L f hc hl hp => OpA.told (none, 0) rfl (D_pure tabOk rfl D_last) rfl
          · intro L f hc hl hp
            have h4 := closed_no hc (j := 4) rfl ⟨3, .data⟩ (by simp) rfl hl
            have h5 := closed_no hc (j := 5) rfl ⟨4, .data⟩ (by simp) rfl h4
            have h7 := closed_no hc (j := 7) rfl ⟨5, .data⟩ (by simp) rfl h5
            show OpA _ _ _ _ (lst (L 3) (L 4) (L 5) (L 7) (f 3) (f 4).1 (f 5).1) (fun y => lst true (L 4) (L 5) (L 7) y (f 4).1 (f 5).1) _ _ _
            rw [hl, h4, h5, h7]
            refine OpA.call rfl Try.call69 (fun w1 vs hw h => ?_)
            obtain ⟨u1, _, rfl, rfl, rfl⟩ := h
            have hin : rinP b A N C σ w1 := (hw.own _ (getE_mem (i := 1) rfl)).1
            refine (ritem_t hin (hIn hw 5 rfl) hap hNN).mono fun e w2 ⟨ra', rc', e1, h2⟩ => ?_
            rw [← hx'] at e1 h2
            refine ⟨_, (ra', rc'), e1, ?_⟩
            have hw3 := hw.perm (o' := rinE b A N C σ :: .blk bf (refO G ⟨ra, rn, rc, a1, i, c1⟩) true :: .row w.heap.size (.slice a1 i c1) 98 3 i css.flatten :: bodE css rl D :: tl) (List.Perm.swap _ _ _)
            have hw4 := Hp.graftG (A := [rinE b A N C σ]) hw3 h2 (fun e he => by rw [List.mem_singleton] at he; subst he; rfl) (fun e he => by
              simp only [List.mem_cons, List.not_mem_nil, or_false] at he
              rcases he with rfl | rfl
              · exact ⟨rfl, fun k hk => .inr (World.ownsRow.lt (h2.own _ List.mem_cons_self) k hk).1⟩
              · exact ⟨rfl, fun k hk => .inl ⟨_, List.mem_cons_self, hk⟩⟩) (fun e he k hk => by
              rw [List.mem_singleton] at he
              subst he
              exact .inr ⟨_, List.mem_cons_of_mem _ List.mem_cons_self, hk⟩)
            have hw5 := Hp.reb (pre := []) (b' := w.heap.size) hw4 hw.size
            have hw6 := hw5.addF (p := (itV x.2.1 x.2.2.1 ra' x.2.2.2.length rc' : Value) = .agg ⟨ci (ra', rc')⟩) rfl
            exact hw6.perm (pm8 ..)
          · intro L f hc hl hp
            have h3 : L 3 = true := hp ⟨3, .data⟩ (by simp) rfl
            have h5 := closed_no hc (j := 5) rfl ⟨4, .data⟩ (by simp) rfl hl
            have h7 := closed_no hc (j := 7) rfl ⟨5, .data⟩ (by simp) rfl h5
            show OpA _ _ _ _ (lst (L 3) (L 4) (L 5) (L 7) (f 3) (f 4).1 (f 5).1) (fun y => lst (L 3) true (L 5) (L 7) (f 3) y.1 (f 5).1) _ _ _
            rw [hl, h3, h5, h7]
            refine OpA.pre (X := (f 3).1 = .agg ⟨ci (f 3).2⟩) (fun w hw => hw.fact 8 rfl) (fun d h => by cases h; decide) (fun e6 => ?_)
            refine OpA.swap (dl' := [(96, .ex (f 3).1)]) (List.forall_mem_cons.2 ⟨rfl, fun _ h => nomatch h⟩) ?_
            generalize f 3 = x6 at *
            obtain ⟨x6, g6⟩ := x6
            dsimp only at e6
            subst e6
            exact OpA.bsliceR tabOk rfl rfl rfl rfl rfl rfl rfl rfl rfl rfl rfl rfl rfl rfl (fun w1 v hw1 => ⟨(none, 0), hw1.perm (by repeat (first | exact List.Perm.refl _ | refine (List.Perm.swap _ _ _).trans (List.Perm.cons _ ?_)))⟩)
          · intro L f hc hl hp
            have h4 : L 4 = true := hp ⟨4, .data⟩ (by simp) rfl
            have h3 : L 3 = true := hp ⟨3, .chain⟩ (by simp) rfl
            have h7 := closed_no hc (j := 7) rfl ⟨5, .data⟩ (by simp) rfl hl
            show OpA _ _ _ _ (lst (L 3) (L 4) (L 5) (L 7) (f 3) (f 4).1 (f 5).1) (fun y => lst (L 3) (L 4) true (L 7) (f 3) (f 4).1 y.1) _ _ _
            rw [hl, h3, h4, h7]
            refine OpA.pre (X := ∃ A C, (f 4).1 = .slice A 1 C) (fun w hw => ?_) (fun d h => by cases h; decide) ?_
            · obtain ⟨A, C, e2, _⟩ := hw.rowForm 9 rfl
              exact ⟨A, C, e2⟩
            · rintro ⟨A', C', e2⟩
              rw [e2]
              refine OpA.ofS (l := [(94, .slice a1 i c1), (97, .slice A' 1 C')]) rfl (by decide) (.cons rfl rfl (.cons rfl (by show some (Ent.ex (f 4).1) = _; rw [e2]) .nil)) ?_
              refine S_append (ty := 0) tabOk 2 (m := i) (v := .slice a1 i c1) (xs := css.flatten) (news := ci (f 3).2) rfl rfl rfl rfl rfl rfl rfl rfl rfl (by decide) (fun w' hw => Sl.of_own (hw.own _ (getE_mem (i := 9) rfl))) (by intro u hu; simp only [ci, List.mem_cons, List.not_mem_nil, or_false] at hu; rcases hu with rfl | rfl | rfl <;> rfl) (by simp only [maxLen]; omega) (by show (_ + _) * 40 ≤ _; omega) rfl (fun AS CS hcS hdS => ⟨_, rfl, ?_⟩)
              refine S_nil ?_
              exact ⟨_, (none, 0), rfl, (fun u h => by cases h), fun w hw => hw⟩
          · exact fun L f hc hl hp => OpA.told (none, 0) rfl (D_pure tabOk rfl D_last) rfl
          · intro L f hc hl hp
            have h5 : L 5 = true := hp ⟨5, .data⟩ (by simp) rfl
            have h4 : L 4 = true := hc 5 _ rfl h5 ⟨4, .data⟩ (by simp) rfl
            have h3 : L 3 = true := hc 4 _ rfl h4 ⟨3, .data⟩ (by simp) rfl
            show OpA _ _ _ _ (lst (L 3) (L 4) (L 5) (L 7) (f 3) (f 4).1 (f 5).1) (fun y => lst (L 3) (L 4) (L 5) true (f 3) (f 4).1 (f 5).1) _ _ _
            rw [hl, h3, h4, h5]
            refine OpA.pre (X := ∃ A C, (f 5).1 = .slice A (i + 1) C) (fun w hw => ?_) (fun d h => by cases h) ?_
            · obtain ⟨A, C, e2, _⟩ := hw.rowForm 2 rfl
              exact ⟨A, C, e2⟩
            · rintro ⟨A', C', e2⟩
              refine OpA.swap (dl' := [(99, .ex (.pointer (some ⟨bf, 8, none⟩))), (98, .ex (f 5).1)]) (List.forall_mem_cons.2 ⟨rfl, List.forall_mem_cons.2 ⟨rfl, fun _ h => nomatch h⟩⟩) ?_
              generalize f 5 = x8 at *
              obtain ⟨x8, g8⟩ := x8
              dsimp only at e2
              subst e2
              exact OpS.toF (none, 0) (fun u h => by cases h) (OpS.store tabOk 0 rfl rfl (fun u h => by rw [List.mem_singleton] at h; subst h; rfl) rfl rfl rfl)
        · intro L f w5 hL hw
          change Hp _ _ (lst (L 3) (L 4) (L 5) (L 7) (f 3) (f 4).1 (f 5).1) at hw
          rw [hL 3 (by decide), hL 4 (by decide), hL 5 (by decide), hL 7 (by decide)] at hw
          obtain ⟨A', C', e2, _⟩ := hw.rowForm 2 rfl
          generalize f 5 = x8 at hw e2 ⊢
          obtain ⟨x8, g8⟩ := x8
          have e3 : x8 = .slice A' (i + 1) C' := e2
          subst e3
          obtain ⟨y, hy⟩ : ∃ y, y = (f 3).2 := ⟨_, rfl⟩
          have hw6 : Hp w w5 [.blk bf (refO G ⟨ra, rn, rc, A', i + 1, C'⟩) true, rinE b A N C x.1, .row w.heap.size (.slice A' (i + 1) C') 98 3 (i + 1) (css.flatten ++ ci y), bodE css rl D, .row w.heap.size (.slice ra rn rc) 101 2 rn (cellsR rs), .row w.heap.size (.slice A N C) 5 1 N (all.map (.int .u8)), .blk b2 (refO zH ⟨none, 0, 0, none, 0, 0⟩) true, .row w.heap.size (.slice y.1 x.2.2.2.length y.2) 5 1 x.2.2.2.length (x.2.2.2.map (.int .u8)), factE ((f 3).1 = .agg ⟨ci y⟩), .row w.heap.size (f 4).1 98 3 1 (ci y)] := by rw [hy]; exact hw
          have hw7 : Hp w w5 (bodE css rl D :: .row w.heap.size (.slice y.1 x.2.2.2.length y.2) 5 1 x.2.2.2.length (x.2.2.2.map (.int .u8)) :: [.blk bf (refO G ⟨ra, rn, rc, A', i + 1, C'⟩) true, rinE b A N C x.1, .row w.heap.size (.slice A' (i + 1) C') 98 3 (i + 1) (css.flatten ++ ci y), .row w.heap.size (.slice ra rn rc) 101 2 rn (cellsR rs), .row w.heap.size (.slice A N C) 5 1 N (all.map (.int .u8)), .blk b2 (refO zH ⟨none, 0, 0, none, 0, 0⟩) true, factE ((f 3).1 = .agg ⟨ci y⟩), .row w.heap.size (f 4).1 98 3 1 (ci y)]) := hw6.perm (pm9 ..)
          have hw8 := hw7.snocBod hb1 hb2' hb3
          refine ⟨[(2, .pointer (some ⟨b2, 0, none⟩)), (3, .int .i64 0), (6, .pointer (some ⟨b, 0, none⟩)), (7, .pointer (some ⟨bf, 0, none⟩)), (10, .int .i64 k)], _, ?_, hw8, ?_⟩
          · repeat (first | exact SubD.nil | refine SubD.cons rfl ?_)
          · repeat (first | refine T_region ?_ | refine S_nil ?_ | refine pthen_normal ?_ | refine inb_normal ?_ | refine S_i64 tabOk rfl (by omega) ?_ | refine S_pure tabOk rfl ?_)
            have hrow := (World.ownsRow.lt (hw6.own _ (getE_mem (i := 7) rfl)))
            refine ⟨⟨i + 1, k - 1, A', C', css ++ [ci y], fun k => D k ∨ (Value.slice y.1 x.2.2.2.length y.2).ownBlock = some k⟩, ⟨by dsimp only; omega, by dsimp only; omega, ?_, ?_⟩, by repeat (first | exact Sub.nil | refine Sub.cons rfl ?_), fun w' hw => ?_, by dsimp only; omega⟩
            · dsimp only
              rw [List.flatten_append, List.length_append, hcl]
              show i * 3 + 3 = (i + 1) * 3
              omega
            · exact fun k hk => hk.elim (hD k) fun h => (hrow k h).1
            · dsimp only
              rw [hnx, List.flatten_append, show [ci y].flatten = ci y from by simp]
              exact (hw.perm (pm10 ..)).less (by repeat (first | exact Less.nil | refine Less.keep ?_ | refine Less.dropR ?_ | refine Less.dropW (Nat.le_refl _) ?_))
      · have e : i = m := by omega
        subst e
        repeat (first | refine pthen_normal ?_ | refine inb_hit ?_ | refine pthen_exit ?_ | refine T_exit ?_)
        refine ⟨(a1, c1, css, D), hD, by repeat (first | exact Sub.nil | refine Sub.cons rfl ?_), fun w' hw => ?_⟩
        rw [hd3']
        dsimp only
        rw [pI_len, ← hrn]
        exact hw
  rintro ⟨ia, ic, css, D⟩ hD
  dsimp only at hD ⊢
  rw [← hd3] at hpd
  have hdd : innD all = d3 := by rw [← hpd, hH0, hq0]; rfl
  have hdf : d3.H.Fit := by rw [← hdd]; exact innD_fit hbd.1
  have hdr : ∀ r ∈ d3.rs, okR r := by
    rw [← hdd]
    unfold innD partD
    split
    · exact fun r hr => by cases hr
    split
    · exact fun r hr => by cases hr
    · exact pR_okR hbd.1 _ _
  have hsl : d3.rs.length ≤ 1000 := by
    have : d3.rs = d2.rs := by rw [hd3]; unfold mid3; split <;> rfl
    rw [this]
    omega
  have hee : enE d3.q.1 (all.length - d3.q.2) = endD all := by rw [← hdd]; rfl
  have hok' : okK (headD (openR zs)).1.kd := by
    rw [← hall]
    have : (headD all).1.kd = kd := by rw [hkd]; rfl
    rw [this]
    exact hok
  repeat (first | refine T_seq ?_ | refine T_region ?_ | refine S_pure tabOk rfl ?_)
  refine S_rin 1 rfl Try.call70 rfl (fun w1 h1 h => rend_t h (hIn h1 5 rfl)) rfl ?_
  rw [hee]
  repeat (first | refine T_seq ?_ | refine T_region ?_ | refine S_nil ?_ | refine S_pure tabOk rfl ?_)
  refine T_cond_dec rfl (fun h6 => ?_) (fun h6 => ?_)
  · have e : decT zs = (endD all, zH, [], []) := by
      unfold decT
      rw [if_neg (by omega), if_neg h2, if_neg (fun h => h hok'), ← hall, if_pos h6]
    rw [e]
    repeat (first | refine T_seq ?_ | refine T_region ?_ | refine S_pure tabOk rfl ?_ | refine S_q (Q_build tabOk rfl rfl rfl rfl rfl rfl rfl) ?_)
    refine S_store tabOk 6 rfl rfl rfl rfl rfl rfl ?_
    repeat (first | refine S_nil ?_ | refine pthen_ret ?_ | refine T_ret ?_ | refine S_pure tabOk rfl ?_)
    exact ret2 rfl (ResIs.cellO tabOk 6 rfl rfl rfl rfl) rfl (fun w' hw => ⟨⟨none, 0, 0, none, 0, 0⟩, rfl, hw.below (by repeat (first | exact new_nil | refine new_rx (by assumption) ?_ | refine new_cons (by first | assumption | omega) ?_ | refine newrow hw 2 rfl (Nat.le_refl _) ?_ | refine newrow hw 4 rfl (Nat.le_refl _) ?_ | refine newrow hw 5 rfl (Nat.le_refl _) ?_)), fsR_zero _ _⟩)
  obtain ⟨s, hs⟩ : ∃ s : Fs, s = ⟨ra, d3.rs.length, rc, ia, d3.its.length, ic⟩ := ⟨_, rfl⟩
  have hFs : ∀ {w' : World} {x0 x1 x5 x6 : HE}, Hp w w' [x0, x1, .row w.heap.size (.slice ia d3.its.length ic) 98 3 d3.its.length css.flatten, bodE css d3.its D, .row w.heap.size (.slice ra d3.rs.length rc) 101 2 d3.rs.length (cellsR d3.rs), x5, x6] → FsR w' (fun k => w.heap.size ≤ k) s d3.rs d3.its := fun h => by
    rw [hs]
    exact ⟨.of_row flat_run (h.own _ (getE_mem (i := 4) rfl)) rfl hdr fun k hk _ => hk, Bod.slr (Vp.mono _ (h.own _ (getE_mem (i := 3) rfl)).1 hD) (h.own _ (getE_mem (i := 2) rfl)) rfl fun k hk _ => hk⟩
  have hsn : s.rn ≤ 1000 := by rw [hs]; exact hsl
  have hrV : refV d3.H ⟨ra, d3.rs.length, rc, ia, d3.its.length, ic⟩ = refV d3.H s := by rw [hs]
  repeat (first | refine T_seq ?_ | refine T_region ?_ | refine pthen_normal ?_ | refine T_skip ?_ | refine S_load tabOk 0 rfl rfl rfl ?_)
  by_cases hR : frR d3.H d3.rs d3.its
  · refine S_callq (v := .bool true) rfl Try.call17 (fun w1 h1 => by
      have := rright5_ok d3.H s hdf w1 (hFs h1) hsn
      rw [← hrV] at this
      exact this.mono fun e w' ⟨e1, e2⟩ => ⟨by rw [e1]; exact retb (decide_eq_true hR), e2⟩) ?_
    have e : decT zs = (0, d3.H, d3.rs, d3.its) := by
      unfold decT
      rw [if_neg (by omega), if_neg h2, if_neg (fun h => h hok'), ← hall, if_neg h6, hdd, if_neg (fun h => h hR)]
    rw [e]
    repeat (first | refine S_nil ?_ | refine S_pure tabOk rfl ?_)
    refine T_cond_f rfl ?_
    repeat (first | refine T_seq ?_ | refine T_region ?_ | refine pthen_normal ?_ | refine T_skip ?_ | refine S_load tabOk 0 rfl rfl rfl ?_)
    refine S_store tabOk 6 rfl rfl rfl rfl rfl rfl ?_
    repeat (first | refine S_nil ?_ | refine T_ret ?_ | refine S_pure tabOk rfl ?_)
    exact ret2 rfl (ResIs.cellO tabOk 6 rfl rfl rfl rfl) rfl (fun w' hw => ⟨s, by rw [hs], hw.below (by repeat (first | exact new_nil | refine new_rx (by assumption) ?_ | refine new_cons (by first | assumption | omega) ?_ | refine newrow hw 2 rfl (Nat.le_refl _) ?_ | refine newrow hw 4 rfl (Nat.le_refl _) ?_ | refine newrow hw 5 rfl (Nat.le_refl _) ?_)), hFs hw⟩)
  · refine S_callq (v := .bool false) rfl Try.call17 (fun w1 h1 => by
      have := rright5_ok d3.H s hdf w1 (hFs h1) hsn
      rw [← hrV] at this
      exact this.mono fun e w' ⟨e1, e2⟩ => ⟨by rw [e1]; exact retb (decide_eq_false hR), e2⟩) ?_
    have e : decT zs = (1, zH, [], []) := by
      unfold decT
      rw [if_neg (by omega), if_neg h2, if_neg (fun h => h hok'), ← hall, if_neg h6, hdd, if_pos hR]
    rw [e]
    repeat (first | refine S_nil ?_ | refine S_pure tabOk rfl ?_)
    refine T_cond_t rfl ?_
    repeat (first | refine T_seq ?_ | refine T_region ?_ | refine S_q (Q_build tabOk rfl rfl rfl rfl rfl rfl rfl) ?_)
    refine S_store tabOk 6 rfl rfl rfl rfl rfl rfl ?_
    repeat (first | refine S_nil ?_ | refine pthen_ret ?_ | refine T_ret ?_ | refine S_pure tabOk rfl ?_)
    exact ret2 rfl (ResIs.cellO tabOk 6 rfl rfl rfl rfl) rfl (fun w' hw => ⟨⟨none, 0, 0, none, 0, 0⟩, rfl, hw.below (by repeat (first | exact new_nil | refine new_rx (by assumption) ?_ | refine new_cons (by first | assumption | omega) ?_ | refine newrow hw 2 rfl (Nat.le_refl _) ?_ | refine newrow hw 4 rfl (Nat.le_refl _) ?_ | refine newrow hw 5 rfl (Nat.le_refl _) ?_)), fsR_zero _ _⟩)
end Go.Proofs.Ytnefhhoijonnaaa
