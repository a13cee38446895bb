/-
  The walk of NetPlays. Conditions: each theorem's own. What an act does to a net's list: the plain law of NetCounts. Conditions: each theorem's own. The walk of NetCounts. Conditions: each theorem's own.
  Conditions: each theorem's own.
-/
import Derived.Test.YtnefhhoijonnaaaNw
namespace Go.Proofs.Ytnefhhoijonnaaa
open Go Go.RowKit
set_option linter.unusedVariables false


abbrev ActT := Int × (PVal × (Int × (Int × Int)))
abbrev Ra18 : Rep ActT := Rpair (Rint .u8) (Rpair Rpk (Rpair (Rint .i64) (Rpair (Rint .i64) (Rint .u8))))
theorem act18_form {w : World} {A : Nat → Prop} {cs : List Value} {x : ActT} (h : Ra18.at_ w A cs x) : ∃ a c, cs = [.int .u8 x.1, .int .i64 x.2.1.1, .slice a x.2.1.2.length c, .int .i64 x.2.2.1, .int .i64 x.2.2.2.1, .int .u8 x.2.2.2.2] ∧ Fits .u8 x.1 ∧ Fits .i64 x.2.1.1 ∧ SlR (Rint .u8) w A a x.2.1.2.length c x.2.1.2 ∧ Fits .i64 x.2.2.1 ∧ Fits .i64 x.2.2.2.1 ∧ Fits .u8 x.2.2.2.2 := by
  obtain ⟨c1, c2, rfl, ⟨rfl, h1⟩, c3, c4, rfl, h3, c5, c6, rfl, ⟨rfl, h5⟩, c7, c8, rfl, ⟨rfl, h7⟩, rfl, h8⟩ := h
  obtain ⟨a, n, c, rfl, h9, h10⟩ := pk_form h3
  have hl := h10.len
  subst hl
  exact ⟨a, c, rfl, h1, h9, h10, h5, h7, h8⟩

noncomputable def codV (x : V2) (d : Int) (p : PVal) (i at_ by_ : Int) : Int :=
  if d = 2 ∨ d = 3 then (if atV i x.1.length then 0 else 4) else if d = 4 then (if atV i x.1.length then 0 else 4) else if d = 5 then turE x i at_ by_ else if d = 6 then forE x p else if d = 7 then (if atV i x.2.length then 0 else 4) else errV p
def chgV (d : Int) : Int := if d = 2 ∨ d = 3 then -1 else if d = 5 then 0 else 1
noncomputable def chV (x : V2) (d : Int) (p : PVal) (i at_ by_ : Int) : Int := if codV x d p i at_ by_ ≠ 0 then 0 else chgV d
def frV_ (ch i : Int) (j : Nat) : Nat := if ch < 0 ∧ i ≤ j then j + 1 else j
theorem app_keep {x y : List PVal} (h : ∃ v, y = x ++ [v]) : (y.length : Int) = x.length + 1 ∧ ∀ (j : Nat) (v w : PVal), y[j]? = some v → x[j]? = some w → v = w := by
  obtain ⟨v, rfl⟩ := h
  refine ⟨by rw [List.length_append]; rfl, fun j v w h1 h2 => ?_⟩
  rw [List.getElem?_append_left (List.getElem?_eq_some_iff.1 h2).1, h2] at h1
  exact (Option.some.inj h1).symm
theorem step_ok (x : V2) (d : Int) (p : PVal) (i at_ by_ : Int) : ((opV x d p i at_ by_).1.length : Int) = x.1.length + chV x d p i at_ by_ ∧
    ∀ (j : Nat) (v w : PVal), (opV x d p i at_ by_).1[j]? = some v → ¬ (d = 5 ∧ (j : Int) = i) → x.1[frV_ (chV x d p i at_ by_) i j]? = some w → v = w := by
  have hsame : ∀ {y : List PVal} {ch : Int}, y = x.1 → ch = 0 → (y.length : Int) = x.1.length + ch ∧ ∀ (j : Nat) (v w : PVal), y[j]? = some v → ¬ (d = 5 ∧ (j : Int) = i) → x.1[frV_ ch i j]? = some w → v = w := fun h1 h2 => by
    subst h1 h2
    refine ⟨by omega, fun j v w h1 _ h2 => ?_⟩
    unfold frV_ at h2
    rw [if_neg (by omega), h1] at h2
    exact Option.some.inj h2
  have happ : ∀ {y : List PVal} {ch : Int}, (∃ v, y = x.1 ++ [v]) → ch = 1 → (y.length : Int) = x.1.length + ch ∧ ∀ (j : Nat) (v w : PVal), y[j]? = some v → ¬ (d = 5 ∧ (j : Int) = i) → x.1[frV_ ch i j]? = some w → v = w := fun h1 h2 => by
    subst h2
    obtain ⟨g1, g2⟩ := app_keep h1
    refine ⟨g1, fun j v w h1 _ h2 => ?_⟩
    unfold frV_ at h2
    rw [if_neg (by omega)] at h2
    exact g2 j v w h1 h2
  unfold chV codV opV chgV
  by_cases h23 : d = 2 ∨ d = 3
  · simp only [if_pos h23]
    unfold delV
    cases he : atV i x.1.length with
    | false =>
      rw [if_neg (by decide)]
      exact hsame rfl (by simp)
    | true =>
      rw [if_pos rfl]
      obtain ⟨k, rfl, hk⟩ := at_j he
      simp only [if_pos, Int.toNat_natCast]
      rw [if_neg (by simp)]
      refine ⟨by rw [List.length_eraseIdx_of_lt hk]; omega, fun j v w h1 _ h2 => ?_⟩
      unfold frV_ at h2
      rw [List.getElem?_eraseIdx] at h1
      split at h1
      · rw [if_neg (by omega), h1] at h2
        exact Option.some.inj h2
      · rw [if_pos (by omega), h1] at h2
        exact Option.some.inj h2
  simp only [if_neg h23]
  by_cases h4 : d = 4
  · simp only [if_pos h4, if_neg (show ¬ d = 5 by omega)]
    unfold dblV
    cases he : atV i x.1.length with
    | false => rw [if_neg (by decide)]; exact hsame rfl (by simp)
    | true => rw [if_pos rfl]; exact happ ⟨_, rfl⟩ (by simp)
  simp only [if_neg h4]
  by_cases h5 : d = 5
  · simp only [if_pos h5, ite_self]
    by_cases hc : atV i x.1.length = true ∧ (x.1.getD i.toNat (0, [])).2 ≠ [] ∧ honV x.2 (turB (x.1.getD i.toNat (0, [])).2 at_ by_) = true
    · obtain ⟨k, rfl, hk⟩ := at_j hc.1
      unfold turV
      rw [if_pos hc]
      refine ⟨by dsimp only; rw [List.length_set]; omega, fun j v w h1 hn h2 => ?_⟩
      unfold frV_ at h2
      rw [if_neg (by omega)] at h2
      dsimp only at h1
      rw [Int.toNat_natCast, List.getElem?_set_ne (fun e => hn ⟨h5, by omega⟩), h2] at h1
      exact (Option.some.inj h1).symm
    · exact hsame (by rw [turV_same hc]) rfl
  simp only [if_neg h5]
  by_cases h6 : d = 6
  · simp only [if_pos h6]
    unfold forV forE
    by_cases he : errV p = 0
    · by_cases hh : honV x.2 p.2 = true
      · rw [if_pos ⟨he, hh⟩]
        exact happ ⟨_, rfl⟩ (by simp [he, hh])
      · rw [if_neg (fun h => hh h.2)]
        exact hsame rfl (by simp [he, hh])
    · rw [if_neg (fun h => he h.1)]
      exact hsame rfl (by simp [he])
  simp only [if_neg h6]
  by_cases h7 : d = 7
  · simp only [if_pos h7]
    unfold repV
    cases he : atV i x.2.length with
    | false => rw [if_neg (by decide)]; exact hsame rfl (by simp)
    | true => rw [if_pos rfl]; exact happ ⟨_, rfl⟩ (by simp)
  simp only [if_neg h7]
  unfold sendV
  by_cases he : errV p = 0
  · rw [if_pos he]
    exact happ ⟨_, rfl⟩ (by simp [he])
  · rw [if_neg he]
    exact hsame rfl (by simp [he])

theorem pmT0 {α : Type} (x0 x1 x2 x3 x4 x5 : α) (r : List α) : List.Perm (x0 :: x1 :: x2 :: x3 :: x4 :: x5 :: r) (x2 :: x3 :: x4 :: x5 :: x0 :: x1 :: r) := by
  have hP : List.Perm ([0, 1, 2, 3, 4, 5] : List Nat) [2, 3, 4, 5, 0, 1] := by decide
  exact (hP.map fun i => ([x0, x1, x2, x3, x4, x5][i]?).getD x0).append_right r
theorem pmT1 {α : Type} (x0 x1 x2 x3 x4 x5 x6 : α) (r : List α) : List.Perm (x0 :: x1 :: x2 :: x3 :: x4 :: x5 :: x6 :: r) (x0 :: x1 :: x2 :: x3 :: x4 :: x6 :: x5 :: r) := by
  have hP : List.Perm ([0, 1, 2, 3, 4, 5, 6] : List Nat) [0, 1, 2, 3, 4, 6, 5] := by decide
  exact (hP.map fun i => ([x0, x1, x2, x3, x4, x5, x6][i]?).getD x0).append_right r
structure NcJ where
  K : List Pk
  G : Nat → Prop
  N : Nt
theorem fewK_ok {w0 w : World} {K : List Pk} {G : Nat → Prop} {rest : OL} {to : Int} {zs : List Int} {a : Option Addr} {c : Nat} (h : Hp w0 w (knE w0 K G :: rest)) (hto : Fits .i64 to) (hz : Ints .u8 w a zs.length c zs) : Calls Try.prog 38 #[.agg ⟨[.int .i64 to, .slice a zs.length c]⟩] w fun e w' => ∃ q G', e = .returned (.agg ⟨cellP q⟩) ∧ Hp w0 w' (knE w0 (K ++ [q]) G' :: rest) ∧ q.v = (to, zs.take 200) :=
  (few18_ok (p := ⟨to, zs, a, c⟩) w hz).mono fun e w' ⟨ra, rc, e1, hb2, hr⟩ => by
    have h3 := h.fresh hb2 (x := .row w0.heap.size (.slice ra (zs.take 200).length rc) 5 1 (zs.take 200).length ((zs.take 200).map (.int .u8))) (own_rebase hr h.size) (fun j hj => (World.ownsRow.lt hr j hj).1)
    have hzf : ∀ z ∈ zs.take 200, Fits .u8 z := fun z hx => hz.fits z (List.mem_of_mem_take hx)
    obtain ⟨G', h4⟩ := Hp.snocK (p := ⟨to, zs.take 200, ra, rc⟩) (h3.perm (List.Perm.swap _ _ _)) hto (by show (zs.take 200).length ≤ 70000; rw [List.length_take]; omega) hzf
    exact ⟨⟨to, zs.take 200, ra, rc⟩, G', e1, h4, rfl⟩
structure NcI where
  i : Nat
  K : List Pk
  G : Nat → Prop
  N : Nt
set_option maxHeartbeats 16000000 in
theorem netCounts_walk (v : Value) (x : List ActT) (W : World) (h : (Rslice Ra18).val W TT v x) : Calls Try.prog 13 #[v] W fun e w' => e = .returned (.bool true) ∧ Below W.heap.size W w' := by
  obtain ⟨a, n, c, rfl, hx⟩ := SlR.form h
  have hl := hx.len
  have hcap := hx.cap
  have hmax := hx.max
  simp only [maxLen] at hmax
  refine enter1 Try.func13 rfl rfl (Hp.refl W) ?_
  repeat (first | refine T_seq ?_ | refine T_region ?_ | refine S_nil ?_ | refine S_pure tabOk rfl ?_)
  refine S_callq (v := .bool true) rfl Try.call31 (fun w1 h1 => awake18_ok w1) ?_
  repeat (first | refine T_seq ?_ | refine T_region ?_ | refine S_nil ?_ | refine pthen_normal ?_ | refine T_skip ?_ | refine T_cond_f rfl ?_ | refine S_pure tabOk rfl ?_)
  refine S_call rfl Try.call32 (fun w1 h1 => (nnew_ok h1).mono fun e w' ⟨b1, e1, hb, h2⟩ => ⟨_, _, e1, h2, ?_⟩)
  repeat (first | refine T_seq ?_ | refine T_region ?_ | refine T_block ?_ | refine S_nil ?_ | refine S_pure tabOk rfl ?_)
  refine T_loop (ι := NcI) (fun i => [(3, .pointer (some ⟨b1, 0, none⟩)), (18, .slice a n c), (19, .int .i64 (n : Int)), (20, .int .i64 (i.i : Int))])
    (fun i => knE W i.K i.G :: nbE 131 b1 i.N.la i.N.L.length i.N.lc i.N.sa i.N.S.length i.N.sc :: rowP W 71 i.N.la i.N.lc i.N.L :: rowP W 71 i.N.sa i.N.sc i.N.S :: []) (fun i => i.i ≤ n ∧ i.i ≤ 40 ∧ i.N.ok i.K i.i) (fun i => n - i.i) ⟨0, [], fun _ => False, ⟨none, 0, none, 0, [], []⟩⟩ ⟨Nat.zero_le _, Nat.zero_le _, nt_ok0 _ _⟩ (by repeat (first | exact Sub.nil | refine Sub.cons rfl ?_)) (fun w' hw => (Hp.netN (E := 71) hw).nilK) ?_
  rintro ⟨i, K, G, N⟩ ⟨hi, hi40, hN⟩
  dsimp only at hi hi40 hN ⊢
  refine T_kn (X := ∀ k, G k → W.heap.size ≤ k) (fun w hw => hw.newK 0 rfl) (fun hG => ?_)
  repeat (first | refine T_seq ?_ | refine T_region ?_ | refine S_nil ?_ | refine S_pure tabOk rfl ?_)
  refine T_cond_dec rfl (fun h => ?_) (fun h => ?_)
  rotate_left
  · repeat (first | refine T_seq ?_ | refine T_region ?_ | refine S_nil ?_ | refine pthen_normal ?_ | refine inb_hit ?_ | refine pthen_exit ?_ | refine T_ret ?_ | refine T_exit ?_ | refine S_pure tabOk rfl ?_)
    exact ret1 rfl rfl (fun w' hw => ⟨rfl, hw.below (by repeat (first | exact new_nil | refine new_rx (by assumption) ?_ | refine new_cons (by first | assumption | omega) ?_ | refine newrow hw 2 rfl (Nat.le_refl _) ?_ | refine newrow hw 3 rfl (Nat.le_refl _) ?_))⟩)
  have hi' : i < x.length := by omega
  obtain ⟨gb, off, cs, rfl, hlt, hat, hcl, hcell, _⟩ := hx.get_ hi'
  obtain ⟨ua, uc, rfl, f1, f2, hu, f3, f4, f5⟩ := act18_form hat
  repeat (first | refine T_seq ?_ | refine T_region ?_ | refine T_block ?_ | refine pthen_normal ?_ | refine T_skip ?_ | refine S_pure tabOk rfl ?_)
  refine S_q (Q_idx (sz := 6) tabOk rfl rfl rfl rfl rfl rfl rfl rfl (j := i) (by omega)) ?_
  refine S_loadN tabOk (vs := [.int .u8 x[i].1, .int .i64 x[i].2.1.1, .slice ua x[i].2.1.2.length uc, .int .i64 x[i].2.2.1, .int .i64 x[i].2.2.2.1, .int .u8 x[i].2.2.2.2]) rfl rfl rfl (fun w' hw j u hj => by
    rw [Addr.add_lit]
    exact (World.cell?_of_block ((hw.below (by repeat (first | exact new_nil | refine new_rx (by assumption) ?_ | refine new_cons (by first | assumption | omega) ?_ | refine newrow hw 2 rfl (Nat.le_refl _) ?_ | refine newrow hw 3 rfl (Nat.le_refl _) ?_))).block gb hlt)).trans (hcell j u hj)) ?_
  skip
  refine S_new tabOk rfl (fun b5 hb5 => ?_)
  repeat (first | refine T_seq ?_ | refine T_region ?_ | refine S_nil ?_ | refine S_pure tabOk rfl ?_ | refine S_store tabOk 0 rfl rfl rfl rfl rfl rfl ?_)
  refine T_cond_dec rfl (fun h40 => ?_) (fun h40 => ?_)
  · repeat (first | refine pthen_exit ?_ | refine T_exit ?_)
    refine inb_miss rfl ?_
    repeat (first | refine T_seq ?_ | refine T_region ?_ | refine S_nil ?_ | refine pthen_normal ?_ | refine inb_hit ?_ | refine pthen_exit ?_ | refine T_ret ?_ | refine S_pure tabOk rfl ?_)
    exact ret1 rfl rfl (fun w' hw => ⟨rfl, hw.below (by repeat (first | exact new_nil | refine new_rx (by assumption) ?_ | refine new_cons (by first | assumption | omega) ?_ | refine newrow hw 3 rfl (Nat.le_refl _) ?_ | refine newrow hw 4 rfl (Nat.le_refl _) ?_))⟩)
  obtain ⟨y, hy⟩ : ∃ y, y = x[i] := ⟨_, rfl⟩
  rw [← hy] at f1 f2 hu f3 f4 f5 ⊢
  obtain ⟨a, ha⟩ : ∃ a, a = (some (⟨gb, off, none⟩ : Addr)) := ⟨_, rfl⟩
  rw [← ha]
  have hd' := fits_u8 f1
  have hi3 := fits_i64 f3
  have hl1 := hN.ln
  repeat (first | refine T_seq ?_ | refine T_region ?_ | refine pthen_normal ?_ | refine T_skip ?_ | refine S_pure tabOk rfl ?_)
  refine S_addV (bP y.2.1.2) TT (v := .slice ua y.2.1.2.length uc) (fun w' hw => Vp.old (SlR.val hu) hw (by repeat (first | exact new_nil | refine new_rx (by assumption) ?_ | refine new_cons (by first | assumption | omega) ?_ | refine newrow hw 3 rfl (Nat.le_refl _) ?_ | refine newrow hw 4 rfl (Nat.le_refl _) ?_))) (fun F0 hF0 => ?_)
  refine S_heap (fun w hw => hw.perm (pmT0 ..)) ?_
  refine S_call rfl Try.call36 (fun w1 h1 => (nlist_ok h1 hN (by omega)).mono fun e w' ⟨K1, G1, aB, cB, LB, e1, h2, hvB, hLB, hK1⟩ => ⟨_, _, e1, h2.perm (pmT1 ..), ?_⟩)
  clear e1
  have hlB : LB.length = N.L.length := by
    have := congrArg List.length hvB
    rw [List.length_map, List.length_map] at this
    exact this
  replace hN := hN.up hK1 (Nat.le_refl i)
  repeat (first | refine T_seq ?_ | refine T_region ?_ | refine S_nil ?_ | refine S_pure tabOk rfl ?_)
  refine S_callq rfl Try.call37 (fun w1 h1 => nlen_ok w1 (h1.own _ (getE_mem (i := 1) rfl))) ?_
  refine S_pure tabOk rfl ?_
  refine S_pure tabOk rfl ?_
  refine S_pure_eq tabOk rfl (show _ = Value.bool true from congrArg Value.bool (decide_eq_true (by rw [hlB]))) ?_
  repeat (first | refine T_seq ?_ | refine T_region ?_ | refine S_nil ?_ | refine S_pure tabOk rfl ?_ | refine S_load tabOk 5 rfl rfl rfl ?_)
  obtain ⟨m, hm⟩ : ∃ m, m = doI y.2.2.1 N.L.length := ⟨_, rfl⟩
  refine T_cut (ι := Unit) (fun _ => True) (fun _ => [(3, .pointer (some ⟨b1, 0, none⟩)), (5, .pointer (some ⟨b5, 0, none⟩)), (6, .slice aB LB.length cB), (7, .bool true), (8, .int .i64 m), (18, .slice a n c), (19, .int .i64 (n : Int)), (20, .int .i64 (i : Int))])
    (fun _ => knE W K1 G1 :: nbE 131 b1 N.la N.L.length N.lc N.sa N.S.length N.sc :: rowP W 71 N.la N.lc N.L :: rowP W 71 N.sa N.sc N.S :: rowP W 71 aB cB LB :: .blk b5 (.cells ⟨[.int .u8 y.1, .int .i64 y.2.1.1, .slice ua y.2.1.2.length uc, .int .i64 y.2.2.1, .int .i64 y.2.2.2.1, .int .u8 y.2.2.2.2]⟩ 73 (0, 0)) true :: .rep (fun w => (bP y.2.1.2).at_ w F0 (.slice ua y.2.1.2.length uc)) F0 false :: []) ?_ ?_
  · refine T_cond_dec rfl (fun h3 => ?_) (fun h3 => ?_)
    · have em : m = y.2.2.1 % ((N.L.length : Int) + 2) := by rw [hm]; unfold doI; rw [if_pos h3]
      repeat (first | refine T_region ?_ | refine S_pure tabOk rfl ?_)
      refine S_callq rfl Try.call37 (fun w1 h1 => nlen_ok w1 (h1.own _ (getE_mem (i := 1) rfl))) ?_
      repeat (first | refine S_i64 tabOk rfl (by omega) ?_)
      refine S_q (Q_rem0 rfl rfl rfl (by omega) (by omega)) ?_
      repeat (first | refine S_nil ?_ | refine S_pure tabOk rfl ?_)
      refine ⟨(), trivial, ?_, fun w' hw => hw⟩
      rw [em]
      repeat (first | exact Sub.nil | refine Sub.cons rfl ?_)
    · have em : m = y.2.2.1 := by rw [hm]; unfold doI; rw [if_neg h3]
      repeat (first | refine pthen_normal ?_ | refine T_skip ?_)
      refine ⟨(), trivial, ?_, fun w' hw => hw⟩
      rw [em]
      repeat (first | exact Sub.nil | refine Sub.cons rfl ?_)
  rintro _ _
  have hmf : Fits .i64 m := by
    rw [hm]
    unfold doI
    split
    · have h1 := Int.emod_nonneg y.2.2.1 (by omega : ((N.L.length : Int) + 2) ≠ 0)
      have h2 := Int.emod_lt_of_pos y.2.2.1 (by omega : 0 < ((N.L.length : Int) + 2))
      exact mk_i64 (by omega)
    · exact f3
  clear hm
  obtain ⟨e8, he8⟩ : ∃ x, x = y.1 % 8 := ⟨_, rfl⟩
  obtain ⟨pv, hpv⟩ : ∃ x : PVal, x = (y.2.1.1, y.2.1.2.take 200) := ⟨_, rfl⟩
  repeat (first | refine T_seq ?_ | refine T_region ?_ | refine S_nil ?_ | refine S_pure tabOk rfl ?_ | refine S_load tabOk 5 rfl rfl rfl ?_)
  refine S_q (Q_rem0 rfl rfl rfl (by decide) hd'.1) ?_
  rw [← he8]
  repeat (first | refine S_nil ?_)
  refine T_cut (ι := NcJ) (fun j => j.N.ok j.K (i + 1) ∧ (∀ p ∈ K1, p ∈ j.K) ∧ j.N.v = opV N.v e8 pv m y.2.2.2.1 y.2.2.2.2) (fun _ => [(3, .pointer (some ⟨b1, 0, none⟩)), (5, .pointer (some ⟨b5, 0, none⟩)), (6, .slice aB LB.length cB), (7, .bool true), (8, .int .i64 m), (9, .int .i64 (codV N.v e8 pv m y.2.2.2.1 y.2.2.2.2)), (10, .int .i64 (chgV e8)), (18, .slice a n c), (19, .int .i64 (n : Int)), (20, .int .i64 (i : Int))])
    (fun j => knE W j.K j.G :: nbE 131 b1 j.N.la j.N.L.length j.N.lc j.N.sa j.N.S.length j.N.sc :: rowP W 71 j.N.la j.N.lc j.N.L :: rowP W 71 j.N.sa j.N.sc j.N.S :: rowP W 71 aB cB LB :: .blk b5 (.cells ⟨[.int .u8 y.1, .int .i64 y.2.1.1, .slice ua y.2.1.2.length uc, .int .i64 y.2.2.1, .int .i64 y.2.2.2.1, .int .u8 y.2.2.2.2]⟩ 73 (0, 0)) true :: .rep (fun w => (bP y.2.1.2).at_ w F0 (.slice ua y.2.1.2.length uc)) F0 false :: []) ?_ ?_
  · refine T_block ?_
    repeat (first | refine T_seq ?_ | refine T_region ?_ | refine S_nil ?_ | refine S_pure tabOk rfl ?_)
    refine T_cond_dec rfl (fun h2 => ?_) (fun h2 => ?_)
    · repeat (first | refine T_seq ?_ | refine T_region ?_ | refine S_pure tabOk rfl ?_)
      refine S_call rfl Try.call43 (fun w1 h1 => (ndeliver_ok m h1 hN (by omega)).mono fun e w' ⟨M1, e1, q1⟩ => ⟨_, _, e1, q1.h, ?_⟩)
      repeat (first | refine S_nil ?_ | refine pthen_normal ?_ | refine inb_normal ?_ | refine S_pure tabOk rfl ?_ | refine T_region_any ?_)
      refine ⟨⟨K1, G1, M1⟩, ⟨q1.ok.mono (Nat.le_succ i), fun p hp => hp, by rw [q1.v, h2]; rfl⟩, ?_, fun w' hw => hw⟩
      rw [h2]
      repeat (first | exact Sub.nil | refine Sub.cons rfl ?_)
    repeat (first | refine T_seq ?_ | refine T_region ?_ | refine S_nil ?_ | refine S_pure tabOk rfl ?_)
    refine T_cond_dec rfl (fun h3 => ?_) (fun h3 => ?_)
    · repeat (first | refine S_pure tabOk rfl ?_ | refine T_region_any ?_)
      refine S_call rfl Try.call41 (fun w1 h1 => (ndrop_ok m h1 hN (by omega)).mono fun e w' ⟨M1, e1, q1⟩ => ⟨_, _, e1, q1.h, ?_⟩)
      repeat (first | refine S_nil ?_ | refine pthen_normal ?_ | refine inb_normal ?_ | refine S_pure tabOk rfl ?_)
      refine ⟨⟨K1, G1, M1⟩, ⟨q1.ok.mono (Nat.le_succ i), fun p hp => hp, by rw [q1.v, h3]; rfl⟩, ?_, fun w' hw => hw⟩
      rw [h3]
      repeat (first | exact Sub.nil | refine Sub.cons rfl ?_)
    repeat (first | refine T_seq ?_ | refine T_region ?_ | refine S_nil ?_ | refine S_pure tabOk rfl ?_)
    refine T_cond_dec rfl (fun h4 => ?_) (fun h4 => ?_)
    · repeat (first | refine S_pure tabOk rfl ?_ | refine T_region_any ?_)
      refine S_call rfl Try.call45 (fun w1 h1 => (ndouble_ok m h1 hN (by omega)).mono fun e w' ⟨K2, G2, M1, e1, q1⟩ => ⟨_, _, e1, q1.h, ?_⟩)
      repeat (first | refine S_nil ?_ | refine pthen_normal ?_ | refine inb_normal ?_ | refine S_pure tabOk rfl ?_)
      refine ⟨⟨K2, G2, M1⟩, ⟨q1.ok, q1.k, by rw [q1.v, h4]; rfl⟩, ?_, fun w' hw => hw⟩
      rw [h4]
      repeat (first | exact Sub.nil | refine Sub.cons rfl ?_)
    repeat (first | refine T_seq ?_ | refine T_region ?_ | refine S_nil ?_ | refine S_pure tabOk rfl ?_)
    refine T_cond_dec rfl (fun h5 => ?_) (fun h5 => ?_)
    · repeat (first | refine S_pure tabOk rfl ?_ | refine T_region_any ?_ | refine S_load tabOk 5 rfl rfl rfl ?_)
      refine S_call rfl Try.call40 (fun w1 h1 => (nturn_ok m y.2.2.2.1 y.2.2.2.2 f4 h1 hN (by omega)).mono fun e w' ⟨K2, G2, M1, e1, q1⟩ => ⟨_, _, e1, q1.h, ?_⟩)
      repeat (first | refine S_nil ?_ | refine pthen_normal ?_ | refine inb_normal ?_ | refine S_pure tabOk rfl ?_)
      refine ⟨⟨K2, G2, M1⟩, ⟨q1.ok.mono (Nat.le_succ i), q1.k, by rw [q1.v, h5]; rfl⟩, ?_, fun w' hw => hw⟩
      rw [h5]
      repeat (first | exact Sub.nil | refine Sub.cons rfl ?_)
    repeat (first | refine T_seq ?_ | refine T_region ?_ | refine S_nil ?_ | refine S_pure tabOk rfl ?_)
    refine T_cond_dec rfl (fun h6 => ?_) (fun h6 => ?_)
    · repeat (first | refine S_pure tabOk rfl ?_ | refine T_region_any ?_ | refine S_load tabOk 5 rfl rfl rfl ?_)
      refine S_call rfl Try.call38 (fun w1 h1 => (fewK_ok (to := y.2.1.1) (zs := y.2.1.2) (a := ua) (c := uc) h1 f2 (bP_ints (Vp.fact0 (p := bP y.2.1.2) h1 6 rfl))).mono fun e w' ⟨q, G', e1, h2, hqv⟩ => ⟨_, _, e1, h2, ?_⟩)
      skip
      refine S_call rfl Try.call44 (fun w1 h1 => (nforge_ok h1 (hN.up (fun p hp => List.mem_append_left _ hp) (Nat.le_refl i)) (by omega) (List.mem_append_right _ List.mem_cons_self)).mono fun e w' ⟨K2, G2, M1, e1, q1⟩ => ⟨_, _, e1, q1.h, ?_⟩)
      repeat (first | refine S_nil ?_ | refine pthen_normal ?_ | refine inb_normal ?_ | refine S_pure tabOk rfl ?_)
      refine ⟨⟨K2, G2, M1⟩, ⟨q1.ok, fun p hp => q1.k p (List.mem_append_left _ hp), by rw [q1.v, hqv, h6, hpv]; rfl⟩, ?_, fun w' hw => hw⟩
      rw [h6, hqv, ← hpv]
      repeat (first | exact Sub.nil | refine Sub.cons rfl ?_)
    repeat (first | refine T_seq ?_ | refine T_region ?_ | refine S_nil ?_ | refine S_pure tabOk rfl ?_)
    refine T_cond_dec rfl (fun h7 => ?_) (fun h7 => ?_)
    · repeat (first | refine S_pure tabOk rfl ?_ | refine T_region_any ?_)
      refine S_call rfl Try.call42 (fun w1 h1 => (nreplay_ok m h1 hN (by omega)).mono fun e w' ⟨K2, G2, M1, e1, q1⟩ => ⟨_, _, e1, q1.h, ?_⟩)
      repeat (first | refine S_nil ?_ | refine pthen_normal ?_ | refine inb_normal ?_ | refine S_pure tabOk rfl ?_)
      refine ⟨⟨K2, G2, M1⟩, ⟨q1.ok, q1.k, by rw [q1.v, h7]; rfl⟩, ?_, fun w' hw => hw⟩
      rw [h7]
      repeat (first | exact Sub.nil | refine Sub.cons rfl ?_)
    repeat (first | refine S_pure tabOk rfl ?_ | refine T_region_any ?_ | refine S_load tabOk 5 rfl rfl rfl ?_)
    refine S_call rfl Try.call38 (fun w1 h1 => (fewK_ok (to := y.2.1.1) (zs := y.2.1.2) (a := ua) (c := uc) h1 f2 (bP_ints (Vp.fact0 (p := bP y.2.1.2) h1 6 rfl))).mono fun e w' ⟨q, G', e1, h2, hqv⟩ => ⟨_, _, e1, h2, ?_⟩)
    skip
    refine S_call rfl Try.call39 (fun w1 h1 => (send_ok h1 (hN.up (fun p hp => List.mem_append_left _ hp) (Nat.le_refl i)) (by omega) (List.mem_append_right _ List.mem_cons_self)).mono fun e w' ⟨K2, G2, M1, e1, q1⟩ => ⟨_, _, e1, q1.h, ?_⟩)
    repeat (first | refine S_nil ?_ | refine pthen_normal ?_ | refine inb_normal ?_ | refine S_pure tabOk rfl ?_)
    have h23 : ¬ (e8 = 2 ∨ e8 = 3) := by omega
    refine ⟨⟨K2, G2, M1⟩, ⟨q1.ok, fun p hp => q1.k p (List.mem_append_left _ hp), by rw [q1.v, hqv, hpv]; unfold opV; rw [if_neg h23, if_neg h4, if_neg h5, if_neg h6, if_neg h7]⟩, ?_, fun w' hw => hw⟩
    have e9 : codV N.v e8 pv m y.2.2.2.1 y.2.2.2.2 = errV pv := by unfold codV; rw [if_neg h23, if_neg h4, if_neg h5, if_neg h6, if_neg h7]
    have e10 : chgV e8 = 1 := by unfold chgV; rw [if_neg h23, if_neg h5]
    rw [e9, e10, hpv, ← hqv]
    repeat (first | exact Sub.nil | refine Sub.cons rfl ?_)
  rintro ⟨K2, G2, M⟩ ⟨hM, hK2, hMv⟩
  dsimp only at hM hK2 hMv ⊢
  obtain ⟨cv, hcv⟩ : ∃ x, x = codV N.v e8 pv m y.2.2.2.1 y.2.2.2.2 := ⟨_, rfl⟩
  obtain ⟨ch, hch⟩ : ∃ x, x = chV N.v e8 pv m y.2.2.2.1 y.2.2.2.2 := ⟨_, rfl⟩
  obtain ⟨hst1, hst2⟩ := step_ok N.v e8 pv m y.2.2.2.1 y.2.2.2.2
  rw [← hMv, ← hch] at hst1 hst2
  have hchb : -1 ≤ ch ∧ ch ≤ 1 := by
    rw [hch]
    unfold chV chgV
    split <;> (try split) <;> (try split) <;> omega
  have hch0 : cv ≠ 0 → ch = 0 := fun h => by rw [hch]; unfold chV; rw [if_pos (by rw [← hcv]; exact h)]
  have hch1 : ¬ cv ≠ 0 → ch = chgV e8 := fun h => by rw [hch]; unfold chV; rw [if_neg (by rw [← hcv]; exact h)]
  rw [← hcv]
  clear hcv hch
  repeat (first | refine T_seq ?_ | refine T_region ?_ | refine S_nil ?_ | refine S_pure tabOk rfl ?_)
  refine T_cut (ι := Unit) (fun _ => True) (fun _ => [(3, .pointer (some ⟨b1, 0, none⟩)), (5, .pointer (some ⟨b5, 0, none⟩)), (6, .slice aB LB.length cB), (7, .bool true), (8, .int .i64 m), (10, .int .i64 ch), (18, .slice a n c), (19, .int .i64 (n : Int)), (20, .int .i64 (i : Int))]) (fun _ => knE W K2 G2 :: nbE 131 b1 M.la M.L.length M.lc M.sa M.S.length M.sc :: rowP W 71 M.la M.lc M.L :: rowP W 71 M.sa M.sc M.S :: rowP W 71 aB cB LB :: .blk b5 (.cells ⟨[.int .u8 y.1, .int .i64 y.2.1.1, .slice ua y.2.1.2.length uc, .int .i64 y.2.2.1, .int .i64 y.2.2.2.1, .int .u8 y.2.2.2.2]⟩ 73 (0, 0)) true :: .rep (fun w => (bP y.2.1.2).at_ w F0 (.slice ua y.2.1.2.length uc)) F0 false :: []) ?_ ?_
  · refine T_cond_dec rfl (fun hz => ?_) (fun hz => ?_)
    · repeat (first | refine T_region ?_ | refine S_nil ?_ | refine S_pure tabOk rfl ?_)
      refine ⟨(), trivial, ?_, fun w' hw => hw⟩
      rw [hch0 hz]
      repeat (first | exact Sub.nil | refine Sub.cons rfl ?_)
    · repeat (first | refine pthen_normal ?_ | refine T_skip ?_)
      refine ⟨(), trivial, ?_, fun w' hw => hw⟩
      rw [hch1 hz]
      repeat (first | exact Sub.nil | refine Sub.cons rfl ?_)
  rintro _ _
  repeat (first | refine T_seq ?_ | refine T_region ?_ | refine S_pure tabOk rfl ?_)
  refine S_call rfl Try.call36 (fun w1 h1 => (nlist_ok h1 hM (by omega)).mono fun e w' ⟨K3, G3, aA, cA, LA, e1, h2, hvA, hLA, hK3⟩ => ⟨_, _, e1, h2, ?_⟩)
  clear e1
  have hlA : (LA.length : Int) = LB.length + ch := by
    have e1 := congrArg List.length hvA
    rw [List.length_map] at e1
    have e2 : M.v.1.length = LA.length := e1.symm
    have e3 : N.v.1.length = N.L.length := List.length_map _
    rw [e2, e3] at hst1
    omega
  have hlM := hM.ln
  have hlA2 : LA.length = M.L.length := by
    have := congrArg List.length hvA
    rw [List.length_map, List.length_map] at this
    exact this
  replace hM := hM.up hK3 (Nat.le_refl _)
  repeat (first | refine T_seq ?_ | refine T_region ?_ | refine S_nil ?_ | refine S_i64 tabOk rfl (by omega) ?_ | refine S_pure tabOk rfl ?_)
  refine T_cond_dec rfl (fun h3 => absurd hlA h3) (fun _ => ?_)
  repeat (first | refine T_seq ?_ | refine T_region ?_ | refine T_block ?_ | refine S_nil ?_ | refine pthen_normal ?_ | refine T_skip ?_ | refine S_pure tabOk rfl ?_)
  refine T_loop (ι := Nat) (fun j => [(3, .pointer (some ⟨b1, 0, none⟩)), (5, .pointer (some ⟨b5, 0, none⟩)), (6, .slice aB LB.length cB), (7, .bool true), (8, .int .i64 m), (10, .int .i64 ch), (18, .slice a n c), (19, .int .i64 (n : Int)), (20, .int .i64 (i : Int)), (105, .slice aA LA.length cA), (106, .int .i64 (LA.length : Int)), (107, .int .i64 (j : Int))])
    (fun _ => knE W K3 G3 :: nbE 131 b1 M.la M.L.length M.lc M.sa M.S.length M.sc :: rowP W 71 M.la M.lc M.L :: rowP W 71 M.sa M.sc M.S :: rowP W 71 aA cA LA :: rowP W 71 aB cB LB :: .blk b5 (.cells ⟨[.int .u8 y.1, .int .i64 y.2.1.1, .slice ua y.2.1.2.length uc, .int .i64 y.2.2.1, .int .i64 y.2.2.2.1, .int .u8 y.2.2.2.2]⟩ 73 (0, 0)) true :: .rep (fun w => (bP y.2.1.2).at_ w F0 (.slice ua y.2.1.2.length uc)) F0 false :: []) (fun j => j ≤ LA.length) (fun j => LA.length - j) 0 (Nat.zero_le _) (by repeat (first | exact Sub.nil | refine Sub.cons rfl ?_)) (fun w' hw => hw) ?_
  intro j hj
  repeat (first | refine T_seq ?_ | refine T_region ?_ | refine S_nil ?_ | refine S_pure tabOk rfl ?_)
  refine T_cond_dec rfl (fun h => ?_) (fun h => ?_)
  rotate_left
  · repeat (first | refine T_region ?_ | refine S_nil ?_ | refine pthen_normal ?_ | refine inb_normal ?_ | refine inb_hit ?_ | refine pthen_exit ?_ | refine T_exit ?_ | refine S_i64 tabOk rfl (by omega) ?_ | refine S_pure tabOk rfl ?_)
    exact ⟨⟨i + 1, K3, G3, M⟩, ⟨by dsimp only; omega, by dsimp only; omega, hM⟩, by repeat (first | exact Sub.nil | refine Sub.cons rfl ?_), fun w' hw => hw.less (by repeat (first | exact Less.nil | refine Less.keep ?_ | refine Less.dropR ?_ | refine Less.dropB (by first | assumption | omega) ?_ | refine Less.dropW (Nat.le_refl _) ?_)), by dsimp only; omega⟩
  have hj' : j < LA.length := by omega
  obtain ⟨q, hq0⟩ : ∃ q, q = LA[j] := ⟨_, rfl⟩
  have hqK : q ∈ K3 := by rw [hq0]; exact hLA _ (List.getElem_mem hj')
  refine T_kn (X := ∃ g, aA = some ⟨g, 0, none⟩) (fun w hw => hw.rowA 4 (m := LA.length) rfl (by omega)) (fun ⟨g, hg⟩ => ?_)
  subst hg
  repeat (first | refine T_seq ?_ | refine T_region ?_ | refine T_block ?_ | refine pthen_normal ?_ | refine T_skip ?_ | refine S_pure tabOk rfl ?_)
  refine S_q (Q_idx (sz := 2) tabOk rfl rfl rfl rfl rfl rfl rfl rfl (j := j) hj') ?_
  refine S_loadN tabOk (vs := cellP q) rfl rfl rfl (fun w' hw => by rw [hq0]; exact row_cellP hw 4 rfl hj') ?_
  skip
  refine S_new tabOk rfl (fun b13 hb13 => ?_)
  repeat (first | refine T_seq ?_ | refine T_region ?_ | refine S_nil ?_ | refine S_pure tabOk rfl ?_ | refine S_store tabOk 0 rfl rfl rfl rfl rfl rfl ?_)
  obtain ⟨fr, hfr⟩ : ∃ f, f = frV_ ch m j := ⟨_, rfl⟩
  refine S_cut (ι := Unit) (fun _ => True) (fun _ => [(3, .pointer (some ⟨b1, 0, none⟩)), (5, .pointer (some ⟨b5, 0, none⟩)), (6, .slice aB LB.length cB), (7, .bool true), (8, .int .i64 m), (10, .int .i64 ch), (18, .slice a n c), (19, .int .i64 (n : Int)), (20, .int .i64 (i : Int)), (12, .int .i64 (j : Int)), (13, .pointer (some ⟨b13, 0, none⟩)), (14, .int .i64 (j : Int)), (105, .slice (some ⟨g, 0, none⟩) LA.length cA), (106, .int .i64 (LA.length : Int)), (107, .int .i64 (j : Int)), (119, .bool (decide (ch < 0 ∧ m ≤ j)))])
    (fun _ => .blk b13 (.cells ⟨cellP q⟩ 71 (0, 0)) true :: knE W K3 G3 :: nbE 131 b1 M.la M.L.length M.lc M.sa M.S.length M.sc :: rowP W 71 M.la M.lc M.L :: rowP W 71 M.sa M.sc M.S :: rowP W 71 (some ⟨g, 0, none⟩) cA LA :: rowP W 71 aB cB LB :: .blk b5 (.cells ⟨[.int .u8 y.1, .int .i64 y.2.1.1, .slice ua y.2.1.2.length uc, .int .i64 y.2.2.1, .int .i64 y.2.2.2.1, .int .u8 y.2.2.2.2]⟩ 73 (0, 0)) true :: .rep (fun w => (bP y.2.1.2).at_ w F0 (.slice ua y.2.1.2.length uc)) F0 false :: []) ?_ ?_
  · refine S_splitb (d := 115) rfl rfl (fun hc => ?_) (fun hc => ?_)
    · have hc := of_decide_eq_true hc
      repeat (first | refine S_nil ?_ | refine S_pure tabOk rfl ?_)
      refine ⟨(), trivial, ?_, fun w' hw => hw⟩
      rw [show decide (ch < 0 ∧ m ≤ j) = _ from (decide_eq_decide.2 ⟨fun h => ⟨hc, h⟩, fun h => h.2⟩).symm]
      repeat (first | exact Sub.nil | refine Sub.cons rfl ?_)
    · have hc := of_decide_eq_false hc
      repeat (first | refine S_nil ?_ | refine S_pure tabOk rfl ?_ | refine S_pass rfl rfl rfl ?_)
      refine ⟨(), trivial, ?_, fun w' hw => hw⟩
      rw [show decide (ch < 0 ∧ m ≤ j) = _ from (decide_eq_false (fun h => hc h.1))]
      repeat (first | exact Sub.nil | refine Sub.cons rfl ?_)
  rintro _ _
  refine T_cut (ι := Unit) (fun _ => True) (fun _ => [(3, .pointer (some ⟨b1, 0, none⟩)), (5, .pointer (some ⟨b5, 0, none⟩)), (6, .slice aB LB.length cB), (7, .bool true), (8, .int .i64 m), (10, .int .i64 ch), (18, .slice a n c), (19, .int .i64 (n : Int)), (20, .int .i64 (i : Int)), (12, .int .i64 (j : Int)), (13, .pointer (some ⟨b13, 0, none⟩)), (14, .int .i64 (fr : Int)), (105, .slice (some ⟨g, 0, none⟩) LA.length cA), (106, .int .i64 (LA.length : Int)), (107, .int .i64 (j : Int))])
    (fun _ => .blk b13 (.cells ⟨cellP q⟩ 71 (0, 0)) true :: knE W K3 G3 :: nbE 131 b1 M.la M.L.length M.lc M.sa M.S.length M.sc :: rowP W 71 M.la M.lc M.L :: rowP W 71 M.sa M.sc M.S :: rowP W 71 (some ⟨g, 0, none⟩) cA LA :: rowP W 71 aB cB LB :: .blk b5 (.cells ⟨[.int .u8 y.1, .int .i64 y.2.1.1, .slice ua y.2.1.2.length uc, .int .i64 y.2.2.1, .int .i64 y.2.2.2.1, .int .u8 y.2.2.2.2]⟩ 73 (0, 0)) true :: .rep (fun w => (bP y.2.1.2).at_ w F0 (.slice ua y.2.1.2.length uc)) F0 false :: []) ?_ ?_
  · refine T_cond_dec rfl (fun hc => ?_) (fun hc => ?_)
    · have e1 : (fr : Int) = j + 1 := by rw [hfr]; unfold frV_; rw [if_pos hc]; rfl
      repeat (first | refine T_region ?_ | refine S_nil ?_ | refine S_i64 tabOk rfl (by omega) ?_ | refine S_pure tabOk rfl ?_)
      refine ⟨(), trivial, ?_, fun w' hw => hw⟩
      rw [e1]
      repeat (first | exact Sub.nil | refine Sub.cons rfl ?_)
    · have e1 : (fr : Int) = j := by rw [hfr]; unfold frV_; rw [if_neg hc]
      repeat (first | refine pthen_normal ?_ | refine T_skip ?_)
      refine ⟨(), trivial, ?_, fun w' hw => hw⟩
      rw [e1]
      repeat (first | exact Sub.nil | refine Sub.cons rfl ?_)
  rintro _ _
  repeat (first | refine T_seq ?_ | refine T_region ?_ | refine S_pure tabOk rfl ?_)
  refine S_cut (ι := Unit) (fun _ => True) (fun _ => [(3, .pointer (some ⟨b1, 0, none⟩)), (5, .pointer (some ⟨b5, 0, none⟩)), (6, .slice aB LB.length cB), (7, .bool true), (8, .int .i64 m), (10, .int .i64 ch), (18, .slice a n c), (19, .int .i64 (n : Int)), (20, .int .i64 (i : Int)), (12, .int .i64 (j : Int)), (13, .pointer (some ⟨b13, 0, none⟩)), (14, .int .i64 (fr : Int)), (105, .slice (some ⟨g, 0, none⟩) LA.length cA), (106, .int .i64 (LA.length : Int)), (107, .int .i64 (j : Int)), (136, .bool (decide (LB.length ≤ fr ∨ (e8 = 5 ∧ (j : Int) = m))))])
    (fun _ => .blk b13 (.cells ⟨cellP q⟩ 71 (0, 0)) true :: knE W K3 G3 :: nbE 131 b1 M.la M.L.length M.lc M.sa M.S.length M.sc :: rowP W 71 M.la M.lc M.L :: rowP W 71 M.sa M.sc M.S :: rowP W 71 (some ⟨g, 0, none⟩) cA LA :: rowP W 71 aB cB LB :: .blk b5 (.cells ⟨[.int .u8 y.1, .int .i64 y.2.1.1, .slice ua y.2.1.2.length uc, .int .i64 y.2.2.1, .int .i64 y.2.2.2.1, .int .u8 y.2.2.2.2]⟩ 73 (0, 0)) true :: .rep (fun w => (bP y.2.1.2).at_ w F0 (.slice ua y.2.1.2.length uc)) F0 false :: []) ?_ ?_
  · refine S_splitb (d := 126) rfl rfl (fun hc => ?_) (fun hc => ?_)
    · have hc := of_decide_eq_true hc
      repeat (first | refine S_nil ?_ | refine S_pure tabOk rfl ?_ | refine S_pass rfl rfl rfl ?_)
      refine ⟨(), trivial, ?_, fun w' hw => hw⟩
      rw [show decide (LB.length ≤ fr ∨ (e8 = 5 ∧ (j : Int) = m)) = _ from (decide_eq_true (.inl (by omega)))]
      repeat (first | exact Sub.nil | refine Sub.cons rfl ?_)
    · have hc := of_decide_eq_false hc
      repeat (first | refine S_pure tabOk rfl ?_)
      refine S_load tabOk 7 rfl rfl rfl ?_
      refine S_q (Q_rem0 rfl rfl rfl (by decide) hd'.1) ?_
      rw [← he8]
      repeat (first | refine S_pure tabOk rfl ?_)
      refine S_splitb (d := 131) rfl rfl (fun h5 => ?_) (fun h5 => ?_)
      · have h5 := of_decide_eq_true h5
        repeat (first | refine S_nil ?_ | refine S_pure tabOk rfl ?_)
        refine ⟨(), trivial, ?_, fun w' hw => hw⟩
        rw [show decide (LB.length ≤ fr ∨ (e8 = 5 ∧ (j : Int) = m)) = _ from (decide_eq_decide.2 ⟨fun h => .inr ⟨h5, h⟩, fun h => h.elim (fun h => by omega) (fun h => h.2)⟩).symm]
        repeat (first | exact Sub.nil | refine Sub.cons rfl ?_)
      · have h5 := of_decide_eq_false h5
        repeat (first | refine S_nil ?_ | refine S_pure tabOk rfl ?_ | refine S_pass rfl rfl rfl ?_)
        refine ⟨(), trivial, ?_, fun w' hw => hw⟩
        rw [show decide (LB.length ≤ fr ∨ (e8 = 5 ∧ (j : Int) = m)) = _ from (decide_eq_false (fun h => h.elim (fun h => by omega) (fun h => h5 h.1)))]
        repeat (first | exact Sub.nil | refine Sub.cons rfl ?_)
  rintro _ _
  refine T_cond_dec rfl (fun hc => ?_) (fun hc => ?_)
  · repeat (first | refine T_region ?_ | refine S_nil ?_ | refine pthen_normal ?_ | refine inb_hit ?_ | refine pthen_exit ?_ | refine T_exit ?_ | refine S_i64 tabOk rfl (by omega) ?_ | refine S_pure tabOk rfl ?_)
    exact ⟨j + 1, by omega, by repeat (first | exact Sub.nil | refine Sub.cons rfl ?_), fun w' hw => hw.less (by repeat (first | exact Less.nil | refine Less.keep ?_ | refine Less.dropB (by first | assumption | omega) ?_)), by omega⟩
  have hfl : fr < LB.length := by omega
  obtain ⟨r, hr0⟩ : ∃ r, r = LB[fr] := ⟨_, rfl⟩
  have hrK : r ∈ K3 := by rw [hr0]; exact hK3 _ (hK2 _ (hLB _ (List.getElem_mem hfl)))
  have hel : q.v = r.v := by
    refine hst2 j q.v r.v ?_ (fun h => hc (.inr h)) ?_
    · have e1 : M.v.1 = LA.map Pk.v := hvA.symm
      rw [e1, List.getElem?_map, List.getElem?_eq_getElem hj', hq0]
      rfl
    · have e1 : N.v.1 = LB.map Pk.v := hvB.symm
      rw [← hfr, e1, List.getElem?_map, List.getElem?_eq_getElem hfl, hr0]
      rfl
  have hto : q.to = r.to := congrArg Prod.fst hel
  have hbs : q.bs = r.bs := congrArg Prod.snd hel
  refine T_kn (X := ∃ g, aB = some ⟨g, 0, none⟩) (fun w hw => hw.rowA 6 (m := LB.length) rfl (by omega)) (fun ⟨g2, hg2⟩ => ?_)
  subst hg2
  repeat (first | refine T_draw (by kernel_rfl) (by kernel_rfl) ?_ | refine D_pure tabOk rfl ?_ | refine D_load tabOk 0 rfl rfl rfl ?_ | refine T_seq ?_ | refine pthen_normal ?_ | refine T_skip ?_)
  refine D_q (Q_idx (sz := 2) tabOk rfl rfl rfl rfl rfl rfl rfl rfl (j := fr) hfl) ?_
  repeat (first | refine D_pure tabOk rfl ?_)
  refine D_load1 tabOk rfl rfl (v := .int .i64 r.to) (fun w' hw => by
    have h1 := row_cellP hw 6 rfl hfl 0 (.int .i64 r.to) (by rw [hr0]; rfl)
    rw [Addr.add_lit] at h1
    exact h1) ?_
  repeat (first | refine D_pure tabOk rfl ?_)
  refine D_re 145 (v' := .bool false) rfl (congrArg Value.bool (decide_eq_false (fun h => h hto))) ?_
  repeat (first | refine D_pure tabOk rfl ?_ | refine D_load tabOk 0 rfl rfl rfl ?_)
  refine D_q (Q_idx (sz := 2) tabOk rfl rfl rfl rfl rfl rfl rfl rfl (j := fr) hfl) ?_
  repeat (first | refine D_pure tabOk rfl ?_)
  refine D_load1 tabOk rfl rfl (v := .slice r.a r.bs.length r.c) (fun w' hw => by
    have h1 := row_cellP hw 6 rfl hfl 1 (.slice r.a r.bs.length r.c) (by rw [hr0]; rfl)
    rw [Addr.add_lit] at h1
    exact h1) ?_
  skip
  refine D_callx rfl Try.call21 (v := .bool true) (fun w' vs hw' h => by
    obtain ⟨u1, _, rfl, rfl, u2, _, rfl, rfl, rfl⟩ := h
    have h2 := okP.ints (hw'.okP 1 rfl) hrK
    have h1 := okP.ints (hw'.okP 1 rfl) hqK
    exact (same_ok q.a r.a _ q.c _ r.c q.bs r.bs w' h1 h2).mono fun e w' ⟨e1, e2⟩ => ⟨by rw [e1]; exact retb (decide_eq_true hbs), e2⟩) ?_
  repeat (first | refine D_all rfl ?_ | refine D_pure tabOk rfl ?_)
  refine T_cond_f rfl ?_
  repeat (first | refine T_region ?_ | refine S_nil ?_ | refine pthen_normal ?_ | refine inb_normal ?_ | refine T_skip ?_ | refine S_i64 tabOk rfl (by omega) ?_ | refine S_pure tabOk rfl ?_)
  exact ⟨j + 1, by omega, by repeat (first | exact Sub.nil | refine Sub.cons rfl ?_), fun w' hw => hw.less (by repeat (first | exact Less.nil | refine Less.keep ?_ | refine Less.dropB (by first | assumption | omega) ?_)), by omega⟩

end Go.Proofs.Ytnefhhoijonnaaa
