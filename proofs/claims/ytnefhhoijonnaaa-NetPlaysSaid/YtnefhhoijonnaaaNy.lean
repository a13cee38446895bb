/-
  The walk of NetPlays. Conditions: each theorem's own.
  Conditions: each theorem's own.
-/
import Derived.Test.YtnefhhoijonnaaaNw
namespace Go.Proofs.Ytnefhhoijonnaaa
open Go Go.RowKit
set_option linter.unusedVariables false


theorem pmR0 {α : Type} (x0 x1 x2 x3 x4 x5 x6 x7 x8 : α) (r : List α) : List.Perm (x0 :: x1 :: x2 :: x3 :: x4 :: x5 :: x6 :: x7 :: x8 :: r) (x2 :: x3 :: x4 :: x5 :: x6 :: x7 :: x8 :: x0 :: x1 :: r) := by
  have hP : List.Perm ([0, 1, 2, 3, 4, 5, 6, 7, 8] : List Nat) [2, 3, 4, 5, 6, 7, 8, 0, 1] := by decide
  exact (hP.map fun i => ([x0, x1, x2, x3, x4, x5, x6, x7, x8][i]?).getD x0).append_right r
theorem pmR1 {α : Type} (x0 x1 x2 x3 : α) (r : List α) : List.Perm (x0 :: x1 :: x2 :: x3 :: r) (x3 :: x0 :: x1 :: x2 :: r) := by
  have hP : List.Perm ([0, 1, 2, 3] : List Nat) [3, 0, 1, 2] := by decide
  exact (hP.map fun i => ([x0, x1, x2, x3][i]?).getD x0).append_right r
theorem pmR2 {α : Type} (x0 x1 x2 x3 x4 x5 : α) (r : List α) : List.Perm (x0 :: x1 :: x2 :: x3 :: x4 :: x5 :: r) (x3 :: x4 :: x5 :: x0 :: x1 :: x2 :: r) := by
  have hP : List.Perm ([0, 1, 2, 3, 4, 5] : List Nat) [3, 4, 5, 0, 1, 2] := by decide
  exact (hP.map fun i => ([x0, x1, x2, x3, x4, x5][i]?).getD x0).append_right r
abbrev ActT := Int × (PVal × (Int × (Int × Int)))
abbrev Ra18 : Rep ActT := Rpair (Rint .u8) (Rpair Rpk (Rpair (Rint .i64) (Rpair (Rint .i64) (Rint .u8))))
theorem act18_form {w : World} {A : Nat → Prop} {cs : List Value} {x : ActT} (h : Ra18.at_ w A cs x) : ∃ a c, cs = [.int .u8 x.1, .int .i64 x.2.1.1, .slice a x.2.1.2.length c, .int .i64 x.2.2.1, .int .i64 x.2.2.2.1, .int .u8 x.2.2.2.2] ∧ Fits .u8 x.1 ∧ Fits .i64 x.2.1.1 ∧ SlR (Rint .u8) w A a x.2.1.2.length c x.2.1.2 ∧ Fits .i64 x.2.2.1 ∧ Fits .i64 x.2.2.2.1 ∧ Fits .u8 x.2.2.2.2 := by
  obtain ⟨c1, c2, rfl, ⟨rfl, h1⟩, c3, c4, rfl, h3, c5, c6, rfl, ⟨rfl, h5⟩, c7, c8, rfl, ⟨rfl, h7⟩, rfl, h8⟩ := h
  obtain ⟨a, n, c, rfl, h9, h10⟩ := pk_form h3
  have hl := h10.len
  subst hl
  exact ⟨a, c, rfl, h1, h9, h10, h5, h7, h8⟩
structure NpI where
  i : Nat
  K : List Pk
  G : Nat → Prop
  N1 : Nt
  N2 : Nt
set_option maxHeartbeats 4000000 in
theorem netPlays_walk (v : Value) (x : List ActT) (W : World) (h : (Rslice Ra18).val W TT v x) : Calls Try.prog 10 #[v] W fun e w' => e = .returned (.bool true) ∧ Below W.heap.size W w' := by
  obtain ⟨a, n, c, rfl, hx⟩ := SlR.form h
  have hl := hx.len
  have hcap := hx.cap
  have hmax := hx.max
  simp only [maxLen] at hmax
  refine enter1 Try.func10 rfl rfl (Hp.refl W) ?_
  repeat (first | refine T_seq ?_ | refine T_region ?_ | refine S_nil ?_ | refine S_pure tabOk rfl ?_)
  refine S_callq (v := .bool true) rfl Try.call31 (fun w1 h1 => awake18_ok w1) ?_
  repeat (first | refine T_seq ?_ | refine T_region ?_ | refine S_nil ?_ | refine pthen_normal ?_ | refine T_skip ?_ | refine T_cond_f rfl ?_ | refine S_pure tabOk rfl ?_)
  refine S_call rfl Try.call32 (fun w1 h1 => (nnew_ok h1).mono fun e w' ⟨b1, e1, hb, h2⟩ => ⟨_, _, e1, h2, ?_⟩)
  repeat (first | refine S_q (Q_build tabOk rfl rfl rfl rfl rfl rfl rfl) ?_)
  refine S_new tabOk rfl (fun b2 hb2 => ?_)
  repeat (first | refine T_seq ?_ | refine T_region ?_ | refine T_block ?_ | refine S_nil ?_ | refine S_pure tabOk rfl ?_)
  refine T_loop (ι := NpI) (fun i => [(0, .slice a n c), (3, .pointer (some ⟨b1, 0, none⟩)), (4, .pointer (some ⟨b2, 0, none⟩)), (12, .slice a n c), (13, .int .i64 (n : Int)), (14, .int .i64 (i.i : Int))])
    (fun i => knE W i.K i.G :: nbE 131 b1 i.N1.la i.N1.L.length i.N1.lc i.N1.sa i.N1.S.length i.N1.sc :: rowP W 71 i.N1.la i.N1.lc i.N1.L :: rowP W 71 i.N1.sa i.N1.sc i.N1.S :: nbE 69 b2 i.N2.la i.N2.L.length i.N2.lc i.N2.sa i.N2.S.length i.N2.sc :: rowP W 133 i.N2.la i.N2.lc i.N2.L :: rowP W 133 i.N2.sa i.N2.sc i.N2.S :: []) (fun i => i.i ≤ n ∧ i.i ≤ 40 ∧ i.N1.ok i.K i.i ∧ i.N2.ok i.K i.i ∧ i.N1.v = i.N2.v) (fun i => n - i.i) ⟨0, [], fun _ => False, ⟨none, 0, none, 0, [], []⟩, ⟨none, 0, none, 0, [], []⟩⟩ ⟨Nat.zero_le _, Nat.zero_le _, nt_ok0 _ _, nt_ok0 _ _, rfl⟩ (by repeat (first | exact Sub.nil | refine Sub.cons rfl ?_)) (fun w' hw => by
      have h2 := (Hp.netN (E := 133) ((Hp.netN (E := 71) (hw.perm (List.Perm.swap _ _ _))).perm (pmR1 ..))).perm (pmR2 ..)
      exact h2.nilK) ?_
  rintro ⟨i, K, G, N1, N2⟩ ⟨hi, hi40, hN1, hN2, hv⟩
  dsimp only at hi hi40 hN1 hN2 hv ⊢
  refine T_kn (X := ∀ k, G k → W.heap.size ≤ k) (fun w hw => hw.newK 0 rfl) (fun hG => ?_)
  repeat (first | refine T_seq ?_ | refine T_region ?_ | refine S_nil ?_ | refine S_pure tabOk rfl ?_)
  refine T_cond_dec rfl (fun h => ?_) (fun h => ?_)
  · have hi' : i < x.length := by omega
    obtain ⟨gb, off, cs, rfl, hlt, hat, hcl, hcell, _⟩ := hx.get_ hi'
    obtain ⟨ua, uc, rfl, f1, f2, hu, f3, f4, f5⟩ := act18_form hat
    repeat (first | refine T_seq ?_ | refine T_region ?_ | refine T_block ?_ | refine pthen_normal ?_ | refine T_skip ?_ | refine S_pure tabOk rfl ?_)
    refine S_q (Q_idx (sz := 6) tabOk rfl rfl rfl rfl rfl rfl rfl rfl (j := i) (by omega)) ?_
    refine S_loadN tabOk (vs := [.int .u8 x[i].1, .int .i64 x[i].2.1.1, .slice ua x[i].2.1.2.length uc, .int .i64 x[i].2.2.1, .int .i64 x[i].2.2.2.1, .int .u8 x[i].2.2.2.2]) rfl rfl rfl (fun w' hw j u hj => by
      rw [Addr.add_lit]
      exact (World.cell?_of_block ((hw.below (by repeat (first | exact new_nil | refine new_rx (by assumption) ?_ | refine new_cons (by first | assumption | omega) ?_ | refine newrow hw 2 rfl (Nat.le_refl _) ?_ | refine newrow hw 3 rfl (Nat.le_refl _) ?_ | refine newrow hw 5 rfl (Nat.le_refl _) ?_ | refine newrow hw 6 rfl (Nat.le_refl _) ?_))).block gb hlt)).trans (hcell j u hj)) ?_
    skip
    refine S_new tabOk rfl (fun b6 hb6 => ?_)
    repeat (first | refine T_seq ?_ | refine T_region ?_ | refine S_nil ?_ | refine S_pure tabOk rfl ?_ | refine S_store tabOk 0 rfl rfl rfl rfl rfl rfl ?_)
    refine T_cond_dec rfl (fun h40 => ?_) (fun h40 => ?_)
    · repeat (first | refine pthen_exit ?_ | refine T_exit ?_)
      refine inb_miss rfl ?_
      repeat (first | refine T_seq ?_ | refine T_region ?_ | refine S_nil ?_ | refine pthen_normal ?_ | refine inb_hit ?_ | refine pthen_exit ?_ | refine T_ret ?_ | refine S_pure tabOk rfl ?_)
      exact ret1 rfl rfl (fun w' hw => ⟨rfl, hw.below (by repeat (first | exact new_nil | refine new_rx (by assumption) ?_ | refine new_cons (by first | assumption | omega) ?_ | refine newrow hw 3 rfl (Nat.le_refl _) ?_ | refine newrow hw 4 rfl (Nat.le_refl _) ?_ | refine newrow hw 6 rfl (Nat.le_refl _) ?_ | refine newrow hw 7 rfl (Nat.le_refl _) ?_))⟩)
    obtain ⟨y, hy⟩ : ∃ y, y = x[i] := ⟨_, rfl⟩
    rw [← hy] at f1 f2 hu f3 f4 f5 ⊢
    repeat (first | refine T_seq ?_ | refine T_region ?_ | refine pthen_normal ?_ | refine T_skip ?_ | refine S_pure tabOk rfl ?_ | refine S_load tabOk 0 rfl rfl rfl ?_)
    refine S_addV (bP y.2.1.2) TT (v := .slice ua y.2.1.2.length uc) (fun w' hw => Vp.old (SlR.val hu) hw (by repeat (first | exact new_nil | refine new_rx (by assumption) ?_ | refine new_cons (by first | assumption | omega) ?_ | refine newrow hw 3 rfl (Nat.le_refl _) ?_ | refine newrow hw 4 rfl (Nat.le_refl _) ?_ | refine newrow hw 6 rfl (Nat.le_refl _) ?_ | refine newrow hw 7 rfl (Nat.le_refl _) ?_))) (fun F0 hF0 => ?_)
    refine S_heap (fun w hw => hw.perm (pmR0 ..)) ?_
    refine S_call rfl Try.call33 (fun w1 h1 => (do_ok y.1 y.2.1.1 y.2.2.1 y.2.2.2.1 y.2.2.2.2 f1 f2 f3 f4 f5 h1 hN1 hN2 (by omega)).mono fun e w' ⟨K', G', M1, M2, r, e1, h2, g1, g2, g3, g4, g5, g6⟩ => ⟨_, _, e1, h2, ?_⟩)
    obtain rfl : r = true := g6 hv
    have hv2 : M1.v = M2.v := by rw [g4, g5, hv]
    clear g4 g5 g6 e1
    repeat (first | refine S_pure tabOk rfl ?_)
    refine S_call rfl Try.call34 (fun w1 h1 => (like_ok h1 g1 g2 (by omega) hv2).mono fun e w' ⟨K2, G2, e1, h2, g7⟩ => ⟨_, _, e1, h2, ?_⟩)
    clear e1
    repeat (first | refine S_nil ?_ | refine S_pure tabOk rfl ?_)
    refine T_cond_f rfl ?_
    repeat (first | refine T_region ?_ | refine S_nil ?_ | refine pthen_normal ?_ | refine inb_normal ?_ | refine T_skip ?_ | refine S_i64 tabOk rfl (by omega) ?_ | refine S_pure tabOk rfl ?_)
    exact ⟨⟨i + 1, K2, G2, M1, M2⟩, ⟨by dsimp only; omega, by dsimp only; omega, g1.up g7 (Nat.le_refl _), g2.up g7 (Nat.le_refl _), hv2⟩, by repeat (first | exact Sub.nil | refine Sub.cons rfl ?_), fun w' hw => hw.less (by repeat (first | exact Less.nil | refine Less.keep ?_ | refine Less.dropR ?_ | refine Less.dropB (by first | assumption | omega) ?_)), by dsimp only; omega⟩
  · repeat (first | refine T_seq ?_ | refine T_region ?_ | refine S_nil ?_ | refine pthen_normal ?_ | refine inb_hit ?_ | refine pthen_exit ?_ | refine T_ret ?_ | refine T_exit ?_ | refine S_pure tabOk rfl ?_)
    exact ret1 rfl rfl (fun w' hw => ⟨rfl, hw.below (by repeat (first | exact new_nil | refine new_rx (by assumption) ?_ | refine new_cons (by first | assumption | omega) ?_ | refine newrow hw 2 rfl (Nat.le_refl _) ?_ | refine newrow hw 3 rfl (Nat.le_refl _) ?_ | refine newrow hw 5 rfl (Nat.le_refl _) ?_ | refine newrow hw 6 rfl (Nat.le_refl _) ?_))⟩)

end Go.Proofs.Ytnefhhoijonnaaa
