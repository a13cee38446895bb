/-
  Frames: which Welcomes and Acks may be. Conditions: each theorem's own.
-/
import Derived.Test.YtnefhhoijonnaaaFrA
import Derived.Test.YtnefhhoijonnaaaEngAb
namespace Go.Proofs.Ytnefhhoijonnaaa
open Go Go.RowKit
set_option linter.unusedVariables false

def graR (h : Hd) (rs : List Run) (m : Nat) : Prop := Can rs ∧ h.ba = 0 ∧ m = 0 ∧ rs.length ≤ 32 ∧ h.cu ≤ h.li ∧ ∀ (hp : 0 < rs.length), 2 ≤ rs[0].1 ∧ h.cu ≤ rs[0].1 - 2 ∧ (rs[rs.length - 1]'(by omega)).2 ≤ h.li
theorem cellsR_at {l : List Run} (h : 0 < l.length) : (cellsR l)[0]? = some (.int .u64 l[0].1) := by
  cases l with
  | nil => exact absurd h (Nat.lt_irrefl 0)
  | cons p l => rfl
open Classical in
set_option maxHeartbeats 2000000 in
theorem grants_ok (h : Hd) (s : Fs) (hf : h.Fit) (A : Nat → Prop) (rs : List Run) (w : World) (hx : SlR Rrun w A s.ra s.rn s.rc rs) (hn : s.rn ≤ 1000000) : Calls Try.prog 84 #[frV h s] w fun e w' => e = .returned (.bool (decide (graR h rs s.im))) ∧ Below w.heap.size w w' := by
  have hl := hx.len
  have hfr := (hx.flat flat_run).2
  have hba := fits_u64 hf.ba
  refine enter1 Try.func84 rfl rfl (Hp.refl w) ?_
  repeat (first | refine T_seq ?_ | refine T_region ?_)
  refine S_new tabOk rfl (fun b hb => ?_)
  repeat (first | refine T_seq ?_ | refine T_region ?_ | refine S_nil ?_ | refine S_pure tabOk rfl ?_ | refine S_load tabOk 0 rfl rfl rfl ?_)
  refine S_callX (fun i : List Run × Bool => (i.2 = true ↔ Can rs) ∧ i.1 = (if i.2 = true then rs else [])) (fun i => Vtup2 (Rset.vp i.1) (Rbool.vp i.2)) TT rfl Try.call110 (fun w1 h1 => (make_ok s.ra s.rn s.rc rs A w1 (hx.ext (h1.below (by repeat (first | exact new_nil | refine new_cons (by first | assumption | omega) ?_)))) hn).mono fun e w' ⟨v, i, e1, e2, e3, e4, e5⟩ => ⟨v, i, e1, e2, ⟨e3, e4⟩, Vp.mono _ e5 fun k hk => BB_new h1 hk⟩) (fun i v F w1 hm hF hv => ?_)
  obtain ⟨t, q⟩ := i
  obtain ⟨hq, ht⟩ := hm
  obtain ⟨v1, v2, rfl, hv1, hv2⟩ := hv
  obtain ⟨a1, n1, c1, rfl, hs1⟩ := set_form hv1
  obtain rfl : v2 = .bool q := by have : [v2] = [.bool q] := hv2; simpa using this
  dsimp only at hq ht
  have hno : ∀ w', ¬ graR h rs s.im → Hp w w' [] → Ending.returned (.bool false) = .returned (.bool (decide (graR h rs s.im))) := fun w' hg _ => retb (decide_eq_false hg).symm
  cases q with
  | false =>
    have hnc : ¬ Can rs := fun h => by have := hq.2 h; cases this
    repeat (first | refine S_pure tabOk rfl ?_)
    refine S_new tabOk rfl (fun b3 hb3 => ?_)
    repeat (first | refine T_seq ?_ | refine T_region ?_ | refine S_nil ?_ | refine S_pure tabOk rfl ?_ | refine S_pass rfl rfl rfl ?_ | refine S_store tabOk 0 rfl rfl rfl rfl rfl rfl ?_)
    refine T_cond_t rfl ?_
    repeat (first | refine T_seq ?_ | refine T_region ?_ | refine S_nil ?_ | refine pthen_ret ?_ | refine T_ret ?_ | refine S_pure tabOk rfl ?_)
    exact ret1 rfl rfl (fun w' hw => ⟨retb (decide_eq_false fun hg => hnc hg.1).symm, hw.below (by repeat (first | exact new_nil | refine new_ro ?_ | refine new_cons (by first | assumption | omega) ?_))⟩)
  | true =>
    rw [if_pos rfl] at ht
    subst ht
    have hcan := hq.1 rfl
    have hn1 : t.length = n1 := hs1.len
    obtain rfl : n1 = s.rn := by omega
    repeat (first | refine S_pure tabOk rfl ?_)
    refine S_new tabOk rfl (fun b3 hb3 => ?_)
    repeat (first | refine T_seq ?_ | refine T_region ?_ | refine S_nil ?_ | refine S_pure tabOk rfl ?_ | refine S_load tabOk 2 rfl rfl rfl ?_ | refine S_store tabOk 0 rfl rfl rfl rfl rfl rfl ?_)
    refine S_split rfl rfl (fun h1 => ?_) (fun h1 => ?_)
    · repeat (first | refine S_nil ?_ | refine S_pure tabOk rfl ?_ | refine S_pass rfl rfl rfl ?_)
      refine T_cond_t rfl ?_
      repeat (first | refine T_seq ?_ | refine T_region ?_ | refine S_nil ?_ | refine pthen_ret ?_ | refine T_ret ?_ | refine S_pure tabOk rfl ?_)
      exact ret1 rfl rfl (fun w' hw => ⟨retb (decide_eq_false (fun ⟨_, g1, g2, g3, g4, _⟩ => by omega)).symm, hw.below (by repeat (first | exact new_nil | refine new_ro ?_ | refine new_cons (by first | assumption | omega) ?_))⟩)
    repeat (first | refine S_pure tabOk rfl ?_ | refine S_load tabOk 2 rfl rfl rfl ?_)
    refine S_split rfl rfl (fun h2 => ?_) (fun h2 => ?_)
    · repeat (first | refine S_nil ?_ | refine S_pure tabOk rfl ?_ | refine S_pass rfl rfl rfl ?_)
      refine T_cond_t rfl ?_
      repeat (first | refine T_seq ?_ | refine T_region ?_ | refine S_nil ?_ | refine pthen_ret ?_ | refine T_ret ?_ | refine S_pure tabOk rfl ?_)
      exact ret1 rfl rfl (fun w' hw => ⟨retb (decide_eq_false (fun ⟨_, g1, g2, g3, g4, _⟩ => by omega)).symm, hw.below (by repeat (first | exact new_nil | refine new_ro ?_ | refine new_cons (by first | assumption | omega) ?_))⟩)
    repeat (first | refine S_pure tabOk rfl ?_ | refine S_load tabOk 2 rfl rfl rfl ?_)
    refine S_split rfl rfl (fun h3 => ?_) (fun h3 => ?_)
    · repeat (first | refine S_nil ?_ | refine S_pure tabOk rfl ?_ | refine S_pass rfl rfl rfl ?_)
      refine T_cond_t rfl ?_
      repeat (first | refine T_seq ?_ | refine T_region ?_ | refine S_nil ?_ | refine pthen_ret ?_ | refine T_ret ?_ | refine S_pure tabOk rfl ?_)
      exact ret1 rfl rfl (fun w' hw => ⟨retb (decide_eq_false (fun ⟨_, g1, g2, g3, g4, _⟩ => by omega)).symm, hw.below (by repeat (first | exact new_nil | refine new_ro ?_ | refine new_cons (by first | assumption | omega) ?_))⟩)
    repeat (first | refine S_nil ?_ | refine S_pure tabOk rfl ?_ | refine S_load tabOk 2 rfl rfl rfl ?_)
    refine T_cond_dec rfl (fun h4 => ?_) (fun h4 => ?_)
    · repeat (first | refine T_seq ?_ | refine T_region ?_ | refine S_nil ?_ | refine pthen_ret ?_ | refine T_ret ?_ | refine S_pure tabOk rfl ?_)
      exact ret1 rfl rfl (fun w' hw => ⟨retb (decide_eq_false (fun ⟨_, g1, g2, g3, g4, _⟩ => by omega)).symm, hw.below (by repeat (first | exact new_nil | refine new_ro ?_ | refine new_cons (by first | assumption | omega) ?_))⟩)
    repeat (first | refine T_draw (by kernel_rfl) (by kernel_rfl) ?_ | refine D_pure tabOk rfl ?_ | refine T_seq ?_ | refine T_region ?_ | refine S_nil ?_ | refine pthen_normal ?_ | refine T_skip ?_ | refine S_pure tabOk rfl ?_ | refine S_load tabOk 2 rfl rfl rfl ?_)
    refine D_split rfl rfl (fun h5 => ?_) (fun h5 => ?_)
    · repeat (first | refine D_all rfl ?_ | refine D_pure tabOk rfl ?_ | refine D_pass rfl rfl rfl ?_ | refine T_ret ?_)
      exact ret1 rfl rfl (fun w' hw => ⟨retb (decide_eq_true ⟨hcan, by omega, by omega, by omega, by omega, fun hp => absurd hp (by omega)⟩).symm, hw.below (by repeat (first | exact new_nil | refine new_ro ?_ | refine new_cons (by first | assumption | omega) ?_))⟩)
    have hpos : 0 < t.length := by omega
    obtain ⟨ab, off, hra⟩ : ∃ ab off, s.ra = some ⟨ab, off, none⟩ := by
      obtain ⟨ab, off, _, e, _⟩ := hx.get_ hpos
      exact ⟨ab, off, e⟩
    have hlast : t.length - 1 < t.length := by omega
    have hcell := run_cells (b := ab) (off := off) (by rw [← hra]; exact hx) hlast
    have hab : ab < w.heap.size := by
      obtain ⟨b', off', _, e, h6, _⟩ := hx.get_ hpos
      rw [hra] at e
      cases e
      exact h6
    have hf0 := fits_u64 (hfr _ (List.getElem_mem hpos)).1
    repeat (first | refine D_load tabOk 0 rfl rfl rfl ?_)
    refine D_callp (SliP s.rn (CellsP (cellsR t))) rfl Try.call111 (SliP.stable (CellsP.stab _)) (fun w' vs hw' h7 => by
      obtain ⟨u1, _, rfl, rfl, u2, _, rfl, rfl, rfl⟩ := h7
      exact (runs_ok a1 s.rn c1 t F w' (set_of (Vtup2_fst (Vp.fact0 (p := Vtup2 (Rset.vp t) (Rbool.vp true)) hw' 1 rfl))) (by omega)).mono fun e w2 ⟨a2, c2, e1, e2, e3⟩ => ⟨_, e1, e2, SliP.of_own e3 (by omega)⟩) ?_
    refine D_idxp tabOk 45 (j := 0) rfl rfl rfl rfl rfl rfl rfl rfl rfl rfl (by omega) ?_
    refine D_fldp tabOk 46 0 rfl rfl rfl rfl rfl (fun b off => rfl) ?_
    refine D_loadp tabOk 47 (v := .int .u64 t[0].1) rfl rfl rfl rfl rfl rfl (by rw [List.drop_drop]; exact cellsR_at hpos) ?_
    repeat (first | refine D_pure tabOk rfl ?_)
    refine D_split rfl rfl (fun h6 => ?_) (fun h6 => ?_)
    rotate_left
    · repeat (first | refine D_pure tabOk rfl ?_ | refine D_pass rfl rfl rfl ?_)
      refine D_allP rfl ?_
      repeat (first | refine T_ret ?_)
      exact ret1 rfl rfl (fun w' hw => ⟨retb (decide_eq_false (fun ⟨_, _, _, _, _, g⟩ => by have := (g hpos).1; omega)).symm, hw.below (by repeat (first | exact new_nil | refine new_ro ?_ | refine new_cons (by first | assumption | omega) ?_))⟩)
    repeat (first | refine D_load tabOk 0 rfl rfl rfl ?_)
    refine D_callp (SliP s.rn (CellsP (cellsR t))) rfl Try.call111 (SliP.stable (CellsP.stab _)) (fun w' vs hw' h7 => by
      obtain ⟨u1, _, rfl, rfl, u2, _, rfl, rfl, rfl⟩ := h7
      exact (runs_ok a1 s.rn c1 t F w' (set_of (Vtup2_fst (Vp.fact0 (p := Vtup2 (Rset.vp t) (Rbool.vp true)) hw' 1 rfl))) (by omega)).mono fun e w2 ⟨a2, c2, e1, e2, e3⟩ => ⟨_, e1, e2, SliP.of_own e3 (by omega)⟩) ?_
    refine D_idxp tabOk 52 (j := 0) rfl rfl rfl rfl rfl rfl rfl rfl rfl rfl (by omega) ?_
    refine D_fldp tabOk 53 0 rfl rfl rfl rfl rfl (fun b off => rfl) ?_
    refine D_loadp tabOk 54 (v := .int .u64 t[0].1) rfl rfl rfl rfl rfl rfl (by rw [List.drop_drop]; exact cellsR_at hpos) ?_
    repeat (first | refine D_u64 tabOk rfl (by omega) ?_ | refine D_pure tabOk rfl ?_ | refine D_load tabOk 2 rfl rfl rfl ?_)
    refine D_split rfl rfl (fun h7 => ?_) (fun h7 => ?_)
    rotate_left
    · repeat (first | refine D_pure tabOk rfl ?_ | refine D_pass rfl rfl rfl ?_)
      refine D_allP rfl ?_
      repeat (first | refine T_ret ?_)
      exact ret1 rfl rfl (fun w' hw => ⟨retb (decide_eq_false (fun ⟨_, _, _, _, _, g⟩ => by have := (g hpos).2.1; omega)).symm, hw.below (by repeat (first | exact new_nil | refine new_ro ?_ | refine new_cons (by first | assumption | omega) ?_))⟩)
    repeat (first | refine D_i64 tabOk rfl (by omega) ?_ | refine D_pure tabOk rfl ?_ | refine D_load tabOk 2 rfl rfl rfl ?_)
    rw [hra]
    refine D_q (Q_idx (sz := 2) tabOk rfl rfl rfl rfl rfl rfl rfl (j := t.length - 1) (by omega) (by omega)) ?_
    repeat (first | refine D_pure tabOk rfl ?_)
    refine D_load1 tabOk (v := .int .u64 t[t.length - 1].2) rfl rfl (fun w' hw => (hw.below (by repeat (first | exact new_nil | refine new_ro ?_ | refine new_cons (by first | assumption | omega) ?_))).cell (p := ⟨ab, off + (t.length - 1) * 2 + 1, none⟩) hab |>.trans (by
      have := hcell 1 _ rfl
      rwa [Addr.add_lit] at this)) ?_
    repeat (first | refine D_pure tabOk rfl ?_ | refine D_load tabOk 2 rfl rfl rfl ?_)
    refine D_allP rfl ?_
    repeat (first | refine T_ret ?_)
    exact ret1 rfl rfl (fun w' hw => ⟨retb (decide_eq_decide.2 ⟨fun g => ⟨hcan, by omega, by omega, by omega, by omega, fun _ => ⟨h6, h7, g⟩⟩, fun ⟨_, _, _, _, _, g⟩ => (g hpos).2.2⟩), hw.below (by repeat (first | exact new_nil | refine new_ro ?_ | refine new_cons (by first | assumption | omega) ?_))⟩)
end Go.Proofs.Ytnefhhoijonnaaa
