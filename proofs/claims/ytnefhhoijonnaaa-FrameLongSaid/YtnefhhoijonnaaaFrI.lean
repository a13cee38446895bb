/-
  The walk of FrameRights. Conditions: each theorem's own.
-/
import Derived.Test.YtnefhhoijonnaaaFrH
namespace Go.Proofs.Ytnefhhoijonnaaa
open Go Go.RowKit
set_option linter.unusedVariables false

abbrev FrT := Int × (Int × (Int × (Int × (Int × (Int × (Int × (List Run × List ItemI)))))))
abbrev Rfr : Rep FrT := Rpair (Rint .u8) (Rpair (Rint .i64) (Rpair (Rint .u64) (Rpair (Rint .u64) (Rpair (Rint .u64) (Rpair (Rint .u64) (Rpair (Rint .u64) (Rpair (Rslice Rrun) (Rslice Ritem))))))))
def hdT (x : FrT) : Hd := ⟨x.1, x.2.1, x.2.2.1, x.2.2.2.1, x.2.2.2.2.1, x.2.2.2.2.2.1, x.2.2.2.2.2.2.1⟩
def rsT (x : FrT) : List Run := x.2.2.2.2.2.2.2.1
def itT (x : FrT) : List ItemI := x.2.2.2.2.2.2.2.2
theorem frame_form {w : World} {A : Nat → Prop} {v : Value} {x : FrT} (h : Rfr.val w A v x) : ∃ s, v = frV (hdT x) s ∧ (hdT x).Fit ∧ FsR w A s (rsT x) (itT x) := by
  obtain ⟨cs, rfl, c1, d1, rfl, ⟨rfl, h1⟩, c2, d2, rfl, ⟨rfl, h2⟩, c3, d3, rfl, ⟨rfl, h3⟩, c4, d4, rfl, ⟨rfl, h4⟩, c5, d5, rfl, ⟨rfl, h5⟩, c6, d6, rfl, ⟨rfl, h6⟩, c7, d7, rfl, ⟨rfl, h7⟩, c8, d8, rfl, ⟨ra, rn, rc, rfl, hr⟩, ia, im, ic, rfl, hi⟩ := h
  exact ⟨⟨ra, rn, rc, ia, im, ic⟩, rfl, ⟨h1, h2, h3, h4, h5, h6, h7⟩, hr, hi⟩
theorem FsR.tt {w : World} {A : Nat → Prop} {s : Fs} {rs : List Run} {its : List ItemI} (h : FsR w A s rs its) : FsR w TT s rs its := ⟨h.r.tt, h.i.tt⟩
/-- What own answers, in a region that draws. -/
def OwnP (H : Hd) (rs : List Run) (its : List ItemI) (v : Value) (w : World) : Prop := ∃ s, v = refV H s ∧ FsR w TT s rs its
theorem OwnP.stable {H : Hd} {rs : List Run} {its : List ItemI} : ∀ v w w', OwnP H rs its v w → Below w.heap.size w w' → OwnP H rs its v w' := fun v w w' ⟨s, e, h⟩ hb => ⟨s, e, h.ext hb⟩
open Classical in
set_option maxHeartbeats 2000000 in
theorem frameRights_walk (v : Value) (x : FrT) (W : World) (h : Rfr.val W TT v x) : Calls Try.prog 3 #[v] W fun e w' => e = .returned (.bool true) ∧ Below W.heap.size W w' := by
  obtain ⟨s, rfl, hf, hx⟩ := frame_form h
  have hcp := hx.r.cap
  have hcpi := hx.i.cap
  have hmx := hx.r.max
  have hmxi := hx.i.max
  obtain ⟨H, hH⟩ : ∃ H, H = hdT x := ⟨_, rfl⟩
  rw [← hH] at hf ⊢
  have hy := few_fs hx
  obtain ⟨t, ht⟩ : ∃ t, t = fewS s := ⟨_, rfl⟩
  have ht1 : t.rn ≤ 40 := by rw [ht]; show min s.rn 40 ≤ 40; omega
  have ht2 : t.im ≤ 70 := by rw [ht]; show min s.im 70 ≤ 70; omega
  rw [← ht] at hy
  generalize (rsT x).take 40 = rs at hy
  generalize (itT x).take 70 = its at hy
  refine enter1 Try.func3 rfl rfl (Hp.refl W) ?_
  repeat (first | refine T_seq ?_ | refine T_region ?_)
  refine S_new tabOk rfl (fun b hb => ?_)
  repeat (first | refine T_seq ?_ | refine T_region ?_ | refine S_nil ?_ | refine S_pure tabOk rfl ?_)
  refine S_callq (v := .bool true) rfl Try.call14 (fun w1 h1 => awake5_ok w1) ?_
  repeat (first | refine T_seq ?_ | refine T_region ?_ | refine S_nil ?_ | refine pthen_normal ?_ | refine T_skip ?_ | refine T_cond_f rfl ?_ | refine S_pure tabOk rfl ?_ | refine S_load tabOk 0 rfl rfl rfl ?_)
  refine S_callq (v := frV H t) rfl Try.call15 (fun w1 h1 => by rw [ht]; exact few5_ok H s w1 hcp hcpi hmx hmxi) ?_
  repeat (first | refine T_draw (by kernel_rfl) (by kernel_rfl) ?_ | refine D_load tabOk 0 rfl rfl rfl ?_ | refine T_seq ?_ | refine S_nil ?_ | refine S_store tabOk 0 rfl rfl rfl rfl rfl rfl ?_)
  refine D_callx rfl Try.call16 (v := .bool (decide (frR H rs its))) (fun w' vs hw' h => by obtain ⟨u1, _, rfl, rfl, rfl⟩ := h; exact right_ok H t hf TT rs its w' (hy.ext (hw'.below (by repeat (first | exact new_nil | refine new_cons (by first | assumption | omega) ?_)))) (by omega)) ?_
  repeat (first | refine D_load tabOk 0 rfl rfl rfl ?_)
  refine D_callp (OwnP H rs its) rfl Try.call18 OwnP.stable (fun w' vs hw' h => by
    obtain ⟨u1, _, rfl, rfl, rfl⟩ := h
    exact (own5_ok H t hf w' (hy.ext (hw'.below (by repeat (first | exact new_nil | refine new_cons (by first | assumption | omega) ?_)))) (by omega) (by omega)).mono fun e w2 ⟨s', e1, e2, e3⟩ => ⟨_, e1, e2, s', rfl, e3.tt⟩) ?_
  skip
  refine D_callx rfl Try.call17 (v := .bool (decide (frR H rs its))) (fun w' vs hw' h => by
    obtain ⟨u1, _, rfl, ⟨s', rfl, g1⟩, rfl⟩ := h
    exact rright5_ok H s' hf w' g1 (by have h1 := g1.r.len; have h2 := hy.r.len; omega)) ?_
  skip
  refine D_q ((Q_eqb tabOk rfl rfl rfl rfl rfl).eq (v' := .bool true) (by simp)) ?_
  repeat (first | refine D_pure tabOk rfl ?_ | refine D_load tabOk 0 rfl rfl rfl ?_)
  refine D_callx rfl Try.call19 (v := .bool true) (fun w' vs hw' h => by
    obtain ⟨u1, _, rfl, rfl, u2, _, rfl, rfl, rfl⟩ := h
    have hy' := hy.ext (hw'.below (by repeat (first | exact new_nil | refine new_cons (by first | assumption | omega) ?_)))
    exact (fsame_ok H H t t w' hy' hy').mono fun e w2 ⟨e1, e2⟩ => ⟨by rw [e1]; exact retb (decide_eq_true (frEq_refl H rs its)), e2⟩) ?_
  repeat (first | refine D_pure tabOk rfl ?_)
  refine D_allP rfl ?_
  repeat (first | refine T_ret ?_)
  exact ret1 rfl rfl (fun w' hw => ⟨rfl, hw.below (by repeat (first | exact new_nil | refine new_cons (by first | assumption | omega) ?_))⟩)
end Go.Proofs.Ytnefhhoijonnaaa
