/-
  Frames: the document's Encode; the walk of FrameEncodes. Conditions: each theorem's own.
-/
import Derived.Test.YtnefhhoijonnaaaFrT
import Derived.Test.YtnefhhoijonnaaaFrS
import Derived.Test.YtnefhhoijonnaaaFrU
namespace Go.Proofs.Ytnefhhoijonnaaa
open Go Go.RowKit
set_option linter.unusedVariables false

def encP (E : Int) (Z : List Int) : Vp := ⟨fun w A v => ∃ r, v = .tuple #[r, .int .i64 E] ∧ (bP Z).at_ w A r, fun ⟨r, e, h⟩ hk => ⟨r, e, (bP Z).keep h hk⟩⟩
def ownV (H : Hd) (rs : List Run) (its : List ItemI) : Vp := ⟨fun w A v => ∃ s, v = refV H s ∧ FsR w A s rs its, fun ⟨s, e, h⟩ hk => ⟨s, e, h.r.keep hk, h.i.keep hk⟩⟩
theorem encP_of {E : Int} {Z : List Int} {w : World} {A : Nat → Prop} {r u : Value} (h : (encP E Z).at_ w A (.tuple #[r, u])) : (bP Z).at_ w A r := by
  obtain ⟨r', e, h⟩ := h
  have : r = r' := by
    simp at e
    exact e.1
  rw [this]
  exact h
theorem ownV_of {H : Hd} {rs : List Run} {its : List ItemI} {w : World} {A : Nat → Prop} {s : Fs} (h : (ownV H rs its).at_ w A (refV H s)) : FsR w A s rs its := by
  obtain ⟨t, e, h⟩ := h
  have : s = t := by
    cases s
    cases t
    simp at e
    obtain ⟨⟨h1, h2, h3⟩, h4, h5, h6⟩ := e
    subst h1 h2 h3 h4 h5 h6
    rfl
  rw [this]
  exact h
theorem FsR.bb {W w : World} {A : Nat → Prop} {ol : OL} {s : Fs} {rs : List Run} {its : List ItemI} (h : FsR W A s rs its) (hh : Hp W w ol) (hn : ∀ e ∈ ol, e.ex = true → ∀ k, e.has k → W.heap.size ≤ k) : FsR w (BB W A ol) s rs its :=
  have key : ∀ k, A k → k < W.heap.size → w.heap[k]? = W.heap[k]? ∧ BB W A ol k := fun k hk hlt => ⟨(hh.below hn).block k hlt, .inl hk, fun e he hx hh' => by have := hn e he hx k hh'; omega⟩
  ⟨h.r.keep key, h.i.keep key⟩
theorem FsR.bn {W w w2 : World} {A : Nat → Prop} {ol : OL} {s : Fs} {rs : List Run} {its : List ItemI} (hh : Hp W w ol) (h : FsR w2 (fun k => BB W A ol k ∨ w.heap.size ≤ k) s rs its) : FsR w2 (BB W A ol) s rs its :=
  have key : ∀ k, (BB W A ol k ∨ w.heap.size ≤ k) → k < w2.heap.size → w2.heap[k]? = w2.heap[k]? ∧ BB W A ol k := fun k hk _ => ⟨rfl, hk.elim id (BB_new hh)⟩
  ⟨h.r.keep key, h.i.keep key⟩
open Classical in
set_option maxHeartbeats 2000000 in
theorem rencode_ok (H : Hd) (s : Fs) (hf : H.Fit) {A : Nat → Prop} {rs : List Run} {its : List ItemI} (w : World) (hx : FsR w A s rs its) (hn : s.rn ≤ 1000) : Calls Try.prog 29 #[refV H s] w fun e w' => ∃ v, e = .returned v ∧ Below w.heap.size w w' ∧ (encP (encE H rs its) (encZ H rs its)).at_ w' (fun k => w.heap.size ≤ k) v := by
  refine enter1 Try.func29 rfl rfl (Hp.refl w) ?_
  repeat (first | refine T_seq ?_ | refine T_region ?_)
  refine S_new tabOk rfl (fun b hb => ?_)
  repeat (first | refine T_seq ?_ | refine T_region ?_ | refine S_nil ?_ | refine S_pure tabOk rfl ?_ | refine S_load tabOk 0 rfl rfl rfl ?_)
  refine S_callq (v := .bool (decide (frR H rs its))) rfl Try.call17 (fun w1 h1 => rright5_ok H s hf w1 (hx.ext (h1.below (by repeat (first | exact new_nil | refine new_cons (by first | assumption | omega) ?_)))) hn) ?_
  repeat (first | refine S_nil ?_ | refine S_pure tabOk rfl ?_)
  by_cases hR : frR H rs its
  rotate_left
  · have e1 : encE H rs its = 1 := by unfold encE; rw [if_neg hR]
    have e2 : encZ H rs its = [] := by unfold encZ; rw [if_neg hR]
    rw [e1, e2]
    refine T_cond_t (by rw [decide_eq_false hR]; rfl) ?_
    repeat (first | refine T_seq ?_ | refine T_region ?_ | refine S_nil ?_ | refine pthen_ret ?_ | refine T_ret ?_ | refine S_pure tabOk rfl ?_)
    exact ret2 rfl rfl rfl (fun w' hw => ⟨_, rfl, hw.below (by repeat (first | exact new_nil | refine new_cons (by first | assumption | omega) ?_)), _, rfl, SlR.val SlR.nil_⟩)
  refine T_cond_f (by rw [decide_eq_true hR]; rfl) ?_
  repeat (first | refine T_seq ?_ | refine T_region ?_ | refine pthen_normal ?_ | refine T_skip ?_ | refine S_load tabOk 0 rfl rfl rfl ?_)
  refine S_callZ (bP (frB H rs its)) (fun _ => False) rfl Try.call71 (fun w1 h1 => (rbytes_ok H s hf w1 (hx.ext (h1.below (by repeat (first | exact new_nil | refine new_cons (by first | assumption | omega) ?_)))) hR).mono fun e w2 ⟨r, e1, e2, e3⟩ => ⟨r, e1, e2, nbb' h1 e3⟩) (fun v2 F2 w2 hF2 hv2 => ⟨_, rfl, ?_⟩)
  obtain ⟨a2, n2, c2, rfl, hs2⟩ := SlR.form hv2
  have hn2 := hs2.len
  clear hv2 hs2
  repeat (first | refine T_seq ?_ | refine T_region ?_ | refine S_nil ?_ | refine S_pure tabOk rfl ?_)
  refine T_cond_dec rfl (fun h5 => ?_) (fun h5 => ?_)
  · have e1 : encE H rs its = 6 := by unfold encE; rw [if_pos hR, if_pos (by omega)]
    have e2 : encZ H rs its = [] := by unfold encZ; rw [if_pos hR, if_pos (by omega)]
    rw [e1, e2]
    repeat (first | refine T_seq ?_ | refine T_region ?_ | refine S_nil ?_ | refine pthen_ret ?_ | refine T_ret ?_ | refine S_pure tabOk rfl ?_)
    exact ret2 rfl rfl rfl (fun w' hw => ⟨_, rfl, hw.below (by repeat (first | exact new_nil | refine new_ro ?_ | refine new_cons (by first | assumption | omega) ?_)), _, rfl, SlR.val SlR.nil_⟩)
  · have e1 : encE H rs its = 0 := by unfold encE; rw [if_pos hR, if_neg (by omega)]
    have e2 : encZ H rs its = frB H rs its := by unfold encZ; rw [if_pos hR, if_neg (by omega)]
    rw [e1, e2]
    repeat (first | refine T_seq ?_ | refine T_region ?_ | refine S_nil ?_ | refine pthen_normal ?_ | refine T_skip ?_ | refine T_ret ?_ | refine S_pure tabOk rfl ?_)
    exact ret2 rfl rfl rfl (fun w' hw => ⟨_, rfl, hw.below (by repeat (first | exact new_nil | refine new_ro ?_ | refine new_cons (by first | assumption | omega) ?_)), _, rfl, Vp.mono _ (Vp.fact0 (p := bP (frB H rs its)) hw 1 rfl) (fun k hk => (hF2 k hk).elim False.elim id)⟩)
open Classical in
set_option maxHeartbeats 4000000 in
theorem frameEncodes_walk (v : Value) (x : FrT) (W : World) (h : Rfr.val W TT v x) : Calls Try.prog 7 #[v] W fun e w' => e = .returned (.bool true) ∧ Below W.heap.size W w' := by
  obtain ⟨s, rfl, hf, hx⟩ := frame_form h
  obtain ⟨H, hH⟩ : ∃ H, H = hdT x := ⟨_, rfl⟩
  rw [← hH] at hf ⊢
  have hy := few_fs hx
  obtain ⟨t, ht⟩ : ∃ t, t = fewS s := ⟨_, rfl⟩
  have ht1 : t.rn ≤ 40 := by rw [ht]; show min s.rn 40 ≤ 40; omega
  have ht2 : t.im ≤ 70 := by rw [ht]; show min s.im 70 ≤ 70; omega
  rw [← ht] at hy
  generalize (rsT x).take 40 = rs at hy
  generalize (itT x).take 70 = its at hy
  have hzf := encZ_fits (rs := rs) hf hy.body
  refine enter1 Try.func7 rfl rfl (Hp.refl W) ?_
  repeat (first | refine T_seq ?_ | refine T_region ?_)
  refine S_new tabOk rfl (fun b hb => ?_)
  repeat (first | refine T_seq ?_ | refine T_region ?_ | refine S_nil ?_ | refine S_pure tabOk rfl ?_)
  refine S_callq (v := .bool true) rfl Try.call14 (fun w1 h1 => awake5_ok w1) ?_
  repeat (first | refine T_seq ?_ | refine T_region ?_ | refine S_nil ?_ | refine pthen_normal ?_ | refine T_skip ?_ | refine T_cond_f rfl ?_ | refine S_pure tabOk rfl ?_ | refine S_load tabOk 0 rfl rfl rfl ?_)
  refine S_callq (v := frV H t) rfl Try.call15 (fun w1 h1 => by rw [ht]; exact few5_ok H s w1 hx.r.cap hx.i.cap hx.r.max hx.i.max) ?_
  repeat (first | refine T_seq ?_ | refine T_region ?_ | refine S_nil ?_ | refine S_load tabOk 0 rfl rfl rfl ?_ | refine S_store tabOk 0 rfl rfl rfl rfl rfl rfl ?_)
  refine S_callrow2 (m := (encZ H rs its).length) (xs := (encZ H rs its).map (.int .u8)) (v2 := .int .i64 (encE H rs its)) (E := 5) (sz := 1) rfl Try.call20 (fun w1 h1 => encode_ok H t hf w1 (hy.ext (h1.below (by repeat (first | exact new_nil | refine new_cons (by first | assumption | omega) ?_)))) (by omega)) (fun a1 c1 hc1 hd1 => ?_)
  repeat (first | refine T_seq ?_ | refine T_region ?_ | refine S_nil ?_ | refine S_pure tabOk rfl ?_ | refine S_load tabOk 1 rfl rfl rfl ?_)
  refine S_callZ (ownV H rs its) TT rfl Try.call18 (fun w1 h1 => (own5_ok H t hf w1 (hy.bb h1 (by repeat (first | exact new_nil | refine new_cons (by first | assumption | omega) ?_ | refine newrow h1 0 rfl (Nat.le_refl _) ?_))) (by omega) (by omega)).mono fun e w2 ⟨s', e1, e2, e3⟩ => ⟨_, e1, e2, s', rfl, FsR.bn h1 e3⟩) (fun v0 F0 w1 hF hv => ⟨_, rfl, ?_⟩)
  obtain ⟨s2, rfl, hs2⟩ := hv
  have hs2n : s2.rn ≤ 1000 := by have := hs2.r.len; have := hy.r.len; omega
  clear hs2
  skip
  refine S_callZ (encP (encE H rs its) (encZ H rs its)) TT rfl Try.call29 (fun w1 h1 => (rencode_ok H s2 hf w1 (ownV_of (Vp.fact0 (p := ownV H rs its) h1 2 rfl)) hs2n).mono fun e w2 ⟨r, e1, e2, e3⟩ => ⟨r, e1, e2, nbb' h1 e3⟩) (fun v3 F3 w3 hF3 hv3 => ⟨_, rfl, ?_⟩)
  obtain ⟨r3, rfl, hb3⟩ := hv3
  obtain ⟨a3, n3, c3, rfl, hs3⟩ := SlR.form hb3
  have hn3 := hs3.len
  have hm3 := hs3.max
  clear hb3 hs3
  repeat (first | refine T_seq ?_ | refine T_region ?_ | refine S_nil ?_ | refine S_pure tabOk rfl ?_)
  refine S_callq (v := .bool true) rfl Try.call21 (fun w1 h1 => same1_ok a1 a3 _ c1 _ c3 (encZ H rs its) w1 (ints_of_own (h1.own _ (getE_mem (i := 0) rfl)) hzf) (bP_ints (encP_of (Vp.fact0 (p := encP (encE H rs its) (encZ H rs its)) h1 3 rfl)))) ?_
  repeat (first | refine S_nil ?_ | refine S_pure tabOk rfl ?_)
  refine T_cond_dec rfl (fun h4 => ?_) (fun _ => ?_)
  · exact absurd rfl h4
  repeat (first | refine T_seq ?_ | refine T_region ?_ | refine S_nil ?_ | refine pthen_normal ?_ | refine T_skip ?_ | refine S_pure tabOk rfl ?_)
  refine T_cond_dec rfl (fun h5 => ?_) (fun h5 => ?_)
  · repeat (first | refine T_seq ?_ | refine T_region ?_ | refine S_nil ?_ | refine pthen_ret ?_ | refine T_ret ?_ | refine S_pure tabOk rfl ?_)
    exact ret1 rfl rfl (fun w' hw => ⟨rfl, hw.below (by repeat (first | exact new_nil | refine new_ro ?_ | refine new_cons (by first | assumption | omega) ?_ | refine newrow hw 0 rfl (Nat.le_refl _) ?_))⟩)
  obtain ⟨hR, e1, e2⟩ := encE_0 (Decidable.not_not.1 h5)
  have hdq : decT (encZ H rs its) = (0, H, rs, its) := by rw [e1]; exact decT_frB hf hy.oks hR e2
  repeat (first | refine T_seq ?_ | refine T_region ?_ | refine pthen_normal ?_ | refine T_skip ?_ | refine S_pure tabOk rfl ?_)
  refine S_callZ (decP (0, H, rs, its)) TT rfl Try.call25 (fun w1 h1 => by
    have := decode_v w1 (ints_of_own (h1.own _ (getE_mem (i := 0) rfl)) hzf)
    rw [hdq] at this
    exact this.mono fun e w' ⟨r, e1, e2, e3⟩ => ⟨r, e1, e2, nbb' h1 e3⟩) (fun v0 F0 w1 hF hv => ⟨_, rfl, ?_⟩)
  obtain ⟨s5, rfl, hs5⟩ := hv
  dsimp only
  clear hs5
  repeat (first | refine S_pure tabOk rfl ?_)
  refine S_new tabOk rfl (fun b9 hb9 => ?_)
  repeat (first | refine T_seq ?_ | refine T_region ?_ | refine S_nil ?_ | refine S_pure tabOk rfl ?_ | refine S_load tabOk 0 rfl rfl rfl ?_ | refine S_load tabOk 2 rfl rfl rfl ?_ | refine S_store tabOk 0 rfl rfl rfl rfl rfl rfl ?_)
  refine S_callq (v := .bool true) rfl Try.call19 (fun w1 h1 => by
    exact (fsame_ok H H t s5 w1 (hy.ext (h1.below (by repeat (first | exact new_nil | refine new_ro ?_ | refine new_cons (by first | assumption | omega) ?_ | refine newrow h1 1 rfl (Nat.le_refl _) ?_)))) (decP_of (Vp.fact0 (p := decP (0, H, rs, its)) h1 5 rfl))).mono fun e w2 ⟨e1, e2⟩ => ⟨by rw [e1]; exact retb (decide_eq_true (frEq_refl H rs its)), e2⟩) ?_
  repeat (first | refine S_nil ?_ | refine T_ret ?_ | refine S_pure tabOk rfl ?_)
  exact ret1 rfl rfl (fun w' hw => ⟨rfl, hw.below (by repeat (first | exact new_nil | refine new_ro ?_ | refine new_cons (by first | assumption | omega) ?_ | refine newrow hw 1 rfl (Nat.le_refl _) ?_))⟩)
end Go.Proofs.Ytnefhhoijonnaaa
