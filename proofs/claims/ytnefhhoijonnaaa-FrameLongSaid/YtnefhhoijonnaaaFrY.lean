/-
  Frames: what Decode answers at most; the walk of FrameInners. Conditions: each theorem's own.
-/
import Derived.Test.YtnefhhoijonnaaaFrX
namespace Go.Proofs.Ytnefhhoijonnaaa
open Go Go.RowKit
set_option linter.unusedVariables false

section
variable {all : List Int}
theorem dec_ne3 : ∀ (zs : List Int) (i : Nat), (dec i zs).1 ≠ 3 := by
  intro zs
  induction zs with
  | nil => exact fun i => by unfold dec; decide
  | cons z zs ih =>
    intro i
    have h := ih (i + 1)
    unfold dec
    generalize dec (i + 1) zs = q at h ⊢
    obtain ⟨e, v, u⟩ := q
    dsimp only at h ⊢
    split
    · exact (by decide : (7 : Int) ≠ 3)
    split
    · exact (by decide : (2 : Int) ≠ 3)
    split
    · exact (by decide : (0 : Int) ≠ 3)
    split
    · exact (by decide : (0 : Int) ≠ 3)
    · exact h
theorem pN_ne3 {s : St} (h : s.1 ≠ 3) : (pN all s).1.1 ≠ 3 := by
  unfold pN rd
  dsimp only
  split
  · exact dec_ne3 _ _
  · exact h
theorem pF_ne3 {s : St} {m : Int} (h : s.1 ≠ 3) : (pF all m s).1.1 ≠ 3 := by
  have := pN_ne3 (all := all) h
  unfold pF
  split
  · dsimp only
    split
    · decide
    · exact this
  · exact this
theorem by1_ne3 {e : Int} {zs : List Int} (h : e ≠ 3) : (by1 e zs).1 ≠ 3 := by
  unfold by1
  split
  · exact h
  · split
    · exact (by decide : (2 : Int) ≠ 3)
    · exact (by decide : (0 : Int) ≠ 3)
theorem rdB_ne3 {e m : Int} {zs : List Int} (h : e ≠ 3) : (rdB e zs m).1 ≠ 3 := by
  unfold rdB
  split
  · exact h
  split
  · exact dec_ne3 _ _
  split
  · decide
  split
  · decide
  · exact (by decide : (0 : Int) ≠ 3)
theorem getS_ne3 {e : Int} {zs : List Int} (h : e ≠ 3) : (getS e zs).1 ≠ 3 := by
  have h1 : (if 8 ≤ (by1 e zs).2.1 then (if (by1 e zs).1 = 0 then 2 else (by1 e zs).1) else (by1 e zs).1) ≠ 3 := by
    split
    · split
      · decide
      · exact by1_ne3 h
    · exact by1_ne3 h
  unfold getS
  exact rdB_ne3 h1
theorem getI_ne3 {e : Int} {zs : List Int} (h : e ≠ 3) : (getI e zs).1 ≠ 3 := by
  have h1 : (rd e zs).1 ≠ 3 := by
    unfold rd
    split
    · exact dec_ne3 _ _
    · exact h
  unfold getI
  exact getS_ne3 h1
theorem pR_ne3 {s : St} (h : s.1 ≠ 3) (n : Nat) : (pR all s n).1.1 ≠ 3 := by
  induction n with
  | zero => exact h
  | succ n ih => exact pN_ne3 (pN_ne3 ih)
theorem pI_ne3 {s : St} (h : s.1 ≠ 3) (n : Nat) : (pI all s n).1.1 ≠ 3 := by
  induction n with
  | zero => exact h
  | succ n ih => exact getI_ne3 ih
theorem endD_ne3 : endD all ≠ 3 := by
  have h1 : (headD all).2.1 ≠ 3 := pN_ne3 (pF_ne3 (by1_ne3 (by decide)))
  have h2 : (innD all).q.1 ≠ 3 := by
    unfold innD partD
    split
    · exact pN_ne3 h1
    split
    · exact pI_ne3 (pF_ne3 (pN_ne3 (pN_ne3 h1))) _
    · exact pR_ne3 (pF_ne3 (pN_ne3 (pN_ne3 (pN_ne3 h1)))) _
  unfold endD enE
  split
  · decide
  · exact h2
end
theorem decT_ne3 {zs : List Int} (h : openE zs = 0) : (decT zs).1 ≠ 3 := by
  unfold decT
  repeat' split
  all_goals first | exact (by decide : (6 : Int) ≠ 3) | exact (by decide : (2 : Int) ≠ 3) | exact (by decide : (1 : Int) ≠ 3) | exact (by decide : (0 : Int) ≠ 3) | exact endD_ne3 | skip
  · rename_i h1
    exact absurd h h1
/-- How much it may be. -/
theorem decT_bd {zs : List Int} (hf : ∀ z ∈ zs, Fits .u8 z) : (decT zs).2.1.Fit ∧ (decT zs).2.2.1.length ≤ 1000 ∧ (decT zs).2.2.2.length ≤ 1000 := by
  have hb := (openR_bd hf).1
  have hz : zH.Fit := ⟨fits8 (by decide), mk_i64 (by decide), (mk_u64 (n := 0) (by decide)), (mk_u64 (n := 0) (by decide)), (mk_u64 (n := 0) (by decide)), (mk_u64 (n := 0) (by decide)), (mk_u64 (n := 0) (by decide))⟩
  have h1 : (innD (openR zs)).rs.length ≤ 1000 ∧ (innD (openR zs)).its.length ≤ 1000 := by
    unfold innD partD
    split
    · exact ⟨Nat.zero_le _, Nat.zero_le _⟩
    split
    · have := pF_bd hb (most := 64) (by decide) (p2 (openR zs) (headD (openR zs)).2)
      dsimp only
      rw [pI_len]
      exact ⟨Nat.zero_le _, by omega⟩
    · have := pF_bd hb (most := 32) (by decide) (p3 (openR zs) (headD (openR zs)).2)
      dsimp only
      rw [pR_len]
      exact ⟨by omega, Nat.zero_le _⟩
  unfold decT
  repeat' split
  all_goals first | exact ⟨hz, Nat.zero_le _, Nat.zero_le _⟩ | exact ⟨innD_fit hb, h1⟩
def decRP (r : Int × Hd × List Run × List ItemI) : Vp := ⟨fun w A v => ∃ s, v = .tuple #[refV r.2.1 s, .int .i64 r.1] ∧ FsR w A s r.2.2.1 r.2.2.2, fun ⟨s, e, h⟩ hk => ⟨s, e, h.r.keep hk, h.i.keep hk⟩⟩
theorem decRP_of {r : Int × Hd × List Run × List ItemI} {w : World} {A : Nat → Prop} {s : Fs} (h : (decRP r).at_ w A (.tuple #[refV r.2.1 s, .int .i64 r.1])) : FsR w A s r.2.2.1 r.2.2.2 := by
  obtain ⟨t, e, h⟩ := h
  have : s = t := by
    cases s
    cases t
    simp at e
    obtain ⟨⟨h1, h2, h3⟩, h4, h5, h6⟩ := e
    subst h1 h2 h3 h4 h5 h6
    rfl
  rw [this]
  exact h
theorem rdecode_v {a : Option Addr} {n c : Nat} {zs : List Int} (w : World) (hx : Ints .u8 w a n c zs) : Calls Try.prog 26 #[.slice a n c] w fun e w' => ∃ v, e = .returned v ∧ Below w.heap.size w w' ∧ (decRP (decT zs)).at_ w' (fun k => w.heap.size ≤ k) v :=
  (rdecode_ok w hx).mono fun e w' ⟨s, e1, e2, e3⟩ => ⟨_, e1, e2, s, rfl, e3⟩
open Classical in
set_option maxHeartbeats 4000000 in
theorem frameInners_w (a : Option Addr) (n c : Nat) (zs : List Int) (W : World) (hw : Ints .u8 W a n c zs) : Calls Try.prog 5 #[.slice a n c] W fun e w' => e = .returned (.bool true) ∧ Below W.heap.size W w' := by
  obtain ⟨ys, hys⟩ : ∃ ys, ys = zs.take 400 := ⟨_, rfl⟩
  have hyl : ys.length ≤ 400 := by rw [hys, List.length_take]; omega
  have hyf : ∀ z ∈ ys, Fits .u8 z := fun z hz => hw.fits z (by rw [hys] at hz; exact List.mem_of_mem_take hz)
  refine enter1 Try.func5 rfl rfl (Hp.refl W) ?_
  repeat (first | refine T_seq ?_ | refine T_region ?_ | refine S_nil ?_ | refine S_pure tabOk rfl ?_)
  refine S_callq (v := .bool true) rfl Try.call14 (fun w1 h1 => awake5_ok w1) ?_
  repeat (first | refine T_seq ?_ | refine T_region ?_ | refine S_nil ?_ | refine pthen_normal ?_ | refine T_skip ?_ | refine T_cond_f rfl ?_ | refine S_pure tabOk rfl ?_)
  refine S_callrow rfl Try.call24 (fun w1 h1 => cut_ok a n c zs 400 w1 (hw.ext (h1.below (by repeat (first | exact new_nil)))) (by decide)) (fun a1 c1 hc1 hd1 => ?_)
  rw [← hys] at hc1 ⊢
  skip
  refine S_callZ (bP (closeB ys)) (fun _ => False) rfl Try.call23 (fun w1 h1 => (rclose_p w1 (SlR.val (.of_ints (ints_of_own (h1.own _ (getE_mem (i := 0) rfl)) hyf) fun b' off hn e => trivial)) (by omega)).mono fun e w2 ⟨r, e1, e2, e3⟩ => ⟨r, e1, e2, nbb' h1 e3⟩) (fun v9 F9 w9 hF9 hv9 => ⟨_, rfl, ?_⟩)
  repeat (first | refine T_seq ?_ | refine T_region ?_ | refine S_nil ?_ | refine S_pure tabOk rfl ?_)
  obtain ⟨a9, n9, c9, rfl, hs9⟩ := SlR.form hv9
  clear hv9 hs9
  obtain ⟨q, hq⟩ : ∃ q, q = closeB ys := ⟨_, rfl⟩
  have hoe : openE q = 0 := by rw [hq]; exact (openR_close ys).2
  have hqf : ∀ z ∈ q, Fits .u8 z := by rw [hq]; exact closeB_fits hyf
  rw [← hq]
  obtain ⟨⟨E, H, rs, its⟩, hd⟩ : ∃ r, decT q = r := ⟨_, rfl⟩
  obtain ⟨hHf, hrl, hil⟩ := decT_bd hqf
  have hne := decT_ne3 hoe
  rw [hd] at hHf hrl hil hne
  dsimp only at hHf hrl hil hne
  refine S_callZ (decP (E, H, rs, its)) TT rfl Try.call25 (fun w1 h1 => by
    have := decode_v w1 (bP_ints (Vp.fact0 (p := bP q) h1 1 rfl))
    rw [hd] at this
    exact this.mono fun e w' ⟨r, e1, e2, e3⟩ => ⟨r, e1, e2, nbb' h1 e3⟩) (fun v0 F0 w1 hF hv => ⟨_, rfl, ?_⟩)
  obtain ⟨s5, rfl, hs5⟩ := hv
  have hs5r : rs.length = s5.rn := hs5.r.len
  have hs5i : its.length = s5.im := hs5.i.len
  clear hs5
  dsimp only
  repeat (first | refine S_pure tabOk rfl ?_)
  refine S_new tabOk rfl (fun b4 hb4 => ?_)
  repeat (first | refine T_seq ?_ | refine T_region ?_ | refine S_nil ?_ | refine S_pure tabOk rfl ?_ | refine S_store tabOk 0 rfl rfl rfl rfl rfl rfl ?_)
  refine S_callZ (decRP (E, H, rs, its)) TT rfl Try.call26 (fun w1 h1 => by
    have := rdecode_v w1 (bP_ints (Vp.fact0 (p := bP q) h1 2 rfl))
    rw [hd] at this
    exact this.mono fun e w' ⟨r, e1, e2, e3⟩ => ⟨r, e1, e2, nbb' h1 e3⟩) (fun v0 F0 w1 hF hv => ⟨_, rfl, ?_⟩)
  obtain ⟨s6, rfl, hs6⟩ := hv
  clear hs6
  dsimp only
  repeat (first | refine S_pure tabOk rfl ?_)
  refine S_new tabOk rfl (fun b6 hb6 => ?_)
  repeat (first | refine T_draw (by kernel_rfl) (by kernel_rfl) ?_ | refine D_pure tabOk rfl ?_ | refine T_seq ?_ | refine S_nil ?_ | refine S_pure tabOk rfl ?_ | refine S_store tabOk 0 rfl rfl rfl rfl rfl rfl ?_)
  refine D_re 26 (v' := .bool true) rfl (congrArg Value.bool (decide_eq_true rfl)) ?_
  repeat (first | refine D_load tabOk 1 rfl rfl rfl ?_)
  refine D_callp (OwnP H rs its) rfl Try.call18 OwnP.stable (fun w' vs hw' h => by
    obtain ⟨u1, _, rfl, rfl, u2, _, rfl, rfl, rfl⟩ := h
    exact (own5_ok H s5 hHf w' (decP_of (Vp.fact0 (p := decP (E, H, rs, its)) hw' 4 rfl)) (by omega) (by omega)).mono fun e w2 ⟨s', e1, e2, e3⟩ => ⟨_, e1, e2, s', rfl, e3.tt⟩) ?_
  repeat (first | refine D_load tabOk 0 rfl rfl rfl ?_)
  refine D_callx rfl Try.call22 (v := .bool true) (fun w' vs hw' h => by
    obtain ⟨u1, _, rfl, ⟨s', rfl, g1⟩, u2, _, rfl, rfl, rfl⟩ := h
    exact (rfsame5_ok H H s' s6 w' g1 (decRP_of (Vp.fact0 (p := decRP (E, H, rs, its)) hw' 5 rfl))).mono fun e w2 ⟨e1, e2⟩ => ⟨by rw [e1]; exact retb (decide_eq_true (frEq_refl H rs its)), e2⟩) ?_
  repeat (first | refine D_pure tabOk rfl ?_)
  refine D_allP rfl ?_
  repeat (first | refine T_ret ?_)
  exact ret1 rfl rfl (fun w' hw => ⟨retb (decide_eq_true hne), hw.below (by repeat (first | exact new_nil | refine new_ro ?_ | refine new_cons (by first | assumption | omega) ?_ | refine newrow hw 2 rfl (Nat.le_refl _) ?_))⟩)
theorem frameInners_walk (v : Value) (x : List Int) (W : World) (h : (Rslice (Rint .u8)).val W TT v x) : Calls Try.prog 5 #[v] W fun e w' => e = .returned (.bool true) ∧ Below W.heap.size W w' := by
  obtain ⟨a, n, c, rfl, hs⟩ := SlR.form h
  exact frameInners_w a n c x W hs.ints
end Go.Proofs.Ytnefhhoijonnaaa
