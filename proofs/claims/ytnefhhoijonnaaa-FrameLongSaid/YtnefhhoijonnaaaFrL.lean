/-
  The walk of FrameOnce. Conditions: each theorem's own.
-/
import Derived.Test.YtnefhhoijonnaaaFrK
namespace Go.Proofs.Ytnefhhoijonnaaa
open Go Go.RowKit
set_option linter.unusedVariables false

theorem itsN_fits {l : List ItemI} (h : ∀ x ∈ l, ∀ z ∈ x.2.2, Fits .u8 z) : ∀ z ∈ itsN l, Fits .u8 z := fun z hz => by
  obtain ⟨c, hc, hzc⟩ := List.mem_flatten.1 hz
  obtain ⟨x, hx, rfl⟩ := List.mem_map.1 hc
  rcases List.mem_append.1 hzc with h1 | h1
  · exact enc_fits _ z h1
  · exact spB_fits (h x hx) z h1
theorem FsR.body {w : World} {A : Nat → Prop} {s : Fs} {rs : List Run} {its : List ItemI} (h : FsR w A s rs its) : ∀ x ∈ its, ∀ z ∈ x.2.2, Fits .u8 z := fun x hx => by
  obtain ⟨j, hj, rfl⟩ := List.getElem_of_mem hx
  obtain ⟨_, _, _, _, _, _, _, _, h1⟩ := item_read h.i.tt hj
  exact (h1 w (Below.refl _ w)).2.fits
theorem partB_fits {H : Hd} {rs : List Run} {its : List ItemI} (h : ∀ x ∈ its, ∀ z ∈ x.2.2, Fits .u8 z) : ∀ z ∈ partB H rs its, Fits .u8 z := by
  unfold partB
  split
  · exact enc_fits _
  split
  · exact fits8s_app encN_fits (itsN_fits h)
  · exact fits8s_app encN_fits encN_fits
theorem frB_fits {H : Hd} {rs : List Run} {its : List ItemI} (hf : H.Fit) (h : ∀ x ∈ its, ∀ z ∈ x.2.2, Fits .u8 z) : ∀ z ∈ frB H rs its, Fits .u8 z :=
  closeB_fits (fits8s_app (fits8s_app (fits8s_app (fun z hz => by rw [List.mem_singleton] at hz; subst hz; exact hf.kd) (enc_fits _)) (enc_fits _)) (partB_fits h))
theorem encZ_fits {H : Hd} {rs : List Run} {its : List ItemI} (hf : H.Fit) (h : ∀ x ∈ its, ∀ z ∈ x.2.2, Fits .u8 z) : ∀ z ∈ encZ H rs its, Fits .u8 z := by
  unfold encZ
  split
  · split
    · exact fun z hz => by cases hz
    · exact frB_fits hf h
  · exact fun z hz => by cases hz
theorem encE_1 {H : Hd} {rs : List Run} {its : List ItemI} : encE H rs its ≠ 1 ↔ frR H rs its := by
  unfold encE
  split
  · rename_i h
    refine ⟨fun _ => h, fun _ => ?_⟩
    split <;> decide
  · rename_i h
    exact ⟨fun h1 => absurd rfl h1, fun h1 => absurd h1 h⟩
theorem encE_0 {H : Hd} {rs : List Run} {its : List ItemI} (h : encE H rs its = 0) : frR H rs its ∧ encZ H rs its = frB H rs its ∧ (frB H rs its).length ≤ 65507 := by
  unfold encE at h
  split at h
  · rename_i h1
    split at h
    · cases h
    · rename_i h2
      exact ⟨h1, by unfold encZ; rw [if_pos h1, if_neg h2], by omega⟩
  · cases h
structure OnI where
  G : Hd
  t : Fs
  rs : List Run
  its : List ItemI
open Classical in
set_option maxHeartbeats 4000000 in
theorem frameOnce_walk (v : Value) (x : FrT) (v2 : Value) (x2 : FrT) (same : Bool) (W : World) (h : Rfr.val W TT v x) (h2 : Rfr.val W TT v2 x2) : Calls Try.prog 4 #[v, v2, .bool same] W fun e w' => e = .returned (.bool true) ∧ Below W.heap.size W w' := by
  obtain ⟨s, rfl, hf, hx⟩ := frame_form h
  obtain ⟨s2, rfl, hf2, hx2⟩ := frame_form h2
  obtain ⟨H, hH⟩ : ∃ H, H = hdT x := ⟨_, rfl⟩
  obtain ⟨H2, hH2⟩ : ∃ H, H = hdT x2 := ⟨_, rfl⟩
  rw [← hH] at hf ⊢
  rw [← hH2] at hf2 ⊢
  have hy := few_fs hx
  have hy2 := few_fs hx2
  generalize (rsT x).take 40 = rs at hy
  generalize (itT x).take 70 = its at hy
  generalize (rsT x2).take 40 = rs2 at hy2
  generalize (itT x2).take 70 = its2 at hy2
  have ht1 : (fewS s).rn ≤ 40 := by show min s.rn 40 ≤ 40; omega
  have ht2 : (fewS s).im ≤ 70 := by show min s.im 70 ≤ 70; omega
  have ht3 : (fewS s2).rn ≤ 40 := by show min s2.rn 40 ≤ 40; omega
  have ht4 : (fewS s2).im ≤ 70 := by show min s2.im 70 ≤ 70; omega
  refine enter3 Try.func4 rfl rfl (Hp.refl W) ?_
  repeat (first | refine T_seq ?_ | refine T_region ?_)
  refine S_new tabOk rfl (fun b hb => ?_)
  refine S_new tabOk rfl (fun b2 hb2 => ?_)
  repeat (first | refine T_seq ?_ | refine T_region ?_ | refine S_nil ?_ | refine S_pure tabOk rfl ?_)
  refine S_callq (v := .bool true) rfl Try.call14 (fun w1 h1 => awake5_ok w1) ?_
  repeat (first | refine S_nil ?_ | refine S_pure tabOk rfl ?_)
  refine T_cond_f rfl ?_
  repeat (first | refine T_seq ?_ | refine pthen_normal ?_ | refine T_skip ?_)
  refine T_drawT (by kernel_rfl) 4 rfl (by kernel_rfl) ?_
  repeat (first | refine D_load tabOk 1 rfl rfl rfl ?_)
  refine D_callx (v := frV H (fewS s)) rfl Try.call15 (fun w' vs hw' h => by obtain ⟨u1, _, rfl, rfl, rfl⟩ := h; exact few5_ok H s w' hx.r.cap hx.i.cap hx.r.max hx.i.max) ?_
  repeat (first | refine D_load tabOk 0 rfl rfl rfl ?_)
  refine D_callx (v := frV H2 (fewS s2)) rfl Try.call15 (fun w' vs hw' h => by obtain ⟨u1, _, rfl, rfl, rfl⟩ := h; exact few5_ok H2 s2 w' hx2.r.cap hx2.i.cap hx2.r.max hx2.i.max) ?_
  obtain ⟨t, ht⟩ : ∃ t, t = fewS s := ⟨_, rfl⟩
  obtain ⟨t2, ht2'⟩ : ∃ t, t = fewS s2 := ⟨_, rfl⟩
  rw [← ht] at hy ht1 ht2 ⊢
  rw [← ht2'] at hy2 ht3 ht4 ⊢
  repeat (first | refine D_all rfl ?_ | refine T_seq ?_ | refine T_region ?_ | refine S_nil ?_ | refine S_pure tabOk rfl ?_ | refine S_store tabOk 0 rfl rfl rfl rfl rfl rfl ?_ | refine S_store tabOk 1 rfl rfl rfl rfl rfl rfl ?_)
  refine T_cut (ι := OnI) (fun i => i.G.Fit ∧ FsR W TT i.t i.rs i.its ∧ i.t.rn ≤ 40 ∧ i.t.im ≤ 70) (fun i => [(3, .pointer (some ⟨b, 0, none⟩)), (4, .pointer (some ⟨b2, 0, none⟩))]) (fun i => [.blk b2 (.cells ⟨frC .u8 i.G i.t⟩ 26 (0, 0)) true, .blk b (.cells ⟨frC .u8 H t⟩ 26 (0, 0)) true]) ?_ ?_
  · cases same with
    | true =>
      refine T_cond_t rfl ?_
      repeat (first | refine T_region ?_ | refine S_nil ?_ | refine S_load tabOk 1 rfl rfl rfl ?_ | refine S_store tabOk 0 rfl rfl rfl rfl rfl rfl ?_)
      exact ⟨⟨H, t, rs, its⟩, ⟨hf, hy, ht1, ht2⟩, by repeat (first | exact Sub.nil | refine Sub.cons rfl ?_), fun w' hw => hw⟩
    | false =>
      refine T_cond_f rfl ?_
      repeat (first | refine pthen_normal ?_ | refine T_skip ?_)
      exact ⟨⟨H2, t2, rs2, its2⟩, ⟨hf2, hy2, ht3, ht4⟩, by repeat (first | exact Sub.nil | refine Sub.cons rfl ?_), fun w' hw => hw⟩
  rintro ⟨G, t2, rs2, its2⟩ ⟨gf, hy2, ht3, ht4⟩
  dsimp only at gf hy2 ht3 ht4 ⊢
  have hzf := encZ_fits (rs := rs) hf hy.body
  have gzf := encZ_fits (rs := rs2) gf hy2.body
  repeat (first | refine T_seq ?_ | refine T_region ?_ | refine S_load tabOk 1 rfl rfl rfl ?_)
  refine S_callrow2 (m := (encZ H rs its).length) (xs := (encZ H rs its).map (.int .u8)) (v2 := .int .i64 (encE H rs its)) (E := 5) (sz := 1) rfl Try.call20 (fun w1 h1 => encode_ok H t hf w1 (hy.ext (h1.below (by repeat (first | exact new_nil | refine new_cons (by first | assumption | omega) ?_)))) (by omega)) (fun a1 c1 hc1 hd1 => ?_)
  repeat (first | refine T_seq ?_ | refine T_region ?_ | refine S_nil ?_ | refine S_pure tabOk rfl ?_ | refine S_load tabOk 1 rfl rfl rfl ?_)
  refine S_callrow2 (m := (encZ G rs2 its2).length) (xs := (encZ G rs2 its2).map (.int .u8)) (v2 := .int .i64 (encE G rs2 its2)) (E := 5) (sz := 1) rfl Try.call20 (fun w1 h1 => encode_ok G t2 gf w1 (hy2.ext (h1.below (by repeat (first | exact new_nil | refine new_cons (by first | assumption | omega) ?_ | refine newrow h1 0 rfl (Nat.le_refl _) ?_)))) (by omega)) (fun a2 c2 hc2 hd2 => ?_)
  repeat (first | refine T_seq ?_ | refine T_region ?_ | refine S_nil ?_ | refine S_pure tabOk rfl ?_)
  have heq : ∀ {H : Hd} {rs : List Run} {its : List ItemI}, H.Fit → Value.bool (decide (frR H rs its) == decide (encE H rs its ≠ 1)) = .bool true := fun _ => by
    rw [show decide (frR _ _ _) = decide (encE _ _ _ ≠ 1) from dec_eq encE_1.symm]
    simp
  refine S_split rfl rfl (fun h1 => ?_) (fun h1 => ?_)
  · repeat (first | refine S_nil ?_ | refine S_pure tabOk rfl ?_ | refine S_pass rfl rfl rfl ?_)
    refine T_cond_t rfl ?_
    repeat (first | refine T_seq ?_ | refine T_region ?_ | refine S_load tabOk 3 rfl rfl rfl ?_)
    refine S_callq (v := .bool (decide (frR H rs its))) rfl Try.call16 (fun w1 h1 => right_ok H t hf TT rs its w1 (hy.ext (h1.below (by repeat (first | exact new_nil | refine new_cons (by first | assumption | omega) ?_ | refine newrow h1 0 rfl (Nat.le_refl _) ?_ | refine newrow h1 1 rfl (Nat.le_refl _) ?_)))) (by omega)) ?_
    repeat (first | refine S_pure tabOk rfl ?_)
    refine S_q ((Q_eqb tabOk rfl rfl rfl rfl rfl).eq (v' := .bool true) (heq hf)) ?_
    repeat (first | refine S_pure tabOk rfl ?_ | refine S_load tabOk 2 rfl rfl rfl ?_)
    refine S_callq (v := .bool (decide (frR G rs2 its2))) rfl Try.call16 (fun w1 h1 => right_ok G t2 gf TT rs2 its2 w1 (hy2.ext (h1.below (by repeat (first | exact new_nil | refine new_cons (by first | assumption | omega) ?_ | refine newrow h1 0 rfl (Nat.le_refl _) ?_ | refine newrow h1 1 rfl (Nat.le_refl _) ?_)))) (by omega)) ?_
    repeat (first | refine S_pure tabOk rfl ?_)
    refine S_q ((Q_eqb tabOk rfl rfl rfl rfl rfl).eq (v' := .bool true) (heq gf)) ?_
    repeat (first | refine S_nil ?_ | refine pthen_ret ?_ | refine T_ret ?_ | refine S_pure tabOk rfl ?_)
    exact ret1 rfl rfl (fun w' hw => ⟨rfl, hw.below (by repeat (first | exact new_nil | refine new_cons (by first | assumption | omega) ?_ | refine newrow hw 0 rfl (Nat.le_refl _) ?_ | refine newrow hw 1 rfl (Nat.le_refl _) ?_))⟩)
  repeat (first | refine S_nil ?_ | refine S_pure tabOk rfl ?_)
  refine T_cond_dec rfl (fun h2 => ?_) (fun h2 => ?_)
  · repeat (first | refine T_seq ?_ | refine T_region ?_ | refine S_load tabOk 3 rfl rfl rfl ?_)
    refine S_callq (v := .bool (decide (frR H rs its))) rfl Try.call16 (fun w1 h1 => right_ok H t hf TT rs its w1 (hy.ext (h1.below (by repeat (first | exact new_nil | refine new_cons (by first | assumption | omega) ?_ | refine newrow h1 0 rfl (Nat.le_refl _) ?_ | refine newrow h1 1 rfl (Nat.le_refl _) ?_)))) (by omega)) ?_
    repeat (first | refine S_pure tabOk rfl ?_)
    refine S_q ((Q_eqb tabOk rfl rfl rfl rfl rfl).eq (v' := .bool true) (heq hf)) ?_
    repeat (first | refine S_pure tabOk rfl ?_ | refine S_load tabOk 2 rfl rfl rfl ?_)
    refine S_callq (v := .bool (decide (frR G rs2 its2))) rfl Try.call16 (fun w1 h1 => right_ok G t2 gf TT rs2 its2 w1 (hy2.ext (h1.below (by repeat (first | exact new_nil | refine new_cons (by first | assumption | omega) ?_ | refine newrow h1 0 rfl (Nat.le_refl _) ?_ | refine newrow h1 1 rfl (Nat.le_refl _) ?_)))) (by omega)) ?_
    repeat (first | refine S_pure tabOk rfl ?_)
    refine S_q ((Q_eqb tabOk rfl rfl rfl rfl rfl).eq (v' := .bool true) (heq gf)) ?_
    repeat (first | refine S_nil ?_ | refine pthen_ret ?_ | refine T_ret ?_ | refine S_pure tabOk rfl ?_)
    exact ret1 rfl rfl (fun w' hw => ⟨rfl, hw.below (by repeat (first | exact new_nil | refine new_cons (by first | assumption | omega) ?_ | refine newrow hw 0 rfl (Nat.le_refl _) ?_ | refine newrow hw 1 rfl (Nat.le_refl _) ?_))⟩)
  obtain ⟨hR, e1, e2⟩ := encE_0 (Decidable.not_not.1 h1)
  obtain ⟨gR, e3, e4⟩ := encE_0 (Decidable.not_not.1 h2)
  have hiff := frB_iff hf gf hy.oks hy2.oks hR gR
  repeat (first | refine T_draw (by kernel_rfl) (by kernel_rfl) ?_ | refine D_pure tabOk rfl ?_ | refine T_seq ?_ | refine pthen_normal ?_ | refine T_skip ?_)
  refine D_callx (v := .bool (decide (frEq H G rs rs2 its its2))) rfl Try.call21 (fun w' vs hw' h => by
    obtain ⟨u1, _, rfl, rfl, u2, _, rfl, rfl, rfl⟩ := h
    exact (same_ok a1 a2 (encZ H rs its).length c1 (encZ G rs2 its2).length c2 (encZ H rs its) (encZ G rs2 its2) w' (ints_of_own (hw'.own _ (getE_mem (i := 1) rfl)) hzf) (ints_of_own (hw'.own _ (getE_mem (i := 0) rfl)) gzf)).mono fun e w2 ⟨g1, g2⟩ => ⟨by rw [g1]; exact retb (dec_eq (by rw [e1, e3]; exact hiff)), g2⟩) ?_
  repeat (first | refine D_load tabOk 2 rfl rfl rfl ?_ | refine D_load tabOk 3 rfl rfl rfl ?_)
  refine D_callx (v := .bool (decide (frEq H G rs rs2 its its2))) rfl Try.call19 (fun w' vs hw' h => by
    obtain ⟨u1, _, rfl, rfl, u2, _, rfl, rfl, rfl⟩ := h
    exact fsame_ok H G t t2 w' (hy.ext (hw'.below (by repeat (first | exact new_nil | refine new_cons (by first | assumption | omega) ?_ | refine newrow hw' 0 rfl (Nat.le_refl _) ?_ | refine newrow hw' 1 rfl (Nat.le_refl _) ?_)))) (hy2.ext (hw'.below (by repeat (first | exact new_nil | refine new_cons (by first | assumption | omega) ?_ | refine newrow hw' 0 rfl (Nat.le_refl _) ?_ | refine newrow hw' 1 rfl (Nat.le_refl _) ?_))))) ?_
  skip
  refine D_q ((Q_eqb tabOk rfl rfl rfl rfl rfl).eq (v' := .bool true) (by simp)) ?_
  repeat (first | refine D_pure tabOk rfl ?_ | refine D_load tabOk 2 rfl rfl rfl ?_ | refine D_load tabOk 3 rfl rfl rfl ?_)
  refine D_callx (v := .bool (decide (frEq H G rs rs2 its its2))) rfl Try.call19 (fun w' vs hw' h => by
    obtain ⟨u1, _, rfl, rfl, u2, _, rfl, rfl, rfl⟩ := h
    exact fsame_ok H G t t2 w' (hy.ext (hw'.below (by repeat (first | exact new_nil | refine new_cons (by first | assumption | omega) ?_ | refine newrow hw' 0 rfl (Nat.le_refl _) ?_ | refine newrow hw' 1 rfl (Nat.le_refl _) ?_)))) (hy2.ext (hw'.below (by repeat (first | exact new_nil | refine new_cons (by first | assumption | omega) ?_ | refine newrow hw' 0 rfl (Nat.le_refl _) ?_ | refine newrow hw' 1 rfl (Nat.le_refl _) ?_))))) ?_
  repeat (first | refine D_load tabOk 3 rfl rfl rfl ?_)
  refine D_callp (OwnP H rs its) rfl Try.call18 OwnP.stable (fun w' vs hw' h => by
    obtain ⟨u1, _, rfl, rfl, rfl⟩ := h
    exact (own5_ok H t hf w' (hy.ext (hw'.below (by repeat (first | exact new_nil | refine new_cons (by first | assumption | omega) ?_ | refine newrow hw' 0 rfl (Nat.le_refl _) ?_ | refine newrow hw' 1 rfl (Nat.le_refl _) ?_)))) (by omega) (by omega)).mono fun e w2 ⟨s', e1, e2, e3⟩ => ⟨_, e1, e2, s', rfl, e3.tt⟩) ?_
  repeat (first | refine D_load tabOk 2 rfl rfl rfl ?_)
  refine D_callp (OwnP G rs2 its2) rfl Try.call18 OwnP.stable (fun w' vs hw' h => by
    obtain ⟨u1, _, rfl, rfl, rfl⟩ := h
    exact (own5_ok G t2 gf w' (hy2.ext (hw'.below (by repeat (first | exact new_nil | refine new_cons (by first | assumption | omega) ?_ | refine newrow hw' 0 rfl (Nat.le_refl _) ?_ | refine newrow hw' 1 rfl (Nat.le_refl _) ?_)))) (by omega) (by omega)).mono fun e w2 ⟨s', e1, e2, e3⟩ => ⟨_, e1, e2, s', rfl, e3.tt⟩) ?_
  skip
  refine D_callx (v := .bool (decide (frEq H G rs rs2 its its2))) rfl Try.call22 (fun w' vs hw' h => by
    obtain ⟨u1, _, rfl, ⟨s', rfl, g1⟩, u2, _, rfl, ⟨s3, rfl, g2⟩, rfl⟩ := h
    exact rfsame5_ok H G s' s3 w' g1 g2) ?_
  skip
  refine D_q ((Q_eqb tabOk rfl rfl rfl rfl rfl).eq (v' := .bool true) (by simp)) ?_
  repeat (first | refine D_pure tabOk rfl ?_)
  refine D_allP rfl ?_
  repeat (first | refine T_ret ?_)
  exact ret1 rfl rfl (fun w' hw => ⟨rfl, hw.below (by repeat (first | exact new_nil | refine new_cons (by first | assumption | omega) ?_ | refine newrow hw 0 rfl (Nat.le_refl _) ?_ | refine newrow hw 1 rfl (Nat.le_refl _) ?_))⟩)
end Go.Proofs.Ytnefhhoijonnaaa
