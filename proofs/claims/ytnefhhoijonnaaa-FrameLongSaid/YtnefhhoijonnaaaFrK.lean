/-
  Frames: which are alike, by the document. Conditions: each theorem's own.
-/
import Derived.Test.YtnefhhoijonnaaaFrJ
namespace Go.Proofs.Ytnefhhoijonnaaa
open Go Go.RowKit
set_option linter.unusedVariables false

theorem sub_cells {w : World} {b off : Nat} {x y z : Value} (h : ∀ j u, ([x, y, z] : List Value)[j]? = some u → w.cell? ((⟨b, off, none⟩ : Addr).add j) = some u) : ∀ j u, ([y, z] : List Value)[j]? = some u → w.cell? ((⟨b, off + 1, none⟩ : Addr).add j) = some u := fun j u hu => by
  have := h (j + 1) u hu
  rw [Addr.add_lit] at this ⊢
  rwa [show off + 1 + j = off + (j + 1) by omega]
open Classical in
set_option maxHeartbeats 4000000 in
theorem rfsame5_ok (H G : Hd) (s t : Fs) {A B : Nat → Prop} {rs rs' : List Run} {its its' : List ItemI} (w : World) (hx : FsR w A s rs its) (hy : FsR w B t rs' its') : Calls Try.prog 22 #[refV H s, refV G t] w fun e w' => e = .returned (.bool (decide (frEq H G rs rs' its its'))) ∧ Below w.heap.size w w' := by
  have hil := hx.i.len
  have hil' := hy.i.len
  have hcp := hx.i.cap
  have hmx := hx.i.max
  simp only [maxLen] at hmx
  refine enter2 Try.func22 rfl rfl (Hp.refl w) ?_
  repeat (first | refine T_seq ?_ | refine T_region ?_)
  refine S_new tabOk rfl (fun b hb => ?_)
  refine S_new tabOk rfl (fun b2 hb2 => ?_)
  repeat (first | refine T_seq ?_ | refine T_region ?_ | refine S_nil ?_ | refine S_pure tabOk rfl ?_ | refine S_load tabOk 0 rfl rfl rfl ?_ | refine S_load tabOk 1 rfl rfl rfl ?_)
  refine S_split rfl rfl (fun g1 => ?_) (fun g1 => ?_)
  · repeat (first | refine S_nil ?_ | refine S_pure tabOk rfl ?_ | refine S_pass rfl rfl rfl ?_)
    refine T_cond_t rfl ?_
    repeat (first | refine T_seq ?_ | refine T_region ?_ | refine S_nil ?_ | refine pthen_ret ?_ | refine T_ret ?_ | refine S_pure tabOk rfl ?_)
    exact ret1 rfl rfl (fun w' hw => ⟨retb (false_dec (fun h => g1 h.1.1)), hw.below (by repeat (first | exact new_nil | refine new_cons (by first | assumption | omega) ?_))⟩)
  repeat (first | refine S_pure tabOk rfl ?_ | refine S_load tabOk 0 rfl rfl rfl ?_ | refine S_load tabOk 1 rfl rfl rfl ?_)
  refine S_split rfl rfl (fun g2 => ?_) (fun g2 => ?_)
  · repeat (first | refine S_nil ?_ | refine S_pure tabOk rfl ?_ | refine S_pass rfl rfl rfl ?_)
    refine T_cond_t rfl ?_
    repeat (first | refine T_seq ?_ | refine T_region ?_ | refine S_nil ?_ | refine pthen_ret ?_ | refine T_ret ?_ | refine S_pure tabOk rfl ?_)
    exact ret1 rfl rfl (fun w' hw => ⟨retb (false_dec (fun h => g2 h.1.2.1)), hw.below (by repeat (first | exact new_nil | refine new_cons (by first | assumption | omega) ?_))⟩)
  repeat (first | refine S_pure tabOk rfl ?_ | refine S_load tabOk 0 rfl rfl rfl ?_ | refine S_load tabOk 1 rfl rfl rfl ?_)
  refine S_split rfl rfl (fun g3 => ?_) (fun g3 => ?_)
  · repeat (first | refine S_nil ?_ | refine S_pure tabOk rfl ?_ | refine S_pass rfl rfl rfl ?_)
    refine T_cond_t rfl ?_
    repeat (first | refine T_seq ?_ | refine T_region ?_ | refine S_nil ?_ | refine pthen_ret ?_ | refine T_ret ?_ | refine S_pure tabOk rfl ?_)
    exact ret1 rfl rfl (fun w' hw => ⟨retb (false_dec (fun h => g3 h.1.2.2.1)), hw.below (by repeat (first | exact new_nil | refine new_cons (by first | assumption | omega) ?_))⟩)
  repeat (first | refine S_pure tabOk rfl ?_ | refine S_load tabOk 0 rfl rfl rfl ?_ | refine S_load tabOk 1 rfl rfl rfl ?_)
  refine S_split rfl rfl (fun g4 => ?_) (fun g4 => ?_)
  · repeat (first | refine S_nil ?_ | refine S_pure tabOk rfl ?_ | refine S_pass rfl rfl rfl ?_)
    refine T_cond_t rfl ?_
    repeat (first | refine T_seq ?_ | refine T_region ?_ | refine S_nil ?_ | refine pthen_ret ?_ | refine T_ret ?_ | refine S_pure tabOk rfl ?_)
    exact ret1 rfl rfl (fun w' hw => ⟨retb (false_dec (fun h => g4 h.1.2.2.2.1)), hw.below (by repeat (first | exact new_nil | refine new_cons (by first | assumption | omega) ?_))⟩)
  repeat (first | refine S_pure tabOk rfl ?_ | refine S_load tabOk 0 rfl rfl rfl ?_ | refine S_load tabOk 1 rfl rfl rfl ?_)
  refine S_split rfl rfl (fun g5 => ?_) (fun g5 => ?_)
  · repeat (first | refine S_nil ?_ | refine S_pure tabOk rfl ?_ | refine S_pass rfl rfl rfl ?_)
    refine T_cond_t rfl ?_
    repeat (first | refine T_seq ?_ | refine T_region ?_ | refine S_nil ?_ | refine pthen_ret ?_ | refine T_ret ?_ | refine S_pure tabOk rfl ?_)
    exact ret1 rfl rfl (fun w' hw => ⟨retb (false_dec (fun h => g5 h.1.2.2.2.2.1)), hw.below (by repeat (first | exact new_nil | refine new_cons (by first | assumption | omega) ?_))⟩)
  repeat (first | refine S_pure tabOk rfl ?_ | refine S_load tabOk 0 rfl rfl rfl ?_ | refine S_load tabOk 1 rfl rfl rfl ?_)
  refine S_split rfl rfl (fun g6 => ?_) (fun g6 => ?_)
  · repeat (first | refine S_nil ?_ | refine S_pure tabOk rfl ?_ | refine S_pass rfl rfl rfl ?_)
    refine T_cond_t rfl ?_
    repeat (first | refine T_seq ?_ | refine T_region ?_ | refine S_nil ?_ | refine pthen_ret ?_ | refine T_ret ?_ | refine S_pure tabOk rfl ?_)
    exact ret1 rfl rfl (fun w' hw => ⟨retb (false_dec (fun h => g6 h.1.2.2.2.2.2.1)), hw.below (by repeat (first | exact new_nil | refine new_cons (by first | assumption | omega) ?_))⟩)
  repeat (first | refine S_pure tabOk rfl ?_ | refine S_load tabOk 0 rfl rfl rfl ?_ | refine S_load tabOk 1 rfl rfl rfl ?_)
  refine S_split rfl rfl (fun g7 => ?_) (fun g7 => ?_)
  · repeat (first | refine S_nil ?_ | refine S_pure tabOk rfl ?_ | refine S_pass rfl rfl rfl ?_)
    refine T_cond_t rfl ?_
    repeat (first | refine T_seq ?_ | refine T_region ?_ | refine S_nil ?_ | refine pthen_ret ?_ | refine T_ret ?_ | refine S_pure tabOk rfl ?_)
    exact ret1 rfl rfl (fun w' hw => ⟨retb (false_dec (fun h => g7 h.1.2.2.2.2.2.2)), hw.below (by repeat (first | exact new_nil | refine new_cons (by first | assumption | omega) ?_))⟩)
  repeat (first | refine S_pure tabOk rfl ?_ | refine S_load tabOk 0 rfl rfl rfl ?_ | refine S_load tabOk 1 rfl rfl rfl ?_)
  by_cases g8 : rs = rs'
  rotate_left
  · refine S_callq (v := .bool false) rfl Try.call47 (fun w1 h1 => (rsame_ok s.ra t.ra s.rn s.rc t.rn t.rc rs rs' A B w1 (hx.r.ext (h1.below (by repeat (first | exact new_nil | refine new_cons (by first | assumption | omega) ?_)))) (hy.r.ext (h1.below (by repeat (first | exact new_nil | refine new_cons (by first | assumption | omega) ?_))))).mono fun e w' ⟨h1, h2⟩ => ⟨by rw [h1]; exact retb (decide_eq_false g8), h2⟩) ?_
    repeat (first | refine S_nil ?_ | refine S_pure tabOk rfl ?_ | refine S_pass rfl rfl rfl ?_)
    refine T_cond_t rfl ?_
    repeat (first | refine T_seq ?_ | refine T_region ?_ | refine S_nil ?_ | refine pthen_ret ?_ | refine T_ret ?_ | refine S_pure tabOk rfl ?_)
    exact ret1 rfl rfl (fun w' hw => ⟨retb (false_dec (fun h => g8 h.2.1)), hw.below (by repeat (first | exact new_nil | refine new_cons (by first | assumption | omega) ?_))⟩)
  refine S_callq (v := .bool true) rfl Try.call47 (fun w1 h1 => (rsame_ok s.ra t.ra s.rn s.rc t.rn t.rc rs rs' A B w1 (hx.r.ext (h1.below (by repeat (first | exact new_nil | refine new_cons (by first | assumption | omega) ?_)))) (hy.r.ext (h1.below (by repeat (first | exact new_nil | refine new_cons (by first | assumption | omega) ?_))))).mono fun e w' ⟨h1, h2⟩ => ⟨by rw [h1]; exact retb (decide_eq_true g8), h2⟩) ?_
  repeat (first | refine S_nil ?_ | refine S_pure tabOk rfl ?_ | refine S_load tabOk 0 rfl rfl rfl ?_ | refine S_load tabOk 1 rfl rfl rfl ?_)
  refine T_cond_dec rfl (fun g9 => ?_) (fun g9 => ?_)
  · repeat (first | refine T_seq ?_ | refine T_region ?_ | refine S_nil ?_ | refine pthen_ret ?_ | refine T_ret ?_ | refine S_pure tabOk rfl ?_)
    exact ret1 rfl rfl (fun w' hw => ⟨retb (false_dec (fun h => g9 (by rw [← hil, ← hil', h.2.2]))), hw.below (by repeat (first | exact new_nil | refine new_cons (by first | assumption | omega) ?_))⟩)
  have hnn : s.im = t.im := by omega
  have g0 : H.kd = G.kd ∧ H.ag = G.ag ∧ H.ep = G.ep ∧ H.inc = G.inc ∧ H.ba = G.ba ∧ H.cu = G.cu ∧ H.li = G.li := ⟨Decidable.not_not.1 g1, Decidable.not_not.1 g2, Decidable.not_not.1 g3, Decidable.not_not.1 g4, Decidable.not_not.1 g5, Decidable.not_not.1 g6, Decidable.not_not.1 g7⟩
  repeat (first | refine T_seq ?_ | refine T_region ?_ | refine T_block ?_ | refine S_nil ?_ | refine pthen_normal ?_ | refine T_skip ?_ | refine S_pure tabOk rfl ?_ | refine S_load tabOk 1 rfl rfl rfl ?_)
  refine T_loop (ι := Nat) (fun i => [(2, .pointer (some ⟨b, 0, none⟩)), (3, .pointer (some ⟨b2, 0, none⟩)), (72, .int .i64 (s.im : Int)), (73, .int .i64 (i : Int))]) (fun i => [.blk b2 (.cells ⟨frC .i64 G t⟩ 33 (0, 0)) true, .blk b (.cells ⟨frC .i64 H s⟩ 33 (0, 0)) true]) (fun i => i ≤ s.im ∧ its.take i = its'.take i) (fun i => s.im - i) 0 ⟨Nat.zero_le _, rfl⟩ (by repeat (first | exact Sub.nil | refine Sub.cons rfl ?_)) (fun w' hw => hw) ?_
  rintro i ⟨hi, he⟩
  repeat (first | refine T_seq ?_ | refine T_region ?_ | refine S_nil ?_ | refine S_pure tabOk rfl ?_)
  refine T_cond_dec rfl (fun h => ?_) (fun h => ?_)
  · have hi' : i < its.length := by omega
    have hi2 : i < its'.length := by omega
    obtain ⟨ab, off, a0, n0, c0, e1, _, _, hrd⟩ := item_read hx.i.tt hi'
    obtain ⟨ab2, off2, a2, n2, c2, e2, _, _, hrd2⟩ := item_read hy.i.tt hi2
    repeat (first | refine T_draw (by kernel_rfl) (by kernel_rfl) ?_ | refine D_pure tabOk rfl ?_ | refine D_load tabOk 1 rfl rfl rfl ?_ | refine T_seq ?_ | refine T_region ?_ | refine T_block ?_ | refine S_nil ?_ | refine pthen_normal ?_ | refine T_skip ?_ | refine S_pure tabOk rfl ?_)
    rw [e1]
    refine D_q (Q_idx (sz := 3) tabOk rfl rfl rfl rfl rfl rfl rfl rfl (j := i) (by omega)) ?_
    repeat (first | refine D_pure tabOk rfl ?_)
    refine D_load1 tabOk (v := .int .u64 its[i].1) rfl rfl (fun w' hw => (hrd w' (hw.below (by repeat (first | exact new_nil | refine new_cons (by first | assumption | omega) ?_)))).1 0 _ rfl) ?_
    repeat (first | refine D_pure tabOk rfl ?_ | refine D_load tabOk 0 rfl rfl rfl ?_)
    rw [e2]
    refine D_q (Q_idx (sz := 3) tabOk rfl rfl rfl rfl rfl rfl rfl rfl (j := i) (by omega)) ?_
    repeat (first | refine D_pure tabOk rfl ?_)
    refine D_load1 tabOk (v := .int .u64 its'[i].1) rfl rfl (fun w' hw => (hrd2 w' (hw.below (by repeat (first | exact new_nil | refine new_cons (by first | assumption | omega) ?_)))).1 0 _ rfl) ?_
    repeat (first | refine D_pure tabOk rfl ?_)
    refine D_split rfl rfl (fun d1 => ?_) (fun d1 => ?_)
    · repeat (first | refine D_all rfl ?_ | refine D_pure tabOk rfl ?_ | refine D_pass rfl rfl rfl ?_)
      refine T_cond_t rfl ?_
      repeat (first | refine T_seq ?_ | refine T_region ?_ | refine S_nil ?_ | refine inb_ret ?_ | refine pthen_ret ?_ | refine T_ret ?_ | refine S_pure tabOk rfl ?_)
      exact ret1 rfl rfl (fun w' hw => ⟨retb (false_dec (fun h => take_ne hi' hi2 (fun e => d1 (by rw [e])) h.2.2)), hw.below (by repeat (first | exact new_nil | refine new_cons (by first | assumption | omega) ?_))⟩)
    repeat (first | refine D_pure tabOk rfl ?_ | refine D_load tabOk 1 rfl rfl rfl ?_)
    rw [e1]
    refine D_q (Q_idx (sz := 3) tabOk rfl rfl rfl rfl rfl rfl rfl rfl (j := i) (by omega)) ?_
    repeat (first | refine D_pure tabOk rfl ?_)
    refine D_loadN tabOk (vs := [.int .i64 its[i].2.1, .slice a0 n0 c0]) rfl rfl rfl (fun w' hw => sub_cells (hrd w' (hw.below (by repeat (first | exact new_nil | refine new_cons (by first | assumption | omega) ?_)))).1) ?_
    repeat (first | refine D_pure tabOk rfl ?_ | refine D_load tabOk 0 rfl rfl rfl ?_)
    rw [e2]
    refine D_q (Q_idx (sz := 3) tabOk rfl rfl rfl rfl rfl rfl rfl rfl (j := i) (by omega)) ?_
    repeat (first | refine D_pure tabOk rfl ?_)
    refine D_loadN tabOk (vs := [.int .i64 its'[i].2.1, .slice a2 n2 c2]) rfl rfl rfl (fun w' hw => sub_cells (hrd2 w' (hw.below (by repeat (first | exact new_nil | refine new_cons (by first | assumption | omega) ?_)))).1) ?_
    skip
    by_cases d2 : its[i].2.1 = its'[i].2.1 ∧ its[i].2.2 = its'[i].2.2
    · refine D_callx rfl Try.call56 (v := .bool true) (fun w' vs hw' h => by
        obtain ⟨u1, _, rfl, rfl, u2, _, rfl, rfl, rfl⟩ := h
        exact (rfsame_ok its[i].2.1 its'[i].2.1 a0 a2 n0 c0 n2 c2 its[i].2.2 its'[i].2.2 w' (hrd w' (hw'.below (by repeat (first | exact new_nil | refine new_cons (by first | assumption | omega) ?_)))).2 (hrd2 w' (hw'.below (by repeat (first | exact new_nil | refine new_cons (by first | assumption | omega) ?_)))).2).mono fun e w2 ⟨e3, e4⟩ => ⟨by rw [e3]; exact retb (decide_eq_true d2), e4⟩) ?_
      repeat (first | refine D_all rfl ?_ | refine D_pure tabOk rfl ?_)
      refine T_cond_f rfl ?_
      repeat (first | refine T_region ?_ | refine S_nil ?_ | refine pthen_normal ?_ | refine inb_normal ?_ | refine T_skip ?_ | refine S_i64 tabOk rfl (by omega) ?_ | refine S_pure tabOk rfl ?_)
      have hq : its[i] = its'[i] := Prod.ext (Decidable.not_not.1 d1) (Prod.ext d2.1 d2.2)
      exact ⟨i + 1, ⟨by omega, take_ext he hi' hi2 hq⟩, by repeat (first | exact Sub.nil | refine Sub.cons rfl ?_), fun w' hw => hw.less (by repeat (first | exact Less.nil | refine Less.keep ?_)), by omega⟩
    · refine D_callx rfl Try.call56 (v := .bool false) (fun w' vs hw' h => by
        obtain ⟨u1, _, rfl, rfl, u2, _, rfl, rfl, rfl⟩ := h
        exact (rfsame_ok its[i].2.1 its'[i].2.1 a0 a2 n0 c0 n2 c2 its[i].2.2 its'[i].2.2 w' (hrd w' (hw'.below (by repeat (first | exact new_nil | refine new_cons (by first | assumption | omega) ?_)))).2 (hrd2 w' (hw'.below (by repeat (first | exact new_nil | refine new_cons (by first | assumption | omega) ?_)))).2).mono fun e w2 ⟨e3, e4⟩ => ⟨by rw [e3]; exact retb (decide_eq_false d2), e4⟩) ?_
      repeat (first | refine D_all rfl ?_ | refine D_pure tabOk rfl ?_)
      refine T_cond_t rfl ?_
      repeat (first | refine T_seq ?_ | refine T_region ?_ | refine S_nil ?_ | refine inb_ret ?_ | refine pthen_ret ?_ | refine T_ret ?_ | refine S_pure tabOk rfl ?_)
      exact ret1 rfl rfl (fun w' hw => ⟨retb (false_dec (fun h => take_ne hi' hi2 (fun e => d2 (by rw [e]; exact ⟨rfl, rfl⟩)) h.2.2)), hw.below (by repeat (first | exact new_nil | refine new_cons (by first | assumption | omega) ?_))⟩)
  · have e : i = s.im := by omega
    subst e
    rw [List.take_of_length_le (by omega), List.take_of_length_le (by omega)] at he
    repeat (first | refine T_seq ?_ | refine T_region ?_ | refine S_nil ?_ | refine pthen_normal ?_ | refine inb_hit ?_ | refine pthen_exit ?_ | refine T_ret ?_ | refine T_exit ?_ | refine S_pure tabOk rfl ?_)
    exact ret1 rfl rfl (fun w' hw => ⟨retb (decide_eq_true ⟨g0, g8, he⟩).symm, hw.below (by repeat (first | exact new_nil | refine new_cons (by first | assumption | omega) ?_))⟩)
end Go.Proofs.Ytnefhhoijonnaaa
