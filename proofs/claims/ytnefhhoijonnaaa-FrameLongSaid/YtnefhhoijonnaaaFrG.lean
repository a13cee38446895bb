/-
  Frames: which are alike. Conditions: each theorem's own.
-/
import Derived.Test.YtnefhhoijonnaaaFrF
namespace Go.Proofs.Ytnefhhoijonnaaa
open Go Go.RowKit
set_option linter.unusedVariables false

theorem ints_ext {k : IntKind} {w w' : World} {a : Option Addr} {n c : Nat} {zs : List Int} (h : Ints k w a n c zs) (hb : Below w.heap.size w w') : Ints k w' a n c zs := ⟨h.len, h.cap, h.max, h.nil, h.fits, h.sl.ext hb⟩
set_option maxHeartbeats 1000000 in
theorem same1f_ok (x y : ItemI) (a1 a2 : Option Addr) (n1 c1 n2 c2 : Nat) (w : World) (h1 : Ints .u8 w a1 n1 c1 x.2.2) (h2 : Ints .u8 w a2 n2 c2 y.2.2) : Calls Try.prog 50 #[itV x.1 x.2.1 a1 n1 c1, itV y.1 y.2.1 a2 n2 c2] w fun e w' => e = .returned (.bool (decide (x = y))) ∧ Below w.heap.size w w' := by
  refine enter2 Try.func50 rfl rfl (Hp.refl w) ?_
  repeat (first | refine T_seq ?_ | refine T_region ?_)
  refine S_new tabOk rfl (fun b hb => ?_)
  refine S_new tabOk rfl (fun b2 hb2 => ?_)
  repeat (first | refine T_seq ?_ | refine T_region ?_ | refine S_nil ?_ | refine S_pure tabOk rfl ?_ | refine S_load tabOk 0 rfl rfl rfl ?_ | refine S_load tabOk 1 rfl rfl rfl ?_)
  have hxy : x = y ↔ x.1 = y.1 ∧ x.2.1 = y.2.1 ∧ x.2.2 = y.2.2 := by rw [Prod.ext_iff, Prod.ext_iff]
  refine S_split rfl rfl (fun g => ?_) (fun g => ?_)
  · repeat (first | refine S_pure tabOk rfl ?_ | refine S_load tabOk 0 rfl rfl rfl ?_ | refine S_load tabOk 1 rfl rfl rfl ?_)
    refine S_callq rfl Try.call51 (fun w1 g1 => spsame_ok x.2.1 y.2.1 a1 a2 n1 c1 n2 c2 x.2.2 y.2.2 w1 (ints_ext h1 (g1.below (by repeat (first | exact new_nil | refine new_cons (by first | assumption | omega) ?_)))) (ints_ext h2 (g1.below (by repeat (first | exact new_nil | refine new_cons (by first | assumption | omega) ?_))))) ?_
    repeat (first | refine S_nil ?_ | refine T_ret ?_ | refine S_pure tabOk rfl ?_)
    exact ret1 rfl rfl (fun w' hw => ⟨retb (dec_eq (by rw [hxy]; exact ⟨fun h => ⟨g, h⟩, fun h => h.2⟩)), hw.below (by repeat (first | exact new_nil | refine new_cons (by first | assumption | omega) ?_))⟩)
  · repeat (first | refine S_nil ?_ | refine T_ret ?_ | refine S_pure tabOk rfl ?_ | refine S_pass rfl rfl rfl ?_)
    exact ret1 rfl rfl (fun w' hw => ⟨retb (false_dec (by rw [hxy]; exact fun h => g h.1)), hw.below (by repeat (first | exact new_nil | refine new_cons (by first | assumption | omega) ?_))⟩)
set_option maxHeartbeats 1000000 in
theorem eqfunc_ok (a a' : Option Addr) (n c n' c' : Nat) (l m : List ItemI) (A B : Nat → Prop) (w : World) (hx : SlR Ritem w A a n c l) (hy : SlR Ritem w B a' n' c' m) : Calls Try.prog 53 #[.slice a n c, .slice a' n' c', fnV 50] w fun e w' => e = .returned (.bool (decide (l = m))) ∧ Below w.heap.size w w' := by
  have hl := hx.len
  have hl' := hy.len
  have hmx := hx.max
  have hcp := hx.cap
  simp only [maxLen] at hmx
  refine enter3 Try.func53 rfl rfl (Hp.refl w) ?_
  repeat (first | refine T_seq ?_ | refine T_region ?_ | refine S_nil ?_ | refine S_pure tabOk rfl ?_)
  refine T_cond_dec rfl (fun h => ?_) (fun h => ?_)
  · repeat (first | refine T_seq ?_ | refine T_region ?_ | refine S_nil ?_ | refine pthen_ret ?_ | refine T_ret ?_ | refine S_pure tabOk rfl ?_)
    exact ret1 rfl rfl (fun w' hw => ⟨retb (false_dec (fun e => h (by rw [← hl, ← hl', e]))), hw.below (by repeat (first | exact new_nil))⟩)
  have hnn : n = n' := by omega
  subst hnn
  repeat (first | refine T_seq ?_ | refine T_region ?_ | refine T_block ?_ | refine S_nil ?_ | refine pthen_normal ?_ | refine T_skip ?_ | refine S_pure tabOk rfl ?_)
  refine T_loop (ι := Nat) (fun i => [(0, .slice a n c), (1, .slice a' n c'), (2, fnV 50), (15, .slice a n c), (16, .int .i64 (n : Int)), (17, .int .i64 (i : Int))]) (fun i => []) (fun i => i ≤ n ∧ l.take i = m.take i) (fun i => n - i) 0 ⟨Nat.zero_le _, rfl⟩ (by repeat (first | exact Sub.nil | refine Sub.cons rfl ?_)) (fun w' hw => hw) ?_
  rintro i ⟨hi, he⟩
  repeat (first | refine T_seq ?_ | refine T_region ?_ | refine S_nil ?_ | refine S_pure tabOk rfl ?_)
  refine T_cond_dec rfl (fun h => ?_) (fun h => ?_)
  · have hi' : i < l.length := by omega
    have hi2 : i < m.length := by omega
    obtain ⟨ab, off, a0, n0, c0, e1, _, _, hrd⟩ := item_read hx.tt hi'
    obtain ⟨ab2, off2, a2, n2, c2, e2, _, _, hrd2⟩ := item_read hy.tt hi2
    rw [e1, e2]
    repeat (first | refine T_seq ?_ | refine T_region ?_ | refine T_block ?_ | refine pthen_normal ?_ | refine T_skip ?_ | refine S_pure tabOk rfl ?_)
    refine S_q (Q_idx (sz := 3) tabOk rfl rfl rfl rfl rfl rfl rfl rfl (j := i) (by omega)) ?_
    refine S_loadN tabOk (vs := [.int .u64 l[i].1, .int .i64 l[i].2.1, .slice a0 n0 c0]) rfl rfl rfl (fun w' hw => (hrd w' (hw.below (by repeat (first | exact new_nil)))).1) ?_
    refine S_new tabOk rfl (fun b8 hb8 => ?_)
    repeat (first | refine T_seq ?_ | refine T_region ?_ | refine S_nil ?_ | refine S_pure tabOk rfl ?_ | refine S_store tabOk 0 rfl rfl rfl rfl rfl rfl ?_)
    refine S_q (Q_idx (sz := 3) tabOk rfl rfl rfl rfl rfl rfl rfl rfl (j := i) (by omega)) ?_
    refine S_loadN tabOk (vs := [.int .u64 m[i].1, .int .i64 m[i].2.1, .slice a2 n2 c2]) rfl rfl rfl (fun w' hw => (hrd2 w' (hw.below (by repeat (first | exact new_nil | refine new_cons (by first | assumption | omega) ?_)))).1) ?_
    refine S_new tabOk rfl (fun b9 hb9 => ?_)
    repeat (first | refine T_seq ?_ | refine T_region ?_ | refine S_nil ?_ | refine S_pure tabOk rfl ?_ | refine S_load tabOk 0 rfl rfl rfl ?_ | refine S_load tabOk 1 rfl rfl rfl ?_ | refine S_store tabOk 0 rfl rfl rfl rfl rfl rfl ?_)
    by_cases hq : l[i] = m[i]
    · refine S_callvq (v := .bool true) rfl rfl rfl Try.call50 (fun w1 g1 => by
        rw [Array.append_empty]
        exact (same1f_ok l[i] m[i] a0 a2 n0 c0 n2 c2 w1 (hrd w1 (g1.below (by repeat (first | exact new_nil | refine new_cons (by first | assumption | omega) ?_)))).2 (hrd2 w1 (g1.below (by repeat (first | exact new_nil | refine new_cons (by first | assumption | omega) ?_)))).2).mono fun e w' ⟨h1, h2⟩ => ⟨by rw [h1]; exact retb (decide_eq_true hq), h2⟩) ?_
      repeat (first | refine S_nil ?_ | refine S_pure tabOk rfl ?_)
      refine T_cond_f rfl ?_
      repeat (first | refine T_region ?_ | refine S_nil ?_ | refine pthen_normal ?_ | refine inb_normal ?_ | refine T_skip ?_ | refine S_i64 tabOk rfl (by omega) ?_ | refine S_pure tabOk rfl ?_)
      exact ⟨i + 1, ⟨by omega, by rw [List.take_succ_eq_append_getElem hi', List.take_succ_eq_append_getElem hi2, he, hq]⟩, by repeat (first | exact Sub.nil | refine Sub.cons rfl ?_), fun w' hw => hw.less (by repeat (first | exact Less.nil | refine Less.dropB (by first | assumption | omega) ?_)), by omega⟩
    · refine S_callvq (v := .bool false) rfl rfl rfl Try.call50 (fun w1 g1 => by
        rw [Array.append_empty]
        exact (same1f_ok l[i] m[i] a0 a2 n0 c0 n2 c2 w1 (hrd w1 (g1.below (by repeat (first | exact new_nil | refine new_cons (by first | assumption | omega) ?_)))).2 (hrd2 w1 (g1.below (by repeat (first | exact new_nil | refine new_cons (by first | assumption | omega) ?_)))).2).mono fun e w' ⟨h1, h2⟩ => ⟨by rw [h1]; exact retb (decide_eq_false hq), h2⟩) ?_
      repeat (first | refine S_nil ?_ | refine S_pure tabOk rfl ?_)
      refine T_cond_t rfl ?_
      repeat (first | refine T_seq ?_ | refine T_region ?_ | refine S_nil ?_ | refine inb_ret ?_ | refine pthen_ret ?_ | refine T_ret ?_ | refine S_pure tabOk rfl ?_)
      exact ret1 rfl rfl (fun w' hw => ⟨retb (false_dec (take_ne hi' hi2 hq)), hw.below (by repeat (first | exact new_nil | refine new_cons (by first | assumption | omega) ?_))⟩)
  · have e : i = n := by omega
    subst e
    rw [List.take_of_length_le (by omega), List.take_of_length_le (by omega)] at he
    repeat (first | refine T_seq ?_ | refine T_region ?_ | refine S_nil ?_ | refine pthen_normal ?_ | refine inb_hit ?_ | refine pthen_exit ?_ | refine T_ret ?_ | refine T_exit ?_ | refine S_pure tabOk rfl ?_)
    exact ret1 rfl rfl (fun w' hw => ⟨retb (decide_eq_true he).symm, hw.below (by repeat (first | exact new_nil))⟩)
/-- Two frames are alike. -/
def frEq (H G : Hd) (rs rs' : List Run) (its its' : List ItemI) : Prop := (H.kd = G.kd ∧ H.ag = G.ag ∧ H.ep = G.ep ∧ H.inc = G.inc ∧ H.ba = G.ba ∧ H.cu = G.cu ∧ H.li = G.li) ∧ rs = rs' ∧ its = its'
theorem frEq_refl (H : Hd) (rs : List Run) (its : List ItemI) : frEq H H rs rs its its := ⟨⟨rfl, rfl, rfl, rfl, rfl, rfl, rfl⟩, rfl, rfl⟩
open Classical in
set_option maxHeartbeats 2000000 in
theorem fsame_ok (H G : Hd) (s t : Fs) {A B : Nat → Prop} {rs rs' : List Run} {its its' : List ItemI} (w : World) (hx : FsR w A s rs its) (hy : FsR w B t rs' its') : Calls Try.prog 19 #[frV H s, frV G t] w fun e w' => e = .returned (.bool (decide (frEq H G rs rs' its its'))) ∧ Below w.heap.size w w' := by
  refine enter2 Try.func19 rfl rfl (Hp.refl w) ?_
  repeat (first | refine T_seq ?_ | refine T_region ?_)
  refine S_new tabOk rfl (fun b hb => ?_)
  refine S_new tabOk rfl (fun b2 hb2 => ?_)
  repeat (first | refine T_seq ?_ | refine T_region ?_ | refine S_nil ?_ | refine S_pure tabOk rfl ?_ | refine S_load tabOk 0 rfl rfl rfl ?_ | refine S_load tabOk 1 rfl rfl rfl ?_)
  refine S_split rfl rfl (fun g1 => ?_) (fun g1 => ?_)
  rotate_left
  · repeat (first | refine S_nil ?_ | refine T_ret ?_ | refine S_pure tabOk rfl ?_ | refine S_pass rfl rfl rfl ?_)
    exact ret1 rfl rfl (fun w' hw => ⟨retb (false_dec (fun h => g1 h.1.1)), hw.below (by repeat (first | exact new_nil | refine new_cons (by first | assumption | omega) ?_))⟩)
  repeat (first | refine S_pure tabOk rfl ?_ | refine S_load tabOk 0 rfl rfl rfl ?_ | refine S_load tabOk 1 rfl rfl rfl ?_)
  refine S_split rfl rfl (fun g2 => ?_) (fun g2 => ?_)
  rotate_left
  · repeat (first | refine S_nil ?_ | refine T_ret ?_ | refine S_pure tabOk rfl ?_ | refine S_pass rfl rfl rfl ?_)
    exact ret1 rfl rfl (fun w' hw => ⟨retb (false_dec (fun h => g2 h.1.2.1)), hw.below (by repeat (first | exact new_nil | refine new_cons (by first | assumption | omega) ?_))⟩)
  repeat (first | refine S_pure tabOk rfl ?_ | refine S_load tabOk 0 rfl rfl rfl ?_ | refine S_load tabOk 1 rfl rfl rfl ?_)
  refine S_split rfl rfl (fun g3 => ?_) (fun g3 => ?_)
  rotate_left
  · repeat (first | refine S_nil ?_ | refine T_ret ?_ | refine S_pure tabOk rfl ?_ | refine S_pass rfl rfl rfl ?_)
    exact ret1 rfl rfl (fun w' hw => ⟨retb (false_dec (fun h => g3 h.1.2.2.1)), hw.below (by repeat (first | exact new_nil | refine new_cons (by first | assumption | omega) ?_))⟩)
  repeat (first | refine S_pure tabOk rfl ?_ | refine S_load tabOk 0 rfl rfl rfl ?_ | refine S_load tabOk 1 rfl rfl rfl ?_)
  refine S_split rfl rfl (fun g4 => ?_) (fun g4 => ?_)
  rotate_left
  · repeat (first | refine S_nil ?_ | refine T_ret ?_ | refine S_pure tabOk rfl ?_ | refine S_pass rfl rfl rfl ?_)
    exact ret1 rfl rfl (fun w' hw => ⟨retb (false_dec (fun h => g4 h.1.2.2.2.1)), hw.below (by repeat (first | exact new_nil | refine new_cons (by first | assumption | omega) ?_))⟩)
  repeat (first | refine S_pure tabOk rfl ?_ | refine S_load tabOk 0 rfl rfl rfl ?_ | refine S_load tabOk 1 rfl rfl rfl ?_)
  refine S_split rfl rfl (fun g5 => ?_) (fun g5 => ?_)
  rotate_left
  · repeat (first | refine S_nil ?_ | refine T_ret ?_ | refine S_pure tabOk rfl ?_ | refine S_pass rfl rfl rfl ?_)
    exact ret1 rfl rfl (fun w' hw => ⟨retb (false_dec (fun h => g5 h.1.2.2.2.2.1)), hw.below (by repeat (first | exact new_nil | refine new_cons (by first | assumption | omega) ?_))⟩)
  repeat (first | refine S_pure tabOk rfl ?_ | refine S_load tabOk 0 rfl rfl rfl ?_ | refine S_load tabOk 1 rfl rfl rfl ?_)
  refine S_split rfl rfl (fun g6 => ?_) (fun g6 => ?_)
  rotate_left
  · repeat (first | refine S_nil ?_ | refine T_ret ?_ | refine S_pure tabOk rfl ?_ | refine S_pass rfl rfl rfl ?_)
    exact ret1 rfl rfl (fun w' hw => ⟨retb (false_dec (fun h => g6 h.1.2.2.2.2.2.1)), hw.below (by repeat (first | exact new_nil | refine new_cons (by first | assumption | omega) ?_))⟩)
  repeat (first | refine S_pure tabOk rfl ?_ | refine S_load tabOk 0 rfl rfl rfl ?_ | refine S_load tabOk 1 rfl rfl rfl ?_)
  refine S_split rfl rfl (fun g7 => ?_) (fun g7 => ?_)
  rotate_left
  · repeat (first | refine S_nil ?_ | refine T_ret ?_ | refine S_pure tabOk rfl ?_ | refine S_pass rfl rfl rfl ?_)
    exact ret1 rfl rfl (fun w' hw => ⟨retb (false_dec (fun h => g7 h.1.2.2.2.2.2.2)), hw.below (by repeat (first | exact new_nil | refine new_cons (by first | assumption | omega) ?_))⟩)
  repeat (first | refine S_pure tabOk rfl ?_ | refine S_load tabOk 0 rfl rfl rfl ?_ | refine S_load tabOk 1 rfl rfl rfl ?_)
  by_cases g8 : rs = rs'
  · refine S_callq (v := .bool true) rfl Try.call52 (fun w1 h1 => (equalr_ok s.ra t.ra s.rn s.rc t.rn t.rc rs rs' A B w1 (hx.r.ext (h1.below (by repeat (first | exact new_nil | refine new_cons (by first | assumption | omega) ?_)))) (hy.r.ext (h1.below (by repeat (first | exact new_nil | refine new_cons (by first | assumption | omega) ?_))))).mono fun e w' ⟨h1, h2⟩ => ⟨by rw [h1]; exact retb (decide_eq_true g8), h2⟩) ?_
    repeat (first | refine S_pure tabOk rfl ?_ | refine S_load tabOk 0 rfl rfl rfl ?_ | refine S_load tabOk 1 rfl rfl rfl ?_)
    refine S_callq rfl Try.call53 (fun w1 h1 => eqfunc_ok s.ia t.ia s.im s.ic t.im t.ic its its' A B w1 (hx.i.ext (h1.below (by repeat (first | exact new_nil | refine new_cons (by first | assumption | omega) ?_)))) (hy.i.ext (h1.below (by repeat (first | exact new_nil | refine new_cons (by first | assumption | omega) ?_))))) ?_
    repeat (first | refine S_nil ?_ | refine T_ret ?_ | refine S_pure tabOk rfl ?_)
    exact ret1 rfl rfl (fun w' hw => ⟨retb (dec_eq ⟨fun h => ⟨⟨g1, g2, g3, g4, g5, g6, g7⟩, g8, h⟩, fun h => h.2.2⟩), hw.below (by repeat (first | exact new_nil | refine new_cons (by first | assumption | omega) ?_))⟩)
  · refine S_callq (v := .bool false) rfl Try.call52 (fun w1 h1 => (equalr_ok s.ra t.ra s.rn s.rc t.rn t.rc rs rs' A B w1 (hx.r.ext (h1.below (by repeat (first | exact new_nil | refine new_cons (by first | assumption | omega) ?_)))) (hy.r.ext (h1.below (by repeat (first | exact new_nil | refine new_cons (by first | assumption | omega) ?_))))).mono fun e w' ⟨h1, h2⟩ => ⟨by rw [h1]; exact retb (decide_eq_false g8), h2⟩) ?_
    repeat (first | refine S_nil ?_ | refine T_ret ?_ | refine S_pure tabOk rfl ?_ | refine S_pass rfl rfl rfl ?_)
    exact ret1 rfl rfl (fun w' hw => ⟨retb (false_dec (fun h => g8 h.2.1)), hw.below (by repeat (first | exact new_nil | refine new_cons (by first | assumption | omega) ?_))⟩)
end Go.Proofs.Ytnefhhoijonnaaa
