/-
  Frames: the document's example; a frame as the document has it. Conditions: each theorem's own.
-/
import Derived.Test.YtnefhhoijonnaaaFrE
namespace Go.Proofs.Ytnefhhoijonnaaa
open Go Go.RowKit
set_option linter.unusedVariables false

def heH : Hd := ⟨1, 1, 2, 0, 3, 0, 0⟩
def heS : Fs := ⟨none, 0, 0, none, 0, 0⟩
theorem heF : heH.Fit := ⟨fits8 (by decide), mk_i64 (by decide), mk_u64 (by decide), mk_u64 (by decide), mk_u64 (by decide), mk_u64 (by decide), mk_u64 (by decide)⟩
theorem heR : frR heH [] [] := ⟨by decide, by decide, by decide, .inl ⟨rfl, by decide⟩⟩
theorem heB : inB heH [] [] = [1, 1, 2, 3] := by
  show [1] ++ enc 1 ++ enc 2 ++ (if (1 : Int) = 1 then enc 3 else _) = _
  rw [if_pos rfl, enc_small (by decide), enc_small (by decide), enc_small (by decide)]
  rfl
theorem heFs (w : World) : FsR w TT heS [] [] := ⟨SlR.nil_, SlR.nil_⟩
set_option maxHeartbeats 1000000 in
theorem awake5_ok (w : World) : Calls Try.prog 14 #[] w fun e w' => e = .returned (.bool true) ∧ Below w.heap.size w w' := by
  have hb : frB heH [] [] = closeB [1, 1, 2, 3] := by unfold frB; rw [heB]
  have hbl : (closeB [1, 1, 2, 3]).length = 8 := closeB_len _
  have e1 : encE heH [] [] = 0 := by unfold encE; rw [if_pos heR, if_neg (by rw [hb, hbl]; decide)]
  have e2 : encZ heH [] [] = closeB [1, 1, 2, 3] := by unfold encZ; rw [if_pos heR, if_neg (by rw [hb, hbl]; decide), hb]
  refine enter0 Try.func14 rfl (Hp.refl w) ?_
  repeat (first | refine T_seq ?_ | refine T_region ?_ | refine S_nil ?_ | refine S_pure tabOk rfl ?_ | refine S_q (Q_build tabOk rfl rfl rfl rfl rfl rfl rfl) ?_)
  refine S_callrow2 (m := 8) (xs := (closeB [1, 1, 2, 3]).map (.int .u8)) (v2 := .int .i64 0) (E := 5) (sz := 1) rfl Try.call20 (fun w1 h1 => by
    have := encode_ok heH heS heF w1 (heFs w1) (by decide)
    rw [e1, e2, hbl] at this
    exact this) (fun a1 c1 hc1 hd1 => ?_)
  repeat (first | refine T_seq ?_ | refine T_region ?_ | refine S_nil ?_ | refine S_pure tabOk rfl ?_)
  refine S_bslice tabOk rfl rfl rfl rfl rfl rfl rfl rfl rfl rfl rfl rfl (fun b12 hb12 => ?_)
  refine S_callrow (m := 8) (xs := (closeB [1, 1, 2, 3]).map (.int .u8)) (E := 5) (sz := 1) rfl Try.call23 (fun w1 h1 => by
    have := refclose_ok (some ⟨b12, 0, none⟩) 4 4 [1, 1, 2, 3] w1 (bP_ints (bP_blk (zs := [1, 1, 2, 3]) (h1.own _ (getE_mem (i := 0) rfl)) (fun z hz => fits8 (by simp only [List.mem_cons, List.not_mem_nil, or_false] at hz; omega)) (by decide))) (by decide)
    rw [hbl] at this
    exact this) (fun a2 c2 hc2 hd2 => ?_)
  have hff : ∀ z ∈ closeB [1, 1, 2, 3], Fits .u8 z := closeB_fits fun z hz => fits8 (by simp only [List.mem_cons, List.not_mem_nil, or_false] at hz; omega)
  skip
  refine S_callq (v := .bool true) rfl Try.call21 (fun w1 h1 => same1_ok a1 a2 8 c1 8 c2 (closeB [1, 1, 2, 3]) w1 (ints_of_own (h1.own _ (getE_mem (i := 2) rfl)) hff) (ints_of_own (h1.own _ (getE_mem (i := 0) rfl)) hff)) ?_
  repeat (first | refine S_nil ?_ | refine T_ret ?_ | refine S_pure tabOk rfl ?_)
  exact ret1 rfl rfl (fun w' hw => ⟨rfl, hw.below (by repeat (first | exact new_nil | refine new_cons (by first | assumption | omega) ?_ | refine newrow hw 0 rfl (Nat.le_refl _) ?_ | refine newrow hw 2 rfl (Nat.le_refl _) ?_))⟩)
def fewS (s : Fs) : Fs := ⟨s.ra, min s.rn 40, s.rc, s.ia, min s.im 70, s.ic⟩
theorem few_fs {w : World} {A : Nat → Prop} {s : Fs} {rs : List Run} {its : List ItemI} (h : FsR w A s rs its) : FsR w A (fewS s) (rs.take 40) (its.take 70) := by
  have hl := h.r.len
  have hil := h.i.len
  refine ⟨?_, ?_⟩
  · have := h.r.take (k := min s.rn 40) (by omega)
    rwa [show rs.take (min s.rn 40) = rs.take 40 by rw [← hl, List.take_eq_take_iff]; omega] at this
  · have := h.i.take (k := min s.im 70) (by omega)
    rwa [show its.take (min s.im 70) = its.take 70 by rw [← hil, List.take_eq_take_iff]; omega] at this
set_option maxHeartbeats 1000000 in
theorem few5_ok (H : Hd) (s : Fs) (w : World) (h1 : s.rn ≤ s.rc) (h2 : s.im ≤ s.ic) (h3 : s.rc ≤ maxLen) (h4 : s.ic ≤ maxLen) : Calls Try.prog 15 #[frV H s] w fun e w' => e = .returned (frV H (fewS s)) ∧ Below w.heap.size w w' := by
  refine enter1 Try.func15 rfl rfl (Hp.refl w) ?_
  repeat (first | refine T_seq ?_ | refine T_region ?_)
  refine S_new tabOk rfl (fun b hb => ?_)
  refine S_new tabOk rfl (fun b2 hb2 => ?_)
  repeat (first | refine T_seq ?_ | refine S_nil ?_)
  let ol0 : OL := [.blk b2 (.cells ⟨[.int .u8 0, .int .i64 0, .int .u64 0, .int .u64 0, .int .u64 0, .int .u64 0, .int .u64 0, .slice none 0 0, .slice none 0 0]⟩ 26 (0, 0)) true, .blk b (.cells ⟨frC .u8 H s⟩ 26 (0, 0)) true]
  let ol1 : OL := [.blk b2 (.cells ⟨[.int .u8 0, .int .i64 0, .int .u64 0, .int .u64 0, .int .u64 0, .int .u64 0, .int .u64 0, .slice none 0 0, .slice none 0 0]⟩ 26 (0, 0)) true, .blk b (.cells ⟨frC .u8 H ⟨s.ra, min s.rn 40, s.rc, s.ia, s.im, s.ic⟩⟩ 26 (0, 0)) true]
  let ol2 : OL := [.blk b2 (.cells ⟨[.int .u8 0, .int .i64 0, .int .u64 0, .int .u64 0, .int .u64 0, .int .u64 0, .int .u64 0, .slice none 0 0, .slice none 0 0]⟩ 26 (0, 0)) true, .blk b (.cells ⟨frC .u8 H (fewS s)⟩ 26 (0, 0)) true]
  let olf : (Nat → Bool) → OL := fun L => match L 17 with
    | true => ol2
    | false => match L 15 with
      | true => ol1
      | false => ol0
  refine T_drawS (by kernel_rfl) (by kernel_rfl) [.pointer (some ⟨b, 7, none⟩), .slice s.ra s.rn s.rc, .pointer (some ⟨b, 7, none⟩), .slice s.ra s.rn s.rc, .int .i64 (s.rn : Int), .int .i64 (min (s.rn : Int) 40), .slice s.ra (min s.rn 40) s.rc, .pointer (some ⟨b, 8, none⟩), .slice s.ia s.im s.ic, .pointer (some ⟨b, 8, none⟩), .slice s.ia s.im s.ic, .int .i64 (s.im : Int), .int .i64 (min (s.im : Int) 70), .slice s.ia (min s.im 70) s.ic, .pointer (some ⟨b, 7, none⟩), undef, .pointer (some ⟨b, 8, none⟩), undef] rfl olf rfl ?_ (l' := [(1, .pointer (some ⟨b, 0, none⟩)), (2, .pointer (some ⟨b2, 0, none⟩))]) (ol' := ol2) ?_ ?_ ?_
  · refine ⟨?_, ?_, ?_, ?_, ?_, ?_, ?_, ?_, ?_, ?_, ?_, ?_, ?_, ?_, ?_, ?_, ?_, ?_, trivial⟩
    · exact fun L hc hl hp => OpS.ofD rfl (D_pure tabOk rfl D_last)
    · intro L hc hl hp
      have h15 := closed_no hc (j := 15) rfl ⟨1, .phase⟩ (by simp) rfl hl
      have h17 := closed_no hc (j := 17) rfl ⟨1, .phase⟩ (by simp) rfl hl
      have e1 : olf L = ol0 := by simp only [olf, h15, h17]
      have e2 : olf (add L 1) = ol0 := by simp [olf, add, h15, h17]
      rw [e1, e2]
      exact OpS.ofD rfl (D_load tabOk 1 rfl rfl rfl D_last)
    · exact fun L hc hl hp => OpS.ofD rfl (D_pure tabOk rfl D_last)
    · intro L hc hl hp
      have h15 := closed_no hc (j := 15) rfl ⟨3, .phase⟩ (by simp) rfl hl
      have h17 := closed_no hc (j := 17) rfl ⟨3, .phase⟩ (by simp) rfl hl
      have e1 : olf L = ol0 := by simp only [olf, h15, h17]
      have e2 : olf (add L 3) = ol0 := by simp [olf, add, h15, h17]
      rw [e1, e2]
      exact OpS.ofD rfl (D_load tabOk 1 rfl rfl rfl D_last)
    · exact fun L hc hl hp => OpS.ofD rfl (D_pure tabOk rfl D_last)
    · exact fun L hc hl hp => OpS.ofD rfl (D_pure tabOk rfl D_last)
    · exact fun L hc hl hp => OpS.ofD rfl (D_q (Q_sliceTo tabOk rfl rfl rfl rfl rfl rfl (H := min s.rn 40) (by omega) (by omega)) D_last)
    · exact fun L hc hl hp => OpS.ofD rfl (D_pure tabOk rfl D_last)
    · intro L hc hl hp
      have h15 := closed_no hc (j := 15) rfl ⟨8, .phase⟩ (by simp) rfl hl
      have h17 := closed_no hc (j := 17) rfl ⟨8, .phase⟩ (by simp) rfl hl
      have e1 : olf L = ol0 := by simp only [olf, h15, h17]
      have e2 : olf (add L 8) = ol0 := by simp [olf, add, h15, h17]
      rw [e1, e2]
      exact OpS.ofD rfl (D_load tabOk 1 rfl rfl rfl D_last)
    · exact fun L hc hl hp => OpS.ofD rfl (D_pure tabOk rfl D_last)
    · intro L hc hl hp
      have h15 := closed_no hc (j := 15) rfl ⟨10, .phase⟩ (by simp) rfl hl
      have h17 := closed_no hc (j := 17) rfl ⟨10, .phase⟩ (by simp) rfl hl
      have e1 : olf L = ol0 := by simp only [olf, h15, h17]
      have e2 : olf (add L 10) = ol0 := by simp [olf, add, h15, h17]
      rw [e1, e2]
      exact OpS.ofD rfl (D_load tabOk 1 rfl rfl rfl D_last)
    · exact fun L hc hl hp => OpS.ofD rfl (D_pure tabOk rfl D_last)
    · exact fun L hc hl hp => OpS.ofD rfl (D_pure tabOk rfl D_last)
    · exact fun L hc hl hp => OpS.ofD rfl (D_q (Q_sliceTo tabOk rfl rfl rfl rfl rfl rfl (H := min s.im 70) (by omega) (by omega)) D_last)
    · exact fun L hc hl hp => OpS.ofD rfl (D_pure tabOk rfl D_last)
    · intro L hc hl hp
      have h17 := closed_no hc (j := 17) rfl ⟨15, .chain⟩ (by simp) rfl hl
      have e1 : olf L = ol0 := by simp only [olf, hl, h17]
      have e2 : olf (add L 15) = ol1 := by simp [olf, add, h17]
      rw [e1, e2]
      exact OpS.store tabOk 1 rfl rfl (by intro u hu; rw [List.mem_singleton] at hu; subst hu; rfl) rfl rfl rfl
    · exact fun L hc hl hp => OpS.ofD rfl (D_pure tabOk rfl D_last)
    · intro L hc hl hp
      have h15 : L 15 = true := hp ⟨15, .chain⟩ (by simp) rfl
      have e1 : olf L = ol1 := by simp only [olf, h15, hl]
      have e2 : olf (add L 17) = ol2 := by simp [olf, add]
      rw [e1, e2]
      exact OpS.store tabOk 1 rfl rfl (by intro u hu; rw [List.mem_singleton] at hu; subst hu; rfl) rfl rfl rfl
  · intro L hL
    have h17 := hL 17 (by decide)
    simp only [olf, h17]
  · repeat (first | exact SubD.nil | refine SubD.cons rfl ?_)
  repeat (first | refine T_seq ?_ | refine T_region ?_ | refine S_nil ?_ | refine T_ret ?_ | refine S_load tabOk 1 rfl rfl rfl ?_ | refine S_store tabOk 0 rfl rfl rfl rfl rfl rfl ?_)
  exact ret1 rfl (ResIs.cellO tabOk 0 rfl rfl rfl rfl) (fun w' hw => ⟨rfl, hw.below (by repeat (first | exact new_nil | refine new_cons (by first | assumption | omega) ?_))⟩)
structure OwI where
  i : Nat
  a : Option Addr
  c : Nat
structure OwJ where
  i : Nat
  a : Option Addr
  c : Nat
  css : List (List Value)
abbrev refV (H : Hd) (s : Fs) : Value := .agg ⟨frC .i64 H s⟩
set_option maxHeartbeats 2000000 in
theorem own5_ok (H : Hd) (s : Fs) (hf : H.Fit) {A : Nat → Prop} {rs : List Run} {its : List ItemI} (w : World) (hx : FsR w A s rs its) (hn : s.rn ≤ 1000) (hm : s.im ≤ 1000) : Calls Try.prog 18 #[frV H s] w fun e w' => ∃ s', e = .returned (refV H s') ∧ Below w.heap.size w w' ∧ FsR w' (fun k => A k ∨ w.heap.size ≤ k) s' rs its := by
  have hl := hx.r.len
  have hil := hx.i.len
  have hfr := (hx.r.flat flat_run).2
  have hkd := fits_u8 hf.kd
  refine enter1 Try.func18 rfl rfl (Hp.refl w) ?_
  repeat (first | refine T_seq ?_ | refine T_region ?_)
  refine S_new tabOk rfl (fun b hb => ?_)
  refine S_new tabOk rfl (fun b2 hb2 => ?_)
  repeat (first | refine T_seq ?_ | refine T_region ?_ | refine S_nil ?_ | refine S_i64 tabOk rfl (by omega) ?_ | refine S_pure tabOk rfl ?_ | refine S_load tabOk 1 rfl rfl rfl ?_ | refine S_q (Q_build tabOk rfl rfl rfl rfl rfl rfl rfl) ?_)
  refine S_new tabOk rfl (fun b3 hb3 => ?_)
  repeat (first | refine T_seq ?_ | refine T_region ?_ | refine T_block ?_ | refine S_nil ?_ | refine S_pure tabOk rfl ?_ | refine S_load tabOk 2 rfl rfl rfl ?_ | refine S_store tabOk 0 rfl rfl rfl rfl rfl rfl ?_)
  refine T_loop (ι := OwI) (fun i => [(1, .pointer (some ⟨b, 0, none⟩)), (2, .pointer (some ⟨b2, 0, none⟩)), (3, .pointer (some ⟨b3, 0, none⟩)), (25, .slice s.ra s.rn s.rc), (26, .int .i64 (s.rn : Int)), (27, .int .i64 (i.i : Int))])
    (fun i => [.row w.heap.size (.slice i.a i.i i.c) 101 2 i.i (cellsR (rs.take i.i)), .blk b3 (.cells ⟨frC .i64 H ⟨i.a, i.i, i.c, none, 0, 0⟩⟩ 33 (0, 0)) true, .blk b2 (.cells ⟨frC .i64 ⟨0, 0, 0, 0, 0, 0, 0⟩ ⟨none, 0, 0, none, 0, 0⟩⟩ 33 (0, 0)) true, .blk b (.cells ⟨frC .u8 H s⟩ 26 (0, 0)) true])
    (fun i => i.i ≤ s.rn) (fun i => s.rn - i.i) ⟨0, none, 0⟩ (Nat.zero_le _) (by repeat (first | exact Sub.nil | refine Sub.cons rfl ?_)) (fun w' hw => hw.nilRow _ _) ?_
  rintro ⟨i, a1, c1⟩ hi
  dsimp only at hi ⊢
  repeat (first | refine T_seq ?_ | refine T_region ?_ | refine S_nil ?_ | refine S_pure tabOk rfl ?_)
  refine T_cond_dec rfl (fun h => ?_) (fun h => ?_)
  · have hi' : i < rs.length := by omega
    obtain ⟨ab, off, _, hra, hlt, _⟩ := hx.r.get_ hi'
    have hcell := run_cells (b := ab) (off := off) (by rw [← hra]; exact hx.r) hi'
    rw [hra]
    repeat (first | refine T_seq ?_ | refine T_region ?_ | refine T_block ?_ | refine pthen_normal ?_ | refine T_skip ?_)
    refine S_q (Q_idx (sz := 2) tabOk rfl rfl rfl rfl rfl rfl rfl rfl (j := i) (by omega)) ?_
    refine S_loadN tabOk (vs := encR rs[i]) rfl rfl rfl (fun w' hw j u hu => by
        have h3 := hcell j u hu
        rw [Addr.add_lit] at h3 ⊢
        exact ((hw.below (by repeat (first | exact new_nil | refine new_cons (by first | assumption | omega) ?_ | refine newrow hw 0 rfl (Nat.le_refl _) ?_))).cell (p := ⟨ab, off + i * 2 + j, none⟩) hlt).trans h3) ?_
    refine S_new tabOk rfl (fun b8 hb8 => ?_)
    repeat (first | refine S_nil ?_ | refine S_pure tabOk rfl ?_ | refine T_region_any ?_ | refine S_load tabOk 0 rfl rfl rfl ?_ | refine S_load tabOk 2 rfl rfl rfl ?_ | refine S_store tabOk 0 rfl rfl rfl rfl rfl rfl ?_)
    refine S_bslice tabOk rfl rfl rfl rfl rfl rfl rfl rfl rfl rfl rfl rfl (fun b34 hb34 => ?_)
    refine S_append (ty := 0) tabOk 2 (news := encR rs[i]) rfl rfl rfl rfl rfl rfl rfl rfl rfl (by decide) (fun w' hw => Sl.of_blk (hw.own _ (getE_mem (i := 0) rfl)) rfl (fun j u hu => by rw [Nat.zero_add]; exact hu)) (by intro u hu; simp only [encR, List.mem_cons, List.not_mem_nil, or_false] at hu; rcases hu with rfl | rfl <;> rfl) (by simp only [maxLen]; omega) (by show (_ + _) * 16 ≤ _; omega) rfl (fun A' c' h1 h2 => ⟨_, rfl, ?_⟩)
    have hc1 : cellsR (rs.take i) ++ encR rs[i] = cellsR (rs.take (i + 1)) := by
      rw [List.take_succ_eq_append_getElem hi', cellsR_append]
      congr 1
    rw [hc1]
    repeat (first | refine T_region ?_ | refine S_nil ?_ | refine pthen_normal ?_ | refine inb_normal ?_ | refine S_i64 tabOk rfl (by omega) ?_ | refine S_pure tabOk rfl ?_ | refine S_store tabOk 3 rfl rfl rfl rfl rfl rfl ?_)
    exact ⟨⟨i + 1, A', c'⟩, by dsimp only; omega, by repeat (first | exact Sub.nil | refine Sub.cons rfl ?_), fun w' hw => hw.less (by repeat (first | exact Less.nil | refine Less.keep ?_ | refine Less.dropB (by first | assumption | omega) ?_)), by dsimp only; omega⟩
  · have e : i = s.rn := by omega
    subst e
    rw [List.take_of_length_le (by omega)]
    repeat (first | refine T_seq ?_ | refine T_region ?_ | refine T_block ?_ | refine S_nil ?_ | refine pthen_normal ?_ | refine inb_hit ?_ | refine pthen_exit ?_ | refine T_exit ?_ | refine S_pure tabOk rfl ?_ | refine S_load tabOk 3 rfl rfl rfl ?_)
    refine T_loop (ι := OwJ) (fun i => [(1, .pointer (some ⟨b, 0, none⟩)), (2, .pointer (some ⟨b2, 0, none⟩)), (3, .pointer (some ⟨b3, 0, none⟩)), (39, .slice s.ia s.im s.ic), (40, .int .i64 (s.im : Int)), (41, .int .i64 (i.i : Int))])
      (fun i => [.row w.heap.size (.slice i.a i.i i.c) 98 3 i.i i.css.flatten, .row w.heap.size (.slice a1 s.rn c1) 101 2 s.rn (cellsR rs), .blk b3 (.cells ⟨frC .i64 H ⟨a1, s.rn, c1, i.a, i.i, i.c⟩⟩ 33 (0, 0)) true, .blk b2 (.cells ⟨frC .i64 ⟨0, 0, 0, 0, 0, 0, 0⟩ ⟨none, 0, 0, none, 0, 0⟩⟩ 33 (0, 0)) true, .blk b (.cells ⟨frC .u8 H s⟩ 26 (0, 0)) true])
      (fun i => i.i ≤ s.im ∧ (Bod Ritem i.css (its.take i.i)).at_ w A undef) (fun i => s.im - i.i) ⟨0, none, 0, []⟩ ⟨Nat.zero_le _, Bod.nil_⟩ (by repeat (first | exact Sub.nil | refine Sub.cons rfl ?_)) (fun w' hw => hw.nilRow _ _) ?_
    rintro ⟨i, a2, c2, css⟩ ⟨hi, hB⟩
    dsimp only at hi hB ⊢
    repeat (first | refine T_seq ?_ | refine T_region ?_ | refine S_nil ?_ | refine S_pure tabOk rfl ?_)
    refine T_cond_dec rfl (fun h => ?_) (fun h => ?_)
    · have hi' : i < its.length := by omega
      obtain ⟨ab, off, cs, hia, hlt, hat, _, hce, _⟩ := hx.i.get_ hi'
      obtain ⟨a0, n0, c0, rfl, g1, g2, g3⟩ := item_cells hat
      rw [hia]
      repeat (first | refine T_seq ?_ | refine T_region ?_ | refine T_block ?_ | refine pthen_normal ?_ | refine T_skip ?_)
      refine S_q (Q_idx (sz := 3) tabOk rfl rfl rfl rfl rfl rfl rfl rfl (j := i) (by omega)) ?_
      refine S_loadN tabOk (vs := [.int .u64 its[i].1, .int .i64 its[i].2.1, .slice a0 n0 c0]) rfl rfl rfl (fun w' hw j u hu => by
        have h3 := hce j u hu
        rw [Addr.add_lit]
        exact ((hw.below (by repeat (first | exact new_nil | refine new_cons (by first | assumption | omega) ?_ | refine newrow hw 0 rfl (Nat.le_refl _) ?_ | refine newrow hw 1 rfl (Nat.le_refl _) ?_))).cell (p := ⟨ab, off + i * 3 + j, none⟩) hlt).trans h3) ?_
      refine S_new tabOk rfl (fun b8 hb8 => ?_)
      repeat (first | refine S_nil ?_ | refine S_pure tabOk rfl ?_ | refine T_region_any ?_ | refine S_load tabOk 0 rfl rfl rfl ?_ | refine S_load tabOk 3 rfl rfl rfl ?_ | refine S_store tabOk 0 rfl rfl rfl rfl rfl rfl ?_ | refine S_q (Q_build tabOk rfl rfl rfl rfl rfl rfl rfl) ?_)
      refine S_bslice tabOk rfl rfl rfl rfl rfl rfl rfl rfl rfl rfl rfl rfl (fun b34 hb34 => ?_)
      have hcl : css.flatten.length = i * 3 := by
        have h1 := Bod.szs hB
        have h2 := hB.1
        rw [List.length_take] at h2
        have h4 : css.flatten.length = css.length * 3 := by
          clear h2 hB
          induction css with
          | nil => rfl
          | cons c l ih =>
            rw [List.flatten_cons, List.length_append, ih fun d hd => h1 d (List.mem_cons_of_mem _ hd), h1 c List.mem_cons_self, List.length_cons]
            show 3 + _ = _
            omega
        rw [h4]
        omega
      refine S_append (ty := 0) tabOk 2 (news := [.int .u64 its[i].1, .int .i64 its[i].2.1, .slice a0 n0 c0]) rfl rfl rfl rfl rfl rfl rfl rfl rfl (by decide) (fun w' hw => Sl.of_blk (hw.own _ (getE_mem (i := 0) rfl)) rfl (fun j u hu => by rw [Nat.zero_add]; exact hu)) (by intro u hu; simp only [List.mem_cons, List.not_mem_nil, or_false] at hu; rcases hu with rfl | rfl | rfl <;> rfl) (by simp only [maxLen]; omega) (by show (_ + _) * 40 ≤ _; omega) rfl (fun A' c' h1 h2 => ⟨_, rfl, ?_⟩)
      repeat (first | refine T_region ?_ | refine S_nil ?_ | refine pthen_normal ?_ | refine inb_normal ?_ | refine S_i64 tabOk rfl (by omega) ?_ | refine S_pure tabOk rfl ?_ | refine S_store tabOk 4 rfl rfl rfl rfl rfl rfl ?_)
      refine ⟨⟨i + 1, A', c', css ++ [[.int .u64 its[i].1, .int .i64 its[i].2.1, .slice a0 n0 c0]]⟩, ⟨by dsimp only; omega, ?_⟩, by repeat (first | exact Sub.nil | refine Sub.cons rfl ?_), fun w' hw => ?_, by dsimp only; omega⟩
      · dsimp only
        rw [List.take_succ_eq_append_getElem hi']
        exact Bod.snoc hB (item_of g1 g2 g3)
      · dsimp only
        rw [List.flatten_append, List.flatten_cons, List.flatten_nil, List.append_nil]
        exact hw.less (by repeat (first | exact Less.nil | refine Less.keep ?_ | refine Less.dropB (by first | assumption | omega) ?_))
    · have e : i = s.im := by omega
      subst e
      rw [List.take_of_length_le (by omega)] at hB
      repeat (first | refine T_seq ?_ | refine T_region ?_ | refine S_nil ?_ | refine pthen_normal ?_ | refine inb_hit ?_ | refine pthen_exit ?_ | refine T_ret ?_ | refine T_exit ?_ | refine S_load tabOk 2 rfl rfl rfl ?_ | refine S_store tabOk 3 rfl rfl rfl rfl rfl rfl ?_)
      refine ret1 rfl (ResIs.cellO tabOk 3 rfl rfl rfl rfl) (fun w' hw => ⟨⟨a1, s.rn, c1, a2, s.im, c2⟩, rfl, hw.below (by repeat (first | exact new_nil | refine new_cons (by first | assumption | omega) ?_ | refine newrow hw 0 rfl (Nat.le_refl _) ?_ | refine newrow hw 1 rfl (Nat.le_refl _) ?_)), ?_, ?_⟩)
      · exact .of_row flat_run (hw.own _ (getE_mem (i := 1) rfl)) hl hfr fun k hk _ => .inr hk
      · have hb := hw.below (by repeat (first | exact new_nil | refine new_cons (by first | assumption | omega) ?_ | refine newrow hw 0 rfl (Nat.le_refl _) ?_ | refine newrow hw 1 rfl (Nat.le_refl _) ?_))
        exact (Bod.slr (Vp.mono _ (Vp.ext _ hB hb) fun k hk => .inl hk) (hw.own _ (getE_mem (i := 0) rfl)) hil fun k hk _ => .inr hk)
end Go.Proofs.Ytnefhhoijonnaaa
