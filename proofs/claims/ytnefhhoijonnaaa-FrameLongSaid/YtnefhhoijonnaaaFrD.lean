/-
  Frames: how a kind's own parts are written. Conditions: each theorem's own.
-/
import Derived.Test.YtnefhhoijonnaaaFrC
namespace Go.Proofs.Ytnefhhoijonnaaa
open Go Go.RowKit
set_option linter.unusedVariables false

abbrev bP (zs : List Int) : Vp := (Rslice (Rint .u8)).vp zs
def encU (x : Int) : List Int := enc x.toNat
theorem fits8s_app {a b : List Int} (ha : ∀ z ∈ a, Fits .u8 z) (hb : ∀ z ∈ b, Fits .u8 z) : ∀ z ∈ a ++ b, Fits .u8 z := fun z hz => (List.mem_append.1 hz).elim (ha z) (hb z)
theorem bP_row {w w0 : World} {A : Nat → Prop} {e : TypeId} {a : Option Addr} {c : Nat} {L : List Int} (h : w.ownsRow w0.heap.size e 1 (.slice a L.length c) L.length (L.map (.int .u8))) (hf : ∀ z ∈ L, Fits .u8 z) (hA : ∀ k, w0.heap.size ≤ k → A k) : (bP L).at_ w A (.slice a L.length c) := by
  rw [← map_one] at h
  exact SlR.val (.of_row (flat_int .u8) h rfl hf fun k hk _ => hA k hk)
theorem bP_ints {w : World} {A : Nat → Prop} {a : Option Addr} {n c : Nat} {L : List Int} (h : (bP L).at_ w A (.slice a n c)) : Ints .u8 w a n c L := (SlR.of_val h).ints
theorem num_p {v : Value} {zs : List Int} {A : Nat → Prop} (x : Int) (hx : Fits .u64 x) (w : World) (h : (bP zs).at_ w A v) (hn : zs.length ≤ 1073741824) : Calls Try.prog 55 #[v, .int .u64 x] w fun e w' => ∃ r, e = .returned r ∧ Below w.heap.size w w' ∧ (bP (zs ++ encU x)).at_ w' (fun k => w.heap.size ≤ k) r := by
  obtain ⟨a, n, c, rfl, hs⟩ := SlR.form h
  have h1 := fits_u64 hx
  have e : x = ((x.toNat : Nat) : Int) := by omega
  have hk := num_ok a n c zs x.toNat w hs.ints hn (by omega)
  rw [← e] at hk
  exact hk.mono fun e w' ⟨a', c', e1, e2, e3⟩ => ⟨_, e1, e2, bP_row e3 (fits8s_app hs.ints.fits (enc_fits _)) fun k hk => hk⟩
set_option maxHeartbeats 1000000 in
theorem putBase_ok (h : Hd) (s : Fs) (hf : h.Fit) {v : Value} {zs : List Int} {A : Nat → Prop} (w : World) (hx : (bP zs).at_ w A v) (hn : zs.length ≤ 1073741824) : Calls Try.prog 88 #[frV h s, v] w fun e w' => ∃ r, e = .returned r ∧ Below w.heap.size w w' ∧ (bP (zs ++ encU h.ba)).at_ w' (fun k => w.heap.size ≤ k) r := by
  refine enter2 Try.func88 rfl rfl (Hp.refl w) ?_
  repeat (first | refine T_seq ?_ | refine T_region ?_)
  refine S_new tabOk rfl (fun b hb => ?_)
  repeat (first | refine T_seq ?_ | refine T_region ?_ | refine S_nil ?_ | refine S_pure tabOk rfl ?_ | refine S_load tabOk 0 rfl rfl rfl ?_)
  refine S_callZ (bP (zs ++ encU h.ba)) (fun _ => False) rfl Try.call55 (fun w1 h1 => (num_p h.ba hf.ba w1 (Vp.ext _ hx (h1.below (by repeat (first | exact new_nil | refine new_cons (by first | assumption | omega) ?_)))) hn).mono fun e w' ⟨r, e1, e2, e3⟩ => ⟨r, e1, e2, nbb' h1 e3⟩) (fun v0 F0 w1 hF hv => ⟨_, rfl, ?_⟩)
  repeat (first | refine S_nil ?_ | refine T_ret ?_ | refine S_pure tabOk rfl ?_)
  exact ret1 rfl rfl (fun w' hw => ⟨_, rfl, hw.below (by repeat (first | exact new_nil | refine new_ro ?_ | refine new_cons (by first | assumption | omega) ?_)), Vp.mono _ (Vp.fact0 (p := bP (zs ++ encU h.ba)) hw 1 rfl) fun k hk => (hF k hk).elim False.elim id⟩)
def encN (l : List Int) : List Int := (l.map encU).flatten
theorem encN_take {l : List Int} {i : Nat} (h : i < l.length) : encN (l.take (i + 1)) = encN (l.take i) ++ encU l[i] := by
  unfold encN
  rw [List.take_succ_eq_append_getElem h, List.map_append, List.flatten_append]
  simp
theorem encU_len {x : Int} (h : Fits .u64 x) : (encU x).length ≤ 10 := enc_len10 (by have := fits_u64 h; omega)
theorem encN_len {l : List Int} (h : ∀ x ∈ l, Fits .u64 x) : (encN l).length ≤ 10 * l.length := by
  induction l with
  | nil => exact Nat.le_refl _
  | cons x l ih =>
    have h1 := ih fun y hy => h y (List.mem_cons_of_mem _ hy)
    have h2 := encU_len (h x List.mem_cons_self)
    unfold encN at h1 ⊢
    rw [List.map_cons, List.flatten_cons, List.length_append, List.length_cons]
    omega
theorem encN_fits {l : List Int} : ∀ z ∈ encN l, Fits .u8 z := fun z hz => by
  obtain ⟨c, hc, hzc⟩ := List.mem_flatten.1 hz
  obtain ⟨x, _, rfl⟩ := List.mem_map.1 hc
  exact enc_fits _ z hzc
def runN (rs : List Run) : List Int := (rs.map fun r => [r.1, r.2]).flatten
theorem runN_take {l : List Run} {i : Nat} (h : i < l.length) : encN (runN (l.take (i + 1))) = encN (runN (l.take i)) ++ encU l[i].1 ++ encU l[i].2 := by
  unfold runN encN
  rw [List.take_succ_eq_append_getElem h, List.map_append, List.flatten_append, List.map_append, List.flatten_append, List.append_assoc]
  congr 1
  simp
structure PpI where
  i : Nat
  v : Value
  F : Nat → Prop
/-- What the kinds' parts are in bytes. -/
def graN (h : Hd) (n : Nat) : List Int := [h.inc, h.cu, h.li, (n : Int)]
set_option maxHeartbeats 2000000 in
theorem putGrant_ok (H : Hd) (s : Fs) (hf : H.Fit) {A B : Nat → Prop} {rs : List Run} {v : Value} {zs : List Int} (w : World) (hr : SlR Rrun w B s.ra s.rn s.rc rs) (hx : (bP zs).at_ w A v) (hn : zs.length ≤ 1000000) (hrn : s.rn ≤ 1000) : Calls Try.prog 85 #[frV H s, v] w fun e w' => ∃ r, e = .returned r ∧ Below w.heap.size w w' ∧ (bP (zs ++ encN (graN H rs.length) ++ encN (runN rs))).at_ w' (fun k => w.heap.size ≤ k) r := by
  have hl := hr.len
  have hfr := (hr.flat flat_run).2
  have hgf : ∀ x ∈ graN H rs.length, Fits .u64 x := fun x hx => by
    simp only [graN, List.mem_cons, List.not_mem_nil, or_false] at hx
    rcases hx with rfl | rfl | rfl | rfl
    · exact hf.inc
    · exact hf.cu
    · exact hf.li
    · exact mk_u64 (by omega)
  have hgl : (graN H rs.length).length = 4 := rfl
  refine enter2 Try.func85 rfl rfl (Hp.refl w) ?_
  repeat (first | refine T_seq ?_ | refine T_region ?_)
  refine S_new tabOk rfl (fun b hb => ?_)
  repeat (first | refine T_seq ?_ | refine T_region ?_ | refine S_nil ?_ | refine S_u64 tabOk rfl (by omega) ?_ | refine S_pure tabOk rfl ?_ | refine S_load tabOk 0 rfl rfl rfl ?_)
  refine S_bslice tabOk rfl rfl rfl rfl rfl rfl rfl rfl rfl rfl rfl rfl (fun b19 hb19 => ?_)
  repeat (first | refine T_block ?_ | refine S_nil ?_ | refine S_pure tabOk rfl ?_)
  refine T_addV (bP zs) A (v := v) (fun w' hw => Vp.old hx hw (by repeat (first | exact new_nil | refine new_cons (by first | assumption | omega) ?_))) (fun F0 hF0 => ?_)
  refine T_loop (ι := PpI) (fun i => [(1, i.v), (2, .pointer (some ⟨b, 0, none⟩)), (19, .slice (some ⟨b19, 0, none⟩) 4 4), (20, .int .i64 (4 : Nat)), (21, .int .i64 (i.i : Int))])
    (fun i => [.blk b19 (.cells ⟨(graN H rs.length).map (.int .u64)⟩ 22 (0, 0)) true, .blk b (.cells ⟨frC .u8 H s⟩ 26 (0, 0)) true, .rep (fun w => (bP (zs ++ encN ((graN H rs.length).take i.i))).at_ w i.F i.v) i.F false])
    (fun i => i.i ≤ 4 ∧ (0 < i.i → ∀ k, i.F k → w.heap.size ≤ k)) (fun i => 4 - i.i) ⟨0, v, F0⟩ ⟨Nat.zero_le _, fun h => absurd h (Nat.lt_irrefl 0)⟩ (by repeat (first | exact Sub.nil | refine Sub.cons rfl ?_)) (fun w' hw => by
      rw [show (graN H rs.length).take 0 = [] from rfl, show encN [] = [] from rfl, List.append_nil]
      rw [hl]
      exact hw.toEnd rfl) ?_
  rintro ⟨i, vi, Fi⟩ ⟨hi, hnew⟩
  dsimp only at hi hnew ⊢
  have htl : (encN ((graN H rs.length).take i)).length ≤ 40 := by
    have := encN_len (l := (graN H rs.length).take i) fun x hx => hgf x (List.mem_of_mem_take hx)
    rw [List.length_take] at this
    omega
  repeat (first | refine T_seq ?_ | refine T_region ?_ | refine S_nil ?_ | refine S_pure tabOk rfl ?_)
  refine T_cond_dec rfl (fun h => ?_) (fun h => ?_)
  · have hi' : i < (graN H rs.length).length := by omega
    repeat (first | refine T_seq ?_ | refine T_region ?_ | refine T_block ?_ | refine pthen_normal ?_ | refine T_skip ?_)
    refine S_q (Q_idx1 tabOk rfl rfl rfl rfl rfl rfl rfl (j := i) rfl (by omega)) ?_
    refine S_load1 tabOk (v := .int .u64 (graN H rs.length)[i]) rfl rfl (fun w' hw => by
      rw [Nat.zero_add, cell_of_row w' b19 _ _ _ (0, 0) (hw.own _ (getE_mem (i := 0) rfl))]
      simp [List.getElem?_eq_getElem hi']) ?_
    repeat (first | refine S_nil ?_ | refine S_pure tabOk rfl ?_ | refine T_region_any ?_)
    refine S_callZ (bP (zs ++ encN ((graN H rs.length).take i) ++ encU (graN H rs.length)[i])) (fun _ => False) rfl Try.call55 (fun w1 h1 => (num_p _ (hgf _ (List.getElem_mem hi')) w1 (Vp.fact0 (p := bP (zs ++ encN ((graN H rs.length).take i))) h1 2 rfl) (by rw [List.length_append]; omega)).mono fun e w' ⟨r, e1, e2, e3⟩ => ⟨r, e1, e2, nbb' h1 e3⟩) (fun v0 F1 w1 hF hv => ⟨_, rfl, ?_⟩)
    repeat (first | refine T_region ?_ | refine S_nil ?_ | refine pthen_normal ?_ | refine inb_normal ?_ | refine S_i64 tabOk rfl (by omega) ?_ | refine S_pure tabOk rfl ?_)
    refine ⟨⟨i + 1, v0, F1⟩, ⟨by dsimp only; omega, fun _ k hk => (hF k hk).elim False.elim id⟩, by repeat (first | exact Sub.nil | refine Sub.cons rfl ?_), fun w' hw => ?_, by dsimp only; omega⟩
    dsimp only
    rw [encN_take hi', ← List.append_assoc]
    exact hw.less (by repeat (first | exact Less.nil | refine Less.keep ?_ | refine Less.dropR ?_))
  · have e : i = 4 := by omega
    subst e
    repeat (first | refine T_seq ?_ | refine T_region ?_ | refine T_block ?_ | refine S_nil ?_ | refine pthen_normal ?_ | refine inb_hit ?_ | refine pthen_exit ?_ | refine T_exit ?_ | refine S_pure tabOk rfl ?_ | refine S_load tabOk 1 rfl rfl rfl ?_)
    refine T_loop (ι := PpI) (fun i => [(1, i.v), (2, .pointer (some ⟨b, 0, none⟩)), (30, .slice s.ra s.rn s.rc), (31, .int .i64 (s.rn : Int)), (32, .int .i64 (i.i : Int))])
      (fun i => [.blk b (.cells ⟨frC .u8 H s⟩ 26 (0, 0)) true, .rep (fun w => (bP (zs ++ encN (graN H rs.length) ++ encN (runN (rs.take i.i)))).at_ w i.F i.v) i.F false])
      (fun i => i.i ≤ s.rn ∧ (∀ k, i.F k → w.heap.size ≤ k)) (fun i => s.rn - i.i) ⟨0, vi, Fi⟩ ⟨Nat.zero_le _, hnew (by decide)⟩ (by repeat (first | exact Sub.nil | refine Sub.cons rfl ?_)) (fun w' hw => by
        rw [show rs.take 0 = [] from rfl, show encN (runN []) = [] from rfl, List.append_nil]
        exact hw.less (by repeat (first | exact Less.nil | refine Less.keep ?_ | refine Less.dropB (by first | assumption | omega) ?_))) ?_
    rintro ⟨i, vi, Fi⟩ ⟨hi, hnew⟩
    dsimp only at hi hnew ⊢
    have hgn := encN_len hgf
    have htl : (encN (runN (rs.take i))).length ≤ 20 * i := by
      have h1 := encN_len (l := runN (rs.take i)) fun x hx => by
        obtain ⟨c, hc, hxc⟩ := List.mem_flatten.1 hx
        obtain ⟨r, hr', rfl⟩ := List.mem_map.1 hc
        have h2 := hfr r (List.mem_of_mem_take hr')
        simp only [List.mem_cons, List.not_mem_nil, or_false] at hxc
        rcases hxc with rfl | rfl
        · exact h2.1
        · exact h2.2
      have h3 : (runN (rs.take i)).length ≤ 2 * i := by
        unfold runN
        have : ∀ m : List Run, ((m.map fun r => [r.1, r.2]).flatten).length = 2 * m.length := fun m => by
          induction m with
          | nil => rfl
          | cons r m ih => rw [List.map_cons, List.flatten_cons, List.length_append, ih, List.length_cons, List.length_cons, List.length_cons, List.length_nil]; omega
        rw [this, List.length_take]
        omega
      omega
    have hzl : (zs ++ encN (graN H rs.length) ++ encN (runN (rs.take i))).length ≤ 1030000 := by
      rw [List.length_append, List.length_append]
      omega
    repeat (first | refine T_seq ?_ | refine T_region ?_ | refine S_nil ?_ | refine S_pure tabOk rfl ?_)
    refine T_cond_dec rfl (fun h => ?_) (fun h => ?_)
    · have hi' : i < rs.length := by omega
      have hri := hfr _ (List.getElem_mem hi')
      obtain ⟨ab, off, _, hra, hlt, _⟩ := hr.get_ hi'
      have hcell := run_cells (b := ab) (off := off) (by rw [← hra]; exact hr) hi'
      rw [hra]
      repeat (first | refine T_seq ?_ | refine T_region ?_ | refine T_block ?_ | refine pthen_normal ?_ | refine T_skip ?_)
      refine S_q (Q_idx (sz := 2) tabOk rfl rfl rfl rfl rfl rfl rfl rfl (j := i) (by omega)) ?_
      refine S_loadN tabOk (vs := encR rs[i]) rfl rfl rfl (fun w' hw j u hu => by
        have h3 := hcell j u hu
        rw [Addr.add_lit] at h3 ⊢
        exact ((hw.below (by repeat (first | exact new_nil | refine new_ro ?_ | refine new_cons (by first | assumption | omega) ?_))).cell (p := ⟨ab, off + i * 2 + j, none⟩) hlt).trans h3) ?_
      refine S_new tabOk rfl (fun b8 hb8 => ?_)
      repeat (first | refine S_nil ?_ | refine S_store tabOk 0 rfl rfl rfl rfl rfl rfl ?_)
      refine T_asThen ?_
      refine T_drawT (by kernel_rfl) 7 rfl (by kernel_rfl) ?_
      repeat (first | refine D_pure tabOk rfl ?_ | refine D_load tabOk 0 rfl rfl rfl ?_)
      refine D_callR (bP (zs ++ encN (graN H rs.length) ++ encN (runN (rs.take i)) ++ encU rs[i].1)) (fun _ => False) rfl Try.call55 (fun w' vs hw' h7 => by
        obtain ⟨u1, _, rfl, rfl, u2, _, rfl, rfl, rfl⟩ := h7
        exact (num_p _ hri.1 w' (Vp.fact0 (p := bP (zs ++ encN (graN H rs.length) ++ encN (runN (rs.take i)))) hw' 2 rfl) (by omega)).mono fun e w2 ⟨r, e1, e2, e3⟩ => ⟨r, e1, e2, nbb' hw' e3⟩) ?_
      repeat (first | refine D_pure tabOk rfl ?_ | refine D_load tabOk 0 rfl rfl rfl ?_)
      refine D_callR (bP (zs ++ encN (graN H rs.length) ++ encN (runN (rs.take i)) ++ encU rs[i].1 ++ encU rs[i].2)) (fun _ => False) rfl Try.call55 (fun w' vs hw' h7 => by
        obtain ⟨u1, _, rfl, g1, u2, _, rfl, rfl, rfl⟩ := h7
        exact (num_p _ hri.2 w' g1 (by have := encU_len hri.1; rw [List.length_append]; omega)).mono fun e w2 ⟨r, e1, e2, e3⟩ => ⟨r, e1, e2, nbb' hw' e3⟩) ?_
      skip
      refine D_outW 42 rfl (fun w' v hw' h1 => h1) (fun v2 F2 w2 hF2 hv2 => ⟨_, rfl, ?_⟩)
      refine D_allP rfl ?_
      repeat (first | refine T_region ?_ | refine S_nil ?_ | refine pthen_normal ?_ | refine inb_normal ?_ | refine S_i64 tabOk rfl (by omega) ?_ | refine S_pure tabOk rfl ?_)
      refine ⟨⟨i + 1, v2, F2⟩, ⟨by dsimp only; omega, fun k hk => (hF2 k hk).elim False.elim id⟩, by repeat (first | exact Sub.nil | refine Sub.cons rfl ?_), fun w' hw => ?_, by dsimp only; omega⟩
      dsimp only
      rw [runN_take hi', ← List.append_assoc, ← List.append_assoc]
      exact hw.less (by repeat (first | exact Less.nil | refine Less.keep ?_ | refine Less.dropR ?_ | refine Less.dropB (by first | assumption | omega) ?_))
    · have e : i = s.rn := by omega
      subst e
      rw [List.take_of_length_le (by omega)]
      repeat (first | refine T_seq ?_ | refine T_region ?_ | refine S_nil ?_ | refine pthen_normal ?_ | refine inb_hit ?_ | refine pthen_exit ?_ | refine T_ret ?_ | refine T_exit ?_ | refine S_pure tabOk rfl ?_)
      exact ret1 rfl rfl (fun w' hw => ⟨_, rfl, hw.below (by repeat (first | exact new_nil | refine new_ro ?_ | refine new_cons (by first | assumption | omega) ?_)), Vp.mono _ (Vp.fact0 (p := bP (zs ++ encN (graN H rs.length) ++ encN (runN rs))) hw 1 rfl) hnew⟩)
def itsN (l : List (Int × (Int × List Int))) : List Int := (l.map fun x => encU x.1 ++ spB x.2.1 x.2.2).flatten
theorem itsN_take {l : List (Int × (Int × List Int))} {i : Nat} (h : i < l.length) : itsN (l.take (i + 1)) = itsN (l.take i) ++ (encU l[i].1 ++ spB l[i].2.1 l[i].2.2) := by
  unfold itsN
  rw [List.take_succ_eq_append_getElem h, List.map_append, List.flatten_append]
  simp
theorem itsN_len {l : List (Int × (Int × List Int))} (h : ∀ x ∈ l, Fits .u64 x.1 ∧ x.2.2.length ≤ 4096) : (itsN l).length ≤ 4120 * l.length := by
  induction l with
  | nil => exact Nat.le_refl _
  | cons x l ih =>
    have h1 := ih fun y hy => h y (List.mem_cons_of_mem _ hy)
    have h2 := encU_len (h x List.mem_cons_self).1
    have h3 := (h x List.mem_cons_self).2
    have h4 : (spB x.2.1 x.2.2).length ≤ 1 + (10 + x.2.2.length) := by
      unfold spB encB
      rw [List.length_cons, List.length_append]
      have := enc_len10 (n := x.2.2.length) (by omega)
      omega
    unfold itsN at h1 ⊢
    rw [List.map_cons, List.flatten_cons, List.length_append, List.length_append, List.length_cons]
    omega
def batN (h : Hd) (n : Nat) : List Int := [h.inc, h.ba, (n : Int)]
theorem itput_p {v : Value} {ys zs : List Int} {A : Nat → Prop} {x k : Int} {a : Option Addr} {n c : Nat} (hx : Fits .u64 x) (w : World) (hw : Ints .u8 w a n c zs) (hz : zs.length ≤ 4096) (h : (bP ys).at_ w A v) (hn : ys.length ≤ 134217728) : Calls Try.prog 113 #[itV x k a n c, v] w fun e w' => ∃ r, e = .returned r ∧ Below w.heap.size w w' ∧ (bP (ys ++ encU x ++ spB k zs)).at_ w' (fun k => w.heap.size ≤ k) r := by
  obtain ⟨a', n', c', rfl, hs⟩ := SlR.form h
  have h1 := fits_u64 hx
  have e : x = ((x.toNat : Nat) : Int) := by omega
  have hk := itput_ok x.toNat k a a' n c n' c' zs ys w hw hs.ints (by omega) hn (by omega)
  rw [← e] at hk
  exact hk.mono fun e w' ⟨a', c', e1, e2, e3⟩ => ⟨_, e1, e2, bP_row e3 (fits8s_app (fits8s_app hs.ints.fits (enc_fits _)) (spB_fits hw.fits)) fun k hk => hk⟩
set_option maxHeartbeats 2000000 in
theorem putItems_ok (H : Hd) (s : Fs) (hf : H.Fit) {A B : Nat → Prop} {its : List (Int × (Int × List Int))} {v : Value} {zs : List Int} (w : World) (hr : SlR Ritem w B s.ia s.im s.ic its) (hx : (bP zs).at_ w A v) (hn : zs.length ≤ 1000000) (hrn : s.im ≤ 64) (hbl : ∀ x ∈ its, x.2.2.length ≤ 4096) : Calls Try.prog 91 #[frV H s, v] w fun e w' => ∃ r, e = .returned r ∧ Below w.heap.size w w' ∧ (bP (zs ++ encN (batN H its.length) ++ itsN its)).at_ w' (fun k => w.heap.size ≤ k) r := by
  have hl := hr.len
  have hgf : ∀ x ∈ batN H its.length, Fits .u64 x := fun x hx => by
    simp only [batN, List.mem_cons, List.not_mem_nil, or_false] at hx
    rcases hx with rfl | rfl | rfl
    · exact hf.inc
    · exact hf.ba
    · exact mk_u64 (by omega)
  have hgl : (batN H its.length).length = 3 := rfl
  refine enter2 Try.func91 rfl rfl (Hp.refl w) ?_
  repeat (first | refine T_seq ?_ | refine T_region ?_)
  refine S_new tabOk rfl (fun b hb => ?_)
  repeat (first | refine T_seq ?_ | refine T_region ?_ | refine S_nil ?_ | refine S_u64 tabOk rfl (by omega) ?_ | refine S_pure tabOk rfl ?_ | refine S_load tabOk 0 rfl rfl rfl ?_)
  refine S_bslice tabOk rfl rfl rfl rfl rfl rfl rfl rfl rfl rfl rfl rfl (fun b19 hb19 => ?_)
  repeat (first | refine T_block ?_ | refine S_nil ?_ | refine S_pure tabOk rfl ?_)
  refine T_addV (bP zs) A (v := v) (fun w' hw => Vp.old hx hw (by repeat (first | exact new_nil | refine new_cons (by first | assumption | omega) ?_))) (fun F0 hF0 => ?_)
  refine T_loop (ι := PpI) (fun i => [(1, i.v), (2, .pointer (some ⟨b, 0, none⟩)), (17, .slice (some ⟨b19, 0, none⟩) 3 3), (18, .int .i64 (3 : Nat)), (19, .int .i64 (i.i : Int))])
    (fun i => [.blk b19 (.cells ⟨(batN H its.length).map (.int .u64)⟩ 22 (0, 0)) true, .blk b (.cells ⟨frC .u8 H s⟩ 26 (0, 0)) true, .rep (fun w => (bP (zs ++ encN ((batN H its.length).take i.i))).at_ w i.F i.v) i.F false])
    (fun i => i.i ≤ 3 ∧ (0 < i.i → ∀ k, i.F k → w.heap.size ≤ k)) (fun i => 3 - i.i) ⟨0, v, F0⟩ ⟨Nat.zero_le _, fun h => absurd h (Nat.lt_irrefl 0)⟩ (by repeat (first | exact Sub.nil | refine Sub.cons rfl ?_)) (fun w' hw => by
      rw [show (batN H its.length).take 0 = [] from rfl, show encN [] = [] from rfl, List.append_nil]
      rw [hl]
      exact hw.toEnd rfl) ?_
  rintro ⟨i, vi, Fi⟩ ⟨hi, hnew⟩
  dsimp only at hi hnew ⊢
  have htl : (encN ((batN H its.length).take i)).length ≤ 40 := by
    have := encN_len (l := (batN H its.length).take i) fun x hx => hgf x (List.mem_of_mem_take hx)
    rw [List.length_take] at this
    omega
  repeat (first | refine T_seq ?_ | refine T_region ?_ | refine S_nil ?_ | refine S_pure tabOk rfl ?_)
  refine T_cond_dec rfl (fun h => ?_) (fun h => ?_)
  · have hi' : i < (batN H its.length).length := by omega
    repeat (first | refine T_seq ?_ | refine T_region ?_ | refine T_block ?_ | refine pthen_normal ?_ | refine T_skip ?_)
    refine S_q (Q_idx1 tabOk rfl rfl rfl rfl rfl rfl rfl (j := i) rfl (by omega)) ?_
    refine S_load1 tabOk (v := .int .u64 (batN H its.length)[i]) rfl rfl (fun w' hw => by
      rw [Nat.zero_add, cell_of_row w' b19 _ _ _ (0, 0) (hw.own _ (getE_mem (i := 0) rfl))]
      simp [List.getElem?_eq_getElem hi']) ?_
    repeat (first | refine S_nil ?_ | refine S_pure tabOk rfl ?_ | refine T_region_any ?_)
    refine S_callZ (bP (zs ++ encN ((batN H its.length).take i) ++ encU (batN H its.length)[i])) (fun _ => False) rfl Try.call55 (fun w1 h1 => (num_p _ (hgf _ (List.getElem_mem hi')) w1 (Vp.fact0 (p := bP (zs ++ encN ((batN H its.length).take i))) h1 2 rfl) (by rw [List.length_append]; omega)).mono fun e w' ⟨r, e1, e2, e3⟩ => ⟨r, e1, e2, nbb' h1 e3⟩) (fun v0 F1 w1 hF hv => ⟨_, rfl, ?_⟩)
    repeat (first | refine T_region ?_ | refine S_nil ?_ | refine pthen_normal ?_ | refine inb_normal ?_ | refine S_i64 tabOk rfl (by omega) ?_ | refine S_pure tabOk rfl ?_)
    refine ⟨⟨i + 1, v0, F1⟩, ⟨by dsimp only; omega, fun _ k hk => (hF k hk).elim False.elim id⟩, by repeat (first | exact Sub.nil | refine Sub.cons rfl ?_), fun w' hw => ?_, by dsimp only; omega⟩
    dsimp only
    rw [encN_take hi', ← List.append_assoc]
    exact hw.less (by repeat (first | exact Less.nil | refine Less.keep ?_ | refine Less.dropR ?_))
  · have e : i = 3 := by omega
    subst e
    repeat (first | refine T_seq ?_ | refine T_region ?_ | refine T_block ?_ | refine S_nil ?_ | refine pthen_normal ?_ | refine inb_hit ?_ | refine pthen_exit ?_ | refine T_exit ?_ | refine S_pure tabOk rfl ?_ | refine S_load tabOk 1 rfl rfl rfl ?_)
    refine T_loop (ι := PpI) (fun i => [(1, i.v), (2, .pointer (some ⟨b, 0, none⟩)), (28, .slice s.ia s.im s.ic), (29, .int .i64 (s.im : Int)), (30, .int .i64 (i.i : Int))])
      (fun i => [.blk b (.cells ⟨frC .u8 H s⟩ 26 (0, 0)) true, .rep (fun w => (bP (zs ++ encN (batN H its.length) ++ itsN (its.take i.i))).at_ w i.F i.v) i.F false])
      (fun i => i.i ≤ s.im ∧ (∀ k, i.F k → w.heap.size ≤ k)) (fun i => s.im - i.i) ⟨0, vi, Fi⟩ ⟨Nat.zero_le _, hnew (by decide)⟩ (by repeat (first | exact Sub.nil | refine Sub.cons rfl ?_)) (fun w' hw => by
        rw [show its.take 0 = [] from rfl, show itsN [] = [] from rfl, List.append_nil]
        exact hw.less (by repeat (first | exact Less.nil | refine Less.keep ?_ | refine Less.dropB (by first | assumption | omega) ?_))) ?_
    rintro ⟨i, vi, Fi⟩ ⟨hi, hnew⟩
    dsimp only at hi hnew ⊢
    have hgn := encN_len hgf
    have hitf : ∀ x ∈ its, Fits .u64 x.1 ∧ x.2.2.length ≤ 4096 := fun x hx => by
      obtain ⟨j, hj, rfl⟩ := List.getElem_of_mem hx
      obtain ⟨_, _, _, _, _, _, h1, _, _⟩ := item_read hr.tt hj
      exact ⟨h1, hbl _ hx⟩
    have htl : (itsN (its.take i)).length ≤ 4120 * i := by
      have h1 := itsN_len (l := its.take i) fun x hx => hitf x (List.mem_of_mem_take hx)
      rw [List.length_take] at h1
      omega
    have hzl : (zs ++ encN (batN H its.length) ++ itsN (its.take i)).length ≤ 1300000 := by
      rw [List.length_append, List.length_append]
      omega
    repeat (first | refine T_seq ?_ | refine T_region ?_ | refine S_nil ?_ | refine S_pure tabOk rfl ?_)
    refine T_cond_dec rfl (fun h => ?_) (fun h => ?_)
    · have hi' : i < its.length := by omega
      obtain ⟨ab, off, a0, n0, c0, hia, hN, hk, hrd⟩ := item_read hr.tt hi'
      have hN' := fits_u64 hN
      have hb0 := (hitf _ (List.getElem_mem hi')).2
      have hbf := (hrd w (Below.refl _ w)).2.fits
      rw [hia]
      repeat (first | refine T_seq ?_ | refine T_region ?_ | refine T_block ?_ | refine pthen_normal ?_ | refine T_skip ?_)
      refine S_q (Q_idx (sz := 3) tabOk rfl rfl rfl rfl rfl rfl rfl rfl (j := i) (by omega)) ?_
      refine S_loadN tabOk (vs := [.int .u64 its[i].1, .int .i64 its[i].2.1, .slice a0 n0 c0]) rfl rfl rfl (fun w' hw => (hrd w' (hw.below (by repeat (first | exact new_nil | refine new_ro ?_ | refine new_cons (by first | assumption | omega) ?_)))).1) ?_
      refine S_new tabOk rfl (fun b8 hb8 => ?_)
      repeat (first | refine S_nil ?_ | refine S_pure tabOk rfl ?_ | refine T_region_any ?_ | refine S_load tabOk 0 rfl rfl rfl ?_ | refine S_store tabOk 0 rfl rfl rfl rfl rfl rfl ?_)
      refine S_callZ (bP (zs ++ encN (batN H its.length) ++ itsN (its.take i) ++ encU its[i].1 ++ spB its[i].2.1 its[i].2.2)) (fun _ => False) rfl Try.call113 (fun w1 h1 => (itput_p hN w1 (hrd w1 (h1.below (by repeat (first | exact new_nil | refine new_ro ?_ | refine new_cons (by first | assumption | omega) ?_)))).2 (by omega) (Vp.fact0 (p := bP (zs ++ encN (batN H its.length) ++ itsN (its.take i))) h1 2 rfl) (by omega)).mono fun e w2 ⟨r, e1, e2, e3⟩ => ⟨r, e1, e2, nbb' h1 e3⟩) (fun v2 F2 w2 hF2 hv2 => ⟨_, rfl, ?_⟩)
      repeat (first | refine T_region ?_ | refine S_nil ?_ | refine pthen_normal ?_ | refine inb_normal ?_ | refine S_i64 tabOk rfl (by omega) ?_ | refine S_pure tabOk rfl ?_)
      refine ⟨⟨i + 1, v2, F2⟩, ⟨by dsimp only; omega, fun k hk => (hF2 k hk).elim False.elim id⟩, by repeat (first | exact Sub.nil | refine Sub.cons rfl ?_), fun w' hw => ?_, by dsimp only; omega⟩
      dsimp only
      rw [itsN_take hi', ← List.append_assoc, ← List.append_assoc]
      exact hw.less (by repeat (first | exact Less.nil | refine Less.keep ?_ | refine Less.dropR ?_ | refine Less.dropB (by first | assumption | omega) ?_))
    · have e : i = s.im := by omega
      subst e
      rw [List.take_of_length_le (by omega)]
      repeat (first | refine T_seq ?_ | refine T_region ?_ | refine S_nil ?_ | refine pthen_normal ?_ | refine inb_hit ?_ | refine pthen_exit ?_ | refine T_ret ?_ | refine T_exit ?_ | refine S_pure tabOk rfl ?_)
      exact ret1 rfl rfl (fun w' hw => ⟨_, rfl, hw.below (by repeat (first | exact new_nil | refine new_ro ?_ | refine new_cons (by first | assumption | omega) ?_)), Vp.mono _ (Vp.fact0 (p := bP (zs ++ encN (batN H its.length) ++ itsN its)) hw 1 rfl) hnew⟩)
end Go.Proofs.Ytnefhhoijonnaaa
