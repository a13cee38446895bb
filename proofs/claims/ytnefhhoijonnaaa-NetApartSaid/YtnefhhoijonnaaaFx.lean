/-
  Frames: what they read as; the kinds' own judgements. Conditions: each theorem's own. An engine of rules for walks, part Ab: in a region that draws: places in a slice of which something is true; two blocks that a callee turns. No program's text; conditions: each theorem's own. Frames: which Welcomes and Acks may be. Conditions: each theorem's own. Frames: the kinds' methods; which frames may be. Conditions: each theorem's own. Frames: how a kind's own parts are written. Conditions: each theorem's own. Frames: Encode. Conditions: each theorem's own. Frames: the document's example; a frame as the document has it. Conditions: each theorem's own. Frames: which are alike. Conditions: each theorem's own. Frames: which may be, by the document. Conditions: each theorem's own. The walk of FrameRights. Conditions: each theorem's own. Frames: two that may be have the same bytes just if they are ali
  Conditions: each theorem's own.
-/
import Derived.Test.YtnefhhoijonnaaaRn
namespace Go.Proofs.Ytnefhhoijonnaaa
open Go Go.RowKit
set_option linter.unusedVariables false


/-- A frame's numbers. -/
structure Hd where
  kd : Int
  ag : Int
  ep : Int
  inc : Int
  ba : Int
  cu : Int
  li : Int
/-- .. and its slices. -/
structure Fs where
  ra : Option Addr
  rn : Nat
  rc : Nat
  ia : Option Addr
  im : Nat
  ic : Nat
abbrev frC (k : IntKind) (h : Hd) (s : Fs) : List Value := [.int k h.kd, .int .i64 h.ag, .int .u64 h.ep, .int .u64 h.inc, .int .u64 h.ba, .int .u64 h.cu, .int .u64 h.li, .slice s.ra s.rn s.rc, .slice s.ia s.im s.ic]
abbrev frV (h : Hd) (s : Fs) : Value := .agg ⟨frC .u8 h s⟩
structure Hd.Fit (h : Hd) : Prop where
  kd : Fits .u8 h.kd
  ag : Fits .i64 h.ag
  ep : Fits .u64 h.ep
  inc : Fits .u64 h.inc
  ba : Fits .u64 h.ba
  cu : Fits .u64 h.cu
  li : Fits .u64 h.li
def begR (h : Hd) (n m : Nat) : Prop := 1 ≤ h.ba ∧ h.inc = 0 ∧ h.cu = 0 ∧ h.li = 0 ∧ n = 0 ∧ m = 0
instance (h : Hd) (n m : Nat) : Decidable (begR h n m) := by unfold begR; infer_instance
set_option maxHeartbeats 1000000 in
theorem begins_ok (h : Hd) (s : Fs) (w : World) : Calls Try.prog 87 #[frV h s] w fun e w' => e = .returned (.bool (decide (begR h s.rn s.im))) ∧ Below w.heap.size w w' := by
  refine enter1 Try.func87 rfl rfl (Hp.refl w) ?_
  repeat (first | refine T_seq ?_ | refine T_region ?_)
  refine S_new tabOk rfl (fun b hb => ?_)
  repeat (first | refine T_seq ?_ | refine T_region ?_ | refine S_nil ?_ | refine S_pure tabOk rfl ?_ | refine S_load tabOk 0 rfl rfl rfl ?_)
  refine S_split rfl rfl (fun h1 => ?_) (fun h1 => ?_)
  rotate_left
  · repeat (first | refine S_nil ?_ | refine T_ret ?_ | refine S_pure tabOk rfl ?_ | refine S_pass rfl rfl rfl ?_)
    exact ret1 rfl rfl (fun w' hw => ⟨retb (decide_eq_false (by unfold begR; omega)).symm, hw.below (by repeat (first | exact new_nil | refine new_cons (by first | assumption | omega) ?_))⟩)
  repeat (first | refine S_pure tabOk rfl ?_ | refine S_load tabOk 0 rfl rfl rfl ?_)
  refine S_split rfl rfl (fun h2 => ?_) (fun h2 => ?_)
  rotate_left
  · repeat (first | refine S_nil ?_ | refine T_ret ?_ | refine S_pure tabOk rfl ?_ | refine S_pass rfl rfl rfl ?_)
    exact ret1 rfl rfl (fun w' hw => ⟨retb (decide_eq_false (by unfold begR; omega)).symm, hw.below (by repeat (first | exact new_nil | refine new_cons (by first | assumption | omega) ?_))⟩)
  repeat (first | refine S_pure tabOk rfl ?_ | refine S_load tabOk 0 rfl rfl rfl ?_)
  refine S_split rfl rfl (fun h3 => ?_) (fun h3 => ?_)
  rotate_left
  · repeat (first | refine S_nil ?_ | refine T_ret ?_ | refine S_pure tabOk rfl ?_ | refine S_pass rfl rfl rfl ?_)
    exact ret1 rfl rfl (fun w' hw => ⟨retb (decide_eq_false (by unfold begR; omega)).symm, hw.below (by repeat (first | exact new_nil | refine new_cons (by first | assumption | omega) ?_))⟩)
  repeat (first | refine S_pure tabOk rfl ?_ | refine S_load tabOk 0 rfl rfl rfl ?_)
  refine S_split rfl rfl (fun h4 => ?_) (fun h4 => ?_)
  rotate_left
  · repeat (first | refine S_nil ?_ | refine T_ret ?_ | refine S_pure tabOk rfl ?_ | refine S_pass rfl rfl rfl ?_)
    exact ret1 rfl rfl (fun w' hw => ⟨retb (decide_eq_false (by unfold begR; omega)).symm, hw.below (by repeat (first | exact new_nil | refine new_cons (by first | assumption | omega) ?_))⟩)
  repeat (first | refine S_pure tabOk rfl ?_ | refine S_load tabOk 0 rfl rfl rfl ?_)
  refine S_split rfl rfl (fun h5 => ?_) (fun h5 => ?_)
  rotate_left
  · repeat (first | refine S_nil ?_ | refine T_ret ?_ | refine S_pure tabOk rfl ?_ | refine S_pass rfl rfl rfl ?_)
    exact ret1 rfl rfl (fun w' hw => ⟨retb (decide_eq_false (by unfold begR; omega)).symm, hw.below (by repeat (first | exact new_nil | refine new_cons (by first | assumption | omega) ?_))⟩)
  repeat (first | refine S_nil ?_ | refine T_ret ?_ | refine S_pure tabOk rfl ?_ | refine S_load tabOk 0 rfl rfl rfl ?_)
  exact ret1 rfl rfl (fun w' hw => ⟨retb (decide_eq_decide.2 (by unfold begR; omega)), hw.below (by repeat (first | exact new_nil | refine new_cons (by first | assumption | omega) ?_))⟩)
def carR (h : Hd) (n m : Nat) : Prop := 1 ≤ h.ba ∧ h.cu = 0 ∧ h.li = 0 ∧ n = 0 ∧ m ≤ 64
/-- What the items of a Batch are like. -/
def itsR (b : Int) (l : List (Int × (Int × List Int))) : Prop := ∀ (i : Nat) (hi : i < l.length), (0 ≤ l[i].2.1 ∧ l[i].2.1 < 8 ∧ l[i].2.2.length ≤ 4096) ∧ b ≤ l[i].1 ∧ ∀ (j : Nat) (hj : j < l.length), j + 1 = i → l[j].1 < l[i].1
def batR (h : Hd) (n : Nat) (l : List (Int × (Int × List Int))) : Prop := carR h n l.length ∧ itsR h.ba l
def itsA (b : Int) (x : Int × (Int × List Int)) (p : Option (Int × (Int × List Int))) : Prop := (0 ≤ x.2.1 ∧ x.2.1 < 8 ∧ x.2.2.length ≤ 4096) ∧ b ≤ x.1 ∧ ∀ y, p = some y → y.1 < x.1
open Classical in
set_option maxHeartbeats 2000000 in
theorem carries_ok (h : Hd) (s : Fs) (hf : h.Fit) (A : Nat → Prop) (its : List (Int × (Int × List Int))) (w : World) (hx : SlR Ritem w A s.ia s.im s.ic its) : Calls Try.prog 90 #[frV h s] w fun e w' => e = .returned (.bool (decide (batR h s.rn its))) ∧ Below w.heap.size w w' := by
  have hl := hx.len
  have hmx := hx.max
  have hcp := hx.cap
  simp only [maxLen] at hmx
  have hba := fits_u64 hf.ba
  refine enter1 Try.func90 rfl rfl (Hp.refl w) ?_
  repeat (first | refine T_seq ?_ | refine T_region ?_)
  refine S_new tabOk rfl (fun b hb => ?_)
  repeat (first | refine T_seq ?_ | refine T_region ?_ | refine S_nil ?_ | refine S_pure tabOk rfl ?_ | refine S_load tabOk 0 rfl rfl rfl ?_)
  refine S_split rfl rfl (fun h1 => ?_) (fun h1 => ?_)
  · repeat (first | refine S_nil ?_ | refine S_pure tabOk rfl ?_ | refine S_pass rfl rfl rfl ?_)
    refine T_cond_t rfl ?_
    repeat (first | refine T_seq ?_ | refine T_region ?_ | refine S_nil ?_ | refine pthen_ret ?_ | refine T_ret ?_ | refine S_pure tabOk rfl ?_)
    exact ret1 rfl rfl (fun w' hw => ⟨retb (decide_eq_false (fun hb => by obtain ⟨⟨g1, g2, g3, g4, g5⟩, _⟩ := hb; omega)).symm, hw.below (by repeat (first | exact new_nil | refine new_cons (by first | assumption | omega) ?_))⟩)
  repeat (first | refine S_pure tabOk rfl ?_ | refine S_load tabOk 0 rfl rfl rfl ?_)
  refine S_split rfl rfl (fun h2 => ?_) (fun h2 => ?_)
  · repeat (first | refine S_nil ?_ | refine S_pure tabOk rfl ?_ | refine S_pass rfl rfl rfl ?_)
    refine T_cond_t rfl ?_
    repeat (first | refine T_seq ?_ | refine T_region ?_ | refine S_nil ?_ | refine pthen_ret ?_ | refine T_ret ?_ | refine S_pure tabOk rfl ?_)
    exact ret1 rfl rfl (fun w' hw => ⟨retb (decide_eq_false (fun hb => by obtain ⟨⟨g1, g2, g3, g4, g5⟩, _⟩ := hb; omega)).symm, hw.below (by repeat (first | exact new_nil | refine new_cons (by first | assumption | omega) ?_))⟩)
  repeat (first | refine S_pure tabOk rfl ?_ | refine S_load tabOk 0 rfl rfl rfl ?_)
  refine S_split rfl rfl (fun h3 => ?_) (fun h3 => ?_)
  · repeat (first | refine S_nil ?_ | refine S_pure tabOk rfl ?_ | refine S_pass rfl rfl rfl ?_)
    refine T_cond_t rfl ?_
    repeat (first | refine T_seq ?_ | refine T_region ?_ | refine S_nil ?_ | refine pthen_ret ?_ | refine T_ret ?_ | refine S_pure tabOk rfl ?_)
    exact ret1 rfl rfl (fun w' hw => ⟨retb (decide_eq_false (fun hb => by obtain ⟨⟨g1, g2, g3, g4, g5⟩, _⟩ := hb; omega)).symm, hw.below (by repeat (first | exact new_nil | refine new_cons (by first | assumption | omega) ?_))⟩)
  repeat (first | refine S_pure tabOk rfl ?_ | refine S_load tabOk 0 rfl rfl rfl ?_)
  refine S_split rfl rfl (fun h4 => ?_) (fun h4 => ?_)
  · repeat (first | refine S_nil ?_ | refine S_pure tabOk rfl ?_ | refine S_pass rfl rfl rfl ?_)
    refine T_cond_t rfl ?_
    repeat (first | refine T_seq ?_ | refine T_region ?_ | refine S_nil ?_ | refine pthen_ret ?_ | refine T_ret ?_ | refine S_pure tabOk rfl ?_)
    exact ret1 rfl rfl (fun w' hw => ⟨retb (decide_eq_false (fun hb => by obtain ⟨⟨g1, g2, g3, g4, g5⟩, _⟩ := hb; omega)).symm, hw.below (by repeat (first | exact new_nil | refine new_cons (by first | assumption | omega) ?_))⟩)
  repeat (first | refine S_nil ?_ | refine S_pure tabOk rfl ?_ | refine S_load tabOk 0 rfl rfl rfl ?_)
  refine T_cond_dec rfl (fun h5 => ?_) (fun h5 => ?_)
  · repeat (first | refine T_seq ?_ | refine T_region ?_ | refine S_nil ?_ | refine pthen_ret ?_ | refine T_ret ?_ | refine S_pure tabOk rfl ?_)
    exact ret1 rfl rfl (fun w' hw => ⟨retb (decide_eq_false (fun hb => by obtain ⟨⟨g1, g2, g3, g4, g5⟩, _⟩ := hb; omega)).symm, hw.below (by repeat (first | exact new_nil | refine new_cons (by first | assumption | omega) ?_))⟩)
  have hcar : carR h s.rn its.length := by unfold carR; omega
  repeat (first | refine T_seq ?_ | refine T_region ?_ | refine T_block ?_ | refine S_nil ?_ | refine pthen_normal ?_ | refine T_skip ?_ | refine S_pure tabOk rfl ?_ | refine S_load tabOk 0 rfl rfl rfl ?_)
  refine T_loop (ι := Nat) (fun i => [(1, .pointer (some ⟨b, 0, none⟩)), (31, .slice s.ia s.im s.ic), (32, .int .i64 (s.im : Int)), (33, .int .i64 (i : Int))])
    (fun i => [.blk b (.cells ⟨frC .u8 h s⟩ 26 (0, 0)) true]) (fun i => i ≤ s.im ∧ ∀ k (hk : k < its.length), k < i → itsA h.ba its[k] (if k = 0 then none else its[k - 1]?)) (fun i => s.im - i) 0 ⟨Nat.zero_le _, fun k hk h => absurd h (Nat.not_lt_zero _)⟩ (by repeat (first | exact Sub.nil | refine Sub.cons rfl ?_)) (fun w' hw => hw) ?_
  rintro i ⟨hi, hyes⟩
  repeat (first | refine T_seq ?_ | refine T_region ?_ | refine S_nil ?_ | refine S_pure tabOk rfl ?_)
  refine T_cond_dec rfl (fun h => ?_) (fun h => ?_)
  · have hi' : i < its.length := by omega
    obtain ⟨ab, off, a0, n0, c0, hia, hN, hk, hrd⟩ := item_read hx.tt hi'
    rw [hia]
    repeat (first | refine T_seq ?_ | refine T_region ?_ | refine T_block ?_ | refine pthen_normal ?_ | refine T_skip ?_ | refine S_pure tabOk rfl ?_)
    refine S_q (Q_idx (sz := 3) tabOk rfl rfl rfl rfl rfl rfl rfl rfl (j := i) (by omega)) ?_
    refine S_loadN tabOk (vs := [.int .u64 its[i].1, .int .i64 its[i].2.1, .slice a0 n0 c0]) rfl rfl rfl (fun w' hw => (hrd w' (hw.below (by repeat (first | exact new_nil | refine new_cons (by first | assumption | omega) ?_)))).1) ?_
    refine S_new tabOk rfl (fun b9 hb9 => ?_)
    repeat (first | refine T_draw (by kernel_rfl) (by kernel_rfl) ?_ | refine D_pure tabOk rfl ?_ | refine D_load tabOk 0 rfl rfl rfl ?_ | refine T_seq ?_ | refine S_nil ?_ | refine S_pure tabOk rfl ?_ | refine S_store tabOk 0 rfl rfl rfl rfl rfl rfl ?_)
    refine D_callx rfl Try.call112 (v := .bool (sright its[i].2.1 n0)) (fun w' vs hw' h => by obtain ⟨u1, _, rfl, rfl, u2, _, rfl, rfl, rfl⟩ := h; exact spright_ok its[i].2.1 a0 n0 c0 w') ?_
    have hn0 : its[i].2.2.length = n0 := (hrd w (Below.refl _ w)).2.len
    repeat (first | refine D_pure tabOk rfl ?_)
    refine D_splitb rfl rfl (fun g1 => ?_) (fun g1 => ?_)
    · repeat (first | refine D_all rfl ?_ | refine D_pure tabOk rfl ?_ | refine D_pass rfl rfl rfl ?_)
      refine T_cond_t rfl ?_
      repeat (first | refine T_seq ?_ | refine T_region ?_ | refine S_nil ?_ | refine inb_ret ?_ | refine pthen_ret ?_ | refine T_ret ?_ | refine S_pure tabOk rfl ?_)
      exact ret1 rfl rfl (fun w' hw => ⟨retb (decide_eq_false (fun hb => by obtain ⟨g2, _⟩ := hb.2 i hi'; unfold sright at g1; simp only [Bool.not_eq_true', decide_eq_false_iff_not] at g1; omega)).symm, hw.below (by repeat (first | exact new_nil | refine new_cons (by first | assumption | omega) ?_))⟩)
    have g1' : 0 ≤ its[i].2.1 ∧ its[i].2.1 < 8 ∧ its[i].2.2.length ≤ 4096 := by
      unfold sright at g1
      simp only [Bool.not_eq_false', decide_eq_true_eq] at g1
      omega
    repeat (first | refine D_pure tabOk rfl ?_ | refine D_load tabOk 0 rfl rfl rfl ?_ | refine D_load tabOk 1 rfl rfl rfl ?_)
    refine D_split rfl rfl (fun g2 => ?_) (fun g2 => ?_)
    · repeat (first | refine D_all rfl ?_ | refine D_pure tabOk rfl ?_ | refine D_pass rfl rfl rfl ?_)
      refine T_cond_t rfl ?_
      repeat (first | refine T_seq ?_ | refine T_region ?_ | refine S_nil ?_ | refine inb_ret ?_ | refine pthen_ret ?_ | refine T_ret ?_ | refine S_pure tabOk rfl ?_)
      exact ret1 rfl rfl (fun w' hw => ⟨retb (decide_eq_false (fun hb => by obtain ⟨_, g3, _⟩ := hb.2 i hi'; omega)).symm, hw.below (by repeat (first | exact new_nil | refine new_cons (by first | assumption | omega) ?_))⟩)
    repeat (first | refine D_pure tabOk rfl ?_)
    refine D_split rfl rfl (fun g3 => ?_) (fun g3 => ?_)
    · have hip : i - 1 < its.length := by omega
      obtain ⟨ab2, off2, a2, n2, c2, hia2, hN2, hk2, hrd2⟩ := item_read hx.tt hip
      rw [hia] at hia2
      cases hia2
      repeat (first | refine D_i64 tabOk rfl (by omega) ?_ | refine D_pure tabOk rfl ?_ | refine D_load tabOk 0 rfl rfl rfl ?_ | refine D_load tabOk 1 rfl rfl rfl ?_)
      rw [hia]
      refine D_q (Q_idx (sz := 3) tabOk rfl rfl rfl rfl rfl rfl rfl (j := i - 1) (by omega) (by omega)) ?_
      repeat (first | refine D_pure tabOk rfl ?_)
      refine D_load1 tabOk (v := .int .u64 its[i - 1].1) rfl rfl (fun w' hw => (hrd2 w' (hw.below (by repeat (first | exact new_nil | refine new_cons (by first | assumption | omega) ?_)))).1 0 _ rfl) ?_
      repeat (first | refine D_all rfl ?_ | refine D_pure tabOk rfl ?_)
      refine T_cond_dec rfl (fun g4 => ?_) (fun g4 => ?_)
      · repeat (first | refine T_seq ?_ | refine T_region ?_ | refine S_nil ?_ | refine inb_ret ?_ | refine pthen_ret ?_ | refine T_ret ?_ | refine S_pure tabOk rfl ?_)
        exact ret1 rfl rfl (fun w' hw => ⟨retb (decide_eq_false (fun hb => by
          obtain ⟨_, _, g5⟩ := hb.2 i hi'
          have := g5 (i - 1) hip (by omega)
          omega)).symm, hw.below (by repeat (first | exact new_nil | refine new_cons (by first | assumption | omega) ?_))⟩)
      · repeat (first | refine T_region ?_ | refine S_nil ?_ | refine pthen_normal ?_ | refine inb_normal ?_ | refine T_skip ?_ | refine S_i64 tabOk rfl (by omega) ?_ | refine S_pure tabOk rfl ?_)
        exact ⟨i + 1, ⟨by omega, fun k hk hki => by
          rcases Nat.lt_or_ge k i with h6 | h6
          · exact hyes k hk h6
          · have e : k = i := by omega
            subst e
            refine ⟨g1', by omega, fun y hy => ?_⟩
            rw [if_neg (by omega), List.getElem?_eq_getElem hip] at hy
            cases hy
            omega⟩, by repeat (first | exact Sub.nil | refine Sub.cons rfl ?_), fun w' hw => hw.less (by repeat (first | exact Less.nil | refine Less.keep ?_ | refine Less.dropB (by first | assumption | omega) ?_)), by omega⟩
    · repeat (first | refine D_all rfl ?_ | refine D_pure tabOk rfl ?_ | refine D_pass rfl rfl rfl ?_)
      refine T_cond_f rfl ?_
      repeat (first | refine T_region ?_ | refine S_nil ?_ | refine pthen_normal ?_ | refine inb_normal ?_ | refine T_skip ?_ | refine S_i64 tabOk rfl (by omega) ?_ | refine S_pure tabOk rfl ?_)
      exact ⟨i + 1, ⟨by omega, fun k hk hki => by
        have e : k = i := by omega
        subst e
        refine ⟨g1', by omega, fun y hy => ?_⟩
        rw [if_pos (by omega)] at hy
        cases hy⟩, by repeat (first | exact Sub.nil | refine Sub.cons rfl ?_), fun w' hw => hw.less (by repeat (first | exact Less.nil | refine Less.keep ?_ | refine Less.dropB (by first | assumption | omega) ?_)), by omega⟩
  · repeat (first | refine T_seq ?_ | refine T_region ?_ | refine S_nil ?_ | refine pthen_normal ?_ | refine inb_hit ?_ | refine pthen_exit ?_ | refine T_ret ?_ | refine T_exit ?_ | refine S_pure tabOk rfl ?_)
    refine ret1 rfl rfl (fun w' hw => ⟨retb (decide_eq_true ⟨hcar, fun k hk => ?_⟩).symm, hw.below (by repeat (first | exact new_nil | refine new_cons (by first | assumption | omega) ?_))⟩)
    obtain ⟨g1, g2, g3⟩ := hyes k hk (by omega)
    refine ⟨g1, g2, fun j hj hjk => g3 _ ?_⟩
    rw [if_neg (by omega), show k - 1 = j by omega, List.getElem?_eq_getElem hj]

section
variable {P : Program} {tb : Tab} {n : Nat} {w0 : World} {all : Array Oper} {os : List Oper} {o : Oper} {dl : DL} {ol : OL} {F : DL → Prop} {d : Nat}
def rp (r : Nat → Option Value) (tx : Nat) (u : Value) : Nat → Option Value := fun t => if t = tx then some u else r t
/-- An operation that looks at a slot of which something is true. -/
theorem D_opp (tx : Nat) {Φ : Value → World → Prop} (E : Ent) (hd : o.dst = some d) (hn : Nat.blt d n = true) (hg : gd all (rs all o dl) o.guard = some true) (htx : (o.looksAt all).contains tx = true) (hx : lk dl tx = some (.pr Φ)) (hst : E.Stable)
    (h : ∀ a u w, Rd a (rp (rs all o dl) tx u) → Hp w0 w ol → Φ u w → ∃ v, (execOp a.eval o).run P w = .ok (.value v) w ∧ E.at v w) (k : D P n w0 all os ((d, E) :: dl) ol F) : D P n w0 all (o :: os) dl ol F := by
  have hn' : d < n := by simpa [Nat.blt_eq] using hn
  refine D_of (E := E) ⟨fun a w h1 h2 h3 h4 => ?_, hst, fun d' hd' => ?_⟩ hd k
  · have hrd := rs_rd h4
    have hw := gd_wanted hrd hg
    refine ⟨fun _ => ?_, (fun hn => by rw [hw] at hn; cases hn)⟩
    have hs := h4 tx (by simpa using htx)
    rw [hx] at hs
    obtain ⟨u, hu1, hu2⟩ := hs
    obtain ⟨v, e1, e2⟩ := h a u w (fun t v hv => by
      unfold rp at hv
      split at hv
      · rename_i e
        subst e
        cases hv
        exact hu1
      · exact hrd t v hv) h3 hu2
    simp only [Oper.wp, e1, Oper.upon]
    exact ⟨v, rfl, Below.refl _ _, e2⟩
  · rw [hd] at hd'; cases hd'; exact hn'
/-- A pointer, a slice, of whose place something is true. -/
def PtrP (X : Nat → Nat → World → Prop) (u : Value) (w : World) : Prop := ∃ b off, u = .pointer (some ⟨b, off, none⟩) ∧ X b off w
def SliP (m : Nat) (X : Nat → Nat → World → Prop) (u : Value) (w : World) : Prop := ∃ b off c, u = .slice (some ⟨b, off, none⟩) m c ∧ X b off w
def StabP (X : Nat → Nat → World → Prop) : Prop := ∀ b off w w', X b off w → Below w.heap.size w w' → X b off w'
theorem PtrP.stable {X : Nat → Nat → World → Prop} (h : StabP X) : ∀ v w w', PtrP X v w → Below w.heap.size w w' → PtrP X v w' := fun v w w' ⟨b, off, e, hx⟩ hb => ⟨b, off, e, h b off w w' hx hb⟩
theorem SliP.stable {m : Nat} {X : Nat → Nat → World → Prop} (h : StabP X) : ∀ v w w', SliP m X v w → Below w.heap.size w w' → SliP m X v w' := fun v w w' ⟨b, off, c, e, hx⟩ hb => ⟨b, off, c, e, h b off w w' hx hb⟩
/-- Its cells are these. -/
def CellsP (xs : List Value) (b off : Nat) (w : World) : Prop := b < w.heap.size ∧ ∀ j u, xs[j]? = some u → w.cell? ⟨b, off + j, none⟩ = some u
theorem CellsP.stab (xs : List Value) : StabP (CellsP xs) := fun b off w w' ⟨h1, h2⟩ hb => ⟨Nat.lt_of_lt_of_le h1 hb.size, fun j u hu => (hb.cell (p := ⟨b, off + j, none⟩) h1).trans (h2 j u hu)⟩
theorem SliP.of_own {w : World} {base : Nat} {e : TypeId} {sz m c : Nat} {a : Option Addr} {xs : List Value} (h : w.ownsRow base e sz (.slice a m c) m xs) (hm : 0 < m) : SliP m (CellsP xs) (.slice a m c) w := by
  obtain ⟨b, off, rfl, hlt, hc⟩ := (Sl.of_own h).get hm
  exact ⟨b, off, c, rfl, hlt, hc⟩
theorem D_idxp (ht : TabOk P tb) (tx : Nat) {t e : TypeId} {y : Operand} {k : IntKind} {i : Int} {ti te : TI} {m j sz : Nat} {xs : List Value} (hs : opAt? n all (rs all o dl) o = some (d, .indexAddr t (.tmp tx) y)) (hn : Nat.blt d n = true) (htx : (o.looksAt all).contains tx = true) (hx : lk dl tx = some (.pr (SliP m (CellsP xs)))) (hy : ev (rs all o dl) y = some (.int k i))
    (hti : tl tb t = some ti) (hd : ti.desc = .slice e) (hte : tl tb e = some te) (hsz : te.size = sz) (hij : i = ((j : Nat) : Int)) (hj : j < m) (k : D P n w0 all os ((d, .pr (PtrP (CellsP (xs.drop (j * sz))))) :: dl) ol F) : D P n w0 all (o :: os) dl ol F := by
  obtain ⟨hdst, hlt, hg, hop⟩ := opAt_spec hs
  refine D_opp tx (.pr (PtrP (CellsP (xs.drop (j * sz))))) hdst hn hg htx hx (PtrP.stable (CellsP.stab _)) (fun ac u w hrd hh hu => ?_) k
  obtain ⟨b, off, c, rfl, hb, hc⟩ := hu
  refine ⟨.pointer (some ⟨b, off + j * sz, none⟩), ?_, b, off + j * sz, rfl, hb, fun q u hq => ?_⟩
  · have h1 := ht.under hti w
    rw [hd] at h1
    have h2 := ht.sizeOf hte w
    have h4 : ac.eval (.tmp tx) = .slice (some ⟨b, off, none⟩) m c := by
      have := hrd tx _ (by unfold rp; rw [if_pos rfl])
      simp [Act.eval, Array.getD_eq_getD_getElem?, this]
    have h5 : ac.eval y = .int ‹IntKind› i := by
      refine Rd.ev (r := rs all o dl) (fun t v hv => ?_) hy
      by_cases ht : t = tx
      · subst ht
        have hr : rs all o dl t = none := by
          unfold rs
          split
          · rename_i hv
            rw [hx] at hv
            cases hv
          · rfl
        rw [hr] at hv
        cases hv
      · exact hrd t v (by unfold rp; rw [if_neg ht]; exact hv)
    unfold execOp
    subst hij
    have h3 : (0 : Int) ≤ j ∧ (j : Int) < m := by omega
    simp [hop, h4, h5, Instr.indexAt, asIntOf, h1, h2, hj, hsz, Addr.add_lit]
  · rw [List.getElem?_drop] at hq
    rw [Nat.add_assoc]
    exact hc _ u hq
/-- A field of what it points to. -/
theorem D_fldp (ht : TabOk P tb) (tx : Nat) (q : Nat) {xs : List Value} (hd : o.dst = some d) (hn : Nat.blt d n = true) (hg : gd all (rs all o dl) o.guard = some true) (htx : (o.looksAt all).contains tx = true) (hx : lk dl tx = some (.pr (PtrP (CellsP xs))))
    (hp : ∀ b off, pureVal tb (rp (rs all o dl) tx (.pointer (some ⟨b, off, none⟩))) o.op = some (.pointer (some ⟨b, off + q, none⟩))) (k : D P n w0 all os ((d, .pr (PtrP (CellsP (xs.drop q)))) :: dl) ol F) : D P n w0 all (o :: os) dl ol F := by
  refine D_opp tx (.pr (PtrP (CellsP (xs.drop q)))) hd hn hg htx hx (PtrP.stable (CellsP.stab _)) (fun ac u w hrd hh hu => ?_) k
  obtain ⟨b, off, rfl, hb, hc⟩ := hu
  exact ⟨_, pure_run ht hrd (hp b off) w, b, off + q, rfl, hb, fun j u hq => by
    rw [List.getElem?_drop] at hq
    rw [Nat.add_assoc]
    exact hc _ u hq⟩
/-- What it points to. -/
theorem D_loadp (ht : TabOk P tb) (tx : Nat) {t : TypeId} {ti : TI} {v : Value} {xs : List Value} (hs : opAt? n all (rs all o dl) o = some (d, .load t (.tmp tx))) (hn : Nat.blt d n = true) (htx : (o.looksAt all).contains tx = true) (hx : lk dl tx = some (.pr (PtrP (CellsP xs))))
    (hti : tl tb t = some ti) (ha : isAggD ti.desc = false) (hv : xs[0]? = some v) (k : D P n w0 all os ((d, .ex v) :: dl) ol F) : D P n w0 all (o :: os) dl ol F := by
  obtain ⟨hdst, hlt, hg, hop⟩ := opAt_spec hs
  refine D_opp tx (.ex v) hdst hn hg htx hx trivial (fun ac u w hrd hh hu => ?_) k
  obtain ⟨b, off, rfl, hb, hc⟩ := hu
  have h4 : ac.eval (.tmp tx) = .pointer (some ⟨b, off, none⟩) := by
    have := hrd tx _ (by unfold rp; rw [if_pos rfl])
    simp [Act.eval, Array.getD_eq_getD_getElem?, this]
  refine ⟨v, ?_, rfl⟩
  have hl := loadVar_one ht hti ha (hc 0 v hv)
  rw [Nat.add_zero] at hl
  unfold execOp
  simp [hop, h4, Instr.loadAt, Instr.sureAddr, hl]
end
theorem ResIs.cellO {P : Program} {tb : Tab} {w0 : World} {l : FL} {o : OL} (ht : TabOk P tb) (i : Nat) {t ty b : Nat} {ti : TI} {cs : List Value} {e : TypeId} {fz : Nat × Nat} {r : Bool} {v : Value} (hl : look l t = some (.pointer (some ⟨b, 0, none⟩))) (hti : tl tb ty = some ti) (hi : getE o i = some (.blk b (.cells ⟨cs⟩ e fz) r)) (hv : loadOf ti cs 0 = some v) : ResIs P w0 l o (.cell t ty) v :=
  ⟨_, hl, fun w hw => loadVar_own ht hti (hw.own _ (getE_mem hi)) hv⟩
/-- A call that turns some entries of our own, that stand first. -/
theorem Hp.graftG {w0 w w' : World} {A L ol : OL} (hh : Hp w0 w (A ++ ol)) (h2 : Hp w w' L) (hA : ∀ e ∈ A, e.ex = true) (hL : ∀ e ∈ L, e.ex = true ∧ ∀ k, e.has k → (∃ e' ∈ A, e'.has k) ∨ w.heap.size ≤ k) (hk : ∀ e ∈ A, ∀ k, e.has k → w0.heap.size ≤ k ∨ ∃ e' ∈ L, e'.has k) : Hp w0 w' (L ++ ol) := by
  have hap := List.pairwise_append.1 hh.apart
  have hAo : ∀ e ∈ A, ∀ x ∈ ol, ∀ k, e.has k → ¬ x.has k := fun e he x hx k h1 h3 => hap.2.2 e he x hx (by simp [hA e he]) k h1 h3
  have hLo : ∀ e ∈ L, ∀ x ∈ ol, ∀ k, e.has k → ¬ x.has k := fun e he x hx k h1 h3 => by
    rcases (hL e he).2 k h1 with ⟨e', h4, h5⟩ | h4
    · exact hAo e' h4 x hx k h5 h3
    · have := hh.lt (List.mem_append.2 (.inr hx)) h3
      omega
  refine ⟨h2.os.trans hh.os, h2.tape.trans hh.tape, h2.output.trans hh.output, Nat.le_trans hh.size h2.size, fun k hk0 he => ?_, fun e hm => ?_, List.pairwise_append.2 ⟨h2.apart, hap.2.1, fun e he x hx _ k h1 h3 => hLo e he x hx k h1 h3⟩⟩
  · rw [h2.old k (Nat.lt_of_lt_of_le hk0 hh.size) fun e he' hx => he e (List.mem_append.2 (.inl he')) hx]
    refine hh.old k hk0 fun e hm hx h3 => ?_
    rcases List.mem_append.1 hm with hm | hm
    · rcases hk e hm k h3 with h4 | ⟨e', h4, h5⟩
      · omega
      · exact he e' (List.mem_append.2 (.inl h4)) (hL e' h4).1 h5
    · exact he e (List.mem_append.2 (.inr hm)) hx h3
  · rcases List.mem_append.1 hm with hm | hm
    · exact h2.own e hm
    · exact HE.keep (hh.own e (List.mem_append.2 (.inr hm))) fun k h3 => h2.old k (hh.lt (List.mem_append.2 (.inr hm)) h3) fun e' he' _ h4 => hLo e' he' e hm k h4 h3

def graR (h : Hd) (rs : List Run) (m : Nat) : Prop := Can rs ∧ h.ba = 0 ∧ m = 0 ∧ rs.length ≤ 32 ∧ h.cu ≤ h.li ∧ ∀ (hp : 0 < rs.length), 2 ≤ rs[0].1 ∧ h.cu ≤ rs[0].1 - 2 ∧ (rs[rs.length - 1]'(by omega)).2 ≤ h.li
theorem cellsR_at {l : List Run} (h : 0 < l.length) : (cellsR l)[0]? = some (.int .u64 l[0].1) := by
  cases l with
  | nil => exact absurd h (Nat.lt_irrefl 0)
  | cons p l => rfl
open Classical in
set_option maxHeartbeats 2000000 in
theorem grants_ok (h : Hd) (s : Fs) (hf : h.Fit) (A : Nat → Prop) (rs : List Run) (w : World) (hx : SlR Rrun w A s.ra s.rn s.rc rs) (hn : s.rn ≤ 1000000) : Calls Try.prog 84 #[frV h s] w fun e w' => e = .returned (.bool (decide (graR h rs s.im))) ∧ Below w.heap.size w w' := by
  have hl := hx.len
  have hfr := (hx.flat flat_run).2
  have hba := fits_u64 hf.ba
  refine enter1 Try.func84 rfl rfl (Hp.refl w) ?_
  repeat (first | refine T_seq ?_ | refine T_region ?_)
  refine S_new tabOk rfl (fun b hb => ?_)
  repeat (first | refine T_seq ?_ | refine T_region ?_ | refine S_nil ?_ | refine S_pure tabOk rfl ?_ | refine S_load tabOk 0 rfl rfl rfl ?_)
  refine S_callX (fun i : List Run × Bool => (i.2 = true ↔ Can rs) ∧ i.1 = (if i.2 = true then rs else [])) (fun i => Vtup2 (Rset.vp i.1) (Rbool.vp i.2)) TT rfl Try.call110 (fun w1 h1 => (make_ok s.ra s.rn s.rc rs A w1 (hx.ext (h1.below (by repeat (first | exact new_nil | refine new_cons (by first | assumption | omega) ?_)))) hn).mono fun e w' ⟨v, i, e1, e2, e3, e4, e5⟩ => ⟨v, i, e1, e2, ⟨e3, e4⟩, Vp.mono _ e5 fun k hk => BB_new h1 hk⟩) (fun i v F w1 hm hF hv => ?_)
  obtain ⟨t, q⟩ := i
  obtain ⟨hq, ht⟩ := hm
  obtain ⟨v1, v2, rfl, hv1, hv2⟩ := hv
  obtain ⟨a1, n1, c1, rfl, hs1⟩ := set_form hv1
  obtain rfl : v2 = .bool q := by have : [v2] = [.bool q] := hv2; simpa using this
  dsimp only at hq ht
  have hno : ∀ w', ¬ graR h rs s.im → Hp w w' [] → Ending.returned (.bool false) = .returned (.bool (decide (graR h rs s.im))) := fun w' hg _ => retb (decide_eq_false hg).symm
  cases q with
  | false =>
    have hnc : ¬ Can rs := fun h => by have := hq.2 h; cases this
    repeat (first | refine S_pure tabOk rfl ?_)
    refine S_new tabOk rfl (fun b3 hb3 => ?_)
    repeat (first | refine T_seq ?_ | refine T_region ?_ | refine S_nil ?_ | refine S_pure tabOk rfl ?_ | refine S_pass rfl rfl rfl ?_ | refine S_store tabOk 0 rfl rfl rfl rfl rfl rfl ?_)
    refine T_cond_t rfl ?_
    repeat (first | refine T_seq ?_ | refine T_region ?_ | refine S_nil ?_ | refine pthen_ret ?_ | refine T_ret ?_ | refine S_pure tabOk rfl ?_)
    exact ret1 rfl rfl (fun w' hw => ⟨retb (decide_eq_false fun hg => hnc hg.1).symm, hw.below (by repeat (first | exact new_nil | refine new_ro ?_ | refine new_cons (by first | assumption | omega) ?_))⟩)
  | true =>
    rw [if_pos rfl] at ht
    subst ht
    have hcan := hq.1 rfl
    have hn1 : t.length = n1 := hs1.len
    obtain rfl : n1 = s.rn := by omega
    repeat (first | refine S_pure tabOk rfl ?_)
    refine S_new tabOk rfl (fun b3 hb3 => ?_)
    repeat (first | refine T_seq ?_ | refine T_region ?_ | refine S_nil ?_ | refine S_pure tabOk rfl ?_ | refine S_load tabOk 2 rfl rfl rfl ?_ | refine S_store tabOk 0 rfl rfl rfl rfl rfl rfl ?_)
    refine S_split rfl rfl (fun h1 => ?_) (fun h1 => ?_)
    · repeat (first | refine S_nil ?_ | refine S_pure tabOk rfl ?_ | refine S_pass rfl rfl rfl ?_)
      refine T_cond_t rfl ?_
      repeat (first | refine T_seq ?_ | refine T_region ?_ | refine S_nil ?_ | refine pthen_ret ?_ | refine T_ret ?_ | refine S_pure tabOk rfl ?_)
      exact ret1 rfl rfl (fun w' hw => ⟨retb (decide_eq_false (fun ⟨_, g1, g2, g3, g4, _⟩ => by omega)).symm, hw.below (by repeat (first | exact new_nil | refine new_ro ?_ | refine new_cons (by first | assumption | omega) ?_))⟩)
    repeat (first | refine S_pure tabOk rfl ?_ | refine S_load tabOk 2 rfl rfl rfl ?_)
    refine S_split rfl rfl (fun h2 => ?_) (fun h2 => ?_)
    · repeat (first | refine S_nil ?_ | refine S_pure tabOk rfl ?_ | refine S_pass rfl rfl rfl ?_)
      refine T_cond_t rfl ?_
      repeat (first | refine T_seq ?_ | refine T_region ?_ | refine S_nil ?_ | refine pthen_ret ?_ | refine T_ret ?_ | refine S_pure tabOk rfl ?_)
      exact ret1 rfl rfl (fun w' hw => ⟨retb (decide_eq_false (fun ⟨_, g1, g2, g3, g4, _⟩ => by omega)).symm, hw.below (by repeat (first | exact new_nil | refine new_ro ?_ | refine new_cons (by first | assumption | omega) ?_))⟩)
    repeat (first | refine S_pure tabOk rfl ?_ | refine S_load tabOk 2 rfl rfl rfl ?_)
    refine S_split rfl rfl (fun h3 => ?_) (fun h3 => ?_)
    · repeat (first | refine S_nil ?_ | refine S_pure tabOk rfl ?_ | refine S_pass rfl rfl rfl ?_)
      refine T_cond_t rfl ?_
      repeat (first | refine T_seq ?_ | refine T_region ?_ | refine S_nil ?_ | refine pthen_ret ?_ | refine T_ret ?_ | refine S_pure tabOk rfl ?_)
      exact ret1 rfl rfl (fun w' hw => ⟨retb (decide_eq_false (fun ⟨_, g1, g2, g3, g4, _⟩ => by omega)).symm, hw.below (by repeat (first | exact new_nil | refine new_ro ?_ | refine new_cons (by first | assumption | omega) ?_))⟩)
    repeat (first | refine S_nil ?_ | refine S_pure tabOk rfl ?_ | refine S_load tabOk 2 rfl rfl rfl ?_)
    refine T_cond_dec rfl (fun h4 => ?_) (fun h4 => ?_)
    · repeat (first | refine T_seq ?_ | refine T_region ?_ | refine S_nil ?_ | refine pthen_ret ?_ | refine T_ret ?_ | refine S_pure tabOk rfl ?_)
      exact ret1 rfl rfl (fun w' hw => ⟨retb (decide_eq_false (fun ⟨_, g1, g2, g3, g4, _⟩ => by omega)).symm, hw.below (by repeat (first | exact new_nil | refine new_ro ?_ | refine new_cons (by first | assumption | omega) ?_))⟩)
    repeat (first | refine T_draw (by kernel_rfl) (by kernel_rfl) ?_ | refine D_pure tabOk rfl ?_ | refine T_seq ?_ | refine T_region ?_ | refine S_nil ?_ | refine pthen_normal ?_ | refine T_skip ?_ | refine S_pure tabOk rfl ?_ | refine S_load tabOk 2 rfl rfl rfl ?_)
    refine D_split rfl rfl (fun h5 => ?_) (fun h5 => ?_)
    · repeat (first | refine D_all rfl ?_ | refine D_pure tabOk rfl ?_ | refine D_pass rfl rfl rfl ?_ | refine T_ret ?_)
      exact ret1 rfl rfl (fun w' hw => ⟨retb (decide_eq_true ⟨hcan, by omega, by omega, by omega, by omega, fun hp => absurd hp (by omega)⟩).symm, hw.below (by repeat (first | exact new_nil | refine new_ro ?_ | refine new_cons (by first | assumption | omega) ?_))⟩)
    have hpos : 0 < t.length := by omega
    obtain ⟨ab, off, hra⟩ : ∃ ab off, s.ra = some ⟨ab, off, none⟩ := by
      obtain ⟨ab, off, _, e, _⟩ := hx.get_ hpos
      exact ⟨ab, off, e⟩
    have hlast : t.length - 1 < t.length := by omega
    have hcell := run_cells (b := ab) (off := off) (by rw [← hra]; exact hx) hlast
    have hab : ab < w.heap.size := by
      obtain ⟨b', off', _, e, h6, _⟩ := hx.get_ hpos
      rw [hra] at e
      cases e
      exact h6
    have hf0 := fits_u64 (hfr _ (List.getElem_mem hpos)).1
    repeat (first | refine D_load tabOk 0 rfl rfl rfl ?_)
    refine D_callp (SliP s.rn (CellsP (cellsR t))) rfl Try.call111 (SliP.stable (CellsP.stab _)) (fun w' vs hw' h7 => by
      obtain ⟨u1, _, rfl, rfl, u2, _, rfl, rfl, rfl⟩ := h7
      exact (runs_ok a1 s.rn c1 t F w' (set_of (Vtup2_fst (Vp.fact0 (p := Vtup2 (Rset.vp t) (Rbool.vp true)) hw' 1 rfl))) (by omega)).mono fun e w2 ⟨a2, c2, e1, e2, e3⟩ => ⟨_, e1, e2, SliP.of_own e3 (by omega)⟩) ?_
    refine D_idxp tabOk 45 (j := 0) rfl rfl rfl rfl rfl rfl rfl rfl rfl rfl (by omega) ?_
    refine D_fldp tabOk 46 0 rfl rfl rfl rfl rfl (fun b off => rfl) ?_
    refine D_loadp tabOk 47 (v := .int .u64 t[0].1) rfl rfl rfl rfl rfl rfl (by rw [List.drop_drop]; exact cellsR_at hpos) ?_
    repeat (first | refine D_pure tabOk rfl ?_)
    refine D_split rfl rfl (fun h6 => ?_) (fun h6 => ?_)
    rotate_left
    · repeat (first | refine D_pure tabOk rfl ?_ | refine D_pass rfl rfl rfl ?_)
      refine D_allP rfl ?_
      repeat (first | refine T_ret ?_)
      exact ret1 rfl rfl (fun w' hw => ⟨retb (decide_eq_false (fun ⟨_, _, _, _, _, g⟩ => by have := (g hpos).1; omega)).symm, hw.below (by repeat (first | exact new_nil | refine new_ro ?_ | refine new_cons (by first | assumption | omega) ?_))⟩)
    repeat (first | refine D_load tabOk 0 rfl rfl rfl ?_)
    refine D_callp (SliP s.rn (CellsP (cellsR t))) rfl Try.call111 (SliP.stable (CellsP.stab _)) (fun w' vs hw' h7 => by
      obtain ⟨u1, _, rfl, rfl, u2, _, rfl, rfl, rfl⟩ := h7
      exact (runs_ok a1 s.rn c1 t F w' (set_of (Vtup2_fst (Vp.fact0 (p := Vtup2 (Rset.vp t) (Rbool.vp true)) hw' 1 rfl))) (by omega)).mono fun e w2 ⟨a2, c2, e1, e2, e3⟩ => ⟨_, e1, e2, SliP.of_own e3 (by omega)⟩) ?_
    refine D_idxp tabOk 52 (j := 0) rfl rfl rfl rfl rfl rfl rfl rfl rfl rfl (by omega) ?_
    refine D_fldp tabOk 53 0 rfl rfl rfl rfl rfl (fun b off => rfl) ?_
    refine D_loadp tabOk 54 (v := .int .u64 t[0].1) rfl rfl rfl rfl rfl rfl (by rw [List.drop_drop]; exact cellsR_at hpos) ?_
    repeat (first | refine D_u64 tabOk rfl (by omega) ?_ | refine D_pure tabOk rfl ?_ | refine D_load tabOk 2 rfl rfl rfl ?_)
    refine D_split rfl rfl (fun h7 => ?_) (fun h7 => ?_)
    rotate_left
    · repeat (first | refine D_pure tabOk rfl ?_ | refine D_pass rfl rfl rfl ?_)
      refine D_allP rfl ?_
      repeat (first | refine T_ret ?_)
      exact ret1 rfl rfl (fun w' hw => ⟨retb (decide_eq_false (fun ⟨_, _, _, _, _, g⟩ => by have := (g hpos).2.1; omega)).symm, hw.below (by repeat (first | exact new_nil | refine new_ro ?_ | refine new_cons (by first | assumption | omega) ?_))⟩)
    repeat (first | refine D_i64 tabOk rfl (by omega) ?_ | refine D_pure tabOk rfl ?_ | refine D_load tabOk 2 rfl rfl rfl ?_)
    rw [hra]
    refine D_q (Q_idx (sz := 2) tabOk rfl rfl rfl rfl rfl rfl rfl (j := t.length - 1) (by omega) (by omega)) ?_
    repeat (first | refine D_pure tabOk rfl ?_)
    refine D_load1 tabOk (v := .int .u64 t[t.length - 1].2) rfl rfl (fun w' hw => (hw.below (by repeat (first | exact new_nil | refine new_ro ?_ | refine new_cons (by first | assumption | omega) ?_))).cell (p := ⟨ab, off + (t.length - 1) * 2 + 1, none⟩) hab |>.trans (by
      have := hcell 1 _ rfl
      rwa [Addr.add_lit] at this)) ?_
    repeat (first | refine D_pure tabOk rfl ?_ | refine D_load tabOk 2 rfl rfl rfl ?_)
    refine D_allP rfl ?_
    repeat (first | refine T_ret ?_)
    exact ret1 rfl rfl (fun w' hw => ⟨retb (decide_eq_decide.2 ⟨fun g => ⟨hcan, by omega, by omega, by omega, by omega, fun _ => ⟨h6, h7, g⟩⟩, fun ⟨_, _, _, _, _, g⟩ => (g hpos).2.2⟩), hw.below (by repeat (first | exact new_nil | refine new_ro ?_ | refine new_cons (by first | assumption | omega) ?_))⟩)

abbrev fnV (n : Nat) : Value := .func (.func n) #[] #[]
abbrev helloL : List Value := [.string ⟨#[104, 101, 108, 108, 111]⟩, fnV 87, fnV 88, fnV 89]
abbrev batchL : List Value := [.string ⟨#[98, 97, 116, 99, 104]⟩, fnV 90, fnV 91, fnV 92]
abbrev answL (s : ByteArray) : List Value := [.string s, fnV 84, fnV 85, fnV 86]
abbrev noL : List Value := [.string ⟨#[]⟩, .nilFunc, .nilFunc, .nilFunc]
/-- A kind's form. -/
inductive FormI : Int → List Value → Bool → Prop where
  | hello : FormI 1 helloL true
  | welcome : FormI 2 (answL ⟨#[119, 101, 108, 99, 111, 109, 101]⟩) true
  | batch : FormI 3 batchL true
  | ack : FormI 4 (answL ⟨#[97, 99, 107]⟩) true
  | no (k : Int) (h : k ≠ 1 ∧ k ≠ 2 ∧ k ≠ 3 ∧ k ≠ 4) : FormI k noL false
theorem formI_ex (k : Int) : ∃ l q, FormI k l q := by
  by_cases h1 : k = 1
  · subst h1; exact ⟨_, _, .hello⟩
  by_cases h2 : k = 2
  · subst h2; exact ⟨_, _, .welcome⟩
  by_cases h3 : k = 3
  · subst h3; exact ⟨_, _, .batch⟩
  by_cases h4 : k = 4
  · subst h4; exact ⟨_, _, .ack⟩
  exact ⟨_, _, .no k ⟨h1, h2, h3, h4⟩⟩
theorem answers_ok (s : ByteArray) (w : World) : Calls Try.prog 83 #[.string s] w fun e w' => e = .returned (.agg ⟨answL s⟩) ∧ Below w.heap.size w w' := by
  refine enter1 Try.func83 rfl rfl (Hp.refl w) ?_
  repeat (first | refine T_seq ?_ | refine T_region ?_)
  refine S_new tabOk rfl (fun b hb => ?_)
  repeat (first | refine T_seq ?_ | refine T_region ?_ | refine S_nil ?_ | refine T_ret ?_ | refine S_pure tabOk rfl ?_ | refine S_store tabOk 0 rfl rfl rfl rfl rfl rfl ?_ | refine S_q (Q_build tabOk rfl rfl rfl rfl rfl rfl rfl) ?_)
  exact ret1 rfl (ResIs.cellO tabOk 0 rfl rfl rfl rfl) (fun w' hw => ⟨rfl, hw.below (by repeat (first | exact new_nil | refine new_cons (by first | assumption | omega) ?_))⟩)
set_option maxHeartbeats 1000000 in
theorem forms_ok {k : Int} {l : List Value} {q : Bool} (h : FormI k l q) (w : World) : Calls Try.prog 46 #[.int .u8 k] w fun e w' => e = .returned (.tuple #[.agg ⟨l⟩, .bool q]) ∧ Below w.heap.size w w' := by
  refine enter1 Try.func46 rfl rfl (Hp.refl w) ?_
  repeat (first | refine T_seq ?_ | refine T_region ?_)
  refine S_new tabOk rfl (fun b hb => ?_)
  repeat (first | refine T_seq ?_ | refine T_region ?_ | refine T_block ?_ | refine S_nil ?_ | refine S_pure tabOk rfl ?_)
  cases h with
  | hello =>
    refine T_cond_t rfl ?_
    repeat (first | refine T_seq ?_ | refine T_region ?_ | refine S_nil ?_ | refine inb_ret ?_ | refine pthen_ret ?_ | refine T_ret ?_ | refine S_pure tabOk rfl ?_ | refine S_store tabOk 0 rfl rfl rfl rfl rfl rfl ?_ | refine S_q (Q_build tabOk rfl rfl rfl rfl rfl rfl rfl) ?_)
    exact ret2 rfl (ResIs.cellO tabOk 0 rfl rfl rfl rfl) rfl (fun w' hw => ⟨rfl, hw.below (by repeat (first | exact new_nil | refine new_cons (by first | assumption | omega) ?_))⟩)
  | welcome =>
    refine T_cond_f rfl ?_
    repeat (first | refine T_seq ?_ | refine T_region ?_ | refine S_nil ?_ | refine S_pure tabOk rfl ?_)
    refine T_cond_t rfl ?_
    repeat (first | refine T_seq ?_ | refine T_region ?_ | refine S_pure tabOk rfl ?_)
    refine S_callvq (v := .agg ⟨answL ⟨#[119, 101, 108, 99, 111, 109, 101]⟩⟩) rfl rfl rfl Try.call83 (fun w1 h1 => answers_ok _ w1) ?_
    repeat (first | refine S_nil ?_ | refine inb_ret ?_ | refine pthen_ret ?_ | refine T_ret ?_ | refine S_pure tabOk rfl ?_ | refine S_store tabOk 0 rfl rfl rfl rfl rfl rfl ?_)
    exact ret2 rfl (ResIs.cellO tabOk 0 rfl rfl rfl rfl) rfl (fun w' hw => ⟨rfl, hw.below (by repeat (first | exact new_nil | refine new_cons (by first | assumption | omega) ?_))⟩)
  | batch =>
    refine T_cond_f rfl ?_
    repeat (first | refine T_seq ?_ | refine T_region ?_ | refine S_nil ?_ | refine S_pure tabOk rfl ?_)
    refine T_cond_f rfl ?_
    repeat (first | refine T_seq ?_ | refine T_region ?_ | refine S_nil ?_ | refine S_pure tabOk rfl ?_)
    refine T_cond_t rfl ?_
    repeat (first | refine T_seq ?_ | refine T_region ?_ | refine S_nil ?_ | refine inb_ret ?_ | refine pthen_ret ?_ | refine T_ret ?_ | refine S_pure tabOk rfl ?_ | refine S_store tabOk 0 rfl rfl rfl rfl rfl rfl ?_ | refine S_q (Q_build tabOk rfl rfl rfl rfl rfl rfl rfl) ?_)
    exact ret2 rfl (ResIs.cellO tabOk 0 rfl rfl rfl rfl) rfl (fun w' hw => ⟨rfl, hw.below (by repeat (first | exact new_nil | refine new_cons (by first | assumption | omega) ?_))⟩)
  | ack =>
    refine T_cond_f rfl ?_
    repeat (first | refine T_seq ?_ | refine T_region ?_ | refine S_nil ?_ | refine S_pure tabOk rfl ?_)
    refine T_cond_f rfl ?_
    repeat (first | refine T_seq ?_ | refine T_region ?_ | refine S_nil ?_ | refine S_pure tabOk rfl ?_)
    refine T_cond_f rfl ?_
    repeat (first | refine T_seq ?_ | refine T_region ?_ | refine S_nil ?_ | refine S_pure tabOk rfl ?_)
    refine T_cond_t rfl ?_
    repeat (first | refine T_seq ?_ | refine T_region ?_ | refine S_pure tabOk rfl ?_)
    refine S_callvq (v := .agg ⟨answL ⟨#[97, 99, 107]⟩⟩) rfl rfl rfl Try.call83 (fun w1 h1 => answers_ok _ w1) ?_
    repeat (first | refine S_nil ?_ | refine inb_ret ?_ | refine pthen_ret ?_ | refine T_ret ?_ | refine S_pure tabOk rfl ?_ | refine S_store tabOk 0 rfl rfl rfl rfl rfl rfl ?_)
    exact ret2 rfl (ResIs.cellO tabOk 0 rfl rfl rfl rfl) rfl (fun w' hw => ⟨rfl, hw.below (by repeat (first | exact new_nil | refine new_cons (by first | assumption | omega) ?_))⟩)
  | no k h =>
    refine T_cond_dec rfl (fun g => absurd g h.1) (fun _ => ?_)
    repeat (first | refine T_seq ?_ | refine T_region ?_ | refine S_nil ?_ | refine S_pure tabOk rfl ?_)
    refine T_cond_dec rfl (fun g => absurd g h.2.1) (fun _ => ?_)
    repeat (first | refine T_seq ?_ | refine T_region ?_ | refine S_nil ?_ | refine S_pure tabOk rfl ?_)
    refine T_cond_dec rfl (fun g => absurd g h.2.2.1) (fun _ => ?_)
    repeat (first | refine T_seq ?_ | refine T_region ?_ | refine S_nil ?_ | refine S_pure tabOk rfl ?_)
    refine T_cond_dec rfl (fun g => absurd g h.2.2.2) (fun _ => ?_)
    repeat (first | refine T_seq ?_ | refine T_region ?_ | refine S_nil ?_ | refine pthen_normal ?_ | refine inb_normal ?_ | refine T_skip ?_ | refine T_ret ?_ | refine S_pure tabOk rfl ?_ | refine S_store tabOk 0 rfl rfl rfl rfl rfl rfl ?_ | refine S_q (Q_build tabOk rfl rfl rfl rfl rfl rfl rfl) ?_)
    exact ret2 rfl (ResIs.cellO tabOk 0 rfl rfl rfl rfl) rfl (fun w' hw => ⟨rfl, hw.below (by repeat (first | exact new_nil | refine new_cons (by first | assumption | omega) ?_))⟩)
/-- Which frames may be. -/
def kindR (h : Hd) (rs : List Run) (its : List (Int × (Int × List Int))) : Prop := (h.kd = 1 ∧ begR h rs.length its.length) ∨ ((h.kd = 2 ∨ h.kd = 4) ∧ graR h rs its.length) ∨ (h.kd = 3 ∧ batR h rs.length its)
def frR (h : Hd) (rs : List Run) (its : List (Int × (Int × List Int))) : Prop := 0 ≤ h.ag ∧ h.ag < 16 ∧ 1 ≤ h.ep ∧ kindR h rs its
/-- A frame's slices read so. -/
structure FsR (w : World) (A : Nat → Prop) (s : Fs) (rs : List Run) (its : List (Int × (Int × List Int))) : Prop where
  r : SlR Rrun w A s.ra s.rn s.rc rs
  i : SlR Ritem w A s.ia s.im s.ic its
open Classical in
set_option maxHeartbeats 2000000 in
theorem right_ok (h : Hd) (s : Fs) (hf : h.Fit) (A : Nat → Prop) (rs : List Run) (its : List (Int × (Int × List Int))) (w : World) (hx : FsR w A s rs its) (hn : s.rn ≤ 1000000) : Calls Try.prog 16 #[frV h s] w fun e w' => e = .returned (.bool (decide (frR h rs its))) ∧ Below w.heap.size w w' := by
  obtain ⟨l, q, hfo⟩ := formI_ex h.kd
  have hl := hx.r.len
  have hil := hx.i.len
  refine enter1 Try.func16 rfl rfl (Hp.refl w) ?_
  repeat (first | refine T_seq ?_ | refine T_region ?_)
  refine S_new tabOk rfl (fun b hb => ?_)
  repeat (first | refine T_seq ?_ | refine T_region ?_ | refine S_nil ?_ | refine S_pure tabOk rfl ?_ | refine S_load tabOk 0 rfl rfl rfl ?_)
  refine S_callq rfl Try.call46 (fun w1 h1 => forms_ok hfo w1) ?_
  repeat (first | refine S_pure tabOk rfl ?_)
  cases q with
  | false =>
    obtain ⟨rfl, hk⟩ : l = noL ∧ ¬ kindR h rs its := by
      generalize hkd : h.kd = kd at hfo
      cases hfo with
      | no k hk =>
        refine ⟨rfl, ?_⟩
        unfold kindR
        omega
    refine S_new tabOk rfl (fun b3 hb3 => ?_)
    repeat (first | refine T_seq ?_ | refine T_region ?_ | refine S_nil ?_ | refine T_ret ?_ | refine S_pure tabOk rfl ?_ | refine S_pass rfl rfl rfl ?_ | refine S_store tabOk 0 rfl rfl rfl rfl rfl rfl ?_)
    exact ret1 rfl rfl (fun w' hw => ⟨retb (decide_eq_false (fun g => hk g.2.2.2)).symm, hw.below (by repeat (first | exact new_nil | refine new_cons (by first | assumption | omega) ?_))⟩)
  | true =>
    have hfn : ∃ (u1 : ByteArray) (g u2 u3 : Nat), l = [.string u1, fnV g, fnV u2, fnV u3] ∧ (∀ args w, (callFunc g args).run Try.prog w = .ok (.enter g args) w) ∧ ∀ w1, Below w.heap.size w w1 → Calls Try.prog g #[frV h s] w1 fun e w' => e = .returned (.bool (decide (kindR h rs its))) ∧ Below w1.heap.size w1 w' := by
      generalize hkd : h.kd = kd at hfo
      cases hfo with
      | hello => exact ⟨_, _, _, _, rfl, Try.call87, fun w1 hb => (begins_ok h s w1).mono fun e w' ⟨e1, e2⟩ => ⟨by rw [e1]; exact retb (dec_eq (Iff.symm (show kindR h rs its ↔ begR h s.rn s.im from by unfold kindR; rw [hkd, hl, hil]; simp))), e2⟩⟩
      | welcome => exact ⟨_, _, _, _, rfl, Try.call84, fun w1 hb => (grants_ok h s hf A rs w1 (hx.r.ext hb) hn).mono fun e w' ⟨e1, e2⟩ => ⟨by rw [e1]; exact retb (dec_eq (Iff.symm (show kindR h rs its ↔ graR h rs s.im from by unfold kindR; rw [hkd, hil]; simp))), e2⟩⟩
      | batch => exact ⟨_, _, _, _, rfl, Try.call90, fun w1 hb => (carries_ok h s hf A its w1 (hx.i.ext hb)).mono fun e w' ⟨e1, e2⟩ => ⟨by rw [e1]; exact retb (dec_eq (Iff.symm (show kindR h rs its ↔ batR h s.rn its from by unfold kindR; rw [hkd, hl]; simp))), e2⟩⟩
      | ack => exact ⟨_, _, _, _, rfl, Try.call84, fun w1 hb => (grants_ok h s hf A rs w1 (hx.r.ext hb) hn).mono fun e w' ⟨e1, e2⟩ => ⟨by rw [e1]; exact retb (dec_eq (Iff.symm (show kindR h rs its ↔ graR h rs s.im from by unfold kindR; rw [hkd, hil]; simp))), e2⟩⟩
    obtain ⟨u1, g, u2, u3, rfl, hg, hcall⟩ := hfn
    refine S_new tabOk rfl (fun b3 hb3 => ?_)
    repeat (first | refine T_seq ?_ | refine T_region ?_ | refine S_nil ?_ | refine S_pure tabOk rfl ?_ | refine S_load tabOk 1 rfl rfl rfl ?_ | refine S_store tabOk 0 rfl rfl rfl rfl rfl rfl ?_)
    refine S_split rfl rfl (fun h1 => ?_) (fun h1 => ?_)
    rotate_left
    · repeat (first | refine S_nil ?_ | refine T_ret ?_ | refine S_pure tabOk rfl ?_ | refine S_pass rfl rfl rfl ?_)
      exact ret1 rfl rfl (fun w' hw => ⟨retb (decide_eq_false (fun g => by obtain ⟨g1, g2, g3, _⟩ := g; omega)).symm, hw.below (by repeat (first | exact new_nil | refine new_cons (by first | assumption | omega) ?_))⟩)
    repeat (first | refine S_pure tabOk rfl ?_ | refine S_load tabOk 1 rfl rfl rfl ?_)
    refine S_split rfl rfl (fun h2 => ?_) (fun h2 => ?_)
    rotate_left
    · repeat (first | refine S_nil ?_ | refine T_ret ?_ | refine S_pure tabOk rfl ?_ | refine S_pass rfl rfl rfl ?_)
      exact ret1 rfl rfl (fun w' hw => ⟨retb (decide_eq_false (fun g => by obtain ⟨g1, g2, g3, _⟩ := g; omega)).symm, hw.below (by repeat (first | exact new_nil | refine new_cons (by first | assumption | omega) ?_))⟩)
    repeat (first | refine S_pure tabOk rfl ?_ | refine S_load tabOk 1 rfl rfl rfl ?_)
    refine S_split rfl rfl (fun h3 => ?_) (fun h3 => ?_)
    rotate_left
    · repeat (first | refine S_nil ?_ | refine T_ret ?_ | refine S_pure tabOk rfl ?_ | refine S_pass rfl rfl rfl ?_)
      exact ret1 rfl rfl (fun w' hw => ⟨retb (decide_eq_false (fun g => by obtain ⟨g1, g2, g3, _⟩ := g; omega)).symm, hw.below (by repeat (first | exact new_nil | refine new_cons (by first | assumption | omega) ?_))⟩)
    repeat (first | refine S_pure tabOk rfl ?_ | refine S_load tabOk 0 rfl rfl rfl ?_ | refine S_load tabOk 1 rfl rfl rfl ?_)
    refine S_callvq rfl rfl rfl hg (fun w1 h1 => by rw [Array.append_empty]; exact hcall w1 (h1.below (by repeat (first | exact new_nil | refine new_cons (by first | assumption | omega) ?_)))) ?_
    repeat (first | refine S_nil ?_ | refine T_ret ?_ | refine S_pure tabOk rfl ?_)
    exact ret1 rfl rfl (fun w' hw => ⟨retb (decide_eq_decide.2 ⟨fun g => ⟨h1, h2, h3, g⟩, fun g => g.2.2.2⟩), hw.below (by repeat (first | exact new_nil | refine new_cons (by first | assumption | omega) ?_))⟩)

abbrev bP (zs : List Int) : Vp := (Rslice (Rint .u8)).vp zs
def encU (x : Int) : List Int := enc x.toNat
theorem fits8s_app {a b : List Int} (ha : ∀ z ∈ a, Fits .u8 z) (hb : ∀ z ∈ b, Fits .u8 z) : ∀ z ∈ a ++ b, Fits .u8 z := fun z hz => (List.mem_append.1 hz).elim (ha z) (hb z)
theorem bP_row {w w0 : World} {A : Nat → Prop} {e : TypeId} {a : Option Addr} {c : Nat} {L : List Int} (h : w.ownsRow w0.heap.size e 1 (.slice a L.length c) L.length (L.map (.int .u8))) (hf : ∀ z ∈ L, Fits .u8 z) (hA : ∀ k, w0.heap.size ≤ k → A k) : (bP L).at_ w A (.slice a L.length c) := by
  rw [← map_one] at h
  exact SlR.val (.of_row (flat_int .u8) h rfl hf fun k hk _ => hA k hk)
theorem bP_ints {w : World} {A : Nat → Prop} {a : Option Addr} {n c : Nat} {L : List Int} (h : (bP L).at_ w A (.slice a n c)) : Ints .u8 w a n c L := (SlR.of_val h).ints
theorem num_p {v : Value} {zs : List Int} {A : Nat → Prop} (x : Int) (hx : Fits .u64 x) (w : World) (h : (bP zs).at_ w A v) (hn : zs.length ≤ 1073741824) : Calls Try.prog 55 #[v, .int .u64 x] w fun e w' => ∃ r, e = .returned r ∧ Below w.heap.size w w' ∧ (bP (zs ++ encU x)).at_ w' (fun k => w.heap.size ≤ k) r := by
  obtain ⟨a, n, c, rfl, hs⟩ := SlR.form h
  have h1 := fits_u64 hx
  have e : x = ((x.toNat : Nat) : Int) := by omega
  have hk := num_ok a n c zs x.toNat w hs.ints hn (by omega)
  rw [← e] at hk
  exact hk.mono fun e w' ⟨a', c', e1, e2, e3⟩ => ⟨_, e1, e2, bP_row e3 (fits8s_app hs.ints.fits (enc_fits _)) fun k hk => hk⟩
def encN (l : List Int) : List Int := (l.map encU).flatten
theorem encN_take {l : List Int} {i : Nat} (h : i < l.length) : encN (l.take (i + 1)) = encN (l.take i) ++ encU l[i] := by
  unfold encN
  rw [List.take_succ_eq_append_getElem h, List.map_append, List.flatten_append]
  simp
theorem encU_len {x : Int} (h : Fits .u64 x) : (encU x).length ≤ 10 := enc_len10 (by have := fits_u64 h; omega)
theorem encN_len {l : List Int} (h : ∀ x ∈ l, Fits .u64 x) : (encN l).length ≤ 10 * l.length := by
  induction l with
  | nil => exact Nat.le_refl _
  | cons x l ih =>
    have h1 := ih fun y hy => h y (List.mem_cons_of_mem _ hy)
    have h2 := encU_len (h x List.mem_cons_self)
    unfold encN at h1 ⊢
    rw [List.map_cons, List.flatten_cons, List.length_append, List.length_cons]
    omega
def runN (rs : List Run) : List Int := (rs.map fun r => [r.1, r.2]).flatten
theorem runN_take {l : List Run} {i : Nat} (h : i < l.length) : encN (runN (l.take (i + 1))) = encN (runN (l.take i)) ++ encU l[i].1 ++ encU l[i].2 := by
  unfold runN encN
  rw [List.take_succ_eq_append_getElem h, List.map_append, List.flatten_append, List.map_append, List.flatten_append, List.append_assoc]
  congr 1
  simp
structure PpI where
  i : Nat
  v : Value
  F : Nat → Prop
/-- What the kinds' parts are in bytes. -/
def graN (h : Hd) (n : Nat) : List Int := [h.inc, h.cu, h.li, (n : Int)]
set_option maxHeartbeats 2000000 in
theorem putGrant_ok (H : Hd) (s : Fs) (hf : H.Fit) {A B : Nat → Prop} {rs : List Run} {v : Value} {zs : List Int} (w : World) (hr : SlR Rrun w B s.ra s.rn s.rc rs) (hx : (bP zs).at_ w A v) (hn : zs.length ≤ 1000000) (hrn : s.rn ≤ 1000) : Calls Try.prog 85 #[frV H s, v] w fun e w' => ∃ r, e = .returned r ∧ Below w.heap.size w w' ∧ (bP (zs ++ encN (graN H rs.length) ++ encN (runN rs))).at_ w' (fun k => w.heap.size ≤ k) r := by
  have hl := hr.len
  have hfr := (hr.flat flat_run).2
  have hgf : ∀ x ∈ graN H rs.length, Fits .u64 x := fun x hx => by
    simp only [graN, List.mem_cons, List.not_mem_nil, or_false] at hx
    rcases hx with rfl | rfl | rfl | rfl
    · exact hf.inc
    · exact hf.cu
    · exact hf.li
    · exact mk_u64 (by omega)
  have hgl : (graN H rs.length).length = 4 := rfl
  refine enter2 Try.func85 rfl rfl (Hp.refl w) ?_
  repeat (first | refine T_seq ?_ | refine T_region ?_)
  refine S_new tabOk rfl (fun b hb => ?_)
  repeat (first | refine T_seq ?_ | refine T_region ?_ | refine S_nil ?_ | refine S_u64 tabOk rfl (by omega) ?_ | refine S_pure tabOk rfl ?_ | refine S_load tabOk 0 rfl rfl rfl ?_)
  refine S_bslice tabOk rfl rfl rfl rfl rfl rfl rfl rfl rfl rfl rfl rfl (fun b19 hb19 => ?_)
  repeat (first | refine T_block ?_ | refine S_nil ?_ | refine S_pure tabOk rfl ?_)
  refine T_addV (bP zs) A (v := v) (fun w' hw => Vp.old hx hw (by repeat (first | exact new_nil | refine new_cons (by first | assumption | omega) ?_))) (fun F0 hF0 => ?_)
  refine T_loop (ι := PpI) (fun i => [(1, i.v), (2, .pointer (some ⟨b, 0, none⟩)), (19, .slice (some ⟨b19, 0, none⟩) 4 4), (20, .int .i64 (4 : Nat)), (21, .int .i64 (i.i : Int))])
    (fun i => [.blk b19 (.cells ⟨(graN H rs.length).map (.int .u64)⟩ 22 (0, 0)) true, .blk b (.cells ⟨frC .u8 H s⟩ 26 (0, 0)) true, .rep (fun w => (bP (zs ++ encN ((graN H rs.length).take i.i))).at_ w i.F i.v) i.F false])
    (fun i => i.i ≤ 4 ∧ (0 < i.i → ∀ k, i.F k → w.heap.size ≤ k)) (fun i => 4 - i.i) ⟨0, v, F0⟩ ⟨Nat.zero_le _, fun h => absurd h (Nat.lt_irrefl 0)⟩ (by repeat (first | exact Sub.nil | refine Sub.cons rfl ?_)) (fun w' hw => by
      rw [show (graN H rs.length).take 0 = [] from rfl, show encN [] = [] from rfl, List.append_nil]
      rw [hl]
      exact hw.toEnd rfl) ?_
  rintro ⟨i, vi, Fi⟩ ⟨hi, hnew⟩
  dsimp only at hi hnew ⊢
  have htl : (encN ((graN H rs.length).take i)).length ≤ 40 := by
    have := encN_len (l := (graN H rs.length).take i) fun x hx => hgf x (List.mem_of_mem_take hx)
    rw [List.length_take] at this
    omega
  repeat (first | refine T_seq ?_ | refine T_region ?_ | refine S_nil ?_ | refine S_pure tabOk rfl ?_)
  refine T_cond_dec rfl (fun h => ?_) (fun h => ?_)
  · have hi' : i < (graN H rs.length).length := by omega
    repeat (first | refine T_seq ?_ | refine T_region ?_ | refine T_block ?_ | refine pthen_normal ?_ | refine T_skip ?_)
    refine S_q (Q_idx1 tabOk rfl rfl rfl rfl rfl rfl rfl (j := i) rfl (by omega)) ?_
    refine S_load1 tabOk (v := .int .u64 (graN H rs.length)[i]) rfl rfl (fun w' hw => by
      rw [Nat.zero_add, cell_of_row w' b19 _ _ _ (0, 0) (hw.own _ (getE_mem (i := 0) rfl))]
      simp [List.getElem?_eq_getElem hi']) ?_
    repeat (first | refine S_nil ?_ | refine S_pure tabOk rfl ?_ | refine T_region_any ?_)
    refine S_callZ (bP (zs ++ encN ((graN H rs.length).take i) ++ encU (graN H rs.length)[i])) (fun _ => False) rfl Try.call55 (fun w1 h1 => (num_p _ (hgf _ (List.getElem_mem hi')) w1 (Vp.fact0 (p := bP (zs ++ encN ((graN H rs.length).take i))) h1 2 rfl) (by rw [List.length_append]; omega)).mono fun e w' ⟨r, e1, e2, e3⟩ => ⟨r, e1, e2, nbb' h1 e3⟩) (fun v0 F1 w1 hF hv => ⟨_, rfl, ?_⟩)
    repeat (first | refine T_region ?_ | refine S_nil ?_ | refine pthen_normal ?_ | refine inb_normal ?_ | refine S_i64 tabOk rfl (by omega) ?_ | refine S_pure tabOk rfl ?_)
    refine ⟨⟨i + 1, v0, F1⟩, ⟨by dsimp only; omega, fun _ k hk => (hF k hk).elim False.elim id⟩, by repeat (first | exact Sub.nil | refine Sub.cons rfl ?_), fun w' hw => ?_, by dsimp only; omega⟩
    dsimp only
    rw [encN_take hi', ← List.append_assoc]
    exact hw.less (by repeat (first | exact Less.nil | refine Less.keep ?_ | refine Less.dropR ?_))
  · have e : i = 4 := by omega
    subst e
    repeat (first | refine T_seq ?_ | refine T_region ?_ | refine T_block ?_ | refine S_nil ?_ | refine pthen_normal ?_ | refine inb_hit ?_ | refine pthen_exit ?_ | refine T_exit ?_ | refine S_pure tabOk rfl ?_ | refine S_load tabOk 1 rfl rfl rfl ?_)
    refine T_loop (ι := PpI) (fun i => [(1, i.v), (2, .pointer (some ⟨b, 0, none⟩)), (30, .slice s.ra s.rn s.rc), (31, .int .i64 (s.rn : Int)), (32, .int .i64 (i.i : Int))])
      (fun i => [.blk b (.cells ⟨frC .u8 H s⟩ 26 (0, 0)) true, .rep (fun w => (bP (zs ++ encN (graN H rs.length) ++ encN (runN (rs.take i.i)))).at_ w i.F i.v) i.F false])
      (fun i => i.i ≤ s.rn ∧ (∀ k, i.F k → w.heap.size ≤ k)) (fun i => s.rn - i.i) ⟨0, vi, Fi⟩ ⟨Nat.zero_le _, hnew (by decide)⟩ (by repeat (first | exact Sub.nil | refine Sub.cons rfl ?_)) (fun w' hw => by
        rw [show rs.take 0 = [] from rfl, show encN (runN []) = [] from rfl, List.append_nil]
        exact hw.less (by repeat (first | exact Less.nil | refine Less.keep ?_ | refine Less.dropB (by first | assumption | omega) ?_))) ?_
    rintro ⟨i, vi, Fi⟩ ⟨hi, hnew⟩
    dsimp only at hi hnew ⊢
    have hgn := encN_len hgf
    have htl : (encN (runN (rs.take i))).length ≤ 20 * i := by
      have h1 := encN_len (l := runN (rs.take i)) fun x hx => by
        obtain ⟨c, hc, hxc⟩ := List.mem_flatten.1 hx
        obtain ⟨r, hr', rfl⟩ := List.mem_map.1 hc
        have h2 := hfr r (List.mem_of_mem_take hr')
        simp only [List.mem_cons, List.not_mem_nil, or_false] at hxc
        rcases hxc with rfl | rfl
        · exact h2.1
        · exact h2.2
      have h3 : (runN (rs.take i)).length ≤ 2 * i := by
        unfold runN
        have : ∀ m : List Run, ((m.map fun r => [r.1, r.2]).flatten).length = 2 * m.length := fun m => by
          induction m with
          | nil => rfl
          | cons r m ih => rw [List.map_cons, List.flatten_cons, List.length_append, ih, List.length_cons, List.length_cons, List.length_cons, List.length_nil]; omega
        rw [this, List.length_take]
        omega
      omega
    have hzl : (zs ++ encN (graN H rs.length) ++ encN (runN (rs.take i))).length ≤ 1030000 := by
      rw [List.length_append, List.length_append]
      omega
    repeat (first | refine T_seq ?_ | refine T_region ?_ | refine S_nil ?_ | refine S_pure tabOk rfl ?_)
    refine T_cond_dec rfl (fun h => ?_) (fun h => ?_)
    · have hi' : i < rs.length := by omega
      have hri := hfr _ (List.getElem_mem hi')
      obtain ⟨ab, off, _, hra, hlt, _⟩ := hr.get_ hi'
      have hcell := run_cells (b := ab) (off := off) (by rw [← hra]; exact hr) hi'
      rw [hra]
      repeat (first | refine T_seq ?_ | refine T_region ?_ | refine T_block ?_ | refine pthen_normal ?_ | refine T_skip ?_)
      refine S_q (Q_idx (sz := 2) tabOk rfl rfl rfl rfl rfl rfl rfl rfl (j := i) (by omega)) ?_
      refine S_loadN tabOk (vs := encR rs[i]) rfl rfl rfl (fun w' hw j u hu => by
        have h3 := hcell j u hu
        rw [Addr.add_lit] at h3 ⊢
        exact ((hw.below (by repeat (first | exact new_nil | refine new_ro ?_ | refine new_cons (by first | assumption | omega) ?_))).cell (p := ⟨ab, off + i * 2 + j, none⟩) hlt).trans h3) ?_
      refine S_new tabOk rfl (fun b8 hb8 => ?_)
      repeat (first | refine S_nil ?_ | refine S_store tabOk 0 rfl rfl rfl rfl rfl rfl ?_)
      refine T_asThen ?_
      refine T_drawT (by kernel_rfl) 7 rfl (by kernel_rfl) ?_
      repeat (first | refine D_pure tabOk rfl ?_ | refine D_load tabOk 0 rfl rfl rfl ?_)
      refine D_callR (bP (zs ++ encN (graN H rs.length) ++ encN (runN (rs.take i)) ++ encU rs[i].1)) (fun _ => False) rfl Try.call55 (fun w' vs hw' h7 => by
        obtain ⟨u1, _, rfl, rfl, u2, _, rfl, rfl, rfl⟩ := h7
        exact (num_p _ hri.1 w' (Vp.fact0 (p := bP (zs ++ encN (graN H rs.length) ++ encN (runN (rs.take i)))) hw' 2 rfl) (by omega)).mono fun e w2 ⟨r, e1, e2, e3⟩ => ⟨r, e1, e2, nbb' hw' e3⟩) ?_
      repeat (first | refine D_pure tabOk rfl ?_ | refine D_load tabOk 0 rfl rfl rfl ?_)
      refine D_callR (bP (zs ++ encN (graN H rs.length) ++ encN (runN (rs.take i)) ++ encU rs[i].1 ++ encU rs[i].2)) (fun _ => False) rfl Try.call55 (fun w' vs hw' h7 => by
        obtain ⟨u1, _, rfl, g1, u2, _, rfl, rfl, rfl⟩ := h7
        exact (num_p _ hri.2 w' g1 (by have := encU_len hri.1; rw [List.length_append]; omega)).mono fun e w2 ⟨r, e1, e2, e3⟩ => ⟨r, e1, e2, nbb' hw' e3⟩) ?_
      skip
      refine D_outW 42 rfl (fun w' v hw' h1 => h1) (fun v2 F2 w2 hF2 hv2 => ⟨_, rfl, ?_⟩)
      refine D_allP rfl ?_
      repeat (first | refine T_region ?_ | refine S_nil ?_ | refine pthen_normal ?_ | refine inb_normal ?_ | refine S_i64 tabOk rfl (by omega) ?_ | refine S_pure tabOk rfl ?_)
      refine ⟨⟨i + 1, v2, F2⟩, ⟨by dsimp only; omega, fun k hk => (hF2 k hk).elim False.elim id⟩, by repeat (first | exact Sub.nil | refine Sub.cons rfl ?_), fun w' hw => ?_, by dsimp only; omega⟩
      dsimp only
      rw [runN_take hi', ← List.append_assoc, ← List.append_assoc]
      exact hw.less (by repeat (first | exact Less.nil | refine Less.keep ?_ | refine Less.dropR ?_ | refine Less.dropB (by first | assumption | omega) ?_))
    · have e : i = s.rn := by omega
      subst e
      rw [List.take_of_length_le (by omega)]
      repeat (first | refine T_seq ?_ | refine T_region ?_ | refine S_nil ?_ | refine pthen_normal ?_ | refine inb_hit ?_ | refine pthen_exit ?_ | refine T_ret ?_ | refine T_exit ?_ | refine S_pure tabOk rfl ?_)
      exact ret1 rfl rfl (fun w' hw => ⟨_, rfl, hw.below (by repeat (first | exact new_nil | refine new_ro ?_ | refine new_cons (by first | assumption | omega) ?_)), Vp.mono _ (Vp.fact0 (p := bP (zs ++ encN (graN H rs.length) ++ encN (runN rs))) hw 1 rfl) hnew⟩)

abbrev ItemI := Int × (Int × List Int)


theorem ints_ext {k : IntKind} {w w' : World} {a : Option Addr} {n c : Nat} {zs : List Int} (h : Ints k w a n c zs) (hb : Below w.heap.size w w') : Ints k w' a n c zs := ⟨h.len, h.cap, h.max, h.nil, h.fits, h.sl.ext hb⟩

def prevN (b : Int) (l : List ItemI) : Nat → Int
  | 0 => b
  | k + 1 => (l[k]?.map (·.1)).getD b





/-- A reader's state: the error, the place. -/
abbrev St := Int × Nat
def pN (all : List Int) (s : St) : St × Int := (((rd s.1 (all.drop s.2)).1, s.2 + (rd s.1 (all.drop s.2)).2.2), ((rd s.1 (all.drop s.2)).2.1 : Int))
def pF (all : List Int) (most : Int) (s : St) : St × Int := if most < (pN all s).2 then ((if (pN all s).1.1 = 0 then 2 else (pN all s).1.1, (pN all s).1.2), 0) else pN all s
def pB (all : List Int) (s : St) : St × Int := (((by1 s.1 (all.drop s.2)).1, s.2 + (by1 s.1 (all.drop s.2)).2.2), (by1 s.1 (all.drop s.2)).2.1)
def pRun (all : List Int) (s : St) : St × Run := ((pN all (pN all s).1).1, ((pN all s).2, (pN all (pN all s).1).2))
def pR (all : List Int) (s : St) : Nat → St × List Run
  | 0 => (s, [])
  | i + 1 => ((pRun all (pR all s i).1).1, (pR all s i).2 ++ [(pRun all (pR all s i).1).2])
def pIt (all : List Int) (s : St) : St × ItemI := (((getI s.1 (all.drop s.2)).1, s.2 + (getI s.1 (all.drop s.2)).2.2), (((getI s.1 (all.drop s.2)).2.1.1 : Int), (getI s.1 (all.drop s.2)).2.1.2))
def pI (all : List Int) (s : St) : Nat → St × List ItemI
  | 0 => (s, [])
  | i + 1 => ((pIt all (pI all s i).1).1, (pI all s i).2 ++ [(pIt all (pI all s i).1).2])
theorem pR_len (all : List Int) (s : St) (i : Nat) : (pR all s i).2.length = i := by
  induction i with
  | zero => rfl
  | succ i ih => show ((pR all s i).2 ++ _).length = _; rw [List.length_append, ih]; rfl
theorem pI_len (all : List Int) (s : St) (i : Nat) : (pI all s i).2.length = i := by
  induction i with
  | zero => rfl
  | succ i ih => show ((pI all s i).2 ++ _).length = _; rw [List.length_append, ih]; rfl
section
variable {all : List Int}
theorem pN_fit (hf : ∀ z ∈ all, Fits .u8 z) (s : St) : Fits .u64 (pN all s).2 := by
  have := (rd_bd (e := s.1) (zs := all.drop s.2) fun z hz => hf z (List.mem_of_mem_drop hz)).1
  exact mk_u64 (by unfold pN; dsimp only; omega)
theorem pF_bd (hf : ∀ z ∈ all, Fits .u8 z) {most : Int} (hm : 0 ≤ most) (s : St) : 0 ≤ (pF all most s).2 ∧ (pF all most s).2 ≤ most := by
  have h1 := fits_u64 (pN_fit hf s)
  unfold pF
  split
  · exact ⟨Int.le_refl (0 : Int), hm⟩
  · exact ⟨h1.1, by omega⟩
end
/-- What In is of: its block. -/
def FB (b : Nat) : Nat → Prop := fun k => k = b
def inP (b : Nat) (A : Option Addr) (N C : Nat) (s : St) (w : World) : Prop := ∃ a n c, w.heap[b]? = some (inO a n c s.1) ∧ Suf A N C s.2 a n c
abbrev inE (b : Nat) (A : Option Addr) (N C : Nat) (s : St) : HE := .rep (inP b A N C s) (FB b) true
theorem inP.loc {b : Nat} {A : Option Addr} {N C : Nat} {s : St} : Loc (inP b A N C s) (FB b) := fun w w' h ⟨a, n, c, h1, h2⟩ => ⟨a, n, c, (h b rfl).trans h1, h2⟩
theorem inP.holds {b : Nat} {A : Option Addr} {N C : Nat} {s : St} {w : World} (h : inP b A N C s w) : (inE b A N C s).holds w := by
  obtain ⟨a, n, c, h1, h2⟩ := h
  exact ⟨⟨a, n, c, h1, h2⟩, inP.loc, fun k hk => by rw [show k = b from hk]; exact heap_lt h1⟩
/-- A block that was turned, told by the object. -/
theorem Hp.toIn {w w' : World} {b : Nat} {a : Option Addr} {n c : Nat} {A : Option Addr} {N C : Nat} {s : St} (h : Hp w w' [.blk b (inO a n c s.1) true]) (hs : Suf A N C s.2 a n c) : Hp w w' [inE b A N C s] := by
  have h1 := h.own _ List.mem_cons_self
  refine ⟨h.os, h.tape, h.output, h.size, fun k hk he => h.old k hk fun e hm _ hh => ?_, fun e hm => ?_, List.pairwise_singleton _ _⟩
  · rw [List.mem_singleton] at hm
    subst hm
    exact he _ List.mem_cons_self rfl (by rw [← Option.some.inj hh]; rfl)
  · rw [List.mem_singleton] at hm
    subst hm
    exact inP.holds ⟨a, n, c, h1, hs⟩
section
variable {b : Nat} {A : Option Addr} {N C : Nat} {all : List Int} {s : St} {w : World}
theorem num_t (h : inP b A N C s w) (hA : Ints .u8 w A N C all) (hap : ∀ b' off, A = some ⟨b', off, none⟩ → b' ≠ b) (hN : N ≤ 1073741824) : Calls Try.prog 63 #[.pointer (some ⟨b, 0, none⟩)] w fun e w' => e = .returned (.int .u64 (pN all s).2) ∧ Hp w w' [inE b A N C (pN all s).1] := by
  obtain ⟨a, n, c, h1, h2⟩ := h
  exact (innum_ok b a n c A N C s.2 all s.1 w h1 h2 hA hap hN).mono fun e w' ⟨a', n', c', e1, e2, e3⟩ => ⟨e1, Hp.toIn (s := (pN all s).1) e3 e2⟩
theorem byte_t (h : inP b A N C s w) (hA : Ints .u8 w A N C all) (hap : ∀ b' off, A = some ⟨b', off, none⟩ → b' ≠ b) (hN : N ≤ 1073741824) : Calls Try.prog 61 #[.pointer (some ⟨b, 0, none⟩)] w fun e w' => e = .returned (.int .u8 (pB all s).2) ∧ Hp w w' [inE b A N C (pB all s).1] := by
  obtain ⟨a, n, c, h1, h2⟩ := h
  exact (inbyte_ok b a n c A N C s.2 all s.1 w h1 h2 hA hap hN).mono fun e w' ⟨a', n', c', e1, e2, e3⟩ => ⟨e1, Hp.toIn (s := (pB all s).1) e3 e2⟩
theorem fail_t (x : Int) (h : inP b A N C s w) : Calls Try.prog 98 #[.pointer (some ⟨b, 0, none⟩), .int .i64 x] w fun e w' => e = .returned (.tuple #[]) ∧ Hp w w' [inE b A N C (if s.1 = 0 then x else s.1, s.2)] := by
  obtain ⟨a, n, c, h1, h2⟩ := h
  exact (fail_ok b a n c s.1 x w h1).mono fun e w' ⟨e1, e2⟩ => ⟨e1, Hp.toIn (s := (if s.1 = 0 then x else s.1, s.2)) e2 h2⟩
theorem end_t (h : inP b A N C s w) (hA : Ints .u8 w A N C all) : Calls Try.prog 64 #[.pointer (some ⟨b, 0, none⟩)] w fun e w' => e = .returned (.int .i64 (enE s.1 (all.length - s.2))) ∧ Hp w w' [inE b A N C (enE s.1 (all.length - s.2), s.2)] := by
  obtain ⟨a, n, c, h1, h2⟩ := h
  have hn : n = all.length - s.2 := by
    have h3 := (h2.ints hA).len
    rw [List.length_drop] at h3
    omega
  rw [← hn]
  exact (inend_ok b a n c s.1 w h1).mono fun e w' ⟨e1, e2⟩ => ⟨e1, Hp.toIn (s := (enE s.1 n, s.2)) e2 h2⟩
end
theorem Hp.graftT {w0 w w' : World} {ol ol' : OL} (i : Nat) {Φ Ψ : World → Prop} {F F' : Nat → Prop} (hh : Hp w0 w ol) (hi : getE ol i = some (.rep Φ F true)) (h2 : Hp w w' [.rep Ψ F' true]) (hF : ∀ k, F k → F' k) (hF' : ∀ k, F' k → F k ∨ w.heap.size ≤ k)
    (hput : putE ol i (.rep Ψ F' true) = some ol') : Hp w0 w' ol' := by
  obtain ⟨pre, post, e1, e2⟩ := putE_eq hi hput
  rw [e1] at hh
  rw [e2]
  refine hh.turn (x' := .rep Ψ F' true) rfl h2.os h2.tape h2.output h2.size (fun j hj hne => h2.old j hj fun e he _ hk => ?_) (h2.own _ List.mem_cons_self) hF' (fun k hk => .inr (hF k hk))
  rw [List.mem_singleton] at he
  subst he
  rcases hF' j hk with h | h
  · exact hne h
  · omega
section
variable {P : Program} {n : Nat} {w0 : World} {all : Array Oper} {os : List Oper} {o : Oper} {l : FL} {ol : OL} {K : FL → OL → Prop} {Q : Post} {d : Nat}
/-- a call that turns In -/
theorem S_tin (i : Nat) {b : Nat} {A : Option Addr} {N C : Nat} {s s' : St} {f : FuncId} {vs : List Value} {v : Value} {ol' : OL} (hs : callAt? n all (look l) o = some (d, f, vs)) (hcall : ∀ args w, (callFunc f args).run P w = .ok (.enter f args) w) (hi : getE ol i = some (inE b A N C s))
    (hc : ∀ w, Hp w0 w ol → inP b A N C s w → Calls P f vs.toArray w (fun e w' => e = .returned v ∧ Hp w w' [inE b A N C s'])) (hp : putE ol i (inE b A N C s') = some ol') (k : S P n w0 all os ((d, v) :: l) ol' K Q) : S P n w0 all (o :: os) l ol K Q :=
  S_call hs hcall fun w hh => (hc w hh (hh.own _ (getE_mem hi)).1).mono fun e w' ⟨he, h2⟩ => ⟨v, ol', he, hh.graftT i hi h2 (fun k hk => hk) (fun k hk => .inl hk) hp, k⟩
end
/-- Two things of our own that are turned, and a slice that is read. -/
theorem Hp.start1V {w : World} {p : Vp} {A : Nat → Prop} {v : Value} {L : OL} (hL : ∀ e ∈ L, e.ex = true ∧ e.holds w ∧ ∀ k, e.has k → ¬ A k) (hd : L.Pairwise Dis) (hv : p.at_ w A v) : ∃ F : Nat → Prop, (∀ k, F k → A k) ∧ Hp w w (L ++ [.rep (fun w => p.at_ w F v) F false]) := by
  obtain ⟨F, hF0⟩ : ∃ F : Nat → Prop, F = fun k => A k ∧ k < w.heap.size := ⟨_, rfl⟩
  have hF : p.at_ w F v := p.keep hv fun k hk hlt => ⟨rfl, by rw [hF0]; exact ⟨hk, hlt⟩⟩
  refine ⟨F, fun k hk => by rw [hF0] at hk; exact hk.1, rfl, rfl, rfl, Nat.le_refl _, fun _ _ _ => rfl, fun e he => ?_, List.pairwise_append.2 ⟨hd, List.pairwise_singleton _ _, fun e he x hx _ k hk hk' => ?_⟩⟩
  · rcases List.mem_append.1 he with he | he
    · exact (hL e he).2.1
    · rw [List.mem_singleton] at he
      subst he
      exact ⟨hF, fun w1 w2 h1 h2 => p.keep h2 fun k hk _ => ⟨h1 k hk, hk⟩, fun k hk => by rw [hF0] at hk; exact hk.2⟩
  · rw [List.mem_singleton] at hx
    subst hx
    have hk2 : F k := hk'
    rw [hF0] at hk2
    exact (hL e he).2.2 k hk hk2.1
set_option maxHeartbeats 1000000 in
theorem fewIn_t {b : Nat} {A : Option Addr} {N C : Nat} {all : List Int} {s : St} {w : World} {most : Int} (hm : 0 ≤ most ∧ most ≤ 1000) (h : inP b A N C s w) (hA : Ints .u8 w A N C all) (hap : ∀ b' off, A = some ⟨b', off, none⟩ → b' ≠ b) (hN : N ≤ 1073741824) : Calls Try.prog 62 #[.pointer (some ⟨b, 0, none⟩), .int .u64 most] w fun e w' => e = .returned (.int .i64 (pF all most s).2) ∧ Hp w w' [inE b A N C (pF all most s).1] := by
  obtain ⟨F, hF, hst⟩ := Hp.start1V (L := [inE b A N C s]) (fun e he => by
    rw [List.mem_singleton] at he
    subst he
    exact ⟨rfl, inP.holds h, fun k hk hn => hn (show k = b from hk)⟩) (List.pairwise_singleton _ _) (SlR.noBlk hA (fun _ => hap))
  have hpf := fits_u64 (pN_fit hA.fits s)
  refine enter2 Try.func62 rfl rfl hst ?_
  repeat (first | refine T_seq ?_ | refine T_region ?_ | refine S_nil ?_ | refine S_pure tabOk rfl ?_)
  refine S_tin 0 rfl Try.call63 rfl (fun w1 g h => num_t h (SlR.of_val (Vp.fact0 (p := (Rslice (Rint .u8)).vp all) g 1 rfl)).ints hap hN) rfl ?_
  repeat (first | refine T_seq ?_ | refine T_region ?_ | refine S_nil ?_ | refine S_pure tabOk rfl ?_)
  refine T_cond_dec rfl (fun h1 => ?_) (fun h1 => ?_)
  · repeat (first | refine T_seq ?_ | refine T_region ?_ | refine S_pure tabOk rfl ?_)
    refine S_tin 0 rfl Try.call98 rfl (fun w1 g h => fail_t 2 h) rfl ?_
    repeat (first | refine T_seq ?_ | refine T_region ?_ | refine S_nil ?_ | refine pthen_ret ?_ | refine T_ret ?_ | refine S_pure tabOk rfl ?_)
    have e : pF all most s = ((if (pN all s).1.1 = 0 then 2 else (pN all s).1.1, (pN all s).1.2), 0) := by unfold pF; rw [if_pos h1]
    rw [e]
    exact ret1 rfl rfl (fun w' hw => ⟨rfl, hw.less (by repeat (first | exact Less.nil | refine Less.keep ?_ | refine Less.dropR ?_))⟩)
  · repeat (first | refine T_seq ?_ | refine T_region ?_ | refine S_nil ?_ | refine pthen_normal ?_ | refine T_skip ?_ | refine T_ret ?_ | refine S_i64 tabOk rfl (by omega) ?_ | refine S_pure tabOk rfl ?_)
    trace_state
    have e : pF all most s = pN all s := by unfold pF; rw [if_neg h1]
    rw [e]
    exact ret1 rfl rfl (fun w' hw => ⟨rfl, hw.less (by repeat (first | exact Less.nil | refine Less.keep ?_ | refine Less.dropR ?_))⟩)

abbrev fO (H : Hd) (s : Fs) : Obj := .cells ⟨frC .u8 H s⟩ 26 (0, 0)
/-- What the methods that read are given. -/
structure GetP (w : World) (bf b : Nat) (A : Option Addr) (N C : Nat) (all : List Int) (H : Hd) (s : Fs) (q : St) : Prop where
  f : w.heap[bf]? = some (fO H s)
  i : inP b A N C q w
  a : Ints .u8 w A N C all
  ne : bf ≠ b
  ap : ∀ b' off, A = some ⟨b', off, none⟩ → b' ≠ b
  apf : ∀ b' off, A = some ⟨b', off, none⟩ → b' ≠ bf
  n : N ≤ 1073741824
theorem GetP.start {w : World} {bf b : Nat} {A : Option Addr} {N C : Nat} {all : List Int} {H : Hd} {s : Fs} {q : St} (g : GetP w bf b A N C all H s q) : ∃ F : Nat → Prop, Hp w w [.blk bf (fO H s) true, inE b A N C q, .rep (fun w => (bP all).at_ w F (.slice A N C)) F false] := by
  obtain ⟨F, hF, h⟩ := Hp.start1V (p := bP all) (A := fun k => k ≠ b ∧ k ≠ bf) (L := [.blk bf (fO H s) true, inE b A N C q]) (fun e he => by
    simp only [List.mem_cons, List.not_mem_nil, or_false] at he
    rcases he with rfl | rfl
    · exact ⟨rfl, g.f, fun k hk hn => hn.2 (Option.some.inj hk).symm⟩
    · exact ⟨rfl, inP.holds g.i, fun k hk hn => hn.1 hk⟩) (List.pairwise_cons.2 ⟨fun e he _ k hk hk' => by
    rw [List.mem_singleton] at he
    subst he
    have h1 : bf = k := Option.some.inj hk
    have h2 : k = b := hk'
    exact g.ne (h1.trans h2), List.pairwise_singleton _ _⟩) (SlR.val (.of_ints g.a fun b' off hn e => ⟨g.ap b' off e, g.apf b' off e⟩))
  exact ⟨F, h⟩
def hBa (H : Hd) (x : Int) : Hd := ⟨H.kd, H.ag, H.ep, H.inc, x, H.cu, H.li⟩
set_option maxHeartbeats 1000000 in
theorem getBase_t {w : World} {bf b : Nat} {A : Option Addr} {N C : Nat} {all : List Int} {H : Hd} {s : Fs} {q : St} (g : GetP w bf b A N C all H s q) : Calls Try.prog 89 #[.pointer (some ⟨bf, 0, none⟩), .pointer (some ⟨b, 0, none⟩)] w fun e w' => e = .returned (.tuple #[]) ∧ Hp w w' [.blk bf (fO (hBa H (pN all q).2) s) true, inE b A N C (pN all q).1] := by
  obtain ⟨F, hst⟩ := g.start
  refine enter2 Try.func89 rfl rfl hst ?_
  repeat (first | refine S_pure tabOk rfl ?_ | refine T_region_any ?_)
  refine S_tin 1 rfl Try.call63 rfl (fun w1 h1 h => num_t h (bP_ints (Vp.fact0 (p := bP all) h1 2 rfl)) g.ap g.n) rfl ?_
  repeat (first | refine S_nil ?_ | refine S_pure tabOk rfl ?_ | refine S_store tabOk 0 rfl rfl rfl rfl rfl rfl ?_)
  exact ret0n rfl (fun w' hw => ⟨rfl, hw.less (by repeat (first | exact Less.nil | refine Less.keep ?_ | refine Less.dropR ?_))⟩)
def hGr (H : Hd) (x y z : Int) : Hd := ⟨H.kd, H.ag, H.ep, x, H.ba, y, z⟩
/-- The three numbers ahead of the runs. -/
def p3 (all : List Int) (q : St) : St := (pN all (pN all (pN all q).1).1).1
structure GgI where
  i : Nat
  a : Option Addr
  c : Nat
set_option maxHeartbeats 4000000 in
theorem getGrant_t {w : World} {bf b : Nat} {A : Option Addr} {N C : Nat} {all : List Int} {H : Hd} {q : St} {ia : Option Addr} {im ic : Nat} (g : GetP w bf b A N C all H ⟨none, 0, 0, ia, im, ic⟩ q) : Calls Try.prog 86 #[.pointer (some ⟨bf, 0, none⟩), .pointer (some ⟨b, 0, none⟩)] w fun e w' => ∃ a c, e = .returned (.tuple #[]) ∧
    Hp w w' [.blk bf (fO (hGr H (pN all q).2 (pN all (pN all q).1).2 (pN all (pN all (pN all q).1).1).2) ⟨a, (pF all 32 (p3 all q)).2.toNat, c, ia, im, ic⟩) true, inE b A N C (pR all (pF all 32 (p3 all q)).1 (pF all 32 (p3 all q)).2.toNat).1, .row w.heap.size (.slice a (pF all 32 (p3 all q)).2.toNat c) 102 2 (pF all 32 (p3 all q)).2.toNat (cellsR (pR all (pF all 32 (p3 all q)).1 (pF all 32 (p3 all q)).2.toNat).2)] := by
  obtain ⟨F, hst⟩ := g.start
  refine enter2 Try.func86 rfl rfl hst ?_
  repeat (first | refine T_seq ?_ | refine T_region ?_ | refine S_pure tabOk rfl ?_)
  refine S_tin 1 rfl Try.call63 rfl (fun w1 h1 h => num_t h (bP_ints (Vp.fact0 (p := bP all) h1 2 rfl)) g.ap g.n) rfl ?_
  repeat (first | refine S_pure tabOk rfl ?_)
  refine S_tin 1 rfl Try.call63 rfl (fun w1 h1 h => num_t h (bP_ints (Vp.fact0 (p := bP all) h1 2 rfl)) g.ap g.n) rfl ?_
  repeat (first | refine S_pure tabOk rfl ?_)
  refine S_tin 1 rfl Try.call63 rfl (fun w1 h1 h => num_t h (bP_ints (Vp.fact0 (p := bP all) h1 2 rfl)) g.ap g.n) rfl ?_
  repeat (first | refine T_seq ?_ | refine T_region ?_ | refine S_nil ?_ | refine S_pure tabOk rfl ?_ | refine S_store tabOk 0 rfl rfl rfl rfl rfl rfl ?_)
  refine S_tin 1 rfl Try.call62 rfl (fun w1 h1 h => fewIn_t (by decide) h (bP_ints (Vp.fact0 (p := bP all) h1 2 rfl)) g.ap g.n) rfl ?_
  repeat (first | refine T_block ?_ | refine S_nil ?_ | refine S_pure tabOk rfl ?_)
  obtain ⟨q0, hq0⟩ : ∃ x, x = p3 all q := ⟨_, rfl⟩
  rw [show (pN all (pN all (pN all q).1).1).1 = q0 from hq0.symm] at *
  rw [← hq0]
  have hfb := pF_bd g.a.fits (most := 32) (by decide) q0
  obtain ⟨m, hm⟩ : ∃ m : Nat, (pF all 32 q0).2 = (m : Int) := ⟨(pF all 32 q0).2.toNat, by omega⟩
  have hm32 : m ≤ 32 := by omega
  obtain ⟨q1, hq1⟩ : ∃ x, x = (pF all 32 q0).1 := ⟨_, rfl⟩
  rw [hm, ← hq1, Int.toNat_natCast]
  obtain ⟨G, hG⟩ : ∃ G, G = hGr H (pN all q).2 (pN all (pN all q).1).2 (pN all (pN all (pN all q).1).1).2 := ⟨_, rfl⟩
  rw [← hG]
  refine T_loop (ι := GgI) (fun i => [(0, .pointer (some ⟨bf, 0, none⟩)), (1, .pointer (some ⟨b, 0, none⟩)), (20, .int .i64 (m : Int)), (21, .int .i64 (i.i : Int))])
    (fun i => [.blk bf (fO G ⟨i.a, i.i, i.c, ia, im, ic⟩) true, inE b A N C (pR all q1 i.i).1, .row w.heap.size (.slice i.a i.i i.c) 102 2 i.i (cellsR (pR all q1 i.i).2), .rep (fun w => (bP all).at_ w F (.slice A N C)) F false])
    (fun i => i.i ≤ m) (fun i => m - i.i) ⟨0, none, 0⟩ (Nat.zero_le _) (by repeat (first | exact Sub.nil | refine Sub.cons rfl ?_)) (fun w' hw => by
      rw [hG]
      exact (hw.nilRow 102 2).perm (by repeat (first | exact List.Perm.refl _ | refine (List.Perm.swap _ _ _).trans (List.Perm.cons _ ?_)))) ?_
  rintro ⟨i, a1, c1⟩ hi
  dsimp only at hi ⊢
  repeat (first | refine T_seq ?_ | refine T_region ?_ | refine S_nil ?_ | refine S_pure tabOk rfl ?_)
  refine T_cond_dec rfl (fun h => ?_) (fun h => ?_)
  · obtain ⟨σ, hσ⟩ : ∃ σ, σ = (pR all q1 i).1 := ⟨_, rfl⟩
    obtain ⟨rl, hrl⟩ : ∃ rl, rl = (pR all q1 i).2 := ⟨_, rfl⟩
    have hnx : pR all q1 (i + 1) = ((pRun all σ).1, rl ++ [(pRun all σ).2]) := by rw [hσ, hrl]; rfl
    rw [← hσ, ← hrl]
    have hN1 := pN_fit g.a.fits σ
    have hN2 := pN_fit g.a.fits (pN all σ).1
    obtain ⟨x1, hx1⟩ : ∃ x, x = pN all σ := ⟨_, rfl⟩
    obtain ⟨x2, hx2⟩ : ∃ x, x = pN all x1.1 := ⟨_, rfl⟩
    have hpr : pRun all σ = (x2.1, (x1.2, x2.2)) := by rw [hx2, hx1]; rfl
    repeat (first | refine T_seq ?_ | refine T_block ?_ | refine pthen_normal ?_ | refine T_skip ?_)
    let lst : Bool → Bool → Bool → Bool → Bool → Value → Value → OL := fun l6 l8 l10 l11 l14 x10 x11 =>
      .blk bf (.cells ⟨[.int .u8 G.kd, .int .i64 G.ag, .int .u64 G.ep, .int .u64 G.inc, .int .u64 G.ba, .int .u64 G.cu, .int .u64 G.li, cond l14 x11 (.slice a1 i c1), .slice ia im ic]⟩ 26 (0, 0)) true :: inE b A N C (cond l8 x2.1 (cond l6 x1.1 σ)) :: .row w.heap.size (cond l11 x11 (.slice a1 i c1)) 102 2 (cond l11 (i + 1) i) (cond l11 (cellsR rl ++ encR (x1.2, x2.2)) (cellsR rl)) :: .rep (fun w => (bP all).at_ w F (.slice A N C)) F false :: cond l10 [.row w.heap.size x10 102 2 1 (encR (x1.2, x2.2))] []
    refine T_asThen ?_
    refine T_drawF (γ := Unit) (by kernel_rfl) (by kernel_rfl) () (fun L f => lst (L 6) (L 8) (L 10) (L 11) (L 14) (f 10).1 (f 11).1) rfl [some (.pointer (some ⟨bf, 0, none⟩)), some (.pointer (some ⟨bf, 0, none⟩)), some (.pointer (some ⟨bf, 0, none⟩)), some (.pointer (some ⟨bf, 7, none⟩)), some (.slice a1 i c1), some (.pointer (some ⟨b, 0, none⟩)), some (.int .u64 x1.2), some (.pointer (some ⟨b, 0, none⟩)), some (.int .u64 x2.2), some (.agg ⟨encR (x1.2, x2.2)⟩), none, none, some (.pointer (some ⟨bf, 0, none⟩)), some (.pointer (some ⟨bf, 7, none⟩)), none] ?_ ?_
    · refine ⟨?_, ?_, ?_, ?_, ?_, ?_, ?_, ?_, ?_, ?_, ?_, ?_, ?_, ?_, ?_, trivial⟩
      · exact fun L f hc hl hp => OpA.told () rfl (D_pure tabOk rfl D_last) rfl
      · exact fun L f hc hl hp => OpA.told () rfl (D_pure tabOk rfl D_last) rfl
      · exact fun L f hc hl hp => OpA.told () rfl (D_pure tabOk rfl D_last) rfl
      · exact fun L f hc hl hp => OpA.told () rfl (D_pure tabOk rfl D_last) rfl
      · intro L f hc hl hp
        have h14 := closed_no hc (j := 14) rfl ⟨4, .phase⟩ (by simp) rfl hl
        show OpA _ _ _ _ (lst (L 6) (L 8) (L 10) (L 11) (L 14) (f 10).1 (f 11).1) (fun y => lst (L 6) (L 8) (L 10) (L 11) (L 14) (f 10).1 (f 11).1) _ _ _
        rw [h14]
        exact OpA.told () rfl (D_load tabOk 0 rfl rfl rfl D_last) rfl
      · exact fun L f hc hl hp => OpA.told () rfl (D_pure tabOk rfl D_last) rfl
      · intro L f hc hl hp
        have h9 := closed_no hc (j := 9) rfl ⟨6, .data⟩ (by simp) rfl hl
        have h10 := closed_no hc (j := 10) rfl ⟨9, .data⟩ (by simp) rfl h9
        have h11 := closed_no hc (j := 11) rfl ⟨10, .data⟩ (by simp) rfl h10
        have h14 := closed_no hc (j := 14) rfl ⟨11, .data⟩ (by simp) rfl h11
        have h8 := closed_no hc (j := 8) rfl ⟨6, .chain⟩ (by simp) rfl hl
        show OpA _ _ _ _ (lst (L 6) (L 8) (L 10) (L 11) (L 14) (f 10).1 (f 11).1) (fun y => lst true (L 8) (L 10) (L 11) (L 14) (f 10).1 (f 11).1) _ _ _
        rw [hl, h8, h10, h11, h14]
        refine OpA.ofS (l := [(28, .pointer (some ⟨b, 0, none⟩))]) rfl (by decide) (.cons rfl rfl .nil) ?_
        refine S_tin 1 (s' := x1.1) (v := .int .u64 x1.2) rfl Try.call63 rfl (fun w1 h1 h => by rw [hx1]; exact num_t h (bP_ints (Vp.fact0 (p := bP all) h1 3 rfl)) g.ap g.n) rfl ?_
        refine S_nil ?_
        exact ⟨_, (), rfl, (fun u h => by cases h; rfl), fun w hw => hw⟩
      · exact fun L f hc hl hp => OpA.told () rfl (D_pure tabOk rfl D_last) rfl
      · intro L f hc hl hp
        have h6 : L 6 = true := hp ⟨6, .chain⟩ (by simp) rfl
        have h9 := closed_no hc (j := 9) rfl ⟨8, .data⟩ (by simp) rfl hl
        have h10 := closed_no hc (j := 10) rfl ⟨9, .data⟩ (by simp) rfl h9
        have h11 := closed_no hc (j := 11) rfl ⟨10, .data⟩ (by simp) rfl h10
        have h14 := closed_no hc (j := 14) rfl ⟨11, .data⟩ (by simp) rfl h11
        show OpA _ _ _ _ (lst (L 6) (L 8) (L 10) (L 11) (L 14) (f 10).1 (f 11).1) (fun y => lst (L 6) true (L 10) (L 11) (L 14) (f 10).1 (f 11).1) _ _ _
        rw [hl, h6, h10, h11, h14]
        refine OpA.ofS (l := [(30, .pointer (some ⟨b, 0, none⟩))]) rfl (by decide) (.cons rfl rfl .nil) ?_
        refine S_tin 1 (s' := x2.1) (v := .int .u64 x2.2) rfl Try.call63 rfl (fun w1 h1 h => by rw [hx2]; exact num_t h (bP_ints (Vp.fact0 (p := bP all) h1 3 rfl)) g.ap g.n) rfl ?_
        refine S_nil ?_
        exact ⟨_, (), rfl, (fun u h => by cases h; rfl), fun w hw => hw⟩
      · exact fun L f hc hl hp => OpA.told () rfl (D_q (Q_build tabOk rfl rfl rfl rfl rfl rfl rfl) D_last) rfl
      · intro L f hc hl hp
        have h9 : L 9 = true := hp ⟨9, .data⟩ (by simp) rfl
        have h6 : L 6 = true := hc 9 _ rfl h9 ⟨6, .data⟩ (by simp) rfl
        have h8 : L 8 = true := hc 9 _ rfl h9 ⟨8, .data⟩ (by simp) rfl
        have h11 := closed_no hc (j := 11) rfl ⟨10, .data⟩ (by simp) rfl hl
        have h14 := closed_no hc (j := 14) rfl ⟨11, .data⟩ (by simp) rfl h11
        show OpA _ _ _ _ (lst (L 6) (L 8) (L 10) (L 11) (L 14) (f 10).1 (f 11).1) (fun y => lst (L 6) (L 8) true (L 11) (L 14) y.1 (f 11).1) _ _ _
        rw [hl, h6, h8, h11, h14]
        exact OpA.bsliceR tabOk rfl rfl rfl rfl rfl rfl rfl rfl rfl rfl rfl rfl rfl rfl (fun w1 v hw1 => ⟨(), hw1.perm (by repeat (first | exact List.Perm.refl _ | refine (List.Perm.swap _ _ _).trans (List.Perm.cons _ ?_)))⟩)
      · intro L f hc hl hp
        have h10 : L 10 = true := hp ⟨10, .data⟩ (by simp) rfl
        have h9 : L 9 = true := hc 10 _ rfl h10 ⟨9, .data⟩ (by simp) rfl
        have h6 : L 6 = true := hc 9 _ rfl h9 ⟨6, .data⟩ (by simp) rfl
        have h8 : L 8 = true := hc 9 _ rfl h9 ⟨8, .data⟩ (by simp) rfl
        have h14 := closed_no hc (j := 14) rfl ⟨11, .data⟩ (by simp) rfl hl
        show OpA _ _ _ _ (lst (L 6) (L 8) (L 10) (L 11) (L 14) (f 10).1 (f 11).1) (fun y => lst (L 6) (L 8) (L 10) true (L 14) (f 10).1 y.1) _ _ _
        rw [hl, h6, h8, h10, h14]
        refine OpA.pre (X := ∃ A C, (f 10).1 = .slice A 1 C) (fun w hw => ?_) (fun d h => by cases h; decide) ?_
        · obtain ⟨A, C, e2, _⟩ := hw.rowForm 4 rfl
          exact ⟨A, C, e2⟩
        · rintro ⟨A', C', e2⟩
          rw [e2]
          refine OpA.ofS (l := [(27, .slice a1 i c1), (33, .slice A' 1 C')]) rfl (by decide) (.cons rfl rfl (.cons rfl (by show some (Ent.ex (f 10).1) = _; rw [e2]) .nil)) ?_
          refine S_append (ty := 0) tabOk 2 (m := i) (v := .slice a1 i c1) (xs := cellsR rl) (news := encR (x1.2, x2.2)) rfl rfl rfl rfl rfl rfl rfl rfl rfl (by decide) (fun w' hw => Sl.of_own (hw.own _ (getE_mem (i := 4) rfl))) (by intro u hu; simp only [encR, List.mem_cons, List.not_mem_nil, or_false] at hu; rcases hu with rfl | rfl <;> rfl) (by simp only [maxLen]; omega) (by show (_ + _) * 16 ≤ _; omega) rfl (fun AS CS hcS hdS => ⟨_, rfl, ?_⟩)
          refine S_nil ?_
          exact ⟨_, (), rfl, (fun u h => by cases h), fun w hw => hw⟩
      · exact fun L f hc hl hp => OpA.told () rfl (D_pure tabOk rfl D_last) rfl
      · exact fun L f hc hl hp => OpA.told () rfl (D_pure tabOk rfl D_last) rfl
      · intro L f hc hl hp
        have h11 : L 11 = true := hp ⟨11, .data⟩ (by simp) rfl
        have h10 : L 10 = true := hc 11 _ rfl h11 ⟨10, .data⟩ (by simp) rfl
        have h9 : L 9 = true := hc 10 _ rfl h10 ⟨9, .data⟩ (by simp) rfl
        have h6 : L 6 = true := hc 9 _ rfl h9 ⟨6, .data⟩ (by simp) rfl
        have h8 : L 8 = true := hc 9 _ rfl h9 ⟨8, .data⟩ (by simp) rfl
        show OpA _ _ _ _ (lst (L 6) (L 8) (L 10) (L 11) (L 14) (f 10).1 (f 11).1) (fun y => lst (L 6) (L 8) (L 10) (L 11) true (f 10).1 (f 11).1) _ _ _
        rw [hl, h6, h8, h10, h11]
        refine OpA.pre (X := ∃ A C, (f 11).1 = .slice A (i + 1) C) (fun w hw => ?_) (fun d h => by cases h) ?_
        · obtain ⟨A, C, e2, _⟩ := hw.rowForm 2 rfl
          exact ⟨A, C, e2⟩
        · rintro ⟨A', C', e2⟩
          refine OpA.swap (dl' := [(36, .ex (.pointer (some ⟨bf, 7, none⟩))), (34, .ex (f 11).1)]) (List.forall_mem_cons.2 ⟨rfl, List.forall_mem_cons.2 ⟨rfl, fun _ h => nomatch h⟩⟩) ?_
          generalize f 11 = x11 at *
          obtain ⟨x11, g11⟩ := x11
          dsimp only at e2
          subst e2
          exact OpS.toF () (fun u h => by cases h) (OpS.store tabOk 0 rfl rfl (fun u h => by rw [List.mem_singleton] at h; subst h; rfl) rfl rfl rfl)
    · intro L f w5 hL hw
      change Hp _ _ (lst (L 6) (L 8) (L 10) (L 11) (L 14) (f 10).1 (f 11).1) at hw
      rw [hL 6 (by decide), hL 8 (by decide), hL 10 (by decide), hL 11 (by decide), hL 14 (by decide)] at hw
      obtain ⟨A', C', e2, _⟩ := hw.rowForm 2 rfl
      generalize f 11 = x11 at hw e2 ⊢
      obtain ⟨x11, g11⟩ := x11
      have e3 : x11 = .slice A' (i + 1) C' := e2
      subst e3
      have hce : cellsR rl ++ encR (x1.2, x2.2) = cellsR (rl ++ [(x1.2, x2.2)]) := by rw [cellsR_append]; congr 1
      refine ⟨[(0, .pointer (some ⟨bf, 0, none⟩)), (1, .pointer (some ⟨b, 0, none⟩)), (20, .int .i64 (m : Int)), (21, .int .i64 (i : Int))], [.blk bf (fO G ⟨A', i + 1, C', ia, im, ic⟩) true, inE b A N C x2.1, .row w.heap.size (.slice A' (i + 1) C') 102 2 (i + 1) (cellsR rl ++ encR (x1.2, x2.2)), .rep (fun w => (bP all).at_ w F (.slice A N C)) F false, .row w.heap.size (f 10).1 102 2 1 (encR (x1.2, x2.2))], ?_, hw, ?_⟩
      · repeat (first | exact SubD.nil | refine SubD.cons rfl ?_)
      · repeat (first | refine T_region ?_ | refine S_nil ?_ | refine pthen_normal ?_ | refine inb_normal ?_ | refine S_i64 tabOk rfl (by omega) ?_ | refine S_pure tabOk rfl ?_)
        refine ⟨⟨i + 1, A', C'⟩, by dsimp only; omega, by repeat (first | exact Sub.nil | refine Sub.cons rfl ?_), fun w' hw => ?_, by dsimp only; omega⟩
        dsimp only
        rw [hnx, hpr, ← hce]
        exact hw.less (by repeat (first | exact Less.nil | refine Less.keep ?_ | refine Less.dropW (Nat.le_refl _) ?_))
  · have e : i = m := by omega
    subst e
    repeat (first | refine inb_hit ?_ | refine pthen_exit ?_ | refine T_exit ?_)
    trace_state
    exact ret0n rfl (fun w' hw => ⟨a1, c1, rfl, hw.less (by repeat (first | exact Less.nil | refine Less.keep ?_ | refine Less.dropR ?_))⟩)

theorem rdB_bd {e : Int} {zs : List Int} {most : Int} (h : ∀ z ∈ zs, Fits .u8 z) : (∀ z ∈ (rdB e zs most).2.1, Fits .u8 z) ∧ (rdB e zs most).2.2 ≤ zs.length := by
  by_cases he : e = 0
  · subst he
    refine ⟨fun z hz => h z (rdB_len.2 z hz), ?_⟩
    unfold rdB
    rw [if_neg (by decide)]
    split
    · exact Nat.zero_le _
    split
    · exact Nat.zero_le _
    split
    · exact Nat.zero_le _
    · rename_i h1
      dsimp only
      omega
  · unfold rdB
    rw [if_pos he]
    exact ⟨fun z hz => (by cases hz), Nat.zero_le _⟩
theorem getS_bd {e : Int} {zs : List Int} (h : ∀ z ∈ zs, Fits .u8 z) : Fits .i64 (getS e zs).2.1.1 ∧ (∀ z ∈ (getS e zs).2.1.2, Fits .u8 z) ∧ (getS e zs).2.2 ≤ zs.length := by
  have h1 := by1_bd (e := e) h
  unfold getS
  dsimp only
  have h2 := rdB_bd (e := if 8 ≤ (by1 e zs).2.1 then (if (by1 e zs).1 = 0 then 2 else (by1 e zs).1) else (by1 e zs).1) (zs := zs.drop (by1 e zs).2.2) (most := 4096) fun z hz => h z (List.mem_of_mem_drop hz)
  rw [List.length_drop] at h2
  generalize rdB (if 8 ≤ (by1 e zs).2.1 then (if (by1 e zs).1 = 0 then 2 else (by1 e zs).1) else (by1 e zs).1) (zs.drop (by1 e zs).2.2) 4096 = r at h2 ⊢
  by_cases hr : r.1 = 0
  · rw [if_pos hr]
    exact ⟨mk_i64 (by dsimp only; omega), h2.1, by omega⟩
  · rw [if_neg hr]
    exact ⟨mk_i64 (by decide), fun z hz => (by cases hz), by omega⟩
theorem getI_bd {e : Int} {zs : List Int} (h : ∀ z ∈ zs, Fits .u8 z) : Fits .u64 ((getI e zs).2.1.1 : Int) ∧ Fits .i64 (getI e zs).2.1.2.1 ∧ (∀ z ∈ (getI e zs).2.1.2.2, Fits .u8 z) ∧ (getI e zs).2.2 ≤ zs.length := by
  have h1 := rd_bd (e := e) h
  have h2 := getS_bd (e := (rd e zs).1) (zs := zs.drop (rd e zs).2.2) fun z hz => h z (List.mem_of_mem_drop hz)
  rw [List.length_drop] at h2
  unfold getI
  dsimp only
  generalize getS (rd e zs).1 (zs.drop (rd e zs).2.2) = r at h2 ⊢
  by_cases hr : r.1 = 0
  · rw [if_pos hr]
    exact ⟨mk_u64 (by dsimp only; omega), h2.1, h2.2.1, by omega⟩
  · rw [if_neg hr]
    exact ⟨mk_u64 (by decide), mk_i64 (by decide), fun z hz => (by cases hz), by omega⟩
theorem pIt_bd {all : List Int} (hf : ∀ z ∈ all, Fits .u8 z) (s : St) : Fits .u64 (pIt all s).2.1 ∧ Fits .i64 (pIt all s).2.2.1 ∧ ∀ z ∈ (pIt all s).2.2.2, Fits .u8 z := by
  have := getI_bd (e := s.1) (zs := all.drop s.2) fun z hz => hf z (List.mem_of_mem_drop hz)
  exact ⟨this.1, this.2.1, this.2.2.1⟩
theorem Hp.toIn2 {w w' : World} {x : HE} (hxe : x.ex = true) {b : Nat} {a : Option Addr} {n c : Nat} {A : Option Addr} {N C : Nat} {s : St} (h : Hp w w' [x, .blk b (inO a n c s.1) true]) (hs : Suf A N C s.2 a n c) : Hp w w' [x, inE b A N C s] := by
  have h1 : w'.heap[b]? = _ := h.own _ (List.mem_cons_of_mem _ List.mem_cons_self)
  have h0 := h.own _ List.mem_cons_self
  have hd := (List.pairwise_cons.1 h.apart).1 _ List.mem_cons_self
  refine ⟨h.os, h.tape, h.output, h.size, fun k hk he => h.old k hk fun e hm hx hh => ?_, fun e hm => ?_, List.pairwise_cons.2 ⟨fun e hm hx k hk hk' => ?_, List.pairwise_singleton _ _⟩⟩
  · simp only [List.mem_cons, List.not_mem_nil, or_false] at hm
    rcases hm with rfl | rfl
    · exact he _ List.mem_cons_self hx hh
    · exact he _ (List.mem_cons_of_mem _ List.mem_cons_self) rfl (by rw [← Option.some.inj hh]; rfl)
  · simp only [List.mem_cons, List.not_mem_nil, or_false] at hm
    rcases hm with rfl | rfl
    · exact h0
    · exact inP.holds ⟨a, n, c, h1, hs⟩
  · rw [List.mem_singleton] at hm
    subst hm
    have h2 : k = b := hk'
    exact hd (by simp [hxe]) k hk (by rw [h2]; rfl)
theorem item_t {b : Nat} {A : Option Addr} {N C : Nat} {all : List Int} {s : St} {w : World} (h : inP b A N C s w) (hA : Ints .u8 w A N C all) (hap : ∀ b' off, A = some ⟨b', off, none⟩ → b' ≠ b) (hN : N ≤ 1073741824) : Calls Try.prog 114 #[.pointer (some ⟨b, 0, none⟩)] w fun e w' => ∃ ra rc, e = .returned (itV (pIt all s).2.1 (pIt all s).2.2.1 ra (pIt all s).2.2.2.length rc) ∧ Hp w w' [.row w.heap.size (.slice ra (pIt all s).2.2.2.length rc) 5 1 (pIt all s).2.2.2.length ((pIt all s).2.2.2.map (.int .u8)), inE b A N C (pIt all s).1] := by
  obtain ⟨a, n, c, h1, h2⟩ := h
  exact (getitem_ok b a n c A N C s.2 all s.1 w h1 h2 hA hap hN).mono fun e w' ⟨a', n', c', ra, rc, e1, e2, e3⟩ => ⟨ra, rc, e1, Hp.toIn2 (s := (pIt all s).1) rfl e3 e2⟩
def hIt (H : Hd) (x y : Int) : Hd := ⟨H.kd, H.ag, H.ep, x, y, H.cu, H.li⟩
def p2 (all : List Int) (q : St) : St := (pN all (pN all q).1).1
structure GiI where
  i : Nat
  a : Option Addr
  c : Nat
  css : List (List Value)
  G : Nat → Prop
abbrev bodE (css : List (List Value)) (l : List ItemI) (G : Nat → Prop) : HE := .rep (fun w => (Bod Ritem css l).at_ w G undef) G true
theorem Hp.nilBod {w0 w : World} {o : OL} (h : Hp w0 w o) : Hp w0 w (bodE [] [] (fun _ => False) :: o) :=
  h.more ⟨Bod.nil_, fun w1 w2 h1 h2 => (Bod Ritem [] []).keep h2 fun k hk _ => hk.elim, fun k hk => hk.elim⟩ fun e he hr k hk => hk.elim
/-- One item more, with its body's row. -/
theorem Hp.snocBod {w0 w : World} {o : OL} {css : List (List Value)} {l : List ItemI} {G : Nat → Prop} {x : ItemI} {ra : Option Addr} {rc : Nat} (h : Hp w0 w (bodE css l G :: .row w0.heap.size (.slice ra x.2.2.length rc) 5 1 x.2.2.length (x.2.2.map (.int .u8)) :: o)) (h1 : Fits .u64 x.1) (h2 : Fits .i64 x.2.1) (h3 : ∀ z ∈ x.2.2, Fits .u8 z) :
    Hp w0 w (bodE (css ++ [[.int .u64 x.1, .int .i64 x.2.1, .slice ra x.2.2.length rc]]) (l ++ [x]) (fun k => G k ∨ (Value.slice ra x.2.2.length rc).ownBlock = some k) :: o) := by
  have hB := h.own _ List.mem_cons_self
  have hr : w.ownsRow w0.heap.size 5 1 (.slice ra x.2.2.length rc) x.2.2.length (x.2.2.map (.int .u8)) := h.own _ (List.mem_cons_of_mem _ List.mem_cons_self)
  have hr' := hr
  rw [← map_one] at hr'
  have hs : SlR (Rint .u8) w (fun k => G k ∨ (Value.slice ra x.2.2.length rc).ownBlock = some k) ra x.2.2.length rc x.2.2 := .of_row (flat_int .u8) hr' rfl h3 fun k hk hb => .inr hb
  refine Hp.regroup [bodE css l G, .row w0.heap.size (.slice ra x.2.2.length rc) 5 1 x.2.2.length (x.2.2.map (.int .u8))] [bodE (css ++ [[.int .u64 x.1, .int .i64 x.2.1, .slice ra x.2.2.length rc]]) (l ++ [x]) (fun k => G k ∨ (Value.slice ra x.2.2.length rc).ownBlock = some k)] h (fun e he => ?_) (fun e he => ?_) (List.pairwise_singleton _ _) (fun e he k hk => ?_) (fun e he k hk => ?_)
  · simp only [List.mem_cons, List.not_mem_nil, or_false] at he
    rcases he with rfl | rfl <;> rfl
  · rw [List.mem_singleton] at he
    subst he
    refine ⟨rfl, Bod.snoc (Vp.mono _ hB.1 fun k hk => .inl hk) (item_of h1 h2 hs), fun w1 w2 g1 g2 => (Bod Ritem _ _).keep g2 fun k hk _ => ⟨g1 k hk, hk⟩, fun k hk => ?_⟩
    rcases hk with hk | hk
    · exact hB.2.2 k hk
    · exact (World.ownsRow.lt hr k hk).2
  · rw [List.mem_singleton] at he
    subst he
    rcases hk with hk | hk
    · exact ⟨_, List.mem_cons_self, hk⟩
    · exact ⟨_, List.mem_cons_of_mem _ List.mem_cons_self, hk⟩
  · simp only [List.mem_cons, List.not_mem_nil, or_false] at he
    rcases he with rfl | rfl
    · exact .inr ⟨_, List.mem_cons_self, .inl hk⟩
    · exact .inr ⟨_, List.mem_cons_self, .inr hk⟩

theorem pm0 {α : Type} (a b c d e : α) : List.Perm [a, b, c, d, e] [c, d, a, b, e] := by
  have hP : List.Perm ([0, 1, 2, 3, 4] : List Nat) [2, 3, 0, 1, 4] := by decide
  exact hP.map fun i => ([a, b, c, d, e][i]?).getD a
theorem pm1 {α : Type} (a b c d e f g : α) : List.Perm [a, b, c, d, e, f, g] [d, c, e, f, g, b, a] := by
  have hP : List.Perm ([0, 1, 2, 3, 4, 5, 6] : List Nat) [3, 2, 4, 5, 6, 1, 0] := by decide
  exact hP.map fun i => ([a, b, c, d, e, f, g][i]?).getD a
theorem pm2 {α : Type} (a b c d e f g h : α) : List.Perm [a, b, c, d, e, f, g, h] [d, f, a, b, c, e, g, h] := by
  have hP : List.Perm ([0, 1, 2, 3, 4, 5, 6, 7] : List Nat) [3, 5, 0, 1, 2, 4, 6, 7] := by decide
  exact hP.map fun i => ([a, b, c, d, e, f, g, h][i]?).getD a
theorem pm3 {α : Type} (a b c d e f g : α) : List.Perm [a, b, c, d, e, f, g] [b, c, d, a, e, f, g] := by
  have hP : List.Perm ([0, 1, 2, 3, 4, 5, 6] : List Nat) [1, 2, 3, 0, 4, 5, 6] := by decide
  exact hP.map fun i => ([a, b, c, d, e, f, g][i]?).getD a
set_option maxHeartbeats 4000000 in
theorem getItems_t {w : World} {bf b : Nat} {A : Option Addr} {N C : Nat} {all : List Int} {H : Hd} {q : St} {ra : Option Addr} {rn rc : Nat} (g : GetP w bf b A N C all H ⟨ra, rn, rc, none, 0, 0⟩ q) : Calls Try.prog 92 #[.pointer (some ⟨bf, 0, none⟩), .pointer (some ⟨b, 0, none⟩)] w fun e w' => ∃ a c css G, e = .returned (.tuple #[]) ∧ (∀ k, G k → w.heap.size ≤ k) ∧
    Hp w w' [.blk bf (fO (hIt H (pN all q).2 (pN all (pN all q).1).2) ⟨ra, rn, rc, a, (pF all 64 (p2 all q)).2.toNat, c⟩) true, inE b A N C (pI all (pF all 64 (p2 all q)).1 (pF all 64 (p2 all q)).2.toNat).1, .row w.heap.size (.slice a (pF all 64 (p2 all q)).2.toNat c) 54 3 (pF all 64 (p2 all q)).2.toNat css.flatten, bodE css (pI all (pF all 64 (p2 all q)).1 (pF all 64 (p2 all q)).2.toNat).2 G] := by
  obtain ⟨F, hst⟩ := g.start
  refine enter2 Try.func92 rfl rfl hst ?_
  repeat (first | refine T_seq ?_ | refine T_region ?_ | refine S_pure tabOk rfl ?_)
  refine S_tin 1 rfl Try.call63 rfl (fun w1 h1 h => num_t h (bP_ints (Vp.fact0 (p := bP all) h1 2 rfl)) g.ap g.n) rfl ?_
  repeat (first | refine S_pure tabOk rfl ?_)
  refine S_tin 1 rfl Try.call63 rfl (fun w1 h1 h => num_t h (bP_ints (Vp.fact0 (p := bP all) h1 2 rfl)) g.ap g.n) rfl ?_
  repeat (first | refine T_seq ?_ | refine T_region ?_ | refine S_nil ?_ | refine S_pure tabOk rfl ?_ | refine S_store tabOk 0 rfl rfl rfl rfl rfl rfl ?_)
  refine S_tin 1 rfl Try.call62 rfl (fun w1 h1 h => fewIn_t (by decide) h (bP_ints (Vp.fact0 (p := bP all) h1 2 rfl)) g.ap g.n) rfl ?_
  repeat (first | refine T_block ?_ | refine S_nil ?_ | refine S_pure tabOk rfl ?_)
  obtain ⟨q0, hq0⟩ : ∃ x, x = p2 all q := ⟨_, rfl⟩
  rw [show (pN all (pN all q).1).1 = q0 from hq0.symm] at *
  rw [← hq0]
  have hfb := pF_bd g.a.fits (most := 64) (by decide) q0
  obtain ⟨m, hm⟩ : ∃ m : Nat, (pF all 64 q0).2 = (m : Int) := ⟨(pF all 64 q0).2.toNat, by omega⟩
  have hm32 : m ≤ 64 := by omega
  obtain ⟨q1, hq1⟩ : ∃ x, x = (pF all 64 q0).1 := ⟨_, rfl⟩
  rw [hm, ← hq1, Int.toNat_natCast]
  obtain ⟨G, hG⟩ : ∃ G, G = hIt H (pN all q).2 (pN all (pN all q).1).2 := ⟨_, rfl⟩
  rw [← hG]
  refine T_loop (ι := GiI) (fun i => [(0, .pointer (some ⟨bf, 0, none⟩)), (1, .pointer (some ⟨b, 0, none⟩)), (15, .int .i64 (m : Int)), (16, .int .i64 (i.i : Int))])
    (fun i => [.blk bf (fO G ⟨ra, rn, rc, i.a, i.i, i.c⟩) true, inE b A N C (pI all q1 i.i).1, .row w.heap.size (.slice i.a i.i i.c) 54 3 i.i i.css.flatten, bodE i.css (pI all q1 i.i).2 i.G, .rep (fun w => (bP all).at_ w F (.slice A N C)) F false])
    (fun i => i.i ≤ m ∧ i.css.flatten.length = i.i * 3 ∧ ∀ k, i.G k → w.heap.size ≤ k) (fun i => m - i.i) ⟨0, none, 0, [], fun _ => False⟩ ⟨Nat.zero_le _, rfl, fun k hk => hk.elim⟩ (by repeat (first | exact Sub.nil | refine Sub.cons rfl ?_)) (fun w' hw => by
      rw [hG]
      exact ((hw.nilBod).nilRow 54 3).perm (pm0 ..)) ?_
  rintro ⟨i, a1, c1, css, D⟩ ⟨hi, hcl, hD⟩
  dsimp only at hi hcl hD ⊢
  repeat (first | refine T_seq ?_ | refine T_region ?_ | refine S_nil ?_ | refine S_pure tabOk rfl ?_)
  refine T_cond_dec rfl (fun h => ?_) (fun h => ?_)
  · obtain ⟨σ, hσ⟩ : ∃ σ, σ = (pI all q1 i).1 := ⟨_, rfl⟩
    obtain ⟨rl, hrl⟩ : ∃ rl, rl = (pI all q1 i).2 := ⟨_, rfl⟩
    have hnx : pI all q1 (i + 1) = ((pIt all σ).1, rl ++ [(pIt all σ).2]) := by rw [hσ, hrl]; rfl
    rw [← hσ, ← hrl]
    obtain ⟨hb1, hb2, hb3⟩ := pIt_bd g.a.fits σ
    obtain ⟨x, hx⟩ : ∃ x, x = pIt all σ := ⟨_, rfl⟩
    rw [← hx] at hb1 hb2 hb3 hnx
    repeat (first | refine T_seq ?_ | refine T_block ?_ | refine pthen_normal ?_ | refine T_skip ?_)
    let ci : Option Addr × Nat → List Value := fun y => [.int .u64 x.2.1, .int .i64 x.2.2.1, .slice y.1 x.2.2.2.length y.2]
    let lst : Bool → Bool → Bool → Bool → Value × (Option Addr × Nat) → Value → Value → OL := fun l6 l7 l8 l11 x6 x7 x8 =>
      .blk bf (.cells ⟨[.int .u8 G.kd, .int .i64 G.ag, .int .u64 G.ep, .int .u64 G.inc, .int .u64 G.ba, .int .u64 G.cu, .int .u64 G.li, .slice ra rn rc, cond l11 x8 (.slice a1 i c1)]⟩ 26 (0, 0)) true :: inE b A N C (cond l6 x.1 σ) :: .row w.heap.size (cond l8 x8 (.slice a1 i c1)) 54 3 (cond l8 (i + 1) i) (cond l8 (css.flatten ++ ci x6.2) css.flatten) :: bodE css rl D :: .rep (fun w => (bP all).at_ w F (.slice A N C)) F false :: (cond l6 [.row w.heap.size (.slice x6.2.1 x.2.2.2.length x6.2.2) 5 1 x.2.2.2.length (x.2.2.2.map (.int .u8)), factE (x6.1 = .agg ⟨ci x6.2⟩)] [] ++ cond l7 [.row w.heap.size x7 54 3 1 (ci x6.2)] [])
    refine T_asThen ?_
    refine T_drawF (γ := Option Addr × Nat) (by kernel_rfl) (by kernel_rfl) (none, 0) (fun L f => lst (L 6) (L 7) (L 8) (L 11) (f 6) (f 7).1 (f 8).1) rfl [some (.pointer (some ⟨bf, 0, none⟩)), some (.pointer (some ⟨bf, 0, none⟩)), some (.pointer (some ⟨bf, 0, none⟩)), some (.pointer (some ⟨bf, 8, none⟩)), some (.slice a1 i c1), some (.pointer (some ⟨b, 0, none⟩)), none, none, none, some (.pointer (some ⟨bf, 0, none⟩)), some (.pointer (some ⟨bf, 8, none⟩)), none] ?_ ?_
    · refine ⟨?_, ?_, ?_, ?_, ?_, ?_, ?_, ?_, ?_, ?_, ?_, ?_, trivial⟩
      · exact fun L f hc hl hp => OpA.told (none, 0) rfl (D_pure tabOk rfl D_last) rfl
      · exact fun L f hc hl hp => OpA.told (none, 0) rfl (D_pure tabOk rfl D_last) rfl
      · exact fun L f hc hl hp => OpA.told (none, 0) rfl (D_pure tabOk rfl D_last) rfl
      · exact fun L f hc hl hp => OpA.told (none, 0) rfl (D_pure tabOk rfl D_last) rfl
      · intro L f hc hl hp
        have h11 := closed_no hc (j := 11) rfl ⟨4, .phase⟩ (by simp) rfl hl
        show OpA _ _ _ _ (lst (L 6) (L 7) (L 8) (L 11) (f 6) (f 7).1 (f 8).1) (fun y => lst (L 6) (L 7) (L 8) (L 11) (f 6) (f 7).1 (f 8).1) _ _ _
        rw [h11]
        exact OpA.told (none, 0) rfl (D_load tabOk 0 rfl rfl rfl D_last) rfl
      · exact fun L f hc hl hp => OpA.told (none, 0) rfl (D_pure tabOk rfl D_last) rfl
      · intro L f hc hl hp
        have h7 := closed_no hc (j := 7) rfl ⟨6, .data⟩ (by simp) rfl hl
        have h8 := closed_no hc (j := 8) rfl ⟨7, .data⟩ (by simp) rfl h7
        have h11 := closed_no hc (j := 11) rfl ⟨8, .data⟩ (by simp) rfl h8
        show OpA _ _ _ _ (lst (L 6) (L 7) (L 8) (L 11) (f 6) (f 7).1 (f 8).1) (fun y => lst true (L 7) (L 8) (L 11) y (f 7).1 (f 8).1) _ _ _
        rw [hl, h7, h8, h11]
        refine OpA.call rfl Try.call114 (fun w1 vs hw h => ?_)
        obtain ⟨u1, _, rfl, rfl, rfl⟩ := h
        have hin : inP b A N C σ w1 := (hw.own _ (getE_mem (i := 1) rfl)).1
        refine (item_t hin (bP_ints (Vp.fact0 (p := bP all) hw 4 rfl)) g.ap g.n).mono fun e w2 ⟨ra', rc', e1, h2⟩ => ?_
        rw [← hx] at e1 h2
        refine ⟨_, (ra', rc'), e1, ?_⟩
        have hw3 := hw.perm (o' := inE b A N C σ :: [.blk bf (fO G ⟨ra, rn, rc, a1, i, c1⟩) true, .row w.heap.size (.slice a1 i c1) 54 3 i css.flatten, bodE css rl D, .rep (fun w => (bP all).at_ w F (.slice A N C)) F false]) (List.Perm.swap _ _ _)
        have hw4 := Hp.graftG (A := [inE b A N C σ]) hw3 h2 (fun e he => by rw [List.mem_singleton] at he; subst he; rfl) (fun e he => by
          simp only [List.mem_cons, List.not_mem_nil, or_false] at he
          rcases he with rfl | rfl
          · exact ⟨rfl, fun k hk => .inr (World.ownsRow.lt (h2.own _ List.mem_cons_self) k hk).1⟩
          · exact ⟨rfl, fun k hk => .inl ⟨_, List.mem_cons_self, hk⟩⟩) (fun e he k hk => by
          rw [List.mem_singleton] at he
          subst he
          exact .inr ⟨_, List.mem_cons_of_mem _ List.mem_cons_self, hk⟩)
        have hw5 := Hp.reb (pre := []) (b' := w.heap.size) hw4 hw.size
        exact (hw5.addF (p := (itV x.2.1 x.2.2.1 ra' x.2.2.2.length rc' : Value) = .agg ⟨ci (ra', rc')⟩) rfl).perm (pm1 ..)
      · intro L f hc hl hp
        have h6 : L 6 = true := hp ⟨6, .data⟩ (by simp) rfl
        have h8 := closed_no hc (j := 8) rfl ⟨7, .data⟩ (by simp) rfl hl
        have h11 := closed_no hc (j := 11) rfl ⟨8, .data⟩ (by simp) rfl h8
        show OpA _ _ _ _ (lst (L 6) (L 7) (L 8) (L 11) (f 6) (f 7).1 (f 8).1) (fun y => lst (L 6) true (L 8) (L 11) (f 6) y.1 (f 8).1) _ _ _
        rw [hl, h6, h8, h11]
        refine OpA.pre (X := (f 6).1 = .agg ⟨ci (f 6).2⟩) (fun w hw => hw.fact 6 rfl) (fun d h => by cases h; decide) (fun e6 => ?_)
        refine OpA.swap (dl' := [(24, .ex (f 6).1)]) (List.forall_mem_cons.2 ⟨rfl, fun _ h => nomatch h⟩) ?_
        generalize f 6 = x6 at *
        obtain ⟨x6, g6⟩ := x6
        dsimp only at e6
        subst e6
        exact OpA.bsliceR tabOk rfl rfl rfl rfl rfl rfl rfl rfl rfl rfl rfl rfl rfl rfl (fun w1 v hw1 => ⟨(none, 0), hw1.perm (by repeat (first | exact List.Perm.refl _ | refine (List.Perm.swap _ _ _).trans (List.Perm.cons _ ?_)))⟩)
      · intro L f hc hl hp
        have h7 : L 7 = true := hp ⟨7, .data⟩ (by simp) rfl
        have h6 : L 6 = true := hp ⟨6, .chain⟩ (by simp) rfl
        have h11 := closed_no hc (j := 11) rfl ⟨8, .data⟩ (by simp) rfl hl
        show OpA _ _ _ _ (lst (L 6) (L 7) (L 8) (L 11) (f 6) (f 7).1 (f 8).1) (fun y => lst (L 6) (L 7) true (L 11) (f 6) (f 7).1 y.1) _ _ _
        rw [hl, h6, h7, h11]
        refine OpA.pre (X := ∃ A C, (f 7).1 = .slice A 1 C) (fun w hw => ?_) (fun d h => by cases h; decide) ?_
        · obtain ⟨A, C, e2, _⟩ := hw.rowForm 7 rfl
          exact ⟨A, C, e2⟩
        · rintro ⟨A', C', e2⟩
          rw [e2]
          refine OpA.ofS (l := [(22, .slice a1 i c1), (25, .slice A' 1 C')]) rfl (by decide) (.cons rfl rfl (.cons rfl (by show some (Ent.ex (f 7).1) = _; rw [e2]) .nil)) ?_
          refine S_append (ty := 0) tabOk 2 (m := i) (v := .slice a1 i c1) (xs := css.flatten) (news := ci (f 6).2) rfl rfl rfl rfl rfl rfl rfl rfl rfl (by decide) (fun w' hw => Sl.of_own (hw.own _ (getE_mem (i := 7) rfl))) (by intro u hu; simp only [ci, List.mem_cons, List.not_mem_nil, or_false] at hu; rcases hu with rfl | rfl | rfl <;> rfl) (by simp only [maxLen]; omega) (by show (_ + _) * 40 ≤ _; omega) rfl (fun AS CS hcS hdS => ⟨_, rfl, ?_⟩)
          refine S_nil ?_
          exact ⟨_, (none, 0), rfl, (fun u h => by cases h), fun w hw => hw⟩
      · exact fun L f hc hl hp => OpA.told (none, 0) rfl (D_pure tabOk rfl D_last) rfl
      · exact fun L f hc hl hp => OpA.told (none, 0) rfl (D_pure tabOk rfl D_last) rfl
      · intro L f hc hl hp
        have h8 : L 8 = true := hp ⟨8, .data⟩ (by simp) rfl
        have h7 : L 7 = true := hc 8 _ rfl h8 ⟨7, .data⟩ (by simp) rfl
        have h6 : L 6 = true := hc 7 _ rfl h7 ⟨6, .data⟩ (by simp) rfl
        show OpA _ _ _ _ (lst (L 6) (L 7) (L 8) (L 11) (f 6) (f 7).1 (f 8).1) (fun y => lst (L 6) (L 7) (L 8) true (f 6) (f 7).1 (f 8).1) _ _ _
        rw [hl, h6, h7, h8]
        refine OpA.pre (X := ∃ A C, (f 8).1 = .slice A (i + 1) C) (fun w hw => ?_) (fun d h => by cases h) ?_
        · obtain ⟨A, C, e2, _⟩ := hw.rowForm 2 rfl
          exact ⟨A, C, e2⟩
        · rintro ⟨A', C', e2⟩
          refine OpA.swap (dl' := [(28, .ex (.pointer (some ⟨bf, 8, none⟩))), (26, .ex (f 8).1)]) (List.forall_mem_cons.2 ⟨rfl, List.forall_mem_cons.2 ⟨rfl, fun _ h => nomatch h⟩⟩) ?_
          generalize f 8 = x8 at *
          obtain ⟨x8, g8⟩ := x8
          dsimp only at e2
          subst e2
          exact OpS.toF (none, 0) (fun u h => by cases h) (OpS.store tabOk 0 rfl rfl (fun u h => by rw [List.mem_singleton] at h; subst h; rfl) rfl rfl rfl)
    · intro L f w5 hL hw
      change Hp _ _ (lst (L 6) (L 7) (L 8) (L 11) (f 6) (f 7).1 (f 8).1) at hw
      rw [hL 6 (by decide), hL 7 (by decide), hL 8 (by decide), hL 11 (by decide)] at hw
      obtain ⟨A', C', e2, _⟩ := hw.rowForm 2 rfl
      generalize f 8 = x8 at hw e2 ⊢
      obtain ⟨x8, g8⟩ := x8
      have e3 : x8 = .slice A' (i + 1) C' := e2
      subst e3
      obtain ⟨y, hy⟩ : ∃ y, y = (f 6).2 := ⟨_, rfl⟩
      have hw6 : Hp w w5 [.blk bf (fO G ⟨ra, rn, rc, A', i + 1, C'⟩) true, inE b A N C x.1, .row w.heap.size (.slice A' (i + 1) C') 54 3 (i + 1) (css.flatten ++ ci y), bodE css rl D, .rep (fun w => (bP all).at_ w F (.slice A N C)) F false, .row w.heap.size (.slice y.1 x.2.2.2.length y.2) 5 1 x.2.2.2.length (x.2.2.2.map (.int .u8)), factE ((f 6).1 = .agg ⟨ci y⟩), .row w.heap.size (f 7).1 54 3 1 (ci y)] := by rw [hy]; exact hw
      have hw7 : Hp w w5 (bodE css rl D :: .row w.heap.size (.slice y.1 x.2.2.2.length y.2) 5 1 x.2.2.2.length (x.2.2.2.map (.int .u8)) :: [.blk bf (fO G ⟨ra, rn, rc, A', i + 1, C'⟩) true, inE b A N C x.1, .row w.heap.size (.slice A' (i + 1) C') 54 3 (i + 1) (css.flatten ++ ci y), .rep (fun w => (bP all).at_ w F (.slice A N C)) F false, factE ((f 6).1 = .agg ⟨ci y⟩), .row w.heap.size (f 7).1 54 3 1 (ci y)]) := hw6.perm (pm2 ..)
      have hw8 := hw7.snocBod hb1 hb2 hb3
      refine ⟨[(0, .pointer (some ⟨bf, 0, none⟩)), (1, .pointer (some ⟨b, 0, none⟩)), (15, .int .i64 (m : Int)), (16, .int .i64 (i : Int))], _, ?_, hw8, ?_⟩
      · repeat (first | exact SubD.nil | refine SubD.cons rfl ?_)
      · repeat (first | refine T_region ?_ | refine S_nil ?_ | refine pthen_normal ?_ | refine inb_normal ?_ | refine S_i64 tabOk rfl (by omega) ?_ | refine S_pure tabOk rfl ?_)
        have hrow := (World.ownsRow.lt (hw6.own _ (getE_mem (i := 5) rfl)))
        refine ⟨⟨i + 1, A', C', css ++ [ci y], fun k => D k ∨ (Value.slice y.1 x.2.2.2.length y.2).ownBlock = some k⟩, ⟨by dsimp only; omega, ?_, ?_⟩, by repeat (first | exact Sub.nil | refine Sub.cons rfl ?_), fun w' hw => ?_, by dsimp only; omega⟩
        · dsimp only
          rw [List.flatten_append, List.length_append, hcl]
          show i * 3 + 3 = (i + 1) * 3
          omega
        · exact fun k hk => hk.elim (hD k) fun h => (hrow k h).1
        · dsimp only
          rw [hnx, List.flatten_append, show [ci y].flatten = ci y from by simp]
          exact (hw.perm (pm3 ..)).less (by repeat (first | exact Less.nil | refine Less.keep ?_ | refine Less.dropR ?_ | refine Less.dropW (Nat.le_refl _) ?_))
  · have e : i = m := by omega
    subst e
    repeat (first | refine inb_hit ?_ | refine pthen_exit ?_ | refine T_exit ?_)
    exact ret0n rfl (fun w' hw => ⟨a1, c1, css, D, rfl, hD, hw.less (by repeat (first | exact Less.nil | refine Less.keep ?_ | refine Less.dropR ?_))⟩)

theorem pm4 {α : Type} (a b c d e : α) : List.Perm [a, b, c, d, e] [c, d, e, b, a] := by
  have hP : List.Perm ([0, 1, 2, 3, 4] : List Nat) [2, 3, 4, 1, 0] := by decide
  exact hP.map fun i => ([a, b, c, d, e][i]?).getD a
theorem pm5 {α : Type} (a b c d e : α) : List.Perm [a, b, c, d, e] [d, e, b, c, a] := by
  have hP : List.Perm ([0, 1, 2, 3, 4] : List Nat) [3, 4, 1, 2, 0] := by decide
  exact hP.map fun i => ([a, b, c, d, e][i]?).getD a
theorem pm6 {α : Type} (a b c d e : α) : List.Perm [a, b, c, d, e] [b, c, a, d, e] := by
  have hP : List.Perm ([0, 1, 2, 3, 4] : List Nat) [1, 2, 0, 3, 4] := by decide
  exact hP.map fun i => ([a, b, c, d, e][i]?).getD a
def zH : Hd := ⟨0, 0, 0, 0, 0, 0, 0⟩
/-- What was read. -/
structure DR where
  H : Hd
  rs : List Run
  its : List ItemI
  q : St
/-- A kind's own parts. -/
def partD (all : List Int) (H : Hd) (q : St) : DR :=
  if H.kd = 1 then ⟨hBa H (pN all q).2, [], [], (pN all q).1⟩
  else if H.kd = 3 then ⟨hIt H (pN all q).2 (pN all (pN all q).1).2, [], (pI all (pF all 64 (p2 all q)).1 (pF all 64 (p2 all q)).2.toNat).2, (pI all (pF all 64 (p2 all q)).1 (pF all 64 (p2 all q)).2.toNat).1⟩
  else ⟨hGr H (pN all q).2 (pN all (pN all q).1).2 (pN all (pN all (pN all q).1).1).2, (pR all (pF all 32 (p3 all q)).1 (pF all 32 (p3 all q)).2.toNat).2, [], (pR all (pF all 32 (p3 all q)).1 (pF all 32 (p3 all q)).2.toNat).1⟩
/-- The numbers ahead. -/
def headD (all : List Int) : Hd × St := (⟨(pB all (0, 0)).2, (pF all 15 (pB all (0, 0)).1).2, (pN all (pF all 15 (pB all (0, 0)).1).1).2, 0, 0, 0, 0⟩, (pN all (pF all 15 (pB all (0, 0)).1).1).1)
def innD (all : List Int) : DR := partD all (headD all).1 (headD all).2
def endD (all : List Int) : Int := enE (innD all).q.1 (all.length - (innD all).q.2)
def okK (k : Int) : Prop := k = 1 ∨ k = 2 ∨ k = 3 ∨ k = 4
instance (k : Int) : Decidable (okK k) := by unfold okK; infer_instance
open Classical in
/-- What is decoded: the error, the frame. -/
noncomputable def decT (zs : List Int) : Int × Hd × List Run × List ItemI :=
  if 65507 < zs.length then (6, zH, [], []) else if openE zs ≠ 0 then (openE zs, zH, [], []) else if ¬ okK (headD (openR zs)).1.kd then (2, zH, [], []) else if endD (openR zs) ≠ 0 then (endD (openR zs), zH, [], []) else
    if ¬ frR (innD (openR zs)).H (innD (openR zs)).rs (innD (openR zs)).its then (1, zH, [], []) else (0, (innD (openR zs)).H, (innD (openR zs)).rs, (innD (openR zs)).its)
theorem pB_fit {all : List Int} (hf : ∀ z ∈ all, Fits .u8 z) (s : St) : Fits .u8 (pB all s).2 := by
  have := by1_bd (e := s.1) (zs := all.drop s.2) fun z hz => hf z (List.mem_of_mem_drop hz)
  exact fits8 ⟨this.1, this.2.1⟩
theorem headD_fit {all : List Int} (hf : ∀ z ∈ all, Fits .u8 z) : (headD all).1.Fit := by
  have h1 := pF_bd hf (most := 15) (by decide) (pB all (0, 0)).1
  exact ⟨pB_fit hf _, mk_i64 (by unfold headD; dsimp only; omega), pN_fit hf _, (mk_u64 (n := 0) (by decide)), (mk_u64 (n := 0) (by decide)), (mk_u64 (n := 0) (by decide)), (mk_u64 (n := 0) (by decide))⟩
theorem partD_fit {all : List Int} (hf : ∀ z ∈ all, Fits .u8 z) {H : Hd} (h : H.Fit) (q : St) : (partD all H q).H.Fit := by
  unfold partD
  split
  · exact ⟨h.kd, h.ag, h.ep, h.inc, pN_fit hf _, h.cu, h.li⟩
  split
  · exact ⟨h.kd, h.ag, h.ep, pN_fit hf _, pN_fit hf _, h.cu, h.li⟩
  · exact ⟨h.kd, h.ag, h.ep, pN_fit hf _, h.ba, pN_fit hf _, pN_fit hf _⟩
theorem innD_fit {all : List Int} (hf : ∀ z ∈ all, Fits .u8 z) : (innD all).H.Fit := partD_fit hf (headD_fit hf) _
theorem pR_okR {all : List Int} (hf : ∀ z ∈ all, Fits .u8 z) (s : St) (n : Nat) : ∀ r ∈ (pR all s n).2, okR r := by
  induction n with
  | zero => exact fun r hr => by cases hr
  | succ n ih =>
    intro r hr
    rcases List.mem_append.1 hr with hr | hr
    · exact ih r hr
    · rw [List.mem_singleton] at hr
      subst hr
      exact ⟨pN_fit hf _, pN_fit hf _⟩
theorem Hp.disI {w0 w : World} {o : OL} (h : Hp w0 w o) (i j : Nat) {bf b : Nat} {x : Obj} {A : Option Addr} {N C : Nat} {s : St} (hi : getE o i = some (.blk bf x true)) (hj : getE o j = some (inE b A N C s)) : bf ≠ b := by
  rintro rfl
  have := pw_mem (fun _ _ => Dis.symm) h.apart (getE_mem hi) (getE_mem hj) (by intro hh; cases hh)
  exact this rfl bf rfl rfl
theorem Hp.inAt {w0 w : World} {o o' : OL} (h : Hp w0 w o) (i : Nat) {b : Nat} {a : Option Addr} {n c : Nat} {A : Option Addr} {N C : Nat} {s : St} (hi : getE o i = some (.blk b (inO a n c s.1) true)) (hs : Suf A N C s.2 a n c) (hp : putE o i (inE b A N C s) = some o') : Hp w0 w o' := by
  obtain ⟨pre, post, e1, e2⟩ := putE_eq hi hp
  rw [e1] at h
  rw [e2]
  have hb : w.heap[b]? = _ := h.own _ (List.mem_append.2 (.inr List.mem_cons_self))
  exact h.turn (x' := inE b A N C s) rfl rfl rfl rfl (Nat.le_refl _) (fun _ _ _ => rfl) (inP.holds ⟨a, n, c, hb, hs⟩) (fun k hk => .inl (by rw [show k = b from hk]; rfl)) (fun k hk => .inr (Option.some.inj hk).symm)
/-- A kind's form, with what its third method does. -/
theorem form_get {l : List Value} {H : Hd} (hfo : FormI H.kd l true) : ∃ (u1 : ByteArray) (g1 g2 g3 : Nat), l = [.string u1, fnV g1, fnV g2, fnV g3] ∧ (∀ args w, (callFunc g3 args).run Try.prog w = .ok (.enter g3 args) w) ∧
    ∀ {w : World} {bf b : Nat} {A : Option Addr} {N C : Nat} {all : List Int} {q : St}, GetP w bf b A N C all H ⟨none, 0, 0, none, 0, 0⟩ q → Calls Try.prog g3 #[.pointer (some ⟨bf, 0, none⟩), .pointer (some ⟨b, 0, none⟩)] w fun e w' => ∃ s css G, e = .returned (.tuple #[]) ∧ (∀ k, G k → w.heap.size ≤ k) ∧ s.rn = (partD all H q).rs.length ∧ s.im = (partD all H q).its.length ∧ Hp w w' [.blk bf (fO (partD all H q).H s) true, inE b A N C (partD all H q).q, .row w.heap.size (.slice s.ra s.rn s.rc) 102 2 s.rn (cellsR (partD all H q).rs), .row w.heap.size (.slice s.ia s.im s.ic) 54 3 s.im css.flatten, bodE css (partD all H q).its G] := by
  have hgr : H.kd = 2 ∨ H.kd = 4 → ∀ {w : World} {bf b : Nat} {A : Option Addr} {N C : Nat} {all : List Int} {q : St}, GetP w bf b A N C all H ⟨none, 0, 0, none, 0, 0⟩ q → Calls Try.prog 86 #[.pointer (some ⟨bf, 0, none⟩), .pointer (some ⟨b, 0, none⟩)] w fun e w' => ∃ s css G, e = .returned (.tuple #[]) ∧ (∀ k, G k → w.heap.size ≤ k) ∧ s.rn = (partD all H q).rs.length ∧ s.im = (partD all H q).its.length ∧ Hp w w' [.blk bf (fO (partD all H q).H s) true, inE b A N C (partD all H q).q, .row w.heap.size (.slice s.ra s.rn s.rc) 102 2 s.rn (cellsR (partD all H q).rs), .row w.heap.size (.slice s.ia s.im s.ic) 54 3 s.im css.flatten, bodE css (partD all H q).its G] := fun hk _ _ _ _ _ _ all q g => by
    have e : partD all H q = ⟨hGr H (pN all q).2 (pN all (pN all q).1).2 (pN all (pN all (pN all q).1).1).2, (pR all (pF all 32 (p3 all q)).1 (pF all 32 (p3 all q)).2.toNat).2, [], (pR all (pF all 32 (p3 all q)).1 (pF all 32 (p3 all q)).2.toNat).1⟩ := by
      unfold partD
      rw [if_neg (by omega), if_neg (by omega)]
    rw [e]
    exact (getGrant_t g).mono fun e w' ⟨a, c, e1, h2⟩ => ⟨⟨a, _, c, none, 0, 0⟩, [], fun _ => False, e1, fun k hk => hk.elim, (pR_len _ _ _).symm, rfl, ((h2.nilRow _ _).nilBod).perm (pm4 ..)⟩
  generalize hkd : H.kd = kd at hfo
  cases hfo with
  | hello =>
    refine ⟨_, _, _, _, rfl, Try.call89, fun {_ _ _ _ _ _ all q} g => ?_⟩
    have e : partD all H q = ⟨hBa H (pN all q).2, [], [], (pN all q).1⟩ := by unfold partD; rw [if_pos hkd]
    rw [e]
    exact (getBase_t g).mono fun e w' ⟨e1, h2⟩ => ⟨⟨none, 0, 0, none, 0, 0⟩, [], fun _ => False, e1, fun k hk => hk.elim, rfl, rfl, (((h2.nilRow 54 3).nilRow 102 2).nilBod).perm (pm5 ..)⟩
  | welcome => exact ⟨_, _, _, _, rfl, Try.call86, hgr (.inl hkd)⟩
  | batch =>
    refine ⟨_, _, _, _, rfl, Try.call92, fun {_ _ _ _ _ _ all q} g => ?_⟩
    have e : partD all H q = ⟨hIt H (pN all q).2 (pN all (pN all q).1).2, [], (pI all (pF all 64 (p2 all q)).1 (pF all 64 (p2 all q)).2.toNat).2, (pI all (pF all 64 (p2 all q)).1 (pF all 64 (p2 all q)).2.toNat).1⟩ := by
      unfold partD
      rw [if_neg (by omega), if_pos hkd]
    rw [e]
    exact (getItems_t g).mono fun e w' ⟨a, c, css, G, e1, hG, h2⟩ => ⟨⟨none, 0, 0, a, _, c⟩, css, G, e1, hG, rfl, (pI_len _ _ _).symm, (h2.nilRow 102 2).perm (pm6 ..)⟩
  | ack => exact ⟨_, _, _, _, rfl, Try.call86, hgr (.inr hkd)⟩

theorem pm7 {α : Type} (a b c d e f : α) : List.Perm [a, b, c, d, e, f] [b, c, a, d, e, f] := by
  have hP : List.Perm ([0, 1, 2, 3, 4, 5] : List Nat) [1, 2, 0, 3, 4, 5] := by decide
  exact hP.map fun i => ([a, b, c, d, e, f][i]?).getD a
theorem openR_bd {zs : List Int} (h : ∀ z ∈ zs, Fits .u8 z) : (∀ z ∈ openR zs, Fits .u8 z) ∧ (openR zs).length ≤ zs.length := by
  unfold openR
  split
  · exact ⟨fun z hz => (by cases hz), Nat.zero_le _⟩
  split
  · exact ⟨fun z hz => h z (List.mem_of_mem_take hz), by rw [List.length_take]; omega⟩
  · exact ⟨fun z hz => (by cases hz), Nat.zero_le _⟩
theorem fsR_zero (w : World) (A : Nat → Prop) : FsR w A ⟨none, 0, 0, none, 0, 0⟩ [] [] := ⟨SlR.nil_, SlR.nil_⟩
theorem formI_ok {k : Int} {l : List Value} {q : Bool} (h : FormI k l q) : q = true ↔ okK k := by
  unfold okK
  cases h with
  | hello => simp
  | welcome => simp
  | batch => simp
  | ack => simp
  | no k h => exact ⟨fun h => (by cases h), fun h1 => (by omega)⟩
open Classical in
set_option maxHeartbeats 4000000 in
theorem decode_ok {a : Option Addr} {n c : Nat} {zs : List Int} (w : World) (hx : Ints .u8 w a n c zs) : Calls Try.prog 25 #[.slice a n c] w fun e w' => ∃ s, e = .returned (.tuple #[frV (decT zs).2.1 s, .int .i64 (decT zs).1]) ∧ Below w.heap.size w w' ∧ FsR w' (fun k => w.heap.size ≤ k) s (decT zs).2.2.1 (decT zs).2.2.2 := by
  have hl := hx.len
  refine enter1 Try.func25 rfl rfl (Hp.refl w) ?_
  repeat (first | refine T_seq ?_ | refine T_region ?_)
  refine S_new tabOk rfl (fun b2 hb2 => ?_)
  repeat (first | refine T_seq ?_ | refine T_region ?_ | refine S_nil ?_ | refine S_pure tabOk rfl ?_)
  refine T_cond_dec rfl (fun h1 => ?_) (fun h1 => ?_)
  · have e : decT zs = (6, zH, [], []) := by unfold decT; rw [if_pos (by omega)]
    rw [e]
    repeat (first | refine T_seq ?_ | refine T_region ?_ | refine S_nil ?_ | refine pthen_ret ?_ | refine T_ret ?_ | refine S_pure tabOk rfl ?_ | refine S_store tabOk 0 rfl rfl rfl rfl rfl rfl ?_ | refine S_q (Q_build tabOk rfl rfl rfl rfl rfl rfl rfl) ?_)
    exact ret2 rfl (ResIs.cellO tabOk 0 rfl rfl rfl rfl) rfl (fun w' hw => ⟨⟨none, 0, 0, none, 0, 0⟩, rfl, hw.below (by repeat (first | exact new_nil | refine new_cons (by first | assumption | omega) ?_)), fsR_zero _ _⟩)
  repeat (first | refine T_seq ?_ | refine T_region ?_ | refine pthen_normal ?_ | refine T_skip ?_ | refine S_pure tabOk rfl ?_)
  refine S_callrow2 (m := (openR zs).length) (xs := (openR zs).map (.int .u8)) (v2 := .int .i64 (openE zs)) (E := 5) (sz := 1) rfl Try.call59 (fun w1 h1 => open_ok a n c zs w1 (ints_ext hx (h1.below (by repeat (first | exact new_nil | refine new_cons (by first | assumption | omega) ?_)))) (by omega)) (fun a1 c1 hc1 hd1 => ?_)
  obtain ⟨all, hall⟩ : ∃ all, all = openR zs := ⟨_, rfl⟩
  have hbd := openR_bd hx.fits
  rw [← hall] at hbd hc1 ⊢
  repeat (first | refine T_seq ?_ | refine T_region ?_ | refine S_nil ?_ | refine S_pure tabOk rfl ?_)
  refine T_cond_dec rfl (fun h2 => ?_) (fun h2 => ?_)
  · have e : decT zs = (openE zs, zH, [], []) := by unfold decT; rw [if_neg (by omega), if_pos h2]
    rw [e]
    repeat (first | refine T_seq ?_ | refine T_region ?_ | refine S_nil ?_ | refine pthen_ret ?_ | refine T_ret ?_ | refine S_pure tabOk rfl ?_ | refine S_store tabOk 1 rfl rfl rfl rfl rfl rfl ?_ | refine S_q (Q_build tabOk rfl rfl rfl rfl rfl rfl rfl) ?_)
    exact ret2 rfl (ResIs.cellO tabOk 1 rfl rfl rfl rfl) rfl (fun w' hw => ⟨⟨none, 0, 0, none, 0, 0⟩, rfl, hw.below (by repeat (first | exact new_nil | refine new_cons (by first | assumption | omega) ?_ | refine newrow hw 0 rfl (Nat.le_refl _) ?_)), fsR_zero _ _⟩)
  have h2' : openE zs = 0 := Decidable.not_not.1 h2
  repeat (first | refine T_seq ?_ | refine T_region ?_ | refine pthen_normal ?_ | refine T_skip ?_ | refine S_pure tabOk rfl ?_)
  refine S_callof rfl Try.call60 (fun w1 h1 => of_ok a1 all.length c1 all w1 (ints_of_own (h1.own _ (getE_mem (i := 0) rfl)) hbd.1) (by omega)) (fun b A C hb => ?_)
  obtain ⟨N, hN⟩ : ∃ N, N = all.length := ⟨_, rfl⟩
  rw [← hN]
  have hIn : ∀ {w0 w : World} {o : OL} {base : Nat}, Hp w0 w o → ∀ i, getE o i = some (.row base (.slice A N C) 5 1 N (all.map (.int .u8))) → Ints .u8 w A N C all := fun h i hi => ints_of_own (h.own _ (getE_mem hi)) hbd.1
  have hNN : N ≤ 1073741824 := by omega
  have hNb : ∀ k, FB b k → w.heap.size ≤ k := fun k hk => by rw [show k = b from hk]; exact hb
  refine S_kn (p := (∀ b' off, A = some ⟨b', off, none⟩ → b' ≠ b) ∧ Suf A N C 0 A N C) (fun w1 h1 => ⟨h1.dis 0 1 rfl rfl, Suf.refl (hIn h1 1 rfl)⟩) (fun ⟨hap, hsuf⟩ => ?_)
  refine S_heap (fun w' h => h.inAt (s := (0, 0)) 0 rfl hsuf rfl) ?_
  repeat (first | refine T_seq ?_ | refine T_region ?_ | refine S_nil ?_ | refine S_pure tabOk rfl ?_)
  refine S_tin 0 rfl Try.call61 rfl (fun w1 h1 h => byte_t h (hIn h1 1 rfl) hap hNN) rfl ?_
  repeat (first | refine S_q (Q_build tabOk rfl rfl rfl rfl rfl rfl rfl) ?_)
  refine S_new tabOk rfl (fun bf hbf => ?_)
  repeat (first | refine T_seq ?_ | refine T_region ?_ | refine S_nil ?_ | refine S_pure tabOk rfl ?_ | refine S_load tabOk 0 rfl rfl rfl ?_ | refine S_store tabOk 0 rfl rfl rfl rfl rfl rfl ?_)
  obtain ⟨l, q, hfo⟩ := formI_ex (headD all).1.kd
  refine S_callq rfl Try.call46 (fun w1 h1 => forms_ok hfo w1) ?_
  repeat (first | refine S_pure tabOk rfl ?_)
  have hqk := formI_ok hfo
  cases q with
  | false =>
    obtain rfl : l = noL := by
      generalize (headD all).1.kd = kd at hfo
      cases hfo with
      | no k hk => rfl
    have e : decT zs = (2, zH, [], []) := by
      unfold decT
      rw [if_neg (by omega), if_neg h2, ← hall, if_pos (fun h => by have := hqk.2 h; cases this)]
    rw [e]
    refine S_new tabOk rfl (fun b8 hb8 => ?_)
    repeat (first | refine T_seq ?_ | refine T_region ?_ | refine S_nil ?_ | refine S_pure tabOk rfl ?_ | refine S_store tabOk 0 rfl rfl rfl rfl rfl rfl ?_)
    refine T_cond_t rfl ?_
    repeat (first | refine T_seq ?_ | refine T_region ?_ | refine S_nil ?_ | refine pthen_ret ?_ | refine T_ret ?_ | refine S_pure tabOk rfl ?_ | refine S_store tabOk 5 rfl rfl rfl rfl rfl rfl ?_ | refine S_q (Q_build tabOk rfl rfl rfl rfl rfl rfl rfl) ?_)
    exact ret2 rfl (ResIs.cellO tabOk 5 rfl rfl rfl rfl) rfl (fun w' hw => ⟨⟨none, 0, 0, none, 0, 0⟩, rfl, hw.below (by repeat (first | exact new_nil | refine new_rx (by assumption) ?_ | refine new_cons (by first | assumption | omega) ?_ | refine newrow hw 3 rfl (Nat.le_refl _) ?_ | refine newrow hw 4 rfl (Nat.le_refl _) ?_)), fsR_zero _ _⟩)
  | true =>
    have hok := hqk.1 rfl
    have hkf := headD_fit hbd.1
    obtain ⟨u1, g1, g2, g3, rfl, hg3, hget⟩ := form_get hfo
    refine S_new tabOk rfl (fun b8 hb8 => ?_)
    repeat (first | refine T_seq ?_ | refine T_region ?_ | refine S_nil ?_ | refine S_pure tabOk rfl ?_ | refine S_store tabOk 0 rfl rfl rfl rfl rfl rfl ?_)
    refine T_cond_f rfl ?_
    repeat (first | refine T_seq ?_ | refine T_region ?_ | refine pthen_normal ?_ | refine T_skip ?_ | refine S_pure tabOk rfl ?_)
    refine S_tin 2 rfl Try.call62 rfl (fun w1 h1 h => fewIn_t (by decide) h (hIn h1 3 rfl) hap hNN) rfl ?_
    repeat (first | refine T_seq ?_ | refine T_region ?_ | refine S_nil ?_ | refine S_pure tabOk rfl ?_ | refine S_store tabOk 1 rfl rfl rfl rfl rfl rfl ?_)
    refine S_tin 2 rfl Try.call63 rfl (fun w1 h1 h => num_t h (hIn h1 3 rfl) hap hNN) rfl ?_
    repeat (first | refine T_seq ?_ | refine T_region ?_ | refine S_nil ?_ | refine S_pure tabOk rfl ?_ | refine S_load tabOk 0 rfl rfl rfl ?_ | refine S_store tabOk 1 rfl rfl rfl rfl rfl rfl ?_)
    refine S_callv rfl rfl rfl hg3 (fun w1 h1 => ?_)
    rw [Array.append_empty]
    refine (hget (q := (headD all).2) ⟨h1.own _ (getE_mem (i := 1) rfl), (h1.own _ (getE_mem (i := 2) rfl)).1, hIn h1 3 rfl, h1.disI 1 2 rfl rfl, hap, h1.dis 1 3 rfl rfl, hNN⟩).mono fun e w2 ⟨s, css, G, e1, hG, hsr, hsi, h5⟩ => ?_
    have hw3 := h1.perm (pm7 ..)
    have hw4 := Hp.graftG (A := [.blk bf (fO (headD all).1 ⟨none, 0, 0, none, 0, 0⟩) true, inE b A N C (headD all).2]) hw3 h5 (fun e he => by
      simp only [List.mem_cons, List.not_mem_nil, or_false] at he
      rcases he with rfl | rfl <;> rfl) (fun e he => by
      simp only [List.mem_cons, List.not_mem_nil, or_false] at he
      rcases he with rfl | rfl | rfl | rfl | rfl
      · exact ⟨rfl, fun k hk => .inl ⟨_, List.mem_cons_self, hk⟩⟩
      · exact ⟨rfl, fun k hk => .inl ⟨_, List.mem_cons_of_mem _ List.mem_cons_self, hk⟩⟩
      · exact ⟨rfl, fun k hk => .inr (World.ownsRow.lt (h5.own _ (getE_mem (i := 2) rfl)) k hk).1⟩
      · exact ⟨rfl, fun k hk => .inr (World.ownsRow.lt (h5.own _ (getE_mem (i := 3) rfl)) k hk).1⟩
      · exact ⟨rfl, fun k hk => .inr (hG k hk)⟩) (fun e he k hk => by
      simp only [List.mem_cons, List.not_mem_nil, or_false] at he
      rcases he with rfl | rfl
      · exact .inr ⟨_, List.mem_cons_self, hk⟩
      · exact .inr ⟨_, List.mem_cons_of_mem _ List.mem_cons_self, hk⟩)
    have hw5 := Hp.reb (pre := [_, _]) (b' := w.heap.size) hw4 h1.size
    have hw6 := Hp.reb (pre := [_, _, _]) (b' := w.heap.size) hw5 h1.size
    have hGw : ∀ k, G k → w.heap.size ≤ k := fun k hk => Nat.le_trans h1.size (hG k hk)
    refine ⟨_, _, e1, hw6, ?_⟩
    clear hw3 hw4 hw5 hw6 h5 hG
    obtain ⟨d, hd⟩ : ∃ d, d = innD all := ⟨_, rfl⟩
    have hdd : partD all (headD all).1 (headD all).2 = d := by rw [hd]; rfl
    rw [hdd] at hsr hsi ⊢
    have hdf : d.H.Fit := by rw [hd]; exact innD_fit hbd.1
    have hdr : ∀ r ∈ d.rs, okR r := by
      rw [hd]
      unfold innD partD
      split
      · exact fun r hr => by cases hr
      split
      · exact fun r hr => by cases hr
      · exact pR_okR hbd.1 _ _
    have hsl : s.rn ≤ 1000 := by
      rw [hsr, hd]
      have h3 := pF_bd hbd.1 (most := 32) (by decide) (p3 all (headD all).2)
      unfold innD partD
      split
      · exact Nat.zero_le _
      split
      · exact Nat.zero_le _
      · dsimp only
        rw [pR_len]
        omega
    repeat (first | refine T_seq ?_ | refine T_region ?_ | refine S_nil ?_ | refine S_pure tabOk rfl ?_)
    have hee : enE d.q.1 (all.length - d.q.2) = endD all := by rw [hd]; rfl
    refine S_tin 1 rfl Try.call64 rfl (fun w1 h1 h => end_t h (hIn h1 6 rfl)) rfl ?_
    rw [hee]
    have hok' : okK (headD (openR zs)).1.kd := by rw [← hall]; exact hok
    repeat (first | refine T_seq ?_ | refine T_region ?_ | refine S_nil ?_ | refine S_pure tabOk rfl ?_)
    refine T_cond_dec rfl (fun h6 => ?_) (fun h6 => ?_)
    · have e : decT zs = (endD all, zH, [], []) := by
        unfold decT
        rw [if_neg (by omega), if_neg h2, if_neg (fun h => h hok'), ← hall, if_pos h6]
      rw [e]
      repeat (first | refine T_seq ?_ | refine T_region ?_ | refine S_pure tabOk rfl ?_ | refine S_q (Q_build tabOk rfl rfl rfl rfl rfl rfl rfl) ?_)
      refine S_store tabOk 8 rfl rfl rfl rfl rfl rfl ?_
      repeat (first | refine S_nil ?_ | refine pthen_ret ?_ | refine T_ret ?_ | refine S_pure tabOk rfl ?_)
      exact ret2 rfl (ResIs.cellO tabOk 8 rfl rfl rfl rfl) rfl (fun w' hw => ⟨⟨none, 0, 0, none, 0, 0⟩, rfl, hw.below (by repeat (first | exact new_nil | refine new_rx (by assumption) ?_ | refine new_cons (by first | assumption | omega) ?_ | refine newrow hw 2 rfl (Nat.le_refl _) ?_ | refine newrow hw 3 rfl (Nat.le_refl _) ?_ | refine newrow hw 6 rfl (Nat.le_refl _) ?_ | refine newrow hw 7 rfl (Nat.le_refl _) ?_)), fsR_zero _ _⟩)
    · have hFs : ∀ {w' : World} {x0 x1 x5 x6 x7 x8 : HE}, Hp w w' [x0, x1, .row w.heap.size (.slice s.ra s.rn s.rc) 102 2 s.rn (cellsR d.rs), .row w.heap.size (.slice s.ia s.im s.ic) 54 3 s.im css.flatten, bodE css d.its G, x5, x6, x7, x8] → FsR w' (fun k => w.heap.size ≤ k) s d.rs d.its := fun h => ⟨.of_row flat_run (h.own _ (getE_mem (i := 2) rfl)) hsr.symm hdr fun k hk _ => hk, Bod.slr (Vp.mono _ (h.own _ (getE_mem (i := 4) rfl)).1 hGw) (h.own _ (getE_mem (i := 3) rfl)) hsi.symm fun k hk _ => hk⟩
      repeat (first | refine T_seq ?_ | refine T_region ?_ | refine pthen_normal ?_ | refine T_skip ?_ | refine S_load tabOk 0 rfl rfl rfl ?_)
      by_cases hR : frR d.H d.rs d.its
      · refine S_callq (v := .bool true) rfl Try.call16 (fun w1 h1 => (right_ok d.H s hdf _ d.rs d.its w1 (hFs h1) (by omega)).mono fun e w' ⟨e1, e2⟩ => ⟨by rw [e1]; exact retb (decide_eq_true hR), e2⟩) ?_
        have e : decT zs = (0, d.H, d.rs, d.its) := by
          unfold decT
          rw [if_neg (by omega), if_neg h2, if_neg (fun h => h hok'), ← hall, if_neg h6, ← hd, if_neg (fun h => h hR)]
        rw [e]
        repeat (first | refine S_nil ?_ | refine S_pure tabOk rfl ?_)
        refine T_cond_f rfl ?_
        repeat (first | refine T_seq ?_ | refine T_region ?_ | refine pthen_normal ?_ | refine T_skip ?_ | refine S_load tabOk 0 rfl rfl rfl ?_)
        refine S_store tabOk 8 rfl rfl rfl rfl rfl rfl ?_
        repeat (first | refine S_nil ?_ | refine T_ret ?_ | refine S_pure tabOk rfl ?_)
        exact ret2 rfl (ResIs.cellO tabOk 8 rfl rfl rfl rfl) rfl (fun w' hw => ⟨s, rfl, hw.below (by repeat (first | exact new_nil | refine new_rx (by assumption) ?_ | refine new_cons (by first | assumption | omega) ?_ | refine newrow hw 2 rfl (Nat.le_refl _) ?_ | refine newrow hw 3 rfl (Nat.le_refl _) ?_ | refine newrow hw 6 rfl (Nat.le_refl _) ?_ | refine newrow hw 7 rfl (Nat.le_refl _) ?_)), hFs hw⟩)
      · refine S_callq (v := .bool false) rfl Try.call16 (fun w1 h1 => (right_ok d.H s hdf _ d.rs d.its w1 (hFs h1) (by omega)).mono fun e w' ⟨e1, e2⟩ => ⟨by rw [e1]; exact retb (decide_eq_false hR), e2⟩) ?_
        have e : decT zs = (1, zH, [], []) := by
          unfold decT
          rw [if_neg (by omega), if_neg h2, if_neg (fun h => h hok'), ← hall, if_neg h6, ← hd, if_pos hR]
        rw [e]
        repeat (first | refine S_nil ?_ | refine S_pure tabOk rfl ?_)
        refine T_cond_t rfl ?_
        repeat (first | refine T_seq ?_ | refine T_region ?_ | refine S_q (Q_build tabOk rfl rfl rfl rfl rfl rfl rfl) ?_)
        refine S_store tabOk 8 rfl rfl rfl rfl rfl rfl ?_
        repeat (first | refine S_nil ?_ | refine pthen_ret ?_ | refine T_ret ?_ | refine S_pure tabOk rfl ?_)
        exact ret2 rfl (ResIs.cellO tabOk 8 rfl rfl rfl rfl) rfl (fun w' hw => ⟨⟨none, 0, 0, none, 0, 0⟩, rfl, hw.below (by repeat (first | exact new_nil | refine new_rx (by assumption) ?_ | refine new_cons (by first | assumption | omega) ?_ | refine newrow hw 2 rfl (Nat.le_refl _) ?_ | refine newrow hw 3 rfl (Nat.le_refl _) ?_ | refine newrow hw 6 rfl (Nat.le_refl _) ?_ | refine newrow hw 7 rfl (Nat.le_refl _) ?_)), fsR_zero _ _⟩)

def bx (x y : Int) : Int := bits .xor .u8 x y
theorem bx_fits (x y : Int) : Fits .u8 (bx x y) := by
  have e : bx x y = IntKind.u8.wrap ((BitVec.ofInt 8 x ^^^ BitVec.ofInt 8 y).toNat : Int) := rfl
  rw [e, wrap8]
  exact fits8 (by omega)
/-- What Decode answers. -/
def decP (r : Int × Hd × List Run × List ItemI) : Vp := ⟨fun w A v => ∃ s, v = .tuple #[frV r.2.1 s, .int .i64 r.1] ∧ FsR w A s r.2.2.1 r.2.2.2, fun ⟨s, e, h⟩ hk => ⟨s, e, h.r.keep hk, h.i.keep hk⟩⟩
theorem decode_v {a : Option Addr} {n c : Nat} {zs : List Int} (w : World) (hx : Ints .u8 w a n c zs) : Calls Try.prog 25 #[.slice a n c] w fun e w' => ∃ v, e = .returned v ∧ Below w.heap.size w w' ∧ (decP (decT zs)).at_ w' (fun k => w.heap.size ≤ k) v :=
  (decode_ok w hx).mono fun e w' ⟨s, e1, e2, e3⟩ => ⟨_, e1, e2, s, rfl, e3⟩

/-! ### Slices that are built of slices of bytes -/

/-! ### What was encoded is read again -/
/-! ### What was read is encoded again -/


section
variable {b : Nat} {A : Option Addr} {N C : Nat} {all : List Int} {s : St} {w : World}
end



end Go.Proofs.Ytnefhhoijonnaaa
