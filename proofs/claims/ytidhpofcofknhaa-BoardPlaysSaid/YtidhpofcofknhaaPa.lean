/-
  Contracts of package pause. Conditions: each theorem's own. An engine of rules for walks, part Ab: in a region that draws: places in a slice of which something is true; two blocks that a callee turns. No program's text; conditions: each theorem's own.
  Conditions: each theorem's own.
-/
import Derived.Test.YtidhpofcofknhaaIt
namespace Go.Proofs.Ytidhpofcofknhaa
open Go Go.RowKit
set_option linter.unusedVariables false


theorem right_ok (f m : Int) (w : World) : Calls Try.prog 34 #[.agg #[.int .i64 f, .int .i64 m]] w fun e w' => e = .returned (.bool (decide (1 ≤ f ∧ f ≤ m ∧ m ≤ 1099511627776))) ∧ Below w.heap.size w w' := by
  refine enter1 Try.func34 rfl rfl (Hp.refl w) ?_
  repeat (first | refine T_seq ?_ | refine T_region ?_)
  refine S_new tabOk rfl (fun b hb => ?_)
  repeat (first | refine T_seq ?_ | refine T_region ?_ | refine S_nil ?_ | refine S_pure tabOk rfl ?_ | refine S_load tabOk 0 rfl rfl rfl ?_)
  refine S_split rfl rfl (fun h => ?_) (fun h => ?_)
  all_goals
    repeat (first | refine S_nil ?_ | refine T_ret ?_ | refine S_pure tabOk rfl ?_ | refine S_pass rfl rfl rfl ?_ | refine S_load tabOk 0 rfl rfl rfl ?_)
    try refine S_split rfl rfl (fun h => ?_) (fun h => ?_)
  all_goals
    repeat (first | refine S_nil ?_ | refine T_ret ?_ | refine S_pure tabOk rfl ?_ | refine S_pass rfl rfl rfl ?_ | refine S_load tabOk 0 rfl rfl rfl ?_)
    refine ret1 rfl rfl (fun w' hw => ⟨retb (by first | rfl | exact decide_eq_true (by omega) | exact decide_eq_false (by omega) | exact dec_eq (by omega) | exact false_dec (by omega) | exact true_dec (by omega)), hw.below (by repeat (first | exact new_nil | refine new_cons (by omega) ?_))⟩)
/-- Wait of the program. -/
def waitP (f m t : Int) : Int := if 40 < max t 0 ∨ m / 2 ^ (max t 0).toNat < f then m else IntKind.i64.wrap (f * 2 ^ (max t 0).toNat)
theorem wait_ok (f m t : Int) (w : World) : Calls Try.prog 26 #[.agg #[.int .i64 f, .int .i64 m], .int .i64 t] w fun e w' => e = .returned (.int .i64 (waitP f m t)) ∧ Below w.heap.size w w' := by
  refine enter2 Try.func26 rfl rfl (Hp.refl w) ?_
  repeat (first | refine T_seq ?_ | refine T_region ?_)
  refine S_new tabOk rfl (fun b hb => ?_)
  repeat (first | refine T_draw (by kernel_rfl) (by kernel_rfl) ?_ | refine D_pure tabOk rfl ?_ | refine T_seq ?_ | refine T_region ?_ | refine S_nil ?_ | refine S_pure tabOk rfl ?_)
  refine D_split rfl rfl (fun h => ?_) (fun h => ?_)
  · repeat (first | refine D_all rfl ?_ | refine D_pure tabOk rfl ?_ | refine D_pass rfl rfl rfl ?_ | refine T_seq ?_ | refine T_region ?_ | refine S_nil ?_ | refine pthen_ret ?_ | refine T_ret ?_ | refine T_cond_t rfl ?_ | refine S_pure tabOk rfl ?_ | refine S_load tabOk 0 rfl rfl rfl ?_)
    refine ret1 rfl rfl (fun w' hw => ⟨reti (by unfold waitP; rw [if_pos (.inl h)]), hw.below (by repeat (first | exact new_nil | refine new_cons (by omega) ?_))⟩)
  · repeat (first | refine D_pure tabOk rfl ?_ | refine D_load tabOk 0 rfl rfl rfl ?_)
    refine D_q (Q_shr rfl rfl rfl (by simp only [IntKind.bits]; omega)) ?_
    repeat (first | refine D_all rfl ?_ | refine D_pure tabOk rfl ?_)
    refine T_cond_dec rfl (fun h2 => ?_) (fun h2 => ?_)
    · repeat (first | refine T_seq ?_ | refine T_region ?_ | refine S_nil ?_ | refine pthen_ret ?_ | refine T_ret ?_ | refine S_pure tabOk rfl ?_ | refine S_load tabOk 0 rfl rfl rfl ?_)
      refine ret1 rfl rfl (fun w' hw => ⟨reti (by unfold waitP; rw [if_pos (.inr h2)]), hw.below (by repeat (first | exact new_nil | refine new_cons (by omega) ?_))⟩)
    · repeat (first | refine T_seq ?_ | refine T_region ?_ | refine pthen_normal ?_ | refine T_skip ?_ | refine S_pure tabOk rfl ?_ | refine S_load tabOk 0 rfl rfl rfl ?_)
      refine S_q (Q_shl rfl rfl rfl (by simp only [IntKind.bits]; omega)) ?_
      repeat (first | refine S_nil ?_ | refine T_ret ?_ | refine S_pure tabOk rfl ?_)
      refine ret1 rfl rfl (fun w' hw => ⟨reti (by unfold waitP; rw [if_neg (by rintro (h3 | h3) <;> contradiction)]), hw.below (by repeat (first | exact new_nil | refine new_cons (by omega) ?_))⟩)
/-- Wait of the document. -/
def waitR (f m : Int) : Nat → Int
  | 0 => f
  | k + 1 => if waitR f m k < m then 2 * waitR f m k else waitR f m k
theorem waitR_bound {f m : Int} (hf : 1 ≤ f) (hm : m ≤ 1099511627776) (hfm : f ≤ m) : ∀ k, 1 ≤ waitR f m k ∧ waitR f m k ≤ 2 * m
  | 0 => by unfold waitR; omega
  | k + 1 => by
    have := waitR_bound hf hm hfm k
    unfold waitR
    split <;> omega
theorem waitR_stop {f m : Int} {k : Nat} (h : ¬ waitR f m k < m) : ∀ j, waitR f m (k + j) = waitR f m k
  | 0 => rfl
  | j + 1 => by
    have := waitR_stop h j
    rw [← Nat.add_assoc, waitR, this, if_neg h]
theorem waitr_ok (f m t : Int) (w : World) (hf : 1 ≤ f) (hm : m ≤ 1099511627776) (hfm : f ≤ m) (ht : t ≤ 9223372036854775807) : Calls Try.prog 38 #[.int .i64 f, .int .i64 m, .int .i64 t] w fun e w' => e = .returned (.int .i64 (min m (waitR f m t.toNat))) ∧ Below w.heap.size w w' := by
  refine enter3 Try.func38 rfl rfl (Hp.refl w) ?_
  repeat (first | refine T_seq ?_ | refine T_region ?_ | refine T_block ?_ | refine S_nil ?_ | refine S_pure tabOk rfl ?_)
  refine T_loop (ι := Nat) (fun k => [(0, .int .i64 f), (1, .int .i64 m), (2, .int .i64 t), (7, .int .i64 (waitR f m k)), (8, .int .i64 (k : Int))]) (fun _ => []) (fun k => (k : Int) ≤ max t 0) (fun k => (t - k).toNat) 0 (by omega) (by repeat (first | exact Sub.nil | refine Sub.cons rfl ?_)) (fun _ h => h) ?_
  intro k hk
  have hb := waitR_bound hf hm hfm k
  have fin : ∀ x : Int, x = waitR f m k → (¬ (k : Int) < t ∨ ¬ waitR f m k < m) → waitR f m t.toNat = x := by
    rintro x rfl h
    rcases h with h | h
    · have : t.toNat = k ∨ (t ≤ 0 ∧ k = 0) := by omega
      rcases this with e | ⟨e1, e2⟩
      · rw [e]
      · rw [show t.toNat = 0 from by omega, e2]
    · rcases Nat.lt_or_ge k t.toNat with h1 | h1
      · rw [show t.toNat = k + (t.toNat - k) from by omega, waitR_stop h]
      · rw [show t.toNat = k from by omega]
  repeat (first | refine T_seq ?_ | refine T_region ?_ | refine S_pure tabOk rfl ?_)
  refine S_split rfl rfl (fun h => ?_) (fun h => ?_)
  · repeat (first | refine S_nil ?_ | refine S_pure tabOk rfl ?_)
    refine T_cond_dec rfl (fun h2 => ?_) (fun h2 => ?_)
    · repeat (first | refine T_seq ?_ | refine T_region ?_ | refine T_block ?_ | refine S_nil ?_ | refine pthen_normal ?_ | refine inb_normal ?_ | refine T_skip ?_ | refine S_i64 tabOk rfl (by omega) ?_ | refine S_pure tabOk rfl ?_ | refine T_region_any ?_)
      refine ⟨k + 1, by omega, ?_, fun _ h => h, by omega⟩
      have e : waitR f m (k + 1) = 2 * waitR f m k := by rw [waitR, if_pos h2]
      rw [e]
      repeat (first | exact Sub.nil | refine Sub.cons rfl ?_ | refine Sub.cons_int rfl (by omega) ?_)
    · have hx := fin _ rfl (.inr h2)
      repeat (first | refine T_seq ?_ | refine T_region ?_ | refine S_nil ?_ | refine pthen_normal ?_ | refine inb_hit ?_ | refine pthen_exit ?_ | refine T_exit ?_ | refine S_pure tabOk rfl ?_)
      refine T_cond_dec rfl (fun h3 => ?_) (fun h3 => ?_)
      · repeat (first | refine T_seq ?_ | refine T_region ?_ | refine S_nil ?_ | refine pthen_ret ?_ | refine T_ret ?_ | refine S_pure tabOk rfl ?_)
        refine ret1 rfl rfl (fun w' hw => ⟨reti (by omega), hw.below (by repeat (first | exact new_nil))⟩)
      · repeat (first | refine T_seq ?_ | refine T_region ?_ | refine S_nil ?_ | refine pthen_normal ?_ | refine T_skip ?_ | refine T_ret ?_ | refine S_pure tabOk rfl ?_)
        refine ret1 rfl rfl (fun w' hw => ⟨reti (by omega), hw.below (by repeat (first | exact new_nil))⟩)
  · have hx := fin _ rfl (.inl h)
    repeat (first | refine T_seq ?_ | refine T_region ?_ | refine S_nil ?_ | refine pthen_normal ?_ | refine inb_hit ?_ | refine pthen_exit ?_ | refine T_exit ?_ | refine T_cond_f rfl ?_ | refine S_pure tabOk rfl ?_ | refine S_pass rfl rfl rfl ?_)
    refine T_cond_dec rfl (fun h3 => ?_) (fun h3 => ?_)
    · repeat (first | refine T_seq ?_ | refine T_region ?_ | refine S_nil ?_ | refine pthen_ret ?_ | refine T_ret ?_ | refine S_pure tabOk rfl ?_)
      refine ret1 rfl rfl (fun w' hw => ⟨reti (by omega), hw.below (by repeat (first | exact new_nil))⟩)
    · repeat (first | refine T_seq ?_ | refine T_region ?_ | refine S_nil ?_ | refine pthen_normal ?_ | refine T_skip ?_ | refine T_ret ?_ | refine S_pure tabOk rfl ?_)
      refine ret1 rfl rfl (fun w' hw => ⟨reti (by omega), hw.below (by repeat (first | exact new_nil))⟩)
/-- The wait, and all of them together. -/
def W (f m : Int) (k : Nat) : Int := min m (f * 2 ^ k)
def SW_Pa (f m : Int) : Nat → Int
  | 0 => 0
  | k + 1 => SW_Pa f m k + W f m k
theorem pow_pos (k : Nat) : (1 : Int) ≤ 2 ^ k := by
  have : (0 : Int) < 2 ^ k := Int.pow_pos (by decide)
  omega
theorem W_pos {f m : Int} (hf : 1 ≤ f) (hfm : f ≤ m) (k : Nat) : 1 ≤ W f m k ∧ W f m k ≤ m := by
  have h1 := pow_pos k
  have h2 : 1 * 1 ≤ f * 2 ^ k := Int.mul_le_mul hf h1 (by decide) (by omega)
  unfold W
  omega
theorem W_succ {f m : Int} (hf : 1 ≤ f) (k : Nat) (h : W f m k = m) : W f m (k + 1) = m := by
  unfold W at *
  have h1 := pow_pos k
  have h2 : 1 * 1 ≤ f * 2 ^ k := Int.mul_le_mul hf h1 (by decide) (by omega)
  rw [Int.pow_succ, ← Int.mul_assoc]
  omega
theorem W_stop {f m : Int} (hf : 1 ≤ f) {k : Nat} (h : W f m k = m) : ∀ j, W f m (k + j) = m
  | 0 => h
  | j + 1 => W_succ hf (k + j) (W_stop hf h j)
theorem W_forty {f m : Int} (hf : 1 ≤ f) (hm : m ≤ 1099511627776) : W f m 40 = m := by
  unfold W
  have : f * 2 ^ 40 = f * 1099511627776 := rfl
  rw [this]
  omega
theorem SW_bound {f m : Int} (hf : 1 ≤ f) (hfm : f ≤ m) : ∀ k : Nat, (k : Int) ≤ SW_Pa f m k ∧ SW_Pa f m k ≤ k * m
  | 0 => by simp [SW_Pa]
  | k + 1 => by
    have h1 := SW_bound hf hfm k
    have h2 := W_pos hf hfm k
    have h3 : ((k + 1 : Nat) : Int) * m = k * m + m := by rw [Int.natCast_add, Int.add_mul]; omega
    unfold SW_Pa
    omega
theorem SW_stop {f m : Int} (hf : 1 ≤ f) {k : Nat} (h : W f m k = m) : ∀ j : Nat, SW_Pa f m (k + j) = SW_Pa f m k + j * m
  | 0 => by simp
  | j + 1 => by
    have h1 := SW_stop hf h j
    have h2 := W_stop hf h j
    have h3 : ((j + 1 : Nat) : Int) * m = j * m + m := by rw [Int.natCast_add, Int.add_mul]; omega
    rw [← Nat.add_assoc, SW_Pa, h1, h2, h3]
    omega
theorem waitP_W {f m : Int} (hf : 1 ≤ f) (hm : m ≤ 1099511627776) (hfm : f ≤ m) (t : Int) : waitP f m t = W f m t.toNat := by
  have ht : (max t 0).toNat = t.toNat := by omega
  unfold waitP
  rw [ht]
  have h1 := pow_pos t.toNat
  by_cases h40 : 40 < max t 0
  · rw [if_pos (.inl h40)]
    have := W_stop hf (W_forty (m := m) hf hm) (t.toNat - 40)
    rw [show 40 + (t.toNat - 40) = t.toNat from by omega] at this
    rw [this]
  · by_cases h : m / 2 ^ t.toNat < f
    · rw [if_pos (.inr h)]
      have := (Int.ediv_lt_iff_lt_mul (by omega : (0 : Int) < 2 ^ t.toNat)).1 h
      unfold W; omega
    · rw [if_neg (by omega)]
      have h2 : ¬ m < f * 2 ^ t.toNat := fun hh => h ((Int.ediv_lt_iff_lt_mul (by omega : (0 : Int) < 2 ^ t.toNat)).2 hh)
      have h3 := W_pos hf hfm t.toNat
      unfold W at h3 ⊢
      rw [IntWalk.i64_in _ (by omega)]
      omega
theorem waitR_W {f m : Int} (hf : 1 ≤ f) (hfm : f ≤ m) : ∀ k : Nat, min m (waitR f m k) = W f m k ∧ (waitR f m k < m → waitR f m k = f * 2 ^ k)
  | 0 => by simp [waitR, W]
  | k + 1 => by
    obtain ⟨h1, h2⟩ := waitR_W hf hfm k
    unfold waitR
    split
    · rename_i h
      have h3 := h2 h
      have e : f * 2 ^ (k + 1) = 2 * (f * 2 ^ k) := by rw [Int.pow_succ, ← Int.mul_assoc, Int.mul_comm]
      unfold W
      rw [h3, e]
      omega
    · rename_i h
      have h4 : W f m k = m := by omega
      have h5 := W_succ hf k h4
      omega
theorem wait_w (f m t : Int) (w : World) (hf : 1 ≤ f) (hm : m ≤ 1099511627776) (hfm : f ≤ m) : Calls Try.prog 26 #[.agg #[.int .i64 f, .int .i64 m], .int .i64 t] w fun e w' => e = .returned (.int .i64 (W f m t.toNat)) ∧ Below w.heap.size w w' :=
  (wait_ok f m t w).mono fun e w' ⟨h1, h2⟩ => ⟨by rw [h1, waitP_W hf hm hfm], h2⟩
theorem waitr_w (f m t : Int) (w : World) (hf : 1 ≤ f) (hm : m ≤ 1099511627776) (hfm : f ≤ m) (ht : t ≤ 9223372036854775807) : Calls Try.prog 38 #[.int .i64 f, .int .i64 m, .int .i64 t] w fun e w' => e = .returned (.int .i64 (W f m t.toNat)) ∧ Below w.heap.size w w' :=
  (waitr_ok f m t w hf hm hfm ht).mono fun e w' ⟨h1, h2⟩ => ⟨by rw [h1, (waitR_W hf hfm _).1], h2⟩
theorem and_mask (a : Int) (m : Nat) (hm : m < 9223372036854775808) : 0 ≤ bits .and .i64 a (m : Int) ∧ bits .and .i64 a (m : Int) ≤ m := by
  have e : bits .and .i64 a (m : Int) = IntKind.i64.wrap ((BitVec.ofInt 64 a &&& BitVec.ofInt 64 (m : Int)).toNat : Int) := rfl
  have h1 : (BitVec.ofInt 64 (m : Int)).toNat = m := by
    rw [BitVec.ofInt_natCast, BitVec.toNat_ofNat]
    omega
  have h2 : (BitVec.ofInt 64 a &&& BitVec.ofInt 64 (m : Int)).toNat ≤ m := by
    rw [BitVec.toNat_and, h1]
    exact Nat.and_le_right
  rw [e, IntWalk.i64_in _ (by omega)]
  omega

section
variable {P : Program} {tb : Tab} {n : Nat} {w0 : World} {all : Array Oper} {os : List Oper} {o : Oper} {dl : DL} {ol : OL} {F : DL → Prop} {d : Nat}
def rp (r : Nat → Option Value) (tx : Nat) (u : Value) : Nat → Option Value := fun t => if t = tx then some u else r t
/-- An operation that looks at a slot of which something is true. -/
theorem D_opp (tx : Nat) {Φ : Value → World → Prop} (E : Ent) (hd : o.dst = some d) (hn : Nat.blt d n = true) (hg : gd all (rs all o dl) o.guard = some true) (htx : (o.looksAt all).contains tx = true) (hx : lk dl tx = some (.pr Φ)) (hst : E.Stable)
    (h : ∀ a u w, Rd a (rp (rs all o dl) tx u) → Hp w0 w ol → Φ u w → ∃ v, (execOp a.eval o).run P w = .ok (.value v) w ∧ E.at v w) (k : D P n w0 all os ((d, E) :: dl) ol F) : D P n w0 all (o :: os) dl ol F := by
  have hn' : d < n := by simpa [Nat.blt_eq] using hn
  refine D_of (E := E) ⟨fun a w h1 h2 h3 h4 => ?_, hst, fun d' hd' => ?_⟩ hd k
  · have hrd := rs_rd h4
    have hw := gd_wanted hrd hg
    refine ⟨fun _ => ?_, (fun hn => by rw [hw] at hn; cases hn)⟩
    have hs := h4 tx (by simpa using htx)
    rw [hx] at hs
    obtain ⟨u, hu1, hu2⟩ := hs
    obtain ⟨v, e1, e2⟩ := h a u w (fun t v hv => by
      unfold rp at hv
      split at hv
      · rename_i e
        subst e
        cases hv
        exact hu1
      · exact hrd t v hv) h3 hu2
    simp only [Oper.wp, e1, Oper.upon]
    exact ⟨v, rfl, Below.refl _ _, e2⟩
  · rw [hd] at hd'; cases hd'; exact hn'
/-- A pointer, a slice, of whose place something is true. -/
def PtrP (X : Nat → Nat → World → Prop) (u : Value) (w : World) : Prop := ∃ b off, u = .pointer (some ⟨b, off, none⟩) ∧ X b off w
def SliP (m : Nat) (X : Nat → Nat → World → Prop) (u : Value) (w : World) : Prop := ∃ b off c, u = .slice (some ⟨b, off, none⟩) m c ∧ X b off w
def StabP (X : Nat → Nat → World → Prop) : Prop := ∀ b off w w', X b off w → Below w.heap.size w w' → X b off w'
theorem PtrP.stable {X : Nat → Nat → World → Prop} (h : StabP X) : ∀ v w w', PtrP X v w → Below w.heap.size w w' → PtrP X v w' := fun v w w' ⟨b, off, e, hx⟩ hb => ⟨b, off, e, h b off w w' hx hb⟩
theorem SliP.stable {m : Nat} {X : Nat → Nat → World → Prop} (h : StabP X) : ∀ v w w', SliP m X v w → Below w.heap.size w w' → SliP m X v w' := fun v w w' ⟨b, off, c, e, hx⟩ hb => ⟨b, off, c, e, h b off w w' hx hb⟩
/-- Its cells are these. -/
def CellsP (xs : List Value) (b off : Nat) (w : World) : Prop := b < w.heap.size ∧ ∀ j u, xs[j]? = some u → w.cell? ⟨b, off + j, none⟩ = some u
theorem CellsP.stab (xs : List Value) : StabP (CellsP xs) := fun b off w w' ⟨h1, h2⟩ hb => ⟨Nat.lt_of_lt_of_le h1 hb.size, fun j u hu => (hb.cell (p := ⟨b, off + j, none⟩) h1).trans (h2 j u hu)⟩
theorem SliP.of_own {w : World} {base : Nat} {e : TypeId} {sz m c : Nat} {a : Option Addr} {xs : List Value} (h : w.ownsRow base e sz (.slice a m c) m xs) (hm : 0 < m) : SliP m (CellsP xs) (.slice a m c) w := by
  obtain ⟨b, off, rfl, hlt, hc⟩ := (Sl.of_own h).get hm
  exact ⟨b, off, c, rfl, hlt, hc⟩
theorem D_idxp (ht : TabOk P tb) (tx : Nat) {t e : TypeId} {y : Operand} {k : IntKind} {i : Int} {ti te : TI} {m j sz : Nat} {xs : List Value} (hs : opAt? n all (rs all o dl) o = some (d, .indexAddr t (.tmp tx) y)) (hn : Nat.blt d n = true) (htx : (o.looksAt all).contains tx = true) (hx : lk dl tx = some (.pr (SliP m (CellsP xs)))) (hy : ev (rs all o dl) y = some (.int k i))
    (hti : tl tb t = some ti) (hd : ti.desc = .slice e) (hte : tl tb e = some te) (hsz : te.size = sz) (hij : i = ((j : Nat) : Int)) (hj : j < m) (k : D P n w0 all os ((d, .pr (PtrP (CellsP (xs.drop (j * sz))))) :: dl) ol F) : D P n w0 all (o :: os) dl ol F := by
  obtain ⟨hdst, hlt, hg, hop⟩ := opAt_spec hs
  refine D_opp tx (.pr (PtrP (CellsP (xs.drop (j * sz))))) hdst hn hg htx hx (PtrP.stable (CellsP.stab _)) (fun ac u w hrd hh hu => ?_) k
  obtain ⟨b, off, c, rfl, hb, hc⟩ := hu
  refine ⟨.pointer (some ⟨b, off + j * sz, none⟩), ?_, b, off + j * sz, rfl, hb, fun q u hq => ?_⟩
  · have h1 := ht.under hti w
    rw [hd] at h1
    have h2 := ht.sizeOf hte w
    have h4 : ac.eval (.tmp tx) = .slice (some ⟨b, off, none⟩) m c := by
      have := hrd tx _ (by unfold rp; rw [if_pos rfl])
      simp [Act.eval, Array.getD_eq_getD_getElem?, this]
    have h5 : ac.eval y = .int ‹IntKind› i := by
      refine Rd.ev (r := rs all o dl) (fun t v hv => ?_) hy
      by_cases ht : t = tx
      · subst ht
        have hr : rs all o dl t = none := by
          unfold rs
          split
          · rename_i hv
            rw [hx] at hv
            cases hv
          · rfl
        rw [hr] at hv
        cases hv
      · exact hrd t v (by unfold rp; rw [if_neg ht]; exact hv)
    unfold execOp
    subst hij
    have h3 : (0 : Int) ≤ j ∧ (j : Int) < m := by omega
    simp [hop, h4, h5, Instr.indexAt, asIntOf, h1, h2, hj, hsz, Addr.add_lit]
  · rw [List.getElem?_drop] at hq
    rw [Nat.add_assoc]
    exact hc _ u hq
/-- A field of what it points to. -/
theorem D_fldp (ht : TabOk P tb) (tx : Nat) (q : Nat) {xs : List Value} (hd : o.dst = some d) (hn : Nat.blt d n = true) (hg : gd all (rs all o dl) o.guard = some true) (htx : (o.looksAt all).contains tx = true) (hx : lk dl tx = some (.pr (PtrP (CellsP xs))))
    (hp : ∀ b off, pureVal tb (rp (rs all o dl) tx (.pointer (some ⟨b, off, none⟩))) o.op = some (.pointer (some ⟨b, off + q, none⟩))) (k : D P n w0 all os ((d, .pr (PtrP (CellsP (xs.drop q)))) :: dl) ol F) : D P n w0 all (o :: os) dl ol F := by
  refine D_opp tx (.pr (PtrP (CellsP (xs.drop q)))) hd hn hg htx hx (PtrP.stable (CellsP.stab _)) (fun ac u w hrd hh hu => ?_) k
  obtain ⟨b, off, rfl, hb, hc⟩ := hu
  exact ⟨_, pure_run ht hrd (hp b off) w, b, off + q, rfl, hb, fun j u hq => by
    rw [List.getElem?_drop] at hq
    rw [Nat.add_assoc]
    exact hc _ u hq⟩
/-- What it points to. -/
theorem D_loadp (ht : TabOk P tb) (tx : Nat) {t : TypeId} {ti : TI} {v : Value} {xs : List Value} (hs : opAt? n all (rs all o dl) o = some (d, .load t (.tmp tx))) (hn : Nat.blt d n = true) (htx : (o.looksAt all).contains tx = true) (hx : lk dl tx = some (.pr (PtrP (CellsP xs))))
    (hti : tl tb t = some ti) (ha : isAggD ti.desc = false) (hv : xs[0]? = some v) (k : D P n w0 all os ((d, .ex v) :: dl) ol F) : D P n w0 all (o :: os) dl ol F := by
  obtain ⟨hdst, hlt, hg, hop⟩ := opAt_spec hs
  refine D_opp tx (.ex v) hdst hn hg htx hx trivial (fun ac u w hrd hh hu => ?_) k
  obtain ⟨b, off, rfl, hb, hc⟩ := hu
  have h4 : ac.eval (.tmp tx) = .pointer (some ⟨b, off, none⟩) := by
    have := hrd tx _ (by unfold rp; rw [if_pos rfl])
    simp [Act.eval, Array.getD_eq_getD_getElem?, this]
  refine ⟨v, ?_, rfl⟩
  have hl := loadVar_one ht hti ha (hc 0 v hv)
  rw [Nat.add_zero] at hl
  unfold execOp
  simp [hop, h4, Instr.loadAt, Instr.sureAddr, hl]
/-- A function's value in a slot is called. -/
theorem D_callv {f : Operand} {xs : Array Operand} {ts : Array TypeId} {g : FuncId} {Es : List Ent} (hs : opAt? n all (rs all o dl) o = some (d, .call ⟨.value f, xs, ts⟩)) (hf : ev (rs all o dl) f = some (.func (.func g) #[] #[])) (hE : argsD dl xs.toList = some Es) (hcall : ∀ args w, (callFunc g args).run P w = .ok (.enter g args) w) (E : Ent) (hst : E.Stable)
    (hc : ∀ w vs, Hp w0 w ol → EntsAt Es vs w → Calls P g vs.toArray w (fun e w' => ∃ v, e = .returned v ∧ Below w.heap.size w w' ∧ E.at v w')) (k : D P n w0 all os ((d, E) :: dl) ol F) : D P n w0 all (o :: os) dl ol F := by
  obtain ⟨hdst, hlt, hg, hop⟩ := opAt_spec hs
  refine D_of (E := E) ⟨fun a w h1 h2 h3 h4 => ?_, hst, fun d hd' => ?_⟩ hdst k
  · have hrd := rs_rd h4
    have hw := gd_wanted hrd hg
    refine ⟨fun _ => ?_, (fun hn => by rw [hw] at hn; cases hn)⟩
    have hent : EntsAt Es (xs.toList.map a.eval) w := argsD_at hE fun t ht => h4 t (by
      unfold Oper.looksAt
      refine List.mem_append_left _ (List.mem_filterMap.2 ⟨.tmp t, ?_, rfl⟩)
      rw [hop]
      simp [Op.operands, Call.operands]
      first | exact .inr (by simpa using ht) | simpa using ht)
    have hm : xs.map a.eval = (xs.toList.map a.eval).toArray := by
      apply Array.ext'
      simp
    have hr : (execOp a.eval o).run P w = .ok (.enter g (xs.toList.map a.eval).toArray) w := by
      unfold execOp
      simp [hop, resolve, hrd.ev hf, Deferred.ofValue, invoke, hcall, hm]
    simp only [Oper.wp, hr, Oper.upon]
    refine (hc w _ h3 hent).mono ?_
    rintro e w' ⟨v, rfl, hb', hv⟩
    exact ⟨v, rfl, hb', hv⟩
  · rw [hdst] at hd'; cases hd'; exact hlt
theorem D_callvR (p : Vp) (A : Nat → Prop) {f : Operand} {xs : Array Operand} {ts : Array TypeId} {g : FuncId} {Es : List Ent} (hs : opAt? n all (rs all o dl) o = some (d, .call ⟨.value f, xs, ts⟩)) (hf : ev (rs all o dl) f = some (.func (.func g) #[] #[])) (hE : argsD dl xs.toList = some Es) (hcall : ∀ args w, (callFunc g args).run P w = .ok (.enter g args) w)
    (hc : ∀ w vs, Hp w0 w ol → EntsAt Es vs w → Calls P g vs.toArray w (fun e w' => ∃ v, e = .returned v ∧ Below w.heap.size w w' ∧ p.at_ w' (BB w0 A ol) v)) (k : D P n w0 all os ((d, .pr (PV p w0 A ol)) :: dl) ol F) : D P n w0 all (o :: os) dl ol F :=
  D_callv hs hf hE hcall (.pr (PV p w0 A ol)) PV.stable hc k
end
theorem ResIs.cellO {P : Program} {tb : Tab} {w0 : World} {l : FL} {o : OL} (ht : TabOk P tb) (i : Nat) {t ty b : Nat} {ti : TI} {cs : List Value} {e : TypeId} {fz : Nat × Nat} {r : Bool} {v : Value} (hl : look l t = some (.pointer (some ⟨b, 0, none⟩))) (hti : tl tb ty = some ti) (hi : getE o i = some (.blk b (.cells ⟨cs⟩ e fz) r)) (hv : loadOf ti cs 0 = some v) : ResIs P w0 l o (.cell t ty) v :=
  ⟨_, hl, fun w hw => loadVar_own ht hti (hw.own _ (getE_mem hi)) hv⟩
/-- A call that turns some entries of our own, that stand first. -/
theorem Hp.graftG {w0 w w' : World} {A L ol : OL} (hh : Hp w0 w (A ++ ol)) (h2 : Hp w w' L) (hA : ∀ e ∈ A, e.ex = true) (hL : ∀ e ∈ L, e.ex = true ∧ ∀ k, e.has k → (∃ e' ∈ A, e'.has k) ∨ w.heap.size ≤ k) (hk : ∀ e ∈ A, ∀ k, e.has k → w0.heap.size ≤ k ∨ ∃ e' ∈ L, e'.has k) : Hp w0 w' (L ++ ol) := by
  have hap := List.pairwise_append.1 hh.apart
  have hAo : ∀ e ∈ A, ∀ x ∈ ol, ∀ k, e.has k → ¬ x.has k := fun e he x hx k h1 h3 => hap.2.2 e he x hx (by simp [hA e he]) k h1 h3
  have hLo : ∀ e ∈ L, ∀ x ∈ ol, ∀ k, e.has k → ¬ x.has k := fun e he x hx k h1 h3 => by
    rcases (hL e he).2 k h1 with ⟨e', h4, h5⟩ | h4
    · exact hAo e' h4 x hx k h5 h3
    · have := hh.lt (List.mem_append.2 (.inr hx)) h3
      omega
  refine ⟨h2.os.trans hh.os, h2.tape.trans hh.tape, h2.output.trans hh.output, Nat.le_trans hh.size h2.size, fun k hk0 he => ?_, fun e hm => ?_, List.pairwise_append.2 ⟨h2.apart, hap.2.1, fun e he x hx _ k h1 h3 => hLo e he x hx k h1 h3⟩⟩
  · rw [h2.old k (Nat.lt_of_lt_of_le hk0 hh.size) fun e he' hx => he e (List.mem_append.2 (.inl he')) hx]
    refine hh.old k hk0 fun e hm hx h3 => ?_
    rcases List.mem_append.1 hm with hm | hm
    · rcases hk e hm k h3 with h4 | ⟨e', h4, h5⟩
      · omega
      · exact he e' (List.mem_append.2 (.inl h4)) (hL e' h4).1 h5
    · exact he e (List.mem_append.2 (.inr hm)) hx h3
  · rcases List.mem_append.1 hm with hm | hm
    · exact h2.own e hm
    · exact HE.keep (hh.own e (List.mem_append.2 (.inr hm))) fun k h3 => h2.old k (hh.lt (List.mem_append.2 (.inr hm)) h3) fun e' he' _ h4 => hLo e' he' e hm k h4 h3

end Go.Proofs.Ytidhpofcofknhaa
