/-
  An engine of rules for walks, part F: quiet operations with a side condition (shifts, division, places of slices and arrays, slicing, equality), for plain regions and for those that draw. No program's text; conditions: each theorem's own.
-/
import Derived.Test.YtggnhcgmeibihaaEngE
import Derived.WalkSpells
import Derived.Lib.SliceRun
namespace Go.Proofs.Ytggnhcgmeibihaa
open Go Go.RowKit
set_option linter.unusedVariables false

structure QOp (P : Program) (n : Nat) (w0 : World) (all : Array Oper) (r : Nat → Option Value) (ol : OL) (o : Oper) (d : Nat) (v : Value) : Prop where
  dst : o.dst = some d
  lt : d < n
  gd : gd all r o.guard = some true
  run : ∀ a w, Rd a r → Hp w0 w ol → (execOp a.eval o).run P w = .ok (.value v) w

section
variable {P : Program} {tb : Tab} {n : Nat} {w0 : World} {all : Array Oper} {os : List Oper} {o : Oper} {l : FL} {dl : DL} {ol : OL} {F : DL → Prop} {K : FL → OL → Prop} {Q : Post} {r : Nat → Option Value} {d : Nat} {v : Value}

theorem S_q (h : QOp P n w0 all (look l) ol o d v) (k : S P n w0 all os ((d, v) :: l) ol K Q) : S P n w0 all (o :: os) l ol K Q := by
  refine ⟨fun a w hf hh => wpList_run (v := v) (gd_wanted hf.rd h.gd) (h.run a w hf.rd hh) ?_⟩
  rw [h.dst]
  exact k.out _ w (hf.put h.lt _) hh
theorem D_q (h : QOp P n w0 all (rs all o dl) ol o d v) (k : D P n w0 all os ((d, .ex v) :: dl) ol F) : D P n w0 all (o :: os) dl ol F :=
  D_val h.dst h.lt h.gd h.run k
theorem QOp.eq {v' : Value} (h : QOp P n w0 all r ol o d v) (he : v = v') : QOp P n w0 all r ol o d v' := he ▸ h

/-- Where an operation with its operands stands: destination, operation. -/
def opAt? (n : Nat) (all : Array Oper) (r : Nat → Option Value) (o : Oper) : Option (Nat × Op) :=
  match gd all r o.guard with
  | some true => match o.dst with
    | some d => match Nat.blt d n with
      | true => some (d, o.op)
      | false => none
    | none => none
  | _ => none
theorem opAt_spec {op : Op} (hs : opAt? n all r o = some (d, op)) : o.dst = some d ∧ d < n ∧ gd all r o.guard = some true ∧ o.op = op := by
  unfold opAt? at hs
  split at hs
  · rename_i hg
    split at hs
    · rename_i d' hd
      split at hs
      · rename_i hb
        simp at hs
        exact ⟨by rw [hd, hs.1], by rw [← hs.1]; simpa [Nat.blt_eq] using hb, hg, hs.2⟩
      · cases hs
    · cases hs
  · cases hs

theorem Q_of {op : Op} (hs : opAt? n all r o = some (d, op)) (hr : ∀ a w, Rd a r → Hp w0 w ol → o.op = op → (execOp a.eval o).run P w = .ok (.value v) w) : QOp P n w0 all r ol o d v := by
  obtain ⟨h1, h2, h3, h4⟩ := opAt_spec hs
  exact ⟨h1, h2, h3, fun a w hrd hh => hr a w hrd hh h4⟩

theorem Q_shr {t t' : TypeId} {x y : Operand} {k k' : IntKind} {a b : Int} (hs : opAt? n all r o = some (d, .binOp .shr t x y t')) (hx : ev r x = some (.int k a)) (hy : ev r y = some (.int k' b)) (hb : 0 ≤ b ∧ b ≤ k.bits) :
    QOp P n w0 all r ol o d (.int k (a / 2 ^ b.toNat)) :=
  Q_of hs fun ac w hrd hh hop => by
    unfold execOp
    simp [hop, hrd.ev hx, hrd.ev hy, eqGuard_at_int, binOp_shr, shift_shr k k' a b hb.1 hb.2]
theorem Q_shl {t t' : TypeId} {x y : Operand} {k k' : IntKind} {a b : Int} (hs : opAt? n all r o = some (d, .binOp .shl t x y t')) (hx : ev r x = some (.int k a)) (hy : ev r y = some (.int k' b)) (hb : 0 ≤ b ∧ b ≤ k.bits) :
    QOp P n w0 all r ol o d (.int k (k.wrap (a * 2 ^ b.toNat))) :=
  Q_of hs fun ac w hrd hh hop => by
    unfold execOp
    simp [hop, hrd.ev hx, hrd.ev hy, eqGuard_at_int, binOp_shl, shift_shl k k' a b hb.1 hb.2]
theorem Q_quo {t t' : TypeId} {x y : Operand} {k : IntKind} {a b : Int} (hs : opAt? n all r o = some (d, .binOp .quo t x y t')) (hx : ev r x = some (.int k a)) (hy : ev r y = some (.int k b)) (hb : b ≠ 0) :
    QOp P n w0 all r ol o d (.int k (k.wrap (a.tdiv b))) :=
  Q_of hs fun ac w hrd hh hop => by
    unfold execOp
    simp [hop, hrd.ev hx, hrd.ev hy, eqGuard_at_int, binOp_quo, Op.intDiv, hb]
theorem Q_rem {t t' : TypeId} {x y : Operand} {k : IntKind} {a b : Int} (hs : opAt? n all r o = some (d, .binOp .rem t x y t')) (hx : ev r x = some (.int k a)) (hy : ev r y = some (.int k b)) (hb : b ≠ 0) :
    QOp P n w0 all r ol o d (.int k (a.tmod b)) :=
  Q_of hs fun ac w hrd hh hop => by
    unfold execOp
    simp [hop, hrd.ev hx, hrd.ev hy, eqGuard_at_int, binOp_rem, Op.intDiv, hb]
/-- of numbers from 0 up -/
theorem Q_quo0 {t t' : TypeId} {x y : Operand} {k : IntKind} {a b : Int} (hs : opAt? n all r o = some (d, .binOp .quo t x y t')) (hx : ev r x = some (.int k a)) (hy : ev r y = some (.int k b)) (hb : 1 ≤ b) (ha : 0 ≤ a)
    (hw : ∀ e, 0 ≤ e → e ≤ a → k.wrap e = e) : QOp P n w0 all r ol o d (.int k (a / b)) :=
  (Q_quo hs hx hy (by omega)).eq (by
    rw [Int.tdiv_eq_ediv_of_nonneg ha]
    rw [hw _ (Int.ediv_nonneg ha (by omega)) (Int.ediv_le_self _ ha)])
theorem Q_rem0 {t t' : TypeId} {x y : Operand} {k : IntKind} {a b : Int} (hs : opAt? n all r o = some (d, .binOp .rem t x y t')) (hx : ev r x = some (.int k a)) (hy : ev r y = some (.int k b)) (hb : 1 ≤ b) (ha : 0 ≤ a) :
    QOp P n w0 all r ol o d (.int k (a % b)) :=
  (Q_rem hs hx hy (by omega)).eq (by rw [Int.tmod_eq_emod_of_nonneg ha])

/-! places -/
theorem Q_idx (ht : TabOk P tb) {t e : TypeId} {x y : Operand} {b off m c j sz : Nat} {k : IntKind} {i : Int} {ti te : TI} (hs : opAt? n all r o = some (d, .indexAddr t x y)) (hx : ev r x = some (.slice (some ⟨b, off, none⟩) m c))
    (hy : ev r y = some (.int k i)) (hti : tl tb t = some ti) (hd : ti.desc = .slice e) (hte : tl tb e = some te) (hsz : te.size = sz) (hij : i = ((j : Nat) : Int)) (hj : j < m) : QOp P n w0 all r ol o d (.pointer (some ⟨b, off + j * sz, none⟩)) :=
  Q_of hs fun ac w hrd hh hop => by
    have h1 := ht.under hti w
    rw [hd] at h1
    have h2 := ht.sizeOf hte w
    unfold execOp
    subst hij
    have h3 : (0 : Int) ≤ j ∧ (j : Int) < m := by omega
    simp [hop, hrd.ev hx, hrd.ev hy, Instr.indexAt, asIntOf, h1, h2, hj, hsz, Addr.add_lit]
theorem Q_idx1 (ht : TabOk P tb) {t e : TypeId} {x y : Operand} {b off m c j : Nat} {k : IntKind} {i : Int} {ti te : TI} (hs : opAt? n all r o = some (d, .indexAddr t x y)) (hx : ev r x = some (.slice (some ⟨b, off, none⟩) m c))
    (hy : ev r y = some (.int k i)) (hti : tl tb t = some ti) (hd : ti.desc = .slice e) (hte : tl tb e = some te) (hsz : te.size = 1) (hij : i = ((j : Nat) : Int)) (hj : j < m) : QOp P n w0 all r ol o d (.pointer (some ⟨b, off + j, none⟩)) :=
  (Q_idx ht hs hx hy hti hd hte hsz hij hj).eq (by rw [Nat.mul_one])
theorem Q_aidx (ht : TabOk P tb) {t e : TypeId} {x y : Operand} {b off m j sz : Nat} {k : IntKind} {i : Int} {ti te : TI} (hs : opAt? n all r o = some (d, .indexAddr t x y)) (hx : ev r x = some (.pointer (some ⟨b, off, none⟩)))
    (hy : ev r y = some (.int k i)) (hti : tl tb t = some ti) (hd : ti.desc = .array m e) (hte : tl tb e = some te) (hsz : te.size = sz) (hij : i = ((j : Nat) : Int)) (hj : j < m) : QOp P n w0 all r ol o d (.pointer (some ⟨b, off + j * sz, none⟩)) :=
  Q_of hs fun ac w hrd hh hop => by
    have h1 := ht.under hti w
    rw [hd] at h1
    have h2 := ht.sizeOf hte w
    unfold execOp
    subst hij
    simp [hop, hrd.ev hx, hrd.ev hy, Instr.indexAt, Instr.sureAddr, asIntOf, h1, h2, hj, hsz, Addr.add_lit]

/-- One element of an array that lies in a slot. -/
theorem Q_index (ht : TabOk P tb) {t e : TypeId} {x y : Operand} {cs : Array Value} {m j : Nat} {k : IntKind} {i : Int} {ti te : TI} (hs : opAt? n all r o = some (d, .index t x y)) (hx : ev r x = some (.agg cs))
    (hy : ev r y = some (.int k i)) (hti : tl tb t = some ti) (hd : ti.desc = .array m e) (hte : tl tb e = some te) (hij : i = ((j : Nat) : Int)) (hj : j < m) (hv : partV te cs.toList (j * te.size) = some v) : QOp P n w0 all r ol o d v :=
  Q_of hs fun ac w hrd hh hop => by
    have h1 := ht.under hti w
    rw [hd] at h1
    have h2 := ht.sizeOf hte w
    have h3 := part_run ht hte (w := w) hv
    unfold execOp
    subst hij
    simp [hop, hrd.ev hx, hrd.ev hy, Instr.index, asIntOf, h1, h2, hj, h3]

/-! slicing: 's[lo:hi:max]' of a slice -/
def optI (r : Nat → Option Value) : Option Operand → Int → Option Int
  | none, dflt => some dflt
  | some x, _ => match ev r x with
    | some (.int _ i) => some i
    | _ => none

theorem sliceBound_run {P : Program} {w : World} {k : IntKind} {i : Int} {y : Nat} {code : BoundsCode} (h : 0 ≤ i ∧ i ≤ y) : (Instr.sliceBound (.int k i) y code).run P w = .ok i.toNat w := by
  simp [Instr.sliceBound, asIntOf, h]

theorem Q_slice (ht : TabOk P tb) {t e : TypeId} {x : Operand} {lo hi mx : Option Operand} {ad : Option Addr} {m c L H M sz : Nat} {li hi' mi : Int} {ti te : TI} (hs : opAt? n all r o = some (d, .slice t x lo hi mx)) (hx : ev r x = some (.slice ad m c))
    (hlo : optI r lo 0 = some li) (hhi : optI r hi m = some hi') (hmx : optI r mx c = some mi) (hmh : mx.isSome = true → hi.isSome = true) (hti : tl tb t = some ti) (hd : ti.desc = .slice e) (hte : tl tb e = some te) (hsz : te.size = sz)
    (hL : li = L) (hH : hi' = H) (hM : mi = M) (h1 : L ≤ H) (h2 : H ≤ M) (h3 : M ≤ c) (hmc : hi.isSome = false → m ≤ M) : QOp P n w0 all r ol o d (.slice (if M = L then ad else ad.map (·.add (L * sz))) (H - L) (M - L)) :=
  Q_of hs fun ac w hrd hh hop => by
    have u1 := ht.under hti w
    rw [hd] at u1
    have u2 := ht.sizeOf hte w
    subst hL; subst hH; subst hM
    unfold execOp
    have hb : (Instr.sliceBounds true m c (lo.map ac.eval) (hi.map ac.eval) (mx.map ac.eval)).run P w = .ok (L, H, M) w := by
      unfold Instr.sliceBounds
      have e1 : ∀ x, mx = some x → ∃ k, ac.eval x = .int k M := by
        rintro x rfl
        simp only [optI] at hmx
        split at hmx
        · rename_i k i hi; simp at hmx; subst hmx; exact ⟨k, hrd.ev hi⟩
        · cases hmx
      have e2 : ∀ x, hi = some x → ∃ k, ac.eval x = .int k H := by
        rintro x rfl
        simp only [optI] at hhi
        split at hhi
        · rename_i k i hi; simp at hhi; subst hhi; exact ⟨k, hrd.ev hi⟩
        · cases hhi
      have e3 : ∀ x, lo = some x → ∃ k, ac.eval x = .int k L := by
        rintro x rfl
        simp only [optI] at hlo
        split at hlo
        · rename_i k i hi; simp at hlo; subst hlo; exact ⟨k, hrd.ev hi⟩
        · cases hlo
      cases mx with
      | some mxx =>
        obtain ⟨km, hkm⟩ := e1 mxx rfl
        cases hi with
        | none => simp at hmh
        | some hix =>
          obtain ⟨kh, hkh⟩ := e2 hix rfl
          cases lo with
          | none =>
            simp only [optI, Option.some.injEq] at hlo
            have : L = 0 := by omega
            subst this
            simp only [Option.map_some, Option.map_none, hkm, hkh, Sem.run_bind]
            rw [sliceBound_run (by omega)]
            simp only [Result.andThen_ok, Int.toNat_natCast]
            rw [sliceBound_run (by omega)]
            simp
          | some lox =>
            obtain ⟨kl, hkl⟩ := e3 lox rfl
            simp only [Option.map_some, hkm, hkh, hkl, Sem.run_bind]
            rw [sliceBound_run (by omega)]
            simp only [Result.andThen_ok, Int.toNat_natCast]
            rw [sliceBound_run (by omega)]
            simp only [Result.andThen_ok, Int.toNat_natCast]
            rw [sliceBound_run (by omega)]
            simp
      | none =>
        simp only [optI, Option.some.injEq] at hmx
        have : c = M := by omega
        subst this
        cases hi with
        | some hix =>
          obtain ⟨kh, hkh⟩ := e2 hix rfl
          cases lo with
          | none =>
            simp only [optI, Option.some.injEq] at hlo
            have : L = 0 := by omega
            subst this
            simp only [Option.map_some, Option.map_none, hkh, Sem.run_bind, Sem.run_pure, Result.andThen_ok]
            rw [sliceBound_run (by omega)]
            simp
          | some lox =>
            obtain ⟨kl, hkl⟩ := e3 lox rfl
            simp only [Option.map_some, Option.map_none, hkh, hkl, Sem.run_bind, Sem.run_pure, Result.andThen_ok]
            rw [sliceBound_run (by omega)]
            simp only [Result.andThen_ok, Int.toNat_natCast]
            rw [sliceBound_run (by omega)]
            simp
        | none =>
          simp only [optI, Option.some.injEq] at hhi
          have : m = H := by omega
          subst this
          cases lo with
          | none =>
            simp only [optI, Option.some.injEq] at hlo
            have : L = 0 := by omega
            subst this
            simp
          | some lox =>
            obtain ⟨kl, hkl⟩ := e3 lox rfl
            simp only [Option.map_some, Option.map_none, hkl, Sem.run_bind, Sem.run_pure, Result.andThen_ok]
            rw [sliceBound_run (by omega)]
            simp
    simp [hop, hrd.ev hx, Instr.sliceAt, Instr.slice, u1, u2, hb, hsz]

/-- 's[:hi]' -/
theorem Q_sliceTo (ht : TabOk P tb) {t e : TypeId} {x y : Operand} {ad : Option Addr} {m c H : Nat} {k : IntKind} {i : Int} {ti te : TI} (hs : opAt? n all r o = some (d, .slice t x none (some y) none)) (hx : ev r x = some (.slice ad m c))
    (hy : ev r y = some (.int k i)) (hti : tl tb t = some ti) (hd : ti.desc = .slice e) (hte : tl tb e = some te) (hH : i = ((H : Nat) : Int)) (h2 : H ≤ c) : QOp P n w0 all r ol o d (.slice ad H c) :=
  (Q_slice ht (L := 0) (H := H) (M := c) hs hx rfl (by simp only [optI, hy]) rfl (by simp) hti hd hte rfl rfl hH rfl (Nat.zero_le _) h2 (Nat.le_refl _) (by simp)).eq (by
    have : ad.map (fun a => a.add (0 * te.size)) = ad := by cases ad <;> simp [Addr.add_zero']
    simp only [this, ite_self, Nat.sub_zero])
/-- 's[lo:]' -/
theorem Q_sliceFrom (ht : TabOk P tb) {t e : TypeId} {x y : Operand} {ad : Option Addr} {m c L sz : Nat} {k : IntKind} {i : Int} {ti te : TI} (hs : opAt? n all r o = some (d, .slice t x (some y) none none)) (hx : ev r x = some (.slice ad m c))
    (hy : ev r y = some (.int k i)) (hti : tl tb t = some ti) (hd : ti.desc = .slice e) (hte : tl tb e = some te) (hsz : te.size = sz) (hL : i = ((L : Nat) : Int)) (h2 : L ≤ m) (h3 : m ≤ c) : QOp P n w0 all r ol o d (.slice (if c = L then ad else ad.map (·.add (L * sz))) (m - L) (c - L)) :=
  Q_slice ht (L := L) (H := m) (M := c) hs hx (by simp only [optI, hy]) rfl rfl (by simp) hti hd hte hsz hL rfl rfl h2 h3 (Nat.le_refl _) (fun _ => h3)
/-- 's[:hi:max]' -/
theorem Q_slice3 (ht : TabOk P tb) {t e : TypeId} {x y z : Operand} {ad : Option Addr} {m c H M : Nat} {k k' : IntKind} {i j : Int} {ti te : TI} (hs : opAt? n all r o = some (d, .slice t x none (some y) (some z))) (hx : ev r x = some (.slice ad m c))
    (hy : ev r y = some (.int k i)) (hz : ev r z = some (.int k' j)) (hti : tl tb t = some ti) (hd : ti.desc = .slice e) (hte : tl tb e = some te) (hH : i = ((H : Nat) : Int)) (hM : j = ((M : Nat) : Int)) (h2 : H ≤ M) (h3 : M ≤ c) : QOp P n w0 all r ol o d (.slice ad H M) :=
  (Q_slice ht (L := 0) (H := H) (M := M) hs hx rfl (by simp only [optI, hy]) (by simp only [optI, hz]) (by simp) hti hd hte rfl rfl hH hM (Nat.zero_le _) h2 h3 (by simp)).eq (by
    have : ad.map (fun a => a.add (0 * te.size)) = ad := by cases ad <;> simp [Addr.add_zero']
    simp only [this, ite_self, Nat.sub_zero])

/-! equality -/
theorem TabOk.under' (ht : TabOk P tb) {t : Nat} {i : TI} (h : tl tb t = some i) : P.underlying t = some i.desc := (ht t i h).1
theorem Q_eqb (ht : TabOk P tb) {t t' : TypeId} {x y : Operand} {a b : Bool} {ti : TI} (hs : opAt? n all r o = some (d, .binOp .eql t x y t')) (hx : ev r x = some (.bool a)) (hy : ev r y = some (.bool b)) (hti : tl tb t = some ti) (hd : ti.desc = .bool) :
    QOp P n w0 all r ol o d (.bool (a == b)) :=
  Q_of hs fun ac w hrd hh hop => by
    have h1 := ht.under' hti
    rw [hd] at h1
    have h2 := run_eql_bool w t a b h1
    unfold execOp
    simp [hop, hrd.ev hx, hrd.ev hy, eqGuard_at_bool, h2]
theorem Q_neb (ht : TabOk P tb) {t t' : TypeId} {x y : Operand} {a b : Bool} {ti : TI} (hs : opAt? n all r o = some (d, .binOp .neq t x y t')) (hx : ev r x = some (.bool a)) (hy : ev r y = some (.bool b)) (hti : tl tb t = some ti) (hd : ti.desc = .bool) :
    QOp P n w0 all r ol o d (.bool (!(a == b))) :=
  Q_of hs fun ac w hrd hh hop => by
    have h1 := ht.under' hti
    rw [hd] at h1
    have h2 := run_neq_bool w t a b h1
    unfold execOp
    simp [hop, hrd.ev hx, hrd.ev hy, eqGuard_at_bool, h2]
theorem Q_eqnil (ht : TabOk P tb) {t t' e : TypeId} {x y : Operand} {ad : Option Addr} {m c m' c' : Nat} {ti : TI} (hs : opAt? n all r o = some (d, .binOp .eql t x y t')) (hx : ev r x = some (.slice ad m c)) (hy : ev r y = some (.slice none m' c')) (hti : tl tb t = some ti) (hd : ti.desc = .slice e) :
    QOp P n w0 all r ol o d (.bool ad.isNone) :=
  Q_of hs fun ac w hrd hh hop => by
    have h1 := ht.under' hti
    rw [hd] at h1
    have h2 := Lib.run_eql_slice_nil w t e ad m c m' c' h1
    unfold execOp
    simp [hop, hrd.ev hx, hrd.ev hy, eqGuard_at_slice, h2]
theorem Q_eqptr (ht : TabOk P tb) {t t' e : TypeId} {x y : Operand} {ad : Option Addr} {ti : TI} (hs : opAt? n all r o = some (d, .binOp .eql t x y t')) (hx : ev r x = some (.pointer ad)) (hy : ev r y = some (.pointer none)) (hti : tl tb t = some ti) (hd : ti.desc = .pointer e) :
    QOp P n w0 all r ol o d (.bool ad.isNone) :=
  Q_of hs fun ac w hrd hh hop => by
    have h1 := ht.under' hti
    rw [hd] at h1
    have h2 := run_eql_pointer_nil (P := P) w t ad (by simp [Program.pointee, h1])
    unfold execOp
    simp [hop, hrd.ev hx, hrd.ev hy, eqGuard_at_pointer, h2]
theorem Q_neptr (ht : TabOk P tb) {t t' e : TypeId} {x y : Operand} {ad : Option Addr} {ti : TI} (hs : opAt? n all r o = some (d, .binOp .neq t x y t')) (hx : ev r x = some (.pointer ad)) (hy : ev r y = some (.pointer none)) (hti : tl tb t = some ti) (hd : ti.desc = .pointer e) :
    QOp P n w0 all r ol o d (.bool (!ad.isNone)) :=
  Q_of hs fun ac w hrd hh hop => by
    have h1 := ht.under' hti
    rw [hd] at h1
    have h2 := run_neq_pointer_nil (P := P) w t ad (by simp [Program.pointee, h1])
    unfold execOp
    simp [hop, hrd.ev hx, hrd.ev hy, eqGuard_at_pointer, h2]
/-- 'c && x', 'c || x' where c is not decided. -/
theorem Q_and {c a b : Operand} {p q : Bool} (hs : opAt? n all r o = some (d, .pick c a b)) (hc : ev r c = some (.bool p)) (ha : ev r a = some (.bool q)) (hb : ev r b = some (.bool false)) : QOp P n w0 all r ol o d (.bool (p && q)) :=
  Q_of hs fun ac w hrd hh hop => by
    unfold execOp
    cases p <;> simp [hop, hrd.ev hc, hrd.ev ha, hrd.ev hb, asBool]
theorem Q_or {c a b : Operand} {p q : Bool} (hs : opAt? n all r o = some (d, .pick c a b)) (hc : ev r c = some (.bool p)) (ha : ev r a = some (.bool true)) (hb : ev r b = some (.bool q)) : QOp P n w0 all r ol o d (.bool (p || q)) :=
  Q_of hs fun ac w hrd hh hop => by
    unfold execOp
    cases p <;> simp [hop, hrd.ev hc, hrd.ev ha, hrd.ev hb, asBool]
end
end Go.Proofs.Ytggnhcgmeibihaa
