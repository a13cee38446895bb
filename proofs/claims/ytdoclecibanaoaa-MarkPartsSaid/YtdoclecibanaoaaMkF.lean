/-
  The walk of MarkShows. Conditions: each theorem's own.
-/
import Derived.Test.YtdoclecibanaoaaCrd
import Derived.Test.YtdoclecibanaoaaArh
import Derived.ChangeKeysEq
namespace Go.Proofs.Ytdoclecibanaoaa
open Go Go.RowKit
set_option linter.unusedVariables false

section
variable {P : Program} {tb : Tab} {n : Nat} {w0 : World} {all : Array Oper} {os : List Oper} {o : Oper} {l : FL} {ol : OL} {K : FL → OL → Prop} {Q : Post} {r : Nat → Option Value} {d : Nat}

/-- The newest row is not empty: it is a block. -/
theorem T_openRow {code : Code} {a : Option Addr} {m c base sz : Nat} {e : TypeId} {xs : List Value} (hm : 0 < m)
    (k : ∀ b junk, a = some ⟨b, 0, none⟩ → base ≤ b → m ≤ c → xs.length = m * sz → (xs ++ junk).length = c * sz → c ≤ maxLen → T P n w0 code l (.blk b (.cells ⟨xs ++ junk⟩ e (0, 0)) true :: ol) Q) : T P n w0 code l (.row base (.slice a m c) e sz m xs :: ol) Q :=
  ⟨fun ac w hf hh => by
    obtain ⟨b, junk, ha, hb, h1, h2, h3, h4, h5⟩ := Hp.openRow (pre := []) hh hm
    exact (k b junk ha hb h1 h2 h3 h4).out ac w hf h5⟩
theorem S_openRow {a : Option Addr} {m c base sz : Nat} {e : TypeId} {xs : List Value} (hm : 0 < m)
    (k : ∀ b junk, a = some ⟨b, 0, none⟩ → base ≤ b → m ≤ c → xs.length = m * sz → (xs ++ junk).length = c * sz → c ≤ maxLen → S P n w0 all os l (.blk b (.cells ⟨xs ++ junk⟩ e (0, 0)) true :: ol) K Q) : S P n w0 all os l (.row base (.slice a m c) e sz m xs :: ol) K Q :=
  ⟨fun ac w hf hh => by
    obtain ⟨b, junk, ha, hb, h1, h2, h3, h4, h5⟩ := Hp.openRow (pre := []) hh hm
    exact (k b junk ha hb h1 h2 h3 h4).out ac w hf h5⟩
theorem setMany_one : ∀ {cs : List Value} {off : Nat} {v : Value}, off < cs.length → setMany cs off [v] = some (cs.set off v)
  | c :: cs, 0, v, h => by cases cs <;> rfl
  | c :: cs, k + 1, v, h => by
    simp only [setMany, setMany_one (cs := cs) (off := k) (by simpa using h), List.set_cons_succ]

theorem eqItems_ints {w : World} {e : TypeId} {k : IntKind} (he : P.underlying e = some (.int k)) (dd : Nat) (xs ys : List Int) : ∀ is : List Nat, (∀ i ∈ is, i < xs.length ∧ i < ys.length) →
    ∃ q : Bool, (Op.eqItems (dd + 1) e 1 ⟨xs.map (.int k)⟩ ⟨ys.map (.int k)⟩ is).run P w = .ok q w ∧ (q = true ↔ ∀ i ∈ is, xs[i]? = ys[i]?)
  | [], _ => ⟨true, by simp [Op.eqItems], by simp⟩
  | i :: is, h => by
    obtain ⟨q, h1, h2⟩ := eqItems_ints (w := w) he dd xs ys is fun j hj => h j (List.mem_cons_of_mem _ hj)
    obtain ⟨hx, hy⟩ := h i List.mem_cons_self
    have p1 : (part e ⟨xs.map (.int k)⟩ (i * 1)).run P w = .ok (.int k xs[i]) w := by simp [part, isAgg, run_underlying he, hx]
    have p2 : (part e ⟨ys.map (.int k)⟩ (i * 1)).run P w = .ok (.int k ys[i]) w := by simp [part, isAgg, run_underlying he, hy]
    simp only [Op.eqItems, Sem.run_bind, p1, p2, Result.andThen_ok, run_equalIn_int w dd e k k _ _ he]
    by_cases hxy : xs[i] = ys[i]
    · refine ⟨q, by simp [hxy, h1], ?_⟩
      rw [h2]
      simp [hxy, List.getElem?_eq_getElem hx, List.getElem?_eq_getElem hy]
    · refine ⟨false, by simp [hxy], ?_⟩
      simp only [Bool.false_eq_true, false_iff]
      intro hh
      have := hh i List.mem_cons_self
      rw [List.getElem?_eq_getElem hx, List.getElem?_eq_getElem hy] at this
      exact hxy (by simpa using this)

/-- Two arrays of integers: alike? -/
theorem Q_eqarr (ht : TabOk P tb) {t t' e : TypeId} {x y : Operand} {k : IntKind} {m : Nat} {xs ys : List Int} {ti te : TI} (hs : opAt? n all r o = some (d, .binOp .eql t x y t')) (hx : ev r x = some (.agg ⟨xs.map (.int k)⟩)) (hy : ev r y = some (.agg ⟨ys.map (.int k)⟩))
    (hti : tl tb t = some ti) (hd : ti.desc = .array m e) (hte : tl tb e = some te) (hed : te.desc = .int k) (hsz : te.size = 1) (hg : P.eqGuardType P.depth t = false) (h1 : xs.length = m) (h2 : ys.length = m) : QOp P n w0 all r ol o d (.bool (decide (xs = ys))) :=
  Q_of hs fun ac w hrd hh hop => by
    have u1 := ht.under' hti
    rw [hd] at u1
    have u2 := ht.under' hte
    rw [hed] at u2
    obtain ⟨inf, hinf, hz, hs1, hs2⟩ := (ht e te hte).2
    have hc : P.cellsOf e = 1 := by simp [Program.cellsOf, hinf, hs1, hsz]
    obtain ⟨q, r1, r2⟩ := eqItems_ints (w := w) u2 9998 xs ys (List.range m) (fun i hi => by have := List.mem_range.1 hi; omega)
    have hq : q = decide (xs = ys) := by
      by_cases h : xs = ys
      · rw [decide_eq_true h]; exact r2.2 fun i hi => by rw [h]
      · rw [decide_eq_false h]
        cases hqq : q with
        | false => rfl
        | true =>
          exfalso
          apply h
          apply List.ext_getElem?
          intro i
          rcases Nat.lt_or_ge i m with h3 | h3
          · exact r2.1 hqq i (List.mem_range.2 h3)
          · rw [List.getElem?_eq_none (by omega), List.getElem?_eq_none (by omega)]
    have g := run_eqGuard_agg (P := P) w .eql t x y ⟨xs.map (.int k)⟩ ⟨ys.map (.int k)⟩ hg
    have b := run_eql_struct (P := P) w t ⟨xs.map (.int k)⟩ ⟨ys.map (.int k)⟩
    rw [run_equalIn_array w 9999 _ _ u1 hinf, hc, r1] at b
    unfold execOp
    simp only [hop, hrd.ev hx, hrd.ev hy, Sem.run_bind, g, b, Result.andThen_ok, Sem.run_pure, hq]
end

/-! bytes that are turned -/
def bx (x y : Int) : Int := bits .xor .u8 x y
theorem bx_fits (x y : Int) : Fits .u8 (bx x y) := by
  have e : bx x y = IntKind.u8.wrap ((BitVec.ofInt 8 x ^^^ BitVec.ofInt 8 y).toNat : Int) := rfl
  rw [e, wrap8]
  exact fits8 (by omega)
theorem bx_ne {x y : Int} (hx : Fits .u8 x) (hy : Fits .u8 y) (h : bx x y = x) : y = 0 := by
  have fx := fits_u8 hx
  have fy := fits_u8 hy
  have e : bx x y = IntKind.u8.wrap ((BitVec.ofInt 8 x ^^^ BitVec.ofInt 8 y).toNat : Int) := rfl
  have lt := (BitVec.ofInt 8 x ^^^ BitVec.ofInt 8 y).isLt
  rw [e, wrap8, Nat.mod_eq_of_lt lt] at h
  have ex : ((BitVec.ofInt 8 x).toNat : Int) = x := by rw [BitVec.toNat_ofInt]; omega
  have ey : ((BitVec.ofInt 8 y).toNat : Int) = y := by rw [BitVec.toNat_ofInt]; omega
  have h2 : BitVec.ofInt 8 x ^^^ BitVec.ofInt 8 y = BitVec.ofInt 8 x := by
    apply BitVec.eq_of_toNat_eq
    omega
  have h3 := congrArg (BitVec.ofInt 8 x ^^^ ·) h2
  simp only [← BitVec.xor_assoc, BitVec.xor_self, BitVec.zero_xor] at h3
  rw [← ey, h3]
  rfl
def mix (a b : List Int) (i : Nat) : List Int := b.take i ++ a.drop i
theorem mix_len {a b : List Int} (h : b.length = a.length) (i : Nat) (hi : i ≤ a.length) : (mix a b i).length = a.length := by
  unfold mix
  rw [List.length_append, List.length_take, List.length_drop]
  omega
theorem mix_get {a b : List Int} (h : b.length = a.length) (i : Nat) (hi : i < a.length) : (mix a b i)[i]? = some a[i] := by
  unfold mix
  rw [List.getElem?_append_right (by rw [List.length_take]; omega), List.length_take, List.getElem?_drop, show i + (i - min i b.length) = i from by omega, List.getElem?_eq_getElem hi]
theorem mix_set {a b : List Int} (h : b.length = a.length) (i : Nat) (hi : i < a.length) : (mix a b i).set i (b[i]'(by omega)) = mix a b (i + 1) := by
  unfold mix
  have e : i - (b.take i).length = 0 := by rw [List.length_take]; omega
  rw [List.set_append_right _ _ (by rw [List.length_take]; omega), e, List.drop_eq_getElem_cons hi, List.set_cons_zero, List.take_succ_eq_append_getElem (by omega), List.append_assoc]
  rfl
theorem mid_get {pre u post : List Int} {i : Nat} {x : Int} (h : u[i]? = some x) : (pre ++ (u ++ post))[pre.length + i]? = some x := by
  have hi : i < u.length := (List.getElem?_eq_some_iff.1 h).1
  rw [List.getElem?_append_right (by omega), show pre.length + i - pre.length = i from by omega, List.getElem?_append_left hi, h]
theorem mid_set {pre u post : List Int} {i : Nat} {x : Int} (h : i < u.length) : (pre ++ (u ++ post)).set (pre.length + i) x = pre ++ (u.set i x ++ post) := by
  rw [List.set_append_right _ _ (by omega), show pre.length + i - pre.length = i from by omega, List.set_append_left _ _ h]
theorem cells_set {zs : List Int} {junk : List Value} {j : Nat} {x : Int} (h : j < zs.length) : (zs.map (Value.int .u8) ++ junk).set j (.int .u8 x) = (zs.set j x).map (Value.int .u8) ++ junk := by
  rw [List.set_append_left _ _ (by rw [List.length_map]; exact h), List.map_set]
theorem cells_get {zs : List Int} {junk : List Value} {j : Nat} {x : Int} (h : zs[j]? = some x) : (zs.map (Value.int .u8) ++ junk)[j]? = some (.int .u8 x) := by
  have hj : j < zs.length := (List.getElem?_eq_some_iff.1 h).1
  rw [List.getElem?_append_left (by rw [List.length_map]; exact hj), List.getElem?_map, h]
  rfl
end Go.Proofs.Ytdoclecibanaoaa
