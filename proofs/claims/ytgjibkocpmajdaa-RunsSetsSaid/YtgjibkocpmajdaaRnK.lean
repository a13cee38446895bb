/-
  Runs: sets told by who is in them; contracts in these words. Conditions: each theorem's own.
-/
import Derived.Test.YtgjibkocpmajdaaRnG
namespace Go.Proofs.Ytgjibkocpmajdaa
open Go Go.RowKit
set_option linter.unusedVariables false

theorem Vtup2_fst {p q : Vp} {w : World} {A : Nat → Prop} {a b : Value} (h : (Vtup2 p q).at_ w A (.tuple #[a, b])) : p.at_ w A a := by
  obtain ⟨a', b', e, h1, h2⟩ := h
  cases e
  exact h1
theorem ow_bb {w0 w w' : World} {A : Nat → Prop} {ol : OL} {R : Rep (List Run)} {v : Value} {m : List Run} (h : R.val w' (fun k => w.heap.size ≤ k) v m) (hh : Hp w0 w ol) : (R.vp m).at_ w' (BB w0 A ol) v :=
  Vp.mono (R.vp m) h fun k hk => BB_new hh hk
/-- A set's value: who is in it, and at most so many runs. -/
def setP (S : Int → Prop) (B : Nat) : Vp :=
  ⟨fun w A v => ∃ m, Can m ∧ (∀ x, Mem m x ↔ S x) ∧ m.length ≤ B ∧ Rset.val w A v m, fun ⟨m, h1, h2, h3, h4⟩ hk => ⟨m, h1, h2, h3, Rep.val_keep _ h4 hk⟩⟩
/-- A slice of runs that are as few as there can be. -/
def sliP (S : Int → Prop) (B : Nat) : Vp :=
  ⟨fun w A v => ∃ m, Can m ∧ (∀ x, Mem m x ↔ S x) ∧ m.length ≤ B ∧ (Rslice Rrun).val w A v m, fun ⟨m, h1, h2, h3, h4⟩ hk => ⟨m, h1, h2, h3, Rep.val_keep _ h4 hk⟩⟩

section
variable {S T : Int → Prop} {B C : Nat} {w : World} {A : Nat → Prop} {v u : Value}
theorem setP_form (h : (setP S B).at_ w A v) : ∃ a n c m, v = setV a n c ∧ Can m ∧ (∀ x, Mem m x ↔ S x) ∧ m.length ≤ B ∧ SlR Rrun w A a n c m := by
  obtain ⟨m, h1, h2, h3, h4⟩ := h
  obtain ⟨a, n, c, rfl, h5⟩ := set_form h4
  exact ⟨a, n, c, m, rfl, h1, h2, h3, h5⟩
theorem setP_val (h : (setP S B).at_ w A v) : ∃ a n c, v = setV a n c := by
  obtain ⟨a, n, c, _, e, _⟩ := setP_form h
  exact ⟨a, n, c, e⟩
theorem sliP_form (h : (sliP S B).at_ w A v) : ∃ a n c m, v = .slice a n c ∧ Can m ∧ (∀ x, Mem m x ↔ S x) ∧ m.length ≤ B ∧ SlR Rrun w A a n c m := by
  obtain ⟨m, h1, h2, h3, h4⟩ := h
  obtain ⟨a, n, c, rfl, h5⟩ := SlR.form h4
  exact ⟨a, n, c, m, rfl, h1, h2, h3, h5⟩
theorem sliP_val (h : (sliP S B).at_ w A v) : ∃ a n c, v = .slice a n c := by
  obtain ⟨a, n, c, _, e, _⟩ := sliP_form h
  exact ⟨a, n, c, e⟩
theorem setP_mk {a : Option Addr} {n c : Nat} {m : List Run} (h1 : Can m) (h2 : ∀ x, Mem m x ↔ S x) (h3 : m.length ≤ B) (h4 : SlR Rrun w A a n c m) : (setP S B).at_ w A (setV a n c) := ⟨m, h1, h2, h3, set_val h4⟩
theorem setP_of {m : List Run} (h1 : Can m) (h2 : ∀ x, Mem m x ↔ S x) (h3 : m.length ≤ B) (h4 : Rset.val w A v m) : (setP S B).at_ w A v := ⟨m, h1, h2, h3, h4⟩
theorem sliP_mk {a : Option Addr} {n c : Nat} {m : List Run} (h1 : Can m) (h2 : ∀ x, Mem m x ↔ S x) (h3 : m.length ≤ B) (h4 : SlR Rrun w A a n c m) : (sliP S B).at_ w A (.slice a n c) := ⟨m, h1, h2, h3, h4.val⟩
theorem setP_nil : (setP (fun _ => False) 0).at_ w A (setV none 0 0) := setP_mk can_nil (fun x => ⟨fun h => mem_nil x h, fun h => h.elim⟩) (Nat.zero_le _) SlR.nil_
theorem can_eq {l m : List Run} (h1 : Can l) (h2 : Can m) (hS : ∀ x, Mem l x ↔ S x) (hT : ∀ x, Mem m x ↔ T x) : l = m ↔ ∀ x, S x ↔ T x :=
  ⟨fun e x => by rw [← hS, ← hT, e], fun h => can_ext h1 h2 fun x => by rw [hS, hT, h]⟩
end

section
variable {S T : Int → Prop} {B C : Nat} {v u : Value} {A D : Nat → Prop}
theorem span_p (f t : Int) (w : World) (hA : ∀ k, w.heap.size ≤ k → A k) (h : (setP S B).at_ w A v) (hB : B ≤ 900000) (hf : Fits .u64 f) (ht : Fits .u64 t) :
    Calls Try.prog 26 #[v, .int .u64 f, .int .u64 t] w fun e w' => ∃ r, e = .returned r ∧ Below w.heap.size w w' ∧ (setP (fun x => S x ∨ (f ≤ x ∧ x ≤ t)) (B + 1)).at_ w' A r := by
  obtain ⟨a, n, c, m, rfl, h1, h2, h3, h4⟩ := setP_form h
  have := h4.len
  exact (span_ok a n c m f t A w hA h4 h1 (by omega) hf ht).mono fun e w' ⟨v, m', e1, e2, e3, e4⟩ => ⟨v, e1, e2, setP_of e3.can (fun x => by rw [e3.mem, h2]) (by have := e3.len; omega) e4⟩
theorem add_p (f : Int) (w : World) (hA : ∀ k, w.heap.size ≤ k → A k) (h : (setP S B).at_ w A v) (hB : B ≤ 900000) (hf : Fits .u64 f) :
    Calls Try.prog 33 #[v, .int .u64 f] w fun e w' => ∃ r, e = .returned r ∧ Below w.heap.size w w' ∧ (setP (fun x => S x ∨ x = f) (B + 1)).at_ w' A r := by
  obtain ⟨a, n, c, m, rfl, h1, h2, h3, h4⟩ := setP_form h
  have := h4.len
  exact (add_ok a n c m f A w hA h4 h1 (by omega) hf).mono fun e w' ⟨v, m', e1, e2, e3, e4⟩ => ⟨v, e1, e2, setP_of e3.can (fun x => by rw [e3.mem, h2]; exact ⟨fun h => h.imp id fun h => by omega, fun h => h.imp id fun h => by omega⟩) (by have := e3.len; omega) e4⟩
theorem set_p (a : Option Addr) (n c : Nat) (l : List Run) (w : World) (hx : SlR Rrun w A a n c l) (hn : n ≤ 800000) :
    Calls Try.prog 23 #[.slice a n c] w fun e w' => ∃ r, e = .returned r ∧ Below w.heap.size w w' ∧ (setP (Mem l) l.length).at_ w' (fun k => w.heap.size ≤ k) r :=
  (set_ok a n c l A w hx hn).mono fun e w' ⟨v, m', e1, e2, e3, e4⟩ => ⟨v, e1, e2, setP_of e3.can e3.mem e3.len e4⟩
theorem of_p (a : Option Addr) (n c : Nat) (l : List Int) (w : World) (hx : SlR (Rint .u64) w A a n c l) (hn : n ≤ 800000) :
    Calls Try.prog 35 #[.slice a n c] w fun e w' => ∃ r, e = .returned r ∧ Below w.heap.size w w' ∧ (setP (fun x => x ∈ l) l.length).at_ w' (fun k => w.heap.size ≤ k) r :=
  (of_ok a n c l A w hx hn).mono fun e w' ⟨v, m', e1, e2, e3, e4⟩ => ⟨v, e1, e2, setP_of e3.can e3.mem e3.len e4⟩
theorem has_p (x : Int) (w : World) (h : (setP S B).at_ w A v) (hB : B ≤ 900000) :
    Calls Try.prog 27 #[v, .int .u64 x] w fun e w' => ∃ v, e = .returned v ∧ Below w.heap.size w w' ∧ ∃ q, v = .bool q ∧ (q = true ↔ S x) := by
  obtain ⟨a, n, c, m, rfl, h1, h2, h3, h4⟩ := setP_form h
  have := h4.len
  exact (has_ok a n c m x A w h4 h1 (by omega)).mono fun e w' ⟨v, e1, e2, q, e3, e4⟩ => ⟨v, e1, e2, q, e3, by rw [e4, h2]⟩
/-- The least from x on that isn't in S. -/
def GapS (S : Int → Prop) (x g : Int) (q : Bool) : Prop :=
  (q = true → x ≤ g ∧ g ≤ lastN ∧ ¬ S g ∧ ∀ y, x ≤ y → y < g → S y) ∧ (q = false → g = 0 ∧ ∀ y, x ≤ y → y ≤ lastN → S y)
theorem gapOf_S {m : List Run} {x g : Int} {q : Bool} (hc : Can m) (hx : x ≤ lastN) (h2 : ∀ x, Mem m x ↔ S x) (h : GapOf m x g q) : GapS S x g q := by
  rcases h with ⟨h1, rfl, rfl⟩ | ⟨r, hr, h1, h3, h4⟩
  · exact ⟨fun _ => ⟨Int.le_refl _, hx, fun h => h1 ((h2 _).2 h), fun y e1 e2 => by omega⟩, fun h => by cases h⟩
  · rcases h4 with ⟨h4, rfl, rfl⟩ | ⟨h4, rfl, rfl⟩
    · exact ⟨fun h => (by cases h), fun _ => ⟨rfl, fun y e1 e2 => (h2 y).1 ⟨r, hr, by omega, by omega⟩⟩⟩
    · refine ⟨fun _ => ⟨by omega, by omega, fun hs => ?_, fun y e1 e2 => (h2 y).1 ⟨r, hr, by omega, by omega⟩⟩, fun h => by cases h⟩
      obtain ⟨s, hsm, g1, g2⟩ := (h2 _).2 hs
      obtain ⟨i, hi, rfl⟩ := List.getElem_of_mem hr
      obtain ⟨j, hj, rfl⟩ := List.getElem_of_mem hsm
      rcases Nat.lt_trichotomy i j with e | e | e
      · have := can_lt hc e hj; omega
      · subst e; omega
      · have := can_lt hc e hi
        have := can_le hc hi
        omega
theorem gap_p (x : Int) (w : World) (h : (setP S B).at_ w A v) (hB : B ≤ 900000) (hx : Fits .u64 x) :
    Calls Try.prog 24 #[v, .int .u64 x] w fun e w' => ∃ v, e = .returned v ∧ Below w.heap.size w w' ∧ ∃ g q, v = .tuple #[.int .u64 g, .bool q] ∧ GapS S x g q := by
  obtain ⟨a, n, c, m, rfl, h1, h2, h3, h4⟩ := setP_form h
  have := h4.len
  exact (gap_ok a n c m x A w h4 h1 (by omega)).mono fun e w' ⟨v, e1, e2, g, q, e3, e4⟩ => ⟨v, e1, e2, g, q, e3, gapOf_S h1 (fits_u64 hx).2 h2 e4⟩
theorem runs_p (w : World) (h : (setP S B).at_ w A v) (hB : B ≤ 900000) :
    Calls Try.prog 21 #[v] w fun e w' => ∃ r, e = .returned r ∧ Below w.heap.size w w' ∧ (sliP S B).at_ w' (fun k => w.heap.size ≤ k) r := by
  obtain ⟨a, n, c, m, rfl, h1, h2, h3, h4⟩ := setP_form h
  have hl := h4.len
  have hok := slr_okL h4
  subst hl
  exact (runs_ok a _ c m A w h4 (by omega)).mono fun e w' ⟨a', c', e1, e2, e3⟩ => ⟨_, e1, e2, sliP_mk h1 h2 h3 (slr_row e3 hok fun k hk => hk)⟩
theorem same_p (w : World) (h : (setP S B).at_ w A v) (k : (setP T C).at_ w D u) :
    Calls Try.prog 22 #[v, u] w fun e w' => ∃ v, e = .returned v ∧ Below w.heap.size w w' ∧ ∃ q, v = .bool q ∧ (q = true ↔ ∀ x, S x ↔ T x) := by
  obtain ⟨a, n, c, m, rfl, h1, h2, h3, h4⟩ := setP_form h
  obtain ⟨a', n', c', m', rfl, k1, k2, k3, k4⟩ := setP_form k
  exact (same_ok a a' n c n' c' m m' A D w h4 k4).mono fun e w' ⟨e1, e2⟩ => ⟨_, e1, e2, _, rfl, by rw [decide_eq_true_iff]; exact can_eq h1 k1 h2 k2⟩
theorem rsame_p (w : World) (h : (sliP S B).at_ w A v) (k : (sliP T C).at_ w D u) :
    Calls Try.prog 18 #[v, u] w fun e w' => ∃ v, e = .returned v ∧ Below w.heap.size w w' ∧ ∃ q, v = .bool q ∧ (q = true ↔ ∀ x, S x ↔ T x) := by
  obtain ⟨a, n, c, m, rfl, h1, h2, h3, h4⟩ := sliP_form h
  obtain ⟨a', n', c', m', rfl, k1, k2, k3, k4⟩ := sliP_form k
  exact (rsame_ok a a' n c n' c' m m' A D w h4 k4).mono fun e w' ⟨e1, e2⟩ => ⟨_, e1, e2, _, rfl, by rw [decide_eq_true_iff]; exact can_eq h1 k1 h2 k2⟩
theorem own_p (w : World) (h : (sliP S B).at_ w A v) (hB : B ≤ 900000) :
    Calls Try.prog 19 #[v] w fun e w' => ∃ r, e = .returned r ∧ Below w.heap.size w w' ∧ (sliP S B).at_ w' (fun k => w.heap.size ≤ k) r := by
  obtain ⟨a, n, c, m, rfl, h1, h2, h3, h4⟩ := sliP_form h
  have hl := h4.len
  exact (own_ok a n c m A w h4 (by omega)).mono fun e w' ⟨v, e1, e2, e3⟩ => ⟨v, e1, e2, m, h1, h2, h3, e3⟩
theorem own_l (l : List Run) (w : World) (h : (Rslice Rrun).val w A v l) (hB : l.length ≤ 900000) :
    Calls Try.prog 19 #[v] w fun e w' => ∃ r, e = .returned r ∧ Below w.heap.size w w' ∧ (Rslice Rrun).val w' (fun k => w.heap.size ≤ k) r l := by
  obtain ⟨a, n, c, rfl, h4⟩ := SlR.form h
  have hl := h4.len
  exact own_ok a n c l A w h4 (by omega)
end

theorem nbb {p : Vp} {w0 w w' : World} {A : Nat → Prop} {ol : OL} {v : Value} (hh : Hp w0 w ol) (h : p.at_ w' (fun k => w.heap.size ≤ k) v) : p.at_ w' (BB w0 A ol) v := p.mono h fun k hk => BB_new hh hk
end Go.Proofs.Ytgjibkocpmajdaa
