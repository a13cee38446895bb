/-
  A nil board; rules for the statements about boards; the document's example. Conditions: each theorem's own.
-/
import Derived.Test.YtanhmmfpecgbhaaBoJ
namespace Go.Proofs.Ytanhmmfpecgbhaa
open Go Go.RowKit
set_option linter.unusedVariables false

theorem bo_send0 (w : World) (now : Int) (a : Option Addr) (n c : Nat) : Calls Try.prog 13 #[.pointer none, .int .i64 now, .slice a n c] w fun e w' => e = .returned (.int .u64 0) ∧ Below w.heap.size w w' := by
  refine enter3 Try.func13 rfl rfl (Hp.refl w) ?_
  repeat (first | refine T_seq ?_ | refine T_region ?_ | refine S_nil ?_ | refine S_pure tabOk rfl ?_)
  refine S_q (Q_eqptr tabOk rfl rfl rfl rfl rfl) ?_
  repeat (first | refine T_seq ?_ | refine T_region ?_ | refine S_nil ?_ | refine pthen_ret ?_ | refine T_ret ?_ | refine T_cond_t rfl ?_ | refine S_pure tabOk rfl ?_)
  exact ret1 rfl rfl (fun w' hw => ⟨rfl, hw.below (by repeat (first | exact new_nil))⟩)
theorem bo_take0 (w : World) (a : Option Addr) (n c : Nat) : Calls Try.prog 16 #[.pointer none, setV a n c] w fun e w' => e = .returned (.slice none 0 0) ∧ Below w.heap.size w w' := by
  refine enter2 Try.func16 rfl rfl (Hp.refl w) ?_
  repeat (first | refine T_seq ?_ | refine T_region ?_)
  refine S_new tabOk rfl (fun b3 hb3 => ?_)
  repeat (first | refine T_seq ?_ | refine T_region ?_ | refine S_nil ?_ | refine S_pure tabOk rfl ?_)
  refine S_q (Q_eqptr tabOk rfl rfl rfl rfl rfl) ?_
  repeat (first | refine T_seq ?_ | refine T_region ?_ | refine S_nil ?_ | refine pthen_ret ?_ | refine T_ret ?_ | refine T_cond_t rfl ?_ | refine S_pure tabOk rfl ?_)
  exact ret1 rfl rfl (fun w' hw => ⟨rfl, hw.below (by repeat (first | exact new_nil | refine new_cons (by first | assumption | omega) ?_))⟩)
theorem bo_due0 (w : World) (now : Int) : Calls Try.prog 19 #[.pointer none, .int .i64 now] w fun e w' => e = .returned (.slice none 0 0) ∧ Below w.heap.size w w' := by
  refine enter2 Try.func19 rfl rfl (Hp.refl w) ?_
  repeat (first | refine T_seq ?_ | refine T_region ?_ | refine S_nil ?_ | refine S_pure tabOk rfl ?_)
  refine S_q (Q_eqptr tabOk rfl rfl rfl rfl rfl) ?_
  repeat (first | refine T_seq ?_ | refine T_region ?_ | refine S_nil ?_ | refine pthen_ret ?_ | refine T_ret ?_ | refine T_cond_t rfl ?_ | refine S_pure tabOk rfl ?_)
  exact ret1 rfl rfl (fun w' hw => ⟨rfl, hw.below (by repeat (first | exact new_nil))⟩)
/-- two that are apart -/
theorem Hp.dis {w0 w : World} {ol : OL} (h : Hp w0 w ol) {x y : HE} (i j : Nat) (hi : getE ol i = some x) (hj : getE ol j = some y) (hx : (x.ex || y.ex) = true) (hij : Nat.beq i j = false) {k : Nat} (h1 : x.has k) (h2 : y.has k) : False := by
  rw [getE_get] at hi hj
  obtain ⟨hi1, hi2⟩ := List.getElem?_eq_some_iff.1 hi
  obtain ⟨hj1, hj2⟩ := List.getElem?_eq_some_iff.1 hj
  have hne : i ≠ j := Nat.ne_of_beq_eq_false hij
  rcases Nat.lt_or_gt_of_ne hne with hlt | hlt
  · have := List.pairwise_iff_getElem.1 h.apart i j hi1 hj1 hlt
    rw [hi2, hj2] at this
    exact this hx k h1 h2
  · have := List.pairwise_iff_getElem.1 h.apart j i hj1 hi1 hlt
    rw [hi2, hj2] at this
    exact this (by rw [Bool.or_comm]; exact hx) k h2 h1
/-- cells of a slice, named -/
structure SlX {α : Type} (R : Rep α) (w : World) (A : Nat → Prop) (a : Option Addr) (n c : Nat) (l : List α) (css : List (List Value)) : Prop where
  base : SlR R w A a n c l
  cl : css.length = n
  at_ : ∀ (i : Nat) (cs : List Value) (x : α), css[i]? = some cs → l[i]? = some x → R.at_ w A cs x
  sl : Sl w R.sz a n css.flatten
theorem SlX.keep {α : Type} {R : Rep α} {w w' : World} {A B : Nat → Prop} {a : Option Addr} {n c : Nat} {l : List α} {css : List (List Value)} (h : SlX R w A a n c l css) (hk : ∀ k, A k → k < w.heap.size → w'.heap[k]? = w.heap[k]? ∧ B k) : SlX R w' B a n c l css := by
  refine ⟨h.base.keep hk, h.cl, fun i cs x h1 h2 => R.keep (h.at_ i cs x h1 h2) hk, h.sl.len, fun hn => ?_⟩
  obtain ⟨b, off, e, hlt, hc⟩ := h.sl.get hn
  obtain ⟨b', off', cs, e', hlt', _, _, _, hA⟩ := h.base.get_ (i := 0) (by rw [h.base.len]; exact hn)
  rw [e] at e'
  cases e'
  have h1 := (hk b hA hlt).1
  obtain ⟨o, ho⟩ : ∃ o, w.heap[b]? = some o := ⟨_, Array.getElem?_eq_getElem hlt⟩
  exact ⟨b, off, e, heap_lt (h1.trans ho), fun j u hu => (World.cell?_of_block (w := w) (a := ⟨b, off + j, none⟩) h1).trans (hc j u hu)⟩
/-- slices in a slice, named -/
def LLx (a : Option Addr) (n c : Nat) (xs : List SX) (L : List (List Int)) : Vp :=
  ⟨fun w A _ => SlX (Rslice (Rint .u64)) w A a n c L (xs.map fun x : SX => [x.v]), fun h hk => h.keep hk⟩
theorem toLL {w : World} {A : Nat → Prop} {v : Value} {L : List (List Int)} (h : RLL.val w A v L) : ∃ a n c xs, v = .slice a n c ∧ (LLx a n c xs L).at_ w A (.bool true) := by
  obtain ⟨a, n, c, rfl, h1⟩ := SlR.form h
  obtain ⟨css, h2, h3, h4⟩ := h1.each
  have hx : ∃ xs : List SX, css = xs.map fun x : SX => [x.v] := by
    have : ∀ cs ∈ css, ∃ x : SX, cs = [x.v] := fun cs hc => by
      obtain ⟨i, hi⟩ := List.mem_iff_getElem?.1 hc
      have hil := (List.getElem?_eq_some_iff.1 hi).1
      obtain ⟨y, hy⟩ : ∃ y, L[i]? = some y := ⟨_, List.getElem?_eq_getElem (by rw [h1.len, ← h2]; exact hil)⟩
      obtain ⟨a', n', c', e, _⟩ := h3 i cs y hi hy
      exact ⟨⟨a', n', c'⟩, e⟩
    clear h2 h3 h4
    induction css with
    | nil => exact ⟨[], rfl⟩
    | cons cs css ih =>
      obtain ⟨x, hx⟩ := this cs List.mem_cons_self
      obtain ⟨xs, hxs⟩ := ih fun y hy => this y (List.mem_cons_of_mem _ hy)
      exact ⟨x :: xs, by rw [hx, hxs]; rfl⟩
  obtain ⟨xs, rfl⟩ := hx
  exact ⟨a, n, c, xs, rfl, h1, h2, h3, h4⟩
theorem flat_vs (xs : List SX) : (xs.map fun x : SX => [x.v]).flatten = xs.map SX.v := by
  induction xs with
  | nil => rfl
  | cons x xs ih => rw [List.map_cons, List.flatten_cons, ih]; rfl
theorem LLx.len {a : Option Addr} {n c : Nat} {xs : List SX} {L : List (List Int)} {w : World} {A : Nat → Prop} {v : Value} (h : (LLx a n c xs L).at_ w A v) : L.length = n ∧ xs.length = n := by
  have h1 : SlX (Rslice (Rint .u64)) w A a n c L (xs.map fun x : SX => [x.v]) := h
  exact ⟨h1.base.len, by simpa using h1.cl⟩
theorem LLx.addr {a : Option Addr} {n c : Nat} {xs : List SX} {L : List (List Int)} {w : World} {A : Nat → Prop} {v : Value} (h : (LLx a n c xs L).at_ w A v) (hn : 0 < n) : ∃ b off, a = some ⟨b, off, none⟩ := by
  have h1 : SlX (Rslice (Rint .u64)) w A a n c L (xs.map fun x : SX => [x.v]) := h
  obtain ⟨b, off, e, _⟩ := h1.sl.get hn
  exact ⟨b, off, e⟩
theorem LLx.cell {b off n c : Nat} {xs : List SX} {L : List (List Int)} {w : World} {A : Nat → Prop} {v : Value} (h : (LLx (some ⟨b, off, none⟩) n c xs L).at_ w A v) {i : Nat} {x : SX} (hx : xs[i]? = some x) : w.cell? ⟨b, off + i, none⟩ = some x.v := by
  have h1 : SlX (Rslice (Rint .u64)) w A (some ⟨b, off, none⟩) n c L (xs.map fun x : SX => [x.v]) := h
  have h2 := h1.sl
  rw [flat_vs] at h2
  have hl : xs.length = n := by simpa using h1.cl
  have := (List.getElem?_eq_some_iff.1 hx).1
  exact h2.at_ (by omega) (by rw [List.getElem?_map, hx]; rfl)
theorem LLx.get {a : Option Addr} {n c : Nat} {xs : List SX} {L : List (List Int)} {w : World} {A : Nat → Prop} {v : Value} (h : (LLx a n c xs L).at_ w A v) {i : Nat} {x : SX} {l : List Int} (hx : xs[i]? = some x) (hl : L[i]? = some l) : SlR (Rint .u64) w A x.a x.n x.c l := by
  have h1 : SlX (Rslice (Rint .u64)) w A a n c L (xs.map fun x : SX => [x.v]) := h
  have h2 : (Rslice (Rint .u64)).val w A x.v l := h1.at_ i [x.v] l (by rw [List.getElem?_map, hx]; rfl) hl
  exact SlR.of_val h2
end Go.Proofs.Ytanhmmfpecgbhaa
