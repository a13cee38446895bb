/-
  An engine of rules for walks, part U: lists whose elements are looked through. No program's text; conditions: each theorem's own.
-/
import Derived.Test.YtggnhcgmeibihaaEngS
import Derived.Test.YtggnhcgmeibihaaEngT
namespace Go.Proofs.Ytggnhcgmeibihaa
open Go Go.RowKit
set_option linter.unusedVariables false

theorem mk_i64 {n : Int} (h : -9223372036854775808 ≤ n ∧ n ≤ 9223372036854775807) : Fits .i64 n := by simpa [Fits, IntKind.min, IntKind.max, IntKind.signed, IntKind.bits] using h
theorem mk_u64 {n : Int} (h : 0 ≤ n ∧ n ≤ 18446744073709551615) : Fits .u64 n := by simpa [Fits, IntKind.min, IntKind.max, IntKind.signed, IntKind.bits] using h
/-- What the heap tells. -/
theorem T_kn {P : Program} {n : Nat} {w0 : World} {c : Code} {l : FL} {ol : OL} {Q : Post} {X : Prop} (hx : ∀ w, Hp w0 w ol → X) (k : X → T P n w0 c l ol Q) : T P n w0 c l ol Q :=
  ⟨fun a w hf hh => (k (hx w hh)).out a w hf hh⟩
theorem S_kn {P : Program} {n : Nat} {w0 : World} {all : Array Oper} {os : List Oper} {l : FL} {ol : OL} {K : FL → OL → Prop} {Q : Post} {p : Prop} (h : ∀ w, Hp w0 w ol → p) (k : p → S P n w0 all os l ol K Q) : S P n w0 all os l ol K Q :=
  ⟨fun a w hf hh => (k (h w hh)).out a w hf hh⟩
theorem S_rowA {P : Program} {n : Nat} {w0 : World} {all : Array Oper} {os : List Oper} {l : FL} {ol : OL} {K : FL → OL → Prop} {Q : Post} (i : Nat) {a : Option Addr} {m c base sz : Nat} {e : TypeId} {xs : List Value} (hi : getE ol i = some (.row base (.slice a m c) e sz m xs)) (hm : 0 < m)
    (k : ∀ b, a = some ⟨b, 0, none⟩ → S P n w0 all os l ol K Q) : S P n w0 all os l ol K Q :=
  ⟨fun ac w hf hh => by
    obtain ⟨_, h2⟩ : w.ownsRow base e sz (.slice a m c) m xs := hh.own _ (getE_mem hi)
    rcases h2 with ⟨h2, h3⟩ | ⟨g, cap, cur, h2, _⟩
    · omega
    · cases h2
      exact (k g rfl).out ac w hf hh⟩

/-- What the elements of a list say, with their cells; the value does not count. -/
def Bod {α : Type} (R : Rep α) (css : List (List Value)) (l : List α) : Vp :=
  ⟨fun w A _ => css.length = l.length ∧ ∀ (i : Nat) (cs : List Value) (x : α), css[i]? = some cs → l[i]? = some x → R.at_ w A cs x,
   fun ⟨h1, h2⟩ hk => ⟨h1, fun i cs x hi hx => R.keep (h2 i cs x hi hx) hk⟩⟩
theorem Bod.nil_ {α : Type} {R : Rep α} {w : World} {A : Nat → Prop} {v : Value} : (Bod R [] ([] : List α)).at_ w A v := ⟨rfl, fun i cs x h => by simp at h⟩
theorem Bod.snoc {α : Type} {R : Rep α} {w : World} {A : Nat → Prop} {v u : Value} {css : List (List Value)} {l : List α} {cs : List Value} {x : α} (h : (Bod R css l).at_ w A v) (hx : R.at_ w A cs x) : (Bod R (css ++ [cs]) (l ++ [x])).at_ w A u := by
  obtain ⟨h1, h2⟩ := h
  refine ⟨by simp [h1], fun i ds y hi hy => ?_⟩
  rcases Nat.lt_or_ge i css.length with h | h
  · rw [List.getElem?_append_left h] at hi
    rw [List.getElem?_append_left (by omega)] at hy
    exact h2 i ds y hi hy
  · rw [List.getElem?_append_right h] at hi
    rw [List.getElem?_append_right (by omega)] at hy
    have hi0 : i - css.length = 0 := by
      have := (List.getElem?_eq_some_iff.1 hi).1
      simp at this
      omega
    rw [← h1] at hy
    rw [hi0] at hi hy
    simp only [List.getElem?_cons_zero, Option.some.injEq] at hi hy
    subst hi
    subst hy
    exact hx
theorem Bod.get_ {α : Type} {R : Rep α} {w : World} {A : Nat → Prop} {v : Value} {css : List (List Value)} {l : List α} (h : (Bod R css l).at_ w A v) {i : Nat} (hi : i < l.length) : ∃ cs, css[i]? = some cs ∧ R.at_ w A cs l[i] := by
  obtain ⟨h1, h2⟩ := h
  have hc : css[i]? = some css[i] := List.getElem?_eq_getElem (by omega)
  exact ⟨_, hc, h2 i _ _ hc (List.getElem?_eq_getElem hi)⟩
theorem Bod.szs {α : Type} {R : Rep α} {w : World} {A : Nat → Prop} {v : Value} {css : List (List Value)} {l : List α} (h : (Bod R css l).at_ w A v) : ∀ c ∈ css, c.length = R.sz := css_sz h.1 h.2
/-- A row of such cells, and what they say, is what the slice reads as. -/
theorem Bod.slr {α : Type} {R : Rep α} {w : World} {F : Nat → Prop} {v : Value} {css : List (List Value)} {l : List α} {base : Nat} {E : TypeId} {a : Option Addr} {n c : Nat} (h : (Bod R css l).at_ w F v) (hr : w.ownsRow base E R.sz (.slice a n c) n css.flatten) (hn : l.length = n) (hA : ∀ k, base ≤ k → (Value.slice a n c).ownBlock = some k → F k) : SlR R w F a n c l := by
  obtain ⟨A', C', e', h1, h2⟩ := form_of_own hr
  cases e'
  refine ⟨hn, h1, h2, fun ha => ?_, ⟨css, h.1.trans hn, h.2, Sl.of_own hr⟩, fun hn => ?_⟩
  · obtain ⟨_, h3⟩ := hr
    rcases h3 with ⟨e2, _⟩ | ⟨g, cap, cur, e2, _⟩
    · cases e2; exact ⟨rfl, by omega⟩
    · cases e2; cases ha
  · obtain ⟨_, h3⟩ := hr
    rcases h3 with ⟨e2, _⟩ | ⟨g, cap, cur, e2, hb, _⟩
    · cases e2; omega
    · cases e2; exact ⟨g, 0, rfl, hA g hb rfl⟩
/-- A cell of a row of our own. -/
theorem own_cell {w : World} {base : Nat} {e : TypeId} {sz b c n : Nat} {xs : List Value} (h : w.ownsRow base e sz (.slice (some ⟨b, 0, none⟩) n c) n xs) (hn : 0 < n) {j : Nat} {u : Value} (hu : xs[j]? = some u) : w.cell? ⟨b, j, none⟩ = some u := by
  obtain ⟨b', off, e, _, hc⟩ := (Sl.of_own h).get hn
  cases e
  have := hc j u hu
  rwa [Nat.zero_add] at this
end Go.Proofs.Ytggnhcgmeibihaa
