/-
  An engine of rules for walks, part I: what values read as, put together out of parts; calls whose answers are only read. No program's text; conditions: each theorem's own.
-/
import Derived.Test.YtggnhcgmeibihaaEngH
namespace Go.Proofs.Ytggnhcgmeibihaa
open Go Go.RowKit
set_option linter.unusedVariables false

/-! ### Readings -/
/-- Cells read as a datum; what is looked at lies in blocks of A alone. -/
structure Rep (α : Type) where
  sz : Nat
  agg : Bool
  at_ : World → (Nat → Prop) → List Value → α → Prop
  len : ∀ {w A cs x}, at_ w A cs x → cs.length = sz
  keep : ∀ {w w' A B cs x}, at_ w A cs x → (∀ k, A k → k < w.heap.size → w'.heap[k]? = w.heap[k]? ∧ B k) → at_ w' B cs x

/-- What is said of a value. -/
structure Vp where
  at_ : World → (Nat → Prop) → Value → Prop
  keep : ∀ {w w' A B v}, at_ w A v → (∀ k, A k → k < w.heap.size → w'.heap[k]? = w.heap[k]? ∧ B k) → at_ w' B v

abbrev TT : Nat → Prop := fun _ => True

section
variable {α β : Type}
def Rep.val (R : Rep α) (w : World) (A : Nat → Prop) (v : Value) (x : α) : Prop :=
  match R.agg with
  | true => ∃ cs, v = .agg ⟨cs⟩ ∧ R.at_ w A cs x
  | false => R.at_ w A [v] x
theorem Rep.val_keep (R : Rep α) {w w' : World} {A B : Nat → Prop} {v : Value} {x : α} (h : R.val w A v x) (hk : ∀ k, A k → k < w.heap.size → w'.heap[k]? = w.heap[k]? ∧ B k) : R.val w' B v x := by
  unfold Rep.val at h ⊢
  split at h
  · obtain ⟨cs, rfl, h⟩ := h
    exact ⟨cs, rfl, R.keep h hk⟩
  · exact R.keep h hk
def Rep.vp (R : Rep α) (x : α) : Vp := ⟨fun w A v => R.val w A v x, fun h hk => R.val_keep h hk⟩
def Vtup2 (p q : Vp) : Vp := ⟨fun w A v => ∃ a b, v = .tuple #[a, b] ∧ p.at_ w A a ∧ q.at_ w A b, fun ⟨a, b, e, h1, h2⟩ hk => ⟨a, b, e, p.keep h1 hk, q.keep h2 hk⟩⟩

theorem Vp.ext (p : Vp) {w w' : World} {A : Nat → Prop} {v : Value} (h : p.at_ w A v) (hb : Below w.heap.size w w') : p.at_ w' A v :=
  p.keep h fun k hk hlt => ⟨hb.block k hlt, hk⟩
theorem Vp.mono (p : Vp) {w : World} {A B : Nat → Prop} {v : Value} (h : p.at_ w A v) (hb : ∀ k, A k → B k) : p.at_ w B v :=
  p.keep h fun k hk hlt => ⟨rfl, hb k hk⟩
theorem Vp.tt (p : Vp) {w : World} {A : Nat → Prop} {v : Value} (h : p.at_ w A v) : p.at_ w TT v := p.mono h fun _ _ => trivial
theorem Rep.tt (R : Rep α) {w : World} {A : Nat → Prop} {cs : List Value} {x : α} (h : R.at_ w A cs x) : R.at_ w TT cs x := R.keep h fun _ _ _ => ⟨rfl, trivial⟩
theorem Rep.at_ext (R : Rep α) {w w' : World} {A : Nat → Prop} {cs : List Value} {x : α} (h : R.at_ w A cs x) (hb : Below w.heap.size w w') : R.at_ w' A cs x :=
  R.keep h fun k hk hlt => ⟨hb.block k hlt, hk⟩
theorem Rep.at_mono (R : Rep α) {w : World} {A B : Nat → Prop} {cs : List Value} {x : α} (h : R.at_ w A cs x) (hb : ∀ k, A k → B k) : R.at_ w B cs x := R.keep h fun k hk _ => ⟨rfl, hb k hk⟩

/-! parts -/
def Rint (k : IntKind) : Rep Int := ⟨1, false, fun w A cs x => cs = [.int k x] ∧ Fits k x, fun h => by rw [h.1]; rfl, fun h _ => h⟩
def Rbool : Rep Bool := ⟨1, false, fun w A cs x => cs = [.bool x], fun h => by rw [h]; rfl, fun h _ => h⟩
def Rpair (R : Rep α) (S : Rep β) : Rep (α × β) :=
  ⟨R.sz + S.sz, true, fun w A cs x => ∃ c1 c2, cs = c1 ++ c2 ∧ R.at_ w A c1 x.1 ∧ S.at_ w A c2 x.2,
    fun ⟨c1, c2, e, h1, h2⟩ => by rw [e, List.length_append, R.len h1, S.len h2],
    fun ⟨c1, c2, e, h1, h2⟩ hk => ⟨c1, c2, e, R.keep h1 hk, S.keep h2 hk⟩⟩
def Rone (R : Rep α) : Rep α := ⟨R.sz, true, R.at_, R.len, R.keep⟩
def Rmap (R : Rep α) (f : β → α) : Rep β := ⟨R.sz, R.agg, fun w A cs x => R.at_ w A cs (f x), R.len, R.keep⟩

/-! slices -/
theorem flat_get {sz : Nat} : ∀ {css : List (List Value)} {i j : Nat} {cs : List Value} {u : Value}, (∀ c ∈ css, c.length = sz) → css[i]? = some cs → cs[j]? = some u → css.flatten[i * sz + j]? = some u
  | [], i, j, cs, u, _, h, _ => by simp at h
  | c :: css, 0, j, cs, u, hs, h, hu => by
    simp at h
    subst h
    have hj : j < c.length := (List.getElem?_eq_some_iff.1 hu).1
    rw [List.flatten_cons, Nat.zero_mul, Nat.zero_add, List.getElem?_append_left hj]
    exact hu
  | c :: css, i + 1, j, cs, u, hs, h, hu => by
    have hc := hs c (by simp)
    rw [List.flatten_cons, List.getElem?_append_right (by rw [hc, Nat.add_mul]; omega), hc]
    have e : (i + 1) * sz + j - sz = i * sz + j := by rw [Nat.add_mul]; omega
    rw [e]
    exact flat_get (fun c hc => hs c (List.mem_cons_of_mem _ hc)) (by simpa using h) hu
theorem flat_len {sz : Nat} : ∀ {css : List (List Value)}, (∀ c ∈ css, c.length = sz) → css.flatten.length = css.length * sz
  | [], _ => by simp
  | c :: css, hs => by
    rw [List.flatten_cons, List.length_append, hs c (by simp), flat_len fun c hc => hs c (List.mem_cons_of_mem _ hc), List.length_cons, Nat.add_mul]
    omega
theorem flat_take {sz : Nat} : ∀ {css : List (List Value)} (k : Nat), (∀ c ∈ css, c.length = sz) → (css.take k).flatten = css.flatten.take (k * sz)
  | [], k, _ => by simp
  | c :: css, 0, hs => by simp
  | c :: css, k + 1, hs => by
    have hc := hs c (by simp)
    rw [List.take_succ_cons, List.flatten_cons, List.flatten_cons, flat_take k fun c hc => hs c (List.mem_cons_of_mem _ hc), List.take_append, hc,
      List.take_of_length_le (l := c) (by rw [hc, Nat.add_mul]; omega)]
    congr 2
    rw [Nat.add_mul]; omega
theorem flat_drop {sz : Nat} : ∀ {css : List (List Value)} (k : Nat), (∀ c ∈ css, c.length = sz) → (css.drop k).flatten = css.flatten.drop (k * sz)
  | [], k, _ => by simp
  | c :: css, 0, hs => by simp
  | c :: css, k + 1, hs => by
    have hc := hs c (by simp)
    rw [List.drop_succ_cons, List.flatten_cons, flat_drop k fun c hc => hs c (List.mem_cons_of_mem _ hc), List.drop_append, hc, List.drop_of_length_le (l := c) (by rw [hc, Nat.add_mul]; omega), List.nil_append]
    congr 1
    rw [Nat.add_mul]; omega

structure SlR (R : Rep α) (w : World) (A : Nat → Prop) (a : Option Addr) (n c : Nat) (l : List α) : Prop where
  len : l.length = n
  cap : n ≤ c
  max : c ≤ maxLen
  nil : a = none → n = 0 ∧ c = 0
  each : ∃ css : List (List Value), css.length = n ∧ (∀ (i : Nat) (cs : List Value) (x : α), css[i]? = some cs → l[i]? = some x → R.at_ w A cs x) ∧ Sl w R.sz a n css.flatten
  blk : 0 < n → ∃ b off, a = some ⟨b, off, none⟩ ∧ A b

theorem css_sz {R : Rep α} {w : World} {A : Nat → Prop} {l : List α} {css : List (List Value)} (hl : css.length = l.length) (h : ∀ (i : Nat) (cs : List Value) (x : α), css[i]? = some cs → l[i]? = some x → R.at_ w A cs x) : ∀ c ∈ css, c.length = R.sz := by
  intro c hc
  obtain ⟨i, hi⟩ := List.getElem?_of_mem hc
  have hlt : i < l.length := by rw [← hl]; exact (List.getElem?_eq_some_iff.1 hi).1
  exact R.len (h i c _ hi (List.getElem?_eq_getElem hlt))

theorem SlR.keep {R : Rep α} {w w' : World} {A B : Nat → Prop} {a : Option Addr} {n c : Nat} {l : List α} (h : SlR R w A a n c l) (hk : ∀ k, A k → k < w.heap.size → w'.heap[k]? = w.heap[k]? ∧ B k) : SlR R w' B a n c l := by
  obtain ⟨css, h1, h2, h3⟩ := h.each
  refine ⟨h.len, h.cap, h.max, h.nil, ⟨css, h1, fun i cs x hi hx => R.keep (h2 i cs x hi hx) hk, h3.len, fun hn => ?_⟩, fun hn => ?_⟩
  · obtain ⟨b, off, e, hlt, hc⟩ := h3.get hn
    obtain ⟨b', off', e', hA⟩ := h.blk hn
    rw [e] at e'
    cases e'
    have hb := (hk b hA hlt).1
    obtain ⟨x, hx⟩ : ∃ x, w.heap[b]? = some x := ⟨_, Array.getElem?_eq_getElem hlt⟩
    exact ⟨b, off, e, heap_lt (hb.trans hx), fun j u hu => (World.cell?_of_block (w := w) (a := ⟨b, off + j, none⟩) hb).trans (hc j u hu)⟩
  · obtain ⟨b, off, e, hA⟩ := h.blk hn
    obtain ⟨b', off', e', hlt, _⟩ := h3.get hn
    rw [e] at e'
    cases e'
    exact ⟨b, off, e, (hk b hA hlt).2⟩

def Rslice (R : Rep α) : Rep (List α) :=
  ⟨1, false, fun w A cs l => ∃ a n c, cs = [.slice a n c] ∧ SlR R w A a n c l, fun ⟨a, n, c, e, _⟩ => by rw [e]; rfl, fun ⟨a, n, c, e, h⟩ hk => ⟨a, n, c, e, h.keep hk⟩⟩

variable {R : Rep α} {w w' : World} {A B : Nat → Prop} {a : Option Addr} {n c : Nat} {l : List α}
theorem SlR.ext (h : SlR R w A a n c l) (hb : Below w.heap.size w w') : SlR R w' A a n c l := h.keep fun k hk hlt => ⟨hb.block k hlt, hk⟩
theorem SlR.mono (h : SlR R w A a n c l) (hb : ∀ k, A k → B k) : SlR R w B a n c l := h.keep fun k hk _ => ⟨rfl, hb k hk⟩
theorem SlR.tt (h : SlR R w A a n c l) : SlR R w TT a n c l := h.mono fun _ _ => trivial
theorem SlR.val (h : SlR R w A a n c l) : (Rslice R).val w A (.slice a n c) l := ⟨a, n, c, rfl, h⟩
theorem SlR.of_val (h : (Rslice R).val w A (.slice a n c) l) : SlR R w A a n c l := by
  obtain ⟨a', n', c', e, h⟩ := h
  cases e
  exact h
theorem SlR.form {v : Value} (h : (Rslice R).val w A v l) : ∃ a n c, v = .slice a n c ∧ SlR R w A a n c l := by
  obtain ⟨a', n', c', e, h⟩ := h
  cases e
  exact ⟨_, _, _, rfl, h⟩
theorem SlR.nil_ : SlR R w A none 0 0 [] := ⟨rfl, Nat.le_refl _, Nat.zero_le _, fun _ => ⟨rfl, rfl⟩, ⟨[], rfl, fun i cs x h => by simp at h, Sl.nil_⟩, fun h => absurd h (by omega)⟩
theorem SlR.take (h : SlR R w A a n c l) {k : Nat} (hk : k ≤ n) : SlR R w A a k c (l.take k) := by
  obtain ⟨css, h1, h2, h3⟩ := h.each
  have hs := css_sz (h1.trans h.len.symm) h2
  refine ⟨by rw [List.length_take, h.len]; omega, Nat.le_trans hk h.cap, h.max, fun e => ⟨by have := (h.nil e).1; omega, (h.nil e).2⟩, ⟨css.take k, by rw [List.length_take]; omega, fun i cs x hi hx => ?_, ?_⟩, fun hn => h.blk (by omega)⟩
  · rw [List.getElem?_take] at hi hx
    split at hi
    · rename_i hlt
      rw [if_pos hlt] at hx
      exact h2 i cs x hi hx
    · cases hi
  · rw [flat_take k hs]
    exact h3.take hk
theorem SlR.drop (h : SlR R w A a n c l) {k : Nat} (hk : k ≤ n) : SlR R w A (if c = k then a else a.map (·.add (k * R.sz))) (n - k) (c - k) (l.drop k) := by
  obtain ⟨css, h1, h2, h3⟩ := h.each
  have hs := css_sz (h1.trans h.len.symm) h2
  have hcap := h.cap
  have hmax := h.max
  refine ⟨by rw [List.length_drop, h.len], by omega, by omega, fun e => ?_, ⟨css.drop k, by rw [List.length_drop]; omega, fun i cs x hi hx => ?_, ?_⟩, fun hn => ?_⟩
  · by_cases hck : c = k
    · omega
    · rw [if_neg hck, Option.map_eq_none_iff] at e
      have := h.nil e
      omega
  · rw [List.getElem?_drop] at hi hx
    exact h2 _ cs x hi hx
  · rw [flat_drop k hs]
    exact h3.drop hk h.cap
  · obtain ⟨b, off, e, hA⟩ := h.blk (by omega)
    rw [if_neg (by omega), e]
    exact ⟨b, off + k * R.sz, by simp [Addr.add_lit], hA⟩
theorem SlR.get_ (h : SlR R w A a n c l) {i : Nat} (hi : i < l.length) : ∃ b off cs, a = some ⟨b, off, none⟩ ∧ b < w.heap.size ∧ R.at_ w A cs l[i] ∧ cs.length = R.sz ∧ (∀ j u, cs[j]? = some u → w.cell? ⟨b, off + i * R.sz + j, none⟩ = some u) ∧ A b := by
  obtain ⟨css, h1, h2, h3⟩ := h.each
  have hs := css_sz (h1.trans h.len.symm) h2
  have hl := h.len
  obtain ⟨b, off, e, hlt, hc⟩ := h3.get (by omega)
  obtain ⟨b', off', e', hA⟩ := h.blk (by omega)
  rw [e] at e'
  cases e'
  have hci : css[i]? = some css[i] := List.getElem?_eq_getElem (by omega)
  have hat := h2 i css[i] l[i] hci (List.getElem?_eq_getElem hi)
  refine ⟨b, off, css[i], e, hlt, hat, R.len hat, fun j u hu => ?_, hA⟩
  rw [Nat.add_assoc]
  exact hc _ u (flat_get hs hci hu)
/-- .. at an address that is known -/
theorem SlR.at_ {b off : Nat} (h : SlR R w A (some ⟨b, off, none⟩) n c l) {i : Nat} (hi : i < l.length) : ∃ cs, b < w.heap.size ∧ R.at_ w A cs l[i] ∧ cs.length = R.sz ∧ (∀ j u, cs[j]? = some u → w.cell? ⟨b, off + i * R.sz + j, none⟩ = some u) ∧ A b := by
  obtain ⟨b', off', cs, e, h1⟩ := h.get_ hi
  cases e
  exact ⟨cs, h1⟩

/-! what is told by its cells alone -/
structure Flat (R : Rep α) (enc : α → List Value) (ok : α → Prop) : Prop where
  iff : ∀ w A cs x, R.at_ w A cs x ↔ cs = enc x ∧ ok x
theorem flat_int (k : IntKind) : Flat (Rint k) (fun x => [.int k x]) (Fits k) := ⟨fun _ _ _ _ => Iff.rfl⟩
theorem Flat.sz {w : World} {A : Nat → Prop} {enc : α → List Value} {ok : α → Prop} (F : Flat R enc ok) {x : α} (h : ok x) : (enc x).length = R.sz := R.len ((F.iff w A (enc x) x).2 ⟨rfl, h⟩)
theorem SlR.flat {enc : α → List Value} {ok : α → Prop} (F : Flat R enc ok) (h : SlR R w A a n c l) : Sl w R.sz a n (l.map enc).flatten ∧ ∀ x ∈ l, ok x := by
  obtain ⟨css, h1, h2, h3⟩ := h.each
  have e : css = l.map enc := by
    apply List.ext_getElem?
    intro i
    rcases Nat.lt_or_ge i css.length with hi | hi
    · have hil : i < l.length := by have := h.len; omega
      have := (F.iff _ _ _ _).1 (h2 i _ _ (List.getElem?_eq_getElem hi) (List.getElem?_eq_getElem hil))
      rw [List.getElem?_eq_getElem hi, this.1, List.getElem?_map, List.getElem?_eq_getElem hil]
      rfl
    · rw [List.getElem?_eq_none hi, List.getElem?_eq_none (by rw [List.length_map]; have := h.len; omega)]
  rw [← e]
  refine ⟨h3, fun x hx => ?_⟩
  obtain ⟨i, hi⟩ := List.getElem?_of_mem hx
  have hil := (List.getElem?_eq_some_iff.1 hi).1
  have hic : i < css.length := by have := h.len; omega
  exact ((F.iff _ _ _ _).1 (h2 i _ _ (List.getElem?_eq_getElem hic) hi)).2
theorem SlR.of_flat {enc : α → List Value} {ok : α → Prop} (F : Flat R enc ok) (hl : l.length = n) (hc : n ≤ c) (hm : c ≤ maxLen) (hn : a = none → n = 0 ∧ c = 0) (hs : Sl w R.sz a n (l.map enc).flatten) (hok : ∀ x ∈ l, ok x) (hA : 0 < n → ∃ b off, a = some ⟨b, off, none⟩ ∧ A b) : SlR R w A a n c l :=
  ⟨hl, hc, hm, hn, ⟨l.map enc, by rw [List.length_map, hl], fun i cs x hi hx => by
    rw [List.getElem?_map, hx] at hi
    simp only [Option.map_some, Option.some.injEq] at hi
    exact (F.iff _ _ _ _).2 ⟨hi.symm, hok x (List.mem_of_getElem? hx)⟩, hs⟩, hA⟩
theorem SlR.of_row {enc : α → List Value} {ok : α → Prop} {base : Nat} {e : TypeId} (F : Flat R enc ok) (h : w.ownsRow base e R.sz (.slice a n c) n (l.map enc).flatten) (hl : l.length = n) (hok : ∀ x ∈ l, ok x) (hA : ∀ k, base ≤ k → (Value.slice a n c).ownBlock = some k → A k) : SlR R w A a n c l := by
  obtain ⟨A', C', e', h1, h2⟩ := form_of_own h
  cases e'
  refine .of_flat F hl h1 h2 (fun ha => ?_) (Sl.of_own h) hok (fun hn => ?_)
  · obtain ⟨_, h3⟩ := h
    rcases h3 with ⟨e2, _⟩ | ⟨g, cap, cur, e2, _⟩
    · cases e2; exact ⟨rfl, by omega⟩
    · cases e2; cases ha
  · obtain ⟨_, h3⟩ := h
    rcases h3 with ⟨e2, _⟩ | ⟨g, cap, cur, e2, hb, _⟩
    · cases e2; omega
    · cases e2; exact ⟨g, 0, rfl, hA g hb rfl⟩
theorem map_one {k : IntKind} (zs : List Int) : (zs.map fun x => [Value.int k x]).flatten = zs.map (.int k) := by
  induction zs with
  | nil => rfl
  | cons z zs ih => rw [List.map_cons, List.flatten_cons, ih, List.map_cons]; rfl
theorem SlR.ints {k : IntKind} {zs : List Int} (h : SlR (Rint k) w A a n c zs) : Ints k w a n c zs := by
  obtain ⟨h1, h2⟩ := h.flat (flat_int k)
  rw [map_one] at h1
  exact ⟨h.len, h.cap, h.max, h.nil, h2, h1⟩
theorem SlR.of_ints {k : IntKind} {zs : List Int} (h : Ints k w a n c zs) (hA : ∀ b off, 0 < n → a = some ⟨b, off, none⟩ → A b) : SlR (Rint k) w A a n c zs := by
  have hs := h.sl
  rw [← map_one] at hs
  exact .of_flat (flat_int k) h.len h.cap h.max h.nil hs h.fits fun hn => by
    obtain ⟨b, off, e, _⟩ := h.sl.get hn
    exact ⟨b, off, e, hA b off hn e⟩
end

/-! ### Blocks that nobody turns -/
def BB (w0 : World) (A : Nat → Prop) (ol : OL) (k : Nat) : Prop := (A k ∨ w0.heap.size ≤ k) ∧ ∀ e ∈ ol, e.ex = true → ¬ e.has k

section
variable {w0 w w' : World} {A F : Nat → Prop} {ol : OL} {v : Value} {p : Vp}
theorem BB_new (hh : Hp w0 w ol) {k : Nat} (h : w.heap.size ≤ k) : BB w0 A ol k :=
  ⟨.inr (Nat.le_trans hh.size h), fun e he _ hk => by have := hh.lt he hk; omega⟩
/-- What was said at the beginning. -/
theorem Vp.old (hx : p.at_ w0 A v) (hh : Hp w0 w ol) (hn : ∀ e ∈ ol, e.ex = true → ∀ k, e.has k → w0.heap.size ≤ k) : p.at_ w (BB w0 A ol) v :=
  p.keep hx fun k hk hlt => ⟨(hh.below hn).block k hlt, .inl hk, fun e he hx hh' => by have := hn e he hx k hh'; omega⟩
theorem Rep.old {α : Type} {R : Rep α} {x : α} {cs : List Value} (hx : R.at_ w0 A cs x) (hh : Hp w0 w ol) (hn : ∀ e ∈ ol, e.ex = true → ∀ k, e.has k → w0.heap.size ≤ k) : R.at_ w (BB w0 A ol) cs x :=
  R.keep hx fun k hk hlt => ⟨(hh.below hn).block k hlt, .inl hk, fun e he hx hh' => by have := hn e he hx k hh'; omega⟩
theorem SlR.old {α : Type} {R : Rep α} {a : Option Addr} {n c : Nat} {l : List α} (hx : SlR R w0 A a n c l) (hh : Hp w0 w ol) (hn : ∀ e ∈ ol, e.ex = true → ∀ k, e.has k → w0.heap.size ≤ k) : SlR R w (BB w0 A ol) a n c l :=
  hx.keep fun k hk hlt => ⟨(hh.below hn).block k hlt, .inl hk, fun e he hx hh' => by have := hn e he hx k hh'; omega⟩
theorem getE_other {i : Nat} {x e : HE} (hp : ol.Pairwise Dis) (hi : getE ol i = some x) (he : e ∈ ol) (hx : x.ex = false) (hex : e.ex = true) : Dis x e := by
  have hxm := getE_mem hi
  have hne : x ≠ e := fun h => by rw [h, hex] at hx; cases hx
  clear hi
  induction ol with
  | nil => cases hxm
  | cons y ys ih =>
    rw [List.pairwise_cons] at hp
    rcases List.mem_cons.1 hxm with h1 | h1
    · subst h1
      rcases List.mem_cons.1 he with h2 | h2
      · exact absurd h2.symm hne
      · exact hp.1 e h2
    · rcases List.mem_cons.1 he with h2 | h2
      · subst h2
        exact (hp.1 x h1).symm
      · exact ih hp.2 h2 h1
/-- What an entry says. -/
theorem Vp.fact (hh : Hp w0 w ol) (i : Nat) (hi : getE ol i = some (.rep (fun w => p.at_ w F v) F false)) (hF : ∀ k, F k → A k ∨ w0.heap.size ≤ k) : p.at_ w (BB w0 A ol) v :=
  p.keep (hh.own _ (getE_mem hi)).1 fun k hk hlt => ⟨rfl, hF k hk, fun e he hx hh' => getE_other hh.apart hi he rfl hx (by rw [hx]; rfl) k hk hh'⟩
theorem Vp.fact0 (hh : Hp w0 w ol) (i : Nat) (hi : getE ol i = some (.rep (fun w => p.at_ w F v) F false)) : p.at_ w F v := (hh.own _ (getE_mem hi)).1
theorem Hp.addV (hh : Hp w0 w ol) (h : p.at_ w (BB w0 A ol) v) : ∃ F : Nat → Prop, (∀ k, F k → A k ∨ w0.heap.size ≤ k) ∧ p.at_ w F v ∧ Hp w0 w (.rep (fun w => p.at_ w F v) F false :: ol) := by
  have hF : p.at_ w (fun k => BB w0 A ol k ∧ k < w.heap.size) v := p.keep h fun k hk hlt => ⟨rfl, hk, hlt⟩
  refine ⟨fun k => BB w0 A ol k ∧ k < w.heap.size, fun k hk => hk.1.1, hF, hh.more ⟨hF, fun w1 w2 h1 h2 => p.keep h2 fun k hk _ => ⟨h1 k hk, hk⟩, fun k hk => hk.2⟩ fun e he hr k hk hk' => ?_⟩
  have hex : e.ex = true := by simpa [HE.ex] using hr
  exact hk.1.2 e he hex hk'
end

section
variable {P : Program} {tb : Tab} {n : Nat} {w0 : World} {all : Array Oper} {os : List Oper} {o : Oper} {l : FL} {dl : DL} {ol : OL} {F : DL → Prop} {K : FL → OL → Prop} {Q : Post} {d : Nat}
/-- A callee that turns nothing, and of whose answer something is said. -/
theorem S_callR (p : Vp) (A : Nat → Prop) {f : FuncId} {vs : List Value} (hs : callAt? n all (look l) o = some (d, f, vs)) (hcall : ∀ args w, (callFunc f args).run P w = .ok (.enter f args) w)
    (hc : ∀ w, Hp w0 w ol → Calls P f vs.toArray w (fun e w' => ∃ v, e = .returned v ∧ Below w.heap.size w w' ∧ p.at_ w' (BB w0 A ol) v))
    (k : ∀ v F w1, (∀ k, F k → A k ∨ w0.heap.size ≤ k) → p.at_ w1 F v → S P n w0 all os ((d, v) :: l) (.rep (fun w => p.at_ w F v) F false :: ol) K Q) : S P n w0 all (o :: os) l ol K Q :=
  S_call hs hcall fun w hh => (hc w hh).mono fun e w' ⟨v, he, hb, hp⟩ => by
    obtain ⟨F, h1, h2, h3⟩ := (hh.ext hb).addV hp
    exact ⟨v, _, he, h3, k v F w' h1 h2⟩
def PV (p : Vp) (w0 : World) (A : Nat → Prop) (ol : OL) (v : Value) (w : World) : Prop := p.at_ w (BB w0 A ol) v
theorem PV.stable {p : Vp} {A : Nat → Prop} : ∀ v w w', PV p w0 A ol v w → Below w.heap.size w w' → PV p w0 A ol v w' := fun v w w' h hb => p.ext h hb
theorem D_callR (p : Vp) (A : Nat → Prop) {f : FuncId} {Es : List Ent} (hs : callD? n all dl o = some (d, f, Es)) (hcall : ∀ args w, (callFunc f args).run P w = .ok (.enter f args) w)
    (hc : ∀ w vs, Hp w0 w ol → EntsAt Es vs w → Calls P f vs.toArray w (fun e w' => ∃ v, e = .returned v ∧ Below w.heap.size w w' ∧ p.at_ w' (BB w0 A ol) v)) (k : D P n w0 all os ((d, .pr (PV p w0 A ol)) :: dl) ol F) : D P n w0 all (o :: os) dl ol F :=
  D_callp (PV p w0 A ol) hs hcall PV.stable hc k
theorem exs_refl : ∀ e ∈ ol, e.ex = true → e ∈ ol := fun e he _ => he
theorem exs_ro {Φ : World → Prop} {F : Nat → Prop} {ol1 : OL} (h : ∀ e ∈ ol, e.ex = true → e ∈ ol1) : ∀ e ∈ HE.rep Φ F false :: ol, e.ex = true → e ∈ ol1 := fun e he hx => by
  rcases List.mem_cons.1 he with rfl | he
  · cases hx
  · exact h e he hx
/-- At a region's end: what is known of a slot becomes an entry. -/
theorem D_out (t : Nat) {p : Vp} {A : Nat → Prop} {ol1 : OL} {G : FL → OL → Prop} (h : lk dl t = some (.pr (PV p w0 A ol1))) (hex : ∀ e ∈ ol, e.ex = true → e ∈ ol1)
    (k : ∀ v F w1, (∀ k, F k → A k ∨ w0.heap.size ≤ k) → p.at_ w1 F v → D P n w0 all [] ((t, .ex v) :: dl) (.rep (fun w => p.at_ w F v) F false :: ol) (FEnd n w0 (.rep (fun w => p.at_ w F v) F false :: ol) G)) : D P n w0 all [] dl ol (FEnd n w0 ol G) :=
  D_end fun w hw f hf => by
    have h1 : p.at_ w (BB w0 A ol1) (f t) := hf t _ h
    have h2 : p.at_ w (BB w0 A ol) (f t) := p.mono h1 fun k hk => ⟨hk.1, fun e he hx => hk.2 e (hex e he hx) hx⟩
    obtain ⟨F, g1, g2, g3⟩ := hw.addV h2
    have hk := (k (f t) F w g1 g2).out _ (fun _ => rfl)
    have hk' : FEnd n w0 (.rep (fun w => p.at_ w F (f t)) F false :: ol) G ((t, .ex (f t)) :: dl) := hk
    obtain ⟨l', ol', e1, e2, e3⟩ := hk' w g3 f (fun t' Φ ht' => by
      by_cases htt : t = t'
      · subst htt; rw [lk_cons_eq] at ht'; cases ht'
      · rw [lk_cons_ne htt] at ht'; exact hf t' Φ ht')
    refine ⟨l', ol', fun t' v hv => ?_, e2, e3⟩
    by_cases htt : t = t'
    · subst htt
      rcases e1 t v hv with e | ⟨Φ, e, _⟩
      · rw [lk_cons_eq] at e; cases e; exact .inr ⟨_, h, rfl⟩
      · rw [lk_cons_eq] at e; cases e
    · have := e1 t' v hv
      rwa [lk_cons_ne htt] at this
end
end Go.Proofs.Ytggnhcgmeibihaa
