/-
  A queue's inner order: plain. What a queue's blocks hold. Conditions: each theorem's own.
-/
import Derived.Test.YteogkadjambmkaaQuB
import Derived.Test.YteogkadjambmkaaItC
namespace Go.Proofs.Yteogkadjambmkaa
open Go Go.RowKit
set_option linter.unusedVariables false

/-- number, class, body -/
abbrev QE := Int × Int × List Int
/-- The heap of numbers: who is there is in it; perhaps some that are gone. -/
structure NH (s : List Int) (L : List QE) (last : Int) : Prop where
  hd : Hd nuR s s.length 0
  sub : ∀ x ∈ L, x.1 ∈ s
  le : ∀ n ∈ s, n ≤ last
theorem NH.nil : NH [] [] 0 := ⟨fun j _ h _ => absurd h (Nat.not_lt_zero _), fun x h => (by cases h), fun n h => (by cases h)⟩
section
variable {P : Program} {iv : Value} {O : HOb P iv (List Int)} (hO : OL_ O nuR) {s : List Int} {L : List QE} {last : Int}
include hO
theorem NH.push (h : NH s L last) {n : Int} (hn : last < n) (x : Int × List Int) : NH (O.up (s.length + 1) (s ++ [n]) s.length) (L ++ [(n, x)]) n := by
  have hp := up_perm hO (s.length + 1) (s ++ [n]) s.length
  have hl : (s ++ [n]).length = s.length + 1 := by rw [List.length_append]; rfl
  refine ⟨?_, fun y hy => ?_, fun y hy => ?_⟩
  · rw [hp.length_eq, hl]
    refine up_heap hO nuR_sw (s.length + 1) (s.length + 1) (s ++ [n]) s.length (by omega) (by omega) (by omega) fun j h0 hj => ⟨fun hji => ?_, fun hp2 _ => by omega⟩
    have := h.hd j h0 (by omega) (Nat.zero_le _)
    unfold ltL at this ⊢
    rw [List.getElem?_append_left (by omega), List.getElem?_append_left (by omega)]
    exact this
  · rw [hp.mem_iff, List.mem_append]
    rcases List.mem_append.1 hy with hy | hy
    · exact .inl (h.sub y hy)
    · rw [List.mem_singleton] at hy
      exact .inr (by rw [hy, List.mem_singleton])
  · rw [hp.mem_iff, List.mem_append] at hy
    rcases hy with hy | hy
    · have := h.le y hy; omega
    · rw [List.mem_singleton] at hy; omega
omit hO in
theorem NH.less {L' : List QE} (h : NH s L last) (hs : ∀ x ∈ L', x ∈ L) : NH s L' last := ⟨h.hd, fun x hx => h.sub x (hs x hx), h.le⟩
omit hO in
theorem last_split {t : List Int} {n : Nat} {x : Int} (hl : t.length = n + 1) (hx : t[n]? = some x) : t = t.take n ++ [x] := by
  obtain ⟨h2, h3⟩ := List.getElem?_eq_some_iff.1 hx
  have h4 := List.take_append_drop n t
  have h5 := List.drop_eq_getElem_cons h2
  rw [h3, ← hl, List.drop_length] at h5
  rw [h5] at h4
  exact h4.symm
theorem NH.pop (h : NH s L last) {x : Int} (hx : s[0]? = some x) (hno : ∀ y ∈ L, y.1 ≠ x) : NH ((O.pp s).take (s.length - 1)) L last := by
  have h0 := (List.getElem?_eq_some_iff.1 hx).1
  have hp := pp_perm hO s
  have hl := hp.length_eq
  have hlast := (pp_last hO s h0).trans hx
  obtain ⟨n, hn⟩ : ∃ n, s.length = n + 1 := ⟨s.length - 1, by omega⟩
  have hsp := last_split (t := O.pp s) (n := n) (by omega) (by rw [show n = s.length - 1 by omega]; exact hlast)
  rw [show s.length - 1 = n by omega]
  refine ⟨?_, fun y hy => ?_, fun y hy => h.le y (hp.mem_iff.1 (List.mem_of_mem_take hy))⟩
  · have hh := pp_heap hO nuR_sw s h.hd.dh h0
    rw [show s.length - 1 = n by omega] at hh
    rw [show ((O.pp s).take n).length = n by rw [List.length_take]; omega]
    exact hd_take hh (by omega)
  · have h2 := hp.mem_iff.2 (h.sub y hy)
    rw [hsp, List.mem_append, List.mem_singleton] at h2
    exact h2.resolve_right (hno y hy)
omit hO in
/-- The root, if it is there, is the list's first. -/
theorem NH.root (h : NH s L last) (hr : (L.map (·.1)).Pairwise (· < ·)) {x : Int} (hx : s[0]? = some x) (hm : x ∈ L.map (·.1)) : ∃ e rest, L = e :: rest ∧ e.1 = x := by
  have hrt := hd_root nuR_sw (Nat.le_refl _) h.hd
  cases L with
  | nil => cases hm
  | cons e rest =>
    refine ⟨e, rest, rfl, ?_⟩
    rw [List.map_cons, List.pairwise_cons] at hr
    obtain ⟨i, hi⟩ := List.mem_iff_getElem?.1 (h.sub e List.mem_cons_self)
    have h1 := hrt i (List.getElem?_eq_some_iff.1 hi).1
    unfold ltL at h1
    rw [hi, hx] at h1
    simp only [nuR, decide_eq_false_iff_not] at h1
    rw [List.map_cons, List.mem_cons] at hm
    rcases hm with hm | hm
    · exact hm.symm
    · have := hr.1 x hm
      omega
omit hO in
theorem NH.empty (h : NH [] L last) : L = [] := by
  cases L with
  | nil => rfl
  | cons e rest => cases h.sub e List.mem_cons_self
end
/-- The map's entries are the list's, in its order; each span's body lies in the footprint. -/
structure MLz (w : World) (G : Nat → Prop) (M : List ME) (L : List QE) : Prop where
  len : M.length = L.length
  at_ : ∀ (i : Nat) (p : ME) (x : QE), M[i]? = some p → L[i]? = some x → p.1 = x.1 ∧ ∃ a n c, p.2.1 = .agg #[.int .i64 x.2.1, .slice a n c] ∧ SlR (Rint .u8) w G a n c x.2.2
theorem MLz.keep {w w' : World} {G G' : Nat → Prop} {M : List ME} {L : List QE} (h : MLz w G M L) (hk : ∀ k, G k → k < w.heap.size → w'.heap[k]? = w.heap[k]? ∧ G' k) : MLz w' G' M L :=
  ⟨h.len, fun i p x h1 h2 => by
    obtain ⟨e1, a, n, c, e2, h3⟩ := h.at_ i p x h1 h2
    exact ⟨e1, a, n, c, e2, h3.keep hk⟩⟩
theorem MLz.keys {w : World} {G : Nat → Prop} {M : List ME} {L : List QE} (h : MLz w G M L) : M.map (·.1) = L.map (·.1) := by
  refine List.ext_getElem? fun i => ?_
  rw [List.getElem?_map, List.getElem?_map]
  rcases Nat.lt_or_ge i M.length with hi | hi
  · have hi' : i < L.length := by rw [← h.len]; exact hi
    obtain ⟨e, _⟩ := h.at_ i M[i] L[i] (List.getElem?_eq_getElem hi) (List.getElem?_eq_getElem hi')
    rw [List.getElem?_eq_getElem hi, List.getElem?_eq_getElem hi']
    exact congrArg some e
  · rw [List.getElem?_eq_none hi, List.getElem?_eq_none (by rw [← h.len]; exact hi)]
    rfl
/-- What a queue's blocks hold. -/
structure QuS (qb mb : Nat) (cap last : Int) (ws bys s : List Int) (M : List ME) (c : Nat) (L : List QE) (wv lv bv : Value) (w : World) (F : Nat → Prop) : Prop where
  q : w.heap[qb]? = some (.cells ⟨[.int .i64 cap, wv, .map (some mb), lv, bv, .int .u64 last]⟩ 105 (0, 0))
  Fq : F qb
  ws : w.ownsRow 0 3 1 wv ws.length (ws.map (.int .i64))
  Fw : ∀ k, wv.ownBlock = some k → F k
  ls : w.ownsRow 0 59 1 lv s.length (s.map (.int .u64))
  Fl : ∀ k, lv.ownBlock = some k → F k
  bs : w.ownsRow 0 3 1 bv bys.length (bys.map (.int .i64))
  Fb : ∀ k, bv.ownBlock = some k → F k
  wb : ∀ k, wv.ownBlock = some k → bv.ownBlock ≠ some k
  m : w.heap[mb]? = some (mapO .u64 M c)
  Fm : F mb
  mok : MOk M c
  sl : s.length ≤ 1073741824
  ml : MLz w (fun k => F k ∧ ¬ (k = qb ∨ k = mb ∨ wv.ownBlock = some k ∨ lv.ownBlock = some k ∨ bv.ownBlock = some k)) M L
theorem QuS.keep {qb mb : Nat} {cap last : Int} {ws bys s : List Int} {M : List ME} {c : Nat} {L : List QE} {wv lv bv : Value} {w w' : World} {A B : Nat → Prop} (h : QuS qb mb cap last ws bys s M c L wv lv bv w A) (hk : ∀ k, A k → k < w.heap.size → w'.heap[k]? = w.heap[k]? ∧ B k) : QuS qb mb cap last ws bys s M c L wv lv bv w' B where
  q := ((hk qb h.Fq (heap_lt h.q)).1).trans h.q
  Fq := (hk qb h.Fq (heap_lt h.q)).2
  ws := own_keep h.ws fun k hv => (hk k (h.Fw k hv) (World.ownsRow.lt h.ws k hv).2).1
  Fw := fun k hv => (hk k (h.Fw k hv) (World.ownsRow.lt h.ws k hv).2).2
  ls := own_keep h.ls fun k hv => (hk k (h.Fl k hv) (World.ownsRow.lt h.ls k hv).2).1
  Fl := fun k hv => (hk k (h.Fl k hv) (World.ownsRow.lt h.ls k hv).2).2
  bs := own_keep h.bs fun k hv => (hk k (h.Fb k hv) (World.ownsRow.lt h.bs k hv).2).1
  Fb := fun k hv => (hk k (h.Fb k hv) (World.ownsRow.lt h.bs k hv).2).2
  wb := h.wb
  m := ((hk mb h.Fm (heap_lt h.m)).1).trans h.m
  Fm := (hk mb h.Fm (heap_lt h.m)).2
  mok := h.mok
  sl := h.sl
  ml := h.ml.keep fun k hA hlt => ⟨(hk k hA.1 hlt).1, (hk k hA.1 hlt).2, hA.2⟩
def sizeQ (x : QE) : Int := (x.2.2.length : Int) + 16
/-- A class's bytes. -/
def bsum (L : List QE) (c : Nat) : Int := ((L.filter fun x => decide (x.2.1 = (c : Int))).map sizeQ).sum
/-- A queue that is as it may be. -/
structure QOk (cap last : Int) (ws : List Int) (L : List QE) : Prop where
  srt : (L.map (·.1)).Pairwise (· < ·)
  pos : ∀ x ∈ L, 0 ≤ x.1 ∧ x.1 ≤ last
  cls : ∀ x ∈ L, 0 ≤ x.2.1 ∧ x.2.1 < (ws.length : Int) ∧ x.2.1 < 8 ∧ x.2.2.length ≤ 4096
  fit : last ≤ 18446744073709551615
def quA (qb : Nat) (cap last : Int) (ws : List Int) (L : List QE) (K : Nat) : Vp :=
  ⟨fun w F _ => ∃ mb bys s M c wv lv bv, QuS qb mb cap last ws bys s M c L wv lv bv w F ∧ NH s L last ∧ bys = (List.range ws.length).map (bsum L) ∧ c ≤ K ∧ s.length ≤ c,
   fun ⟨mb, bys, s, M, c, wv, lv, bv, h, h2⟩ hk => ⟨mb, bys, s, M, c, wv, lv, bv, h.keep hk, h2⟩⟩
end Go.Proofs.Yteogkadjambmkaa
