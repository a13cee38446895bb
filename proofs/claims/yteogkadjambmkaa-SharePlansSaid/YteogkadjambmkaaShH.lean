/-
  share.Plan's objects: lines, grouped and taken apart; the lines of the first classes. Conditions: each theorem's own.
-/
import Derived.Test.YteogkadjambmkaaShG
namespace Go.Proofs.Yteogkadjambmkaa
open Go Go.RowKit
set_option linter.unusedVariables false

/-- the lines' blocks -/
def blV (ls : List Ln) : Vp :=
  ⟨fun w F _ => ∀ x ∈ ls, w.heap[x.b]? = some (lnO x) ∧ F x.b, fun h hk x hx => ⟨(hk x.b (h x hx).2 (heap_lt (h x hx).1)).1.trans (h x hx).1, (hk x.b (h x hx).2 (heap_lt (h x hx).1)).2⟩⟩
/-- what their slices read as -/
def lnS (ls : List Ln) : Vp :=
  ⟨fun w F _ => ∀ x ∈ ls, SlR (Rint .i64) w F x.a x.n x.c x.l, fun h hk x hx => (h x hx).keep hk⟩
theorem Hp.addE {w0 w : World} {o : OL} {v : Value} (p : Vp) (h : Hp w0 w o) (hp : ∀ w, p.at_ w (fun _ => False) v) : Hp w0 w (.rep (fun w => p.at_ w (fun _ => False) v) (fun _ => False) true :: o) :=
  h.more ⟨hp w, fun w1 w2 _ _ => hp w2, fun k hk => hk.elim⟩ fun e he hr k hk => hk.elim
theorem dis1 {x : HE} : [x].Pairwise Dis := List.pairwise_singleton _ _
/-- a new line joins -/
theorem Hp.joinL {w0 w : World} {ol : OL} {ls : List Ln} {x : Ln} {F : Nat → Prop} (h : Hp w0 w (.rep (fun w => (blV ls).at_ w F (.bool true)) F true :: .blk x.b (lnO x) true :: ol)) : Hp w0 w (.rep (fun w => (blV (ls ++ [x])).at_ w (fun k => k = x.b ∨ F k) (.bool true)) (fun k => k = x.b ∨ F k) true :: ol) := by
  have h1 := h.own _ (getE_mem (i := 0) rfl)
  have h2 : w.heap[x.b]? = some (lnO x) := h.own _ (getE_mem (i := 1) rfl)
  refine Hp.regroup [_, _] [_] h (by simp [HE.ex]) (fun e he => ?_) dis1 (fun e he k hk => ?_) (fun e he k hk => ?_)
  · rw [List.mem_singleton] at he
    subst he
    refine ⟨rfl, fun y hy => ?_, Vp.loc, fun k hk => ?_⟩
    · rcases List.mem_append.1 hy with hy | hy
      · exact ⟨(h1.1 y hy).1, .inr (h1.1 y hy).2⟩
      · rw [List.mem_singleton] at hy
        subst hy
        exact ⟨h2, .inl rfl⟩
    · rcases hk with rfl | hk
      · exact heap_lt h2
      · exact h1.2.2 k hk
  · rw [List.mem_singleton] at he
    subst he
    rcases hk with rfl | hk
    · exact ⟨_, List.mem_cons_of_mem _ List.mem_cons_self, rfl⟩
    · exact ⟨_, List.mem_cons_self, hk⟩
  · refine .inr ⟨_, List.mem_cons_self, ?_⟩
    simp only [List.mem_cons, List.not_mem_nil, or_false] at he
    rcases he with rfl | rfl
    · exact .inr hk
    · exact .inl (Option.some.inj hk).symm
/-- all of the heap's is one object -/
theorem Hp.joinH {w0 w : World} {ol : OL} {ls : List Ln} {bh base : Nat} {v : Value} {F : Nat → Prop} (h : Hp w0 w (.rep (fun w => (blV ls).at_ w F (.bool true)) F true :: .row base v 93 1 ls.length (ls.map lnPt) :: .blk bh (.cells ⟨[v]⟩ 92 (0, 0)) true :: ol)) (hl : ls.length ≤ 1073741824) :
    Hp w0 w (.rep (fun w => (lnP base bh ls).at_ w (fun k => k = bh ∨ v.ownBlock = some k ∨ F k) (.bool true)) (fun k => k = bh ∨ v.ownBlock = some k ∨ F k) true :: ol) := by
  have h1 := h.own _ (getE_mem (i := 0) rfl)
  have h2 : w.ownsRow base 93 1 v ls.length (ls.map lnPt) := h.own _ (getE_mem (i := 1) rfl)
  have h3 : w.heap[bh]? = some (.cells ⟨[v]⟩ 92 (0, 0)) := h.own _ (getE_mem (i := 2) rfl)
  refine Hp.regroup [_, _, _] [_] h (by simp [HE.ex]) (fun e he => ?_) dis1 (fun e he k hk => ?_) (fun e he k hk => ?_)
  · rw [List.mem_singleton] at he
    subst he
    refine ⟨rfl, ⟨v, h3, .inl rfl, h2, fun k hk => .inr (.inl hk), fun y hy => ⟨(h1.1 y hy).1, .inr (.inr (h1.1 y hy).2)⟩, hl⟩, Vp.loc (p := lnP base bh ls), fun k hk => ?_⟩
    rcases hk with rfl | hk | hk
    · exact heap_lt h3
    · exact (World.ownsRow.lt h2 k hk).2
    · exact h1.2.2 k hk
  · rw [List.mem_singleton] at he
    subst he
    rcases hk with rfl | hk | hk
    · exact ⟨_, List.mem_cons_of_mem _ (List.mem_cons_of_mem _ List.mem_cons_self), rfl⟩
    · exact ⟨_, List.mem_cons_of_mem _ List.mem_cons_self, hk⟩
    · exact ⟨_, List.mem_cons_self, hk⟩
  · refine .inr ⟨_, List.mem_cons_self, ?_⟩
    simp only [List.mem_cons, List.not_mem_nil, or_false] at he
    rcases he with rfl | rfl | rfl
    · exact .inr (.inr hk)
    · exact .inr (.inl hk)
    · exact .inl (Option.some.inj hk).symm
/-- the object taken apart: its first line by itself -/
theorem Hp.splitH {w0 w : World} {ol : OL} {tl : List Ln} {x : Ln} {bh base : Nat} {F : Nat → Prop} (h : Hp w0 w (.rep (fun w => (lnP base bh (x :: tl)).at_ w F (.bool true)) F true :: ol)) (hnb : ∀ y ∈ tl, y.b ≠ x.b) (hF : ∀ k, F k → w0.heap.size ≤ k) :
    ∃ i : Option Addr × Nat × (Nat → Prop), (∀ k, i.2.2 k → w0.heap.size ≤ k) ∧ w0.heap.size ≤ bh ∧ w0.heap.size ≤ x.b ∧ Hp w0 w (.blk bh (.cells ⟨[.slice i.1 (tl.length + 1) i.2.1]⟩ 92 (0, 0)) true :: .row base (.slice i.1 (tl.length + 1) i.2.1) 93 1 (tl.length + 1) (lnPt x :: tl.map lnPt) :: .blk x.b (lnO x) true :: .rep (fun w => (blV tl).at_ w i.2.2 (.bool true)) i.2.2 true :: ol) := by
  have h1 := h.own _ (getE_mem (i := 0) rfl)
  obtain ⟨v, hv⟩ := h1.1
  obtain ⟨A, C, rfl, _⟩ := lnV_form hv
  obtain ⟨g1, g2, g3, g4, g5, g6⟩ := hv
  have g5x := g5 x List.mem_cons_self
  have hbh : bh ≠ x.b := fun hh => by
    rw [hh, g5x.1] at g1
    exact absurd (Obj.cells.inj (Option.some.inj g1)).2.1 (by decide)
  have hrow : ∀ k, (Value.slice A (x :: tl).length C).ownBlock = some k → (k ≠ bh ∧ ∀ y ∈ x :: tl, k ≠ y.b) := fun k hk => by
    obtain ⟨_, g3⟩ := g3
    rcases g3 with ⟨e0, _⟩ | ⟨g, cap, cur, e0, _, g7, _⟩
    · cases e0
    · cases e0
      have : k = g := (Option.some.inj hk).symm
      subst this
      refine ⟨fun hh => ?_, fun y hy hh => ?_⟩
      · rw [hh, g1] at g7
        exact absurd (Obj.cells.inj (Option.some.inj g7)).2.1 (by decide)
      · rw [hh, (g5 y hy).1] at g7
        exact absurd (Obj.cells.inj (Option.some.inj g7)).2.1 (by decide)
  have hby : ∀ y ∈ tl, y.b ≠ bh := fun y hy hh => by
    have := (g5 y (List.mem_cons_of_mem _ hy)).1
    rw [hh, g1] at this
    exact absurd (Obj.cells.inj (Option.some.inj this)).2.1 (by decide)
  refine ⟨(A, C, fun k => F k ∧ ∃ y ∈ tl, y.b = k), fun k hk => hF k hk.1, hF _ g2, hF _ g5x.2, Hp.regroup [_] [_, _, _, _] h (by simp [HE.ex]) (fun e he => ?_) ?_ (fun e he k hk => ?_) (fun e he k hk => .inl ?_)⟩
  · simp only [List.mem_cons, List.not_mem_nil, or_false] at he
    rcases he with rfl | rfl | rfl | rfl
    · exact ⟨rfl, g1⟩
    · exact ⟨rfl, g3⟩
    · exact ⟨rfl, g5x.1⟩
    · exact ⟨rfl, fun y hy => ⟨(g5 y (List.mem_cons_of_mem _ hy)).1, (g5 y (List.mem_cons_of_mem _ hy)).2, y, hy, rfl⟩, Vp.loc (p := blV tl), fun k hk => h1.2.2 k hk.1⟩
  · refine List.pairwise_cons.2 ⟨fun e he _ k hk hk2 => ?_, List.pairwise_cons.2 ⟨fun e he _ k hk hk2 => ?_, List.pairwise_cons.2 ⟨fun e he _ k hk hk2 => ?_, dis1⟩⟩⟩
    · have hkb : k = bh := (Option.some.inj hk).symm
      subst hkb
      simp only [List.mem_cons, List.not_mem_nil, or_false] at he
      rcases he with rfl | rfl | rfl
      · exact (hrow _ hk2).1 rfl
      · exact hbh (Option.some.inj hk2).symm
      · obtain ⟨_, y, hy, hyb⟩ := hk2
        exact hby y hy hyb
    · simp only [List.mem_cons, List.not_mem_nil, or_false] at he
      rcases he with rfl | rfl
      · exact (hrow k hk).2 x List.mem_cons_self (Option.some.inj hk2).symm
      · obtain ⟨_, y, hy, hyb⟩ := hk2
        exact (hrow k hk).2 y (List.mem_cons_of_mem _ hy) hyb.symm
    · rw [List.mem_singleton] at he
      subst he
      obtain ⟨_, y, hy, hyb⟩ := hk2
      exact hnb y hy (hyb.trans (Option.some.inj hk).symm)
  · refine ⟨_, List.mem_cons_self, ?_⟩
    simp only [List.mem_cons, List.not_mem_nil, or_false] at he
    rcases he with rfl | rfl | rfl | rfl
    · have : k = bh := (Option.some.inj hk).symm
      rw [this]; exact g2
    · exact g4 k hk
    · have : k = x.b := (Option.some.inj hk).symm
      rw [this]; exact g5x.2
    · exact hk.1
  · rw [List.mem_singleton] at he
    subst he
    exact hF k hk
/-- and put together again, its first line turned -/
theorem Hp.closeH {w0 w : World} {ol : OL} {tl : List Ln} {x x' : Ln} {bh base : Nat} {A : Option Addr} {C : Nat} {F G : Nat → Prop} (h : Hp w0 w (.blk bh (.cells ⟨[.slice A (tl.length + 1) C]⟩ 92 (0, 0)) true :: .row base (.slice A (tl.length + 1) C) 93 1 (tl.length + 1) (lnPt x :: tl.map lnPt) :: .blk x.b (lnO x') true :: .rep (fun w => (blV tl).at_ w F (.bool true)) F true :: .rep (fun w => (lnS (x :: tl)).at_ w G (.bool true)) G false :: ol)) (hb : x'.b = x.b) (hl : tl.length < 1073741824) (hx : ∀ w, SlR (Rint .i64) w G x.a x.n x.c x.l → SlR (Rint .i64) w G x'.a x'.n x'.c x'.l) :
    Hp w0 w (.rep (fun w => (lnP base bh (x' :: tl)).at_ w (fun k => k = bh ∨ (Value.slice A (tl.length + 1) C).ownBlock = some k ∨ k = x.b ∨ F k) (.bool true)) (fun k => k = bh ∨ (Value.slice A (tl.length + 1) C).ownBlock = some k ∨ k = x.b ∨ F k) true :: .rep (fun w => (lnS (x' :: tl)).at_ w G (.bool true)) G false :: ol) := by
  have h3 : w.heap[bh]? = _ := h.own _ (getE_mem (i := 0) rfl)
  have h2 : w.ownsRow base 93 1 (.slice A (tl.length + 1) C) (tl.length + 1) (lnPt x :: tl.map lnPt) := h.own _ (getE_mem (i := 1) rfl)
  have h4 : w.heap[x.b]? = some (lnO x') := h.own _ (getE_mem (i := 2) rfl)
  have h1 := h.own _ (getE_mem (i := 3) rfl)
  have h5 : Hp w0 w (.rep (fun w => (lnP base bh (x' :: tl)).at_ w (fun k => k = bh ∨ (Value.slice A (tl.length + 1) C).ownBlock = some k ∨ k = x.b ∨ F k) (.bool true)) (fun k => k = bh ∨ (Value.slice A (tl.length + 1) C).ownBlock = some k ∨ k = x.b ∨ F k) true :: .rep (fun w => (lnS (x :: tl)).at_ w G (.bool true)) G false :: ol) := by
    refine Hp.regroup [_, _, _, _] [_] h (by simp [HE.ex]) (fun e he => ?_) dis1 (fun e he k hk => ?_) (fun e he k hk => ?_)
    · rw [List.mem_singleton] at he
      subst he
      refine ⟨rfl, ⟨.slice A (tl.length + 1) C, h3, .inl rfl, by rw [List.map_cons, show lnPt x' = lnPt x by unfold lnPt; rw [hb]]; exact h2, fun k hk => .inr (.inl hk), fun y hy => ?_, by rw [List.length_cons]; omega⟩, Vp.loc (p := lnP base bh (x' :: tl)), fun k hk => ?_⟩
      · rcases List.mem_cons.1 hy with rfl | hy
        · rw [hb]; exact ⟨h4, .inr (.inr (.inl rfl))⟩
        · exact ⟨(h1.1 y hy).1, .inr (.inr (.inr (h1.1 y hy).2))⟩
      · rcases hk with rfl | hk | rfl | hk
        · exact heap_lt h3
        · exact (World.ownsRow.lt h2 k hk).2
        · exact heap_lt h4
        · exact h1.2.2 k hk
    · rw [List.mem_singleton] at he
      subst he
      rcases hk with rfl | hk | rfl | hk
      · exact ⟨_, List.mem_cons_self, rfl⟩
      · exact ⟨_, List.mem_cons_of_mem _ List.mem_cons_self, hk⟩
      · exact ⟨_, List.mem_cons_of_mem _ (List.mem_cons_of_mem _ List.mem_cons_self), rfl⟩
      · exact ⟨_, List.mem_cons_of_mem _ (List.mem_cons_of_mem _ (List.mem_cons_of_mem _ List.mem_cons_self)), hk⟩
    · refine .inr ⟨_, List.mem_cons_self, ?_⟩
      simp only [List.mem_cons, List.not_mem_nil, or_false] at he
      rcases he with rfl | rfl | rfl | rfl
      · exact .inl (Option.some.inj hk).symm
      · exact .inr (.inl hk)
      · exact .inr (.inr (.inl (Option.some.inj hk).symm))
      · exact .inr (.inr (.inr hk))
  refine (Hp.mapRep (p := lnS (x :: tl)) (q := lnS (x' :: tl)) (h5.perm (List.Perm.swap _ _ _)) fun w1 h6 y hy => ?_).perm (List.Perm.swap _ _ _)
  rcases List.mem_cons.1 hy with rfl | hy
  · exact hx w1 (h6 x List.mem_cons_self)
  · exact h6 y (List.mem_cons_of_mem _ hy)

/-- all that is queued, with who comes -/
def left0 (q : List (List Int)) (cls size : Int) : List (List Int) := q.set cls.toNat (q.getD cls.toNat [] ++ [size])
theorem left0_facts {q : List (List Int)} {k : Nat} {size : Int} (hk : k < q.length) : (left0 q (k : Int) size).length = q.length ∧ (left0 q (k : Int) size).getD k [] = q.getD k [] ++ [size] ∧ (∀ d, d ≠ k → (left0 q (k : Int) size).getD d [] = q.getD d []) ∧
    (left0 q (k : Int) size).flatten.length = q.flatten.length + 1 ∧ (left0 q (k : Int) size).flatten.sum = q.flatten.sum + size ∧ (∀ x ∈ (left0 q (k : Int) size).flatten, x ∈ q.flatten ∨ x = size) := by
  unfold left0
  rw [Int.toNat_natCast]
  have hg : q.getD k [] = q[k] := by rw [List.getD_eq_getElem?_getD, List.getElem?_eq_getElem hk]; rfl
  have e1 : q.flatten = (q.take k).flatten ++ (q[k] ++ (q.drop (k + 1)).flatten) := by
    conv => lhs; rw [← List.take_append_drop k q, List.drop_eq_getElem_cons hk, List.flatten_append, List.flatten_cons]
  have e2 : (q.set k (q.getD k [] ++ [size])).flatten = (q.take k).flatten ++ ((q[k] ++ [size]) ++ (q.drop (k + 1)).flatten) := by
    rw [hg, List.set_eq_take_append_cons_drop, if_pos hk, List.flatten_append, List.flatten_cons]
  refine ⟨List.length_set, ?_, fun d hd => ?_, ?_, ?_, fun x hx => ?_⟩
  · rw [getD_set _ _ _ _ _ hk, if_pos rfl]
  · rw [getD_set _ _ _ _ _ hk, if_neg hd]
  · rw [e1, e2]; simp only [List.length_append, List.length_cons, List.length_nil]; omega
  · rw [e1, e2]; simp only [List.sum_append, List.sum_cons, List.sum_nil]; omega
  · rw [e2] at hx
    rw [e1]
    simp only [List.mem_append, List.mem_singleton] at hx ⊢
    rcases hx with h | (h | h) | h
    · exact .inl (.inl h)
    · exact .inl (.inr (.inl h))
    · exact .inr h
    · exact .inl (.inr (.inr h))
theorem getD_mem {q : List (List Int)} {d : Nat} {x : Int} (h : x ∈ q.getD d []) : x ∈ q.flatten := by
  have hd := getD_lt (l := q) (c := d) (fun h0 => by rw [h0] at h; cases h)
  rw [List.getD_eq_getElem?_getD, List.getElem?_eq_getElem hd] at h
  exact List.mem_flatten.2 ⟨_, List.getElem_mem hd, h⟩
theorem getD_len (q : List (List Int)) (d : Nat) : (q.getD d []).length ≤ q.flatten.length := by
  rcases Nat.lt_or_ge d q.length with h | h
  · rw [List.getD_eq_getElem?_getD, List.getElem?_eq_getElem h]
    exact (List.sublist_flatten_of_mem (List.getElem_mem h)).length_le
  · rw [List.getD_eq_getElem?_getD, List.getElem?_eq_none h]
    exact Nat.zero_le _
section
variable {cap : Int} {ws : List Int} {left : List (List Int)} {went : List Nat}
theorem getD_take {α : Type} (l : List (List α)) (c d : Nat) : (l.take c).getD d [] = if d < c then l.getD d [] else [] := by
  rw [List.getD_eq_getElem?_getD, List.getD_eq_getElem?_getD, List.getElem?_take]
  by_cases h : d < c
  · rw [if_pos h, if_pos h]
  · rw [if_neg h, if_neg h]; rfl
theorem Rel.skip {hs : List Ln} {c : Nat} (h : Rel cap ws (left.take c) went hs) (hc : left.getD c [] = []) : Rel cap ws (left.take (c + 1)) went hs := by
  have he : ∀ d, (left.take (c + 1)).getD d [] = (left.take c).getD d [] := fun d => by
    rw [getD_take, getD_take]
    by_cases h1 : d < c
    · rw [if_pos h1, if_pos (by omega)]
    · rw [if_neg h1]
      by_cases h2 : d < c + 1
      · rw [if_pos h2, show d = c by omega, hc]
      · rw [if_neg h2]
  exact ⟨h.nd, h.ndb, fun x hx => by rw [he]; exact h.mem x hx, fun d hd => h.all d (by rw [← he]; exact hd)⟩
theorem Rel.add {hs : List Ln} {c : Nat} {x : Ln} (h : Rel cap ws (left.take c) went hs) (hx : x.cls = c) (hl : left.getD c [] = x.l) (hn : x.l ≠ []) (hw : x.went = went.getD c 0) (he : x.exc = excS cap ws c x.l.sum) (hb : ∀ y ∈ hs, y.b ≠ x.b) : Rel cap ws (left.take (c + 1)) went (hs ++ [x]) := by
  have hlt : ∀ y ∈ hs, y.cls < c := fun y hy => by
    obtain ⟨g1, g2, _⟩ := h.mem y hy
    rw [getD_take] at g1
    by_cases h1 : y.cls < c
    · exact h1
    · rw [if_neg h1] at g1
      exact absurd g1.symm g2
  refine ⟨?_, ?_, fun y hy => ?_, fun d hd => ?_⟩
  · rw [List.map_append, List.nodup_append]
    refine ⟨h.nd, by simp, fun a ha b hb2 hab => ?_⟩
    obtain ⟨y, hy, rfl⟩ := List.mem_map.1 ha
    simp only [List.map_cons, List.map_nil, List.mem_singleton] at hb2
    have := hlt y hy
    omega
  · rw [List.map_append, List.nodup_append]
    refine ⟨h.ndb, by simp, fun a ha b hb2 hab => ?_⟩
    obtain ⟨y, hy, rfl⟩ := List.mem_map.1 ha
    simp only [List.map_cons, List.map_nil, List.mem_singleton] at hb2
    exact hb y hy (hab.trans hb2)
  · rcases List.mem_append.1 hy with hy | hy
    · obtain ⟨g1, g2, g3, g4⟩ := h.mem y hy
      have := hlt y hy
      rw [getD_take, if_pos (by omega)]
      rw [getD_take, if_pos (by omega)] at g1
      exact ⟨g1, g2, g3, g4⟩
    · rw [List.mem_singleton] at hy
      subst hy
      rw [getD_take, if_pos (by omega), hx]
      exact ⟨hl, hn, hw, he⟩
  · rw [getD_take] at hd
    by_cases h1 : d < c
    · obtain ⟨y, hy, hyc⟩ := h.all d (by rw [getD_take, if_pos h1]; rw [if_pos (by omega)] at hd; exact hd)
      exact ⟨y, List.mem_append_left _ hy, hyc⟩
    · by_cases h2 : d < c + 1
      · exact ⟨x, List.mem_append_right _ List.mem_cons_self, by omega⟩
      · rw [if_neg h2] at hd
        exact absurd rfl hd
end
end Go.Proofs.Yteogkadjambmkaa
