/-
  A board, plain: groups of numbers, who is in which, their times. Conditions: each theorem's own.
-/
import Derived.Test.YtanhmmfpecgbhaaPa
namespace Go.Proofs.Ytanhmmfpecgbhaa
open Go Go.RowKit
set_option linter.unusedVariables false

/-- a group: its number, who is in it, when, how often -/
structure BG where
  id : Int
  L : List Int
  tm : Int
  tries : Int
abbrev bNums (gs : List BG) : List Int := gs.flatMap BG.L
def bId (gs : List BG) (id : Int) : Option BG := gs.find? fun g => decide (g.id = id)
def bGet (gs : List BG) (n : Int) : Option BG := gs.find? fun g => decide (n ∈ g.L)
/-! ### rising lists -/
def insU (x : Int) : List Int → List Int
  | [] => [x]
  | y :: l => if x < y then x :: y :: l else if x = y then y :: l else y :: insU x l
theorem insU_mem {x y : Int} : ∀ {l : List Int}, y ∈ insU x l ↔ y = x ∨ y ∈ l
  | [] => by simp [insU]
  | z :: l => by
    unfold insU
    split
    · simp
    split
    · rename_i h; subst h; simp
    · rw [List.mem_cons, insU_mem, List.mem_cons]
      constructor
      · rintro (h | h | h)
        · exact .inr (.inl h)
        · exact .inl h
        · exact .inr (.inr h)
      · rintro (h | h | h)
        · exact .inr (.inl h)
        · exact .inl h
        · exact .inr (.inr h)
theorem insU_srt {x : Int} : ∀ {l : List Int}, l.Pairwise (· < ·) → (insU x l).Pairwise (· < ·)
  | [], _ => List.pairwise_singleton _ _
  | z :: l, h => by
    rw [List.pairwise_cons] at h
    unfold insU
    split
    · rename_i h1
      refine List.pairwise_cons.2 ⟨fun y hy => ?_, List.pairwise_cons.2 h⟩
      rcases List.mem_cons.1 hy with rfl | hy
      · exact h1
      · exact Int.lt_trans h1 (h.1 y hy)
    split
    · exact List.pairwise_cons.2 h
    · refine List.pairwise_cons.2 ⟨fun y hy => ?_, insU_srt h.2⟩
      rcases insU_mem.1 hy with rfl | hy
      · omega
      · exact h.1 y hy
def sortU (l : List Int) : List Int := l.foldl (fun a x => insU x a) []
theorem sortU_from (l : List Int) : ∀ a : List Int, a.Pairwise (· < ·) → (l.foldl (fun a x => insU x a) a).Pairwise (· < ·) ∧ ∀ x, x ∈ l.foldl (fun a x => insU x a) a ↔ x ∈ a ∨ x ∈ l := by
  induction l with
  | nil => exact fun a h => ⟨h, fun x => by simp⟩
  | cons y l ih =>
    intro a h
    obtain ⟨h1, h2⟩ := ih (insU y a) (insU_srt h)
    refine ⟨h1, fun x => (h2 x).trans ?_⟩
    rw [insU_mem, List.mem_cons]
    constructor
    · rintro ((h | h) | h)
      · exact .inr (.inl h)
      · exact .inl h
      · exact .inr (.inr h)
    · rintro (h | h | h)
      · exact .inl (.inr h)
      · exact .inl (.inl h)
      · exact .inr h
theorem sortU_srt (l : List Int) : (sortU l).Pairwise (· < ·) := (sortU_from l [] List.Pairwise.nil).1
theorem sortU_mem {l : List Int} {x : Int} : x ∈ sortU l ↔ x ∈ l := ((sortU_from l [] List.Pairwise.nil).2 x).trans (by simp)
theorem sortU_ext {l m : List Int} (hm : m.Pairwise (· < ·)) (h : ∀ x, x ∈ m ↔ x ∈ l) : m = sortU l := lt_ext hm (sortU_srt l) fun x => (h x).trans sortU_mem.symm
theorem sortU_congr {l m : List Int} (h : ∀ x, x ∈ m ↔ x ∈ l) : sortU m = sortU l := sortU_ext (sortU_srt m) fun x => sortU_mem.trans (h x)
theorem sortU_nil {l : List Int} : sortU l = [] ↔ l = [] := by
  constructor
  · intro h
    cases l with
    | nil => rfl
    | cons x l => exact absurd (sortU_mem.2 (List.mem_cons_self (a := x) (l := l))) (by rw [h]; simp)
  · rintro rfl; rfl
theorem sortU_len {l : List Int} : (sortU l).length ≤ l.length := nodup_sub_len ((sortU_srt l).imp fun h => Int.ne_of_lt h) fun x hx => sortU_mem.1 hx
theorem lt_nodup {l : List Int} (h : l.Pairwise (· < ·)) : l.Nodup := h.imp fun h => Int.ne_of_lt h
/-! ### times -/
def bAl (gs : List BG) : List DE := gs.foldr (fun g a => dIns (g.id, g.tm) a) []
abbrev bT (g : BG) : DE := (g.id, g.tm)
theorem bAl_perm : ∀ gs : List BG, (bAl gs).Perm (gs.map bT)
  | [] => List.Perm.refl _
  | g :: gs => (dIns_perm _ _).trans ((bAl_perm gs).cons _)
theorem bAl_srt : ∀ {gs : List BG}, (gs.map BG.id).Nodup → (bAl gs).Pairwise dBef
  | [], _ => List.Pairwise.nil
  | g :: gs, h => by
    rw [List.map_cons, List.nodup_cons] at h
    refine dIns_srt _ _ (bAl_srt h.2) fun p hp e => h.1 ?_
    obtain ⟨g', hg', rfl⟩ := List.mem_map.1 ((bAl_perm gs).mem_iff.1 hp)
    exact List.mem_map.2 ⟨g', hg', e⟩
theorem dBef_ext : ∀ {l m : List DE}, l.Pairwise dBef → m.Pairwise dBef → l.Perm m → l = m
  | [], m, _, _, h => (List.nil_perm.1 h).symm
  | x :: l, [], _, _, h => absurd (List.perm_nil.1 h) (by simp)
  | x :: l, y :: m, hl, hm, h => by
    rw [List.pairwise_cons] at hl hm
    have hxy : x = y := by
      rcases List.mem_cons.1 (h.mem_iff.1 List.mem_cons_self) with e | e
      · exact e
      rcases List.mem_cons.1 (h.mem_iff.2 (List.mem_cons_self (a := y) (l := m))) with e2 | e2
      · exact e2.symm
      · have h1 := hm.1 x e
        have h2 := hl.1 y e2
        unfold dBef at h1 h2
        omega
    subst hxy
    rw [dBef_ext hl.2 hm.2 (List.Perm.cons_inv h)]
theorem bAl_of {gs : List BG} {al : List DE} (hn : (gs.map BG.id).Nodup) (h1 : al.Pairwise dBef) (h2 : al.Perm (gs.map bT)) : al = bAl gs := dBef_ext h1 (bAl_srt hn) (h2.trans (bAl_perm gs).symm)
theorem bAl_len (gs : List BG) : (bAl gs).length = gs.length := by rw [(bAl_perm gs).length_eq, List.length_map]
theorem dSet_perm {l m : List DE} {id tm : Int} (h : l.Perm m) : (dSet l id tm).Perm ((id, tm) :: m.filter fun p => decide (p.1 ≠ id)) := (dIns_perm _ _).trans ((h.filter _).cons _)
theorem bAl_set {gs gs' : List BG} {id tm : Int} (hn : (gs.map BG.id).Nodup) (hn' : (gs'.map BG.id).Nodup) (h : (gs'.map bT).Perm ((id, tm) :: (gs.map bT).filter fun p => decide (p.1 ≠ id))) : dSet (bAl gs) id tm = bAl gs' :=
  bAl_of hn' (dSet_srt (bAl_srt hn)) ((dSet_perm (bAl_perm gs)).trans h.symm)
theorem bAl_clear {gs gs' : List BG} {id : Int} (hn : (gs.map BG.id).Nodup) (hn' : (gs'.map BG.id).Nodup) (h : (gs'.map bT).Perm ((gs.map bT).filter fun p => decide (p.1 ≠ id))) : dClear (bAl gs) id = bAl gs' :=
  bAl_of hn' (dClear_srt (bAl_srt hn)) (((bAl_perm gs).filter _).trans h.symm)
/-- the least time -/
theorem bAl_next (gs : List BG) : dNext (bAl gs) = match bAl gs with | [] => .tuple #[.int .i64 0, .bool false] | p :: _ => .tuple #[.int .i64 p.2, .bool true] := rfl
/-! ### what a board's groups are -/
structure BOk (last : Int) (gs : List BG) : Prop where
  ids : (gs.map BG.id).Pairwise (· < ·)
  idb : ∀ g ∈ gs, 1 ≤ g.id ∧ g.id ≤ last
  srt : ∀ g ∈ gs, g.L.Pairwise (· < ·)
  nd : (bNums gs).Nodup
  fit : ∀ g ∈ gs, ∀ n ∈ g.L, Fits .u64 n
  tr : ∀ g ∈ gs, 1 ≤ g.tries ∧ g.tries ≤ 1099511627776
  tm : ∀ g ∈ gs, 0 ≤ g.tm ∧ g.tm ≤ 2305843009213693952
  len : (bNums gs).length ≤ 60000
  lst : 0 ≤ last ∧ last ≤ 1099511627776
  cnt : gs.length ≤ 60000
def BNe (gs : List BG) : Prop := ∀ g ∈ gs, g.L ≠ []
theorem BOk.nil {last : Int} (h : 0 ≤ last ∧ last ≤ 1099511627776) : BOk last [] := ⟨List.Pairwise.nil, fun g h => (by cases h), fun g h => (by cases h), List.nodup_nil, fun g h => (by cases h), fun g h => (by cases h), fun g h => (by cases h), by simp, h, by simp⟩
section
variable {last : Int} {gs : List BG}
theorem BOk.idn (h : BOk last gs) : (gs.map BG.id).Nodup := lt_nodup h.ids
theorem bId_mem (h : BOk last gs) {g : BG} (hg : g ∈ gs) : bId gs g.id = some g := by
  unfold bId
  obtain ⟨g', hg'⟩ : ∃ g', gs.find? (fun x => decide (x.id = g.id)) = some g' := by
    cases hf : gs.find? (fun x => decide (x.id = g.id)) with
    | some g' => exact ⟨g', rfl⟩
    | none => exact absurd (List.find?_eq_none.1 hf g hg) (by simp)
  rw [hg']
  have h1 := List.mem_of_find?_eq_some hg'
  have h2 : g'.id = g.id := by simpa using List.find?_some hg'
  rw [nodup_eq BG.id h.idn h1 hg h2]
theorem bId_some {id : Int} {g : BG} (h : bId gs id = some g) : g ∈ gs ∧ g.id = id := ⟨List.mem_of_find?_eq_some h, by simpa using List.find?_some h⟩
theorem bId_none {id : Int} : bId gs id = none ↔ ∀ g ∈ gs, g.id ≠ id := by
  unfold bId
  rw [List.find?_eq_none]
  exact ⟨fun h g hg e => h g hg (by simp [e]), fun h g hg => by simp [h g hg]⟩
theorem bGet_some {n : Int} {g : BG} (h : bGet gs n = some g) : g ∈ gs ∧ n ∈ g.L := ⟨List.mem_of_find?_eq_some h, by simpa using List.find?_some h⟩
theorem bGet_none {n : Int} : bGet gs n = none ↔ n ∉ bNums gs := by
  unfold bGet
  rw [List.find?_eq_none]
  constructor
  · intro h hn
    obtain ⟨g, hg, hn⟩ := List.mem_flatMap.1 hn
    exact h g hg (by simpa using hn)
  · intro h g hg
    have : n ∉ g.L := fun hn => h (List.mem_flatMap.2 ⟨g, hg, hn⟩)
    simp [this]
theorem nums_one : ∀ {gs : List BG}, (bNums gs).Nodup → ∀ {g g' : BG}, g ∈ gs → g' ∈ gs → ∀ {n : Int}, n ∈ g.L → n ∈ g'.L → g = g'
  | [], _, _, _, h, _, _, _, _ => by cases h
  | x :: gs, hn, g, g', hg, hg', n, h1, h2 => by
    rw [bNums, List.flatMap_cons, List.nodup_append] at hn
    rcases List.mem_cons.1 hg with rfl | h3 <;> rcases List.mem_cons.1 hg' with rfl | h4
    · rfl
    · exact absurd rfl (hn.2.2 n h1 n (List.mem_flatMap.2 ⟨g', h4, h2⟩))
    · exact absurd rfl (hn.2.2 n h2 n (List.mem_flatMap.2 ⟨g, h3, h1⟩))
    · exact nums_one hn.2.1 h3 h4 h1 h2
theorem bGet_mem (h : BOk last gs) {g : BG} (hg : g ∈ gs) {n : Int} (hn : n ∈ g.L) : bGet gs n = some g := by
  cases hf : bGet gs n with
  | none => exact absurd (List.mem_flatMap.2 ⟨g, hg, hn⟩) (bGet_none.1 hf)
  | some g' => rw [nums_one h.nd (bGet_some hf).1 hg (bGet_some hf).2 hn]
theorem BOk.nfit (h : BOk last gs) {n : Int} (hn : n ∈ bNums gs) : Fits .u64 n := by
  obtain ⟨g, hg, hn⟩ := List.mem_flatMap.1 hn
  exact h.fit g hg n hn
end
end Go.Proofs.Ytanhmmfpecgbhaa
