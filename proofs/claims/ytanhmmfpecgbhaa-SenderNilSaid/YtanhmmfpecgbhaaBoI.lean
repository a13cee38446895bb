/-
  A board's Due: the plain part. Conditions: each theorem's own.
-/
import Derived.Test.YtanhmmfpecgbhaaBoH
namespace Go.Proofs.Ytanhmmfpecgbhaa
open Go Go.RowKit
set_option linter.unusedVariables false

/-- who is due, in order; what is told; what stays -/
def dueI (gs : List BG) (now : Int) : List Int := dOut (bAl gs) now
def lOf (gs : List BG) (id : Int) : List Int := match bId gs id with
  | some g => g.L
  | none => []
def dueL (gs : List BG) (now : Int) : List (List Int) := (dueI gs now).map (lOf gs)
def bumpG (f m now : Int) (I : List Int) (g : BG) : BG := if g.id ∈ I then ⟨g.id, g.L, now + W f m g.tries.toNat, g.tries + 1⟩ else g
def dueG (f m now : Int) (gs : List BG) : List BG := gs.map fun g => if g.tm ≤ now then ⟨g.id, g.L, now + W f m g.tries.toNat, g.tries + 1⟩ else g
theorem while_srt {now : Int} : ∀ {l : List DE}, l.Pairwise dBef → (l.takeWhile fun p => decide (p.2 ≤ now)) = l.filter (fun p => decide (p.2 ≤ now)) ∧ (l.dropWhile fun p => decide (p.2 ≤ now)) = l.filter fun p => !decide (p.2 ≤ now)
  | [], _ => ⟨rfl, rfl⟩
  | x :: l, h => by
    rw [List.pairwise_cons] at h
    have ih := while_srt (now := now) h.2
    by_cases hx : x.2 ≤ now
    · rw [List.takeWhile_cons_of_pos (by simpa using hx), List.dropWhile_cons_of_pos (by simpa using hx), List.filter_cons_of_pos (by simpa using hx), List.filter_cons_of_neg (by simpa using hx), ih.1, ih.2]
      exact ⟨rfl, rfl⟩
    · have hl : ∀ p ∈ l, ¬ p.2 ≤ now := fun p hp => by
        have := h.1 p hp
        unfold dBef at this
        omega
      rw [List.takeWhile_cons_of_neg (by simpa using hx), List.dropWhile_cons_of_neg (by simpa using hx), List.filter_cons_of_neg (by simpa using hx), List.filter_cons_of_pos (by simpa using hx), List.filter_eq_nil_iff.2 fun p hp => by simpa using hl p hp, List.filter_eq_self.2 fun p hp => by simpa using hl p hp]
      exact ⟨rfl, rfl⟩
section
variable {last f m now : Int} {gs : List BG}
theorem bAl_mem {x : DE} : x ∈ bAl gs ↔ ∃ g ∈ gs, bT g = x := by rw [(bAl_perm gs).mem_iff, List.mem_map]
theorem dueI_mem (h : BOk last gs) {g : BG} (hg : g ∈ gs) : g.id ∈ dueI gs now ↔ g.tm ≤ now := by
  unfold dueI dOut
  rw [(while_srt (bAl_srt h.idn)).1, List.mem_map]
  constructor
  · rintro ⟨p, hp, e⟩
    rw [List.mem_filter] at hp
    obtain ⟨g', hg', rfl⟩ := bAl_mem.1 hp.1
    obtain rfl := nodup_eq BG.id h.idn hg' hg e
    simpa using hp.2
  · intro ht
    exact ⟨bT g, List.mem_filter.2 ⟨bAl_mem.2 ⟨g, hg, rfl⟩, by simpa using ht⟩, rfl⟩
theorem dueI_sub {id : Int} (h : id ∈ dueI gs now) : ∃ g ∈ gs, g.id = id := by
  unfold dueI dOut at h
  obtain ⟨p, hp, rfl⟩ := List.mem_map.1 h
  obtain ⟨g, hg, rfl⟩ := bAl_mem.1 ((List.takeWhile_sublist _).subset hp)
  exact ⟨g, hg, rfl⟩
theorem dueI_nd (h : BOk last gs) : (dueI gs now).Nodup := by
  unfold dueI dOut
  have h1 : ((bAl gs).map (·.1)).Nodup := by
    rw [((bAl_perm gs).map _).nodup_iff, List.map_map]
    exact h.idn
  exact h1.sublist ((List.takeWhile_sublist _).map _)
theorem dueI_len : (dueI gs now).length ≤ gs.length := by
  unfold dueI dOut
  rw [List.length_map]
  exact Nat.le_trans (List.takeWhile_sublist _).length_le (Nat.le_of_eq (bAl_len gs))
theorem dueG_eq (h : BOk last gs) : gs.map (bumpG f m now (dueI gs now)) = dueG f m now gs := by
  unfold dueG bumpG
  refine List.map_congr_left fun g hg => ?_
  have := dueI_mem (now := now) h hg
  by_cases ht : g.tm ≤ now
  · rw [if_pos (this.2 ht), if_pos ht]
  · rw [if_neg (fun h => ht (this.1 h)), if_neg ht]
/-- the list of times, by who is in it -/
theorem bAl_ext {l : List DE} (hn : (gs.map BG.id).Nodup) (h1 : l.Pairwise dBef) (h2 : ∀ x, x ∈ l ↔ ∃ g ∈ gs, bT g = x) : l = bAl gs := by
  have hd : ∀ {l : List DE}, l.Pairwise dBef → l.Nodup := fun h => h.imp fun {a b} h e => by
    subst e
    unfold dBef at h
    omega
  exact dBef_ext h1 (bAl_srt hn) (nodup_sub_perm (hd h1) (hd (bAl_srt hn)) (fun x hx => bAl_mem.2 ((h2 x).1 hx)) fun x hx => (h2 x).2 (bAl_mem.1 hx))
theorem dSet_mem {l : List DE} {id tm : Int} {x : DE} : x ∈ dSet l id tm ↔ x = (id, tm) ∨ (x ∈ l ∧ x.1 ≠ id) := by
  unfold dSet
  rw [(dIns_perm _ _).mem_iff, List.mem_cons]
  unfold dClear
  rw [List.mem_filter, decide_eq_true_eq]
theorem dSet_len {l : List DE} {id tm : Int} : (dSet l id tm).length ≤ l.length + 1 := by
  unfold dSet
  rw [(dIns_perm _ _).length_eq, List.length_cons]
  exact Nat.succ_le_succ (List.length_filter_le _ _)
theorem bump_id (I : List Int) (g : BG) : (bumpG f m now I g).id = g.id ∧ (bumpG f m now I g).L = g.L := by
  unfold bumpG
  split <;> exact ⟨rfl, rfl⟩
section
variable {q : BG → BG} (hq : ∀ g, (q g).id = g.id ∧ (q g).L = g.L)
include hq
theorem ids_map : (gs.map q).map BG.id = gs.map BG.id := by
  rw [List.map_map]
  exact List.map_congr_left fun g _ => (hq g).1
theorem nums_map : ∀ gs : List BG, bNums (gs.map q) = bNums gs
  | [] => rfl
  | g :: gs => by
    have ih := nums_map gs
    simp only [bNums] at ih ⊢
    rw [List.map_cons, List.flatMap_cons, List.flatMap_cons, ih, (hq g).2]
theorem bId_map (id : Int) : ∀ gs : List BG, bId (gs.map q) id = (bId gs id).map q
  | [] => rfl
  | g :: gs => by
    have ih := bId_map id gs
    unfold bId at ih ⊢
    rw [List.map_cons, List.find?_cons, List.find?_cons, ih, (hq g).1]
    cases decide (g.id = id) <;> rfl
theorem bGet_map (n : Int) : ∀ gs : List BG, bGet (gs.map q) n = (bGet gs n).map q
  | [] => rfl
  | g :: gs => by
    have ih := bGet_map n gs
    unfold bGet at ih ⊢
    rw [List.map_cons, List.find?_cons, List.find?_cons, ih, (hq g).2]
    cases decide (n ∈ g.L) <;> rfl
theorem BOk.map_ (h : BOk last gs) (h1 : ∀ g ∈ gs, 1 ≤ (q g).tries ∧ (q g).tries ≤ 1099511627776) (h2 : ∀ g ∈ gs, 0 ≤ (q g).tm ∧ (q g).tm ≤ 2305843009213693952) : BOk last (gs.map q) where
  ids := by rw [ids_map hq]; exact h.ids
  idb := fun g hg => by
    obtain ⟨x, hx, rfl⟩ := List.mem_map.1 hg
    rw [(hq x).1]; exact h.idb x hx
  srt := fun g hg => by
    obtain ⟨x, hx, rfl⟩ := List.mem_map.1 hg
    rw [(hq x).2]; exact h.srt x hx
  nd := by rw [nums_map hq]; exact h.nd
  fit := fun g hg => by
    obtain ⟨x, hx, rfl⟩ := List.mem_map.1 hg
    rw [(hq x).2]; exact h.fit x hx
  tr := fun g hg => by
    obtain ⟨x, hx, rfl⟩ := List.mem_map.1 hg
    exact h1 x hx
  tm := fun g hg => by
    obtain ⟨x, hx, rfl⟩ := List.mem_map.1 hg
    exact h2 x hx
  len := by rw [nums_map hq]; exact h.len
  lst := h.lst
  cnt := by rw [List.length_map]; exact h.cnt
theorem BNe.map_ (h : BNe gs) : BNe (gs.map q) := fun g hg => by
  obtain ⟨x, hx, rfl⟩ := List.mem_map.1 hg
  rw [(hq x).2]; exact h x hx
theorem BRel.map_ {M1 M2 : List ME} {c1 c2 : Nat} {B : Int → Nat} (hr : BRel gs M1 M2 c1 c2 B) : BRel (gs.map q) M1 M2 c1 c2 B where
  inj := fun g hg g' hg' e => by
    obtain ⟨x, hx, rfl⟩ := List.mem_map.1 hg
    obtain ⟨y, hy, rfl⟩ := List.mem_map.1 hg'
    rw [(hq x).1, (hq y).1] at e ⊢
    exact hr.inj x hx y hy e
  m1 := hr.m1
  g1 := fun id => by
    rw [hr.g1, bId_map hq, Option.map_map]
    rfl
  m2 := hr.m2
  g2 := fun n => by
    rw [hr.g2, bGet_map hq, Option.map_map]
    congr 1
    funext g
    rw [Function.comp_apply, (hq g).1]
theorem seV_map {X : Int → SX} {w : World} {F : Nat → Prop} {v : Value} : (seV (gs.map q) X).at_ w F v ↔ (seV gs X).at_ w F v := by
  constructor
  · intro h g hg
    have := h (q g) (List.mem_map.2 ⟨g, hg, rfl⟩)
    rw [(hq g).1, (hq g).2] at this
    exact this
  · intro h y hy
    obtain ⟨g, hg, rfl⟩ := List.mem_map.1 hy
    rw [(hq g).1, (hq g).2]
    exact h g hg
end
theorem bump_step {I : List Int} {id : Int} (h : BOk last gs) {g : BG} (hg : g ∈ gs) (hid : g.id = id) (hI : id ∉ I) : (∀ x ∈ gs, x.id ≠ id → bumpG f m now (I ++ [id]) x = bumpG f m now I x) ∧ bumpG f m now (I ++ [id]) g = ⟨g.id, g.L, now + W f m g.tries.toNat, g.tries + 1⟩ ∧ bumpG f m now I g = g := by
  refine ⟨fun x hx hne => ?_, ?_, ?_⟩
  · unfold bumpG
    by_cases e : x.id ∈ I
    · rw [if_pos e, if_pos (List.mem_append.2 (.inl e))]
    · rw [if_neg e, if_neg fun h => (List.mem_append.1 h).elim e fun h => hne (List.mem_singleton.1 h)]
  · unfold bumpG
    rw [if_pos (List.mem_append.2 (.inr (List.mem_singleton.2 hid)))]
  · unfold bumpG
    rw [if_neg (hid ▸ hI)]
end
end Go.Proofs.Ytanhmmfpecgbhaa
