/-
  A board's groups without some numbers, plain; and its maps. Conditions: each theorem's own.
-/
import Derived.Test.YtanhmmfpecgbhaaBoD
namespace Go.Proofs.Ytanhmmfpecgbhaa
open Go Go.RowKit
set_option linter.unusedVariables false

def cutB (s : Int → Bool) (g : BG) : BG := ⟨g.id, g.L.filter fun n => !s n, g.tm, g.tries⟩
def rmB (gs : List BG) (s : Int → Bool) : List BG := (gs.map (cutB s)).filter fun g => !g.L.isEmpty
theorem rmB_nil (s : Int → Bool) : rmB [] s = [] := rfl
theorem rmB_cons (g : BG) (gs : List BG) (s : Int → Bool) : rmB (g :: gs) s = if (cutB s g).L = [] then rmB gs s else cutB s g :: rmB gs s := by
  unfold rmB
  rw [List.map_cons]
  split
  · rename_i h
    rw [List.filter_cons_of_neg (by rw [h]; simp)]
  · rename_i h
    rw [List.filter_cons_of_pos (by simpa using h)]
theorem cutB_cutB (p q : Int → Bool) (g : BG) : cutB q (cutB p g) = cutB (fun n => p n || q n) g := by
  unfold cutB
  simp only [List.filter_filter, BG.mk.injEq, true_and, and_true]
  exact List.filter_congr fun n _ => by cases p n <;> cases q n <;> rfl
theorem rmB_rmB (p q : Int → Bool) : ∀ gs : List BG, rmB (rmB gs p) q = rmB gs fun n => p n || q n
  | [] => rfl
  | g :: gs => by
    have hc := cutB_cutB p q g
    rw [rmB_cons g gs fun n => p n || q n, ← hc, rmB_cons g gs p]
    split
    · rename_i h
      have h2 : (cutB q (cutB p g)).L = [] := by
        show List.filter _ (cutB p g).L = []
        rw [h]; rfl
      rw [if_pos h2, rmB_rmB p q gs]
    · rw [rmB_cons, rmB_rmB p q gs]
theorem rmB_congr {p q : Int → Bool} {gs : List BG} (h : ∀ n ∈ bNums gs, p n = q n) : rmB gs p = rmB gs q := by
  unfold rmB
  congr 1
  refine List.map_congr_left fun g hg => ?_
  unfold cutB
  simp only [BG.mk.injEq, true_and, and_true]
  exact List.filter_congr fun n hn => by rw [h n (List.mem_flatMap.2 ⟨g, hg, hn⟩)]
theorem rmB_none {p : Int → Bool} : ∀ {gs : List BG}, BNe gs → (∀ n ∈ bNums gs, p n = false) → rmB gs p = gs
  | [], _, _ => rfl
  | g :: gs, hne, h => by
    have hc : cutB p g = g := by
      unfold cutB
      rw [List.filter_eq_self.2 fun n hn => by rw [h n (List.mem_flatMap.2 ⟨g, List.mem_cons_self, hn⟩)]; rfl]
    rw [rmB_cons, hc, if_neg (hne g List.mem_cons_self), rmB_none (fun x hx => hne x (List.mem_cons_of_mem _ hx)) fun n hn => h n (by
      obtain ⟨x, hx, hn⟩ := List.mem_flatMap.1 hn
      exact List.mem_flatMap.2 ⟨x, List.mem_cons_of_mem _ hx, hn⟩)]
theorem rmB_ne (gs : List BG) (s : Int → Bool) : BNe (rmB gs s) := fun g hg h => by
  have := (List.mem_filter.1 hg).2
  rw [h] at this
  cases this
theorem nums_cut (s : Int → Bool) : ∀ gs : List BG, bNums (gs.map (cutB s)) = (bNums gs).filter fun n => !s n
  | [] => rfl
  | g :: gs => by
    have ih := nums_cut s gs
    simp only [bNums] at ih ⊢
    rw [List.map_cons, List.flatMap_cons, List.flatMap_cons, List.filter_append, ih]
    rfl
theorem nums_ne : ∀ gs : List BG, bNums (gs.filter fun g => !g.L.isEmpty) = bNums gs
  | [] => rfl
  | g :: gs => by
    have ih := nums_ne gs
    simp only [bNums] at ih ⊢
    by_cases h : g.L = []
    · rw [List.filter_cons_of_neg (by rw [h]; simp), List.flatMap_cons, h, ih]; rfl
    · rw [List.filter_cons_of_pos (by simpa using h), List.flatMap_cons, List.flatMap_cons, ih]
theorem nums_rm (gs : List BG) (s : Int → Bool) : bNums (rmB gs s) = (bNums gs).filter fun n => !s n := (nums_ne _).trans (nums_cut s gs)
section
variable {last : Int} {gs : List BG}
theorem BOk.cut (h : BOk last gs) (s : Int → Bool) : BOk last (gs.map (cutB s)) where
  ids := by
    rw [List.map_map]
    exact h.ids
  idb := fun g hg => by
    obtain ⟨x, hx, rfl⟩ := List.mem_map.1 hg
    exact h.idb x hx
  srt := fun g hg => by
    obtain ⟨x, hx, rfl⟩ := List.mem_map.1 hg
    exact (h.srt x hx).sublist List.filter_sublist
  nd := by rw [nums_cut]; exact h.nd.sublist List.filter_sublist
  fit := fun g hg n hn => by
    obtain ⟨x, hx, rfl⟩ := List.mem_map.1 hg
    exact h.fit x hx n (List.mem_filter.1 hn).1
  tr := fun g hg => by
    obtain ⟨x, hx, rfl⟩ := List.mem_map.1 hg
    exact h.tr x hx
  tm := fun g hg => by
    obtain ⟨x, hx, rfl⟩ := List.mem_map.1 hg
    exact h.tm x hx
  len := by rw [nums_cut]; exact Nat.le_trans (List.length_filter_le _ _) h.len
  lst := h.lst
  cnt := by rw [List.length_map]; exact h.cnt
theorem nums_sub {l m : List BG} (h : l.Sublist m) : (bNums l).Sublist (bNums m) := by
  induction h with
  | slnil => exact List.Sublist.refl _
  | cons a h ih =>
    simp only [bNums, List.flatMap_cons] at ih ⊢
    exact ih.trans (List.sublist_append_right _ _)
  | cons_cons a h ih =>
    simp only [bNums, List.flatMap_cons] at ih ⊢
    exact (List.Sublist.refl _).append ih
theorem BOk.sub {gs' : List BG} (h : BOk last gs) (hs : gs'.Sublist gs) : BOk last gs' where
  ids := h.ids.sublist (hs.map _)
  idb := fun g hg => h.idb g (hs.subset hg)
  srt := fun g hg => h.srt g (hs.subset hg)
  nd := h.nd.sublist (nums_sub hs)
  fit := fun g hg => h.fit g (hs.subset hg)
  tr := fun g hg => h.tr g (hs.subset hg)
  tm := fun g hg => h.tm g (hs.subset hg)
  len := Nat.le_trans (nums_sub hs).length_le h.len
  lst := h.lst
  cnt := Nat.le_trans hs.length_le h.cnt
theorem BOk.rm (h : BOk last gs) (s : Int → Bool) : BOk last (rmB gs s) := (h.cut s).sub List.filter_sublist
abbrev eqN (n : Int) : Int → Bool := fun k => decide (k = n)
theorem cut_other (h : BOk last gs) {g x : BG} {n : Int} (hg : g ∈ gs) (hn : n ∈ g.L) (hx : x ∈ gs) (hne : x.id ≠ g.id) : cutB (eqN n) x = x := by
  unfold cutB
  rw [List.filter_eq_self.2 fun k hk => ?_]
  have : k ≠ n := fun e => hne (by rw [nums_one h.nd hx hg (e ▸ hk) hn])
  simp [eqN, this]
/-- one number: its group stays .. -/
theorem rm_keep (h : BOk last gs) (hne : BNe gs) {g : BG} {n : Int} (hg : g ∈ gs) (hn : n ∈ g.L) (hc : (cutB (eqN n) g).L ≠ []) : rmB gs (eqN n) = gs.map (cutB (eqN n)) := by
  unfold rmB
  refine List.filter_eq_self.2 fun y hy => ?_
  obtain ⟨x, hx, rfl⟩ := List.mem_map.1 hy
  by_cases e : x.id = g.id
  · obtain rfl := nodup_eq BG.id h.idn hx hg e
    simpa using hc
  · rw [cut_other h hg hn hx e]
    simpa using hne x hx
/-- .. or is gone -/
theorem rm_gone (h : BOk last gs) (hne : BNe gs) {g : BG} {n : Int} (hg : g ∈ gs) (hn : n ∈ g.L) (hc : (cutB (eqN n) g).L = []) : rmB gs (eqN n) = (gs.map (cutB (eqN n))).filter fun x => decide (x.id ≠ g.id) := by
  unfold rmB
  refine List.filter_congr fun y hy => ?_
  obtain ⟨x, hx, rfl⟩ := List.mem_map.1 hy
  by_cases e : x.id = g.id
  · obtain rfl := nodup_eq BG.id h.idn hx hg e
    rw [hc]
    simp [cutB]
  · have e2 : (cutB (eqN n) x).id ≠ g.id := e
    rw [cut_other h hg hn hx e] at e2 ⊢
    simp [e, hne x hx]
theorem bAl_cut (s : Int → Bool) : ∀ gs : List BG, bAl (gs.map (cutB s)) = bAl gs
  | [] => rfl
  | g :: gs => by
    have ih := bAl_cut s gs
    unfold bAl at ih ⊢
    rw [List.map_cons, List.foldr_cons, List.foldr_cons, ih]
    rfl
theorem bAl_filt (h : BOk last gs) (id : Int) : dClear (bAl gs) id = bAl (gs.filter fun x => decide (x.id ≠ id)) := by
  refine bAl_clear h.idn (h.sub List.filter_sublist).idn ?_
  rw [List.filter_map]
  exact List.Perm.refl _
section
variable {M1 M2 : List ME} {c1 c2 : Nat} {B : Int → Nat}
theorem bId_cut (s : Int → Bool) (id : Int) : ∀ gs : List BG, bId (gs.map (cutB s)) id = (bId gs id).map (cutB s)
  | [] => rfl
  | g :: gs => by
    have ih := bId_cut s id gs
    unfold bId at ih ⊢
    rw [List.map_cons, List.find?_cons, List.find?_cons, ih]
    show (match decide (g.id = id) with | true => _ | false => _) = _
    cases decide (g.id = id) <;> rfl
theorem BRel.cut1 (hr : BRel gs M1 M2 c1 c2 B) (hok : BOk last gs) (n : Int) : BRel (gs.map (cutB (eqN n))) M1 (mDel M2 n) c1 c2 B where
  inj := fun g hg g' hg' e => by
    obtain ⟨x, hx, rfl⟩ := List.mem_map.1 hg
    obtain ⟨x', hx', rfl⟩ := List.mem_map.1 hg'
    exact hr.inj x hx x' hx' e
  m1 := hr.m1
  g1 := fun id => by
    rw [hr.g1, bId_cut, Option.map_map]
    rfl
  m2 := hr.m2.del n
  g2 := fun k => by
    rw [mGet_del n k M2 hr.m2.keys]
    by_cases hk : k = n
    · rw [if_pos hk]
      have : bGet (gs.map (cutB (eqN n))) k = none := bGet_none.2 (by rw [nums_cut, List.mem_filter]; simp [eqN, hk])
      rw [this]; rfl
    · rw [if_neg hk, hr.g2]
      cases hb : bGet gs k with
      | none =>
        have : bGet (gs.map (cutB (eqN n))) k = none := bGet_none.2 (by rw [nums_cut, List.mem_filter]; exact fun h => bGet_none.1 hb h.1)
        rw [this]
      | some g =>
        have h1 := bGet_some hb
        rw [bGet_mem (hok.cut _) (List.mem_map.2 ⟨g, h1.1, rfl⟩) (List.mem_filter.2 ⟨h1.2, by simp [eqN, hk]⟩)]
        rfl
theorem BRel.del (hr : BRel gs M1 M2 c1 c2 B) (hok : BOk last gs) {id : Int} (hem : ∀ g ∈ gs, g.id = id → g.L = []) : BRel (gs.filter fun x => decide (x.id ≠ id)) (mDel M1 id) M2 c1 c2 B where
  inj := fun g hg g' hg' => hr.inj g (List.mem_filter.1 hg).1 g' (List.mem_filter.1 hg').1
  m1 := hr.m1.del id
  g1 := fun k => by
    rw [mGet_del id k M1 hr.m1.keys]
    by_cases hk : k = id
    · rw [if_pos hk]
      have : bId (gs.filter fun x => decide (x.id ≠ id)) k = none := bId_none.2 fun g hg => by rw [hk]; simpa using (List.mem_filter.1 hg).2
      rw [this]; rfl
    · rw [if_neg hk, hr.g1]
      cases hb : bId gs k with
      | none =>
        have : bId (gs.filter fun x => decide (x.id ≠ id)) k = none := bId_none.2 fun g hg => bId_none.1 hb g (List.mem_filter.1 hg).1
        rw [this]
      | some g =>
        obtain ⟨h1, rfl⟩ := bId_some hb
        rw [bId_mem (hok.sub List.filter_sublist) (List.mem_filter.2 ⟨h1, by simpa using hk⟩)]
  m2 := hr.m2
  g2 := fun k => by
    rw [hr.g2]
    cases hb : bGet gs k with
    | none =>
      have : bGet (gs.filter fun x => decide (x.id ≠ id)) k = none := bGet_none.2 fun h => bGet_none.1 hb ((nums_sub List.filter_sublist).subset h)
      rw [this]
    | some g =>
      have h1 := bGet_some hb
      have hne : g.id ≠ id := fun e => by rw [hem g h1.1 e] at h1; cases h1.2
      rw [bGet_mem (hok.sub List.filter_sublist) (List.mem_filter.2 ⟨h1.1, by simpa using hne⟩) h1.2]
end
end
end Go.Proofs.Ytanhmmfpecgbhaa
