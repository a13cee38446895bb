/-
  Acts of alarms; the plain law of lists in order. Conditions: each theorem's own.
-/
import Derived.Test.YtggnhcgmeibihaaAlI
namespace Go.Proofs.Ytggnhcgmeibihaa
open Go Go.RowKit
set_option linter.unusedVariables false

abbrev Rac : Rep (Int × (Int × Int)) := Rpair (Rint .u8) (Rpair (Rint .u64) (Rint .i64))
def encC (p : Int × (Int × Int)) : List Value := [.int .u8 p.1, .int .u64 p.2.1, .int .i64 p.2.2]
def okC (p : Int × (Int × Int)) : Prop := Fits .u8 p.1 ∧ Fits .u64 p.2.1 ∧ Fits .i64 p.2.2
theorem flat_ac : Flat Rac encC okC := ⟨fun w A cs x => ⟨by
  rintro ⟨c1, c2, rfl, ⟨rfl, h1⟩, c3, c4, rfl, ⟨rfl, h2⟩, rfl, h3⟩
  exact ⟨rfl, h1, h2, h3⟩, by
  rintro ⟨rfl, h1, h2, h3⟩
  exact ⟨[.int .u8 x.1], [.int .u64 x.2.1, .int .i64 x.2.2], rfl, ⟨rfl, h1⟩, [.int .u64 x.2.1], [.int .i64 x.2.2], rfl, ⟨rfl, h2⟩, rfl, h3⟩⟩⟩
theorem ac_cells {w : World} {A : Nat → Prop} {b off n c : Nat} {l : List (Int × (Int × Int))} (h : SlR Rac w A (some ⟨b, off, none⟩) n c l) {i : Nat} (hi : i < l.length) : ∀ j u, (encC l[i])[j]? = some u → w.cell? ((⟨b, off + i * 3, none⟩ : Addr).add j) = some u := by
  obtain ⟨cs, _, h2, _, h3, _⟩ := h.at_ hi
  have h4 := ((flat_ac.iff _ _ _ _).1 h2).1
  subst h4
  intro j u hu
  rw [Addr.add_lit]
  exact h3 j u hu
theorem ac_ok {w : World} {A : Nat → Prop} {a : Option Addr} {n c : Nat} {l : List (Int × (Int × Int))} (h : SlR Rac w A a n c l) {i : Nat} (hi : i < l.length) : okC l[i] := (h.flat flat_ac).2 _ (List.getElem_mem hi)

structure LS (l : List DE) : Prop where
  srt : l.Pairwise dBef
  ids : (l.map (·.1)).Nodup
  fit : ∀ p ∈ l, p.2 ≤ 9223372036854775807
theorem LS.nil : LS [] := ⟨List.Pairwise.nil, List.nodup_nil, fun p h => by cases h⟩
theorem dSet_mem {l : List DE} {id tm : Int} {p : DE} : p ∈ dSet l id tm ↔ p = (id, tm) ∨ (p ∈ l ∧ p.1 ≠ id) := by
  unfold dSet
  rw [(dIns_perm _ _).mem_iff, List.mem_cons]
  unfold dClear
  rw [List.mem_filter, decide_eq_true_eq]
theorem LS.set {l : List DE} (h : LS l) (id : Int) {tm : Int} (ht : tm ≤ 9223372036854775807) : LS (dSet l id tm) := ⟨dSet_srt h.srt, dSet_ids h.ids, fun p hp => by
  rcases dSet_mem.1 hp with rfl | ⟨hp, _⟩
  · exact ht
  · exact h.fit p hp⟩
theorem LS.clear {l : List DE} (h : LS l) (id : Int) : LS (dClear l id) := ⟨dClear_srt h.srt, dClear_ids h.ids, fun p hp => h.fit p (List.mem_filter.1 hp).1⟩
theorem dSet_len (l : List DE) (id tm : Int) : (dSet l id tm).length = (dClear l id).length + 1 := by
  unfold dSet
  rw [(dIns_perm _ _).length_eq]
  rfl
theorem dClear_len (l : List DE) (id : Int) : (dClear l id).length ≤ l.length := List.length_filter_le ..
theorem dOut_all {l : List DE} (h : ∀ p ∈ l, p.2 ≤ 9223372036854775807) : dOut l 9223372036854775807 = l.map (·.1) ∧ dRest l 9223372036854775807 = [] := by
  have := due_at (l := l) (now := 9223372036854775807) (k := l.length) (fun p hp => h p (by rwa [List.take_length] at hp)) (fun p hp => by
    rw [List.getElem?_eq_none (Nat.le_refl _)] at hp
    cases hp) (Nat.le_refl _)
  rw [List.take_length, List.drop_length] at this
  exact this
theorem dIns_cons (x p : DE) (l : List DE) : dIns x (p :: l) = if dBef p x then p :: dIns x l else x :: p :: l := rfl
theorem dIns_clear (id : Int) (x : DE) (hx : x.1 ≠ id) : ∀ (l : List DE), l.Pairwise dBef → dClear (dIns x l) id = dIns x (dClear l id)
  | [], _ => by
    unfold dIns dClear
    rw [List.filter_cons_of_pos (by simpa using hx)]
    rfl
  | p :: l, h => by
    rw [List.pairwise_cons] at h
    have ih := dIns_clear id x hx l h.2
    rw [dIns_cons]
    split
    · rename_i hb
      by_cases hp : p.1 = id
      · unfold dClear at ih ⊢
        rw [List.filter_cons_of_neg (by simpa using hp), List.filter_cons_of_neg (by simpa using hp), ih]
      · unfold dClear at ih ⊢
        rw [List.filter_cons_of_pos (by simpa using hp), List.filter_cons_of_pos (by simpa using hp), ih]
        rw [dIns_cons, if_pos hb]
    · rename_i hb
      have h1 : ∀ q ∈ p :: l, ¬ dBef q x := fun q hq => by
        rcases List.mem_cons.1 hq with rfl | hq
        · exact hb
        · exact fun hqx => hb (dBef_trans (h.1 q hq) hqx)
      have h2 : dClear (x :: p :: l) id = x :: dClear (p :: l) id := by
        unfold dClear
        rw [List.filter_cons_of_pos (by simpa using hx)]
      rw [h2]
      have h3 : ∀ q ∈ dClear (p :: l) id, ¬ dBef q x := fun q hq => h1 q (List.mem_filter.1 hq).1
      cases h4 : dClear (p :: l) id with
      | nil => rfl
      | cons q m =>
        rw [h4] at h3
        show _ = if dBef q x then _ else _
        rw [if_neg (h3 q List.mem_cons_self)]
theorem dClear_comm (l : List DE) (i j : Int) : dClear (dClear l i) j = dClear (dClear l j) i := by
  unfold dClear
  rw [List.filter_filter, List.filter_filter]
  congr 1
  funext p
  exact Bool.and_comm ..
theorem dClear_set {l : List DE} (h : LS l) {id k : Int} (hk : k ≠ id) (t : Int) : dClear (dSet l k t) id = dSet (dClear l id) k t := by
  unfold dSet
  rw [dIns_clear id (k, t) hk _ (dClear_srt h.srt), dClear_comm]
theorem dClear_own {l : List DE} {id t : Int} (h : LS l) : dClear (dSet l id t) id = dClear l id := by
  have h1 : (dClear (dSet l id t) id).Perm (dClear ((id, t) :: dClear l id) id) := (dIns_perm _ _).filter _
  have h2 : dClear ((id, t) :: dClear l id) id = dClear l id := by
    unfold dClear
    rw [List.filter_cons_of_neg (by simp), List.filter_filter]
    congr 1
    funext p
    exact Bool.and_self ..
  rw [h2] at h1
  exact h1.eq_of_pairwise (le := dBef) (fun a b _ _ h1 h2 => by unfold dBef at h1 h2; omega) (dClear_srt (dSet_srt h.srt)) (dClear_srt h.srt)
theorem dOut_clear (l : List DE) (id : Int) : (l.map (·.1)).filter (fun x => decide (x ≠ id)) = (dClear l id).map (·.1) := by
  unfold dClear
  rw [List.filter_map]
  rfl
end Go.Proofs.Ytggnhcgmeibihaa
