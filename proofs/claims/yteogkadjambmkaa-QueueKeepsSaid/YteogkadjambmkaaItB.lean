/-
  A map of u64 keys that is gone through, whatever the order. Conditions: each theorem's own.
-/
import Derived.Test.YteogkadjambmkaaItA
import Derived.Test.YteogkadjambmkaaEz
import Derived.Sort.MapsRangeIn
namespace Go.Proofs.Yteogkadjambmkaa
open Go Go.RowKit Go.Shelf
set_option linter.unusedVariables false
attribute [local go_sem] Oper.semAt_some

/-- No key twice, no stamp twice, each stamp behind the clock. -/
structure MOk (M : List ME) (c : Nat) : Prop where
  keys : (M.map (·.1)).Nodup
  borns : (M.map (·.2.2)).Nodup
  lt : ∀ p ∈ M, p.2.2 < c
theorem MOk.nil : MOk [] 0 := ⟨List.nodup_nil, List.nodup_nil, fun p h => by cases h⟩

/-- A walk over a map is under way: pk has come. -/
structure ItAt (b r : Nat) (M : List ME) (c : Nat) (pk : List ME) (w : World) : Prop where
  m : w.heap[b]? = some (mapO .u64 M c)
  it : w.heap[r]? = some (.mapIter (some b) c ⟨pk.map (·.2.2)⟩ c)
  sub : ∀ p ∈ pk, p ∈ M
  nd : (pk.map (·.2.2)).Nodup
theorem ItAt.iter_walk {b r c : Nat} {M pk : List ME} {w : World} (h : ItAt b r M c pk w) : ∃ o : Obj, w.heap[r]? = some o ∧ o.isWalk = true := ⟨_, h.it, rfl⟩
theorem ItAt.walks {b r c : Nat} {M pk : List ME} {w w' : World} (h : ItAt b r M c pk w) (hk : KeepsWalks w w') : ItAt b r M c pk w' := ⟨hk.same _ _ h.m rfl, hk.same _ _ h.it rfl, h.sub, h.nd⟩

theorem nodup_eq {α β : Type} (f : α → β) {l : List α} (h : (l.map f).Nodup) {x y : α} (hx : x ∈ l) (hy : y ∈ l) (e : f x = f y) : x = y := by
  induction l with
  | nil => cases hx
  | cons a l ih =>
    rw [List.map_cons, List.nodup_cons] at h
    rcases List.mem_cons.1 hx with rfl | hx
    · rcases List.mem_cons.1 hy with rfl | hy
      · rfl
      · exact absurd (List.mem_map.2 ⟨y, hy, e.symm⟩) h.1
    · rcases List.mem_cons.1 hy with e1 | hy
      · exact absurd (List.mem_map.2 ⟨x, hx, by rw [e, e1]⟩) h.1
      · exact ih h.2 hx hy
theorem nodup_of_map {α β : Type} (f : α → β) {l : List α} (h : (l.map f).Nodup) : l.Nodup := by
  induction l with
  | nil => exact List.nodup_nil
  | cons a l ih =>
    rw [List.map_cons, List.nodup_cons] at h
    exact List.nodup_cons.2 ⟨fun hm => h.1 (List.mem_map.2 ⟨a, hm, rfl⟩), ih h.2⟩
theorem nodup_sub_len {α : Type} : ∀ {l m : List α}, l.Nodup → (∀ x ∈ l, x ∈ m) → l.length ≤ m.length
  | [], _, _, _ => Nat.zero_le _
  | a :: l, m, hl, hs => by
    obtain ⟨h1, h2⟩ := List.nodup_cons.1 hl
    obtain ⟨s, t, rfl⟩ := List.append_of_mem (hs a (List.mem_cons_self ..))
    have := nodup_sub_len (l := l) (m := s ++ t) h2 (fun x hx => by
      have := hs x (List.mem_cons_of_mem _ hx)
      rcases List.mem_append.1 this with h | h
      · exact List.mem_append.2 (.inl h)
      · rcases List.mem_cons.1 h with h | h
        · subst h; exact absurd hx h1
        · exact List.mem_append.2 (.inr h))
    simp only [List.length_append, List.length_cons] at this ⊢
    omega
theorem nodup_sub_perm {α : Type} {l m : List α} (hl : l.Nodup) (hm : m.Nodup) (hs : ∀ x ∈ l, x ∈ m) (ht : ∀ x ∈ m, x ∈ l) : l.Perm m :=
  (List.perm_ext_iff_of_nodup hl hm).2 fun x => ⟨hs x, ht x⟩
theorem mem_mE {κ : IntKind} {M : List ME} {e : MapEntry} (h : e ∈ (⟨M.map (mE κ)⟩ : Array MapEntry).toList) : ∃ p ∈ M, e = mE κ p := by
  obtain ⟨p, hp, rfl⟩ := List.mem_map.1 (show e ∈ M.map (mE κ) from h)
  exact ⟨p, hp, rfl⟩

theorem ItAt.next {P : Program} {b r c : Nat} {M pk : List ME} {w : World} (hM : MOk M c) (h : ItAt b r M c pk w) (ty : TypeId) :
    ((Instr.next (.pointer (some ⟨r, 0, none⟩)) false ty).run P w = .ok (.tuple #[.bool false]) w ∧ (pk.map (·.1)).Perm (M.map (·.1))) ∨
    ∃ p ∈ M, ∃ w', (Instr.next (.pointer (some ⟨r, 0, none⟩)) false ty).run P w = .ok (.tuple #[.bool true, .int .u64 p.1, p.2.1]) w' ∧ ItAt b r M c (pk ++ [p]) w' ∧ w'.rangeLeft b r < w.rangeLeft b r ∧ w.grownBy w' (some r) ∧ pk.length < M.length ∧
      (Instr.entry (.pointer (some ⟨r, 0, none⟩))).run P w' = .ok (.tuple #[.int .u64 p.1, p.2.1]) w' := by
  rcases run_next_at (P := P) w ty r b c c ⟨pk.map (·.2.2)⟩ ⟨M.map (mE .u64)⟩ c h.it h.m (fun x hx => by obtain ⟨p, hp, rfl⟩ := mem_mE hx; exact hM.lt p hp) (Nat.le_refl _) with ⟨h0, hrun⟩ | ⟨e, he, w1, hw1, hrun⟩
  · refine .inl ⟨hrun, List.Perm.map _ (nodup_sub_perm (nodup_of_map (·.2.2) h.nd) (nodup_of_map (·.2.2) hM.borns) h.sub fun p hp => ?_)⟩
    have hs := all_seen _ _ h0 (mE .u64 p) (List.mem_map.2 ⟨p, hp, rfl⟩)
    rw [Array.contains_iff_mem] at hs
    obtain ⟨q, hq, e⟩ := List.mem_map.1 (show p.2.2 ∈ pk.map (·.2.2) by simpa using hs)
    rw [nodup_eq (·.2.2) hM.borns hp (h.sub q hq) e.symm]
    exact hq
  · obtain ⟨he1, he2⟩ := mem_left he
    obtain ⟨p, hp, rfl⟩ := mem_mE he1
    have hnew : p.2.2 ∉ pk.map (·.2.2) := fun hm => by
      have : (⟨pk.map (·.2.2)⟩ : Array Nat).contains p.2.2 = true := by rw [Array.contains_iff_mem]; simpa using hm
      rw [show (mE .u64 p).born = p.2.2 from rfl] at he2
      rw [this] at he2; cases he2
    have hrb : r ≠ b := fun e => by have h1 := h.it; rw [e, h.m] at h1; cases h1
    have hr : r < w.heap.size := (Array.getElem?_eq_some_iff.1 h.it).1
    have hw1h : w1.heap = w.heap := by rcases hw1 with rfl | rfl <;> rfl
    have hpush : (⟨pk.map (·.2.2)⟩ : Array Nat).push (mE .u64 p).born = ⟨(pk ++ [p]).map (·.2.2)⟩ := by
      simp [Array.push]
    have hb' : (Go.ChangeMaps.setBlock w1 r (.mapIter (some b) c ((⟨pk.map (·.2.2)⟩ : Array Nat).push (mE .u64 p).born) c)).heap[b]? = w.heap[b]? := by
      simp [Go.ChangeMaps.setBlock, hw1h, hrb]
    have hr' : (Go.ChangeMaps.setBlock w1 r (.mapIter (some b) c ((⟨pk.map (·.2.2)⟩ : Array Nat).push (mE .u64 p).born) c)).heap[r]? = some (.mapIter (some b) c ((⟨pk.map (·.2.2)⟩ : Array Nat).push (mE .u64 p).born) c) := by
      simp [Go.ChangeMaps.setBlock, hw1h, hr]
    have hnd : ((pk ++ [p]).map (·.2.2)).Nodup := by
      rw [List.map_append, List.nodup_append]
      refine ⟨h.nd, by simp, fun x hx y hy => ?_⟩
      simp only [List.map_cons, List.map_nil, List.mem_singleton] at hy
      subst hy
      exact fun e => hnew (e ▸ hx)
    have hsub : ∀ q ∈ pk ++ [p], q ∈ M := fun q hq => by
      rcases List.mem_append.1 hq with hq | hq
      · exact h.sub q hq
      · simp only [List.mem_singleton] at hq; subst hq; exact hp
    refine .inr ⟨p, hp, _, hrun, ⟨hb'.trans h.m, by rw [hr', hpush], hsub, hnd⟩, ?_, ?_, ?_, ?_⟩
    · unfold World.rangeLeft
      rw [hb', hr', h.m, h.it]
      exact left_shrinks _ _ _ he
    · rcases hw1 with rfl | rfl
      · exact ⟨rfl, rfl, rfl, by simp [Go.ChangeMaps.setBlock], fun k hk hne => by simp [Go.ChangeMaps.setBlock, show r ≠ k from fun e => hne (by rw [e])]⟩
      · exact ⟨rfl, rfl, rfl, by simp [Go.ChangeMaps.setBlock, hw1h], fun k hk hne => by simp [Go.ChangeMaps.setBlock, hw1h, show r ≠ k from fun e => hne (by rw [e])]⟩
    · have := nodup_sub_len (nodup_of_map (·.2.2) hnd) hsub
      rw [List.length_append] at this
      exact this
    · exact run_entry_at _ r b c _ _ c (mE .u64 p) hr' (hb'.trans h.m) (List.mem_map.2 ⟨p, hp, rfl⟩) (by
        have : ((⟨M.map (mE .u64)⟩ : Array MapEntry).toList.map (·.born)) = M.map (·.2.2) := by simp [List.map_map, Function.comp_def]
        rw [this]; exact hM.borns)

section
variable {F : Fence} {n : Nat} {P : Program} {w : World} {ops : Array Oper} {rest : List Oper} {o : Oper} {a : Act} {Q : Exit → Act → World → Prop}
theorem wpListIn_range_m (hg : o.guard = none) (m : Operand) (t : TypeId) (hop : o.op = Op.range t m) (k e : TypeId) (ht : P.underlying t = some (.map k e)) (b : Nat) (M : List ME) (c : Nat)
    (hm : a.eval m = .map (some b)) (hb : w.heap[b]? = some (mapO .u64 M c))
    (hK : ∀ w', ItAt b w.heap.size M c [] w' → w.grownBy w' none → wpListIn F n P ops Q rest (a.put o.dst (.pointer (some ⟨w.heap.size, 0, none⟩))) w') :
    wpListIn F n P ops Q (o :: rest) a w := by
  refine wpListIn_plain hg fun K' hK' => ?_
  unfold Oper.wpIn
  refine ⟨by simp [Oper.about, hop], ?_⟩
  rw [Oper.semAt_plain F _ _ (by rw [hop]; intro c hc'; cases hc')]
  simp only [execOp, hop, hm, run_range_map w t k e b _ _ ht hb, Sem.run_bind, Result.andThen]
  refine hK' _ _ (hK _ ⟨?_, World.alloc_heap_new w _, fun p h => (by cases h), List.nodup_nil⟩ (World.grownBy_alloc w _ none))
  exact (Go.RowKit.Below.heap_alloc w _ b (Array.getElem?_eq_some_iff.1 hb).1).trans hb
theorem wpListIn_next_m (hg : o.guard = none) (it : Operand) (hop : o.op = Op.next it false) (b r : Nat) (M : List ME) (c : Nat) (pk : List ME) (hM : MOk M c) (hit : a.eval it = .pointer (some ⟨r, 0, none⟩)) (h : ItAt b r M c pk w)
    (hDone : (pk.map (·.1)).Perm (M.map (·.1)) → wpListIn F n P ops Q rest (a.put o.dst (.tuple #[.bool false])) w)
    (hMore : ∀ (x : Int) (v : Value) (bn : Nat) (w' : World), (x, v, bn) ∈ M → ItAt b r M c (pk ++ [(x, v, bn)]) w' → w'.rangeLeft b r < w.rangeLeft b r → w.grownBy w' (some r) → pk.length < M.length →
      (Instr.entry (.pointer (some ⟨r, 0, none⟩))).run P w' = .ok (.tuple #[.int .u64 x, v]) w' → wpListIn F n P ops Q rest (a.put o.dst (.tuple #[.bool true, .int .u64 x, v])) w') :
    wpListIn F n P ops Q (o :: rest) a w := by
  refine wpListIn_plain hg fun K' hK' => ?_
  unfold Oper.wpIn
  refine ⟨by simp [Oper.about, hop], ?_⟩
  rw [Oper.semAt_plain F _ _ (by rw [hop]; intro c hc'; cases hc')]
  rcases h.next (P := P) hM o.type with ⟨hrun, hp⟩ | ⟨⟨x, v, bn⟩, hp, w', hrun, h2, hlt, hgr, hlen, hen⟩
  · simp only [execOp, hop, hit, hrun, Sem.run_bind, Result.andThen]
    exact hK' _ _ (hDone hp)
  · simp only [execOp, hop, hit, hrun, Sem.run_bind, Result.andThen]
    exact hK' _ _ (hMore x v bn w' hp h2 hlt hgr hlen hen)
end
end Go.Proofs.Yteogkadjambmkaa
