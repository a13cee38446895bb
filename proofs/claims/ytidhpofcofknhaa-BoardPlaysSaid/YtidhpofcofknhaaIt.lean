/-
  A map of u64 keys that is gone through, whatever the order. Conditions: each theorem's own. maps.Keys at one map type, against any loop. Conditions: each theorem's own. (Made by genItC.py.) A set's numbers, one by one: an iterator that may be stopped. Conditions: each theorem's own. slices.Clone, slices.Compact at uint64. Conditions: each theorem's own. Rising lists of numbers: plain. slices.Sort and Compact on a row. Conditions: each theorem's own. A function that holds a range over a function, stepped through up to there; a set's All and its Collect as value predicates. Conditions: each theorem's own.
  Conditions: each theorem's own.
-/
import Derived.Sort.MapsRangeIn
import Derived.Test.YtidhpofcofknhaaRn
namespace Go.Proofs.Ytidhpofcofknhaa
open Go Go.RowKit
set_option linter.unusedVariables false


open Go.Shelf
attribute [local go_sem] Oper.semAt_some
/-- No key twice, no stamp twice, each stamp behind the clock. -/
structure MOk (M : List ME) (c : Nat) : Prop where
  keys : (M.map (·.1)).Nodup
  borns : (M.map (·.2.2)).Nodup
  lt : ∀ p ∈ M, p.2.2 < c
theorem MOk.nil : MOk [] 0 := ⟨List.nodup_nil, List.nodup_nil, fun p h => by cases h⟩
/-- A walk over a map is under way: pk has come. -/
structure ItAt (b r : Nat) (M : List ME) (c : Nat) (pk : List ME) (w : World) : Prop where
  m : w.heap[b]? = some (mapO .u64 M c)
  it : w.heap[r]? = some (.mapIter (some b) c ⟨pk.map (·.2.2)⟩ c)
  sub : ∀ p ∈ pk, p ∈ M
  nd : (pk.map (·.2.2)).Nodup
theorem ItAt.iter_walk {b r c : Nat} {M pk : List ME} {w : World} (h : ItAt b r M c pk w) : ∃ o : Obj, w.heap[r]? = some o ∧ o.isWalk = true := ⟨_, h.it, rfl⟩
theorem ItAt.walks {b r c : Nat} {M pk : List ME} {w w' : World} (h : ItAt b r M c pk w) (hk : KeepsWalks w w') : ItAt b r M c pk w' := ⟨hk.same _ _ h.m rfl, hk.same _ _ h.it rfl, h.sub, h.nd⟩
theorem nodup_eq {α β : Type} (f : α → β) {l : List α} (h : (l.map f).Nodup) {x y : α} (hx : x ∈ l) (hy : y ∈ l) (e : f x = f y) : x = y := by
  induction l with
  | nil => cases hx
  | cons a l ih =>
    rw [List.map_cons, List.nodup_cons] at h
    rcases List.mem_cons.1 hx with rfl | hx
    · rcases List.mem_cons.1 hy with rfl | hy
      · rfl
      · exact absurd (List.mem_map.2 ⟨y, hy, e.symm⟩) h.1
    · rcases List.mem_cons.1 hy with e1 | hy
      · exact absurd (List.mem_map.2 ⟨x, hx, by rw [e, e1]⟩) h.1
      · exact ih h.2 hx hy
theorem nodup_of_map {α β : Type} (f : α → β) {l : List α} (h : (l.map f).Nodup) : l.Nodup := by
  induction l with
  | nil => exact List.nodup_nil
  | cons a l ih =>
    rw [List.map_cons, List.nodup_cons] at h
    exact List.nodup_cons.2 ⟨fun hm => h.1 (List.mem_map.2 ⟨a, hm, rfl⟩), ih h.2⟩
theorem nodup_sub_len {α : Type} : ∀ {l m : List α}, l.Nodup → (∀ x ∈ l, x ∈ m) → l.length ≤ m.length
  | [], _, _, _ => Nat.zero_le _
  | a :: l, m, hl, hs => by
    obtain ⟨h1, h2⟩ := List.nodup_cons.1 hl
    obtain ⟨s, t, rfl⟩ := List.append_of_mem (hs a (List.mem_cons_self ..))
    have := nodup_sub_len (l := l) (m := s ++ t) h2 (fun x hx => by
      have := hs x (List.mem_cons_of_mem _ hx)
      rcases List.mem_append.1 this with h | h
      · exact List.mem_append.2 (.inl h)
      · rcases List.mem_cons.1 h with h | h
        · subst h; exact absurd hx h1
        · exact List.mem_append.2 (.inr h))
    simp only [List.length_append, List.length_cons] at this ⊢
    omega
theorem nodup_sub_perm {α : Type} {l m : List α} (hl : l.Nodup) (hm : m.Nodup) (hs : ∀ x ∈ l, x ∈ m) (ht : ∀ x ∈ m, x ∈ l) : l.Perm m :=
  (List.perm_ext_iff_of_nodup hl hm).2 fun x => ⟨hs x, ht x⟩
theorem mem_mE {κ : IntKind} {M : List ME} {e : MapEntry} (h : e ∈ (⟨M.map (mE κ)⟩ : Array MapEntry).toList) : ∃ p ∈ M, e = mE κ p := by
  obtain ⟨p, hp, rfl⟩ := List.mem_map.1 (show e ∈ M.map (mE κ) from h)
  exact ⟨p, hp, rfl⟩
theorem ItAt.next {P : Program} {b r c : Nat} {M pk : List ME} {w : World} (hM : MOk M c) (h : ItAt b r M c pk w) (ty : TypeId) :
    ((Instr.next (.pointer (some ⟨r, 0, none⟩)) false ty).run P w = .ok (.tuple #[.bool false]) w ∧ (pk.map (·.1)).Perm (M.map (·.1))) ∨
    ∃ p ∈ M, ∃ w', (Instr.next (.pointer (some ⟨r, 0, none⟩)) false ty).run P w = .ok (.tuple #[.bool true, .int .u64 p.1, p.2.1]) w' ∧ ItAt b r M c (pk ++ [p]) w' ∧ w'.rangeLeft b r < w.rangeLeft b r ∧ w.grownBy w' (some r) ∧ pk.length < M.length ∧
      (Instr.entry (.pointer (some ⟨r, 0, none⟩))).run P w' = .ok (.tuple #[.int .u64 p.1, p.2.1]) w' := by
  rcases run_next_at (P := P) w ty r b c c ⟨pk.map (·.2.2)⟩ ⟨M.map (mE .u64)⟩ c h.it h.m (fun x hx => by obtain ⟨p, hp, rfl⟩ := mem_mE hx; exact hM.lt p hp) (Nat.le_refl _) with ⟨h0, hrun⟩ | ⟨e, he, w1, hw1, hrun⟩
  · refine .inl ⟨hrun, List.Perm.map _ (nodup_sub_perm (nodup_of_map (·.2.2) h.nd) (nodup_of_map (·.2.2) hM.borns) h.sub fun p hp => ?_)⟩
    have hs := all_seen _ _ h0 (mE .u64 p) (List.mem_map.2 ⟨p, hp, rfl⟩)
    rw [Array.contains_iff_mem] at hs
    obtain ⟨q, hq, e⟩ := List.mem_map.1 (show p.2.2 ∈ pk.map (·.2.2) by simpa using hs)
    rw [nodup_eq (·.2.2) hM.borns hp (h.sub q hq) e.symm]
    exact hq
  · obtain ⟨he1, he2⟩ := mem_left he
    obtain ⟨p, hp, rfl⟩ := mem_mE he1
    have hnew : p.2.2 ∉ pk.map (·.2.2) := fun hm => by
      have : (⟨pk.map (·.2.2)⟩ : Array Nat).contains p.2.2 = true := by rw [Array.contains_iff_mem]; simpa using hm
      rw [show (mE .u64 p).born = p.2.2 from rfl] at he2
      rw [this] at he2; cases he2
    have hrb : r ≠ b := fun e => by have h1 := h.it; rw [e, h.m] at h1; cases h1
    have hr : r < w.heap.size := (Array.getElem?_eq_some_iff.1 h.it).1
    have hw1h : w1.heap = w.heap := by rcases hw1 with rfl | rfl <;> rfl
    have hpush : (⟨pk.map (·.2.2)⟩ : Array Nat).push (mE .u64 p).born = ⟨(pk ++ [p]).map (·.2.2)⟩ := by
      simp [Array.push]
    have hb' : (Go.ChangeMaps.setBlock w1 r (.mapIter (some b) c ((⟨pk.map (·.2.2)⟩ : Array Nat).push (mE .u64 p).born) c)).heap[b]? = w.heap[b]? := by
      simp [Go.ChangeMaps.setBlock, hw1h, hrb]
    have hr' : (Go.ChangeMaps.setBlock w1 r (.mapIter (some b) c ((⟨pk.map (·.2.2)⟩ : Array Nat).push (mE .u64 p).born) c)).heap[r]? = some (.mapIter (some b) c ((⟨pk.map (·.2.2)⟩ : Array Nat).push (mE .u64 p).born) c) := by
      simp [Go.ChangeMaps.setBlock, hw1h, hr]
    have hnd : ((pk ++ [p]).map (·.2.2)).Nodup := by
      rw [List.map_append, List.nodup_append]
      refine ⟨h.nd, by simp, fun x hx y hy => ?_⟩
      simp only [List.map_cons, List.map_nil, List.mem_singleton] at hy
      subst hy
      exact fun e => hnew (e ▸ hx)
    have hsub : ∀ q ∈ pk ++ [p], q ∈ M := fun q hq => by
      rcases List.mem_append.1 hq with hq | hq
      · exact h.sub q hq
      · simp only [List.mem_singleton] at hq; subst hq; exact hp
    refine .inr ⟨p, hp, _, hrun, ⟨hb'.trans h.m, by rw [hr', hpush], hsub, hnd⟩, ?_, ?_, ?_, ?_⟩
    · unfold World.rangeLeft
      rw [hb', hr', h.m, h.it]
      exact left_shrinks _ _ _ he
    · rcases hw1 with rfl | rfl
      · exact ⟨rfl, rfl, rfl, by simp [Go.ChangeMaps.setBlock], fun k hk hne => by simp [Go.ChangeMaps.setBlock, show r ≠ k from fun e => hne (by rw [e])]⟩
      · exact ⟨rfl, rfl, rfl, by simp [Go.ChangeMaps.setBlock, hw1h], fun k hk hne => by simp [Go.ChangeMaps.setBlock, hw1h, show r ≠ k from fun e => hne (by rw [e])]⟩
    · have := nodup_sub_len (nodup_of_map (·.2.2) hnd) hsub
      rw [List.length_append] at this
      exact this
    · exact run_entry_at _ r b c _ _ c (mE .u64 p) hr' (hb'.trans h.m) (List.mem_map.2 ⟨p, hp, rfl⟩) (by
        have : ((⟨M.map (mE .u64)⟩ : Array MapEntry).toList.map (·.born)) = M.map (·.2.2) := by simp [List.map_map, Function.comp_def]
        rw [this]; exact hM.borns)
section
variable {F : Fence} {n : Nat} {P : Program} {w : World} {ops : Array Oper} {rest : List Oper} {o : Oper} {a : Act} {Q : Exit → Act → World → Prop}
theorem wpListIn_range_m (hg : o.guard = none) (m : Operand) (t : TypeId) (hop : o.op = Op.range t m) (k e : TypeId) (ht : P.underlying t = some (.map k e)) (b : Nat) (M : List ME) (c : Nat)
    (hm : a.eval m = .map (some b)) (hb : w.heap[b]? = some (mapO .u64 M c))
    (hK : ∀ w', ItAt b w.heap.size M c [] w' → w.grownBy w' none → wpListIn F n P ops Q rest (a.put o.dst (.pointer (some ⟨w.heap.size, 0, none⟩))) w') :
    wpListIn F n P ops Q (o :: rest) a w := by
  refine wpListIn_plain hg fun K' hK' => ?_
  unfold Oper.wpIn
  refine ⟨by simp [Oper.about, hop], ?_⟩
  rw [Oper.semAt_plain F _ _ (by rw [hop]; intro c hc'; cases hc')]
  simp only [execOp, hop, hm, run_range_map w t k e b _ _ ht hb, Sem.run_bind, Result.andThen]
  refine hK' _ _ (hK _ ⟨?_, World.alloc_heap_new w _, fun p h => (by cases h), List.nodup_nil⟩ (World.grownBy_alloc w _ none))
  exact (Go.RowKit.Below.heap_alloc w _ b (Array.getElem?_eq_some_iff.1 hb).1).trans hb
theorem wpListIn_next_m (hg : o.guard = none) (it : Operand) (hop : o.op = Op.next it false) (b r : Nat) (M : List ME) (c : Nat) (pk : List ME) (hM : MOk M c) (hit : a.eval it = .pointer (some ⟨r, 0, none⟩)) (h : ItAt b r M c pk w)
    (hDone : (pk.map (·.1)).Perm (M.map (·.1)) → wpListIn F n P ops Q rest (a.put o.dst (.tuple #[.bool false])) w)
    (hMore : ∀ (x : Int) (v : Value) (bn : Nat) (w' : World), (x, v, bn) ∈ M → ItAt b r M c (pk ++ [(x, v, bn)]) w' → w'.rangeLeft b r < w.rangeLeft b r → w.grownBy w' (some r) → pk.length < M.length →
      (Instr.entry (.pointer (some ⟨r, 0, none⟩))).run P w' = .ok (.tuple #[.int .u64 x, v]) w' → wpListIn F n P ops Q rest (a.put o.dst (.tuple #[.bool true, .int .u64 x, v])) w') :
    wpListIn F n P ops Q (o :: rest) a w := by
  refine wpListIn_plain hg fun K' hK' => ?_
  unfold Oper.wpIn
  refine ⟨by simp [Oper.about, hop], ?_⟩
  rw [Oper.semAt_plain F _ _ (by rw [hop]; intro c hc'; cases hc')]
  rcases h.next (P := P) hM o.type with ⟨hrun, hp⟩ | ⟨⟨x, v, bn⟩, hp, w', hrun, h2, hlt, hgr, hlen, hen⟩
  · simp only [execOp, hop, hit, hrun, Sem.run_bind, Result.andThen]
    exact hK' _ _ (hDone hp)
  · simp only [execOp, hop, hit, hrun, Sem.run_bind, Result.andThen]
    exact hK' _ _ (hMore x v bn w' hp h2 hlt hgr hlen hen)
end

open Go.Shelf
attribute [local go_sem] Oper.semAt_some
set_option maxRecDepth 100000 in
set_option maxHeartbeats 4000000 in
theorem bkeys1 (n l Bm b c : Nat) (M : List ME) (hM : MOk M c) (J Jx : List Int → World → Prop)
    (hY : ∀ pre x W, J pre W → pre.length < M.length → YieldAt Fence.wide (n - 1) Try.prog l (encU x) W fun e W' => (e = .returned (.bool true) ∧ J (pre ++ [x]) W' ∧ KeepsWalks W W') ∨ (e = .returned (.bool false) ∧ Jx (pre ++ [x]) W'))
    (W : World) (hJ : AbidesFrom W.heap.size J) (hm : W.cell? ⟨Bm, 0, none⟩ = some (.map (some b))) (hb : W.heap[b]? = some (mapO .u64 M c)) (h0 : J [] W) :
    CallsIn Fence.wide n Try.prog 71 #[.func (.yield l) #[] #[], .pointer (some ⟨Bm, 0, none⟩)] W fun e W' => (∃ v, e = .returned v) ∧ ((∃ ss, ss.Perm (M.map (·.1)) ∧ J ss W') ∨ (∃ pre, True ∧ Jx pre W')) := by
  refine callsIn_of_wp Try.func71 rfl trivial ?_ rfl
  simp only [Try.ntmps71, List.size_toArray, List.length_cons, List.length_nil, Nat.reduceAdd, Nat.reduceSub, Array.replicate_succ, Array.replicate_zero, List.push_toArray, List.append_toArray, List.nil_append, List.cons_append]
  gi_wp2_with (first
    | (gi_at_range; refine wpListIn_range_m rfl _ 87 rfl _ _ Try.underlying87 b M c rfl hb ?_; intro w0 hI0 hg0)
    | gi_in)
  go_frame
  gi_loopw [3] (fun _ wr => ∃ pk, ItAt b W.heap.size M c pk wr ∧ J (pk.map (·.1)) wr) (fun _ wr => wr.rangeLeft b W.heap.size)
  case atStart =>
    exact ⟨[], hI0, hJ [] W w0 none h0 hg0 (fun r e => by cases e)⟩
  case round =>
    obtain ⟨pk, hI, hJs⟩ := hrel
    gi_wp2_with (first
      | (gi_at_next; refine wpListIn_next_m rfl _ rfl b W.heap.size M c pk hM rfl hI ?_ ?_)
      | gi_in)
    · intro hp
      gi_wp2
      go_end0
      exact ⟨⟨_, rfl⟩, .inl ⟨_, hp, hJs⟩⟩
    · intro x v bn w2 hp hI2 hlt hg2 hlen hen
      have hJ2 := hJ _ _ w2 (some W.heap.size) hJs hg2 (fun r e => by cases e; exact ⟨Nat.le_refl _, hI.iter_walk⟩)
      obtain ⟨fn, tmps, assign, body, hy, hR⟩ := hY _ x w2 hJ2 (by rw [List.length_map]; exact hlen)
      have hsnoc : (pk ++ [(x, v, bn)]).map (·.1) = pk.map (·.1) ++ [x] := by simp
      gi_wp2
      refine ⟨fun h => (by cases h), hR.mono ?_⟩
      rintro e W3 (⟨rfl, hJ3, hk3⟩ | ⟨rfl, hJx3⟩)
      · gi_wp2
        have hI3 := hI2.walks hk3
        go_roundw
        case rel => exact ⟨pk ++ [(x, v, bn)], hI3, by rw [hsnoc]; exact hJ3⟩
        case measure =>
          have e3 : W3.rangeLeft b W.heap.size = w2.rangeLeft b W.heap.size := by unfold World.rangeLeft; rw [hI3.m, hI3.it, hI2.m, hI2.it]
          rw [e3]; exact hlt
      · gi_wp2
        refine bodyPost_ret (results_none rfl _ _ _) rfl ?_
        exact ⟨⟨_, rfl⟩, .inr ⟨_, trivial, hJx3⟩⟩
theorem bkeys_stops (Bm b c : Nat) (M : List ME) (hM : MOk M c) (w : World) (hBm : Bm < w.heap.size) (hm : w.cell? ⟨Bm, 0, none⟩ = some (.map (some b))) (hb : w.heap[b]? = some (mapO .u64 M c)) (n : Nat) :
    SeqStopsK Fence.wide n Try.prog 71 #[.pointer (some ⟨Bm, 0, none⟩)] encU KeepsWalks (fun ss => ss.Perm (M.map (·.1))) (fun _ => True) M.length w := fun l J Jx W hW hJ _ hY h0 =>
  bkeys1 n l Bm b c M hM J Jx hY W hJ ((hW.cell (p := ⟨Bm, 0, none⟩) hBm).trans hm) ((hW.block b (Array.getElem?_eq_some_iff.1 hb).1).trans hb) h0
theorem bkeys_ok {mb : Option Nat} {w0 w : World} {ol : OL} (h : Hp w0 w ol) : Calls Try.prog 42 #[.map mb] w fun e w' => ∃ B, w0.heap.size ≤ B ∧ e = .returned (.func (.func 71) #[] #[.pointer (some ⟨B, 0, none⟩)]) ∧ Hp w0 w' (.blk B (.cells ⟨[.map mb]⟩ 87 (0, 0)) true :: ol) := by
  refine enterW1 Try.func42 rfl rfl h ?_
  repeat (first | refine T_seq ?_ | refine T_region ?_)
  refine S_new tabOk rfl (fun B hB => ?_)
  repeat (first | refine T_seq ?_ | refine T_region ?_ | refine S_nil ?_ | refine S_pure tabOk rfl ?_)
  refine S_q (Q_mkfn rfl rfl) ?_
  repeat (first | refine S_nil ?_ | refine T_ret ?_ | refine S_pure tabOk rfl ?_)
  exact ret1 rfl rfl (fun w' hw => ⟨B, hB, rfl, hw⟩)

open Go.Shelf
attribute [local go_sem] Oper.semAt_some
def upI (f : Int) (k : Nat) : List Int := (List.range k).map fun i : Nat => f + (i : Int)
theorem upI_zero (f : Int) : upI f 0 = [] := rfl
theorem upI_succ (f : Int) (k : Nat) : upI f (k + 1) = upI f k ++ [f + (k : Int)] := by simp [upI, List.range_succ]
theorem upI_len (f : Int) (k : Nat) : (upI f k).length = k := by simp [upI]
def flatR (L : List Run) : List Int := L.flatMap fun r => upI r.1 (r.2 - r.1 + 1).toNat
theorem flatR_take {L : List Run} {i : Nat} (hi : i < L.length) : flatR (L.take (i + 1)) = flatR (L.take i) ++ upI L[i].1 (L[i].2 - L[i].1 + 1).toNat := by
  unfold flatR
  rw [List.take_succ_eq_append_getElem hi, List.flatMap_append]
  simp only [List.flatMap_cons, List.flatMap_nil, List.append_nil]
theorem flatR_pre {L : List Run} {i k : Nat} (hi : i < L.length) (hk : (k : Int) ≤ L[i].2 - L[i].1 + 1) : flatR (L.take i) ++ upI L[i].1 k <+: flatR L := by
  have h1 : flatR (L.take (i + 1)) <+: flatR L := by
    refine ⟨flatR (L.drop (i + 1)), ?_⟩
    unfold flatR
    rw [← List.flatMap_append, List.take_append_drop]
  refine List.IsPrefix.trans ?_ h1
  rw [flatR_take hi, List.prefix_append_right_inj]
  have e : ∃ m, (L[i].2 - L[i].1 + 1).toNat = k + m := ⟨(L[i].2 - L[i].1 + 1).toNat - k, by omega⟩
  obtain ⟨m, e⟩ := e
  rw [e]
  refine ⟨(List.range' k m).map (fun j : Nat => L[i].1 + (j : Int)), ?_⟩
  unfold upI
  rw [← List.map_append, List.range_eq_range', List.range_eq_range']
  have := List.range'_append_1 (s := 0) (m := k) (n := m)
  rw [Nat.zero_add] at this
  rw [this]
/-- What a round that goes on keeps: the set's blocks, and whatever holds one run. -/
structure KR (G : Nat → Prop) (W W' : World) : Prop where
  size : W.heap.size ≤ W'.heap.size
  set : ∀ k, G k → W'.heap[k]? = W.heap[k]?
  run : ∀ (k : Nat) (cur : Array Value) (f : Nat × Nat), W.heap[k]? = some (.cells cur 47 f) → W'.heap[k]? = W.heap[k]?
theorem KR.trans {G : Nat → Prop} {A B C : World} (h : KR G A B) (k : KR G B C) : KR G A C :=
  ⟨Nat.le_trans h.size k.size, fun i hi => (k.set i hi).trans (h.set i hi), fun i cur f hc => (k.run i cur f ((h.run i cur f hc).trans hc)).trans (h.run i cur f hc)⟩
set_option maxRecDepth 100000 in
set_option maxHeartbeats 4000000 in
theorem all1 (n l Bm len c : Nat) (a : Option Addr) (L : List Run) (G : Nat → Prop) (J Jx : List Int → World → Prop)
    (hY : ∀ pre x W, J pre W → pre.length < (flatR L).length → YieldAt Fence.wide (n - 1) Try.prog l (encU x) W fun e W' => (e = .returned (.bool true) ∧ J (pre ++ [x]) W' ∧ KR G W W') ∨ (e = .returned (.bool false) ∧ Jx (pre ++ [x]) W'))
    (W : World) (hJ : AbidesFrom W.heap.size J) (hG : ∀ k, G k → k < W.heap.size) (hm : W.cell? ⟨Bm, 0, none⟩ = some (.slice a len c)) (hx : SlR Rrun W G a len c L) (hn : len ≤ 1000000) (hle : ∀ r ∈ L, r.1 ≤ r.2) (hok : okL L) (h0 : J [] W) :
    CallsIn Fence.wide n Try.prog 76 #[.func (.yield l) #[] #[], .pointer (some ⟨Bm, 0, none⟩)] W fun e W' => (∃ v, e = .returned v) ∧ ((∃ ss, ss = flatR L ∧ J ss W') ∨ (∃ pre, pre <+: flatR L ∧ Jx pre W')) := by
  have hlen := hx.len
  refine callsIn_of_wp Try.func76 rfl trivial ?_ rfl
  simp only [Try.ntmps76, List.size_toArray, List.length_cons, List.length_nil, Nat.reduceAdd, Nat.reduceSub, Array.replicate_succ, Array.replicate_zero, List.push_toArray, List.append_toArray, List.nil_append, List.cons_append]
  gi_wp2
  gi_loopw [9] (fun p wr => ∃ i : Nat, p = .int .i64 (i : Int) ∧ i ≤ len ∧ J (flatR (L.take i)) wr ∧ (∀ k, G k → wr.heap[k]? = W.heap[k]?) ∧ W.heap.size ≤ wr.heap.size) (fun p _ => len - (intOf p).toNat)
  case atStart => exact ⟨0, rfl, Nat.zero_le _, h0, fun _ _ => rfl, Nat.le_refl _⟩
  case round =>
    obtain ⟨i, rfl, hi, hJs, hk, hsz⟩ := hrel
    by_cases hlt : i < len
    · have hiL : i < L.length := by omega
      obtain ⟨b, off, rfl, hGb⟩ := hx.blk (by omega)
      have hxr : SlR Rrun wr G (some ⟨b, off, none⟩) len c L := hx.keep fun k hkG _ => ⟨hk k hkG, hkG⟩
      have hf := run_from hxr hiL
      have ht := run_to hxr hiL
      gi_wp2
      have hokr := hok L[i] (List.getElem_mem hiL)
      have hlr := hle L[i] (List.getElem_mem hiL)
      obtain ⟨b4, hb4⟩ : ∃ b4, b4 = wr.heap.size := ⟨_, rfl⟩
      obtain ⟨w1, hw1⟩ : ∃ w1, wr.alloc (Obj.cells #[.int .u64 L[i].1, .int .u64 L[i].2] 47) = w1 := ⟨_, rfl⟩
      have hJ1 : J (flatR (L.take i) ++ upI L[i].1 0) w1 := by
        rw [upI_zero, List.append_nil, ← hw1]
        exact hJ _ _ _ none hJs (World.grownBy_alloc wr _ none) (fun r e => by cases e)
      have hk1 : ∀ k, G k → w1.heap[k]? = W.heap[k]? := fun k hkG => by
        rw [← hw1, Go.RowKit.Below.heap_alloc _ _ _ (by have := hG k hkG; omega)]
        exact hk k hkG
      have hs1 : W.heap.size ≤ w1.heap.size := by rw [← hw1]; simp; omega
      have hb1 : w1.heap[b4]? = some (.cells #[.int .u64 L[i].1, .int .u64 L[i].2] 47 (0, 0)) := by rw [← hw1, hb4]; exact World.alloc_heap_new wr _
      rw [hw1, ← hb4]
      clear hf ht hb4 hw1
      gi_loopw [5] (fun p wi => ∃ k : Nat, p = .int .u64 (L[i].1 + (k : Int)) ∧ L[i].1 + (k : Int) ≤ L[i].2 ∧ J (flatR (L.take i) ++ upI L[i].1 k) wi ∧ (∀ k, G k → wi.heap[k]? = W.heap[k]?) ∧ W.heap.size ≤ wi.heap.size ∧ wi.heap[b4]? = some (.cells #[.int .u64 L[i].1, .int .u64 L[i].2] 47 (0, 0))) (fun p _ => (L[i].2 - intOf p).toNat)
      case atStart => exact ⟨0, by simp, by simpa using hlr, hJ1, hk1, hs1, hb1⟩
      case round =>
        obtain ⟨k, rfl, hle1, hJ2, hk2, hs2, hb2⟩ := hrel
        have hpl : (flatR (L.take i) ++ upI L[i].1 k).length < (flatR L).length := by
          have h1 := (flatR_pre (L := L) (i := i) (k := k + 1) hiL (by omega)).length_le
          rw [upI_succ, ← List.append_assoc, List.length_append] at h1
          exact h1
        obtain ⟨fn, tmps, assign, body, hy, hR⟩ := hY _ (L[i].1 + (k : Int)) wr hJ2 hpl
        gi_wp2
        refine ⟨fun h => (by cases h), hR.mono ?_⟩
        rintro e W3 (⟨rfl, hJ3, hk3⟩ | ⟨rfl, hJx3⟩)
        · have hb3 : W3.heap[b4]? = some (.cells #[.int .u64 L[i].1, .int .u64 L[i].2] 47 (0, 0)) := (hk3.run _ _ _ hb2).trans hb2
          have hc3 : W3.cell? ⟨b4, 1, none⟩ = some (.int .u64 L[i].2) := by simp [World.cell?, hb3]
          have hsn : flatR (L.take i) ++ upI L[i].1 k ++ [L[i].1 + (k : Int)] = flatR (L.take i) ++ upI L[i].1 (k + 1) := by rw [upI_succ, List.append_assoc]
          rw [hsn] at hJ3
          by_cases heq : L[i].1 + (k : Int) = L[i].2
          · gi_wp2
            refine ⟨⟨i + 1, by simp, by omega, ?_, fun k' hk' => (hk3.set k' hk').trans (hk2 k' hk'), Nat.le_trans hs2 hk3.size⟩, by simp [intOf]; omega⟩
            rw [flatR_take hiL, show (L[i].2 - L[i].1 + 1).toNat = k + 1 by omega]
            exact hJ3
          · gi_wp2
            have hw2 : IntKind.u64.wrap (L[i].1 + (k : Int) + 1) = L[i].1 + ((k + 1 : Nat) : Int) := by
              have h1 := hokr.1.1
              have h2 := hokr.2.2
              have e1 : IntKind.u64.min = 0 := rfl
              have e2 : IntKind.u64.max = 18446744073709551615 := rfl
              rw [IntWalk.u64_in _ (by omega)]
              omega
            rw [hw2]
            refine ⟨⟨k + 1, rfl, by omega, hJ3, fun k' hk' => (hk3.set k' hk').trans (hk2 k' hk'), Nat.le_trans hs2 hk3.size, hb3⟩, by simp [intOf]; omega⟩
        · gi_wp2
          refine bodyPost_ret (results_none rfl _ _ _) rfl ?_
          exact ⟨⟨_, rfl⟩, .inr ⟨_, by
            have h1 := flatR_pre (L := L) (i := i) (k := k + 1) hiL (by omega)
            rw [upI_succ, ← List.append_assoc] at h1
            exact h1, hJx3⟩⟩
    · obtain rfl : i = len := by omega
      gi_wp2
      go_end0
      exact ⟨⟨_, rfl⟩, .inl ⟨_, rfl, by rwa [List.take_of_length_le (by omega)] at hJs⟩⟩
theorem kr_ok {G : Nat → Prop} {n₀ : Nat} (hG : ∀ k, G k → k < n₀) : KpOk (KR G) n₀ :=
  ⟨fun h k => h.trans k,
   fun W l o o' hl h hc _ => ⟨by simp, fun k hk => World.putObj_heap_other (by have := hG k hk; omega), fun k cur f hk => World.putObj_heap_other (fun e => by subst e; rw [h] at hk; cases hk; cases hc)⟩,
   fun W W' hs h hb => ⟨hs, fun k hk => hb.block k (hG k hk), fun k cur f hk => (h k _ hk ⟨fun c g e => (by cases e), fun c g e => (by cases e)⟩).trans hk.symm⟩⟩
theorem all_stops {W : World} {Bm len c : Nat} {a : Option Addr} {L : List Run} {G : Nat → Prop} (hG : ∀ k, G k → k < W.heap.size) (hGB : G Bm) (hm : W.cell? ⟨Bm, 0, none⟩ = some (.slice a len c)) (hx : SlR Rrun W G a len c L) (hn : len ≤ 1000000) (hle : ∀ r ∈ L, r.1 ≤ r.2) (hok : okL L) (n : Nat) :
    SeqStopsK Fence.wide n Try.prog 76 #[.pointer (some ⟨Bm, 0, none⟩)] encU (KR G) (fun ss => ss = flatR L) (fun pre => pre <+: flatR L) (flatR L).length W := fun l J Jx W1 hW hJ _ hY h0 =>
  all1 n l Bm len c a L G J Jx hY W1 hJ (fun k hk => Nat.lt_of_lt_of_le (hG k hk) hW.size) ((hW.cell (p := ⟨Bm, 0, none⟩) (hG Bm hGB)).trans hm) (hx.keep fun k hk _ => ⟨hW.block k (hG k hk), hk⟩) hn hle hok h0
theorem all_itr {W : World} {Bm len c : Nat} {a : Option Addr} {L : List Run} {G : Nat → Prop} (hG : ∀ k, G k → k < W.heap.size) (hGB : G Bm) (hm : W.cell? ⟨Bm, 0, none⟩ = some (.slice a len c)) (hx : SlR Rrun W G a len c L) (hn : len ≤ 1000000) (hle : ∀ r ∈ L, r.1 ≤ r.2) (hok : okL L) (hN : (flatR L).length ≤ 1000000) :
    Itr 76 #[.pointer (some ⟨Bm, 0, none⟩)] (KR G) (fun ss => ss = flatR L) (fun pre => pre <+: flatR L) (flatR L).length W :=
  ⟨Try.call76, hN, kr_ok hG, all_stops hG hGB hm hx hn hle hok⟩
/-- (Set).All: the set is boxed, the function value captures the box. -/
theorem all_ok {w0 w : World} {ol : OL} (a : Option Addr) (n c : Nat) (h : Hp w0 w ol) : Calls Try.prog 50 #[setV a n c] w fun e w' => ∃ B, w0.heap.size ≤ B ∧ e = .returned (.func (.func 76) #[] #[.pointer (some ⟨B, 0, none⟩)]) ∧ Hp w0 w' (.blk B (.cells ⟨[.slice a n c]⟩ 44 (0, 0)) true :: ol) := by
  refine enterW1 Try.func50 rfl rfl h ?_
  repeat (first | refine T_seq ?_ | refine T_region ?_)
  refine S_new tabOk rfl (fun B hB => ?_)
  repeat (first | refine T_seq ?_ | refine T_region ?_ | refine S_nil ?_ | refine S_pure tabOk rfl ?_)
  refine S_q (Q_mkfn rfl rfl) ?_
  repeat (first | refine S_nil ?_ | refine T_ret ?_ | refine S_pure tabOk rfl ?_)
  exact ret1 rfl rfl (fun w' hw => ⟨B, hB, rfl, hw⟩)

open Go.Sort
section
variable {P : Program} {tb : Tab} {n : Nat} {w0 : World} {all : Array Oper} {os : List Oper} {o : Oper} {l : FL} {ol : OL} {K : FL → OL → Prop} {Q : Post} {d : Nat}
/-- clear of m elements -/
theorem S_clearN (ht : TabOk P tb) (j : Nat) {t e E : TypeId} {x : Operand} {g off c m : Nat} {cs cs' zs : List Value} {ti te : TI} {ol' : OL}
    (hdst : o.dst = none) (hg : gd all (look l) o.guard = some true) (hop : o.op = .call ⟨.builtin .clear, #[x], #[t]⟩) (hx : ev (look l) x = some (.slice (some ⟨g, off, none⟩) m c))
    (hi : getE ol j = some (.blk g (.cells ⟨cs⟩ E (0, 0)) true)) (hti : tl tb t = some ti) (hd : ti.desc = .slice e) (hte : tl tb e = some te) (hzs : (Builtin.zeroCells te.zero.cells m).toList = zs) (h1 : ∀ u ∈ zs, u.oneCell' = true)
    (hm : setMany cs off zs = some cs') (hpos : 0 < m) (hput : putE ol j (.blk g (.cells ⟨cs'⟩ E (0, 0)) true) = some ol') (kk : S P n w0 all os l ol' K Q) : S P n w0 all (o :: os) l ol K Q := by
  obtain ⟨m, rfl⟩ : ∃ m', m = m' + 1 := ⟨m - 1, by omega⟩
  refine ⟨fun ac w hf hh => ?_⟩
  obtain ⟨inf, hinf, hz, hs1, hs2⟩ := (ht e te hte).2
  have hu := ht.under' hti
  rw [hd] at hu
  have hb : w.heap[g]? = some (.cells ⟨cs⟩ E (0, 0)) := hh.own _ (getE_mem hi)
  obtain ⟨hle, hcs⟩ := setMany_eq hm
  have h3 := run_storeCells_at P g off E zs 0 ⟨cs⟩ w hb (by simpa using hle) h1
  simp only [Nat.add_zero] at h3
  have hc2 : (cs.take off ++ (zs ++ cs.drop (off + zs.length))).toArray = (⟨cs'⟩ : Array Value) := by rw [hcs, List.append_assoc]
  obtain ⟨pre, post, e1, e2⟩ := putE_eq hi hput
  have hzv : (zeroValue e).run P w = .ok te.zero w := by simp [zeroValue, typeInfo, hinf, hz]
  refine wpList_run (v := .tuple #[]) (gd_wanted hf.rd hg) ?_ ?_ (w' := w.setRow g ⟨cs'⟩)
  · unfold execOp
    simp [hop, resolve, invoke, builtin, hf.rd.ev hx, Builtin.clear_, run_underlying hu, hzv, hzs, h3, hc2]
  · rw [hdst]
    refine kk.out _ _ hf ?_
    rw [e1] at hh
    rw [e2]
    exact hh.setRow rfl
end
theorem zeroU (m : Nat) : (Builtin.zeroCells (Value.int .u64 0).cells m).toList = List.replicate m (.int .u64 0) := by
  have e : (Value.int .u64 0).cells = #[.int .u64 0] := rfl
  rw [e]
  unfold Builtin.zeroCells
  apply List.ext_getElem
  · simp
  · intro i h1 h2
    simp [Nat.mod_one]
theorem setMany_some : ∀ {cs : List Value} {off : Nat} {vs : List Value}, off + vs.length ≤ cs.length → setMany cs off vs = some (cs.take off ++ vs ++ cs.drop (off + vs.length))
  | cs, 0, [], h => by cases cs <;> simp [setMany]
  | c :: cs, 0, v :: vs, h => by
    have h2 : 0 + vs.length ≤ cs.length := by simp at h ⊢; omega
    simp only [setMany, setMany_some h2]
    simp
  | c :: cs, k + 1, vs, h => by
    have h2 : k + vs.length ≤ cs.length := by simp at h ⊢; omega
    simp only [setMany, setMany_some h2]
    simp [show k + 1 + vs.length = k + vs.length + 1 by omega]
  | [], 0, v :: vs, h => by simp at h
  | [], k + 1, vs, h => by simp at h
/-- Of the first k + 1 those that differ from the one ahead. -/
def ddA (d : Array Int) : Nat → List Int
  | 0 => [d[0]!]
  | k + 1 => ddA d k ++ if d[k + 1]! = d[k]! then [] else [d[k + 1]!]
theorem ddA_take {d : Array Int} : ∀ {k : Nat}, k < d.size → (∀ j, 1 ≤ j → j ≤ k → d[j]! ≠ d[j - 1]!) → ddA d k = d.toList.take (k + 1)
  | 0, hk, _ => by
    rw [List.take_succ_eq_append_getElem (by simpa using hk)]
    simp [ddA, Array.getElem!_eq_getD, Array.getD_eq_getD_getElem?, Array.getElem?_eq_getElem hk]
  | k + 1, hk, h => by
    rw [ddA, ddA_take (k := k) (by omega) (fun j h1 h2 => h j h1 (by omega)), if_neg (show d[k + 1]! ≠ d[k]! from h (k + 1) (by omega) (Nat.le_refl _)), List.take_succ_eq_append_getElem (i := k + 1) (by simpa using hk)]
    simp [Array.getElem!_eq_getD, Array.getD_eq_getD_getElem?, Array.getElem?_eq_getElem hk]
theorem ddA_len {d : Array Int} : ∀ {k : Nat}, (ddA d k).length ≤ k + 1
  | 0 => by simp [ddA]
  | k + 1 => by
    have := ddA_len (d := d) (k := k)
    unfold ddA
    split <;> simp <;> omega
theorem take_setBang {d : Array Int} {k : Nat} {x : Int} {l : List Int} (h : d.toList.take k = l) (hk : k < d.size) : (d.setIfInBounds k x).toList.take (k + 1) = l ++ [x] := by
  rw [Array.toList_setIfInBounds, List.take_succ_eq_append_getElem (by simpa using hk), List.take_set_of_le (Nat.le_refl _), h, List.getElem_set_self]
theorem set_get {d : Array Int} {k j : Nat} {x : Int} (h : j ≠ k) : (d.setIfInBounds k x)[j]! = d[j]! := by
  rw [Array.getElem!_eq_getD, Array.getElem!_eq_getD, Array.getD_eq_getD_getElem?, Array.getD_eq_getD_getElem?, Array.getElem?_setIfInBounds_ne (Ne.symm h)]
theorem uA_set {d : Array Int} {junk : List Value} {k : Nat} {x : Int} (h : k < d.size) : (uA d junk).set k (.int .u64 x) = uA (d.setIfInBounds k x) junk := by
  rw [List.set_append_left _ _ (by simpa using h), ← List.map_set, uA, Array.toList_setIfInBounds]
structure CpI where
  k : Nat
  j : Nat
  d : Array Int

open Go.Sort
theorem lt_ext {l m : List Int} (hl : l.Pairwise (· < ·)) (hm : m.Pairwise (· < ·)) (h : ∀ x, x ∈ l ↔ x ∈ m) : l = m := by
  have n1 : l.Nodup := hl.imp (fun h => by omega)
  have n2 : m.Nodup := hm.imp (fun h => by omega)
  exact List.Perm.eq_of_pairwise (le := fun a b : Int => a < b) (fun a b _ _ h1 h2 => by omega) hl hm ((List.perm_ext_iff_of_nodup n1 n2).2 h)
theorem upI_mem {f x : Int} {k : Nat} : x ∈ upI f k ↔ f ≤ x ∧ x < f + k := by
  unfold upI
  rw [List.mem_map]
  constructor
  · rintro ⟨i, hi, rfl⟩
    rw [List.mem_range] at hi
    omega
  · rintro ⟨h1, h2⟩
    exact ⟨(x - f).toNat, List.mem_range.2 (by omega), by omega⟩
theorem upI_pw (f : Int) : ∀ k, (upI f k).Pairwise (· < ·)
  | 0 => List.Pairwise.nil
  | k + 1 => by
    rw [upI_succ, List.pairwise_append]
    refine ⟨upI_pw f k, List.pairwise_singleton _ _, fun a ha b hb => ?_⟩
    rw [List.mem_singleton] at hb
    have := (upI_mem.1 ha).2
    omega
theorem flatR_cons (r : Run) (L : List Run) : flatR (r :: L) = upI r.1 (r.2 - r.1 + 1).toNat ++ flatR L := rfl
theorem flatR_mem {x : Int} : ∀ {L : List Run}, x ∈ flatR L ↔ Mem L x
  | [] => ⟨fun h => (by cases h), fun h => absurd h (mem_nil x)⟩
  | r :: L => by
    rw [flatR_cons, List.mem_append, upI_mem, flatR_mem (L := L)]
    constructor
    · rintro (⟨h1, h2⟩ | ⟨s, hs, h⟩)
      · exact ⟨r, List.mem_cons_self, h1, by omega⟩
      · exact ⟨s, List.mem_cons_of_mem _ hs, h⟩
    · rintro ⟨s, hs, h1, h2⟩
      rcases List.mem_cons.1 hs with rfl | hs
      · exact .inl ⟨h1, by omega⟩
      · exact .inr ⟨s, hs, h1, h2⟩
theorem flatR_pw : ∀ {L : List Run}, Can L → (flatR L).Pairwise (· < ·)
  | [], _ => List.Pairwise.nil
  | r :: L, h => by
    rw [flatR_cons, List.pairwise_append]
    have hg := List.pairwise_cons.1 h.gap
    refine ⟨upI_pw _ _, flatR_pw ⟨fun s hs => h.le s (List.mem_cons_of_mem _ hs), hg.2⟩, fun a ha b hb => ?_⟩
    have h1 := upI_mem.1 ha
    obtain ⟨s, hs, h2, h3⟩ := flatR_mem.1 hb
    have := hg.1 s hs
    have := h.le r List.mem_cons_self
    omega
theorem flatR_tot : ∀ {L : List Run}, (∀ r ∈ L, r.1 ≤ r.2) → tot L = ((flatR L).length : Int)
  | [], _ => rfl
  | r :: L, h => by
    have h1 := h r List.mem_cons_self
    rw [flatR_cons, List.length_append, upI_len, tot, flatR_tot fun s hs => h s (List.mem_cons_of_mem _ hs)]
    omega
theorem ddA_spec {d : Array Int} : ∀ {k : Nat}, (∀ i j, i < j → j ≤ k → d[i]! ≤ d[j]!) → (ddA d k).Pairwise (· < ·) ∧ (∀ x, x ∈ ddA d k ↔ ∃ j, j ≤ k ∧ d[j]! = x) ∧ ∀ x ∈ ddA d k, x ≤ d[k]!
  | 0, _ => ⟨List.pairwise_singleton _ _, fun x => by
      rw [ddA, List.mem_singleton]
      exact ⟨fun h => ⟨0, Nat.le_refl _, h.symm⟩, fun ⟨j, h1, h2⟩ => by rw [← h2, show j = 0 by omega]⟩, fun x hx => by rw [ddA, List.mem_singleton] at hx; omega⟩
  | k + 1, h => by
    obtain ⟨p1, p2, p3⟩ := ddA_spec (d := d) (k := k) fun i j h1 h2 => h i j h1 (by omega)
    have h0 := h k (k + 1) (by omega) (Nat.le_refl _)
    unfold ddA
    split
    · rename_i he
      rw [List.append_nil]
      refine ⟨p1, fun x => (p2 x).trans ⟨fun ⟨j, h1, h2⟩ => ⟨j, by omega, h2⟩, fun ⟨j, h1, h2⟩ => ?_⟩, fun x hx => by rw [he]; exact p3 x hx⟩
      rcases Nat.lt_or_ge k j with h3 | h3
      · exact ⟨k, Nat.le_refl _, by rw [← h2, show j = k + 1 by omega, he]⟩
      · exact ⟨j, h3, h2⟩
    · rename_i he
      refine ⟨List.pairwise_append.2 ⟨p1, List.pairwise_singleton _ _, fun a ha b hb => ?_⟩, fun x => ?_, fun x hx => ?_⟩
      · rw [List.mem_singleton] at hb
        have := p3 a ha
        omega
      · rw [List.mem_append, p2, List.mem_singleton]
        constructor
        · rintro (⟨j, h1, h2⟩ | rfl)
          · exact ⟨j, by omega, h2⟩
          · exact ⟨k + 1, Nat.le_refl _, rfl⟩
        · rintro ⟨j, h1, rfl⟩
          rcases Nat.lt_or_ge k j with h3 | h3
          · exact .inr (by rw [show j = k + 1 by omega])
          · exact .inl ⟨j, h3, rfl⟩
      · rcases List.mem_append.1 hx with hx | hx
        · have := p3 x hx
          omega
        · rw [List.mem_singleton] at hx
          omega
/-- A list without those that are like the one ahead. -/
def ddL (l : List Int) : List Int := if l = [] then [] else ddA l.toArray (l.length - 1)
theorem bang_list {l : List Int} {i : Nat} (h : i < l.length) : l.toArray[i]! = l[i] := by
  rw [Array.getElem!_eq_getD, Array.getD_eq_getD_getElem?, List.getElem?_toArray, List.getElem?_eq_getElem h]; rfl
theorem ddL_spec {l : List Int} (h : l.Pairwise (· ≤ ·)) : (ddL l).Pairwise (· < ·) ∧ ∀ x, x ∈ ddL l ↔ x ∈ l := by
  unfold ddL
  split
  · rename_i h0
    subst h0
    exact ⟨List.Pairwise.nil, fun x => Iff.rfl⟩
  · rename_i h0
    have hp : 0 < l.length := Nat.pos_of_ne_zero fun e => h0 (List.eq_nil_of_length_eq_zero e)
    obtain ⟨p1, p2, _⟩ := ddA_spec (d := l.toArray) (k := l.length - 1) fun i j h1 h2 => by
      rw [bang_list (by omega), bang_list (by omega)]
      exact List.pairwise_iff_getElem.1 h i j (by omega) (by omega) h1
    refine ⟨p1, fun x => (p2 x).trans ⟨fun ⟨j, h1, h2⟩ => ?_, fun hx => ?_⟩⟩
    · rw [bang_list (by omega)] at h2
      rw [← h2]
      exact List.getElem_mem _
    · obtain ⟨j, hj, e⟩ := List.getElem_of_mem hx
      exact ⟨j, by omega, by rw [bang_list hj]; exact e⟩
set_option maxHeartbeats 2000000 in
theorem sortR_ok {w0 w : World} {base c n : Nat} {a : Option Addr} {l : List Int} {rest : OL} (h : Hp w0 w (.row base (.slice a n c) 34 1 n (l.map (.int .u64)) :: rest)) (hl : l.length = n) (hm : n ≤ 65535) :
    Calls Try.prog 70 #[.slice a n c] w fun e w' => ∃ ts : List Int, e = .returned (.tuple #[]) ∧ ts.Perm l ∧ ts.Pairwise (· ≤ ·) ∧ Hp w0 w' (.row base (.slice a n c) 34 1 n (ts.map (.int .u64)) :: rest) := by
  rcases Nat.eq_zero_or_pos n with h0 | h0
  · subst h0
    exact (sort0_ok a c w).mono fun e w' ⟨e1, hb⟩ => ⟨l, e1, List.Perm.refl _, by rw [List.eq_nil_of_length_eq_zero hl]; exact List.Pairwise.nil, h.ext hb⟩
  obtain ⟨g, junk, rfl, hb, hnc, hxl, hjl, hcm, h2⟩ := h.openRow (pre := []) h0
  refine (sort_ok (d0 := l.toArray) (junk := junk) (n := n) (c := c) h2 (by simpa using hl) hm).mono fun e w' ⟨d, e1, hp, hs, hd, h3⟩ => ?_
  have hp' := perm_list (d := l.toArray) (d' := d) (by simpa [hl] using hp)
  have hs' := sorted_list (d := d) (by rw [hd]; exact hs)
  refine ⟨d.toList, e1, by simpa using hp', hs', ?_⟩
  have h4 := Hp.closeRow (pre := []) (post := rest) (n := n) (c := c) (sz := 1) h3 hb hnc hcm (by rw [uA_len]; simp at hjl; omega)
  have e4 : List.take (n * 1) (uA d junk) = d.toList.map (Value.int .u64) := by rw [Nat.mul_one, List.take_append_of_le_length (by simp [hd]), List.take_of_length_le (by simp [hd])]
  rw [e4] at h4
  exact h4

/-- The rest of a function behind a statement that leaves a mark among the deferred calls. -/
structure TM (P : Program) (n : Nat) (w0 : World) (c : Code) (l : FL) (o : OL) (Q : Exit → Act → World → Prop) : Prop where
  out : ∀ a w, Fr a n l → Hp w0 w o → c.wpIn Fence.wide 4 P Q a w
section
variable {P : Program} {n : Nat} {w0 : World} {l : FL} {ol : OL} {Q : Exit → Act → World → Prop}
theorem TM_seq {x y : Code} (h : T P n w0 x l ol (pthen (fun l o => TM P n w0 y l o Q) fun _ _ _ => False)) : TM P n w0 (.seq x y) l ol Q :=
  ⟨fun a w hf hh => wpIn_seq (wpIn_wide.2 (wp_mono (h.out a w hf hh) (fun e a1 w1 hq => by
    unfold lift at hq
    obtain ⟨l1, o1, h1, h2, h3⟩ := hq
    unfold pthen at h3
    cases e with
    | normal => exact TM.out (show TM P n w0 y l1 o1 Q from h3) a1 w1 h1 h2
    | exit _ => exact absurd h3 id
    | goto _ => exact absurd h3 id
    | ret => exact absurd h3 id
    | panic _ => exact absurd h3 id
    | outgrown => exact absurd h3 id)))⟩
theorem TM_seq2 {x y z : Code} (h : T P n w0 x l ol (pthen (fun l o => TM P n w0 y l o (Exit.then (z.wpIn Fence.wide 4 P Q) Q)) fun _ _ _ => False)) : TM P n w0 (.seq (.seq x y) z) l ol Q :=
  ⟨fun a w hf hh => wpIn_seq ((TM_seq h).out a w hf hh)⟩
theorem TM_sub {c : Code} {l' : FL} (hs : Sub l' l) (h : TM P n w0 c l' ol Q) : TM P n w0 c l ol Q := ⟨fun a w hf hh => h.out a w (hf.sub hs) hh⟩
/-- The frame, written out. -/
theorem Fr.fn {a : Act} (h : Fr a n l) : ∃ f : Nat → Value, a = { tmps := ((List.range n).map f).toArray, defers := [] } ∧ ∀ t v, look l t = some v → f t = v := by
  obtain ⟨tm, df⟩ := a
  obtain ⟨vs⟩ := tm
  obtain rfl := h.defers
  have hl : vs.length = n := h.size
  refine ⟨fun i => vs[i]?.getD undef, ?_, fun t v hv => ?_⟩
  · congr 2
    refine List.ext_getElem (by simp [hl]) fun i h1 h2 => ?_
    simp [List.getElem?_eq_getElem h1]
  · have := h.get t v hv
    have h3 : vs[t]? = some v := by simpa using this
    simp [h3]
theorem enterM2 {f : FuncId} {fn : Func} {c : Code} {w : World} {v0 v1 : Value} {R : Ending → World → Prop} (hf : P.funcs[f]? = some fn) (hb : fn.body = some c) (hn : Nat.ble 2 fn.ntmps = true)
    (h : TM P fn.ntmps w c [(0, v0), (1, v1)] [] (bodyPostM Fence.wide 4 P fn R)) : Calls P f #[v0, v1] w R :=
  callsIn_wide.1 (callsIn_of_wp_marks (n := 4) hf hb trivial (h.out _ w (fr0 (args := [v0, v1]) (Nat.le_of_ble_eq_true hn)) (Hp.refl w)) rfl)
end
theorem flat_ints (k : IntKind) : ∀ ss : List Int, (ss.map fun x => [Value.int k x]).flatten = ss.map (Value.int k)
  | [] => rfl
  | x :: ss => by rw [List.map_cons, List.flatten_cons, flat_ints k ss]; rfl
theorem cell_lt {w : World} {a : Addr} {v : Value} (h : w.cell? a = some v) : a.block < w.heap.size := by
  rcases Nat.lt_or_ge a.block w.heap.size with h1 | h1
  · exact h1
  · simp [World.cell?, Array.getElem?_eq_none h1] at h
/-- An iterator over a set's numbers. -/
def allP (X : List Int) : Vp :=
  ⟨fun w A v => ∃ B a n c m, v = .func (.func 76) #[] #[.pointer (some ⟨B, 0, none⟩)] ∧ A B ∧ w.cell? ⟨B, 0, none⟩ = some (.slice a n c) ∧ SlR Rrun w A a n c m ∧ Can m ∧ m.length ≤ 1000000 ∧ flatR m = X,
   fun ⟨B, a, n, c, m, h1, h2, h3, h4, h5, h6, h7⟩ hk => ⟨B, a, n, c, m, h1, (hk B h2 (cell_lt h3)).2, (World.cell?_of_block (hk B h2 (cell_lt h3)).1).trans h3, h4.keep hk, h5, h6, h7⟩⟩
section
variable {S : Int → Prop} {Bd : Nat} {w : World} {A : Nat → Prop} {v : Value} {X : List Int}
theorem all_p (h : (setP S Bd).at_ w A v) (hBd : Bd ≤ 1000000) (hX : X.Pairwise (· < ·)) (hm : ∀ x, x ∈ X ↔ S x) :
    Calls Try.prog 50 #[v] w fun e w' => ∃ r, e = .returned r ∧ Below w.heap.size w w' ∧ (allP X).at_ w' (fun k => (A k ∧ k < w.heap.size) ∨ w.heap.size ≤ k) r := by
  obtain ⟨a, n, c, m, rfl, h1, h2, h3, h4⟩ := setP_form h
  refine (all_ok a n c (Hp.refl w)).mono fun e w' ⟨B, hB, e1, hw⟩ => ⟨_, e1, hw.below (new_cons hB new_nil), B, a, n, c, m, rfl, .inr hB, by simpa using blkc hw (j := 0) (u := .slice a n c) rfl, ?_, h1, by omega, ?_⟩
  · exact h4.keep fun k hk hlt => ⟨(hw.below (new_cons hB new_nil)).block k hlt, .inl ⟨hk, hlt⟩⟩
  · exact lt_ext (flatR_pw h1) hX fun x => by rw [flatR_mem, h2, hm]
theorem allP_itr (h : (allP X).at_ w A v) (hX : X.length ≤ 1000000) : ∃ B, v = .func (.func 76) #[] #[.pointer (some ⟨B, 0, none⟩)] ∧
    Itr 76 #[.pointer (some ⟨B, 0, none⟩)] (KR fun k => A k ∧ k < w.heap.size) (fun ss => ss = X) (fun pre => pre <+: X) X.length w ∧ ∀ x ∈ X, Fits .u64 x := by
  obtain ⟨B, a, n, c, m, e1, h1, h2, h3, h4, h5, rfl⟩ := h
  have hlen := h3.len
  have hok := slr_okL h3
  refine ⟨B, e1, all_itr (fun k hk => hk.2) ⟨h1, cell_lt h2⟩ h2 (h3.keep fun k hk hlt => ⟨rfl, hk, hlt⟩) (by omega) h4.le hok hX, fun x hx => ?_⟩
  obtain ⟨r, hr, h6, h7⟩ := flatR_mem.1 hx
  have h8 := hok r hr
  exact ⟨Int.le_trans h8.1.1 h6, Int.le_trans h7 h8.2.2⟩
theorem collectA_p (h : (allP X).at_ w A v) (hX : X.length ≤ 1000000) :
    Calls Try.prog 49 #[v] w fun e w' => ∃ r, e = .returned r ∧ Below w.heap.size w w' ∧ ((Rslice (Rint .u64)).vp X).at_ w' (fun k => w.heap.size ≤ k) r := by
  obtain ⟨B, rfl, hi, hok⟩ := allP_itr h hX
  refine (collect_ok hi).mono fun e w' ⟨v, ss, e1, e2, e3, h2⟩ => ?_
  subst e2
  have hr := h2.own _ List.mem_cons_self
  obtain ⟨a, c, rfl, _, _⟩ := form_of_own hr
  refine ⟨_, e1, h2.below (newrow h2 0 rfl (Nat.le_refl _) new_nil), SlR.val (.of_row (flat_int .u64) (by rw [flat_ints]; exact hr) rfl hok fun k hk _ => hk)⟩
theorem count_x (h : (setP S Bd).at_ w A v) (hBd : Bd ≤ 1000000) (hX : X.Pairwise (· < ·)) (hm : ∀ x, x ∈ X ↔ S x) (hXl : X.length ≤ 1000000) :
    Calls Try.prog 28 #[v] w fun e w' => e = .returned (.int .u64 (X.length : Int)) ∧ Below w.heap.size w w' := by
  obtain ⟨a, n, c, m, rfl, h1, h2, h3, h4⟩ := setP_form h
  have hlen := h4.len
  refine (count_ok a n c m A w h4 h1 (by omega)).mono fun e w' ⟨e1, e2⟩ => ⟨?_, e2⟩
  have e3 : flatR m = X := lt_ext (flatR_pw h1) hX fun x => by rw [flatR_mem, h2, hm]
  have e4 := flatR_tot h1.le
  rw [e3] at e4
  rw [e1, e4, show min ((X.length : Nat) : Int) lastN = (X.length : Int) from by unfold lastN; omega]
end

end Go.Proofs.Ytidhpofcofknhaa
