/-
  A map of u64 keys that is gone through, whatever the order. Conditions: each theorem's own. maps.Keys at one map type, against any loop. Conditions: each theorem's own. (Made by genItC.py.) Plain laws of share's plan (of XShM, without small). Conditions: each theorem's own. queue.numbers as a heap's object. Conditions: each theorem's own. (Made by genQuA.py.) queue.numbers' Push and Pop; heap.Push and Pop of a queue's numbers. Conditions: each theorem's own. A queue's inner order: plain. What a queue's blocks hold. Conditions: each theorem's own. A queue's Len, Bytes, Class, Numbers. Conditions: each theorem's own. A queue's Bytes, Class. Conditions: each theorem's own. A queue's Takes, own, Get. Conditions: each theorem's own. A queue's Class, Takes, Get. Conditions: each theorem's own. A queue's Get. Conditions: each theorem's own. A queue's numbers, popped and pushed within the queue.
  Conditions: each theorem's own.
-/
import Derived.Sort.MapsRangeIn
import Derived.Test.YteogkadjambmkaaRo
namespace Go.Proofs.Yteogkadjambmkaa
open Go Go.RowKit
set_option linter.unusedVariables false


open Go.Shelf
attribute [local go_sem] Oper.semAt_some
/-- No key twice, no stamp twice, each stamp behind the clock. -/
structure MOk (M : List ME) (c : Nat) : Prop where
  keys : (M.map (·.1)).Nodup
  borns : (M.map (·.2.2)).Nodup
  lt : ∀ p ∈ M, p.2.2 < c
theorem MOk.nil : MOk [] 0 := ⟨List.nodup_nil, List.nodup_nil, fun p h => by cases h⟩
/-- A walk over a map is under way: pk has come. -/
structure ItAt (b r : Nat) (M : List ME) (c : Nat) (pk : List ME) (w : World) : Prop where
  m : w.heap[b]? = some (mapO .u64 M c)
  it : w.heap[r]? = some (.mapIter (some b) c ⟨pk.map (·.2.2)⟩ c)
  sub : ∀ p ∈ pk, p ∈ M
  nd : (pk.map (·.2.2)).Nodup
theorem ItAt.iter_walk {b r c : Nat} {M pk : List ME} {w : World} (h : ItAt b r M c pk w) : ∃ o : Obj, w.heap[r]? = some o ∧ o.isWalk = true := ⟨_, h.it, rfl⟩
theorem ItAt.walks {b r c : Nat} {M pk : List ME} {w w' : World} (h : ItAt b r M c pk w) (hk : KeepsWalks w w') : ItAt b r M c pk w' := ⟨hk.same _ _ h.m rfl, hk.same _ _ h.it rfl, h.sub, h.nd⟩
theorem nodup_eq {α β : Type} (f : α → β) {l : List α} (h : (l.map f).Nodup) {x y : α} (hx : x ∈ l) (hy : y ∈ l) (e : f x = f y) : x = y := by
  induction l with
  | nil => cases hx
  | cons a l ih =>
    rw [List.map_cons, List.nodup_cons] at h
    rcases List.mem_cons.1 hx with rfl | hx
    · rcases List.mem_cons.1 hy with rfl | hy
      · rfl
      · exact absurd (List.mem_map.2 ⟨y, hy, e.symm⟩) h.1
    · rcases List.mem_cons.1 hy with e1 | hy
      · exact absurd (List.mem_map.2 ⟨x, hx, by rw [e, e1]⟩) h.1
      · exact ih h.2 hx hy
theorem nodup_of_map {α β : Type} (f : α → β) {l : List α} (h : (l.map f).Nodup) : l.Nodup := by
  induction l with
  | nil => exact List.nodup_nil
  | cons a l ih =>
    rw [List.map_cons, List.nodup_cons] at h
    exact List.nodup_cons.2 ⟨fun hm => h.1 (List.mem_map.2 ⟨a, hm, rfl⟩), ih h.2⟩
theorem nodup_sub_len {α : Type} : ∀ {l m : List α}, l.Nodup → (∀ x ∈ l, x ∈ m) → l.length ≤ m.length
  | [], _, _, _ => Nat.zero_le _
  | a :: l, m, hl, hs => by
    obtain ⟨h1, h2⟩ := List.nodup_cons.1 hl
    obtain ⟨s, t, rfl⟩ := List.append_of_mem (hs a (List.mem_cons_self ..))
    have := nodup_sub_len (l := l) (m := s ++ t) h2 (fun x hx => by
      have := hs x (List.mem_cons_of_mem _ hx)
      rcases List.mem_append.1 this with h | h
      · exact List.mem_append.2 (.inl h)
      · rcases List.mem_cons.1 h with h | h
        · subst h; exact absurd hx h1
        · exact List.mem_append.2 (.inr h))
    simp only [List.length_append, List.length_cons] at this ⊢
    omega
theorem nodup_sub_perm {α : Type} {l m : List α} (hl : l.Nodup) (hm : m.Nodup) (hs : ∀ x ∈ l, x ∈ m) (ht : ∀ x ∈ m, x ∈ l) : l.Perm m :=
  (List.perm_ext_iff_of_nodup hl hm).2 fun x => ⟨hs x, ht x⟩
theorem mem_mE {κ : IntKind} {M : List ME} {e : MapEntry} (h : e ∈ (⟨M.map (mE κ)⟩ : Array MapEntry).toList) : ∃ p ∈ M, e = mE κ p := by
  obtain ⟨p, hp, rfl⟩ := List.mem_map.1 (show e ∈ M.map (mE κ) from h)
  exact ⟨p, hp, rfl⟩
theorem ItAt.next {P : Program} {b r c : Nat} {M pk : List ME} {w : World} (hM : MOk M c) (h : ItAt b r M c pk w) (ty : TypeId) :
    ((Instr.next (.pointer (some ⟨r, 0, none⟩)) false ty).run P w = .ok (.tuple #[.bool false]) w ∧ (pk.map (·.1)).Perm (M.map (·.1))) ∨
    ∃ p ∈ M, ∃ w', (Instr.next (.pointer (some ⟨r, 0, none⟩)) false ty).run P w = .ok (.tuple #[.bool true, .int .u64 p.1, p.2.1]) w' ∧ ItAt b r M c (pk ++ [p]) w' ∧ w'.rangeLeft b r < w.rangeLeft b r ∧ w.grownBy w' (some r) ∧ pk.length < M.length ∧
      (Instr.entry (.pointer (some ⟨r, 0, none⟩))).run P w' = .ok (.tuple #[.int .u64 p.1, p.2.1]) w' := by
  rcases run_next_at (P := P) w ty r b c c ⟨pk.map (·.2.2)⟩ ⟨M.map (mE .u64)⟩ c h.it h.m (fun x hx => by obtain ⟨p, hp, rfl⟩ := mem_mE hx; exact hM.lt p hp) (Nat.le_refl _) with ⟨h0, hrun⟩ | ⟨e, he, w1, hw1, hrun⟩
  · refine .inl ⟨hrun, List.Perm.map _ (nodup_sub_perm (nodup_of_map (·.2.2) h.nd) (nodup_of_map (·.2.2) hM.borns) h.sub fun p hp => ?_)⟩
    have hs := all_seen _ _ h0 (mE .u64 p) (List.mem_map.2 ⟨p, hp, rfl⟩)
    rw [Array.contains_iff_mem] at hs
    obtain ⟨q, hq, e⟩ := List.mem_map.1 (show p.2.2 ∈ pk.map (·.2.2) by simpa using hs)
    rw [nodup_eq (·.2.2) hM.borns hp (h.sub q hq) e.symm]
    exact hq
  · obtain ⟨he1, he2⟩ := mem_left he
    obtain ⟨p, hp, rfl⟩ := mem_mE he1
    have hnew : p.2.2 ∉ pk.map (·.2.2) := fun hm => by
      have : (⟨pk.map (·.2.2)⟩ : Array Nat).contains p.2.2 = true := by rw [Array.contains_iff_mem]; simpa using hm
      rw [show (mE .u64 p).born = p.2.2 from rfl] at he2
      rw [this] at he2; cases he2
    have hrb : r ≠ b := fun e => by have h1 := h.it; rw [e, h.m] at h1; cases h1
    have hr : r < w.heap.size := (Array.getElem?_eq_some_iff.1 h.it).1
    have hw1h : w1.heap = w.heap := by rcases hw1 with rfl | rfl <;> rfl
    have hpush : (⟨pk.map (·.2.2)⟩ : Array Nat).push (mE .u64 p).born = ⟨(pk ++ [p]).map (·.2.2)⟩ := by
      simp [Array.push]
    have hb' : (Go.ChangeMaps.setBlock w1 r (.mapIter (some b) c ((⟨pk.map (·.2.2)⟩ : Array Nat).push (mE .u64 p).born) c)).heap[b]? = w.heap[b]? := by
      simp [Go.ChangeMaps.setBlock, hw1h, hrb]
    have hr' : (Go.ChangeMaps.setBlock w1 r (.mapIter (some b) c ((⟨pk.map (·.2.2)⟩ : Array Nat).push (mE .u64 p).born) c)).heap[r]? = some (.mapIter (some b) c ((⟨pk.map (·.2.2)⟩ : Array Nat).push (mE .u64 p).born) c) := by
      simp [Go.ChangeMaps.setBlock, hw1h, hr]
    have hnd : ((pk ++ [p]).map (·.2.2)).Nodup := by
      rw [List.map_append, List.nodup_append]
      refine ⟨h.nd, by simp, fun x hx y hy => ?_⟩
      simp only [List.map_cons, List.map_nil, List.mem_singleton] at hy
      subst hy
      exact fun e => hnew (e ▸ hx)
    have hsub : ∀ q ∈ pk ++ [p], q ∈ M := fun q hq => by
      rcases List.mem_append.1 hq with hq | hq
      · exact h.sub q hq
      · simp only [List.mem_singleton] at hq; subst hq; exact hp
    refine .inr ⟨p, hp, _, hrun, ⟨hb'.trans h.m, by rw [hr', hpush], hsub, hnd⟩, ?_, ?_, ?_, ?_⟩
    · unfold World.rangeLeft
      rw [hb', hr', h.m, h.it]
      exact left_shrinks _ _ _ he
    · rcases hw1 with rfl | rfl
      · exact ⟨rfl, rfl, rfl, by simp [Go.ChangeMaps.setBlock], fun k hk hne => by simp [Go.ChangeMaps.setBlock, show r ≠ k from fun e => hne (by rw [e])]⟩
      · exact ⟨rfl, rfl, rfl, by simp [Go.ChangeMaps.setBlock, hw1h], fun k hk hne => by simp [Go.ChangeMaps.setBlock, hw1h, show r ≠ k from fun e => hne (by rw [e])]⟩
    · have := nodup_sub_len (nodup_of_map (·.2.2) hnd) hsub
      rw [List.length_append] at this
      exact this
    · exact run_entry_at _ r b c _ _ c (mE .u64 p) hr' (hb'.trans h.m) (List.mem_map.2 ⟨p, hp, rfl⟩) (by
        have : ((⟨M.map (mE .u64)⟩ : Array MapEntry).toList.map (·.born)) = M.map (·.2.2) := by simp [List.map_map, Function.comp_def]
        rw [this]; exact hM.borns)
section
variable {F : Fence} {n : Nat} {P : Program} {w : World} {ops : Array Oper} {rest : List Oper} {o : Oper} {a : Act} {Q : Exit → Act → World → Prop}
theorem wpListIn_range_m (hg : o.guard = none) (m : Operand) (t : TypeId) (hop : o.op = Op.range t m) (k e : TypeId) (ht : P.underlying t = some (.map k e)) (b : Nat) (M : List ME) (c : Nat)
    (hm : a.eval m = .map (some b)) (hb : w.heap[b]? = some (mapO .u64 M c))
    (hK : ∀ w', ItAt b w.heap.size M c [] w' → w.grownBy w' none → wpListIn F n P ops Q rest (a.put o.dst (.pointer (some ⟨w.heap.size, 0, none⟩))) w') :
    wpListIn F n P ops Q (o :: rest) a w := by
  refine wpListIn_plain hg fun K' hK' => ?_
  unfold Oper.wpIn
  refine ⟨by simp [Oper.about, hop], ?_⟩
  rw [Oper.semAt_plain F _ _ (by rw [hop]; intro c hc'; cases hc')]
  simp only [execOp, hop, hm, run_range_map w t k e b _ _ ht hb, Sem.run_bind, Result.andThen]
  refine hK' _ _ (hK _ ⟨?_, World.alloc_heap_new w _, fun p h => (by cases h), List.nodup_nil⟩ (World.grownBy_alloc w _ none))
  exact (Go.RowKit.Below.heap_alloc w _ b (Array.getElem?_eq_some_iff.1 hb).1).trans hb
theorem wpListIn_next_m (hg : o.guard = none) (it : Operand) (hop : o.op = Op.next it false) (b r : Nat) (M : List ME) (c : Nat) (pk : List ME) (hM : MOk M c) (hit : a.eval it = .pointer (some ⟨r, 0, none⟩)) (h : ItAt b r M c pk w)
    (hDone : (pk.map (·.1)).Perm (M.map (·.1)) → wpListIn F n P ops Q rest (a.put o.dst (.tuple #[.bool false])) w)
    (hMore : ∀ (x : Int) (v : Value) (bn : Nat) (w' : World), (x, v, bn) ∈ M → ItAt b r M c (pk ++ [(x, v, bn)]) w' → w'.rangeLeft b r < w.rangeLeft b r → w.grownBy w' (some r) → pk.length < M.length →
      (Instr.entry (.pointer (some ⟨r, 0, none⟩))).run P w' = .ok (.tuple #[.int .u64 x, v]) w' → wpListIn F n P ops Q rest (a.put o.dst (.tuple #[.bool true, .int .u64 x, v])) w') :
    wpListIn F n P ops Q (o :: rest) a w := by
  refine wpListIn_plain hg fun K' hK' => ?_
  unfold Oper.wpIn
  refine ⟨by simp [Oper.about, hop], ?_⟩
  rw [Oper.semAt_plain F _ _ (by rw [hop]; intro c hc'; cases hc')]
  rcases h.next (P := P) hM o.type with ⟨hrun, hp⟩ | ⟨⟨x, v, bn⟩, hp, w', hrun, h2, hlt, hgr, hlen, hen⟩
  · simp only [execOp, hop, hit, hrun, Sem.run_bind, Result.andThen]
    exact hK' _ _ (hDone hp)
  · simp only [execOp, hop, hit, hrun, Sem.run_bind, Result.andThen]
    exact hK' _ _ (hMore x v bn w' hp h2 hlt hgr hlen hen)
end

open Go.Shelf
attribute [local go_sem] Oper.semAt_some
set_option maxRecDepth 100000 in
set_option maxHeartbeats 4000000 in
theorem qkeys1 (n l Bm b c : Nat) (M : List ME) (hM : MOk M c) (J Jx : List Int → World → Prop)
    (hY : ∀ pre x W, J pre W → pre.length < M.length → YieldAt Fence.wide (n - 1) Try.prog l (encU x) W fun e W' => (e = .returned (.bool true) ∧ J (pre ++ [x]) W' ∧ KeepsWalks W W') ∨ (e = .returned (.bool false) ∧ Jx (pre ++ [x]) W'))
    (W : World) (hJ : AbidesFrom W.heap.size J) (hm : W.cell? ⟨Bm, 0, none⟩ = some (.map (some b))) (hb : W.heap[b]? = some (mapO .u64 M c)) (h0 : J [] W) :
    CallsIn Fence.wide n Try.prog 70 #[.func (.yield l) #[] #[], .pointer (some ⟨Bm, 0, none⟩)] W fun e W' => (∃ v, e = .returned v) ∧ ((∃ ss, ss.Perm (M.map (·.1)) ∧ J ss W') ∨ (∃ pre, True ∧ Jx pre W')) := by
  refine callsIn_of_wp Try.func70 rfl trivial ?_ rfl
  simp only [Try.ntmps70, List.size_toArray, List.length_cons, List.length_nil, Nat.reduceAdd, Nat.reduceSub, Array.replicate_succ, Array.replicate_zero, List.push_toArray, List.append_toArray, List.nil_append, List.cons_append]
  gi_wp2_with (first
    | (gi_at_range; refine wpListIn_range_m rfl _ 102 rfl _ _ Try.underlying102 b M c rfl hb ?_; intro w0 hI0 hg0)
    | gi_in)
  go_frame
  gi_loopw [3] (fun _ wr => ∃ pk, ItAt b W.heap.size M c pk wr ∧ J (pk.map (·.1)) wr) (fun _ wr => wr.rangeLeft b W.heap.size)
  case atStart =>
    exact ⟨[], hI0, hJ [] W w0 none h0 hg0 (fun r e => by cases e)⟩
  case round =>
    obtain ⟨pk, hI, hJs⟩ := hrel
    gi_wp2_with (first
      | (gi_at_next; refine wpListIn_next_m rfl _ rfl b W.heap.size M c pk hM rfl hI ?_ ?_)
      | gi_in)
    · intro hp
      gi_wp2
      go_end0
      exact ⟨⟨_, rfl⟩, .inl ⟨_, hp, hJs⟩⟩
    · intro x v bn w2 hp hI2 hlt hg2 hlen hen
      have hJ2 := hJ _ _ w2 (some W.heap.size) hJs hg2 (fun r e => by cases e; exact ⟨Nat.le_refl _, hI.iter_walk⟩)
      obtain ⟨fn, tmps, assign, body, hy, hR⟩ := hY _ x w2 hJ2 (by rw [List.length_map]; exact hlen)
      have hsnoc : (pk ++ [(x, v, bn)]).map (·.1) = pk.map (·.1) ++ [x] := by simp
      gi_wp2
      refine ⟨fun h => (by cases h), hR.mono ?_⟩
      rintro e W3 (⟨rfl, hJ3, hk3⟩ | ⟨rfl, hJx3⟩)
      · gi_wp2
        have hI3 := hI2.walks hk3
        go_roundw
        case rel => exact ⟨pk ++ [(x, v, bn)], hI3, by rw [hsnoc]; exact hJ3⟩
        case measure =>
          have e3 : W3.rangeLeft b W.heap.size = w2.rangeLeft b W.heap.size := by unfold World.rangeLeft; rw [hI3.m, hI3.it, hI2.m, hI2.it]
          rw [e3]; exact hlt
      · gi_wp2
        refine bodyPost_ret (results_none rfl _ _ _) rfl ?_
        exact ⟨⟨_, rfl⟩, .inr ⟨_, trivial, hJx3⟩⟩
theorem qkeys_stops (Bm b c : Nat) (M : List ME) (hM : MOk M c) (w : World) (hBm : Bm < w.heap.size) (hm : w.cell? ⟨Bm, 0, none⟩ = some (.map (some b))) (hb : w.heap[b]? = some (mapO .u64 M c)) (n : Nat) :
    SeqStopsK Fence.wide n Try.prog 70 #[.pointer (some ⟨Bm, 0, none⟩)] encU KeepsWalks (fun ss => ss.Perm (M.map (·.1))) (fun _ => True) M.length w := fun l J Jx W hW hJ _ hY h0 =>
  qkeys1 n l Bm b c M hM J Jx hY W hJ ((hW.cell (p := ⟨Bm, 0, none⟩) hBm).trans hm) ((hW.block b (Array.getElem?_eq_some_iff.1 hb).1).trans hb) h0
theorem qkeys_ok {mb : Option Nat} {w0 w : World} {ol : OL} (h : Hp w0 w ol) : Calls Try.prog 55 #[.map mb] w fun e w' => ∃ B, w0.heap.size ≤ B ∧ e = .returned (.func (.func 70) #[] #[.pointer (some ⟨B, 0, none⟩)]) ∧ Hp w0 w' (.blk B (.cells ⟨[.map mb]⟩ 102 (0, 0)) true :: ol) := by
  refine enterW1 Try.func55 rfl rfl h ?_
  repeat (first | refine T_draw (by kernel_rfl) (by kernel_rfl) ?_ | refine D_all rfl ?_ | refine D_i64 tabOk rfl (by omega) ?_ | refine D_pure tabOk rfl ?_ | refine D_pass rfl rfl rfl ?_ | refine D_load tabOk 0 rfl rfl rfl ?_ | refine D_load tabOk 1 rfl rfl rfl ?_ | refine D_load tabOk 2 rfl rfl rfl ?_ | refine T_seq ?_ | refine T_region ?_ | refine T_block ?_ | refine S_nil ?_ | refine pthen_normal ?_ | refine inb_normal ?_ | refine inb_ret ?_ | refine pthen_ret ?_ | refine inb_hit ?_ | refine pthen_exit ?_ | refine T_skip ?_ | refine T_ret ?_ | refine T_exit ?_ | refine T_cond_t rfl ?_ | refine T_cond_f rfl ?_ | refine S_i64 tabOk rfl (by omega) ?_ | refine S_pure tabOk rfl ?_ | refine S_pass rfl rfl rfl ?_ | refine S_pass0 rfl rfl ?_ | refine T_region_any ?_ | refine S_load tabOk 0 rfl rfl rfl ?_ | refine S_load tabOk 1 rfl rfl rfl ?_ | refine S_load tabOk 2 rfl rfl rfl ?_ | refine S_load tabOk 3 rfl rfl rfl ?_ | refine S_store tabOk 0 rfl rfl rfl rfl rfl rfl ?_ | refine S_store tabOk 1 rfl rfl rfl rfl rfl rfl ?_ | refine S_store tabOk 2 rfl rfl rfl rfl rfl rfl ?_ | refine S_store tabOk 3 rfl rfl rfl rfl rfl rfl ?_ | refine S_q (Q_build tabOk rfl rfl rfl rfl rfl rfl rfl) ?_)
  refine S_new tabOk rfl (fun B hB => ?_)
  repeat (first | refine T_draw (by kernel_rfl) (by kernel_rfl) ?_ | refine D_all rfl ?_ | refine D_i64 tabOk rfl (by omega) ?_ | refine D_pure tabOk rfl ?_ | refine D_pass rfl rfl rfl ?_ | refine D_load tabOk 0 rfl rfl rfl ?_ | refine D_load tabOk 1 rfl rfl rfl ?_ | refine D_load tabOk 2 rfl rfl rfl ?_ | refine T_seq ?_ | refine T_region ?_ | refine T_block ?_ | refine S_nil ?_ | refine pthen_normal ?_ | refine inb_normal ?_ | refine inb_ret ?_ | refine pthen_ret ?_ | refine inb_hit ?_ | refine pthen_exit ?_ | refine T_skip ?_ | refine T_ret ?_ | refine T_exit ?_ | refine T_cond_t rfl ?_ | refine T_cond_f rfl ?_ | refine S_i64 tabOk rfl (by omega) ?_ | refine S_pure tabOk rfl ?_ | refine S_pass rfl rfl rfl ?_ | refine S_pass0 rfl rfl ?_ | refine T_region_any ?_ | refine S_load tabOk 0 rfl rfl rfl ?_ | refine S_load tabOk 1 rfl rfl rfl ?_ | refine S_load tabOk 2 rfl rfl rfl ?_ | refine S_load tabOk 3 rfl rfl rfl ?_ | refine S_store tabOk 0 rfl rfl rfl rfl rfl rfl ?_ | refine S_store tabOk 1 rfl rfl rfl rfl rfl rfl ?_ | refine S_store tabOk 2 rfl rfl rfl rfl rfl rfl ?_ | refine S_store tabOk 3 rfl rfl rfl rfl rfl rfl ?_ | refine S_q (Q_build tabOk rfl rfl rfl rfl rfl rfl rfl) ?_)
  refine S_q (Q_mkfn rfl rfl) ?_
  repeat (first | refine T_draw (by kernel_rfl) (by kernel_rfl) ?_ | refine D_all rfl ?_ | refine D_i64 tabOk rfl (by omega) ?_ | refine D_pure tabOk rfl ?_ | refine D_pass rfl rfl rfl ?_ | refine D_load tabOk 0 rfl rfl rfl ?_ | refine D_load tabOk 1 rfl rfl rfl ?_ | refine D_load tabOk 2 rfl rfl rfl ?_ | refine T_seq ?_ | refine T_region ?_ | refine T_block ?_ | refine S_nil ?_ | refine pthen_normal ?_ | refine inb_normal ?_ | refine inb_ret ?_ | refine pthen_ret ?_ | refine inb_hit ?_ | refine pthen_exit ?_ | refine T_skip ?_ | refine T_ret ?_ | refine T_exit ?_ | refine T_cond_t rfl ?_ | refine T_cond_f rfl ?_ | refine S_i64 tabOk rfl (by omega) ?_ | refine S_pure tabOk rfl ?_ | refine S_pass rfl rfl rfl ?_ | refine S_pass0 rfl rfl ?_ | refine T_region_any ?_ | refine S_load tabOk 0 rfl rfl rfl ?_ | refine S_load tabOk 1 rfl rfl rfl ?_ | refine S_load tabOk 2 rfl rfl rfl ?_ | refine S_load tabOk 3 rfl rfl rfl ?_ | refine S_store tabOk 0 rfl rfl rfl rfl rfl rfl ?_ | refine S_store tabOk 1 rfl rfl rfl rfl rfl rfl ?_ | refine S_store tabOk 2 rfl rfl rfl rfl rfl rfl ?_ | refine S_store tabOk 3 rfl rfl rfl rfl rfl rfl ?_ | refine S_q (Q_build tabOk rfl rfl rfl rfl rfl rfl rfl) ?_)
  exact ret1 rfl rfl (fun w' hw => ⟨B, hB, rfl, hw⟩)

section
variable {cap : Int} {ws : List Int} {left : List (List Int)} {went : List Nat} {total : Int}
theorem PlanR.len_le {out : List (Nat × Nat)} (hp : PlanR cap ws left went total out) : out.length ≤ left.flatten.length := by
  induction hp with
  | stop h => exact Nat.zero_le _
  | step h hb hx hk ih =>
    have := (flat_set hx).1
    rw [List.length_cons]
    omega
end
theorem vcells_get {out : List (Nat × Nat)} {i : Nat} {v : Nat × Nat} (hv : out[i]? = some v) {j : Nat} {u : Value} (hu : [Value.int .i64 (v.1 : Int), .int .i64 (v.2 : Int)][j]? = some u) : (vcells out)[i * 2 + j]? = some u :=
  flat_get (css := out.map fun p => [Value.int .i64 (p.1 : Int), Value.int .i64 (p.2 : Int)]) (fun c hc => by
    obtain ⟨p, _, rfl⟩ := List.mem_map.1 hc
    rfl) (by rw [List.getElem?_map, hv]; rfl) hu

open Go.Sort
def nuR (x y : Int) : Bool := decide (x < y)
theorem nuR_sw : SW nuR := by
  constructor
  · intro a b h
    simp only [nuR, decide_eq_true_eq, decide_eq_false_iff_not] at h ⊢
    omega
  · intro a b c h1 h2
    simp only [nuR, decide_eq_false_iff_not] at h1 h2 ⊢
    omega
theorem qlen_ok (a : Option Addr) (n c : Nat) (w : World) : Calls Try.prog 117 #[.slice a n c] w fun e w' => e = .returned (.int .i64 (n : Int)) ∧ Below w.heap.size w w' := by
  refine enter1 Try.func117 rfl rfl (Hp.refl w) ?_
  repeat (first | refine T_draw (by kernel_rfl) (by kernel_rfl) ?_ | refine D_all rfl ?_ | refine D_i64 tabOk rfl (by omega) ?_ | refine D_u64 tabOk rfl (by omega) ?_ | refine D_pure tabOk rfl ?_ | refine D_pass rfl rfl rfl ?_ | refine D_load tabOk 0 rfl rfl rfl ?_ | refine D_load tabOk 1 rfl rfl rfl ?_ | refine D_load tabOk 2 rfl rfl rfl ?_ | refine D_load tabOk 3 rfl rfl rfl ?_ | refine D_load tabOk 4 rfl rfl rfl ?_ | refine T_seq ?_ | refine T_region ?_ | refine T_block ?_ | refine S_nil ?_ | refine pthen_normal ?_ | refine inb_normal ?_ | refine inb_ret ?_ | refine pthen_ret ?_ | refine inb_hit ?_ | refine pthen_exit ?_ | refine T_skip ?_ | refine T_ret ?_ | refine T_exit ?_  | refine S_i64 tabOk rfl (by omega) ?_ | refine S_u64 tabOk rfl (by omega) ?_ | refine S_pure tabOk rfl ?_ | refine S_pass rfl rfl rfl ?_ | refine S_pass0 rfl rfl ?_ | refine T_region_any ?_  | refine S_load tabOk 0 rfl rfl rfl ?_ | refine S_load tabOk 1 rfl rfl rfl ?_ | refine S_load tabOk 2 rfl rfl rfl ?_ | refine S_load tabOk 3 rfl rfl rfl ?_ | refine S_load tabOk 4 rfl rfl rfl ?_ | refine S_load tabOk 5 rfl rfl rfl ?_ | refine S_store tabOk 0 rfl rfl rfl rfl rfl rfl ?_ | refine S_store tabOk 1 rfl rfl rfl rfl rfl rfl ?_ | refine S_store tabOk 2 rfl rfl rfl rfl rfl rfl ?_ | refine S_store tabOk 3 rfl rfl rfl rfl rfl rfl ?_ | refine S_store tabOk 4 rfl rfl rfl rfl rfl rfl ?_ | refine S_store tabOk 5 rfl rfl rfl rfl rfl rfl ?_ | refine S_q (Q_build tabOk rfl rfl rfl rfl rfl rfl rfl) ?_ | refine D_q (Q_build tabOk rfl rfl rfl rfl rfl rfl rfl) ?_)
  exact ret1 rfl rfl (fun w' hw => ⟨rfl, hw.below new_nil⟩)
set_option maxHeartbeats 1000000 in
theorem qless_ok (a : Option Addr) (c : Nat) (s : List Int) (i j : Nat) (w : World) (hx : Sl w 1 a s.length (s.map (.int .u64))) (hi : i < s.length) (hj : j < s.length) :
    Calls Try.prog 118 #[.slice a s.length c, .int .i64 (i : Int), .int .i64 (j : Int)] w fun e w' => e = .returned (.bool (ltL nuR s i j)) ∧ Below w.heap.size w w' := by
  have e1 : (s.map (Value.int .u64))[i]? = some (.int .u64 s[i]) := by rw [List.getElem?_map, List.getElem?_eq_getElem hi]; rfl
  have e2 : (s.map (Value.int .u64))[j]? = some (.int .u64 s[j]) := by rw [List.getElem?_map, List.getElem?_eq_getElem hj]; rfl
  have hlt : ltL nuR s i j = decide (s[i] < s[j]) := by unfold ltL; rw [List.getElem?_eq_getElem hi, List.getElem?_eq_getElem hj]; rfl
  obtain ⟨b, off, rfl, hlt1, _⟩ := hx.get (by omega)
  refine enter3 Try.func118 rfl rfl (Hp.refl w) ?_
  repeat (first | refine T_draw (by kernel_rfl) (by kernel_rfl) ?_ | refine D_all rfl ?_ | refine D_i64 tabOk rfl (by omega) ?_ | refine D_u64 tabOk rfl (by omega) ?_ | refine D_pure tabOk rfl ?_ | refine D_pass rfl rfl rfl ?_ | refine D_load tabOk 0 rfl rfl rfl ?_ | refine D_load tabOk 1 rfl rfl rfl ?_ | refine D_load tabOk 2 rfl rfl rfl ?_ | refine D_load tabOk 3 rfl rfl rfl ?_ | refine D_load tabOk 4 rfl rfl rfl ?_ | refine T_seq ?_ | refine T_region ?_ | refine T_block ?_ | refine S_nil ?_ | refine pthen_normal ?_ | refine inb_normal ?_ | refine inb_ret ?_ | refine pthen_ret ?_ | refine inb_hit ?_ | refine pthen_exit ?_ | refine T_skip ?_ | refine T_ret ?_ | refine T_exit ?_  | refine S_i64 tabOk rfl (by omega) ?_ | refine S_u64 tabOk rfl (by omega) ?_ | refine S_pure tabOk rfl ?_ | refine S_pass rfl rfl rfl ?_ | refine S_pass0 rfl rfl ?_ | refine T_region_any ?_  | refine S_load tabOk 0 rfl rfl rfl ?_ | refine S_load tabOk 1 rfl rfl rfl ?_ | refine S_load tabOk 2 rfl rfl rfl ?_ | refine S_load tabOk 3 rfl rfl rfl ?_ | refine S_load tabOk 4 rfl rfl rfl ?_ | refine S_load tabOk 5 rfl rfl rfl ?_ | refine S_store tabOk 0 rfl rfl rfl rfl rfl rfl ?_ | refine S_store tabOk 1 rfl rfl rfl rfl rfl rfl ?_ | refine S_store tabOk 2 rfl rfl rfl rfl rfl rfl ?_ | refine S_store tabOk 3 rfl rfl rfl rfl rfl rfl ?_ | refine S_store tabOk 4 rfl rfl rfl rfl rfl rfl ?_ | refine S_store tabOk 5 rfl rfl rfl rfl rfl rfl ?_ | refine S_q (Q_build tabOk rfl rfl rfl rfl rfl rfl rfl) ?_ | refine D_q (Q_build tabOk rfl rfl rfl rfl rfl rfl rfl) ?_)
  refine D_q (Q_idx1 tabOk rfl rfl rfl rfl rfl rfl rfl (j := i) rfl (by omega)) ?_
  refine D_load1 tabOk (v := .int .u64 s[i]) rfl rfl (fun w' hw => (hx.ext (hw.below new_nil)).at_ (by omega) e1) ?_
  repeat (first | refine T_draw (by kernel_rfl) (by kernel_rfl) ?_ | refine D_all rfl ?_ | refine D_i64 tabOk rfl (by omega) ?_ | refine D_u64 tabOk rfl (by omega) ?_ | refine D_pure tabOk rfl ?_ | refine D_pass rfl rfl rfl ?_ | refine D_load tabOk 0 rfl rfl rfl ?_ | refine D_load tabOk 1 rfl rfl rfl ?_ | refine D_load tabOk 2 rfl rfl rfl ?_ | refine D_load tabOk 3 rfl rfl rfl ?_ | refine D_load tabOk 4 rfl rfl rfl ?_ | refine T_seq ?_ | refine T_region ?_ | refine T_block ?_ | refine S_nil ?_ | refine pthen_normal ?_ | refine inb_normal ?_ | refine inb_ret ?_ | refine pthen_ret ?_ | refine inb_hit ?_ | refine pthen_exit ?_ | refine T_skip ?_ | refine T_ret ?_ | refine T_exit ?_  | refine S_i64 tabOk rfl (by omega) ?_ | refine S_u64 tabOk rfl (by omega) ?_ | refine S_pure tabOk rfl ?_ | refine S_pass rfl rfl rfl ?_ | refine S_pass0 rfl rfl ?_ | refine T_region_any ?_  | refine S_load tabOk 0 rfl rfl rfl ?_ | refine S_load tabOk 1 rfl rfl rfl ?_ | refine S_load tabOk 2 rfl rfl rfl ?_ | refine S_load tabOk 3 rfl rfl rfl ?_ | refine S_load tabOk 4 rfl rfl rfl ?_ | refine S_load tabOk 5 rfl rfl rfl ?_ | refine S_store tabOk 0 rfl rfl rfl rfl rfl rfl ?_ | refine S_store tabOk 1 rfl rfl rfl rfl rfl rfl ?_ | refine S_store tabOk 2 rfl rfl rfl rfl rfl rfl ?_ | refine S_store tabOk 3 rfl rfl rfl rfl rfl rfl ?_ | refine S_store tabOk 4 rfl rfl rfl rfl rfl rfl ?_ | refine S_store tabOk 5 rfl rfl rfl rfl rfl rfl ?_ | refine S_q (Q_build tabOk rfl rfl rfl rfl rfl rfl rfl) ?_ | refine D_q (Q_build tabOk rfl rfl rfl rfl rfl rfl rfl) ?_)
  refine D_q (Q_idx1 tabOk rfl rfl rfl rfl rfl rfl rfl (j := j) rfl (by omega)) ?_
  refine D_load1 tabOk (v := .int .u64 s[j]) rfl rfl (fun w' hw => (hx.ext (hw.below new_nil)).at_ (by omega) e2) ?_
  repeat (first | refine T_draw (by kernel_rfl) (by kernel_rfl) ?_ | refine D_all rfl ?_ | refine D_i64 tabOk rfl (by omega) ?_ | refine D_u64 tabOk rfl (by omega) ?_ | refine D_pure tabOk rfl ?_ | refine D_pass rfl rfl rfl ?_ | refine D_load tabOk 0 rfl rfl rfl ?_ | refine D_load tabOk 1 rfl rfl rfl ?_ | refine D_load tabOk 2 rfl rfl rfl ?_ | refine D_load tabOk 3 rfl rfl rfl ?_ | refine D_load tabOk 4 rfl rfl rfl ?_ | refine T_seq ?_ | refine T_region ?_ | refine T_block ?_ | refine S_nil ?_ | refine pthen_normal ?_ | refine inb_normal ?_ | refine inb_ret ?_ | refine pthen_ret ?_ | refine inb_hit ?_ | refine pthen_exit ?_ | refine T_skip ?_ | refine T_ret ?_ | refine T_exit ?_  | refine S_i64 tabOk rfl (by omega) ?_ | refine S_u64 tabOk rfl (by omega) ?_ | refine S_pure tabOk rfl ?_ | refine S_pass rfl rfl rfl ?_ | refine S_pass0 rfl rfl ?_ | refine T_region_any ?_  | refine S_load tabOk 0 rfl rfl rfl ?_ | refine S_load tabOk 1 rfl rfl rfl ?_ | refine S_load tabOk 2 rfl rfl rfl ?_ | refine S_load tabOk 3 rfl rfl rfl ?_ | refine S_load tabOk 4 rfl rfl rfl ?_ | refine S_load tabOk 5 rfl rfl rfl ?_ | refine S_store tabOk 0 rfl rfl rfl rfl rfl rfl ?_ | refine S_store tabOk 1 rfl rfl rfl rfl rfl rfl ?_ | refine S_store tabOk 2 rfl rfl rfl rfl rfl rfl ?_ | refine S_store tabOk 3 rfl rfl rfl rfl rfl rfl ?_ | refine S_store tabOk 4 rfl rfl rfl rfl rfl rfl ?_ | refine S_store tabOk 5 rfl rfl rfl rfl rfl rfl ?_ | refine S_q (Q_build tabOk rfl rfl rfl rfl rfl rfl rfl) ?_ | refine D_q (Q_build tabOk rfl rfl rfl rfl rfl rfl rfl) ?_)
  exact ret1 rfl rfl (fun w' hw => ⟨by rw [hlt], hw.below new_nil⟩)
set_option maxHeartbeats 4000000 in
theorem qswap_ok {w0 w : World} {g c n : Nat} {d : Array Int} {junk : List Value} {rest : OL} (i j : Nat) (h : Hp w0 w (uE g 59 d junk :: rest)) (hn : d.size = n) (hi : i < n) (hj : j < n) :
    Calls Try.prog 119 #[.slice (some ⟨g, 0, none⟩) n c, .int .i64 (i : Int), .int .i64 (j : Int)] w fun e w' => e = .returned (.tuple #[]) ∧ Hp w0 w' (uE g 59 (swp d i j) junk :: rest) := by
  refine enterW3 Try.func119 rfl rfl h ?_
  let ol0 : OL := uE g 59 d junk :: rest
  let ol1 : OL := .blk g (.cells ⟨(uA d junk).set i (.int .u64 d[j]!)⟩ 59 (0, 0)) true :: rest
  let ol2 : OL := uE g 59 (swp d i j) junk :: rest
  let olf : (Nat → Bool) → OL := fun L => match L 15 with
    | true => ol2
    | false => match L 13 with
      | true => ol1
      | false => ol0
  refine T_asThen ?_
  refine T_drawS (by kernel_rfl) (by kernel_rfl) [.slice (some ⟨g, 0, none⟩) n c, .int .i64 (i : Int), .slice (some ⟨g, 0, none⟩) n c, .int .i64 (j : Int), .slice (some ⟨g, 0, none⟩) n c, .int .i64 (j : Int), .pointer (some ⟨g, 0 + j, none⟩), .int .u64 d[j]!, .slice (some ⟨g, 0, none⟩) n c, .int .i64 (i : Int), .pointer (some ⟨g, 0 + i, none⟩), .int .u64 d[i]!, .pointer (some ⟨g, 0 + i, none⟩), undef, .pointer (some ⟨g, 0 + j, none⟩), undef] rfl olf rfl ?_ (l' := [(1, .int .i64 (i : Int))]) (ol' := ol2) (fun L h => by simp only [olf, h 15 (by decide)]) (by repeat (first | exact SubD.nil | refine SubD.cons rfl ?_)) ?_
  · refine ⟨?_, ?_, ?_, ?_, ?_, ?_, ?_, ?_, ?_, ?_, ?_, ?_, ?_, ?_, ?_, ?_, trivial⟩
    · exact fun L hc hl hp => OpS.ofD rfl (D_pure tabOk rfl D_last)
    · exact fun L hc hl hp => OpS.ofD rfl (D_pure tabOk rfl D_last)
    · exact fun L hc hl hp => OpS.ofD rfl (D_pure tabOk rfl D_last)
    · exact fun L hc hl hp => OpS.ofD rfl (D_pure tabOk rfl D_last)
    · exact fun L hc hl hp => OpS.ofD rfl (D_pure tabOk rfl D_last)
    · exact fun L hc hl hp => OpS.ofD rfl (D_pure tabOk rfl D_last)
    · exact fun L hc hl hp => OpS.ofD rfl (D_q (Q_idx1 tabOk rfl rfl rfl rfl rfl rfl rfl (j := j) (by omega) (by omega)) D_last)
    · intro L hc hl hp
      have h13 := closed_no hc (j := 13) rfl ⟨7, .data⟩ (by simp) rfl hl
      have h15 := closed_no hc (j := 15) rfl ⟨7, .phase⟩ (by simp) rfl hl
      have e1 : olf L = ol0 := by simp only [olf, h13, h15]
      have e2 : olf (add L 7) = ol0 := by simp [olf, add, h13, h15]
      rw [e1, e2]
      exact OpS.ofD rfl (D_load1 tabOk (v := .int .u64 d[j]!) rfl rfl (fun w' hw => blkc hw (uA_get (by omega))) D_last)
    · exact fun L hc hl hp => OpS.ofD rfl (D_pure tabOk rfl D_last)
    · exact fun L hc hl hp => OpS.ofD rfl (D_pure tabOk rfl D_last)
    · exact fun L hc hl hp => OpS.ofD rfl (D_q (Q_idx1 tabOk rfl rfl rfl rfl rfl rfl rfl (j := i) (by omega) (by omega)) D_last)
    · intro L hc hl hp
      have h13 := closed_no hc (j := 13) rfl ⟨11, .phase⟩ (by simp) rfl hl
      have h15 := closed_no hc (j := 15) rfl ⟨11, .data⟩ (by simp) rfl hl
      have e1 : olf L = ol0 := by simp only [olf, h13, h15]
      have e2 : olf (add L 11) = ol0 := by simp [olf, add, h13, h15]
      rw [e1, e2]
      exact OpS.ofD rfl (D_load1 tabOk (v := .int .u64 d[i]!) rfl rfl (fun w' hw => blkc hw (uA_get (by omega))) D_last)
    · exact fun L hc hl hp => OpS.ofD rfl (D_q (Q_idx1 tabOk rfl rfl rfl rfl rfl rfl rfl (j := i) (by omega) (by omega)) D_last)
    · intro L hc hl hp
      have h15 := closed_no hc (j := 15) rfl ⟨13, .chain⟩ (by simp) rfl hl
      have e1 : olf L = ol0 := by simp only [olf, hl, h15]
      have e2 : olf (add L 13) = ol1 := by simp [olf, add, h15]
      rw [e1, e2]
      exact OpS.store tabOk 0 rfl rfl (by intro x hx; rw [List.mem_singleton] at hx; subst hx; rfl) rfl (by rw [Nat.zero_add]; exact setMany_1 (by rw [uA_len]; omega)) rfl
    · exact fun L hc hl hp => OpS.ofD rfl (D_q (Q_idx1 tabOk rfl rfl rfl rfl rfl rfl rfl (j := j) (by omega) (by omega)) D_last)
    · intro L hc hl hp
      have h13 : L 13 = true := hp ⟨13, .chain⟩ (by simp) rfl
      have e1 : olf L = ol1 := by simp only [olf, h13, hl]
      have e2 : olf (add L 15) = ol2 := by simp [olf, add]
      rw [e1, e2]
      exact OpS.store tabOk 0 rfl rfl (by intro x hx; rw [List.mem_singleton] at hx; subst hx; rfl) rfl (by rw [Nat.zero_add]; exact (setMany_1 (by rw [List.length_set, uA_len]; omega)).trans (congrArg some (uA_swp (by omega) (by omega)))) rfl
  clear olf ol0 ol1
  dsimp only [ol2]
  clear ol2
  exact ret0n rfl (fun w' hw => ⟨rfl, hw⟩)
theorem swp_list {s : List Int} {i j : Nat} (hi : i < s.length) (hj : j < s.length) : (swp s.toArray i j).toList = swL s i j := by
  unfold swL
  rw [List.getElem?_eq_getElem hi, List.getElem?_eq_getElem hj]
  have b1 : s.toArray[i]! = s[i] := by rw [Array.getElem!_eq_getD, Array.getD_eq_getD_getElem?, List.getElem?_toArray, List.getElem?_eq_getElem hi]; rfl
  have b2 : s.toArray[j]! = s[j] := by rw [Array.getElem!_eq_getD, Array.getD_eq_getD_getElem?, List.getElem?_toArray, List.getElem?_eq_getElem hj]; rfl
  simp [swp, b1, b2]
/-- The queue's block, in it the numbers' row. -/
def nuV (qb : Nat) (k0 k1 k2 k4 k5 : Value) (s : List Int) : Vp :=
  ⟨fun w F v => w.heap[qb]? = some (.cells ⟨[k0, k1, k2, v, k4, k5]⟩ 105 (0, 0)) ∧ F qb ∧ w.ownsRow 0 59 1 v s.length (s.map (.int .u64)) ∧ (∀ k, v.ownBlock = some k → F k) ∧ s.length ≤ 1073741824,
   fun {w w' A B v} ⟨h1, h2, h3, h4, h6⟩ hk => ⟨((hk qb h2 (heap_lt h1)).1).trans h1, (hk qb h2 (heap_lt h1)).2, own_keep h3 (fun k hv => (hk k (h4 k hv) (World.ownsRow.lt h3 k hv).2).1), fun k hv => (hk k (h4 k hv) (World.ownsRow.lt h3 k hv).2).2, h6⟩⟩
def nuP (qb : Nat) (k0 k1 k2 k4 k5 : Value) (s : List Int) : Vp :=
  ⟨fun w F _ => ∃ v, (nuV qb k0 k1 k2 k4 k5 s).at_ w F v, fun ⟨v, h⟩ hk => ⟨v, (nuV qb k0 k1 k2 k4 k5 s).keep h hk⟩⟩
section
variable {qb : Nat} {k0 k1 k2 k4 k5 : Value} {s : List Int} {w : World} {F : Nat → Prop} {v : Value}
theorem nuV_form (h : (nuV qb k0 k1 k2 k4 k5 s).at_ w F v) : ∃ a c, v = .slice a s.length c ∧ s.length ≤ c := by
  obtain ⟨a, c, h1, h2, _⟩ := form_of_own h.2.2.1
  exact ⟨a, c, h1, h2⟩
theorem nuV_cell (h : (nuV qb k0 k1 k2 k4 k5 s).at_ w F v) : w.cell? ⟨qb, 3, none⟩ = some v := by
  have h1 := Sl.of_blk (n := 6) (sz := 1) (off := 0) (xs := [k0, k1, k2, v, k4, k5]) h.1 rfl (fun j u hu => by rw [Nat.zero_add]; exact hu)
  exact h1.at_ (j := 3) (by decide) rfl
abbrev nuI (qb : Nat) : Value := .iface 107 (.pointer (some ⟨qb, 3, none⟩))
theorem nuV_load (h : (nuV qb k0 k1 k2 k4 k5 s).at_ w F v) : (loadVar 103 ⟨qb, 3, none⟩).run Try.prog w = .ok v w :=
  loadVar_one tabOk (t := 103) rfl rfl (nuV_cell h)
theorem nuM_len (h : (nuP qb k0 k1 k2 k4 k5 s).at_ w F (.bool true)) : Meth Try.prog (nuI qb) "Len" [] w fun e w' => e = .returned (.int .i64 (s.length : Int)) ∧ Below w.heap.size w w' := by
  obtain ⟨v, hv⟩ := h
  obtain ⟨a, c, rfl, _⟩ := nuV_form hv
  exact meth_val' (f := 117) (by kernel_rfl) (by kernel_rfl) Try.call117 (nuV_load hv) (qlen_ok a s.length c w)
theorem nuM_less {i j : Nat} (h : (nuP qb k0 k1 k2 k4 k5 s).at_ w F (.bool true)) (hi : i < s.length) (hj : j < s.length) : Meth Try.prog (nuI qb) "Less" [.int .i64 (i : Int), .int .i64 (j : Int)] w fun e w' => e = .returned (.bool (ltL nuR s i j)) ∧ Below w.heap.size w w' := by
  obtain ⟨v, hv⟩ := h
  obtain ⟨a, c, rfl, _⟩ := nuV_form hv
  exact meth_val' (f := 118) (by kernel_rfl) (by kernel_rfl) Try.call118 (nuV_load hv) (qless_ok a c s i j w (Sl.of_own hv.2.2.1) hi hj)
theorem own_open {base n c : Nat} {a : Option Addr} {E : TypeId} {xs : List Value} (h : w.ownsRow base E 1 (.slice a n c) n xs) (hn : 0 < n) : ∃ g junk, a = some ⟨g, 0, none⟩ ∧ base ≤ g ∧ n ≤ c ∧ xs.length = n ∧ (xs ++ junk).length = c ∧ c ≤ maxLen ∧ w.heap[g]? = some (.cells ⟨xs ++ junk⟩ E (0, 0)) := by
  obtain ⟨h1, h2⟩ := h
  rcases h2 with ⟨_, h2⟩ | ⟨g, cap, cur, hv, hb, hg, hnc, hcm, hcs, htake⟩
  · omega
  · cases hv
    rw [Nat.mul_one] at h1 hcs htake
    have hcur : cur.toList = xs ++ cur.toList.drop n := by rw [← htake, List.take_append_drop]
    refine ⟨g, cur.toList.drop n, rfl, hb, hnc, h1, by rw [← hcur]; simpa using hcs, hcm, ?_⟩
    rw [← hcur]
    exact hg
theorem own_close {base n c g : Nat} {E : TypeId} {xs junk : List Value} (hg : w.heap[g]? = some (.cells ⟨xs ++ junk⟩ E (0, 0))) (hb : base ≤ g) (hnc : n ≤ c) (hm : c ≤ maxLen) (hl : xs.length = n) (hj : (xs ++ junk).length = c) : w.ownsRow base E 1 (.slice (some ⟨g, 0, none⟩) n c) n xs :=
  ⟨by rw [hl, Nat.mul_one], .inr ⟨g, c, _, rfl, hb, hg, hnc, hm, by rw [Nat.mul_one]; exact hj, by rw [Nat.mul_one]; show List.take n (xs ++ junk) = xs; rw [← hl, List.take_left]⟩⟩
theorem nuM_swap {i j : Nat} (h : (nuP qb k0 k1 k2 k4 k5 s).at_ w F (.bool true)) (hF : ∀ k, F k → k < w.heap.size) (hi : i < s.length) (hj : j < s.length) :
    Meth Try.prog (nuI qb) "Swap" [.int .i64 (i : Int), .int .i64 (j : Int)] w fun e w' => e = .returned (.tuple #[]) ∧ Hp w w' [.rep (fun w => (nuP qb k0 k1 k2 k4 k5 (swL s i j)).at_ w F (.bool true)) F true] := by
  obtain ⟨v, hv⟩ := h
  obtain ⟨a, c, rfl, _⟩ := nuV_form hv
  obtain ⟨h1, h2, h3, h4, h6⟩ := id hv
  obtain ⟨g, junk, rfl, hb, hnc, hxl, hjl, hcm, hg⟩ := own_open h3 (by omega)
  have hgq : g ≠ qb := fun e => by
    subst e
    rw [hg] at h1
    exact absurd (Obj.cells.inj (Option.some.inj h1)).2.1 (by decide)
  refine meth_val' (f := 119) (by kernel_rfl) (by kernel_rfl) Try.call119 (nuV_load hv) ?_
  refine (qswap_ok (d := s.toArray) (junk := junk) (rest := []) i j (Hp.start true hg) (by simp) hi hj).mono fun e w' ⟨he, h8⟩ => ⟨he, ?_⟩
  have hg2 : w'.heap[g]? = _ := h8.own _ List.mem_cons_self
  have hsl : (swL s i j).length = s.length := swL_len s i j
  refine h8.widenL (fun e he k hk => ?_) ⟨.slice (some ⟨g, 0, none⟩) s.length c, ?_, h2, ?_, h4, by rw [hsl]; exact h6⟩ (Vp.loc (p := nuP qb k0 k1 k2 k4 k5 (swL s i j))) hF
  · rw [List.mem_singleton] at he
    subst he
    have := Option.some.inj hk
    rw [← this]
    exact h4 g rfl
  · exact (h8.old qb (heap_lt h1) fun e he _ hh => by
      rw [List.mem_singleton] at he
      subst he
      exact hgq (Option.some.inj hh)).trans h1
  · rw [hsl]
    rw [uA, swp_list hi hj] at hg2
    exact own_close hg2 hb hnc hcm (by rw [List.length_map, hsl]) (by simp only [List.length_append, List.length_map, hsl] at hjl ⊢; exact hjl)
end
/-- The numbers are an object. -/
noncomputable def nuOb (qb : Nat) (k0 k1 k2 k4 k5 : Value) : HOb Try.prog (nuI qb) (List Int) where
  p := nuP qb k0 k1 k2 k4 k5
  len := List.length
  lt := ltL nuR
  sw := swL
  lenSw := swL_len
  hle := fun ⟨v, h⟩ => h.2.2.2.2
  hlen := nuM_len
  hlt := nuM_less
  hsw := nuM_swap
theorem nuOb_ol (qb : Nat) (k0 k1 k2 k4 k5 : Value) : OL_ (nuOb qb k0 k1 k2 k4 k5) nuR := ⟨fun _ => rfl, fun _ _ _ => rfl, fun _ _ _ => rfl⟩

theorem qpop_walk (qb g n c : Nat) (k0 k1 k2 k4 k5 : Value) (xs : List Value) (x : Int) (w : World) (hb : w.heap[qb]? = some (.cells ⟨[k0, k1, k2, .slice (some ⟨g, 0, none⟩) (n + 1) c, k4, k5]⟩ 105 (0, 0))) (hr : w.ownsRow 0 59 1 (.slice (some ⟨g, 0, none⟩) (n + 1) c) (n + 1) xs) (hg : g ≠ qb) (hx : xs[n]? = some (.int .u64 x)) (hn : n ≤ 1073741824) (hnc : n ≤ c) :
    Calls Try.prog 120 #[.pointer (some ⟨qb, 3, none⟩)] w fun e w' => e = .returned (.iface 59 (.int .u64 x)) ∧ Hp w w' [.blk qb (.cells ⟨[k0, k1, k2, .slice (some ⟨g, 0, none⟩) n c, k4, k5]⟩ 105 (0, 0)) true] := by
  obtain ⟨F, hF, hst⟩ := Hp.startV (p := rowV 0 59 1 (n + 1) xs) (A := fun k => k ≠ qb) hb ⟨hr, fun k hk => by
    have : k = g := (Option.some.inj hk).symm
    rw [this]; exact hg⟩ (fun h => h rfl)
  refine enter1 Try.func120 rfl rfl hst ?_
  repeat (first | refine T_seq ?_ | refine T_region ?_ | refine S_nil ?_ | refine S_i64 tabOk rfl (by omega) ?_ | refine S_pure tabOk rfl ?_ | refine S_load tabOk 0 rfl rfl rfl ?_)
  refine S_q (Q_idx1 tabOk rfl rfl rfl rfl rfl rfl rfl (j := n) (by omega) (by omega)) ?_
  refine S_load1 tabOk (v := .int .u64 x) rfl rfl (fun w' hw => by
    rw [Nat.zero_add]
    exact own_cell (hw.own _ (getE_mem (i := 1) rfl)).1.1 (by omega) hx) ?_
  repeat (first | refine T_seq ?_ | refine T_region ?_ | refine S_nil ?_ | refine S_pure tabOk rfl ?_ | refine S_load tabOk 0 rfl rfl rfl ?_)
  refine S_q (Q_sliceTo tabOk rfl rfl rfl rfl rfl rfl (H := n) (by omega) (by omega)) ?_
  repeat (first | refine T_seq ?_ | refine T_region ?_ | refine S_nil ?_ | refine S_pure tabOk rfl ?_ | refine S_store tabOk 0 rfl rfl rfl rfl rfl rfl ?_)
  refine S_q (Q_mkif tabOk rfl rfl rfl rfl) ?_
  repeat (first | refine S_nil ?_ | refine T_ret ?_ | refine S_pure tabOk rfl ?_)
  exact ret1 rfl rfl (fun w' hw => ⟨rfl, hw.less (by repeat (first | exact Less.nil | refine Less.keep ?_ | refine Less.dropR ?_))⟩)
/-- what an append told -/
def PuF (w : World) (F : Nat → Prop) (m : Nat) (y : Value × (Nat → Prop)) : Prop := (∃ A C, y.1 = .slice A (m + 1) C) ∧ (∀ k, F k → y.2 k) ∧ ∀ k, y.2 k → F k ∨ w.heap.size ≤ k
set_option maxHeartbeats 2000000 in
theorem qpush_walk (qb m : Nat) (k0 k1 k2 k4 k5 : Value) (x : Int) (v : Value) (xs : List Value) (F : Nat → Prop) (w : World) (hst : Hp w w [.blk qb (.cells ⟨[k0, k1, k2, v, k4, k5]⟩ 105 (0, 0)) true, .rep (fun w => (rowV 0 59 1 m xs).at_ w F v) F true]) (hm : m ≤ 1073741823) (hv : ∃ a c, v = .slice a m c ∧ m ≤ c) :
    Calls Try.prog 121 #[.pointer (some ⟨qb, 3, none⟩), .iface 59 (.int .u64 x)] w fun e w' => e = .returned (.tuple #[]) ∧ ∃ A' c' F', (∀ k, F k → F' k) ∧ (∀ k, F' k → F k ∨ w.heap.size ≤ k) ∧ Hp w w' [.blk qb (.cells ⟨[k0, k1, k2, .slice A' (m + 1) c', k4, k5]⟩ 105 (0, 0)) true, .rep (fun w => (rowV 0 59 1 (m + 1) (xs ++ [.int .u64 x])).at_ w F' (.slice A' (m + 1) c')) F' true] := by
  obtain ⟨a, c, rfl, hmc⟩ := hv
  refine enter2 Try.func121 rfl rfl hst ?_
  refine T_asThen ?_
  let lst : Bool → Bool → Bool → Value → Value × (Nat → Prop) → OL := fun l6 l7 l9 v6 y7 =>
    [.blk qb (.cells ⟨[k0, k1, k2, cond l9 y7.1 (.slice a m c), k4, k5]⟩ 105 (0, 0)) true, .rep (fun w => (rowV 0 59 1 (cond l7 (m + 1) m) (cond l7 (xs ++ [.int .u64 x]) xs)).at_ w (cond l7 y7.2 F) (cond l7 y7.1 (.slice a m c))) (cond l7 y7.2 F) true] ++
      (cond l6 [.row w.heap.size v6 59 1 1 [.int .u64 x]] [] ++ cond l7 [factE (PuF w F m y7)] [])
  refine T_drawF (γ := Nat → Prop) (by kernel_rfl) (by kernel_rfl) F (fun L f => lst (L 6) (L 7) (L 9) (f 6).1 (f 7)) rfl [some (.pointer (some ⟨qb, 3, none⟩)), some (.pointer (some ⟨qb, 3, none⟩)), some (.pointer (some ⟨qb, 3, none⟩)), some (.slice a m c), some (.iface 59 (.int .u64 x)), some (.int .u64 x), none, none, some (.pointer (some ⟨qb, 3, none⟩)), some undef] ?_ ?_
  · refine ⟨?_, ?_, ?_, ?_, ?_, ?_, ?_, ?_, ?_, ?_, trivial⟩
    · exact fun L f hc hl hp => OpA.told F rfl (D_pure tabOk rfl D_last) rfl
    · exact fun L f hc hl hp => OpA.told F rfl (D_pure tabOk rfl D_last) rfl
    · exact fun L f hc hl hp => OpA.told F rfl (D_pure tabOk rfl D_last) rfl
    · intro L f hc hl hp
      have h7 := closed_no hc (j := 7) rfl ⟨3, .data⟩ (by simp) rfl hl
      have h9 := closed_no hc (j := 9) rfl ⟨7, .data⟩ (by simp) rfl h7
      show OpA _ _ _ _ (lst (L 6) (L 7) (L 9) (f 6).1 (f 7)) (fun y => lst (L 6) (L 7) (L 9) (f 6).1 (f 7)) _ _ _
      rw [h9]
      exact OpA.told F rfl (D_load tabOk 0 rfl rfl rfl D_last) rfl
    · exact fun L f hc hl hp => OpA.told F rfl (D_pure tabOk rfl D_last) rfl
    · exact fun L f hc hl hp => OpA.told F rfl (D_q (Q_tassert tabOk rfl rfl rfl rfl) D_last) rfl
    · intro L f hc hl hp
      have h7 := closed_no hc (j := 7) rfl ⟨6, .data⟩ (by simp) rfl hl
      have h9 := closed_no hc (j := 9) rfl ⟨7, .data⟩ (by simp) rfl h7
      show OpA _ _ _ _ (lst (L 6) (L 7) (L 9) (f 6).1 (f 7)) (fun y => lst true (L 7) (L 9) y.1 (f 7)) _ _ _
      rw [hl, h7, h9]
      refine OpA.ofS (l := [(9, .int .u64 x)]) rfl (by decide) (.cons rfl rfl .nil) ?_
      refine S_bslice tabOk rfl rfl rfl rfl rfl rfl rfl rfl rfl rfl rfl rfl (fun nb hnb => ?_)
      refine S_heap (fun w' h => Hp.closeRow (pre := []) (n := 1) (c := 1) (sz := 1) h hnb (by decide) (by decide) rfl) ?_
      refine S_nil ?_
      exact ⟨_, F, rfl, (fun u h => by cases h), fun w hw => hw.perm (by repeat (first | exact List.Perm.refl _ | refine (List.Perm.swap _ _ _).trans (List.Perm.cons _ ?_)))⟩
    · intro L f hc hl hp
      have h3 : L 3 = true := hp ⟨3, .data⟩ (by simp) rfl
      have h6 : L 6 = true := hp ⟨6, .data⟩ (by simp) rfl
      have h9 := closed_no hc (j := 9) rfl ⟨7, .data⟩ (by simp) rfl hl
      show OpA _ _ _ _ (lst (L 6) (L 7) (L 9) (f 6).1 (f 7)) (fun y => lst (L 6) true (L 9) (f 6).1 y) _ _ _
      rw [hl, h6, h9]
      refine OpA.pre (X := ∃ A C, (f 6).1 = .slice A 1 C) (fun w hw => ?_) (fun d h => by cases h; decide) ?_
      · obtain ⟨A, C, e2, _⟩ := hw.rowForm 2 rfl
        exact ⟨A, C, e2⟩
      · rintro ⟨A, C, e2⟩
        rw [e2]
        refine OpA.ofS (l := [(7, .slice a m c), (10, .slice A 1 C)]) rfl (by decide) (.cons rfl rfl (.cons rfl (by show some (Ent.ex (f 6).1) = _; rw [e2]) .nil)) ?_
        refine S_appendO (ty := 0) tabOk 1 (sz := 1) (news := [.int .u64 x]) rfl rfl rfl rfl rfl rfl rfl rfl rfl (by decide) (fun w' h => Sl.of_own (h.own _ (getE_mem (i := 2) rfl))) (fun u hu => by rw [List.mem_singleton] at hu; subst hu; rfl) (by show m + 1 ≤ maxLen; simp only [maxLen]; omega) (by show (m + 1) * 8 ≤ _; omega) (Nat.zero_le _) (fun A' c' F' h1 h2 h3 h4 => ⟨_, rfl, ?_⟩)
        refine S_nil ?_
        exact ⟨_, F', rfl, (fun u h => by cases h), fun w' hw => (hw.addF (p := PuF w F m (.slice A' (m + 1) c', F')) ⟨⟨A', c', rfl⟩, h3, h4⟩).perm (by repeat (first | exact List.Perm.refl _ | refine (List.Perm.swap _ _ _).trans (List.Perm.cons _ ?_)))⟩
    · exact fun L f hc hl hp => OpA.told F rfl (D_pure tabOk rfl D_last) rfl
    · intro L f hc hl hp
      have h7 : L 7 = true := hp ⟨7, .data⟩ (by simp) rfl
      have h6 : L 6 = true := hc 7 _ rfl h7 ⟨6, .data⟩ (by simp) rfl
      show OpA _ _ _ _ (lst (L 6) (L 7) (L 9) (f 6).1 (f 7)) (fun y => lst (L 6) (L 7) true (f 6).1 (f 7)) _ _ _
      rw [hl, h6, h7]
      refine OpA.pre (X := ∃ A C, (f 7).1 = .slice A (m + 1) C) (fun w hw => ?_) (fun d h => by cases h) ?_
      · obtain ⟨⟨A, C, e2⟩, _⟩ := hw.fact 3 rfl
        exact ⟨A, C, e2⟩
      · rintro ⟨A, C, e2⟩
        refine OpA.swap (dl' := [(12, .ex (.pointer (some ⟨qb, 3, none⟩))), (11, .ex (f 7).1)]) (List.forall_mem_cons.2 ⟨rfl, List.forall_mem_cons.2 ⟨rfl, fun _ h => nomatch h⟩⟩) ?_
        generalize f 7 = x7 at *
        obtain ⟨x7, g7⟩ := x7
        dsimp only at e2
        subst e2
        exact OpS.toF F (fun u h => by cases h; rfl) (OpS.store tabOk 0 rfl rfl (fun u h => by rw [List.mem_singleton] at h; subst h; rfl) rfl rfl rfl)
  · intro L f w' hL hw
    change Hp _ _ (lst (L 6) (L 7) (L 9) (f 6).1 (f 7)) at hw
    rw [hL 6 (by decide), hL 7 (by decide), hL 9 (by decide)] at hw
    obtain ⟨⟨A, C, e2⟩, g1, g2⟩ := hw.fact 3 rfl
    generalize f 7 = x7 at *
    obtain ⟨x7, g7⟩ := x7
    dsimp only at e2 g1 g2
    subst e2
    refine ⟨[], [.blk qb (.cells ⟨[k0, k1, k2, .slice A (m + 1) C, k4, k5]⟩ 105 (0, 0)) true, .rep (fun w => (rowV 0 59 1 (m + 1) (xs ++ [.int .u64 x])).at_ w g7 (.slice A (m + 1) C)) g7 true], SubD.nil, hw.less (by repeat (first | exact Less.nil | refine Less.keep ?_ | refine Less.dropR ?_ | refine Less.dropW (Nat.le_refl _) ?_)), ?_⟩
    exact ret0n rfl (fun w' hw => ⟨rfl, A, C, g7, g1, g2, hw⟩)
section
variable {qb : Nat} {k0 k1 k2 k4 k5 : Value} {s : List Int} {w : World} {F : Nat → Prop}
theorem nuM_pop {x : Int} (h : (nuP qb k0 k1 k2 k4 k5 s).at_ w F (.bool true)) (hF : ∀ k, F k → k < w.heap.size) (hx : s[s.length - 1]? = some x) :
    Meth Try.prog (nuI qb) "Pop" [] w fun e w' => e = .returned (.iface 59 (.int .u64 x)) ∧ Hp w w' [.rep (fun w => (nuP qb k0 k1 k2 k4 k5 (s.take (s.length - 1))).at_ w F (.bool true)) F true] := by
  obtain ⟨v, hv⟩ := h
  have h0 := (List.getElem?_eq_some_iff.1 hx).1
  obtain ⟨a, c, rfl, hsc⟩ := nuV_form hv
  obtain ⟨h1, h2, h3, h5, h7⟩ := hv
  obtain ⟨n, hn⟩ : ∃ n, s.length = n + 1 := ⟨s.length - 1, by omega⟩
  rw [show s.length - 1 = n by omega] at hx ⊢
  obtain ⟨g, junk, rfl, hb, hnc, hxl, hjl, hm, hg⟩ := own_open h3 (by omega)
  rw [hn] at h1 h3 h5
  have hgb : g ≠ qb := cells_ne hg h1 (by decide)
  refine meth_own (u := 103) (f := 120) (by kernel_rfl) (by kernel_rfl) Try.call120 ?_
  refine (qpop_walk qb g n c k0 k1 k2 k4 k5 _ x w h1 h3 hgb (by rw [List.getElem?_map, hx]; rfl) (by omega) (by omega)).mono fun e w' ⟨he, h8⟩ => ⟨he, ?_⟩
  have hold : ∀ k o, w.heap[k]? = some o → k ≠ qb → w'.heap[k]? = some o := fun k o ho hk => (h8.old k (heap_lt ho) fun e he _ => by
    rw [List.mem_singleton] at he
    subst he
    intro hh
    exact hk (Option.some.inj hh).symm).trans ho
  have hlen : (s.take n).length = n := by rw [List.length_take]; omega
  have hb2 : w'.heap[qb]? = _ := h8.own _ List.mem_cons_self
  refine h8.widen (fun k hk => ?_) ⟨.slice (some ⟨g, 0, none⟩) n c, hb2, h2, ?_, fun k hk => h5 k hk, ?_⟩ (Vp.loc (p := nuP qb k0 k1 k2 k4 k5 (s.take n))) hF
  · have : k = qb := (Option.some.inj hk).symm
    rw [this]
    exact h2
  · rw [hlen]
    have e1 : s.map (Value.int .u64) ++ junk = (s.take n).map (Value.int .u64) ++ ((s.drop n).map (Value.int .u64) ++ junk) := by rw [← List.append_assoc, ← List.map_append, List.take_append_drop]
    rw [e1] at hg hjl
    exact own_close (hold _ _ hg hgb) hb (by omega) hm (by rw [List.length_map, hlen]) hjl
  · rw [hlen]; omega
theorem nuM_push {x : Int} (h : (nuP qb k0 k1 k2 k4 k5 s).at_ w F (.bool true)) (hF : ∀ k, F k → k < w.heap.size) (hs : s.length < 1073741824) :
    Meth Try.prog (nuI qb) "Push" [.iface 59 (.int .u64 x)] w fun e w' => e = .returned (.tuple #[]) ∧ ∃ F', (∀ k, F k → F' k) ∧ (∀ k, F' k → F k ∨ w.heap.size ≤ k) ∧ Hp w w' [.rep (fun w => (nuP qb k0 k1 k2 k4 k5 (s ++ [x])).at_ w F' (.bool true)) F' true] := by
  obtain ⟨v, hv⟩ := h
  have hfm := nuV_form hv
  obtain ⟨h1, h2, h3, h5, h7⟩ := hv
  refine meth_own (u := 103) (f := 121) (by kernel_rfl) (by kernel_rfl) Try.call121 ?_
  refine (qpush_walk qb s.length k0 k1 k2 k4 k5 x v (s.map (.int .u64)) (fun k => v.ownBlock = some k) w ?_ (by omega) hfm).mono fun e w' ⟨he, A', c', F', g1, g2, g3⟩ => ⟨he, fun k => F k ∨ F' k, fun k hk => .inl hk, fun k hk => ?_, ?_⟩
  · have e1 : Hp w w [.rep (fun w => (rowV 0 59 1 s.length (s.map (.int .u64))).at_ w (fun k => v.ownBlock = some k) v) (fun k => v.ownBlock = some k) true] :=
      (Hp.refl w).more ⟨⟨h3, fun k hk => hk⟩, Vp.loc, fun k hk => hF k (h5 k hk)⟩ fun e he => (by cases he)
    refine e1.more (x := .blk qb _ true) h1 fun e he _ k hk hk2 => ?_
    have hk0 := Option.some.inj hk
    rw [List.mem_singleton] at he
    subst he
    obtain ⟨cur, h9⟩ := row_blk h3 hk2
    exact cells_ne h1 h9 (by decide) hk0
  · rcases hk with h | h
    · exact .inl h
    · rcases g2 k h with h | h
      · exact .inl (h5 k h)
      · exact .inr h
  · have o0 : w'.heap[qb]? = _ := g3.own _ (getE_mem (i := 0) rfl)
    obtain ⟨⟨o2, o3⟩, _, o4⟩ := g3.own _ (getE_mem (i := 1) rfl)
    have hlt : ∀ k, F k ∨ F' k → k < w'.heap.size := fun k hk => by
      rcases hk with h | h
      · exact Nat.lt_of_lt_of_le (hF k h) g3.size
      · exact o4 k h
    have hl : (s ++ [x]).length = s.length + 1 := by rw [List.length_append]; rfl
    refine g3.widenM (fun e he k hk => ?_) ⟨.slice A' (s.length + 1) c', o0, .inl h2, ?_, fun k hk => .inr (o3 k hk), by omega⟩ (Vp.loc (p := nuP qb k0 k1 k2 k4 k5 (s ++ [x]))) hlt
    · simp only [List.mem_cons, List.not_mem_nil, or_false] at he
      rcases he with rfl | rfl
      · left
        have := Option.some.inj hk
        rw [← this]; exact h2
      · exact .inr hk
    · rw [hl, List.map_append]
      exact o2
theorem nuheap_pop (h : (nuP qb k0 k1 k2 k4 k5 s).at_ w F (.bool true)) (hF : ∀ k, F k → k < w.heap.size) {x : Int} (hx : s[0]? = some x) : Calls Try.prog 46 #[nuI qb] w fun e w' => (∃ y, e = .returned (.iface 59 (.int .u64 y))) ∧
    Hp w w' [.rep (fun w => (nuP qb k0 k1 k2 k4 k5 (((nuOb qb k0 k1 k2 k4 k5).pp s).take (s.length - 1))).at_ w F (.bool true)) F true] := by
  have hl : 0 < s.length := (List.getElem?_eq_some_iff.1 hx).1
  have hpl : ((nuOb qb k0 k1 k2 k4 k5).pp s).length = s.length := (pp_perm (nuOb_ol qb k0 k1 k2 k4 k5) s).length_eq
  obtain ⟨y, hy⟩ : ∃ y, ((nuOb qb k0 k1 k2 k4 k5).pp s)[s.length - 1]? = some y := ⟨_, List.getElem?_eq_getElem (by omega)⟩
  refine (hpop_ok (nuOb qb k0 k1 k2 k4 k5) s F w h hF hl (.iface 59 (.int .u64 y)) (nuP qb k0 k1 k2 k4 k5 (((nuOb qb k0 k1 k2 k4 k5).pp s).take (s.length - 1))) (fun w1 h1 h2 => ?_)).mono fun e w' ⟨he, h3⟩ => ⟨⟨y, he⟩, h3⟩
  have := nuM_pop (x := y) h1 h2 (by rw [hpl]; exact hy)
  rw [hpl] at this
  exact this
theorem nuheap_push {x : Int} (h : (nuP qb k0 k1 k2 k4 k5 s).at_ w F (.bool true)) (hF : ∀ k, F k → k < w.heap.size) (hs : s.length < 1073741824) : Calls Try.prog 52 #[nuI qb, .iface 59 (.int .u64 x)] w fun e w' => e = .returned (.tuple #[]) ∧ ∃ F', (∀ k, F k → F' k) ∧ (∀ k, F' k → F k ∨ w.heap.size ≤ k) ∧
    Hp w w' [.rep (fun w => (nuP qb k0 k1 k2 k4 k5 ((nuOb qb k0 k1 k2 k4 k5).up (s.length + 1) (s ++ [x]) s.length)).at_ w F' (.bool true)) F' true] := by
  have hl : (s ++ [x]).length = s.length + 1 := by rw [List.length_append]; rfl
  have := hpush_ok (nuOb qb k0 k1 k2 k4 k5) s (s ++ [x]) F w h hF (show 0 < (s ++ [x]).length by omega) (.iface 59 (.int .u64 x)) (fun w1 h1 h2 => nuM_push h1 h2 hs)
  rw [show (nuOb qb k0 k1 k2 k4 k5).len (s ++ [x]) = s.length + 1 from hl, Nat.add_sub_cancel] at this
  exact this
end

/-- number, class, body -/
abbrev QE := Int × Int × List Int
/-- The heap of numbers: who is there is in it; perhaps some that are gone. -/
structure NH (s : List Int) (L : List QE) (last : Int) : Prop where
  hd : Hd nuR s s.length 0
  sub : ∀ x ∈ L, x.1 ∈ s
  le : ∀ n ∈ s, n ≤ last
theorem NH.nil : NH [] [] 0 := ⟨fun j _ h _ => absurd h (Nat.not_lt_zero _), fun x h => (by cases h), fun n h => (by cases h)⟩
section
variable {P : Program} {iv : Value} {O : HOb P iv (List Int)} (hO : OL_ O nuR) {s : List Int} {L : List QE} {last : Int}
include hO
theorem NH.push (h : NH s L last) {n : Int} (hn : last < n) (x : Int × List Int) : NH (O.up (s.length + 1) (s ++ [n]) s.length) (L ++ [(n, x)]) n := by
  have hp := up_perm hO (s.length + 1) (s ++ [n]) s.length
  have hl : (s ++ [n]).length = s.length + 1 := by rw [List.length_append]; rfl
  refine ⟨?_, fun y hy => ?_, fun y hy => ?_⟩
  · rw [hp.length_eq, hl]
    refine up_heap hO nuR_sw (s.length + 1) (s.length + 1) (s ++ [n]) s.length (by omega) (by omega) (by omega) fun j h0 hj => ⟨fun hji => ?_, fun hp2 _ => by omega⟩
    have := h.hd j h0 (by omega) (Nat.zero_le _)
    unfold ltL at this ⊢
    rw [List.getElem?_append_left (by omega), List.getElem?_append_left (by omega)]
    exact this
  · rw [hp.mem_iff, List.mem_append]
    rcases List.mem_append.1 hy with hy | hy
    · exact .inl (h.sub y hy)
    · rw [List.mem_singleton] at hy
      exact .inr (by rw [hy, List.mem_singleton])
  · rw [hp.mem_iff, List.mem_append] at hy
    rcases hy with hy | hy
    · have := h.le y hy; omega
    · rw [List.mem_singleton] at hy; omega
omit hO in
theorem NH.less {L' : List QE} (h : NH s L last) (hs : ∀ x ∈ L', x ∈ L) : NH s L' last := ⟨h.hd, fun x hx => h.sub x (hs x hx), h.le⟩
omit hO in
theorem last_split {t : List Int} {n : Nat} {x : Int} (hl : t.length = n + 1) (hx : t[n]? = some x) : t = t.take n ++ [x] := by
  obtain ⟨h2, h3⟩ := List.getElem?_eq_some_iff.1 hx
  have h4 := List.take_append_drop n t
  have h5 := List.drop_eq_getElem_cons h2
  rw [h3, ← hl, List.drop_length] at h5
  rw [h5] at h4
  exact h4.symm
theorem NH.pop (h : NH s L last) {x : Int} (hx : s[0]? = some x) (hno : ∀ y ∈ L, y.1 ≠ x) : NH ((O.pp s).take (s.length - 1)) L last := by
  have h0 := (List.getElem?_eq_some_iff.1 hx).1
  have hp := pp_perm hO s
  have hl := hp.length_eq
  have hlast := (pp_last hO s h0).trans hx
  obtain ⟨n, hn⟩ : ∃ n, s.length = n + 1 := ⟨s.length - 1, by omega⟩
  have hsp := last_split (t := O.pp s) (n := n) (by omega) (by rw [show n = s.length - 1 by omega]; exact hlast)
  rw [show s.length - 1 = n by omega]
  refine ⟨?_, fun y hy => ?_, fun y hy => h.le y (hp.mem_iff.1 (List.mem_of_mem_take hy))⟩
  · have hh := pp_heap hO nuR_sw s h.hd.dh h0
    rw [show s.length - 1 = n by omega] at hh
    rw [show ((O.pp s).take n).length = n by rw [List.length_take]; omega]
    exact hd_take hh (by omega)
  · have h2 := hp.mem_iff.2 (h.sub y hy)
    rw [hsp, List.mem_append, List.mem_singleton] at h2
    exact h2.resolve_right (hno y hy)
omit hO in
/-- The root, if it is there, is the list's first. -/
theorem NH.root (h : NH s L last) (hr : (L.map (·.1)).Pairwise (· < ·)) {x : Int} (hx : s[0]? = some x) (hm : x ∈ L.map (·.1)) : ∃ e rest, L = e :: rest ∧ e.1 = x := by
  have hrt := hd_root nuR_sw (Nat.le_refl _) h.hd
  cases L with
  | nil => cases hm
  | cons e rest =>
    refine ⟨e, rest, rfl, ?_⟩
    rw [List.map_cons, List.pairwise_cons] at hr
    obtain ⟨i, hi⟩ := List.mem_iff_getElem?.1 (h.sub e List.mem_cons_self)
    have h1 := hrt i (List.getElem?_eq_some_iff.1 hi).1
    unfold ltL at h1
    rw [hi, hx] at h1
    simp only [nuR, decide_eq_false_iff_not] at h1
    rw [List.map_cons, List.mem_cons] at hm
    rcases hm with hm | hm
    · exact hm.symm
    · have := hr.1 x hm
      omega
omit hO in
theorem NH.empty (h : NH [] L last) : L = [] := by
  cases L with
  | nil => rfl
  | cons e rest => cases h.sub e List.mem_cons_self
end
/-- The map's entries are the list's, in its order; each span's body lies in the footprint. -/
structure MLz (w : World) (G : Nat → Prop) (M : List ME) (L : List QE) : Prop where
  len : M.length = L.length
  at_ : ∀ (i : Nat) (p : ME) (x : QE), M[i]? = some p → L[i]? = some x → p.1 = x.1 ∧ ∃ a n c, p.2.1 = .agg #[.int .i64 x.2.1, .slice a n c] ∧ SlR (Rint .u8) w G a n c x.2.2
theorem MLz.keep {w w' : World} {G G' : Nat → Prop} {M : List ME} {L : List QE} (h : MLz w G M L) (hk : ∀ k, G k → k < w.heap.size → w'.heap[k]? = w.heap[k]? ∧ G' k) : MLz w' G' M L :=
  ⟨h.len, fun i p x h1 h2 => by
    obtain ⟨e1, a, n, c, e2, h3⟩ := h.at_ i p x h1 h2
    exact ⟨e1, a, n, c, e2, h3.keep hk⟩⟩
theorem MLz.keys {w : World} {G : Nat → Prop} {M : List ME} {L : List QE} (h : MLz w G M L) : M.map (·.1) = L.map (·.1) := by
  refine List.ext_getElem? fun i => ?_
  rw [List.getElem?_map, List.getElem?_map]
  rcases Nat.lt_or_ge i M.length with hi | hi
  · have hi' : i < L.length := by rw [← h.len]; exact hi
    obtain ⟨e, _⟩ := h.at_ i M[i] L[i] (List.getElem?_eq_getElem hi) (List.getElem?_eq_getElem hi')
    rw [List.getElem?_eq_getElem hi, List.getElem?_eq_getElem hi']
    exact congrArg some e
  · rw [List.getElem?_eq_none hi, List.getElem?_eq_none (by rw [← h.len]; exact hi)]
    rfl
/-- What a queue's blocks hold. -/
structure QuS (qb mb : Nat) (cap last : Int) (ws bys s : List Int) (M : List ME) (c : Nat) (L : List QE) (wv lv bv : Value) (w : World) (F : Nat → Prop) : Prop where
  q : w.heap[qb]? = some (.cells ⟨[.int .i64 cap, wv, .map (some mb), lv, bv, .int .u64 last]⟩ 105 (0, 0))
  Fq : F qb
  ws : w.ownsRow 0 3 1 wv ws.length (ws.map (.int .i64))
  Fw : ∀ k, wv.ownBlock = some k → F k
  ls : w.ownsRow 0 59 1 lv s.length (s.map (.int .u64))
  Fl : ∀ k, lv.ownBlock = some k → F k
  bs : w.ownsRow 0 3 1 bv bys.length (bys.map (.int .i64))
  Fb : ∀ k, bv.ownBlock = some k → F k
  wb : ∀ k, wv.ownBlock = some k → bv.ownBlock ≠ some k
  m : w.heap[mb]? = some (mapO .u64 M c)
  Fm : F mb
  mok : MOk M c
  sl : s.length ≤ 1073741824
  ml : MLz w (fun k => F k ∧ ¬ (k = qb ∨ k = mb ∨ wv.ownBlock = some k ∨ lv.ownBlock = some k ∨ bv.ownBlock = some k)) M L
theorem QuS.keep {qb mb : Nat} {cap last : Int} {ws bys s : List Int} {M : List ME} {c : Nat} {L : List QE} {wv lv bv : Value} {w w' : World} {A B : Nat → Prop} (h : QuS qb mb cap last ws bys s M c L wv lv bv w A) (hk : ∀ k, A k → k < w.heap.size → w'.heap[k]? = w.heap[k]? ∧ B k) : QuS qb mb cap last ws bys s M c L wv lv bv w' B where
  q := ((hk qb h.Fq (heap_lt h.q)).1).trans h.q
  Fq := (hk qb h.Fq (heap_lt h.q)).2
  ws := own_keep h.ws fun k hv => (hk k (h.Fw k hv) (World.ownsRow.lt h.ws k hv).2).1
  Fw := fun k hv => (hk k (h.Fw k hv) (World.ownsRow.lt h.ws k hv).2).2
  ls := own_keep h.ls fun k hv => (hk k (h.Fl k hv) (World.ownsRow.lt h.ls k hv).2).1
  Fl := fun k hv => (hk k (h.Fl k hv) (World.ownsRow.lt h.ls k hv).2).2
  bs := own_keep h.bs fun k hv => (hk k (h.Fb k hv) (World.ownsRow.lt h.bs k hv).2).1
  Fb := fun k hv => (hk k (h.Fb k hv) (World.ownsRow.lt h.bs k hv).2).2
  wb := h.wb
  m := ((hk mb h.Fm (heap_lt h.m)).1).trans h.m
  Fm := (hk mb h.Fm (heap_lt h.m)).2
  mok := h.mok
  sl := h.sl
  ml := h.ml.keep fun k hA hlt => ⟨(hk k hA.1 hlt).1, (hk k hA.1 hlt).2, hA.2⟩
def sizeQ (x : QE) : Int := (x.2.2.length : Int) + 16
/-- A class's bytes. -/
def bsum (L : List QE) (c : Nat) : Int := ((L.filter fun x => decide (x.2.1 = (c : Int))).map sizeQ).sum
/-- A queue that is asx it may be. -/
structure QOk (cap last : Int) (ws : List Int) (L : List QE) : Prop where
  srt : (L.map (·.1)).Pairwise (· < ·)
  pos : ∀ x ∈ L, 0 ≤ x.1 ∧ x.1 ≤ last
  cls : ∀ x ∈ L, 0 ≤ x.2.1 ∧ x.2.1 < (ws.length : Int) ∧ x.2.1 < 8 ∧ x.2.2.length ≤ 4096
  fit : last ≤ 18446744073709551615
def quA (qb : Nat) (cap last : Int) (ws : List Int) (L : List QE) (K : Nat) : Vp :=
  ⟨fun w F _ => ∃ mb bys s M c wv lv bv, QuS qb mb cap last ws bys s M c L wv lv bv w F ∧ NH s L last ∧ bys = (List.range ws.length).map (bsum L) ∧ c ≤ K ∧ s.length ≤ c,
   fun ⟨mb, bys, s, M, c, wv, lv, bv, h, h2⟩ hk => ⟨mb, bys, s, M, c, wv, lv, bv, h.keep hk, h2⟩⟩

def quV (qb mb : Nat) (cap last : Int) (ws bys s : List Int) (M : List ME) (c : Nat) (L : List QE) (wv lv bv : Value) : Vp :=
  ⟨fun w F _ => QuS qb mb cap last ws bys s M c L wv lv bv w F, fun h hk => h.keep hk⟩
abbrev qptr (qb : Nat) : Value := .pointer (some ⟨qb, 0, none⟩)
section
variable {qb mb : Nat} {cap last : Int} {ws bys s : List Int} {M : List ME} {c K : Nat} {L : List QE} {wv lv bv : Value} {w : World} {F : Nat → Prop}
theorem QuS.cell (h : QuS qb mb cap last ws bys s M c L wv lv bv w F) {j : Nat} {u : Value} (hu : [.int .i64 cap, wv, .map (some mb), lv, bv, .int .u64 last][j]? = some u) : w.cell? ⟨qb, j, none⟩ = some u := by
  have hj := (List.getElem?_eq_some_iff.1 hu).1
  exact (Sl.of_blk (n := 6) (sz := 1) (off := 0) (xs := [.int .i64 cap, wv, .map (some mb), lv, bv, .int .u64 last]) h.q rfl (fun j u hu => by rw [Nat.zero_add]; exact hu)).at_ (j := j) (by simp at hj; omega) hu |> fun h => by rwa [Nat.zero_add] at h
theorem q_len (h : (quA qb cap last ws L K).at_ w F (.bool true)) : Calls Try.prog 33 #[qptr qb] w fun e w' => e = .returned (.int .i64 (L.length : Int)) ∧ Below w.heap.size w w' := by
  obtain ⟨mb, bys, s, M, c, wv, lv, bv, hS, _⟩ := h
  obtain ⟨F2, hst⟩ := Hp.startR (p := quV qb mb cap last ws bys s M c L wv lv bv) (v := .bool true) hS
  refine enter1 Try.func33 rfl rfl hst ?_
  repeat (first | refine T_seq ?_ | refine T_region ?_ | refine S_nil ?_ | refine S_pure tabOk rfl ?_)
  refine S_q (Q_eqptr tabOk rfl rfl rfl rfl rfl) ?_
  repeat (first | refine T_seq ?_ | refine T_region ?_ | refine S_nil ?_ | refine pthen_normal ?_ | refine T_skip ?_ | refine T_cond_f rfl ?_ | refine S_pure tabOk rfl ?_)
  refine S_load1 tabOk (v := .map (some mb)) rfl rfl (fun w' hw => QuS.cell (hw.own _ (getE_mem (i := 0) rfl)).1 (j := 2) rfl) ?_
  skip
  refine S_q (Q_maplen tabOk rfl rfl rfl rfl (fun w' hw => QuS.m (hw.own _ (getE_mem (i := 0) rfl)).1)) ?_
  repeat (first | refine S_nil ?_ | refine T_ret ?_ | refine S_pure tabOk rfl ?_)
  exact ret1 rfl rfl (fun w' hw => ⟨by rw [← hS.ml.len], hw.below (by repeat (first | exact new_nil | refine new_ro ?_))⟩)
set_option maxHeartbeats 1000000 in
theorem q_numbers (h : (quA qb cap last ws L K).at_ w F (.bool true)) (hL : (L.map (·.1)).Pairwise (· < ·)) (hn : L.length ≤ 65535) : Calls Try.prog 31 #[qptr qb] w fun e w' => ∃ v, e = .returned v ∧ NilOr v (L.map (·.1)) ∧ Hp w w' [uRow w.heap.size v (L.map (·.1))] := by
  obtain ⟨mb, bys, s, M, c, wv, lv, bv, hS, _⟩ := h
  obtain ⟨F2, hst⟩ := Hp.startR (p := quV qb mb cap last ws bys s M c L wv lv bv) (v := .bool true) hS
  refine enter1 Try.func31 rfl rfl hst ?_
  repeat (first | refine T_seq ?_ | refine T_region ?_ | refine S_nil ?_ | refine S_pure tabOk rfl ?_)
  refine S_q (Q_eqptr tabOk rfl rfl rfl rfl rfl) ?_
  repeat (first | refine T_seq ?_ | refine T_region ?_ | refine S_nil ?_ | refine pthen_normal ?_ | refine T_skip ?_ | refine T_cond_f rfl ?_ | refine S_pure tabOk rfl ?_)
  refine S_load1 tabOk (v := .map (some mb)) rfl rfl (fun w' hw => QuS.cell (hw.own _ (getE_mem (i := 0) rfl)).1 (j := 2) rfl) ?_
  skip
  refine S_call rfl Try.call55 (fun w1 h1 => (qkeys_ok h1).mono fun e w' ⟨B, hB, e1, h2⟩ => ⟨_, _, e1, h2, ?_⟩)
  skip
  refine S_call rfl Try.call54 (fun w1 h1 => ?_)
  have hB1 : w1.heap[B]? = _ := h1.own _ (getE_mem (i := 0) rfl)
  have hm1 := QuS.m (h1.own _ (getE_mem (i := 1) rfl)).1
  have hit : Itr 70 #[.pointer (some ⟨B, 0, none⟩)] KeepsWalks (fun ss => ss.Perm (M.map (·.1))) (fun _ => True) M.length w1 :=
    ⟨Try.call70, by have := hS.ml.len; omega, kp_walks _, qkeys_stops B mb c M hS.mok w1 (heap_lt hB1) (by simp [World.cell?, hB1]) hm1⟩
  refine (sorted_ok hit (fun ss hs => by have := hs.length_eq; rw [List.length_map] at this; have := hS.ml.len; omega)).mono fun e w' ⟨v, ss, ts, e1, hp1, hp2, hsrt, hnil, h2⟩ => ⟨v, _, e1, h1.fresh (h2.below (newrow h2 0 rfl (Nat.le_refl _) new_nil)) (x := uRow w.heap.size v ts) (ownsRow_base (h2.own _ List.mem_cons_self) h1.size) (fun k hk => (World.ownsRow.lt (h2.own _ List.mem_cons_self) k hk).1), ?_⟩
  have hts : ts = L.map (·.1) := by
    rw [← hS.ml.keys]
    refine List.Perm.eq_of_pairwise (le := fun a b : Int => a ≤ b) (fun a b _ _ h1 h2 => by omega) hsrt ?_ (hp2.trans hp1)
    rw [hS.ml.keys]
    exact hL.imp fun h => by omega
  subst hts
  repeat (first | refine S_nil ?_ | refine T_ret ?_ | refine S_pure tabOk rfl ?_)
  exact ret1 rfl rfl (fun w' hw => ⟨v, rfl, hnil, hw.less (by repeat (first | exact Less.nil | refine Less.keep ?_ | refine Less.dropR ?_ | refine Less.dropB (by first | assumption | omega) ?_))⟩)
end

theorem bsum_nn (L : List QE) (c : Nat) : 0 ≤ bsum L c ∧ bsum L c ≤ ((L.map sizeQ).sum) := by
  unfold bsum
  induction L with
  | nil => exact ⟨Int.le_refl _, Int.le_refl _⟩
  | cons x L ih =>
    have hx : 0 ≤ sizeQ x := by unfold sizeQ; omega
    rw [List.filter_cons]
    split
    · simp only [List.map_cons, List.sum_cons]
      omega
    · simp only [List.map_cons, List.sum_cons]
      omega
theorem size_sum (L : List QE) (h : ∀ x ∈ L, x.2.2.length ≤ 4096) : 0 ≤ (L.map sizeQ).sum ∧ (L.map sizeQ).sum ≤ (L.length : Int) * 4112 := by
  induction L with
  | nil => exact ⟨Int.le_refl _, by simp⟩
  | cons x L ih =>
    have h1 := h x List.mem_cons_self
    have h2 := ih fun y hy => h y (List.mem_cons_of_mem _ hy)
    have hx : sizeQ x = (x.2.2.length : Int) + 16 := rfl
    simp only [List.map_cons, List.sum_cons, List.length_cons]
    omega
/-- All classes' bytes are all sizes. -/
theorem bsum_all (n : Nat) : ∀ (L : List QE), (∀ x ∈ L, 0 ≤ x.2.1 ∧ x.2.1 < (n : Int)) → ((List.range n).map (bsum L)).sum = (L.map sizeQ).sum
  | [], _ => by
    have : ∀ k : Nat, ((List.range k).map (bsum [])).sum = 0 := fun k => by
      induction k with
      | zero => rfl
      | succ k ih => rw [List.range_succ, List.map_append, List.sum_append, ih]; rfl
    rw [this]; rfl
  | x :: L, h => by
    have ih := bsum_all n L fun y hy => h y (List.mem_cons_of_mem _ hy)
    have hx := h x List.mem_cons_self
    have e1 : ∀ c : Nat, bsum (x :: L) c = (if x.2.1 = (c : Int) then sizeQ x else 0) + bsum L c := fun c => by
      unfold bsum
      rw [List.filter_cons]
      by_cases hc : x.2.1 = (c : Int)
      · rw [if_pos (by simp [hc]), if_pos hc, List.map_cons, List.sum_cons]
      · rw [if_neg (by simp [hc]), if_neg hc, Int.zero_add]
    have e2 : ∀ k : Nat, ((List.range k).map (bsum (x :: L))).sum = (if x.2.1 < (k : Int) then sizeQ x else 0) + ((List.range k).map (bsum L)).sum := fun k => by
      induction k with
      | zero => rw [if_neg (by omega)]; rfl
      | succ k ih2 =>
        rw [List.range_succ, List.map_append, List.map_append, List.sum_append, List.sum_append, ih2]
        simp only [List.map_cons, List.map_nil, List.sum_cons, List.sum_nil, e1]
        by_cases hk : x.2.1 < (k : Int)
        · rw [if_pos hk, if_neg (by omega), if_pos (by omega)]; omega
        · by_cases hk2 : x.2.1 = (k : Int)
          · rw [if_neg hk, if_pos hk2, if_pos (by omega)]; omega
          · rw [if_neg hk, if_neg hk2, if_neg (by omega)]; omega
    rw [e2, if_pos hx.2, ih, List.map_cons, List.sum_cons]
section
variable {qb : Nat} {cap last : Int} {ws : List Int} {L : List QE} {K : Nat} {w : World} {F : Nat → Prop}
theorem QuS.bcell {mb c : Nat} {bys s : List Int} {M : List ME} {wv lv bv : Value} (h : QuS qb mb cap last ws bys s M c L wv lv bv w F) {i : Nat} (hi : i < bys.length) : ∃ g cc, bv = .slice (some ⟨g, 0, none⟩) bys.length cc ∧ bys.length ≤ cc ∧ w.cell? ⟨g, 0 + i, none⟩ = some (.int .i64 bys[i]) := by
  have h2 := h.bs
  obtain ⟨a, cc, rfl, h3, _⟩ := form_of_own h2
  obtain ⟨g, junk, rfl, _⟩ := own_open h2 (by omega)
  refine ⟨g, cc, rfl, h3, ?_⟩
  rw [Nat.zero_add]
  exact own_cell h2 (by omega) (by rw [List.getElem?_map, List.getElem?_eq_getElem hi]; rfl)
set_option maxHeartbeats 1000000 in
theorem q_bytes (h : (quA qb cap last ws L K).at_ w F (.bool true)) (hok : QOk cap last ws L) (hn : L.length ≤ 1048576) (hw8 : ws.length ≤ 8) : Calls Try.prog 37 #[qptr qb] w fun e w' => e = .returned (.int .i64 (L.map sizeQ).sum) ∧ Below w.heap.size w w' := by
  obtain ⟨mb, bys, s, M, c, wv, lv, bv, hS, _, hbys, _⟩ := h
  have hall := bsum_all ws.length L fun x hx => ⟨(hok.cls x hx).1, (hok.cls x hx).2.1⟩
  have hsz := size_sum L fun x hx => (hok.cls x hx).2.2.2
  have hbl : bys.length = ws.length := by rw [hbys]; simp
  have hbb : ∀ x ∈ bys, 0 ≤ x ∧ x ≤ 8589934592 := fun x hx => by
    rw [hbys] at hx
    obtain ⟨k, _, rfl⟩ := List.mem_map.1 hx
    have := bsum_nn L k
    omega
  obtain ⟨F2, hst⟩ := Hp.startR (p := quV qb mb cap last ws bys s M c L wv lv bv) (v := .bool true) hS
  refine enter1 Try.func37 rfl rfl hst ?_
  repeat (first | refine T_seq ?_ | refine T_region ?_ | refine S_nil ?_ | refine S_pure tabOk rfl ?_)
  refine S_q (Q_eqptr tabOk rfl rfl rfl rfl rfl) ?_
  repeat (first | refine T_seq ?_ | refine T_region ?_ | refine S_nil ?_ | refine pthen_normal ?_ | refine T_skip ?_ | refine T_cond_f rfl ?_ | refine S_pure tabOk rfl ?_)
  refine S_load1 tabOk (v := bv) rfl rfl (fun w' hw => QuS.cell (hw.own _ (getE_mem (i := 0) rfl)).1 (j := 4) rfl) ?_
  obtain ⟨a, cc, rfl, _⟩ := form_of_own hS.bs
  repeat (first | refine T_block ?_ | refine S_nil ?_ | refine S_pure tabOk rfl ?_)
  have hsm : ∀ k, 0 ≤ (bys.take k).sum ∧ (bys.take k).sum ≤ (k : Int) * 8589934592 := fun k => by
    induction k with
    | zero => simp
    | succ k ih =>
      by_cases hk : k < bys.length
      · rw [List.take_succ_eq_append_getElem hk, List.sum_append]
        have := hbb bys[k] (List.getElem_mem hk)
        simp only [List.sum_cons, List.sum_nil]
        omega
      · rw [List.take_of_length_le (by omega)] at ih ⊢
        omega
  refine T_loop (ι := Nat) (fun i => [(11, .slice a bys.length cc), (12, .int .i64 (bys.length : Int)), (13, .int .i64 (i : Int)), (3, .int .i64 (bys.take i).sum)]) (fun _ => [.rep (fun w => (quV qb mb cap last ws bys s M c L wv lv (.slice a bys.length cc)).at_ w F2 (.bool true)) F2 false]) (fun i => i ≤ bys.length) (fun i => bys.length - i) 0 (Nat.zero_le _) (by repeat (first | exact Sub.nil | refine Sub.cons rfl ?_)) (fun _ hw => hw) ?_
  rintro k hk
  try dsimp only at hk ⊢
  have hk1 := hsm k
  repeat (first | refine T_seq ?_ | refine T_region ?_ | refine S_nil ?_ | refine S_pure tabOk rfl ?_)
  refine T_cond_dec rfl (fun hlt => ?_) (fun hlt => ?_)
  · have hkl : k < bys.length := by omega
    obtain ⟨g, cc', e1, _, _⟩ := hS.bcell hkl
    cases e1
    have hx := hbb bys[k] (List.getElem_mem hkl)
    repeat (first | refine T_seq ?_ | refine T_region ?_ | refine T_block ?_ | refine pthen_normal ?_ | refine T_skip ?_)
    refine S_q (Q_idx1 tabOk rfl rfl rfl rfl rfl rfl rfl (j := k) rfl (by omega)) ?_
    refine S_load1 tabOk (v := .int .i64 bys[k]) rfl rfl (fun w' hw => by
      obtain ⟨g', cc', e1, _, h9⟩ := QuS.bcell (hw.own _ (getE_mem (i := 0) rfl)).1 hkl
      cases e1
      exact h9) ?_
    repeat (first | refine T_region ?_ | refine S_nil ?_ | refine pthen_normal ?_ | refine inb_normal ?_ | refine S_i64 tabOk rfl (by omega) ?_ | refine S_pure tabOk rfl ?_ | refine T_region_any ?_)
    exact ⟨k + 1, by omega, by
      rw [show (bys.take (k + 1)).sum = (bys.take k).sum + bys[k] by rw [List.take_succ_eq_append_getElem hkl, List.sum_append]; simp]
      repeat (first | exact Sub.nil | refine Sub.cons rfl ?_), fun _ h => h, by omega⟩
  · have hkl : k = bys.length := by omega
    subst hkl
    repeat (first | refine T_seq ?_ | refine T_region ?_ | refine S_nil ?_ | refine pthen_normal ?_ | refine inb_hit ?_ | refine pthen_exit ?_ | refine T_ret ?_ | refine T_exit ?_ | refine S_pure tabOk rfl ?_)
    exact ret1 rfl rfl (fun w' hw => ⟨by rw [List.take_of_length_le (Nat.le_refl _), hbys, hall], hw.below (by repeat (first | exact new_nil | refine new_ro ?_))⟩)
end

theorem ResIs.cellO {P : Program} {tb : Tab} {w0 : World} {l : FL} {o : OL} (ht : TabOk P tb) (i : Nat) {t ty b : Nat} {ti : TI} {cs : List Value} {e : TypeId} {fz : Nat × Nat} {r : Bool} {v : Value} (hl : look l t = some (.pointer (some ⟨b, 0, none⟩))) (hti : tl tb ty = some ti) (hi : getE o i = some (.blk b (.cells ⟨cs⟩ e fz) r)) (hv : loadOf ti cs 0 = some v) : ResIs P w0 l o (.cell t ty) v :=
  ⟨_, hl, fun w hw => loadVar_own ht hti (hw.own _ (getE_mem hi)) hv⟩
/-- a span: its class, its bytes, where they lie -/
structure Sq where
  to : Int
  bs : List Int
  a : Option Addr
  c : Nat
abbrev cellQ (p : Sq) : List Value := [.int .i64 p.to, .slice p.a p.bs.length p.c]
set_option maxHeartbeats 2000000 in
theorem qown_ok {p : Sq} (w : World) (hpi : Ints .u8 w p.a p.bs.length p.c p.bs) (hb : p.bs.length ≤ 70000) : Calls Try.prog 51 #[.agg ⟨cellQ p⟩] w fun e w' => ∃ a c, e = .returned (.agg ⟨cellQ ⟨p.to, p.bs, a, c⟩⟩) ∧ Below w.heap.size w w' ∧ w'.ownsRow w.heap.size 5 1 (.slice a (p.bs).length c) (p.bs).length ((p.bs).map (.int .u8)) := by
  refine enter1 Try.func51 rfl rfl (Hp.refl w) ?_
  repeat (first | refine T_seq ?_ | refine T_region ?_)
  refine S_new tabOk rfl (fun b1 hb1 => ?_)
  skip
  refine S_new tabOk rfl (fun b2 hb2 => ?_)
  repeat (first | refine T_seq ?_ | refine S_nil ?_)
  let lst : Bool → Bool → Bool → Value × (Unit) → Value × (Unit) → OL := fun l4 l5 l6 x4 x5 =>
    .blk b2 (.cells ⟨cond l6 [.int .i64 p.to, x4.1] [.int .i64 0, .slice none 0 0]⟩ 52 (0, 0)) true :: .blk b1 (.cells ⟨cellQ p⟩ 52 (0, 0)) true :: (cond l4 [.row w.heap.size x4.1 5 1 (p.bs).length ((p.bs).map (.int .u8))] [] ++ cond l5 [factE (x5.1 = .agg ⟨[.int .i64 p.to, x4.1]⟩)] [])
  refine T_drawF (γ := Unit) (by kernel_rfl) (by kernel_rfl) () (fun L f => lst (L 4) (L 5) (L 6) (f 4) (f 5)) rfl [some (.pointer (some ⟨b1, 0, none⟩)), some (.int .i64 p.to), some (.pointer (some ⟨b1, 1, none⟩)), some (.slice p.a p.bs.length p.c), none, none, none] ?_ ?_
  · refine ⟨?_, ?_, ?_, ?_, ?_, ?_, ?_, trivial⟩
    · exact fun L f hc hl hp => OpA.told () rfl (D_pure tabOk rfl D_last) rfl
    · intro L f hc hl hp
      have h5 := closed_no hc (j := 5) rfl ⟨1, .data⟩ (by simp) rfl hl
      have h6 := closed_no hc (j := 6) rfl ⟨1, .phase⟩ (by simp) rfl hl
      show OpA _ _ _ _ (lst (L 4) (L 5) (L 6) (f 4) (f 5)) (fun y => lst (L 4) (L 5) (L 6) (f 4) (f 5)) _ _ _
      rw [h5, h6]
      exact OpA.told () rfl (D_load tabOk 1 rfl rfl rfl D_last) rfl
    · exact fun L f hc hl hp => OpA.told () rfl (D_pure tabOk rfl D_last) rfl
    · intro L f hc hl hp
      have h4 := closed_no hc (j := 4) rfl ⟨3, .data⟩ (by simp) rfl hl
      have h5 := closed_no hc (j := 5) rfl ⟨4, .data⟩ (by simp) rfl h4
      have h6 := closed_no hc (j := 6) rfl ⟨3, .phase⟩ (by simp) rfl hl
      show OpA _ _ _ _ (lst (L 4) (L 5) (L 6) (f 4) (f 5)) (fun y => lst (L 4) (L 5) (L 6) (f 4) (f 5)) _ _ _
      rw [h4, h5, h6]
      exact OpA.told () rfl (D_load tabOk 1 rfl rfl rfl D_last) rfl
    · intro L f hc hl hp
      have h5 := closed_no hc (j := 5) rfl ⟨4, .data⟩ (by simp) rfl hl
      have h6 := closed_no hc (j := 6) rfl ⟨4, .chain⟩ (by simp) rfl hl
      show OpA _ _ _ _ (lst (L 4) (L 5) (L 6) (f 4) (f 5)) (fun y => lst true (L 5) (L 6) y (f 5)) _ _ _
      rw [hl, h5, h6]
      refine OpA.callrow rfl Try.call66 (fun w1 vs hw1 h => by
        obtain ⟨u1, _, rfl, rfl, u2, _, rfl, rfl, rfl⟩ := h
        exact clone_ok p.a p.bs.length p.c p.bs w1 (ints_ext hpi (hw1.below (by repeat (first | exact new_nil | refine new_cons (by first | assumption | omega) ?_)))) (by omega)) (fun w1 v hw1 => ⟨(), hw1.perm (by repeat (first | exact List.Perm.refl _ | refine (List.Perm.swap _ _ _).trans (List.Perm.cons _ ?_)))⟩)
    · intro L f hc hl hp
      have h4 : L 4 = true := hp ⟨4, .data⟩ (by simp) rfl
      have h6 := closed_no hc (j := 6) rfl ⟨5, .data⟩ (by simp) rfl hl
      show OpA _ _ _ _ (lst (L 4) (L 5) (L 6) (f 4) (f 5)) (fun y => lst (L 4) true (L 6) (f 4) y) _ _ _
      rw [hl, h4, h6]
      refine OpA.pre (X := ∃ A C, (f 4).1 = .slice A (p.bs).length C) (fun w hw => ?_) (fun d h => by cases h; decide) ?_
      · obtain ⟨A, C, e2, _⟩ := hw.rowForm 2 rfl
        exact ⟨A, C, e2⟩
      · rintro ⟨A', C', e2⟩
        refine OpA.swap (dl' := [(4, .ex (.int .i64 p.to)), (7, .ex (f 4).1)]) (List.forall_mem_cons.2 ⟨rfl, List.forall_mem_cons.2 ⟨rfl, fun _ h => nomatch h⟩⟩) ?_
        generalize f 4 = x4 at *
        obtain ⟨x4, g4⟩ := x4
        dsimp only at e2
        subst e2
        exact OpA.known () rfl (D_q (Q_build tabOk rfl rfl rfl rfl rfl rfl rfl) D_last) (fun w hw => (hw.addF rfl).perm (by repeat (first | exact List.Perm.refl _ | refine (List.Perm.swap _ _ _).trans (List.Perm.cons _ ?_))))
    · intro L f hc hl hp
      have h4 : L 4 = true := hp ⟨4, .chain⟩ (by simp) rfl
      have h5 : L 5 = true := hp ⟨5, .data⟩ (by simp) rfl
      show OpA _ _ _ _ (lst (L 4) (L 5) (L 6) (f 4) (f 5)) (fun y => lst (L 4) (L 5) true (f 4) (f 5)) _ _ _
      rw [hl, h4, h5]
      refine OpA.pre (X := (∃ A C, (f 4).1 = .slice A (p.bs).length C) ∧ (f 5).1 = .agg ⟨[.int .i64 p.to, (f 4).1]⟩) (fun w hw => ?_) (fun d h => by cases h) ?_
      · obtain ⟨A, C, e2, _⟩ := hw.rowForm 2 rfl
        exact ⟨⟨A, C, e2⟩, hw.fact 3 rfl⟩
      · rintro ⟨⟨A', C', e2⟩, e3⟩
        refine OpA.swap (dl' := [(2, .ex (.pointer (some ⟨b2, 0, none⟩))), (8, .ex (f 5).1)]) (List.forall_mem_cons.2 ⟨rfl, List.forall_mem_cons.2 ⟨rfl, fun _ h => nomatch h⟩⟩) ?_
        generalize f 4 = x4 at *
        generalize f 5 = x5 at *
        obtain ⟨x4, g4⟩ := x4
        obtain ⟨x5, g5⟩ := x5
        dsimp only at e2 e3
        subst e2
        subst e3
        exact OpS.toF () (fun u h => by cases h) (OpS.store tabOk 0 rfl rfl (fun u h => by simp only [List.mem_cons, List.not_mem_nil, or_false] at h; rcases h with rfl | rfl <;> rfl) rfl rfl rfl)
  · intro L f w5 hL hw
    change Hp _ _ (lst (L 4) (L 5) (L 6) (f 4) (f 5)) at hw
    rw [hL 4 (by decide), hL 5 (by decide), hL 6 (by decide)] at hw
    obtain ⟨A', C', e2, _⟩ := hw.rowForm 2 rfl
    generalize f 4 = x4 at hw e2 ⊢
    obtain ⟨x4, g4⟩ := x4
    have e3 : x4 = .slice A' (p.bs).length C' := e2
    subst e3
    refine ⟨[(2, .pointer (some ⟨b2, 0, none⟩))], [.blk b2 (.cells ⟨[.int .i64 p.to, .slice A' (p.bs).length C']⟩ 52 (0, 0)) true, .blk b1 (.cells ⟨cellQ p⟩ 52 (0, 0)) true, .row w.heap.size (.slice A' (p.bs).length C') 5 1 (p.bs).length ((p.bs).map (.int .u8)), factE ((f 5).1 = _)], (by repeat (first | exact SubD.nil | refine SubD.cons rfl ?_)), hw, ?_⟩
    repeat (first | refine T_ret ?_)
    exact ret1 rfl (ResIs.cellO tabOk 0 rfl rfl rfl rfl) (fun w' hw => ⟨A', C', rfl, hw.below (by repeat (first | exact new_nil | refine new_ro ?_ | refine new_cons (by first | assumption | omega) ?_ | refine newrow hw 2 rfl (Nat.le_refl _) ?_)), hw.own _ (getE_mem (i := 2) rfl)⟩)

section
variable {qb : Nat} {cap last : Int} {ws : List Int} {L : List QE} {K : Nat} {w : World} {F : Nat → Prop}
theorem q_class (h : (quA qb cap last ws L K).at_ w F (.bool true)) (c : Int) : Calls Try.prog 42 #[qptr qb, .int .i64 c] w fun e w' => e = .returned (.int .i64 (if 0 ≤ c ∧ c < (ws.length : Int) then bsum L c.toNat else 0)) ∧ Below w.heap.size w w' := by
  obtain ⟨mb, bys, s, M, cc, wv, lv, bv, hS, _, hbys, _⟩ := h
  obtain ⟨F2, hst⟩ := Hp.startR (p := quV qb mb cap last ws bys s M cc L wv lv bv) (v := .bool true) hS
  refine enter2 Try.func42 rfl rfl hst ?_
  repeat (first | refine T_seq ?_ | refine T_region ?_ | refine S_nil ?_ | refine S_pure tabOk rfl ?_)
  refine S_q (Q_eqptr tabOk rfl rfl rfl rfl rfl) ?_
  repeat (first | refine S_pure tabOk rfl ?_)
  have hbl : bys.length = ws.length := by rw [hbys]; simp
  by_cases hc : c < 0
  · rw [if_neg (by omega)]
    refine S_re 11 (v' := .bool true) rfl (congrArg Value.bool (decide_eq_true hc)) ?_
    repeat (first | refine S_nil ?_ | refine S_pure tabOk rfl ?_ | refine S_pass rfl rfl rfl ?_)
    refine T_cond_t rfl ?_
    repeat (first | refine T_seq ?_ | refine T_region ?_ | refine S_nil ?_ | refine pthen_ret ?_ | refine T_ret ?_ | refine S_pure tabOk rfl ?_)
    exact ret1 rfl rfl (fun w' hw => ⟨rfl, hw.below (by repeat (first | exact new_nil | refine new_ro ?_))⟩)
  refine S_re 11 (v' := .bool false) rfl (congrArg Value.bool (decide_eq_false hc)) ?_
  obtain ⟨a, cb, rfl, hcb⟩ := form_of_own hS.bs
  repeat (first | refine S_pure tabOk rfl ?_)
  refine S_load1 tabOk (v := .slice a bys.length cb) rfl rfl (fun w' hw => QuS.cell (hw.own _ (getE_mem (i := 0) rfl)).1 (j := 4) rfl) ?_
  repeat (first | refine S_nil ?_ | refine S_pure tabOk rfl ?_)
  refine T_cond_dec rfl (fun hge => ?_) (fun hge => ?_)
  · rw [if_neg (by omega)]
    repeat (first | refine T_seq ?_ | refine T_region ?_ | refine S_nil ?_ | refine pthen_ret ?_ | refine T_ret ?_ | refine S_pure tabOk rfl ?_)
    exact ret1 rfl rfl (fun w' hw => ⟨rfl, hw.below (by repeat (first | exact new_nil | refine new_ro ?_))⟩)
  · have hcl : c.toNat < bys.length := by omega
    obtain ⟨g, cc', e1, hcc, _⟩ := hS.bcell hcl
    cases e1
    rw [if_pos (by omega)]
    have hb : bys[c.toNat] = bsum L c.toNat := by simp [hbys]
    repeat (first | refine T_seq ?_ | refine T_region ?_ | refine pthen_normal ?_ | refine T_skip ?_ | refine S_pure tabOk rfl ?_)
    refine S_load1 tabOk (v := .slice (some ⟨g, 0, none⟩) bys.length cb) rfl rfl (fun w' hw => QuS.cell (hw.own _ (getE_mem (i := 0) rfl)).1 (j := 4) rfl) ?_
    repeat (first | refine S_pure tabOk rfl ?_)
    refine S_q (Q_idx1 tabOk rfl rfl rfl rfl rfl rfl rfl (j := c.toNat) (by omega) (by omega)) ?_
    refine S_load1 tabOk (v := .int .i64 bys[c.toNat]) rfl rfl (fun w' hw => by
      obtain ⟨g', cc', e1, _, h9⟩ := QuS.bcell (hw.own _ (getE_mem (i := 0) rfl)).1 hcl
      cases e1
      exact h9) ?_
    repeat (first | refine S_nil ?_ | refine T_ret ?_ | refine S_pure tabOk rfl ?_)
    exact ret1 rfl rfl (fun w' hw => ⟨by rw [hb], hw.below (by repeat (first | exact new_nil | refine new_ro ?_))⟩)
theorem q_takes (h : (quA qb cap last ws L K).at_ w F (.bool true)) (k : Int) (a : Option Addr) (n c : Nat) : Calls Try.prog 34 #[qptr qb, .agg #[.int .i64 k, .slice a n c]] w fun e w' => e = .returned (.bool (sright k n && decide (k < (ws.length : Int)))) ∧ Below w.heap.size w w' := by
  obtain ⟨mb, bys, s, M, cc, wv, lv, bv, hS, _, hbys, _⟩ := h
  obtain ⟨F2, hst⟩ := Hp.startR (p := quV qb mb cap last ws bys s M cc L wv lv bv) (v := .bool true) hS
  refine enter2 Try.func34 rfl rfl hst ?_
  repeat (first | refine T_seq ?_ | refine T_region ?_)
  refine S_new tabOk rfl (fun b3 hb3 => ?_)
  repeat (first | refine T_draw (by kernel_rfl) (by kernel_rfl) ?_ | refine D_pure tabOk rfl ?_ | refine T_seq ?_ | refine S_nil ?_ | refine S_pure tabOk rfl ?_)
  refine D_q (Q_neptr tabOk rfl rfl rfl rfl rfl) ?_
  repeat (first | refine D_pure tabOk rfl ?_ | refine D_load tabOk 0 rfl rfl rfl ?_)
  obtain ⟨a2, cw, rfl, hcw⟩ := form_of_own hS.ws
  cases hr : sright k n with
  | true =>
    refine D_callx (v := .bool true) rfl Try.call57 (fun w' vs hw' h => by
      obtain ⟨u1, _, rfl, rfl, rfl⟩ := h
      exact (spright_ok k a n c w').mono fun e w2 ⟨e1, e2⟩ => ⟨by rw [e1, hr], e2⟩) ?_
    repeat (first | refine D_pure tabOk rfl ?_ | refine D_load tabOk 0 rfl rfl rfl ?_)
    refine D_load1 tabOk (v := .slice a2 ws.length cw) rfl rfl (fun w' hw => QuS.cell (hw.own _ (getE_mem (i := 1) rfl)).1 (j := 1) rfl) ?_
    repeat (first | refine D_all rfl ?_ | refine D_pure tabOk rfl ?_ | refine T_ret ?_)
    exact ret1 rfl rfl (fun w' hw => ⟨by rw [Bool.true_and], hw.below (by repeat (first | exact new_nil | refine new_ro ?_ | refine new_cons (by first | assumption | omega) ?_))⟩)
  | false =>
    refine D_callx (v := .bool false) rfl Try.call57 (fun w' vs hw' h => by
      obtain ⟨u1, _, rfl, rfl, rfl⟩ := h
      exact (spright_ok k a n c w').mono fun e w2 ⟨e1, e2⟩ => ⟨by rw [e1, hr], e2⟩) ?_
    repeat (first | refine D_all rfl ?_ | refine D_pure tabOk rfl ?_ | refine D_pass rfl rfl rfl ?_ | refine T_ret ?_)
    exact ret1 rfl rfl (fun w' hw => ⟨by rw [Bool.false_and], hw.below (by repeat (first | exact new_nil | refine new_ro ?_ | refine new_cons (by first | assumption | omega) ?_))⟩)
end

def qFind (L : List QE) (n : Int) : Option QE := L.find? fun x => decide (x.1 = n)
theorem qFind_at : ∀ {L : List QE} {i : Nat} {x : QE}, (L.map (·.1)).Nodup → L[i]? = some x → qFind L x.1 = some x
  | y :: L, 0, x, _, h => by
    cases h
    simp [qFind]
  | y :: L, i + 1, x, hn, h => by
    rw [List.map_cons, List.nodup_cons] at hn
    have hx : x ∈ L := List.mem_of_getElem? h
    have hne : y.1 ≠ x.1 := fun e => hn.1 (List.mem_map.2 ⟨x, hx, e.symm⟩)
    have := qFind_at hn.2 (i := i) (x := x) (by simpa using h)
    unfold qFind at this ⊢
    rw [List.find?_cons_of_neg (by simpa using hne)]
    exact this
theorem qFind_none {L : List QE} {n : Int} (h : n ∉ L.map (·.1)) : qFind L n = none := by
  unfold qFind
  rw [List.find?_eq_none]
  intro x hx
  simp only [decide_eq_true_eq]
  exact fun e => h (List.mem_map.2 ⟨x, hx, e⟩)
section
variable {w : World} {G : Nat → Prop} {M : List ME} {L : List QE} {n : Int}
theorem MLz.hit (h : MLz w G M L) (hk : (M.map (·.1)).Nodup) {v : Value} (hg : mGet M n = some v) : ∃ (i : Nat) (p : ME) (x : QE), M[i]? = some p ∧ L[i]? = some x ∧ x.1 = n ∧ p.2.1 = v ∧ qFind L n = some x := by
  obtain ⟨p, hp, e1, e2⟩ := (mGet_iff hk n v).1 hg
  obtain ⟨i, hi⟩ := List.mem_iff_getElem?.1 hp
  have hil := (List.getElem?_eq_some_iff.1 hi).1
  obtain ⟨x, hx⟩ : ∃ x, L[i]? = some x := ⟨_, List.getElem?_eq_getElem (by rw [← h.len]; exact hil)⟩
  have h3 := (h.at_ i p x hi hx).1
  have h4 : x.1 = n := h3.symm.trans e1
  exact ⟨i, p, x, hi, hx, h4, e2, by rw [← h4]; exact qFind_at (by rw [← h.keys]; exact hk) hx⟩
theorem MLz.miss (h : MLz w G M L) (hg : mGet M n = none) : qFind L n = none := qFind_none (by rw [← h.keys]; exact mGet_mem.1 hg)
end
/-- what Get answers: class, bytes, is it there -/
def qGot (L : List QE) (n : Int) : Int × List Int × Bool := match qFind L n with
  | some x => (x.2.1, x.2.2, true)
  | none => (0, [], false)
section
variable {qb : Nat} {cap last : Int} {ws : List Int} {L : List QE} {K : Nat} {w : World} {F : Nat → Prop}
set_option maxHeartbeats 1000000 in
theorem q_get (h : (quA qb cap last ws L K).at_ w F (.bool true)) (hok : QOk cap last ws L) (n : Int) : Calls Try.prog 30 #[qptr qb, .int .u64 n] w fun e w' => ∃ a c, e = .returned (.tuple #[.agg #[.int .i64 (qGot L n).1, .slice a (qGot L n).2.1.length c], .bool (qGot L n).2.2]) ∧ Below w.heap.size w w' ∧ w'.ownsRow w.heap.size 5 1 (.slice a (qGot L n).2.1.length c) (qGot L n).2.1.length ((qGot L n).2.1.map (.int .u8)) := by
  obtain ⟨mb, bys, s, M, cc, wv, lv, bv, hS, _, hbys, _⟩ := h
  obtain ⟨F2, hst⟩ := Hp.startR (p := quV qb mb cap last ws bys s M cc L wv lv bv) (v := .bool true) hS
  refine enter2 Try.func30 rfl rfl hst ?_
  repeat (first | refine T_seq ?_ | refine T_region ?_)
  refine S_new tabOk rfl (fun b4 hb4 => ?_)
  repeat (first | refine T_seq ?_ | refine T_region ?_ | refine S_nil ?_ | refine S_pure tabOk rfl ?_)
  refine S_q (Q_eqptr tabOk rfl rfl rfl rfl rfl) ?_
  repeat (first | refine S_nil ?_)
  refine T_cond_f rfl ?_
  repeat (first | refine T_seq ?_ | refine T_region ?_ | refine pthen_normal ?_ | refine T_skip ?_ | refine S_pure tabOk rfl ?_)
  refine S_load1 tabOk (v := .map (some mb)) rfl rfl (fun w' hw => QuS.cell (hw.own _ (getE_mem (i := 1) rfl)).1 (j := 2) rfl) ?_
  repeat (first | refine S_pure tabOk rfl ?_)
  cases hg : mGet M n with
  | none =>
    have hm := hS.ml.miss hg
    have hgot : qGot L n = (0, [], false) := by unfold qGot; rw [hm]
    rw [hgot]
    refine S_q ((Q_look0 tabOk rfl rfl rfl rfl rfl rfl rfl rfl (fun w' hw => by exact QuS.m (hw.own _ (getE_mem (i := 1) rfl)).1) hg).eq (v' := .tuple #[.agg #[.int .i64 0, .slice none 0 0], .bool false]) rfl) ?_
    repeat (first | refine S_pure tabOk rfl ?_)
    refine S_new tabOk rfl (fun b6 hb6 => ?_)
    repeat (first | refine T_seq ?_ | refine T_region ?_ | refine S_nil ?_ | refine S_pure tabOk rfl ?_ | refine S_load tabOk 0 rfl rfl rfl ?_ | refine S_store tabOk 0 rfl rfl rfl rfl rfl rfl ?_)
    refine S_call rfl Try.call51 (fun w1 h1 => (qown_ok (p := ⟨0, [], none, 0⟩) w1 ⟨rfl, Nat.le_refl _, (by decide), fun _ => ⟨rfl, rfl⟩, (fun z hz => by cases hz), Sl.nil_⟩ (by simp)).mono fun e w' ⟨a1, c1, e1, hb1, hr⟩ => ⟨_, _, e1, h1.fresh hb1 (x := .row w.heap.size (.slice a1 0 c1) 5 1 0 []) (own_rebase hr h1.size) (fun j hj => (World.ownsRow.lt hr j hj).1), ?_⟩)
    repeat (first | refine S_nil ?_ | refine T_ret ?_ | refine S_pure tabOk rfl ?_ | refine S_store tabOk 2 rfl rfl rfl rfl rfl rfl ?_)
    exact ret2 rfl (ResIs.cellO tabOk 2 rfl rfl rfl rfl) rfl (fun w' hw => ⟨a1, c1, rfl, hw.below (by repeat (first | exact new_nil | refine new_ro ?_ | refine new_cons (by first | assumption | omega) ?_ | refine newrow hw 0 rfl (Nat.le_refl _) ?_)), hw.own _ (getE_mem (i := 0) rfl)⟩)
  | some u =>
    obtain ⟨i, p, x, hp, hx, rfl, rfl, hf⟩ := hS.ml.hit hS.mok.keys hg
    have hgot : qGot L x.1 = (x.2.1, x.2.2, true) := by unfold qGot; rw [hf]
    rw [hgot]
    obtain ⟨_, a, m, c, e2, h3⟩ := hS.ml.at_ i p x hp hx
    have hml := h3.len
    subst hml
    rw [e2] at hg
    refine S_q (Q_look1 tabOk rfl rfl rfl rfl rfl rfl rfl rfl (fun w' hw => QuS.m (hw.own _ (getE_mem (i := 1) rfl)).1) hg) ?_
    repeat (first | refine S_pure tabOk rfl ?_)
    refine S_new tabOk rfl (fun b6 hb6 => ?_)
    repeat (first | refine T_seq ?_ | refine T_region ?_ | refine S_nil ?_ | refine S_pure tabOk rfl ?_ | refine S_load tabOk 0 rfl rfl rfl ?_ | refine S_store tabOk 0 rfl rfl rfl rfl rfl rfl ?_)
    refine S_call rfl Try.call51 (fun w1 h1 => (qown_ok (p := ⟨x.2.1, x.2.2, a, c⟩) w1 (by
      obtain ⟨_, a', m', c', e2', h3'⟩ := (QuS.ml (h1.own _ (getE_mem (i := 2) rfl)).1).at_ i p x hp hx
      rw [e2] at e2'
      cases e2'
      exact h3'.ints) (by have := (hok.cls x (List.mem_of_getElem? hx)).2.2.2; show x.2.2.length ≤ _; omega)).mono fun e w' ⟨a1, c1, e1, hb1, hr⟩ => ⟨_, _, e1, h1.fresh hb1 (x := .row w.heap.size (.slice a1 x.2.2.length c1) 5 1 x.2.2.length (x.2.2.map (.int .u8))) (own_rebase hr h1.size) (fun j hj => (World.ownsRow.lt hr j hj).1), ?_⟩)
    repeat (first | refine S_nil ?_ | refine T_ret ?_ | refine S_pure tabOk rfl ?_ | refine S_store tabOk 2 rfl rfl rfl rfl rfl rfl ?_)
    exact ret2 rfl (ResIs.cellO tabOk 2 rfl rfl rfl rfl) rfl (fun w' hw => ⟨a1, c1, rfl, hw.below (by repeat (first | exact new_nil | refine new_ro ?_ | refine new_cons (by first | assumption | omega) ?_ | refine newrow hw 0 rfl (Nat.le_refl _) ?_)), hw.own _ (getE_mem (i := 0) rfl)⟩)
end

/-- .. wherever the numbers' row lies. -/
def quX (qb mb : Nat) (cap last : Int) (ws bys s : List Int) (M : List ME) (c : Nat) (L : List QE) (wv bv : Value) : Vp :=
  ⟨fun w F _ => ∃ lv, QuS qb mb cap last ws bys s M c L wv lv bv w F, fun ⟨lv, h⟩ hk => ⟨lv, h.keep hk⟩⟩
section
variable {qb mb : Nat} {cap last : Int} {ws bys s : List Int} {M : List ME} {c : Nat} {L : List QE} {wv lv bv : Value} {w : World} {F : Nat → Prop}
theorem QuS.nu (h : QuS qb mb cap last ws bys s M c L wv lv bv w F) : (nuP qb (.int .i64 cap) wv (.map (some mb)) bv (.int .u64 last) s).at_ w (fun k => k = qb ∨ lv.ownBlock = some k) (.bool true) :=
  ⟨lv, h.q, .inl rfl, h.ls, fun k hk => .inr hk, h.sl⟩
/-- The numbers have turned, all else is asx it was. -/
theorem QuS.turnNu (h : QuS qb mb cap last ws bys s M c L wv lv bv w F) {w' : World} {F1 : Nat → Prop} {s' : List Int} (h2 : Hp w w' [.rep (fun w => (nuP qb (.int .i64 cap) wv (.map (some mb)) bv (.int .u64 last) s').at_ w F1 (.bool true)) F1 true])
    (h1 : ∀ k, F1 k → (k = qb ∨ lv.ownBlock = some k) ∨ w.heap.size ≤ k) : ∃ lv', QuS qb mb cap last ws bys s' M c L wv lv' bv w' (fun k => F k ∨ F1 k) := by
  obtain ⟨⟨lv', k1, k2, k3, k4, k5⟩, _, hlt⟩ := h2.own _ List.mem_cons_self
  have hold : ∀ k o, w.heap[k]? = some o → k ≠ qb → lv.ownBlock ≠ some k → w'.heap[k]? = some o := fun k o ho n1 n2 => (h2.old k (heap_lt ho) fun e he _ hh => by
    rw [List.mem_singleton] at he
    subst he
    rcases h1 k hh with (h3 | h3) | h3
    · exact n1 h3
    · exact n2 h3
    · have := heap_lt ho; omega).trans ho
  have lrow : ∀ k, lv.ownBlock = some k → ∃ cur, w.heap[k]? = some (.cells cur 59 (0, 0)) := fun k hk => row_blk h.ls hk
  have wrow : ∀ k, wv.ownBlock = some k → k ≠ qb ∧ lv.ownBlock ≠ some k := fun k hk => by
    obtain ⟨cur, hc⟩ := row_blk h.ws hk
    exact ⟨cells_ne hc h.q (by decide), fun hl => by
      obtain ⟨cur2, hc2⟩ := lrow k hl
      exact cells_ne hc hc2 (by decide) rfl⟩
  have brow : ∀ k, bv.ownBlock = some k → k ≠ qb ∧ lv.ownBlock ≠ some k := fun k hk => by
    obtain ⟨cur, hc⟩ := row_blk h.bs hk
    exact ⟨cells_ne hc h.q (by decide), fun hl => by
      obtain ⟨cur2, hc2⟩ := lrow k hl
      exact cells_ne hc hc2 (by decide) rfl⟩
  have hmb : mb ≠ qb ∧ lv.ownBlock ≠ some mb := ⟨fun e => map_ne h.q h.m e.symm, fun hl => by
    obtain ⟨cur2, hc2⟩ := lrow mb hl
    exact map_ne hc2 h.m rfl⟩
  have kw : ∀ {v : Value} {E : TypeId} {n : Nat} {xs : List Value}, w.ownsRow 0 E 1 v n xs → (∀ k, v.ownBlock = some k → k ≠ qb ∧ lv.ownBlock ≠ some k) → w'.ownsRow 0 E 1 v n xs := fun hr hne => own_keep hr fun k hv => by
    obtain ⟨cur, hc⟩ := row_blk hr hv
    rw [hc]
    exact hold k _ hc (hne k hv).1 (hne k hv).2
  exact ⟨lv', k1, .inl h.Fq, kw h.ws wrow, fun k hk => .inl (h.Fw k hk), k3, fun k hk => .inr (k4 k hk), kw h.bs brow, fun k hk => .inl (h.Fb k hk), h.wb, hold mb _ h.m hmb.1 hmb.2, .inl h.Fm, h.mok, k5,
    h.ml.keep fun k hk hl => by
      obtain ⟨hkF, hkn⟩ := hk
      obtain ⟨o, ho⟩ : ∃ o, w.heap[k]? = some o := ⟨_, Array.getElem?_eq_getElem hl⟩
      refine ⟨by rw [ho]; exact hold k o ho (fun e => hkn (.inl e)) (fun e => hkn (.inr (.inr (.inr (.inl e))))), .inl hkF, ?_⟩
      rintro (e | e | e | e | e)
      · exact hkn (.inl e)
      · exact hkn (.inr (.inl e))
      · exact hkn (.inr (.inr (.inl e)))
      · rcases h1 k (k4 k e) with (h3 | h3) | h3
        · exact hkn (.inl h3)
        · exact hkn (.inr (.inr (.inr (.inl h3))))
        · omega
      · exact hkn (.inr (.inr (.inr (.inr e))))⟩
theorem qlow_pop (h : QuS qb mb cap last ws bys s M c L wv lv bv w F) (hF : ∀ k, F k → k < w.heap.size) {x : Int} (hx : s[0]? = some x) : Calls Try.prog 46 #[nuI qb] w fun e w' => (∃ y, e = .returned (.iface 59 (.int .u64 y))) ∧
    Hp w w' [.rep (fun w => (quX qb mb cap last ws bys (((nuOb qb (.int .i64 cap) wv (.map (some mb)) bv (.int .u64 last)).pp s).take (s.length - 1)) M c L wv bv).at_ w F (.bool true)) F true] := by
  refine (nuheap_pop h.nu (fun k hk => ?_) hx).mono fun e w' ⟨he, h8⟩ => ⟨he, ?_⟩
  · rcases hk with rfl | hk
    · exact heap_lt h.q
    · exact (World.ownsRow.lt h.ls k hk).2
  · obtain ⟨lv', hS⟩ := h.turnNu h8 fun k hk => .inl hk
    have hsub : ∀ k, (k = qb ∨ lv.ownBlock = some k) → F k := fun k hk => by
      rcases hk with rfl | hk
      · exact h.Fq
      · exact h.Fl k hk
    refine h8.widen hsub ⟨lv', hS.keep fun k hk _ => ⟨rfl, hk.elim id fun h9 => hsub k h9⟩⟩ (Vp.loc (p := quX qb mb cap last ws bys _ M c L wv bv)) hF
theorem qlow_push (h : QuS qb mb cap last ws bys s M c L wv lv bv w F) (hF : ∀ k, F k → k < w.heap.size) (hs : s.length < 1073741824) (x : Int) : Calls Try.prog 52 #[nuI qb, .iface 59 (.int .u64 x)] w fun e w' => e = .returned (.tuple #[]) ∧ ∃ F', (∀ k, F k → F' k) ∧ (∀ k, F' k → F k ∨ w.heap.size ≤ k) ∧
    Hp w w' [.rep (fun w => (quX qb mb cap last ws bys ((nuOb qb (.int .i64 cap) wv (.map (some mb)) bv (.int .u64 last)).up (s.length + 1) (s ++ [x]) s.length) M c L wv bv).at_ w F' (.bool true)) F' true] := by
  refine (nuheap_push h.nu (fun k hk => ?_) hs).mono fun e w' ⟨he, F1, f1, f2, h8⟩ => ⟨he, fun k => F k ∨ F1 k, fun k hk => .inl hk, fun k hk => ?_, ?_⟩
  · rcases hk with rfl | hk
    · exact heap_lt h.q
    · exact (World.ownsRow.lt h.ls k hk).2
  · rcases hk with hk | hk
    · exact .inl hk
    · rcases f2 k hk with (rfl | h9) | h9
      · exact .inl h.Fq
      · exact .inl (h.Fl k h9)
      · exact .inr h9
  · obtain ⟨lv', hS⟩ := h.turnNu h8 f2
    refine h8.widenM (fun e he k hk => by
      rw [List.mem_singleton] at he
      subst he
      exact .inr hk) ⟨lv', hS⟩ (Vp.loc (p := quX qb mb cap last ws bys _ M c L wv bv)) (fun k hk => ?_)
    rcases hk with hk | hk
    · exact Nat.lt_of_lt_of_le (hF k hk) h8.size
    · exact (h8.own _ List.mem_cons_self).2.2 k hk
end

/-- what Lowest answers -/
def qLow (L : List QE) : Value := match L with
  | [] => .tuple #[.int .u64 0, .bool false]
  | x :: _ => .tuple #[.int .u64 x.1, .bool true]
section
variable {qb : Nat} {cap last : Int} {ws : List Int} {L : List QE} {K : Nat} {w : World} {F : Nat → Prop}
set_option maxHeartbeats 2000000 in
theorem q_lowest (h : (quA qb cap last ws L K).at_ w F (.bool true)) (hF : ∀ k, F k → k < w.heap.size) (hok : QOk cap last ws L) : Calls Try.prog 40 #[qptr qb] w fun e w' => e = .returned (qLow L) ∧ Hp w w' [.rep (fun w => (quA qb cap last ws L K).at_ w F (.bool true)) F true] := by
  obtain ⟨mb, bys, s0, M, cc, wv, lv, bv, hS, hN0, hbys, hcK, hsc⟩ := h
  have hst := Hp.startO (p := quX qb mb cap last ws bys s0 M cc L wv bv) (v := .bool true) ⟨lv, hS⟩ hF
  refine enter1 Try.func40 rfl rfl hst ?_
  repeat (first | refine T_seq ?_ | refine T_region ?_ | refine S_nil ?_ | refine S_pure tabOk rfl ?_)
  refine S_q (Q_eqptr tabOk rfl rfl rfl rfl rfl) ?_
  repeat (first | refine S_nil ?_)
  refine T_cond_f rfl ?_
  repeat (first | refine T_seq ?_ | refine T_block ?_ | refine pthen_normal ?_ | refine T_skip ?_)
  refine T_loop (ι := List Int) (fun _ => [(0, qptr qb)]) (fun s => [.rep (fun w => (quX qb mb cap last ws bys s M cc L wv bv).at_ w F (.bool true)) F true]) (fun s => NH s L last ∧ s.length ≤ cc) (fun s => s.length) s0 ⟨hN0, hsc⟩ (by repeat (first | exact Sub.nil | refine Sub.cons rfl ?_)) (fun _ hw => hw) ?_
  rintro s ⟨hN, hsl⟩
  try dsimp only at hN hsl ⊢
  refine T_toX (ι := Value) (fun lv => ∃ a c', lv = .slice a s.length c' ∧ s.length ≤ c' ∧ (0 < s.length → ∃ g, a = some ⟨g, 0, none⟩)) (fun lv => [.rep (fun w => (quV qb mb cap last ws bys s M cc L wv lv bv).at_ w F (.bool true)) F true]) (fun w1 h1 => ?_) (fun lv ⟨a, c', e1, hsc', hga⟩ => ?_)
  · obtain ⟨lv, h2⟩ := (h1.own _ List.mem_cons_self).1
    obtain ⟨a, c', e1, h3, _⟩ := form_of_own h2.ls
    exact ⟨lv, ⟨a, c', e1, h3, fun h0 => by
      have h4 := h2.ls
      rw [e1] at h4
      obtain ⟨g, _, e2, _⟩ := own_open h4 h0
      exact ⟨g, e2⟩⟩, h1.turnX 0 rfl (Ψ := fun w => (quV qb mb cap last ws bys s M cc L wv lv bv).at_ w F (.bool true)) (fun _ => h2) Vp.loc rfl⟩
  subst e1
  repeat (first | refine T_seq ?_ | refine T_region ?_ | refine S_pure tabOk rfl ?_)
  refine S_load1 tabOk (v := .slice a s.length c') rfl rfl (fun w' hw => QuS.cell (hw.own _ (getE_mem (i := 0) rfl)).1 (j := 3) rfl) ?_
  repeat (first | refine S_nil ?_ | refine S_pure tabOk rfl ?_)
  refine T_cond_dec rfl (fun hgt => ?_) (fun hgt => ?_)
  rotate_left
  · have hs0 : s = [] := List.eq_nil_of_length_eq_zero (by omega)
    subst hs0
    obtain rfl := hN.empty
    repeat (first | refine T_seq ?_ | refine T_region ?_ | refine S_nil ?_ | refine pthen_normal ?_ | refine inb_hit ?_ | refine pthen_exit ?_ | refine T_ret ?_ | refine T_exit ?_ | refine S_pure tabOk rfl ?_)
    exact ret2 rfl rfl rfl (fun w' hw => ⟨rfl, hw.turnX 0 rfl (Ψ := fun w => (quA qb cap last ws [] K).at_ w F (.bool true)) (fun h9 => ⟨mb, bys, [], M, cc, wv, _, bv, h9, hN, hbys, hcK, hsl⟩) Vp.loc rfl⟩)
  obtain ⟨g, rfl⟩ := hga (by omega)
  obtain ⟨x, hx⟩ : ∃ x, s[0]? = some x := ⟨_, List.getElem?_eq_getElem (by omega)⟩
  have hsx : ∀ {w' : World}, Hp w w' [.rep (fun w => (quV qb mb cap last ws bys s M cc L wv (.slice (some ⟨g, 0, none⟩) s.length c') bv).at_ w F (.bool true)) F true] → w'.cell? ⟨g, 0 + 0, none⟩ = some (.int .u64 x) := fun hw => own_cell (QuS.ls (hw.own _ (getE_mem (i := 0) rfl)).1) (by omega) (by rw [List.getElem?_map, hx]; rfl)
  obtain ⟨cls, sl, q, hone, hlk⟩ : ∃ (cls : Int) (sl : Value) (q : Bool), sl.oneCell' = true ∧ ((mGet M x = none ∧ cls = 0 ∧ sl = .slice none 0 0 ∧ q = false) ∨ (mGet M x = some (.agg #[.int .i64 cls, sl]) ∧ q = true)) := by
    cases hg : mGet M x with
    | none => exact ⟨0, .slice none 0 0, false, rfl, .inl ⟨rfl, rfl, rfl, rfl⟩⟩
    | some u =>
      obtain ⟨i, p, y, hp, hy, _, hv, _⟩ := hS.ml.hit hS.mok.keys hg
      obtain ⟨_, a2, m2, c2, e2, _⟩ := hS.ml.at_ i p y hp hy
      exact ⟨y.2.1, .slice a2 m2 c2, true, rfl, .inr ⟨by rw [← hv, e2], rfl⟩⟩
  repeat (first | refine T_seq ?_ | refine T_block ?_ | refine pthen_normal ?_ | refine T_skip ?_)
  let lst : Bool → Bool → Value → OL := fun l14 l15 v14 =>
    .rep (fun w => (quV qb mb cap last ws bys s M cc L wv (.slice (some ⟨g, 0, none⟩) s.length c') bv).at_ w F (.bool true)) F true :: (cond l14 [ptrE v14 (cond l15 [.int .i64 cls, sl] [.int .i64 0, .slice none 0 0]) 52, factE (newP w v14)] [])
  refine T_drawF (γ := Unit) (by kernel_rfl) (by kernel_rfl) () (fun L f => lst (L 14) (L 15) (f 14).1) rfl [some (qptr qb), some (qptr qb), some (.pointer (some ⟨qb, 2, none⟩)), some (.map (some mb)), some (qptr qb), some (qptr qb), some (.pointer (some ⟨qb, 3, none⟩)), some (.slice (some ⟨g, 0, none⟩) s.length c'), some (.pointer (some ⟨g, 0, none⟩)), some (.int .u64 x), some (.tuple #[.agg #[.int .i64 cls, sl], .bool q]), some (.tuple #[.agg #[.int .i64 cls, sl], .bool q]), some (.agg #[.int .i64 cls, sl]), some (.bool q), none, some undef, some (.bool q)] ?_ ?_
  · refine ⟨?_, ?_, ?_, ?_, ?_, ?_, ?_, ?_, ?_, ?_, ?_, ?_, ?_, ?_, ?_, ?_, ?_, trivial⟩
    · exact fun L f hc hl hp => OpA.told () rfl (D_pure tabOk rfl D_last) rfl
    · exact fun L f hc hl hp => OpA.told () rfl (D_pure tabOk rfl D_last) rfl
    · exact fun L f hc hl hp => OpA.told () rfl (D_pure tabOk rfl D_last) rfl
    · exact fun L f hc hl hp => OpA.told () rfl (D_load1 tabOk (v := .map (some mb)) rfl rfl (fun w' hw => QuS.cell (hw.own _ (getE_mem (i := 0) rfl)).1 (j := 2) rfl) D_last) rfl
    · exact fun L f hc hl hp => OpA.told () rfl (D_pure tabOk rfl D_last) rfl
    · exact fun L f hc hl hp => OpA.told () rfl (D_pure tabOk rfl D_last) rfl
    · exact fun L f hc hl hp => OpA.told () rfl (D_pure tabOk rfl D_last) rfl
    · exact fun L f hc hl hp => OpA.told () rfl (D_load1 tabOk (v := .slice (some ⟨g, 0, none⟩) s.length c') rfl rfl (fun w' hw => QuS.cell (hw.own _ (getE_mem (i := 0) rfl)).1 (j := 3) rfl) D_last) rfl
    · exact fun L f hc hl hp => OpA.told () rfl (D_q (Q_idx1 tabOk rfl rfl rfl rfl rfl rfl rfl (j := 0) rfl (by omega)) D_last) rfl
    · exact fun L f hc hl hp => OpA.told () rfl (D_load1 tabOk (v := .int .u64 x) rfl rfl (fun w' hw => own_cell (QuS.ls (hw.own _ (getE_mem (i := 0) rfl)).1) (by omega) (by rw [List.getElem?_map, hx]; rfl)) D_last) rfl
    · intro L f hc hl hp
      rcases hlk with ⟨hg, rfl, rfl, rfl⟩ | ⟨hg, rfl⟩
      · exact OpA.told () rfl (D_q ((Q_look0 tabOk rfl rfl rfl rfl rfl rfl rfl rfl (fun w' hw => by exact QuS.m (hw.own _ (getE_mem (i := 0) rfl)).1) hg).eq (v' := .tuple #[.agg #[.int .i64 0, .slice none 0 0], .bool false]) rfl) D_last) rfl
      · exact OpA.told () rfl (D_q (Q_look1 tabOk rfl rfl rfl rfl rfl rfl rfl rfl (fun w' hw => by exact QuS.m (hw.own _ (getE_mem (i := 0) rfl)).1) hg) D_last) rfl
    · exact fun L f hc hl hp => OpA.told () rfl (D_pure tabOk rfl D_last) rfl
    · exact fun L f hc hl hp => OpA.told () rfl (D_pure tabOk rfl D_last) rfl
    · exact fun L f hc hl hp => OpA.told () rfl (D_pure tabOk rfl D_last) rfl
    · intro L f hc hl hp
      have h15 := closed_no hc (j := 15) rfl ⟨14, .data⟩ (by simp) rfl hl
      show OpA _ _ _ _ (lst (L 14) (L 15) (f 14).1) (fun y => lst true (L 15) y.1) _ _ _
      rw [hl, h15]
      refine OpA.new tabOk rfl (fun w1 b hb hw => ⟨(), ?_⟩)
      exact (hw.addF (p := newP w (.pointer (some ⟨b, 0, none⟩))) ⟨b, rfl, hb⟩).pm [2, 1, 0] rfl rfl rfl
    · intro L f hc hl hp
      have h14 : L 14 = true := hp ⟨14, .data⟩ (by simp) rfl
      show OpA _ _ _ _ (lst (L 14) (L 15) (f 14).1) (fun y => lst (L 14) true (f 14).1) _ _ _
      rw [hl, h14]
      refine OpA.pre (X := ∃ b, (f 14).1 = .pointer (some ⟨b, 0, none⟩)) (fun w hw => ?_) (fun d h => by cases h) ?_
      · obtain ⟨b, e1, _⟩ := hw.fact 2 rfl
        exact ⟨b, e1⟩
      · rintro ⟨b, e1⟩
        refine OpA.swap (dl' := [(4, .ex (f 14).1), (26, .ex (.agg #[.int .i64 cls, sl]))]) (List.forall_mem_cons.2 ⟨rfl, List.forall_mem_cons.2 ⟨rfl, fun _ h => nomatch h⟩⟩) ?_
        generalize f 14 = x14 at *
        obtain ⟨x14, g14⟩ := x14
        dsimp only at e1
        subst e1
        exact OpS.toF () (fun u h => by cases h; rfl) (OpS.store tabOk 1 rfl rfl (fun u h => by
          change u ∈ [Value.int .i64 cls, sl] at h
          rw [List.mem_cons, List.mem_singleton] at h
          exact h.elim (fun e => by rw [e]; rfl) (fun e => by rw [e]; exact hone)) rfl rfl rfl)
    · exact fun L f hc hl hp => OpA.told () rfl (D_pure tabOk rfl D_last) rfl
  · intro L' f w5 hL hw
    change Hp _ _ (lst (L' 14) (L' 15) (f 14).1) at hw
    rw [hL 14 (by decide), hL 15 (by decide)] at hw
    obtain ⟨b, e1, hb⟩ := hw.fact 2 rfl
    rw [e1] at hw
    refine ⟨[(0, qptr qb), (5, .bool q)], [.rep (fun w => (quV qb mb cap last ws bys s M cc L wv (.slice (some ⟨g, 0, none⟩) s.length c') bv).at_ w F (.bool true)) F true], (by repeat (first | exact SubD.nil | refine SubD.cons rfl ?_)), hw.less (by repeat (first | exact Less.nil | refine Less.keep ?_ | refine Less.dropR ?_ | refine Less.dropB (by first | assumption | omega) ?_)), ?_⟩
    repeat (first | refine T_seq ?_ | refine T_region ?_ | refine S_nil ?_ | refine S_pure tabOk rfl ?_)
    rcases hlk with ⟨hg, rfl, rfl, rfl⟩ | ⟨hg, rfl⟩
    · refine T_cond_f rfl ?_
      repeat (first | refine pthen_normal ?_ | refine T_skip ?_ | refine S_pure tabOk rfl ?_ | refine T_region_any ?_)
      refine S_q (Q_mkif tabOk rfl rfl rfl rfl) ?_
      refine S_callT 0 rfl Try.call46 rfl (fun w1 g1 => (qlow_pop (g1.own _ (getE_mem (i := 0) rfl)).1 (g1.own _ (getE_mem (i := 0) rfl)).2.2 hx).mono fun e w' ⟨⟨y, he⟩, g2⟩ => ⟨_, _, F, he, g2, fun _ h => h, fun _ h => .inl h, _, rfl, ?_⟩)
      have hno : ∀ y ∈ L, y.1 ≠ x := fun y hy e => by
        have h9 := mGet_mem.1 hg
        rw [hS.ml.keys] at h9
        exact h9 (List.mem_map.2 ⟨y, hy, e⟩)
      repeat (first | refine S_nil ?_ | refine pthen_normal ?_ | refine inb_normal ?_)
      exact ⟨_, ⟨hN.pop (nuOb_ol qb (.int .i64 cap) wv (.map (some mb)) bv (.int .u64 last)) hx hno, by rw [List.length_take]; omega⟩, by repeat (first | exact Sub.nil | refine Sub.cons rfl ?_), fun w' hw => hw, by rw [List.length_take]; omega⟩
    · refine T_cond_t rfl ?_
      repeat (first | refine T_seq ?_ | refine T_region ?_ | refine S_pure tabOk rfl ?_)
      refine S_load1 tabOk (v := .slice (some ⟨g, 0, none⟩) s.length c') rfl rfl (fun w' hw => QuS.cell (hw.own _ (getE_mem (i := 0) rfl)).1 (j := 3) rfl) ?_
      skip
      refine S_q (Q_idx1 tabOk rfl rfl rfl rfl rfl rfl rfl (j := 0) rfl (by omega)) ?_
      refine S_load1 tabOk (v := .int .u64 x) rfl rfl (fun w' hw => own_cell (QuS.ls (hw.own _ (getE_mem (i := 0) rfl)).1) (by omega) (by rw [List.getElem?_map, hx]; rfl)) ?_
      repeat (first | refine S_nil ?_ | refine inb_ret ?_ | refine pthen_ret ?_ | refine T_ret ?_ | refine S_pure tabOk rfl ?_)
      obtain ⟨i, p, y, hp, hy, hyx, _⟩ := hS.ml.hit hS.mok.keys hg
      obtain ⟨z, rest, rfl, rfl⟩ := hN.root hok.srt hx (List.mem_map.2 ⟨y, List.mem_of_getElem? hy, hyx⟩)
      exact ret2 rfl rfl rfl (fun w' hw => ⟨rfl, hw.turnX 0 rfl (Ψ := fun w => (quA qb cap last ws (z :: rest) K).at_ w F (.bool true)) (fun h9 => ⟨mb, bys, s, M, cc, wv, _, bv, h9, hN, hbys, hcK, hsl⟩) Vp.loc rfl⟩)
end

/-- what lies beside a queue's own block, its map, its bytes -/
structure QuR (ws s : List Int) (M : List ME) (L : List QE) (wv lv : Value) (w : World) (F : Nat → Prop) : Prop where
  ws : w.ownsRow 0 3 1 wv ws.length (ws.map (.int .i64))
  Fw : ∀ k, wv.ownBlock = some k → F k
  ls : w.ownsRow 0 59 1 lv s.length (s.map (.int .u64))
  Fl : ∀ k, lv.ownBlock = some k → F k
  ml : MLz w (fun k => F k ∧ ¬ (wv.ownBlock = some k ∨ lv.ownBlock = some k)) M L
theorem QuR.keep {ws s : List Int} {M : List ME} {L : List QE} {wv lv : Value} {w w' : World} {A B : Nat → Prop} (h : QuR ws s M L wv lv w A) (hk : ∀ k, A k → k < w.heap.size → w'.heap[k]? = w.heap[k]? ∧ B k) : QuR ws s M L wv lv w' B where
  ws := own_keep h.ws fun k hv => (hk k (h.Fw k hv) (World.ownsRow.lt h.ws k hv).2).1
  Fw := fun k hv => (hk k (h.Fw k hv) (World.ownsRow.lt h.ws k hv).2).2
  ls := own_keep h.ls fun k hv => (hk k (h.Fl k hv) (World.ownsRow.lt h.ls k hv).2).1
  Fl := fun k hv => (hk k (h.Fl k hv) (World.ownsRow.lt h.ls k hv).2).2
  ml := h.ml.keep fun k hA hlt => ⟨(hk k hA.1 hlt).1, (hk k hA.1 hlt).2, hA.2⟩
def quR (ws s : List Int) (M : List ME) (L : List QE) (wv lv : Value) : Vp :=
  ⟨fun w F _ => QuR ws s M L wv lv w F, fun h hk => h.keep hk⟩
section
variable {qb mb c g : Nat} {cap last : Int} {ws bys s : List Int} {M : List ME} {L : List QE} {wv lv bv : Value} {w w0 : World} {F : Nat → Prop} {ol : OL}
abbrev quC (cap : Int) (wv : Value) (mb : Nat) (lv bv : Value) (last : Int) : Obj := .cells ⟨[.int .i64 cap, wv, .map (some mb), lv, bv, .int .u64 last]⟩ 105 (0, 0)
/-- opened: its own block, its map, its bytes, all else -/
theorem QuS.split (hh : Hp w0 w (.rep (fun w => (quV qb mb cap last ws bys s M c L wv lv bv).at_ w F (.bool true)) F true :: ol)) (hb : 0 < bys.length) : ∃ g cb junk, bv = .slice (some ⟨g, 0, none⟩) bys.length cb ∧ bys.length ≤ cb ∧ cb ≤ maxLen ∧ (bys.map (Value.int .i64) ++ junk).length = cb ∧ F g ∧
    Hp w0 w (.blk qb (quC cap wv mb lv bv last) true :: .blk mb (mapO .u64 M c) true :: .blk g (.cells ⟨bys.map (Value.int .i64) ++ junk⟩ 3 (0, 0)) true :: .rep (fun w => (quR ws s M L wv lv).at_ w (fun k => F k ∧ ¬ (k = qb ∨ k = mb ∨ k = g)) (.bool true)) (fun k => F k ∧ ¬ (k = qb ∨ k = mb ∨ k = g)) true :: ol) := by
  obtain ⟨h, _, hlt⟩ := hh.own _ List.mem_cons_self
  have hS : QuS qb mb cap last ws bys s M c L wv lv bv w F := h
  have h2 := hS.bs
  obtain ⟨a, cb, rfl, h3, _⟩ := form_of_own h2
  obtain ⟨g, junk, rfl, _, _, hxl, hjl, hcm, hg⟩ := own_open h2 hb
  have hFg : F g := hS.Fb g rfl
  have hgq : g ≠ qb := cells_ne hg hS.q (by decide)
  have hgm : g ≠ mb := map_ne hg hS.m
  have hqm : qb ≠ mb := map_ne hS.q hS.m
  refine ⟨g, cb, junk, rfl, h3, hcm, hjl, hFg, ?_⟩
  refine Hp.regroup [.rep (fun w => (quV qb mb cap last ws bys s M c L wv lv (.slice (some ⟨g, 0, none⟩) bys.length cb)).at_ w F (.bool true)) F true] [.blk qb (quC cap wv mb lv (.slice (some ⟨g, 0, none⟩) bys.length cb) last) true, .blk mb (mapO .u64 M c) true, .blk g (.cells ⟨bys.map (Value.int .i64) ++ junk⟩ 3 (0, 0)) true, .rep (fun w => (quR ws s M L wv lv).at_ w (fun k => F k ∧ ¬ (k = qb ∨ k = mb ∨ k = g)) (.bool true)) (fun k => F k ∧ ¬ (k = qb ∨ k = mb ∨ k = g)) true] hh (fun e he => ?_) (fun e he => ?_) ?_ (fun e he k hk => ?_) (fun e he k hk => ?_)
  · rw [List.mem_singleton] at he
    subst he; rfl
  · simp only [List.mem_cons, List.not_mem_nil, or_false] at he
    rcases he with rfl | rfl | rfl | rfl
    · exact ⟨rfl, hS.q⟩
    · exact ⟨rfl, hS.m⟩
    · exact ⟨rfl, hg⟩
    · refine ⟨rfl, ⟨hS.ws, fun k hk => ⟨hS.Fw k hk, ?_⟩, hS.ls, fun k hk => ⟨hS.Fl k hk, ?_⟩, hS.ml.keep fun k hk _ => ⟨rfl, ⟨hk.1, ?_⟩, ?_⟩⟩, Vp.loc (p := quR ws s M L wv lv), fun k hk => hlt k hk.1⟩
      · rintro (rfl | rfl | rfl)
        · obtain ⟨cur, h9⟩ := row_blk hS.ws hk
          exact cells_ne h9 hS.q (by decide) rfl
        · obtain ⟨cur, h9⟩ := row_blk hS.ws hk
          exact map_ne h9 hS.m rfl
        · exact hS.wb _ hk rfl
      · rintro (rfl | rfl | rfl)
        · obtain ⟨cur, h9⟩ := row_blk hS.ls hk
          exact cells_ne h9 hS.q (by decide) rfl
        · obtain ⟨cur, h9⟩ := row_blk hS.ls hk
          exact map_ne h9 hS.m rfl
        · obtain ⟨cur, h9⟩ := row_blk hS.ls hk
          exact cells_ne h9 hg (by decide) rfl
      · rintro (rfl | rfl | rfl)
        · exact hk.2 (.inl rfl)
        · exact hk.2 (.inr (.inl rfl))
        · exact hk.2 (.inr (.inr (.inr (.inr rfl))))
      · rintro (h9 | h9)
        · exact hk.2 (.inr (.inr (.inl h9)))
        · exact hk.2 (.inr (.inr (.inr (.inl h9))))
  · refine List.pairwise_cons.2 ⟨fun e he => ?_, List.pairwise_cons.2 ⟨fun e he => ?_, List.pairwise_cons.2 ⟨fun e he => ?_, List.pairwise_singleton _ _⟩⟩⟩
    all_goals simp only [List.mem_cons, List.not_mem_nil, or_false] at he
    · rcases he with rfl | rfl | rfl
      · exact fun _ k hk hk2 => hqm ((Option.some.inj hk).trans (Option.some.inj hk2).symm)
      · exact fun _ k hk hk2 => hgq ((Option.some.inj hk2).trans (Option.some.inj hk).symm)
      · exact fun _ k hk hk2 => hk2.2 (.inl (Option.some.inj hk).symm)
    · rcases he with rfl | rfl
      · exact fun _ k hk hk2 => hgm ((Option.some.inj hk2).trans (Option.some.inj hk).symm)
      · exact fun _ k hk hk2 => hk2.2 (.inr (.inl (Option.some.inj hk).symm))
    · subst he
      exact fun _ k hk hk2 => hk2.2 (.inr (.inr (Option.some.inj hk).symm))
  · refine ⟨_, List.mem_cons_self, ?_⟩
    simp only [List.mem_cons, List.not_mem_nil, or_false] at he
    show F k
    rcases he with rfl | rfl | rfl | rfl
    · rw [← Option.some.inj hk]; exact hS.Fq
    · rw [← Option.some.inj hk]; exact hS.Fm
    · rw [← Option.some.inj hk]; exact hFg
    · exact hk.1
  · rw [List.mem_singleton] at he
    subst he
    have hk' : F k := hk
    right
    by_cases h1 : k = qb
    · exact ⟨_, List.mem_cons_self, congrArg some h1.symm⟩
    by_cases h4 : k = mb
    · exact ⟨_, List.mem_cons_of_mem _ List.mem_cons_self, congrArg some h4.symm⟩
    by_cases h5 : k = g
    · exact ⟨_, List.mem_cons_of_mem _ (List.mem_cons_of_mem _ List.mem_cons_self), congrArg some h5.symm⟩
    · exact ⟨_, List.mem_cons_of_mem _ (List.mem_cons_of_mem _ (List.mem_cons_of_mem _ List.mem_cons_self)), hk', fun h => h.elim h1 fun h => h.elim h4 h5⟩
/-- and closed -/
theorem QuR.join {junk : List Value} {cb : Nat} (hh : Hp w0 w (.blk qb (quC cap wv mb lv (.slice (some ⟨g, 0, none⟩) bys.length cb) last) true :: .blk mb (mapO .u64 M c) true :: .blk g (.cells ⟨bys.map (Value.int .i64) ++ junk⟩ 3 (0, 0)) true :: .rep (fun w => (quR ws s M L wv lv).at_ w F (.bool true)) F true :: ol))
    (hcb : bys.length ≤ cb) (hcm : cb ≤ maxLen) (hjl : (bys.map (Value.int .i64) ++ junk).length = cb) (hM : MOk M c) (hs : s.length ≤ 1073741824) {F' : Nat → Prop} (hF : ∀ k, F' k ↔ F k ∨ k = qb ∨ k = mb ∨ k = g) :
    Hp w0 w (.rep (fun w => (quV qb mb cap last ws bys s M c L wv lv (.slice (some ⟨g, 0, none⟩) bys.length cb)).at_ w F' (.bool true)) F' true :: ol) := by
  have o0 : w.heap[qb]? = _ := hh.own _ (getE_mem (i := 0) rfl)
  have o1 : w.heap[mb]? = _ := hh.own _ (getE_mem (i := 1) rfl)
  have o2 : w.heap[g]? = _ := hh.own _ (getE_mem (i := 2) rfl)
  obtain ⟨o3, _, hlt⟩ := hh.own _ (getE_mem (i := 3) rfl)
  have hR : QuR ws s M L wv lv w F := o3
  have ha := hh.apart
  have hap : (HE.blk qb (quC cap wv mb lv (.slice (some ⟨g, 0, none⟩) bys.length cb) last) true :: .blk mb (mapO .u64 M c) true :: .blk g (.cells ⟨bys.map (Value.int .i64) ++ junk⟩ 3 (0, 0)) true :: .rep (fun w => (quR ws s M L wv lv).at_ w F (.bool true)) F true :: ol).Pairwise Dis := ha
  have n0 : ¬ F qb := fun h => (List.pairwise_cons.1 hap).1 _ (List.mem_cons_of_mem _ (List.mem_cons_of_mem _ List.mem_cons_self)) rfl qb rfl h
  have n1 : ¬ F mb := fun h => (List.pairwise_cons.1 (List.pairwise_cons.1 hap).2).1 _ (List.mem_cons_of_mem _ List.mem_cons_self) rfl mb rfl h
  have n2 : ¬ F g := fun h => (List.pairwise_cons.1 (List.pairwise_cons.1 (List.pairwise_cons.1 hap).2).2).1 _ List.mem_cons_self rfl g rfl h
  have hq : F' qb := (hF qb).2 (.inr (.inl rfl))
  have hm : F' mb := (hF mb).2 (.inr (.inr (.inl rfl)))
  have hg : F' g := (hF g).2 (.inr (.inr (.inr rfl)))
  refine Hp.regroup [.blk qb (quC cap wv mb lv (.slice (some ⟨g, 0, none⟩) bys.length cb) last) true, .blk mb (mapO .u64 M c) true, .blk g (.cells ⟨bys.map (Value.int .i64) ++ junk⟩ 3 (0, 0)) true, .rep (fun w => (quR ws s M L wv lv).at_ w F (.bool true)) F true] [.rep (fun w => (quV qb mb cap last ws bys s M c L wv lv (.slice (some ⟨g, 0, none⟩) bys.length cb)).at_ w F' (.bool true)) F' true] hh (fun e he => ?_) (fun e he => ?_) (List.pairwise_singleton _ _) (fun e he k hk => ?_) (fun e he k hk => ?_)
  · simp only [List.mem_cons, List.not_mem_nil, or_false] at he
    rcases he with rfl | rfl | rfl | rfl <;> rfl
  · rw [List.mem_singleton] at he
    subst he
    refine ⟨rfl, (⟨o0, hq, hR.ws, fun k hk => (hF k).2 (.inl (hR.Fw k hk)), hR.ls, fun k hk => (hF k).2 (.inl (hR.Fl k hk)), own_close o2 (Nat.zero_le _) hcb hcm (by rw [List.length_map]) hjl, fun k hk => ?_, fun k hk hk2 => ?_, o1, hm, hM, hs, hR.ml.keep fun k hk _ => ⟨rfl, (hF k).2 (.inl hk.1), ?_⟩⟩ : QuS qb mb cap last ws bys s M c L wv lv (.slice (some ⟨g, 0, none⟩) bys.length cb) w F'), Vp.loc (p := quV qb mb cap last ws bys s M c L wv lv (.slice (some ⟨g, 0, none⟩) bys.length cb)), fun k hk => ?_⟩
    · rw [← Option.some.inj hk]; exact hg
    · have e1 : g = k := Option.some.inj hk2
      exact n2 (e1 ▸ hR.Fw k hk)
    · rintro (e | e | e | e | e)
      · exact n0 (e ▸ hk.1)
      · exact n1 (e ▸ hk.1)
      · exact hk.2 (.inl e)
      · exact hk.2 (.inr e)
      · have e1 : g = k := Option.some.inj e
        exact n2 (e1 ▸ hk.1)
    · rcases (hF k).1 hk with h | rfl | rfl | rfl
      · exact hlt k h
      · exact heap_lt o0
      · exact heap_lt o1
      · exact heap_lt o2
  · rw [List.mem_singleton] at he
    subst he
    rcases (hF k).1 hk with h | rfl | rfl | rfl
    · exact ⟨_, List.mem_cons_of_mem _ (List.mem_cons_of_mem _ (List.mem_cons_of_mem _ List.mem_cons_self)), h⟩
    · exact ⟨_, List.mem_cons_self, rfl⟩
    · exact ⟨_, List.mem_cons_of_mem _ List.mem_cons_self, rfl⟩
    · exact ⟨_, List.mem_cons_of_mem _ (List.mem_cons_of_mem _ List.mem_cons_self), rfl⟩
  · refine .inr ⟨_, List.mem_cons_self, ?_⟩
    simp only [List.mem_cons, List.not_mem_nil, or_false] at he
    show F' k
    rcases he with rfl | rfl | rfl | rfl
    · rw [← Option.some.inj hk]; exact hq
    · rw [← Option.some.inj hk]; exact hm
    · rw [← Option.some.inj hk]; exact hg
    · exact (hF k).2 (.inl hk)
end
section
variable {P : Program} {tb : Tab} {n : Nat} {w0 : World} {all : Array Oper} {os : List Oper} {o : Oper} {l : FL} {ol : OL} {K : FL → OL → Prop} {Q : Post}
/-- delete of a block of our own, told nowhere -/
theorem S_deleteN (ht : TabOk P tb) (i : Nat) {mt kt et : TypeId} {x ix : Operand} {κ : IntKind} {b : Nat} {k : Int} {M : List ME} {c : Nat} {tm tk : TI} {ol' : OL} (hs : noAt? all (look l) o = some (.call ⟨.builtin .delete, #[x, ix], #[mt, kt]⟩)) (hx : ev (look l) x = some (.map (some b))) (hk : ev (look l) ix = some (.int κ k))
    (hi : getE ol i = some (.blk b (mapO κ M c) true)) (htm : tl tb mt = some tm) (hdm : tm.desc = .map kt et) (htk : tl tb kt = some tk) (hdk : tk.desc = .int κ) (hp : putE ol i (.blk b (mapO κ (mDel M k) c) true) = some ol') (kk : S P n w0 all os l ol' K Q) : S P n w0 all (o :: os) l ol K Q := by
  obtain ⟨hdst, hg, hop⟩ := noAt_spec hs
  refine ⟨fun a w hf hh => ?_⟩
  have h1 := ht.under' htm
  rw [hdm] at h1
  have h2 := ht.under' htk
  rw [hdk] at h2
  have h3 := run_delete (P := P) (ty := o.type) h1 h2 (hh.own _ (getE_mem hi)) k
  obtain ⟨pre, post, e1, e2⟩ := putE_eq hi hp
  refine wpList_run (v := .tuple #[]) (gd_wanted hf.rd hg) (w' := { w with heap := w.heap.setIfInBounds b (mapO κ (mDel M k) c) }) ?_ ?_
  · unfold execOp
    simp [hop, resolve, invoke, builtin, hf.rd.ev hx, hf.rd.ev hk, h3]
  · rw [hdst]
    rw [e1] at hh
    rw [e2] at kk
    exact kk.out _ _ hf hh.setB
end

def qDel (L : List QE) (n : Int) : List QE := L.filter fun x => decide (x.1 ≠ n)
theorem mPut_fresh (k : Int) (v : Value) (c : Nat) : ∀ (M : List ME), k ∉ M.map (·.1) → mPut M k v c = (M ++ [(k, v, c)], c + 1)
  | [], _ => mPut_nil k v c
  | p :: M, h => by
    rw [List.map_cons, List.mem_cons, not_or] at h
    rw [mPut_cons, if_neg h.1, mPut_fresh k v c M h.2]
    rfl
theorem MOk.push {M : List ME} {c : Nat} (h : MOk M c) {k : Int} {v : Value} (hk : k ∉ M.map (·.1)) : MOk (M ++ [(k, v, c)]) (c + 1) := by
  refine ⟨?_, ?_, fun p hp => ?_⟩
  · rw [List.map_append, List.nodup_append]
    refine ⟨h.keys, by simp, fun a ha b hb => ?_⟩
    rw [List.map_cons, List.map_nil, List.mem_singleton] at hb
    rintro rfl
    have e : a = k := hb
    exact hk (e ▸ ha)
  · rw [List.map_append, List.nodup_append]
    refine ⟨h.borns, by simp, fun a ha b hb => ?_⟩
    rw [List.map_cons, List.map_nil, List.mem_singleton] at hb
    rintro rfl
    obtain ⟨p, hp, e⟩ := List.mem_map.1 ha
    have := h.lt p hp
    rw [e, hb] at this
    exact absurd this (Nat.lt_irrefl _)
  · rcases List.mem_append.1 hp with hp | hp
    · exact Nat.lt_succ_of_lt (h.lt p hp)
    · rw [List.mem_singleton] at hp
      subst hp
      exact Nat.lt_succ_self _
theorem mDel_sub (n : Int) : ∀ (M : List ME), (mDel M n).Sublist M
  | [] => by rw [mDel_nil]; exact List.Sublist.refl _
  | p :: M => by
    rw [mDel_cons]
    split
    · exact List.sublist_cons_self _ _
    · exact (mDel_sub n M).cons_cons p
theorem MOk.del {M : List ME} {c : Nat} (h : MOk M c) (n : Int) : MOk (mDel M n) c :=
  ⟨h.keys.sublist ((mDel_sub n M).map _), h.borns.sublist ((mDel_sub n M).map _), fun p hp => h.lt p ((mDel_sub n M).subset hp)⟩
section
variable {w : World} {G G' : Nat → Prop} {M : List ME} {L : List QE}
theorem MLz.nil : MLz w G [] [] := ⟨rfl, fun i p x h _ => by simp at h⟩
theorem MLz.cons {p : ME} {x : QE} : MLz w G (p :: M) (x :: L) ↔ (p.1 = x.1 ∧ ∃ a n c, p.2.1 = .agg #[.int .i64 x.2.1, .slice a n c] ∧ SlR (Rint .u8) w G a n c x.2.2) ∧ MLz w G M L := by
  constructor
  · intro h
    exact ⟨h.at_ 0 p x rfl rfl, by have := h.len; simpa using this, fun i q y h1 h2 => h.at_ (i + 1) q y (by simpa using h1) (by simpa using h2)⟩
  · rintro ⟨h1, h2⟩
    refine ⟨by rw [List.length_cons, List.length_cons, h2.len], fun i q y h3 h4 => ?_⟩
    cases i with
    | zero => cases h3; cases h4; exact h1
    | succ i => exact h2.at_ i q y (by simpa using h3) (by simpa using h4)
theorem MLz.nils {x : QE} : ¬ MLz w G [] (x :: L) := fun h => by have := h.len; simp at this
theorem MLz.nils' {p : ME} : ¬ MLz w G (p :: M) [] := fun h => by have := h.len; simp at this
theorem MLz.snoc (h : MLz w G M L) {n cls : Int} {a : Option Addr} {m cc c : Nat} {zs : List Int} (hz : SlR (Rint .u8) w G a m cc zs) : MLz w G (M ++ [(n, .agg #[.int .i64 cls, .slice a m cc], c)]) (L ++ [(n, cls, zs)]) := by
  refine ⟨by rw [List.length_append, List.length_append, h.len]; rfl, fun i p x h1 h2 => ?_⟩
  by_cases hi : i < M.length
  · rw [List.getElem?_append_left hi] at h1
    rw [List.getElem?_append_left (by rw [← h.len]; exact hi)] at h2
    exact h.at_ i p x h1 h2
  · have e1 : i = M.length := by
      have := (List.getElem?_eq_some_iff.1 h1).1
      rw [List.length_append] at this
      simp only [List.length_cons, List.length_nil] at this
      omega
    subst e1
    rw [List.getElem?_append_right (Nat.le_refl _), Nat.sub_self] at h1
    rw [h.len, List.getElem?_append_right (Nat.le_refl _), Nat.sub_self] at h2
    cases h1
    cases h2
    exact ⟨rfl, a, m, cc, rfl, hz⟩
theorem qDel_none {L : List QE} {n : Int} (h : n ∉ L.map (·.1)) : qDel L n = L := by
  unfold qDel
  rw [List.filter_eq_self]
  intro x hx
  simp only [decide_eq_true_eq]
  exact fun e => h (List.mem_map.2 ⟨x, hx, e⟩)
theorem MLz.del (n : Int) : ∀ {M : List ME} {L : List QE}, MLz w G M L → (L.map (·.1)).Nodup → MLz w G (mDel M n) (qDel L n)
  | [], [], _, _ => by rw [mDel_nil]; exact MLz.nil
  | [], x :: L, h, _ => absurd h MLz.nils
  | p :: M, [], h, _ => absurd h MLz.nils'
  | p :: M, x :: L, h, hn => by
    obtain ⟨h1, h2⟩ := MLz.cons.1 h
    rw [List.map_cons, List.nodup_cons] at hn
    rw [mDel_cons]
    by_cases e : n = p.1
    · rw [if_pos e]
      have e2 : qDel (x :: L) n = L := by
        have : qDel (x :: L) n = qDel L n := by unfold qDel; rw [List.filter_cons_of_neg (by simp [e, h1.1])]
        rw [this]
        exact qDel_none (by rw [e, h1.1]; exact hn.1)
      rw [e2]
      exact h2
    · rw [if_neg e]
      have e2 : qDel (x :: L) n = x :: qDel L n := by unfold qDel; rw [List.filter_cons_of_pos (by simp [← h1.1]; exact fun e' => e e'.symm)]
      rw [e2]
      exact MLz.cons.2 ⟨h1, MLz.del n h2 hn.2⟩
end
theorem bsum_cons (x : QE) (L : List QE) (c : Nat) : bsum (x :: L) c = (if x.2.1 = (c : Int) then sizeQ x else 0) + bsum L c := by
  unfold bsum
  rw [List.filter_cons]
  by_cases hc : x.2.1 = (c : Int)
  · rw [if_pos (by simp [hc]), if_pos hc, List.map_cons, List.sum_cons]
  · rw [if_neg (by simp [hc]), if_neg hc, Int.zero_add]
theorem bsum_snoc (x : QE) (L : List QE) (c : Nat) : bsum (L ++ [x]) c = bsum L c + (if x.2.1 = (c : Int) then sizeQ x else 0) := by
  induction L with
  | nil => rw [List.nil_append, bsum_cons]; simp [bsum]
  | cons y L ih => rw [List.cons_append, bsum_cons, ih, bsum_cons]; omega
theorem bsum_del {L : List QE} {x : QE} (hn : (L.map (·.1)).Nodup) (hx : x ∈ L) (c : Nat) : bsum (qDel L x.1) c = bsum L c - (if x.2.1 = (c : Int) then sizeQ x else 0) := by
  induction L with
  | nil => cases hx
  | cons y L ih =>
    rw [List.map_cons, List.nodup_cons] at hn
    rcases List.mem_cons.1 hx with rfl | hx
    · have e : qDel (x :: L) x.1 = L := by
        have : qDel (x :: L) x.1 = qDel L x.1 := by unfold qDel; rw [List.filter_cons_of_neg (by simp)]
        rw [this]
        exact qDel_none hn.1
      rw [e, bsum_cons]; omega
    · have hne : y.1 ≠ x.1 := fun e => hn.1 (List.mem_map.2 ⟨x, hx, e.symm⟩)
      have e : qDel (y :: L) x.1 = y :: qDel L x.1 := by unfold qDel; rw [List.filter_cons_of_pos (by simpa using hne)]
      rw [e, bsum_cons, bsum_cons, ih hn.2 hx]; omega
/-- the bytes' row, of one class turned -/
theorem bys_set {f g : Nat → Int} {n k : Nat} (hk : k < n) {v : Int} (hv : g k = v) (h : ∀ c, c ≠ k → g c = f c) : ((List.range n).map f).set k v = (List.range n).map g := by
  refine List.ext_getElem? fun i => ?_
  by_cases hi : i < n
  · by_cases e : k = i
    · subst e
      rw [List.getElem?_set_self (by simpa using hk)]
      simp [hi, hv]
    · rw [List.getElem?_set_ne e]
      simp [hi, h i (fun e' => e e'.symm)]
  · rw [List.getElem?_eq_none (by simp; omega), List.getElem?_eq_none (by simp; omega)]
section
variable {cap last : Int} {ws : List Int} {L : List QE}
theorem QOk.nodup (h : QOk cap last ws L) : (L.map (·.1)).Nodup := h.srt.imp fun h => by omega
theorem qDel_sub (L : List QE) (n : Int) : (qDel L n).Sublist L := List.filter_sublist
theorem QOk.del (h : QOk cap last ws L) (n : Int) : QOk cap last ws (qDel L n) :=
  ⟨h.srt.sublist ((qDel_sub L n).map _), fun x hx => h.pos x ((qDel_sub L n).subset hx), fun x hx => h.cls x ((qDel_sub L n).subset hx), h.fit⟩
theorem QOk.snoc (h : QOk cap last ws L) {n cls : Int} {zs : List Int} (hn : last < n) (hl0 : 0 ≤ last) (hn2 : n ≤ 18446744073709551615) (hc : 0 ≤ cls ∧ cls < (ws.length : Int) ∧ cls < 8 ∧ zs.length ≤ 4096) : QOk cap n ws (L ++ [(n, cls, zs)]) := by
  refine ⟨?_, fun x hx => ?_, fun x hx => ?_, hn2⟩
  · rw [List.map_append, List.pairwise_append]
    refine ⟨h.srt, List.pairwise_singleton _ _, fun a ha b hb => ?_⟩
    obtain ⟨x, hx, rfl⟩ := List.mem_map.1 ha
    rw [List.map_cons, List.map_nil, List.mem_singleton] at hb
    have := (h.pos x hx).2
    have e : b = n := hb
    show x.1 < b
    omega
  · rcases List.mem_append.1 hx with hx | hx
    · have := h.pos x hx; omega
    · rw [List.mem_singleton] at hx
      subst hx
      show 0 ≤ n ∧ n ≤ n
      omega
  · rcases List.mem_append.1 hx with hx | hx
    · exact h.cls x hx
    · rw [List.mem_singleton] at hx
      subst hx
      exact hc
end
section
variable {c : Nat} {ws s : List Int} {M : List ME} {L : List QE} {wv lv : Value} {w w0 : World} {F : Nat → Prop} {ol : OL}
/-- a body joins -/
theorem QuR.row {base n cc : Nat} {a : Option Addr} {zs : List Int} (num cls : Int) (hh : Hp w0 w (.row base (.slice a n cc) 5 1 n (zs.map (.int .u8)) :: .rep (fun w => (quR ws s M L wv lv).at_ w F (.bool true)) F true :: ol)) (hz : ∀ z ∈ zs, Fits .u8 z) :
    Hp w0 w (.rep (fun w => (quR ws s (M ++ [(num, .agg #[.int .i64 cls, .slice a n cc], c)]) (L ++ [(num, cls, zs)]) wv lv).at_ w (fun k => F k ∨ (Value.slice a n cc).ownBlock = some k) (.bool true)) (fun k => F k ∨ (Value.slice a n cc).ownBlock = some k) true :: ol) := by
  have o0 : w.ownsRow base 5 1 (.slice a n cc) n (zs.map (.int .u8)) := hh.own _ (getE_mem (i := 0) rfl)
  obtain ⟨o1, _, hlt⟩ := hh.own _ (getE_mem (i := 1) rfl)
  have hR : QuR ws s M L wv lv w F := o1
  have hap : (HE.row base (.slice a n cc) 5 1 n (zs.map (.int .u8)) :: .rep (fun w => (quR ws s M L wv lv).at_ w F (.bool true)) F true :: ol).Pairwise Dis := hh.apart
  have hne : ∀ k, (Value.slice a n cc).ownBlock = some k → ¬ F k := fun k hk hf => (List.pairwise_cons.1 hap).1 _ List.mem_cons_self rfl k hk hf
  refine Hp.regroup [.row base (.slice a n cc) 5 1 n (zs.map (.int .u8)), .rep (fun w => (quR ws s M L wv lv).at_ w F (.bool true)) F true] [.rep (fun w => (quR ws s (M ++ [(num, .agg #[.int .i64 cls, .slice a n cc], c)]) (L ++ [(num, cls, zs)]) wv lv).at_ w (fun k => F k ∨ (Value.slice a n cc).ownBlock = some k) (.bool true)) (fun k => F k ∨ (Value.slice a n cc).ownBlock = some k) true] hh (fun e he => ?_) (fun e he => ?_) (List.pairwise_singleton _ _) (fun e he k hk => ?_) (fun e he k hk => ?_)
  · simp only [List.mem_cons, List.not_mem_nil, or_false] at he
    rcases he with rfl | rfl <;> rfl
  · rw [List.mem_singleton] at he
    subst he
    refine ⟨rfl, (⟨hR.ws, fun k hk => .inl (hR.Fw k hk), hR.ls, fun k hk => .inl (hR.Fl k hk), (hR.ml.keep fun k hk _ => ⟨rfl, .inl hk.1, hk.2⟩).snoc (SlR.of_ints (ints_own o0 hz) fun b off h0 e => ?_)⟩ : QuR ws s _ _ wv lv w _), Vp.loc (p := quR ws s _ _ wv lv), fun k hk => ?_⟩
    · obtain ⟨g, _, e2, _⟩ := own_open o0 h0
      rw [e2] at e
      have e3 : g = b := (Addr.mk.inj (Option.some.inj e)).1
      subst e3
      have hk : (Value.slice a n cc).ownBlock = some g := by rw [e2]; rfl
      refine ⟨.inr hk, ?_⟩
      rintro (h9 | h9)
      · exact hne g hk (hR.Fw g h9)
      · exact hne g hk (hR.Fl g h9)
    · rcases hk with hk | hk
      · exact hlt k hk
      · exact (World.ownsRow.lt o0 k hk).2
  · rw [List.mem_singleton] at he
    subst he
    rcases hk with hk | hk
    · exact ⟨_, List.mem_cons_of_mem _ List.mem_cons_self, hk⟩
    · exact ⟨_, List.mem_cons_self, hk⟩
  · simp only [List.mem_cons, List.not_mem_nil, or_false] at he
    rcases he with rfl | rfl
    · exact .inr ⟨_, List.mem_cons_self, .inr hk⟩
    · exact .inr ⟨_, List.mem_cons_self, .inl hk⟩
/-- one that is gone -/
theorem QuR.del (hn : (L.map (·.1)).Nodup) (n : Int) (h : QuR ws s M L wv lv w F) : QuR ws s (mDel M n) (qDel L n) wv lv w F := ⟨h.ws, h.Fw, h.ls, h.Fl, h.ml.del n hn⟩
end

section
variable {qb : Nat} {cap last : Int} {ws : List Int} {L : List QE} {K : Nat} {w : World} {F : Nat → Prop}
set_option maxHeartbeats 2000000 in
theorem q_drop (h : (quA qb cap last ws L K).at_ w F (.bool true)) (hF : ∀ k, F k → k < w.heap.size) (hok : QOk cap last ws L) (hlen : L.length ≤ 65536) (n : Int) : Calls Try.prog 36 #[qptr qb, .int .u64 n] w fun e w' => ∃ a c, e = .returned (.tuple #[.agg #[.int .i64 (qGot L n).1, .slice a (qGot L n).2.1.length c], .int .i64 (if (qGot L n).2.2 = true then 0 else 4)]) ∧
    Hp w w' [.row w.heap.size (.slice a (qGot L n).2.1.length c) 5 1 (qGot L n).2.1.length ((qGot L n).2.1.map (.int .u8)), .rep (fun w => (quA qb cap last ws (qDel L n) K).at_ w F (.bool true)) F true] := by
  obtain ⟨mb, bys, s, M, cc, wv, lv, bv, hS, hN, hbys, hcK, hsc⟩ := h
  have hst := Hp.startO (p := quV qb mb cap last ws bys s M cc L wv lv bv) (v := .bool true) hS hF
  refine enter2 Try.func36 rfl rfl hst ?_
  repeat (first | refine T_seq ?_ | refine T_region ?_)
  refine S_new tabOk rfl (fun b4 hb4 => ?_)
  repeat (first | refine T_seq ?_ | refine T_region ?_ | refine S_nil ?_ | refine S_pure tabOk rfl ?_)
  refine S_call rfl Try.call30 (fun w1 h1 => (q_get (K := K) ⟨mb, bys, s, M, cc, wv, lv, bv, (h1.own _ (getE_mem (i := 1) rfl)).1, hN, hbys, hcK, hsc⟩ hok n).mono fun e w' ⟨a, c, e1, hb1, hr⟩ => ⟨_, _, e1, h1.fresh hb1 (x := .row w.heap.size (.slice a (qGot L n).2.1.length c) 5 1 (qGot L n).2.1.length ((qGot L n).2.1.map (.int .u8))) (own_rebase hr h1.size) (fun j hj => (World.ownsRow.lt hr j hj).1), ?_⟩)
  repeat (first | refine S_pure tabOk rfl ?_)
  refine S_new tabOk rfl (fun b6 hb6 => ?_)
  repeat (first | refine T_seq ?_ | refine T_region ?_ | refine S_nil ?_ | refine S_pure tabOk rfl ?_ | refine S_store tabOk 0 rfl rfl rfl rfl rfl rfl ?_)
  cases hg : mGet M n with
  | none =>
    have hm := hS.ml.miss hg
    have hgot : qGot L n = (0, [], false) := by unfold qGot; rw [hm]
    have hdel : qDel L n = L := qDel_none (by rw [← hS.ml.keys]; exact mGet_mem.1 hg)
    rw [hgot, hdel]
    dsimp only
    refine T_cond_t rfl ?_
    repeat (first | refine T_seq ?_ | refine T_region ?_ | refine S_nil ?_ | refine pthen_ret ?_ | refine T_ret ?_ | refine S_pure tabOk rfl ?_ | refine S_store tabOk 2 rfl rfl rfl rfl rfl rfl ?_ | refine S_q (Q_build tabOk rfl rfl rfl rfl rfl rfl rfl) ?_)
    exact ret2 rfl (ResIs.cellO tabOk 2 rfl rfl rfl rfl) rfl (fun w' hw => ⟨none, 0, rfl, by
      refine ((hw.turnX 3 rfl (Ψ := fun w => (quA qb cap last ws L K).at_ w F (.bool true)) (fun h9 => ⟨mb, bys, s, M, cc, wv, lv, bv, h9, hN, hbys, hcK, hsc⟩) Vp.loc rfl).less (by repeat (first | exact Less.nil | refine Less.keep ?_ | refine Less.dropB (by first | assumption | omega) ?_ | refine Less.dropW (Nat.le_refl _) ?_))).fresh (Below.refl _ _) (World.ownsRow_nil w' _ _ _) (fun j hj => by cases hj)⟩)
  | some u =>
    obtain ⟨i, p, x, hp, hx, rfl, rfl, hf⟩ := hS.ml.hit hS.mok.keys hg
    have hgot : qGot L x.1 = (x.2.1, x.2.2, true) := by unfold qGot; rw [hf]
    rw [hgot]
    dsimp only
    have hxm := List.mem_of_getElem? hx
    have hxc := hok.cls x hxm
    have hbl : bys.length = ws.length := by rw [hbys]; simp
    refine T_cond_f rfl ?_
    refine T_toX (ι := Nat × Nat × List Value) (fun i => bv = .slice (some ⟨i.1, 0, none⟩) bys.length i.2.1 ∧ bys.length ≤ i.2.1 ∧ i.2.1 ≤ maxLen ∧ (bys.map (Value.int .i64) ++ i.2.2).length = i.2.1 ∧ F i.1)
      (fun i => [.blk qb (quC cap wv mb lv bv last) true, .blk mb (mapO .u64 M cc) true, .blk i.1 (.cells ⟨bys.map (Value.int .i64) ++ i.2.2⟩ 3 (0, 0)) true, .blk b6 (.cells ⟨[.int .i64 x.2.1, .slice a x.2.2.length c]⟩ 52 (0, 0)) true, .blk b4 (.cells ⟨[.int .i64 0, .slice none 0 0]⟩ 52 (0, 0)) true, .row w.heap.size (.slice a x.2.2.length c) 5 1 x.2.2.length (x.2.2.map (.int .u8)),
        .rep (fun w => (quR ws s M L wv lv).at_ w (fun k => F k ∧ ¬ (k = qb ∨ k = mb ∨ k = i.1)) (.bool true)) (fun k => F k ∧ ¬ (k = qb ∨ k = mb ∨ k = i.1)) true]) (fun w1 h1 => ?_) ?_
    · obtain ⟨g, cb, junk, e1, e2, e3, e4, e5, e6⟩ := QuS.split (h1.pm [3, 0, 1, 2] rfl rfl rfl) (by omega)
      exact ⟨(g, cb, junk), ⟨e1, e2, e3, e4, e5⟩, e6.pm [0, 1, 2, 4, 6, 5, 3] rfl rfl rfl⟩
    rintro ⟨g, cb, junk⟩ ⟨e1, hcb, hcm, hjl, hFg⟩
    dsimp only at e1 hcb hcm hjl hFg ⊢
    subst e1
    repeat (first | refine T_seq ?_ | refine T_region ?_ | refine pthen_normal ?_ | refine T_skip ?_ | refine S_pure tabOk rfl ?_ | refine S_load tabOk 0 rfl rfl rfl ?_)
    refine S_deleteN tabOk 1 rfl rfl rfl rfl rfl rfl rfl rfl rfl ?_
    repeat (first | refine T_seq ?_ | refine S_nil ?_)
    obtain ⟨j, hj, hjc⟩ : ∃ j : Nat, (j : Int) = x.2.1 ∧ j < bys.length := ⟨x.2.1.toNat, by omega, by omega⟩
    have hbj : bys[j] = bsum L j := by simp [hbys]
    have hbn := bsum_nn L j
    have hsz := size_sum L fun x hx => (hok.cls x hx).2.2.2
    rw [← hbj] at hbn
    refine T_drawT (by kernel_rfl) 12 rfl (by kernel_rfl) ?_
    repeat (first | refine D_pure tabOk rfl ?_ | refine D_load tabOk 0 rfl rfl rfl ?_ | refine D_load tabOk 3 rfl rfl rfl ?_)
    refine D_q (Q_idx1 tabOk rfl rfl rfl rfl rfl rfl rfl (j := j) (by omega) (by omega)) ?_
    refine D_load1 tabOk (v := .int .i64 bys[j]) rfl rfl (fun w' hw => blkc (hw.pm [2, 0, 1] rfl rfl rfl) (by rw [List.getElem?_append_left (by rw [List.length_map]; exact hjc), List.getElem?_map, List.getElem?_eq_getElem hjc]; rfl)) ?_
    repeat (first | refine D_load tabOk 3 rfl rfl rfl ?_)
    refine D_callx (v := .int .i64 ((x.2.2.length : Int) + 16)) rfl Try.call35 (fun w' vs hw' h => by
      obtain ⟨u1, _, rfl, rfl, rfl⟩ := h
      exact spsize_ok x.2.1 a x.2.2.length c w' (by omega)) ?_
    repeat (first | refine D_i64 tabOk rfl (by omega) ?_)
    refine D_q (Q_idx1 tabOk rfl rfl rfl rfl rfl rfl rfl (j := j) (by omega) (by omega)) ?_
    repeat (first | refine D_all rfl ?_)
    obtain ⟨bys', hb'⟩ : ∃ b', b' = bys.set j (bys[j] - ((x.2.2.length : Int) + 16)) := ⟨_, rfl⟩
    have hl' : bys'.length = bys.length := by rw [hb', List.length_set]
    have hbys' : bys' = (List.range ws.length).map (bsum (qDel L x.1)) := by
      rw [hb', hbj, hbys]
      refine bys_set (by omega) ?_ fun c hc => ?_
      · rw [bsum_del hok.nodup hxm, if_pos hj.symm]
        rfl
      · rw [bsum_del hok.nodup hxm, if_neg (by omega)]
        omega
    refine S_store_of tabOk 2 (cs' := bys'.map (Value.int .i64) ++ junk) rfl rfl (fun u hu => by rw [List.mem_singleton] at hu; subst hu; rfl) rfl (by
      rw [Nat.zero_add]
      refine (setMany_1 (by rw [List.length_append, List.length_map]; omega)).trans (congrArg some ?_)
      rw [List.set_append_left _ _ (by rw [List.length_map]; exact hjc), hb', List.map_set]) rfl ?_
    repeat (first | refine T_seq ?_ | refine T_region ?_ | refine S_nil ?_ | refine T_ret ?_ | refine S_pure tabOk rfl ?_ | refine S_load tabOk 3 rfl rfl rfl ?_ | refine S_store tabOk 4 rfl rfl rfl rfl rfl rfl ?_)
    exact ret2 rfl (ResIs.cellO tabOk 4 rfl rfl rfl rfl) rfl (fun w' hw => ⟨a, c, rfl, by
      have h1 := (hw.pm [0, 1, 2, 6, 3, 4, 5] rfl rfl rfl).turnX 3 rfl (Ψ := fun w => (quR ws s (mDel M x.1) (qDel L x.1) wv lv).at_ w _ (.bool true)) (fun h9 => QuR.del hok.nodup x.1 h9) Vp.loc rfl
      rw [← hl'] at h1 hcb
      have h2 := QuR.join (F' := F) h1 hcb hcm (by rw [← hjl]; simp only [List.length_append, List.length_map, hl']) (hS.mok.del x.1) hS.sl fun k => ⟨fun hk => ?_, fun hk => ?_⟩
      · refine ((h2.turnX 0 rfl (Ψ := fun w => (quA qb cap last ws (qDel L x.1) K).at_ w F (.bool true)) (fun h9 => ⟨mb, bys', s, _, cc, wv, lv, _, h9, hN.less fun y hy => (qDel_sub L x.1).subset hy, hbys', hcK, hsc⟩) Vp.loc rfl).pm [3, 0, 1, 2] rfl rfl rfl).less (by repeat (first | exact Less.nil | refine Less.keep ?_ | refine Less.dropB (by first | assumption | omega) ?_))
      · by_cases k1 : k = qb ∨ k = mb ∨ k = g
        · exact .inr k1
        · exact .inl ⟨hk, k1⟩
      · rcases hk with hk | rfl | rfl | rfl
        · exact hk.1
        · exact hS.Fq
        · exact hS.Fm
        · exact hFg⟩)
end

section
variable {P : Program} {tb : Tab} {n : Nat} {w0 : World} {all : Array Oper} {os : List Oper} {o : Oper} {dl : DL} {ol : OL} {F : DL → Prop} {d : Nat}
/-- What is said of an answer in which a new row is. -/
def OwnF (w0 : World) (ol : OL) (mk : Option Addr → Nat → Value) (E : TypeId) (sz m : Nat) (xs : List Value) (v : Value) (w : World) : Prop := ∃ a c, v = mk a c ∧ w.ownsRow w0.heap.size E sz (.slice a m c) m xs ∧ ∀ k, (Value.slice a m c).ownBlock = some k → ∀ e ∈ ol, ¬ e.has k
theorem OwnF.stable {mk : Option Addr → Nat → Value} {E : TypeId} {sz m : Nat} {xs : List Value} : ∀ v w w', OwnF w0 ol mk E sz m xs v w → Below w.heap.size w w' → OwnF w0 ol mk E sz m xs v w' := by
  rintro v w w' ⟨a, c, h1, h2, h3⟩ hb
  exact ⟨a, c, h1, own_keep h2 fun k hk => hb.block k (World.ownsRow.lt h2 k hk).2, h3⟩
theorem D_callO {f : FuncId} {Es : List Ent} (mk : Option Addr → Nat → Value) {E : TypeId} {sz m : Nat} {xs : List Value} (hs : callD? n all dl o = some (d, f, Es)) (hcall : ∀ args w, (callFunc f args).run P w = .ok (.enter f args) w)
    (hc : ∀ w vs, Hp w0 w ol → EntsAt Es vs w → Calls P f vs.toArray w (fun e w' => ∃ a c, e = .returned (mk a c) ∧ Below w.heap.size w w' ∧ w'.ownsRow w.heap.size E sz (.slice a m c) m xs)) (k : D P n w0 all os ((d, .pr (OwnF w0 ol mk E sz m xs)) :: dl) ol F) : D P n w0 all (o :: os) dl ol F :=
  D_callp (OwnF w0 ol mk E sz m xs) hs hcall OwnF.stable (fun w vs hw he => (hc w vs hw he).mono fun e w' ⟨a, c, e1, hb, hr⟩ => ⟨_, e1, hb, a, c, rfl, own_rebase hr hw.size, fun k hk e he h => by
    have h1 := hw.lt he h
    have h2 := (World.ownsRow.lt hr k hk).1
    omega⟩) k
theorem D_outO (t : Nat) {mk : Option Addr → Nat → Value} {E : TypeId} {sz m : Nat} {xs : List Value} {ol1 : OL} {G : FL → OL → Prop} (h : lk dl t = some (.pr (OwnF w0 ol1 mk E sz m xs))) (hex : ∀ e ∈ ol, e ∈ ol1)
    (k : ∀ a c, D P n w0 all [] ((t, .ex (mk a c)) :: dl) (.row w0.heap.size (.slice a m c) E sz m xs :: ol) (FEnd n w0 (.row w0.heap.size (.slice a m c) E sz m xs :: ol) G)) : D P n w0 all [] dl ol (FEnd n w0 ol G) :=
  D_end fun w hw f hf => by
    obtain ⟨a, c, h1, h2, h3⟩ := hf t _ h
    have g3 : Hp w0 w (.row w0.heap.size (.slice a m c) E sz m xs :: ol) := hw.more h2 fun e he hr k hk hk' => h3 k hk e (hex e he) hk'
    have hk := (k a c).out _ (fun _ => rfl)
    have hk' : FEnd n w0 (.row w0.heap.size (.slice a m c) E sz m xs :: ol) G ((t, .ex (mk a c)) :: dl) := hk
    obtain ⟨l', ol', e1, e2, e3⟩ := hk' w g3 f (fun t' Φ ht' => by
      by_cases htt : t = t'
      · subst htt; rw [lk_cons_eq] at ht'; cases ht'
      · rw [lk_cons_ne htt] at ht'; exact hf t' Φ ht')
    refine ⟨l', ol', fun t' v hv => ?_, e2, e3⟩
    by_cases htt : t = t'
    · subst htt
      rcases e1 t v hv with e | ⟨Φ, e, _⟩
      · rw [lk_cons_eq] at e; cases e; exact .inr ⟨_, h, h1⟩
      · rw [lk_cons_eq] at e; cases e
    · have := e1 t' v hv
      rwa [lk_cons_ne htt] at this
end
section
variable {A : Nat → Prop} {w0 : World} {ol : OL}
/-- nothing that may change is in A -/
def Far (w0 : World) (A : Nat → Prop) (ol : OL) : Prop := ∀ e ∈ ol, e.ex = true → ∀ k, e.has k → w0.heap.size ≤ k ∨ ¬ A k
theorem far_nil : Far w0 A [] := fun e he => by cases he
theorem far_cons {e : HE} (h1 : e.ex = true → ∀ k, e.has k → w0.heap.size ≤ k ∨ ¬ A k) (h : Far w0 A ol) : Far w0 A (e :: ol) := fun e' he => by
  rcases List.mem_cons.1 he with rfl | he
  · exact h1
  · exact h e' he
theorem far_new {b : Nat} {x : Obj} {r : Bool} (hb : w0.heap.size ≤ b) (h : Far w0 A ol) : Far w0 A (.blk b x r :: ol) := far_cons (fun _ k hk => .inl (by rw [← Option.some.inj hk]; exact hb)) h
theorem far_no {b : Nat} {x : Obj} {r : Bool} (hb : ¬ A b) (h : Far w0 A ol) : Far w0 A (.blk b x r :: ol) := far_cons (fun _ k hk => .inr (by rw [← Option.some.inj hk]; exact hb)) h
theorem far_rep {Φ : World → Prop} {F : Nat → Prop} {r : Bool} (hF : ∀ k, F k → w0.heap.size ≤ k ∨ ¬ A k) (h : Far w0 A ol) : Far w0 A (.rep Φ F r :: ol) := far_cons (fun _ k hk => hF k hk) h
theorem far_row {w : World} {v : Value} {E : TypeId} {sz m : Nat} {xs : List Value} (hr : w.ownsRow w0.heap.size E sz v m xs) (h : Far w0 A ol) : Far w0 A (.row w0.heap.size v E sz m xs :: ol) := far_cons (fun _ k hk => .inl (World.ownsRow.lt hr k hk).1) h
theorem SlR.far {α : Type} {R : Rep α} {w : World} {a : Option Addr} {n c : Nat} {l : List α} (h : SlR R w0 A a n c l) (hw : Hp w0 w ol) (hn : Far w0 A ol) : SlR R w A a n c l :=
  h.keep fun k hk hlt => ⟨hw.old k hlt fun e he hx hh => (hn e he hx k hh).elim (fun h => by omega) fun h => h hk, hk⟩
end
/-- what an object's call leaves -/
def Turns (w : World) (F : Nat → Prop) (p : Vp) (w' : World) : Prop := ∃ F' : Nat → Prop, (∀ k, F k → F' k) ∧ (∀ k, F' k → F k ∨ w.heap.size ≤ k) ∧ Hp w w' [.rep (fun w => p.at_ w F' (.bool true)) F' true]
def qSum (L : List QE) : Int := (L.map sizeQ).sum
/-- Put: its error, the greatest number that came, who is there -/
def qPut (cap last : Int) (ws : List Int) (L : List QE) (n k : Int) (zs : List Int) : Int × Int × List QE :=
  if (sright k zs.length && decide (k < (ws.length : Int))) = true then
    if n ≤ last then (9, last, L) else if cap - qSum L < (zs.length : Int) + 16 then (5, last, L) else (0, n, L ++ [(n, k, zs)])
  else (1, last, L)
section
variable {qb : Nat} {cap last : Int} {ws : List Int} {L : List QE} {K : Nat} {w : World} {F : Nat → Prop}
set_option maxHeartbeats 4000000 in
theorem q_put (h : (quA qb cap last ws L K).at_ w F (.bool true)) (hF : ∀ k, F k → k < w.heap.size) (hok : QOk cap last ws L) (hlen : L.length ≤ 65535) (hws : ws.length ≤ 8) (hK : K ≤ 1000000) (hcap : 0 ≤ cap ∧ cap ≤ 1099511627776) (hl0 : 0 ≤ last) {n k : Int} {a : Option Addr} {m c : Nat} {zs : List Int} (hn : n ≤ 18446744073709551615) {A : Nat → Prop} (hz : SlR (Rint .u8) w A a m c zs) (hA : ∀ k, A k → ¬ F k) :
    Calls Try.prog 27 #[qptr qb, .int .u64 n, .agg #[.int .i64 k, .slice a m c]] w fun e w' => e = .returned (.int .i64 (qPut cap last ws L n k zs).1) ∧ Turns w F (quA qb cap (qPut cap last ws L n k zs).2.1 ws (qPut cap last ws L n k zs).2.2 (K + 1)) w' := by
  obtain ⟨mb, bys, s, M, cc, wv, lv, bv, hS, hN, hbys, hcK, hsc⟩ := h
  obtain rfl := hz.len
  have hst := Hp.startO (p := quV qb mb cap last ws bys s M cc L wv lv bv) (v := .bool true) hS hF
  refine enter3 Try.func27 rfl rfl hst ?_
  repeat (first | refine T_seq ?_ | refine T_region ?_)
  refine S_new tabOk rfl (fun b5 hb5 => ?_)
  repeat (first | refine T_seq ?_ | refine T_region ?_ | refine T_block ?_ | refine S_nil ?_ | refine S_pure tabOk rfl ?_)
  refine S_q (Q_eqptr tabOk rfl rfl rfl rfl rfl) ?_
  repeat (first | refine S_nil ?_ | refine S_pure tabOk rfl ?_)
  refine T_cond_f rfl ?_
  repeat (first | refine T_seq ?_ | refine T_region ?_ | refine S_pure tabOk rfl ?_ | refine S_load tabOk 0 rfl rfl rfl ?_)
  refine S_callq (v := .bool (sright k zs.length && decide (k < (ws.length : Int)))) rfl Try.call34 (fun w1 h1 => q_takes (K := K) ⟨mb, bys, s, M, cc, wv, lv, bv, (h1.own _ (getE_mem (i := 1) rfl)).1, hN, hbys, hcK, hsc⟩ k a zs.length c) ?_
  repeat (first | refine S_nil ?_ | refine S_pure tabOk rfl ?_)
  cases ht : (sright k zs.length && decide (k < (ws.length : Int))) with
  | false =>
    have hq : qPut cap last ws L n k zs = (1, last, L) := by unfold qPut; rw [if_neg (by rw [ht]; decide)]
    rw [hq]
    dsimp only
    refine T_cond_t rfl ?_
    repeat (first | refine T_seq ?_ | refine T_region ?_ | refine S_nil ?_ | refine inb_ret ?_ | refine pthen_ret ?_ | refine T_ret ?_ | refine S_pure tabOk rfl ?_)
    exact ret1 rfl rfl (fun w' hw => ⟨rfl, F, fun k hk => hk, fun k hk => .inl hk, (hw.turnX 1 rfl (Ψ := fun w => (quA qb cap last ws L (K + 1)).at_ w F (.bool true)) (fun h9 => ⟨mb, bys, s, M, cc, wv, lv, bv, h9, hN, hbys, by omega, hsc⟩) Vp.loc rfl).less (by repeat (first | exact Less.nil | refine Less.keep ?_ | refine Less.dropB (by first | assumption | omega) ?_))⟩)
  | true =>
  refine T_cond_f rfl ?_
  repeat (first | refine T_seq ?_ | refine T_region ?_ | refine S_pure tabOk rfl ?_)
  refine S_load1 tabOk (v := .int .u64 last) rfl rfl (fun w' hw => QuS.cell (hw.own _ (getE_mem (i := 1) rfl)).1 (j := 5) rfl) ?_
  repeat (first | refine S_nil ?_ | refine S_pure tabOk rfl ?_)
  refine T_cond_dec rfl (fun hle => ?_) (fun hle => ?_)
  · have hq : qPut cap last ws L n k zs = (9, last, L) := by unfold qPut; rw [if_pos ht, if_pos hle]
    rw [hq]
    dsimp only
    repeat (first | refine T_seq ?_ | refine T_region ?_ | refine S_nil ?_ | refine inb_ret ?_ | refine pthen_ret ?_ | refine T_ret ?_ | refine S_pure tabOk rfl ?_)
    exact ret1 rfl rfl (fun w' hw => ⟨rfl, F, fun k hk => hk, fun k hk => .inl hk, (hw.turnX 1 rfl (Ψ := fun w => (quA qb cap last ws L (K + 1)).at_ w F (.bool true)) (fun h9 => ⟨mb, bys, s, M, cc, wv, lv, bv, h9, hN, hbys, by omega, hsc⟩) Vp.loc rfl).less (by repeat (first | exact Less.nil | refine Less.keep ?_ | refine Less.dropB (by first | assumption | omega) ?_))⟩)
  have hr2 := ht
  unfold sright at hr2
  simp only [Bool.and_eq_true, decide_eq_true_eq] at hr2
  obtain ⟨⟨hk0, hk8, hz4⟩, hkw⟩ := hr2
  have hsz : 0 ≤ qSum L ∧ qSum L ≤ (L.length : Int) * 4112 := size_sum L fun x hx => (hok.cls x hx).2.2.2
  repeat (first | refine T_draw (by kernel_rfl) (by kernel_rfl) ?_ | refine D_load tabOk 0 rfl rfl rfl ?_ | refine T_seq ?_)
  refine D_callx (v := .int .i64 ((zs.length : Int) + 16)) rfl Try.call35 (fun w' vs hw' h => by
    obtain ⟨u1, _, rfl, rfl, rfl⟩ := h
    exact spsize_ok k a zs.length c w' (by omega)) ?_
  repeat (first | refine D_pure tabOk rfl ?_)
  refine D_load1 tabOk (v := .int .i64 cap) rfl rfl (fun w' hw => QuS.cell (hw.own _ (getE_mem (i := 1) rfl)).1 (j := 0) rfl) ?_
  repeat (first | refine D_pure tabOk rfl ?_)
  refine D_callx (v := .int .i64 (qSum L)) rfl Try.call37 (fun w' vs hw' h => by
    obtain ⟨u1, _, rfl, rfl, rfl⟩ := h
    exact q_bytes (K := K) ⟨mb, bys, s, M, cc, wv, lv, bv, (hw'.own _ (getE_mem (i := 1) rfl)).1, hN, hbys, hcK, hsc⟩ hok (by omega) hws) ?_
  repeat (first | refine D_all rfl ?_ | refine D_i64 tabOk rfl (by omega) ?_ | refine D_pure tabOk rfl ?_)
  refine T_cond_dec rfl (fun hfu => ?_) (fun hfu => ?_)
  · have hq : qPut cap last ws L n k zs = (5, last, L) := by unfold qPut; rw [if_pos ht, if_neg hle, if_pos hfu]
    rw [hq]
    dsimp only
    repeat (first | refine pthen_normal ?_ | refine T_skip ?_)
    refine T_cond_t (by
      show some (Value.bool _) = _
      rw [decide_eq_true hfu]) ?_
    repeat (first | refine T_seq ?_ | refine T_region ?_ | refine S_nil ?_ | refine inb_ret ?_ | refine pthen_ret ?_ | refine T_ret ?_ | refine S_pure tabOk rfl ?_)
    exact ret1 rfl rfl (fun w' hw => ⟨rfl, F, fun k hk => hk, fun k hk => .inl hk, (hw.turnX 1 rfl (Ψ := fun w => (quA qb cap last ws L (K + 1)).at_ w F (.bool true)) (fun h9 => ⟨mb, bys, s, M, cc, wv, lv, bv, h9, hN, hbys, by omega, hsc⟩) Vp.loc rfl).less (by repeat (first | exact Less.nil | refine Less.keep ?_ | refine Less.dropB (by first | assumption | omega) ?_))⟩)
  have hq : qPut cap last ws L n k zs = (0, n, L ++ [(n, k, zs)]) := by unfold qPut; rw [if_pos ht, if_neg hle, if_neg hfu]
  rw [hq]
  dsimp only
  repeat (first | refine T_region ?_ | refine S_pure tabOk rfl ?_)
  refine S_load1 tabOk (v := .map (some mb)) rfl rfl (fun w' hw => QuS.cell (hw.own _ (getE_mem (i := 1) rfl)).1 (j := 2) rfl) ?_
  skip
  refine S_q (Q_maplen tabOk rfl rfl rfl rfl (fun w' hw => QuS.m (hw.own _ (getE_mem (i := 1) rfl)).1)) ?_
  repeat (first | refine S_nil ?_ | refine S_pure tabOk rfl ?_)
  have hml := hS.ml.len
  refine T_cond_dec rfl (fun hma => by omega) (fun hma => ?_)
  repeat (first | refine T_seq ?_ | refine pthen_normal ?_ | refine inb_normal ?_ | refine T_skip ?_)
  have hbl : bys.length = ws.length := by rw [hbys]; simp
  refine T_toX (ι := Nat × Nat × List Value) (fun i => bv = .slice (some ⟨i.1, 0, none⟩) bys.length i.2.1 ∧ bys.length ≤ i.2.1 ∧ i.2.1 ≤ maxLen ∧ (bys.map (Value.int .i64) ++ i.2.2).length = i.2.1 ∧ F i.1)
      (fun i => [.blk qb (quC cap wv mb lv bv last) true, .blk mb (mapO .u64 M cc) true, .blk i.1 (.cells ⟨bys.map (Value.int .i64) ++ i.2.2⟩ 3 (0, 0)) true, .blk b5 (.cells ⟨[.int .i64 k, .slice a zs.length c]⟩ 52 (0, 0)) true,
        .rep (fun w => (quR ws s M L wv lv).at_ w (fun k => F k ∧ ¬ (k = qb ∨ k = mb ∨ k = i.1)) (.bool true)) (fun k => F k ∧ ¬ (k = qb ∨ k = mb ∨ k = i.1)) true]) (fun w1 h1 => ?_) ?_
  · obtain ⟨g, cb, junk, e1, e2, e3, e4, e5, e6⟩ := QuS.split (h1.pm [1, 0] rfl rfl rfl) (by omega)
    exact ⟨(g, cb, junk), ⟨e1, e2, e3, e4, e5⟩, e6.pm [0, 1, 2, 4, 3] rfl rfl rfl⟩
  rintro ⟨g, cb, junk⟩ ⟨e1, hcb, hcm, hjl, hFg⟩
  dsimp only at e1 hcb hcm hjl hFg ⊢
  subst e1
  refine T_drawT (by kernel_rfl) 7 rfl (by kernel_rfl) ?_
  repeat (first | refine D_pure tabOk rfl ?_ | refine D_load tabOk 0 rfl rfl rfl ?_ | refine D_load tabOk 3 rfl rfl rfl ?_)
  have nq : ¬ A qb := fun h => hA _ h hS.Fq
  have nm : ¬ A mb := fun h => hA _ h hS.Fm
  have ng : ¬ A g := fun h => hA _ h hFg
  have nF : ∀ k, F k ∧ ¬ (k = qb ∨ k = mb ∨ k = g) → w.heap.size ≤ k ∨ ¬ A k := fun k hk => .inr fun h => hA k h hk.1
  refine D_callO (m := zs.length) (xs := zs.map (.int .u8)) (fun a' c' => .agg ⟨[.int .i64 k, .slice a' zs.length c']⟩) rfl Try.call51 (fun w' vs hw' h => by
    obtain ⟨u1, _, rfl, rfl, rfl⟩ := h
    exact qown_ok (p := ⟨k, zs, a, c⟩) w' (hz.far hw' (by repeat (first | exact far_nil | refine far_new (by first | assumption | omega) ?_ | refine far_no (by assumption) ?_ | refine far_rep (by assumption) ?_))).ints (by show zs.length ≤ _; omega)) ?_
  refine D_outO 45 rfl (fun e he => he) (fun a2 c2 => ?_)
  refine D_allP rfl ?_
  refine S_mapupd tabOk 2 rfl rfl rfl rfl rfl rfl rfl rfl rfl rfl ?_
  repeat (first | refine T_seq ?_ | refine T_region ?_ | refine S_nil ?_ | refine S_pure tabOk rfl ?_ | refine S_store tabOk 1 rfl rfl rfl rfl rfl rfl ?_)
  obtain ⟨j, hj, hjc⟩ : ∃ j : Nat, (j : Int) = k ∧ j < bys.length := ⟨k.toNat, by omega, by omega⟩
  have hbj : bys[j] = bsum L j := by simp [hbys]
  have hbn := bsum_nn L j
  rw [← hbj] at hbn
  have hsz2 : (L.map sizeQ).sum = qSum L := rfl
  refine T_drawT (by kernel_rfl) 12 rfl (by kernel_rfl) ?_
  repeat (first | refine D_pure tabOk rfl ?_ | refine D_load tabOk 1 rfl rfl rfl ?_ | refine D_load tabOk 4 rfl rfl rfl ?_)
  refine D_q (Q_idx1 tabOk rfl rfl rfl rfl rfl rfl rfl (j := j) (by omega) (by omega)) ?_
  refine D_load1 tabOk (v := .int .i64 bys[j]) rfl rfl (fun w' hw => blkc (hw.pm [3, 0, 1, 2] rfl rfl rfl) (by rw [List.getElem?_append_left (by rw [List.length_map]; exact hjc), List.getElem?_map, List.getElem?_eq_getElem hjc]; rfl)) ?_
  repeat (first | refine D_load tabOk 4 rfl rfl rfl ?_)
  refine D_callx (v := .int .i64 ((zs.length : Int) + 16)) rfl Try.call35 (fun w' vs hw' h => by
    obtain ⟨u1, _, rfl, rfl, rfl⟩ := h
    exact spsize_ok k a zs.length c w' (by omega)) ?_
  repeat (first | refine D_i64 tabOk rfl (by omega) ?_)
  refine D_q (Q_idx1 tabOk rfl rfl rfl rfl rfl rfl rfl (j := j) (by omega) (by omega)) ?_
  repeat (first | refine D_all rfl ?_)
  obtain ⟨bys', hb'⟩ : ∃ b', b' = bys.set j (bys[j] + ((zs.length : Int) + 16)) := ⟨_, rfl⟩
  have hl' : bys'.length = bys.length := by rw [hb', List.length_set]
  have hbys' : bys' = (List.range ws.length).map (bsum (L ++ [(n, k, zs)])) := by
    rw [hb', hbj, hbys]
    refine bys_set (by omega) ?_ fun c hc => ?_
    · rw [bsum_snoc, if_pos hj.symm]
      rfl
    · rw [bsum_snoc, if_neg (by show ¬ k = (c : Int); omega)]
      omega
  refine S_store_of tabOk 3 (cs' := bys'.map (Value.int .i64) ++ junk) rfl rfl (fun u hu => by rw [List.mem_singleton] at hu; subst hu; rfl) rfl (by
    rw [Nat.zero_add]
    refine (setMany_1 (by rw [List.length_append, List.length_map]; omega)).trans (congrArg some ?_)
    rw [List.set_append_left _ _ (by rw [List.length_map]; exact hjc), hb', List.map_set]) rfl ?_
  refine S_nil ?_
  have hnM : n ∉ M.map (·.1) := fun hm => by
    rw [hS.ml.keys] at hm
    obtain ⟨y, hy, e⟩ := List.mem_map.1 hm
    have := (hok.pos y hy).2
    have e2 : y.1 = n := e
    omega
  rw [mPut_fresh n _ cc M hnM]
  dsimp only
  have hzf := hz.ints.fits
  refine T_toX (ι := Unit) (fun _ => ∀ k, (Value.slice a2 zs.length c2).ownBlock = some k → w.heap.size ≤ k)
    (fun _ => [.rep (fun w => (quV qb mb cap n ws bys' s (M ++ [(n, .agg #[.int .i64 k, .slice a2 zs.length c2], cc)]) (cc + 1) (L ++ [(n, k, zs)]) wv lv (.slice (some ⟨g, 0, none⟩) bys.length cb)).at_ w (fun k => F k ∨ (Value.slice a2 zs.length c2).ownBlock = some k) (.bool true)) (fun k => F k ∨ (Value.slice a2 zs.length c2).ownBlock = some k) true, .blk b5 (.cells ⟨[.int .i64 k, .slice a zs.length c]⟩ 52 (0, 0)) true]) (fun w1 h1 => ?_) ?_
  · have hrow : w1.ownsRow w.heap.size 5 1 (.slice a2 zs.length c2) zs.length _ := h1.own _ (getE_mem (i := 0) rfl)
    refine ⟨(), fun k hk => (World.ownsRow.lt hrow k hk).1, ?_⟩
    have h2 := (QuR.row (c := cc) n k (h1.pm [0, 5, 1, 2, 3, 4] rfl rfl rfl) hzf).pm [1, 2, 3, 0] rfl rfl rfl
    rw [← hl'] at h2 hcb
    have h3 := QuR.join (F' := fun k => F k ∨ (Value.slice a2 zs.length c2).ownBlock = some k) h2 hcb hcm (by rw [← hjl]; simp only [List.length_append, List.length_map, hl']) (hS.mok.push hnM) hS.sl fun k => ⟨fun hk => ?_, fun hk => ?_⟩
    · rw [hl'] at h3
      exact h3
    · rcases hk with hk | hk
      · by_cases k1 : k = qb ∨ k = mb ∨ k = g
        · exact .inr k1
        · exact .inl (.inl ⟨hk, k1⟩)
      · exact .inl (.inr hk)
    · rcases hk with (hk | hk) | rfl | rfl | rfl
      · exact .inl hk.1
      · exact .inr hk
      · exact .inl hS.Fq
      · exact .inl hS.Fm
      · exact .inl hFg
  rintro _ hnew
  repeat (first | refine T_seq ?_ | refine T_region ?_ | refine S_pure tabOk rfl ?_)
  refine S_q (Q_mkif tabOk rfl rfl rfl rfl) ?_
  repeat (first | refine S_pure tabOk rfl ?_)
  refine S_q (Q_mkif tabOk rfl rfl rfl rfl) ?_
  refine S_callT 0 rfl Try.call52 rfl (fun w1 g1 => (qlow_push (g1.own _ (getE_mem (i := 0) rfl)).1 (g1.own _ (getE_mem (i := 0) rfl)).2.2 (by omega) n).mono fun e w' ⟨he, F', f1, f2, g2⟩ => ⟨_, _, F', he, g2, f1, f2, _, rfl, ?_⟩)
  have hsz1 := g1.size
  repeat (first | refine T_seq ?_ | refine T_region ?_ | refine S_nil ?_ | refine T_ret ?_ | refine S_pure tabOk rfl ?_)
  exact ret1 rfl rfl (fun w' hw => ⟨rfl, F', fun k hk => f1 k (.inl hk), fun k hk => by
    rcases f2 k hk with (h | h) | h
    · exact .inl h
    · exact .inr (hnew k h)
    · exact .inr (Nat.le_trans hsz1 h), (hw.turnX 0 rfl (Ψ := fun w => (quA qb cap n ws (L ++ [(n, k, zs)]) (K + 1)).at_ w F' (.bool true)) (fun ⟨lv', h9⟩ => ⟨mb, bys', _, _, cc + 1, wv, lv', _, h9, hN.push (nuOb_ol qb (.int .i64 cap) wv (.map (some mb)) (.slice (some ⟨g, 0, none⟩) bys.length cb) (.int .u64 n)) (by omega) (k, zs), hbys', by omega, by
      rw [(up_perm (nuOb_ol qb (.int .i64 cap) wv (.map (some mb)) (.slice (some ⟨g, 0, none⟩) bys.length cb) (.int .u64 n)) (s.length + 1) (s ++ [n]) s.length).length_eq, List.length_append, List.length_singleton]
      omega⟩) Vp.loc rfl).less (by repeat (first | exact Less.nil | refine Less.keep ?_ | refine Less.dropB (by first | assumption | omega) ?_))⟩)
end

theorem cloneI_ok (a : Option Addr) (n c : Nat) (l : List Int) (w : World) (h : Sl w 1 a n (l.map (.int .i64))) (hnil : a = none → n = 0) (hn : n ≤ 1000000) :
    Calls Try.prog 50 #[.slice a n c] w fun e w' => ∃ a c, e = .returned (.slice a n c) ∧ Below w.heap.size w w' ∧ w'.ownsRow w.heap.size 3 1 (.slice a n c) n (l.map (.int .i64)) := by
  refine enter1 Try.func50 rfl rfl (Hp.refl w) ?_
  repeat (first | refine T_seq ?_ | refine T_region ?_ | refine S_nil ?_ | refine S_pure tabOk rfl ?_)
  refine S_q (Q_eqnil tabOk rfl rfl rfl rfl rfl) ?_
  cases a with
  | none =>
    have h0 := hnil rfl
    subst h0
    have hl0 : l = [] := by
      have := h.len
      rw [List.length_map, Nat.zero_mul] at this
      exact List.eq_nil_of_length_eq_zero this
    subst hl0
    repeat (first | refine T_seq ?_ | refine T_region ?_ | refine S_nil ?_ | refine pthen_ret ?_ | refine T_ret ?_ | refine T_cond_t rfl ?_ | refine S_pure tabOk rfl ?_)
    exact ret1 rfl rfl (fun w' hw => ⟨none, 0, rfl, hw.below new_nil, World.ownsRow_nil w' _ _ _⟩)
  | some ad =>
    repeat (first | refine T_seq ?_ | refine T_region ?_ | refine S_nil ?_ | refine pthen_normal ?_ | refine T_skip ?_ | refine T_cond_f rfl ?_)
    refine S_bslice tabOk rfl rfl rfl rfl rfl rfl rfl rfl rfl rfl rfl rfl (fun b2 hb2 => ?_)
    repeat (first | refine S_pure tabOk rfl ?_)
    refine S_heap (ol' := [.row w.heap.size (.slice (some ⟨b2, 0, none⟩) 0 0) 3 1 0 []]) (fun w' h => Hp.closeRow (pre := []) (n := 0) (c := 0) h hb2 (by decide) (by decide) rfl) ?_
    refine S_append (ty := 0) tabOk 0 rfl rfl rfl rfl rfl rfl rfl rfl rfl (by decide) (fun w' hw => h.ext (hw.below (newrow hw 0 rfl (Nat.le_refl _) new_nil))) (fun u hu => by obtain ⟨x, _, rfl⟩ := List.mem_map.1 hu; rfl) (by simp only [maxLen]; omega) (by show (_ + _) * 8 ≤ _; omega) rfl (fun A' c' h1 h2 => ⟨_, rfl, ?_⟩)
    repeat (first | refine S_nil ?_ | refine T_ret ?_ | refine S_pure tabOk rfl ?_)
    rw [List.nil_append, Nat.zero_add]
    exact ret1 rfl rfl (fun w' hw => ⟨A', c', rfl, hw.below (newrow hw 0 rfl (Nat.le_refl _) new_nil), hw.own _ (getE_mem (i := 0) rfl)⟩)
/-- of a queue that is new -/
theorem QuR.first {w0 w : World} {base : Nat} {v : Value} {ws : List Int} {ol : OL} (hb : w0.heap.size ≤ base) (hh : Hp w0 w (.row base v 3 1 ws.length (ws.map (.int .i64)) :: ol)) :
    Hp w0 w (.rep (fun w => (quR ws [] [] [] v (.slice none 0 0)).at_ w (fun k => v.ownBlock = some k) (.bool true)) (fun k => v.ownBlock = some k) true :: ol) := by
  have o0 : w.ownsRow base 3 1 v ws.length (ws.map (.int .i64)) := hh.own _ (getE_mem (i := 0) rfl)
  refine Hp.regroup [.row base v 3 1 ws.length (ws.map (Value.int .i64))] [.rep (fun w => (quR ws [] [] [] v (.slice none 0 0)).at_ w (fun k => v.ownBlock = some k) (.bool true)) (fun k => v.ownBlock = some k) true] hh (fun e he => ?_) (fun e he => ?_) (List.pairwise_singleton _ _) (fun e he k hk => ?_) (fun e he k hk => ?_)
  · rw [List.mem_singleton] at he
    subst he; rfl
  · rw [List.mem_singleton] at he
    subst he
    exact ⟨rfl, (⟨⟨o0.1, o0.2.imp id fun ⟨g, cap, cur, h1, h2, h3⟩ => ⟨g, cap, cur, h1, Nat.zero_le _, h3⟩⟩, fun k hk => hk, World.ownsRow_nil w _ _ _, (fun k hk => by cases hk), MLz.nil⟩ : QuR ws [] [] [] v (.slice none 0 0) w _), Vp.loc (p := quR ws [] [] [] v (.slice none 0 0)), fun k hk => (World.ownsRow.lt o0 k hk).2⟩
  · rw [List.mem_singleton] at he
    subst he
    exact ⟨_, List.mem_cons_self, hk⟩
  · rw [List.mem_singleton] at he
    subst he
    exact .inr ⟨_, List.mem_cons_self, hk⟩
/-- may there be such a queue? -/
def qRight (cap : Int) (ws : List Int) : Bool := decide (rightW ws) && decide (1 ≤ cap ∧ cap ≤ 1099511627776)
set_option maxHeartbeats 4000000 in
theorem q_new (cap : Int) (a : Option Addr) (n c : Nat) (ws : List Int) (w : World) (hI : Ints .i64 w a n c ws) :
    Calls Try.prog 25 #[.int .i64 cap, .slice a n c] w fun e w' => if qRight cap ws = true then ∃ qb F, e = .returned (.tuple #[qptr qb, .int .i64 0]) ∧ (∀ k, F k → w.heap.size ≤ k) ∧ Hp w w' [.rep (fun w => (quA qb cap 0 ws [] 0).at_ w F (.bool true)) F true]
      else e = .returned (.tuple #[.pointer none, .int .i64 1]) ∧ Below w.heap.size w w' := by
  obtain rfl := hI.len
  refine enter2 Try.func25 rfl rfl (Hp.refl w) ?_
  repeat (first | refine T_seq ?_ | refine T_region ?_ | refine S_nil ?_ | refine S_pure tabOk rfl ?_)
  cases hr : decide (rightW ws) with
  | false =>
    refine S_callq (v := .bool false) rfl Try.call17 (fun w1 h1 => (sright_ok a _ c ws w1 (ints_ext hI (h1.below new_nil))).mono fun e w' ⟨e1, e2⟩ => ⟨by rw [e1, hr], e2⟩) ?_
    repeat (first | refine S_nil ?_ | refine S_pure tabOk rfl ?_ | refine S_pass rfl rfl rfl ?_)
    refine T_cond_t rfl ?_
    repeat (first | refine T_seq ?_ | refine T_region ?_ | refine S_nil ?_ | refine pthen_ret ?_ | refine T_ret ?_ | refine S_pure tabOk rfl ?_)
    exact ret2 rfl rfl rfl (fun w' hw => by
      rw [if_neg (by unfold qRight; rw [hr]; simp)]
      exact ⟨rfl, hw.below new_nil⟩)
  | true =>
  refine S_callq (v := .bool true) rfl Try.call17 (fun w1 h1 => (sright_ok a _ c ws w1 (ints_ext hI (h1.below new_nil))).mono fun e w' ⟨e1, e2⟩ => ⟨by rw [e1, hr], e2⟩) ?_
  repeat (first | refine S_pure tabOk rfl ?_)
  have hrw : rightW ws := of_decide_eq_true hr
  by_cases hc1 : cap < 1
  · refine S_re 13 (v' := .bool true) rfl (congrArg Value.bool (decide_eq_true hc1)) ?_
    repeat (first | refine S_nil ?_ | refine S_pure tabOk rfl ?_ | refine S_pass rfl rfl rfl ?_)
    refine T_cond_t rfl ?_
    repeat (first | refine T_seq ?_ | refine T_region ?_ | refine S_nil ?_ | refine pthen_ret ?_ | refine T_ret ?_ | refine S_pure tabOk rfl ?_)
    exact ret2 rfl rfl rfl (fun w' hw => by
      rw [if_neg (by unfold qRight; rw [hr, decide_eq_false (by omega)]; simp)]
      exact ⟨rfl, hw.below new_nil⟩)
  refine S_re 13 (v' := .bool false) rfl (congrArg Value.bool (decide_eq_false hc1)) ?_
  repeat (first | refine S_nil ?_ | refine S_pure tabOk rfl ?_)
  refine T_cond_dec rfl (fun hc2 => ?_) (fun hc2 => ?_)
  · repeat (first | refine T_seq ?_ | refine T_region ?_ | refine S_nil ?_ | refine pthen_ret ?_ | refine T_ret ?_ | refine S_pure tabOk rfl ?_)
    exact ret2 rfl rfl rfl (fun w' hw => by
      rw [if_neg (by unfold qRight; rw [hr, decide_eq_false (by omega)]; simp)]
      exact ⟨rfl, hw.below new_nil⟩)
  repeat (first | refine T_seq ?_ | refine pthen_normal ?_ | refine T_skip ?_)
  have hrt : qRight cap ws = true := by unfold qRight; rw [hr, decide_eq_true (by omega)]; rfl
  have h1w := hrw.1
  have h8w := hrw.2.1
  obtain ⟨zr, hzr⟩ : ∃ zr : List Int, zr = List.replicate ws.length 0 := ⟨_, rfl⟩
  have hmz : (madeCells #[.int .i64 0] (ws.length * 1)).toList = zr.map (Value.int .i64) := by rw [made_one, hzr, List.map_replicate]
  have cl : ∀ w1, Below w.heap.size w w1 → Calls Try.prog 50 #[.slice a ws.length c] w1 fun e w' => ∃ a c, e = .returned (.slice a ws.length c) ∧ Below w1.heap.size w1 w' ∧ w'.ownsRow w1.heap.size 3 1 (.slice a ws.length c) ws.length (ws.map (.int .i64)) := fun w1 hb =>
    cloneI_ok a ws.length c ws w1 (ints_ext hI hb).sl (fun h => (hI.nil h).1) (by omega)
  let cs : Value → Value → Value → List Value := fun v2 v3 v6 => [.int .i64 cap, v2, v3, .slice none 0 0, v6, .int .u64 0]
  let lst : Bool → Bool → Bool → Bool → Bool → Bool → Value × Nat → Value × Nat → Value × Nat → Value × Nat → Value × Nat → Value × Nat → OL := fun l2 l3 l6 l7 l8 l9 x2 x3 x6 x7 x8 x9 =>
    cond l2 [.row w.heap.size x2.1 3 1 ws.length (ws.map (.int .i64))] [] ++ (cond l3 [.blk x3.2 (mapO .u64 [] 0) true, factE (x3.1 = .map (some x3.2) ∧ w.heap.size ≤ x3.2)] [] ++ (cond l6 [.blk x6.2 (.cells ⟨zr.map (.int .i64)⟩ 3 (0, 0)) true, factE (x6.1 = .slice (some ⟨x6.2, 0, none⟩) ws.length ws.length ∧ w.heap.size ≤ x6.2)] [] ++ (cond l7 [factE (x7.1 = .agg ⟨cs x2.1 x3.1 x6.1⟩)] [] ++
      (cond l8 [.blk x8.2 (.cells ⟨cs x2.1 x3.1 x6.1⟩ 105 (0, 0)) true, factE (x8.1 = .pointer (some ⟨x8.2, 0, none⟩) ∧ w.heap.size ≤ x8.2)] [] ++ cond l9 [factE (x9.1 = x8.1)] []))))
  refine T_drawF (γ := Nat) (by kernel_rfl) (by kernel_rfl) 0 (fun L f => lst (L 2) (L 3) (L 6) (L 7) (L 8) (L 9) (f 2) (f 3) (f 6) (f 7) (f 8) (f 9)) rfl [some (.int .i64 cap), some (.slice a ws.length c), none, none, some (.slice a ws.length c), some (.int .i64 (ws.length : Int)), none, none, none, none, some (.int .i64 0)] ?_ ?_
  · refine ⟨?_, ?_, ?_, ?_, ?_, ?_, ?_, ?_, ?_, ?_, ?_, trivial⟩
    · exact fun L f hc hl hp => OpA.told 0 rfl (D_pure tabOk rfl D_last) rfl
    · exact fun L f hc hl hp => OpA.told 0 rfl (D_pure tabOk rfl D_last) rfl
    · intro L f hc hl hp
      have h7 := closed_no hc (j := 7) rfl ⟨2, .data⟩ (by simp) rfl hl
      have h8 := closed_no hc (j := 8) rfl ⟨7, .data⟩ (by simp) rfl h7
      have h9 := closed_no hc (j := 9) rfl ⟨8, .data⟩ (by simp) rfl h8
      show OpA _ _ _ _ (lst (L 2) (L 3) (L 6) (L 7) (L 8) (L 9) (f 2) (f 3) (f 6) (f 7) (f 8) (f 9)) (fun y => lst true (L 3) (L 6) (L 7) (L 8) (L 9) y (f 3) (f 6) (f 7) (f 8) (f 9)) _ _ _
      rw [hl, h7, h8, h9]
      cases L 3 <;> cases L 6 <;> exact OpA.callrow rfl Try.call50 (fun w1 vs hw1 h => by
        obtain ⟨u1, _, rfl, rfl, rfl⟩ := h
        first
          | exact cl w1 (hw1.below new_nil)
          | (have hb := (hw1.fact 3 rfl).2
             have hb2 := (hw1.fact 1 rfl).2
             exact cl w1 (hw1.below (by repeat (first | exact new_nil | refine new_ro ?_ | refine new_cons (by first | assumption | omega) ?_))))
          | (have hb := (hw1.fact 1 rfl).2
             exact cl w1 (hw1.below (by repeat (first | exact new_nil | refine new_ro ?_ | refine new_cons (by first | assumption | omega) ?_))))) (fun w1 v hw1 => ⟨0, hw1.perm (by repeat (first | exact List.Perm.refl _))⟩)
    · intro L f hc hl hp
      have h7 := closed_no hc (j := 7) rfl ⟨3, .data⟩ (by simp) rfl hl
      have h8 := closed_no hc (j := 8) rfl ⟨7, .data⟩ (by simp) rfl h7
      have h9 := closed_no hc (j := 9) rfl ⟨8, .data⟩ (by simp) rfl h8
      show OpA _ _ _ _ (lst (L 2) (L 3) (L 6) (L 7) (L 8) (L 9) (f 2) (f 3) (f 6) (f 7) (f 8) (f 9)) (fun y => lst (L 2) true (L 6) (L 7) (L 8) (L 9) (f 2) y (f 6) (f 7) (f 8) (f 9)) _ _ _
      rw [hl, h7, h8, h9]
      cases L 2 <;> cases L 6 <;> (
        refine OpA.ofS (l := []) rfl (by decide) .nil ?_
        refine S_makemap rfl .u64 (fun b hb => ?_)
        refine S_nil ?_
        have hf : Value.map (some b) = .map (some b) ∧ w.heap.size ≤ b := ⟨rfl, hb⟩
        first
          | exact ⟨_, b, rfl, (fun u h => by cases h), fun w' hw => (by have h9 := (hw.addF hf).pm [2, 1, 0] rfl rfl rfl; exact h9)⟩
          | exact ⟨_, b, rfl, (fun u h => by cases h), fun w' hw => (by have h9 := (hw.addF hf).pm [1, 0] rfl rfl rfl; exact h9)⟩)
    · exact fun L f hc hl hp => OpA.told 0 rfl (D_pure tabOk rfl D_last) rfl
    · exact fun L f hc hl hp => OpA.told 0 rfl (D_pure tabOk rfl D_last) rfl
    · intro L f hc hl hp
      have h7 := closed_no hc (j := 7) rfl ⟨6, .data⟩ (by simp) rfl hl
      have h8 := closed_no hc (j := 8) rfl ⟨7, .data⟩ (by simp) rfl h7
      have h9 := closed_no hc (j := 9) rfl ⟨8, .data⟩ (by simp) rfl h8
      show OpA _ _ _ _ (lst (L 2) (L 3) (L 6) (L 7) (L 8) (L 9) (f 2) (f 3) (f 6) (f 7) (f 8) (f 9)) (fun y => lst (L 2) (L 3) true (L 7) (L 8) (L 9) (f 2) (f 3) y (f 7) (f 8) (f 9)) _ _ _
      rw [hl, h7, h8, h9]
      cases L 2 <;> cases L 3 <;> (
        refine OpA.ofS (l := [(22, .int .i64 (ws.length : Int))]) rfl (by decide) (.cons rfl rfl .nil) ?_
        refine S_make tabOk rfl rfl rfl rfl rfl rfl (m := ws.length) (c := ws.length) rfl rfl (Nat.le_refl _) (by show 8 * _ ≤ _; omega) (by omega) (fun b hb => ?_)
        show S _ _ _ _ _ _ (.blk b (.cells ⟨(madeCells #[.int .i64 0] (ws.length * 1)).toList⟩ _ (0, 0)) true :: _) _ _
        rw [hmz]
        refine S_nil ?_
        have hf : Value.slice (some ⟨b, 0, none⟩) ws.length ws.length = .slice (some ⟨b, 0, none⟩) ws.length ws.length ∧ w.heap.size ≤ b := ⟨rfl, hb⟩
        first
          | exact ⟨_, b, rfl, (fun u h => by cases h), fun w' hw => (by have h9 := (hw.addF hf).pm [2, 3, 4, 1, 0] rfl rfl rfl; exact h9)⟩
          | exact ⟨_, b, rfl, (fun u h => by cases h), fun w' hw => (by have h9 := (hw.addF hf).pm [2, 3, 1, 0] rfl rfl rfl; exact h9)⟩
          | exact ⟨_, b, rfl, (fun u h => by cases h), fun w' hw => (by have h9 := (hw.addF hf).pm [2, 1, 0] rfl rfl rfl; exact h9)⟩
          | exact ⟨_, b, rfl, (fun u h => by cases h), fun w' hw => (by have h9 := (hw.addF hf).pm [1, 0] rfl rfl rfl; exact h9)⟩)
    · intro L f hc hl hp
      have h2 : L 2 = true := hp ⟨2, .data⟩ (by simp) rfl
      have h3 : L 3 = true := hp ⟨3, .data⟩ (by simp) rfl
      have h6 : L 6 = true := hp ⟨6, .data⟩ (by simp) rfl
      have h8 := closed_no hc (j := 8) rfl ⟨7, .data⟩ (by simp) rfl hl
      have h9 := closed_no hc (j := 9) rfl ⟨8, .data⟩ (by simp) rfl h8
      show OpA _ _ _ _ (lst (L 2) (L 3) (L 6) (L 7) (L 8) (L 9) (f 2) (f 3) (f 6) (f 7) (f 8) (f 9)) (fun y => lst (L 2) (L 3) (L 6) true (L 8) (L 9) (f 2) (f 3) (f 6) y (f 8) (f 9)) _ _ _
      rw [hl, h2, h3, h6, h8, h9]
      refine OpA.pre (X := (∃ A C, (f 2).1 = .slice A ws.length C) ∧ (f 3).1 = .map (some (f 3).2) ∧ (f 6).1 = .slice (some ⟨(f 6).2, 0, none⟩) ws.length ws.length) (fun w hw => ?_) (fun d h => by cases h; decide) ?_
      · obtain ⟨A, C, e2, _⟩ := hw.rowForm 0 rfl
        exact ⟨⟨A, C, e2⟩, (hw.fact 2 rfl).1, (hw.fact 4 rfl).1⟩
      · rintro ⟨⟨A, C, e2⟩, e3, e6⟩
        refine OpA.swap (dl' := [(17, .ex (.int .i64 cap)), (19, .ex (f 2).1), (20, .ex (f 3).1), (23, .ex (f 6).1)]) (List.forall_mem_cons.2 ⟨rfl, List.forall_mem_cons.2 ⟨rfl, List.forall_mem_cons.2 ⟨rfl, List.forall_mem_cons.2 ⟨rfl, fun _ h => nomatch h⟩⟩⟩⟩) ?_
        generalize f 2 = x2 at *
        generalize f 3 = x3 at *
        generalize f 6 = x6 at *
        obtain ⟨x2, g2⟩ := x2
        obtain ⟨x3, g3⟩ := x3
        obtain ⟨x6, g6⟩ := x6
        dsimp only at e2 e3 e6
        subst e2 e3 e6
        exact OpA.known 0 rfl (D_q (Q_build tabOk rfl rfl rfl rfl rfl rfl rfl) D_last) (fun w1 hw => by have h9 := (hw.addF (p := (Value.agg ⟨cs (.slice A ws.length C) (.map (some g3)) (.slice (some ⟨g6, 0, none⟩) ws.length ws.length)⟩ = .agg ⟨cs (.slice A ws.length C) (.map (some g3)) (.slice (some ⟨g6, 0, none⟩) ws.length ws.length)⟩)) rfl).pm [1, 2, 3, 4, 5, 0] rfl rfl rfl; exact h9)
    · intro L f hc hl hp
      have h7 : L 7 = true := hp ⟨7, .data⟩ (by simp) rfl
      have h2 : L 2 = true := hc 7 _ rfl h7 ⟨2, .data⟩ (by simp) rfl
      have h3 : L 3 = true := hc 7 _ rfl h7 ⟨3, .data⟩ (by simp) rfl
      have h6 : L 6 = true := hc 7 _ rfl h7 ⟨6, .data⟩ (by simp) rfl
      have h9 := closed_no hc (j := 9) rfl ⟨8, .data⟩ (by simp) rfl hl
      show OpA _ _ _ _ (lst (L 2) (L 3) (L 6) (L 7) (L 8) (L 9) (f 2) (f 3) (f 6) (f 7) (f 8) (f 9)) (fun y => lst (L 2) (L 3) (L 6) (L 7) true (L 9) (f 2) (f 3) (f 6) (f 7) y (f 9)) _ _ _
      rw [hl, h2, h3, h6, h7, h9]
      refine OpA.pre (X := ((∃ A C, (f 2).1 = .slice A ws.length C) ∧ (f 3).1 = .map (some (f 3).2) ∧ (f 6).1 = .slice (some ⟨(f 6).2, 0, none⟩) ws.length ws.length) ∧ (f 7).1 = .agg ⟨cs (f 2).1 (f 3).1 (f 6).1⟩) (fun w hw => ?_) (fun d h => by cases h; decide) ?_
      · obtain ⟨A, C, e2, _⟩ := hw.rowForm 0 rfl
        exact ⟨⟨⟨A, C, e2⟩, (hw.fact 2 rfl).1, (hw.fact 4 rfl).1⟩, hw.fact 5 rfl⟩
      · rintro ⟨⟨⟨A, C, e2⟩, e3, e6⟩, e7⟩
        refine OpA.swap (dl' := [(24, .ex (f 7).1)]) (List.forall_mem_cons.2 ⟨rfl, fun _ h => nomatch h⟩) ?_
        generalize f 2 = x2 at *
        generalize f 3 = x3 at *
        generalize f 6 = x6 at *
        generalize f 7 = x7 at *
        obtain ⟨x2, g2⟩ := x2
        obtain ⟨x3, g3⟩ := x3
        obtain ⟨x6, g6⟩ := x6
        obtain ⟨x7, g7⟩ := x7
        dsimp only at e2 e3 e6 e7
        subst e2 e3 e6 e7
        refine OpA.new tabOk rfl (fun w1 b hb hw => ⟨b, ?_⟩)
        have h9 := (hw.addF (p := Value.pointer (some ⟨b, 0, none⟩) = .pointer (some ⟨b, 0, none⟩) ∧ w.heap.size ≤ b) ⟨rfl, hb⟩).pm [2, 3, 4, 5, 6, 7, 1, 0] rfl rfl rfl
        exact h9
    · intro L f hc hl hp
      have h8 : L 8 = true := hp ⟨8, .data⟩ (by simp) rfl
      have h7 : L 7 = true := hc 8 _ rfl h8 ⟨7, .data⟩ (by simp) rfl
      have h2 : L 2 = true := hc 7 _ rfl h7 ⟨2, .data⟩ (by simp) rfl
      have h3 : L 3 = true := hc 7 _ rfl h7 ⟨3, .data⟩ (by simp) rfl
      have h6 : L 6 = true := hc 7 _ rfl h7 ⟨6, .data⟩ (by simp) rfl
      show OpA _ _ _ _ (lst (L 2) (L 3) (L 6) (L 7) (L 8) (L 9) (f 2) (f 3) (f 6) (f 7) (f 8) (f 9)) (fun y => lst (L 2) (L 3) (L 6) (L 7) (L 8) true (f 2) (f 3) (f 6) (f 7) (f 8) y) _ _ _
      rw [hl, h2, h3, h6, h7, h8]
      refine OpA.swap (dl' := [(25, .ex (f 8).1)]) (List.forall_mem_cons.2 ⟨rfl, fun _ h => nomatch h⟩) ?_
      exact OpA.known 0 rfl (D_pure tabOk rfl D_last) (fun w1 hw => by have h9 := (hw.addF (p := ((f 8).1 = (f 8).1)) rfl).pm [1, 2, 3, 4, 5, 6, 7, 8, 0] rfl rfl rfl; exact h9)
    · exact fun L f hc hl hp => OpA.told 0 rfl (D_pure tabOk rfl D_last) rfl
  · intro L f w5 hL hw
    change Hp _ _ (lst (L 2) (L 3) (L 6) (L 7) (L 8) (L 9) (f 2) (f 3) (f 6) (f 7) (f 8) (f 9)) at hw
    rw [hL 2 (by decide), hL 3 (by decide), hL 6 (by decide), hL 7 (by decide), hL 8 (by decide), hL 9 (by decide)] at hw
    obtain ⟨A, C, e2, _⟩ := hw.rowForm 0 rfl
    have e3 := hw.fact 2 rfl
    have e6 := hw.fact 4 rfl
    have e7 := hw.fact 5 rfl
    have e8 := hw.fact 7 rfl
    have e9 := hw.fact 8 rfl
    have e49 : (f 9).1 = qptr (f 8).2 := e9.trans e8.1
    refine ⟨[(4, (f 9).1), (5, .int .i64 0)], _, (by repeat (first | exact SubD.nil | refine SubD.cons rfl ?_)), hw, ?_⟩
    rw [e49]
    repeat (first | refine T_ret ?_)
    refine ret2 rfl rfl rfl (fun w' hw => ?_)
    rw [if_pos hrt]
    have hzl : zr.length = ws.length := by rw [hzr, List.length_replicate]
    have e6' : (f 6).1 = .slice (some ⟨(f 6).2, 0, none⟩) zr.length ws.length := by rw [hzl]; exact e6.1
    have h1 := hw.pm [0, 6, 1, 3, 2, 4, 5, 7, 8] rfl rfl rfl
    have hr0 : w'.ownsRow w.heap.size 3 1 (f 2).1 ws.length (ws.map (.int .i64)) := h1.own _ (getE_mem (i := 0) rfl)
    have h2 := (QuR.first (Nat.le_refl _) h1).pm [1, 2, 3, 0] rfl rfl rfl
    dsimp only [cs] at h2
    rw [e3.1, e6', ← List.append_nil (zr.map (Value.int .i64))] at h2
    have h3 := QuR.join (F' := fun k => (f 2).1.ownBlock = some k ∨ k = (f 8).2 ∨ k = (f 3).2 ∨ k = (f 6).2) h2 (by omega) (by simp only [maxLen]; omega) (by rw [List.append_nil, List.length_map, hzl]) MOk.nil (Nat.zero_le _) (fun k => Iff.rfl)
    refine ⟨(f 8).2, _, rfl, fun k hk => ?_, ((h3.turnX 0 rfl (Ψ := fun w => (quA (f 8).2 cap 0 ws [] 0).at_ w _ (.bool true)) (fun h9 => ⟨(f 3).2, zr, [], [], 0, (f 2).1, _, _, h9, NH.nil, ?_, Nat.le_refl _, Nat.le_refl _⟩) Vp.loc rfl).less (by repeat (first | exact Less.nil | refine Less.keep ?_ | refine Less.dropR ?_)))⟩
    · rcases hk with hk | rfl | rfl | rfl
      · exact (World.ownsRow.lt hr0 k hk).1
      · exact e8.2
      · exact e3.2
      · exact e6.2
    · rw [hzr]
      exact (List.eq_replicate_iff.2 ⟨by simp, fun b hb => by
        obtain ⟨i, _, rfl⟩ := List.mem_map.1 hb
        rfl⟩).symm

/-- Of the cells of which S is true each is a row of its own. -/
def LLs (E : TypeId) (κ : IntKind) (S : Nat → Prop) (vs : List Value) (q : List (List Int)) : Vp :=
  ⟨fun w F _ => vs.length = q.length ∧ ∀ i v l, S i → vs[i]? = some v → q[i]? = some l → w.ownsRow 0 E 1 v l.length (l.map (.int κ)) ∧ ∀ k, v.ownBlock = some k → F k ∧ ∀ i' v', S i' → i' ≠ i → vs[i']? = some v' → v'.ownBlock ≠ some k,
   fun {w w' A B v} ⟨h1, h2⟩ hk => ⟨h1, fun i v l hS hv hl => by
    obtain ⟨h3, h4⟩ := h2 i v l hS hv hl
    exact ⟨own_keep h3 (fun k hk2 => (hk k (h4 k hk2).1 (World.ownsRow.lt h3 k hk2).2).1), fun k hk2 => ⟨(hk k (h4 k hk2).1 (World.ownsRow.lt h3 k hk2).2).2, (h4 k hk2).2⟩⟩⟩⟩
section
variable {E : TypeId} {κ : IntKind} {vs : List Value} {q : List (List Int)} {w w0 : World} {F G : Nat → Prop} {ol : OL} {j : Nat}
theorem LLs.nil (n : Nat) (w : World) (F : Nat → Prop) (S : Nat → Prop) (u : Value) : (LLs E κ S (List.replicate n (.slice none 0 0)) (List.replicate n [])).at_ w F u :=
  ⟨by simp, fun i v l _ hv hl => by
    rw [List.getElem?_replicate] at hv hl
    split at hv
    · rw [if_pos (by assumption)] at hl
      cases hv; cases hl
      exact ⟨World.ownsRow_nil w _ _ _, fun k hk => by cases hk⟩
    · cases hv⟩
/-- one is taken out -/
theorem LLs.take {v : Value} {l : List Int} (hh : Hp w0 w (.rep (fun w => (LLs E κ (fun _ => True) vs q).at_ w F (.bool true)) F true :: ol)) (hv : vs[j]? = some v) (hl : q[j]? = some l) :
    Hp w0 w (.rep (fun w => (rowV 0 E 1 l.length (l.map (.int κ))).at_ w (fun k => v.ownBlock = some k) v) (fun k => v.ownBlock = some k) true :: .rep (fun w => (LLs E κ (fun i => i ≠ j) vs q).at_ w (fun k => F k ∧ v.ownBlock ≠ some k) (.bool true)) (fun k => F k ∧ v.ownBlock ≠ some k) true :: ol) := by
  obtain ⟨⟨h1, h2⟩, _, hlt⟩ := hh.own _ List.mem_cons_self
  obtain ⟨h3, h4⟩ := h2 j v l trivial hv hl
  refine Hp.regroup [.rep (fun w => (LLs E κ (fun _ => True) vs q).at_ w F (.bool true)) F true] [.rep (fun w => (rowV 0 E 1 l.length (l.map (.int κ))).at_ w (fun k => v.ownBlock = some k) v) (fun k => v.ownBlock = some k) true, .rep (fun w => (LLs E κ (fun i => i ≠ j) vs q).at_ w (fun k => F k ∧ v.ownBlock ≠ some k) (.bool true)) (fun k => F k ∧ v.ownBlock ≠ some k) true] hh (fun e he => ?_) (fun e he => ?_) ?_ (fun e he k hk => ?_) (fun e he k hk => ?_)
  · rw [List.mem_singleton] at he
    subst he; rfl
  · simp only [List.mem_cons, List.not_mem_nil, or_false] at he
    rcases he with rfl | rfl
    · exact ⟨rfl, ⟨h3, fun k hk => hk⟩, Vp.loc (p := rowV 0 E 1 l.length (l.map (.int κ))), fun k hk => (World.ownsRow.lt h3 k hk).2⟩
    · refine ⟨rfl, ⟨h1, fun i v' l' hi hv' hl' => ?_⟩, Vp.loc (p := LLs E κ (fun i => i ≠ j) vs q), fun k hk => hlt k hk.1⟩
      obtain ⟨h5, h6⟩ := h2 i v' l' trivial hv' hl'
      exact ⟨h5, fun k hk => ⟨⟨(h6 k hk).1, (h6 k hk).2 j v trivial hi.symm hv⟩, fun i' v'' _ hne hv'' => (h6 k hk).2 i' v'' trivial hne hv''⟩⟩
  · exact List.pairwise_cons.2 ⟨fun e he => by
      rw [List.mem_singleton] at he
      subst he
      exact fun _ k hk hk2 => hk2.2 hk, List.pairwise_singleton _ _⟩
  · simp only [List.mem_cons, List.not_mem_nil, or_false] at he
    rcases he with rfl | rfl
    · exact ⟨_, List.mem_cons_self, (h4 k hk).1⟩
    · exact ⟨_, List.mem_cons_self, hk.1⟩
  · rw [List.mem_singleton] at he
    subst he
    right
    by_cases hk2 : v.ownBlock = some k
    · exact ⟨_, List.mem_cons_self, hk2⟩
    · exact ⟨_, List.mem_cons_of_mem _ List.mem_cons_self, hk, hk2⟩
/-- and put back -/
theorem LLs.put {v : Value} {l : List Int} {m : Nat} {xs : List Value} (hm : m = l.length) (hx : xs = l.map (.int κ)) (hh : Hp w0 w (.rep (fun w => (rowV 0 E 1 m xs).at_ w G v) G true :: .rep (fun w => (LLs E κ (fun i => i ≠ j) vs q).at_ w F (.bool true)) F true :: ol)) :
    Hp w0 w (.rep (fun w => (LLs E κ (fun _ => True) (vs.set j v) (q.set j l)).at_ w (fun k => F k ∨ G k) (.bool true)) (fun k => F k ∨ G k) true :: ol) := by
  subst hm hx
  obtain ⟨⟨h3, h4⟩, _, hlt1⟩ := hh.own _ (getE_mem (i := 0) rfl)
  obtain ⟨⟨h1, h2⟩, _, hlt2⟩ := hh.own _ (getE_mem (i := 1) rfl)
  have hap : (HE.rep (fun w => (rowV 0 E 1 l.length (l.map (.int κ))).at_ w G v) G true :: .rep (fun w => (LLs E κ (fun i => i ≠ j) vs q).at_ w F (.bool true)) F true :: ol).Pairwise Dis := hh.apart
  have hne : ∀ k, G k → ¬ F k := fun k hk hf => (List.pairwise_cons.1 hap).1 _ List.mem_cons_self rfl k hk hf
  have hset : ∀ {α : Type} (xs : List α) (x y : α) (i : Nat), (xs.set j x)[i]? = some y → (i = j ∧ x = y) ∨ (i ≠ j ∧ xs[i]? = some y) := fun xs x y i h => by
    by_cases e : j = i
    · subst e
      have := List.getElem?_eq_some_iff.1 h
      rw [List.getElem?_set_self (by have := this.1; rw [List.length_set] at this; exact this)] at h
      exact .inl ⟨rfl, Option.some.inj h⟩
    · rw [List.getElem?_set_ne e] at h
      exact .inr ⟨fun e' => e e'.symm, h⟩
  refine Hp.regroup [.rep (fun w => (rowV 0 E 1 l.length (l.map (.int κ))).at_ w G v) G true, .rep (fun w => (LLs E κ (fun i => i ≠ j) vs q).at_ w F (.bool true)) F true] [.rep (fun w => (LLs E κ (fun _ => True) (vs.set j v) (q.set j l)).at_ w (fun k => F k ∨ G k) (.bool true)) (fun k => F k ∨ G k) true] hh (fun e he => ?_) (fun e he => ?_) (List.pairwise_singleton _ _) (fun e he k hk => ?_) (fun e he k hk => ?_)
  · simp only [List.mem_cons, List.not_mem_nil, or_false] at he
    rcases he with rfl | rfl <;> rfl
  · rw [List.mem_singleton] at he
    subst he
    refine ⟨rfl, ⟨by rw [List.length_set, List.length_set]; exact h1, fun i v' l' _ hv' hl' => ?_⟩, Vp.loc (p := LLs E κ (fun _ => True) (vs.set j v) (q.set j l)), fun k hk => hk.elim (hlt2 k) (hlt1 k)⟩
    rcases hset _ _ _ _ hv' with ⟨rfl, rfl⟩ | ⟨hi, hv2⟩
    · rcases hset _ _ _ _ hl' with ⟨_, rfl⟩ | ⟨hi, _⟩
      · refine ⟨h3, fun k hk => ⟨.inr (h4 k hk), fun i' v' _ hi' hv' hk' => ?_⟩⟩
        rcases hset _ _ _ _ hv' with ⟨rfl, rfl⟩ | ⟨_, hv2⟩
        · exact hi' rfl
        · obtain ⟨l2, hl2⟩ : ∃ l2, q[i']? = some l2 := ⟨_, List.getElem?_eq_getElem (by rw [← h1]; exact (List.getElem?_eq_some_iff.1 hv2).1)⟩
          exact hne k (h4 k hk) ((h2 i' v' l2 hi' hv2 hl2).2 k hk').1
      · exact absurd rfl hi
    · rcases hset _ _ _ _ hl' with ⟨e, _⟩ | ⟨_, hl2⟩
      · exact absurd e hi
      · obtain ⟨h5, h6⟩ := h2 i v' l' hi hv2 hl2
        refine ⟨h5, fun k hk => ⟨.inl (h6 k hk).1, fun i' v'' _ hi' hv'' hk' => ?_⟩⟩
        rcases hset _ _ _ _ hv'' with ⟨rfl, rfl⟩ | ⟨hij, hv3⟩
        · exact hne k (h4 k hk') (h6 k hk).1
        · exact (h6 k hk).2 i' v'' hij hi' hv3 hk'
  · rw [List.mem_singleton] at he
    subst he
    rcases hk with hk | hk
    · exact ⟨_, List.mem_cons_of_mem _ List.mem_cons_self, hk⟩
    · exact ⟨_, List.mem_cons_self, hk⟩
  · simp only [List.mem_cons, List.not_mem_nil, or_false] at he
    rcases he with rfl | rfl
    · exact .inr ⟨_, List.mem_cons_self, .inr hk⟩
    · exact .inr ⟨_, List.mem_cons_self, .inl hk⟩
/-- read, with the row of which these are the cells -/
theorem LLs.slr {b c : Nat} {t : TypeId} {p : Nat × Nat} {A : Nat → Prop} {u : Value} (h : (LLs E κ (fun _ => True) vs q).at_ w F u) (hF : ∀ k, F k → A k) (hA : A b) (hb : w.heap[b]? = some (.cells ⟨vs⟩ t p)) (hp : p = (0, 0)) (hfit : ∀ l ∈ q, ∀ z ∈ l, Fits κ z) (hc : vs.length ≤ c) (hm : c ≤ maxLen) :
    SlR (Rslice (Rint κ)) w A (some ⟨b, 0, none⟩) q.length c q := by
  obtain ⟨h1, h2⟩ := h
  subst hp
  refine ⟨rfl, by omega, hm, (fun h => by cases h), ⟨vs.map fun v => [v], by rw [List.length_map]; exact h1, fun i cs l hcs hl => ?_, ?_⟩, fun _ => ⟨b, 0, rfl, hA⟩⟩
  · rw [List.getElem?_map] at hcs
    obtain ⟨v, hv, rfl⟩ := Option.map_eq_some_iff.1 hcs
    obtain ⟨h3, h4⟩ := h2 i v l trivial hv hl
    obtain ⟨a, cc, rfl, _⟩ := form_of_own h3
    exact ⟨a, l.length, cc, rfl, SlR.of_ints (ints_own h3 (hfit l (List.mem_of_getElem? hl))) fun b' off h0 e => by
      obtain ⟨g, _, e2, _⟩ := own_open h3 h0
      rw [e2] at e
      cases e
      exact hF _ (h4 _ (by rw [e2]; rfl)).1⟩
  · have e1 : (vs.map fun v => [v]).flatten = vs := by
      clear h1 h2 hc hb
      induction vs with
      | nil => rfl
      | cons v vs ih => rw [List.map_cons, List.flatten_cons, ih]; rfl
    rw [e1]
    exact Sl.of_blk (n := q.length) (sz := 1) (off := 0) (xs := vs) hb (by omega) (fun j u hu => by rw [Nat.zero_add]; exact hu)
end

def ofC (L : List QE) (c : Nat) : List QE := L.filter fun x => decide (x.2.1 = (c : Int))
/-- each class's sizes, each class's numbers -/
def szs (L : List QE) (n : Nat) : List (List Int) := (List.range n).map fun c => (ofC L c).map sizeQ
def nms (L : List QE) (n : Nat) : List (List Int) := (List.range n).map fun c => (ofC L c).map (·.1)
theorem ofC_snoc (L : List QE) (x : QE) (c : Nat) : ofC (L ++ [x]) c = ofC L c ++ (if x.2.1 = (c : Int) then [x] else []) := by
  unfold ofC
  rw [List.filter_append]
  by_cases h : x.2.1 = (c : Int)
  · rw [if_pos h, List.filter_cons_of_pos (by simp [h])]; rfl
  · rw [if_neg h, List.filter_cons_of_neg (by simp [h])]; rfl
theorem rng_set {α : Type} {f g : Nat → α} {n k : Nat} (hk : k < n) {v : α} (hv : g k = v) (h : ∀ c, c ≠ k → g c = f c) : ((List.range n).map f).set k v = (List.range n).map g := by
  refine List.ext_getElem? fun i => ?_
  by_cases hi : i < n
  · by_cases e : k = i
    · subst e
      rw [List.getElem?_set_self (by simpa using hk)]
      simp [hi, hv]
    · rw [List.getElem?_set_ne e]
      simp [hi, h i (fun e' => e e'.symm)]
  · rw [List.getElem?_eq_none (by simp; omega), List.getElem?_eq_none (by simp; omega)]
theorem szs_at {L : List QE} {n c : Nat} (hc : c < n) : (szs L n)[c]? = some ((ofC L c).map sizeQ) := by simp [szs, hc]
theorem nms_at {L : List QE} {n c : Nat} (hc : c < n) : (nms L n)[c]? = some ((ofC L c).map (·.1)) := by simp [nms, hc]
theorem szs_snoc {L : List QE} {x : QE} {n c : Nat} (hc : c < n) (hx : x.2.1 = (c : Int)) : (szs L n).set c ((ofC L c).map sizeQ ++ [sizeQ x]) = szs (L ++ [x]) n := by
  refine rng_set hc ?_ fun d hd => ?_
  · rw [ofC_snoc, if_pos hx, List.map_append]; rfl
  · rw [ofC_snoc, if_neg (by omega), List.append_nil]
theorem nms_snoc {L : List QE} {x : QE} {n c : Nat} (hc : c < n) (hx : x.2.1 = (c : Int)) : (nms L n).set c ((ofC L c).map (·.1) ++ [x.1]) = nms (L ++ [x]) n := by
  refine rng_set hc ?_ fun d hd => ?_
  · rw [ofC_snoc, if_pos hx, List.map_append]; rfl
  · rw [ofC_snoc, if_neg (by omega), List.append_nil]
theorem szs_nil (n : Nat) : szs [] n = List.replicate n [] := by
  refine List.eq_replicate_iff.2 ⟨by simp [szs], fun l hl => ?_⟩
  obtain ⟨c, _, rfl⟩ := List.mem_map.1 hl
  rfl
theorem nms_nil (n : Nat) : nms [] n = List.replicate n [] := by
  refine List.eq_replicate_iff.2 ⟨by simp [nms], fun l hl => ?_⟩
  obtain ⟨c, _, rfl⟩ := List.mem_map.1 hl
  rfl
theorem szs_len (L : List QE) (n : Nat) : (szs L n).length = n := by simp [szs]
theorem nms_len (L : List QE) (n : Nat) : (nms L n).length = n := by simp [nms]
theorem ofC_cons (x : QE) (L : List QE) (c : Nat) : (ofC (x :: L) c).length = (if x.2.1 = (c : Int) then 1 else 0) + (ofC L c).length := by
  unfold ofC
  by_cases h : x.2.1 = (c : Int)
  · rw [if_pos h, List.filter_cons_of_pos (by simp [h]), List.length_cons]; omega
  · rw [if_neg h, List.filter_cons_of_neg (by simp [h])]; omega
theorem ofC_all (n : Nat) : ∀ (L : List QE), ((List.range n).map fun c => (ofC L c).length).sum ≤ L.length
  | [] => by
    have : ∀ k : Nat, ((List.range k).map fun c => (ofC [] c).length).sum = 0 := fun k => by
      induction k with
      | zero => rfl
      | succ k ih => rw [List.range_succ, List.map_append, List.sum_append, ih]; rfl
    rw [this]; exact Nat.le_refl _
  | x :: L => by
    have ih := ofC_all n L
    have e2 : ∀ k : Nat, ((List.range k).map fun c => (ofC (x :: L) c).length).sum = (if 0 ≤ x.2.1 ∧ x.2.1 < (k : Int) then 1 else 0) + ((List.range k).map fun c => (ofC L c).length).sum := fun k => by
      induction k with
      | zero => rw [if_neg (by omega)]; rfl
      | succ k ih2 =>
        rw [List.range_succ, List.map_append, List.map_append, List.sum_append, List.sum_append, ih2]
        simp only [List.map_cons, List.map_nil, List.sum_cons, List.sum_nil, ofC_cons]
        by_cases hk : 0 ≤ x.2.1 ∧ x.2.1 < (k : Int)
        · rw [if_pos hk, if_neg (by omega), if_pos (by omega)]; omega
        · by_cases hk2 : x.2.1 = (k : Int)
          · rw [if_neg hk, if_pos hk2, if_pos (by omega)]; omega
          · rw [if_neg hk, if_neg hk2, if_neg (by omega)]; omega
    rw [e2, List.length_cons]
    split <;> omega
theorem szs_flat (L : List QE) (n : Nat) : (szs L n).flatten.length ≤ L.length := by
  rw [List.length_flatten]
  unfold szs
  rw [List.map_map]
  refine Nat.le_trans (Nat.le_of_eq ?_) (ofC_all n L)
  congr 1
  refine List.map_congr_left fun c _ => ?_
  simp
theorem szs_mem {L : List QE} {n : Nat} {x : Int} (h : x ∈ (szs L n).flatten) : ∃ y ∈ L, x = sizeQ y := by
  obtain ⟨l, hl, hx⟩ := List.mem_flatten.1 h
  obtain ⟨c, _, rfl⟩ := List.mem_map.1 hl
  obtain ⟨y, hy, rfl⟩ := List.mem_map.1 hx
  exact ⟨y, (List.mem_filter.1 hy).1, rfl⟩
theorem PlanR.place {cap : Int} {ws : List Int} {left : List (List Int)} {went : List Nat} {total : Int} {out : List (Nat × Nat)} (h : PlanR cap ws left went total out) : left.length = went.length → ∀ v ∈ out, v.1 < left.length ∧ v.2 < went.getD v.1 0 + (left.getD v.1 []).length := by
  induction h with
  | stop h => exact fun _ v hv => by cases hv
  | @step left went total c x xs out h hb hx hk ih =>
    intro hl v hv
    have hc : c < left.length := by
      rcases Nat.lt_or_ge c left.length with h1 | h1
      · exact h1
      · rw [List.getD_eq_getElem?_getD, List.getElem?_eq_none h1] at hx
        cases hx
    rcases List.mem_cons.1 hv with rfl | hv
    · refine ⟨hc, ?_⟩
      rw [hx]
      simp
    · obtain ⟨h1, h2⟩ := ih (by simp [hl]) v hv
      rw [List.length_set] at h1
      refine ⟨h1, ?_⟩
      by_cases e : c = v.1
      · subst e
        rw [hx]
        simp only [List.getD_eq_getElem?_getD] at h2 ⊢
        rw [List.getElem?_set_self (by omega), List.getElem?_set_self hc] at h2
        simp only [Option.getD_some, List.length_cons] at h2 ⊢
        omega
      · simp only [List.getD_eq_getElem?_getD] at h2 ⊢
        rw [List.getElem?_set_ne e, List.getElem?_set_ne e] at h2
        exact h2
/-- one of the plan: who goes, of these numbers; itself goes -/
def vStep (b : List (List Int)) (y : List Int × Bool) (v : Nat × Nat) : List Int × Bool :=
  if v.2 = (b.getD v.1 []).length then (y.1, true) else (y.1 ++ [(b.getD v.1 []).getD v.2 0], y.2)
def vOut (b : List (List Int)) (pl : List (Nat × Nat)) : List Int × Bool := pl.foldl (vStep b) ([], false)
def VicR (cap : Int) (ws : List Int) (L : List QE) (k size : Int) (o : List Int × Bool) : Prop := ∃ pl, PlanR cap ws (left0 (szs L ws.length) k size) (List.replicate ws.length 0) ((szs L ws.length).flatten.sum + size) pl ∧ o = vOut (nms L ws.length) pl
/-- Victims: who goes, itself, the error -/
def VicP (cap : Int) (ws : List Int) (L : List QE) (k : Int) (n : Nat) (o : List Int × Bool) (E : Int) : Prop :=
  if (sright k n && decide (k < (ws.length : Int))) = true then
    if cap < (n : Int) + 16 then o = ([], false) ∧ E = 6 else E = 0 ∧ VicR cap ws L k ((n : Int) + 16) o
  else o = ([], false) ∧ E = 1
theorem vOut_step {b : List (List Int)} {pl : List (Nat × Nat)} {i : Nat} {v : Nat × Nat} (h : pl[i]? = some v) : vOut b (pl.take (i + 1)) = vStep b (vOut b (pl.take i)) v := by
  have hi := (List.getElem?_eq_some_iff.1 h).1
  rw [List.take_succ_eq_append_getElem hi]
  rw [List.getElem?_eq_getElem hi] at h
  rw [Option.some.inj h]
  unfold vOut
  rw [List.foldl_append]
  rfl
theorem vOut_len (b : List (List Int)) (pl : List (Nat × Nat)) : (vOut b pl).1.length ≤ pl.length := by
  have : ∀ (pl : List (Nat × Nat)) (y : List Int × Bool), (pl.foldl (vStep b) y).1.length ≤ y.1.length + pl.length := by
    intro pl
    induction pl with
    | nil => exact fun y => Nat.le_refl _
    | cons v pl ih =>
      intro y
      rw [List.foldl_cons]
      refine Nat.le_trans (ih _) ?_
      unfold vStep
      split
      · simp only [List.length_cons]; omega
      · simp only [List.length_append, List.length_cons, List.length_nil]; omega
  have h := this pl ([], false)
  simpa [vOut] using h

end Go.Proofs.Yteogkadjambmkaa
