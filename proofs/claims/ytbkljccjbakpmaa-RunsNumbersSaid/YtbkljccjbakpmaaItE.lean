/-
  A set's numbers, one by one: an iterator that may be stopped. Conditions: each theorem's own.
-/
import Derived.Test.YtbkljccjbakpmaaItD
import Derived.Test.YtbkljccjbakpmaaRn
namespace Go.Proofs.Ytbkljccjbakpmaa
open Go Go.RowKit Go.Shelf
set_option linter.unusedVariables false
attribute [local go_sem] Oper.semAt_some

def upI (f : Int) (k : Nat) : List Int := (List.range k).map fun i : Nat => f + (i : Int)
theorem upI_zero (f : Int) : upI f 0 = [] := rfl
theorem upI_succ (f : Int) (k : Nat) : upI f (k + 1) = upI f k ++ [f + (k : Int)] := by simp [upI, List.range_succ]
theorem upI_len (f : Int) (k : Nat) : (upI f k).length = k := by simp [upI]
def flatR (L : List Run) : List Int := L.flatMap fun r => upI r.1 (r.2 - r.1 + 1).toNat
theorem flatR_take {L : List Run} {i : Nat} (hi : i < L.length) : flatR (L.take (i + 1)) = flatR (L.take i) ++ upI L[i].1 (L[i].2 - L[i].1 + 1).toNat := by
  unfold flatR
  rw [List.take_succ_eq_append_getElem hi, List.flatMap_append]
  simp only [List.flatMap_cons, List.flatMap_nil, List.append_nil]
theorem flatR_pre {L : List Run} {i k : Nat} (hi : i < L.length) (hk : (k : Int) ≤ L[i].2 - L[i].1 + 1) : flatR (L.take i) ++ upI L[i].1 k <+: flatR L := by
  have h1 : flatR (L.take (i + 1)) <+: flatR L := by
    refine ⟨flatR (L.drop (i + 1)), ?_⟩
    unfold flatR
    rw [← List.flatMap_append, List.take_append_drop]
  refine List.IsPrefix.trans ?_ h1
  rw [flatR_take hi, List.prefix_append_right_inj]
  have e : ∃ m, (L[i].2 - L[i].1 + 1).toNat = k + m := ⟨(L[i].2 - L[i].1 + 1).toNat - k, by omega⟩
  obtain ⟨m, e⟩ := e
  rw [e]
  refine ⟨(List.range' k m).map (fun j : Nat => L[i].1 + (j : Int)), ?_⟩
  unfold upI
  rw [← List.map_append, List.range_eq_range', List.range_eq_range']
  have := List.range'_append_1 (s := 0) (m := k) (n := m)
  rw [Nat.zero_add] at this
  rw [this]
/-- What a round that goes on keeps: the set's blocks, and whatever holds one run. -/
structure KR (G : Nat → Prop) (W W' : World) : Prop where
  size : W.heap.size ≤ W'.heap.size
  set : ∀ k, G k → W'.heap[k]? = W.heap[k]?
  run : ∀ (k : Nat) (cur : Array Value) (f : Nat × Nat), W.heap[k]? = some (.cells cur 42 f) → W'.heap[k]? = W.heap[k]?
theorem KR.trans {G : Nat → Prop} {A B C : World} (h : KR G A B) (k : KR G B C) : KR G A C :=
  ⟨Nat.le_trans h.size k.size, fun i hi => (k.set i hi).trans (h.set i hi), fun i cur f hc => (k.run i cur f ((h.run i cur f hc).trans hc)).trans (h.run i cur f hc)⟩

set_option maxRecDepth 100000 in
set_option maxHeartbeats 4000000 in
theorem all1 (n l Bm len c : Nat) (a : Option Addr) (L : List Run) (G : Nat → Prop) (J Jx : List Int → World → Prop)
    (hY : ∀ pre x W, J pre W → pre.length < (flatR L).length → YieldAt Fence.wide (n - 1) Try.prog l (encU x) W fun e W' => (e = .returned (.bool true) ∧ J (pre ++ [x]) W' ∧ KR G W W') ∨ (e = .returned (.bool false) ∧ Jx (pre ++ [x]) W'))
    (W : World) (hJ : AbidesFrom W.heap.size J) (hG : ∀ k, G k → k < W.heap.size) (hm : W.cell? ⟨Bm, 0, none⟩ = some (.slice a len c)) (hx : SlR Rrun W G a len c L) (hn : len ≤ 1000000) (hle : ∀ r ∈ L, r.1 ≤ r.2) (hok : okL L) (h0 : J [] W) :
    CallsIn Fence.wide n Try.prog 20 #[.func (.yield l) #[] #[], .pointer (some ⟨Bm, 0, none⟩)] W fun e W' => (∃ v, e = .returned v) ∧ ((∃ ss, ss = flatR L ∧ J ss W') ∨ (∃ pre, pre <+: flatR L ∧ Jx pre W')) := by
  have hlen := hx.len
  refine callsIn_of_wp Try.func20 rfl trivial ?_ rfl
  simp only [Try.ntmps20, List.size_toArray, List.length_cons, List.length_nil, Nat.reduceAdd, Nat.reduceSub, Array.replicate_succ, Array.replicate_zero, List.push_toArray, List.append_toArray, List.nil_append, List.cons_append]
  gi_wp2
  gi_loopw [9] (fun p wr => ∃ i : Nat, p = .int .i64 (i : Int) ∧ i ≤ len ∧ J (flatR (L.take i)) wr ∧ (∀ k, G k → wr.heap[k]? = W.heap[k]?) ∧ W.heap.size ≤ wr.heap.size) (fun p _ => len - (intOf p).toNat)
  case atStart => exact ⟨0, rfl, Nat.zero_le _, h0, fun _ _ => rfl, Nat.le_refl _⟩
  case round =>
    obtain ⟨i, rfl, hi, hJs, hk, hsz⟩ := hrel
    by_cases hlt : i < len
    · have hiL : i < L.length := by omega
      obtain ⟨b, off, rfl, hGb⟩ := hx.blk (by omega)
      have hxr : SlR Rrun wr G (some ⟨b, off, none⟩) len c L := hx.keep fun k hkG _ => ⟨hk k hkG, hkG⟩
      have hf := run_from hxr hiL
      have ht := run_to hxr hiL
      gi_wp2
      have hokr := hok L[i] (List.getElem_mem hiL)
      have hlr := hle L[i] (List.getElem_mem hiL)
      obtain ⟨b4, hb4⟩ : ∃ b4, b4 = wr.heap.size := ⟨_, rfl⟩
      obtain ⟨w1, hw1⟩ : ∃ w1, wr.alloc (Obj.cells #[.int .u64 L[i].1, .int .u64 L[i].2] 42) = w1 := ⟨_, rfl⟩
      have hJ1 : J (flatR (L.take i) ++ upI L[i].1 0) w1 := by
        rw [upI_zero, List.append_nil, ← hw1]
        exact hJ _ _ _ none hJs (World.grownBy_alloc wr _ none) (fun r e => by cases e)
      have hk1 : ∀ k, G k → w1.heap[k]? = W.heap[k]? := fun k hkG => by
        rw [← hw1, Go.RowKit.Below.heap_alloc _ _ _ (by have := hG k hkG; omega)]
        exact hk k hkG
      have hs1 : W.heap.size ≤ w1.heap.size := by rw [← hw1]; simp; omega
      have hb1 : w1.heap[b4]? = some (.cells #[.int .u64 L[i].1, .int .u64 L[i].2] 42 (0, 0)) := by rw [← hw1, hb4]; exact World.alloc_heap_new wr _
      rw [hw1, ← hb4]
      clear hf ht hb4 hw1
      gi_loopw [5] (fun p wi => ∃ k : Nat, p = .int .u64 (L[i].1 + (k : Int)) ∧ L[i].1 + (k : Int) ≤ L[i].2 ∧ J (flatR (L.take i) ++ upI L[i].1 k) wi ∧ (∀ k, G k → wi.heap[k]? = W.heap[k]?) ∧ W.heap.size ≤ wi.heap.size ∧ wi.heap[b4]? = some (.cells #[.int .u64 L[i].1, .int .u64 L[i].2] 42 (0, 0))) (fun p _ => (L[i].2 - intOf p).toNat)
      case atStart => exact ⟨0, by simp, by simpa using hlr, hJ1, hk1, hs1, hb1⟩
      case round =>
        obtain ⟨k, rfl, hle1, hJ2, hk2, hs2, hb2⟩ := hrel
        have hpl : (flatR (L.take i) ++ upI L[i].1 k).length < (flatR L).length := by
          have h1 := (flatR_pre (L := L) (i := i) (k := k + 1) hiL (by omega)).length_le
          rw [upI_succ, ← List.append_assoc, List.length_append] at h1
          exact h1
        obtain ⟨fn, tmps, assign, body, hy, hR⟩ := hY _ (L[i].1 + (k : Int)) wr hJ2 hpl
        gi_wp2
        refine ⟨fun h => (by cases h), hR.mono ?_⟩
        rintro e W3 (⟨rfl, hJ3, hk3⟩ | ⟨rfl, hJx3⟩)
        · have hb3 : W3.heap[b4]? = some (.cells #[.int .u64 L[i].1, .int .u64 L[i].2] 42 (0, 0)) := (hk3.run _ _ _ hb2).trans hb2
          have hc3 : W3.cell? ⟨b4, 1, none⟩ = some (.int .u64 L[i].2) := by simp [World.cell?, hb3]
          have hsn : flatR (L.take i) ++ upI L[i].1 k ++ [L[i].1 + (k : Int)] = flatR (L.take i) ++ upI L[i].1 (k + 1) := by rw [upI_succ, List.append_assoc]
          rw [hsn] at hJ3
          by_cases heq : L[i].1 + (k : Int) = L[i].2
          · gi_wp2
            refine ⟨⟨i + 1, by simp, by omega, ?_, fun k' hk' => (hk3.set k' hk').trans (hk2 k' hk'), Nat.le_trans hs2 hk3.size⟩, by simp [intOf]; omega⟩
            rw [flatR_take hiL, show (L[i].2 - L[i].1 + 1).toNat = k + 1 by omega]
            exact hJ3
          · gi_wp2
            have hw2 : IntKind.u64.wrap (L[i].1 + (k : Int) + 1) = L[i].1 + ((k + 1 : Nat) : Int) := by
              have h1 := hokr.1.1
              have h2 := hokr.2.2
              have e1 : IntKind.u64.min = 0 := rfl
              have e2 : IntKind.u64.max = 18446744073709551615 := rfl
              rw [IntWalk.u64_in _ (by omega)]
              omega
            rw [hw2]
            refine ⟨⟨k + 1, rfl, by omega, hJ3, fun k' hk' => (hk3.set k' hk').trans (hk2 k' hk'), Nat.le_trans hs2 hk3.size, hb3⟩, by simp [intOf]; omega⟩
        · gi_wp2
          refine bodyPost_ret (results_none rfl _ _ _) rfl ?_
          exact ⟨⟨_, rfl⟩, .inr ⟨_, by
            have h1 := flatR_pre (L := L) (i := i) (k := k + 1) hiL (by omega)
            rw [upI_succ, ← List.append_assoc] at h1
            exact h1, hJx3⟩⟩
    · obtain rfl : i = len := by omega
      gi_wp2
      go_end0
      exact ⟨⟨_, rfl⟩, .inl ⟨_, rfl, by rwa [List.take_of_length_le (by omega)] at hJs⟩⟩
theorem kr_ok {G : Nat → Prop} {n₀ : Nat} (hG : ∀ k, G k → k < n₀) : KpOk (KR G) n₀ :=
  ⟨fun h k => h.trans k,
   fun W l o o' hl h hc _ => ⟨by simp, fun k hk => World.putObj_heap_other (by have := hG k hk; omega), fun k cur f hk => World.putObj_heap_other (fun e => by subst e; rw [h] at hk; cases hk; cases hc)⟩,
   fun W W' hs h hb => ⟨hs, fun k hk => hb.block k (hG k hk), fun k cur f hk => (h k _ hk ⟨fun c g e => (by cases e), fun c g e => (by cases e)⟩).trans hk.symm⟩⟩
theorem all_stops {W : World} {Bm len c : Nat} {a : Option Addr} {L : List Run} {G : Nat → Prop} (hG : ∀ k, G k → k < W.heap.size) (hGB : G Bm) (hm : W.cell? ⟨Bm, 0, none⟩ = some (.slice a len c)) (hx : SlR Rrun W G a len c L) (hn : len ≤ 1000000) (hle : ∀ r ∈ L, r.1 ≤ r.2) (hok : okL L) (n : Nat) :
    SeqStopsK Fence.wide n Try.prog 20 #[.pointer (some ⟨Bm, 0, none⟩)] encU (KR G) (fun ss => ss = flatR L) (fun pre => pre <+: flatR L) (flatR L).length W := fun l J Jx W1 hW hJ _ hY h0 =>
  all1 n l Bm len c a L G J Jx hY W1 hJ (fun k hk => Nat.lt_of_lt_of_le (hG k hk) hW.size) ((hW.cell (p := ⟨Bm, 0, none⟩) (hG Bm hGB)).trans hm) (hx.keep fun k hk _ => ⟨hW.block k (hG k hk), hk⟩) hn hle hok h0
theorem all_itr {W : World} {Bm len c : Nat} {a : Option Addr} {L : List Run} {G : Nat → Prop} (hG : ∀ k, G k → k < W.heap.size) (hGB : G Bm) (hm : W.cell? ⟨Bm, 0, none⟩ = some (.slice a len c)) (hx : SlR Rrun W G a len c L) (hn : len ≤ 1000000) (hle : ∀ r ∈ L, r.1 ≤ r.2) (hok : okL L) (hN : (flatR L).length ≤ 1000000) :
    Itr 20 #[.pointer (some ⟨Bm, 0, none⟩)] (KR G) (fun ss => ss = flatR L) (fun pre => pre <+: flatR L) (flatR L).length W :=
  ⟨Try.call20, hN, kr_ok hG, all_stops hG hGB hm hx hn hle hok⟩
/-- (Set).All: the set is boxed, the function value captures the box. -/
theorem all_ok {w0 w : World} {ol : OL} (a : Option Addr) (n c : Nat) (h : Hp w0 w ol) : Calls Try.prog 11 #[setV a n c] w fun e w' => ∃ B, w0.heap.size ≤ B ∧ e = .returned (.func (.func 20) #[] #[.pointer (some ⟨B, 0, none⟩)]) ∧ Hp w0 w' (.blk B (.cells ⟨[.slice a n c]⟩ 28 (0, 0)) true :: ol) := by
  refine enterW1 Try.func11 rfl rfl h ?_
  repeat (first | refine T_draw (by kernel_rfl) (by kernel_rfl) ?_ | refine D_all rfl ?_ | refine D_i64 tabOk rfl (by omega) ?_ | refine D_pure tabOk rfl ?_ | refine D_pass rfl rfl rfl ?_ | refine D_load tabOk 0 rfl rfl rfl ?_ | refine D_load tabOk 1 rfl rfl rfl ?_ | refine D_load tabOk 2 rfl rfl rfl ?_ | refine T_seq ?_ | refine T_region ?_ | refine T_block ?_ | refine S_nil ?_ | refine pthen_normal ?_ | refine inb_normal ?_ | refine inb_ret ?_ | refine pthen_ret ?_ | refine inb_hit ?_ | refine pthen_exit ?_ | refine T_skip ?_ | refine T_ret ?_ | refine T_exit ?_ | refine T_cond_t rfl ?_ | refine T_cond_f rfl ?_ | refine S_i64 tabOk rfl (by omega) ?_ | refine S_pure tabOk rfl ?_ | refine S_pass rfl rfl rfl ?_ | refine S_pass0 rfl rfl ?_ | refine T_region_any ?_ | refine S_load tabOk 0 rfl rfl rfl ?_ | refine S_load tabOk 1 rfl rfl rfl ?_ | refine S_load tabOk 2 rfl rfl rfl ?_ | refine S_load tabOk 3 rfl rfl rfl ?_ | refine S_store tabOk 0 rfl rfl rfl rfl rfl rfl ?_ | refine S_store tabOk 1 rfl rfl rfl rfl rfl rfl ?_ | refine S_store tabOk 2 rfl rfl rfl rfl rfl rfl ?_ | refine S_store tabOk 3 rfl rfl rfl rfl rfl rfl ?_ | refine S_q (Q_build tabOk rfl rfl rfl rfl rfl rfl rfl) ?_)
  refine S_new tabOk rfl (fun B hB => ?_)
  repeat (first | refine T_draw (by kernel_rfl) (by kernel_rfl) ?_ | refine D_all rfl ?_ | refine D_i64 tabOk rfl (by omega) ?_ | refine D_pure tabOk rfl ?_ | refine D_pass rfl rfl rfl ?_ | refine D_load tabOk 0 rfl rfl rfl ?_ | refine D_load tabOk 1 rfl rfl rfl ?_ | refine D_load tabOk 2 rfl rfl rfl ?_ | refine T_seq ?_ | refine T_region ?_ | refine T_block ?_ | refine S_nil ?_ | refine pthen_normal ?_ | refine inb_normal ?_ | refine inb_ret ?_ | refine pthen_ret ?_ | refine inb_hit ?_ | refine pthen_exit ?_ | refine T_skip ?_ | refine T_ret ?_ | refine T_exit ?_ | refine T_cond_t rfl ?_ | refine T_cond_f rfl ?_ | refine S_i64 tabOk rfl (by omega) ?_ | refine S_pure tabOk rfl ?_ | refine S_pass rfl rfl rfl ?_ | refine S_pass0 rfl rfl ?_ | refine T_region_any ?_ | refine S_load tabOk 0 rfl rfl rfl ?_ | refine S_load tabOk 1 rfl rfl rfl ?_ | refine S_load tabOk 2 rfl rfl rfl ?_ | refine S_load tabOk 3 rfl rfl rfl ?_ | refine S_store tabOk 0 rfl rfl rfl rfl rfl rfl ?_ | refine S_store tabOk 1 rfl rfl rfl rfl rfl rfl ?_ | refine S_store tabOk 2 rfl rfl rfl rfl rfl rfl ?_ | refine S_store tabOk 3 rfl rfl rfl rfl rfl rfl ?_ | refine S_q (Q_build tabOk rfl rfl rfl rfl rfl rfl rfl) ?_)
  refine S_q (Q_mkfn rfl rfl) ?_
  repeat (first | refine T_draw (by kernel_rfl) (by kernel_rfl) ?_ | refine D_all rfl ?_ | refine D_i64 tabOk rfl (by omega) ?_ | refine D_pure tabOk rfl ?_ | refine D_pass rfl rfl rfl ?_ | refine D_load tabOk 0 rfl rfl rfl ?_ | refine D_load tabOk 1 rfl rfl rfl ?_ | refine D_load tabOk 2 rfl rfl rfl ?_ | refine T_seq ?_ | refine T_region ?_ | refine T_block ?_ | refine S_nil ?_ | refine pthen_normal ?_ | refine inb_normal ?_ | refine inb_ret ?_ | refine pthen_ret ?_ | refine inb_hit ?_ | refine pthen_exit ?_ | refine T_skip ?_ | refine T_ret ?_ | refine T_exit ?_ | refine T_cond_t rfl ?_ | refine T_cond_f rfl ?_ | refine S_i64 tabOk rfl (by omega) ?_ | refine S_pure tabOk rfl ?_ | refine S_pass rfl rfl rfl ?_ | refine S_pass0 rfl rfl ?_ | refine T_region_any ?_ | refine S_load tabOk 0 rfl rfl rfl ?_ | refine S_load tabOk 1 rfl rfl rfl ?_ | refine S_load tabOk 2 rfl rfl rfl ?_ | refine S_load tabOk 3 rfl rfl rfl ?_ | refine S_store tabOk 0 rfl rfl rfl rfl rfl rfl ?_ | refine S_store tabOk 1 rfl rfl rfl rfl rfl rfl ?_ | refine S_store tabOk 2 rfl rfl rfl rfl rfl rfl ?_ | refine S_store tabOk 3 rfl rfl rfl rfl rfl rfl ?_ | refine S_q (Q_build tabOk rfl rfl rfl rfl rfl rfl rfl) ?_)
  exact ret1 rfl rfl (fun w' hw => ⟨B, hB, rfl, hw⟩)
end Go.Proofs.Ytbkljccjbakpmaa
