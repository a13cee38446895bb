/-
  The law BoardAgain: its walk. Conditions: each theorem's own.
-/
import Derived.Test.YtanhmmfpecgbhaaBoN
namespace Go.Proofs.Ytanhmmfpecgbhaa
open Go Go.RowKit
set_option linter.unusedVariables false

theorem params13_ok (a b : Int) (w : World) (ha : Fits .u16 a) (hb : Fits .u16 b) : Calls Try.prog 24 #[.int .u16 a, .int .u16 b] w fun e w' => e = .returned (.agg #[.int .i64 (1 + a % 50), .int .i64 (1 + a % 50 + b % 500)]) ∧ Below w.heap.size w w' := by
  have ha' := fits_u16 ha
  have hb' := fits_u16 hb
  refine enter2 Try.func24 rfl rfl (Hp.refl w) ?_
  repeat (first | refine T_seq ?_ | refine T_region ?_)
  refine S_new tabOk rfl (fun b4 hb4 => ?_)
  repeat (first | refine T_seq ?_ | refine T_region ?_ | refine S_nil ?_ | refine S_pure tabOk rfl ?_)
  refine S_q (Q_rem0 rfl rfl rfl (by decide) ha'.1) ?_
  repeat (first | refine S_i64 tabOk rfl (by omega) ?_ | refine S_pure tabOk rfl ?_)
  refine S_q (Q_rem0 rfl rfl rfl (by decide) ha'.1) ?_
  repeat (first | refine S_i64 tabOk rfl (by omega) ?_ | refine S_pure tabOk rfl ?_)
  refine S_q (Q_rem0 rfl rfl rfl (by decide) hb'.1) ?_
  repeat (first | refine S_nil ?_ | refine T_ret ?_ | refine S_i64 tabOk rfl (by omega) ?_ | refine S_store tabOk 0 rfl rfl rfl rfl rfl rfl ?_ | refine S_q (Q_build tabOk rfl rfl rfl rfl rfl rfl rfl) ?_)
  exact ret1 rfl (res_cell tabOk 0 rfl rfl rfl rfl) (fun w' hw => ⟨rfl, hw.below (by repeat (first | exact new_nil | refine new_cons (by first | assumption | omega) ?_))⟩)
/-- where a number is -/
theorem index64_ok {a : Option Addr} {n c : Nat} {l : List Int} (x : Int) (w : World) (hx : Ints .u64 w a n c l) (hn : n ≤ 1000000) : Calls Try.prog 64 #[.slice a n c, .int .u64 x] w fun e w' => ∃ i : Int, e = .returned (.int .i64 i) ∧ (0 ≤ i ↔ x ∈ l) ∧ Below w.heap.size w w' := by
  have hl := hx.len
  refine enter2 Try.func64 rfl rfl (Hp.refl w) ?_
  repeat (first | refine T_seq ?_ | refine T_region ?_ | refine T_block ?_ | refine S_nil ?_ | refine S_pure tabOk rfl ?_)
  refine T_loop (ι := Nat) (fun i => [(0, .slice a n c), (1, .int .u64 x), (7, .int .i64 (n : Int)), (8, .int .i64 (i : Int))]) (fun _ => []) (fun i => i ≤ n ∧ x ∉ l.take i) (fun i => n - i) 0 ⟨Nat.zero_le _, by simp⟩ (by repeat (first | exact Sub.nil | refine Sub.cons rfl ?_)) (fun _ hw => hw) ?_
  rintro i ⟨hi, hno⟩
  repeat (first | refine T_seq ?_ | refine T_region ?_ | refine S_nil ?_ | refine S_pure tabOk rfl ?_)
  refine T_cond_dec rfl (fun hlt => ?_) (fun hge => ?_)
  · have hin : i < l.length := by omega
    obtain ⟨y, hy⟩ : ∃ y, l[i]? = some y := ⟨_, List.getElem?_eq_getElem hin⟩
    have htk : l.take (i + 1) = l.take i ++ [y] := by
      rw [List.take_succ_eq_append_getElem hin]
      rw [List.getElem?_eq_getElem hin] at hy
      rw [Option.some.inj hy]
    obtain ⟨b, off, rfl, _⟩ := hx.sl.get (by omega)
    repeat (first | refine T_seq ?_ | refine T_region ?_ | refine T_block ?_ | refine S_nil ?_ | refine pthen_normal ?_ | refine T_skip ?_ | refine S_pure tabOk rfl ?_)
    refine S_q (Q_idx (sz := 1) tabOk rfl rfl rfl rfl rfl rfl rfl (j := i) rfl (by omega)) ?_
    refine S_load1 tabOk (v := .int .u64 y) rfl rfl (fun w' hw => (hx.sl.ext (hw.below (by repeat (first | exact new_nil)))).at_ (by omega) (by rw [Nat.mul_one, List.getElem?_map, hy]; rfl)) ?_
    repeat (first | refine S_nil ?_ | refine S_pure tabOk rfl ?_)
    refine T_cond_dec rfl (fun heq => ?_) (fun hne => ?_)
    · repeat (first | refine T_seq ?_ | refine T_region ?_ | refine S_nil ?_ | refine inb_ret ?_ | refine pthen_ret ?_ | refine T_ret ?_ | refine S_pure tabOk rfl ?_)
      exact ret1 rfl rfl (fun w' hw => ⟨(i : Int), rfl, ⟨fun _ => by rw [heq]; exact List.mem_of_getElem? hy, fun _ => by omega⟩, hw.below (by repeat (first | exact new_nil))⟩)
    · repeat (first | refine T_region ?_ | refine S_nil ?_ | refine pthen_normal ?_ | refine inb_normal ?_ | refine T_skip ?_ | refine S_i64 tabOk rfl (by omega) ?_ | refine S_pure tabOk rfl ?_)
      exact ⟨i + 1, ⟨by omega, by rw [htk]; exact fun h => (List.mem_append.1 h).elim hno fun h => hne (List.mem_singleton.1 h)⟩, (by repeat (first | exact Sub.nil | refine Sub.cons rfl ?_)), fun _ hw => hw, by omega⟩
  · have hie : i = n := by omega
    subst hie
    rw [List.take_of_length_le (by omega)] at hno
    repeat (first | refine T_seq ?_ | refine T_region ?_ | refine S_nil ?_ | refine pthen_normal ?_ | refine inb_hit ?_ | refine pthen_exit ?_ | refine T_ret ?_ | refine T_exit ?_ | refine S_pure tabOk rfl ?_)
    exact ret1 rfl rfl (fun w' hw => ⟨-1, rfl, ⟨fun h => absurd h (by decide), fun h => absurd h hno⟩, hw.below (by repeat (first | exact new_nil))⟩)
theorem contains64_ok {a : Option Addr} {n c : Nat} {l : List Int} (x : Int) (w : World) (hx : Ints .u64 w a n c l) (hn : n ≤ 1000000) : Calls Try.prog 28 #[.slice a n c, .int .u64 x] w fun e w' => e = .returned (.bool (decide (x ∈ l))) ∧ Below w.heap.size w w' := by
  refine enter2 Try.func28 rfl rfl (Hp.refl w) ?_
  repeat (first | refine T_seq ?_ | refine T_region ?_ | refine S_nil ?_ | refine S_pure tabOk rfl ?_)
  refine S_callE (fun v => ∃ i : Int, v = .int .i64 i ∧ (0 ≤ i ↔ x ∈ l)) rfl Try.call64 (fun w1 h1 => (index64_ok x w1 ⟨hx.len, hx.cap, hx.max, hx.nil, hx.fits, hx.sl.ext (h1.below (by repeat (first | exact new_nil)))⟩ hn).mono fun e w' ⟨i, e1, e2, e3⟩ => ⟨_, e1, e3, i, rfl, e2⟩) (fun v hv => ?_)
  obtain ⟨i, rfl, hi⟩ := hv
  repeat (first | refine S_nil ?_ | refine T_ret ?_ | refine S_pure tabOk rfl ?_)
  exact ret1 rfl rfl (fun w' hw => ⟨congrArg (fun b => Ending.returned (Value.bool b)) (decide_eq_decide.2 ⟨fun h => hi.1 (by omega), fun h => by have := hi.2 h; omega⟩), hw.below (by repeat (first | exact new_nil))⟩)
theorem rmB_mem {gs : List BG} {s : Int → Bool} {g : BG} (h : g ∈ rmB gs s) : ∃ x ∈ gs, g = cutB s x := by
  obtain ⟨x, hx, e⟩ := List.mem_map.1 (List.mem_filter.1 h).1
  exact ⟨x, hx, e.symm⟩
theorem setU_one (l : List Int) {n : Int} (h : n ∈ l) : sortU (l.filter fun k => decide (k = n)) = [n] :=
  (sortU_ext (List.pairwise_singleton _ _) fun x => by
    rw [List.mem_singleton, List.mem_filter, decide_eq_true_eq]
    exact ⟨fun e => ⟨e ▸ h, e⟩, fun h => h.2⟩).symm
theorem newL_nil (l : List Int) : newL [] l = sortU l := sortU_congr fun x => by rw [List.mem_filter]; simp
/-- one group's times -/
theorem due_one (f m now T k : Int) (L : List Int) : dueL [⟨1, L, T, k⟩] now = (if T ≤ now then [L] else []) ∧ dueG f m now [⟨1, L, T, k⟩] = (if T ≤ now then [⟨1, L, now + W f m k.toNat, k + 1⟩] else [⟨1, L, T, k⟩]) := by
  have e1 : bAl [⟨1, L, T, k⟩] = [(1, T)] := rfl
  constructor
  · unfold dueL dueI dOut
    rw [e1]
    by_cases h : T ≤ now
    · rw [if_pos h, List.takeWhile_cons_of_pos (by simpa using h)]; rfl
    · rw [if_neg h, List.takeWhile_cons_of_neg (by simpa using h)]; rfl
  · unfold dueG
    by_cases h : T ≤ now <;> simp [h]
set_option maxHeartbeats 8000000 in
theorem boardAgain_walk (fi mo : Int) (v2 : Value) (l0 : List Int) (ti ta : Int) (W0 : World) (hfi : Fits .u16 fi) (hmo : Fits .u16 mo) (hv2 : (Rslice (Rint .u64)).val W0 TT v2 l0) (hti : Fits .u16 ti) (hta : Fits .u8 ta) :
    Calls Try.prog 4 #[.int .u16 fi, .int .u16 mo, v2, .int .u16 ti, .int .u8 ta] W0 fun e W' => e = .returned (.bool true) ∧ Below W0.heap.size W0 W' := by
  obtain ⟨a0, n0, c0, rfl, h0⟩ := SlR.form hv2
  have h0' := h0.take (k := min n0 20) (by omega)
  have hc0 := h0.cap
  obtain ⟨ln, hln⟩ : ∃ ln, ln = min n0 20 := ⟨_, rfl⟩
  obtain ⟨L, hL⟩ : ∃ L, L = l0.take (min n0 20) := ⟨_, rfl⟩
  rw [← hL, ← hln] at h0'
  have hLl := h0'.len
  have hfi' := fits_u16 hfi
  have hmo' := fits_u16 hmo
  have hti' := fits_u16 hti
  have hta' := fits_u8 hta
  obtain ⟨f, hf⟩ : ∃ f, f = 1 + fi % 50 := ⟨_, rfl⟩
  obtain ⟨m, hm⟩ : ∃ m, m = 1 + fi % 50 + mo % 500 := ⟨_, rfl⟩
  have hp : PR f m := by refine ⟨?_, ?_, ?_⟩ <;> omega
  have hm2 : m ≤ 600 := by omega
  refine enter5 Try.func4 rfl rfl (Hp.refl W0) ?_
  repeat (first | refine T_seq ?_ | refine T_region ?_ | refine S_nil ?_ | refine S_pure tabOk rfl ?_)
  refine S_callq (v := .bool true) rfl Try.call11 (fun w1 h1 => awake13_ok w1) ?_
  repeat (first | refine S_nil ?_ | refine S_pure tabOk rfl ?_)
  refine T_cond_f rfl ?_
  repeat (first | refine T_seq ?_ | refine T_region ?_ | refine pthen_normal ?_ | refine T_skip ?_ | refine S_pure tabOk rfl ?_)
  refine S_callq (v := .agg #[.int .i64 f, .int .i64 m]) rfl Try.call24 (fun w1 h1 => by rw [hf, hm]; exact params13_ok fi mo w1 hfi hmo) ?_
  refine S_new tabOk rfl (fun b11 hb11 => ?_)
  repeat (first | refine T_seq ?_ | refine T_region ?_ | refine S_nil ?_ | refine S_load tabOk 0 rfl rfl rfl ?_ | refine S_store tabOk 0 rfl rfl rfl rfl rfl rfl ?_)
  refine S_bnew hp rfl (fun bb F0 hN0 => ?_)
  repeat (first | refine T_seq ?_ | refine T_region ?_ | refine S_nil ?_ | refine S_pure tabOk rfl ?_)
  refine S_q (Q_sliceTo tabOk rfl rfl rfl rfl rfl rfl (H := ln) (by omega) (by omega)) ?_
  repeat (first | refine T_seq ?_ | refine T_region ?_ | refine S_nil ?_ | refine S_pure tabOk rfl ?_)
  refine S_bsend 0 (L := L) rfl rfl hN0 (fun w1 g1 => Arg.old h0' g1 (by repeat (first | exact new_nil | refine new_rx (by assumption) ?_ | refine new_cons (by first | assumption | omega) ?_)) hN0) (by decide) (by rw [show (bNums []).length = 0 from rfl]; omega) (by decide) (by decide) (fun F1 hN1 => ⟨_, rfl, ?_⟩)
  by_cases hL0 : L = []
  · have e1 : bSend f m [] 0 0 L = ([], 0, 0) := by rw [hL0]; rfl
    rw [e1]
    dsimp only
    repeat (first | refine S_nil ?_ | refine S_pure tabOk rfl ?_)
    refine T_cond_t rfl ?_
    repeat (first | refine T_seq ?_ | refine T_region ?_ | refine S_nil ?_ | refine pthen_ret ?_ | refine T_ret ?_ | refine S_pure tabOk rfl ?_)
    have hz : ln = 0 := by rw [← hLl, hL0]; rfl
    subst hz
    exact ret1 rfl rfl (fun w' hw => ⟨rfl, hw.below (by repeat (first | exact new_nil | refine new_rx (by assumption) ?_ | refine new_cons (by first | assumption | omega) ?_))⟩)
  obtain ⟨SL, hSL⟩ : ∃ SL, SL = sortU L := ⟨_, rfl⟩
  have hSm : ∀ n, n ∈ SL ↔ n ∈ L := fun n => by rw [hSL, sortU_mem]
  have hSne : SL ≠ [] := fun e => hL0 (sortU_nil.1 (hSL ▸ e))
  have e1 : bSend f m [] 0 0 L = ([⟨1, SL, W f m 0, 1⟩], 1, 1) := by
    unfold bSend
    rw [newL_nil, ← hSL, if_neg hSne, List.nil_append, Int.zero_add, Int.zero_add]
  rw [e1]
  dsimp only
  have hlpos : 0 < ln := by rw [← hLl]; exact List.length_pos_iff.2 hL0
  have hWm : ∀ k : Nat, 1 ≤ W f m k ∧ W f m k ≤ m := fun k => W_pos hp.1 hp.2.1 k
  repeat (first | refine S_nil ?_ | refine S_pure tabOk rfl ?_)
  refine T_cond_f rfl ?_
  repeat (first | refine T_seq ?_ | refine T_region ?_ | refine T_block ?_ | refine S_nil ?_ | refine pthen_normal ?_ | refine T_skip ?_ | refine S_pure tabOk rfl ?_)
  refine T_loop (ι := Int × Int × Nat × (Nat → Prop)) (fun j => [(2, .slice a0 ln c0), (3, .int .u16 ti), (4, .int .u8 ta), (11, .pointer (some ⟨b11, 0, none⟩)), (12, bptr bb), (14, .int .i64 j.2.1), (15, .int .i64 (j.2.2.1 : Int)), (16, .int .i64 j.1)])
    (fun j => [.rep (fun w => (boA bb f m [⟨1, SL, j.2.1 + W f m j.2.2.1, (j.2.2.1 : Int) + 1⟩] 1).at_ w j.2.2.2 (.bool true)) j.2.2.2 true, .blk b11 (.cells ⟨[.int .i64 f, .int .i64 m]⟩ 27 (0, 0)) true])
    (fun j => (1 ≤ j.1 ∧ j.1 ≤ ti % 2000 + 1) ∧ (0 ≤ j.2.1 ∧ j.2.1 < j.1) ∧ j.1 ≤ j.2.1 + W f m j.2.2.1 ∧ (j.2.2.1 : Int) ≤ j.1 ∧ ∀ k, j.2.2.2 k → W0.heap.size ≤ k) (fun j => (ti % 2000 + 1 - j.1).toNat) (1, 0, 0, F1) ⟨by dsimp only; omega, by dsimp only; omega, by have := hWm 0; dsimp only; omega, by dsimp only; omega, hN1⟩ (by repeat (first | exact Sub.nil | refine Sub.cons rfl ?_)) (fun w' hw => by
      have e : (0 : Int) + W f m 0 = W f m 0 := Int.zero_add _
      dsimp only
      rw [e]
      exact hw) ?_
  rintro ⟨now, lst, k, F2⟩ ⟨h1, h2, h3, h4, hN2⟩
  dsimp only at h1 h2 h3 h4 hN2 ⊢
  have hWk := hWm k
  have hkn : ((k : Int) + 1).toNat = k + 1 := by omega
  have hkk : ((k : Int)).toNat = k := by omega
  repeat (first | refine T_seq ?_ | refine T_region ?_ | refine S_pure tabOk rfl ?_)
  refine S_q (Q_rem0 rfl rfl rfl (by decide) hti'.1) ?_
  repeat (first | refine S_nil ?_ | refine S_i64 tabOk rfl (by omega) ?_ | refine S_pure tabOk rfl ?_)
  refine T_cond_dec rfl (fun hle => ?_) (fun hgt => ?_)
  · repeat (first | refine T_seq ?_ | refine T_region ?_ | refine T_block ?_ | refine pthen_normal ?_ | refine T_skip ?_ | refine S_pure tabOk rfl ?_)
    refine S_bdue 0 rfl rfl hN2 (by omega) (fun g hg => by rw [List.mem_singleton] at hg; rw [hg]; dsimp only; omega) (fun a5 n5 c5 xs Fv F3 hFv hN3 hl5 => ⟨_, rfl, ?_⟩)
    rw [(due_one f m now (lst + W f m k) (k + 1) SL).2]
    rw [(due_one f m now (lst + W f m k) (k + 1) SL).1] at hl5 ⊢
    by_cases hT : lst + W f m k ≤ now
    · rw [if_pos hT] at hl5 ⊢
      rw [if_pos hT, hkn]
      obtain ⟨rfl, hxl⟩ := hl5
      have hTe : lst + W f m k = now := by omega
      repeat (first | refine T_seq ?_ | refine T_region ?_ | refine S_nil ?_ | refine S_pure tabOk rfl ?_)
      refine T_cond_f rfl ?_
      repeat (first | refine T_seq ?_ | refine T_region ?_ | refine pthen_normal ?_ | refine T_skip ?_ | refine S_i64 tabOk rfl (by omega) ?_ | refine S_pure tabOk rfl ?_ | refine S_load tabOk 2 rfl rfl rfl ?_)
      refine S_callq rfl Try.call25 (fun w1 g1 => wait_w f m k w1 hp.1 hp.2.2 hp.2.1) ?_
      repeat (first | refine S_nil ?_ | refine S_pure tabOk rfl ?_)
      refine T_cond_df rfl (fun h => h (by rw [hkk]; omega)) ?_
      repeat (first | refine T_seq ?_ | refine T_region ?_ | refine S_nil ?_ | refine pthen_normal ?_ | refine inb_normal ?_ | refine T_skip ?_ | refine S_i64 tabOk rfl (by omega) ?_ | refine S_pure tabOk rfl ?_ | refine T_region_any ?_)
      exact ⟨(now + 1, now, k + 1, F3), ⟨by dsimp only; omega, by dsimp only; omega, by have := hWm (k + 1); dsimp only; omega, by dsimp only; omega, hN3⟩, (by repeat (first | exact Sub.nil | refine Sub.cons rfl ?_)), fun w' hw => hw.less (by repeat (first | exact Less.nil | refine Less.keep ?_ | refine Less.dropR ?_)), by dsimp only; omega⟩
    · rw [if_neg hT] at hl5 ⊢
      rw [if_neg hT]
      obtain ⟨rfl, hxl⟩ := hl5
      repeat (first | refine T_seq ?_ | refine T_region ?_ | refine S_nil ?_ | refine S_pure tabOk rfl ?_)
      refine T_cond_t rfl ?_
      repeat (first | refine T_seq ?_ | refine T_region ?_ | refine S_nil ?_ | refine S_i64 tabOk rfl (by omega) ?_ | refine S_pure tabOk rfl ?_ | refine S_load tabOk 2 rfl rfl rfl ?_)
      refine T_cond_df rfl (by omega) ?_
      repeat (first | refine T_region ?_ | refine S_nil ?_ | refine pthen_normal ?_ | refine inb_hit ?_ | refine pthen_exit ?_ | refine T_skip ?_ | refine T_exit ?_ | refine S_i64 tabOk rfl (by omega) ?_ | refine S_pure tabOk rfl ?_)
      exact ⟨(now + 1, lst, k, F3), ⟨by dsimp only; omega, by dsimp only; omega, by dsimp only; omega, by dsimp only; omega, hN3⟩, (by repeat (first | exact Sub.nil | refine Sub.cons rfl ?_)), fun w' hw => hw.less (by repeat (first | exact Less.nil | refine Less.keep ?_ | refine Less.dropR ?_)), by dsimp only; omega⟩
  repeat (first | refine T_seq ?_ | refine T_region ?_ | refine pthen_normal ?_ | refine inb_hit ?_ | refine pthen_exit ?_ | refine T_exit ?_ | refine S_i64 tabOk rfl (by omega) ?_ | refine S_pure tabOk rfl ?_)
  have hq1 : 0 ≤ ta % (ln : Int) := Int.emod_nonneg _ (by omega)
  have hq2 : ta % (ln : Int) < ln := Int.emod_lt_of_pos _ (by omega)
  obtain ⟨q, hq⟩ : ∃ q : Nat, ta % (ln : Int) = q := ⟨_, (Int.toNat_of_nonneg hq1).symm⟩
  refine S_q (Q_rem0 rfl rfl rfl (by omega) hta'.1) ?_
  have hql : q < L.length := by omega
  obtain ⟨n, hn⟩ : ∃ n, L[q]? = some n := ⟨_, List.getElem?_eq_getElem hql⟩
  have hnL := List.mem_of_getElem? hn
  have hnS : n ∈ SL := (hSm n).2 hnL
  have hnf : Fits .u64 n := h0'.ints.fits n hnL
  obtain ⟨ab, off, _, e0, _⟩ := h0'.get_ hql
  subst e0
  refine S_q (Q_idx (sz := 1) tabOk rfl rfl rfl rfl rfl rfl rfl (j := q) (by exact hq) (by omega)) ?_
  refine S_load1 tabOk (v := .int .u64 n) rfl rfl (fun w' hw => (h0'.ext (hw.below (by repeat (first | exact new_nil | refine new_rx (by assumption) ?_ | refine new_cons (by first | assumption | omega) ?_)))).ints.sl.at_ hlpos (by rw [Nat.mul_one, List.getElem?_map, hn]; rfl)) ?_
  repeat (first | refine T_seq ?_ | refine T_region ?_ | refine S_nil ?_ | refine S_pure tabOk rfl ?_)
  obtain ⟨G, hG⟩ : ∃ G : BG, G = ⟨1, SL, lst + W f m k, (k : Int) + 1⟩ := ⟨_, rfl⟩
  have hGL : G.L = SL := by rw [hG]
  have hGn : bNums [G] = SL := by rw [bNums, List.flatMap_cons, List.flatMap_nil, List.append_nil, hGL]
  have hGt : bTries [G] n = (k : Int) + 1 := by
    unfold bTries bGet
    rw [List.find?_cons_of_pos (by rw [hGL]; simpa using hnS), hG]
  rw [← hG]
  refine S_callq (v := .int .i64 ((k : Int) + 1)) rfl Try.call26 (fun w1 g1 => by rw [← hGt]; exact bo_tries (g1.own _ (getE_mem (i := 0) rfl)).1 n) ?_
  repeat (first | refine S_i64 tabOk rfl (by omega) ?_ | refine S_pure tabOk rfl ?_)
  refine S_re 91 (v' := .bool false) rfl (congrArg Value.bool (decide_eq_false (fun h => h rfl))) ?_
  repeat (first | refine S_pure tabOk rfl ?_)
  refine S_bslice tabOk rfl rfl rfl rfl rfl rfl rfl rfl rfl rfl rfl rfl (fun n1 hn1 => ?_)
  have hone : ∀ x ∈ [n], Fits .u64 x := fun x hx => by rw [List.mem_singleton] at hx; rw [hx]; exact hnf
  refine S_of (L := [n]) rfl (fun w1 g1 => ⟨_, blk_slr (l := [n]) (g1.own _ (getE_mem (i := 0) rfl)) hone (by show 1 ≤ maxLen; decide)⟩) (by decide) (fun a2 m2 c2 Fx hFx => ?_)
  refine S_btake 2 (s := eqN n) rfl rfl hN2 (fun w1 g1 => SArg.rep 0 2 g1 rfl rfl rfl (fun x => by simp [eqN])) (by show 1 ≤ _; decide) (fun A3 C3 F3 hN3 => ⟨_, rfl, ?_⟩)
  rw [hGn, show sortU (SL.filter (eqN n)) = [n] from setU_one SL hnS]
  obtain ⟨gs1, hgs1⟩ : ∃ g, g = rmB [G] (eqN n) := ⟨_, rfl⟩
  have hn1 : n ∉ bNums gs1 := by rw [hgs1, nums_rm, List.mem_filter]; simp [eqN]
  rw [← hgs1]
  repeat (first | refine S_pure tabOk rfl ?_)
  refine S_bslice tabOk rfl rfl rfl rfl rfl rfl rfl rfl rfl rfl rfl rfl (fun n4 hn4 => ?_)
  refine S_eq64 (L := [n]) (M := [n]) rfl (fun w1 g1 => Sl.of_own (g1.own _ (getE_mem (i := 1) rfl))) (fun w1 g1 => blk_sl (g1.own _ (getE_mem (i := 0) rfl))) (fun _ _ => by show 1 ≤ maxLen; decide) ?_
  refine S_re 99 (v' := .bool true) rfl (congrArg Value.bool (decide_eq_true rfl)) ?_
  repeat (first | refine S_pure tabOk rfl ?_)
  refine S_callq (v := .bool false) rfl Try.call27 (fun w1 g1 => by
    rw [← show decide (n ∈ bNums gs1) = false from decide_eq_false hn1]
    exact bo_has (g1.own _ (getE_mem (i := 4) rfl)).1 n) ?_
  repeat (first | refine S_pure tabOk rfl ?_)
  refine S_bslice tabOk rfl rfl rfl rfl rfl rfl rfl rfl rfl rfl rfl rfl (fun n5 hn5 => ?_)
  refine S_of (L := [n]) rfl (fun w1 g1 => ⟨_, blk_slr (l := [n]) (g1.own _ (getE_mem (i := 0) rfl)) hone (by show 1 ≤ maxLen; decide)⟩) (by decide) (fun a6 m6 c6 Fy hFy => ?_)
  refine S_btake 6 (s := eqN n) rfl rfl hN3 (fun w1 g1 => SArg.rep 0 6 g1 rfl rfl rfl (fun x => by simp [eqN])) (by show 1 ≤ _; decide) (fun A7 C7 F7 hN7 => ⟨_, rfl, ?_⟩)
  have hnone : sortU ((bNums gs1).filter (eqN n)) = [] := sortU_nil.2 (List.filter_eq_nil_iff.2 fun x hx h => hn1 (by simp [eqN] at h; rw [← h]; exact hx))
  rw [hnone]
  obtain ⟨gs2, hgs2⟩ : ∃ g, g = rmB gs1 (eqN n) := ⟨_, rfl⟩
  have hn2 : n ∉ bNums gs2 := by rw [hgs2, nums_rm, List.mem_filter]; simp [eqN]
  rw [← hgs2]
  repeat (first | refine S_nil ?_ | refine S_pure tabOk rfl ?_)
  refine T_cond_f rfl ?_
  repeat (first | refine T_seq ?_ | refine T_region ?_ | refine pthen_normal ?_ | refine T_skip ?_ | refine S_pure tabOk rfl ?_)
  have htr : ∀ g ∈ gs2, g.tries < 1099511627776 := fun g hg => by
    rw [hgs2] at hg
    obtain ⟨x, hx, rfl⟩ := rmB_mem hg
    rw [hgs1] at hx
    obtain ⟨y, hy, rfl⟩ := rmB_mem hx
    rw [List.mem_singleton] at hy
    rw [hy, hG]
    show (k : Int) + 1 < _
    omega
  refine S_kn (fun w1 g1 => bo_ok (g1.own _ (getE_mem (i := 7) rfl)).1) (fun ⟨_, hok2, hne2⟩ => ?_)
  refine S_bdue 7 rfl rfl hN7 (by decide) htr (fun a8 n8 c8 xs Fv F8 hFv hN8 hl8 => ⟨_, rfl, ?_⟩)
  obtain ⟨DL, hDL⟩ : ∃ DL, DL = dueL gs2 1125899906842624 := ⟨_, rfl⟩
  rw [← hDL] at hl8 ⊢
  obtain ⟨rfl, hxl⟩ := hl8
  have hb2 := hok2.len
  have hDb : DL.length ≤ 60000 := by
    have h1 : (dueL gs2 1125899906842624).length ≤ gs2.length := by unfold dueL; rw [List.length_map]; exact dueI_len
    have h2 := hok2.cnt
    rw [← hDL] at h1
    omega
  have hDlb : ∀ l' ∈ DL, l'.length ≤ 60000 ∧ n ∉ l' := fun l' h => by
    obtain ⟨g, hg, _, rfl⟩ := (dueL_mem hok2).1 (hDL ▸ h)
    have := nums_le hg
    exact ⟨by omega, fun h => hn2 (List.mem_flatMap.2 ⟨g, hg, h⟩)⟩
  repeat (first | refine T_block ?_ | refine S_nil ?_ | refine S_pure tabOk rfl ?_)
  refine T_loop (ι := Nat) (fun j => [(18, .int .u64 n), (117, .slice a8 DL.length c8), (118, .int .i64 (DL.length : Int)), (119, .int .i64 (j : Int))])
    (fun j => [.rep (fun w => (LLx a8 DL.length c8 xs DL).at_ w Fv (.bool true)) Fv false]) (fun j => j ≤ DL.length) (fun j => DL.length - j) 0 (Nat.zero_le _) (by repeat (first | exact Sub.nil | refine Sub.cons rfl ?_)) (fun w' hw => hw.fewer (by repeat (first | exact new_nil | refine new_ro ?_ | refine new_rx (by assumption) ?_ | refine new_cons (by first | assumption | omega) ?_ | refine newrow hw 1 rfl (Nat.le_refl _) ?_ | refine newrow hw 5 rfl (Nat.le_refl _) ?_)) (by repeat (first | exact List.Sublist.slnil | refine List.Sublist.cons_cons _ ?_ | refine List.Sublist.cons _ ?_))) ?_
  intro i hi
  repeat (first | refine T_seq ?_ | refine T_region ?_ | refine S_nil ?_ | refine S_pure tabOk rfl ?_)
  refine T_cond_dec rfl (fun hlt1 => ?_) (fun hge => ?_)
  · have hin : i < DL.length := by omega
    obtain ⟨l', hl'⟩ : ∃ l', DL[i]? = some l' := ⟨_, List.getElem?_eq_getElem hin⟩
    obtain ⟨⟨xa, xn, xc⟩, hx⟩ : ∃ x, xs[i]? = some x := ⟨_, List.getElem?_eq_getElem (by omega)⟩
    obtain ⟨hlb, hnl⟩ := hDlb l' (List.mem_of_getElem? hl')
    refine T_kn (X := (∃ b off, a8 = some ⟨b, off, none⟩) ∧ l'.length = xn) (fun w1 g1 => ⟨LLx.addr (g1.own _ (getE_mem (i := 0) rfl)).1 (by omega), (LLx.get (g1.own _ (getE_mem (i := 0) rfl)).1 hx hl').len⟩) (fun ⟨⟨b5, o5, e5⟩, hxn⟩ => ?_)
    subst e5
    subst hxn
    repeat (first | refine T_seq ?_ | refine T_region ?_ | refine T_block ?_ | refine pthen_normal ?_ | refine T_skip ?_)
    refine S_q (Q_idx (sz := 1) tabOk rfl rfl rfl rfl rfl rfl rfl (j := i) rfl hin) ?_
    refine S_load1 tabOk (v := .slice xa l'.length xc) rfl rfl (fun w1 h1 => by rw [Nat.mul_one]; exact LLx.cell (h1.own _ (getE_mem (i := 0) rfl)).1 hx) ?_
    repeat (first | refine T_seq ?_ | refine T_region ?_ | refine S_nil ?_ | refine S_pure tabOk rfl ?_)
    refine S_callq (v := .bool false) rfl Try.call28 (fun w1 g1 => by
      rw [← show decide (n ∈ l') = false from decide_eq_false hnl]
      exact contains64_ok n w1 (LLx.get (g1.own _ (getE_mem (i := 0) rfl)).1 hx hl').ints (by omega)) ?_
    repeat (first | refine S_nil ?_)
    refine T_cond_f rfl ?_
    repeat (first | refine T_region ?_ | refine S_nil ?_ | refine pthen_normal ?_ | refine inb_normal ?_ | refine T_skip ?_ | refine S_i64 tabOk rfl (by omega) ?_ | refine S_pure tabOk rfl ?_)
    exact ⟨i + 1, hin, (by repeat (first | exact Sub.nil | refine Sub.cons rfl ?_)), fun w' hw => hw, by omega⟩
  repeat (first | refine T_seq ?_ | refine T_region ?_ | refine S_nil ?_ | refine pthen_normal ?_ | refine inb_hit ?_ | refine pthen_exit ?_ | refine T_ret ?_ | refine T_exit ?_ | refine S_pure tabOk rfl ?_)
  exact ret1 rfl rfl (fun w' hw => ⟨rfl, hw.below (by repeat (first | exact new_nil | refine new_ro ?_))⟩)
end Go.Proofs.Ytanhmmfpecgbhaa
