/-
  The law BoardPlays: its walk. Conditions: each theorem's own.
-/
import Derived.Test.YtidhpofcofknhaaRbH
import Derived.Test.YtidhpofcofknhaaEngAf
namespace Go.Proofs.Ytidhpofcofknhaa
open Go Go.RowKit
set_option linter.unusedVariables false

abbrev Act13 : Type := Int × Int × List Int × List Run
abbrev RAct : Rep Act13 := Rpair (Rint .u8) (Rpair (Rint .u8) (Rpair (Rslice (Rint .u64)) (Rslice Rrun)))
theorem params13_okQ (a b : Int) (w : World) (ha : Fits .u16 a) (hb : Fits .u16 b) : Calls Try.prog 7 #[.int .u16 a, .int .u16 b] w fun e w' => e = .returned (.agg #[.int .i64 (1 + a % 50), .int .i64 (1 + a % 50 + b % 500)]) ∧ Below w.heap.size w w' := by
  have ha' := fits_u16 ha
  have hb' := fits_u16 hb
  refine enter2 Try.func7 rfl rfl (Hp.refl w) ?_
  repeat (first | refine T_seq ?_ | refine T_region ?_)
  refine S_new tabOk rfl (fun b4 hb4 => ?_)
  repeat (first | refine T_seq ?_ | refine T_region ?_ | refine S_nil ?_ | refine S_pure tabOk rfl ?_)
  refine S_q (Q_rem0 rfl rfl rfl (by decide) ha'.1) ?_
  repeat (first | refine S_i64 tabOk rfl (by omega) ?_ | refine S_pure tabOk rfl ?_)
  refine S_q (Q_rem0 rfl rfl rfl (by decide) ha'.1) ?_
  repeat (first | refine S_i64 tabOk rfl (by omega) ?_ | refine S_pure tabOk rfl ?_)
  refine S_q (Q_rem0 rfl rfl rfl (by decide) hb'.1) ?_
  repeat (first | refine S_nil ?_ | refine T_ret ?_ | refine S_i64 tabOk rfl (by omega) ?_ | refine S_store tabOk 0 rfl rfl rfl rfl rfl rfl ?_ | refine S_q (Q_build tabOk rfl rfl rfl rfl rfl rfl rfl) ?_)
  exact ret1 rfl (res_cell tabOk 0 rfl rfl rfl rfl) (fun w' hw => ⟨rfl, hw.below (by repeat (first | exact new_nil | refine new_cons (by first | assumption | omega) ?_))⟩)
/-- an act's cells -/
theorem act_at {w : World} {A : Nat → Prop} {a : Option Addr} {n c : Nat} {acts : List Act13} (h : SlR RAct w A a n c acts) {i : Nat} {x : Act13} (hx : acts[i]? = some x) : ∃ ab off la ln lc ra rn rc, a = some ⟨ab, off, none⟩ ∧ (Fits .u8 x.1 ∧ Fits .u8 x.2.1) ∧ SlR (Rint .u64) w A la ln lc x.2.2.1 ∧ SlR Rrun w A ra rn rc x.2.2.2 ∧ ∀ w', Below w.heap.size w w' → ∀ j u, [Value.int .u8 x.1, .int .u8 x.2.1, .slice la ln lc, .slice ra rn rc][j]? = some u → w'.cell? ⟨ab, off + i * 4 + j, none⟩ = some u := by
  have hi := (List.getElem?_eq_some_iff.1 hx).1
  obtain ⟨ab, off, cs, e, hlt, hat, _, hce, _⟩ := h.get_ (i := i) hi
  rw [List.getElem?_eq_getElem hi] at hx
  rw [Option.some.inj hx] at hat
  obtain ⟨_, _, rfl, ⟨rfl, h1⟩, _, _, rfl, ⟨rfl, h2⟩, _, _, rfl, ⟨la, ln, lc, rfl, hz⟩, ra, rn, rc, rfl, hy⟩ := hat
  exact ⟨ab, off, la, ln, lc, ra, rn, rc, e, ⟨h1, h2⟩, hz, hy, fun w' hb j u hu => (hb.cell (p := ⟨ab, off + i * 4 + j, none⟩) hlt).trans (hce j u hu)⟩
def memB (rl : List Run) (n : Int) : Bool := rl.any fun r => decide (r.1 ≤ n) && decide (n ≤ r.2)
theorem memB_iff {rl : List Run} {n : Int} : memB rl n = true ↔ Mem rl n := by
  unfold memB Mem
  rw [List.any_eq_true]
  constructor
  · rintro ⟨r, hr, h⟩
    simp only [Bool.and_eq_true, decide_eq_true_eq] at h
    exact ⟨r, hr, h⟩
  · rintro ⟨r, hr, h⟩
    exact ⟨r, hr, by simpa using h⟩
theorem dueG_numsQ (f m now : Int) (gs : List BG) : bNums (dueG f m now gs) = bNums gs := nums_map (q := fun g => if g.tm ≤ now then ⟨g.id, g.L, now + W f m g.tries.toNat, g.tries + 1⟩ else g) (fun g => by by_cases h : g.tm ≤ now <;> simp [h]) gs
theorem rmB_memQ {gs : List BG} {s : Int → Bool} {g : BG} (h : g ∈ rmB gs s) : ∃ x ∈ gs, g = cutB s x := by
  obtain ⟨x, hx, e⟩ := List.mem_map.1 (List.mem_filter.1 h).1
  exact ⟨x, hx, e.symm⟩
theorem rmB_lenQ (gs : List BG) (s : Int → Bool) : (rmB gs s).length ≤ gs.length := by
  unfold rmB
  exact Nat.le_trans (List.length_filter_le _ _) (by rw [List.length_map]; exact Nat.le_refl _)
theorem bSend_len13 {f m : Int} {gs : List BG} {last now : Int} {l : List Int} : (bNums (bSend f m gs last now l).1).length ≤ (bNums gs).length + l.length ∧ (bSend f m gs last now l).1.length ≤ gs.length + 1 ∧ last ≤ (bSend f m gs last now l).2.1 ∧ (bSend f m gs last now l).2.1 ≤ last + 1 := by
  unfold bSend
  split
  · exact ⟨Nat.le_add_right _ _, Nat.le_succ _, Int.le_refl _, by show last ≤ last + 1; omega⟩
  · have := newLL_len' (gs := gs) (l := l)
    refine ⟨?_, by simp, by show last ≤ last + 1; omega, Int.le_refl _⟩
    show (bNums (gs ++ [_])).length ≤ _
    rw [bNums, List.flatMap_append, List.length_append]
    simp only [List.flatMap_cons, List.flatMap_nil, List.append_nil]
    show _ ≤ (gs.flatMap BG.L).length + l.length
    omega
theorem bSend_mem {f m : Int} {gs : List BG} {last now : Int} {l : List Int} {g : BG} (h : g ∈ (bSend f m gs last now l).1) : g ∈ gs ∨ g.tries = 1 := by
  unfold bSend at h
  split at h
  · exact .inl h
  · rcases List.mem_append.1 h with h | h
    · exact .inl h
    · rw [List.mem_singleton] at h
      subst h
      exact .inr rfl
/-- An object that is known is opened beside the others. -/
theorem Hp.unpack {w0 w : World} {A ol : OL} {Φ : World → Prop} {F : Nat → Prop} (hh : Hp w0 w (.rep Φ F true :: ol)) (hA : Hp w w A) (hAF : ∀ e ∈ A, ∀ k, e.has k → F k) (hN : ∀ k, F k → w0.heap.size ≤ k) : Hp w0 w (A ++ ol) := by
  have hap := List.pairwise_cons.1 hh.apart
  refine ⟨hh.os, hh.tape, hh.output, hh.size, fun k hk he => hh.old k hk fun e hm hx hhs => ?_, fun e hm => ?_, List.pairwise_append.2 ⟨hA.apart, hap.2, fun e he e2 he2 _ k hk hk2 => hap.1 e2 he2 rfl k (hAF e he k hk) hk2⟩⟩
  · rcases List.mem_cons.1 hm with rfl | hm
    · have := hN k hhs
      omega
    · exact he e (List.mem_append.2 (.inr hm)) hx hhs
  · rcases List.mem_append.1 hm with hm | hm
    · exact hA.own e hm
    · exact hh.own e (List.mem_cons_of_mem _ hm)
/-- the loop's index -/
structure BpI where
  i : Nat
  gs : List BG
  last : Int
  now : Int
  F1 : Nat → Prop
  F2 : Nat → Prop
structure BpR where
  k : Nat
  a : Option Addr
  n : Nat
  c : Nat
  Fs : Nat → Prop
  a6 : Option Addr
  c6 : Nat
structure BpOk (f m : Int) (W0 : World) (i : Nat) (q : BpI) : Prop where
  gs : q.gs.length ≤ i
  nums : (bNums q.gs).length ≤ 20 * i
  last : q.last ≤ (i : Int)
  tr : ∀ g ∈ q.gs, g.tries ≤ (i : Int) + 1
  F1 : ∀ k, q.F1 k → W0.heap.size ≤ k
  F2 : ∀ k, q.F2 k → W0.heap.size ≤ k
set_option maxHeartbeats 16000000 in
theorem boardPlays_walk (fi mo : Int) (v2 : Value) (acts : List Act13) (W0 : World) (hfi : Fits .u16 fi) (hmo : Fits .u16 mo) (hv2 : (Rslice RAct).val W0 TT v2 acts) :
    Calls Try.prog 3 #[.int .u16 fi, .int .u16 mo, v2] W0 fun e W' => e = .returned (.bool true) ∧ Below W0.heap.size W0 W' := by
  obtain ⟨a2, n2, c2, rfl, h0⟩ := SlR.form hv2
  have hLl := h0.len
  have hmx := h0.maxn
  simp only [maxLen] at hmx
  have hfi' := fits_u16 hfi
  have hmo' := fits_u16 hmo
  obtain ⟨f, hf⟩ : ∃ f, f = 1 + fi % 50 := ⟨_, rfl⟩
  obtain ⟨m, hm⟩ : ∃ m, m = 1 + fi % 50 + mo % 500 := ⟨_, rfl⟩
  have hp : PR f m := by refine ⟨?_, ?_, ?_⟩ <;> omega
  refine enter3 Try.func3 rfl rfl (Hp.refl W0) ?_
  repeat (first | refine T_seq ?_ | refine T_region ?_ | refine S_nil ?_ | refine S_pure tabOk rfl ?_)
  refine S_callq (v := .bool true) rfl Try.call6 (fun w1 h1 => awake13_ok w1) ?_
  repeat (first | refine S_nil ?_ | refine S_pure tabOk rfl ?_)
  refine T_cond_f rfl ?_
  repeat (first | refine T_seq ?_ | refine T_region ?_ | refine pthen_normal ?_ | refine T_skip ?_ | refine S_pure tabOk rfl ?_)
  refine S_callq (v := .agg #[.int .i64 f, .int .i64 m]) rfl Try.call7 (fun w1 h1 => by rw [hf, hm]; exact params13_okQ fi mo w1 hfi hmo) ?_
  refine S_new tabOk rfl (fun b7 hb7 => ?_)
  repeat (first | refine T_seq ?_ | refine T_region ?_ | refine S_nil ?_ | refine S_load tabOk 0 rfl rfl rfl ?_ | refine S_store tabOk 0 rfl rfl rfl rfl rfl rfl ?_)
  refine S_bnew hp rfl (fun bb F0 hN0 => ?_)
  repeat (first | refine T_seq ?_ | refine T_region ?_ | refine S_nil ?_ | refine S_pure tabOk rfl ?_ | refine S_load tabOk 1 rfl rfl rfl ?_ | refine S_q (Q_build tabOk rfl rfl rfl rfl rfl rfl rfl) ?_)
  refine S_new tabOk rfl (fun xb hxb => ?_)
  refine S_toX (ι := Nat → Prop) (fun F2 => ∀ k, F2 k → W0.heap.size ≤ k) (fun F2 => [.rep (fun w => (boA bb f m [] 0).at_ w F0 (.bool true)) F0 true, .rep (fun w => (rbA xb f m [] 0).at_ w F2 (.bool true)) F2 true]) (fun w hw => ?_) (fun F2 hF2 => ?_)
  · have h1 := ((hw.nilRow 99 4).none (p := okG []) (v := .bool true) (fun w p hp => by cases hp) false).pm [2, 1, 0, 3, 4] rfl rfl rfl
    obtain ⟨F', g1, g2, g3⟩ := rb_close (base := W0.heap.size) (F0 := fun _ => False) (K := []) (a := none) (c := 0) (G := fun _ => False) (f := f) (m := m) (last := 0) (xb := xb) (gs := []) (ol := [.rep (fun w => (boA bb f m [] 0).at_ w F0 (.bool true)) F0 true]) [] (h1.less (by repeat (first | exact Less.nil | refine Less.keep ?_ | refine Less.dropB (by first | assumption | omega) ?_))) rfl hp (BOk.nil (by decide)) (fun g hg => by cases hg) (fun k hk => hk.elim) (fun e he k hk => by
      rw [List.mem_singleton] at he
      subst he
      exact hN0 k hk) (fun e he => by
      rw [List.mem_singleton] at he
      subst he
      exact .inl rfl) (rb_cov (.inr hxb) (fun k hk => by cases hk) fun k hk => hk.elim) (fun e he => by cases he)
    exact ⟨F', fun k hk => (g2 k hk).resolve_left id, g3.pm [1, 0] rfl rfl rfl⟩
  repeat (first | refine T_seq ?_ | refine T_region ?_ | refine S_nil ?_ | refine S_pure tabOk rfl ?_)
  refine T_cond_f rfl ?_
  repeat (first | refine T_seq ?_ | refine T_region ?_ | refine S_nil ?_ | refine pthen_normal ?_ | refine T_skip ?_ | refine S_pure tabOk rfl ?_)
  refine T_block ?_
  refine T_loop (ι := BpI) (fun q => [(8, bptr bb), (10, bptr xb), (11, .int .i64 q.now), (40, .slice a2 n2 c2), (41, .int .i64 (n2 : Int)), (42, .int .i64 (q.i : Int))])
    (fun q => [.rep (fun w => (boA bb f m q.gs q.last).at_ w q.F1 (.bool true)) q.F1 true, .rep (fun w => (rbA xb f m q.gs q.last).at_ w q.F2 (.bool true)) q.F2 true])
    (fun q => q.i ≤ n2 ∧ q.i ≤ 50 ∧ (0 ≤ q.now ∧ q.now ≤ 255 * (q.i : Int)) ∧ BpOk f m W0 q.i q) (fun q => n2 - q.i) ⟨0, [], 0, 0, F0, F2⟩ ⟨Nat.zero_le _, Nat.zero_le _, by dsimp only; omega, ⟨Nat.zero_le _, Nat.zero_le _, Int.le_refl _, (fun g hg => by cases hg), hN0, hF2⟩⟩ (by repeat (first | exact Sub.nil | refine Sub.cons rfl ?_)) (fun w' hw => hw) ?_
  rintro ⟨i, gs, last, now, G1, G2⟩ ⟨hi, hi50, hnow, hgs, hnums, hlast, htr, hN1, hN2⟩
  dsimp only at hi hi50 hnow hgs hnums hlast htr hN1 hN2 ⊢
  repeat (first | refine T_seq ?_ | refine T_region ?_ | refine S_nil ?_ | refine S_pure tabOk rfl ?_)
  refine T_cond_dec rfl (fun hlt => ?_) (fun hge => ?_)
  rotate_left
  · repeat (first | refine T_seq ?_ | refine T_region ?_ | refine S_nil ?_ | refine pthen_normal ?_ | refine inb_hit ?_ | refine pthen_exit ?_ | refine T_ret ?_ | refine T_exit ?_ | refine S_pure tabOk rfl ?_)
    exact ret1 rfl rfl (fun w' hw => ⟨rfl, hw.below (by repeat (first | exact new_nil | refine new_rx (by assumption) ?_))⟩)
  obtain ⟨⟨dd, lt, L0, R⟩, hai⟩ : ∃ x, acts[i]? = some x := ⟨_, List.getElem?_eq_getElem (by omega)⟩
  obtain ⟨ab, off, la, ln0, lc, ra, rn, rc, rfl, ⟨hdd, hlt8⟩, hLa, hRa, hce⟩ := act_at h0 hai
  dsimp only at hdd hlt8 hLa hRa hce
  have hdd' := fits_u8 hdd
  have hlt' := fits_u8 hlt8
  repeat (first | refine T_seq ?_ | refine T_region ?_ | refine T_block ?_ | refine pthen_normal ?_ | refine T_skip ?_ | refine S_pure tabOk rfl ?_)
  refine S_q (Q_idx (sz := 4) tabOk rfl rfl rfl rfl rfl rfl rfl (j := i) rfl (by omega)) ?_
  refine S_loadN tabOk (vs := [.int .u8 dd, .int .u8 lt, .slice la ln0 lc, .slice ra rn rc]) rfl rfl rfl (fun w' hw jj u hu => by
    rw [Addr.add_lit]
    exact hce w' (hw.below (by repeat (first | exact new_nil | refine new_rx (by assumption) ?_))) jj u hu) ?_
  refine S_new tabOk rfl (fun b13 hb13 => ?_)
  repeat (first | refine T_seq ?_ | refine T_region ?_ | refine S_nil ?_ | refine S_pure tabOk rfl ?_ | refine S_store tabOk 0 rfl rfl rfl rfl rfl rfl ?_)
  refine T_cond_dec rfl (fun h50 => ?_) (fun h50 => ?_)
  · repeat (first | refine pthen_exit ?_ | refine T_exit ?_)
    refine inb_miss rfl ?_
    repeat (first | refine T_seq ?_ | refine T_region ?_ | refine S_nil ?_ | refine pthen_normal ?_ | refine inb_hit ?_ | refine pthen_exit ?_ | refine T_ret ?_ | refine S_pure tabOk rfl ?_)
    exact ret1 rfl rfl (fun w' hw => ⟨rfl, hw.below (by repeat (first | exact new_nil | refine new_rx (by assumption) ?_ | refine new_cons (by first | assumption | omega) ?_))⟩)
  have hLa' := hLa.take (k := min ln0 20) (by omega)
  have hlc := hLa.cap
  obtain ⟨ln, hln⟩ : ∃ ln, ln = min ln0 20 := ⟨_, rfl⟩
  obtain ⟨L, hL⟩ : ∃ L, L = L0.take (min ln0 20) := ⟨_, rfl⟩
  rw [← hL, ← hln] at hLa'
  have hLn := hLa'.len
  have hln20 : ln ≤ 20 := by omega
  repeat (first | refine T_seq ?_ | refine T_region ?_ | refine S_nil ?_ | refine pthen_normal ?_ | refine T_skip ?_ | refine S_i64 tabOk rfl (by omega) ?_ | refine S_pure tabOk rfl ?_ | refine S_load tabOk 0 rfl rfl rfl ?_)
  refine S_q (Q_sliceTo tabOk rfl rfl rfl rfl rfl rfl (H := ln) (by omega) (by omega)) ?_
  repeat (first | refine T_seq ?_ | refine T_region ?_ | refine S_nil ?_ | refine S_pure tabOk rfl ?_ | refine S_load tabOk 0 rfl rfl rfl ?_)
  refine S_q (Q_rem0 rfl rfl rfl (by decide) hdd'.1) ?_
  obtain ⟨nw, hnw⟩ : ∃ nw, nw = now + lt := ⟨_, rfl⟩
  rw [← hnw]
  have hnw2 : 0 ≤ nw ∧ nw ≤ 255 * ((i : Int) + 1) := by omega
  have htr' : ∀ g ∈ gs, g.tries < 1099511627776 := fun g hg => by have := htr g hg; omega
  repeat (first | refine S_nil ?_)
  refine T_cut (ι := BpI) (fun q => BpOk f m W0 (i + 1) q) (fun q => [(8, bptr bb), (10, bptr xb), (11, .int .i64 nw), (40, .slice (some ⟨ab, off, none⟩) n2 c2), (41, .int .i64 (n2 : Int)), (42, .int .i64 (i : Int))])
    (fun q => [.rep (fun w => (boA bb f m q.gs q.last).at_ w q.F1 (.bool true)) q.F1 true, .rep (fun w => (rbA xb f m q.gs q.last).at_ w q.F2 (.bool true)) q.F2 true]) ?_ ?_
  · refine T_block ?_
    have hsend : ∀ {F1 F2 : Nat → Prop}, (∀ k, F1 k → W0.heap.size ≤ k) → (∀ k, F2 k → W0.heap.size ≤ k) → BpOk f m W0 (i + 1) ⟨0, (bSend f m gs last nw L).1, (bSend f m gs last nw L).2.1, nw, F1, F2⟩ := fun h1 h2 => by
      obtain ⟨g1, g2, g3, g4⟩ := bSend_len13 (f := f) (m := m) (gs := gs) (last := last) (now := nw) (l := L)
      refine ⟨by dsimp only; omega, by dsimp only; omega, by dsimp only; omega, fun g hg => ?_, h1, h2⟩
      dsimp only at hg
      rcases bSend_mem hg with hg | hg
      · have := htr g hg
        omega
      · rw [hg]; omega
    repeat (first | refine T_seq ?_ | refine T_region ?_ | refine S_nil ?_ | refine S_pure tabOk rfl ?_)
    refine T_cut (ι := Bool) (fun b => b = true ↔ (dd % 6 = 0 ∨ dd % 6 = 1)) (fun b => [(8, bptr bb), (10, bptr xb), (11, .int .i64 nw), (40, .slice (some ⟨ab, off, none⟩) n2 c2), (41, .int .i64 (n2 : Int)), (42, .int .i64 (i : Int)), (13, .pointer (some ⟨b13, 0, none⟩)), (14, .slice la ln lc), (63, .int .u8 (dd % 6)), (91, .bool b)])
      (fun _ => [.blk b13 (.cells ⟨[.int .u8 dd, .int .u8 lt, .slice la ln0 lc, .slice ra rn rc]⟩ 40 (0, 0)) true, .rep (fun w => (boA bb f m gs last).at_ w G1 (.bool true)) G1 true, .rep (fun w => (rbA xb f m gs last).at_ w G2 (.bool true)) G2 true]) ?_ ?_
    · refine T_cond_dec rfl (fun h0 => ?_) (fun h0 => ?_)
      · repeat (first | refine pthen_normal ?_ | refine T_skip ?_)
        exact ⟨true, ⟨fun _ => .inl h0, fun _ => rfl⟩, (by
          refine Sub.cons rfl (Sub.cons rfl (Sub.cons rfl (Sub.cons rfl (Sub.cons rfl (Sub.cons rfl (Sub.cons rfl (Sub.cons rfl (Sub.cons rfl (Sub.cons ?_ Sub.nil)))))))))
          exact congrArg some (congrArg Value.bool (decide_eq_true h0))), fun w' hw => hw⟩
      · repeat (first | refine T_region ?_ | refine S_nil ?_ | refine S_pure tabOk rfl ?_)
        exact ⟨decide (dd % 6 = 1), ⟨fun h => .inr (of_decide_eq_true h), fun h => decide_eq_true (h.resolve_left h0)⟩, (by repeat (first | exact Sub.nil | refine Sub.cons rfl ?_)), fun w' hw => hw⟩
    intro b hb
    cases b with
    | true =>
      refine T_cond_t rfl ?_
      repeat (first | refine T_seq ?_ | refine T_region ?_ | refine S_pure tabOk rfl ?_)
      refine S_bsend 1 (L := L) rfl rfl hN1 (fun w1 g1 => Arg.old hLa' g1 (by repeat (first | exact new_nil | refine new_rx (by assumption) ?_ | refine new_cons (by first | assumption | omega) ?_)) hN1) (by omega) (by omega) (by omega) (by omega) (fun H1 hH1 => ⟨_, rfl, ?_⟩)
      repeat (first | refine S_pure tabOk rfl ?_)
      refine S_rbsend 2 (L := L) rfl rfl hN2 (fun w1 g1 => Arg.old hLa' g1 (by repeat (first | exact new_nil | refine new_rx (by assumption) ?_ | refine new_cons (by first | assumption | omega) ?_)) hN2) (by omega) (by omega) (by omega) (by omega) (fun H2 hH2 => ⟨_, rfl, ?_⟩)
      repeat (first | refine S_nil ?_ | refine S_pure tabOk rfl ?_)
      refine T_cond_dec rfl (fun h => absurd rfl h) (fun _ => ?_)
      repeat (first | refine pthen_normal ?_ | refine inb_normal ?_ | refine T_skip ?_)
      exact ⟨⟨0, (bSend f m gs last nw L).1, (bSend f m gs last nw L).2.1, nw, H1, H2⟩, hsend hH1 hH2, (by repeat (first | exact Sub.nil | refine Sub.cons rfl ?_)), fun w' hw => hw.less (by repeat (first | exact Less.nil | refine Less.keep ?_ | refine Less.dropB (by first | assumption | omega) ?_))⟩
    | false =>
    refine T_cond_f rfl ?_
    have hd01 : ¬ (dd % 6 = 0 ∨ dd % 6 = 1) := fun h => by have := hb.2 h; cases this
    repeat (first | refine T_seq ?_ | refine T_region ?_ | refine S_nil ?_ | refine S_pure tabOk rfl ?_)
    refine T_cond_dec rfl (fun hd2 => ?_) (fun hd2 => ?_)
    · repeat (first | refine T_seq ?_ | refine T_region ?_)
      refine S_new tabOk rfl (fun b15 hb15 => ?_)
      repeat (first | refine T_seq ?_ | refine T_region ?_ | refine S_nil ?_ | refine S_pure tabOk rfl ?_ | refine S_load tabOk 1 rfl rfl rfl ?_)
      have hRl := hRa.len
      have hRc := hRa.cap
      have hRm := hRa.maxn
      simp only [maxLen] at hRm
      have hRf : ∀ r ∈ R, okR r := (hRa.flat flat_run).2
      refine T_cut (ι := BpR) (fun q => ∀ k, q.Fs k → W0.heap.size ≤ k) (fun q => [(8, bptr bb), (10, bptr xb), (11, .int .i64 nw), (40, .slice (some ⟨ab, off, none⟩) n2 c2), (41, .int .i64 (n2 : Int)), (42, .int .i64 (i : Int)), (15, .pointer (some ⟨b15, 0, none⟩)), (16, .slice q.a6 (min rn 9) q.c6)])
        (fun q => [.rep (fun w => (setP (Mem (R.take (min rn 9))) (min rn 9)).at_ w q.Fs (setV q.a q.n q.c)) q.Fs false, .row W0.heap.size (.slice q.a6 (min rn 9) q.c6) 49 2 (min rn 9) (cellsR (R.take (min rn 9))), .blk b15 (.cells ⟨[.slice q.a q.n q.c]⟩ 44 (0, 0)) true, .rep (fun w => (boA bb f m gs last).at_ w G1 (.bool true)) G1 true, .rep (fun w => (rbA xb f m gs last).at_ w G2 (.bool true)) G2 true]) ?_ ?_
      · refine T_block ?_
        refine T_loop (ι := BpR) (fun q => [(8, bptr bb), (10, bptr xb), (11, .int .i64 nw), (40, .slice (some ⟨ab, off, none⟩) n2 c2), (41, .int .i64 (n2 : Int)), (42, .int .i64 (i : Int)), (15, .pointer (some ⟨b15, 0, none⟩)), (16, .slice q.a6 (min q.k 9) q.c6), (106, .slice ra rn rc), (107, .int .i64 (rn : Int)), (108, .int .i64 (q.k : Int))])
          (fun q => [.rep (fun w => (setP (Mem (R.take (min q.k 9))) (min q.k 9)).at_ w q.Fs (setV q.a q.n q.c)) q.Fs false, .row W0.heap.size (.slice q.a6 (min q.k 9) q.c6) 49 2 (min q.k 9) (cellsR (R.take (min q.k 9))), .blk b15 (.cells ⟨[.slice q.a q.n q.c]⟩ 44 (0, 0)) true, .rep (fun w => (boA bb f m gs last).at_ w G1 (.bool true)) G1 true, .rep (fun w => (rbA xb f m gs last).at_ w G2 (.bool true)) G2 true])
          (fun q => q.k ≤ rn ∧ ∀ k, q.Fs k → W0.heap.size ≤ k) (fun q => rn - q.k) ⟨0, none, 0, 0, fun _ => False, none, 0⟩ ⟨Nat.zero_le _, fun k hk => hk.elim⟩ (by repeat (first | exact Sub.nil | refine Sub.cons rfl ?_)) (fun w' hw => ?_) ?_
        · have h1 := (hw.less (o' := [.blk b15 (.cells ⟨[.slice none 0 0]⟩ 44 (0, 0)) true, .rep (fun w => (boA bb f m gs last).at_ w G1 (.bool true)) G1 true, .rep (fun w => (rbA xb f m gs last).at_ w G2 (.bool true)) G2 true]) (by repeat (first | exact Less.nil | refine Less.keep ?_ | refine Less.dropB (by first | assumption | omega) ?_))).nilRow 49 2
          exact h1.none (p := setP (Mem []) 0) (v := setV none 0 0) (fun w => setP_to (fun y => ⟨False.elim, fun h => mem_nil y h⟩) (Nat.zero_le _) setP_nil) false
        rintro ⟨k, sa, sn, sc, Fs, a6, c6⟩ ⟨hk, hFs⟩
        dsimp only at hk hFs ⊢
        repeat (first | refine T_seq ?_ | refine T_region ?_ | refine S_nil ?_ | refine S_pure tabOk rfl ?_)
        refine T_cond_dec rfl (fun hlt3 => ?_) (fun hge3 => ?_)
        rotate_left
        · have hke : k = rn := by omega
          subst hke
          repeat (first | refine pthen_normal ?_ | refine inb_hit ?_ | refine pthen_exit ?_ | refine T_exit ?_)
          exact ⟨⟨0, sa, sn, sc, Fs, a6, c6⟩, hFs, (by repeat (first | exact Sub.nil | refine Sub.cons rfl ?_)), fun w' hw => hw⟩
        have hkl : k < R.length := by omega
        have hokk := hRf _ (List.getElem_mem hkl)
        obtain ⟨rb, ro, cs, hrae, hrlt, _⟩ := hRa.get_ hkl
        subst hrae
        repeat (first | refine T_seq ?_ | refine T_region ?_ | refine T_block ?_ | refine pthen_normal ?_ | refine T_skip ?_ | refine S_pure tabOk rfl ?_)
        refine S_q (Q_idx (sz := 2) tabOk rfl rfl rfl rfl rfl rfl rfl (j := k) rfl (by omega)) ?_
        refine S_loadN tabOk (vs := encR R[k]) rfl rfl rfl (fun w' hw => run_cells (hRa.ext (hw.below (by repeat (first | exact new_nil | refine new_ro ?_ | refine new_rx (by assumption) ?_ | refine new_cons (by first | assumption | omega) ?_ | refine newrow hw 1 rfl (Nat.le_refl _) ?_)))) hkl) ?_
        refine S_new tabOk rfl (fun b18 hb18 => ?_)
        repeat (first | refine T_seq ?_ | refine T_region ?_ | refine S_nil ?_ | refine S_pure tabOk rfl ?_ | refine S_store tabOk 0 rfl rfl rfl rfl rfl rfl ?_)
        refine T_cond_dec rfl (fun h9 => ?_) (fun h9 => ?_)
        rotate_left
        · have e9 : min (k + 1) 9 = min k 9 := by omega
          repeat (first | refine T_region ?_ | refine S_nil ?_ | refine pthen_normal ?_ | refine inb_normal ?_ | refine T_skip ?_ | refine S_i64 tabOk rfl (by omega) ?_ | refine S_pure tabOk rfl ?_)
          exact ⟨⟨k + 1, sa, sn, sc, Fs, a6, c6⟩, ⟨by show k + 1 ≤ rn; omega, hFs⟩, by dsimp only; rw [e9]; repeat (first | exact Sub.nil | refine Sub.cons rfl ?_), fun w' hw => by dsimp only; rw [e9]; exact hw.less (by repeat (first | exact Less.nil | refine Less.keep ?_ | refine Less.dropB (by first | assumption | omega) ?_)), by show rn - (k + 1) < rn - k; omega⟩
        have e1 : min k 9 = k := by omega
        have e2 : min (k + 1) 9 = k + 1 := by omega
        rw [e1]
        skip
        refine T_asThen ?_
        refine T_drawB (by kernel_rfl) (by kernel_rfl) [5, 8, 9, 10, 11] (by kernel_rfl) (by kernel_rfl) (by kernel_rfl) (by kernel_rfl) [.blk b15 (.cells ⟨[.slice sa sn sc]⟩ 44 (0, 0)) false, .blk b18 (.cells ⟨encR R[k]⟩ 47 (0, 0)) false] (noex_blk (noex_blk noex_nil))
          [some (setV sa sn sc), some (.pointer (some ⟨b18, 0 + 0, none⟩)), some (.int .u64 R[k].1), some (.pointer (some ⟨b18, 0 + 1, none⟩)), some (.int .u64 R[k].2), none, some (.slice a6 k c6), some (.agg ⟨encR R[k]⟩), none, none, none, none]
          ⟨.inr ⟨_, _, rfl, rfl, fun w f => D_load tabOk 0 rfl rfl rfl D_last⟩, .inr ⟨_, _, rfl, rfl, fun w f => D_pure tabOk rfl D_last⟩, .inr ⟨_, _, rfl, rfl, fun w f => D_load tabOk 1 rfl rfl rfl D_last⟩, .inr ⟨_, _, rfl, rfl, fun w f => D_pure tabOk rfl D_last⟩, .inr ⟨_, _, rfl, rfl, fun w f => D_load tabOk 1 rfl rfl rfl D_last⟩, .inl rfl, .inr ⟨_, _, rfl, rfl, fun w f => D_pure tabOk rfl D_last⟩, .inr ⟨_, _, rfl, rfl, fun w f => D_load tabOk 1 rfl rfl rfl D_last⟩, .inl rfl, .inl rfl, .inl rfl, .inl rfl, trivial⟩ ?_
        have hspan : ∀ (w1 : World) (ol1 : OL) (i1 : Nat), Hp W0 w1 ol1 → getE ol1 i1 = some (.rep (fun w => (setP (Mem (R.take k)) k).at_ w Fs (setV sa sn sc)) Fs false) → Calls Try.prog 11 #[setV sa sn sc, .int .u64 R[k].1, .int .u64 R[k].2] w1 fun e w' => ∃ v, e = .returned v ∧ Below w1.heap.size w1 w' ∧ (setP (Mem (R.take (k + 1))) (k + 1)).at_ w' (BB W0 (fun _ => False) ol1) v := fun w1 ol1 i1 g1 h1 => (span_p R[k].1 R[k].2 w1 (fun k hk => BB_new g1 hk) (Vp.fact (p := setP (Mem (R.take k)) k) g1 i1 h1 fun k hk => .inr (hFs k hk)) (by omega) hokk.1 hokk.2).mono fun e w' ⟨r, e1, e2, e3⟩ => ⟨r, e1, e2, setP_to (fun x => by rw [mem_take_succ hkl]) (by omega) e3⟩
        refine SB_two (i := 5) (i2 := 8) [(115, setV sa sn sc), (117, .int .u64 R[k].1), (119, .int .u64 R[k].2)] [(122, .agg ⟨encR R[k]⟩)] (.inr (base_blk 3 rfl (base_blk 0 rfl base_nil))) (by kernel_rfl) rfl rfl (.cons rfl rfl (.cons rfl rfl (.cons rfl rfl .nil))) (.cons rfl rfl .nil) ?_ ?_
        · refine S_callR (setP (Mem (R.take (k + 1))) (k + 1)) (fun _ => False) rfl Try.call11 (fun w1 g1 => hspan w1 _ 1 g1 rfl) (fun v F7 w1 hF7 hv => ?_)
          obtain ⟨a7, n7, c7, rfl⟩ := setP_val hv
          refine S_nil ⟨_, rfl, (fun u h => by cases h), ?_⟩
          refine SB_one (i := 8) [(122, .agg ⟨encR R[k]⟩)] (.inr (base_blk 4 rfl (base_blk 1 rfl base_nil))) (by kernel_rfl) rfl (.cons rfl rfl .nil) ?_
          refine S_bslice tabOk rfl rfl rfl rfl rfl rfl rfl rfl rfl rfl rfl rfl (fun b23 hb23 => ?_)
          refine S_nil ⟨_, rfl, (fun u h => by cases h), ?_⟩
          refine SB_one (i := 9) [(121, .slice a6 k c6), (123, .slice (some ⟨b23, 0, none⟩) 1 1)] (.inr (base_blk 5 rfl (base_blk 2 rfl base_nil))) (by kernel_rfl) rfl (.cons rfl rfl (.cons rfl rfl .nil)) ?_
          refine S_append (ty := 0) tabOk 4 (k := 1) (news := cellsR [R[k]]) rfl rfl rfl rfl rfl rfl rfl rfl rfl (by decide) (fun w' hw => Sl.of_blk (hw.own _ (getE_mem (i := 0) rfl)) rfl (fun j u hu => by rw [Nat.zero_add]; exact hu)) (cellsR_one _) (by simp only [maxLen]; omega) (by show (_ + _) * 16 ≤ _; omega) rfl (fun A1 C1 hc3 hd3 => ⟨_, rfl, ?_⟩)
          rw [← cellsR_append, ← List.take_succ_eq_append_getElem hkl]
          refine S_nil ⟨_, rfl, (fun u h => by cases h), ?_⟩
          refine SB_one (i := 10) [(15, .pointer (some ⟨b15, 0, none⟩)), (120, setV a7 n7 c7)] (.inl (by kernel_rfl)) (by kernel_rfl) rfl (.cons rfl rfl (.cons rfl rfl .nil)) ?_
          refine S_store tabOk 5 rfl rfl rfl rfl rfl rfl ?_
          refine S_nil ⟨_, rfl, (fun u h => by cases h), ?_⟩
          refine SB_one (i := 11) [(124, .slice A1 (k + 1) C1)] (.inl (by kernel_rfl)) (by kernel_rfl) rfl (.cons rfl rfl .nil) ?_
          refine S_pure tabOk rfl ?_
          refine S_nil ⟨_, rfl, (fun u h => by cases h), ?_⟩
          refine SB_end [(8, bptr bb), (10, bptr xb), (11, .int .i64 nw), (40, .slice (some ⟨ab, off, none⟩) n2 c2), (41, .int .i64 (n2 : Int)), (42, .int .i64 (i : Int)), (15, .pointer (some ⟨b15, 0, none⟩)), (16, .slice A1 (k + 1) C1), (106, .slice (some ⟨rb, ro, none⟩) rn rc), (107, .int .i64 (rn : Int)), (108, .int .i64 (k : Int))] (by repeat (first | exact SubD.nil | refine SubD.cons rfl ?_)) ?_
          repeat (first | refine T_region ?_ | refine S_nil ?_ | refine pthen_normal ?_ | refine inb_normal ?_ | refine S_i64 tabOk rfl (by omega) ?_ | refine S_pure tabOk rfl ?_)
          exact ⟨⟨k + 1, a7, n7, c7, F7, A1, C1⟩, ⟨by show k + 1 ≤ rn; omega, fun j hj => (hF7 j hj).resolve_left id⟩, by dsimp only; rw [e2]; repeat (first | exact Sub.nil | refine Sub.cons rfl ?_), fun w' hw => by dsimp only; rw [e2]; exact (hw.pm [1, 4, 5, 6, 7, 0, 2, 3] rfl rfl rfl).less (by repeat (first | exact Less.nil | refine Less.keep ?_ | refine Less.dropR ?_ | refine Less.dropB (by first | assumption | omega) ?_)), by show rn - (k + 1) < rn - k; omega⟩

        · refine S_bslice tabOk rfl rfl rfl rfl rfl rfl rfl rfl rfl rfl rfl rfl (fun b23 hb23 => ?_)
          refine S_nil ⟨_, rfl, (fun u h => by cases h), ?_⟩
          refine SB_one (i := 5) [(115, setV sa sn sc), (117, .int .u64 R[k].1), (119, .int .u64 R[k].2)] (.inr (base_blk 4 rfl (base_blk 1 rfl base_nil))) (by kernel_rfl) rfl (.cons rfl rfl (.cons rfl rfl (.cons rfl rfl .nil))) ?_
          refine S_callR (setP (Mem (R.take (k + 1))) (k + 1)) (fun _ => False) rfl Try.call11 (fun w1 g1 => hspan w1 _ 2 g1 rfl) (fun v F7 w1 hF7 hv => ?_)
          obtain ⟨a7, n7, c7, rfl⟩ := setP_val hv
          refine S_nil ⟨_, rfl, (fun u h => by cases h), ?_⟩
          refine SB_one (i := 9) [(121, .slice a6 k c6), (123, .slice (some ⟨b23, 0, none⟩) 1 1)] (.inr (base_blk 5 rfl (base_blk 2 rfl base_nil))) (by kernel_rfl) rfl (.cons rfl rfl (.cons rfl rfl .nil)) ?_
          refine S_append (ty := 0) tabOk 4 (k := 1) (news := cellsR [R[k]]) rfl rfl rfl rfl rfl rfl rfl rfl rfl (by decide) (fun w' hw => Sl.of_blk (hw.own _ (getE_mem (i := 1) rfl)) rfl (fun j u hu => by rw [Nat.zero_add]; exact hu)) (cellsR_one _) (by simp only [maxLen]; omega) (by show (_ + _) * 16 ≤ _; omega) rfl (fun A1 C1 hc3 hd3 => ⟨_, rfl, ?_⟩)
          rw [← cellsR_append, ← List.take_succ_eq_append_getElem hkl]
          refine S_nil ⟨_, rfl, (fun u h => by cases h), ?_⟩
          refine SB_one (i := 10) [(15, .pointer (some ⟨b15, 0, none⟩)), (120, setV a7 n7 c7)] (.inl (by kernel_rfl)) (by kernel_rfl) rfl (.cons rfl rfl (.cons rfl rfl .nil)) ?_
          refine S_store tabOk 5 rfl rfl rfl rfl rfl rfl ?_
          refine S_nil ⟨_, rfl, (fun u h => by cases h), ?_⟩
          refine SB_one (i := 11) [(124, .slice A1 (k + 1) C1)] (.inl (by kernel_rfl)) (by kernel_rfl) rfl (.cons rfl rfl .nil) ?_
          refine S_pure tabOk rfl ?_
          refine S_nil ⟨_, rfl, (fun u h => by cases h), ?_⟩
          refine SB_end [(8, bptr bb), (10, bptr xb), (11, .int .i64 nw), (40, .slice (some ⟨ab, off, none⟩) n2 c2), (41, .int .i64 (n2 : Int)), (42, .int .i64 (i : Int)), (15, .pointer (some ⟨b15, 0, none⟩)), (16, .slice A1 (k + 1) C1), (106, .slice (some ⟨rb, ro, none⟩) rn rc), (107, .int .i64 (rn : Int)), (108, .int .i64 (k : Int))] (by repeat (first | exact SubD.nil | refine SubD.cons rfl ?_)) ?_
          repeat (first | refine T_region ?_ | refine S_nil ?_ | refine pthen_normal ?_ | refine inb_normal ?_ | refine S_i64 tabOk rfl (by omega) ?_ | refine S_pure tabOk rfl ?_)
          exact ⟨⟨k + 1, a7, n7, c7, F7, A1, C1⟩, ⟨by show k + 1 ≤ rn; omega, fun j hj => (hF7 j hj).resolve_left id⟩, by dsimp only; rw [e2]; repeat (first | exact Sub.nil | refine Sub.cons rfl ?_), fun w' hw => by dsimp only; rw [e2]; exact (hw.pm [0, 4, 5, 6, 7, 1, 2, 3] rfl rfl rfl).less (by repeat (first | exact Less.nil | refine Less.keep ?_ | refine Less.dropR ?_ | refine Less.dropB (by first | assumption | omega) ?_)), by show rn - (k + 1) < rn - k; omega⟩

      rintro ⟨_, sa, sn, sc, Fs, a6, c6⟩ hFs
      dsimp only at hFs ⊢
      obtain ⟨rl, hrl⟩ : ∃ rl, rl = R.take (min rn 9) := ⟨_, rfl⟩
      obtain ⟨rm, hrm⟩ : ∃ rm, rm = min rn 9 := ⟨_, rfl⟩
      rw [← hrl, ← hrm]
      have hrll : rl.length = rm := by rw [hrl, hrm, List.length_take]; omega
      have hrlf : ∀ r ∈ rl, okR r := fun r hr => hRf r (List.mem_of_mem_take (hrl ▸ hr))
      repeat (first | refine T_seq ?_ | refine T_region ?_ | refine S_pure tabOk rfl ?_ | refine S_load tabOk 2 rfl rfl rfl ?_)
      refine S_btake 3 (s := memB rl) (Bd := rm) rfl rfl hN1 (fun w1 g1 => SArg.rep 0 3 g1 rfl rfl rfl fun x => memB_iff.symm) (by omega) (fun A3 C3 H1 hH1 => ⟨_, rfl, ?_⟩)
      repeat (first | refine S_pure tabOk rfl ?_)
      refine S_rbtake 5 (rl := rl) (s := memB rl) rfl rfl hN2 (fun w1 g1 => ⟨fun k => (Value.slice a6 rm c6).ownBlock = some k, SlR.of_row flat_run (g1.own (.row W0.heap.size (.slice a6 rm c6) 49 2 rm (cellsR rl)) (getE_mem (i := 2) rfl)) hrll hrlf (fun k _ hk => hk), fun k hk hF => g1.dis 2 5 rfl rfl rfl rfl hk hF⟩) (by omega) (fun x => memB_iff) (fun A4 C4 H2 hH2 => ⟨_, rfl, ?_⟩)
      obtain ⟨U, hU⟩ : ∃ U, U = sortU ((bNums gs).filter (memB rl)) := ⟨_, rfl⟩
      have hUl : U.length ≤ 60000 := by
        have h1 := @sortU_len ((bNums gs).filter (memB rl))
        have h2 := List.length_filter_le (memB rl) (bNums gs)
        rw [hU]
        omega
      rw [← hU]
      refine S_eq64 (L := U) (M := U) rfl (fun w1 h1 => Sl.of_own (h1.own _ (getE_mem (i := 1) rfl))) (fun w1 h1 => Sl.of_own (h1.own _ (getE_mem (i := 0) rfl))) (fun _ _ => by simp only [maxLen]; omega) ?_
      refine S_re 132 (v' := .bool true) rfl (congrArg Value.bool (decide_eq_true rfl)) ?_
      repeat (first | refine S_nil ?_ | refine S_pure tabOk rfl ?_)
      refine T_cond_f rfl ?_
      repeat (first | refine pthen_normal ?_ | refine inb_normal ?_ | refine T_skip ?_)
      refine ⟨⟨0, rmB gs (memB rl), last, nw, H1, H2⟩, ⟨?_, ?_, by dsimp only; omega, fun g hg => ?_, hH1, hH2⟩, (by repeat (first | exact Sub.nil | refine Sub.cons rfl ?_)), fun w' hw => hw.less (by repeat (first | exact Less.nil | refine Less.keep ?_ | refine Less.dropR ?_ | refine Less.dropB (by first | assumption | omega) ?_ | refine Less.dropW (Nat.le_refl _) ?_))⟩
      · have := rmB_lenQ gs (memB rl)
        dsimp only
        omega
      · have := List.length_filter_le (fun n => !memB rl n) (bNums gs)
        dsimp only
        rw [nums_rm]
        omega
      · obtain ⟨x, hx, rfl⟩ := rmB_memQ hg
        have := htr x hx
        show x.tries ≤ _
        omega
    repeat (first | refine T_seq ?_ | refine T_region ?_ | refine S_nil ?_ | refine S_pure tabOk rfl ?_)
    refine T_cond_dec rfl (fun hd5 => ?_) (fun hd5 => ?_)
    · repeat (first | refine T_seq ?_ | refine T_region ?_ | refine S_pure tabOk rfl ?_)
      refine S_callT 1 rfl Try.call15 rfl (fun w1 g1 => (bo_clear (g1.own _ (getE_mem (i := 1) rfl)).1 (g1.own _ (getE_mem (i := 1) rfl)).2.2).mono fun e w' ⟨he, F', k1, k2, k3⟩ => ⟨_, _, F', he, k3, k1, k2, _, rfl, ?_⟩)
      have hF1N : ∀ k, F' k → W0.heap.size ≤ k := fun k hk => (k2 k hk).elim (hN1 k) (Nat.le_trans g1.size)
      repeat (first | refine S_nil ?_ | refine S_pure tabOk rfl ?_ | refine T_region_any ?_)
      refine S_toX (ι := List GX × Option Addr × Nat × (Nat → Prop)) (fun q => BOk last gs ∧ W0.heap.size ≤ xb ∧ (∀ k, (Value.slice q.2.1 q.1.length q.2.2.1).ownBlock = some k → W0.heap.size ≤ k) ∧ ∀ k, q.2.2.2 k → W0.heap.size ≤ k)
        (fun q => rbL 0 xb f m last q.1 q.2.1 q.2.2.1 q.2.2.2 false ++ [.rep (fun w => (boA bb f m [] last).at_ w F' (.bool true)) F' true]) (fun w hw => ?_) ?_
      · obtain ⟨K, a, c, G, ⟨_, _, hok, _⟩, hst, hcov⟩ := rb_open (hw.own _ (getE_mem (i := 2) rfl)).1
        have hcov2 : ∀ e ∈ rbL 0 xb f m last K a c G false, ∀ k, e.has k → W0.heap.size ≤ k := fun e he k hk => hN2 k (hcov e he k hk)
        exact ⟨(K, a, c, G), ⟨hok, hcov2 _ (getE_mem (i := 0) rfl) xb rfl, hcov2 _ (getE_mem (i := 1) rfl), hcov2 _ (getE_mem (i := 2) rfl)⟩, Hp.unpack ((hw.pm [2, 1, 0] rfl rfl rfl).less (o' := [.rep (fun w => (rbA xb f m gs last).at_ w G2 (.bool true)) G2 true, .rep (fun w => (boA bb f m [] last).at_ w F' (.bool true)) F' true]) (by repeat (first | exact Less.nil | refine Less.keep ?_ | refine Less.dropB (by first | assumption | omega) ?_))) hst hcov hN2⟩
      rintro ⟨K, a, c, G⟩ ⟨hok, hxN, hrN, hGN⟩
      dsimp only at hrN hGN ⊢
      refine S_store tabOk 0 rfl rfl rfl rfl rfl rfl ?_
      refine S_toX (ι := Nat → Prop) (fun F2 => ∀ k, F2 k → W0.heap.size ≤ k) (fun F2 => [.rep (fun w => (boA bb f m [] last).at_ w F' (.bool true)) F' true, .rep (fun w => (rbA xb f m [] last).at_ w F2 (.bool true)) F2 true]) (fun w hw => ?_) (fun H2 hH2 => ?_)
      · have h1 := ((hw.nilRow 99 4).none (p := okG []) (v := .bool true) (fun w p hp => by cases hp) false).pm [2, 1, 0, 3, 5, 4] rfl rfl rfl
        obtain ⟨F3, g1, g2, g3⟩ := rb_close (base := W0.heap.size) (F0 := fun _ => False) (K := []) (a := none) (c := 0) (G := fun _ => False) (f := f) (m := m) (last := last) (xb := xb) (gs := []) (ol := [.rep (fun w => (boA bb f m [] last).at_ w F' (.bool true)) F' true]) [.row 0 (.slice a K.length c) 99 4 K.length (cellsG K)] (h1.less (by repeat (first | exact Less.nil | refine Less.keep ?_ | refine Less.dropR ?_))) rfl hp (BOk.nil hok.lst) (fun g hg => by cases hg) (fun k hk => hk.elim) (fun e he k hk => by
          rw [List.mem_singleton] at he
          subst he
          exact hF1N k hk) (fun e he => by
          rw [List.mem_singleton] at he
          subst he
          exact .inl rfl) (rb_cov (.inr hxN) (fun k hk => by cases hk) fun k hk => hk.elim) (fun e he => by
          rw [List.mem_singleton] at he
          subst he
          exact ⟨rfl, fun k hk => .inr (hrN k hk)⟩)
        exact ⟨F3, fun k hk => (g2 k hk).resolve_left id, g3.pm [1, 0] rfl rfl rfl⟩
      repeat (first | refine S_nil ?_ | refine pthen_normal ?_ | refine inb_normal ?_)
      exact ⟨⟨0, [], last, nw, F', H2⟩, ⟨Nat.zero_le _, Nat.zero_le _, by dsimp only; omega, (fun g hg => by cases hg), hF1N, hH2⟩, (by repeat (first | exact Sub.nil | refine Sub.cons rfl ?_)), fun w' hw => hw⟩
    · repeat (first | refine T_seq ?_ | refine T_region ?_ | refine S_pure tabOk rfl ?_)
      refine S_bdue 1 rfl rfl hN1 (by omega) htr' (fun d1 dn c9 xs Fv H1 hFv hH1 hl1 => ⟨_, rfl, ?_⟩)
      repeat (first | refine S_pure tabOk rfl ?_)
      refine S_rbdue 3 rfl rfl hN2 (by omega) htr' (fun d2 dm c10 ys Gv H2 hGv hH2 hl2 => ⟨_, rfl, ?_⟩)
      obtain ⟨DL, hDL⟩ : ∃ DL, DL = dueL gs nw := ⟨_, rfl⟩
      rw [← hDL] at hl1 hl2 ⊢
      obtain ⟨rfl, hxl⟩ := hl1
      obtain ⟨rfl, hyl⟩ := hl2
      have hDb : DL.length ≤ 50 := by
        have h1 : (dueL gs nw).length ≤ gs.length := by unfold dueL; rw [List.length_map]; exact dueI_len
        rw [← hDL] at h1
        omega
      repeat (first | refine T_seq ?_ | refine T_region ?_ | refine S_nil ?_ | refine S_pure tabOk rfl ?_)
      refine T_cond_dec rfl (fun h => absurd rfl h) (fun _ => ?_)
      repeat (first | refine T_seq ?_ | refine T_region ?_ | refine S_nil ?_ | refine pthen_normal ?_ | refine T_skip ?_ | refine S_pure tabOk rfl ?_)
      refine T_asThen ?_
      refine T_cut (ι := Unit) (fun _ => True) (fun _ => [(8, bptr bb), (10, bptr xb), (11, .int .i64 nw), (40, .slice (some ⟨ab, off, none⟩) n2 c2), (41, .int .i64 (n2 : Int)), (42, .int .i64 (i : Int))])
        (fun _ => [.rep (fun w => (boA bb f m (dueG f m nw gs) last).at_ w H1 (.bool true)) H1 true, .rep (fun w => (rbA xb f m (dueG f m nw gs) last).at_ w H2 (.bool true)) H2 true]) ?_ ?_
      · refine T_block ?_
        refine T_loop (ι := Nat) (fun j => [(8, bptr bb), (10, bptr xb), (11, .int .i64 nw), (40, .slice (some ⟨ab, off, none⟩) n2 c2), (41, .int .i64 (n2 : Int)), (42, .int .i64 (i : Int)), (19, .slice d1 DL.length c9), (20, .slice d2 DL.length c10), (76, .int .i64 (DL.length : Int)), (77, .int .i64 (j : Int))])
          (fun j => [.rep (fun w => (LLx d2 DL.length c10 ys DL).at_ w Gv (.bool true)) Gv false, .rep (fun w => (LLx d1 DL.length c9 xs DL).at_ w Fv (.bool true)) Fv false, .rep (fun w => (boA bb f m (dueG f m nw gs) last).at_ w H1 (.bool true)) H1 true, .rep (fun w => (rbA xb f m (dueG f m nw gs) last).at_ w H2 (.bool true)) H2 true]) (fun j => j ≤ DL.length) (fun j => DL.length - j) 0 (Nat.zero_le _) (by repeat (first | exact Sub.nil | refine Sub.cons rfl ?_)) (fun w' hw => hw.less (by repeat (first | exact Less.nil | refine Less.keep ?_ | refine Less.dropB (by first | assumption | omega) ?_))) ?_
        intro j hj
        repeat (first | refine T_seq ?_ | refine T_region ?_ | refine S_nil ?_ | refine S_pure tabOk rfl ?_)
        refine T_cond_dec rfl (fun hlt => ?_) (fun hge => ?_)
        rotate_left
        · repeat (first | refine pthen_normal ?_ | refine inb_hit ?_ | refine pthen_exit ?_ | refine T_exit ?_)
          exact ⟨(), trivial, (by repeat (first | exact Sub.nil | refine Sub.cons rfl ?_)), fun w' hw => hw.less (by repeat (first | exact Less.nil | refine Less.keep ?_ | refine Less.dropR ?_))⟩
        have hin : j < DL.length := by omega
        obtain ⟨l', hl'⟩ : ∃ l', DL[j]? = some l' := ⟨_, List.getElem?_eq_getElem hin⟩
        obtain ⟨⟨xa, xn, xc⟩, hx⟩ : ∃ x, xs[j]? = some x := ⟨_, List.getElem?_eq_getElem (by omega)⟩
        obtain ⟨⟨ya, yn, yc⟩, hy⟩ : ∃ x, ys[j]? = some x := ⟨_, List.getElem?_eq_getElem (by omega)⟩
        refine T_kn (X := (∃ b off, d1 = some ⟨b, off, none⟩) ∧ (∃ b off, d2 = some ⟨b, off, none⟩)) (fun w1 g1 => ⟨LLx.addr (g1.own _ (getE_mem (i := 1) rfl)).1 (by omega), LLx.addr (g1.own _ (getE_mem (i := 0) rfl)).1 (by omega)⟩) (fun ⟨⟨b5, o5, e5⟩, ⟨b6, o6, e6⟩⟩ => ?_)
        subst e5 e6
        repeat (first | refine T_draw (by kernel_rfl) (by kernel_rfl) ?_ | refine D_pure tabOk rfl ?_ | refine T_seq ?_ | refine T_region ?_ | refine T_block ?_ | refine S_nil ?_ | refine pthen_normal ?_ | refine T_skip ?_ | refine S_pure tabOk rfl ?_)
        refine D_q (Q_idx (sz := 1) tabOk rfl rfl rfl rfl rfl rfl rfl (j := j) rfl hin) ?_
        refine D_load1 tabOk (v := .slice xa xn xc) rfl rfl (fun w1 h1 => by rw [Nat.mul_one]; exact LLx.cell (h1.own _ (getE_mem (i := 1) rfl)).1 hx) ?_
        repeat (first | refine D_pure tabOk rfl ?_)
        refine D_q (Q_idx (sz := 1) tabOk rfl rfl rfl rfl rfl rfl rfl (j := j) rfl hin) ?_
        refine D_load1 tabOk (v := .slice ya yn yc) rfl rfl (fun w1 h1 => by rw [Nat.mul_one]; exact LLx.cell (h1.own _ (getE_mem (i := 0) rfl)).1 hy) ?_
        refine D_callx rfl Try.call12 (v := .bool true) (fun w' vs hw' h => by
          obtain ⟨u1, _, rfl, rfl, u2, _, rfl, rfl, rfl⟩ := h
          rw [← show decide (l' = l') = true from decide_eq_true rfl]
          exact equal64_ok _ _ _ _ _ _ l' l' w' (LLx.get (hw'.own _ (getE_mem (i := 1) rfl)).1 hx hl').ints.sl (LLx.get (hw'.own _ (getE_mem (i := 0) rfl)).1 hy hl').ints.sl (LLx.get (hw'.own _ (getE_mem (i := 1) rfl)).1 hx hl').maxn) ?_
        repeat (first | refine D_all rfl ?_ | refine D_pure tabOk rfl ?_)
        refine T_cond_f rfl ?_
        repeat (first | refine T_region ?_ | refine S_nil ?_ | refine pthen_normal ?_ | refine inb_normal ?_ | refine T_skip ?_ | refine S_i64 tabOk rfl (by omega) ?_ | refine S_pure tabOk rfl ?_)
        exact ⟨j + 1, hin, (by repeat (first | exact Sub.nil | refine Sub.cons rfl ?_)), fun w' hw => hw, by omega⟩
      intro _ _
      repeat (first | refine pthen_normal ?_ | refine inb_normal ?_)
      refine ⟨⟨0, dueG f m nw gs, last, nw, H1, H2⟩, ⟨?_, ?_, by dsimp only; omega, fun g hg => ?_, hH1, hH2⟩, (by repeat (first | exact Sub.nil | refine Sub.cons rfl ?_)), fun w' hw => hw⟩
      · dsimp only
        unfold dueG
        rw [List.length_map]
        omega
      · dsimp only
        rw [dueG_numsQ]
        omega
      · dsimp only at hg
        unfold dueG at hg
        obtain ⟨x, hx, rfl⟩ := List.mem_map.1 hg
        have := htr x hx
        split
        · dsimp only; omega
        · omega
  rintro ⟨_, gs', last', _, H1, H2⟩ ⟨hgs', hnums', hlast', htr2, hH1, hH2⟩
  dsimp only at hgs' hnums' hlast' htr2 hH1 hH2 ⊢
  repeat (first | refine T_seq ?_ | refine T_region ?_ | refine S_pure tabOk rfl ?_)
  refine S_callq (v := .bool true) rfl Try.call18 (fun w1 g1 => like13_ok (g1.own _ (getE_mem (i := 0) rfl)).1 (g1.own _ (getE_mem (i := 1) rfl)).1) ?_
  repeat (first | refine S_pure tabOk rfl ?_)
  refine S_callq (v := .int .i64 (bTries gs' 9223372036854775808)) rfl Try.call19 (fun w1 g1 => bo_tries (g1.own _ (getE_mem (i := 0) rfl)).1 _) ?_
  repeat (first | refine S_pure tabOk rfl ?_)
  by_cases hbt : bTries gs' 9223372036854775808 = 0
  · refine S_re 149 (v' := .bool false) rfl (congrArg Value.bool (decide_eq_false fun h => h hbt)) ?_
    repeat (first | refine S_nil ?_ | refine S_pure tabOk rfl ?_ | refine S_pass rfl rfl rfl ?_)
    refine T_cond_f rfl ?_
    repeat (first | refine T_region ?_ | refine S_nil ?_ | refine pthen_normal ?_ | refine inb_normal ?_ | refine T_skip ?_ | refine S_i64 tabOk rfl (by omega) ?_ | refine S_pure tabOk rfl ?_)
    exact ⟨⟨i + 1, gs', last', nw, H1, H2⟩, ⟨by show i + 1 ≤ n2; omega, by show i + 1 ≤ 50; omega, by dsimp only; omega, ⟨hgs', hnums', hlast', htr2, hH1, hH2⟩⟩, (by repeat (first | exact Sub.nil | refine Sub.cons rfl ?_)), fun w' hw => hw, by show n2 - (i + 1) < n2 - i; omega⟩
  · refine S_re 149 (v' := .bool true) rfl (congrArg Value.bool (decide_eq_true hbt)) ?_
    have hin : (9223372036854775808 : Int) ∈ bNums gs' := Classical.byContradiction fun h => hbt (by unfold bTries; rw [bGet_none.2 h])
    repeat (first | refine S_pure tabOk rfl ?_)
    refine S_callq (v := .bool true) rfl Try.call20 (fun w1 g1 => by
      rw [← decide_eq_true hin]
      exact bo_has (g1.own _ (getE_mem (i := 0) rfl)).1 _) ?_
    repeat (first | refine S_nil ?_ | refine S_pure tabOk rfl ?_)
    refine T_cond_f rfl ?_
    repeat (first | refine T_region ?_ | refine S_nil ?_ | refine pthen_normal ?_ | refine inb_normal ?_ | refine T_skip ?_ | refine S_i64 tabOk rfl (by omega) ?_ | refine S_pure tabOk rfl ?_)
    exact ⟨⟨i + 1, gs', last', nw, H1, H2⟩, ⟨by show i + 1 ≤ n2; omega, by show i + 1 ≤ 50; omega, by dsimp only; omega, ⟨hgs', hnums', hlast', htr2, hH1, hH2⟩⟩, (by repeat (first | exact Sub.nil | refine Sub.cons rfl ?_)), fun w' hw => hw, by show n2 - (i + 1) < n2 - i; omega⟩
end Go.Proofs.Ytidhpofcofknhaa
