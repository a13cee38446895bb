/-
  The walk of AlarmPlays. Conditions: each theorem's own.
-/
import Derived.Test.YtggnhcgmeibihaaAlN
namespace Go.Proofs.Ytggnhcgmeibihaa
open Go Go.RowKit
set_option linter.unusedVariables false

theorem LS.rest {l : List DE} (h : LS l) (now : Int) : LS (dRest l now) := by
  have hs : List.Sublist (dRest l now) l := List.dropWhile_sublist _
  exact ⟨h.srt.sublist hs, h.ids.sublist (hs.map _), fun p hp => h.fit p (hs.subset hp)⟩
theorem dRest_len (l : List DE) (now : Int) : (dRest l now).length ≤ l.length := (List.dropWhile_sublist _).length_le
theorem dOut_len (l : List DE) (now : Int) : (dOut l now).length ≤ l.length := by
  unfold dOut
  rw [List.length_map]
  exact (List.takeWhile_sublist _).length_le
theorem FindI.at_ {l : List DE} {id k : Int} (h : FindI l id k) (hL : LS l) : (dAt l id = none ∧ k = -1) ∨ ∃ j : Nat, ∃ hj : j < l.length, k = j ∧ dAt l id = some l[j].2 := by
  rcases h with ⟨h1, h2⟩ | ⟨j, hj, h1, h2⟩
  · exact .inl ⟨dAt_none h2, h1⟩
  · refine .inr ⟨j, hj, h1, dAt_some hL.ids ?_⟩
    rw [← h2]
    exact List.getElem_mem hj
theorem FindI.is_ {l : List DE} {id k : Int} (h : FindI l id k) (hL : LS l) : (dAt l id).isSome = decide (0 ≤ k) := by
  rcases h.at_ hL with ⟨h1, h2⟩ | ⟨j, hj, h1, h2⟩
  · rw [h1, h2]; rfl
  · rw [h2, h1]
    exact (decide_eq_true (by omega)).symm
theorem rclear_v {a : Option Addr} {n c : Nat} {l : List DE} (id : Int) {A : Nat → Prop} (w : World) (hx : SlR Rde w A a n c l) (hn : n ≤ 1000000) : Calls Try.prog 20 #[.slice a n c, .int .u64 id] w fun e w' => ∃ v, e = .returned v ∧ Below w.heap.size w w' ∧ ((Rslice Rde).vp (dClear l id)).at_ w' (fun k => w.heap.size ≤ k) v :=
  (rclear_ok id w hx hn).mono fun e w' ⟨a', c', e1, e2, e3⟩ => ⟨_, e1, e2, (de_row e3 (fun z hz => (hx.flat flat_de).2 z (List.mem_filter.1 hz).1) fun k hk => hk).val⟩
theorem rset12_v {a : Option Addr} {n c : Nat} {l : List DE} (id tm : Int) {A : Nat → Prop} (w : World) (hx : SlR Rde w A a n c l) (hn : n ≤ 1000000) (h1 : Fits .u64 id) (h2 : Fits .i64 tm) : Calls Try.prog 23 #[.slice a n c, .int .u64 id, .int .i64 tm] w fun e w' => ∃ v, e = .returned v ∧ Below w.heap.size w w' ∧ ((Rslice Rde).vp (dSet l id tm)).at_ w' (fun k => w.heap.size ≤ k) v :=
  (rset12_ok id tm w hx hn).mono fun e w' ⟨a', c', e1, e2, e3⟩ => ⟨_, e1, e2, (de_row e3 (fun z hz => by
    rcases dSet_mem.1 hz with rfl | ⟨hz, _⟩
    · exact ⟨h1, h2⟩
    · exact (hx.flat flat_de).2 z hz) fun k hk => hk).val⟩
theorem Vtup2_fst {p q : Vp} {w : World} {A : Nat → Prop} {a b : Value} (h : (Vtup2 p q).at_ w A (.tuple #[a, b])) : p.at_ w A a := by
  obtain ⟨a', b', e, h1, h2⟩ := h
  cases e
  exact h1
theorem Vtup2_snd {p q : Vp} {w : World} {A : Nat → Prop} {a b : Value} (h : (Vtup2 p q).at_ w A (.tuple #[a, b])) : q.at_ w A b := by
  obtain ⟨a', b', e, h1, h2⟩ := h
  cases e
  exact h2
structure PlI where
  i : Nat
  l : List DE
  Fa : Nat → Prop
  a : Option Addr
  c : Nat
  F : Nat → Prop
structure PlP (n N : Nat) (x : PlI) : Prop where
  le : x.i ≤ n
  le80 : x.i ≤ 80
  s : LS x.l
  len : x.l.length ≤ x.i
  na : ∀ k, x.Fa k → N ≤ k
  nn : 0 < x.l.length → ∃ b off, x.a = some ⟨b, off, none⟩
set_option maxHeartbeats 4000000 in
theorem alarmPlays_walk (v : Value) (acts : List (Int × (Int × Int))) (W : World) (h : (Rslice Rac).val W TT v acts) :
    Calls Try.prog 5 #[v] W fun e w' => e = .returned (.bool true) ∧ Below W.heap.size W w' := by
  obtain ⟨a, n, c, rfl, hx⟩ := SlR.form h
  have hl := hx.len
  have hmx := hx.max
  have hcp := hx.cap
  simp only [maxLen] at hmx
  refine enter1 Try.func5 rfl rfl (Hp.refl W) ?_
  repeat (first | refine T_seq ?_ | refine T_region ?_ | refine S_nil ?_ | refine S_pure tabOk rfl ?_)
  refine S_callq (v := .bool true) rfl Try.call12 (fun w1 h1 => awake12_ok w1) ?_
  repeat (first | refine T_seq ?_ | refine T_region ?_ | refine S_nil ?_ | refine pthen_normal ?_ | refine T_skip ?_ | refine T_cond_f rfl ?_ | refine S_pure tabOk rfl ?_)
  refine S_callN rfl Try.call13 (fun w1 h1 => (al_new w1).mono fun e w' ⟨pa, Fa0, he, h2, h3⟩ => ⟨_, _, Fa0, he, h2, h3, fun hNa0 => ?_⟩)
  repeat (first | refine T_seq ?_ | refine T_region ?_ | refine T_block ?_ | refine S_nil ?_ | refine S_pure tabOk rfl ?_)
  refine T_loop (ι := PlI) (fun i => [(0, .slice a n c), (3, aptr pa), (4, .slice i.a i.l.length i.c), (17, .slice a n c), (18, .int .i64 (n : Int)), (19, .int .i64 (i.i : Int))])
    (fun i => [.rep (fun w => (alA pa i.l).at_ w i.Fa (.bool true)) i.Fa true, .rep (fun w => ((Rslice Rde).vp i.l).at_ w i.F (.slice i.a i.l.length i.c)) i.F false])
    (PlP n W.heap.size) (fun i => n - i.i) ⟨0, [], Fa0, none, 0, fun _ => False⟩ ⟨Nat.zero_le _, Nat.zero_le _, LS.nil, Nat.le_refl _, hNa0, fun h => absurd h (Nat.lt_irrefl 0)⟩ (by repeat (first | exact Sub.nil | refine Sub.cons rfl ?_)) (fun w' hw => (hw.addN (v := .slice none 0 0) ((Rslice Rde).vp []) fun w => SlR.nil_.val).toEnd rfl) ?_
  rintro ⟨i, l, Fa, a1, c1, F1⟩ ⟨hi, hi80, hL, hlen, hNa, hnn⟩
  dsimp only at hi hi80 hL hlen hNa hnn ⊢
  repeat (first | refine T_seq ?_ | refine T_region ?_ | refine S_nil ?_ | refine S_pure tabOk rfl ?_)
  refine T_cond_dec rfl (fun h => ?_) (fun h => ?_)
  · have hi' : i < acts.length := by omega
    have hok := ac_ok hx hi'
    have hok1 := fits_u8 hok.1
    have hok3 := (fits_i64 hok.2.2).2
    obtain ⟨bb, off, cs, rfl, hlt, _⟩ := hx.get_ hi'
    repeat (first | refine T_seq ?_ | refine pthen_normal ?_ | refine T_skip ?_)
    refine T_block ?_
    repeat (first | refine T_seq ?_ | refine T_region ?_ | refine S_pure tabOk rfl ?_)
    refine S_q (Q_idx (sz := 3) tabOk rfl rfl rfl rfl rfl rfl rfl rfl (j := i) (by omega)) ?_
    refine S_loadN tabOk (vs := encC acts[i]) rfl rfl rfl (fun w' hw => ac_cells (hx.ext (hw.below (by repeat (first | exact new_nil | refine new_ro ?_ | refine new_rx (by assumption) ?_)))) hi') ?_
    refine S_new tabOk rfl (fun b9 hb9 => ?_)
    repeat (first | refine T_seq ?_ | refine T_region ?_ | refine S_nil ?_ | refine S_pure tabOk rfl ?_ | refine S_store tabOk 0 rfl rfl rfl rfl rfl rfl ?_)
    refine T_cond_dec rfl (fun h1 => ?_) (fun h1 => ?_)
    · repeat (first | refine pthen_exit ?_ | refine T_exit ?_)
      refine inb_miss rfl ?_
      repeat (first | refine T_seq ?_ | refine T_region ?_ | refine S_nil ?_ | refine pthen_normal ?_ | refine inb_hit ?_ | refine pthen_exit ?_ | refine T_ret ?_ | refine S_pure tabOk rfl ?_)
      exact ret1 rfl rfl (fun w' hw => ⟨rfl, hw.below (by repeat (first | exact new_nil | refine new_ro ?_ | refine new_rx (by assumption) ?_ | refine new_cons (by first | assumption | omega) ?_))⟩)
    repeat (first | refine T_seq ?_ | refine T_region ?_ | refine pthen_normal ?_ | refine T_skip ?_ | refine S_pure tabOk rfl ?_ | refine S_load tabOk 0 rfl rfl rfl ?_)
    refine S_q (Q_rem0 rfl rfl rfl (by decide) hok1.1) ?_
    repeat (first | refine S_nil ?_)
    refine T_cut (ι := PlI) (fun j => PlP n W.heap.size j ∧ j.i = i + 1)
      (fun j => [(0, .slice (some ⟨bb, off, none⟩) n c), (3, aptr pa), (4, .slice j.a j.l.length j.c), (6, .pointer (some ⟨b9, 0, none⟩)), (17, .slice (some ⟨bb, off, none⟩) n c), (18, .int .i64 (n : Int)), (19, .int .i64 (i : Int))])
      (fun j => [.blk b9 (.cells ⟨encC acts[i]⟩ 29 (0, 0)) true, .rep (fun w => (alA pa j.l).at_ w j.Fa (.bool true)) j.Fa true, .rep (fun w => ((Rslice Rde).vp j.l).at_ w j.F (.slice j.a j.l.length j.c)) j.F false]) ?_ ?_
    · repeat (first | refine T_seq ?_ | refine T_region ?_ | refine T_block ?_ | refine S_nil ?_ | refine S_pure tabOk rfl ?_)
      have hdl := dClear_len l acts[i].2.1
      refine T_cond_dec rfl (fun hd => ?_) (fun hd => ?_)
      · repeat (first | refine T_seq ?_ | refine T_region ?_ | refine S_pure tabOk rfl ?_ | refine S_load tabOk 0 rfl rfl rfl ?_)
        refine S_callE (fun v => ∃ k, v = .int .i64 k ∧ FindI l acts[i].2.1 k) rfl Try.call19 (fun w1 h1 => rfind_ok _ w1 (SlR.of_val (Vp.fact0 (p := (Rslice Rde).vp l) h1 2 rfl))) (fun v hv => ?_)
        obtain ⟨k, rfl, hk⟩ := hv
        repeat (first | refine T_seq ?_ | refine T_region ?_ | refine S_nil ?_ | refine S_pure tabOk rfl ?_ | refine S_load tabOk 0 rfl rfl rfl ?_)
        refine S_callZ ((Rslice Rde).vp (dClear l acts[i].2.1)) TT rfl Try.call20 (fun w1 h1 => (rclear_v _ w1 (SlR.of_val (Vp.fact0 (p := (Rslice Rde).vp l) h1 2 rfl)) (by omega)).mono fun e w' ⟨r, e1, e2, e3⟩ => ⟨r, e1, e2, nbb' h1 e3⟩) (fun v0 F0 w1 hF hv => ⟨_, rfl, ?_⟩)
        obtain ⟨a0, n0, c0, rfl, hs0⟩ := SlR.form hv
        have hn0 := hs0.len
        subst hn0
        repeat (first | refine T_seq ?_ | refine T_region ?_ | refine S_nil ?_ | refine S_pure tabOk rfl ?_ | refine S_load tabOk 0 rfl rfl rfl ?_)
        refine S_turn 1 (q := alA pa (dClear l acts[i].2.1)) rfl Try.call21 rfl hNa (fun w1 g1 g2 => al_clear g1 g2 _) (fun Fa2 hNa2 => ⟨_, rfl, ?_⟩)
        repeat (first | refine S_pure tabOk rfl ?_)
        refine S_q ((Q_neb tabOk rfl rfl rfl rfl rfl).eq (v' := .bool false) (by rw [hk.is_ hL]; simp)) ?_
        repeat (first | refine S_nil ?_)
        refine T_cond_f rfl ?_
        repeat (first | refine pthen_normal ?_ | refine inb_normal ?_ | refine T_skip ?_)
        exact ⟨⟨i + 1, dClear l acts[i].2.1, Fa2, a0, c0, F0⟩, ⟨⟨by dsimp only; omega, by dsimp only; omega, hL.clear _, by dsimp only; omega, hNa2, fun h => (hs0.blk h).imp fun b ⟨off, h, _⟩ => ⟨off, h⟩⟩, rfl⟩, by repeat (first | exact Sub.nil | refine Sub.cons rfl ?_), fun w' hw => hw.less (by repeat (first | exact Less.nil | refine Less.keep ?_ | refine Less.dropR ?_))⟩
      · repeat (first | refine T_seq ?_ | refine T_region ?_ | refine S_nil ?_ | refine S_pure tabOk rfl ?_)
        refine T_cond_dec rfl (fun hd2 => ?_) (fun hd2 => ?_)
        · have hrl := dRest_len l acts[i].2.2
          have hol := dOut_len l acts[i].2.2
          repeat (first | refine T_seq ?_ | refine T_region ?_ | refine S_nil ?_ | refine S_pure tabOk rfl ?_ | refine S_load tabOk 0 rfl rfl rfl ?_)
          refine S_callZ (Vtup2 ((Rslice (Rint .u64)).vp (dOut l acts[i].2.2)) ((Rslice Rde).vp (dRest l acts[i].2.2))) TT rfl Try.call22 (fun w1 h1 => (rdue12_ok _ w1 (SlR.of_val (Vp.fact (p := (Rslice Rde).vp l) h1 2 rfl fun _ _ => .inl trivial)) (by omega)).mono fun e w' ⟨r, e1, e2, e3⟩ => ⟨r, e1, e2, Vp.mono _ e3 fun k hk => hk.elim id fun h => BB_new h1 h⟩) (fun v0 F0 w1 hF hv => ⟨_, rfl, ?_⟩)
          obtain ⟨v1, v2, rfl, hv1, hv2⟩ := hv
          obtain ⟨a3, n3, c3, rfl, hs3⟩ := SlR.form hv1
          obtain ⟨a4, n4, c4, rfl, hs4⟩ := SlR.form hv2
          have hn3 := hs3.len
          have hn4 := hs4.len
          subst hn3
          subst hn4
          repeat (first | refine T_seq ?_ | refine T_region ?_ | refine S_nil ?_ | refine S_pure tabOk rfl ?_ | refine S_load tabOk 0 rfl rfl rfl ?_)
          refine S_addV ((Rslice Rde).vp (dRest l acts[i].2.2)) TT (v := .slice a4 (dRest l acts[i].2.2).length c4) (fun w' hw => Vtup2_snd (Vp.fact (p := Vtup2 ((Rslice (Rint .u64)).vp (dOut l acts[i].2.2)) ((Rslice Rde).vp (dRest l acts[i].2.2))) hw 3 rfl fun _ _ => .inl trivial)) (fun F5 hF5 => ?_)
          refine S_heap (fun w' h => h.toEnd rfl) ?_
          refine S_turnR 1 (q := alA pa (dRest l acts[i].2.2)) (E := 27) (sz := 1) (m := (dOut l acts[i].2.2).length) (xs := u64s (dOut l acts[i].2.2)) rfl Try.call15 rfl hNa (fun w1 g1 g2 => al_due g1 g2 (by omega) _) (fun A C Fa2 hNa2 => ⟨_, rfl, ?_⟩)
          repeat (first | refine S_pure tabOk rfl ?_)
          refine S_callq (v := .bool true) rfl Try.call18 (fun w1 h1 => (equal64_ok A a3 _ C _ c3 (dOut l acts[i].2.2) (dOut l acts[i].2.2) w1 (Sl.of_own (h1.own _ (getE_mem (i := 0) rfl))) (SlR.of_val (Vtup2_fst (Vp.fact0 (p := Vtup2 ((Rslice (Rint .u64)).vp (dOut l acts[i].2.2)) ((Rslice Rde).vp (dRest l acts[i].2.2))) h1 4 rfl))).ints.sl (by simp only [maxLen]; omega)).mono fun e w' ⟨he, hb⟩ => ⟨by rw [he, decide_eq_true rfl], hb⟩) ?_
          repeat (first | refine S_nil ?_ | refine S_pure tabOk rfl ?_)
          refine T_cond_f rfl ?_
          repeat (first | refine pthen_normal ?_ | refine inb_normal ?_ | refine T_skip ?_)
          exact ⟨⟨i + 1, dRest l acts[i].2.2, Fa2, a4, c4, F5⟩, ⟨⟨by dsimp only; omega, by dsimp only; omega, hL.rest _, by dsimp only; omega, hNa2, fun h => (hs4.blk h).imp fun b ⟨off, h, _⟩ => ⟨off, h⟩⟩, rfl⟩, by repeat (first | exact Sub.nil | refine Sub.cons rfl ?_), fun w' hw => hw.less (by repeat (first | exact Less.nil | refine Less.keep ?_ | refine Less.dropR ?_ | refine Less.dropW (Nat.le_refl _) ?_))⟩
        · have hsl := dSet_len l acts[i].2.1 acts[i].2.2
          repeat (first | refine T_seq ?_ | refine T_region ?_ | refine S_pure tabOk rfl ?_ | refine S_load tabOk 0 rfl rfl rfl ?_)
          refine S_turn 1 (q := alA pa (dSet l acts[i].2.1 acts[i].2.2)) rfl Try.call14 rfl hNa (fun w1 g1 g2 => al_set g1 g2 (by omega) _ _) (fun Fa2 hNa2 => ⟨_, rfl, ?_⟩)
          repeat (first | refine S_nil ?_ | refine S_pure tabOk rfl ?_ | refine T_region_any ?_ | refine S_load tabOk 0 rfl rfl rfl ?_)
          refine S_callZ ((Rslice Rde).vp (dSet l acts[i].2.1 acts[i].2.2)) TT rfl Try.call23 (fun w1 h1 => (rset12_v _ _ w1 (SlR.of_val (Vp.fact0 (p := (Rslice Rde).vp l) h1 2 rfl)) (by omega) hok.2.1 hok.2.2).mono fun e w' ⟨r, e1, e2, e3⟩ => ⟨r, e1, e2, nbb' h1 e3⟩) (fun v0 F0 w1 hF hv => ⟨_, rfl, ?_⟩)
          obtain ⟨a0, n0, c0, rfl, hs0⟩ := SlR.form hv
          have hn0 := hs0.len
          subst hn0
          repeat (first | refine S_nil ?_ | refine pthen_normal ?_ | refine inb_normal ?_ | refine S_pure tabOk rfl ?_)
          exact ⟨⟨i + 1, dSet l acts[i].2.1 acts[i].2.2, Fa2, a0, c0, F0⟩, ⟨⟨by dsimp only; omega, by dsimp only; omega, hL.set _ hok3, by dsimp only; omega, hNa2, fun h => (hs0.blk h).imp fun b ⟨off, h, _⟩ => ⟨off, h⟩⟩, rfl⟩, by repeat (first | exact Sub.nil | refine Sub.cons rfl ?_), fun w' hw => hw.less (by repeat (first | exact Less.nil | refine Less.keep ?_ | refine Less.dropR ?_))⟩
    rintro ⟨i2, l2, Fa2, a2, c2, F2⟩ ⟨⟨hi, hi80, hL, hlen, hNa, hnn⟩, he⟩
    dsimp only at hi hi80 hL hlen hNa hnn he ⊢
    subst he
    have hfo := hok.2.1
    obtain ⟨id, hid⟩ : ∃ id, id = acts[i].2.1 := ⟨_, rfl⟩
    have hec : encC acts[i] = [.int .u8 acts[i].1, .int .u64 id, .int .i64 acts[i].2.2] := by rw [hid]; rfl
    rw [hec]
    have hcs : l2 = [] ∨ 0 < l2.length := by
      cases l2 with
      | nil => exact .inl rfl
      | cons p l => exact .inr (Nat.succ_pos _)
    rcases hcs with rfl | hpos
    · repeat (first | refine T_seq ?_ | refine T_region ?_ | refine S_pure tabOk rfl ?_)
      refine S_callq (v := .tuple #[.int .i64 0, .bool false]) rfl Try.call24 (fun w1 h1 => al_next (l := []) (h1.own _ (getE_mem (i := 1) rfl)).1) ?_
      repeat (first | refine T_seq ?_ | refine T_region ?_ | refine S_nil ?_ | refine S_pure tabOk rfl ?_ | refine S_load tabOk 0 rfl rfl rfl ?_)
      refine S_callq (v := .tuple #[.int .i64 0, .bool false]) rfl Try.call17 (fun w1 h1 => al_when (l := []) (h1.own _ (getE_mem (i := 1) rfl)).1 id) ?_
      repeat (first | refine T_seq ?_ | refine T_region ?_ | refine S_nil ?_ | refine S_pure tabOk rfl ?_ | refine S_load tabOk 0 rfl rfl rfl ?_)
      refine S_callE (fun v => ∃ k, v = .int .i64 k ∧ FindI [] id k) rfl Try.call19 (fun w1 h1 => rfind_ok _ w1 (SlR.of_val (Vp.fact0 (p := (Rslice Rde).vp []) h1 2 rfl))) (fun v hv => ?_)
      obtain ⟨k, rfl, hk⟩ := hv
      have hk' : k = -1 := (hk.at_ hL).elim (fun h => h.2) fun ⟨j, hj, _⟩ => absurd hj (Nat.not_lt_zero _)
      subst hk'
      repeat (first | refine T_seq ?_ | refine T_region ?_ | refine S_nil ?_ | refine S_pure tabOk rfl ?_)
      refine S_callq (v := .int .i64 0) rfl Try.call16 (fun w1 h1 => al_len (l := []) (h1.own _ (getE_mem (i := 1) rfl)).1) ?_
      repeat (first | refine S_pure tabOk rfl ?_)
      refine S_re 95 (v' := .bool false) rfl rfl ?_
      refine S_re 99 (v' := .bool false) rfl rfl ?_
      refine S_q ((Q_neb tabOk rfl rfl rfl rfl rfl).eq (v' := .bool false) rfl) ?_
      repeat (first | refine S_pure tabOk rfl ?_ | refine S_pass rfl rfl rfl ?_)
      refine S_re 124 (v' := .bool false) rfl rfl ?_
      refine S_q ((Q_neb tabOk rfl rfl rfl rfl rfl).eq (v' := .bool false) rfl) ?_
      repeat (first | refine S_nil ?_ | refine S_pure tabOk rfl ?_ | refine S_pass rfl rfl rfl ?_)
      refine T_cond_f rfl ?_
      repeat (first | refine T_region ?_ | refine S_nil ?_ | refine pthen_normal ?_ | refine inb_normal ?_ | refine T_skip ?_ | refine S_i64 tabOk rfl (by omega) ?_ | refine S_pure tabOk rfl ?_)
      exact ⟨⟨i + 1, [], Fa2, a2, c2, F2⟩, ⟨hi, hi80, hL, hlen, hNa, hnn⟩, by repeat (first | exact Sub.nil | refine Sub.cons rfl ?_), fun w' hw => hw.less (by repeat (first | exact Less.nil | refine Less.keep ?_ | refine Less.dropB (by first | assumption | omega) ?_)), by dsimp only; omega⟩
    · obtain ⟨ab, aoff, rfl⟩ := hnn hpos
      have hlc : ∀ {w' : World} {e1 e2 : HE} (hw : Hp W w' [e1, e2, .rep (fun w => ((Rslice Rde).vp l2).at_ w F2 (.slice (some ⟨ab, aoff, none⟩) l2.length c2)) F2 false]) (j : Nat) (hj : j < l2.length), w'.cell? ⟨ab, aoff + j * 2 + 1, none⟩ = some (.int .i64 l2[j].2) := fun hw j hj => by
        have := de_cells (SlR.of_val (Vp.fact0 (p := (Rslice Rde).vp l2) hw 2 rfl)) hj 1 _ rfl
        rwa [Addr.add_lit] at this
      have hnx : dNext l2 = .tuple #[.int .i64 l2[0].2, .bool true] := by
        cases l2 with
        | nil => exact absurd hpos (Nat.lt_irrefl 0)
        | cons p l => rfl
      repeat (first | refine T_seq ?_ | refine T_region ?_ | refine S_pure tabOk rfl ?_)
      refine S_callq (v := .tuple #[.int .i64 l2[0].2, .bool true]) rfl Try.call24 (fun w1 h1 => by
        rw [← hnx]
        exact al_next (h1.own _ (getE_mem (i := 1) rfl)).1) ?_
      repeat (first | refine T_seq ?_ | refine T_region ?_ | refine S_nil ?_ | refine S_pure tabOk rfl ?_ | refine S_load tabOk 0 rfl rfl rfl ?_)
      cases hda : dAt l2 id with
      | none =>
        have hwn : dWhen l2 id = .tuple #[.int .i64 0, .bool false] := by
          unfold dWhen
          rw [hda]
        refine S_callq (v := .tuple #[.int .i64 0, .bool false]) rfl Try.call17 (fun w1 h1 => by
          rw [← hwn]
          exact al_when (h1.own _ (getE_mem (i := 1) rfl)).1 id) ?_
        repeat (first | refine T_seq ?_ | refine T_region ?_ | refine S_nil ?_ | refine S_pure tabOk rfl ?_ | refine S_load tabOk 0 rfl rfl rfl ?_)
        refine S_callE (fun v => ∃ k, v = .int .i64 k ∧ FindI l2 id k) rfl Try.call19 (fun w1 h1 => rfind_ok _ w1 (SlR.of_val (Vp.fact0 (p := (Rslice Rde).vp l2) h1 2 rfl))) (fun v hv => ?_)
        obtain ⟨k, rfl, hk⟩ := hv
        have hk' : k = -1 := (hk.at_ hL).elim (fun h => h.2) fun ⟨j, hj, h1, h2⟩ => by
          rw [hda] at h2
          cases h2
        subst hk'
        repeat (first | refine T_seq ?_ | refine T_region ?_ | refine S_nil ?_ | refine S_pure tabOk rfl ?_)
        refine S_callq rfl Try.call16 (fun w1 h1 => al_len (h1.own _ (getE_mem (i := 1) rfl)).1) ?_
        repeat (first | refine S_pure tabOk rfl ?_)
        refine S_re 95 (v' := .bool false) rfl (congrArg Value.bool (by simp)) ?_
        repeat (first | refine S_pure tabOk rfl ?_)
        refine S_re 99 (v' := .bool true) rfl (congrArg Value.bool (decide_eq_true (by omega))) ?_
        refine S_q ((Q_neb tabOk rfl rfl rfl rfl rfl).eq (v' := .bool false) rfl) ?_
        repeat (first | refine S_pure tabOk rfl ?_)
        refine S_q (Q_idx (sz := 2) tabOk rfl rfl rfl rfl rfl rfl rfl rfl (j := 0) (by omega)) ?_
        repeat (first | refine S_pure tabOk rfl ?_)
        refine S_load1 tabOk (v := .int .i64 l2[0].2) rfl rfl (fun w' hw => hlc hw 0 hpos) ?_
        repeat (first | refine S_pure tabOk rfl ?_)
        refine S_re 113 (v' := .bool false) rfl (congrArg Value.bool (by simp)) ?_
        repeat (first | refine S_pure tabOk rfl ?_ | refine S_pass rfl rfl rfl ?_)
        refine S_re 124 (v' := .bool false) rfl rfl ?_
        refine S_q ((Q_neb tabOk rfl rfl rfl rfl rfl).eq (v' := .bool false) rfl) ?_
        repeat (first | refine S_nil ?_ | refine S_pure tabOk rfl ?_ | refine S_pass rfl rfl rfl ?_)
        refine T_cond_f rfl ?_
        repeat (first | refine T_region ?_ | refine S_nil ?_ | refine pthen_normal ?_ | refine inb_normal ?_ | refine T_skip ?_ | refine S_i64 tabOk rfl (by omega) ?_ | refine S_pure tabOk rfl ?_)
        exact ⟨⟨i + 1, l2, Fa2, some ⟨ab, aoff, none⟩, c2, F2⟩, ⟨hi, hi80, hL, hlen, hNa, hnn⟩, by repeat (first | exact Sub.nil | refine Sub.cons rfl ?_), fun w' hw => hw.less (by repeat (first | exact Less.nil | refine Less.keep ?_ | refine Less.dropB (by first | assumption | omega) ?_)), by dsimp only; omega⟩
      | some t =>
        have hwn : dWhen l2 id = .tuple #[.int .i64 t, .bool true] := by
          unfold dWhen
          rw [hda]
        refine S_callq (v := .tuple #[.int .i64 t, .bool true]) rfl Try.call17 (fun w1 h1 => by
          rw [← hwn]
          exact al_when (h1.own _ (getE_mem (i := 1) rfl)).1 id) ?_
        repeat (first | refine T_seq ?_ | refine T_region ?_ | refine S_nil ?_ | refine S_pure tabOk rfl ?_ | refine S_load tabOk 0 rfl rfl rfl ?_)
        refine S_callE (fun v => ∃ k, v = .int .i64 k ∧ FindI l2 id k) rfl Try.call19 (fun w1 h1 => rfind_ok _ w1 (SlR.of_val (Vp.fact0 (p := (Rslice Rde).vp l2) h1 2 rfl))) (fun v hv => ?_)
        obtain ⟨k, rfl, hk⟩ := hv
        have hk' : ∃ j : Nat, ∃ hj : j < l2.length, k = j ∧ t = l2[j].2 := (hk.at_ hL).elim (fun h => by
          rw [hda] at h
          cases h.1) fun ⟨j, hj, h1, h2⟩ => ⟨j, hj, h1, by
          rw [hda] at h2
          cases h2
          rfl⟩
        obtain ⟨j, hj, rfl, rfl⟩ := hk'
        repeat (first | refine T_seq ?_ | refine T_region ?_ | refine S_nil ?_ | refine S_pure tabOk rfl ?_)
        refine S_callq rfl Try.call16 (fun w1 h1 => al_len (h1.own _ (getE_mem (i := 1) rfl)).1) ?_
        repeat (first | refine S_pure tabOk rfl ?_)
        refine S_re 95 (v' := .bool false) rfl (congrArg Value.bool (by simp)) ?_
        repeat (first | refine S_pure tabOk rfl ?_)
        refine S_re 99 (v' := .bool true) rfl (congrArg Value.bool (decide_eq_true (by omega))) ?_
        refine S_q ((Q_neb tabOk rfl rfl rfl rfl rfl).eq (v' := .bool false) rfl) ?_
        repeat (first | refine S_pure tabOk rfl ?_)
        refine S_q (Q_idx (sz := 2) tabOk rfl rfl rfl rfl rfl rfl rfl rfl (j := 0) (by omega)) ?_
        repeat (first | refine S_pure tabOk rfl ?_)
        refine S_load1 tabOk (v := .int .i64 l2[0].2) rfl rfl (fun w' hw => hlc hw 0 hpos) ?_
        repeat (first | refine S_pure tabOk rfl ?_)
        refine S_re 113 (v' := .bool false) rfl (congrArg Value.bool (by simp)) ?_
        repeat (first | refine S_pure tabOk rfl ?_ | refine S_pass rfl rfl rfl ?_)
        refine S_re 124 (v' := .bool true) rfl (congrArg Value.bool (decide_eq_true (by omega))) ?_
        refine S_q ((Q_neb tabOk rfl rfl rfl rfl rfl).eq (v' := .bool false) rfl) ?_
        repeat (first | refine S_pure tabOk rfl ?_)
        refine S_q (Q_idx (sz := 2) tabOk rfl rfl rfl rfl rfl rfl rfl rfl (j := j) (by omega)) ?_
        repeat (first | refine S_pure tabOk rfl ?_)
        refine S_load1 tabOk (v := .int .i64 l2[j].2) rfl rfl (fun w' hw => hlc hw j hj) ?_
        repeat (first | refine S_pure tabOk rfl ?_)
        refine S_re 139 (v' := .bool false) rfl (congrArg Value.bool (by simp)) ?_
        repeat (first | refine S_nil ?_ | refine S_pure tabOk rfl ?_ | refine S_pass rfl rfl rfl ?_)
        refine T_cond_f rfl ?_
        repeat (first | refine T_region ?_ | refine S_nil ?_ | refine pthen_normal ?_ | refine inb_normal ?_ | refine T_skip ?_ | refine S_i64 tabOk rfl (by omega) ?_ | refine S_pure tabOk rfl ?_)
        exact ⟨⟨i + 1, l2, Fa2, some ⟨ab, aoff, none⟩, c2, F2⟩, ⟨hi, hi80, hL, hlen, hNa, hnn⟩, by repeat (first | exact Sub.nil | refine Sub.cons rfl ?_), fun w' hw => hw.less (by repeat (first | exact Less.nil | refine Less.keep ?_ | refine Less.dropB (by first | assumption | omega) ?_)), by dsimp only; omega⟩
  · repeat (first | refine T_seq ?_ | refine T_region ?_ | refine S_nil ?_ | refine pthen_normal ?_ | refine inb_hit ?_ | refine pthen_exit ?_ | refine T_ret ?_ | refine T_exit ?_ | refine S_pure tabOk rfl ?_)
    exact ret1 rfl rfl (fun w' hw => ⟨rfl, hw.below (by repeat (first | exact new_nil | refine new_ro ?_ | refine new_rx (by assumption) ?_))⟩)
end Go.Proofs.Ytggnhcgmeibihaa
