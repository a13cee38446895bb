/-
  The document's board: Take. Conditions: each theorem's own.
-/
import Derived.Test.YtidhpofcofknhaaRbD
namespace Go.Proofs.Ytidhpofcofknhaa
open Go Go.RowKit
set_option linter.unusedVariables false

theorem cellsG_get {j : Nat} {u : Value} {p : GX} : ∀ {K : List GX} {i : Nat}, K[i]? = some p → (cellG p)[j]? = some u → (cellsG K)[i * 4 + j]? = some u
  | [], _, h, _ => by simp at h
  | q :: K, 0, h, hu => by
    rw [List.getElem?_cons_zero] at h
    cases h
    have hj := (List.getElem?_eq_some_iff.1 hu).1
    show (cellG p ++ cellsG K)[0 * 4 + j]? = _
    rw [Nat.zero_mul, Nat.zero_add, List.getElem?_append_left hj]
    exact hu
  | q :: K, i + 1, h, hu => by
    rw [List.getElem?_cons_succ] at h
    have ih := cellsG_get (K := K) (i := i) h hu
    show (cellG q ++ cellsG K)[(i + 1) * 4 + j]? = _
    rw [List.getElem?_append_right (by show 4 ≤ _; omega), show (i + 1) * 4 + j - (cellG q).length = i * 4 + j by show (i + 1) * 4 + j - 4 = _; omega]
    exact ih
theorem u64_cell {w : World} {A : Nat → Prop} {b off n c : Nat} {l : List Int} (h : SlR (Rint .u64) w A (some ⟨b, off, none⟩) n c l) {i : Nat} (hi : i < l.length) : w.cell? ⟨b, off + i, none⟩ = some (.int .u64 l[i]) := by
  obtain ⟨b', off', e, h1⟩ := u64_at h hi
  cases e
  exact h1 w (Below.refl _ _)
theorem rmB_snoc (gs : List BG) (g : BG) (s : Int → Bool) : rmB (gs ++ [g]) s = rmB gs s ++ if (cutB s g).L = [] then [] else [cutB s g] := by
  unfold rmB
  rw [List.map_append, List.filter_append]
  congr 1
  by_cases h : (cutB s g).L = []
  · rw [if_pos h, List.map_cons, List.map_nil, List.filter_cons_of_neg (by rw [h]; decide)]; rfl
  · rw [if_neg h, List.map_cons, List.map_nil, List.filter_cons_of_pos (by simpa using h)]; rfl
theorem filter_take_succ {l : List Int} {j : Nat} (h : j < l.length) (s : Int → Bool) : (l.take (j + 1)).filter s = (l.take j).filter s ++ if s l[j] = true then [l[j]] else [] := by
  rw [List.take_succ_eq_append_getElem h, List.filter_append]
  congr 1
  by_cases hs : s l[j] = true
  · rw [if_pos hs, List.filter_cons_of_pos hs]; rfl
  · rw [if_neg hs, List.filter_cons_of_neg hs]; rfl
theorem okG_snoc {w : World} {K : List GX} {G Fr : Nat → Prop} {g : BG} {x : SX} (h1 : ((Rslice (Rint .u64)).vp g.L).at_ w Fr (.slice x.a x.n x.c)) (h2 : (okG K).at_ w G (.bool true)) : (okG (K ++ [⟨g, x⟩])).at_ w (fun k => Fr k ∨ G k) (.bool true) := fun p hp => by
  rcases List.mem_append.1 hp with hp | hp
  · exact (h2 p hp).mono fun k hk => .inr hk
  · rw [List.mem_singleton] at hp
    subst hp
    exact (SlR.of_val h1).mono fun k hk => .inl hk
/-- the loop's index -/
structure RTk where
  i : Nat
  a5 : Option Addr
  c5 : Nat
  KL : List GX
  a6 : Option Addr
  c6 : Nat
  GL : Nat → Prop
structure RTj where
  j : Nat
  a5 : Option Addr
  c5 : Nat
  a9 : Option Addr
  c9 : Nat
section
variable {xb : Nat} {f m last : Int} {gs : List BG} {w : World} {F : Nat → Prop}
set_option maxHeartbeats 8000000 in
theorem rb_take (h : (rbA xb f m gs last).at_ w F (.bool true)) (hF : ∀ k, F k → k < w.heap.size) {la : Option Addr} {ln lc : Nat} {rl : List Run} {A : Nat → Prop} (hl : SlR Rrun w A la ln lc rl) (hAF : ∀ k, A k → ¬ F k) (hln : ln ≤ 1000000) {s : Int → Bool} (hs : ∀ x, s x = true ↔ Mem rl x) :
    Calls Try.prog 14 #[bptr xb, .slice la ln lc] w fun e w' => ∃ A C, e = .returned (.slice A (sortU ((bNums gs).filter s)).length C) ∧
      ∃ F' : Nat → Prop, (∀ k, F k → F' k) ∧ (∀ k, F' k → F k ∨ w.heap.size ≤ k) ∧ Hp w w' [.row w.heap.size (.slice A (sortU ((bNums gs).filter s)).length C) 34 1 (sortU ((bNums gs).filter s)).length (u64s (sortU ((bNums gs).filter s))), .rep (fun w => (rbA xb f m (rmB gs s) last).at_ w F' (.bool true)) F' true] := by
  obtain ⟨K, a, c, G, ⟨rfl, hp, hok, hne⟩, hst, hcov⟩ := rb_open h
  have hcnt := hok.cnt
  have hlen := hok.len
  rw [List.length_map] at hcnt
  have hFx : F xb := hcov _ (getE_mem (i := 0) rfl) xb rfl
  have hFr : ∀ k, (Value.slice a K.length c).ownBlock = some k → F k := hcov _ (getE_mem (i := 1) rfl)
  have hFG : ∀ k, G k → F k := hcov _ (getE_mem (i := 2) rfl)
  obtain ⟨Fl, hFl, _, hst2⟩ := hst.addV (p := (Rslice Rrun).vp rl) (A := A) (v := .slice la ln lc) (((Rslice Rrun).vp rl).mono hl.val fun k hk => ⟨.inl hk, fun e he hex hh => hAF k hk (hcov e he k hh)⟩)
  obtain ⟨outs, houts⟩ : ∃ outs : Nat → List Int, outs = fun i => (bNums ((gsK K).take i)).filter s := ⟨_, rfl⟩
  have ho0 : outs 0 = [] := by rw [houts]; rfl
  have hol : outs K.length = (bNums (gsK K)).filter s := by rw [houts]; dsimp only; rw [List.take_of_length_le (by rw [List.length_map]; exact Nat.le_refl _)]
  have hob : ∀ i, (outs i).length ≤ 60000 := fun i => by
    rw [houts]
    exact Nat.le_trans (List.length_filter_le _ _) (Nat.le_trans (nums_sub (List.take_sublist _ _)).length_le hlen)
  refine enter2 Try.func14 rfl rfl hst2 ?_
  repeat (first | refine T_seq ?_ | refine T_region ?_ | refine T_block ?_ | refine S_nil ?_ | refine S_pure tabOk rfl ?_ | refine S_load tabOk 1 rfl rfl rfl ?_)
  refine T_loop (ι := RTk) (fun i => [(0, bptr xb), (1, .slice la ln lc), (15, .slice a K.length c), (16, .int .i64 (K.length : Int)), (17, .int .i64 (i.i : Int)), (5, .slice i.a5 (outs i.i).length i.c5), (6, .slice i.a6 i.KL.length i.c6)])
    (fun i => [.row w.heap.size (.slice i.a6 i.KL.length i.c6) 99 4 i.KL.length (cellsG i.KL), .rep (fun w => (okG i.KL).at_ w i.GL (.bool true)) i.GL false, .row w.heap.size (.slice i.a5 (outs i.i).length i.c5) 34 1 (outs i.i).length (u64s (outs i.i)), .rep (fun w => ((Rslice Rrun).vp rl).at_ w Fl (.slice la ln lc)) Fl false, .blk xb (rbC f m a K.length c last) true, .row 0 (.slice a K.length c) 99 4 K.length (cellsG K), .rep (fun w => (okG K).at_ w G (.bool true)) G false])
    (fun i => i.i ≤ K.length ∧ gsK i.KL = rmB ((gsK K).take i.i) s ∧ i.KL.length ≤ i.i ∧ ∀ k, i.GL k → w.heap.size ≤ k) (fun i => K.length - i.i) ⟨0, none, 0, [], none, 0, fun _ => False⟩ ⟨Nat.zero_le _, rfl, Nat.le_refl _, fun k hk => hk.elim⟩ (by dsimp only; rw [ho0]; repeat (first | exact Sub.nil | refine Sub.cons rfl ?_)) (fun w' hw => ?_) ?_
  · dsimp only
    rw [ho0]
    exact (((hw.nilRow 34 1).none (p := okG []) (v := .bool true) (fun w p hp => by cases hp) false).nilRow 99 4)
  rintro ⟨i, a5, c5, KL, a6, c6, GL⟩ ⟨hi, hKL, hKLl, hGL⟩
  dsimp only at hi hKL hKLl hGL ⊢
  have hbi := hob i
  repeat (first | refine T_seq ?_ | refine T_region ?_ | refine S_nil ?_ | refine S_pure tabOk rfl ?_)
  refine T_cond_dec rfl (fun hlt => ?_) (fun hge => ?_)
  rotate_left
  · have hie : i = K.length := by omega
    subst hie
    rw [hol] at hbi ⊢
    rw [List.take_of_length_le (by rw [List.length_map]; exact Nat.le_refl _)] at hKL
    repeat (first | refine T_seq ?_ | refine T_region ?_ | refine S_nil ?_ | refine pthen_normal ?_ | refine inb_hit ?_ | refine pthen_exit ?_ | refine T_exit ?_ | refine S_pure tabOk rfl ?_ | refine S_store tabOk 4 rfl rfl rfl rfl rfl rfl ?_)
    refine S_callrow rfl Try.call36 (fun w1 h1 => rsorted13_ok w1 (row_slr (h1.own _ (getE_mem (i := 2) rfl)) rfl (fun x hx => hok.nfit (List.mem_filter.1 hx).1)) (by omega)) (fun a2 c2 hc2 hd2 => ?_)
    repeat (first | refine S_nil ?_ | refine T_ret ?_ | refine S_pure tabOk rfl ?_)
    refine ret1 rfl rfl (fun w' hw => ?_)
    obtain ⟨F', g1, g2, g3⟩ := rb_close (base := w.heap.size) (F0 := F) (K := KL) (a := a6) (c := c6) (G := GL) (f := f) (m := m) (last := last) (xb := xb) (gs := rmB (gsK K) s) (ol := [.row w.heap.size (.slice a2 (sortU ((bNums (gsK K)).filter s)).length c2) 34 1 (sortU ((bNums (gsK K)).filter s)).length (u64s (sortU ((bNums (gsK K)).filter s)))]) [.row 0 (.slice a K.length c) 99 4 K.length (cellsG K)] ((hw.pm [5, 1, 2, 6, 0, 3, 4, 7] rfl rfl rfl).less (by repeat (first | exact Less.nil | refine Less.keep ?_ | refine Less.dropR ?_ | refine Less.dropW (Nat.le_refl _) ?_))) hKL hp (hok.rm s) (rmB_ne _ _) hF (fun e he k hk => by
        rw [List.mem_singleton] at he
        subst he
        exact (World.ownsRow.lt (hw.own _ (getE_mem (i := 0) rfl)) k hk).1) (fun e he => by
        rw [List.mem_singleton] at he
        subst he
        exact .inl rfl) (rb_cov (.inl hFx) (fun k hk => .inr (World.ownsRow.lt (hw.own _ (getE_mem (i := 1) rfl)) k hk).1) fun k hk => .inr (hGL k hk)) (fun e he => by
        rw [List.mem_singleton] at he
        subst he
        exact ⟨rfl, fun k hk => .inl (hFr k hk)⟩)
    exact ⟨_, _, rfl, F', g1, g2, g3.pm [1, 0] rfl rfl rfl⟩
  obtain ⟨⟨g, xa, xn, xc⟩, hpi⟩ : ∃ p, K[i]? = some p := ⟨_, List.getElem?_eq_getElem (by omega)⟩
  have hpm := List.mem_of_getElem? hpi
  have hgi : (gsK K)[i]? = some g := by rw [List.getElem?_map, hpi]; rfl
  have hgm : g ∈ gsK K := List.mem_of_getElem? hgi
  have htk : (gsK K).take (i + 1) = (gsK K).take i ++ [g] := by rw [List.take_add_one, hgi]; rfl
  refine T_kn (fun w1 g1 => ((g1.own _ (getE_mem (i := 6) rfl)).1 _ hpm).len) (fun hpn => ?_)
  dsimp only at hpn
  subst hpn
  have hgl : g.L.length ≤ 60000 := Nat.le_trans (nums_le hgm) hlen
  have hnx : outs (i + 1) = outs i ++ g.L.filter s := by
    rw [houts]
    dsimp only
    rw [htk, bNums, List.flatMap_append, List.filter_append]
    simp
  have hbi1 := hob (i + 1)
  rw [hnx, List.length_append] at hbi1
  have hrm := rmB_snoc ((gsK K).take i) g s
  rw [← htk, ← hKL] at hrm
  repeat (first | refine T_seq ?_ | refine T_region ?_ | refine T_block ?_ | refine pthen_normal ?_ | refine T_skip ?_)
  refine S_rowA 5 rfl (by omega) (fun bK hbK => ?_)
  subst hbK
  refine S_q (Q_idx (sz := 4) tabOk rfl rfl rfl rfl rfl rfl rfl (j := i) rfl (by omega)) ?_
  refine S_loadN tabOk (vs := cellG ⟨g, ⟨xa, g.L.length, xc⟩⟩) rfl rfl rfl (fun w' hw jj u hu => by
    rw [Addr.add_lit, Nat.zero_add]
    exact own_cell (hw.own _ (getE_mem (i := 5) rfl)) (by omega) (cellsG_get hpi hu)) ?_
  refine S_new tabOk rfl (fun b8 hb8 => ?_)
  repeat (first | refine T_seq ?_ | refine T_region ?_ | refine S_nil ?_ | refine S_pure tabOk rfl ?_ | refine S_load tabOk 0 rfl rfl rfl ?_ | refine S_store tabOk 0 rfl rfl rfl rfl rfl rfl ?_)
  refine T_cut (ι := RTj) (fun i => True) (fun jj => [(0, bptr xb), (1, .slice la ln lc), (15, .slice (some ⟨bK, 0, none⟩) K.length c), (16, .int .i64 (K.length : Int)), (17, .int .i64 (i : Int)), (6, .slice a6 KL.length c6), (8, .pointer (some ⟨b8, 0, none⟩)), (5, .slice jj.a5 (outs (i + 1)).length jj.c5), (9, .slice jj.a9 (cutB s g).L.length jj.c9)])
    (fun jj => [.row w.heap.size (.slice jj.a9 (cutB s g).L.length jj.c9) 34 1 (cutB s g).L.length (u64s (cutB s g).L), .row w.heap.size (.slice jj.a5 (outs (i + 1)).length jj.c5) 34 1 (outs (i + 1)).length (u64s (outs (i + 1))), .blk b8 (.cells ⟨cellG ⟨g, ⟨xa, g.L.length, xc⟩⟩⟩ 99 (0, 0)) true, .row w.heap.size (.slice a6 KL.length c6) 99 4 KL.length (cellsG KL), .rep (fun w => (okG KL).at_ w GL (.bool true)) GL false, .rep (fun w => ((Rslice Rrun).vp rl).at_ w Fl (.slice la ln lc)) Fl false, .blk xb (rbC f m (some ⟨bK, 0, none⟩) K.length c last) true, .row 0 (.slice (some ⟨bK, 0, none⟩) K.length c) 99 4 K.length (cellsG K), .rep (fun w => (okG K).at_ w G (.bool true)) G false]) ?_ ?_
  · have hi0 : (g.L.take 0).filter s = [] := rfl
    refine T_block ?_
    refine T_loop (ι := RTj) (fun jj => [(0, bptr xb), (1, .slice la ln lc), (15, .slice (some ⟨bK, 0, none⟩) K.length c), (16, .int .i64 (K.length : Int)), (17, .int .i64 (i : Int)), (6, .slice a6 KL.length c6), (8, .pointer (some ⟨b8, 0, none⟩)), (22, .slice xa g.L.length xc), (23, .int .i64 (g.L.length : Int)), (24, .int .i64 (jj.j : Int)), (5, .slice jj.a5 (outs i ++ (g.L.take jj.j).filter s).length jj.c5), (9, .slice jj.a9 ((g.L.take jj.j).filter fun n => !s n).length jj.c9)])
      (fun jj => [.row w.heap.size (.slice jj.a9 ((g.L.take jj.j).filter fun n => !s n).length jj.c9) 34 1 ((g.L.take jj.j).filter fun n => !s n).length (u64s ((g.L.take jj.j).filter fun n => !s n)), .blk b8 (.cells ⟨cellG ⟨g, ⟨xa, g.L.length, xc⟩⟩⟩ 99 (0, 0)) true, .row w.heap.size (.slice a6 KL.length c6) 99 4 KL.length (cellsG KL), .rep (fun w => (okG KL).at_ w GL (.bool true)) GL false, .row w.heap.size (.slice jj.a5 (outs i ++ (g.L.take jj.j).filter s).length jj.c5) 34 1 (outs i ++ (g.L.take jj.j).filter s).length (u64s (outs i ++ (g.L.take jj.j).filter s)), .rep (fun w => ((Rslice Rrun).vp rl).at_ w Fl (.slice la ln lc)) Fl false, .blk xb (rbC f m (some ⟨bK, 0, none⟩) K.length c last) true, .row 0 (.slice (some ⟨bK, 0, none⟩) K.length c) 99 4 K.length (cellsG K), .rep (fun w => (okG K).at_ w G (.bool true)) G false])
      (fun jj => jj.j ≤ g.L.length) (fun jj => g.L.length - jj.j) ⟨0, a5, c5, none, 0⟩ (Nat.zero_le _) (by dsimp only; rw [hi0, List.append_nil]; repeat (first | exact Sub.nil | refine Sub.cons rfl ?_)) (fun w' hw => by dsimp only; rw [hi0, List.append_nil]; exact hw.nilRow _ _) ?_
    rintro ⟨j, e5, d5, e9, d9⟩ hj
    dsimp only at hj ⊢
    have hfl1 := List.length_filter_le s (g.L.take j)
    have hfl2 := List.length_filter_le (fun n => !s n) (g.L.take j)
    rw [List.length_take] at hfl1 hfl2
    repeat (first | refine T_seq ?_ | refine T_region ?_ | refine S_nil ?_ | refine S_pure tabOk rfl ?_)
    refine T_cond_dec rfl (fun hlt2 => ?_) (fun hge2 => ?_)
    rotate_left
    · have hje : j = g.L.length := by omega
      subst hje
      repeat (first | refine pthen_normal ?_ | refine inb_hit ?_ | refine pthen_exit ?_ | refine T_exit ?_)
      refine ⟨⟨0, e5, d5, e9, d9⟩, trivial, ?_, fun w' hw => ?_⟩
      · dsimp only
        rw [hnx, show (cutB s g).L = (g.L.take g.L.length).filter fun n => !s n from by rw [List.take_length]; rfl, List.take_length]
        repeat (first | exact Sub.nil | refine Sub.cons rfl ?_)
      · dsimp only
        rw [hnx, show (cutB s g).L = (g.L.take g.L.length).filter fun n => !s n from by rw [List.take_length]; rfl]
        rw [List.take_length] at hw ⊢
        exact hw.pm [0, 4, 1, 2, 3, 5, 6, 7, 8] rfl rfl rfl
    have hjl : j < g.L.length := by omega
    have hs1 := filter_take_succ hjl s
    have hs2 := filter_take_succ hjl fun n => !s n
    refine T_kn (X := ∃ lb lo, xa = some ⟨lb, lo, none⟩) (fun w1 g1 => (u64_at ((g1.own _ (getE_mem (i := 8) rfl)).1 _ hpm) hjl).imp fun _ h => h.imp fun _ h => h.1) (fun ⟨lb, lo, hlb⟩ => ?_)
    subst hlb
    repeat (first | refine T_seq ?_ | refine T_region ?_ | refine T_block ?_ | refine pthen_normal ?_ | refine T_skip ?_)
    refine S_q (Q_idx (sz := 1) tabOk rfl rfl rfl rfl rfl rfl rfl (j := j) rfl hjl) ?_
    refine S_load1 tabOk (v := .int .u64 g.L[j]) rfl rfl (fun w' hw => by rw [Nat.mul_one]; exact u64_cell ((hw.own _ (getE_mem (i := 8) rfl)).1 _ hpm) hjl) ?_
    repeat (first | refine T_seq ?_ | refine T_region ?_ | refine S_nil ?_ | refine S_pure tabOk rfl ?_)
    have hhas : ∀ w1 ol1, Hp w w1 ol1 → getE ol1 5 = some (.rep (fun w => ((Rslice Rrun).vp rl).at_ w Fl (.slice la ln lc)) Fl false) → Calls Try.prog 46 #[.slice la ln lc, .int .u64 g.L[j]] w1 fun e w' => e = .returned (.bool (s g.L[j])) ∧ Below w1.heap.size w1 w' := fun w1 ol1 h1 h5 => rhas3_ok la ln lc rl _ _ w1 (SlR.of_val (h1.own _ (getE_mem h5)).1) hln hs
    cases hsx : s g.L[j] with
    | true =>
      rw [hsx] at hs1 hs2 hhas
      rw [if_pos rfl] at hs1
      rw [if_neg (by decide), List.append_nil] at hs2
      refine S_callq (v := .bool true) rfl Try.call46 (fun w1 h1 => hhas w1 _ h1 rfl) ?_
      repeat (first | refine S_nil ?_)
      refine T_cond_t rfl ?_
      repeat (first | refine S_pure tabOk rfl ?_ | refine T_region_any ?_)
      refine S_bslice tabOk rfl rfl rfl rfl rfl rfl rfl rfl rfl rfl rfl rfl (fun b33 hb33 => ?_)
      refine S_append (ty := 0) tabOk 5 (k := 1) (news := u64s [g.L[j]]) rfl rfl rfl rfl rfl rfl rfl rfl rfl (by decide) (fun w' hw => Sl.of_blk (hw.own _ (getE_mem (i := 0) rfl)) rfl (fun j u hu => by rw [Nat.zero_add]; exact hu)) (fun u hu => u64s_one hu) (by rw [List.length_append]; simp only [maxLen]; omega) (by show (_ + _) * 8 ≤ _; rw [List.length_append]; omega) rfl (fun A1 C1 hc3 hd3 => ⟨_, rfl, ?_⟩)
      rw [show u64s (outs i ++ (g.L.take j).filter s) ++ u64s [g.L[j]] = u64s (outs i ++ (g.L.take (j + 1)).filter s) from by rw [hs1, ← List.append_assoc]; exact List.map_append.symm, show (outs i ++ (g.L.take j).filter s).length + 1 = (outs i ++ (g.L.take (j + 1)).filter s).length from by rw [hs1, ← List.append_assoc, List.length_append (bs := [_])]; rfl]
      repeat (first | refine T_region ?_ | refine S_nil ?_ | refine pthen_normal ?_ | refine inb_normal ?_ | refine S_i64 tabOk rfl (by omega) ?_ | refine S_pure tabOk rfl ?_)
      exact ⟨⟨j + 1, A1, C1, e9, d9⟩, hjl, by dsimp only; rw [hs2]; repeat (first | exact Sub.nil | refine Sub.cons rfl ?_), fun w' hw => by dsimp only; rw [hs2]; exact hw.less (by repeat (first | exact Less.nil | refine Less.keep ?_ | refine Less.dropB (by first | assumption | omega) ?_)), by show g.L.length - (j + 1) < g.L.length - j; omega⟩
    | false =>
      rw [hsx] at hs1 hs2 hhas
      rw [if_neg (by decide), List.append_nil] at hs1
      rw [if_pos (by decide)] at hs2
      refine S_callq (v := .bool false) rfl Try.call46 (fun w1 h1 => hhas w1 _ h1 rfl) ?_
      repeat (first | refine S_nil ?_)
      refine T_cond_f rfl ?_
      repeat (first | refine S_pure tabOk rfl ?_ | refine T_region_any ?_)
      refine S_bslice tabOk rfl rfl rfl rfl rfl rfl rfl rfl rfl rfl rfl rfl (fun b37 hb37 => ?_)
      refine S_append (ty := 0) tabOk 1 (k := 1) (news := u64s [g.L[j]]) rfl rfl rfl rfl rfl rfl rfl rfl rfl (by decide) (fun w' hw => Sl.of_blk (hw.own _ (getE_mem (i := 0) rfl)) rfl (fun j u hu => by rw [Nat.zero_add]; exact hu)) (fun u hu => u64s_one hu) (by simp only [maxLen]; omega) (by show (_ + _) * 8 ≤ _; omega) rfl (fun A1 C1 hc3 hd3 => ⟨_, rfl, ?_⟩)
      rw [show u64s ((g.L.take j).filter fun n => !s n) ++ u64s [g.L[j]] = u64s ((g.L.take (j + 1)).filter fun n => !s n) from by rw [hs2]; exact List.map_append.symm, show ((g.L.take j).filter fun n => !s n).length + 1 = ((g.L.take (j + 1)).filter fun n => !s n).length from by rw [hs2, List.length_append]; rfl]
      repeat (first | refine T_region ?_ | refine S_nil ?_ | refine pthen_normal ?_ | refine inb_normal ?_ | refine S_i64 tabOk rfl (by omega) ?_ | refine S_pure tabOk rfl ?_)
      exact ⟨⟨j + 1, e5, d5, A1, C1⟩, hjl, by dsimp only; rw [hs1]; repeat (first | exact Sub.nil | refine Sub.cons rfl ?_), fun w' hw => by dsimp only; rw [hs1]; exact hw.less (by repeat (first | exact Less.nil | refine Less.keep ?_ | refine Less.dropB (by first | assumption | omega) ?_)), by show g.L.length - (j + 1) < g.L.length - j; omega⟩
  rintro ⟨_, b5, d5, b9, d9⟩ _
  dsimp only
  repeat (first | refine T_seq ?_ | refine T_region ?_ | refine S_nil ?_ | refine S_pure tabOk rfl ?_)
  refine T_cond_dec rfl (fun h0 => ?_) (fun h0 => ?_)
  · have hne' : (cutB s g).L ≠ [] := fun e => by rw [e] at h0; exact absurd h0 (by decide)
    rw [if_neg hne'] at hrm
    refine T_share ((Rslice (Rint .u64)).vp (cutB s g).L) (fun w' h => (row_slr h rfl (fun x hx => hok.fit g hgm x (List.mem_filter.1 hx).1)).val) (fun Fo hFo => ?_)
    repeat (first | refine T_seq ?_ | refine T_region ?_ | refine S_nil ?_ | refine S_pure tabOk rfl ?_ | refine T_region_any ?_ | refine S_load tabOk 2 rfl rfl rfl ?_ | refine S_store tabOk 2 rfl rfl rfl rfl rfl rfl ?_)
    refine S_bslice tabOk rfl rfl rfl rfl rfl rfl rfl rfl rfl rfl rfl rfl (fun b47 hb47 => ?_)
    refine S_append (ty := 0) tabOk 4 (k := 1) (news := cellsG [⟨cutB s g, ⟨b9, (cutB s g).L.length, d9⟩⟩]) rfl rfl rfl rfl rfl rfl rfl rfl rfl (by decide) (fun w' hw => Sl.of_blk (hw.own _ (getE_mem (i := 0) rfl)) rfl (fun j u hu => by rw [Nat.zero_add]; exact hu)) (fun u hu => cellsG_one hu) (by simp only [maxLen]; omega) (by show (_ + _) * 48 ≤ _; omega) rfl (fun A1 C1 hc3 hd3 => ⟨_, rfl, ?_⟩)
    rw [← cellsG_app]
    repeat (first | refine T_region ?_ | refine S_nil ?_ | refine pthen_normal ?_ | refine inb_normal ?_ | refine S_i64 tabOk rfl (by omega) ?_ | refine S_pure tabOk rfl ?_)
    obtain ⟨KL', hKL'⟩ : ∃ KL', KL' = KL ++ [(⟨cutB s g, ⟨b9, (cutB s g).L.length, d9⟩⟩ : GX)] := ⟨_, rfl⟩
    have hKLn : KL'.length = KL.length + 1 := by rw [hKL', List.length_append]; rfl
    rw [← hKL', ← hKLn]
    skip
    exact ⟨⟨i + 1, b5, d5, KL', A1, C1, fun k => Fo k ∨ GL k⟩, ⟨by show i + 1 ≤ K.length; omega, by rw [hrm, hKL']; show List.map GX.g (KL ++ _) = _; rw [List.map_append]; rfl, by show KL'.length ≤ i + 1; omega, fun k hk => hk.elim (hFo k) (hGL k)⟩, by repeat (first | exact Sub.nil | refine Sub.cons rfl ?_), fun w' hw => by
      dsimp only
      exact (((hw.pm [1, 5, 4, 2, 6, 7, 8, 9, 3, 0] rfl rfl rfl).merge (Ψ := fun w => (okG KL').at_ w (fun k => Fo k ∨ GL k) (.bool true)) (fun q1 q2 => hKL' ▸ okG_snoc q1 q2) (Vp.loc (p := okG _))).pm [1, 0, 2, 3, 4, 5, 6, 7, 8] rfl rfl rfl).less (by repeat (first | exact Less.nil | refine Less.keep ?_ | refine Less.dropB (by first | assumption | omega) ?_)), by show K.length - (i + 1) < K.length - i; omega⟩
  · have hne' : (cutB s g).L = [] := List.length_eq_zero_iff.1 (by omega)
    rw [if_pos hne', List.append_nil] at hrm
    repeat (first | refine T_region ?_ | refine S_nil ?_ | refine pthen_normal ?_ | refine inb_normal ?_ | refine T_skip ?_ | refine S_i64 tabOk rfl (by omega) ?_ | refine S_pure tabOk rfl ?_)
    exact ⟨⟨i + 1, b5, d5, KL, a6, c6, GL⟩, ⟨by show i + 1 ≤ K.length; omega, hrm.symm, by show KL.length ≤ i + 1; omega, hGL⟩, by repeat (first | exact Sub.nil | refine Sub.cons rfl ?_), fun w' hw => by
      dsimp only
      exact (hw.pm [3, 4, 1, 5, 6, 7, 8, 0, 2] rfl rfl rfl).less (by repeat (first | exact Less.nil | refine Less.keep ?_ | refine Less.dropB (by first | assumption | omega) ?_ | refine Less.dropW (Nat.le_refl _) ?_)), by show K.length - (i + 1) < K.length - i; omega⟩
end
end Go.Proofs.Ytidhpofcofknhaa
