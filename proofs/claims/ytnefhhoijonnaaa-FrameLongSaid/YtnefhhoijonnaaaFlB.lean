/-
  The walk of FrameLong. Conditions: each theorem's own.
-/
import Derived.Test.YtnefhhoijonnaaaFlA
namespace Go.Proofs.Ytnefhhoijonnaaa
open Go Go.RowKit
set_option linter.unusedVariables false

theorem name_ok {k : Int} {s : ByteArray} {l : List Value} {q : Bool} (h : FormI k l q) (hs : l[0]? = some (.string s)) (w : World) : Calls Try.prog 28 #[.int .u8 k] w fun e w' => e = .returned (.string s) ∧ Below w.heap.size w w' := by
  refine enter1 Try.func28 rfl rfl (Hp.refl w) ?_
  repeat (first | refine T_seq ?_ | refine T_region ?_ | refine S_nil ?_ | refine S_pure tabOk rfl ?_)
  cases h with
  | hello =>
    obtain rfl := Value.string.inj (Option.some.inj hs)
    refine S_callq rfl Try.call46 (fun w1 h1 => forms_ok .hello w1) ?_
    repeat (first | refine S_pure tabOk rfl ?_)
    refine S_new tabOk rfl (fun b hb => ?_)
    repeat (first | refine T_seq ?_ | refine T_region ?_ | refine S_nil ?_ | refine T_ret ?_ | refine S_pure tabOk rfl ?_ | refine S_load tabOk 0 rfl rfl rfl ?_ | refine S_store tabOk 0 rfl rfl rfl rfl rfl rfl ?_)
    exact ret1 rfl rfl (fun w' hw => ⟨rfl, hw.below (by repeat (first | exact new_nil | refine new_cons (by first | assumption | omega) ?_))⟩)
  | welcome =>
    obtain rfl := Value.string.inj (Option.some.inj hs)
    refine S_callq rfl Try.call46 (fun w1 h1 => forms_ok .welcome w1) ?_
    repeat (first | refine S_pure tabOk rfl ?_)
    refine S_new tabOk rfl (fun b hb => ?_)
    repeat (first | refine T_seq ?_ | refine T_region ?_ | refine S_nil ?_ | refine T_ret ?_ | refine S_pure tabOk rfl ?_ | refine S_load tabOk 0 rfl rfl rfl ?_ | refine S_store tabOk 0 rfl rfl rfl rfl rfl rfl ?_)
    exact ret1 rfl rfl (fun w' hw => ⟨rfl, hw.below (by repeat (first | exact new_nil | refine new_cons (by first | assumption | omega) ?_))⟩)
  | batch =>
    obtain rfl := Value.string.inj (Option.some.inj hs)
    refine S_callq rfl Try.call46 (fun w1 h1 => forms_ok .batch w1) ?_
    repeat (first | refine S_pure tabOk rfl ?_)
    refine S_new tabOk rfl (fun b hb => ?_)
    repeat (first | refine T_seq ?_ | refine T_region ?_ | refine S_nil ?_ | refine T_ret ?_ | refine S_pure tabOk rfl ?_ | refine S_load tabOk 0 rfl rfl rfl ?_ | refine S_store tabOk 0 rfl rfl rfl rfl rfl rfl ?_)
    exact ret1 rfl rfl (fun w' hw => ⟨rfl, hw.below (by repeat (first | exact new_nil | refine new_cons (by first | assumption | omega) ?_))⟩)
  | ack =>
    obtain rfl := Value.string.inj (Option.some.inj hs)
    refine S_callq rfl Try.call46 (fun w1 h1 => forms_ok .ack w1) ?_
    repeat (first | refine S_pure tabOk rfl ?_)
    refine S_new tabOk rfl (fun b hb => ?_)
    repeat (first | refine T_seq ?_ | refine T_region ?_ | refine S_nil ?_ | refine T_ret ?_ | refine S_pure tabOk rfl ?_ | refine S_load tabOk 0 rfl rfl rfl ?_ | refine S_store tabOk 0 rfl rfl rfl rfl rfl rfl ?_)
    exact ret1 rfl rfl (fun w' hw => ⟨rfl, hw.below (by repeat (first | exact new_nil | refine new_cons (by first | assumption | omega) ?_))⟩)
  | no k h9 =>
    obtain rfl := Value.string.inj (Option.some.inj hs)
    refine S_callq rfl Try.call46 (fun w1 h1 => forms_ok (.no _ h9) w1) ?_
    repeat (first | refine S_pure tabOk rfl ?_)
    refine S_new tabOk rfl (fun b hb => ?_)
    repeat (first | refine T_seq ?_ | refine T_region ?_ | refine S_nil ?_ | refine T_ret ?_ | refine S_pure tabOk rfl ?_ | refine S_load tabOk 0 rfl rfl rfl ?_ | refine S_store tabOk 0 rfl rfl rfl rfl rfl rfl ?_)
    exact ret1 rfl rfl (fun w' hw => ⟨rfl, hw.below (by repeat (first | exact new_nil | refine new_cons (by first | assumption | omega) ?_))⟩)
theorem item5_ok (x : Int) (a : Option Addr) (n c : Nat) (w : World) : Calls Try.prog 27 #[.int .u64 x, .slice a n c] w fun e w' => e = .returned (itV x 0 a n c) ∧ Below w.heap.size w w' := by
  refine enter2 Try.func27 rfl rfl (Hp.refl w) ?_
  repeat (first | refine T_seq ?_ | refine T_region ?_)
  refine S_new tabOk rfl (fun b hb => ?_)
  repeat (first | refine T_seq ?_ | refine T_region ?_ | refine S_nil ?_ | refine T_ret ?_ | refine S_pure tabOk rfl ?_ | refine S_store tabOk 0 rfl rfl rfl rfl rfl rfl ?_ | refine S_q (Q_build tabOk rfl rfl rfl rfl rfl rfl rfl) ?_)
  exact ret1 rfl (res_cell tabOk 0 rfl rfl rfl rfl) (fun w' hw => ⟨rfl, hw.below (by repeat (first | exact new_nil | refine new_cons (by first | assumption | omega) ?_))⟩)
theorem fill_set (b : Int) {M i : Nat} (h : i < M) : (List.replicate i b ++ List.replicate (M - i) 0).set i b = List.replicate (i + 1) b ++ List.replicate (M - (i + 1)) 0 := by
  rw [List.set_append_right _ _ (by rw [List.length_replicate]; exact Nat.le_refl _), List.length_replicate, Nat.sub_self, show M - i = (M - (i + 1)) + 1 by omega, List.replicate_succ, List.set_cons_zero, List.replicate_succ', List.append_assoc]
  rfl
theorem pm12 {α : Type} (x0 x1 x2 : α) : List.Perm [x0, x1, x2] [x2, x0, x1] := by
  have hP : List.Perm ([0, 1, 2] : List Nat) [2, 0, 1] := by decide
  exact hP.map fun i => ([x0, x1, x2][i]?).getD x0
structure LnI where
  i : Nat
  a : Option Addr
  c : Nat
set_option maxHeartbeats 4000000 in
theorem frameLong_walk (more body : Int) (W : World) (hmo : Fits .u8 more) (hbo : Fits .u8 body) : Calls Try.prog 6 #[.int .u8 more, .int .u8 body] W fun e w' => e = .returned (.bool true) ∧ Below W.heap.size W w' := by
  have hmo' := fits_u8 hmo
  refine enter2 Try.func6 rfl rfl (Hp.refl W) ?_
  repeat (first | refine T_seq ?_ | refine T_region ?_ | refine S_nil ?_ | refine S_pure tabOk rfl ?_)
  refine S_callq (v := .bool true) rfl Try.call14 (fun w1 h1 => awake5_ok w1) ?_
  repeat (first | refine T_seq ?_ | refine T_region ?_ | refine S_nil ?_ | refine pthen_normal ?_ | refine T_skip ?_ | refine T_cond_f rfl ?_ | refine S_i64 tabOk rfl (by omega) ?_ | refine S_pure tabOk rfl ?_)
  obtain ⟨m, hm⟩ : ∃ m : Nat, 65508 + more = (m : Int) := ⟨(65508 + more).toNat, by omega⟩
  have hm2 : 65508 ≤ m ∧ m ≤ 65763 := by omega
  have hzf : ∀ {m : Nat}, ∀ z ∈ List.replicate m (0 : Int), Fits .u8 z := fun z hz => by rw [List.eq_of_mem_replicate hz]; exact fits8 (by decide)
  refine S_make (m := m) (c := m) tabOk rfl rfl rfl rfl rfl rfl hm hm (Nat.le_refl _) (by show 1 * m ≤ _; omega) (by omega) (fun bM hbM => ?_)
  have hz : (madeCells #[.int .u8 0] (m * 1)).toList = (List.replicate m (0 : Int)).map (.int .u8) := by rw [toList_madeCells_one, List.map_replicate, Nat.mul_one]
  refine S_heap (ol' := [.blk bM (.cells ⟨(List.replicate m (0 : Int)).map (.int .u8)⟩ 5 (0, 0)) true]) (fun w h => by rw [← hz]; exact h) ?_
  have hd1 := decT_long m (by omega)
  refine S_callZ (decP (6, zH, [], [])) TT rfl Try.call25 (fun w1 h1 => by
    have := decode_v w1 (ints_lit (h1.own _ (getE_mem (i := 0) rfl)) (List.length_replicate (n := m)) hzf (by simp only [maxLen]; omega))
    rw [hd1] at this
    exact this.mono fun e w' ⟨r, e1, e2, e3⟩ => ⟨r, e1, e2, nbb' h1 e3⟩) (fun v0 F0 w1 hF hv => ⟨_, rfl, ?_⟩)
  obtain ⟨s5, rfl, hs5⟩ := hv
  clear hs5
  dsimp only
  repeat (first | refine S_pure tabOk rfl ?_)
  refine S_new tabOk rfl (fun b5 hb5 => ?_)
  repeat (first | refine T_seq ?_ | refine T_region ?_ | refine S_nil ?_ | refine S_pure tabOk rfl ?_ | refine S_store tabOk 0 rfl rfl rfl rfl rfl rfl ?_)
  obtain ⟨K, hK⟩ : ∃ K : Nat, K = 65507 := ⟨_, rfl⟩
  refine S_make (m := K) (c := K) tabOk rfl rfl rfl rfl rfl rfl (by omega) (by omega) (Nat.le_refl _) (by show 1 * K ≤ _; omega) (by omega) (fun bN hbN => ?_)
  have hz2 : (madeCells #[.int .u8 0] (K * 1)).toList = (List.replicate K (0 : Int)).map (.int .u8) := by rw [toList_madeCells_one, List.map_replicate, Nat.mul_one]
  refine S_toX (ι := Unit) (fun _ => True) (fun _ => [.blk bN (.cells ⟨(List.replicate K (0 : Int)).map (.int .u8)⟩ 5 (0, 0)) true]) (fun w hw => ⟨(), trivial, by
    rw [← hz2]
    exact hw.fewer (by repeat (first | exact new_nil | refine new_ro ?_ | refine new_cons (by first | assumption | omega) ?_)) (by repeat (first | exact List.Sublist.slnil | refine List.Sublist.cons_cons _ ?_ | refine List.Sublist.cons _ ?_))⟩) (fun _ _ => ?_)
  have hne : (decT (List.replicate K 0)).1 ≠ 6 := fun h => by
    have := (decT_zero K).1 h
    omega
  obtain ⟨⟨E, H, rs, its⟩, hd2⟩ : ∃ r, decT (List.replicate K 0) = r := ⟨_, rfl⟩
  rw [hd2] at hne
  dsimp only at hne
  refine S_callZ (decP (E, H, rs, its)) TT rfl Try.call25 (fun w1 h1 => by
    have := decode_v w1 (ints_lit (h1.own _ (getE_mem (i := 0) rfl)) (List.length_replicate (n := K)) hzf (by simp only [maxLen]; omega))
    rw [hd2] at this
    exact this.mono fun e w' ⟨r, e1, e2, e3⟩ => ⟨r, e1, e2, nbb' h1 e3⟩) (fun v0 F0 w1 hF hv => ⟨_, rfl, ?_⟩)
  obtain ⟨s7, rfl, hs7⟩ := hv
  clear hs7
  dsimp only
  repeat (first | refine S_pure tabOk rfl ?_)
  refine S_new tabOk rfl (fun b7 hb7 => ?_)
  repeat (first | refine T_seq ?_ | refine T_region ?_ | refine S_nil ?_ | refine S_pure tabOk rfl ?_ | refine S_store tabOk 0 rfl rfl rfl rfl rfl rfl ?_ | refine S_q (Q_build tabOk rfl rfl rfl rfl rfl rfl rfl) ?_)
  refine S_new tabOk rfl (fun b9 hb9 => ?_)
  repeat (first | refine T_seq ?_ | refine T_region ?_ | refine S_nil ?_ | refine S_store tabOk 0 rfl rfl rfl rfl rfl rfl ?_)
  obtain ⟨M, hM⟩ : ∃ K : Nat, K = 4096 := ⟨_, rfl⟩
  refine S_make (m := M) (c := M) tabOk rfl rfl rfl rfl rfl rfl (by omega) (by omega) (Nat.le_refl _) (by show 1 * M ≤ _; omega) (by omega) (fun bB hbB => ?_)
  have hz3 : (madeCells #[.int .u8 0] (M * 1)).toList = (List.replicate M (0 : Int)).map (.int .u8) := by rw [toList_madeCells_one, List.map_replicate, Nat.mul_one]
  refine S_toX (ι := Unit) (fun _ => True) (fun _ => [.blk bB (.cells ⟨(List.replicate 0 body ++ List.replicate (M - 0) 0).map (.int .u8)⟩ 5 (0, 0)) true, .blk b9 (fO hdL ⟨none, 0, 0, none, 0, 0⟩) true]) (fun w hw => ⟨(), trivial, by
    have e : (List.replicate 0 body ++ List.replicate (M - 0) (0 : Int)).map (Value.int .u8) = (madeCells #[.int .u8 0] (M * 1)).toList := by rw [hz3]; rfl
    rw [e]
    exact hw.fewer (by repeat (first | exact new_nil | refine new_ro ?_ | refine new_cons (by first | assumption | omega) ?_)) (by repeat (first | exact List.Sublist.slnil | refine List.Sublist.cons_cons _ ?_ | refine List.Sublist.cons _ ?_))⟩) (fun _ _ => ?_)
  repeat (first | refine T_seq ?_ | refine T_region ?_ | refine S_nil ?_ | refine S_pure tabOk rfl ?_)
  refine T_cut (ι := Unit) (fun _ => True) (fun _ => [(1, .int .u8 body), (6, .int .i64 6), (8, .int .i64 E), (9, .pointer (some ⟨b9, 0, none⟩)), (10, .slice (some ⟨bB, 0, none⟩) M M)])
    (fun _ => [.blk bB (.cells ⟨(List.replicate M body).map (.int .u8)⟩ 5 (0, 0)) true, .blk b9 (fO hdL ⟨none, 0, 0, none, 0, 0⟩) true]) ?_ ?_
  · refine T_block ?_
    refine T_loop (ι := Nat) (fun i => [(1, .int .u8 body), (6, .int .i64 6), (8, .int .i64 E), (9, .pointer (some ⟨b9, 0, none⟩)), (10, .slice (some ⟨bB, 0, none⟩) M M), (35, .int .i64 (M : Int)), (36, .int .i64 (i : Int))])
      (fun i => [.blk bB (.cells ⟨(List.replicate i body ++ List.replicate (M - i) 0).map (.int .u8)⟩ 5 (0, 0)) true, .blk b9 (fO hdL ⟨none, 0, 0, none, 0, 0⟩) true]) (fun i => i ≤ M) (fun i => M - i) 0 (Nat.zero_le _) (by repeat (first | exact Sub.nil | refine Sub.cons rfl ?_)) (fun w' hw => hw) ?_
    intro i hi
    repeat (first | refine T_seq ?_ | refine T_region ?_ | refine S_nil ?_ | refine S_pure tabOk rfl ?_)
    refine T_cond_dec rfl (fun h => ?_) (fun h => ?_)
    · have hi' : i < M := by omega
      repeat (first | refine T_seq ?_ | refine T_region ?_ | refine T_block ?_ | refine S_nil ?_ | refine pthen_normal ?_ | refine T_skip ?_ | refine S_pure tabOk rfl ?_ | refine T_region_any ?_)
      refine S_q (Q_idx1 tabOk rfl rfl rfl rfl rfl rfl rfl rfl (j := i) hi') ?_
      have hset : setMany ((List.replicate i body ++ List.replicate (M - i) 0).map (Value.int .u8)) (0 + i) [.int .u8 body] = some ((List.replicate (i + 1) body ++ List.replicate (M - (i + 1)) 0).map (Value.int .u8)) := by
        rw [Nat.zero_add, setMany_one (by rw [List.length_map, List.length_append, List.length_replicate, List.length_replicate]; omega), ← fill_set body hi', List.map_set]
      refine S_store_of tabOk 0 rfl rfl (fun u hu => by rw [List.mem_singleton] at hu; subst hu; rfl) rfl hset rfl ?_
      repeat (first | refine T_region ?_ | refine S_nil ?_ | refine pthen_normal ?_ | refine inb_normal ?_ | refine S_i64 tabOk rfl (by omega) ?_ | refine S_pure tabOk rfl ?_)
      exact ⟨i + 1, by omega, by repeat (first | exact Sub.nil | refine Sub.cons rfl ?_), fun w' hw => hw, by omega⟩
    · have e : i = M := by omega
      subst e
      repeat (first | refine pthen_normal ?_ | refine inb_hit ?_ | refine pthen_exit ?_ | refine T_exit ?_)
      refine ⟨(), trivial, by repeat (first | exact Sub.nil | refine Sub.cons rfl ?_), fun w' hw => ?_⟩
      rw [Nat.sub_self, show List.replicate 0 (0 : Int) = [] from rfl, List.append_nil] at hw
      exact hw
  · intro _ _
    obtain ⟨bs, hbs⟩ : ∃ l, l = List.replicate M body := ⟨_, rfl⟩
    rw [← hbs]
    have hbl : bs.length = 4096 := by rw [hbs, List.length_replicate, hM]
    have hbf : ∀ z ∈ bs, Fits .u8 z := fun z hz => by rw [hbs] at hz; rw [List.eq_of_mem_replicate hz]; exact hbo
    repeat (first | refine T_seq ?_ | refine T_region ?_ | refine T_block ?_ | refine S_nil ?_ | refine S_pure tabOk rfl ?_)
    subst hM
    have hbsl : ∀ {w' : World} {ol : OL} (j : Nat), Hp W w' ol → getE ol j = some (.blk bB (.cells ⟨bs.map (.int .u8)⟩ 5 (0, 0)) true) → SlR (Rint .u8) w' TT (some ⟨bB, 0, none⟩) 4096 4096 (List.replicate 4096 body) := fun j hh hi => by
      rw [← hbs]
      exact .of_ints (ints_lit (hh.own _ (getE_mem hi)) hbl hbf (by decide)) fun b' off hn e => trivial
    refine T_loop (ι := LnI) (fun i => [(6, .int .i64 6), (8, .int .i64 E), (9, .pointer (some ⟨b9, 0, none⟩)), (10, .slice (some ⟨bB, 0, none⟩) 4096 4096), (44, .int .u64 (i.i : Int))])
      (fun i => [.blk b9 (fO hdL ⟨none, 0, 0, i.a, i.i, i.c⟩) true, .row W.heap.size (.slice i.a i.i i.c) 54 3 i.i (cssL bB i.i).flatten, .blk bB (.cells ⟨bs.map (.int .u8)⟩ 5 (0, 0)) true]) (fun i => i.i ≤ 15) (fun i => 15 - i.i) ⟨0, none, 0⟩ (Nat.zero_le _) (by repeat (first | exact Sub.nil | refine Sub.cons rfl ?_)) (fun w' hw => (hw.nilRow 54 3).perm (pm12 ..)) ?_
    rintro ⟨i, a1, c1⟩ hi
    dsimp only at hi ⊢
    repeat (first | refine T_seq ?_ | refine T_region ?_ | refine S_nil ?_ | refine S_pure tabOk rfl ?_)
    refine T_cond_dec rfl (fun h => ?_) (fun h => ?_)
    · have hi' : i < 15 := by omega
      have hwr : IntKind.u64.wrap ((i : Int) + 1) = ((i + 1 : Nat) : Int) := by rw [IntKind.wrap_u64]; omega
      let ci : List Value := [.int .u64 (IntKind.u64.wrap ((i : Int) + 1)), .int .i64 0, .slice (some ⟨bB, 0, none⟩) 4096 4096]
      repeat (first | refine T_seq ?_ | refine T_region ?_ | refine T_block ?_ | refine S_nil ?_ | refine pthen_normal ?_ | refine T_skip ?_ | refine S_pure tabOk rfl ?_)
      let lst : Bool → Bool → Bool → Value → Value → OL := fun l6 l7 l9 x6 x7 =>
        .blk b9 (.cells ⟨[.int .u8 hdL.kd, .int .i64 hdL.ag, .int .u64 hdL.ep, .int .u64 hdL.inc, .int .u64 hdL.ba, .int .u64 hdL.cu, .int .u64 hdL.li, .slice none 0 0, cond l9 x7 (.slice a1 i c1)]⟩ 26 (0, 0)) true :: .row W.heap.size (cond l7 x7 (.slice a1 i c1)) 54 3 (cond l7 (i + 1) i) (cond l7 ((cssL bB i).flatten ++ ci) (cssL bB i).flatten) :: .blk bB (.cells ⟨bs.map (.int .u8)⟩ 5 (0, 0)) true :: cond l6 [.row W.heap.size x6 54 3 1 ci] []
      refine T_asThen ?_
      refine T_drawF (γ := Unit) (by kernel_rfl) (by kernel_rfl) () (fun L f => lst (L 6) (L 7) (L 9) (f 6).1 (f 7).1) rfl [some (.pointer (some ⟨b9, 8, none⟩)), some (.slice a1 i c1), some (.int .u64 (i : Int)), some (.int .u64 (IntKind.u64.wrap ((i : Int) + 1))), some (.slice (some ⟨bB, 0, none⟩) 4096 4096), some (.agg ⟨ci⟩), none, none, some (.pointer (some ⟨b9, 8, none⟩)), none] ?_ ?_
      · refine ⟨?_, ?_, ?_, ?_, ?_, ?_, ?_, ?_, ?_, ?_, trivial⟩
        · exact fun L f hc hl hp => OpA.told () rfl (D_pure tabOk rfl D_last) rfl
        · intro L f hc hl hp
          have h9 := closed_no hc (j := 9) rfl ⟨1, .phase⟩ (by simp) rfl hl
          show OpA _ _ _ _ (lst (L 6) (L 7) (L 9) (f 6).1 (f 7).1) (fun y => lst (L 6) (L 7) (L 9) (f 6).1 (f 7).1) _ _ _
          rw [h9]
          exact OpA.told () rfl (D_load tabOk 0 rfl rfl rfl D_last) rfl
        · exact fun L f hc hl hp => OpA.told () rfl (D_pure tabOk rfl D_last) rfl
        · exact fun L f hc hl hp => OpA.told () rfl (D_pure tabOk rfl D_last) rfl
        · exact fun L f hc hl hp => OpA.told () rfl (D_pure tabOk rfl D_last) rfl
        · exact fun L f hc hl hp => OpA.told () rfl (D_callx rfl Try.call27 (v := .agg ⟨ci⟩) (fun w' vs hw' h => by
            obtain ⟨u1, _, rfl, rfl, u2, _, rfl, rfl, rfl⟩ := h
            exact item5_ok _ _ _ _ w') D_last) rfl
        · intro L f hc hl hp
          have h7 := closed_no hc (j := 7) rfl ⟨6, .data⟩ (by simp) rfl hl
          have h9 := closed_no hc (j := 9) rfl ⟨7, .data⟩ (by simp) rfl h7
          show OpA _ _ _ _ (lst (L 6) (L 7) (L 9) (f 6).1 (f 7).1) (fun y => lst true (L 7) (L 9) y.1 (f 7).1) _ _ _
          rw [hl, h7, h9]
          exact OpA.bsliceR tabOk rfl rfl rfl rfl rfl rfl rfl rfl rfl rfl rfl rfl rfl rfl (fun w1 v hw1 => ⟨(), hw1.perm (by repeat (first | exact List.Perm.refl _ | refine (List.Perm.swap _ _ _).trans (List.Perm.cons _ ?_)))⟩)
        · intro L f hc hl hp
          have h6 : L 6 = true := hp ⟨6, .data⟩ (by simp) rfl
          have h9 := closed_no hc (j := 9) rfl ⟨7, .data⟩ (by simp) rfl hl
          show OpA _ _ _ _ (lst (L 6) (L 7) (L 9) (f 6).1 (f 7).1) (fun y => lst (L 6) true (L 9) (f 6).1 y.1) _ _ _
          rw [hl, h6, h9]
          refine OpA.pre (X := ∃ A C, (f 6).1 = .slice A 1 C) (fun w hw => ?_) (fun d h => by cases h; decide) ?_
          · obtain ⟨A, C, e2, _⟩ := hw.rowForm 3 rfl
            exact ⟨A, C, e2⟩
          · rintro ⟨A', C', e2⟩
            rw [e2]
            refine OpA.ofS (l := [(48, .slice a1 i c1), (53, .slice A' 1 C')]) rfl (by decide) (.cons rfl rfl (.cons rfl (by show some (Ent.ex (f 6).1) = _; rw [e2]) .nil)) ?_
            refine S_append (ty := 0) tabOk 1 (m := i) (v := .slice a1 i c1) (xs := (cssL bB i).flatten) (news := ci) rfl rfl rfl rfl rfl rfl rfl rfl rfl (by decide) (fun w' hw => Sl.of_own (hw.own _ (getE_mem (i := 3) rfl))) (by intro u hu; simp only [ci, List.mem_cons, List.not_mem_nil, or_false] at hu; rcases hu with rfl | rfl | rfl <;> rfl) (by simp only [maxLen]; omega) (by show (_ + _) * 40 ≤ _; omega) rfl (fun AS CS hcS hdS => ⟨_, rfl, ?_⟩)
            refine S_nil ?_
            exact ⟨_, (), rfl, (fun u h => by cases h), fun w hw => hw⟩
        · exact fun L f hc hl hp => OpA.told () rfl (D_pure tabOk rfl D_last) rfl
        · intro L f hc hl hp
          have h7 : L 7 = true := hp ⟨7, .data⟩ (by simp) rfl
          have h6 : L 6 = true := hc 7 _ rfl h7 ⟨6, .data⟩ (by simp) rfl
          show OpA _ _ _ _ (lst (L 6) (L 7) (L 9) (f 6).1 (f 7).1) (fun y => lst (L 6) (L 7) true (f 6).1 (f 7).1) _ _ _
          rw [hl, h7, h6]
          refine OpA.pre (X := ∃ A C, (f 7).1 = .slice A (i + 1) C) (fun w hw => ?_) (fun d h => by cases h) ?_
          · obtain ⟨A, C, e2, _⟩ := hw.rowForm 1 rfl
            exact ⟨A, C, e2⟩
          · rintro ⟨A', C', e2⟩
            refine OpA.swap (dl' := [(55, .ex (.pointer (some ⟨b9, 8, none⟩))), (54, .ex (f 7).1)]) (List.forall_mem_cons.2 ⟨rfl, List.forall_mem_cons.2 ⟨rfl, fun _ h => nomatch h⟩⟩) ?_
            generalize f 7 = x8 at *
            obtain ⟨x8, g8⟩ := x8
            dsimp only at e2
            subst e2
            exact OpS.toF () (fun u h => by cases h) (OpS.store tabOk 0 rfl rfl (fun u h => by rw [List.mem_singleton] at h; subst h; rfl) rfl rfl rfl)
      · intro L f w5 hL hw
        change Hp _ _ (lst (L 6) (L 7) (L 9) (f 6).1 (f 7).1) at hw
        rw [hL 6 (by decide), hL 7 (by decide), hL 9 (by decide)] at hw
        obtain ⟨A', C', e2, _⟩ := hw.rowForm 1 rfl
        generalize f 7 = x8 at hw e2 ⊢
        obtain ⟨x8, g8⟩ := x8
        have e3 : x8 = .slice A' (i + 1) C' := e2
        subst e3
        refine ⟨[(6, .int .i64 6), (8, .int .i64 E), (9, .pointer (some ⟨b9, 0, none⟩)), (10, .slice (some ⟨bB, 0, none⟩) 4096 4096), (44, .int .u64 (i : Int))], [.blk b9 (fO hdL ⟨none, 0, 0, A', i + 1, C'⟩) true, .row W.heap.size (.slice A' (i + 1) C') 54 3 (i + 1) ((cssL bB i).flatten ++ ci), .blk bB (.cells ⟨bs.map (.int .u8)⟩ 5 (0, 0)) true, .row W.heap.size (f 6).1 54 3 1 ci], ?_, hw, ?_⟩
        · repeat (first | exact SubD.nil | refine SubD.cons rfl ?_)
        · repeat (first | refine T_region ?_ | refine S_nil ?_ | refine pthen_normal ?_ | refine inb_normal ?_ | refine S_u64 tabOk rfl (by omega) ?_ | refine S_pure tabOk rfl ?_)
          refine ⟨⟨i + 1, A', C'⟩, by dsimp only; omega, by repeat (first | exact Sub.nil | refine Sub.cons rfl ?_), fun w' hw => ?_, by dsimp only; omega⟩
          dsimp only
          rw [cssL_flat, ← hwr]
          exact hw.less (by repeat (first | exact Less.nil | refine Less.keep ?_ | refine Less.dropW (Nat.le_refl _) ?_))
    · have e : i = 15 := by omega
      clear hi
      have hFs : ∀ {w' : World} {ol : OL} {a : Option Addr} {m c base : Nat} (j k : Nat), m ≤ 16 → Hp W w' ol → getE ol j = some (.blk bB (.cells ⟨bs.map (.int .u8)⟩ 5 (0, 0)) true) → getE ol k = some (.row base (.slice a m c) 54 3 m (cssL bB m).flatten) → FsR w' TT ⟨none, 0, 0, a, m, c⟩ [] (itsL body m) := fun j k hm hh h1 h2 =>
        ⟨SlR.nil_, Bod.slr (bod_long (hbsl j hh h1) _ hm) (hh.own _ (getE_mem h2)) (itsL_len _ _) fun _ _ _ => trivial⟩
      have hdf : hdL.Fit := ⟨fits8 (by decide), mk_i64 (by decide), (mk_u64 (n := 1) (by decide)), (mk_u64 (n := 0) (by decide)), (mk_u64 (n := 1) (by decide)), (mk_u64 (n := 0) (by decide)), (mk_u64 (n := 0) (by decide))⟩
      obtain ⟨hE15, hL15⟩ := encE_15 body
      obtain ⟨hE16, hL16⟩ := encE_16 body
      repeat (first | refine T_seq ?_ | refine T_region ?_ | refine pthen_normal ?_ | refine inb_hit ?_ | refine pthen_exit ?_ | refine T_exit ?_ | refine S_load tabOk 0 rfl rfl rfl ?_)
      refine S_callrow2 (m := (encZ hdL [] (itsL body i)).length) (xs := (encZ hdL [] (itsL body i)).map (.int .u8)) (v2 := .int .i64 (encE hdL [] (itsL body i))) (E := 5) (sz := 1) rfl Try.call20 (fun w1 h1 => encode_ok hdL ⟨none, 0, 0, a1, i, c1⟩ hdf w1 (hFs 2 1 (by omega) h1 rfl rfl) (Nat.zero_le _)) (fun a3 c3 hc3 hd3 => ?_)
      rw [show encE hdL [] (itsL body i) = 0 by rw [e]; exact hE15]
      repeat (first | refine T_seq ?_ | refine S_nil ?_ | refine S_pure tabOk rfl ?_)
      refine T_toX (ι := Unit) (fun _ => True) (fun _ => [.blk b9 (fO hdL ⟨none, 0, 0, a1, i, c1⟩) true, .row W.heap.size (.slice a1 i c1) 54 3 i (cssL bB i).flatten, .blk bB (.cells ⟨bs.map (.int .u8)⟩ 5 (0, 0)) true]) (fun w hw => ⟨(), trivial, hw.fewer (by repeat (first | exact new_nil | refine new_cons (by first | assumption | omega) ?_ | refine newrow hw 0 rfl (Nat.le_refl _) ?_ | refine newrow hw 2 rfl (Nat.le_refl _) ?_)) (by repeat (first | exact List.Sublist.slnil | refine List.Sublist.cons_cons _ ?_ | refine List.Sublist.cons _ ?_))⟩) (fun _ _ => ?_)
      let ci : List Value := [.int .u64 16, .int .i64 0, .slice (some ⟨bB, 0, none⟩) 4096 4096]
      let lst : Bool → Bool → Bool → Value → Value → OL := fun l4 l5 l7 x4 x5 =>
        .blk b9 (.cells ⟨[.int .u8 hdL.kd, .int .i64 hdL.ag, .int .u64 hdL.ep, .int .u64 hdL.inc, .int .u64 hdL.ba, .int .u64 hdL.cu, .int .u64 hdL.li, .slice none 0 0, cond l7 x5 (.slice a1 i c1)]⟩ 26 (0, 0)) true :: .row W.heap.size (cond l5 x5 (.slice a1 i c1)) 54 3 (cond l5 (i + 1) i) (cond l5 ((cssL bB i).flatten ++ ci) (cssL bB i).flatten) :: .blk bB (.cells ⟨bs.map (.int .u8)⟩ 5 (0, 0)) true :: cond l4 [.row W.heap.size x4 54 3 1 ci] []
      refine T_drawF (γ := Unit) (by kernel_rfl) (by kernel_rfl) () (fun L f => lst (L 4) (L 5) (L 7) (f 4).1 (f 5).1) rfl [some (.pointer (some ⟨b9, 8, none⟩)), some (.slice a1 i c1), some (.slice (some ⟨bB, 0, none⟩) 4096 4096), some (.agg ⟨ci⟩), none, none, some (.pointer (some ⟨b9, 8, none⟩)), none] ?_ ?_
      · refine ⟨?_, ?_, ?_, ?_, ?_, ?_, ?_, ?_, trivial⟩
        · exact fun L f hc hl hp => OpA.told () rfl (D_pure tabOk rfl D_last) rfl
        · intro L f hc hl hp
          have h7 := closed_no hc (j := 7) rfl ⟨1, .phase⟩ (by simp) rfl hl
          show OpA _ _ _ _ (lst (L 4) (L 5) (L 7) (f 4).1 (f 5).1) (fun y => lst (L 4) (L 5) (L 7) (f 4).1 (f 5).1) _ _ _
          rw [h7]
          exact OpA.told () rfl (D_load tabOk 0 rfl rfl rfl D_last) rfl
        · exact fun L f hc hl hp => OpA.told () rfl (D_pure tabOk rfl D_last) rfl
        · exact fun L f hc hl hp => OpA.told () rfl (D_callx rfl Try.call27 (v := .agg ⟨ci⟩) (fun w' vs hw' h => by
            obtain ⟨u1, _, rfl, rfl, u2, _, rfl, rfl, rfl⟩ := h
            exact item5_ok _ _ _ _ w') D_last) rfl
        · intro L f hc hl hp
          have h5 := closed_no hc (j := 5) rfl ⟨4, .data⟩ (by simp) rfl hl
          have h7 := closed_no hc (j := 7) rfl ⟨5, .data⟩ (by simp) rfl h5
          show OpA _ _ _ _ (lst (L 4) (L 5) (L 7) (f 4).1 (f 5).1) (fun y => lst true (L 5) (L 7) y.1 (f 5).1) _ _ _
          rw [hl, h5, h7]
          exact OpA.bsliceR tabOk rfl rfl rfl rfl rfl rfl rfl rfl rfl rfl rfl rfl rfl rfl (fun w1 v hw1 => ⟨(), hw1.perm (by repeat (first | exact List.Perm.refl _ | refine (List.Perm.swap _ _ _).trans (List.Perm.cons _ ?_)))⟩)
        · intro L f hc hl hp
          have h4 : L 4 = true := hp ⟨4, .data⟩ (by simp) rfl
          have h7 := closed_no hc (j := 7) rfl ⟨5, .data⟩ (by simp) rfl hl
          show OpA _ _ _ _ (lst (L 4) (L 5) (L 7) (f 4).1 (f 5).1) (fun y => lst (L 4) true (L 7) (f 4).1 y.1) _ _ _
          rw [hl, h4, h7]
          refine OpA.pre (X := ∃ A C, (f 4).1 = .slice A 1 C) (fun w hw => ?_) (fun d h => by cases h; decide) ?_
          · obtain ⟨A, C, e2, _⟩ := hw.rowForm 3 rfl
            exact ⟨A, C, e2⟩
          · rintro ⟨A', C', e2⟩
            rw [e2]
            refine OpA.ofS (l := [(63, .slice a1 i c1), (66, .slice A' 1 C')]) rfl (by decide) (.cons rfl rfl (.cons rfl (by show some (Ent.ex (f 4).1) = _; rw [e2]) .nil)) ?_
            refine S_append (ty := 0) tabOk 1 (m := i) (v := .slice a1 i c1) (xs := (cssL bB i).flatten) (news := ci) rfl rfl rfl rfl rfl rfl rfl rfl rfl (by decide) (fun w' hw => Sl.of_own (hw.own _ (getE_mem (i := 3) rfl))) (by intro u hu; simp only [ci, List.mem_cons, List.not_mem_nil, or_false] at hu; rcases hu with rfl | rfl | rfl <;> rfl) (by simp only [maxLen]; omega) (by show (_ + _) * 40 ≤ _; omega) rfl (fun AS CS hcS hdS => ⟨_, rfl, ?_⟩)
            refine S_nil ?_
            exact ⟨_, (), rfl, (fun u h => by cases h), fun w hw => hw⟩
        · exact fun L f hc hl hp => OpA.told () rfl (D_pure tabOk rfl D_last) rfl
        · intro L f hc hl hp
          have h5 : L 5 = true := hp ⟨5, .data⟩ (by simp) rfl
          have h4 : L 4 = true := hc 5 _ rfl h5 ⟨4, .data⟩ (by simp) rfl
          show OpA _ _ _ _ (lst (L 4) (L 5) (L 7) (f 4).1 (f 5).1) (fun y => lst (L 4) (L 5) true (f 4).1 (f 5).1) _ _ _
          rw [hl, h5, h4]
          refine OpA.pre (X := ∃ A C, (f 5).1 = .slice A (i + 1) C) (fun w hw => ?_) (fun d h => by cases h) ?_
          · obtain ⟨A, C, e2, _⟩ := hw.rowForm 1 rfl
            exact ⟨A, C, e2⟩
          · rintro ⟨A', C', e2⟩
            refine OpA.swap (dl' := [(68, .ex (.pointer (some ⟨b9, 8, none⟩))), (67, .ex (f 5).1)]) (List.forall_mem_cons.2 ⟨rfl, List.forall_mem_cons.2 ⟨rfl, fun _ h => nomatch h⟩⟩) ?_
            generalize f 5 = x8 at *
            obtain ⟨x8, g8⟩ := x8
            dsimp only at e2
            subst e2
            exact OpS.toF () (fun u h => by cases h) (OpS.store tabOk 0 rfl rfl (fun u h => by rw [List.mem_singleton] at h; subst h; rfl) rfl rfl rfl)
      · intro L f w5 hL hw
        change Hp _ _ (lst (L 4) (L 5) (L 7) (f 4).1 (f 5).1) at hw
        rw [hL 4 (by decide), hL 5 (by decide), hL 7 (by decide)] at hw
        obtain ⟨A', C', e2, _⟩ := hw.rowForm 1 rfl
        generalize f 5 = x8 at hw e2 ⊢
        obtain ⟨x8, g8⟩ := x8
        have e3 : x8 = .slice A' (i + 1) C' := e2
        subst e3
        refine ⟨[(6, .int .i64 6), (8, .int .i64 E), (9, .pointer (some ⟨b9, 0, none⟩)), (13, .slice a3 (encZ hdL [] (itsL body i)).length c3), (14, .int .i64 0)], [.blk b9 (fO hdL ⟨none, 0, 0, A', i + 1, C'⟩) true, .row W.heap.size (.slice A' (i + 1) C') 54 3 (i + 1) ((cssL bB i).flatten ++ ci), .blk bB (.cells ⟨bs.map (.int .u8)⟩ 5 (0, 0)) true, .row W.heap.size (f 4).1 54 3 1 ci], ?_, hw, ?_⟩
        · repeat (first | exact SubD.nil | refine SubD.cons rfl ?_)
        · repeat (first | refine T_seq ?_ | refine T_region ?_ | refine S_load tabOk 0 rfl rfl rfl ?_)
          have hcs : (cssL bB (i + 1)).flatten = (cssL bB i).flatten ++ ci := by rw [cssL_flat, e]; rfl
          refine S_toX (ι := Unit) (fun _ => True) (fun _ => [.blk b9 (fO hdL ⟨none, 0, 0, A', i + 1, C'⟩) true, .row W.heap.size (.slice A' (i + 1) C') 54 3 (i + 1) (cssL bB (i + 1)).flatten, .blk bB (.cells ⟨bs.map (.int .u8)⟩ 5 (0, 0)) true]) (fun w hw => ⟨(), trivial, by
            rw [hcs]
            exact hw.fewer (by repeat (first | exact new_nil | refine new_cons (by first | assumption | omega) ?_ | refine newrow hw 1 rfl (Nat.le_refl _) ?_ | refine newrow hw 3 rfl (Nat.le_refl _) ?_)) (by repeat (first | exact List.Sublist.slnil | refine List.Sublist.cons_cons _ ?_ | refine List.Sublist.cons _ ?_))⟩) (fun _ _ => ?_)
          obtain ⟨i2, hi2⟩ : ∃ i2, i2 = i + 1 := ⟨_, rfl⟩
          rw [← hi2]
          refine S_callrow2 (m := (encZ hdL [] (itsL body i2)).length) (xs := (encZ hdL [] (itsL body i2)).map (.int .u8)) (v2 := .int .i64 (encE hdL [] (itsL body i2))) (E := 5) (sz := 1) rfl Try.call20 (fun w1 h1 => encode_ok hdL ⟨none, 0, 0, A', i2, C'⟩ hdf w1 (hFs 2 1 (by omega) h1 rfl rfl) (Nat.zero_le _)) (fun a4 c4 hc4 hd4 => ?_)
          rw [show encE hdL [] (itsL body i2) = 6 by rw [hi2, e]; exact hE16]
          repeat (first | refine T_seq ?_ | refine T_region ?_ | refine S_nil ?_ | refine S_pure tabOk rfl ?_)
          refine S_re 76 (v' := .bool true) rfl rfl ?_
          skip
          refine S_re 80 (v' := .bool true) rfl (congrArg Value.bool (decide_eq_true hne)) ?_
          iterate 4 refine S_pure tabOk rfl ?_
          refine S_re 84 (v' := .bool true) rfl rfl ?_
          iterate 3 refine S_pure tabOk rfl ?_
          refine S_re 87 (v' := .bool true) rfl (congrArg Value.bool (decide_eq_true (by rw [e, hL15]; decide))) ?_
          repeat (first | refine S_pure tabOk rfl ?_)
          refine S_re 93 (v' := .bool true) rfl rfl ?_
          skip
          refine S_callq rfl Try.call28 (fun w1 h1 => name_ok .ack rfl w1) ?_
          refine S_q ((Q_streq rfl rfl rfl).eq (v' := .bool true) (by simp)) ?_
          repeat (first | refine S_pure tabOk rfl ?_)
          refine S_callq rfl Try.call28 (fun w1 h1 => name_ok (.no 5 (by decide)) rfl w1) ?_
          refine S_q ((Q_streq rfl rfl rfl).eq (v' := .bool true) (by simp)) ?_
          repeat (first | refine S_pure tabOk rfl ?_)
          refine S_callq rfl Try.call28 (fun w1 h1 => name_ok (.no 0 (by decide)) rfl w1) ?_
          refine S_q ((Q_streq rfl rfl rfl).eq (v' := .bool true) (by simp)) ?_
          repeat (first | refine S_nil ?_ | refine T_ret ?_ | refine S_pure tabOk rfl ?_)
          exact ret1 rfl rfl (fun w' hw => ⟨rfl, hw.below (by repeat (first | exact new_nil | refine new_cons (by first | assumption | omega) ?_ | refine newrow hw 0 rfl (Nat.le_refl _) ?_ | refine newrow hw 2 rfl (Nat.le_refl _) ?_))⟩)
end Go.Proofs.Ytnefhhoijonnaaa
