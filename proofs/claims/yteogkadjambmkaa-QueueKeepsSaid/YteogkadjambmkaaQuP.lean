/-
  A queue's New. Conditions: each theorem's own.
-/
import Derived.Test.YteogkadjambmkaaQuM
namespace Go.Proofs.Yteogkadjambmkaa
open Go Go.RowKit
set_option linter.unusedVariables false

theorem cloneI_ok (a : Option Addr) (n c : Nat) (l : List Int) (w : World) (h : Sl w 1 a n (l.map (.int .i64))) (hnil : a = none → n = 0) (hn : n ≤ 1000000) :
    Calls Try.prog 50 #[.slice a n c] w fun e w' => ∃ a c, e = .returned (.slice a n c) ∧ Below w.heap.size w w' ∧ w'.ownsRow w.heap.size 3 1 (.slice a n c) n (l.map (.int .i64)) := by
  refine enter1 Try.func50 rfl rfl (Hp.refl w) ?_
  repeat (first | refine T_seq ?_ | refine T_region ?_ | refine S_nil ?_ | refine S_pure tabOk rfl ?_)
  refine S_q (Q_eqnil tabOk rfl rfl rfl rfl rfl) ?_
  cases a with
  | none =>
    have h0 := hnil rfl
    subst h0
    have hl0 : l = [] := by
      have := h.len
      rw [List.length_map, Nat.zero_mul] at this
      exact List.eq_nil_of_length_eq_zero this
    subst hl0
    repeat (first | refine T_seq ?_ | refine T_region ?_ | refine S_nil ?_ | refine pthen_ret ?_ | refine T_ret ?_ | refine T_cond_t rfl ?_ | refine S_pure tabOk rfl ?_)
    exact ret1 rfl rfl (fun w' hw => ⟨none, 0, rfl, hw.below new_nil, World.ownsRow_nil w' _ _ _⟩)
  | some ad =>
    repeat (first | refine T_seq ?_ | refine T_region ?_ | refine S_nil ?_ | refine pthen_normal ?_ | refine T_skip ?_ | refine T_cond_f rfl ?_)
    refine S_bslice tabOk rfl rfl rfl rfl rfl rfl rfl rfl rfl rfl rfl rfl (fun b2 hb2 => ?_)
    repeat (first | refine S_pure tabOk rfl ?_)
    refine S_heap (ol' := [.row w.heap.size (.slice (some ⟨b2, 0, none⟩) 0 0) 3 1 0 []]) (fun w' h => Hp.closeRow (pre := []) (n := 0) (c := 0) h hb2 (by decide) (by decide) rfl) ?_
    refine S_append (ty := 0) tabOk 0 rfl rfl rfl rfl rfl rfl rfl rfl rfl (by decide) (fun w' hw => h.ext (hw.below (newrow hw 0 rfl (Nat.le_refl _) new_nil))) (fun u hu => by obtain ⟨x, _, rfl⟩ := List.mem_map.1 hu; rfl) (by simp only [maxLen]; omega) (by show (_ + _) * 8 ≤ _; omega) rfl (fun A' c' h1 h2 => ⟨_, rfl, ?_⟩)
    repeat (first | refine S_nil ?_ | refine T_ret ?_ | refine S_pure tabOk rfl ?_)
    rw [List.nil_append, Nat.zero_add]
    exact ret1 rfl rfl (fun w' hw => ⟨A', c', rfl, hw.below (newrow hw 0 rfl (Nat.le_refl _) new_nil), hw.own _ (getE_mem (i := 0) rfl)⟩)
/-- of a queue that is new -/
theorem QuR.first {w0 w : World} {base : Nat} {v : Value} {ws : List Int} {ol : OL} (hb : w0.heap.size ≤ base) (hh : Hp w0 w (.row base v 3 1 ws.length (ws.map (.int .i64)) :: ol)) :
    Hp w0 w (.rep (fun w => (quR ws [] [] [] v (.slice none 0 0)).at_ w (fun k => v.ownBlock = some k) (.bool true)) (fun k => v.ownBlock = some k) true :: ol) := by
  have o0 : w.ownsRow base 3 1 v ws.length (ws.map (.int .i64)) := hh.own _ (getE_mem (i := 0) rfl)
  refine Hp.regroup [.row base v 3 1 ws.length (ws.map (Value.int .i64))] [.rep (fun w => (quR ws [] [] [] v (.slice none 0 0)).at_ w (fun k => v.ownBlock = some k) (.bool true)) (fun k => v.ownBlock = some k) true] hh (fun e he => ?_) (fun e he => ?_) (List.pairwise_singleton _ _) (fun e he k hk => ?_) (fun e he k hk => ?_)
  · rw [List.mem_singleton] at he
    subst he; rfl
  · rw [List.mem_singleton] at he
    subst he
    exact ⟨rfl, (⟨⟨o0.1, o0.2.imp id fun ⟨g, cap, cur, h1, h2, h3⟩ => ⟨g, cap, cur, h1, Nat.zero_le _, h3⟩⟩, fun k hk => hk, World.ownsRow_nil w _ _ _, (fun k hk => by cases hk), MLz.nil⟩ : QuR ws [] [] [] v (.slice none 0 0) w _), Vp.loc (p := quR ws [] [] [] v (.slice none 0 0)), fun k hk => (World.ownsRow.lt o0 k hk).2⟩
  · rw [List.mem_singleton] at he
    subst he
    exact ⟨_, List.mem_cons_self, hk⟩
  · rw [List.mem_singleton] at he
    subst he
    exact .inr ⟨_, List.mem_cons_self, hk⟩
/-- may there be such a queue? -/
def qRight (cap : Int) (ws : List Int) : Bool := decide (rightW ws) && decide (1 ≤ cap ∧ cap ≤ 1099511627776)
set_option maxHeartbeats 4000000 in
theorem q_new (cap : Int) (a : Option Addr) (n c : Nat) (ws : List Int) (w : World) (hI : Ints .i64 w a n c ws) :
    Calls Try.prog 25 #[.int .i64 cap, .slice a n c] w fun e w' => if qRight cap ws = true then ∃ qb F, e = .returned (.tuple #[qptr qb, .int .i64 0]) ∧ (∀ k, F k → w.heap.size ≤ k) ∧ Hp w w' [.rep (fun w => (quA qb cap 0 ws [] 0).at_ w F (.bool true)) F true]
      else e = .returned (.tuple #[.pointer none, .int .i64 1]) ∧ Below w.heap.size w w' := by
  obtain rfl := hI.len
  refine enter2 Try.func25 rfl rfl (Hp.refl w) ?_
  repeat (first | refine T_seq ?_ | refine T_region ?_ | refine S_nil ?_ | refine S_pure tabOk rfl ?_)
  cases hr : decide (rightW ws) with
  | false =>
    refine S_callq (v := .bool false) rfl Try.call17 (fun w1 h1 => (sright_ok a _ c ws w1 (ints_ext hI (h1.below new_nil))).mono fun e w' ⟨e1, e2⟩ => ⟨by rw [e1, hr], e2⟩) ?_
    repeat (first | refine S_nil ?_ | refine S_pure tabOk rfl ?_ | refine S_pass rfl rfl rfl ?_)
    refine T_cond_t rfl ?_
    repeat (first | refine T_seq ?_ | refine T_region ?_ | refine S_nil ?_ | refine pthen_ret ?_ | refine T_ret ?_ | refine S_pure tabOk rfl ?_)
    exact ret2 rfl rfl rfl (fun w' hw => by
      rw [if_neg (by unfold qRight; rw [hr]; simp)]
      exact ⟨rfl, hw.below new_nil⟩)
  | true =>
  refine S_callq (v := .bool true) rfl Try.call17 (fun w1 h1 => (sright_ok a _ c ws w1 (ints_ext hI (h1.below new_nil))).mono fun e w' ⟨e1, e2⟩ => ⟨by rw [e1, hr], e2⟩) ?_
  repeat (first | refine S_pure tabOk rfl ?_)
  have hrw : rightW ws := of_decide_eq_true hr
  by_cases hc1 : cap < 1
  · refine S_re 13 (v' := .bool true) rfl (congrArg Value.bool (decide_eq_true hc1)) ?_
    repeat (first | refine S_nil ?_ | refine S_pure tabOk rfl ?_ | refine S_pass rfl rfl rfl ?_)
    refine T_cond_t rfl ?_
    repeat (first | refine T_seq ?_ | refine T_region ?_ | refine S_nil ?_ | refine pthen_ret ?_ | refine T_ret ?_ | refine S_pure tabOk rfl ?_)
    exact ret2 rfl rfl rfl (fun w' hw => by
      rw [if_neg (by unfold qRight; rw [hr, decide_eq_false (by omega)]; simp)]
      exact ⟨rfl, hw.below new_nil⟩)
  refine S_re 13 (v' := .bool false) rfl (congrArg Value.bool (decide_eq_false hc1)) ?_
  repeat (first | refine S_nil ?_ | refine S_pure tabOk rfl ?_)
  refine T_cond_dec rfl (fun hc2 => ?_) (fun hc2 => ?_)
  · repeat (first | refine T_seq ?_ | refine T_region ?_ | refine S_nil ?_ | refine pthen_ret ?_ | refine T_ret ?_ | refine S_pure tabOk rfl ?_)
    exact ret2 rfl rfl rfl (fun w' hw => by
      rw [if_neg (by unfold qRight; rw [hr, decide_eq_false (by omega)]; simp)]
      exact ⟨rfl, hw.below new_nil⟩)
  repeat (first | refine T_seq ?_ | refine pthen_normal ?_ | refine T_skip ?_)
  have hrt : qRight cap ws = true := by unfold qRight; rw [hr, decide_eq_true (by omega)]; rfl
  have h1w := hrw.1
  have h8w := hrw.2.1
  obtain ⟨zr, hzr⟩ : ∃ zr : List Int, zr = List.replicate ws.length 0 := ⟨_, rfl⟩
  have hmz : (madeCells #[.int .i64 0] (ws.length * 1)).toList = zr.map (Value.int .i64) := by rw [made_one, hzr, List.map_replicate]
  have cl : ∀ w1, Below w.heap.size w w1 → Calls Try.prog 50 #[.slice a ws.length c] w1 fun e w' => ∃ a c, e = .returned (.slice a ws.length c) ∧ Below w1.heap.size w1 w' ∧ w'.ownsRow w1.heap.size 3 1 (.slice a ws.length c) ws.length (ws.map (.int .i64)) := fun w1 hb =>
    cloneI_ok a ws.length c ws w1 (ints_ext hI hb).sl (fun h => (hI.nil h).1) (by omega)
  let cs : Value → Value → Value → List Value := fun v2 v3 v6 => [.int .i64 cap, v2, v3, .slice none 0 0, v6, .int .u64 0]
  let lst : Bool → Bool → Bool → Bool → Bool → Bool → Value × Nat → Value × Nat → Value × Nat → Value × Nat → Value × Nat → Value × Nat → OL := fun l2 l3 l6 l7 l8 l9 x2 x3 x6 x7 x8 x9 =>
    cond l2 [.row w.heap.size x2.1 3 1 ws.length (ws.map (.int .i64))] [] ++ (cond l3 [.blk x3.2 (mapO .u64 [] 0) true, factE (x3.1 = .map (some x3.2) ∧ w.heap.size ≤ x3.2)] [] ++ (cond l6 [.blk x6.2 (.cells ⟨zr.map (.int .i64)⟩ 3 (0, 0)) true, factE (x6.1 = .slice (some ⟨x6.2, 0, none⟩) ws.length ws.length ∧ w.heap.size ≤ x6.2)] [] ++ (cond l7 [factE (x7.1 = .agg ⟨cs x2.1 x3.1 x6.1⟩)] [] ++
      (cond l8 [.blk x8.2 (.cells ⟨cs x2.1 x3.1 x6.1⟩ 105 (0, 0)) true, factE (x8.1 = .pointer (some ⟨x8.2, 0, none⟩) ∧ w.heap.size ≤ x8.2)] [] ++ cond l9 [factE (x9.1 = x8.1)] []))))
  refine T_drawF (γ := Nat) (by kernel_rfl) (by kernel_rfl) 0 (fun L f => lst (L 2) (L 3) (L 6) (L 7) (L 8) (L 9) (f 2) (f 3) (f 6) (f 7) (f 8) (f 9)) rfl [some (.int .i64 cap), some (.slice a ws.length c), none, none, some (.slice a ws.length c), some (.int .i64 (ws.length : Int)), none, none, none, none, some (.int .i64 0)] ?_ ?_
  · refine ⟨?_, ?_, ?_, ?_, ?_, ?_, ?_, ?_, ?_, ?_, ?_, trivial⟩
    · exact fun L f hc hl hp => OpA.told 0 rfl (D_pure tabOk rfl D_last) rfl
    · exact fun L f hc hl hp => OpA.told 0 rfl (D_pure tabOk rfl D_last) rfl
    · intro L f hc hl hp
      have h7 := closed_no hc (j := 7) rfl ⟨2, .data⟩ (by simp) rfl hl
      have h8 := closed_no hc (j := 8) rfl ⟨7, .data⟩ (by simp) rfl h7
      have h9 := closed_no hc (j := 9) rfl ⟨8, .data⟩ (by simp) rfl h8
      show OpA _ _ _ _ (lst (L 2) (L 3) (L 6) (L 7) (L 8) (L 9) (f 2) (f 3) (f 6) (f 7) (f 8) (f 9)) (fun y => lst true (L 3) (L 6) (L 7) (L 8) (L 9) y (f 3) (f 6) (f 7) (f 8) (f 9)) _ _ _
      rw [hl, h7, h8, h9]
      cases L 3 <;> cases L 6 <;> exact OpA.callrow rfl Try.call50 (fun w1 vs hw1 h => by
        obtain ⟨u1, _, rfl, rfl, rfl⟩ := h
        first
          | exact cl w1 (hw1.below new_nil)
          | (have hb := (hw1.fact 3 rfl).2
             have hb2 := (hw1.fact 1 rfl).2
             exact cl w1 (hw1.below (by repeat (first | exact new_nil | refine new_ro ?_ | refine new_cons (by first | assumption | omega) ?_))))
          | (have hb := (hw1.fact 1 rfl).2
             exact cl w1 (hw1.below (by repeat (first | exact new_nil | refine new_ro ?_ | refine new_cons (by first | assumption | omega) ?_))))) (fun w1 v hw1 => ⟨0, hw1.perm (by repeat (first | exact List.Perm.refl _))⟩)
    · intro L f hc hl hp
      have h7 := closed_no hc (j := 7) rfl ⟨3, .data⟩ (by simp) rfl hl
      have h8 := closed_no hc (j := 8) rfl ⟨7, .data⟩ (by simp) rfl h7
      have h9 := closed_no hc (j := 9) rfl ⟨8, .data⟩ (by simp) rfl h8
      show OpA _ _ _ _ (lst (L 2) (L 3) (L 6) (L 7) (L 8) (L 9) (f 2) (f 3) (f 6) (f 7) (f 8) (f 9)) (fun y => lst (L 2) true (L 6) (L 7) (L 8) (L 9) (f 2) y (f 6) (f 7) (f 8) (f 9)) _ _ _
      rw [hl, h7, h8, h9]
      cases L 2 <;> cases L 6 <;> (
        refine OpA.ofS (l := []) rfl (by decide) .nil ?_
        refine S_makemap rfl .u64 (fun b hb => ?_)
        refine S_nil ?_
        have hf : Value.map (some b) = .map (some b) ∧ w.heap.size ≤ b := ⟨rfl, hb⟩
        first
          | exact ⟨_, b, rfl, (fun u h => by cases h), fun w' hw => (by have h9 := (hw.addF hf).pm [2, 1, 0] rfl rfl rfl; exact h9)⟩
          | exact ⟨_, b, rfl, (fun u h => by cases h), fun w' hw => (by have h9 := (hw.addF hf).pm [1, 0] rfl rfl rfl; exact h9)⟩)
    · exact fun L f hc hl hp => OpA.told 0 rfl (D_pure tabOk rfl D_last) rfl
    · exact fun L f hc hl hp => OpA.told 0 rfl (D_pure tabOk rfl D_last) rfl
    · intro L f hc hl hp
      have h7 := closed_no hc (j := 7) rfl ⟨6, .data⟩ (by simp) rfl hl
      have h8 := closed_no hc (j := 8) rfl ⟨7, .data⟩ (by simp) rfl h7
      have h9 := closed_no hc (j := 9) rfl ⟨8, .data⟩ (by simp) rfl h8
      show OpA _ _ _ _ (lst (L 2) (L 3) (L 6) (L 7) (L 8) (L 9) (f 2) (f 3) (f 6) (f 7) (f 8) (f 9)) (fun y => lst (L 2) (L 3) true (L 7) (L 8) (L 9) (f 2) (f 3) y (f 7) (f 8) (f 9)) _ _ _
      rw [hl, h7, h8, h9]
      cases L 2 <;> cases L 3 <;> (
        refine OpA.ofS (l := [(22, .int .i64 (ws.length : Int))]) rfl (by decide) (.cons rfl rfl .nil) ?_
        refine S_make tabOk rfl rfl rfl rfl rfl rfl (m := ws.length) (c := ws.length) rfl rfl (Nat.le_refl _) (by show 8 * _ ≤ _; omega) (by omega) (fun b hb => ?_)
        show S _ _ _ _ _ _ (.blk b (.cells ⟨(madeCells #[.int .i64 0] (ws.length * 1)).toList⟩ _ (0, 0)) true :: _) _ _
        rw [hmz]
        refine S_nil ?_
        have hf : Value.slice (some ⟨b, 0, none⟩) ws.length ws.length = .slice (some ⟨b, 0, none⟩) ws.length ws.length ∧ w.heap.size ≤ b := ⟨rfl, hb⟩
        first
          | exact ⟨_, b, rfl, (fun u h => by cases h), fun w' hw => (by have h9 := (hw.addF hf).pm [2, 3, 4, 1, 0] rfl rfl rfl; exact h9)⟩
          | exact ⟨_, b, rfl, (fun u h => by cases h), fun w' hw => (by have h9 := (hw.addF hf).pm [2, 3, 1, 0] rfl rfl rfl; exact h9)⟩
          | exact ⟨_, b, rfl, (fun u h => by cases h), fun w' hw => (by have h9 := (hw.addF hf).pm [2, 1, 0] rfl rfl rfl; exact h9)⟩
          | exact ⟨_, b, rfl, (fun u h => by cases h), fun w' hw => (by have h9 := (hw.addF hf).pm [1, 0] rfl rfl rfl; exact h9)⟩)
    · intro L f hc hl hp
      have h2 : L 2 = true := hp ⟨2, .data⟩ (by simp) rfl
      have h3 : L 3 = true := hp ⟨3, .data⟩ (by simp) rfl
      have h6 : L 6 = true := hp ⟨6, .data⟩ (by simp) rfl
      have h8 := closed_no hc (j := 8) rfl ⟨7, .data⟩ (by simp) rfl hl
      have h9 := closed_no hc (j := 9) rfl ⟨8, .data⟩ (by simp) rfl h8
      show OpA _ _ _ _ (lst (L 2) (L 3) (L 6) (L 7) (L 8) (L 9) (f 2) (f 3) (f 6) (f 7) (f 8) (f 9)) (fun y => lst (L 2) (L 3) (L 6) true (L 8) (L 9) (f 2) (f 3) (f 6) y (f 8) (f 9)) _ _ _
      rw [hl, h2, h3, h6, h8, h9]
      refine OpA.pre (X := (∃ A C, (f 2).1 = .slice A ws.length C) ∧ (f 3).1 = .map (some (f 3).2) ∧ (f 6).1 = .slice (some ⟨(f 6).2, 0, none⟩) ws.length ws.length) (fun w hw => ?_) (fun d h => by cases h; decide) ?_
      · obtain ⟨A, C, e2, _⟩ := hw.rowForm 0 rfl
        exact ⟨⟨A, C, e2⟩, (hw.fact 2 rfl).1, (hw.fact 4 rfl).1⟩
      · rintro ⟨⟨A, C, e2⟩, e3, e6⟩
        refine OpA.swap (dl' := [(17, .ex (.int .i64 cap)), (19, .ex (f 2).1), (20, .ex (f 3).1), (23, .ex (f 6).1)]) (List.forall_mem_cons.2 ⟨rfl, List.forall_mem_cons.2 ⟨rfl, List.forall_mem_cons.2 ⟨rfl, List.forall_mem_cons.2 ⟨rfl, fun _ h => nomatch h⟩⟩⟩⟩) ?_
        generalize f 2 = x2 at *
        generalize f 3 = x3 at *
        generalize f 6 = x6 at *
        obtain ⟨x2, g2⟩ := x2
        obtain ⟨x3, g3⟩ := x3
        obtain ⟨x6, g6⟩ := x6
        dsimp only at e2 e3 e6
        subst e2 e3 e6
        exact OpA.known 0 rfl (D_q (Q_build tabOk rfl rfl rfl rfl rfl rfl rfl) D_last) (fun w1 hw => by have h9 := (hw.addF (p := (Value.agg ⟨cs (.slice A ws.length C) (.map (some g3)) (.slice (some ⟨g6, 0, none⟩) ws.length ws.length)⟩ = .agg ⟨cs (.slice A ws.length C) (.map (some g3)) (.slice (some ⟨g6, 0, none⟩) ws.length ws.length)⟩)) rfl).pm [1, 2, 3, 4, 5, 0] rfl rfl rfl; exact h9)
    · intro L f hc hl hp
      have h7 : L 7 = true := hp ⟨7, .data⟩ (by simp) rfl
      have h2 : L 2 = true := hc 7 _ rfl h7 ⟨2, .data⟩ (by simp) rfl
      have h3 : L 3 = true := hc 7 _ rfl h7 ⟨3, .data⟩ (by simp) rfl
      have h6 : L 6 = true := hc 7 _ rfl h7 ⟨6, .data⟩ (by simp) rfl
      have h9 := closed_no hc (j := 9) rfl ⟨8, .data⟩ (by simp) rfl hl
      show OpA _ _ _ _ (lst (L 2) (L 3) (L 6) (L 7) (L 8) (L 9) (f 2) (f 3) (f 6) (f 7) (f 8) (f 9)) (fun y => lst (L 2) (L 3) (L 6) (L 7) true (L 9) (f 2) (f 3) (f 6) (f 7) y (f 9)) _ _ _
      rw [hl, h2, h3, h6, h7, h9]
      refine OpA.pre (X := ((∃ A C, (f 2).1 = .slice A ws.length C) ∧ (f 3).1 = .map (some (f 3).2) ∧ (f 6).1 = .slice (some ⟨(f 6).2, 0, none⟩) ws.length ws.length) ∧ (f 7).1 = .agg ⟨cs (f 2).1 (f 3).1 (f 6).1⟩) (fun w hw => ?_) (fun d h => by cases h; decide) ?_
      · obtain ⟨A, C, e2, _⟩ := hw.rowForm 0 rfl
        exact ⟨⟨⟨A, C, e2⟩, (hw.fact 2 rfl).1, (hw.fact 4 rfl).1⟩, hw.fact 5 rfl⟩
      · rintro ⟨⟨⟨A, C, e2⟩, e3, e6⟩, e7⟩
        refine OpA.swap (dl' := [(24, .ex (f 7).1)]) (List.forall_mem_cons.2 ⟨rfl, fun _ h => nomatch h⟩) ?_
        generalize f 2 = x2 at *
        generalize f 3 = x3 at *
        generalize f 6 = x6 at *
        generalize f 7 = x7 at *
        obtain ⟨x2, g2⟩ := x2
        obtain ⟨x3, g3⟩ := x3
        obtain ⟨x6, g6⟩ := x6
        obtain ⟨x7, g7⟩ := x7
        dsimp only at e2 e3 e6 e7
        subst e2 e3 e6 e7
        refine OpA.new tabOk rfl (fun w1 b hb hw => ⟨b, ?_⟩)
        have h9 := (hw.addF (p := Value.pointer (some ⟨b, 0, none⟩) = .pointer (some ⟨b, 0, none⟩) ∧ w.heap.size ≤ b) ⟨rfl, hb⟩).pm [2, 3, 4, 5, 6, 7, 1, 0] rfl rfl rfl
        exact h9
    · intro L f hc hl hp
      have h8 : L 8 = true := hp ⟨8, .data⟩ (by simp) rfl
      have h7 : L 7 = true := hc 8 _ rfl h8 ⟨7, .data⟩ (by simp) rfl
      have h2 : L 2 = true := hc 7 _ rfl h7 ⟨2, .data⟩ (by simp) rfl
      have h3 : L 3 = true := hc 7 _ rfl h7 ⟨3, .data⟩ (by simp) rfl
      have h6 : L 6 = true := hc 7 _ rfl h7 ⟨6, .data⟩ (by simp) rfl
      show OpA _ _ _ _ (lst (L 2) (L 3) (L 6) (L 7) (L 8) (L 9) (f 2) (f 3) (f 6) (f 7) (f 8) (f 9)) (fun y => lst (L 2) (L 3) (L 6) (L 7) (L 8) true (f 2) (f 3) (f 6) (f 7) (f 8) y) _ _ _
      rw [hl, h2, h3, h6, h7, h8]
      refine OpA.swap (dl' := [(25, .ex (f 8).1)]) (List.forall_mem_cons.2 ⟨rfl, fun _ h => nomatch h⟩) ?_
      exact OpA.known 0 rfl (D_pure tabOk rfl D_last) (fun w1 hw => by have h9 := (hw.addF (p := ((f 8).1 = (f 8).1)) rfl).pm [1, 2, 3, 4, 5, 6, 7, 8, 0] rfl rfl rfl; exact h9)
    · exact fun L f hc hl hp => OpA.told 0 rfl (D_pure tabOk rfl D_last) rfl
  · intro L f w5 hL hw
    change Hp _ _ (lst (L 2) (L 3) (L 6) (L 7) (L 8) (L 9) (f 2) (f 3) (f 6) (f 7) (f 8) (f 9)) at hw
    rw [hL 2 (by decide), hL 3 (by decide), hL 6 (by decide), hL 7 (by decide), hL 8 (by decide), hL 9 (by decide)] at hw
    obtain ⟨A, C, e2, _⟩ := hw.rowForm 0 rfl
    have e3 := hw.fact 2 rfl
    have e6 := hw.fact 4 rfl
    have e7 := hw.fact 5 rfl
    have e8 := hw.fact 7 rfl
    have e9 := hw.fact 8 rfl
    have e49 : (f 9).1 = qptr (f 8).2 := e9.trans e8.1
    refine ⟨[(4, (f 9).1), (5, .int .i64 0)], _, (by repeat (first | exact SubD.nil | refine SubD.cons rfl ?_)), hw, ?_⟩
    rw [e49]
    repeat (first | refine T_ret ?_)
    refine ret2 rfl rfl rfl (fun w' hw => ?_)
    rw [if_pos hrt]
    have hzl : zr.length = ws.length := by rw [hzr, List.length_replicate]
    have e6' : (f 6).1 = .slice (some ⟨(f 6).2, 0, none⟩) zr.length ws.length := by rw [hzl]; exact e6.1
    have h1 := hw.pm [0, 6, 1, 3, 2, 4, 5, 7, 8] rfl rfl rfl
    have hr0 : w'.ownsRow w.heap.size 3 1 (f 2).1 ws.length (ws.map (.int .i64)) := h1.own _ (getE_mem (i := 0) rfl)
    have h2 := (QuR.first (Nat.le_refl _) h1).pm [1, 2, 3, 0] rfl rfl rfl
    dsimp only [cs] at h2
    rw [e3.1, e6', ← List.append_nil (zr.map (Value.int .i64))] at h2
    have h3 := QuR.join (F' := fun k => (f 2).1.ownBlock = some k ∨ k = (f 8).2 ∨ k = (f 3).2 ∨ k = (f 6).2) h2 (by omega) (by simp only [maxLen]; omega) (by rw [List.append_nil, List.length_map, hzl]) MOk.nil (Nat.zero_le _) (fun k => Iff.rfl)
    refine ⟨(f 8).2, _, rfl, fun k hk => ?_, ((h3.turnX 0 rfl (Ψ := fun w => (quA (f 8).2 cap 0 ws [] 0).at_ w _ (.bool true)) (fun h9 => ⟨(f 3).2, zr, [], [], 0, (f 2).1, _, _, h9, NH.nil, ?_, Nat.le_refl _, Nat.le_refl _⟩) Vp.loc rfl).less (by repeat (first | exact Less.nil | refine Less.keep ?_ | refine Less.dropR ?_)))⟩
    · rcases hk with hk | rfl | rfl | rfl
      · exact (World.ownsRow.lt hr0 k hk).1
      · exact e8.2
      · exact e3.2
      · exact e6.2
    · rw [hzr]
      exact (List.eq_replicate_iff.2 ⟨by simp, fun b hb => by
        obtain ⟨i, _, rfl⟩ := List.mem_map.1 hb
        rfl⟩).symm
end Go.Proofs.Yteogkadjambmkaa
