/-
  The walk of a queue's Victims. Conditions: each theorem's own. The document's example of a queue; which capacities and weights may be. Conditions: each theorem's own. The queue laws' few and weights. Conditions: each theorem's own. Who goes, one by one, off the list. Conditions: each theorem's own.
  Conditions: each theorem's own.
-/
import Derived.Test.YteogkadjambmkaaQa
namespace Go.Proofs.Yteogkadjambmkaa
open Go Go.RowKit
set_option linter.unusedVariables false


structure WI where
  i : Nat
  o : List Int × Bool
  ao : Option Addr
  co : Nat
structure VI where
  i : Nat
  vs : List Value
  us : List Value
  F : Nat → Prop
  G : Nat → Prop
section
variable {qb : Nat} {cap last : Int} {ws : List Int} {L : List QE} {K : Nat} {w : World} {F : Nat → Prop}
set_option maxHeartbeats 8000000 in
theorem q_victims (h : (quA qb cap last ws L K).at_ w F (.bool true)) (hok : QOk cap last ws L) (hlen : L.length ≤ 65535) (hrw : rightW ws) (hcap : 0 ≤ cap ∧ cap ≤ 1099511627776) {k : Int} {a : Option Addr} {m c : Nat} {zs : List Int} {A : Nat → Prop} (hz : SlR (Rint .u8) w A a m c zs) :
    Calls Try.prog 29 #[qptr qb, .agg #[.int .i64 k, .slice a m c]] w fun e w' => ∃ o E a2 c2, e = .returned (.tuple #[.slice a2 o.1.length c2, .bool o.2, .int .i64 E]) ∧ Below w.heap.size w w' ∧ w'.ownsRow w.heap.size 59 1 (.slice a2 o.1.length c2) o.1.length (o.1.map (.int .u64)) ∧ VicP cap ws L k m o E := by
  have hws := hrw.2.1
  have hws1 := hrw.1
  obtain ⟨mb, bys, s, M, cc, wv, lv, bv, hS, hN, hbys, hcK, hsc⟩ := h
  obtain rfl := hz.len
  obtain ⟨F2, hst⟩ := Hp.startR (p := quV qb mb cap last ws bys s M cc L wv lv bv) (v := .bool true) hS
  refine enter2 Try.func29 rfl rfl hst ?_
  repeat (first | refine T_seq ?_ | refine T_region ?_)
  refine S_new tabOk rfl (fun b3 hb3 => ?_)
  repeat (first | refine T_seq ?_ | refine T_region ?_ | refine T_block ?_ | refine S_nil ?_ | refine S_pure tabOk rfl ?_)
  refine S_q (Q_eqptr tabOk rfl rfl rfl rfl rfl) ?_
  repeat (first | refine S_nil ?_ | refine S_pure tabOk rfl ?_)
  refine T_cond_f rfl ?_
  repeat (first | refine T_seq ?_ | refine T_region ?_ | refine S_pure tabOk rfl ?_ | refine S_load tabOk 0 rfl rfl rfl ?_)
  refine S_callq (v := .bool (sright k zs.length && decide (k < (ws.length : Int)))) rfl Try.call34 (fun w1 h1 => q_takes (K := K) ⟨mb, bys, s, M, cc, wv, lv, bv, (h1.own _ (getE_mem (i := 1) rfl)).1, hN, hbys, hcK, hsc⟩ k a zs.length c) ?_
  repeat (first | refine S_nil ?_ | refine S_pure tabOk rfl ?_)
  cases ht : (sright k zs.length && decide (k < (ws.length : Int))) with
  | false =>
    refine T_cond_t rfl ?_
    repeat (first | refine T_seq ?_ | refine T_region ?_ | refine S_nil ?_ | refine inb_ret ?_ | refine pthen_ret ?_ | refine T_ret ?_ | refine S_pure tabOk rfl ?_)
    exact ret3 rfl rfl rfl rfl (fun w' hw => ⟨([], false), 1, none, 0, rfl, hw.below (by repeat (first | exact new_nil | refine new_ro ?_ | refine new_cons (by first | assumption | omega) ?_)), World.ownsRow_nil w' _ _ _, by unfold VicP; rw [if_neg (by rw [ht]; decide)]; exact ⟨rfl, rfl⟩⟩)
  | true =>
  refine T_cond_f rfl ?_
  have hr2 := ht
  unfold sright at hr2
  simp only [Bool.and_eq_true, decide_eq_true_eq] at hr2
  obtain ⟨⟨hk0, hk8, hz4⟩, hkw⟩ := hr2
  have hsz : 0 ≤ qSum L ∧ qSum L ≤ (L.length : Int) * 4112 := size_sum L fun x hx => (hok.cls x hx).2.2.2
  repeat (first | refine T_draw (by kernel_rfl) (by kernel_rfl) ?_ | refine D_load tabOk 0 rfl rfl rfl ?_ | refine T_seq ?_)
  refine D_callx (v := .int .i64 ((zs.length : Int) + 16)) rfl Try.call35 (fun w' vs hw' h => by
    obtain ⟨u1, _, rfl, rfl, rfl⟩ := h
    exact spsize_ok k a zs.length c w' (by omega)) ?_
  repeat (first | refine D_pure tabOk rfl ?_)
  refine D_load1 tabOk (v := .int .i64 cap) rfl rfl (fun w' hw => QuS.cell (hw.own _ (getE_mem (i := 1) rfl)).1 (j := 0) rfl) ?_
  repeat (first | refine D_all rfl ?_ | refine D_pure tabOk rfl ?_)
  refine T_cond_dec rfl (fun hlo => ?_) (fun hlo => ?_)
  · repeat (first | refine T_seq ?_ | refine T_region ?_ | refine S_nil ?_ | refine inb_ret ?_ | refine pthen_ret ?_ | refine T_ret ?_ | refine S_pure tabOk rfl ?_)
    exact ret3 rfl rfl rfl rfl (fun w' hw => ⟨([], false), 6, none, 0, rfl, hw.below (by repeat (first | exact new_nil | refine new_ro ?_ | refine new_cons (by first | assumption | omega) ?_)), World.ownsRow_nil w' _ _ _, by unfold VicP; rw [if_pos ht, if_pos hlo]; exact ⟨rfl, rfl⟩⟩)
  repeat (first | refine T_seq ?_ | refine pthen_normal ?_ | refine inb_normal ?_ | refine T_skip ?_)
  obtain ⟨a2, cw, rfl, hcw⟩ := form_of_own hS.ws
  have hmz1 : (madeCells #[.slice none 0 0] (ws.length * 1)).toList = List.replicate ws.length (Value.slice none 0 0) := made_one _ _
  let lst : Bool → Bool → Bool → Bool → Value × Nat → Value × Nat → Value × Nat → Value × Nat → OL := fun l5 l11 l12 l13 x5 x11 x12 x13 =>
    .blk b3 (.cells ⟨[.int .i64 k, .slice a zs.length c]⟩ 52 (0, 0)) true :: .rep (fun w => (quV qb mb cap last ws bys s M cc L (.slice a2 ws.length cw) lv bv).at_ w F2 (.bool true)) F2 false :: (cond l5 [.blk x5.2 (.cells ⟨List.replicate ws.length (.slice none 0 0)⟩ 22 (0, 0)) true, factE (x5.1 = .slice (some ⟨x5.2, 0, none⟩) ws.length ws.length ∧ w.heap.size ≤ x5.2)] [] ++
      (cond l11 [.blk x11.2 (.cells ⟨List.replicate ws.length (.slice none 0 0)⟩ 61 (0, 0)) true, factE (x11.1 = .slice (some ⟨x11.2, 0, none⟩) ws.length ws.length ∧ w.heap.size ≤ x11.2)] [] ++ (cond l12 [factE (x12.1 = x5.1)] [] ++ cond l13 [factE (x13.1 = x11.1)] [])))
  refine T_drawF (γ := Nat) (by kernel_rfl) (by kernel_rfl) 0 (fun L f => lst (L 5) (L 11) (L 12) (L 13) (f 5) (f 11) (f 12) (f 13)) rfl [some (qptr qb), some (qptr qb), some (.pointer (some ⟨qb, 1, none⟩)), some (.slice a2 ws.length cw), some (.int .i64 (ws.length : Int)), none, some (qptr qb), some (qptr qb), some (.pointer (some ⟨qb, 1, none⟩)), some (.slice a2 ws.length cw), some (.int .i64 (ws.length : Int)), none, none, none] ?_ ?_
  · refine ⟨?_, ?_, ?_, ?_, ?_, ?_, ?_, ?_, ?_, ?_, ?_, ?_, ?_, ?_, trivial⟩
    · exact fun L f hc hl hp => OpA.told 0 rfl (D_pure tabOk rfl D_last) rfl
    · exact fun L f hc hl hp => OpA.told 0 rfl (D_pure tabOk rfl D_last) rfl
    · exact fun L f hc hl hp => OpA.told 0 rfl (D_pure tabOk rfl D_last) rfl
    · exact fun L f hc hl hp => OpA.told 0 rfl (D_load1 tabOk (v := .slice a2 ws.length cw) rfl rfl (fun w' hw => QuS.cell (hw.own _ (getE_mem (i := 1) rfl)).1 (j := 1) rfl) D_last) rfl
    · exact fun L f hc hl hp => OpA.told 0 rfl (D_pure tabOk rfl D_last) rfl
    · intro L f hc hl hp
      have h12 := closed_no hc (j := 12) rfl ⟨5, .data⟩ (by simp) rfl hl
      show OpA _ _ _ _ (lst (L 5) (L 11) (L 12) (L 13) (f 5) (f 11) (f 12) (f 13)) (fun y => lst true (L 11) (L 12) (L 13) y (f 11) (f 12) (f 13)) _ _ _
      rw [hl, h12]
      refine OpA.ofS (l := [(38, .int .i64 (ws.length : Int))]) rfl (by decide) (.cons rfl rfl .nil) ?_
      refine S_make tabOk rfl rfl rfl rfl rfl rfl (m := ws.length) (c := ws.length) rfl rfl (Nat.le_refl _) (by show 24 * _ ≤ _; omega) (by omega) (fun b hb => ?_)
      show S _ _ _ _ _ _ (.blk b (.cells ⟨(madeCells #[.slice none 0 0] (ws.length * 1)).toList⟩ _ (0, 0)) true :: _) _ _
      rw [hmz1]
      refine S_nil ?_
      have hf : Value.slice (some ⟨b, 0, none⟩) ws.length ws.length = .slice (some ⟨b, 0, none⟩) ws.length ws.length ∧ w.heap.size ≤ b := ⟨rfl, hb⟩
      exact ⟨_, b, rfl, (fun u h => by cases h), fun w' hw => by
        have h9 := (hw.addF hf).pm [2, 3, 1, 0] rfl rfl rfl
        exact h9⟩
    · exact fun L f hc hl hp => OpA.told 0 rfl (D_pure tabOk rfl D_last) rfl
    · exact fun L f hc hl hp => OpA.told 0 rfl (D_pure tabOk rfl D_last) rfl
    · exact fun L f hc hl hp => OpA.told 0 rfl (D_pure tabOk rfl D_last) rfl
    · exact fun L f hc hl hp => OpA.told 0 rfl (D_load1 tabOk (v := .slice a2 ws.length cw) rfl rfl (fun w' hw => QuS.cell (hw.own _ (getE_mem (i := 1) rfl)).1 (j := 1) rfl) D_last) rfl
    · exact fun L f hc hl hp => OpA.told 0 rfl (D_pure tabOk rfl D_last) rfl
    · intro L f hc hl hp
      have h13 := closed_no hc (j := 13) rfl ⟨11, .data⟩ (by simp) rfl hl
      show OpA _ _ _ _ (lst (L 5) (L 11) (L 12) (L 13) (f 5) (f 11) (f 12) (f 13)) (fun y => lst (L 5) true (L 12) (L 13) (f 5) y (f 12) (f 13)) _ _ _
      rw [hl, h13]
      refine OpA.ofS (l := [(44, .int .i64 (ws.length : Int))]) rfl (by decide) (.cons rfl rfl .nil) ?_
      refine S_make tabOk rfl rfl rfl rfl rfl rfl (m := ws.length) (c := ws.length) rfl rfl (Nat.le_refl _) (by show 24 * _ ≤ _; omega) (by omega) (fun b hb => ?_)
      show S _ _ _ _ _ _ (.blk b (.cells ⟨(madeCells #[.slice none 0 0] (ws.length * 1)).toList⟩ _ (0, 0)) true :: _) _ _
      rw [hmz1]
      refine S_nil ?_
      have hf : Value.slice (some ⟨b, 0, none⟩) ws.length ws.length = .slice (some ⟨b, 0, none⟩) ws.length ws.length ∧ w.heap.size ≤ b := ⟨rfl, hb⟩
      cases h5 : L 5 with
      | false =>
        exact ⟨_, b, rfl, (fun u h => by cases h), fun w' hw => by
          have h9 := (hw.addF hf).pm [2, 3, 1, 0] rfl rfl rfl
          exact h9⟩
      | true =>
        exact ⟨_, b, rfl, (fun u h => by cases h), fun w' hw => by
          have h9 := (hw.addF hf).pm [2, 3, 4, 5, 1, 0] rfl rfl rfl
          exact h9⟩
    · intro L f hc hl hp
      have h5 : L 5 = true := hp ⟨5, .data⟩ (by simp) rfl
      have h13 := closed_no hc (j := 13) rfl ⟨12, .chain⟩ (by simp) rfl hl
      show OpA _ _ _ _ (lst (L 5) (L 11) (L 12) (L 13) (f 5) (f 11) (f 12) (f 13)) (fun y => lst (L 5) (L 11) true (L 13) (f 5) (f 11) y (f 13)) _ _ _
      rw [hl, h5, h13]
      refine OpA.swap (dl' := [(39, .ex (f 5).1)]) (List.forall_mem_cons.2 ⟨rfl, fun _ h => nomatch h⟩) ?_
      exact OpA.known 0 rfl (D_pure tabOk rfl D_last) (fun w1 hw => by
        cases h11 : L 11 with
        | false =>
          rw [h11] at hw
          have h9 := (hw.addF (p := ((f 5).1 = (f 5).1)) rfl).pm [1, 2, 3, 4, 0] rfl rfl rfl
          exact h9
        | true =>
          rw [h11] at hw
          have h9 := (hw.addF (p := ((f 5).1 = (f 5).1)) rfl).pm [1, 2, 3, 4, 5, 6, 0] rfl rfl rfl
          exact h9)
    · intro L f hc hl hp
      have h11 : L 11 = true := hp ⟨11, .data⟩ (by simp) rfl
      have h12 : L 12 = true := hp ⟨12, .chain⟩ (by simp) rfl
      have h5 : L 5 = true := hc 12 _ rfl h12 ⟨5, .data⟩ (by simp) rfl
      show OpA _ _ _ _ (lst (L 5) (L 11) (L 12) (L 13) (f 5) (f 11) (f 12) (f 13)) (fun y => lst (L 5) (L 11) (L 12) true (f 5) (f 11) (f 12) y) _ _ _
      rw [hl, h5, h11, h12]
      refine OpA.swap (dl' := [(45, .ex (f 11).1)]) (List.forall_mem_cons.2 ⟨rfl, fun _ h => nomatch h⟩) ?_
      exact OpA.known 0 rfl (D_pure tabOk rfl D_last) (fun w1 hw => by
        have h9 := (hw.addF (p := ((f 11).1 = (f 11).1)) rfl).pm [1, 2, 3, 4, 5, 6, 7, 0] rfl rfl rfl
        exact h9)
  intro Lf f w5 hL hw5
  change Hp _ _ (lst (Lf 5) (Lf 11) (Lf 12) (Lf 13) (f 5) (f 11) (f 12) (f 13)) at hw5
  rw [hL 5 (by decide), hL 11 (by decide), hL 12 (by decide), hL 13 (by decide)] at hw5
  have e5 := hw5.fact 3 rfl
  have e11 := hw5.fact 5 rfl
  have e12 := (hw5.fact 6 rfl).trans e5.1
  have e13 := (hw5.fact 7 rfl).trans e11.1
  obtain ⟨b7, hb7e⟩ : ∃ b7, b7 = (f 5).2 := ⟨_, rfl⟩
  obtain ⟨b8, hb8e⟩ : ∃ b8, b8 = (f 11).2 := ⟨_, rfl⟩
  rw [← hb7e] at e5 e12
  rw [← hb8e] at e11 e13
  have hb7 := e5.2
  have hb8 := e11.2
  refine ⟨[(0, qptr qb), (3, .pointer (some ⟨b3, 0, none⟩)), (4, .slice none 0 0), (5, .bool false), (6, .int .i64 0), (7, (f 12).1), (8, (f 13).1)], [.blk b3 (.cells ⟨[.int .i64 k, .slice a zs.length c]⟩ 52 (0, 0)) true, .rep (fun w => (quV qb mb cap last ws bys s M cc L (.slice a2 ws.length cw) lv bv).at_ w F2 (.bool true)) F2 false, .blk b7 (.cells ⟨List.replicate ws.length (.slice none 0 0)⟩ 22 (0, 0)) true, .blk b8 (.cells ⟨List.replicate ws.length (.slice none 0 0)⟩ 61 (0, 0)) true], (by repeat (first | exact SubD.nil | refine SubD.cons rfl ?_)), (by rw [hb7e, hb8e]; exact hw5.less (by repeat (first | exact Less.nil | refine Less.keep ?_ | refine Less.dropR ?_))), ?_⟩
  rw [e12, e13]
  clear hw5 hL e12 e13 e5 e11 hb7e hb8e
  clear f Lf lst
  repeat (first | refine T_seq ?_ | refine T_region ?_ | refine S_pure tabOk rfl ?_)
  refine S_call rfl Try.call31 (fun w1 h1 => (q_numbers (K := K) ⟨mb, bys, s, M, cc, _, lv, bv, (h1.own _ (getE_mem (i := 1) rfl)).1, hN, hbys, hcK, hsc⟩ hok.srt hlen).mono fun e w' ⟨v, e1, hnil, h2⟩ => ⟨v, _, e1, h1.fresh (h2.below (newrow h2 0 rfl (Nat.le_refl _) new_nil)) (x := .row w.heap.size v 59 1 L.length (L.map fun x : QE => .int .u64 x.1)) (by
    have h9 : w'.ownsRow w1.heap.size 59 1 v (L.map fun x : QE => x.1).length ((L.map fun x : QE => x.1).map (.int .u64)) := h2.own _ List.mem_cons_self
    rw [List.length_map, List.map_map] at h9
    exact ownsRow_base h9 h1.size) (fun k hk => (World.ownsRow.lt (h2.own _ List.mem_cons_self) k hk).1), ?_⟩)
  obtain ⟨an, cn, rfl, hcn⟩ : ∃ an cn, v = .slice an L.length cn ∧ (0 < L.length → ∃ g, an = some ⟨g, 0, none⟩) := by
    rcases hnil with ⟨rfl, h0⟩ | ⟨g, c2, rfl, _⟩
    · have h00 : L.length = 0 := by rw [← List.length_map (f := fun x : QE => x.1), h0]; rfl
      exact ⟨none, 0, by rw [h00], fun h => by omega⟩
    · exact ⟨_, _, by rw [List.length_map], fun _ => ⟨g, rfl⟩⟩
  repeat (first | refine S_nil ?_ | refine S_pure tabOk rfl ?_)
  let O1 : VI → OL := fun i => [.rep (fun w => (LLs 3 .i64 (fun _ => True) i.vs (szs (L.take i.i) ws.length)).at_ w i.F (.bool true)) i.F true, .rep (fun w => (LLs 59 .u64 (fun _ => True) i.us (nms (L.take i.i) ws.length)).at_ w i.G (.bool true)) i.G true, .blk b7 (.cells ⟨i.vs⟩ 22 (0, 0)) true, .blk b8 (.cells ⟨i.us⟩ 61 (0, 0)) true, .row w.heap.size (.slice an L.length cn) 59 1 L.length (L.map fun x : QE => .int .u64 x.1), .blk b3 (.cells ⟨[.int .i64 k, .slice a zs.length c]⟩ 52 (0, 0)) true, .rep (fun w => (quV qb mb cap last ws bys s M cc L (.slice a2 ws.length cw) lv bv).at_ w F2 (.bool true)) F2 false]
  refine T_cut (ι := VI) (fun i => i.i = L.length ∧ i.vs.length = ws.length ∧ i.us.length = ws.length ∧ (∀ k, i.F k → w.heap.size ≤ k) ∧ ∀ k, i.G k → w.heap.size ≤ k) (fun _ => [(0, qptr qb), (3, .pointer (some ⟨b3, 0, none⟩)), (4, .slice none 0 0), (5, .bool false), (6, .int .i64 0), (7, .slice (some ⟨b7, 0, none⟩) ws.length ws.length), (8, .slice (some ⟨b8, 0, none⟩) ws.length ws.length)]) O1 ?_ ?_
  · refine T_block ?_
    refine T_loop (ι := VI) (fun i => [(0, qptr qb), (3, .pointer (some ⟨b3, 0, none⟩)), (4, .slice none 0 0), (5, .bool false), (6, .int .i64 0), (7, .slice (some ⟨b7, 0, none⟩) ws.length ws.length), (8, .slice (some ⟨b8, 0, none⟩) ws.length ws.length), (47, .slice an L.length cn), (48, .int .i64 (L.length : Int)), (49, .int .i64 (i.i : Int))]) O1 (fun i => i.i ≤ L.length ∧ i.vs.length = ws.length ∧ i.us.length = ws.length ∧ (∀ k, i.F k → w.heap.size ≤ k) ∧ ∀ k, i.G k → w.heap.size ≤ k) (fun i => L.length - i.i)
      ⟨0, List.replicate ws.length (.slice none 0 0), List.replicate ws.length (.slice none 0 0), fun _ => False, fun _ => False⟩ ⟨Nat.zero_le _, by simp, by simp, fun k hk => hk.elim, fun k hk => hk.elim⟩ (by repeat (first | exact Sub.nil | refine Sub.cons rfl ?_)) (fun w' hw => ?_) ?_
    · show Hp w w' (O1 _)
      dsimp only [O1]
      rw [List.take_zero, szs_nil, nms_nil]
      have h1 := hw.more (x := .rep (fun w => (LLs 59 .u64 (fun _ => True) (List.replicate ws.length (.slice none 0 0)) (List.replicate ws.length [])).at_ w (fun _ => False) (.bool true)) (fun _ => False) true) ⟨LLs.nil _ _ _ _ _, Vp.loc (p := LLs 59 .u64 (fun _ => True) _ _), fun k hk => hk.elim⟩ fun e he hr k hk => hk.elim
      have h2 := h1.more (x := .rep (fun w => (LLs 3 .i64 (fun _ => True) (List.replicate ws.length (.slice none 0 0)) (List.replicate ws.length [])).at_ w (fun _ => False) (.bool true)) (fun _ => False) true) ⟨LLs.nil _ _ _ _ _, Vp.loc (p := LLs 3 .i64 (fun _ => True) _ _), fun k hk => hk.elim⟩ fun e he hr k hk => hk.elim
      exact h2.pm [0, 1, 5, 6, 2, 3, 4] rfl rfl rfl
    rintro ⟨i, vs, us, F1', G1'⟩ ⟨hi, hvl, hul, hF1, hG1⟩
    dsimp only [O1] at hi hvl hul hF1 hG1 ⊢
    repeat (first | refine T_seq ?_ | refine T_region ?_ | refine S_nil ?_ | refine S_pure tabOk rfl ?_)
    refine T_cond_dec rfl (fun hlt => ?_) (fun hge => ?_)
    rotate_left
    · repeat (first | refine pthen_normal ?_ | refine inb_hit ?_ | refine pthen_exit ?_ | refine T_exit ?_)
      exact ⟨⟨i, vs, us, F1', G1'⟩, ⟨by show i = L.length; omega, hvl, hul, hF1, hG1⟩, by repeat (first | exact Sub.nil | refine Sub.cons rfl ?_), fun w' hw => hw⟩
    obtain ⟨g, rfl⟩ := hcn (by omega)
    obtain ⟨x, hx⟩ : ∃ x, L[i]? = some x := ⟨_, List.getElem?_eq_getElem (by omega)⟩
    obtain ⟨p, hpi⟩ : ∃ p, M[i]? = some p := ⟨_, List.getElem?_eq_getElem (by have := hS.ml.len; omega)⟩
    obtain ⟨hpx, xa, xn, xc, hpv, hxs⟩ := hS.ml.at_ i p x hpi hx
    obtain rfl := hxs.len
    have hxc := hok.cls x (List.mem_of_getElem? hx)
    have hmg : mGet M x.1 = some (.agg #[.int .i64 x.2.1, .slice xa x.2.2.length xc]) := (mGet_iff hS.mok.keys _ _).2 ⟨p, List.mem_of_getElem? hpi, hpx, hpv⟩
    obtain ⟨j, hj, hjn⟩ : ∃ j : Nat, (j : Int) = x.2.1 ∧ j < ws.length := ⟨x.2.1.toNat, by omega, by omega⟩
    repeat (first | refine T_seq ?_ | refine T_region ?_ | refine T_block ?_ | refine pthen_normal ?_ | refine T_skip ?_)
    refine S_q (Q_idx1 tabOk rfl rfl rfl rfl rfl rfl rfl (j := i) rfl (by omega)) ?_
    refine S_load1 tabOk (v := .int .u64 x.1) rfl rfl (fun w' hw => by
      rw [Nat.zero_add]
      exact own_cell (hw.own _ (getE_mem (i := 4) rfl)) (by omega) (by rw [List.getElem?_map, hx]; rfl)) ?_
    repeat (first | refine T_seq ?_ | refine T_region ?_ | refine S_nil ?_ | refine S_pure tabOk rfl ?_)
    refine S_load1 tabOk (v := .map (some mb)) rfl rfl (fun w' hw => QuS.cell (hw.own _ (getE_mem (i := 6) rfl)).1 (j := 2) rfl) ?_
    repeat (first | refine S_pure tabOk rfl ?_)
    refine S_q ((Q_lookup tabOk rfl rfl rfl rfl rfl rfl rfl rfl (fun w' hw => by exact QuS.m (hw.own _ (getE_mem (i := 6) rfl)).1)).eq (v' := .agg #[.int .i64 x.2.1, .slice xa x.2.2.length xc]) (by
      unfold mGet at hmg
      cases hmi : mIdx x.1 M 0 with
      | none => rw [hmi] at hmg; cases hmg
      | some y => rw [hmi] at hmg; exact Option.some.inj hmg)) ?_
    skip
    refine S_new tabOk rfl (fun b11 hb11 => ?_)
    repeat (first | refine S_nil ?_ | refine S_store tabOk 0 rfl rfl rfl rfl rfl rfl ?_)
    have hszx : sizeQ x = (x.2.2.length : Int) + 16 := rfl
    obtain ⟨va, hva⟩ : ∃ v, vs[j]? = some v := ⟨_, List.getElem?_eq_getElem (by omega)⟩
    obtain ⟨ua, hua⟩ : ∃ v, us[j]? = some v := ⟨_, List.getElem?_eq_getElem (by omega)⟩
    obtain ⟨m1, hm1⟩ : ∃ m1, m1 = (ofC (L.take i) j).length := ⟨_, rfl⟩
    obtain ⟨xs1, hxs1⟩ : ∃ y, y = ((ofC (L.take i) j).map sizeQ).map (Value.int .i64) := ⟨_, rfl⟩
    obtain ⟨xs8, hxs8⟩ : ∃ y, y = ((ofC (L.take i) j).map fun x : QE => x.1).map (Value.int .u64) := ⟨_, rfl⟩
    have hm1l : m1 ≤ 65535 := by
      have h1 : (ofC (L.take i) j).length ≤ (L.take i).length := List.length_filter_le _ _
      rw [List.length_take] at h1
      omega
    refine T_toX (ι := Option Addr × Nat × Option Addr × Nat) (fun y => va = .slice y.1 m1 y.2.1 ∧ ua = .slice y.2.2.1 m1 y.2.2.2 ∧ (∀ k, va.ownBlock = some k → F1' k) ∧ ∀ k, ua.ownBlock = some k → G1' k)
      (fun y => [.blk b11 (.cells ⟨[.int .i64 x.2.1, .slice xa x.2.2.length xc]⟩ 52 (0, 0)) true, .blk b7 (.cells ⟨vs⟩ 22 (0, 0)) true, .blk b8 (.cells ⟨us⟩ 61 (0, 0)) true,
        .rep (fun w => (rowV 0 3 1 m1 xs1).at_ w (fun k => va.ownBlock = some k) va) (fun k => va.ownBlock = some k) true, .rep (fun w => (rowV 0 59 1 m1 xs8).at_ w (fun k => ua.ownBlock = some k) ua) (fun k => ua.ownBlock = some k) true,
        .rep (fun w => (LLs 3 .i64 (fun i => i ≠ j) vs (szs (L.take i) ws.length)).at_ w (fun k => F1' k ∧ va.ownBlock ≠ some k) (.bool true)) (fun k => F1' k ∧ va.ownBlock ≠ some k) true, .rep (fun w => (LLs 59 .u64 (fun i => i ≠ j) us (nms (L.take i) ws.length)).at_ w (fun k => G1' k ∧ ua.ownBlock ≠ some k) (.bool true)) (fun k => G1' k ∧ ua.ownBlock ≠ some k) true,
        .row w.heap.size (.slice (some ⟨g, 0, none⟩) L.length cn) 59 1 L.length (L.map fun x : QE => .int .u64 x.1), .blk b3 (.cells ⟨[.int .i64 k, .slice a zs.length c]⟩ 52 (0, 0)) true, .rep (fun w => (quV qb mb cap last ws bys s M cc L (.slice a2 ws.length cw) lv bv).at_ w F2 (.bool true)) F2 false]) (fun w6 h6 => ?_) ?_
    · have h7 := LLs.take (h6.pm [1, 0, 2, 3, 4, 5, 6, 7] rfl rfl rfl) hva (szs_at hjn)
      have h8 := LLs.take (h7.pm [3, 0, 1, 2] rfl rfl rfl) hua (nms_at hjn)
      rw [List.length_map, List.length_map, ← hm1, ← hxs1, ← hxs8] at h8
      obtain ⟨o1, _⟩ := h8.own _ (getE_mem (i := 2) rfl)
      obtain ⟨o8, _⟩ := h8.own _ (getE_mem (i := 0) rfl)
      obtain ⟨a1, c1, e1, _⟩ := form_of_own o1.1
      obtain ⟨a8, c8, e8, _⟩ := form_of_own o8.1
      exact ⟨(a1, c1, a8, c8), ⟨e1, e8, fun k hk => (((h6.own _ (getE_mem (i := 1) rfl)).1.2 j va _ trivial hva (szs_at hjn)).2 k hk).1, fun k hk => (((h6.own _ (getE_mem (i := 2) rfl)).1.2 j ua _ trivial hua (nms_at hjn)).2 k hk).1⟩, h8.pm [4, 5, 6, 2, 0, 3, 1] rfl rfl rfl⟩
    rintro ⟨a1, c1, a8, c8⟩ ⟨e1, e8, hvF, huG⟩
    dsimp only at e1 e8 ⊢
    subst e1 e8
    obtain ⟨F1, hF1e⟩ : ∃ f : Nat → Prop, f = fun k => (Value.slice a1 m1 c1).ownBlock = some k := ⟨_, rfl⟩
    obtain ⟨F8, hF8e⟩ : ∃ f : Nat → Prop, f = fun k => (Value.slice a8 m1 c8).ownBlock = some k := ⟨_, rfl⟩
    rw [← hF1e, ← hF8e]
    let lst : Bool → Bool → Bool → Bool → Bool → Bool → Value → Value × (Nat → Prop) → Value → Value × (Nat → Prop) → OL := fun l13 l14 l21 l22 l24 l26 v13 x14 v21 x22 =>
      .blk b11 (.cells ⟨[.int .i64 x.2.1, .slice xa x.2.2.length xc]⟩ 52 (0, 0)) true :: .blk b7 (.cells ⟨cond l24 (vs.set j x14.1) vs⟩ 22 (0, 0)) true :: .blk b8 (.cells ⟨cond l26 (us.set j x22.1) us⟩ 61 (0, 0)) true ::
      .rep (fun w => (rowV 0 3 1 (cond l14 (m1 + 1) m1) (cond l14 (xs1 ++ [.int .i64 (sizeQ x)]) xs1)).at_ w (cond l14 x14.2 F1) (cond l14 x14.1 (.slice a1 m1 c1))) (cond l14 x14.2 F1) true :: .rep (fun w => (rowV 0 59 1 (cond l22 (m1 + 1) m1) (cond l22 (xs8 ++ [.int .u64 x.1]) xs8)).at_ w (cond l22 x22.2 F8) (cond l22 x22.1 (.slice a8 m1 c8))) (cond l22 x22.2 F8) true ::
      .rep (fun w => (LLs 3 .i64 (fun i => i ≠ j) vs (szs (L.take i) ws.length)).at_ w (fun k => F1' k ∧ (Value.slice a1 m1 c1).ownBlock ≠ some k) (.bool true)) (fun k => F1' k ∧ (Value.slice a1 m1 c1).ownBlock ≠ some k) true :: .rep (fun w => (LLs 59 .u64 (fun i => i ≠ j) us (nms (L.take i) ws.length)).at_ w (fun k => G1' k ∧ (Value.slice a8 m1 c8).ownBlock ≠ some k) (.bool true)) (fun k => G1' k ∧ (Value.slice a8 m1 c8).ownBlock ≠ some k) true ::
      .row w.heap.size (.slice (some ⟨g, 0, none⟩) L.length cn) 59 1 L.length (L.map fun x : QE => .int .u64 x.1) :: .blk b3 (.cells ⟨[.int .i64 k, .slice a zs.length c]⟩ 52 (0, 0)) true :: .rep (fun w => (quV qb mb cap last ws bys s M cc L (.slice a2 ws.length cw) lv bv).at_ w F2 (.bool true)) F2 false ::
      (cond l13 [.row w.heap.size v13 3 1 1 [.int .i64 (sizeQ x)]] [] ++ (cond l14 [factE (PuF w F1 m1 x14)] [] ++ (cond l21 [.row w.heap.size v21 59 1 1 [.int .u64 x.1]] [] ++ cond l22 [factE (PuF w F8 m1 x22)] [])))
    refine T_asThen ?_
    refine T_drawF (γ := Nat → Prop) (by kernel_rfl) (by kernel_rfl) F1 (fun L f => lst (L 13) (L 14) (L 21) (L 22) (L 24) (L 26) (f 13).1 (f 14) (f 21).1 (f 22)) rfl [some (.slice (some ⟨b7, 0, none⟩) ws.length ws.length), some (.pointer (some ⟨b11, 0, none⟩)), some (.int .i64 x.2.1), some (.slice (some ⟨b8, 0, none⟩) ws.length ws.length), some (.pointer (some ⟨b11, 0, none⟩)), some (.int .i64 x.2.1), some (.slice (some ⟨b7, 0, none⟩) ws.length ws.length), some (.pointer (some ⟨b11, 0, none⟩)), some (.int .i64 x.2.1), some (.pointer (some ⟨b7, 0 + j, none⟩)), some (.slice a1 m1 c1), some (.agg ⟨[.int .i64 x.2.1, .slice xa x.2.2.length xc]⟩), some (.int .i64 (sizeQ x)), none, none, some (.slice (some ⟨b8, 0, none⟩) ws.length ws.length), some (.pointer (some ⟨b11, 0, none⟩)), some (.int .i64 x.2.1), some (.pointer (some ⟨b8, 0 + j, none⟩)), some (.slice a8 m1 c8), some (.int .u64 x.1), none, none, some (.pointer (some ⟨b7, 0 + j, none⟩)), some undef, some (.pointer (some ⟨b8, 0 + j, none⟩)), some undef] ?_ ?_
    · refine ⟨?_, ?_, ?_, ?_, ?_, ?_, ?_, ?_, ?_, ?_, ?_, ?_, ?_, ?_, ?_, ?_, ?_, ?_, ?_, ?_, ?_, ?_, ?_, ?_, ?_, ?_, ?_, trivial⟩
      · exact fun L f hc hl hp => OpA.told F1 rfl (D_pure tabOk rfl D_last) rfl
      · exact fun L f hc hl hp => OpA.told F1 rfl (D_pure tabOk rfl D_last) rfl
      · exact fun L f hc hl hp => OpA.told F1 rfl (D_load tabOk 0 rfl rfl rfl D_last) rfl
      · exact fun L f hc hl hp => OpA.told F1 rfl (D_pure tabOk rfl D_last) rfl
      · exact fun L f hc hl hp => OpA.told F1 rfl (D_pure tabOk rfl D_last) rfl
      · exact fun L f hc hl hp => OpA.told F1 rfl (D_load tabOk 0 rfl rfl rfl D_last) rfl
      · exact fun L f hc hl hp => OpA.told F1 rfl (D_pure tabOk rfl D_last) rfl
      · exact fun L f hc hl hp => OpA.told F1 rfl (D_pure tabOk rfl D_last) rfl
      · exact fun L f hc hl hp => OpA.told F1 rfl (D_load tabOk 0 rfl rfl rfl D_last) rfl
      · exact fun L f hc hl hp => OpA.told F1 rfl (D_q (Q_idx1 tabOk rfl rfl rfl rfl rfl rfl rfl (j := j) (by omega) (by omega)) D_last) rfl
      · intro L f hc hl hp
        have h14 := closed_no hc (j := 14) rfl ⟨10, .data⟩ (by simp) rfl hl
        have h24 := closed_no hc (j := 24) rfl ⟨14, .data⟩ (by simp) rfl h14
        show OpA _ _ _ _ (lst (L 13) (L 14) (L 21) (L 22) (L 24) (L 26) (f 13).1 (f 14) (f 21).1 (f 22)) (fun y => lst (L 13) (L 14) (L 21) (L 22) (L 24) (L 26) (f 13).1 (f 14) (f 21).1 (f 22)) _ _ _
        rw [h24]
        exact OpA.told F1 rfl (D_load1 tabOk (v := .slice a1 m1 c1) rfl rfl (fun w' hw => blkc (hw.pm [1, 0] rfl rfl rfl) hva) D_last) rfl
      · exact fun L f hc hl hp => OpA.told F1 rfl (D_load tabOk 0 rfl rfl rfl D_last) rfl
      · exact fun L f hc hl hp => OpA.told F1 rfl (D_callx (v := .int .i64 (sizeQ x)) rfl Try.call35 (fun w' vs hw' h => by
          obtain ⟨u1, _, rfl, rfl, rfl⟩ := h
          exact spsize_ok x.2.1 xa x.2.2.length xc w' (by omega)) D_last) rfl
      · intro L f hc hl hp
        have h14 := closed_no hc (j := 14) rfl ⟨13, .data⟩ (by simp) rfl hl
        have h22 := closed_no hc (j := 22) rfl ⟨14, .chain⟩ (by simp) rfl h14
        have h24 := closed_no hc (j := 24) rfl ⟨14, .data⟩ (by simp) rfl h14
        have h26 := closed_no hc (j := 26) rfl ⟨22, .data⟩ (by simp) rfl h22
        show OpA _ _ _ _ (lst (L 13) (L 14) (L 21) (L 22) (L 24) (L 26) (f 13).1 (f 14) (f 21).1 (f 22)) (fun y => lst true (L 14) (L 21) (L 22) (L 24) (L 26) y.1 (f 14) (f 21).1 (f 22)) _ _ _
        rw [hl, h14, h22, h24, h26]
        cases L 21 <;> (
          refine OpA.ofS (l := [(71, .int .i64 (sizeQ x))]) rfl (by decide) (.cons rfl rfl .nil) ?_
          refine S_bslice tabOk rfl rfl rfl rfl rfl rfl rfl rfl rfl rfl rfl rfl (fun nb hnb => ?_)
          refine S_heap (fun w' h => Hp.closeRow (pre := []) (n := 1) (c := 1) (sz := 1) h hnb (by decide) (by decide) rfl) ?_
          refine S_nil ?_
          exact ⟨_, F1, rfl, (fun u h => by cases h), fun w hw => hw.perm (by repeat (first | exact List.Perm.refl _ | refine (List.Perm.swap _ _ _).trans (List.Perm.cons _ ?_)))⟩)
      · intro L f hc hl hp
        have h10 : L 10 = true := hp ⟨10, .data⟩ (by simp) rfl
        have h13 : L 13 = true := hp ⟨13, .data⟩ (by simp) rfl
        have h22 := closed_no hc (j := 22) rfl ⟨14, .chain⟩ (by simp) rfl hl
        have h24 := closed_no hc (j := 24) rfl ⟨14, .data⟩ (by simp) rfl hl
        have h26 := closed_no hc (j := 26) rfl ⟨22, .data⟩ (by simp) rfl h22
        show OpA _ _ _ _ (lst (L 13) (L 14) (L 21) (L 22) (L 24) (L 26) (f 13).1 (f 14) (f 21).1 (f 22)) (fun y => lst (L 13) true (L 21) (L 22) (L 24) (L 26) (f 13).1 y (f 21).1 (f 22)) _ _ _
        rw [hl, h13, h22, h24, h26]
        cases L 21 <;> (
          refine OpA.pre (X := ∃ A C, (f 13).1 = .slice A 1 C) (fun w hw => ?_) (fun d h => by cases h; decide) ?_
          · obtain ⟨A, C, e2, _⟩ := hw.rowForm 10 rfl
            exact ⟨A, C, e2⟩
          · rintro ⟨A, C, e2⟩
            rw [e2]
            refine OpA.ofS (l := [(69, .slice a1 m1 c1), (72, .slice A 1 C)]) rfl (by decide) (.cons rfl rfl (.cons rfl (by show some (Ent.ex (f 13).1) = _; rw [e2]) .nil)) ?_
            refine S_appendO (ty := 0) tabOk 3 (sz := 1) (news := [.int .i64 (sizeQ x)]) rfl rfl rfl rfl rfl rfl rfl rfl rfl (by decide) (fun w' h => Sl.of_own (h.own _ (getE_mem (i := 10) rfl))) (fun u hu => by rw [List.mem_singleton] at hu; subst hu; rfl) (by show m1 + 1 ≤ maxLen; simp only [maxLen]; omega) (by show (m1 + 1) * 8 ≤ _; omega) (Nat.zero_le _) (fun A' c' F' h1 h2 h3 h4 => ⟨_, rfl, ?_⟩)
            refine S_nil ?_
            exact ⟨_, F', rfl, (fun u h => by cases h), fun w' hw => (hw.addF (p := PuF w F1 m1 (.slice A' (m1 + 1) c', F')) ⟨⟨A', c', rfl⟩, h3, h4⟩).perm (by repeat (first | exact List.Perm.refl _ | refine (List.Perm.swap _ _ _).trans (List.Perm.cons _ ?_)))⟩)
      · exact fun L f hc hl hp => OpA.told F1 rfl (D_pure tabOk rfl D_last) rfl
      · exact fun L f hc hl hp => OpA.told F1 rfl (D_pure tabOk rfl D_last) rfl
      · exact fun L f hc hl hp => OpA.told F1 rfl (D_load tabOk 0 rfl rfl rfl D_last) rfl
      · exact fun L f hc hl hp => OpA.told F1 rfl (D_q (Q_idx1 tabOk rfl rfl rfl rfl rfl rfl rfl (j := j) (by omega) (by omega)) D_last) rfl
      · intro L f hc hl hp
        have h22 := closed_no hc (j := 22) rfl ⟨19, .data⟩ (by simp) rfl hl
        have h26 := closed_no hc (j := 26) rfl ⟨22, .data⟩ (by simp) rfl h22
        show OpA _ _ _ _ (lst (L 13) (L 14) (L 21) (L 22) (L 24) (L 26) (f 13).1 (f 14) (f 21).1 (f 22)) (fun y => lst (L 13) (L 14) (L 21) (L 22) (L 24) (L 26) (f 13).1 (f 14) (f 21).1 (f 22)) _ _ _
        rw [h26]
        exact OpA.told F1 rfl (D_load1 tabOk (v := .slice a8 m1 c8) rfl rfl (fun w' hw => blkc (hw.pm [2, 0, 1] rfl rfl rfl) hua) D_last) rfl
      · exact fun L f hc hl hp => OpA.told F1 rfl (D_pure tabOk rfl D_last) rfl
      · intro L f hc hl hp
        have h22 := closed_no hc (j := 22) rfl ⟨21, .data⟩ (by simp) rfl hl
        have h24 := closed_no hc (j := 24) rfl ⟨22, .chain⟩ (by simp) rfl h22
        have h26 := closed_no hc (j := 26) rfl ⟨22, .data⟩ (by simp) rfl h22
        show OpA _ _ _ _ (lst (L 13) (L 14) (L 21) (L 22) (L 24) (L 26) (f 13).1 (f 14) (f 21).1 (f 22)) (fun y => lst (L 13) (L 14) true (L 22) (L 24) (L 26) (f 13).1 (f 14) y.1 (f 22)) _ _ _
        rw [hl, h22, h24, h26]
        cases L 13 <;> cases L 14 <;> (
          refine OpA.ofS (l := [(79, .int .u64 x.1)]) rfl (by decide) (.cons rfl rfl .nil) ?_
          refine S_bslice tabOk rfl rfl rfl rfl rfl rfl rfl rfl rfl rfl rfl rfl (fun nb hnb => ?_)
          refine S_heap (fun w' h => Hp.closeRow (pre := []) (n := 1) (c := 1) (sz := 1) h hnb (by decide) (by decide) rfl) ?_
          refine S_nil ?_
          exact ⟨_, F1, rfl, (fun u h => by cases h), fun w hw => hw.perm (by repeat (first | exact List.Perm.refl _ | refine (List.Perm.swap _ _ _).trans (List.Perm.cons _ ?_)))⟩)
      · intro L f hc hl hp
        have h14 : L 14 = true := hp ⟨14, .chain⟩ (by simp) rfl
        have h13 : L 13 = true := hc 14 _ rfl h14 ⟨13, .data⟩ (by simp) rfl
        have h21 : L 21 = true := hp ⟨21, .data⟩ (by simp) rfl
        have h24 := closed_no hc (j := 24) rfl ⟨22, .chain⟩ (by simp) rfl hl
        have h26 := closed_no hc (j := 26) rfl ⟨22, .data⟩ (by simp) rfl hl
        show OpA _ _ _ _ (lst (L 13) (L 14) (L 21) (L 22) (L 24) (L 26) (f 13).1 (f 14) (f 21).1 (f 22)) (fun y => lst (L 13) (L 14) (L 21) true (L 24) (L 26) (f 13).1 (f 14) (f 21).1 y) _ _ _
        rw [hl, h13, h14, h21, h24, h26]
        (
          refine OpA.pre (X := ∃ A C, (f 21).1 = .slice A 1 C) (fun w hw => ?_) (fun d h => by cases h; decide) ?_
          · obtain ⟨A, C, e2, _⟩ := hw.rowForm 12 rfl
            exact ⟨A, C, e2⟩
          · rintro ⟨A, C, e2⟩
            rw [e2]
            refine OpA.ofS (l := [(78, .slice a8 m1 c8), (80, .slice A 1 C)]) rfl (by decide) (.cons rfl rfl (.cons rfl (by show some (Ent.ex (f 21).1) = _; rw [e2]) .nil)) ?_
            refine S_appendO (ty := 0) tabOk 4 (sz := 1) (news := [.int .u64 (x.1)]) rfl rfl rfl rfl rfl rfl rfl rfl rfl (by decide) (fun w' h => Sl.of_own (h.own _ (getE_mem (i := 12) rfl))) (fun u hu => by rw [List.mem_singleton] at hu; subst hu; rfl) (by show m1 + 1 ≤ maxLen; simp only [maxLen]; omega) (by show (m1 + 1) * 8 ≤ _; omega) (Nat.zero_le _) (fun A' c' F' h1 h2 h3 h4 => ⟨_, rfl, ?_⟩)
            refine S_nil ?_
            exact ⟨_, F', rfl, (fun u h => by cases h), fun w' hw => (hw.addF (p := PuF w F8 m1 (.slice A' (m1 + 1) c', F')) ⟨⟨A', c', rfl⟩, h3, h4⟩).perm (by repeat (first | exact List.Perm.refl _ | refine (List.Perm.swap _ _ _).trans (List.Perm.cons _ ?_)))⟩)
      · exact fun L f hc hl hp => OpA.told F1 rfl (D_q (Q_idx1 tabOk rfl rfl rfl rfl rfl rfl rfl (j := j) (by omega) (by omega)) D_last) rfl
      · intro L f hc hl hp
        have h14 : L 14 = true := hp ⟨14, .data⟩ (by simp) rfl
        have h22 : L 22 = true := hp ⟨22, .chain⟩ (by simp) rfl
        have h13 : L 13 = true := hc 14 _ rfl h14 ⟨13, .data⟩ (by simp) rfl
        have h21 : L 21 = true := hc 22 _ rfl h22 ⟨21, .data⟩ (by simp) rfl
        have h26 := closed_no hc (j := 26) rfl ⟨24, .chain⟩ (by simp) rfl hl
        show OpA _ _ _ _ (lst (L 13) (L 14) (L 21) (L 22) (L 24) (L 26) (f 13).1 (f 14) (f 21).1 (f 22)) (fun y => lst (L 13) (L 14) (L 21) (L 22) true (L 26) (f 13).1 (f 14) (f 21).1 (f 22)) _ _ _
        rw [hl, h13, h14, h21, h22, h26]
        refine OpA.pre (X := ∃ A C, (f 14).1 = .slice A (m1 + 1) C) (fun w hw => ?_) (fun d h => by cases h) ?_
        · obtain ⟨⟨A, C, e2⟩, _⟩ := hw.fact 11 rfl
          exact ⟨A, C, e2⟩
        · rintro ⟨A, C, e2⟩
          refine OpA.swap (dl' := [(82, .ex (.pointer (some ⟨b7, 0 + j, none⟩))), (73, .ex (f 14).1)]) (List.forall_mem_cons.2 ⟨rfl, List.forall_mem_cons.2 ⟨rfl, fun _ h => nomatch h⟩⟩) ?_
          generalize f 14 = y14 at *
          obtain ⟨y14, g14⟩ := y14
          dsimp only at e2
          subst e2
          exact OpS.toF F1 (fun u h => by cases h; rfl) (OpS.store tabOk 1 rfl rfl (fun u h => by rw [List.mem_singleton] at h; subst h; rfl) rfl (by rw [Nat.zero_add]; exact setMany_1 (by show j < vs.length; omega)) rfl)
      · exact fun L f hc hl hp => OpA.told F1 rfl (D_q (Q_idx1 tabOk rfl rfl rfl rfl rfl rfl rfl (j := j) (by omega) (by omega)) D_last) rfl
      · intro L f hc hl hp
        have h22 : L 22 = true := hp ⟨22, .data⟩ (by simp) rfl
        have h24 : L 24 = true := hp ⟨24, .chain⟩ (by simp) rfl
        have h14 : L 14 = true := hc 24 _ rfl h24 ⟨14, .data⟩ (by simp) rfl
        have h13 : L 13 = true := hc 14 _ rfl h14 ⟨13, .data⟩ (by simp) rfl
        have h21 : L 21 = true := hc 22 _ rfl h22 ⟨21, .data⟩ (by simp) rfl
        show OpA _ _ _ _ (lst (L 13) (L 14) (L 21) (L 22) (L 24) (L 26) (f 13).1 (f 14) (f 21).1 (f 22)) (fun y => lst (L 13) (L 14) (L 21) (L 22) (L 24) true (f 13).1 (f 14) (f 21).1 (f 22)) _ _ _
        rw [hl, h13, h14, h21, h22, h24]
        refine OpA.pre (X := ∃ A C, (f 22).1 = .slice A (m1 + 1) C) (fun w hw => ?_) (fun d h => by cases h) ?_
        · obtain ⟨⟨A, C, e2⟩, _⟩ := hw.fact 13 rfl
          exact ⟨A, C, e2⟩
        · rintro ⟨A, C, e2⟩
          refine OpA.swap (dl' := [(83, .ex (.pointer (some ⟨b8, 0 + j, none⟩))), (81, .ex (f 22).1)]) (List.forall_mem_cons.2 ⟨rfl, List.forall_mem_cons.2 ⟨rfl, fun _ h => nomatch h⟩⟩) ?_
          generalize f 22 = y22 at *
          obtain ⟨y22, g22⟩ := y22
          dsimp only at e2
          subst e2
          exact OpS.toF F1 (fun u h => by cases h; rfl) (OpS.store tabOk 2 rfl rfl (fun u h => by rw [List.mem_singleton] at h; subst h; rfl) rfl (by rw [Nat.zero_add]; exact setMany_1 (by show j < us.length; omega)) rfl)
    · intro Lf f w6 hL6 hw6
      change Hp _ _ (lst (Lf 13) (Lf 14) (Lf 21) (Lf 22) (Lf 24) (Lf 26) (f 13).1 (f 14) (f 21).1 (f 22)) at hw6
      rw [hL6 13 (by decide), hL6 14 (by decide), hL6 21 (by decide), hL6 22 (by decide), hL6 24 (by decide), hL6 26 (by decide)] at hw6
      obtain ⟨⟨A1, C1, e14⟩, g1, g2⟩ := hw6.fact 11 rfl
      obtain ⟨⟨A8, C8, e22⟩, g3, g4⟩ := hw6.fact 13 rfl
      generalize f 14 = y14 at *
      generalize f 22 = y22 at *
      obtain ⟨y14, G14⟩ := y14
      obtain ⟨y22, G22⟩ := y22
      dsimp only at e14 g1 g2 e22 g3 g4
      subst e14 e22
      have hPx : L.take (i + 1) = L.take i ++ [x] := by
        rw [List.take_succ_eq_append_getElem (by omega)]
        rw [List.getElem?_eq_getElem (by omega)] at hx
        rw [Option.some.inj hx]
      obtain ⟨l1, hl1⟩ : ∃ l1, l1 = (ofC (L.take i) j).map sizeQ ++ [sizeQ x] := ⟨_, rfl⟩
      obtain ⟨l8, hl8⟩ : ∃ l8, l8 = (ofC (L.take i) j).map (fun x : QE => x.1) ++ [x.1] := ⟨_, rfl⟩
      have e1 : m1 + 1 = l1.length := by rw [hl1, hm1]; simp
      have e8 : m1 + 1 = l8.length := by rw [hl8, hm1]; simp
      have e1' : xs1 ++ [.int .i64 (sizeQ x)] = l1.map (Value.int .i64) := by rw [hl1, hxs1, List.map_append]; rfl
      have e8' : xs8 ++ [.int .u64 x.1] = l8.map (Value.int .u64) := by rw [hl8, hxs8, List.map_append]; rfl
      have s1 : (szs (L.take i) ws.length).set j l1 = szs (L.take (i + 1)) ws.length := by rw [hPx, hl1]; exact szs_snoc hjn hj.symm
      have s8 : (nms (L.take i) ws.length).set j l8 = nms (L.take (i + 1)) ws.length := by rw [hPx, hl8]; exact nms_snoc hjn hj.symm
      have h9 := hw6.pm [3, 5, 4, 6, 1, 2, 7, 8, 9, 0, 10, 11, 12, 13] rfl rfl rfl
      have h10 := (LLs.put e1 e1' h9).pm [1, 2, 0] rfl rfl rfl
      have h11 := (LLs.put e8 e8' h10).pm [1, 0] rfl rfl rfl
      dsimp only [cond] at h11
      rw [s1, s8] at h11
      refine ⟨[(0, qptr qb), (3, .pointer (some ⟨b3, 0, none⟩)), (4, .slice none 0 0), (5, .bool false), (6, .int .i64 0), (7, .slice (some ⟨b7, 0, none⟩) ws.length ws.length), (8, .slice (some ⟨b8, 0, none⟩) ws.length ws.length), (47, .slice (some ⟨g, 0, none⟩) L.length cn), (48, .int .i64 (L.length : Int)), (49, .int .i64 (i : Int))], O1 ⟨i + 1, vs.set j (.slice A1 (m1 + 1) C1), us.set j (.slice A8 (m1 + 1) C8), _, _⟩, (by repeat (first | exact SubD.nil | refine SubD.cons rfl ?_)), h11.less (by repeat (first | exact Less.nil | refine Less.keep ?_ | refine Less.dropR ?_ | refine Less.dropB (by first | assumption | omega) ?_ | refine Less.dropW (Nat.le_refl _) ?_)), ?_⟩
      clear hw6 h9 h10 h11 hL6 lst
      dsimp only [O1]
      repeat (first | refine T_region ?_ | refine S_nil ?_ | refine pthen_normal ?_ | refine inb_normal ?_ | refine S_i64 tabOk rfl (by omega) ?_ | refine S_pure tabOk rfl ?_)
      refine ⟨⟨i + 1, vs.set j (.slice A1 (m1 + 1) C1), us.set j (.slice A8 (m1 + 1) C8), _, _⟩, ⟨by show i + 1 ≤ L.length; omega, by show (vs.set j _).length = _; rw [List.length_set]; exact hvl, by show (us.set j _).length = _; rw [List.length_set]; exact hul, fun k hk => ?_, fun k hk => ?_⟩, by repeat (first | exact Sub.nil | refine Sub.cons rfl ?_), fun w' hw => hw, by dsimp only; omega⟩
      · rcases hk with hk | hk
        · exact hF1 k hk.1
        · rcases g2 k hk with hk | hk
          · rw [hF1e] at hk
            exact hF1 k (hvF k hk)
          · exact hk
      · rcases hk with hk | hk
        · exact hG1 k hk.1
        · rcases g4 k hk with hk | hk
          · rw [hF8e] at hk
            exact hG1 k (huG k hk)
          · exact hk
  · rintro ⟨i, vs, us, F1, G1⟩ ⟨hi, hvl, hul, hF1, hG1⟩
    dsimp only [O1] at hi hvl hul hF1 hG1 ⊢
    subst hi
    rw [List.take_length]
    clear O1
    repeat (first | refine T_seq ?_)
    have hfp : fitsP cap ws (szs L ws.length) k ((zs.length : Int) + 16) := ⟨hrw, szs_len _ _, hk0, by omega, by omega, by omega, by omega, by omega, fun y hy => by
      obtain ⟨x, hx, rfl⟩ := szs_mem hy
      have := (hok.cls x hx).2.2.2
      unfold sizeQ
      omega, by have := szs_flat L ws.length; omega⟩
    have hszf : ∀ l ∈ szs L ws.length, ∀ z ∈ l, Fits .i64 z := fun l hl z hz => by
      obtain ⟨x, hx, rfl⟩ := szs_mem (List.mem_flatten.2 ⟨l, hl, hz⟩)
      have := (hok.cls x hx).2.2.2
      exact mk_i64 (by unfold sizeQ; omega)
    have hszl : ∀ l ∈ szs L ws.length, l.length ≤ 1048576 := fun l hl => by
      obtain ⟨d, _, rfl⟩ := List.mem_map.1 hl
      rw [List.length_map]
      have : (ofC L d).length ≤ L.length := List.length_filter_le _ _
      omega
    let base : OL := [.rep (fun w => (LLs 3 .i64 (fun _ => True) vs (szs L ws.length)).at_ w F1 (.bool true)) F1 true, .rep (fun w => (LLs 59 .u64 (fun _ => True) us (nms L ws.length)).at_ w G1 (.bool true)) G1 true, .blk b7 (.cells ⟨vs⟩ 22 (0, 0)) true, .blk b8 (.cells ⟨us⟩ 61 (0, 0)) true, .row w.heap.size (.slice an L.length cn) 59 1 L.length (L.map fun x : QE => .int .u64 x.1), .blk b3 (.cells ⟨[.int .i64 k, .slice a zs.length c]⟩ 52 (0, 0)) true, .rep (fun w => (quV qb mb cap last ws bys s M cc L (.slice a2 ws.length cw) lv bv).at_ w F2 (.bool true)) F2 false]
    let γ : Type := List (Nat × Nat) × Option Addr × Nat
    let lst : Bool → Bool → Bool → Bool → Value × γ → Value → Value → Value → OL := fun l13 l14 l15 l17 x13 v14 v15 v17 =>
      .rep (fun w => (LLs 3 .i64 (fun _ => True) vs (szs L ws.length)).at_ w F1 (.bool true)) F1 true :: .rep (fun w => (LLs 59 .u64 (fun _ => True) us (nms L ws.length)).at_ w G1 (.bool true)) G1 true :: .blk b7 (.cells ⟨vs⟩ 22 (0, 0)) true :: .blk b8 (.cells ⟨us⟩ 61 (0, 0)) true :: .row w.heap.size (.slice an L.length cn) 59 1 L.length (L.map fun x : QE => .int .u64 x.1) :: .blk b3 (.cells ⟨[.int .i64 k, .slice a zs.length c]⟩ 52 (0, 0)) true :: .rep (fun w => (quV qb mb cap last ws bys s M cc L (.slice a2 ws.length cw) lv bv).at_ w F2 (.bool true)) F2 false ::
      (cond l13 [.row w.heap.size (.slice x13.2.2.1 x13.2.1.length x13.2.2.2) 34 2 x13.2.1.length (vcells x13.2.1), factE (PlanR cap ws (left0 (szs L ws.length) k ((zs.length : Int) + 16)) (List.replicate ws.length 0) ((szs L ws.length).flatten.sum + ((zs.length : Int) + 16)) x13.2.1 ∧ x13.1 = .tuple #[.slice x13.2.2.1 x13.2.1.length x13.2.2.2, .bool true])] [] ++
        (cond l14 [factE (v14 = x13.1)] [] ++ (cond l15 [factE (v15 = .slice x13.2.2.1 x13.2.1.length x13.2.2.2)] [] ++ cond l17 [factE (v17 = v15)] [])))
    let g0 : γ := ([], none, 0)
    refine T_drawF (γ := γ) (by kernel_rfl) (by kernel_rfl) g0 (fun L f => lst (L 13) (L 14) (L 15) (L 17) (f 13) (f 14).1 (f 15).1 (f 17).1) rfl [some (qptr qb), some (qptr qb), some (.pointer (some ⟨qb, 0, none⟩)), some (.int .i64 cap), some (qptr qb), some (qptr qb), some (.pointer (some ⟨qb, 1, none⟩)), some (.slice a2 ws.length cw), some (.slice (some ⟨b7, 0, none⟩) ws.length ws.length), some (.pointer (some ⟨b3, 0, none⟩)), some (.int .i64 k), some (.agg ⟨[.int .i64 k, .slice a zs.length c]⟩), some (.int .i64 ((zs.length : Int) + 16)), none, none, none, none, none, none] ?_ ?_
    · refine ⟨?_, ?_, ?_, ?_, ?_, ?_, ?_, ?_, ?_, ?_, ?_, ?_, ?_, ?_, ?_, ?_, ?_, ?_, ?_, trivial⟩
      · exact fun L f hc hl hp => OpA.told g0 rfl (D_pure tabOk rfl D_last) rfl
      · exact fun L f hc hl hp => OpA.told g0 rfl (D_pure tabOk rfl D_last) rfl
      · exact fun L f hc hl hp => OpA.told g0 rfl (D_pure tabOk rfl D_last) rfl
      · exact fun L f hc hl hp => OpA.told g0 rfl (D_load1 tabOk (v := .int .i64 cap) rfl rfl (fun w' hw => QuS.cell (hw.own _ (getE_mem (i := 6) rfl)).1 (j := 0) rfl) D_last) rfl
      · exact fun L f hc hl hp => OpA.told g0 rfl (D_pure tabOk rfl D_last) rfl
      · exact fun L f hc hl hp => OpA.told g0 rfl (D_pure tabOk rfl D_last) rfl
      · exact fun L f hc hl hp => OpA.told g0 rfl (D_pure tabOk rfl D_last) rfl
      · exact fun L f hc hl hp => OpA.told g0 rfl (D_load1 tabOk (v := .slice a2 ws.length cw) rfl rfl (fun w' hw => QuS.cell (hw.own _ (getE_mem (i := 6) rfl)).1 (j := 1) rfl) D_last) rfl
      · exact fun L f hc hl hp => OpA.told g0 rfl (D_pure tabOk rfl D_last) rfl
      · exact fun L f hc hl hp => OpA.told g0 rfl (D_pure tabOk rfl D_last) rfl
      · exact fun L f hc hl hp => OpA.told g0 rfl (D_load tabOk 5 rfl rfl rfl D_last) rfl
      · exact fun L f hc hl hp => OpA.told g0 rfl (D_load tabOk 5 rfl rfl rfl D_last) rfl
      · exact fun L f hc hl hp => OpA.told g0 rfl (D_callx (v := .int .i64 ((zs.length : Int) + 16)) rfl Try.call35 (fun w' vs hw' h => by
          obtain ⟨u1, _, rfl, rfl, rfl⟩ := h
          exact spsize_ok k a zs.length c w' (by omega)) D_last) rfl
      · intro L' f hc hl hp
        have h14 := closed_no hc (j := 14) rfl ⟨13, .data⟩ (by simp) rfl hl
        have h15 := closed_no hc (j := 15) rfl ⟨14, .data⟩ (by simp) rfl h14
        have h17 := closed_no hc (j := 17) rfl ⟨15, .data⟩ (by simp) rfl h15
        show OpA _ _ _ _ (lst (L' 13) (L' 14) (L' 15) (L' 17) (f 13) (f 14).1 (f 15).1 (f 17).1) (fun y => lst true (L' 14) (L' 15) (L' 17) y (f 14).1 (f 15).1 (f 17).1) _ _ _
        rw [hl, h14, h15, h17]
        refine OpA.call rfl Try.call15 (fun w1 vs1 hw1 h => ?_)
        obtain ⟨u1, _, rfl, rfl, u2, _, rfl, rfl, u3, _, rfl, rfl, u4, _, rfl, rfl, u5, _, rfl, rfl, rfl⟩ := h
        have hq : QuS qb mb cap last ws bys s M cc L (.slice a2 ws.length cw) lv bv w1 F2 := (hw1.own _ (getE_mem (i := 6) rfl)).1
        have hx7 := LLs.slr (c := ws.length) (A := TT) (hw1.own _ (getE_mem (i := 0) rfl)).1 (fun _ _ => trivial) trivial (hw1.own _ (getE_mem (i := 2) rfl)) rfl hszf (by omega) (by simp only [maxLen]; omega)
        rw [szs_len] at hx7
        refine (splan_ok a2 ws.length cw ws (some ⟨b7, 0, none⟩) ws.length ws.length (szs L ws.length) cap k ((zs.length : Int) + 16) w1 (ints_own hq.ws fun z hz => mk_i64 (by have := hrw.2.2 z hz; omega)) hx7 (by rw [szs_len]; omega) hszl).mono fun e w' ⟨out, av, cv, hp1, hp2, e1, hb, hr⟩ => ⟨_, (out, av, cv), e1, ?_⟩
        have h9 := ((hw1.fresh hb (x := .row w.heap.size (.slice av out.length cv) 34 2 out.length (vcells out)) (own_rebase hr hw1.size) (fun j hj => (World.ownsRow.lt hr j hj).1)).addF (p := PlanR cap ws (left0 (szs L ws.length) k ((zs.length : Int) + 16)) (List.replicate ws.length 0) ((szs L ws.length).flatten.sum + ((zs.length : Int) + 16)) out ∧ Value.tuple #[.slice av out.length cv, .bool (decide (fitsP cap ws (szs L ws.length) k ((zs.length : Int) + 16)))] = .tuple #[.slice av out.length cv, .bool true]) ⟨hp1 hfp, by rw [decide_eq_true hfp]⟩).pm [2, 3, 4, 5, 6, 7, 8, 1, 0] rfl rfl rfl
        exact h9
      · intro L' f hc hl hp
        have h13 : L' 13 = true := hp ⟨13, .data⟩ (by simp) rfl
        have h15 := closed_no hc (j := 15) rfl ⟨14, .data⟩ (by simp) rfl hl
        have h17 := closed_no hc (j := 17) rfl ⟨15, .data⟩ (by simp) rfl h15
        show OpA _ _ _ _ (lst (L' 13) (L' 14) (L' 15) (L' 17) (f 13) (f 14).1 (f 15).1 (f 17).1) (fun y => lst (L' 13) true (L' 15) (L' 17) (f 13) y.1 (f 15).1 (f 17).1) _ _ _
        rw [hl, h13, h15, h17]
        refine OpA.swap (dl' := [(99, .ex (f 13).1)]) (List.forall_mem_cons.2 ⟨rfl, fun _ h => nomatch h⟩) ?_
        exact OpA.known g0 rfl (D_pure tabOk rfl D_last) (fun w1 hw => by
          have h9 := (hw.addF (p := ((f 13).1 = (f 13).1)) rfl).pm [1, 2, 3, 4, 5, 6, 7, 8, 9, 0] rfl rfl rfl
          exact h9)
      · intro L' f hc hl hp
        have h14 : L' 14 = true := hp ⟨14, .data⟩ (by simp) rfl
        have h13 : L' 13 = true := hc 14 _ rfl h14 ⟨13, .data⟩ (by simp) rfl
        have h17 := closed_no hc (j := 17) rfl ⟨15, .data⟩ (by simp) rfl hl
        show OpA _ _ _ _ (lst (L' 13) (L' 14) (L' 15) (L' 17) (f 13) (f 14).1 (f 15).1 (f 17).1) (fun y => lst (L' 13) (L' 14) true (L' 17) (f 13) (f 14).1 y.1 (f 17).1) _ _ _
        rw [hl, h13, h14, h17]
        refine OpA.pre (X := (f 14).1 = .tuple #[.slice (f 13).2.2.1 (f 13).2.1.length (f 13).2.2.2, .bool true]) (fun w hw => (hw.fact 9 rfl).trans (hw.fact 8 rfl).2) (fun d h => by cases h; decide) (fun e14 => ?_)
        refine OpA.swap (dl' := [(85, .ex (.tuple #[.slice (f 13).2.2.1 (f 13).2.1.length (f 13).2.2.2, .bool true]))]) (List.forall_mem_cons.2 ⟨congrArg (fun v => some (Ent.ex v)) e14, fun _ h => nomatch h⟩) ?_
        exact OpA.known g0 rfl (D_pure tabOk rfl D_last) (fun w1 hw => by
          have h9 := (hw.addF (p := (Value.slice (f 13).2.2.1 (f 13).2.1.length (f 13).2.2.2 = .slice (f 13).2.2.1 (f 13).2.1.length (f 13).2.2.2)) rfl).pm [1, 2, 3, 4, 5, 6, 7, 8, 9, 10, 0] rfl rfl rfl
          exact h9)
      · intro L' f hc hl hp
        have h14 : L' 14 = true := hp ⟨14, .data⟩ (by simp) rfl
        have h13 : L' 13 = true := hc 14 _ rfl h14 ⟨13, .data⟩ (by simp) rfl
        show OpA _ _ _ _ (lst (L' 13) (L' 14) (L' 15) (L' 17) (f 13) (f 14).1 (f 15).1 (f 17).1) (fun y => lst (L' 13) (L' 14) (L' 15) (L' 17) (f 13) (f 14).1 (f 15).1 (f 17).1) _ _ _
        rw [h13, h14]
        refine OpA.pre (X := (f 14).1 = .tuple #[.slice (f 13).2.2.1 (f 13).2.1.length (f 13).2.2.2, .bool true]) (fun w hw => (hw.fact 9 rfl).trans (hw.fact 8 rfl).2) (fun d h => by cases h; decide) (fun e14 => ?_)
        refine OpA.swap (dl' := [(85, .ex (.tuple #[.slice (f 13).2.2.1 (f 13).2.1.length (f 13).2.2.2, .bool true]))]) (List.forall_mem_cons.2 ⟨congrArg (fun v => some (Ent.ex v)) e14, fun _ h => nomatch h⟩) ?_
        exact OpA.known g0 rfl (D_pure tabOk rfl D_last) (fun w1 hw => hw)
      · intro L' f hc hl hp
        have h15 : L' 15 = true := hp ⟨15, .data⟩ (by simp) rfl
        have h14 : L' 14 = true := hc 15 _ rfl h15 ⟨14, .data⟩ (by simp) rfl
        have h13 : L' 13 = true := hc 14 _ rfl h14 ⟨13, .data⟩ (by simp) rfl
        show OpA _ _ _ _ (lst (L' 13) (L' 14) (L' 15) (L' 17) (f 13) (f 14).1 (f 15).1 (f 17).1) (fun y => lst (L' 13) (L' 14) (L' 15) true (f 13) (f 14).1 (f 15).1 y.1) _ _ _
        rw [hl, h13, h14, h15]
        refine OpA.swap (dl' := [(100, .ex (f 15).1)]) (List.forall_mem_cons.2 ⟨rfl, fun _ h => nomatch h⟩) ?_
        exact OpA.known g0 rfl (D_pure tabOk rfl D_last) (fun w1 hw => by
          have h9 := (hw.addF (p := ((f 15).1 = (f 15).1)) rfl).pm [1, 2, 3, 4, 5, 6, 7, 8, 9, 10, 11, 0] rfl rfl rfl
          exact h9)
      · intro L' f hc hl hp
        refine OpA.swap (dl' := [(101, .ex (f 16).1)]) (List.forall_mem_cons.2 ⟨rfl, fun _ h => nomatch h⟩) ?_
        exact OpA.known g0 rfl (D_pure tabOk rfl D_last) (fun w1 hw => hw)
    intro Lf f w6 hL6 hw6
    change Hp _ _ (lst (Lf 13) (Lf 14) (Lf 15) (Lf 17) (f 13) (f 14).1 (f 15).1 (f 17).1) at hw6
    rw [hL6 13 (by decide), hL6 14 (by decide), hL6 15 (by decide), hL6 17 (by decide)] at hw6
    obtain ⟨hpl, _⟩ := hw6.fact 8 rfl
    have e17 := (hw6.fact 11 rfl).trans (hw6.fact 10 rfl)
    obtain ⟨⟨pl, ap, cp⟩, hg⟩ : ∃ g : γ, g = (f 13).2 := ⟨_, rfl⟩
    rw [← hg] at hpl e17
    dsimp only at hpl e17
    refine ⟨[(0, qptr qb), (4, .slice none 0 0), (5, .bool false), (6, .int .i64 0), (8, .slice (some ⟨b8, 0, none⟩) ws.length ws.length), (12, (f 17).1)], [.row w.heap.size (.slice ap pl.length cp) 34 2 pl.length (vcells pl), .blk b8 (.cells ⟨us⟩ 61 (0, 0)) true, .rep (fun w => (LLs 59 .u64 (fun _ => True) us (nms L ws.length)).at_ w G1 (.bool true)) G1 true, .rep (fun w => (quV qb mb cap last ws bys s M cc L (.slice a2 ws.length cw) lv bv).at_ w F2 (.bool true)) F2 false], (by repeat (first | exact SubD.nil | refine SubD.cons rfl ?_)), (by
      have h9 := hw6.pm [7, 3, 1, 6, 0, 2, 4, 5, 8, 9, 10, 11] rfl rfl rfl
      rw [← hg] at h9
      exact h9.fewer (by repeat (first | exact new_nil | refine new_ro ?_ | refine new_rx (by assumption) ?_ | refine new_cons (by first | assumption | omega) ?_ | refine newrow h9 0 rfl (Nat.le_refl _) ?_ | refine newrow h9 6 rfl (Nat.le_refl _) ?_)) (by repeat (first | exact List.Sublist.slnil | refine List.Sublist.cons_cons _ ?_ | refine List.Sublist.cons _ ?_))), ?_⟩
    rw [e17]
    clear hw6 hL6 hg e17 lst base
    repeat (first | refine T_seq ?_ | refine T_region ?_ | refine S_nil ?_ | refine S_pure tabOk rfl ?_)
    have hplc := hpl.place (by unfold left0; rw [List.length_set, szs_len, List.length_replicate])
    have hpll : pl.length ≤ 65536 := by
      have h1 := hpl.len_le
      obtain ⟨kn, hkn⟩ : ∃ kn : Nat, (kn : Int) = k := ⟨k.toNat, by omega⟩
      have h2 := (left0_facts (q := szs L ws.length) (k := kn) (size := (zs.length : Int) + 16) (by rw [szs_len]; omega)).2.2.2.1
      rw [hkn] at h2
      have := szs_flat L ws.length
      omega
    have hsame : ∀ d, ((nms L ws.length).getD d []).length = ((szs L ws.length).getD d []).length := fun d => by
      simp only [List.getD_eq_getElem?_getD]
      rcases Nat.lt_or_ge d ws.length with h1 | h1
      · rw [nms_at h1, szs_at h1]; simp
      · rw [List.getElem?_eq_none (by rw [nms_len]; exact h1), List.getElem?_eq_none (by rw [szs_len]; exact h1)]
    have hplace : ∀ v ∈ pl, v.1 < ws.length ∧ v.2 ≤ ((nms L ws.length).getD v.1 []).length := fun v hv => by
      obtain ⟨h1, h2⟩ := hplc v hv
      unfold left0 at h1 h2
      rw [List.length_set, szs_len] at h1
      refine ⟨h1, ?_⟩
      have e0 : (List.replicate ws.length 0).getD v.1 0 = 0 := by
        rw [List.getD_eq_getElem?_getD, List.getElem?_replicate]; split <;> rfl
      rw [e0] at h2
      rw [hsame]
      simp only [List.getD_eq_getElem?_getD] at h2 ⊢
      by_cases e : k.toNat = v.1
      · rw [e, List.getElem?_set_self (by rw [szs_len]; exact h1)] at h2
        simp only [Option.getD_some, List.length_append, List.length_cons, List.length_nil] at h2
        omega
      · rw [List.getElem?_set_ne e] at h2
        omega
    let O2 : WI → OL := fun i => [.row w.heap.size (.slice i.ao i.o.1.length i.co) 59 1 i.o.1.length (i.o.1.map (.int .u64)), .row w.heap.size (.slice ap pl.length cp) 34 2 pl.length (vcells pl), .blk b8 (.cells ⟨us⟩ 61 (0, 0)) true, .rep (fun w => (LLs 59 .u64 (fun _ => True) us (nms L ws.length)).at_ w G1 (.bool true)) G1 true, .rep (fun w => (quV qb mb cap last ws bys s M cc L (.slice a2 ws.length cw) lv bv).at_ w F2 (.bool true)) F2 false]
    refine T_cut (ι := WI) (fun i => i.i = pl.length ∧ i.o = vOut (nms L ws.length) (pl.take i.i)) (fun i => [(0, qptr qb), (4, .slice none 0 0), (5, .bool false), (6, .int .i64 0), (14, .slice i.ao i.o.1.length i.co), (15, .bool i.o.2)]) O2 ?_ ?_
    · refine T_block ?_
      refine T_loop (ι := WI) (fun i => [(0, qptr qb), (4, .slice none 0 0), (5, .bool false), (6, .int .i64 0), (8, .slice (some ⟨b8, 0, none⟩) ws.length ws.length), (14, .slice i.ao i.o.1.length i.co), (15, .bool i.o.2), (102, .slice ap pl.length cp), (103, .int .i64 (pl.length : Int)), (104, .int .i64 (i.i : Int))]) O2 (fun i => i.i ≤ pl.length ∧ i.o = vOut (nms L ws.length) (pl.take i.i)) (fun i => pl.length - i.i) ⟨0, ([], false), none, 0⟩ ⟨Nat.zero_le _, rfl⟩ (by repeat (first | exact Sub.nil | refine Sub.cons rfl ?_)) (fun w' hw => hw.nilRow _ _) ?_
      rintro ⟨i, ⟨o, own⟩, ao, co⟩ ⟨hi, ho⟩
      dsimp only [O2] at hi ho ⊢
      repeat (first | refine T_seq ?_ | refine T_region ?_ | refine S_nil ?_ | refine S_pure tabOk rfl ?_)
      refine T_cond_dec rfl (fun hlt => ?_) (fun hge => ?_)
      rotate_left
      · repeat (first | refine pthen_normal ?_ | refine inb_hit ?_ | refine pthen_exit ?_ | refine T_exit ?_)
        exact ⟨⟨i, (o, own), ao, co⟩, ⟨by show i = pl.length; omega, ho⟩, by repeat (first | exact Sub.nil | refine Sub.cons rfl ?_), fun w' hw => hw⟩
      obtain ⟨v, hv⟩ : ∃ v, pl[i]? = some v := ⟨_, List.getElem?_eq_getElem (by omega)⟩
      obtain ⟨hv1, hv2⟩ := hplace v (List.mem_of_getElem? hv)
      obtain ⟨lv1, hlv⟩ : ∃ l, (nms L ws.length)[v.1]? = some l := ⟨_, nms_at hv1⟩
      have hgd : (nms L ws.length).getD v.1 [] = lv1 := by rw [List.getD_eq_getElem?_getD, hlv]; rfl
      rw [hgd] at hv2
      obtain ⟨ua, hua⟩ : ∃ u, us[v.1]? = some u := ⟨_, List.getElem?_eq_getElem (by omega)⟩
      have hlvl : lv1.length ≤ 65535 := by
        rw [nms_at hv1] at hlv
        rw [← Option.some.inj hlv, List.length_map]
        have : (ofC L v.1).length ≤ L.length := List.length_filter_le _ _
        omega
      have hpt : o.length ≤ 65536 := by
        have h1 := vOut_len (nms L ws.length) (pl.take i)
        rw [← ho, List.length_take] at h1
        show (o, own).1.length ≤ _
        omega
      repeat (first | refine T_seq ?_ | refine T_region ?_ | refine T_block ?_ | refine pthen_normal ?_ | refine T_skip ?_)
      refine S_rowA 1 rfl (by omega) (fun bv9 hbv => ?_)
      subst hbv
      refine S_q (Q_idx (sz := 2) tabOk rfl rfl rfl rfl rfl rfl rfl (j := i) rfl (by omega)) ?_
      refine S_loadN tabOk (vs := [.int .i64 (v.1 : Int), .int .i64 (v.2 : Int)]) rfl rfl rfl (fun w' hw jj u hu => by
        rw [Addr.add_lit, Nat.zero_add]
        exact own_cell (hw.own _ (getE_mem (i := 1) rfl)) (by omega) (vcells_get hv hu)) ?_
      refine S_new tabOk rfl (fun b17 hb17 => ?_)
      refine S_toX (ι := Option Addr × Nat) (fun y => ua = .slice y.1 lv1.length y.2 ∧ (0 < lv1.length → ∃ g, y.1 = some ⟨g, 0, none⟩)) (fun _ => _) (fun w9 hh => by
        have h3 := ((hh.own _ (getE_mem (i := 4) rfl)).1.2 v.1 ua lv1 trivial hua hlv).1
        obtain ⟨a9, c9, e9, _⟩ := form_of_own h3
        subst e9
        exact ⟨(a9, c9), ⟨rfl, fun h0 => by
          obtain ⟨g, _, e2, _⟩ := own_open h3 h0
          exact ⟨g, e2⟩⟩, hh⟩) (fun y hy => ?_)
      obtain ⟨ub, uc⟩ := y
      obtain ⟨rfl, hub⟩ := hy
      dsimp only at hub
      repeat (first | refine T_draw (by kernel_rfl) (by kernel_rfl) ?_ | refine D_pure tabOk rfl ?_ | refine D_load tabOk 0 rfl rfl rfl ?_ | refine T_seq ?_ | refine S_nil ?_ | refine S_store tabOk 0 rfl rfl rfl rfl rfl rfl ?_)
      refine D_q (Q_idx1 tabOk rfl rfl rfl rfl rfl rfl rfl (j := v.1) rfl hv1) ?_
      refine D_load1 tabOk (v := .slice ub lv1.length uc) rfl rfl (fun w' hw => blkc (hw.pm [3, 0, 1, 2] rfl rfl rfl) hua) ?_
      repeat (first | refine D_all rfl ?_ | refine D_pure tabOk rfl ?_)
      refine T_cond_dec rfl (fun heq => ?_) (fun hne => ?_)
      · repeat (first | refine T_seq ?_ | refine T_region ?_ | refine S_nil ?_ | refine pthen_normal ?_ | refine inb_hit ?_ | refine pthen_exit ?_ | refine T_exit ?_ | refine S_i64 tabOk rfl (by omega) ?_ | refine S_pure tabOk rfl ?_)
        refine ⟨⟨i + 1, (o, true), ao, co⟩, ⟨by show i + 1 ≤ pl.length; omega, ?_⟩, by repeat (first | exact Sub.nil | refine Sub.cons rfl ?_), fun w' hw => hw.fewer (by repeat (first | exact new_nil | refine new_ro ?_ | refine new_rx (by assumption) ?_ | refine new_cons (by first | assumption | omega) ?_ | refine newrow hw 1 rfl (Nat.le_refl _) ?_ | refine newrow hw 2 rfl (Nat.le_refl _) ?_)) (by repeat (first | exact List.Sublist.slnil | refine List.Sublist.cons_cons _ ?_ | refine List.Sublist.cons _ ?_)), by dsimp only; omega⟩
        show (o, true) = vOut (nms L ws.length) (pl.take (i + 1))
        rw [vOut_step hv, ← ho]
        unfold vStep
        rw [hgd, if_pos (by omega)]
      obtain ⟨gb, rfl⟩ := hub (by omega)
      have hv2' : v.2 < lv1.length := by omega
      obtain ⟨num, hnum⟩ : ∃ num, lv1[v.2]? = some num := ⟨_, List.getElem?_eq_getElem hv2'⟩
      repeat (first | refine pthen_normal ?_ | refine T_skip ?_)
      let lst : Bool → Bool → Bool → Value → Value → Value → OL := fun l10 l11 l12 v10 v11 v12 =>
        .blk b17 (.cells ⟨[.int .i64 (v.1 : Int), .int .i64 (v.2 : Int)]⟩ 34 (0, 0)) true :: .row w.heap.size (cond l11 v11 (.slice ao o.length co)) 59 1 (cond l11 (o.length + 1) o.length) (cond l11 (o.map (.int .u64) ++ [.int .u64 num]) (o.map (.int .u64))) :: .row w.heap.size (.slice (some ⟨bv9, 0, none⟩) pl.length cp) 34 2 pl.length (vcells pl) :: .blk b8 (.cells ⟨us⟩ 61 (0, 0)) true :: .rep (fun w => (LLs 59 .u64 (fun _ => True) us (nms L ws.length)).at_ w G1 (.bool true)) G1 true :: .rep (fun w => (quV qb mb cap last ws bys s M cc L (.slice a2 ws.length cw) lv bv).at_ w F2 (.bool true)) F2 false ::
        (cond l10 [.row w.heap.size v10 59 1 1 [.int .u64 num]] [] ++ (cond l11 [factE (∃ A C, v11 = .slice A (o.length + 1) C)] [] ++ cond l12 [factE (v12 = v11)] []))
      refine T_asThen ?_
      refine T_drawF (γ := Unit) (by kernel_rfl) (by kernel_rfl) () (fun L' f => lst (L' 10) (L' 11) (L' 12) (f 10).1 (f 11).1 (f 12).1) rfl [some (.slice ao o.length co), some (.slice (some ⟨b8, 0, none⟩) ws.length ws.length), some (.pointer (some ⟨b17, 0, none⟩)), some (.int .i64 (v.1 : Int)), some (.pointer (some ⟨b8, 0 + v.1, none⟩)), some (.slice (some ⟨gb, 0, none⟩) lv1.length uc), some (.pointer (some ⟨b17, 1, none⟩)), some (.int .i64 (v.2 : Int)), some (.pointer (some ⟨gb, 0 + v.2, none⟩)), some (.int .u64 num), none, none, none] ?_ ?_
      · refine ⟨?_, ?_, ?_, ?_, ?_, ?_, ?_, ?_, ?_, ?_, ?_, ?_, ?_, trivial⟩
        · exact fun L' f hc hl hp => OpA.told () rfl (D_pure tabOk rfl D_last) rfl
        · exact fun L' f hc hl hp => OpA.told () rfl (D_pure tabOk rfl D_last) rfl
        · exact fun L' f hc hl hp => OpA.told () rfl (D_pure tabOk rfl D_last) rfl
        · exact fun L' f hc hl hp => OpA.told () rfl (D_load tabOk 0 rfl rfl rfl D_last) rfl
        · exact fun L' f hc hl hp => OpA.told () rfl (D_q (Q_idx1 tabOk rfl rfl rfl rfl rfl rfl rfl (j := v.1) rfl hv1) D_last) rfl
        · exact fun L' f hc hl hp => OpA.told () rfl (D_load1 tabOk (v := .slice (some ⟨gb, 0, none⟩) lv1.length uc) rfl rfl (fun w' hw => blkc (hw.pm [3, 0, 1, 2] rfl rfl rfl) hua) D_last) rfl
        · exact fun L' f hc hl hp => OpA.told () rfl (D_pure tabOk rfl D_last) rfl
        · exact fun L' f hc hl hp => OpA.told () rfl (D_load tabOk 0 rfl rfl rfl D_last) rfl
        · exact fun L' f hc hl hp => OpA.told () rfl (D_q (Q_idx1 tabOk rfl rfl rfl rfl rfl rfl rfl (j := v.2) rfl hv2') D_last) rfl
        · exact fun L' f hc hl hp => OpA.told () rfl (D_load1 tabOk (v := .int .u64 num) rfl rfl (fun w' hw => by
            rw [Nat.zero_add]
            exact own_cell ((hw.own _ (getE_mem (i := 4) rfl)).1.2 v.1 _ lv1 trivial hua hlv).1 (by omega) (by rw [List.getElem?_map, hnum]; rfl)) D_last) rfl
        · intro L' f hc hl hp
          have h11 := closed_no hc (j := 11) rfl ⟨10, .data⟩ (by simp) rfl hl
          have h12 := closed_no hc (j := 12) rfl ⟨11, .data⟩ (by simp) rfl h11
          show OpA _ _ _ _ (lst (L' 10) (L' 11) (L' 12) (f 10).1 (f 11).1 (f 12).1) (fun y => lst true (L' 11) (L' 12) y.1 (f 11).1 (f 12).1) _ _ _
          rw [hl, h11, h12]
          refine OpA.ofS (l := [(126, .int .u64 num)]) rfl (by decide) (.cons rfl rfl .nil) ?_
          refine S_bslice tabOk rfl rfl rfl rfl rfl rfl rfl rfl rfl rfl rfl rfl (fun nb hnb => ?_)
          refine S_heap (fun w' h => Hp.closeRow (pre := []) (n := 1) (c := 1) (sz := 1) h hnb (by decide) (by decide) rfl) ?_
          refine S_nil ?_
          exact ⟨_, (), rfl, (fun u h => by cases h), fun w hw => hw.perm (by repeat (first | exact List.Perm.refl _ | refine (List.Perm.swap _ _ _).trans (List.Perm.cons _ ?_)))⟩
        · intro L' f hc hl hp
          have h10 : L' 10 = true := hp ⟨10, .data⟩ (by simp) rfl
          have h12 := closed_no hc (j := 12) rfl ⟨11, .data⟩ (by simp) rfl hl
          show OpA _ _ _ _ (lst (L' 10) (L' 11) (L' 12) (f 10).1 (f 11).1 (f 12).1) (fun y => lst (L' 10) true (L' 12) (f 10).1 y.1 (f 12).1) _ _ _
          rw [hl, h10, h12]
          refine OpA.pre (X := ∃ A C, (f 10).1 = .slice A 1 C) (fun w hw => ?_) (fun d h => by cases h; decide) ?_
          · obtain ⟨A, C, e2, _⟩ := hw.rowForm 6 rfl
            exact ⟨A, C, e2⟩
          · rintro ⟨A, C, e2⟩
            rw [e2]
            refine OpA.ofS (l := [(117, .slice ao o.length co), (127, .slice A 1 C)]) rfl (by decide) (.cons rfl rfl (.cons rfl (by show some (Ent.ex (f 10).1) = _; rw [e2]) .nil)) ?_
            refine S_append (ty := 0) tabOk 1 rfl rfl rfl rfl rfl rfl rfl rfl rfl (by decide) (fun w' h => Sl.of_own (h.own _ (getE_mem (i := 6) rfl))) (fun u hu => by rw [List.mem_singleton] at hu; subst hu; rfl) (by show o.length + 1 ≤ maxLen; simp only [maxLen]; omega) (by show (o.length + 1) * 8 ≤ _; omega) rfl (fun A' c' h1 h2 => ⟨_, rfl, ?_⟩)
            refine S_nil ?_
            exact ⟨_, (), rfl, (fun u h => by cases h), fun w' hw => (hw.addF (p := ∃ A C, Value.slice A' (o.length + 1) c' = .slice A (o.length + 1) C) ⟨A', c', rfl⟩).perm (by repeat (first | exact List.Perm.refl _ | refine (List.Perm.swap _ _ _).trans (List.Perm.cons _ ?_)))⟩
        · intro L' f hc hl hp
          have h11 : L' 11 = true := hp ⟨11, .data⟩ (by simp) rfl
          have h10 : L' 10 = true := hc 11 _ rfl h11 ⟨10, .data⟩ (by simp) rfl
          show OpA _ _ _ _ (lst (L' 10) (L' 11) (L' 12) (f 10).1 (f 11).1 (f 12).1) (fun y => lst (L' 10) (L' 11) true (f 10).1 (f 11).1 y.1) _ _ _
          rw [hl, h10, h11]
          refine OpA.swap (dl' := [(128, .ex (f 11).1)]) (List.forall_mem_cons.2 ⟨rfl, fun _ h => nomatch h⟩) ?_
          exact OpA.known () rfl (D_pure tabOk rfl D_last) (fun w1 hw => by
            have h9 := (hw.addF (p := ((f 11).1 = (f 11).1)) rfl).pm [1, 2, 3, 4, 5, 6, 7, 8, 0] rfl rfl rfl
            exact h9)
      intro Lf f w6 hL6 hw6
      change Hp _ _ (lst (Lf 10) (Lf 11) (Lf 12) (f 10).1 (f 11).1 (f 12).1) at hw6
      rw [hL6 10 (by decide), hL6 11 (by decide), hL6 12 (by decide)] at hw6
      obtain ⟨A, C, e11⟩ := hw6.fact 7 rfl
      have e12 := (hw6.fact 8 rfl).trans e11
      obtain ⟨o', ho'⟩ : ∃ o', o' = o ++ [num] := ⟨_, rfl⟩
      have hl' : o.length + 1 = o'.length := by rw [ho']; simp
      have hx' : o.map (Value.int .u64) ++ [.int .u64 num] = o'.map (Value.int .u64) := by rw [ho', List.map_append]; rfl
      refine ⟨[(0, qptr qb), (4, .slice none 0 0), (5, .bool false), (6, .int .i64 0), (8, .slice (some ⟨b8, 0, none⟩) ws.length ws.length), (14, (f 12).1), (15, .bool own), (102, .slice (some ⟨bv9, 0, none⟩) pl.length cp), (103, .int .i64 (pl.length : Int)), (104, .int .i64 (i : Int))], O2 ⟨i, (o', own), A, C⟩, (by repeat (first | exact SubD.nil | refine SubD.cons rfl ?_)), (by
        rw [e11] at hw6
        dsimp only [lst, cond] at hw6
        rw [hl', hx'] at hw6
        exact hw6.fewer (by repeat (first | exact new_nil | refine new_ro ?_ | refine new_rx (by assumption) ?_ | refine new_cons (by first | assumption | omega) ?_ | refine newrow hw6 1 rfl (Nat.le_refl _) ?_ | refine newrow hw6 2 rfl (Nat.le_refl _) ?_ | refine newrow hw6 6 rfl (Nat.le_refl _) ?_)) (by repeat (first | exact List.Sublist.slnil | refine List.Sublist.cons_cons _ ?_ | refine List.Sublist.cons _ ?_))), ?_⟩
      rw [e12, hl']
      clear hw6 hL6 e11 e12 lst
      dsimp only [O2]
      repeat (first | refine T_region ?_ | refine S_nil ?_ | refine pthen_normal ?_ | refine inb_normal ?_ | refine S_i64 tabOk rfl (by omega) ?_ | refine S_pure tabOk rfl ?_)
      refine ⟨⟨i + 1, (o', own), A, C⟩, ⟨by show i + 1 ≤ pl.length; omega, ?_⟩, by repeat (first | exact Sub.nil | refine Sub.cons rfl ?_), fun w' hw => hw, by dsimp only; omega⟩
      show (o', own) = vOut (nms L ws.length) (pl.take (i + 1))
      rw [vOut_step hv, ← ho]
      unfold vStep
      rw [hgd, if_neg (by omega), ho', List.getD_eq_getElem?_getD, hnum]
      rfl
    rintro ⟨i, ⟨o, own⟩, ao, co⟩ ⟨hi, ho⟩
    dsimp only [O2] at hi ho ⊢
    subst hi
    rw [List.take_length] at ho
    have hml := hS.ml.len
    have hfin : VicP cap ws L k zs.length (o, own) 0 := by
      unfold VicP
      rw [if_pos ht, if_neg hlo]
      exact ⟨rfl, pl, hpl, ho⟩
    repeat (first | refine T_seq ?_ | refine T_region ?_ | refine S_pure tabOk rfl ?_)
    by_cases h0 : (o.length : Int) = 0
    · refine S_re 133 (v' := .bool true) rfl (congrArg Value.bool (decide_eq_true h0)) ?_
      cases own with
      | true =>
        repeat (first | refine S_nil ?_ | refine S_pure tabOk rfl ?_ | refine S_pass rfl rfl rfl ?_)
        refine T_cond_f rfl ?_
        repeat (first | refine T_seq ?_ | refine T_region ?_ | refine S_nil ?_ | refine pthen_normal ?_ | refine T_skip ?_ | refine T_ret ?_ | refine S_pure tabOk rfl ?_)
        exact ret3 rfl rfl rfl rfl (fun w' hw => ⟨(o, true), 0, ao, co, rfl, hw.below (by repeat (first | exact new_nil | refine new_ro ?_ | refine new_rx (by assumption) ?_ | refine new_cons (by first | assumption | omega) ?_ | refine newrow hw 0 rfl (Nat.le_refl _) ?_ | refine newrow hw 1 rfl (Nat.le_refl _) ?_)), hw.own _ (getE_mem (i := 0) rfl), hfin⟩)
      | false =>
        repeat (first | refine S_pure tabOk rfl ?_)
        refine S_load1 tabOk (v := .map (some mb)) rfl rfl (fun w' hw => QuS.cell (hw.own _ (getE_mem (i := 4) rfl)).1 (j := 2) rfl) ?_
        skip
        refine S_q (Q_maplen tabOk rfl rfl rfl rfl (fun w' hw => QuS.m (hw.own _ (getE_mem (i := 4) rfl)).1)) ?_
        repeat (first | refine S_nil ?_ | refine S_pure tabOk rfl ?_)
        refine T_cond_dec rfl (fun hma => by omega) (fun hma => ?_)
        repeat (first | refine T_seq ?_ | refine T_region ?_ | refine S_nil ?_ | refine pthen_normal ?_ | refine T_skip ?_ | refine T_ret ?_ | refine S_pure tabOk rfl ?_)
        exact ret3 rfl rfl rfl rfl (fun w' hw => ⟨(o, false), 0, ao, co, rfl, hw.below (by repeat (first | exact new_nil | refine new_ro ?_ | refine new_rx (by assumption) ?_ | refine new_cons (by first | assumption | omega) ?_ | refine newrow hw 0 rfl (Nat.le_refl _) ?_ | refine newrow hw 1 rfl (Nat.le_refl _) ?_)), hw.own _ (getE_mem (i := 0) rfl), hfin⟩)
    · refine S_re 133 (v' := .bool false) rfl (congrArg Value.bool (decide_eq_false h0)) ?_
      repeat (first | refine S_nil ?_ | refine S_pure tabOk rfl ?_ | refine S_pass rfl rfl rfl ?_)
      refine T_cond_f rfl ?_
      repeat (first | refine T_seq ?_ | refine T_region ?_ | refine S_nil ?_ | refine pthen_normal ?_ | refine T_skip ?_ | refine T_ret ?_ | refine S_pure tabOk rfl ?_)
      exact ret3 rfl rfl rfl rfl (fun w' hw => ⟨(o, own), 0, ao, co, rfl, hw.below (by repeat (first | exact new_nil | refine new_ro ?_ | refine new_rx (by assumption) ?_ | refine new_cons (by first | assumption | omega) ?_ | refine newrow hw 0 rfl (Nat.le_refl _) ?_ | refine newrow hw 1 rfl (Nat.le_refl _) ?_)), hw.own _ (getE_mem (i := 0) rfl), hfin⟩)
end

theorem q_newY {cap : Int} {a : Option Addr} {n c : Nat} {ws : List Int} {w : World} (hI : Ints .i64 w a n c ws) (hr : qRight cap ws = true) :
    Calls Try.prog 25 #[.int .i64 cap, .slice a n c] w fun e w' => ∃ qb F, e = .returned (.tuple #[qptr qb, .int .i64 0]) ∧ (∀ k, F k → w.heap.size ≤ k) ∧ Hp w w' [.rep (fun w => (quA qb cap 0 ws [] 0).at_ w F (.bool true)) F true] :=
  (q_new cap a n c ws w hI).mono fun e w' h => by rw [if_pos hr] at h; exact h
theorem QOk.nil (cap : Int) (ws : List Int) : QOk cap 0 ws [] := ⟨List.Pairwise.nil, fun x h => (by cases h), fun x h => (by cases h), by decide⟩
abbrev aL : List QE := [(1, 0, [97, 98]), (2, 0, [99, 100])]
theorem awake9_plan {o : List Int × Bool} {E : Int} (h : VicP 40 [1, 1] aL 1 4 o E) : o = ([1], false) ∧ E = 0 := by
  unfold VicP at h
  rw [if_pos (by decide), if_neg (by decide)] at h
  obtain ⟨rfl, pl, h1, rfl⟩ := h
  have h2 : pl = [(0, 0)] := by
    refine h1.uniq (PlanR.step (c := 0) (x := 18) (xs := [18]) (by decide) ⟨by decide, fun d hd => ?_⟩ rfl (.stop (by decide)))
    match d with
    | 0 => exact .inr ⟨rfl, Nat.le_refl _⟩
    | 1 => exact .inl (by decide)
    | d + 2 => exact absurd rfl hd
  rw [h2]
  exact ⟨by decide, rfl⟩
theorem mk_u8 {n : Int} (h : 0 ≤ n ∧ n ≤ 255) : Fits .u8 n := by simpa [Fits, IntKind.min, IntKind.max, IntKind.signed, IntKind.bits] using h
theorem slr_blk {w : World} {b : Nat} {e : TypeId} {fz : Nat × Nat} {zs : List Int} {k : IntKind} (hb : w.heap[b]? = some (.cells ⟨zs.map (.int k)⟩ e fz)) (hl : zs.length ≤ maxLen) (hf : ∀ z ∈ zs, Fits k z) : SlR (Rint k) w (fun j => j = b) (some ⟨b, 0, none⟩) zs.length zs.length zs :=
  SlR.of_ints ⟨rfl, Nat.le_refl _, hl, fun h => (by cases h), hf, Sl.of_blk hb (by rw [List.length_map, Nat.mul_one]) (fun j u hu => by rw [Nat.zero_add]; exact hu)⟩ (fun b' off _ e => by cases e; rfl)
set_option maxHeartbeats 4000000 in
theorem awake9_ok (w : World) : Calls Try.prog 24 #[] w fun e w' => e = .returned (.bool true) ∧ Below w.heap.size w w' := by
  refine enter0 Try.func24 rfl (Hp.refl w) ?_
  repeat (first | refine T_seq ?_ | refine T_region ?_ | refine S_nil ?_ | refine S_pure tabOk rfl ?_)
  refine S_bslice tabOk rfl rfl rfl rfl rfl rfl rfl rfl rfl rfl rfl rfl (fun b7 hb7 => ?_)
  skip
  refine S_callN rfl Try.call25 (fun w1 h1 => (q_newY (cap := 40) (ws := [1, 1]) (slr_blk (zs := [1, 1]) (h1.own _ (getE_mem (i := 0) rfl)) (by decide) (fun z hz => mk_i64 (by simp at hz; omega))).ints (by decide)).mono fun e w' ⟨qb, F, e1, hF, h2⟩ => ⟨_, _, F, e1, h2, hF, fun hFn => ?_⟩)
  repeat (first | refine T_seq ?_ | refine T_region ?_ | refine S_nil ?_ | refine S_pure tabOk rfl ?_)
  refine S_bslice tabOk rfl rfl rfl rfl rfl rfl rfl rfl rfl rfl rfl rfl (fun b15 hb15 => ?_)
  skip
  refine S_mark tabOk 0 rfl rfl rfl rfl rfl rfl rfl rfl ?_
  repeat (first | refine S_q (Q_build tabOk rfl rfl rfl rfl rfl rfl rfl) ?_)
  refine S_callT 1 rfl Try.call27 rfl (fun w1 g => ?_)
  have hA1 : ∀ j, j = b15 → ¬ F j := fun j hj hf => by
    have := g.apart
    exact (List.pairwise_cons.1 this).1 _ List.mem_cons_self rfl j (congrArg some hj.symm) hf
  have g0 := g.own _ (getE_mem (i := 1) rfl)
  have hs1 := g.size
  have h9 := q_put (n := 1) (k := 0) g0.1 g0.2.2 (QOk.nil _ _) (by decide) (by decide) (by decide) (by decide) (by decide) (by decide) (slr_blk (zs := [97, 98]) (k := .u8) (g.own _ (getE_mem (i := 0) rfl)) (by decide) (fun z hz => mk_u8 (by simp at hz; omega))) hA1
  rw [show qPut 40 0 [1, 1] [] 1 0 [97, 98] = (0, 1, [(1, 0, [97, 98])]) from rfl] at h9
  refine h9.mono fun e w' ⟨he, F', f1, f2, g2⟩ => ⟨_, _, F', he, g2, f1, f2, _, rfl, ?_⟩
  have hFn' : ∀ k, F' k → w.heap.size ≤ k := fun k hk => (f2 k hk).elim (hFn k) (fun h => Nat.le_trans hs1 h)
  clear h9 g0 g hA1
  dsimp only
  repeat (first | refine S_pure tabOk rfl ?_)
  refine S_bslice tabOk rfl rfl rfl rfl rfl rfl rfl rfl rfl rfl rfl rfl (fun b23 hb23 => ?_)
  skip
  refine S_mark tabOk 0 rfl rfl rfl rfl rfl rfl rfl rfl ?_
  repeat (first | refine S_q (Q_build tabOk rfl rfl rfl rfl rfl rfl rfl) ?_)
  refine S_callT 2 rfl Try.call27 rfl (fun w1 g => ?_)
  have hA1 : ∀ j, j = b23 → ¬ F' j := fun j hj hf => by
    have := (g.pm [0, 2, 1] rfl rfl rfl).apart
    exact (List.pairwise_cons.1 this).1 _ List.mem_cons_self rfl j (congrArg some hj.symm) hf
  have g0 := g.own _ (getE_mem (i := 2) rfl)
  have hs1 := g.size
  have h9 := q_put (n := 2) (k := 0) g0.1 g0.2.2 (QOk.snoc (QOk.nil 40 [1, 1]) (n := 1) (cls := 0) (zs := [97, 98]) (by decide) (by decide) (by decide) (by decide)) (by decide) (by decide) (by decide) (by decide) (by decide) (by decide) (slr_blk (zs := [99, 100]) (k := .u8) (g.own _ (getE_mem (i := 0) rfl)) (by decide) (fun z hz => mk_u8 (by simp at hz; omega))) hA1
  rw [show qPut 40 1 [1, 1] [(1, 0, [97, 98])] 2 0 [99, 100] = (0, 2, aL) from rfl] at h9
  refine h9.mono fun e w' ⟨he, F2, f3, f4, g2⟩ => ⟨_, _, F2, he, g2, f3, f4, _, rfl, ?_⟩
  have hFn2 : ∀ k, F2 k → w.heap.size ≤ k := fun k hk => (f4 k hk).elim (hFn' k) (fun h => Nat.le_trans hs1 h)
  clear h9 g0 g hA1
  dsimp only
  repeat (first | refine S_nil ?_ | refine S_pure tabOk rfl ?_)
  refine T_cond_f rfl ?_
  repeat (first | refine T_seq ?_ | refine T_region ?_ | refine pthen_normal ?_ | refine T_skip ?_ | refine S_pure tabOk rfl ?_)
  refine S_bslice tabOk rfl rfl rfl rfl rfl rfl rfl rfl rfl rfl rfl rfl (fun b31 hb31 => ?_)
  skip
  refine S_mark tabOk 0 rfl rfl rfl rfl rfl rfl rfl rfl ?_
  repeat (first | refine S_q (Q_build tabOk rfl rfl rfl rfl rfl rfl rfl) ?_)
  refine S_call rfl Try.call29 (fun w1 g => ?_)
  have hok2 : QOk 40 2 [1, 1] aL := QOk.snoc (QOk.snoc (QOk.nil 40 [1, 1]) (n := 1) (cls := 0) (zs := [97, 98]) (by decide) (by decide) (by decide) (by decide)) (n := 2) (cls := 0) (zs := [99, 100]) (by decide) (by decide) (by decide) (by decide)
  refine (q_victims (k := 1) (g.own _ (getE_mem (i := 3) rfl)).1 hok2 (by decide) (by decide) (by decide) (slr_blk (zs := [97, 98, 99, 100]) (k := .u8) (g.own _ (getE_mem (i := 0) rfl)) (by decide) (fun z hz => mk_u8 (by simp at hz; omega)))).mono fun e w' ⟨o, E, a2, c2, e1, hb, hr, hv⟩ => ?_
  obtain ⟨rfl, rfl⟩ := awake9_plan hv
  refine ⟨_, _, e1, g.fresh hb (x := .row w.heap.size (.slice a2 1 c2) 59 1 1 [.int .u64 1]) (own_rebase hr g.size) (fun j hj => (World.ownsRow.lt hr j hj).1), ?_⟩
  clear g
  dsimp only
  repeat (first | refine T_seq ?_ | refine T_region ?_ | refine S_nil ?_ | refine S_pure tabOk rfl ?_)
  refine S_bslice tabOk rfl rfl rfl rfl rfl rfl rfl rfl rfl rfl rfl rfl (fun b46 hb46 => ?_)
  refine S_callq (v := .bool true) rfl Try.call49 (fun w1 h1 => equal64_ok a2 (some ⟨b46, 0, none⟩) 1 c2 1 1 [1] [1] w1 (Sl.of_own (h1.own _ (getE_mem (i := 1) rfl))) (Sl.of_blk (xs := [.int .u64 1]) (h1.own _ (getE_mem (i := 0) rfl)) rfl (fun j u hu => by rw [Nat.zero_add]; exact hu)) (by decide)) ?_
  repeat (first | refine S_nil ?_ | refine T_ret ?_ | refine S_pure tabOk rfl ?_)
  exact ret1 rfl rfl (fun w' hw => ⟨rfl, hw.below (by repeat (first | exact new_nil | refine new_rx (by assumption) ?_ | refine new_cons (by first | assumption | omega) ?_ | refine newrow hw 1 rfl (Nat.le_refl _) ?_))⟩)
abbrev Rspan : Rep (Int × List Int) := Rpair (Rint .i64) (Rslice (Rint .u8))

set_option maxHeartbeats 2000000 in
theorem few9_ok (k : Int) (a : Option Addr) (n c : Nat) (zs : List Int) (w : World) (hI : Ints .u8 w a n c zs) :
    Calls Try.prog 28 #[.agg #[.int .i64 k, .slice a n c]] w fun e w' => ∃ a2 c2, e = .returned (.agg ⟨[.int .i64 k, .slice a2 (zs.take 60).length c2]⟩) ∧ Below w.heap.size w w' ∧ w'.ownsRow w.heap.size 5 1 (.slice a2 (zs.take 60).length c2) (zs.take 60).length ((zs.take 60).map (.int .u8)) := by
  obtain rfl := hI.len
  refine enter1 Try.func28 rfl rfl (Hp.refl w) ?_
  repeat (first | refine T_seq ?_ | refine T_region ?_)
  refine S_new tabOk rfl (fun b1 hb1 => ?_)
  refine S_new tabOk rfl (fun b2 hb2 => ?_)
  repeat (first | refine T_seq ?_ | refine T_region ?_ | refine S_nil ?_ | refine S_pure tabOk rfl ?_ | refine S_load tabOk 1 rfl rfl rfl ?_)
  refine S_callrow rfl Try.call53 (fun w1 h1 => cut_ok a zs.length c zs 60 w1 (ints_ext hI (h1.below (by repeat (first | exact new_nil | refine new_cons (by first | assumption | omega) ?_)))) (by decide)) (fun a2 c2 hc2 hd2 => ?_)
  repeat (first | refine T_seq ?_ | refine T_region ?_ | refine S_nil ?_ | refine T_ret ?_ | refine S_pure tabOk rfl ?_ | refine S_load tabOk 2 rfl rfl rfl ?_ | refine S_store tabOk 1 rfl rfl rfl rfl rfl rfl ?_ | refine S_store tabOk 2 rfl rfl rfl rfl rfl rfl ?_)
  exact ret1 rfl (ResIs.cellO tabOk 1 rfl rfl rfl rfl) (fun w' hw => ⟨a2, c2, rfl, hw.below (by repeat (first | exact new_nil | refine new_cons (by first | assumption | omega) ?_ | refine newrow hw 0 rfl (Nat.le_refl _) ?_)), hw.own _ (getE_mem (i := 0) rfl)⟩)
/-- weights, of any numbers -/
def wOf (l : List Int) : List Int := if l = [] then [1] else (l.take 8).map fun x => 1 + x
theorem wOf_right {l : List Int} (h : ∀ x ∈ l, 0 ≤ x ∧ x ≤ 255) : rightW (wOf l) := by
  unfold wOf
  split
  · exact ⟨by decide, by decide, fun x hx => by rw [List.mem_singleton] at hx; omega⟩
  · rename_i hl
    refine ⟨?_, by simp; omega, fun x hx => ?_⟩
    · cases l with
      | nil => exact absurd rfl hl
      | cons y l => simp
    · obtain ⟨y, hy, rfl⟩ := List.mem_map.1 hx
      have := h y (List.mem_of_mem_take hy)
      omega
set_option maxHeartbeats 2000000 in
theorem weights9_ok (a : Option Addr) (n c : Nat) (zs : List Int) (w : World) (hI : Ints .u8 w a n c zs) :
    Calls Try.prog 26 #[.slice a n c] w fun e w' => ∃ a2 c2, e = .returned (.slice a2 (wOf zs).length c2) ∧ Below w.heap.size w w' ∧ w'.ownsRow w.heap.size 3 1 (.slice a2 (wOf zs).length c2) (wOf zs).length ((wOf zs).map (.int .i64)) := by
  obtain rfl := hI.len
  have hmx := hI.max
  have hcp := hI.cap
  simp only [maxLen] at hmx
  refine enter1 Try.func26 rfl rfl (Hp.refl w) ?_
  repeat (first | refine T_seq ?_ | refine T_region ?_ | refine S_nil ?_ | refine S_pure tabOk rfl ?_)
  refine T_cut (ι := Option Addr × Nat) (fun _ => True) (fun i => [(3, .slice i.1 (zs.take 8).length i.2)]) (fun i => [.row w.heap.size (.slice i.1 (zs.take 8).length i.2) 3 1 (zs.take 8).length (((zs.take 8).map fun x => 1 + x).map (.int .i64))]) ?_ ?_
  · refine T_block ?_
    refine T_loop (ι := Nat × Option Addr × Nat) (fun i => [(3, .slice i.2.1 ((zs.take 8).take i.1).length i.2.2), (6, .slice a zs.length c), (7, .int .i64 (zs.length : Int)), (8, .int .i64 (i.1 : Int))])
      (fun i => [.row w.heap.size (.slice i.2.1 ((zs.take 8).take i.1).length i.2.2) 3 1 ((zs.take 8).take i.1).length ((((zs.take 8).take i.1).map fun x => 1 + x).map (.int .i64))]) (fun i => i.1 ≤ zs.length) (fun i => zs.length - i.1) (0, none, 0) (Nat.zero_le _) (by repeat (first | exact Sub.nil | refine Sub.cons rfl ?_)) (fun w' hw => hw.nilRow _ _) ?_
    rintro ⟨i, ao, co⟩ hi
    dsimp only at hi ⊢
    repeat (first | refine T_seq ?_ | refine T_region ?_ | refine S_nil ?_ | refine S_pure tabOk rfl ?_)
    refine T_cond_dec rfl (fun h => ?_) (fun h => ?_)
    · have hi' : i < zs.length := by omega
      obtain ⟨ab, off, rfl⟩ := ints_cell hI hi'
      have hxf := fits_u8 (hI.fits _ (List.getElem_mem hi'))
      repeat (first | refine T_seq ?_ | refine T_region ?_ | refine T_block ?_ | refine pthen_normal ?_ | refine T_skip ?_ | refine S_pure tabOk rfl ?_)
      refine S_q (Q_idx1 tabOk rfl rfl rfl rfl rfl rfl rfl (j := i) rfl (by omega)) ?_
      refine S_load1 tabOk (v := .int .u8 zs[i]) rfl rfl (fun w' hw => (hI.sl.ext (hw.below (by repeat (first | exact new_nil | refine newrow hw 0 rfl (Nat.le_refl _) ?_)))).at_ (by omega) (by rw [List.getElem?_map, List.getElem?_eq_getElem hi']; rfl)) ?_
      repeat (first | refine T_seq ?_ | refine T_region ?_ | refine S_nil ?_ | refine S_pure tabOk rfl ?_)
      refine T_cond_dec rfl (fun h8 => ?_) (fun h8 => ?_)
      · have hl : ((zs.take 8).take i).length = i := by rw [List.length_take, List.length_take]; omega
        have ht : (zs.take 8).take (i + 1) = (zs.take 8).take i ++ [zs[i]] := by
          rw [List.take_succ_eq_append_getElem (by rw [List.length_take]; omega)]
          simp
        repeat (first | refine S_i64 tabOk rfl (by omega) ?_ | refine S_pure tabOk rfl ?_ | refine T_region_any ?_)
        refine S_bslice tabOk rfl rfl rfl rfl rfl rfl rfl rfl rfl rfl rfl rfl (fun b19 hb19 => ?_)
        refine S_append (ty := 0) tabOk 1 rfl rfl rfl rfl rfl rfl rfl rfl rfl (by decide) (fun w' hw => Sl.of_blk (xs := [.int .i64 (1 + zs[i])]) (hw.own _ (getE_mem (i := 0) rfl)) rfl (fun j u hu => by rw [Nat.zero_add]; exact hu)) (by intro u hu; rw [List.mem_singleton] at hu; subst hu; rfl) (by simp only [maxLen]; omega) (by show (_ + _) * 8 ≤ _; omega) rfl (fun AS CS hcS hdS => ⟨_, rfl, ?_⟩)
        have e1 : ((((zs.take 8).take i).map fun x => 1 + x).map (Value.int .i64)) ++ [.int .i64 (1 + zs[i])] = (((zs.take 8).take (i + 1)).map fun x => 1 + x).map (.int .i64) := by rw [ht, List.map_append, List.map_append]; rfl
        have e2 : ((zs.take 8).take i).length + 1 = ((zs.take 8).take (i + 1)).length := by rw [ht]; simp
        rw [e1, e2]
        repeat (first | refine T_region ?_ | refine S_nil ?_ | refine pthen_normal ?_ | refine inb_normal ?_ | refine S_i64 tabOk rfl (by omega) ?_ | refine S_pure tabOk rfl ?_)
        exact ⟨(i + 1, AS, CS), hi', by dsimp only; repeat (first | exact Sub.nil | refine Sub.cons rfl ?_), fun w' hw => hw.fewer (by repeat (first | exact new_nil | refine new_cons (by first | assumption | omega) ?_ | refine newrow hw 1 rfl (Nat.le_refl _) ?_)) (by repeat (first | exact List.Sublist.slnil | refine List.Sublist.cons_cons _ ?_ | refine List.Sublist.cons _ ?_)), by dsimp only; omega⟩
      · repeat (first | refine T_region ?_ | refine S_nil ?_ | refine pthen_normal ?_ | refine inb_normal ?_ | refine T_skip ?_ | refine S_i64 tabOk rfl (by omega) ?_ | refine S_pure tabOk rfl ?_)
        have hl8 : (zs.take 8).length ≤ i := by rw [List.length_take]; omega
        have ht : (zs.take 8).take (i + 1) = (zs.take 8).take i := (List.take_of_length_le (by omega)).trans (List.take_of_length_le hl8).symm
        exact ⟨(i + 1, ao, co), hi', by dsimp only; rw [ht]; repeat (first | exact Sub.nil | refine Sub.cons rfl ?_), fun w' hw => by dsimp only; rw [ht]; exact hw, by dsimp only; omega⟩
    · repeat (first | refine pthen_normal ?_ | refine inb_hit ?_ | refine pthen_exit ?_ | refine T_exit ?_)
      have hiz : i = zs.length := by omega
      subst hiz
      have ht : (zs.take 8).take zs.length = zs.take 8 := List.take_of_length_le (by rw [List.length_take]; omega)
      rw [ht]
      exact ⟨(ao, co), trivial, by repeat (first | exact Sub.nil | refine Sub.cons rfl ?_), fun w' hw => hw⟩
  · rintro ⟨ao, co⟩ _
    dsimp only
    repeat (first | refine T_seq ?_ | refine T_region ?_ | refine S_nil ?_ | refine S_pure tabOk rfl ?_)
    refine T_cond_dec rfl (fun h0 => ?_) (fun h0 => ?_)
    · have hz0 : zs = [] := by
        cases zs with
        | nil => rfl
        | cons y l => simp at h0; omega
      repeat (first | refine T_region ?_)
      refine S_bslice tabOk rfl rfl rfl rfl rfl rfl rfl rfl rfl rfl rfl rfl (fun b25 hb25 => ?_)
      have hw1 : wOf zs = [1] := by unfold wOf; rw [if_pos hz0]
      rw [hw1]
      refine S_heap (fun w' h => Hp.closeRow (pre := []) (n := 1) (c := 1) (sz := 1) h hb25 (by decide) (by decide) rfl) ?_
      repeat (first | refine T_seq ?_ | refine T_region ?_ | refine S_nil ?_ | refine T_ret ?_ | refine S_pure tabOk rfl ?_)
      exact ret1 rfl rfl (fun w' hw => ⟨_, _, rfl, hw.below (by repeat (first | exact new_nil | refine newrow hw 0 rfl (Nat.le_refl _) ?_ | refine newrow hw 1 rfl (Nat.le_refl _) ?_)), hw.own _ (getE_mem (i := 0) rfl)⟩)
    · have hw1 : wOf zs = (zs.take 8).map fun x => 1 + x := by
        unfold wOf
        rw [if_neg (fun e => h0 (by rw [e]; rfl))]
      rw [hw1]
      have e3 : ((zs.take 8).map fun x => 1 + x).length = (zs.take 8).length := List.length_map _
      rw [e3]
      repeat (first | refine T_seq ?_ | refine T_region ?_ | refine S_nil ?_ | refine pthen_normal ?_ | refine T_skip ?_ | refine T_ret ?_ | refine S_pure tabOk rfl ?_)
      exact ret1 rfl rfl (fun w' hw => ⟨_, _, rfl, hw.below (by repeat (first | exact new_nil | refine newrow hw 0 rfl (Nat.le_refl _) ?_)), hw.own _ (getE_mem (i := 0) rfl)⟩)

/-- Who goes, in order: each is the oldest that is left of its class; itself, only when nobody is left of its class. -/
inductive VicS (cap : Int) (cls : Nat) (size : Int) : List QE → Bool → List Int → Bool → Prop
  | stop {rem : List QE} {inn : Bool} (h : qSum rem + (if inn = true then size else 0) ≤ cap) : VicS cap cls size rem inn [] (!inn)
  | num {rem : List QE} {inn : Bool} {c : Nat} {e : QE} {es : List QE} {o : List Int} {own : Bool} (h : ofC rem c = e :: es) (k : VicS cap cls size (qDel rem e.1) inn o own) : VicS cap cls size rem inn (e.1 :: o) own
  | self {rem : List QE} {o : List Int} {own : Bool} (h : ofC rem cls = []) (k : VicS cap cls size rem false o own) : VicS cap cls size rem true o own
theorem ofC_mem {L : List QE} {c : Nat} {e : QE} (h : e ∈ ofC L c) : e ∈ L ∧ e.2.1 = (c : Int) := by
  unfold ofC at h
  rw [List.mem_filter] at h
  exact ⟨h.1, of_decide_eq_true h.2⟩
theorem ofC_nodup {L : List QE} (hn : (L.map (·.1)).Nodup) (c : Nat) : ((ofC L c).map (·.1)).Nodup := hn.sublist (List.filter_sublist.map _)
theorem eq_of_key {L : List QE} (hn : (L.map (·.1)).Nodup) {x y : QE} (hx : x ∈ L) (hy : y ∈ L) (h : x.1 = y.1) : x = y := by
  induction L with
  | nil => cases hx
  | cons z L ih =>
    rw [List.map_cons, List.nodup_cons] at hn
    rcases List.mem_cons.1 hx with rfl | hx'
    · rcases List.mem_cons.1 hy with rfl | hy'
      · rfl
      · exact absurd (show x.1 ∈ L.map (·.1) from List.mem_map.2 ⟨y, hy', h.symm⟩) hn.1
    · rcases List.mem_cons.1 hy with rfl | hy'
      · exact absurd (show y.1 ∈ L.map (·.1) from List.mem_map.2 ⟨x, hx', h⟩) hn.1
      · exact ih hn.2 hx' hy'
theorem ofC_del_eq {L : List QE} (hn : (L.map (·.1)).Nodup) {c : Nat} {e : QE} {es : List QE} (h : ofC L c = e :: es) : ofC (qDel L e.1) c = es := by
  have h1 : ofC (qDel L e.1) c = qDel (ofC L c) e.1 := by
    unfold ofC qDel
    rw [List.filter_filter, List.filter_filter]
    congr 1
    funext x
    rw [Bool.and_comm]
  rw [h1, h]
  have h2 := ofC_nodup hn c
  rw [h, List.map_cons, List.nodup_cons] at h2
  have : qDel (e :: es) e.1 = qDel es e.1 := by unfold qDel; rw [List.filter_cons_of_neg (by simp)]
  rw [this]
  exact qDel_none h2.1
theorem ofC_del_ne {L : List QE} (hn : (L.map (·.1)).Nodup) {c d : Nat} {e : QE} (he : e ∈ ofC L c) (hd : d ≠ c) : ofC (qDel L e.1) d = ofC L d := by
  have h1 : ofC (qDel L e.1) d = qDel (ofC L d) e.1 := by
    unfold ofC qDel
    rw [List.filter_filter, List.filter_filter]
    congr 1
    funext x
    rw [Bool.and_comm]
  rw [h1]
  refine qDel_none fun hm => ?_
  obtain ⟨y, hy, e1⟩ := List.mem_map.1 hm
  obtain ⟨g1, g2⟩ := ofC_mem hy
  obtain ⟨g3, g4⟩ := ofC_mem he
  have := eq_of_key hn g1 g3 e1
  rw [this, g4] at g2
  exact hd (by omega)
theorem nodup_del {L : List QE} (hn : (L.map (·.1)).Nodup) (n : Int) : ((qDel L n).map (·.1)).Nodup := hn.sublist ((qDel_sub L n).map _)
theorem qSum_del {L : List QE} (hn : (L.map (·.1)).Nodup) {e : QE} (he : e ∈ L) : qSum (qDel L e.1) = qSum L - sizeQ e := by
  induction L with
  | nil => cases he
  | cons y L ih =>
    rw [List.map_cons, List.nodup_cons] at hn
    unfold qSum at ih ⊢
    rcases List.mem_cons.1 he with rfl | hx
    · have e1 : qDel (e :: L) e.1 = L := by
        have : qDel (e :: L) e.1 = qDel L e.1 := by unfold qDel; rw [List.filter_cons_of_neg (by simp)]
        rw [this]
        exact qDel_none hn.1
      rw [e1, List.map_cons, List.sum_cons]; omega
    · have hne : y.1 ≠ e.1 := fun e' => hn.1 (List.mem_map.2 ⟨e, hx, e'.symm⟩)
      have e1 : qDel (y :: L) e.1 = y :: qDel L e.1 := by unfold qDel; rw [List.filter_cons_of_pos (by simpa using hne)]
      rw [e1, List.map_cons, List.map_cons, List.sum_cons, List.sum_cons, ih hn.2 hx]; omega
theorem szs_getD {L : List QE} {n d : Nat} (hd : d < n) : (szs L n).getD d [] = (ofC L d).map sizeQ := by
  rw [List.getD_eq_getElem?_getD, szs_at hd]; rfl
theorem nms_getD {L : List QE} {n d : Nat} (hd : d < n) : (nms L n).getD d [] = (ofC L d).map (·.1) := by
  rw [List.getD_eq_getElem?_getD, nms_at hd]; rfl
/-- what is left: each class's, and who comes, if it is still in -/
def lft (rem : List QE) (n : Nat) (cls : Nat) (size : Int) (inn : Bool) : List (List Int) := if inn = true then left0 (szs rem n) (cls : Int) size else szs rem n
theorem lft_at {rem : List QE} {n cls d : Nat} {size : Int} {inn : Bool} (hd : d < n) : (lft rem n cls size inn).getD d [] = (ofC rem d).map sizeQ ++ (if inn = true ∧ d = cls then [size] else []) := by
  unfold lft
  cases inn with
  | false => rw [if_neg (by decide), if_neg (by simp), List.append_nil, szs_getD hd]
  | true =>
    rw [if_pos rfl]
    unfold left0
    rw [Int.toNat_natCast, List.getD_eq_getElem?_getD]
    by_cases e : d = cls
    · subst e
      rw [List.getElem?_set_self (by rw [szs_len]; exact hd), if_pos ⟨rfl, rfl⟩, szs_getD hd]
      rfl
    · rw [List.getElem?_set_ne (fun h => e h.symm), if_neg (fun h => e h.2), List.append_nil, szs_at hd]
      rfl
theorem lft_len {rem : List QE} {n cls : Nat} {size : Int} {inn : Bool} : (lft rem n cls size inn).length = n := by
  unfold lft left0
  split
  · rw [List.length_set, szs_len]
  · exact szs_len _ _
theorem lft_del {rem : List QE} {n cls c : Nat} {size : Int} {inn : Bool} (hn : (rem.map (·.1)).Nodup) (hc : c < n) {e : QE} {es : List QE} (h : ofC rem c = e :: es) : (lft rem n cls size inn).set c (es.map sizeQ ++ (if inn = true ∧ c = cls then [size] else [])) = lft (qDel rem e.1) n cls size inn := by
  refine List.ext_getElem? fun d => ?_
  rcases Nat.lt_or_ge d n with hd | hd
  · have h1 := lft_at (rem := qDel rem e.1) (cls := cls) (size := size) (inn := inn) hd
    have h2 := lft_at (rem := rem) (cls := cls) (size := size) (inn := inn) hd
    rw [List.getD_eq_getElem?_getD, List.getElem?_eq_getElem (by rw [lft_len]; exact hd)] at h1 h2
    rw [List.getElem?_eq_getElem (by rw [List.length_set, lft_len]; exact hd), List.getElem?_eq_getElem (by rw [lft_len]; exact hd)]
    congr 1
    simp only [Option.getD_some] at h1 h2
    rw [h1]
    by_cases e' : c = d
    · subst e'
      rw [List.getElem_set_self, ofC_del_eq hn h]
    · rw [List.getElem_set_ne e', h2, ofC_del_ne hn (by rw [h]; exact List.mem_cons_self) (fun h => e' h.symm)]
  · rw [List.getElem?_eq_none (by rw [List.length_set, lft_len]; exact hd), List.getElem?_eq_none (by rw [lft_len]; exact hd)]
theorem lft_self {rem : List QE} {n cls : Nat} {size : Int} (hc : cls < n) (h : ofC rem cls = []) : (lft rem n cls size true).set cls [] = lft rem n cls size false := by
  refine List.ext_getElem? fun d => ?_
  rcases Nat.lt_or_ge d n with hd | hd
  · have h1 := lft_at (rem := rem) (cls := cls) (size := size) (inn := false) hd
    have h2 := lft_at (rem := rem) (cls := cls) (size := size) (inn := true) hd
    rw [List.getD_eq_getElem?_getD, List.getElem?_eq_getElem (by rw [lft_len]; exact hd)] at h1 h2
    rw [List.getElem?_eq_getElem (by rw [List.length_set, lft_len]; exact hd), List.getElem?_eq_getElem (by rw [lft_len]; exact hd)]
    congr 1
    simp only [Option.getD_some] at h1 h2
    rw [h1]
    by_cases e' : cls = d
    · subst e'
      rw [List.getElem_set_self, h]
      simp
    · rw [List.getElem_set_ne e', h2, if_neg (fun h => e' h.2.symm), if_neg (by simp)]
  · rw [List.getElem?_eq_none (by rw [List.length_set, lft_len]; exact hd), List.getElem?_eq_none (by rw [lft_len]; exact hd)]
theorem vOut_acc (b : List (List Int)) : ∀ (pl : List (Nat × Nat)) (y : List Int × Bool), pl.foldl (vStep b) y = (y.1 ++ (pl.foldl (vStep b) ([], false)).1, y.2 || (pl.foldl (vStep b) ([], false)).2)
  | [], y => by simp
  | v :: pl, y => by
    rw [List.foldl_cons, List.foldl_cons, vOut_acc b pl (vStep b y v), vOut_acc b pl (vStep b ([], false) v)]
    unfold vStep
    split
    · simp
    · simp
theorem PlanR.vicS {cap : Int} {ws : List Int} {L : List QE} {n cls : Nat} {size : Int} (hcls : cls < n) {left : List (List Int)} {went : List Nat} {total : Int} {pl : List (Nat × Nat)} (hp : PlanR cap ws left went total pl) :
    ∀ {rem : List QE} {inn : Bool}, left = lft rem n cls size inn → went.length = n → total = qSum rem + (if inn = true then size else 0) → (rem.map (·.1)).Nodup →
      (∀ d, d < n → ((ofC L d).map (·.1)).drop (went.getD d 0) = (ofC rem d).map (·.1)) → (∀ d, d < n → (inn = true ∨ d ≠ cls) → went.getD d 0 ≤ (ofC L d).length) → (inn = false → ofC rem cls = []) →
      VicS cap cls size rem inn (vOut (nms L n) pl).1 ((vOut (nms L n) pl).2 || !inn) := by
  induction hp with
  | stop h =>
    intro rem inn hl hwl ht hn h2 h3 h4
    have : (vOut (nms L n) []).2 || !inn = !inn := by cases inn <;> rfl
    rw [show ((vOut (nms L n) []).2 || !inn) = !inn by cases inn <;> rfl]
    exact .stop (by rw [← ht]; exact h)
  | @step left went total c x xs out h hb hx hk ih =>
    intro rem inn hl hwl ht hn h2 h3 h4
    have hc : c < n := by
      rcases Nat.lt_or_ge c n with h1 | h1
      · exact h1
      · rw [hl, List.getD_eq_getElem?_getD, List.getElem?_eq_none (by rw [lft_len]; exact h1)] at hx
        cases hx
    have hset : ∀ d v, (went.set c v).getD d 0 = if d = c then v else went.getD d 0 := fun d v => by
      simp only [List.getD_eq_getElem?_getD]
      by_cases e : d = c
      · subst e
        rw [if_pos rfl, List.getElem?_set_self (by omega)]; rfl
      · rw [if_neg e, List.getElem?_set_ne (fun h => e h.symm)]
    rw [hl, lft_at hc] at hx
    cases hrc : ofC rem c with
    | cons e es =>
      rw [hrc, List.map_cons, List.cons_append] at hx
      obtain ⟨rfl, hxs⟩ := List.cons.inj hx
      have hd := h2 c hc
      rw [hrc, List.map_cons] at hd
      have hwc : went.getD c 0 < (ofC L c).length := by
        rcases Nat.lt_or_ge (went.getD c 0) (ofC L c).length with h1 | h1
        · exact h1
        · rw [List.drop_eq_nil_of_le (by rw [List.length_map]; exact h1)] at hd
          cases hd
      have hnum : ((nms L n).getD c []).getD (went.getD c 0) 0 = e.1 := by
        rw [nms_getD hc, List.getD_eq_getElem?_getD]
        have := congrArg (fun l => l[0]?) hd
        simp only [List.getElem?_drop, Nat.add_zero, List.getElem?_cons_zero] at this
        rw [this]; rfl
      have hstep : vOut (nms L n) ((c, went.getD c 0) :: out) = (e.1 :: (vOut (nms L n) out).1, (vOut (nms L n) out).2) := by
        unfold vOut
        rw [List.foldl_cons, vOut_acc]
        have h5 : vStep (nms L n) ([], false) (c, went.getD c 0) = ([e.1], false) := by
          unfold vStep
          rw [if_neg (by rw [nms_getD hc, List.length_map]; show ¬ went.getD c 0 = _; omega)]
          show ([] ++ [((nms L n).getD c []).getD (went.getD c 0) 0], false) = _
          rw [hnum]; rfl
        rw [h5]
        simp
      rw [hstep]
      refine .num hrc ?_
      have he : e ∈ rem := (ofC_mem (c := c) (by rw [hrc]; exact List.mem_cons_self)).1
      refine ih ?_ (by rw [List.length_set]; exact hwl) ?_ (nodup_del hn _) (fun d hd' => ?_) (fun d hd' hin => ?_) (fun hi => ?_)
      · rw [hl, ← hxs]
        exact lft_del hn hc hrc
      · rw [ht, qSum_del hn he]; omega
      · rw [hset]
        by_cases e' : d = c
        · subst e'
          rw [if_pos rfl, ofC_del_eq hn hrc, ← List.tail_drop, hd]
          rfl
        · rw [if_neg e', ofC_del_ne hn (by rw [hrc]; exact List.mem_cons_self) e']
          exact h2 d hd'
      · rw [hset]
        by_cases e' : d = c
        · subst e'
          rw [if_pos rfl]; omega
        · rw [if_neg e']
          exact h3 d hd' hin
      · have h6 := h4 hi
        have e' : cls ≠ c := fun e' => by rw [e', hrc] at h6; cases h6
        rw [ofC_del_ne hn (by rw [hrc]; exact List.mem_cons_self) e']
        exact h6
    | nil =>
      rw [hrc, List.map_nil, List.nil_append] at hx
      have hic : inn = true ∧ c = cls := by
        by_cases h7 : inn = true ∧ c = cls
        · exact h7
        · rw [if_neg h7] at hx; cases hx
      obtain ⟨rfl, rfl⟩ := hic
      rw [if_pos ⟨rfl, rfl⟩] at hx
      obtain ⟨rfl, hxs⟩ := List.cons.inj hx
      have hd := h2 c hc
      rw [hrc, List.map_nil, List.drop_eq_nil_iff, List.length_map] at hd
      have hw := h3 c hc (.inl rfl)
      have hwc : went.getD c 0 = (ofC L c).length := by omega
      have hstep : vOut (nms L n) ((c, went.getD c 0) :: out) = ((vOut (nms L n) out).1, true) := by
        unfold vOut
        rw [List.foldl_cons, vOut_acc]
        have h5 : vStep (nms L n) ([], false) (c, went.getD c 0) = ([], true) := by
          unfold vStep
          rw [if_pos (by rw [nms_getD hc, List.length_map]; exact hwc)]
        rw [h5]
        simp
      rw [hstep]
      refine .self hrc ?_
      have h8 := ih (rem := rem) (inn := false) (by rw [hl, ← hxs]; exact lft_self hc hrc) (by rw [List.length_set]; exact hwl) (by rw [ht]; simp) hn (fun d hd' => ?_) (fun d hd' hin => ?_) (fun _ => hrc)
      · simpa using h8
      · rw [hset]
        by_cases e' : d = c
        · subst e'
          rw [if_pos rfl, hrc, List.map_nil, List.drop_eq_nil_iff, List.length_map]; omega
        · rw [if_neg e']
          exact h2 d hd'
      · rw [hset]
        have e' : d ≠ c := hin.resolve_left (by decide)
        rw [if_neg e']
        exact h3 d hd' (.inl rfl)
theorem szs_sum {L : List QE} {n : Nat} (h : ∀ x ∈ L, 0 ≤ x.2.1 ∧ x.2.1 < (n : Int)) : (szs L n).flatten.sum = qSum L := by
  have h1 := bsum_all n L h
  have h2 : ∀ l : List (List Int), l.flatten.sum = (l.map List.sum).sum := fun l => by
    induction l with
    | nil => rfl
    | cons a l ih => rw [List.flatten_cons, List.sum_append, ih, List.map_cons, List.sum_cons]
  rw [h2]
  unfold szs qSum
  rw [List.map_map, ← h1]
  rfl
theorem VicR.vicS {cap : Int} {ws : List Int} {L : List QE} {cls : Nat} {size : Int} {o : List Int × Bool} (hcls : cls < ws.length) (hn : (L.map (·.1)).Nodup) (hc : ∀ x ∈ L, 0 ≤ x.2.1 ∧ x.2.1 < (ws.length : Int)) (h : VicR cap ws L (cls : Int) size o) : VicS cap cls size L true o.1 o.2 := by
  obtain ⟨pl, hp, rfl⟩ := h
  have h1 := hp.vicS (L := L) (n := ws.length) (cls := cls) (size := size) hcls (rem := L) (inn := true) rfl (by rw [List.length_replicate]) (by rw [if_pos rfl, szs_sum hc]) hn (fun d hd => by
    have : (List.replicate ws.length 0).getD d 0 = 0 := by rw [List.getD_eq_getElem?_getD, List.getElem?_replicate]; split <;> rfl
    rw [this, List.drop_zero]) (fun d hd _ => by
    have : (List.replicate ws.length 0).getD d 0 = 0 := by rw [List.getD_eq_getElem?_getD, List.getElem?_replicate]; split <;> rfl
    rw [this]; exact Nat.zero_le _) (fun h => by cases h)
  simpa using h1
section
variable {cap : Int} {cls : Nat} {size : Int} {rem : List QE} {inn own : Bool} {o : List Int} {n : Int}
theorem VicS.next (h : VicS cap cls size rem inn (n :: o) own) : (∃ c e es, ofC rem c = e :: es ∧ e.1 = n) ∧ ∃ inn', VicS cap cls size (qDel rem n) inn' o own := by
  cases h with
  | num h k => exact ⟨⟨_, _, _, h, rfl⟩, _, k⟩
  | self h k =>
    cases k with
    | num h k => exact ⟨⟨_, _, _, h, rfl⟩, _, k⟩
theorem qDel_lt {L : List QE} {e : QE} (he : e ∈ L) : (qDel L e.1).length < L.length := by
  unfold qDel
  rw [List.length_filter_lt_length_iff_exists]
  exact ⟨e, he, by simp⟩
theorem VicS.len (h : VicS cap cls size rem inn o own) : o.length ≤ rem.length := by
  induction h with
  | stop h => exact Nat.zero_le _
  | num h k ih =>
    have := qDel_lt (ofC_mem (by rw [h]; exact List.mem_cons_self)).1
    rw [List.length_cons]; omega
  | self h k ih => exact ih
theorem VicS.fits (hs : 0 ≤ size) (h : VicS cap cls size rem inn [] own) : qSum rem + (if own = true then 0 else size) ≤ cap := by
  cases h with
  | stop h => cases inn <;> simpa using h
  | self h k =>
    cases k with
    | stop h => simpa using h
end

end Go.Proofs.Yteogkadjambmkaa
