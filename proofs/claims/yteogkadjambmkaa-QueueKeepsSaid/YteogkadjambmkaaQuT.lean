/-
  The document's example of a queue; which capacities and weights may be. Conditions: each theorem's own.
-/
import Derived.Test.YteogkadjambmkaaQuS
import Derived.Test.YteogkadjambmkaaQuN
import Derived.Test.YteogkadjambmkaaEqu
namespace Go.Proofs.Yteogkadjambmkaa
open Go Go.RowKit
set_option linter.unusedVariables false

theorem q_newY {cap : Int} {a : Option Addr} {n c : Nat} {ws : List Int} {w : World} (hI : Ints .i64 w a n c ws) (hr : qRight cap ws = true) :
    Calls Try.prog 25 #[.int .i64 cap, .slice a n c] w fun e w' => ∃ qb F, e = .returned (.tuple #[qptr qb, .int .i64 0]) ∧ (∀ k, F k → w.heap.size ≤ k) ∧ Hp w w' [.rep (fun w => (quA qb cap 0 ws [] 0).at_ w F (.bool true)) F true] :=
  (q_new cap a n c ws w hI).mono fun e w' h => by rw [if_pos hr] at h; exact h
theorem QOk.nil (cap : Int) (ws : List Int) : QOk cap 0 ws [] := ⟨List.Pairwise.nil, fun x h => (by cases h), fun x h => (by cases h), by decide⟩
theorem qright_ok (cap : Int) (a : Option Addr) (n c : Nat) (ws : List Int) (w : World) (hI : Ints .i64 w a n c ws) :
    Calls Try.prog 41 #[.int .i64 cap, .slice a n c] w fun e w' => e = .returned (.bool (qRight cap ws)) ∧ Below w.heap.size w w' := by
  refine enter2 Try.func41 rfl rfl (Hp.refl w) ?_
  repeat (first | refine T_seq ?_ | refine T_region ?_ | refine S_nil ?_ | refine S_pure tabOk rfl ?_)
  refine S_callq (v := .bool (decide (rightW ws))) rfl Try.call18 (fun w1 h1 => rright_ok a n c ws w1 (ints_ext hI (h1.below new_nil))) ?_
  unfold qRight
  cases hr : decide (rightW ws) with
  | false =>
    repeat (first | refine S_nil ?_ | refine T_ret ?_ | refine S_pure tabOk rfl ?_ | refine S_pass rfl rfl rfl ?_)
    exact ret1 rfl rfl (fun w' hw => ⟨rfl, hw.below new_nil⟩)
  | true =>
    repeat (first | refine S_pure tabOk rfl ?_)
    by_cases hc1 : 1 ≤ cap
    · refine S_re 11 (v' := .bool true) rfl (congrArg Value.bool (decide_eq_true hc1)) ?_
      repeat (first | refine S_nil ?_ | refine T_ret ?_ | refine S_pure tabOk rfl ?_)
      exact ret1 rfl rfl (fun w' hw => ⟨by
        by_cases hc2 : cap ≤ 1099511627776
        · rw [decide_eq_true hc2, decide_eq_true (by omega)]; rfl
        · rw [decide_eq_false hc2, decide_eq_false (by omega)]; rfl, hw.below new_nil⟩)
    · refine S_re 11 (v' := .bool false) rfl (congrArg Value.bool (decide_eq_false hc1)) ?_
      repeat (first | refine S_nil ?_ | refine T_ret ?_ | refine S_pure tabOk rfl ?_ | refine S_pass rfl rfl rfl ?_)
      exact ret1 rfl rfl (fun w' hw => ⟨by rw [decide_eq_false (by omega : ¬ (1 ≤ cap ∧ cap ≤ 1099511627776))]; rfl, hw.below new_nil⟩)
abbrev aL : List QE := [(1, 0, [97, 98]), (2, 0, [99, 100])]
theorem awake9_plan {o : List Int × Bool} {E : Int} (h : VicP 40 [1, 1] aL 1 4 o E) : o = ([1], false) ∧ E = 0 := by
  unfold VicP at h
  rw [if_pos (by decide), if_neg (by decide)] at h
  obtain ⟨rfl, pl, h1, rfl⟩ := h
  have h2 : pl = [(0, 0)] := by
    refine h1.uniq (PlanR.step (c := 0) (x := 18) (xs := [18]) (by decide) ⟨by decide, fun d hd => ?_⟩ rfl (.stop (by decide)))
    match d with
    | 0 => exact .inr ⟨rfl, Nat.le_refl _⟩
    | 1 => exact .inl (by decide)
    | d + 2 => exact absurd rfl hd
  rw [h2]
  exact ⟨by decide, rfl⟩
theorem mk_u8 {n : Int} (h : 0 ≤ n ∧ n ≤ 255) : Fits .u8 n := by simpa [Fits, IntKind.min, IntKind.max, IntKind.signed, IntKind.bits] using h
theorem slr_blk {w : World} {b : Nat} {e : TypeId} {fz : Nat × Nat} {zs : List Int} {k : IntKind} (hb : w.heap[b]? = some (.cells ⟨zs.map (.int k)⟩ e fz)) (hl : zs.length ≤ maxLen) (hf : ∀ z ∈ zs, Fits k z) : SlR (Rint k) w (fun j => j = b) (some ⟨b, 0, none⟩) zs.length zs.length zs :=
  SlR.of_ints ⟨rfl, Nat.le_refl _, hl, fun h => (by cases h), hf, Sl.of_blk hb (by rw [List.length_map, Nat.mul_one]) (fun j u hu => by rw [Nat.zero_add]; exact hu)⟩ (fun b' off _ e => by cases e; rfl)
set_option maxHeartbeats 4000000 in
theorem awake9_ok (w : World) : Calls Try.prog 24 #[] w fun e w' => e = .returned (.bool true) ∧ Below w.heap.size w w' := by
  refine enter0 Try.func24 rfl (Hp.refl w) ?_
  repeat (first | refine T_seq ?_ | refine T_region ?_ | refine S_nil ?_ | refine S_pure tabOk rfl ?_)
  refine S_bslice tabOk rfl rfl rfl rfl rfl rfl rfl rfl rfl rfl rfl rfl (fun b7 hb7 => ?_)
  skip
  refine S_callN rfl Try.call25 (fun w1 h1 => (q_newY (cap := 40) (ws := [1, 1]) (slr_blk (zs := [1, 1]) (h1.own _ (getE_mem (i := 0) rfl)) (by decide) (fun z hz => mk_i64 (by simp at hz; omega))).ints (by decide)).mono fun e w' ⟨qb, F, e1, hF, h2⟩ => ⟨_, _, F, e1, h2, hF, fun hFn => ?_⟩)
  repeat (first | refine T_seq ?_ | refine T_region ?_ | refine S_nil ?_ | refine S_pure tabOk rfl ?_)
  refine S_bslice tabOk rfl rfl rfl rfl rfl rfl rfl rfl rfl rfl rfl rfl (fun b15 hb15 => ?_)
  skip
  refine S_mark tabOk 0 rfl rfl rfl rfl rfl rfl rfl rfl ?_
  repeat (first | refine S_q (Q_build tabOk rfl rfl rfl rfl rfl rfl rfl) ?_)
  refine S_callT 1 rfl Try.call27 rfl (fun w1 g => ?_)
  have hA1 : ∀ j, j = b15 → ¬ F j := fun j hj hf => by
    have := g.apart
    exact (List.pairwise_cons.1 this).1 _ List.mem_cons_self rfl j (congrArg some hj.symm) hf
  have g0 := g.own _ (getE_mem (i := 1) rfl)
  have hs1 := g.size
  have h9 := q_put (n := 1) (k := 0) g0.1 g0.2.2 (QOk.nil _ _) (by decide) (by decide) (by decide) (by decide) (by decide) (by decide) (slr_blk (zs := [97, 98]) (k := .u8) (g.own _ (getE_mem (i := 0) rfl)) (by decide) (fun z hz => mk_u8 (by simp at hz; omega))) hA1
  rw [show qPut 40 0 [1, 1] [] 1 0 [97, 98] = (0, 1, [(1, 0, [97, 98])]) from rfl] at h9
  refine h9.mono fun e w' ⟨he, F', f1, f2, g2⟩ => ⟨_, _, F', he, g2, f1, f2, _, rfl, ?_⟩
  have hFn' : ∀ k, F' k → w.heap.size ≤ k := fun k hk => (f2 k hk).elim (hFn k) (fun h => Nat.le_trans hs1 h)
  clear h9 g0 g hA1
  dsimp only
  repeat (first | refine S_pure tabOk rfl ?_)
  refine S_bslice tabOk rfl rfl rfl rfl rfl rfl rfl rfl rfl rfl rfl rfl (fun b23 hb23 => ?_)
  skip
  refine S_mark tabOk 0 rfl rfl rfl rfl rfl rfl rfl rfl ?_
  repeat (first | refine S_q (Q_build tabOk rfl rfl rfl rfl rfl rfl rfl) ?_)
  refine S_callT 2 rfl Try.call27 rfl (fun w1 g => ?_)
  have hA1 : ∀ j, j = b23 → ¬ F' j := fun j hj hf => by
    have := (g.pm [0, 2, 1] rfl rfl rfl).apart
    exact (List.pairwise_cons.1 this).1 _ List.mem_cons_self rfl j (congrArg some hj.symm) hf
  have g0 := g.own _ (getE_mem (i := 2) rfl)
  have hs1 := g.size
  have h9 := q_put (n := 2) (k := 0) g0.1 g0.2.2 (QOk.snoc (QOk.nil 40 [1, 1]) (n := 1) (cls := 0) (zs := [97, 98]) (by decide) (by decide) (by decide) (by decide)) (by decide) (by decide) (by decide) (by decide) (by decide) (by decide) (slr_blk (zs := [99, 100]) (k := .u8) (g.own _ (getE_mem (i := 0) rfl)) (by decide) (fun z hz => mk_u8 (by simp at hz; omega))) hA1
  rw [show qPut 40 1 [1, 1] [(1, 0, [97, 98])] 2 0 [99, 100] = (0, 2, aL) from rfl] at h9
  refine h9.mono fun e w' ⟨he, F2, f3, f4, g2⟩ => ⟨_, _, F2, he, g2, f3, f4, _, rfl, ?_⟩
  have hFn2 : ∀ k, F2 k → w.heap.size ≤ k := fun k hk => (f4 k hk).elim (hFn' k) (fun h => Nat.le_trans hs1 h)
  clear h9 g0 g hA1
  dsimp only
  repeat (first | refine S_nil ?_ | refine S_pure tabOk rfl ?_)
  refine T_cond_f rfl ?_
  repeat (first | refine T_seq ?_ | refine T_region ?_ | refine pthen_normal ?_ | refine T_skip ?_ | refine S_pure tabOk rfl ?_)
  refine S_bslice tabOk rfl rfl rfl rfl rfl rfl rfl rfl rfl rfl rfl rfl (fun b31 hb31 => ?_)
  skip
  refine S_mark tabOk 0 rfl rfl rfl rfl rfl rfl rfl rfl ?_
  repeat (first | refine S_q (Q_build tabOk rfl rfl rfl rfl rfl rfl rfl) ?_)
  refine S_call rfl Try.call29 (fun w1 g => ?_)
  have hok2 : QOk 40 2 [1, 1] aL := QOk.snoc (QOk.snoc (QOk.nil 40 [1, 1]) (n := 1) (cls := 0) (zs := [97, 98]) (by decide) (by decide) (by decide) (by decide)) (n := 2) (cls := 0) (zs := [99, 100]) (by decide) (by decide) (by decide) (by decide)
  refine (q_victims (k := 1) (g.own _ (getE_mem (i := 3) rfl)).1 hok2 (by decide) (by decide) (by decide) (slr_blk (zs := [97, 98, 99, 100]) (k := .u8) (g.own _ (getE_mem (i := 0) rfl)) (by decide) (fun z hz => mk_u8 (by simp at hz; omega)))).mono fun e w' ⟨o, E, a2, c2, e1, hb, hr, hv⟩ => ?_
  obtain ⟨rfl, rfl⟩ := awake9_plan hv
  refine ⟨_, _, e1, g.fresh hb (x := .row w.heap.size (.slice a2 1 c2) 59 1 1 [.int .u64 1]) (own_rebase hr g.size) (fun j hj => (World.ownsRow.lt hr j hj).1), ?_⟩
  clear g
  dsimp only
  repeat (first | refine T_seq ?_ | refine T_region ?_ | refine S_nil ?_ | refine S_pure tabOk rfl ?_)
  refine S_bslice tabOk rfl rfl rfl rfl rfl rfl rfl rfl rfl rfl rfl rfl (fun b46 hb46 => ?_)
  refine S_callq (v := .bool true) rfl Try.call49 (fun w1 h1 => equal64_ok a2 (some ⟨b46, 0, none⟩) 1 c2 1 1 [1] [1] w1 (Sl.of_own (h1.own _ (getE_mem (i := 1) rfl))) (Sl.of_blk (xs := [.int .u64 1]) (h1.own _ (getE_mem (i := 0) rfl)) rfl (fun j u hu => by rw [Nat.zero_add]; exact hu)) (by decide)) ?_
  repeat (first | refine S_nil ?_ | refine T_ret ?_ | refine S_pure tabOk rfl ?_)
  exact ret1 rfl rfl (fun w' hw => ⟨rfl, hw.below (by repeat (first | exact new_nil | refine new_rx (by assumption) ?_ | refine new_cons (by first | assumption | omega) ?_ | refine newrow hw 1 rfl (Nat.le_refl _) ?_))⟩)
abbrev Rspan : Rep (Int × List Int) := Rpair (Rint .i64) (Rslice (Rint .u8))
abbrev spV (k : Int) (a : Option Addr) (n c : Nat) : Value := .agg #[.int .i64 k, .slice a n c]
theorem span_form {w : World} {A : Nat → Prop} {v : Value} {x : Int × List Int} (h : Rspan.val w A v x) : ∃ a n c, v = spV x.1 a n c ∧ Fits .i64 x.1 ∧ SlR (Rint .u8) w A a n c x.2 := by
  obtain ⟨cs, rfl, c1, c2, rfl, ⟨rfl, hk⟩, a, n, c, rfl, hx⟩ := h
  exact ⟨a, n, c, rfl, hk, hx⟩
end Go.Proofs.Yteogkadjambmkaa
