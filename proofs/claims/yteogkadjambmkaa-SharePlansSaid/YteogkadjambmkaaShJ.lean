/-
  awake. Conditions: each theorem's own.
-/
import Derived.Test.YteogkadjambmkaaShI
import Derived.Test.YteogkadjambmkaaEngW
namespace Go.Proofs.Yteogkadjambmkaa
open Go Go.RowKit
set_option linter.unusedVariables false

theorem S_callPl {P : Program} {n : Nat} {w0 : World} {all : Array Oper} {os : List Oper} {o : Oper} {l : FL} {ol : OL} {K : FL → OL → Prop} {Q : Post} {d : Nat} (X : List (Nat × Nat) → Prop) {bb : Bool} {f : FuncId} {vs : List Value} (hs : callAt? n all (look l) o = some (d, f, vs)) (hcall : ∀ args w, (callFunc f args).run P w = .ok (.enter f args) w)
    (hc : ∀ w, Hp w0 w ol → Calls P f vs.toArray w (fun e w' => ∃ out av cv, X out ∧ e = .returned (.tuple #[.slice av out.length cv, .bool bb]) ∧ Below w.heap.size w w' ∧ w'.ownsRow w.heap.size 34 2 (.slice av out.length cv) out.length (vcells out)))
    (k : ∀ out av cv, X out → S P n w0 all os ((d, .tuple #[.slice av out.length cv, .bool bb]) :: l) (.row w0.heap.size (.slice av out.length cv) 34 2 out.length (vcells out) :: ol) K Q) : S P n w0 all (o :: os) l ol K Q :=
  S_call hs hcall fun w hh => (hc w hh).mono fun e w' ⟨out, av, cv, h1, h2, hb, hr⟩ => ⟨_, _, h2, hh.fresh hb (x := .row w0.heap.size (.slice av out.length cv) 34 2 out.length (vcells out)) (own_rebase hr hh.size) (fun j hj => (World.ownsRow.lt hr j hj).1), k out av cv h1⟩
/-- share.Plan, of what may be asked. -/
theorem splan_fit (a : Option Addr) (n c : Nat) (ws : List Int) (a2 : Option Addr) (n2 c2 : Nat) (q : List (List Int)) (cap cls size : Int) (W : World) (hI : Ints .i64 W a n c ws) (hx : SlR Rll W TT a2 n2 c2 q) (hq2 : ∀ l ∈ q, l.length ≤ 1048576) (hf : fitsP cap ws q cls size) :
    Calls Try.prog 15 #[.int .i64 cap, .slice a n c, .slice a2 n2 c2, .int .i64 cls, .int .i64 size] W fun e w' => ∃ out av cv, PlanR cap ws (left0 q cls size) (List.replicate n 0) (q.flatten.sum + size) out ∧
      e = .returned (.tuple #[.slice av out.length cv, .bool true]) ∧ Below W.heap.size W w' ∧ w'.ownsRow W.heap.size 34 2 (.slice av out.length cv) out.length (vcells out) := by
  have h8 := hf.1.2.1
  have hl := hf.2.1
  have := splan_ok a n c ws a2 n2 c2 q cap cls size W hI hx (by omega) hq2
  rw [decide_eq_true hf] at this
  exact this.mono fun e w' ⟨out, av, cv, h1, _, h3, h4, h5⟩ => ⟨out, av, cv, h1 hf, h3, h4, h5⟩
theorem awake_fit : fitsP 10 [1, 1] [[4, 4], []] 1 4 := by
  unfold fitsP rightW
  decide
theorem awake_plan {out : List (Nat × Nat)} (h : PlanR 10 [1, 1] (left0 [[4, 4], []] 1 4) (List.replicate 2 0) (([[4, 4], []] : List (List Int)).flatten.sum + 4) out) : out = [(0, 0)] := by
  refine h.uniq (PlanR.step (c := 0) (x := 4) (xs := [4]) (by decide) ⟨by decide, fun d hd => ?_⟩ rfl (.stop (by decide)))
  match d with
  | 0 => exact .inr ⟨rfl, Nat.le_refl _⟩
  | 1 => exact .inl (by decide)
  | d + 2 => exact absurd rfl hd
theorem ints_blk {w : World} {b : Nat} {e : TypeId} {zs : List Int} {k : IntKind} (hb : w.heap[b]? = some (.cells ⟨zs.map (.int k)⟩ e (0, 0))) (hl : zs.length ≤ maxLen) (hf : ∀ z ∈ zs, Fits k z) : Ints k w (some ⟨b, 0, none⟩) zs.length zs.length zs :=
  ⟨rfl, Nat.le_refl _, hl, fun h => (by cases h), hf, Sl.of_blk hb (by rw [List.length_map, Nat.mul_one]) (fun j u hu => by rw [Nat.zero_add]; exact hu)⟩
set_option maxHeartbeats 1000000 in
theorem awake8_ok (w : World) : Calls Try.prog 13 #[] w fun e w' => e = .returned (.bool true) ∧ Below w.heap.size w w' := by
  refine enter0 Try.func13 rfl (Hp.refl w) ?_
  repeat (first | refine T_draw (by kernel_rfl) (by kernel_rfl) ?_ | refine D_all rfl ?_ | refine D_i64 tabOk rfl (by omega) ?_ | refine D_u64 tabOk rfl (by omega) ?_ | refine D_pure tabOk rfl ?_ | refine D_pass rfl rfl rfl ?_ | refine D_load tabOk 0 rfl rfl rfl ?_ | refine D_load tabOk 1 rfl rfl rfl ?_ | refine D_load tabOk 2 rfl rfl rfl ?_ | refine D_load tabOk 3 rfl rfl rfl ?_ | refine D_load tabOk 4 rfl rfl rfl ?_ | refine T_seq ?_ | refine T_region ?_ | refine T_block ?_ | refine S_nil ?_ | refine pthen_normal ?_ | refine inb_normal ?_ | refine inb_ret ?_ | refine pthen_ret ?_ | refine inb_hit ?_ | refine pthen_exit ?_ | refine T_skip ?_ | refine T_ret ?_ | refine T_exit ?_  | refine S_i64 tabOk rfl (by omega) ?_ | refine S_u64 tabOk rfl (by omega) ?_ | refine S_pure tabOk rfl ?_ | refine S_pass rfl rfl rfl ?_ | refine S_pass0 rfl rfl ?_ | refine T_region_any ?_  | refine S_load tabOk 0 rfl rfl rfl ?_ | refine S_load tabOk 1 rfl rfl rfl ?_ | refine S_load tabOk 2 rfl rfl rfl ?_ | refine S_load tabOk 3 rfl rfl rfl ?_ | refine S_load tabOk 4 rfl rfl rfl ?_ | refine S_load tabOk 5 rfl rfl rfl ?_ | refine S_store tabOk 0 rfl rfl rfl rfl rfl rfl ?_ | refine S_store tabOk 1 rfl rfl rfl rfl rfl rfl ?_ | refine S_store tabOk 2 rfl rfl rfl rfl rfl rfl ?_ | refine S_store tabOk 3 rfl rfl rfl rfl rfl rfl ?_ | refine S_store tabOk 4 rfl rfl rfl rfl rfl rfl ?_ | refine S_store tabOk 5 rfl rfl rfl rfl rfl rfl ?_ | refine S_q (Q_build tabOk rfl rfl rfl rfl rfl rfl rfl) ?_ | refine D_q (Q_build tabOk rfl rfl rfl rfl rfl rfl rfl) ?_)
  refine S_bslice tabOk rfl rfl rfl rfl rfl rfl rfl rfl rfl rfl rfl rfl (fun b4 hb4 => ?_)
  refine S_bslice tabOk rfl rfl rfl rfl rfl rfl rfl rfl rfl rfl rfl rfl (fun b5 hb5 => ?_)
  refine S_bslice tabOk rfl rfl rfl rfl rfl rfl rfl rfl rfl rfl rfl rfl (fun b6 hb6 => ?_)
  refine S_callPl (fun out => out = [(0, 0)]) rfl Try.call15 (fun w1 h1 => (splan_fit (some ⟨b4, 0, none⟩) 2 2 [1, 1] (some ⟨b6, 0, none⟩) 2 2 [[4, 4], []] 10 1 4 w1 ?_ ?_ (by decide) awake_fit).mono fun e w' ⟨out, av, cv, g1, g2, g3, g4⟩ => ⟨out, av, cv, awake_plan g1, g2, g3, g4⟩) (fun out av cv ho => ?_)
  · exact ints_blk (zs := [1, 1]) (h1.own _ (getE_mem (i := 2) rfl)) (by decide) (fun z hz => mk_i64 (by simp at hz; omega))
  · have h5 := ints_blk (k := .i64) (zs := [4, 4]) (h1.own _ (getE_mem (i := 1) rfl)) (by decide) (fun z hz => mk_i64 (by simp at hz; omega))
    refine ⟨rfl, Nat.le_refl _, by decide, fun h => (by cases h), ⟨[[.slice (some ⟨b5, 0, none⟩) 2 2], [.slice none 0 0]], rfl, fun i cs x hi hx => ?_, Sl.of_blk (h1.own _ (getE_mem (i := 0) rfl)) rfl (fun j u hu => by rw [Nat.zero_add]; exact hu)⟩, fun _ => ⟨b6, 0, rfl, trivial⟩⟩
    match i with
    | 0 =>
      cases hi
      cases hx
      exact ⟨_, _, _, rfl, SlR.of_ints h5 (fun _ _ _ _ => trivial)⟩
    | 1 =>
      cases hi
      cases hx
      exact ⟨_, _, _, rfl, SlR.nil_⟩
    | i + 2 => simp at hi
  subst ho
  repeat (first | refine T_draw (by kernel_rfl) (by kernel_rfl) ?_ | refine D_all rfl ?_ | refine D_i64 tabOk rfl (by omega) ?_ | refine D_u64 tabOk rfl (by omega) ?_ | refine D_pure tabOk rfl ?_ | refine D_pass rfl rfl rfl ?_ | refine D_load tabOk 0 rfl rfl rfl ?_ | refine D_load tabOk 1 rfl rfl rfl ?_ | refine D_load tabOk 2 rfl rfl rfl ?_ | refine D_load tabOk 3 rfl rfl rfl ?_ | refine D_load tabOk 4 rfl rfl rfl ?_ | refine T_seq ?_ | refine T_region ?_ | refine T_block ?_ | refine S_nil ?_ | refine pthen_normal ?_ | refine inb_normal ?_ | refine inb_ret ?_ | refine pthen_ret ?_ | refine inb_hit ?_ | refine pthen_exit ?_ | refine T_skip ?_ | refine T_ret ?_ | refine T_exit ?_  | refine S_i64 tabOk rfl (by omega) ?_ | refine S_u64 tabOk rfl (by omega) ?_ | refine S_pure tabOk rfl ?_ | refine S_pass rfl rfl rfl ?_ | refine S_pass0 rfl rfl ?_ | refine T_region_any ?_  | refine S_load tabOk 0 rfl rfl rfl ?_ | refine S_load tabOk 1 rfl rfl rfl ?_ | refine S_load tabOk 2 rfl rfl rfl ?_ | refine S_load tabOk 3 rfl rfl rfl ?_ | refine S_load tabOk 4 rfl rfl rfl ?_ | refine S_load tabOk 5 rfl rfl rfl ?_ | refine S_store tabOk 0 rfl rfl rfl rfl rfl rfl ?_ | refine S_store tabOk 1 rfl rfl rfl rfl rfl rfl ?_ | refine S_store tabOk 2 rfl rfl rfl rfl rfl rfl ?_ | refine S_store tabOk 3 rfl rfl rfl rfl rfl rfl ?_ | refine S_store tabOk 4 rfl rfl rfl rfl rfl rfl ?_ | refine S_store tabOk 5 rfl rfl rfl rfl rfl rfl ?_ | refine S_q (Q_build tabOk rfl rfl rfl rfl rfl rfl rfl) ?_ | refine D_q (Q_build tabOk rfl rfl rfl rfl rfl rfl rfl) ?_)
  refine S_rowA 0 rfl (by decide) (fun bv hbv => ?_)
  subst hbv
  refine S_q (Q_idx (sz := 2) tabOk rfl rfl rfl rfl rfl rfl rfl (j := 0) rfl (by decide)) ?_
  refine S_loadN tabOk (vs := [.int .i64 0, .int .i64 0]) rfl rfl rfl (fun w' hw j u hu => by
    rw [Addr.add_lit, Nat.zero_mul, Nat.add_zero, Nat.zero_add]
    exact own_cell (hw.own _ (getE_mem (i := 0) rfl)) (by decide) hu) ?_
  repeat (first | refine T_draw (by kernel_rfl) (by kernel_rfl) ?_ | refine D_all rfl ?_ | refine D_i64 tabOk rfl (by omega) ?_ | refine D_u64 tabOk rfl (by omega) ?_ | refine D_pure tabOk rfl ?_ | refine D_pass rfl rfl rfl ?_ | refine D_load tabOk 0 rfl rfl rfl ?_ | refine D_load tabOk 1 rfl rfl rfl ?_ | refine D_load tabOk 2 rfl rfl rfl ?_ | refine D_load tabOk 3 rfl rfl rfl ?_ | refine D_load tabOk 4 rfl rfl rfl ?_ | refine T_seq ?_ | refine T_region ?_ | refine T_block ?_ | refine S_nil ?_ | refine pthen_normal ?_ | refine inb_normal ?_ | refine inb_ret ?_ | refine pthen_ret ?_ | refine inb_hit ?_ | refine pthen_exit ?_ | refine T_skip ?_ | refine T_ret ?_ | refine T_exit ?_  | refine S_i64 tabOk rfl (by omega) ?_ | refine S_u64 tabOk rfl (by omega) ?_ | refine S_pure tabOk rfl ?_ | refine S_pass rfl rfl rfl ?_ | refine S_pass0 rfl rfl ?_ | refine T_region_any ?_  | refine S_load tabOk 0 rfl rfl rfl ?_ | refine S_load tabOk 1 rfl rfl rfl ?_ | refine S_load tabOk 2 rfl rfl rfl ?_ | refine S_load tabOk 3 rfl rfl rfl ?_ | refine S_load tabOk 4 rfl rfl rfl ?_ | refine S_load tabOk 5 rfl rfl rfl ?_ | refine S_store tabOk 0 rfl rfl rfl rfl rfl rfl ?_ | refine S_store tabOk 1 rfl rfl rfl rfl rfl rfl ?_ | refine S_store tabOk 2 rfl rfl rfl rfl rfl rfl ?_ | refine S_store tabOk 3 rfl rfl rfl rfl rfl rfl ?_ | refine S_store tabOk 4 rfl rfl rfl rfl rfl rfl ?_ | refine S_store tabOk 5 rfl rfl rfl rfl rfl rfl ?_ | refine S_q (Q_build tabOk rfl rfl rfl rfl rfl rfl rfl) ?_ | refine D_q (Q_build tabOk rfl rfl rfl rfl rfl rfl rfl) ?_)
  refine S_q (Q_eq2 tabOk rfl rfl rfl rfl rfl rfl rfl rfl rfl rfl rfl (by decide) (by decide) (by kernel_rfl) (by kernel_rfl)) ?_
  repeat (first | refine T_draw (by kernel_rfl) (by kernel_rfl) ?_ | refine D_all rfl ?_ | refine D_i64 tabOk rfl (by omega) ?_ | refine D_u64 tabOk rfl (by omega) ?_ | refine D_pure tabOk rfl ?_ | refine D_pass rfl rfl rfl ?_ | refine D_load tabOk 0 rfl rfl rfl ?_ | refine D_load tabOk 1 rfl rfl rfl ?_ | refine D_load tabOk 2 rfl rfl rfl ?_ | refine D_load tabOk 3 rfl rfl rfl ?_ | refine D_load tabOk 4 rfl rfl rfl ?_ | refine T_seq ?_ | refine T_region ?_ | refine T_block ?_ | refine S_nil ?_ | refine pthen_normal ?_ | refine inb_normal ?_ | refine inb_ret ?_ | refine pthen_ret ?_ | refine inb_hit ?_ | refine pthen_exit ?_ | refine T_skip ?_ | refine T_ret ?_ | refine T_exit ?_  | refine S_i64 tabOk rfl (by omega) ?_ | refine S_u64 tabOk rfl (by omega) ?_ | refine S_pure tabOk rfl ?_ | refine S_pass rfl rfl rfl ?_ | refine S_pass0 rfl rfl ?_ | refine T_region_any ?_  | refine S_load tabOk 0 rfl rfl rfl ?_ | refine S_load tabOk 1 rfl rfl rfl ?_ | refine S_load tabOk 2 rfl rfl rfl ?_ | refine S_load tabOk 3 rfl rfl rfl ?_ | refine S_load tabOk 4 rfl rfl rfl ?_ | refine S_load tabOk 5 rfl rfl rfl ?_ | refine S_store tabOk 0 rfl rfl rfl rfl rfl rfl ?_ | refine S_store tabOk 1 rfl rfl rfl rfl rfl rfl ?_ | refine S_store tabOk 2 rfl rfl rfl rfl rfl rfl ?_ | refine S_store tabOk 3 rfl rfl rfl rfl rfl rfl ?_ | refine S_store tabOk 4 rfl rfl rfl rfl rfl rfl ?_ | refine S_store tabOk 5 rfl rfl rfl rfl rfl rfl ?_ | refine S_q (Q_build tabOk rfl rfl rfl rfl rfl rfl rfl) ?_ | refine D_q (Q_build tabOk rfl rfl rfl rfl rfl rfl rfl) ?_)
  exact ret1 rfl rfl (fun w' hw => ⟨rfl, hw.below (by repeat (first | exact new_nil | refine new_ro ?_ | refine new_cons (by first | assumption | omega) ?_ | refine newrow hw 0 rfl (Nat.le_refl _) ?_ | refine newrow hw 1 rfl (Nat.le_refl _) ?_ | refine newrow hw 2 rfl (Nat.le_refl _) ?_ | refine newrow hw 3 rfl (Nat.le_refl _) ?_ | refine newrow hw 4 rfl (Nat.le_refl _) ?_ | refine newrow hw 5 rfl (Nat.le_refl _) ?_ | refine newrow hw 6 rfl (Nat.le_refl _) ?_ | refine newrow hw 7 rfl (Nat.le_refl _) ?_ | refine newrow hw 8 rfl (Nat.le_refl _) ?_ | refine newrow hw 9 rfl (Nat.le_refl _) ?_ | refine newrow hw 10 rfl (Nat.le_refl _) ?_ | refine newrow hw 11 rfl (Nat.le_refl _) ?_ | refine newrow hw 12 rfl (Nat.le_refl _) ?_ | refine newrow hw 13 rfl (Nat.le_refl _) ?_ | refine newrow hw 14 rfl (Nat.le_refl _) ?_ | refine newrow hw 15 rfl (Nat.le_refl _) ?_ | refine newrow hw 16 rfl (Nat.le_refl _) ?_))⟩)
end Go.Proofs.Yteogkadjambmkaa
