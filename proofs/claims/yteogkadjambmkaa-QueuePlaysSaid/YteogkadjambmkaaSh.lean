/-
  The walk of container/heap's Init. Conditions: each theorem's own. Contracts of sum, Right, Excess, of both. Conditions: each theorem's own. (Made by genShE.py.) Contracts of fits, of both, and of Total. Conditions: each theorem's own. (Made by genShF.py.) share.lines' methods, and the object that they make. Conditions: each theorem's own. share.lines as a heap's object; its Pop. Conditions: each theorem's own. share.lines' Pop. Conditions: each theorem's own. The plain law of share: who goes. No program's text; conditions: each theorem's own. share.Plan's objects: lines, grouped and taken apart; the lines of the first classes. Conditions: each theorem's own. The walk of share.Plan. Conditions: each theorem's own. The walk of the document's Plan. Conditions: each theorem's own.
  Conditions: each theorem's own.
-/
import Derived.Test.YteogkadjambmkaaBs
namespace Go.Proofs.Yteogkadjambmkaa
open Go Go.RowKit
set_option linter.unusedVariables false


set_option maxHeartbeats 1000000 in
theorem hinit_ok {iv : Value} {St : Type} (O : HOb Try.prog iv St) (s : St) (F : Nat → Prop) (w : World) (h : (O.p s).at_ w F (.bool true)) (hF : ∀ k, F k → k < w.heap.size) :
    Calls Try.prog 45 #[iv] w fun e w' => e = .returned (.tuple #[]) ∧ Hp w w' [.rep (fun w => (O.p (O.ini (O.len s) (O.len s / 2) s)).at_ w F (.bool true)) F true] := by
  have hle := O.hle h
  obtain ⟨R, hR⟩ : ∃ R, O.ini (O.len s) (O.len s / 2) s = R := ⟨_, rfl⟩
  rw [hR]
  refine enter1 Try.func45 rfl rfl (Hp.startO h hF) ?_
  repeat (first | refine T_draw (by kernel_rfl) (by kernel_rfl) ?_ | refine D_all rfl ?_ | refine D_i64 tabOk rfl (by omega) ?_ | refine D_u64 tabOk rfl (by omega) ?_ | refine D_pure tabOk rfl ?_ | refine D_pass rfl rfl rfl ?_ | refine D_load tabOk 0 rfl rfl rfl ?_ | refine D_load tabOk 1 rfl rfl rfl ?_ | refine D_load tabOk 2 rfl rfl rfl ?_ | refine D_load tabOk 3 rfl rfl rfl ?_ | refine D_load tabOk 4 rfl rfl rfl ?_ | refine T_seq ?_ | refine T_region ?_ | refine T_block ?_ | refine S_nil ?_ | refine pthen_normal ?_ | refine inb_normal ?_ | refine inb_ret ?_ | refine pthen_ret ?_ | refine inb_hit ?_ | refine pthen_exit ?_ | refine T_skip ?_ | refine T_ret ?_ | refine T_exit ?_  | refine S_i64 tabOk rfl (by omega) ?_ | refine S_u64 tabOk rfl (by omega) ?_ | refine S_pure tabOk rfl ?_ | refine S_pass rfl rfl rfl ?_ | refine S_pass0 rfl rfl ?_ | refine T_region_any ?_  | refine S_load tabOk 0 rfl rfl rfl ?_ | refine S_load tabOk 1 rfl rfl rfl ?_ | refine S_load tabOk 2 rfl rfl rfl ?_ | refine S_load tabOk 3 rfl rfl rfl ?_ | refine S_load tabOk 4 rfl rfl rfl ?_ | refine S_load tabOk 5 rfl rfl rfl ?_ | refine S_store tabOk 0 rfl rfl rfl rfl rfl rfl ?_ | refine S_store tabOk 1 rfl rfl rfl rfl rfl rfl ?_ | refine S_store tabOk 2 rfl rfl rfl rfl rfl rfl ?_ | refine S_store tabOk 3 rfl rfl rfl rfl rfl rfl ?_ | refine S_store tabOk 4 rfl rfl rfl rfl rfl rfl ?_ | refine S_store tabOk 5 rfl rfl rfl rfl rfl rfl ?_ | refine S_q (Q_build tabOk rfl rfl rfl rfl rfl rfl rfl) ?_ | refine D_q (Q_build tabOk rfl rfl rfl rfl rfl rfl rfl) ?_)
  refine S_invq rfl rfl rfl (fun w1 g => O.hlen (g.own _ (getE_mem (i := 0) rfl)).1) ?_
  repeat (first | refine T_draw (by kernel_rfl) (by kernel_rfl) ?_ | refine D_all rfl ?_ | refine D_i64 tabOk rfl (by omega) ?_ | refine D_u64 tabOk rfl (by omega) ?_ | refine D_pure tabOk rfl ?_ | refine D_pass rfl rfl rfl ?_ | refine D_load tabOk 0 rfl rfl rfl ?_ | refine D_load tabOk 1 rfl rfl rfl ?_ | refine D_load tabOk 2 rfl rfl rfl ?_ | refine D_load tabOk 3 rfl rfl rfl ?_ | refine D_load tabOk 4 rfl rfl rfl ?_ | refine T_seq ?_ | refine T_region ?_ | refine T_block ?_ | refine S_nil ?_ | refine pthen_normal ?_ | refine inb_normal ?_ | refine inb_ret ?_ | refine pthen_ret ?_ | refine inb_hit ?_ | refine pthen_exit ?_ | refine T_skip ?_ | refine T_ret ?_ | refine T_exit ?_  | refine S_i64 tabOk rfl (by omega) ?_ | refine S_u64 tabOk rfl (by omega) ?_ | refine S_pure tabOk rfl ?_ | refine S_pass rfl rfl rfl ?_ | refine S_pass0 rfl rfl ?_ | refine T_region_any ?_  | refine S_load tabOk 0 rfl rfl rfl ?_ | refine S_load tabOk 1 rfl rfl rfl ?_ | refine S_load tabOk 2 rfl rfl rfl ?_ | refine S_load tabOk 3 rfl rfl rfl ?_ | refine S_load tabOk 4 rfl rfl rfl ?_ | refine S_load tabOk 5 rfl rfl rfl ?_ | refine S_store tabOk 0 rfl rfl rfl rfl rfl rfl ?_ | refine S_store tabOk 1 rfl rfl rfl rfl rfl rfl ?_ | refine S_store tabOk 2 rfl rfl rfl rfl rfl rfl ?_ | refine S_store tabOk 3 rfl rfl rfl rfl rfl rfl ?_ | refine S_store tabOk 4 rfl rfl rfl rfl rfl rfl ?_ | refine S_store tabOk 5 rfl rfl rfl rfl rfl rfl ?_ | refine S_q (Q_build tabOk rfl rfl rfl rfl rfl rfl rfl) ?_ | refine D_q (Q_build tabOk rfl rfl rfl rfl rfl rfl rfl) ?_)
  refine S_q (Q_quo0 rfl rfl rfl (by decide) (by omega) (fun e h1 h2 => IntWalk.i64_in _ (by omega))) ?_
  repeat (first | refine T_draw (by kernel_rfl) (by kernel_rfl) ?_ | refine D_all rfl ?_ | refine D_i64 tabOk rfl (by omega) ?_ | refine D_u64 tabOk rfl (by omega) ?_ | refine D_pure tabOk rfl ?_ | refine D_pass rfl rfl rfl ?_ | refine D_load tabOk 0 rfl rfl rfl ?_ | refine D_load tabOk 1 rfl rfl rfl ?_ | refine D_load tabOk 2 rfl rfl rfl ?_ | refine D_load tabOk 3 rfl rfl rfl ?_ | refine D_load tabOk 4 rfl rfl rfl ?_ | refine T_seq ?_ | refine T_region ?_ | refine S_nil ?_ | refine pthen_normal ?_ | refine inb_normal ?_ | refine inb_ret ?_ | refine pthen_ret ?_ | refine inb_hit ?_ | refine pthen_exit ?_ | refine T_skip ?_ | refine T_ret ?_ | refine T_exit ?_  | refine S_i64 tabOk rfl (by omega) ?_ | refine S_u64 tabOk rfl (by omega) ?_ | refine S_pure tabOk rfl ?_ | refine S_pass rfl rfl rfl ?_ | refine S_pass0 rfl rfl ?_ | refine T_region_any ?_  | refine S_load tabOk 0 rfl rfl rfl ?_ | refine S_load tabOk 1 rfl rfl rfl ?_ | refine S_load tabOk 2 rfl rfl rfl ?_ | refine S_load tabOk 3 rfl rfl rfl ?_ | refine S_load tabOk 4 rfl rfl rfl ?_ | refine S_load tabOk 5 rfl rfl rfl ?_ | refine S_store tabOk 0 rfl rfl rfl rfl rfl rfl ?_ | refine S_store tabOk 1 rfl rfl rfl rfl rfl rfl ?_ | refine S_store tabOk 2 rfl rfl rfl rfl rfl rfl ?_ | refine S_store tabOk 3 rfl rfl rfl rfl rfl rfl ?_ | refine S_store tabOk 4 rfl rfl rfl rfl rfl rfl ?_ | refine S_store tabOk 5 rfl rfl rfl rfl rfl rfl ?_ | refine S_q (Q_build tabOk rfl rfl rfl rfl rfl rfl rfl) ?_ | refine D_q (Q_build tabOk rfl rfl rfl rfl rfl rfl rfl) ?_)
  refine T_block ?_
  refine T_loop (ι := St × Nat)
    (fun x => [(0, iv), (2, .int .i64 (O.len s : Int)), (3, .int .i64 ((x.2 : Int) - 1))])
    (fun x => [.rep (fun w => (O.p x.1).at_ w F (.bool true)) F true])
    (fun x => O.len x.1 = O.len s ∧ x.2 ≤ O.len s ∧ O.ini (O.len s) x.2 x.1 = R) (fun x => x.2) (s, O.len s / 2) ⟨rfl, Nat.div_le_self _ _, hR⟩ (by dsimp only; repeat (first | exact Sub.nil | refine Sub.cons rfl ?_ | refine Sub.cons_int rfl (by omega) ?_))
    (fun w' hw => hw) ?_
  rintro ⟨s1, k1⟩ ⟨hl1, hk1, hR1⟩
  dsimp only at hl1 hk1 hR1 ⊢
  repeat (first | refine T_draw (by kernel_rfl) (by kernel_rfl) ?_ | refine D_all rfl ?_ | refine D_i64 tabOk rfl (by omega) ?_ | refine D_u64 tabOk rfl (by omega) ?_ | refine D_pure tabOk rfl ?_ | refine D_pass rfl rfl rfl ?_ | refine D_load tabOk 0 rfl rfl rfl ?_ | refine D_load tabOk 1 rfl rfl rfl ?_ | refine D_load tabOk 2 rfl rfl rfl ?_ | refine D_load tabOk 3 rfl rfl rfl ?_ | refine D_load tabOk 4 rfl rfl rfl ?_ | refine T_seq ?_ | refine T_region ?_ | refine T_block ?_ | refine S_nil ?_ | refine pthen_normal ?_ | refine inb_normal ?_ | refine inb_ret ?_ | refine pthen_ret ?_ | refine inb_hit ?_ | refine pthen_exit ?_ | refine T_skip ?_ | refine T_ret ?_ | refine T_exit ?_  | refine S_i64 tabOk rfl (by omega) ?_ | refine S_u64 tabOk rfl (by omega) ?_ | refine S_pure tabOk rfl ?_ | refine S_pass rfl rfl rfl ?_ | refine S_pass0 rfl rfl ?_ | refine T_region_any ?_  | refine S_load tabOk 0 rfl rfl rfl ?_ | refine S_load tabOk 1 rfl rfl rfl ?_ | refine S_load tabOk 2 rfl rfl rfl ?_ | refine S_load tabOk 3 rfl rfl rfl ?_ | refine S_load tabOk 4 rfl rfl rfl ?_ | refine S_load tabOk 5 rfl rfl rfl ?_ | refine S_store tabOk 0 rfl rfl rfl rfl rfl rfl ?_ | refine S_store tabOk 1 rfl rfl rfl rfl rfl rfl ?_ | refine S_store tabOk 2 rfl rfl rfl rfl rfl rfl ?_ | refine S_store tabOk 3 rfl rfl rfl rfl rfl rfl ?_ | refine S_store tabOk 4 rfl rfl rfl rfl rfl rfl ?_ | refine S_store tabOk 5 rfl rfl rfl rfl rfl rfl ?_ | refine S_q (Q_build tabOk rfl rfl rfl rfl rfl rfl rfl) ?_ | refine D_q (Q_build tabOk rfl rfl rfl rfl rfl rfl rfl) ?_)
  refine T_cond_dec rfl (fun h => ?_) (fun h => ?_)
  · obtain ⟨k2, rfl⟩ : ∃ k2, k1 = k2 + 1 := ⟨k1 - 1, by omega⟩
    rw [HOb.ini] at hR1
    repeat (first | refine T_draw (by kernel_rfl) (by kernel_rfl) ?_ | refine D_all rfl ?_ | refine D_i64 tabOk rfl (by omega) ?_ | refine D_u64 tabOk rfl (by omega) ?_ | refine D_pure tabOk rfl ?_ | refine D_pass rfl rfl rfl ?_ | refine D_load tabOk 0 rfl rfl rfl ?_ | refine D_load tabOk 1 rfl rfl rfl ?_ | refine D_load tabOk 2 rfl rfl rfl ?_ | refine D_load tabOk 3 rfl rfl rfl ?_ | refine D_load tabOk 4 rfl rfl rfl ?_ | refine T_seq ?_ | refine T_region ?_ | refine T_block ?_ | refine S_nil ?_ | refine pthen_normal ?_ | refine inb_normal ?_ | refine inb_ret ?_ | refine pthen_ret ?_ | refine inb_hit ?_ | refine pthen_exit ?_ | refine T_skip ?_ | refine T_ret ?_ | refine T_exit ?_  | refine S_i64 tabOk rfl (by omega) ?_ | refine S_u64 tabOk rfl (by omega) ?_ | refine S_pure tabOk rfl ?_ | refine S_pass rfl rfl rfl ?_ | refine S_pass0 rfl rfl ?_ | refine T_region_any ?_  | refine S_load tabOk 0 rfl rfl rfl ?_ | refine S_load tabOk 1 rfl rfl rfl ?_ | refine S_load tabOk 2 rfl rfl rfl ?_ | refine S_load tabOk 3 rfl rfl rfl ?_ | refine S_load tabOk 4 rfl rfl rfl ?_ | refine S_load tabOk 5 rfl rfl rfl ?_ | refine S_store tabOk 0 rfl rfl rfl rfl rfl rfl ?_ | refine S_store tabOk 1 rfl rfl rfl rfl rfl rfl ?_ | refine S_store tabOk 2 rfl rfl rfl rfl rfl rfl ?_ | refine S_store tabOk 3 rfl rfl rfl rfl rfl rfl ?_ | refine S_store tabOk 4 rfl rfl rfl rfl rfl rfl ?_ | refine S_store tabOk 5 rfl rfl rfl rfl rfl rfl ?_ | refine S_q (Q_build tabOk rfl rfl rfl rfl rfl rfl rfl) ?_ | refine D_q (Q_build tabOk rfl rfl rfl rfl rfl rfl rfl) ?_)
    refine S_callT 0 rfl Try.call64 rfl (fun w1 g => (hdownI O s1 k2 (O.len s) F w1 (g.own _ (getE_mem (i := 0) rfl)).1 (g.own _ (getE_mem (i := 0) rfl)).2.2 (by omega) (by omega) (by omega) rfl).mono fun e w' ⟨he, g2⟩ => ⟨_, _, F, he, g2, fun _ h => h, fun _ h => .inl h, _, rfl, ?_⟩)
    repeat (first | refine T_draw (by kernel_rfl) (by kernel_rfl) ?_ | refine D_all rfl ?_ | refine D_i64 tabOk rfl (by omega) ?_ | refine D_u64 tabOk rfl (by omega) ?_ | refine D_pure tabOk rfl ?_ | refine D_pass rfl rfl rfl ?_ | refine D_load tabOk 0 rfl rfl rfl ?_ | refine D_load tabOk 1 rfl rfl rfl ?_ | refine D_load tabOk 2 rfl rfl rfl ?_ | refine D_load tabOk 3 rfl rfl rfl ?_ | refine D_load tabOk 4 rfl rfl rfl ?_ | refine T_seq ?_ | refine T_region ?_ | refine T_block ?_ | refine S_nil ?_ | refine pthen_normal ?_ | refine inb_normal ?_ | refine inb_ret ?_ | refine pthen_ret ?_ | refine inb_hit ?_ | refine pthen_exit ?_ | refine T_skip ?_ | refine T_ret ?_ | refine T_exit ?_  | refine S_i64 tabOk rfl (by omega) ?_ | refine S_u64 tabOk rfl (by omega) ?_ | refine S_pure tabOk rfl ?_ | refine S_pass rfl rfl rfl ?_ | refine S_pass0 rfl rfl ?_ | refine T_region_any ?_  | refine S_load tabOk 0 rfl rfl rfl ?_ | refine S_load tabOk 1 rfl rfl rfl ?_ | refine S_load tabOk 2 rfl rfl rfl ?_ | refine S_load tabOk 3 rfl rfl rfl ?_ | refine S_load tabOk 4 rfl rfl rfl ?_ | refine S_load tabOk 5 rfl rfl rfl ?_ | refine S_store tabOk 0 rfl rfl rfl rfl rfl rfl ?_ | refine S_store tabOk 1 rfl rfl rfl rfl rfl rfl ?_ | refine S_store tabOk 2 rfl rfl rfl rfl rfl rfl ?_ | refine S_store tabOk 3 rfl rfl rfl rfl rfl rfl ?_ | refine S_store tabOk 4 rfl rfl rfl rfl rfl rfl ?_ | refine S_store tabOk 5 rfl rfl rfl rfl rfl rfl ?_ | refine S_q (Q_build tabOk rfl rfl rfl rfl rfl rfl rfl) ?_ | refine D_q (Q_build tabOk rfl rfl rfl rfl rfl rfl rfl) ?_)
    exact ⟨((O.dn (O.len s) (O.len s) s1 k2).1, k2), ⟨(O.dn_len _ _ _ _).trans hl1, by dsimp only; omega, hR1⟩, by dsimp only; repeat (first | exact Sub.nil | refine Sub.cons rfl ?_ | refine Sub.cons_int rfl (by omega) ?_), fun w' hw => hw, by dsimp only; omega⟩
  · have : k1 = 0 := by omega
    subst this
    rw [HOb.ini] at hR1
    subst hR1
    repeat (first | refine T_draw (by kernel_rfl) (by kernel_rfl) ?_ | refine D_all rfl ?_ | refine D_i64 tabOk rfl (by omega) ?_ | refine D_u64 tabOk rfl (by omega) ?_ | refine D_pure tabOk rfl ?_ | refine D_pass rfl rfl rfl ?_ | refine D_load tabOk 0 rfl rfl rfl ?_ | refine D_load tabOk 1 rfl rfl rfl ?_ | refine D_load tabOk 2 rfl rfl rfl ?_ | refine D_load tabOk 3 rfl rfl rfl ?_ | refine D_load tabOk 4 rfl rfl rfl ?_ | refine T_seq ?_ | refine T_region ?_ | refine T_block ?_ | refine S_nil ?_ | refine pthen_normal ?_ | refine inb_normal ?_ | refine inb_ret ?_ | refine pthen_ret ?_ | refine inb_hit ?_ | refine pthen_exit ?_ | refine T_skip ?_ | refine T_ret ?_ | refine T_exit ?_  | refine S_i64 tabOk rfl (by omega) ?_ | refine S_u64 tabOk rfl (by omega) ?_ | refine S_pure tabOk rfl ?_ | refine S_pass rfl rfl rfl ?_ | refine S_pass0 rfl rfl ?_ | refine T_region_any ?_  | refine S_load tabOk 0 rfl rfl rfl ?_ | refine S_load tabOk 1 rfl rfl rfl ?_ | refine S_load tabOk 2 rfl rfl rfl ?_ | refine S_load tabOk 3 rfl rfl rfl ?_ | refine S_load tabOk 4 rfl rfl rfl ?_ | refine S_load tabOk 5 rfl rfl rfl ?_ | refine S_store tabOk 0 rfl rfl rfl rfl rfl rfl ?_ | refine S_store tabOk 1 rfl rfl rfl rfl rfl rfl ?_ | refine S_store tabOk 2 rfl rfl rfl rfl rfl rfl ?_ | refine S_store tabOk 3 rfl rfl rfl rfl rfl rfl ?_ | refine S_store tabOk 4 rfl rfl rfl rfl rfl rfl ?_ | refine S_store tabOk 5 rfl rfl rfl rfl rfl rfl ?_ | refine S_q (Q_build tabOk rfl rfl rfl rfl rfl rfl rfl) ?_ | refine D_q (Q_build tabOk rfl rfl rfl rfl rfl rfl rfl) ?_)
    exact ret0n rfl (fun w' hw => ⟨rfl, hw⟩)

theorem sum_take {l : List Int} {i : Nat} (hi : i < l.length) : (l.take (i + 1)).sum = (l.take i).sum + l[i] := by
  rw [List.take_succ_eq_append_getElem hi, List.sum_append]
  simp
theorem sum_bnd {B : Int} (hB : 0 ≤ B) : ∀ {l : List Int}, (∀ x ∈ l, 0 ≤ x ∧ x ≤ B) → 0 ≤ l.sum ∧ l.sum ≤ l.length * B
  | [], _ => by simp
  | x :: l, h => by
    have h1 := h x List.mem_cons_self
    have h2 := sum_bnd hB (l := l) fun y hy => h y (List.mem_cons_of_mem _ hy)
    rw [List.sum_cons, List.length_cons]
    have : ((l.length + 1 : Nat) : Int) * B = (l.length : Int) * B + B := by rw [Int.natCast_add, Int.add_mul]; simp
    omega
theorem mul_bnd {x y X Y : Int} (h1 : -X ≤ x) (h2 : x ≤ X) (h3 : 0 ≤ y) (h4 : y ≤ Y) : -(X * Y) ≤ x * y ∧ x * y ≤ X * Y := by
  have hX : 0 ≤ X := by omega
  have e1 : X * y ≤ X * Y := Int.mul_le_mul_of_nonneg_left h4 hX
  have e2 : x * y ≤ X * y := Int.mul_le_mul_of_nonneg_right h2 h3
  have e3 : (-X) * y ≤ x * y := Int.mul_le_mul_of_nonneg_right h1 h3
  rw [Int.neg_mul] at e3
  omega
def rightW (ws : List Int) : Prop := 1 ≤ ws.length ∧ ws.length ≤ 8 ∧ ∀ x ∈ ws, 1 ≤ x ∧ x ≤ 1000
instance (ws : List Int) : Decidable (rightW ws) := by unfold rightW; infer_instance
def excS (cap : Int) (ws : List Int) (c : Nat) (b : Int) : Int := b * ws.sum - cap * ws.getD c 0
theorem rightW_sum {ws : List Int} (h : rightW ws) : 0 ≤ ws.sum ∧ ws.sum ≤ 8000 := by
  obtain ⟨h1, h2, h3⟩ := h
  have := sum_bnd (B := 1000) (by decide) (l := ws) fun x hx => ⟨by have := h3 x hx; omega, (h3 x hx).2⟩
  omega
theorem ints_ext {w w' : World} {a : Option Addr} {n c : Nat} {l : List Int} {k : IntKind} (h : Ints k w a n c l) (hb : Below w.heap.size w w') : Ints k w' a n c l := ⟨h.len, h.cap, h.max, h.nil, h.fits, h.sl.ext hb⟩
theorem ints_cell {w : World} {a : Option Addr} {n c : Nat} {l : List Int} {k : IntKind} (h : Ints k w a n c l) {i : Nat} (hi : i < l.length) : ∃ b off, a = some ⟨b, off, none⟩ := by
  obtain ⟨b, off, e, _⟩ := h.sl.get (by have := h.len; omega)
  exact ⟨b, off, e⟩
set_option maxHeartbeats 1000000 in
theorem ssum_ok (a : Option Addr) (n c : Nat) (l : List Int) (w : World) (hI : Ints .i64 w a n c l) (hb : ∀ x ∈ l, 0 ≤ x ∧ x ≤ 1048576) (hl : n ≤ 1048576) :
    Calls Try.prog 44 #[.slice a n c] w fun e w' => e = .returned (.int .i64 l.sum) ∧ Below w.heap.size w w' := by
  have hlen := hI.len
  refine enter1 Try.func44 rfl rfl (Hp.refl w) ?_
  repeat (first | refine T_seq ?_ | refine T_region ?_ | refine S_nil ?_ | refine S_pure tabOk rfl ?_)
  refine T_cut (ι := Unit) (fun _ => True) (fun _ => [(3, .int .i64 l.sum)]) (fun _ => []) ?_ ?_
  · refine T_block ?_
    refine T_loop (ι := Nat)
      (fun i => [(3, .int .i64 (l.take i).sum), (6, .slice a n c), (7, .int .i64 (n : Int)), (8, .int .i64 (i : Int))])
      (fun i => []) (fun i => i ≤ n) (fun i => n - i) 0 (Nat.zero_le _) (by repeat (first | exact Sub.nil | refine Sub.cons rfl ?_))
      (fun w' hw => hw) ?_
    intro i hi
    have hbt := sum_bnd (B := 1048576) (by decide) (l := l.take i) fun x hx => hb x (List.mem_of_mem_take hx)
    have hlt : (l.take i).length = i := by rw [List.length_take]; omega
    rw [hlt] at hbt
    repeat (first | refine T_seq ?_ | refine T_region ?_ | refine S_nil ?_ | refine S_pure tabOk rfl ?_)
    refine T_cond_dec rfl (fun h => ?_) (fun h => ?_)
    · have hi' : i < l.length := by omega
      have hxi := hb _ (List.getElem_mem hi')
      obtain ⟨b, off, rfl⟩ := ints_cell hI hi'
      repeat (first | refine T_seq ?_ | refine T_region ?_ | refine T_block ?_ | refine pthen_normal ?_ | refine T_skip ?_)
      refine S_q (Q_idx1 tabOk rfl rfl rfl rfl rfl rfl rfl (j := i) rfl (by omega)) ?_
      refine S_load1 tabOk (v := .int .i64 l[i]) rfl rfl (fun w' hw => (hI.sl.ext (hw.below (by repeat (first | exact new_nil)))).at_ (by omega) (by rw [List.getElem?_map, List.getElem?_eq_getElem hi']; rfl)) ?_
      repeat (first | refine T_region ?_ | refine S_nil ?_ | refine pthen_normal ?_ | refine inb_normal ?_ | refine S_i64 tabOk rfl (by omega) ?_ | refine S_pure tabOk rfl ?_ | refine T_region_any ?_)
      refine ⟨i + 1, by omega, ?_, fun w' hw => hw, by omega⟩
      rw [sum_take hi']
      repeat (first | exact Sub.nil | refine Sub.cons rfl ?_)
    · have hin : i = l.length := by omega
      subst hin
      repeat (first | refine pthen_normal ?_ | refine inb_hit ?_ | refine pthen_exit ?_ | refine T_exit ?_)
      exact ⟨(), trivial, by rw [List.take_length]; repeat (first | exact Sub.nil | refine Sub.cons rfl ?_), fun w' hw => hw⟩
  · rintro ⟨⟩ _
    repeat (first | refine T_seq ?_ | refine T_region ?_ | refine S_nil ?_ | refine T_ret ?_ | refine S_pure tabOk rfl ?_)
    exact ret1 rfl rfl (fun w' hw => ⟨rfl, hw.below (by repeat (first | exact new_nil))⟩)
set_option maxHeartbeats 1000000 in
theorem rsum_ok (a : Option Addr) (n c : Nat) (l : List Int) (w : World) (hI : Ints .i64 w a n c l) (hb : ∀ x ∈ l, 0 ≤ x ∧ x ≤ 1048576) (hl : n ≤ 1048576) :
    Calls Try.prog 21 #[.slice a n c] w fun e w' => e = .returned (.int .i64 l.sum) ∧ Below w.heap.size w w' := by
  have hlen := hI.len
  refine enter1 Try.func21 rfl rfl (Hp.refl w) ?_
  repeat (first | refine T_seq ?_ | refine T_region ?_ | refine S_nil ?_ | refine S_pure tabOk rfl ?_)
  refine T_cut (ι := Unit) (fun _ => True) (fun _ => [(3, .int .i64 l.sum)]) (fun _ => []) ?_ ?_
  · refine T_block ?_
    refine T_loop (ι := Nat)
      (fun i => [(3, .int .i64 (l.take i).sum), (6, .slice a n c), (7, .int .i64 (n : Int)), (8, .int .i64 (i : Int))])
      (fun i => []) (fun i => i ≤ n) (fun i => n - i) 0 (Nat.zero_le _) (by repeat (first | exact Sub.nil | refine Sub.cons rfl ?_))
      (fun w' hw => hw) ?_
    intro i hi
    have hbt := sum_bnd (B := 1048576) (by decide) (l := l.take i) fun x hx => hb x (List.mem_of_mem_take hx)
    have hlt : (l.take i).length = i := by rw [List.length_take]; omega
    rw [hlt] at hbt
    repeat (first | refine T_seq ?_ | refine T_region ?_ | refine S_nil ?_ | refine S_pure tabOk rfl ?_)
    refine T_cond_dec rfl (fun h => ?_) (fun h => ?_)
    · have hi' : i < l.length := by omega
      have hxi := hb _ (List.getElem_mem hi')
      obtain ⟨b, off, rfl⟩ := ints_cell hI hi'
      repeat (first | refine T_seq ?_ | refine T_region ?_ | refine T_block ?_ | refine pthen_normal ?_ | refine T_skip ?_)
      refine S_q (Q_idx1 tabOk rfl rfl rfl rfl rfl rfl rfl (j := i) rfl (by omega)) ?_
      refine S_load1 tabOk (v := .int .i64 l[i]) rfl rfl (fun w' hw => (hI.sl.ext (hw.below (by repeat (first | exact new_nil)))).at_ (by omega) (by rw [List.getElem?_map, List.getElem?_eq_getElem hi']; rfl)) ?_
      repeat (first | refine T_region ?_ | refine S_nil ?_ | refine pthen_normal ?_ | refine inb_normal ?_ | refine S_i64 tabOk rfl (by omega) ?_ | refine S_pure tabOk rfl ?_ | refine T_region_any ?_)
      refine ⟨i + 1, by omega, ?_, fun w' hw => hw, by omega⟩
      rw [sum_take hi']
      repeat (first | exact Sub.nil | refine Sub.cons rfl ?_)
    · have hin : i = l.length := by omega
      subst hin
      repeat (first | refine pthen_normal ?_ | refine inb_hit ?_ | refine pthen_exit ?_ | refine T_exit ?_)
      exact ⟨(), trivial, by rw [List.take_length]; repeat (first | exact Sub.nil | refine Sub.cons rfl ?_), fun w' hw => hw⟩
  · rintro ⟨⟩ _
    repeat (first | refine T_seq ?_ | refine T_region ?_ | refine S_nil ?_ | refine T_ret ?_ | refine S_pure tabOk rfl ?_)
    exact ret1 rfl rfl (fun w' hw => ⟨rfl, hw.below (by repeat (first | exact new_nil))⟩)
set_option maxHeartbeats 1000000 in
theorem sright_ok (a : Option Addr) (n c : Nat) (l : List Int) (w : World) (hI : Ints .i64 w a n c l) :
    Calls Try.prog 17 #[.slice a n c] w fun e w' => e = .returned (.bool (decide (rightW l))) ∧ Below w.heap.size w w' := by
  have hlen := hI.len
  have hmx := hI.max
  have hcap := hI.cap
  simp only [maxLen] at hmx
  refine enter1 Try.func17 rfl rfl (Hp.refl w) ?_
  repeat (first | refine T_seq ?_ | refine T_region ?_ | refine S_nil ?_ | refine S_pure tabOk rfl ?_)
  have hbad0 : ¬ (1 ≤ n ∧ n ≤ 8) → decide (rightW l) = false := fun hn => decide_eq_false fun hr => hn ⟨by have := hr.1; omega, by have := hr.2.1; omega⟩
  refine S_split rfl rfl (fun h1 => ?_) (fun h1 => ?_)
  · repeat (first | refine S_nil ?_ | refine S_pure tabOk rfl ?_ | refine S_pass rfl rfl rfl ?_)
    refine T_cond_t rfl ?_
    repeat (first | refine T_seq ?_ | refine T_region ?_ | refine S_nil ?_ | refine pthen_ret ?_ | refine T_ret ?_ | refine S_pure tabOk rfl ?_)
    exact ret1 rfl rfl (fun w' hw => ⟨congrArg (fun b => Ending.returned (Value.bool b)) (hbad0 (by omega)).symm, hw.below (by repeat (first | exact new_nil))⟩)
  · repeat (first | refine S_nil ?_ | refine S_pure tabOk rfl ?_)
    refine T_cond_dec rfl (fun h2 => ?_) (fun h2 => ?_)
    · repeat (first | refine T_seq ?_ | refine T_region ?_ | refine S_nil ?_ | refine pthen_ret ?_ | refine T_ret ?_ | refine S_pure tabOk rfl ?_)
      exact ret1 rfl rfl (fun w' hw => ⟨congrArg (fun b => Ending.returned (Value.bool b)) (hbad0 (by omega)).symm, hw.below (by repeat (first | exact new_nil))⟩)
    repeat (first | refine T_seq ?_ | refine T_region ?_ | refine S_nil ?_ | refine pthen_normal ?_ | refine T_skip ?_ | refine S_pure tabOk rfl ?_)
    refine T_cut (ι := Unit) (fun _ => rightW l) (fun _ => []) (fun _ => []) ?_ ?_
    · refine T_block ?_
      refine T_loop (ι := Nat)
        (fun i => [(0, .slice a n c), (2, .bool false), (13, .slice a n c), (14, .int .i64 (n : Int)), (15, .int .i64 (i : Int))])
        (fun i => []) (fun i => i ≤ n ∧ ∀ x ∈ l.take i, 1 ≤ x ∧ x ≤ 1000) (fun i => n - i) 0 ⟨Nat.zero_le _, fun x hx => by rw [List.take_zero] at hx; cases hx⟩ (by repeat (first | exact Sub.nil | refine Sub.cons rfl ?_))
        (fun w' hw => hw) ?_
      rintro i ⟨hi, hok⟩
      repeat (first | refine T_seq ?_ | refine T_region ?_ | refine S_nil ?_ | refine S_pure tabOk rfl ?_)
      refine T_cond_dec rfl (fun h => ?_) (fun h => ?_)
      · have hi' : i < l.length := by omega
        obtain ⟨b, off, rfl⟩ := ints_cell hI hi'
        repeat (first | refine T_seq ?_ | refine T_region ?_ | refine T_block ?_ | refine pthen_normal ?_ | refine T_skip ?_)
        refine S_q (Q_idx1 tabOk rfl rfl rfl rfl rfl rfl rfl (j := i) rfl (by omega)) ?_
        refine S_load1 tabOk (v := .int .i64 l[i]) rfl rfl (fun w' hw => (hI.sl.ext (hw.below (by repeat (first | exact new_nil)))).at_ (by omega) (by rw [List.getElem?_map, List.getElem?_eq_getElem hi']; rfl)) ?_
        repeat (first | refine T_seq ?_ | refine T_region ?_ | refine S_nil ?_ | refine S_pure tabOk rfl ?_)
        have hbad : ¬ (1 ≤ l[i] ∧ l[i] ≤ 1000) → decide (rightW l) = false := fun hn => decide_eq_false fun hr => hn (hr.2.2 _ (List.getElem_mem hi'))
        refine S_split rfl rfl (fun h1 => ?_) (fun h1 => ?_)
        · repeat (first | refine S_nil ?_ | refine S_pure tabOk rfl ?_ | refine S_pass rfl rfl rfl ?_)
          refine T_cond_t rfl ?_
          repeat (first | refine T_seq ?_ | refine T_region ?_ | refine S_nil ?_ | refine inb_ret ?_ | refine pthen_ret ?_ | refine T_ret ?_ | refine S_pure tabOk rfl ?_)
          exact ret1 rfl rfl (fun w' hw => ⟨congrArg (fun b => Ending.returned (Value.bool b)) (hbad (by omega)).symm, hw.below (by repeat (first | exact new_nil))⟩)
        · repeat (first | refine S_nil ?_ | refine S_pure tabOk rfl ?_)
          refine T_cond_dec rfl (fun h2 => ?_) (fun h2 => ?_)
          · repeat (first | refine T_seq ?_ | refine T_region ?_ | refine S_nil ?_ | refine inb_ret ?_ | refine pthen_ret ?_ | refine T_ret ?_ | refine S_pure tabOk rfl ?_)
            exact ret1 rfl rfl (fun w' hw => ⟨congrArg (fun b => Ending.returned (Value.bool b)) (hbad (by omega)).symm, hw.below (by repeat (first | exact new_nil))⟩)
          · repeat (first | refine T_region ?_ | refine S_nil ?_ | refine pthen_normal ?_ | refine inb_normal ?_ | refine T_skip ?_ | refine S_i64 tabOk rfl (by omega) ?_ | refine S_pure tabOk rfl ?_)
            refine ⟨i + 1, ⟨by omega, fun x hx => ?_⟩, by repeat (first | exact Sub.nil | refine Sub.cons rfl ?_), fun w' hw => hw, by omega⟩
            rw [List.take_succ_eq_append_getElem hi', List.mem_append, List.mem_singleton] at hx
            rcases hx with hx | rfl
            · exact hok x hx
            · omega
      · have hin : i = l.length := by omega
        subst hin
        rw [List.take_length] at hok
        repeat (first | refine pthen_normal ?_ | refine inb_hit ?_ | refine pthen_exit ?_ | refine T_exit ?_)
        exact ⟨(), ⟨by omega, by omega, hok⟩, by repeat (first | exact Sub.nil), fun w' hw => hw⟩
    · rintro ⟨⟩ hr
      repeat (first | refine T_seq ?_ | refine T_region ?_ | refine S_nil ?_ | refine T_ret ?_ | refine S_pure tabOk rfl ?_)
      exact ret1 rfl rfl (fun w' hw => ⟨congrArg (fun b => Ending.returned (Value.bool b)) (decide_eq_true hr).symm, hw.below (by repeat (first | exact new_nil))⟩)
set_option maxHeartbeats 1000000 in
theorem rright_ok (a : Option Addr) (n c : Nat) (l : List Int) (w : World) (hI : Ints .i64 w a n c l) :
    Calls Try.prog 18 #[.slice a n c] w fun e w' => e = .returned (.bool (decide (rightW l))) ∧ Below w.heap.size w w' := by
  have hlen := hI.len
  have hmx := hI.max
  have hcap := hI.cap
  simp only [maxLen] at hmx
  refine enter1 Try.func18 rfl rfl (Hp.refl w) ?_
  repeat (first | refine T_seq ?_ | refine T_region ?_ | refine S_nil ?_ | refine S_pure tabOk rfl ?_)
  refine T_cut (ι := Unit) (fun _ => ∀ x ∈ l, 1 ≤ x ∧ x ≤ 1000) (fun _ => [(0, .slice a n c), (2, .bool false)]) (fun _ => []) ?_ ?_
  · refine T_block ?_
    refine T_loop (ι := Nat)
      (fun i => [(0, .slice a n c), (2, .bool false), (5, .slice a n c), (6, .int .i64 (n : Int)), (7, .int .i64 (i : Int))])
      (fun i => []) (fun i => i ≤ n ∧ ∀ x ∈ l.take i, 1 ≤ x ∧ x ≤ 1000) (fun i => n - i) 0 ⟨Nat.zero_le _, fun x hx => by rw [List.take_zero] at hx; cases hx⟩ (by repeat (first | exact Sub.nil | refine Sub.cons rfl ?_))
      (fun w' hw => hw) ?_
    rintro i ⟨hi, hok⟩
    repeat (first | refine T_seq ?_ | refine T_region ?_ | refine S_nil ?_ | refine S_pure tabOk rfl ?_)
    refine T_cond_dec rfl (fun h => ?_) (fun h => ?_)
    · have hi' : i < l.length := by omega
      obtain ⟨b, off, rfl⟩ := ints_cell hI hi'
      repeat (first | refine T_seq ?_ | refine T_region ?_ | refine T_block ?_ | refine pthen_normal ?_ | refine T_skip ?_)
      refine S_q (Q_idx1 tabOk rfl rfl rfl rfl rfl rfl rfl (j := i) rfl (by omega)) ?_
      refine S_load1 tabOk (v := .int .i64 l[i]) rfl rfl (fun w' hw => (hI.sl.ext (hw.below (by repeat (first | exact new_nil)))).at_ (by omega) (by rw [List.getElem?_map, List.getElem?_eq_getElem hi']; rfl)) ?_
      repeat (first | refine T_seq ?_ | refine T_region ?_ | refine S_nil ?_ | refine S_pure tabOk rfl ?_)
      have hbad : ¬ (1 ≤ l[i] ∧ l[i] ≤ 1000) → decide (rightW l) = false := fun hn => decide_eq_false fun hr => hn (hr.2.2 _ (List.getElem_mem hi'))
      refine S_split rfl rfl (fun h1 => ?_) (fun h1 => ?_)
      · repeat (first | refine S_nil ?_ | refine S_pure tabOk rfl ?_ | refine S_pass rfl rfl rfl ?_)
        refine T_cond_t rfl ?_
        repeat (first | refine T_seq ?_ | refine T_region ?_ | refine S_nil ?_ | refine inb_ret ?_ | refine pthen_ret ?_ | refine T_ret ?_ | refine S_pure tabOk rfl ?_)
        exact ret1 rfl rfl (fun w' hw => ⟨congrArg (fun b => Ending.returned (Value.bool b)) (hbad (by omega)).symm, hw.below (by repeat (first | exact new_nil))⟩)
      · repeat (first | refine S_nil ?_ | refine S_pure tabOk rfl ?_)
        refine T_cond_dec rfl (fun h2 => ?_) (fun h2 => ?_)
        · repeat (first | refine T_seq ?_ | refine T_region ?_ | refine S_nil ?_ | refine inb_ret ?_ | refine pthen_ret ?_ | refine T_ret ?_ | refine S_pure tabOk rfl ?_)
          exact ret1 rfl rfl (fun w' hw => ⟨congrArg (fun b => Ending.returned (Value.bool b)) (hbad (by omega)).symm, hw.below (by repeat (first | exact new_nil))⟩)
        · repeat (first | refine T_region ?_ | refine S_nil ?_ | refine pthen_normal ?_ | refine inb_normal ?_ | refine T_skip ?_ | refine S_i64 tabOk rfl (by omega) ?_ | refine S_pure tabOk rfl ?_)
          refine ⟨i + 1, ⟨by omega, fun x hx => ?_⟩, by repeat (first | exact Sub.nil | refine Sub.cons rfl ?_), fun w' hw => hw, by omega⟩
          rw [List.take_succ_eq_append_getElem hi', List.mem_append, List.mem_singleton] at hx
          rcases hx with hx | rfl
          · exact hok x hx
          · omega
    · have hin : i = l.length := by omega
      subst hin
      rw [List.take_length] at hok
      repeat (first | refine pthen_normal ?_ | refine inb_hit ?_ | refine pthen_exit ?_ | refine T_exit ?_)
      exact ⟨(), hok, by repeat (first | exact Sub.nil | refine Sub.cons rfl ?_), fun w' hw => hw⟩
  · rintro ⟨⟩ hr
    repeat (first | refine T_seq ?_ | refine T_region ?_ | refine S_pure tabOk rfl ?_)
    refine S_split rfl rfl (fun h1 => ?_) (fun h1 => ?_)
    · repeat (first | refine S_nil ?_ | refine T_ret ?_ | refine S_pure tabOk rfl ?_)
      exact ret1 rfl rfl (fun w' hw => ⟨congrArg (fun b => Ending.returned (Value.bool b)) (decide_eq_decide.2 ⟨fun h => ⟨by omega, by omega, hr⟩, fun h => by have := h.2.1; omega⟩), hw.below (by repeat (first | exact new_nil))⟩)
    · repeat (first | refine S_nil ?_ | refine T_ret ?_ | refine S_pure tabOk rfl ?_ | refine S_pass rfl rfl rfl ?_)
      exact ret1 rfl rfl (fun w' hw => ⟨congrArg (fun b => Ending.returned (Value.bool b)) (decide_eq_false fun h => by have := h.1; omega).symm, hw.below (by repeat (first | exact new_nil))⟩)
set_option maxHeartbeats 1000000 in
theorem sexc_ok (a : Option Addr) (n c : Nat) (l : List Int) (cap cls b : Int) (w : World) (hI : Ints .i64 w a n c l) (hc : -1099511627776 ≤ cap ∧ cap ≤ 1099511627776) (hb : -1099511627776 ≤ b ∧ b ≤ 1099511627776) :
    Calls Try.prog 23 #[.int .i64 cap, .slice a n c, .int .i64 cls, .int .i64 b] w fun e w' => e = .returned (.int .i64 (if rightW l ∧ 0 ≤ cls ∧ cls < (n : Int) then excS cap l cls.toNat b else 0)) ∧ Below w.heap.size w w' := by
  have hlen := hI.len
  have hmx := hI.max
  have hcap := hI.cap
  simp only [maxLen] at hmx
  refine enter4 Try.func23 rfl rfl (Hp.refl w) ?_
  repeat (first | refine T_seq ?_ | refine T_region ?_ | refine S_nil ?_ | refine S_pure tabOk rfl ?_)
  refine S_callq rfl Try.call17 (fun w1 h1 => sright_ok a n c l w1 (ints_ext hI (h1.below (by repeat (first | exact new_nil))))) ?_
  by_cases hr : rightW l
  · rw [decide_eq_true hr]
    repeat (first | refine S_pure tabOk rfl ?_)
    refine S_split rfl rfl (fun h1 => ?_) (fun h1 => ?_)
    · rw [if_neg (by omega)]
      repeat (first | refine S_nil ?_ | refine S_pure tabOk rfl ?_ | refine S_pass rfl rfl rfl ?_)
      refine T_cond_t rfl ?_
      repeat (first | refine T_seq ?_ | refine T_region ?_ | refine S_nil ?_ | refine pthen_ret ?_ | refine T_ret ?_ | refine S_pure tabOk rfl ?_)
      exact ret1 rfl rfl (fun w' hw => ⟨rfl, hw.below (by repeat (first | exact new_nil))⟩)
    · repeat (first | refine S_nil ?_ | refine S_pure tabOk rfl ?_)
      refine T_cond_dec rfl (fun h2 => ?_) (fun h2 => ?_)
      · rw [if_neg (by omega)]
        repeat (first | refine T_seq ?_ | refine T_region ?_ | refine S_nil ?_ | refine pthen_ret ?_ | refine T_ret ?_ | refine S_pure tabOk rfl ?_)
        exact ret1 rfl rfl (fun w' hw => ⟨rfl, hw.below (by repeat (first | exact new_nil))⟩)
      · rw [if_pos ⟨hr, by omega, by omega⟩]
        obtain ⟨k, rfl⟩ : ∃ k : Nat, cls = (k : Int) := ⟨cls.toNat, by omega⟩
        have hk : k < l.length := by omega
        obtain ⟨ab, off, rfl⟩ := ints_cell hI hk
        have hs := rightW_sum hr
        have hlk := hr.2.2 _ (List.getElem_mem hk)
        have hm1 := mul_bnd hb.1 hb.2 hs.1 hs.2
        have hm2 := mul_bnd (X := 1099511627776) (Y := 1000) hc.1 hc.2 (show 0 ≤ l[k] by omega) hlk.2
        repeat (first | refine T_draw (by kernel_rfl) (by kernel_rfl) ?_ | refine D_pure tabOk rfl ?_ | refine T_seq ?_ | refine pthen_normal ?_ | refine T_skip ?_)
        refine D_callx rfl Try.call44 (v := .int .i64 l.sum) (fun w' vs hw' h9 => by obtain ⟨_, _, rfl, rfl, rfl⟩ := h9; exact ssum_ok _ n c l w' (ints_ext hI (hw'.below (by repeat (first | exact new_nil)))) (fun x hx => by have := hr.2.2 x hx; omega) (by have := hr.2.1; omega)) ?_
        repeat (first | refine D_i64 tabOk rfl (by omega) ?_ | refine D_pure tabOk rfl ?_)
        refine D_q (Q_idx1 tabOk rfl rfl rfl rfl rfl rfl rfl (j := k) rfl (by omega)) ?_
        refine D_load1 tabOk (v := .int .i64 l[k]) rfl rfl (fun w' hw => (hI.sl.ext (hw.below (by repeat (first | exact new_nil)))).at_ (by omega) (by rw [List.getElem?_map, List.getElem?_eq_getElem hk]; rfl)) ?_
        repeat (first | refine D_all rfl ?_ | refine D_i64 tabOk rfl (by omega) ?_ | refine D_pure tabOk rfl ?_ | refine T_ret ?_)
        exact ret1 rfl rfl (fun w' hw => ⟨by unfold excS; rw [Int.toNat_natCast, List.getD_eq_getElem?_getD, List.getElem?_eq_getElem hk]; rfl, hw.below (by repeat (first | exact new_nil))⟩)
  · rw [decide_eq_false hr, if_neg (fun h => hr h.1)]
    repeat (first | refine S_nil ?_ | refine S_pure tabOk rfl ?_ | refine S_pass rfl rfl rfl ?_)
    refine T_cond_t rfl ?_
    repeat (first | refine T_seq ?_ | refine T_region ?_ | refine S_nil ?_ | refine pthen_ret ?_ | refine T_ret ?_ | refine S_pure tabOk rfl ?_)
    exact ret1 rfl rfl (fun w' hw => ⟨rfl, hw.below (by repeat (first | exact new_nil))⟩)
set_option maxHeartbeats 1000000 in
theorem rexc_ok (a : Option Addr) (n c : Nat) (l : List Int) (cap cls b : Int) (w : World) (hI : Ints .i64 w a n c l) (hc : -1099511627776 ≤ cap ∧ cap ≤ 1099511627776) (hb : -1099511627776 ≤ b ∧ b ≤ 1099511627776) :
    Calls Try.prog 22 #[.int .i64 cap, .slice a n c, .int .i64 cls, .int .i64 b] w fun e w' => e = .returned (.int .i64 (if rightW l ∧ 0 ≤ cls ∧ cls < (n : Int) then excS cap l cls.toNat b else 0)) ∧ Below w.heap.size w w' := by
  have hlen := hI.len
  have hmx := hI.max
  have hcap := hI.cap
  simp only [maxLen] at hmx
  refine enter4 Try.func22 rfl rfl (Hp.refl w) ?_
  repeat (first | refine T_seq ?_ | refine T_region ?_ | refine S_nil ?_ | refine S_pure tabOk rfl ?_)
  refine S_callq rfl Try.call18 (fun w1 h1 => rright_ok a n c l w1 (ints_ext hI (h1.below (by repeat (first | exact new_nil))))) ?_
  by_cases hr : rightW l
  · rw [decide_eq_true hr]
    repeat (first | refine S_pure tabOk rfl ?_)
    refine S_split rfl rfl (fun h1 => ?_) (fun h1 => ?_)
    · rw [if_neg (by omega)]
      repeat (first | refine S_nil ?_ | refine S_pure tabOk rfl ?_ | refine S_pass rfl rfl rfl ?_)
      refine T_cond_t rfl ?_
      repeat (first | refine T_seq ?_ | refine T_region ?_ | refine S_nil ?_ | refine pthen_ret ?_ | refine T_ret ?_ | refine S_pure tabOk rfl ?_)
      exact ret1 rfl rfl (fun w' hw => ⟨rfl, hw.below (by repeat (first | exact new_nil))⟩)
    · repeat (first | refine S_nil ?_ | refine S_pure tabOk rfl ?_)
      refine T_cond_dec rfl (fun h2 => ?_) (fun h2 => ?_)
      · rw [if_neg (by omega)]
        repeat (first | refine T_seq ?_ | refine T_region ?_ | refine S_nil ?_ | refine pthen_ret ?_ | refine T_ret ?_ | refine S_pure tabOk rfl ?_)
        exact ret1 rfl rfl (fun w' hw => ⟨rfl, hw.below (by repeat (first | exact new_nil))⟩)
      · rw [if_pos ⟨hr, by omega, by omega⟩]
        obtain ⟨k, rfl⟩ : ∃ k : Nat, cls = (k : Int) := ⟨cls.toNat, by omega⟩
        have hk : k < l.length := by omega
        obtain ⟨ab, off, rfl⟩ := ints_cell hI hk
        have hs := rightW_sum hr
        have hlk := hr.2.2 _ (List.getElem_mem hk)
        have hm1 := mul_bnd hb.1 hb.2 hs.1 hs.2
        have hm2 := mul_bnd (X := 1099511627776) (Y := 1000) hc.1 hc.2 (show 0 ≤ l[k] by omega) hlk.2
        repeat (first | refine T_draw (by kernel_rfl) (by kernel_rfl) ?_ | refine D_pure tabOk rfl ?_ | refine T_seq ?_ | refine pthen_normal ?_ | refine T_skip ?_)
        refine D_callx rfl Try.call21 (v := .int .i64 l.sum) (fun w' vs hw' h9 => by obtain ⟨_, _, rfl, rfl, rfl⟩ := h9; exact rsum_ok _ n c l w' (ints_ext hI (hw'.below (by repeat (first | exact new_nil)))) (fun x hx => by have := hr.2.2 x hx; omega) (by have := hr.2.1; omega)) ?_
        repeat (first | refine D_i64 tabOk rfl (by omega) ?_ | refine D_pure tabOk rfl ?_)
        refine D_q (Q_idx1 tabOk rfl rfl rfl rfl rfl rfl rfl (j := k) rfl (by omega)) ?_
        refine D_load1 tabOk (v := .int .i64 l[k]) rfl rfl (fun w' hw => (hI.sl.ext (hw.below (by repeat (first | exact new_nil)))).at_ (by omega) (by rw [List.getElem?_map, List.getElem?_eq_getElem hk]; rfl)) ?_
        repeat (first | refine D_all rfl ?_ | refine D_i64 tabOk rfl (by omega) ?_ | refine D_pure tabOk rfl ?_ | refine T_ret ?_)
        exact ret1 rfl rfl (fun w' hw => ⟨by unfold excS; rw [Int.toNat_natCast, List.getD_eq_getElem?_getD, List.getElem?_eq_getElem hk]; rfl, hw.below (by repeat (first | exact new_nil))⟩)
  · rw [decide_eq_false hr, if_neg (fun h => hr h.1)]
    repeat (first | refine S_nil ?_ | refine S_pure tabOk rfl ?_ | refine S_pass rfl rfl rfl ?_)
    refine T_cond_t rfl ?_
    repeat (first | refine T_seq ?_ | refine T_region ?_ | refine S_nil ?_ | refine pthen_ret ?_ | refine T_ret ?_ | refine S_pure tabOk rfl ?_)
    exact ret1 rfl rfl (fun w' hw => ⟨rfl, hw.below (by repeat (first | exact new_nil))⟩)

abbrev Rll : Rep (List Int) := Rslice (Rint .i64)
theorem row_read {w : World} {a : Option Addr} {n c : Nat} {q : List (List Int)} (hx : SlR Rll w TT a n c q) {i : Nat} (hi : i < q.length) : ∃ ab off a0 n0 c0, a = some ⟨ab, off, none⟩ ∧ Ints .i64 w a0 n0 c0 q[i] ∧
    ∀ w', Below w.heap.size w w' → w'.cell? ⟨ab, off + i, none⟩ = some (.slice a0 n0 c0) := by
  obtain ⟨ab, off, cs, e, hlt, hat, _, hce, _⟩ := hx.get_ hi
  obtain ⟨a0, n0, c0, rfl, h3⟩ := hat
  refine ⟨ab, off, a0, n0, c0, e, h3.ints, fun w' hb => ?_⟩
  have := hce 0 _ rfl
  rw [show off + i * Rll.sz + 0 = off + i from by show off + i * 1 + 0 = _; omega] at this
  exact (World.cell?_of_block (w := w) (a := ⟨ab, off + i, none⟩) (hb.block ab hlt)).trans this
def fitsP (cap : Int) (ws : List Int) (q : List (List Int)) (cls size : Int) : Prop :=
  rightW ws ∧ q.length = ws.length ∧ 0 ≤ cls ∧ cls < (ws.length : Int) ∧ 0 ≤ size ∧ size ≤ 1048576 ∧ size ≤ cap ∧ cap ≤ 1099511627776 ∧ (∀ x ∈ q.flatten, 0 ≤ x ∧ x ≤ 1048576) ∧ q.flatten.length ≤ 65536
instance (cap : Int) (ws : List Int) (q : List (List Int)) (cls size : Int) : Decidable (fitsP cap ws q cls size) := by unfold fitsP; infer_instance
theorem rows_take {q : List (List Int)} {i : Nat} (hi : i < q.length) : (q.take (i + 1)).flatten = (q.take i).flatten ++ q[i] := by
  rw [List.take_succ_eq_append_getElem hi, List.flatten_append]
  simp
theorem rows_len {q : List (List Int)} (h : ∀ l ∈ q, l.length ≤ 1048576) : ∀ i, i ≤ q.length → (q.take i).flatten.length ≤ i * 1048576
  | 0, _ => by simp
  | i + 1, hi => by
    have h1 := rows_len h i (by omega)
    have h2 := h _ (List.getElem_mem (show i < q.length by omega))
    rw [rows_take (by omega), List.length_append]
    omega
set_option maxHeartbeats 4000000 in
theorem sfits_ok (a : Option Addr) (n c : Nat) (l : List Int) (a2 : Option Addr) (n2 c2 : Nat) (q : List (List Int)) (cap cls size : Int) (w : World) (hI : Ints .i64 w a n c l) (hx : SlR Rll w TT a2 n2 c2 q) (hq1 : q.length ≤ 1048576) (hq2 : ∀ l ∈ q, l.length ≤ 1048576) :
    Calls Try.prog 43 #[.int .i64 cap, .slice a n c, .slice a2 n2 c2, .int .i64 cls, .int .i64 size] w fun e w' => e = .returned (.bool (decide (fitsP cap l q cls size))) ∧ Below w.heap.size w w' := by
  have hlen := hI.len
  have hqn := hx.len
  have hmx := hI.max
  have hcap := hI.cap
  simp only [maxLen] at hmx
  refine enter5 Try.func43 rfl rfl (Hp.refl w) ?_
  repeat (first | refine T_seq ?_ | refine T_region ?_ | refine S_nil ?_ | refine S_pure tabOk rfl ?_)
  refine S_callq rfl Try.call17 (fun w1 h1 => sright_ok a n c l w1 (ints_ext hI (h1.below (by repeat (first | exact new_nil))))) ?_
  by_cases hr : rightW l
  · rw [decide_eq_true hr]
    repeat (first | refine S_pure tabOk rfl ?_)
    refine S_split rfl rfl (fun h1 => ?_) (fun h1 => ?_)
    · repeat (first | refine S_nil ?_ | refine S_pure tabOk rfl ?_ | refine S_pass rfl rfl rfl ?_)
      refine T_cond_t rfl ?_
      repeat (first | refine T_seq ?_ | refine T_region ?_ | refine S_nil ?_ | refine pthen_ret ?_ | refine T_ret ?_ | refine S_pure tabOk rfl ?_)
      exact ret1 rfl rfl (fun w' hw => ⟨congrArg (fun b => Ending.returned (Value.bool b)) (decide_eq_false (fun hh => by obtain ⟨_, g2, g3, g4, g5, g6, g7, g8, _⟩ := hh; omega)).symm, hw.below (by repeat (first | exact new_nil))⟩)
    repeat (first | refine S_pure tabOk rfl ?_)
    refine S_split rfl rfl (fun h2 => ?_) (fun h2 => ?_)
    · repeat (first | refine S_nil ?_ | refine S_pure tabOk rfl ?_ | refine S_pass rfl rfl rfl ?_)
      refine T_cond_t rfl ?_
      repeat (first | refine T_seq ?_ | refine T_region ?_ | refine S_nil ?_ | refine pthen_ret ?_ | refine T_ret ?_ | refine S_pure tabOk rfl ?_)
      exact ret1 rfl rfl (fun w' hw => ⟨congrArg (fun b => Ending.returned (Value.bool b)) (decide_eq_false (fun hh => by obtain ⟨_, g2, g3, g4, g5, g6, g7, g8, _⟩ := hh; omega)).symm, hw.below (by repeat (first | exact new_nil))⟩)
    repeat (first | refine S_pure tabOk rfl ?_)
    refine S_split rfl rfl (fun h3 => ?_) (fun h3 => ?_)
    · repeat (first | refine S_nil ?_ | refine S_pure tabOk rfl ?_ | refine S_pass rfl rfl rfl ?_)
      refine T_cond_t rfl ?_
      repeat (first | refine T_seq ?_ | refine T_region ?_ | refine S_nil ?_ | refine pthen_ret ?_ | refine T_ret ?_ | refine S_pure tabOk rfl ?_)
      exact ret1 rfl rfl (fun w' hw => ⟨congrArg (fun b => Ending.returned (Value.bool b)) (decide_eq_false (fun hh => by obtain ⟨_, g2, g3, g4, g5, g6, g7, g8, _⟩ := hh; omega)).symm, hw.below (by repeat (first | exact new_nil))⟩)
    repeat (first | refine S_pure tabOk rfl ?_)
    refine S_split rfl rfl (fun h4 => ?_) (fun h4 => ?_)
    · repeat (first | refine S_nil ?_ | refine S_pure tabOk rfl ?_ | refine S_pass rfl rfl rfl ?_)
      refine T_cond_t rfl ?_
      repeat (first | refine T_seq ?_ | refine T_region ?_ | refine S_nil ?_ | refine pthen_ret ?_ | refine T_ret ?_ | refine S_pure tabOk rfl ?_)
      exact ret1 rfl rfl (fun w' hw => ⟨congrArg (fun b => Ending.returned (Value.bool b)) (decide_eq_false (fun hh => by obtain ⟨_, g2, g3, g4, g5, g6, g7, g8, _⟩ := hh; omega)).symm, hw.below (by repeat (first | exact new_nil))⟩)
    repeat (first | refine S_pure tabOk rfl ?_)
    refine S_split rfl rfl (fun h5 => ?_) (fun h5 => ?_)
    · repeat (first | refine S_nil ?_ | refine S_pure tabOk rfl ?_ | refine S_pass rfl rfl rfl ?_)
      refine T_cond_t rfl ?_
      repeat (first | refine T_seq ?_ | refine T_region ?_ | refine S_nil ?_ | refine pthen_ret ?_ | refine T_ret ?_ | refine S_pure tabOk rfl ?_)
      exact ret1 rfl rfl (fun w' hw => ⟨congrArg (fun b => Ending.returned (Value.bool b)) (decide_eq_false (fun hh => by obtain ⟨_, g2, g3, g4, g5, g6, g7, g8, _⟩ := hh; omega)).symm, hw.below (by repeat (first | exact new_nil))⟩)
    repeat (first | refine S_pure tabOk rfl ?_)
    refine S_split rfl rfl (fun h6 => ?_) (fun h6 => ?_)
    · repeat (first | refine S_nil ?_ | refine S_pure tabOk rfl ?_ | refine S_pass rfl rfl rfl ?_)
      refine T_cond_t rfl ?_
      repeat (first | refine T_seq ?_ | refine T_region ?_ | refine S_nil ?_ | refine pthen_ret ?_ | refine T_ret ?_ | refine S_pure tabOk rfl ?_)
      exact ret1 rfl rfl (fun w' hw => ⟨congrArg (fun b => Ending.returned (Value.bool b)) (decide_eq_false (fun hh => by obtain ⟨_, g2, g3, g4, g5, g6, g7, g8, _⟩ := hh; omega)).symm, hw.below (by repeat (first | exact new_nil))⟩)
    repeat (first | refine S_nil ?_ | refine S_pure tabOk rfl ?_)
    refine T_cond_dec rfl (fun h7 => ?_) (fun h7 => ?_)
    · repeat (first | refine T_seq ?_ | refine T_region ?_ | refine S_nil ?_ | refine pthen_ret ?_ | refine T_ret ?_ | refine S_pure tabOk rfl ?_)
      exact ret1 rfl rfl (fun w' hw => ⟨congrArg (fun b => Ending.returned (Value.bool b)) (decide_eq_false (fun hh => by obtain ⟨_, g2, g3, g4, g5, g6, g7, g8, _⟩ := hh; omega)).symm, hw.below (by repeat (first | exact new_nil))⟩)
    repeat (first | refine T_seq ?_ | refine T_region ?_ | refine S_nil ?_ | refine pthen_normal ?_ | refine T_skip ?_ | refine S_pure tabOk rfl ?_)
    refine T_cut (ι := Unit) (fun _ => ∀ x ∈ q.flatten, 0 ≤ x ∧ x ≤ 1048576) (fun _ => [(11, .int .i64 (q.flatten.length : Int))]) (fun _ => []) ?_ ?_
    · refine T_block ?_
      refine T_loop (ι := Nat)
        (fun i => [(10, .bool false), (11, .int .i64 ((q.take i).flatten.length : Int)), (53, .slice a2 n2 c2), (54, .int .i64 (n2 : Int)), (55, .int .i64 (i : Int))])
        (fun i => []) (fun i => i ≤ n2 ∧ ∀ x ∈ (q.take i).flatten, 0 ≤ x ∧ x ≤ 1048576) (fun i => n2 - i) 0 ⟨Nat.zero_le _, fun x hx => by cases hx⟩ (by repeat (first | exact Sub.nil | refine Sub.cons rfl ?_))
        (fun w' hw => hw) ?_
      rintro i ⟨hi, hok⟩
      have hfl := rows_len hq2 i (by omega)
      repeat (first | refine T_seq ?_ | refine T_region ?_ | refine S_nil ?_ | refine S_pure tabOk rfl ?_)
      refine T_cond_dec rfl (fun h => ?_) (fun h => ?_)
      · have hi' : i < q.length := by omega
        have hli := hq2 _ (List.getElem_mem hi')
        obtain ⟨ab, off, a0, n0, c0, rfl, hJ, hce⟩ := row_read hx hi'
        have hJn := hJ.len
        repeat (first | refine T_seq ?_ | refine T_region ?_ | refine T_block ?_ | refine pthen_normal ?_ | refine T_skip ?_)
        refine S_q (Q_idx1 tabOk rfl rfl rfl rfl rfl rfl rfl (j := i) rfl (by omega)) ?_
        refine S_load1 tabOk (v := .slice a0 n0 c0) rfl rfl (fun w' hw => hce w' (hw.below (by repeat (first | exact new_nil)))) ?_
        repeat (first | refine T_seq ?_ | refine T_region ?_ | refine S_nil ?_ | refine S_i64 tabOk rfl (by omega) ?_ | refine S_pure tabOk rfl ?_)
        refine T_asThen ?_
        refine T_cut (ι := Unit) (fun _ => ∀ x ∈ q[i], 0 ≤ x ∧ x ≤ 1048576) (fun _ => [(10, .bool false), (11, .int .i64 (((q.take i).flatten.length + q[i].length : Nat) : Int)), (53, .slice (some ⟨ab, off, none⟩) n2 c2), (54, .int .i64 (n2 : Int)), (55, .int .i64 (i : Int))]) (fun _ => []) ?_ ?_
        · refine T_block ?_
          refine T_loop (ι := Nat)
            (fun j => [(10, .bool false), (11, .int .i64 (((q.take i).flatten.length + q[i].length : Nat) : Int)), (53, .slice (some ⟨ab, off, none⟩) n2 c2), (54, .int .i64 (n2 : Int)), (55, .int .i64 (i : Int)), (63, .slice a0 n0 c0), (64, .int .i64 (n0 : Int)), (65, .int .i64 (j : Int))])
            (fun j => []) (fun j => j ≤ n0 ∧ ∀ x ∈ q[i].take j, 0 ≤ x ∧ x ≤ 1048576) (fun j => n0 - j) 0 ⟨Nat.zero_le _, fun x hx => by rw [List.take_zero] at hx; cases hx⟩ (by repeat (first | exact Sub.nil | refine Sub.cons rfl ?_ | refine Sub.cons_int rfl (by omega) ?_))
            (fun w' hw => hw) ?_
          rintro j ⟨hj, hjk⟩
          repeat (first | refine T_seq ?_ | refine T_region ?_ | refine S_nil ?_ | refine S_pure tabOk rfl ?_)
          refine T_cond_dec rfl (fun h => ?_) (fun h => ?_)
          · have hj' : j < q[i].length := by omega
            obtain ⟨jb, joff, rfl⟩ := ints_cell hJ hj'
            repeat (first | refine T_seq ?_ | refine T_region ?_ | refine T_block ?_ | refine pthen_normal ?_ | refine T_skip ?_)
            refine S_q (Q_idx1 tabOk rfl rfl rfl rfl rfl rfl rfl (j := j) rfl (by omega)) ?_
            refine S_load1 tabOk (v := .int .i64 q[i][j]) rfl rfl (fun w' hw => (hJ.sl.ext (hw.below (by repeat (first | exact new_nil)))).at_ (by omega) (by rw [List.getElem?_map, List.getElem?_eq_getElem hj']; rfl)) ?_
            repeat (first | refine T_seq ?_ | refine T_region ?_ | refine S_nil ?_ | refine S_pure tabOk rfl ?_)
            refine S_split rfl rfl (fun h8 => ?_) (fun h8 => ?_)
            · repeat (first | refine S_nil ?_ | refine S_pure tabOk rfl ?_ | refine S_pass rfl rfl rfl ?_)
              refine T_cond_t rfl ?_
              repeat (first | refine T_seq ?_ | refine T_region ?_ | refine S_nil ?_ | refine inb_ret ?_ | refine pthen_ret ?_ | refine T_ret ?_ | refine S_pure tabOk rfl ?_)
              exact ret1 rfl rfl (fun w' hw => ⟨congrArg (fun b => Ending.returned (Value.bool b)) (decide_eq_false (fun hh => by have := hh.2.2.2.2.2.2.2.2.1 q[i][j] (List.mem_flatten.2 ⟨q[i], List.getElem_mem hi', List.getElem_mem hj'⟩); omega)).symm, hw.below (by repeat (first | exact new_nil))⟩)
            · repeat (first | refine S_nil ?_ | refine S_pure tabOk rfl ?_)
              refine T_cond_dec rfl (fun h9 => ?_) (fun h9 => ?_)
              · repeat (first | refine T_seq ?_ | refine T_region ?_ | refine S_nil ?_ | refine inb_ret ?_ | refine pthen_ret ?_ | refine T_ret ?_ | refine S_pure tabOk rfl ?_)
                exact ret1 rfl rfl (fun w' hw => ⟨congrArg (fun b => Ending.returned (Value.bool b)) (decide_eq_false (fun hh => by have := hh.2.2.2.2.2.2.2.2.1 q[i][j] (List.mem_flatten.2 ⟨q[i], List.getElem_mem hi', List.getElem_mem hj'⟩); omega)).symm, hw.below (by repeat (first | exact new_nil))⟩)
              · repeat (first | refine T_region ?_ | refine S_nil ?_ | refine pthen_normal ?_ | refine inb_normal ?_ | refine T_skip ?_ | refine S_i64 tabOk rfl (by omega) ?_ | refine S_pure tabOk rfl ?_)
                refine ⟨j + 1, ⟨by omega, fun x hx => ?_⟩, by repeat (first | exact Sub.nil | refine Sub.cons rfl ?_), fun w' hw => hw, by omega⟩
                rw [List.take_succ_eq_append_getElem hj', List.mem_append, List.mem_singleton] at hx
                rcases hx with hx | rfl
                · exact hjk x hx
                · omega
          · have hjn : j = q[i].length := by omega
            subst hjn
            rw [List.take_length] at hjk
            repeat (first | refine pthen_normal ?_ | refine inb_hit ?_ | refine pthen_exit ?_ | refine T_exit ?_)
            exact ⟨(), hjk, by repeat (first | exact Sub.nil | refine Sub.cons rfl ?_), fun w' hw => hw⟩
        · rintro ⟨⟩ hjk
          repeat (first | refine T_region ?_ | refine S_nil ?_ | refine pthen_normal ?_ | refine inb_normal ?_ | refine S_i64 tabOk rfl (by omega) ?_ | refine S_pure tabOk rfl ?_)
          refine ⟨i + 1, ⟨by omega, fun x hx => ?_⟩, ?_, fun w' hw => hw, by omega⟩
          · rw [rows_take hi', List.mem_append] at hx
            exact hx.elim (hok x) (hjk x)
          · rw [rows_take hi', List.length_append]
            repeat (first | exact Sub.nil | refine Sub.cons rfl ?_)
      · have hin : i = q.length := by omega
        subst hin
        rw [List.take_length] at hok
        repeat (first | refine pthen_normal ?_ | refine inb_hit ?_ | refine pthen_exit ?_ | refine T_exit ?_)
        exact ⟨(), hok, by rw [List.take_length]; repeat (first | exact Sub.nil | refine Sub.cons rfl ?_), fun w' hw => hw⟩
    · rintro ⟨⟩ hok
      repeat (first | refine T_seq ?_ | refine T_region ?_ | refine S_nil ?_ | refine T_ret ?_ | refine S_pure tabOk rfl ?_)
      exact ret1 rfl rfl (fun w' hw => ⟨congrArg (fun b => Ending.returned (Value.bool b)) (decide_eq_decide.2 ⟨fun h => ⟨hr, by omega, by omega, by omega, by omega, by omega, by omega, by omega, hok, by omega⟩, fun h => by have := h.2.2.2.2.2.2.2.2.2; omega⟩), hw.below (by repeat (first | exact new_nil))⟩)
  · rw [decide_eq_false hr]
    repeat (first | refine S_nil ?_ | refine S_pure tabOk rfl ?_ | refine S_pass rfl rfl rfl ?_)
    refine T_cond_t rfl ?_
    repeat (first | refine T_seq ?_ | refine T_region ?_ | refine S_nil ?_ | refine pthen_ret ?_ | refine T_ret ?_ | refine S_pure tabOk rfl ?_)
    exact ret1 rfl rfl (fun w' hw => ⟨congrArg (fun b => Ending.returned (Value.bool b)) (decide_eq_false (fun hh => hr hh.1)).symm, hw.below (by repeat (first | exact new_nil))⟩)
set_option maxHeartbeats 4000000 in
theorem rfits_ok (a : Option Addr) (n c : Nat) (l : List Int) (a2 : Option Addr) (n2 c2 : Nat) (q : List (List Int)) (cap cls size : Int) (w : World) (hI : Ints .i64 w a n c l) (hx : SlR Rll w TT a2 n2 c2 q) (hq1 : q.length ≤ 1048576) (hq2 : ∀ l ∈ q, l.length ≤ 1048576) :
    Calls Try.prog 48 #[.int .i64 cap, .slice a n c, .slice a2 n2 c2, .int .i64 cls, .int .i64 size] w fun e w' => e = .returned (.bool (decide (fitsP cap l q cls size))) ∧ Below w.heap.size w w' := by
  have hlen := hI.len
  have hqn := hx.len
  have hmx := hI.max
  have hcap := hI.cap
  simp only [maxLen] at hmx
  refine enter5 Try.func48 rfl rfl (Hp.refl w) ?_
  repeat (first | refine T_seq ?_ | refine T_region ?_ | refine S_nil ?_ | refine S_pure tabOk rfl ?_)
  refine S_callq rfl Try.call18 (fun w1 h1 => rright_ok a n c l w1 (ints_ext hI (h1.below (by repeat (first | exact new_nil))))) ?_
  by_cases hr : rightW l
  · rw [decide_eq_true hr]
    repeat (first | refine S_pure tabOk rfl ?_)
    refine S_split rfl rfl (fun h1 => ?_) (fun h1 => ?_)
    · repeat (first | refine S_nil ?_ | refine S_pure tabOk rfl ?_ | refine S_pass rfl rfl rfl ?_)
      refine T_cond_t rfl ?_
      repeat (first | refine T_seq ?_ | refine T_region ?_ | refine S_nil ?_ | refine pthen_ret ?_ | refine T_ret ?_ | refine S_pure tabOk rfl ?_)
      exact ret1 rfl rfl (fun w' hw => ⟨congrArg (fun b => Ending.returned (Value.bool b)) (decide_eq_false (fun hh => by obtain ⟨_, g2, g3, g4, g5, g6, g7, g8, _⟩ := hh; omega)).symm, hw.below (by repeat (first | exact new_nil))⟩)
    repeat (first | refine S_pure tabOk rfl ?_)
    refine S_split rfl rfl (fun h2 => ?_) (fun h2 => ?_)
    · repeat (first | refine S_nil ?_ | refine S_pure tabOk rfl ?_ | refine S_pass rfl rfl rfl ?_)
      refine T_cond_t rfl ?_
      repeat (first | refine T_seq ?_ | refine T_region ?_ | refine S_nil ?_ | refine pthen_ret ?_ | refine T_ret ?_ | refine S_pure tabOk rfl ?_)
      exact ret1 rfl rfl (fun w' hw => ⟨congrArg (fun b => Ending.returned (Value.bool b)) (decide_eq_false (fun hh => by obtain ⟨_, g2, g3, g4, g5, g6, g7, g8, _⟩ := hh; omega)).symm, hw.below (by repeat (first | exact new_nil))⟩)
    repeat (first | refine S_pure tabOk rfl ?_)
    refine S_split rfl rfl (fun h3 => ?_) (fun h3 => ?_)
    · repeat (first | refine S_nil ?_ | refine S_pure tabOk rfl ?_ | refine S_pass rfl rfl rfl ?_)
      refine T_cond_t rfl ?_
      repeat (first | refine T_seq ?_ | refine T_region ?_ | refine S_nil ?_ | refine pthen_ret ?_ | refine T_ret ?_ | refine S_pure tabOk rfl ?_)
      exact ret1 rfl rfl (fun w' hw => ⟨congrArg (fun b => Ending.returned (Value.bool b)) (decide_eq_false (fun hh => by obtain ⟨_, g2, g3, g4, g5, g6, g7, g8, _⟩ := hh; omega)).symm, hw.below (by repeat (first | exact new_nil))⟩)
    repeat (first | refine S_pure tabOk rfl ?_)
    refine S_split rfl rfl (fun h4 => ?_) (fun h4 => ?_)
    · repeat (first | refine S_nil ?_ | refine S_pure tabOk rfl ?_ | refine S_pass rfl rfl rfl ?_)
      refine T_cond_t rfl ?_
      repeat (first | refine T_seq ?_ | refine T_region ?_ | refine S_nil ?_ | refine pthen_ret ?_ | refine T_ret ?_ | refine S_pure tabOk rfl ?_)
      exact ret1 rfl rfl (fun w' hw => ⟨congrArg (fun b => Ending.returned (Value.bool b)) (decide_eq_false (fun hh => by obtain ⟨_, g2, g3, g4, g5, g6, g7, g8, _⟩ := hh; omega)).symm, hw.below (by repeat (first | exact new_nil))⟩)
    repeat (first | refine S_pure tabOk rfl ?_)
    refine S_split rfl rfl (fun h5 => ?_) (fun h5 => ?_)
    · repeat (first | refine S_nil ?_ | refine S_pure tabOk rfl ?_ | refine S_pass rfl rfl rfl ?_)
      refine T_cond_t rfl ?_
      repeat (first | refine T_seq ?_ | refine T_region ?_ | refine S_nil ?_ | refine pthen_ret ?_ | refine T_ret ?_ | refine S_pure tabOk rfl ?_)
      exact ret1 rfl rfl (fun w' hw => ⟨congrArg (fun b => Ending.returned (Value.bool b)) (decide_eq_false (fun hh => by obtain ⟨_, g2, g3, g4, g5, g6, g7, g8, _⟩ := hh; omega)).symm, hw.below (by repeat (first | exact new_nil))⟩)
    repeat (first | refine S_pure tabOk rfl ?_)
    refine S_split rfl rfl (fun h6 => ?_) (fun h6 => ?_)
    · repeat (first | refine S_nil ?_ | refine S_pure tabOk rfl ?_ | refine S_pass rfl rfl rfl ?_)
      refine T_cond_t rfl ?_
      repeat (first | refine T_seq ?_ | refine T_region ?_ | refine S_nil ?_ | refine pthen_ret ?_ | refine T_ret ?_ | refine S_pure tabOk rfl ?_)
      exact ret1 rfl rfl (fun w' hw => ⟨congrArg (fun b => Ending.returned (Value.bool b)) (decide_eq_false (fun hh => by obtain ⟨_, g2, g3, g4, g5, g6, g7, g8, _⟩ := hh; omega)).symm, hw.below (by repeat (first | exact new_nil))⟩)
    repeat (first | refine S_nil ?_ | refine S_pure tabOk rfl ?_)
    refine T_cond_dec rfl (fun h7 => ?_) (fun h7 => ?_)
    · repeat (first | refine T_seq ?_ | refine T_region ?_ | refine S_nil ?_ | refine pthen_ret ?_ | refine T_ret ?_ | refine S_pure tabOk rfl ?_)
      exact ret1 rfl rfl (fun w' hw => ⟨congrArg (fun b => Ending.returned (Value.bool b)) (decide_eq_false (fun hh => by obtain ⟨_, g2, g3, g4, g5, g6, g7, g8, _⟩ := hh; omega)).symm, hw.below (by repeat (first | exact new_nil))⟩)
    repeat (first | refine T_seq ?_ | refine T_region ?_ | refine S_nil ?_ | refine pthen_normal ?_ | refine T_skip ?_ | refine S_pure tabOk rfl ?_)
    refine T_cut (ι := Unit) (fun _ => ∀ x ∈ q.flatten, 0 ≤ x ∧ x ≤ 1048576) (fun _ => [(11, .int .i64 (q.flatten.length : Int))]) (fun _ => []) ?_ ?_
    · refine T_block ?_
      refine T_loop (ι := Nat)
        (fun i => [(10, .bool false), (11, .int .i64 ((q.take i).flatten.length : Int)), (53, .slice a2 n2 c2), (54, .int .i64 (n2 : Int)), (55, .int .i64 (i : Int))])
        (fun i => []) (fun i => i ≤ n2 ∧ ∀ x ∈ (q.take i).flatten, 0 ≤ x ∧ x ≤ 1048576) (fun i => n2 - i) 0 ⟨Nat.zero_le _, fun x hx => by cases hx⟩ (by repeat (first | exact Sub.nil | refine Sub.cons rfl ?_))
        (fun w' hw => hw) ?_
      rintro i ⟨hi, hok⟩
      have hfl := rows_len hq2 i (by omega)
      repeat (first | refine T_seq ?_ | refine T_region ?_ | refine S_nil ?_ | refine S_pure tabOk rfl ?_)
      refine T_cond_dec rfl (fun h => ?_) (fun h => ?_)
      · have hi' : i < q.length := by omega
        have hli := hq2 _ (List.getElem_mem hi')
        obtain ⟨ab, off, a0, n0, c0, rfl, hJ, hce⟩ := row_read hx hi'
        have hJn := hJ.len
        repeat (first | refine T_seq ?_ | refine T_region ?_ | refine T_block ?_ | refine pthen_normal ?_ | refine T_skip ?_)
        refine S_q (Q_idx1 tabOk rfl rfl rfl rfl rfl rfl rfl (j := i) rfl (by omega)) ?_
        refine S_load1 tabOk (v := .slice a0 n0 c0) rfl rfl (fun w' hw => hce w' (hw.below (by repeat (first | exact new_nil)))) ?_
        repeat (first | refine T_seq ?_ | refine T_region ?_ | refine S_nil ?_ | refine S_pure tabOk rfl ?_)
        refine T_asThen ?_
        refine T_cut (ι := Unit) (fun _ => ∀ x ∈ q[i], 0 ≤ x ∧ x ≤ 1048576) (fun _ => [(10, .bool false), (11, .int .i64 (((q.take i).flatten.length + q[i].length : Nat) : Int)), (53, .slice (some ⟨ab, off, none⟩) n2 c2), (54, .int .i64 (n2 : Int)), (55, .int .i64 (i : Int))]) (fun _ => []) ?_ ?_
        · refine T_block ?_
          refine T_loop (ι := Nat)
            (fun j => [(10, .bool false), (11, .int .i64 (((q.take i).flatten.length + j : Nat) : Int)), (53, .slice (some ⟨ab, off, none⟩) n2 c2), (54, .int .i64 (n2 : Int)), (55, .int .i64 (i : Int)), (59, .slice a0 n0 c0), (60, .int .i64 (n0 : Int)), (61, .int .i64 (j : Int))])
            (fun j => []) (fun j => j ≤ n0 ∧ ∀ x ∈ q[i].take j, 0 ≤ x ∧ x ≤ 1048576) (fun j => n0 - j) 0 ⟨Nat.zero_le _, fun x hx => by rw [List.take_zero] at hx; cases hx⟩ (by repeat (first | exact Sub.nil | refine Sub.cons rfl ?_))
            (fun w' hw => hw) ?_
          rintro j ⟨hj, hjk⟩
          repeat (first | refine T_seq ?_ | refine T_region ?_ | refine S_nil ?_ | refine S_pure tabOk rfl ?_)
          refine T_cond_dec rfl (fun h => ?_) (fun h => ?_)
          · have hj' : j < q[i].length := by omega
            obtain ⟨jb, joff, rfl⟩ := ints_cell hJ hj'
            repeat (first | refine T_seq ?_ | refine T_region ?_ | refine T_block ?_ | refine pthen_normal ?_ | refine T_skip ?_)
            refine S_q (Q_idx1 tabOk rfl rfl rfl rfl rfl rfl rfl (j := j) rfl (by omega)) ?_
            refine S_load1 tabOk (v := .int .i64 q[i][j]) rfl rfl (fun w' hw => (hJ.sl.ext (hw.below (by repeat (first | exact new_nil)))).at_ (by omega) (by rw [List.getElem?_map, List.getElem?_eq_getElem hj']; rfl)) ?_
            repeat (first | refine T_seq ?_ | refine T_region ?_ | refine S_nil ?_ | refine S_pure tabOk rfl ?_)
            refine S_split rfl rfl (fun h8 => ?_) (fun h8 => ?_)
            · repeat (first | refine S_nil ?_ | refine S_pure tabOk rfl ?_ | refine S_pass rfl rfl rfl ?_)
              refine T_cond_t rfl ?_
              repeat (first | refine T_seq ?_ | refine T_region ?_ | refine S_nil ?_ | refine inb_ret ?_ | refine pthen_ret ?_ | refine T_ret ?_ | refine S_pure tabOk rfl ?_)
              exact ret1 rfl rfl (fun w' hw => ⟨congrArg (fun b => Ending.returned (Value.bool b)) (decide_eq_false (fun hh => by have := hh.2.2.2.2.2.2.2.2.1 q[i][j] (List.mem_flatten.2 ⟨q[i], List.getElem_mem hi', List.getElem_mem hj'⟩); omega)).symm, hw.below (by repeat (first | exact new_nil))⟩)
            · repeat (first | refine S_nil ?_ | refine S_pure tabOk rfl ?_)
              refine T_cond_dec rfl (fun h9 => ?_) (fun h9 => ?_)
              · repeat (first | refine T_seq ?_ | refine T_region ?_ | refine S_nil ?_ | refine inb_ret ?_ | refine pthen_ret ?_ | refine T_ret ?_ | refine S_pure tabOk rfl ?_)
                exact ret1 rfl rfl (fun w' hw => ⟨congrArg (fun b => Ending.returned (Value.bool b)) (decide_eq_false (fun hh => by have := hh.2.2.2.2.2.2.2.2.1 q[i][j] (List.mem_flatten.2 ⟨q[i], List.getElem_mem hi', List.getElem_mem hj'⟩); omega)).symm, hw.below (by repeat (first | exact new_nil))⟩)
              · repeat (first | refine T_region ?_ | refine S_nil ?_ | refine pthen_normal ?_ | refine inb_normal ?_ | refine T_skip ?_ | refine S_i64 tabOk rfl (by omega) ?_ | refine S_pure tabOk rfl ?_ | refine T_region_any ?_)
                refine ⟨j + 1, ⟨by omega, fun x hx => ?_⟩, by repeat (first | exact Sub.nil | refine Sub.cons rfl ?_), fun w' hw => hw, by omega⟩
                rw [List.take_succ_eq_append_getElem hj', List.mem_append, List.mem_singleton] at hx
                rcases hx with hx | rfl
                · exact hjk x hx
                · omega
          · have hjn : j = q[i].length := by omega
            subst hjn
            rw [List.take_length] at hjk
            repeat (first | refine pthen_normal ?_ | refine inb_hit ?_ | refine pthen_exit ?_ | refine T_exit ?_)
            exact ⟨(), hjk, by repeat (first | exact Sub.nil | refine Sub.cons rfl ?_), fun w' hw => hw⟩
        · rintro ⟨⟩ hjk
          repeat (first | refine T_region ?_ | refine S_nil ?_ | refine pthen_normal ?_ | refine inb_normal ?_ | refine S_i64 tabOk rfl (by omega) ?_ | refine S_pure tabOk rfl ?_)
          refine ⟨i + 1, ⟨by omega, fun x hx => ?_⟩, ?_, fun w' hw => hw, by omega⟩
          · rw [rows_take hi', List.mem_append] at hx
            exact hx.elim (hok x) (hjk x)
          · rw [rows_take hi', List.length_append]
            repeat (first | exact Sub.nil | refine Sub.cons rfl ?_)
      · have hin : i = q.length := by omega
        subst hin
        rw [List.take_length] at hok
        repeat (first | refine pthen_normal ?_ | refine inb_hit ?_ | refine pthen_exit ?_ | refine T_exit ?_)
        exact ⟨(), hok, by rw [List.take_length]; repeat (first | exact Sub.nil | refine Sub.cons rfl ?_), fun w' hw => hw⟩
    · rintro ⟨⟩ hok
      repeat (first | refine T_seq ?_ | refine T_region ?_ | refine S_nil ?_ | refine T_ret ?_ | refine S_pure tabOk rfl ?_)
      exact ret1 rfl rfl (fun w' hw => ⟨congrArg (fun b => Ending.returned (Value.bool b)) (decide_eq_decide.2 ⟨fun h => ⟨hr, by omega, by omega, by omega, by omega, by omega, by omega, by omega, hok, by omega⟩, fun h => by have := h.2.2.2.2.2.2.2.2.2; omega⟩), hw.below (by repeat (first | exact new_nil))⟩)
  · rw [decide_eq_false hr]
    repeat (first | refine S_nil ?_ | refine S_pure tabOk rfl ?_ | refine S_pass rfl rfl rfl ?_)
    refine T_cond_t rfl ?_
    repeat (first | refine T_seq ?_ | refine T_region ?_ | refine S_nil ?_ | refine pthen_ret ?_ | refine T_ret ?_ | refine S_pure tabOk rfl ?_)
    exact ret1 rfl rfl (fun w' hw => ⟨congrArg (fun b => Ending.returned (Value.bool b)) (decide_eq_false (fun hh => hr hh.1)).symm, hw.below (by repeat (first | exact new_nil))⟩)
set_option maxHeartbeats 1000000 in
theorem stotal_ok (a2 : Option Addr) (n2 c2 : Nat) (q : List (List Int)) (w : World) (hx : SlR Rll w TT a2 n2 c2 q) (hq1 : ∀ x ∈ q.flatten, 0 ≤ x ∧ x ≤ 1048576) (hq2 : q.flatten.length ≤ 65536) (hq3 : q.length ≤ 1048576) :
    Calls Try.prog 20 #[.slice a2 n2 c2] w fun e w' => e = .returned (.int .i64 q.flatten.sum) ∧ Below w.heap.size w w' := by
  have hqn := hx.len
  refine enter1 Try.func20 rfl rfl (Hp.refl w) ?_
  repeat (first | refine T_seq ?_ | refine T_region ?_ | refine S_nil ?_ | refine S_pure tabOk rfl ?_)
  refine T_cut (ι := Unit) (fun _ => True) (fun _ => [(3, .int .i64 q.flatten.sum)]) (fun _ => []) ?_ ?_
  · refine T_block ?_
    refine T_loop (ι := Nat)
      (fun i => [(3, .int .i64 (q.take i).flatten.sum), (6, .slice a2 n2 c2), (7, .int .i64 (n2 : Int)), (8, .int .i64 (i : Int))])
      (fun i => []) (fun i => i ≤ n2) (fun i => n2 - i) 0 (Nat.zero_le _) (by repeat (first | exact Sub.nil | refine Sub.cons rfl ?_))
      (fun w' hw => hw) ?_
    intro i hi
    have hfe : q.flatten = (q.take i).flatten ++ (q.drop i).flatten := by rw [← List.flatten_append, List.take_append_drop]
    have hbt := sum_bnd (B := 1048576) (by decide) (l := (q.take i).flatten) fun x hx => hq1 x (by rw [hfe]; exact List.mem_append_left _ hx)
    have hlt : (q.take i).flatten.length ≤ q.flatten.length := by rw [hfe, List.length_append]; omega
    repeat (first | refine T_seq ?_ | refine T_region ?_ | refine S_nil ?_ | refine S_pure tabOk rfl ?_)
    refine T_cond_dec rfl (fun h => ?_) (fun h => ?_)
    · have hi' : i < q.length := by omega
      have hm : ∀ x ∈ q[i], 0 ≤ x ∧ x ≤ 1048576 := fun x hx => hq1 x (List.mem_flatten.2 ⟨_, List.getElem_mem hi', hx⟩)
      have hbi := sum_bnd (B := 1048576) (by decide) hm
      have hli : q[i].length ≤ q.flatten.length := (List.sublist_flatten_of_mem (List.getElem_mem hi')).length_le
      obtain ⟨ab, off, a0, n0, c0, rfl, hJ, hce⟩ := row_read hx hi'
      have hJn := hJ.len
      repeat (first | refine T_seq ?_ | refine T_region ?_ | refine T_block ?_ | refine pthen_normal ?_ | refine T_skip ?_)
      refine S_q (Q_idx1 tabOk rfl rfl rfl rfl rfl rfl rfl (j := i) rfl (by omega)) ?_
      refine S_load1 tabOk (v := .slice a0 n0 c0) rfl rfl (fun w' hw => hce w' (hw.below (by repeat (first | exact new_nil)))) ?_
      repeat (first | refine S_nil ?_ | refine S_pure tabOk rfl ?_ | refine T_region_any ?_)
      refine S_callq rfl Try.call44 (fun w1 h1 => ssum_ok a0 n0 c0 q[i] w1 (ints_ext hJ (h1.below (by repeat (first | exact new_nil)))) hm (by omega)) ?_
      repeat (first | refine T_region ?_ | refine S_nil ?_ | refine pthen_normal ?_ | refine inb_normal ?_ | refine S_i64 tabOk rfl (by omega) ?_ | refine S_pure tabOk rfl ?_)
      refine ⟨i + 1, by omega, ?_, fun w' hw => hw, by omega⟩
      rw [rows_take hi', List.sum_append]
      repeat (first | exact Sub.nil | refine Sub.cons rfl ?_)
    · have hin : i = q.length := by omega
      subst hin
      repeat (first | refine pthen_normal ?_ | refine inb_hit ?_ | refine pthen_exit ?_ | refine T_exit ?_)
      exact ⟨(), trivial, by rw [List.take_length]; repeat (first | exact Sub.nil | refine Sub.cons rfl ?_), fun w' hw => hw⟩
  · rintro ⟨⟩ _
    repeat (first | refine T_seq ?_ | refine T_region ?_ | refine S_nil ?_ | refine T_ret ?_ | refine S_pure tabOk rfl ?_)
    exact ret1 rfl rfl (fun w' hw => ⟨rfl, hw.below (by repeat (first | exact new_nil))⟩)

/-- a class's line: its block; what stands in it; what its slice reads asx -/
structure Ln where
  b : Nat
  cls : Nat
  a : Option Addr
  n : Nat
  c : Nat
  went : Nat
  exc : Int
  l : List Int
abbrev lnO (x : Ln) : Obj := .cells ⟨[.int .i64 (x.cls : Int), .slice x.a x.n x.c, .int .i64 (x.went : Int), .int .i64 x.exc]⟩ 95 (0, 0)
abbrev lnPt (x : Ln) : Value := .pointer (some ⟨x.b, 0, none⟩)
def lnR (x y : Ln) : Bool := decide (y.exc < x.exc ∨ (x.exc = y.exc ∧ x.cls < y.cls))
theorem lnR_sw : SW lnR := by
  constructor
  · intro a b h
    simp only [lnR, decide_eq_true_eq, decide_eq_false_iff_not] at h ⊢
    omega
  · intro a b c h1 h2
    simp only [lnR, decide_eq_false_iff_not] at h1 h2 ⊢
    omega
/-- the heap's variable, its row, its lines -/
def lnV (base bh : Nat) (s : List Ln) : Vp :=
  ⟨fun w F v => w.heap[bh]? = some (.cells ⟨[v]⟩ 92 (0, 0)) ∧ F bh ∧ w.ownsRow base 93 1 v s.length (s.map lnPt) ∧ (∀ k, v.ownBlock = some k → F k) ∧ (∀ x ∈ s, w.heap[x.b]? = some (lnO x) ∧ F x.b) ∧ s.length ≤ 1073741824,
   fun {w w' A B v} ⟨h1, h2, h3, h4, h5, h6⟩ hk => ⟨((hk bh h2 (heap_lt h1)).1).trans h1, (hk bh h2 (heap_lt h1)).2, own_keep h3 (fun k hv => (hk k (h4 k hv) (World.ownsRow.lt h3 k hv).2).1), fun k hv => (hk k (h4 k hv) (World.ownsRow.lt h3 k hv).2).2, fun x hx => ⟨((hk x.b (h5 x hx).2 (heap_lt (h5 x hx).1)).1).trans (h5 x hx).1, (hk x.b (h5 x hx).2 (heap_lt (h5 x hx).1)).2⟩, h6⟩⟩
def lnP (base bh : Nat) (s : List Ln) : Vp :=
  ⟨fun w F _ => ∃ v, (lnV base bh s).at_ w F v, fun ⟨v, h⟩ hk => ⟨v, (lnV base bh s).keep h hk⟩⟩
theorem Hp.startR {w : World} {p : Vp} {v : Value} {F : Nat → Prop} (hv : p.at_ w F v) : ∃ F' : Nat → Prop, Hp w w [.rep (fun w => p.at_ w F' v) F' false] :=
  ⟨fun k => F k ∧ k < w.heap.size, (Hp.refl w).more ⟨p.keep hv fun k hk hlt => ⟨rfl, hk, hlt⟩, Vp.loc, fun k hk => hk.2⟩ fun e he => (by cases he)⟩
theorem lnV_form {base bh : Nat} {s : List Ln} {w : World} {F : Nat → Prop} {v : Value} (h : (lnV base bh s).at_ w F v) : ∃ a c, v = .slice a s.length c ∧ s.length ≤ c := by
  obtain ⟨a, c, h1, h2, _⟩ := form_of_own h.2.2.1
  exact ⟨a, c, h1, h2⟩
theorem lnV_addr {base bh : Nat} {s : List Ln} {w : World} {F : Nat → Prop} {v : Value} (h : (lnV base bh s).at_ w F v) (h0 : 0 < s.length) : ∃ g c, v = .slice (some ⟨g, 0, none⟩) s.length c := by
  obtain ⟨_, h2⟩ := h.2.2.1
  rcases h2 with ⟨_, h3⟩ | ⟨g, cap, cur, h3, _⟩
  · omega
  · exact ⟨g, cap, h3⟩
theorem lnV_cell {base bh : Nat} {s : List Ln} {w : World} {F : Nat → Prop} {g c n : Nat} (h : (lnV base bh s).at_ w F (.slice (some ⟨g, 0, none⟩) n c)) {i : Nat} {x : Ln} (hx : s[i]? = some x) : w.cell? ⟨g, 0 + i, none⟩ = some (lnPt x) := by
  obtain ⟨a, c', e, _⟩ := lnV_form h
  cases e
  rw [Nat.zero_add]
  have := (List.getElem?_eq_some_iff.1 hx).1
  exact own_cell h.2.2.1 (by omega) (by rw [List.getElem?_map, hx]; rfl)
theorem lnV_line {base bh : Nat} {s : List Ln} {w : World} {F : Nat → Prop} {v : Value} (h : (lnV base bh s).at_ w F v) {i : Nat} {x : Ln} (hx : s[i]? = some x) {j : Nat} {u : Value} (hu : [.int .i64 (x.cls : Int), .slice x.a x.n x.c, .int .i64 (x.went : Int), .int .i64 x.exc][j]? = some u) : w.cell? ⟨x.b, 0 + j, none⟩ = some u :=
  (Sl.of_blk (n := 4) (sz := 1) (off := 0) (h.2.2.2.2.1 x (List.mem_of_getElem? hx)).1 rfl (fun j u hu => by rw [Nat.zero_add]; exact hu)).at_ (by decide) hu
theorem llen_ok (a : Option Addr) (n c : Nat) (w : World) : Calls Try.prog 112 #[.slice a n c] w fun e w' => e = .returned (.int .i64 (n : Int)) ∧ Below w.heap.size w w' := by
  refine enter1 Try.func112 rfl rfl (Hp.refl w) ?_
  repeat (first | refine T_seq ?_ | refine T_region ?_ | refine S_nil ?_ | refine T_ret ?_ | refine S_pure tabOk rfl ?_)
  exact ret1 rfl rfl (fun w' hw => ⟨rfl, hw.below (by repeat (first | exact new_nil))⟩)
set_option maxHeartbeats 1000000 in
theorem lless_ok (base bh : Nat) (s : List Ln) (F0 : Nat → Prop) (v : Value) (i j : Nat) (w : World) (h : (lnV base bh s).at_ w F0 v) (hi : i < s.length) (hj : j < s.length) :
    Calls Try.prog 113 #[v, .int .i64 (i : Int), .int .i64 (j : Int)] w fun e w' => e = .returned (.bool (ltL lnR s i j)) ∧ Below w.heap.size w w' := by
  obtain ⟨F, hst⟩ := Hp.startR h
  obtain ⟨g, c, rfl⟩ := lnV_addr h (by omega)
  obtain ⟨x, hx⟩ : ∃ x, s[i]? = some x := ⟨_, List.getElem?_eq_getElem hi⟩
  obtain ⟨y, hy⟩ : ∃ y, s[j]? = some y := ⟨_, List.getElem?_eq_getElem hj⟩
  have hl : ltL lnR s i j = lnR x y := by unfold ltL; rw [hx, hy]
  rw [hl]
  refine enter3 Try.func113 rfl rfl hst ?_
  repeat (first | refine T_draw (by kernel_rfl) (by kernel_rfl) ?_ | refine D_pure tabOk rfl ?_ | refine T_seq ?_ | refine T_region ?_ | refine S_nil ?_ | refine S_pure tabOk rfl ?_)
  refine D_q (Q_idx1 tabOk rfl rfl rfl rfl rfl rfl rfl (j := i) rfl hi) ?_
  skip
  refine D_load1 tabOk (v := lnPt x) rfl rfl (fun w' hw => lnV_cell (hw.own _ (getE_mem (i := 0) rfl)).1 hx) ?_
  repeat (first | refine D_pure tabOk rfl ?_)
  refine D_load1 tabOk (v := .int .i64 x.exc) rfl rfl (fun w' hw => lnV_line (hw.own _ (getE_mem (i := 0) rfl)).1 hx (j := 3) rfl) ?_
  repeat (first | refine D_pure tabOk rfl ?_)
  refine D_q (Q_idx1 tabOk rfl rfl rfl rfl rfl rfl rfl (j := j) rfl hj) ?_
  skip
  refine D_load1 tabOk (v := lnPt y) rfl rfl (fun w' hw => lnV_cell (hw.own _ (getE_mem (i := 0) rfl)).1 hy) ?_
  repeat (first | refine D_pure tabOk rfl ?_)
  refine D_load1 tabOk (v := .int .i64 y.exc) rfl rfl (fun w' hw => lnV_line (hw.own _ (getE_mem (i := 0) rfl)).1 hy (j := 3) rfl) ?_
  repeat (first | refine D_all rfl ?_ | refine D_pure tabOk rfl ?_)
  refine T_cond_dec rfl (fun h1 => ?_) (fun h1 => ?_)
  · repeat (first | refine T_draw (by kernel_rfl) (by kernel_rfl) ?_ | refine D_pure tabOk rfl ?_ | refine T_seq ?_)
    refine D_q (Q_idx1 tabOk rfl rfl rfl rfl rfl rfl rfl (j := i) rfl hi) ?_
    skip
    refine D_load1 tabOk (v := lnPt x) rfl rfl (fun w' hw => lnV_cell (hw.own _ (getE_mem (i := 0) rfl)).1 hx) ?_
    repeat (first | refine D_pure tabOk rfl ?_)
    refine D_load1 tabOk (v := .int .i64 x.exc) rfl rfl (fun w' hw => lnV_line (hw.own _ (getE_mem (i := 0) rfl)).1 hx (j := 3) rfl) ?_
    repeat (first | refine D_pure tabOk rfl ?_)
    refine D_q (Q_idx1 tabOk rfl rfl rfl rfl rfl rfl rfl (j := j) rfl hj) ?_
    skip
    refine D_load1 tabOk (v := lnPt y) rfl rfl (fun w' hw => lnV_cell (hw.own _ (getE_mem (i := 0) rfl)).1 hy) ?_
    repeat (first | refine D_pure tabOk rfl ?_)
    refine D_load1 tabOk (v := .int .i64 y.exc) rfl rfl (fun w' hw => lnV_line (hw.own _ (getE_mem (i := 0) rfl)).1 hy (j := 3) rfl) ?_
    repeat (first | refine D_all rfl ?_ | refine D_pure tabOk rfl ?_ | refine pthen_ret ?_ | refine T_ret ?_)
    exact ret1 rfl rfl (fun w' hw => ⟨congrArg (fun b => Ending.returned (Value.bool b)) (by unfold lnR; rw [decide_eq_decide]; omega), hw.below (by repeat (first | exact new_nil | refine new_ro ?_))⟩)
  · repeat (first | refine T_draw (by kernel_rfl) (by kernel_rfl) ?_ | refine D_pure tabOk rfl ?_ | refine T_seq ?_ | refine pthen_normal ?_ | refine T_skip ?_)
    refine D_q (Q_idx1 tabOk rfl rfl rfl rfl rfl rfl rfl (j := i) rfl hi) ?_
    skip
    refine D_load1 tabOk (v := lnPt x) rfl rfl (fun w' hw => lnV_cell (hw.own _ (getE_mem (i := 0) rfl)).1 hx) ?_
    repeat (first | refine D_pure tabOk rfl ?_)
    refine D_load1 tabOk (v := .int .i64 (x.cls : Int)) rfl rfl (fun w' hw => lnV_line (hw.own _ (getE_mem (i := 0) rfl)).1 hx (j := 0) rfl) ?_
    repeat (first | refine D_pure tabOk rfl ?_)
    refine D_q (Q_idx1 tabOk rfl rfl rfl rfl rfl rfl rfl (j := j) rfl hj) ?_
    skip
    refine D_load1 tabOk (v := lnPt y) rfl rfl (fun w' hw => lnV_cell (hw.own _ (getE_mem (i := 0) rfl)).1 hy) ?_
    repeat (first | refine D_pure tabOk rfl ?_)
    refine D_load1 tabOk (v := .int .i64 (y.cls : Int)) rfl rfl (fun w' hw => lnV_line (hw.own _ (getE_mem (i := 0) rfl)).1 hy (j := 0) rfl) ?_
    repeat (first | refine D_all rfl ?_ | refine D_pure tabOk rfl ?_ | refine T_ret ?_)
    exact ret1 rfl rfl (fun w' hw => ⟨congrArg (fun b => Ending.returned (Value.bool b)) (by unfold lnR; rw [decide_eq_decide]; omega), hw.below (by repeat (first | exact new_nil | refine new_ro ?_))⟩)
set_option maxHeartbeats 1000000 in
theorem lswap_ok (b n c i j : Nat) (cs : List Value) (pu pv : Option Addr) (w : World) (hb : w.heap[b]? = some (.cells ⟨cs⟩ 93 (0, 0))) (hi : i < n) (hj : j < n) (hn : n ≤ cs.length) (hu : cs[i]? = some (.pointer pu)) (hv : cs[j]? = some (.pointer pv)) :
    Calls Try.prog 114 #[.slice (some ⟨b, 0, none⟩) n c, .int .i64 (i : Int), .int .i64 (j : Int)] w fun e w' => e = .returned (.tuple #[]) ∧ Hp w w' [.blk b (.cells ⟨(cs.set i (.pointer pv)).set j (.pointer pu)⟩ 93 (0, 0)) true] := by
  refine enter3 Try.func114 rfl rfl (Hp.start true hb) ?_
  skip
  refine T_asThen ?_
  let ol0 : OL := [.blk b (.cells ⟨cs⟩ 93 (0, 0)) true]
  let ol1 : OL := [.blk b (.cells ⟨cs.set i (.pointer pv)⟩ 93 (0, 0)) true]
  let ol2 : OL := [.blk b (.cells ⟨(cs.set i (.pointer pv)).set j (.pointer pu)⟩ 93 (0, 0)) true]
  let olf : (Nat → Bool) → OL := fun L => match L 15 with
    | true => ol2
    | false => match L 13 with
      | true => ol1
      | false => ol0
  refine T_drawS (by kernel_rfl) (by kernel_rfl) [.slice (some ⟨b, 0, none⟩) n c, .int .i64 (i : Int), .slice (some ⟨b, 0, none⟩) n c, .int .i64 (j : Int), .slice (some ⟨b, 0, none⟩) n c, .int .i64 (j : Int), .pointer (some ⟨b, 0 + j, none⟩), .pointer pv, .slice (some ⟨b, 0, none⟩) n c, .int .i64 (i : Int), .pointer (some ⟨b, 0 + i, none⟩), .pointer pu, .pointer (some ⟨b, 0 + i, none⟩), undef, .pointer (some ⟨b, 0 + j, none⟩), undef] rfl olf rfl ?_ (l' := []) (ol' := ol2) (fun L h => by simp only [olf, h 15 (by decide)]) (by repeat (first | exact SubD.nil)) ?_
  · refine ⟨?_, ?_, ?_, ?_, ?_, ?_, ?_, ?_, ?_, ?_, ?_, ?_, ?_, ?_, ?_, ?_, trivial⟩
    · exact fun L hc hl hp => OpS.ofD rfl (D_pure tabOk rfl D_last)
    · exact fun L hc hl hp => OpS.ofD rfl (D_pure tabOk rfl D_last)
    · exact fun L hc hl hp => OpS.ofD rfl (D_pure tabOk rfl D_last)
    · exact fun L hc hl hp => OpS.ofD rfl (D_pure tabOk rfl D_last)
    · exact fun L hc hl hp => OpS.ofD rfl (D_pure tabOk rfl D_last)
    · exact fun L hc hl hp => OpS.ofD rfl (D_pure tabOk rfl D_last)
    · exact fun L hc hl hp => OpS.ofD rfl (D_q (Q_idx1 tabOk rfl rfl rfl rfl rfl rfl rfl (j := j) rfl hj) D_last)
    · intro L hc hl hp
      have h13 := closed_no hc (j := 13) rfl ⟨7, .data⟩ (by simp) rfl hl
      have h15 := closed_no hc (j := 15) rfl ⟨13, .phase⟩ (by simp) rfl h13
      have e1 : olf L = ol0 := by simp only [olf, h13, h15]
      have e2 : olf (add L 7) = ol0 := by simp [olf, add, h13, h15]
      rw [e1, e2]
      exact OpS.ofD rfl (D_load1 tabOk (v := .pointer pv) rfl rfl (fun w' hw => blk_cell hw hv) D_last)
    · exact fun L hc hl hp => OpS.ofD rfl (D_pure tabOk rfl D_last)
    · exact fun L hc hl hp => OpS.ofD rfl (D_pure tabOk rfl D_last)
    · exact fun L hc hl hp => OpS.ofD rfl (D_q (Q_idx1 tabOk rfl rfl rfl rfl rfl rfl rfl (j := i) rfl hi) D_last)
    · intro L hc hl hp
      have h13 := closed_no hc (j := 13) rfl ⟨11, .phase⟩ (by simp) rfl hl
      have h15 := closed_no hc (j := 15) rfl ⟨13, .phase⟩ (by simp) rfl h13
      have e1 : olf L = ol0 := by simp only [olf, h13, h15]
      have e2 : olf (add L 11) = ol0 := by simp [olf, add, h13, h15]
      rw [e1, e2]
      exact OpS.ofD rfl (D_load1 tabOk (v := .pointer pu) rfl rfl (fun w' hw => blk_cell hw hu) D_last)
    · exact fun L hc hl hp => OpS.ofD rfl (D_q (Q_idx1 tabOk rfl rfl rfl rfl rfl rfl rfl (j := i) rfl hi) D_last)
    · intro L hc hl hp
      have h15 := closed_no hc (j := 15) rfl ⟨13, .phase⟩ (by simp) rfl hl
      have e1 : olf L = ol0 := by simp only [olf, hl, h15]
      have e2 : olf (add L 13) = ol1 := by simp [olf, add, h15]
      rw [e1, e2]
      exact OpS.store tabOk 0 rfl rfl (by intro x hx; rw [List.mem_singleton] at hx; subst hx; rfl) rfl (by rw [Nat.zero_add]; exact setMany_one (by omega)) rfl
    · exact fun L hc hl hp => OpS.ofD rfl (D_q (Q_idx1 tabOk rfl rfl rfl rfl rfl rfl rfl (j := j) rfl hj) D_last)
    · intro L hc hl hp
      have h13 : L 13 = true := hp ⟨13, .phase⟩ (by simp) rfl
      have e1 : olf L = ol1 := by simp only [olf, h13, hl]
      have e2 : olf (add L 15) = ol2 := by simp [olf, add]
      rw [e1, e2]
      exact OpS.store tabOk 0 rfl rfl (by intro x hx; rw [List.mem_singleton] at hx; subst hx; rfl) rfl (by rw [Nat.zero_add]; exact setMany_one (by rw [List.length_set]; omega)) rfl
  exact ret0n rfl (fun w' hw => ⟨rfl, hw⟩)

abbrev lnI (bh : Nat) : Value := .iface 97 (.pointer (some ⟨bh, 0, none⟩))
theorem lnV_load {base bh : Nat} {s : List Ln} {w : World} {F : Nat → Prop} {v : Value} (h : (lnV base bh s).at_ w F v) : (loadVar 92 ⟨bh, 0, none⟩).run Try.prog w = .ok v w :=
  loadVar_one tabOk (t := 92) rfl rfl (by
    have h1 := Sl.of_blk (n := 1) (sz := 1) (off := 0) (xs := [v]) h.1 rfl (fun j u hu => by rw [Nat.zero_add]; exact hu)
    have := h1.at_ (j := 0) (by decide) rfl
    rwa [Nat.zero_add] at this)
theorem lnM_len {base bh : Nat} {s : List Ln} {w : World} {F : Nat → Prop} (h : (lnP base bh s).at_ w F (.bool true)) : Meth Try.prog (lnI bh) "Len" [] w fun e w' => e = .returned (.int .i64 (s.length : Int)) ∧ Below w.heap.size w w' := by
  obtain ⟨v, hv⟩ := h
  obtain ⟨a, c, rfl, _⟩ := lnV_form hv
  exact meth_val' (f := 112) (by kernel_rfl) (by kernel_rfl) Try.call112 (lnV_load hv) (llen_ok a s.length c w)
theorem lnM_less {base bh : Nat} {s : List Ln} {w : World} {F : Nat → Prop} {i j : Nat} (h : (lnP base bh s).at_ w F (.bool true)) (hi : i < s.length) (hj : j < s.length) : Meth Try.prog (lnI bh) "Less" [.int .i64 (i : Int), .int .i64 (j : Int)] w fun e w' => e = .returned (.bool (ltL lnR s i j)) ∧ Below w.heap.size w w' := by
  obtain ⟨v, hv⟩ := h
  exact meth_val' (f := 113) (by kernel_rfl) (by kernel_rfl) Try.call113 (lnV_load hv) (lless_ok base bh s F v i j w hv hi hj)
theorem lnM_swap {base bh : Nat} {s : List Ln} {w : World} {F : Nat → Prop} {i j : Nat} (h : (lnP base bh s).at_ w F (.bool true)) (hF : ∀ k, F k → k < w.heap.size) (hi : i < s.length) (hj : j < s.length) :
    Meth Try.prog (lnI bh) "Swap" [.int .i64 (i : Int), .int .i64 (j : Int)] w fun e w' => e = .returned (.tuple #[]) ∧ Hp w w' [.rep (fun w => (lnP base bh (swL s i j)).at_ w F (.bool true)) F true] := by
  obtain ⟨v, hv⟩ := h
  obtain ⟨g, c, rfl⟩ := lnV_addr hv (by omega)
  obtain ⟨x, hx⟩ : ∃ x, s[i]? = some x := ⟨_, List.getElem?_eq_getElem hi⟩
  obtain ⟨y, hy⟩ : ∃ y, s[j]? = some y := ⟨_, List.getElem?_eq_getElem hj⟩
  have hs : swL s i j = (s.set i y).set j x := by unfold swL; rw [hx, hy]
  obtain ⟨h1, h2, ⟨h3, h4⟩, h5, h6, h7⟩ := hv
  rcases h4 with ⟨h4, _⟩ | ⟨g', cap, cur, h4, hb, hg, hn, hm, hz, ht⟩
  · cases h4
  · cases h4
    have hcur : cur = ⟨cur.toList⟩ := rfl
    rw [hcur] at hg
    have hlen : cur.toList.length = c := by rw [Array.length_toList, hz, Nat.mul_one]
    have hat : ∀ (k : Nat) (z : Ln), s[k]? = some z → cur.toList[k]? = some (lnPt z) := fun k z hk => by
      have h8 : k < s.length := (List.getElem?_eq_some_iff.1 hk).1
      have h9 : (cur.toList.take (s.length * 1))[k]? = (s.map lnPt)[k]? := by rw [ht]
      rw [List.getElem?_take_of_lt (by omega), List.getElem?_map, hk] at h9
      exact h9
    refine meth_val' (f := 114) (by kernel_rfl) (by kernel_rfl) Try.call114 (lnV_load (base := base) (s := s) (F := F) ⟨h1, h2, ⟨h3, .inr ⟨g, c, cur, rfl, hb, hg, hn, hm, hz, ht⟩⟩, h5, h6, h7⟩) ?_
    refine (lswap_ok g s.length c i j cur.toList _ _ w hg hi hj (by omega) (hat i x hx) (hat j y hy)).mono fun e w' ⟨he, h8⟩ => ⟨he, ?_⟩
    have hold : ∀ k o, w.heap[k]? = some o → k ≠ g → w'.heap[k]? = some o := fun k o ho hk => (h8.old k (heap_lt ho) fun e he _ => by
      rw [List.mem_singleton] at he
      subst he
      intro hh
      exact hk (Option.some.inj hh).symm).trans ho
    have hg2 : w'.heap[g]? = _ := h8.own _ List.mem_cons_self
    refine h8.widen (fun k hk => ?_) ⟨.slice (some ⟨g, 0, none⟩) s.length c, hold _ _ h1 (fun hh => ?_), h2, ?_, h5, fun z hz2 => ?_, ?_⟩ (Vp.loc (p := lnP base bh (swL s i j))) hF
    · have : k = g := (Option.some.inj hk).symm
      rw [this]
      exact h5 g rfl
    · rw [hh, hg] at h1
      exact absurd (Obj.cells.inj (Option.some.inj h1)).2.1 (by decide)
    · rw [swL_len]
      refine ⟨by simp [swL_len], .inr ⟨g, c, _, rfl, hb, hg2, hn, hm, ?_, ?_⟩⟩
      · show (List.set _ _ _).length = _
        rw [List.length_set, List.length_set, hlen, Nat.mul_one]
      · show List.take _ (List.set _ _ _) = _
        rw [hs, List.take_set, List.take_set, ht, List.map_set, List.map_set]
    · have hz3 : z ∈ s := (swL_perm s i j).mem_iff.1 hz2
      refine ⟨hold _ _ (h6 z hz3).1 (fun hh => ?_), (h6 z hz3).2⟩
      have h9 := (h6 z hz3).1
      rw [hh, hg] at h9
      exact absurd (Obj.cells.inj (Option.some.inj h9)).2.1 (by decide)
    · rw [swL_len]; exact h7
/-- The heap's lines are an object. -/
noncomputable def lnOb (base bh : Nat) : HOb Try.prog (lnI bh) (List Ln) where
  p := lnP base bh
  len := List.length
  lt := ltL lnR
  sw := swL
  lenSw := swL_len
  hle := fun ⟨v, h⟩ => h.2.2.2.2.2
  hlen := lnM_len
  hlt := lnM_less
  hsw := lnM_swap
theorem lnOb_ol (base bh : Nat) : OL_ (lnOb base bh) lnR := ⟨fun _ => rfl, fun _ _ _ => rfl, fun _ _ _ => rfl⟩

/-- a row of one's own -/
def rowV (base : Nat) (E : TypeId) (sz n : Nat) (xs : List Value) : Vp :=
  ⟨fun w F v => w.ownsRow base E sz v n xs ∧ ∀ k, v.ownBlock = some k → F k,
   fun {w w' A B v} ⟨h1, h2⟩ hk => ⟨own_keep h1 (fun k hv => (hk k (h2 k hv) (World.ownsRow.lt h1 k hv).2).1), fun k hv => (hk k (h2 k hv) (World.ownsRow.lt h1 k hv).2).2⟩⟩
theorem lpop_walk (bh g n c : Nat) (xs : List Value) (base : Nat) (p : Option Addr) (w : World) (hb : w.heap[bh]? = some (.cells ⟨[.slice (some ⟨g, 0, none⟩) (n + 1) c]⟩ 92 (0, 0))) (hr : w.ownsRow base 93 1 (.slice (some ⟨g, 0, none⟩) (n + 1) c) (n + 1) xs) (hg : g ≠ bh) (hx : xs[n]? = some (.pointer p)) (hn : n ≤ 1073741824) (hnc : n ≤ c) :
    Calls Try.prog 115 #[.pointer (some ⟨bh, 0, none⟩)] w fun e w' => e = .returned (.iface 93 (.pointer p)) ∧ Hp w w' [.blk bh (.cells ⟨[.slice (some ⟨g, 0, none⟩) n c]⟩ 92 (0, 0)) true] := by
  obtain ⟨F, hF, hst⟩ := Hp.startV (p := rowV base 93 1 (n + 1) xs) (A := fun k => k ≠ bh) hb ⟨hr, fun k hk => by
    have : k = g := (Option.some.inj hk).symm
    rw [this]; exact hg⟩ (fun h => h rfl)
  refine enter1 Try.func115 rfl rfl hst ?_
  repeat (first | refine T_draw (by kernel_rfl) (by kernel_rfl) ?_ | refine D_all rfl ?_ | refine D_i64 tabOk rfl (by omega) ?_ | refine D_u64 tabOk rfl (by omega) ?_ | refine D_pure tabOk rfl ?_ | refine D_pass rfl rfl rfl ?_ | refine D_load tabOk 0 rfl rfl rfl ?_ | refine D_load tabOk 1 rfl rfl rfl ?_ | refine D_load tabOk 2 rfl rfl rfl ?_ | refine D_load tabOk 3 rfl rfl rfl ?_ | refine D_load tabOk 4 rfl rfl rfl ?_ | refine T_seq ?_ | refine T_region ?_ | refine T_block ?_ | refine S_nil ?_ | refine pthen_normal ?_ | refine inb_normal ?_ | refine inb_ret ?_ | refine pthen_ret ?_ | refine inb_hit ?_ | refine pthen_exit ?_ | refine T_skip ?_ | refine T_ret ?_ | refine T_exit ?_  | refine S_i64 tabOk rfl (by omega) ?_ | refine S_u64 tabOk rfl (by omega) ?_ | refine S_pure tabOk rfl ?_ | refine S_pass rfl rfl rfl ?_ | refine S_pass0 rfl rfl ?_ | refine T_region_any ?_  | refine S_load tabOk 0 rfl rfl rfl ?_ | refine S_load tabOk 1 rfl rfl rfl ?_ | refine S_load tabOk 2 rfl rfl rfl ?_ | refine S_load tabOk 3 rfl rfl rfl ?_ | refine S_load tabOk 4 rfl rfl rfl ?_ | refine S_load tabOk 5 rfl rfl rfl ?_ | refine S_store tabOk 0 rfl rfl rfl rfl rfl rfl ?_ | refine S_store tabOk 1 rfl rfl rfl rfl rfl rfl ?_ | refine S_store tabOk 2 rfl rfl rfl rfl rfl rfl ?_ | refine S_store tabOk 3 rfl rfl rfl rfl rfl rfl ?_ | refine S_store tabOk 4 rfl rfl rfl rfl rfl rfl ?_ | refine S_store tabOk 5 rfl rfl rfl rfl rfl rfl ?_ | refine S_q (Q_build tabOk rfl rfl rfl rfl rfl rfl rfl) ?_ | refine D_q (Q_build tabOk rfl rfl rfl rfl rfl rfl rfl) ?_)
  refine S_q (Q_idx1 tabOk rfl rfl rfl rfl rfl rfl rfl (j := n) (by omega) (by omega)) ?_
  refine S_load1 tabOk (v := .pointer p) rfl rfl (fun w' hw => by
    rw [Nat.zero_add]
    exact own_cell (hw.own _ (getE_mem (i := 1) rfl)).1.1 (by omega) hx) ?_
  repeat (first | refine T_draw (by kernel_rfl) (by kernel_rfl) ?_ | refine D_all rfl ?_ | refine D_i64 tabOk rfl (by omega) ?_ | refine D_u64 tabOk rfl (by omega) ?_ | refine D_pure tabOk rfl ?_ | refine D_pass rfl rfl rfl ?_ | refine D_load tabOk 0 rfl rfl rfl ?_ | refine D_load tabOk 1 rfl rfl rfl ?_ | refine D_load tabOk 2 rfl rfl rfl ?_ | refine D_load tabOk 3 rfl rfl rfl ?_ | refine D_load tabOk 4 rfl rfl rfl ?_ | refine T_seq ?_ | refine T_region ?_ | refine T_block ?_ | refine S_nil ?_ | refine pthen_normal ?_ | refine inb_normal ?_ | refine inb_ret ?_ | refine pthen_ret ?_ | refine inb_hit ?_ | refine pthen_exit ?_ | refine T_skip ?_ | refine T_ret ?_ | refine T_exit ?_  | refine S_i64 tabOk rfl (by omega) ?_ | refine S_u64 tabOk rfl (by omega) ?_ | refine S_pure tabOk rfl ?_ | refine S_pass rfl rfl rfl ?_ | refine S_pass0 rfl rfl ?_ | refine T_region_any ?_  | refine S_load tabOk 0 rfl rfl rfl ?_ | refine S_load tabOk 1 rfl rfl rfl ?_ | refine S_load tabOk 2 rfl rfl rfl ?_ | refine S_load tabOk 3 rfl rfl rfl ?_ | refine S_load tabOk 4 rfl rfl rfl ?_ | refine S_load tabOk 5 rfl rfl rfl ?_ | refine S_store tabOk 0 rfl rfl rfl rfl rfl rfl ?_ | refine S_store tabOk 1 rfl rfl rfl rfl rfl rfl ?_ | refine S_store tabOk 2 rfl rfl rfl rfl rfl rfl ?_ | refine S_store tabOk 3 rfl rfl rfl rfl rfl rfl ?_ | refine S_store tabOk 4 rfl rfl rfl rfl rfl rfl ?_ | refine S_store tabOk 5 rfl rfl rfl rfl rfl rfl ?_ | refine S_q (Q_build tabOk rfl rfl rfl rfl rfl rfl rfl) ?_ | refine D_q (Q_build tabOk rfl rfl rfl rfl rfl rfl rfl) ?_)
  refine S_q (Q_sliceTo tabOk rfl rfl rfl rfl rfl rfl (H := n) (by omega) (by omega)) ?_
  repeat (first | refine T_draw (by kernel_rfl) (by kernel_rfl) ?_ | refine D_all rfl ?_ | refine D_i64 tabOk rfl (by omega) ?_ | refine D_u64 tabOk rfl (by omega) ?_ | refine D_pure tabOk rfl ?_ | refine D_pass rfl rfl rfl ?_ | refine D_load tabOk 0 rfl rfl rfl ?_ | refine D_load tabOk 1 rfl rfl rfl ?_ | refine D_load tabOk 2 rfl rfl rfl ?_ | refine D_load tabOk 3 rfl rfl rfl ?_ | refine D_load tabOk 4 rfl rfl rfl ?_ | refine T_seq ?_ | refine T_region ?_ | refine T_block ?_ | refine S_nil ?_ | refine pthen_normal ?_ | refine inb_normal ?_ | refine inb_ret ?_ | refine pthen_ret ?_ | refine inb_hit ?_ | refine pthen_exit ?_ | refine T_skip ?_ | refine T_ret ?_ | refine T_exit ?_  | refine S_i64 tabOk rfl (by omega) ?_ | refine S_u64 tabOk rfl (by omega) ?_ | refine S_pure tabOk rfl ?_ | refine S_pass rfl rfl rfl ?_ | refine S_pass0 rfl rfl ?_ | refine T_region_any ?_  | refine S_load tabOk 0 rfl rfl rfl ?_ | refine S_load tabOk 1 rfl rfl rfl ?_ | refine S_load tabOk 2 rfl rfl rfl ?_ | refine S_load tabOk 3 rfl rfl rfl ?_ | refine S_load tabOk 4 rfl rfl rfl ?_ | refine S_load tabOk 5 rfl rfl rfl ?_ | refine S_store tabOk 0 rfl rfl rfl rfl rfl rfl ?_ | refine S_store tabOk 1 rfl rfl rfl rfl rfl rfl ?_ | refine S_store tabOk 2 rfl rfl rfl rfl rfl rfl ?_ | refine S_store tabOk 3 rfl rfl rfl rfl rfl rfl ?_ | refine S_store tabOk 4 rfl rfl rfl rfl rfl rfl ?_ | refine S_store tabOk 5 rfl rfl rfl rfl rfl rfl ?_ | refine S_q (Q_build tabOk rfl rfl rfl rfl rfl rfl rfl) ?_ | refine D_q (Q_build tabOk rfl rfl rfl rfl rfl rfl rfl) ?_)
  refine S_q (Q_mkif tabOk rfl rfl rfl rfl) ?_
  repeat (first | refine T_draw (by kernel_rfl) (by kernel_rfl) ?_ | refine D_all rfl ?_ | refine D_i64 tabOk rfl (by omega) ?_ | refine D_u64 tabOk rfl (by omega) ?_ | refine D_pure tabOk rfl ?_ | refine D_pass rfl rfl rfl ?_ | refine D_load tabOk 0 rfl rfl rfl ?_ | refine D_load tabOk 1 rfl rfl rfl ?_ | refine D_load tabOk 2 rfl rfl rfl ?_ | refine D_load tabOk 3 rfl rfl rfl ?_ | refine D_load tabOk 4 rfl rfl rfl ?_ | refine T_seq ?_ | refine T_region ?_ | refine T_block ?_ | refine S_nil ?_ | refine pthen_normal ?_ | refine inb_normal ?_ | refine inb_ret ?_ | refine pthen_ret ?_ | refine inb_hit ?_ | refine pthen_exit ?_ | refine T_skip ?_ | refine T_ret ?_ | refine T_exit ?_  | refine S_i64 tabOk rfl (by omega) ?_ | refine S_u64 tabOk rfl (by omega) ?_ | refine S_pure tabOk rfl ?_ | refine S_pass rfl rfl rfl ?_ | refine S_pass0 rfl rfl ?_ | refine T_region_any ?_  | refine S_load tabOk 0 rfl rfl rfl ?_ | refine S_load tabOk 1 rfl rfl rfl ?_ | refine S_load tabOk 2 rfl rfl rfl ?_ | refine S_load tabOk 3 rfl rfl rfl ?_ | refine S_load tabOk 4 rfl rfl rfl ?_ | refine S_load tabOk 5 rfl rfl rfl ?_ | refine S_store tabOk 0 rfl rfl rfl rfl rfl rfl ?_ | refine S_store tabOk 1 rfl rfl rfl rfl rfl rfl ?_ | refine S_store tabOk 2 rfl rfl rfl rfl rfl rfl ?_ | refine S_store tabOk 3 rfl rfl rfl rfl rfl rfl ?_ | refine S_store tabOk 4 rfl rfl rfl rfl rfl rfl ?_ | refine S_store tabOk 5 rfl rfl rfl rfl rfl rfl ?_ | refine S_q (Q_build tabOk rfl rfl rfl rfl rfl rfl rfl) ?_ | refine D_q (Q_build tabOk rfl rfl rfl rfl rfl rfl rfl) ?_)
  exact ret1 rfl rfl (fun w' hw => ⟨rfl, hw.less (by repeat (first | exact Less.nil | refine Less.keep ?_ | refine Less.dropR ?_ | refine Less.dropB (by first | assumption | omega) ?_ | refine Less.dropW (Nat.le_refl _) ?_))⟩)
theorem lnM_pop {base bh : Nat} {s : List Ln} {x : Ln} {w : World} {F : Nat → Prop} (h : (lnP base bh s).at_ w F (.bool true)) (hF : ∀ k, F k → k < w.heap.size) (hx : s[s.length - 1]? = some x) :
    Meth Try.prog (lnI bh) "Pop" [] w fun e w' => e = .returned (.iface 93 (lnPt x)) ∧ Hp w w' [.rep (fun w => (lnP base bh (s.take (s.length - 1))).at_ w F (.bool true)) F true] := by
  obtain ⟨v, hv⟩ := h
  have h0 := (List.getElem?_eq_some_iff.1 hx).1
  obtain ⟨g, c, rfl⟩ := lnV_addr hv (by omega)
  obtain ⟨h1, h2, h3, h5, h6, h7⟩ := hv
  obtain ⟨n, hn⟩ : ∃ n, s.length = n + 1 := ⟨s.length - 1, by omega⟩
  rw [show s.length - 1 = n by omega] at hx ⊢
  rw [hn] at h1 h3 h5
  have h3' := h3
  obtain ⟨hl3, h4⟩ := h3
  rcases h4 with ⟨h4, _⟩ | ⟨g', cap, cur, h4, hb, hg, hnc, hm, hz, ht⟩
  · cases h4
  · cases h4
    have hgb : g ≠ bh := fun hh => by
      rw [hh, h1] at hg
      exact absurd (Obj.cells.inj (Option.some.inj hg)).2.1 (by decide)
    refine meth_own (u := 92) (f := 115) (by kernel_rfl) (by kernel_rfl) Try.call115 ?_
    refine (lpop_walk bh g n c _ base _ w h1 h3' hgb (by rw [List.getElem?_map, hx]; rfl) (by omega) (by omega)).mono fun e w' ⟨he, h8⟩ => ⟨he, ?_⟩
    have hold : ∀ k o, w.heap[k]? = some o → k ≠ bh → w'.heap[k]? = some o := fun k o ho hk => (h8.old k (heap_lt ho) fun e he _ => by
      rw [List.mem_singleton] at he
      subst he
      intro hh
      exact hk (Option.some.inj hh).symm).trans ho
    have hlen : (s.take n).length = n := by rw [List.length_take]; omega
    have hb2 : w'.heap[bh]? = _ := h8.own _ List.mem_cons_self
    refine h8.widen (fun k hk => ?_) ⟨.slice (some ⟨g, 0, none⟩) n c, hb2, h2, ?_, fun k hk => h5 k hk, fun z hz2 => ?_, ?_⟩ (Vp.loc (p := lnP base bh (s.take n))) hF
    · have : k = bh := (Option.some.inj hk).symm
      rw [this]
      exact h2
    · rw [hlen]
      refine ⟨by rw [List.length_map, hlen, Nat.mul_one], .inr ⟨g, c, cur, rfl, hb, hold _ _ hg hgb, by omega, hm, hz, ?_⟩⟩
      rw [List.map_take, ← ht, List.take_take]
      congr 1
      omega
    · have hz3 : z ∈ s := List.mem_of_mem_take hz2
      refine ⟨hold _ _ (h6 z hz3).1 (fun hh => ?_), (h6 z hz3).2⟩
      have h9 := (h6 z hz3).1
      rw [hh, h1] at h9
      exact absurd (Obj.cells.inj (Option.some.inj h9)).2.1 (by decide)
    · rw [hlen]; omega
theorem lheap_pop (base bh : Nat) (s : List Ln) (F : Nat → Prop) (w : World) (h : (lnP base bh s).at_ w F (.bool true)) (hF : ∀ k, F k → k < w.heap.size) (h0 : 0 < s.length) :
    Calls Try.prog 46 #[lnI bh] w fun e w' => ∃ u, e = .returned u ∧ Hp w w' [.rep (fun w => (lnP base bh (((lnOb base bh).pp s).take (s.length - 1))).at_ w F (.bool true)) F true] := by
  have hl := (pp_perm (lnOb_ol base bh) s).length_eq
  have hx := pp_last (lnOb_ol base bh) s h0
  rw [List.getElem?_eq_getElem h0] at hx
  refine (hpop_ok (lnOb base bh) s F w h hF h0 (.iface 93 (lnPt s[0])) (lnP base bh (((lnOb base bh).pp s).take (s.length - 1))) fun w1 h1 h2 => ?_).mono fun e w' ⟨he, h3⟩ => ⟨_, he, h3⟩
  have := lnM_pop (s := (lnOb base bh).pp s) h1 h2 (x := s[0]) (by rw [hl]; exact hx)
  rw [hl] at this
  exact this

section
variable (cap : Int) (ws : List Int)
/-- a class's excess -/
def exL (left : List (List Int)) (d : Nat) : Int := excS cap ws d (left.getD d []).sum
/-- of all that have any the greatest excess, of those the least number -/
def Best (left : List (List Int)) (c : Nat) : Prop := left.getD c [] ≠ [] ∧ ∀ d, left.getD d [] ≠ [] → exL cap ws left d < exL cap ws left c ∨ (exL cap ws left d = exL cap ws left c ∧ c ≤ d)
/-- who goes -/
inductive PlanR : List (List Int) → List Nat → Int → List (Nat × Nat) → Prop
  | stop {left : List (List Int)} {went : List Nat} {total : Int} (h : total ≤ cap) : PlanR left went total []
  | step {left : List (List Int)} {went : List Nat} {total : Int} {c : Nat} {x : Int} {xs : List Int} {out : List (Nat × Nat)} (h : cap < total) (hb : Best cap ws left c) (hx : left.getD c [] = x :: xs) (hk : PlanR (left.set c xs) (went.set c (went.getD c 0 + 1)) (total - x) out) : PlanR left went total ((c, went.getD c 0) :: out)
end
section
variable {cap : Int} {ws : List Int} {left : List (List Int)} {went : List Nat} {total : Int}
theorem Best.uniq {c d : Nat} (h1 : Best cap ws left c) (h2 : Best cap ws left d) : c = d := by
  have e1 := h1.2 d h2.1
  have e2 := h2.2 c h1.1
  omega
theorem PlanR.uniq {out : List (Nat × Nat)} (h : PlanR cap ws left went total out) : ∀ {out' : List (Nat × Nat)}, PlanR cap ws left went total out' → out = out' := by
  induction h with
  | stop h =>
    intro out' h'
    cases h' with
    | stop _ => rfl
    | step h1 => omega
  | step h hb hx hk ih =>
    intro out' h'
    cases h' with
    | stop h1 => omega
    | step h1 hb' hx' hk' =>
      have := hb.uniq hb'
      subst this
      rw [hx] at hx'
      cases hx'
      rw [ih hk']
theorem getD_set {α : Type} (l : List α) (c d : Nat) (v z : α) (hc : c < l.length) : (l.set c v).getD d z = if d = c then v else l.getD d z := by
  rw [List.getD_eq_getElem?_getD, List.getD_eq_getElem?_getD, List.getElem?_set]
  by_cases h : c = d
  · subst h
    rw [if_pos rfl, if_pos hc, if_pos rfl]
    rfl
  · rw [if_neg h, if_neg (fun hh => h hh.symm)]
theorem getD_lt {α : Type} {l : List (List α)} {c : Nat} (h : l.getD c [] ≠ []) : c < l.length := by
  rcases Nat.lt_or_ge c l.length with h1 | h1
  · exact h1
  · rw [List.getD_eq_getElem?_getD, List.getElem?_eq_none h1] at h
    exact absurd rfl h
theorem flat_set {l : List (List Int)} {c : Nat} {x : Int} {xs : List Int} (h : l.getD c [] = x :: xs) : l.flatten.length = (l.set c xs).flatten.length + 1 ∧ l.flatten.sum = (l.set c xs).flatten.sum + x ∧ (∀ y ∈ (l.set c xs).flatten, y ∈ l.flatten) ∧ x ∈ l.flatten := by
  have hc : c < l.length := getD_lt (by rw [h]; exact List.cons_ne_nil _ _)
  have hg : l[c] = x :: xs := by
    rw [List.getD_eq_getElem?_getD, List.getElem?_eq_getElem hc] at h
    exact h
  have e1 : l = l.take c ++ (x :: xs) :: l.drop (c + 1) := by
    rw [← hg]
    conv => lhs; rw [← List.take_append_drop c l]
    rw [List.drop_eq_getElem_cons hc]
  have e2 : l.set c xs = l.take c ++ xs :: l.drop (c + 1) := by
    rw [List.set_eq_take_append_cons_drop, if_pos hc]
  have e3 : l.flatten = (l.take c).flatten ++ (x :: xs ++ (l.drop (c + 1)).flatten) := by
    conv => lhs; rw [e1]
    rw [List.flatten_append, List.flatten_cons]
  have e4 : (l.set c xs).flatten = (l.take c).flatten ++ (xs ++ (l.drop (c + 1)).flatten) := by
    rw [e2, List.flatten_append, List.flatten_cons]
  refine ⟨?_, ?_, fun y hy => ?_, ?_⟩
  · rw [e3, e4]; simp only [List.length_append, List.length_cons]; omega
  · rw [e3, e4]; simp only [List.sum_append, List.sum_cons, List.cons_append]; omega
  · rw [e3]; rw [e4] at hy
    simp only [List.mem_append, List.mem_cons, List.cons_append] at hy ⊢
    rcases hy with h | h | h
    · exact .inl h
    · exact .inr (.inr (.inl h))
    · exact .inr (.inr (.inr h))
  · rw [e3]; simp
/-- The heap's lines, and what is left. -/
structure Rel (cap : Int) (ws : List Int) (left : List (List Int)) (went : List Nat) (hs : List Ln) : Prop where
  nd : (hs.map Ln.cls).Nodup
  ndb : (hs.map Ln.b).Nodup
  mem : ∀ x ∈ hs, left.getD x.cls [] = x.l ∧ x.l ≠ [] ∧ x.went = went.getD x.cls 0 ∧ x.exc = excS cap ws x.cls x.l.sum
  all : ∀ d, left.getD d [] ≠ [] → ∃ x ∈ hs, x.cls = d
theorem Rel.perm {hs hs' : List Ln} (h : Rel cap ws left went hs) (hp : hs'.Perm hs) : Rel cap ws left went hs' :=
  ⟨(hp.map _).nodup_iff.2 h.nd, (hp.map _).nodup_iff.2 h.ndb, fun x hx => h.mem x (hp.mem_iff.1 hx), fun d hd => by
    obtain ⟨x, hx, hc⟩ := h.all d hd
    exact ⟨x, hp.mem_iff.2 hx, hc⟩⟩
theorem Rel.best {hs : List Ln} {x : Ln} (h : Rel cap ws left went hs) (hd : Hd lnR hs hs.length 0) (hx : hs[0]? = some x) : Best cap ws left x.cls := by
  have hxm : x ∈ hs := List.mem_of_getElem? hx
  obtain ⟨h1, h2, h3, h4⟩ := h.mem x hxm
  refine ⟨by rw [h1]; exact h2, fun d hdn => ?_⟩
  obtain ⟨y, hy, rfl⟩ := h.all d hdn
  obtain ⟨g1, g2, g3, g4⟩ := h.mem y hy
  obtain ⟨i, hi, hiy⟩ := List.mem_iff_getElem.1 hy
  have hr := hd_root lnR_sw (Nat.le_refl _) hd i hi
  unfold ltL at hr
  rw [hx, List.getElem?_eq_getElem hi, hiy] at hr
  simp only [lnR, decide_eq_false_iff_not] at hr
  unfold exL
  rw [h1, g1, ← h4, ← g4]
  omega
theorem Rel.step {x : Ln} {tl : List Ln} {z : Int} {zs : List Int} (h : Rel cap ws left went (x :: tl)) (hl : x.l = z :: zs) (hwl : went.length = left.length) :
    (zs = [] → Rel cap ws (left.set x.cls zs) (went.set x.cls (went.getD x.cls 0 + 1)) tl) ∧
    (zs ≠ [] → ∀ x' : Ln, x'.b = x.b → x'.cls = x.cls → x'.l = zs → x'.went = x.went + 1 → x'.exc = x.exc - z * ws.sum → Rel cap ws (left.set x.cls zs) (went.set x.cls (went.getD x.cls 0 + 1)) (x' :: tl)) := by
  obtain ⟨h1, h2, h3, h4⟩ := h.mem x List.mem_cons_self
  have hc : x.cls < left.length := getD_lt (by rw [h1]; exact h2)
  have hnd := h.nd
  have hndb := h.ndb
  rw [List.map_cons, List.nodup_cons] at hnd hndb
  have hne : ∀ y ∈ tl, y.cls ≠ x.cls := fun y hy he => hnd.1 (by rw [← he]; exact List.mem_map_of_mem hy)
  have hmem : ∀ y ∈ tl, (left.set x.cls zs).getD y.cls [] = y.l ∧ y.l ≠ [] ∧ y.went = (went.set x.cls (went.getD x.cls 0 + 1)).getD y.cls 0 ∧ y.exc = excS cap ws y.cls y.l.sum := fun y hy => by
    obtain ⟨g1, g2, g3, g4⟩ := h.mem y (List.mem_cons_of_mem _ hy)
    rw [getD_set _ _ _ _ _ hc, getD_set _ _ _ _ _ (by omega), if_neg (hne y hy), if_neg (hne y hy)]
    exact ⟨g1, g2, g3, g4⟩
  have hall : ∀ d, d ≠ x.cls → (left.set x.cls zs).getD d [] ≠ [] → ∃ y ∈ tl, y.cls = d := fun d hd hn => by
    rw [getD_set _ _ _ _ _ hc, if_neg hd] at hn
    obtain ⟨y, hy, hyc⟩ := h.all d hn
    rcases List.mem_cons.1 hy with rfl | hy
    · exact absurd hyc.symm hd
    · exact ⟨y, hy, hyc⟩
  refine ⟨fun hz => ⟨hnd.2, hndb.2, hmem, fun d hd => ?_⟩, fun hz x' e1 e2 e3 e4 e5 => ⟨?_, ?_, fun y hy => ?_, fun d hd => ?_⟩⟩
  · refine hall d (fun he => ?_) hd
    rw [getD_set _ _ _ _ _ hc, if_pos he, hz] at hd
    exact hd rfl
  · rw [List.map_cons, List.nodup_cons, e2]; exact hnd
  · rw [List.map_cons, List.nodup_cons, e1]; exact hndb
  · rcases List.mem_cons.1 hy with rfl | hy
    · rw [e2, getD_set _ _ _ _ _ hc, getD_set _ _ _ _ _ (by omega), if_pos rfl, if_pos rfl]
      refine ⟨e3.symm, by rw [e3]; exact hz, by rw [e4, h3], ?_⟩
      rw [e5, h4, e3, hl]
      unfold excS
      rw [List.sum_cons, Int.add_mul]
      omega
    · exact hmem y hy
  · by_cases he : d = x.cls
    · exact ⟨x', List.mem_cons_self, by rw [e2, he]⟩
    · obtain ⟨y, hy, hyc⟩ := hall d he hd
      exact ⟨y, List.mem_cons_of_mem _ hy, hyc⟩
theorem Rel.ne {hs : List Ln} (h : Rel cap ws left went hs) (ht : left.flatten.sum = total) (hc : 0 ≤ cap) (hlt : cap < total) : 0 < hs.length := by
  have h1 : left.flatten ≠ [] := fun h0 => by rw [h0] at ht; simp at ht; omega
  obtain ⟨z, hz⟩ : ∃ z, z ∈ left.flatten := List.exists_mem_of_ne_nil _ h1
  obtain ⟨l, hl, hz⟩ := List.mem_flatten.1 hz
  obtain ⟨d, hd, rfl⟩ := List.mem_iff_getElem.1 hl
  obtain ⟨x, hx, _⟩ := h.all d (by rw [List.getD_eq_getElem?_getD, List.getElem?_eq_getElem hd]; intro h2; have h2 : left[d] = [] := h2; rw [h2] at hz; cases hz)
  exact List.length_pos_of_mem hx
end

/-- the lines' blocks -/
def blV (ls : List Ln) : Vp :=
  ⟨fun w F _ => ∀ x ∈ ls, w.heap[x.b]? = some (lnO x) ∧ F x.b, fun h hk x hx => ⟨(hk x.b (h x hx).2 (heap_lt (h x hx).1)).1.trans (h x hx).1, (hk x.b (h x hx).2 (heap_lt (h x hx).1)).2⟩⟩
/-- what their slices read asx -/
def lnS (ls : List Ln) : Vp :=
  ⟨fun w F _ => ∀ x ∈ ls, SlR (Rint .i64) w F x.a x.n x.c x.l, fun h hk x hx => (h x hx).keep hk⟩
theorem Hp.addE {w0 w : World} {o : OL} {v : Value} (p : Vp) (h : Hp w0 w o) (hp : ∀ w, p.at_ w (fun _ => False) v) : Hp w0 w (.rep (fun w => p.at_ w (fun _ => False) v) (fun _ => False) true :: o) :=
  h.more ⟨hp w, fun w1 w2 _ _ => hp w2, fun k hk => hk.elim⟩ fun e he hr k hk => hk.elim
theorem dis1 {x : HE} : [x].Pairwise Dis := List.pairwise_singleton _ _
/-- a new line joins -/
theorem Hp.joinL {w0 w : World} {ol : OL} {ls : List Ln} {x : Ln} {F : Nat → Prop} (h : Hp w0 w (.rep (fun w => (blV ls).at_ w F (.bool true)) F true :: .blk x.b (lnO x) true :: ol)) : Hp w0 w (.rep (fun w => (blV (ls ++ [x])).at_ w (fun k => k = x.b ∨ F k) (.bool true)) (fun k => k = x.b ∨ F k) true :: ol) := by
  have h1 := h.own _ (getE_mem (i := 0) rfl)
  have h2 : w.heap[x.b]? = some (lnO x) := h.own _ (getE_mem (i := 1) rfl)
  refine Hp.regroup [_, _] [_] h (by simp [HE.ex]) (fun e he => ?_) dis1 (fun e he k hk => ?_) (fun e he k hk => ?_)
  · rw [List.mem_singleton] at he
    subst he
    refine ⟨rfl, fun y hy => ?_, Vp.loc, fun k hk => ?_⟩
    · rcases List.mem_append.1 hy with hy | hy
      · exact ⟨(h1.1 y hy).1, .inr (h1.1 y hy).2⟩
      · rw [List.mem_singleton] at hy
        subst hy
        exact ⟨h2, .inl rfl⟩
    · rcases hk with rfl | hk
      · exact heap_lt h2
      · exact h1.2.2 k hk
  · rw [List.mem_singleton] at he
    subst he
    rcases hk with rfl | hk
    · exact ⟨_, List.mem_cons_of_mem _ List.mem_cons_self, rfl⟩
    · exact ⟨_, List.mem_cons_self, hk⟩
  · refine .inr ⟨_, List.mem_cons_self, ?_⟩
    simp only [List.mem_cons, List.not_mem_nil, or_false] at he
    rcases he with rfl | rfl
    · exact .inr hk
    · exact .inl (Option.some.inj hk).symm
/-- all of the heap's is one object -/
theorem Hp.joinH {w0 w : World} {ol : OL} {ls : List Ln} {bh base : Nat} {v : Value} {F : Nat → Prop} (h : Hp w0 w (.rep (fun w => (blV ls).at_ w F (.bool true)) F true :: .row base v 93 1 ls.length (ls.map lnPt) :: .blk bh (.cells ⟨[v]⟩ 92 (0, 0)) true :: ol)) (hl : ls.length ≤ 1073741824) :
    Hp w0 w (.rep (fun w => (lnP base bh ls).at_ w (fun k => k = bh ∨ v.ownBlock = some k ∨ F k) (.bool true)) (fun k => k = bh ∨ v.ownBlock = some k ∨ F k) true :: ol) := by
  have h1 := h.own _ (getE_mem (i := 0) rfl)
  have h2 : w.ownsRow base 93 1 v ls.length (ls.map lnPt) := h.own _ (getE_mem (i := 1) rfl)
  have h3 : w.heap[bh]? = some (.cells ⟨[v]⟩ 92 (0, 0)) := h.own _ (getE_mem (i := 2) rfl)
  refine Hp.regroup [_, _, _] [_] h (by simp [HE.ex]) (fun e he => ?_) dis1 (fun e he k hk => ?_) (fun e he k hk => ?_)
  · rw [List.mem_singleton] at he
    subst he
    refine ⟨rfl, ⟨v, h3, .inl rfl, h2, fun k hk => .inr (.inl hk), fun y hy => ⟨(h1.1 y hy).1, .inr (.inr (h1.1 y hy).2)⟩, hl⟩, Vp.loc (p := lnP base bh ls), fun k hk => ?_⟩
    rcases hk with rfl | hk | hk
    · exact heap_lt h3
    · exact (World.ownsRow.lt h2 k hk).2
    · exact h1.2.2 k hk
  · rw [List.mem_singleton] at he
    subst he
    rcases hk with rfl | hk | hk
    · exact ⟨_, List.mem_cons_of_mem _ (List.mem_cons_of_mem _ List.mem_cons_self), rfl⟩
    · exact ⟨_, List.mem_cons_of_mem _ List.mem_cons_self, hk⟩
    · exact ⟨_, List.mem_cons_self, hk⟩
  · refine .inr ⟨_, List.mem_cons_self, ?_⟩
    simp only [List.mem_cons, List.not_mem_nil, or_false] at he
    rcases he with rfl | rfl | rfl
    · exact .inr (.inr hk)
    · exact .inr (.inl hk)
    · exact .inl (Option.some.inj hk).symm
/-- the object taken apart: its first line by itself -/
theorem Hp.splitH {w0 w : World} {ol : OL} {tl : List Ln} {x : Ln} {bh base : Nat} {F : Nat → Prop} (h : Hp w0 w (.rep (fun w => (lnP base bh (x :: tl)).at_ w F (.bool true)) F true :: ol)) (hnb : ∀ y ∈ tl, y.b ≠ x.b) (hF : ∀ k, F k → w0.heap.size ≤ k) :
    ∃ i : Option Addr × Nat × (Nat → Prop), (∀ k, i.2.2 k → w0.heap.size ≤ k) ∧ w0.heap.size ≤ bh ∧ w0.heap.size ≤ x.b ∧ Hp w0 w (.blk bh (.cells ⟨[.slice i.1 (tl.length + 1) i.2.1]⟩ 92 (0, 0)) true :: .row base (.slice i.1 (tl.length + 1) i.2.1) 93 1 (tl.length + 1) (lnPt x :: tl.map lnPt) :: .blk x.b (lnO x) true :: .rep (fun w => (blV tl).at_ w i.2.2 (.bool true)) i.2.2 true :: ol) := by
  have h1 := h.own _ (getE_mem (i := 0) rfl)
  obtain ⟨v, hv⟩ := h1.1
  obtain ⟨A, C, rfl, _⟩ := lnV_form hv
  obtain ⟨g1, g2, g3, g4, g5, g6⟩ := hv
  have g5x := g5 x List.mem_cons_self
  have hbh : bh ≠ x.b := fun hh => by
    rw [hh, g5x.1] at g1
    exact absurd (Obj.cells.inj (Option.some.inj g1)).2.1 (by decide)
  have hrow : ∀ k, (Value.slice A (x :: tl).length C).ownBlock = some k → (k ≠ bh ∧ ∀ y ∈ x :: tl, k ≠ y.b) := fun k hk => by
    obtain ⟨_, g3⟩ := g3
    rcases g3 with ⟨e0, _⟩ | ⟨g, cap, cur, e0, _, g7, _⟩
    · cases e0
    · cases e0
      have : k = g := (Option.some.inj hk).symm
      subst this
      refine ⟨fun hh => ?_, fun y hy hh => ?_⟩
      · rw [hh, g1] at g7
        exact absurd (Obj.cells.inj (Option.some.inj g7)).2.1 (by decide)
      · rw [hh, (g5 y hy).1] at g7
        exact absurd (Obj.cells.inj (Option.some.inj g7)).2.1 (by decide)
  have hby : ∀ y ∈ tl, y.b ≠ bh := fun y hy hh => by
    have := (g5 y (List.mem_cons_of_mem _ hy)).1
    rw [hh, g1] at this
    exact absurd (Obj.cells.inj (Option.some.inj this)).2.1 (by decide)
  refine ⟨(A, C, fun k => F k ∧ ∃ y ∈ tl, y.b = k), fun k hk => hF k hk.1, hF _ g2, hF _ g5x.2, Hp.regroup [_] [_, _, _, _] h (by simp [HE.ex]) (fun e he => ?_) ?_ (fun e he k hk => ?_) (fun e he k hk => .inl ?_)⟩
  · simp only [List.mem_cons, List.not_mem_nil, or_false] at he
    rcases he with rfl | rfl | rfl | rfl
    · exact ⟨rfl, g1⟩
    · exact ⟨rfl, g3⟩
    · exact ⟨rfl, g5x.1⟩
    · exact ⟨rfl, fun y hy => ⟨(g5 y (List.mem_cons_of_mem _ hy)).1, (g5 y (List.mem_cons_of_mem _ hy)).2, y, hy, rfl⟩, Vp.loc (p := blV tl), fun k hk => h1.2.2 k hk.1⟩
  · refine List.pairwise_cons.2 ⟨fun e he _ k hk hk2 => ?_, List.pairwise_cons.2 ⟨fun e he _ k hk hk2 => ?_, List.pairwise_cons.2 ⟨fun e he _ k hk hk2 => ?_, dis1⟩⟩⟩
    · have hkb : k = bh := (Option.some.inj hk).symm
      subst hkb
      simp only [List.mem_cons, List.not_mem_nil, or_false] at he
      rcases he with rfl | rfl | rfl
      · exact (hrow _ hk2).1 rfl
      · exact hbh (Option.some.inj hk2).symm
      · obtain ⟨_, y, hy, hyb⟩ := hk2
        exact hby y hy hyb
    · simp only [List.mem_cons, List.not_mem_nil, or_false] at he
      rcases he with rfl | rfl
      · exact (hrow k hk).2 x List.mem_cons_self (Option.some.inj hk2).symm
      · obtain ⟨_, y, hy, hyb⟩ := hk2
        exact (hrow k hk).2 y (List.mem_cons_of_mem _ hy) hyb.symm
    · rw [List.mem_singleton] at he
      subst he
      obtain ⟨_, y, hy, hyb⟩ := hk2
      exact hnb y hy (hyb.trans (Option.some.inj hk).symm)
  · refine ⟨_, List.mem_cons_self, ?_⟩
    simp only [List.mem_cons, List.not_mem_nil, or_false] at he
    rcases he with rfl | rfl | rfl | rfl
    · have : k = bh := (Option.some.inj hk).symm
      rw [this]; exact g2
    · exact g4 k hk
    · have : k = x.b := (Option.some.inj hk).symm
      rw [this]; exact g5x.2
    · exact hk.1
  · rw [List.mem_singleton] at he
    subst he
    exact hF k hk
/-- and put together again, its first line turned -/
theorem Hp.closeH {w0 w : World} {ol : OL} {tl : List Ln} {x x' : Ln} {bh base : Nat} {A : Option Addr} {C : Nat} {F G : Nat → Prop} (h : Hp w0 w (.blk bh (.cells ⟨[.slice A (tl.length + 1) C]⟩ 92 (0, 0)) true :: .row base (.slice A (tl.length + 1) C) 93 1 (tl.length + 1) (lnPt x :: tl.map lnPt) :: .blk x.b (lnO x') true :: .rep (fun w => (blV tl).at_ w F (.bool true)) F true :: .rep (fun w => (lnS (x :: tl)).at_ w G (.bool true)) G false :: ol)) (hb : x'.b = x.b) (hl : tl.length < 1073741824) (hx : ∀ w, SlR (Rint .i64) w G x.a x.n x.c x.l → SlR (Rint .i64) w G x'.a x'.n x'.c x'.l) :
    Hp w0 w (.rep (fun w => (lnP base bh (x' :: tl)).at_ w (fun k => k = bh ∨ (Value.slice A (tl.length + 1) C).ownBlock = some k ∨ k = x.b ∨ F k) (.bool true)) (fun k => k = bh ∨ (Value.slice A (tl.length + 1) C).ownBlock = some k ∨ k = x.b ∨ F k) true :: .rep (fun w => (lnS (x' :: tl)).at_ w G (.bool true)) G false :: ol) := by
  have h3 : w.heap[bh]? = _ := h.own _ (getE_mem (i := 0) rfl)
  have h2 : w.ownsRow base 93 1 (.slice A (tl.length + 1) C) (tl.length + 1) (lnPt x :: tl.map lnPt) := h.own _ (getE_mem (i := 1) rfl)
  have h4 : w.heap[x.b]? = some (lnO x') := h.own _ (getE_mem (i := 2) rfl)
  have h1 := h.own _ (getE_mem (i := 3) rfl)
  have h5 : Hp w0 w (.rep (fun w => (lnP base bh (x' :: tl)).at_ w (fun k => k = bh ∨ (Value.slice A (tl.length + 1) C).ownBlock = some k ∨ k = x.b ∨ F k) (.bool true)) (fun k => k = bh ∨ (Value.slice A (tl.length + 1) C).ownBlock = some k ∨ k = x.b ∨ F k) true :: .rep (fun w => (lnS (x :: tl)).at_ w G (.bool true)) G false :: ol) := by
    refine Hp.regroup [_, _, _, _] [_] h (by simp [HE.ex]) (fun e he => ?_) dis1 (fun e he k hk => ?_) (fun e he k hk => ?_)
    · rw [List.mem_singleton] at he
      subst he
      refine ⟨rfl, ⟨.slice A (tl.length + 1) C, h3, .inl rfl, by rw [List.map_cons, show lnPt x' = lnPt x by unfold lnPt; rw [hb]]; exact h2, fun k hk => .inr (.inl hk), fun y hy => ?_, by rw [List.length_cons]; omega⟩, Vp.loc (p := lnP base bh (x' :: tl)), fun k hk => ?_⟩
      · rcases List.mem_cons.1 hy with rfl | hy
        · rw [hb]; exact ⟨h4, .inr (.inr (.inl rfl))⟩
        · exact ⟨(h1.1 y hy).1, .inr (.inr (.inr (h1.1 y hy).2))⟩
      · rcases hk with rfl | hk | rfl | hk
        · exact heap_lt h3
        · exact (World.ownsRow.lt h2 k hk).2
        · exact heap_lt h4
        · exact h1.2.2 k hk
    · rw [List.mem_singleton] at he
      subst he
      rcases hk with rfl | hk | rfl | hk
      · exact ⟨_, List.mem_cons_self, rfl⟩
      · exact ⟨_, List.mem_cons_of_mem _ List.mem_cons_self, hk⟩
      · exact ⟨_, List.mem_cons_of_mem _ (List.mem_cons_of_mem _ List.mem_cons_self), rfl⟩
      · exact ⟨_, List.mem_cons_of_mem _ (List.mem_cons_of_mem _ (List.mem_cons_of_mem _ List.mem_cons_self)), hk⟩
    · refine .inr ⟨_, List.mem_cons_self, ?_⟩
      simp only [List.mem_cons, List.not_mem_nil, or_false] at he
      rcases he with rfl | rfl | rfl | rfl
      · exact .inl (Option.some.inj hk).symm
      · exact .inr (.inl hk)
      · exact .inr (.inr (.inl (Option.some.inj hk).symm))
      · exact .inr (.inr (.inr hk))
  refine (Hp.mapRep (p := lnS (x :: tl)) (q := lnS (x' :: tl)) (h5.perm (List.Perm.swap _ _ _)) fun w1 h6 y hy => ?_).perm (List.Perm.swap _ _ _)
  rcases List.mem_cons.1 hy with rfl | hy
  · exact hx w1 (h6 x List.mem_cons_self)
  · exact h6 y (List.mem_cons_of_mem _ hy)
/-- all that is queued, with who comes -/
def left0 (q : List (List Int)) (cls size : Int) : List (List Int) := q.set cls.toNat (q.getD cls.toNat [] ++ [size])
theorem left0_facts {q : List (List Int)} {k : Nat} {size : Int} (hk : k < q.length) : (left0 q (k : Int) size).length = q.length ∧ (left0 q (k : Int) size).getD k [] = q.getD k [] ++ [size] ∧ (∀ d, d ≠ k → (left0 q (k : Int) size).getD d [] = q.getD d []) ∧
    (left0 q (k : Int) size).flatten.length = q.flatten.length + 1 ∧ (left0 q (k : Int) size).flatten.sum = q.flatten.sum + size ∧ (∀ x ∈ (left0 q (k : Int) size).flatten, x ∈ q.flatten ∨ x = size) := by
  unfold left0
  rw [Int.toNat_natCast]
  have hg : q.getD k [] = q[k] := by rw [List.getD_eq_getElem?_getD, List.getElem?_eq_getElem hk]; rfl
  have e1 : q.flatten = (q.take k).flatten ++ (q[k] ++ (q.drop (k + 1)).flatten) := by
    conv => lhs; rw [← List.take_append_drop k q, List.drop_eq_getElem_cons hk, List.flatten_append, List.flatten_cons]
  have e2 : (q.set k (q.getD k [] ++ [size])).flatten = (q.take k).flatten ++ ((q[k] ++ [size]) ++ (q.drop (k + 1)).flatten) := by
    rw [hg, List.set_eq_take_append_cons_drop, if_pos hk, List.flatten_append, List.flatten_cons]
  refine ⟨List.length_set, ?_, fun d hd => ?_, ?_, ?_, fun x hx => ?_⟩
  · rw [getD_set _ _ _ _ _ hk, if_pos rfl]
  · rw [getD_set _ _ _ _ _ hk, if_neg hd]
  · rw [e1, e2]; simp only [List.length_append, List.length_cons, List.length_nil]; omega
  · rw [e1, e2]; simp only [List.sum_append, List.sum_cons, List.sum_nil]; omega
  · rw [e2] at hx
    rw [e1]
    simp only [List.mem_append, List.mem_singleton] at hx ⊢
    rcases hx with h | (h | h) | h
    · exact .inl (.inl h)
    · exact .inl (.inr (.inl h))
    · exact .inr h
    · exact .inl (.inr (.inr h))
theorem getD_mem {q : List (List Int)} {d : Nat} {x : Int} (h : x ∈ q.getD d []) : x ∈ q.flatten := by
  have hd := getD_lt (l := q) (c := d) (fun h0 => by rw [h0] at h; cases h)
  rw [List.getD_eq_getElem?_getD, List.getElem?_eq_getElem hd] at h
  exact List.mem_flatten.2 ⟨_, List.getElem_mem hd, h⟩
theorem getD_len (q : List (List Int)) (d : Nat) : (q.getD d []).length ≤ q.flatten.length := by
  rcases Nat.lt_or_ge d q.length with h | h
  · rw [List.getD_eq_getElem?_getD, List.getElem?_eq_getElem h]
    exact (List.sublist_flatten_of_mem (List.getElem_mem h)).length_le
  · rw [List.getD_eq_getElem?_getD, List.getElem?_eq_none h]
    exact Nat.zero_le _
section
variable {cap : Int} {ws : List Int} {left : List (List Int)} {went : List Nat}
theorem getD_take {α : Type} (l : List (List α)) (c d : Nat) : (l.take c).getD d [] = if d < c then l.getD d [] else [] := by
  rw [List.getD_eq_getElem?_getD, List.getD_eq_getElem?_getD, List.getElem?_take]
  by_cases h : d < c
  · rw [if_pos h, if_pos h]
  · rw [if_neg h, if_neg h]; rfl
theorem Rel.skip {hs : List Ln} {c : Nat} (h : Rel cap ws (left.take c) went hs) (hc : left.getD c [] = []) : Rel cap ws (left.take (c + 1)) went hs := by
  have he : ∀ d, (left.take (c + 1)).getD d [] = (left.take c).getD d [] := fun d => by
    rw [getD_take, getD_take]
    by_cases h1 : d < c
    · rw [if_pos h1, if_pos (by omega)]
    · rw [if_neg h1]
      by_cases h2 : d < c + 1
      · rw [if_pos h2, show d = c by omega, hc]
      · rw [if_neg h2]
  exact ⟨h.nd, h.ndb, fun x hx => by rw [he]; exact h.mem x hx, fun d hd => h.all d (by rw [← he]; exact hd)⟩
theorem Rel.add {hs : List Ln} {c : Nat} {x : Ln} (h : Rel cap ws (left.take c) went hs) (hx : x.cls = c) (hl : left.getD c [] = x.l) (hn : x.l ≠ []) (hw : x.went = went.getD c 0) (he : x.exc = excS cap ws c x.l.sum) (hb : ∀ y ∈ hs, y.b ≠ x.b) : Rel cap ws (left.take (c + 1)) went (hs ++ [x]) := by
  have hlt : ∀ y ∈ hs, y.cls < c := fun y hy => by
    obtain ⟨g1, g2, _⟩ := h.mem y hy
    rw [getD_take] at g1
    by_cases h1 : y.cls < c
    · exact h1
    · rw [if_neg h1] at g1
      exact absurd g1.symm g2
  refine ⟨?_, ?_, fun y hy => ?_, fun d hd => ?_⟩
  · rw [List.map_append, List.nodup_append]
    refine ⟨h.nd, by simp, fun a ha b hb2 hab => ?_⟩
    obtain ⟨y, hy, rfl⟩ := List.mem_map.1 ha
    simp only [List.map_cons, List.map_nil, List.mem_singleton] at hb2
    have := hlt y hy
    omega
  · rw [List.map_append, List.nodup_append]
    refine ⟨h.ndb, by simp, fun a ha b hb2 hab => ?_⟩
    obtain ⟨y, hy, rfl⟩ := List.mem_map.1 ha
    simp only [List.map_cons, List.map_nil, List.mem_singleton] at hb2
    exact hb y hy (hab.trans hb2)
  · rcases List.mem_append.1 hy with hy | hy
    · obtain ⟨g1, g2, g3, g4⟩ := h.mem y hy
      have := hlt y hy
      rw [getD_take, if_pos (by omega)]
      rw [getD_take, if_pos (by omega)] at g1
      exact ⟨g1, g2, g3, g4⟩
    · rw [List.mem_singleton] at hy
      subst hy
      rw [getD_take, if_pos (by omega), hx]
      exact ⟨hl, hn, hw, he⟩
  · rw [getD_take] at hd
    by_cases h1 : d < c
    · obtain ⟨y, hy, hyc⟩ := h.all d (by rw [getD_take, if_pos h1]; rw [if_pos (by omega)] at hd; exact hd)
      exact ⟨y, List.mem_append_left _ hy, hyc⟩
    · by_cases h2 : d < c + 1
      · exact ⟨x, List.mem_append_right _ List.mem_cons_self, by omega⟩
      · rw [if_neg h2] at hd
        exact absurd rfl hd
end

def vcells (out : List (Nat × Nat)) : List Value := (out.map fun p => [Value.int .i64 (p.1 : Int), Value.int .i64 (p.2 : Int)]).flatten
structure PI where
  c : Nat
  hs : List Ln
  aH : Option Addr
  cH : Nat
  F : Nat → Prop
  G : Nat → Prop
structure PJ where
  left : List (List Int)
  went : List Nat
  total : Int
  hs : List Ln
  F : Nat → Prop
  G : Nat → Prop
  out : List (Nat × Nat)
  ao : Option Addr
  co : Nat
theorem excS_bnd {cap : Int} {ws : List Int} {c : Nat} {b : Int} (hr : rightW ws) (hc : 0 ≤ cap ∧ cap ≤ 1099511627776) (hb : 0 ≤ b ∧ b ≤ 1099511627776) : -9007199254740992 ≤ excS cap ws c b ∧ excS cap ws c b ≤ 9007199254740992 := by
  have h1 := rightW_sum hr
  have h2 : 0 ≤ ws.getD c 0 ∧ ws.getD c 0 ≤ 1000 := by
    rw [List.getD_eq_getElem?_getD]
    rcases Nat.lt_or_ge c ws.length with h | h
    · rw [List.getElem?_eq_getElem h]
      have := hr.2.2 _ (List.getElem_mem h)
      show 0 ≤ ws[c] ∧ ws[c] ≤ 1000
      omega
    · rw [List.getElem?_eq_none h]
      exact ⟨Int.le_refl _, by decide⟩
  have h3 := mul_bnd (X := 1099511627776) (Y := 8000) (by omega) hb.2 h1.1 h1.2
  have h4 := mul_bnd (X := 1099511627776) (Y := 1000) (by omega) hc.2 h2.1 h2.2
  have h5 : 0 ≤ b * ws.sum := Int.mul_nonneg hb.1 h1.1
  have h6 : 0 ≤ cap * ws.getD c 0 := Int.mul_nonneg hc.1 h2.1
  unfold excS
  omega
set_option maxHeartbeats 8000000 in
theorem splan_ok (a : Option Addr) (n c : Nat) (ws : List Int) (a2 : Option Addr) (n2 c2 : Nat) (q : List (List Int)) (cap cls size : Int) (W : World) (hI : Ints .i64 W a n c ws) (hx : SlR Rll W TT a2 n2 c2 q) (hq1 : q.length ≤ 1048576) (hq2 : ∀ l ∈ q, l.length ≤ 1048576) :
    Calls Try.prog 15 #[.int .i64 cap, .slice a n c, .slice a2 n2 c2, .int .i64 cls, .int .i64 size] W fun e w' => ∃ out av cv, (fitsP cap ws q cls size → PlanR cap ws (left0 q cls size) (List.replicate n 0) (q.flatten.sum + size) out) ∧ (¬ fitsP cap ws q cls size → out = []) ∧
      e = .returned (.tuple #[.slice av out.length cv, .bool (decide (fitsP cap ws q cls size))]) ∧ Below W.heap.size W w' ∧ w'.ownsRow W.heap.size 34 2 (.slice av out.length cv) out.length (vcells out) := by
  have hlen := hI.len
  have hqn := hx.len
  refine enter5 Try.func15 rfl rfl (Hp.refl W) ?_
  repeat (first | refine T_seq ?_ | refine T_region ?_ | refine S_nil ?_ | refine S_pure tabOk rfl ?_)
  refine S_callq rfl Try.call43 (fun w1 h1 => sfits_ok a n c ws a2 n2 c2 q cap cls size w1 (ints_ext hI (h1.below (by repeat (first | exact new_nil)))) (hx.ext (h1.below (by repeat (first | exact new_nil)))) hq1 hq2) ?_
  by_cases hfit : fitsP cap ws q cls size
  · rw [decide_eq_true hfit]
    obtain ⟨hr, hf2, hf3, hf4, hf5, hf6, hf7, hf8, hf9, hf10⟩ := hfit
    have hfit : fitsP cap ws q cls size := ⟨hr, hf2, hf3, hf4, hf5, hf6, hf7, hf8, hf9, hf10⟩
    have hwl := hr.2.1
    have hwl1 := hr.1
    have hbs := sum_bnd (B := 1048576) (by decide) hf9
    repeat (first | refine S_nil ?_ | refine S_pure tabOk rfl ?_)
    refine T_cond_f rfl ?_
    repeat (first | refine T_seq ?_ | refine T_region ?_ | refine pthen_normal ?_ | refine T_skip ?_)
    refine S_new tabOk rfl (fun b12 hb12 => ?_)
    repeat (first | refine T_seq ?_ | refine T_region ?_ | refine S_nil ?_ | refine S_pure tabOk rfl ?_)
    refine S_callq rfl Try.call20 (fun w1 h1 => stotal_ok a2 n2 c2 q w1 (hx.ext (h1.below (by repeat (first | exact new_nil | refine new_cons (by first | assumption | omega) ?_)))) hf9 hf10 hq1) ?_
    repeat (first | refine T_seq ?_ | refine T_region ?_ | refine S_nil ?_ | refine S_i64 tabOk rfl (by omega) ?_ | refine S_pure tabOk rfl ?_)
    obtain ⟨k, hk⟩ : ∃ k : Nat, cls = (k : Int) := ⟨cls.toNat, by omega⟩
    subst hk
    have hkq : k < q.length := by omega
    obtain ⟨L0, hL0⟩ : ∃ L0, left0 q (k : Int) size = L0 := ⟨_, rfl⟩
    obtain ⟨hL0l, hL0k, hL0d, hL0n, hL0s, hL0m⟩ := left0_facts (size := size) hkq
    rw [hL0] at hL0l hL0k hL0d hL0n hL0s hL0m
    have hL0b : ∀ x ∈ L0.flatten, 0 ≤ x ∧ x ≤ 1048576 := fun x hx => (hL0m x hx).elim (hf9 x) (fun h => by omega)
    have hg : ∀ d (hd : d < q.length), q.getD d [] = q[d] := fun d hd => by rw [List.getD_eq_getElem?_getD, List.getElem?_eq_getElem hd]; rfl
    obtain ⟨w0, hw0r⟩ : ∃ w0, List.replicate n 0 = w0 := ⟨_, rfl⟩
    obtain ⟨over, hov⟩ : ∃ over, q.flatten.sum + size - cap = over := ⟨_, rfl⟩
    rw [hov]
    let O1 : PI → OL := fun i => [.rep (fun w => (lnS i.hs).at_ w i.G (.bool true)) i.G false, .rep (fun w => (blV i.hs).at_ w i.F (.bool true)) i.F true, .row W.heap.size (.slice i.aH i.hs.length i.cH) 93 1 i.hs.length (i.hs.map lnPt), .blk b12 (.cells ⟨[.slice i.aH i.hs.length i.cH]⟩ 92 (0, 0)) true]
    refine T_cut (ι := PI) (fun i => Rel cap ws L0 w0 i.hs ∧ i.hs.length ≤ n2 ∧ ∀ k, i.F k → W.heap.size ≤ k)
      (fun i => [(0, .int .i64 cap), (1, .slice a n c), (12, .pointer (some ⟨b12, 0, none⟩)), (13, .int .i64 over)]) O1 ?_ ?_
    · refine T_block ?_
      refine T_loop (ι := PI)
        (fun i => [(0, .int .i64 cap), (1, .slice a n c), (3, .int .i64 (k : Int)), (4, .int .i64 size), (12, .pointer (some ⟨b12, 0, none⟩)), (13, .int .i64 over), (32, .slice a2 n2 c2), (33, .int .i64 (n2 : Int)), (34, .int .i64 (i.c : Int))])
        O1 (fun i => i.c ≤ n2 ∧ Rel cap ws (L0.take i.c) w0 i.hs ∧ i.hs.length ≤ i.c ∧ ∀ k, i.F k → W.heap.size ≤ k) (fun i => n2 - i.c) ⟨0, [], none, 0, fun _ => False, fun _ => False⟩
        ⟨Nat.zero_le _, ⟨by simp, by simp, fun x hx => (by cases hx), fun d hd => absurd (by simp [List.take_zero]) hd⟩, Nat.le_refl _, fun k hk => hk.elim⟩ (by repeat (first | exact Sub.nil | refine Sub.cons rfl ?_))
        (fun w' hw => ((hw.nilRow _ _).addE (v := .bool true) (blV []) (fun w x hx => by cases hx)).addN (v := .bool true) (lnS []) (fun w x hx => by cases hx)) ?_
      rintro ⟨ci, hs, aH, cH, F, G⟩ ⟨hc, hrel, hsl, hF⟩
      dsimp only [O1] at hc hrel hsl hF ⊢
      repeat (first | refine T_seq ?_ | refine T_region ?_ | refine S_nil ?_ | refine S_pure tabOk rfl ?_)
      refine T_cond_dec rfl (fun h => ?_) (fun h => ?_)
      · have hcq : ci < q.length := by omega
        obtain ⟨ab, off, a0, n0, c0, rfl, hJ, hce⟩ := row_read hx hcq
        have hJn := hJ.len
        have hqi : q[ci].length ≤ 65536 := by have := getD_len q ci; rw [hg _ hcq] at this; omega
        obtain ⟨l', hl'⟩ : ∃ l', L0.getD ci [] = l' := ⟨_, rfl⟩
        have hl'b : ∀ x ∈ l', 0 ≤ x ∧ x ≤ 1048576 := fun x hx => hL0b x (getD_mem (by rw [hl']; exact hx))
        have hl'n : l'.length ≤ 65537 := by rw [← hl']; have := getD_len L0 ci; omega
        repeat (first | refine T_seq ?_ | refine T_region ?_ | refine T_block ?_ | refine pthen_normal ?_ | refine T_skip ?_ | refine S_pure tabOk rfl ?_)
        refine S_q (Q_idx1 tabOk rfl rfl rfl rfl rfl rfl rfl (j := ci) rfl (by omega)) ?_
        refine S_load1 tabOk (v := .slice a0 n0 c0) rfl rfl (fun w' hw => hce w' (hw.below (by repeat (first | exact new_nil | refine new_ro ?_ | refine new_rx (by assumption) ?_ | refine new_cons (by first | assumption | omega) ?_ | refine newrow hw 2 rfl (Nat.le_refl _) ?_)))) ?_
        repeat (first | refine T_seq ?_ | refine T_region ?_ | refine S_nil ?_ | refine S_pure tabOk rfl ?_)
        refine T_cut (ι := Option Addr × Nat × (Nat → Prop)) (fun _ => True)
          (fun i => [(0, .int .i64 cap), (1, .slice a n c), (3, .int .i64 (k : Int)), (4, .int .i64 size), (12, .pointer (some ⟨b12, 0, none⟩)), (13, .int .i64 over), (14, .int .i64 (ci : Int)), (15, .slice i.1 l'.length i.2.1), (32, .slice (some ⟨ab, off, none⟩) n2 c2), (33, .int .i64 (n2 : Int)), (34, .int .i64 (ci : Int))])
          (fun i => [.rep (fun w => ((Rslice (Rint .i64)).vp l').at_ w i.2.2 (.slice i.1 l'.length i.2.1)) i.2.2 false, .rep (fun w => (lnS hs).at_ w G (.bool true)) G false, .rep (fun w => (blV hs).at_ w F (.bool true)) F true, .row W.heap.size (.slice aH hs.length cH) 93 1 hs.length (hs.map lnPt), .blk b12 (.cells ⟨[.slice aH hs.length cH]⟩ 92 (0, 0)) true]) ?_ ?_
        · refine T_cond_dec rfl (fun heq => ?_) (fun hne => ?_)
          · have hci : ci = k := by omega
            subst hci
            have hle : l' = q[ci] ++ [size] := by rw [← hl', hL0k, hg _ hcq]
            repeat (first | refine T_region ?_ | refine S_pure tabOk rfl ?_)
            refine S_q (Q_slice3 tabOk rfl rfl rfl rfl rfl rfl rfl (H := n0) (M := n0) rfl rfl (Nat.le_refl _) hJ.cap) ?_
            repeat (first | refine S_pure tabOk rfl ?_)
            refine S_bslice tabOk rfl rfl rfl rfl rfl rfl rfl rfl rfl rfl rfl rfl (fun b49 hb49 => ?_)
            refine S_appendF tabOk rfl rfl rfl rfl rfl rfl rfl rfl (fun w' hw => hJ.sl.ext (hw.below (by repeat (first | exact new_nil | refine new_ro ?_ | refine new_rx (by assumption) ?_ | refine new_cons (by first | assumption | omega) ?_ | refine newrow hw 3 rfl (Nat.le_refl _) ?_)))) (fun w' hw => Sl.of_blk (xs := [.int .i64 size]) (hw.own _ (getE_mem (i := 0) rfl)) rfl (fun j u hu => by rw [Nat.zero_add]; exact hu)) (by simp only [maxLen]; omega) (by show (_ + _) * 8 ≤ _; omega) (fun h => (hJ.nil h).1) (by decide) (fun A' c' h1 h2 => ?_)
            have e1 : q[ci].map (Value.int .i64) ++ [.int .i64 size] = l'.map (.int .i64) := by rw [hle, List.map_append]; rfl
            have e2 : n0 + 1 = l'.length := by rw [hle, List.length_append, hJn]; rfl
            rw [e1, e2]
            refine S_share ((Rslice (Rint .i64)).vp l') (fun w hr => SlR.val (SlR.of_ints (ints_own hr (fun z hz => mk_i64 (by have := hl'b z hz; omega))) (fun b off hn e => by rw [e]; rfl))) (fun G2 hG2 => ?_)
            repeat (first | refine S_nil ?_ | refine S_pure tabOk rfl ?_)
            exact ⟨(A', c', G2), trivial, by repeat (first | exact Sub.nil | refine Sub.cons rfl ?_), fun w' hw => hw.fewer (by repeat (first | exact new_nil | refine new_ro ?_ | refine new_rx (by assumption) ?_ | refine new_cons (by first | assumption | omega) ?_ | refine newrow hw 4 rfl (Nat.le_refl _) ?_)) (by repeat (first | exact List.Sublist.slnil | refine List.Sublist.cons_cons _ ?_ | refine List.Sublist.cons _ ?_))⟩
          · have hle : l' = q[ci] := by rw [← hl', hL0d ci (by omega), hg _ hcq]
            have e2 : n0 = l'.length := by rw [hle, hJn]
            subst e2
            refine T_addV ((Rslice (Rint .i64)).vp l') TT (v := .slice a0 l'.length c0) (fun w hw => Vp.old (SlR.val (SlR.of_ints (by have h9 := hJ; rw [← hle] at h9; exact h9) (fun b off _ _ => trivial))) hw (by repeat (first | exact new_nil | refine new_ro ?_ | refine new_rx (by assumption) ?_ | refine new_cons (by first | assumption | omega) ?_ | refine newrow hw 2 rfl (Nat.le_refl _) ?_))) (fun G2 hG2 => ?_)
            repeat (first | refine pthen_normal ?_ | refine T_skip ?_)
            exact ⟨(a0, c0, G2), trivial, by repeat (first | exact Sub.nil | refine Sub.cons rfl ?_), fun w' hw => hw⟩
        · rintro ⟨a', c', G2⟩ _
          dsimp only
          repeat (first | refine T_seq ?_ | refine T_region ?_ | refine S_nil ?_ | refine S_pure tabOk rfl ?_)
          refine T_cond_dec rfl (fun hpos => ?_) (fun hpos => ?_)
          · have hln : l' ≠ [] := fun h => by rw [h] at hpos; exact absurd hpos (by decide)
            have hlb2 := sum_bnd (B := 1048576) (by decide) hl'b
            obtain ⟨ex, hex⟩ : ∃ ex, excS cap ws ci l'.sum = ex := ⟨_, rfl⟩
            skip
            refine T_asThen ?_
            let lst : Bool → Bool → Bool → Bool → Value → Value → Value → OL := fun l10 l11 l12 l13 v10 v11 v12 =>
              [.rep (fun w => ((Rslice (Rint .i64)).vp l').at_ w G2 (.slice a' l'.length c')) G2 false, .rep (fun w => (lnS hs).at_ w G (.bool true)) G false, .rep (fun w => (blV hs).at_ w F (.bool true)) F true, cond l12 (.row W.heap.size v12 93 1 (hs.length + 1) (hs.map lnPt ++ [v10])) (.row W.heap.size (.slice aH hs.length cH) 93 1 hs.length (hs.map lnPt)), .blk b12 (.cells ⟨[cond l13 v12 (.slice aH hs.length cH)]⟩ 92 (0, 0)) true] ++
              (cond l10 [ptrE v10 [.int .i64 (ci : Int), .slice a' l'.length c', .int .i64 0, .int .i64 ex] 95, factE (newP W v10)] [] ++ cond l11 [.row W.heap.size v11 93 1 1 [v10]] [])
            refine T_drawF (γ := Unit) (by kernel_rfl) (by kernel_rfl) () (fun L f => lst (L 10) (L 11) (L 12) (L 13) (f 10).1 (f 11).1 (f 12).1) rfl [some (.slice aH hs.length cH), some (.int .i64 (ci : Int)), some (.slice a' l'.length c'), some (.int .i64 cap), some (.slice a n c), some (.int .i64 (ci : Int)), some (.slice a' l'.length c'), some (.int .i64 l'.sum), some (.int .i64 ex), some (.agg ⟨[.int .i64 (ci : Int), .slice a' l'.length c', .int .i64 0, .int .i64 ex]⟩), none, none, none, some undef] ?_ ?_
            · refine ⟨?_, ?_, ?_, ?_, ?_, ?_, ?_, ?_, ?_, ?_, ?_, ?_, ?_, ?_, trivial⟩
              · intro L f hc hl hp
                have h12 := closed_no hc (j := 12) rfl ⟨0, .data⟩ (by simp) rfl hl
                have h13 := closed_no hc (j := 13) rfl ⟨12, .data⟩ (by simp) rfl h12
                show OpA _ _ _ _ (lst (L 10) (L 11) (L 12) (L 13) (f 10).1 (f 11).1 (f 12).1) (fun y => lst (L 10) (L 11) (L 12) (L 13) (f 10).1 (f 11).1 (f 12).1) _ _ _
                rw [h13]
                exact OpA.told () rfl (D_load tabOk 4 rfl rfl rfl D_last) rfl
              · exact fun L f hc hl hp => OpA.told () rfl (D_pure tabOk rfl D_last) rfl
              · exact fun L f hc hl hp => OpA.told () rfl (D_pure tabOk rfl D_last) rfl
              · exact fun L f hc hl hp => OpA.told () rfl (D_pure tabOk rfl D_last) rfl
              · exact fun L f hc hl hp => OpA.told () rfl (D_pure tabOk rfl D_last) rfl
              · exact fun L f hc hl hp => OpA.told () rfl (D_pure tabOk rfl D_last) rfl
              · exact fun L f hc hl hp => OpA.told () rfl (D_pure tabOk rfl D_last) rfl
              · exact fun L f hc hl hp => OpA.told () rfl (D_callx rfl Try.call44 (v := .int .i64 l'.sum) (fun w' vs hw' h9 => by obtain ⟨_, _, rfl, rfl, rfl⟩ := h9; exact ssum_ok a' l'.length c' l' w' (SlR.of_val (Vp.fact0 (p := (Rslice (Rint .i64)).vp l') hw' 0 rfl)).ints hl'b (by omega)) D_last) rfl
              · intro L f hc hl hp
                have h9 := closed_no hc (j := 9) rfl ⟨8, .data⟩ (by simp) rfl hl
                have h10 := closed_no hc (j := 10) rfl ⟨9, .data⟩ (by simp) rfl h9
                have h11 := closed_no hc (j := 11) rfl ⟨10, .data⟩ (by simp) rfl h10
                have h12 := closed_no hc (j := 12) rfl ⟨11, .data⟩ (by simp) rfl h11
                have h13 := closed_no hc (j := 13) rfl ⟨12, .data⟩ (by simp) rfl h12
                show OpA _ _ _ _ (lst (L 10) (L 11) (L 12) (L 13) (f 10).1 (f 11).1 (f 12).1) (fun y => lst (L 10) (L 11) (L 12) (L 13) (f 10).1 (f 11).1 (f 12).1) _ _ _
                rw [h10, h11, h12, h13]
                have hexc := fun w1 h1 => sexc_ok a n c ws cap (ci : Int) l'.sum w1 (ints_ext hI h1) (by omega) (by omega)
                rw [if_pos ⟨hr, by omega, by omega⟩, Int.toNat_natCast, hex] at hexc
                exact OpA.told () rfl (D_callx rfl Try.call23 (v := .int .i64 ex) (fun w' vs hw' h9 => by obtain ⟨_, _, rfl, rfl, _, _, rfl, rfl, _, _, rfl, rfl, _, _, rfl, rfl, rfl⟩ := h9; exact hexc w' (Hp.below hw' (by repeat (first | exact new_nil | refine new_ro ?_ | refine new_rx (by assumption) ?_ | refine new_cons (by first | assumption | omega) ?_ | refine newrow hw' 3 rfl (Nat.le_refl _) ?_)))) D_last) rfl
              · exact fun L f hc hl hp => OpA.told () rfl (D_q (Q_build tabOk rfl rfl rfl rfl rfl rfl rfl) D_last) rfl
              · intro L f hc hl hp
                have h11 := closed_no hc (j := 11) rfl ⟨10, .data⟩ (by simp) rfl hl
                have h12 := closed_no hc (j := 12) rfl ⟨11, .data⟩ (by simp) rfl h11
                have h13 := closed_no hc (j := 13) rfl ⟨12, .data⟩ (by simp) rfl h12
                show OpA _ _ _ _ (lst (L 10) (L 11) (L 12) (L 13) (f 10).1 (f 11).1 (f 12).1) (fun y => lst true (L 11) (L 12) (L 13) y.1 (f 11).1 (f 12).1) _ _ _
                rw [hl, h11, h12, h13]
                refine OpA.new tabOk rfl (fun w b hb hw => ⟨(), ?_⟩)
                have h1 : Hp W w (lst false false false false (f 10).1 (f 11).1 (f 12).1 ++ [.blk b (.cells ⟨[.int .i64 (ci : Int), .slice a' l'.length c', .int .i64 0, .int .i64 ex]⟩ 95 (0, 0)) true]) := hw.perm (by repeat (first | exact List.Perm.refl _ | refine (List.Perm.swap _ _ _).trans (List.Perm.cons _ ?_)))
                exact (h1.addF (p := newP W (.pointer (some ⟨b, 0, none⟩))) ⟨b, rfl, hb⟩).perm (by repeat (first | exact List.Perm.refl _ | refine (List.Perm.swap _ _ _).trans (List.Perm.cons _ ?_)))
              · intro L f hc hl hp
                have h10 : L 10 = true := hp ⟨10, .data⟩ (by simp) rfl
                have h12 := closed_no hc (j := 12) rfl ⟨11, .data⟩ (by simp) rfl hl
                have h13 := closed_no hc (j := 13) rfl ⟨12, .data⟩ (by simp) rfl h12
                show OpA _ _ _ _ (lst (L 10) (L 11) (L 12) (L 13) (f 10).1 (f 11).1 (f 12).1) (fun y => lst (L 10) true (L 12) (L 13) (f 10).1 y.1 (f 12).1) _ _ _
                rw [hl, h10, h12, h13]
                refine OpA.pre (X := ∃ b, (f 10).1 = .pointer (some ⟨b, 0, none⟩)) (fun w hw => ?_) (fun d h => by cases h; decide) ?_
                · obtain ⟨b, e1, _⟩ := hw.fact 6 rfl
                  exact ⟨b, e1⟩
                · rintro ⟨b, e1⟩
                  rw [e1]
                  refine OpA.ofS (l := [(64, .pointer (some ⟨b, 0, none⟩))]) rfl (by decide) (.cons rfl (by show some (Ent.ex (f 10).1) = _; rw [e1]) .nil) ?_
                  refine S_bslice tabOk rfl rfl rfl rfl rfl rfl rfl rfl rfl rfl rfl rfl (fun b65 hb65 => ?_)
                  refine S_heap (fun w' h => Hp.closeRow (pre := []) (n := 1) (c := 1) (sz := 1) h hb65 (by decide) (by decide) rfl) ?_
                  refine S_nil ?_
                  exact ⟨_, (), rfl, (fun u h => by cases h), fun w hw => hw.perm (by repeat (first | exact List.Perm.refl _ | refine (List.Perm.swap _ _ _).trans (List.Perm.cons _ ?_)))⟩
              · intro L f hc hl hp
                have h0 : L 0 = true := hp ⟨0, .data⟩ (by simp) rfl
                have h11 : L 11 = true := hp ⟨11, .data⟩ (by simp) rfl
                have h10 : L 10 = true := hc 11 _ rfl h11 ⟨10, .data⟩ (by simp) rfl
                have h13 := closed_no hc (j := 13) rfl ⟨12, .data⟩ (by simp) rfl hl
                show OpA _ _ _ _ (lst (L 10) (L 11) (L 12) (L 13) (f 10).1 (f 11).1 (f 12).1) (fun y => lst (L 10) (L 11) true (L 13) (f 10).1 (f 11).1 y.1) _ _ _
                rw [hl, h10, h11, h13]
                refine OpA.pre (X := ∃ b A C, (f 10).1 = .pointer (some ⟨b, 0, none⟩) ∧ (f 11).1 = .slice A 1 C) (fun w hw => ?_) (fun d h => by cases h; decide) ?_
                · obtain ⟨b, e1, _⟩ := hw.fact 6 rfl
                  obtain ⟨A, C, e2, _⟩ := hw.rowForm 7 rfl
                  exact ⟨b, A, C, e1, e2⟩
                · rintro ⟨b, A, C, e1, e2⟩
                  rw [e1, e2]
                  refine OpA.ofS (l := [(54, .slice aH hs.length cH), (65, .slice A 1 C)]) rfl (by decide) (.cons rfl rfl (.cons rfl (by show some (Ent.ex (f 11).1) = _; rw [e2]) .nil)) ?_
                  refine S_append (ty := 0) tabOk 3 rfl rfl rfl rfl rfl rfl rfl rfl rfl (by decide) (fun w' hw => Sl.of_own (hw.own _ (getE_mem (i := 7) rfl))) (by intro u hu; rw [List.mem_singleton] at hu; subst hu; rfl) (by simp only [maxLen]; omega) (by show (_ + _) * 8 ≤ _; omega) rfl (fun AS CS hcS hdS => ⟨_, rfl, ?_⟩)
                  refine S_nil ?_
                  exact ⟨_, (), rfl, (fun u h => by cases h), fun w hw => hw⟩
              · intro L f hc hl hp
                have h12 : L 12 = true := hp ⟨12, .data⟩ (by simp) rfl
                have h10 : L 10 = true := hp ⟨10, .phase⟩ (by simp) rfl
                have h11 : L 11 = true := hp ⟨11, .phase⟩ (by simp) rfl
                show OpA _ _ _ _ (lst (L 10) (L 11) (L 12) (L 13) (f 10).1 (f 11).1 (f 12).1) (fun y => lst (L 10) (L 11) (L 12) true (f 10).1 (f 11).1 (f 12).1) _ _ _
                rw [hl, h10, h11, h12]
                refine OpA.pre (X := ∃ A C, (f 12).1 = .slice A (hs.length + 1) C) (fun w hw => ?_) (fun d h => by cases h) ?_
                · obtain ⟨A, C, e2, _⟩ := hw.rowForm 3 rfl
                  exact ⟨A, C, e2⟩
                · rintro ⟨A, C, e2⟩
                  refine OpA.swap (dl' := [(12, .ex (.pointer (some ⟨b12, 0, none⟩))), (66, .ex (f 12).1)]) (List.forall_mem_cons.2 ⟨rfl, List.forall_mem_cons.2 ⟨rfl, fun _ h => nomatch h⟩⟩) ?_
                  generalize f 12 = x12 at *
                  obtain ⟨x12, g12⟩ := x12
                  dsimp only at e2
                  subst e2
                  exact OpS.toF () (fun u h => by cases h; rfl) (OpS.store tabOk 4 rfl rfl (fun u h => by rw [List.mem_singleton] at h; subst h; rfl) rfl rfl rfl)
            · intro L f w hL hw
              change Hp _ _ (lst (L 10) (L 11) (L 12) (L 13) (f 10).1 (f 11).1 (f 12).1) at hw
              rw [hL 10 (by decide), hL 11 (by decide), hL 12 (by decide), hL 13 (by decide)] at hw
              obtain ⟨b, e1, hbn⟩ := hw.fact 6 rfl
              obtain ⟨A, C, e2, _⟩ := hw.rowForm 3 rfl
              rw [e1, e2] at hw
              obtain ⟨x, hxe⟩ : ∃ x : Ln, x = ⟨b, ci, a', l'.length, c', 0, ex, l'⟩ := ⟨_, rfl⟩
              have hb0 : b = x.b := by rw [hxe]
              have hxo : (.cells ⟨[.int .i64 (ci : Int), .slice a' l'.length c', .int .i64 0, .int .i64 ex]⟩ 95 (0, 0) : Obj) = lnO x := by rw [hxe]; rfl
              have hw0 : Hp W w [.rep (fun w => ((Rslice (Rint .i64)).vp l').at_ w G2 (.slice a' l'.length c')) G2 false, .rep (fun w => (lnS hs).at_ w G (.bool true)) G false, .rep (fun w => (blV hs).at_ w F (.bool true)) F true, .row W.heap.size (.slice A (hs.length + 1) C) 93 1 (hs.length + 1) (hs.map lnPt ++ [.pointer (some ⟨b, 0, none⟩)]), .blk b12 (.cells ⟨[.slice A (hs.length + 1) C]⟩ 92 (0, 0)) true, .blk b (.cells ⟨[.int .i64 (ci : Int), .slice a' l'.length c', .int .i64 0, .int .i64 ex]⟩ 95 (0, 0)) true] := Hp.fewer hw (by repeat (first | exact new_nil | refine new_ro ?_ | refine new_rx (by assumption) ?_ | refine new_cons (by first | assumption | omega) ?_ | refine newrow hw 3 rfl (Nat.le_refl _) ?_ | refine newrow hw 7 rfl (Nat.le_refl _) ?_)) (by repeat (first | exact List.Sublist.slnil | refine List.Sublist.cons_cons _ ?_ | refine List.Sublist.cons _ ?_))
              have hw1 : Hp W w [.rep (fun w => (blV hs).at_ w F (.bool true)) F true, .blk b (.cells ⟨[.int .i64 (ci : Int), .slice a' l'.length c', .int .i64 0, .int .i64 ex]⟩ 95 (0, 0)) true, .row W.heap.size (.slice A (hs.length + 1) C) 93 1 (hs.length + 1) (hs.map lnPt ++ [.pointer (some ⟨b, 0, none⟩)]), .blk b12 (.cells ⟨[.slice A (hs.length + 1) C]⟩ 92 (0, 0)) true, .rep (fun w => ((Rslice (Rint .i64)).vp l').at_ w G2 (.slice a' l'.length c')) G2 false, .rep (fun w => (lnS hs).at_ w G (.bool true)) G false] := ((hw0.perm (o' := [.rep (fun w => (lnS hs).at_ w G (.bool true)) G false, .rep (fun w => (blV hs).at_ w F (.bool true)) F true, .row W.heap.size (.slice A (hs.length + 1) C) 93 1 (hs.length + 1) (hs.map lnPt ++ [.pointer (some ⟨b, 0, none⟩)]), .blk b12 (.cells ⟨[.slice A (hs.length + 1) C]⟩ 92 (0, 0)) true, .blk b (.cells ⟨[.int .i64 (ci : Int), .slice a' l'.length c', .int .i64 0, .int .i64 ex]⟩ 95 (0, 0)) true, .rep (fun w => ((Rslice (Rint .i64)).vp l').at_ w G2 (.slice a' l'.length c')) G2 false]) (by repeat (first | exact List.Perm.refl _ | refine (List.Perm.swap _ _ _).trans (List.Perm.cons _ ?_)))).perm (o' := [.rep (fun w => (blV hs).at_ w F (.bool true)) F true, .row W.heap.size (.slice A (hs.length + 1) C) 93 1 (hs.length + 1) (hs.map lnPt ++ [.pointer (some ⟨b, 0, none⟩)]), .blk b12 (.cells ⟨[.slice A (hs.length + 1) C]⟩ 92 (0, 0)) true, .blk b (.cells ⟨[.int .i64 (ci : Int), .slice a' l'.length c', .int .i64 0, .int .i64 ex]⟩ 95 (0, 0)) true, .rep (fun w => ((Rslice (Rint .i64)).vp l').at_ w G2 (.slice a' l'.length c')) G2 false, .rep (fun w => (lnS hs).at_ w G (.bool true)) G false]) (by repeat (first | exact List.Perm.refl _ | refine (List.Perm.swap _ _ _).trans (List.Perm.cons _ ?_)))).perm (List.Perm.cons _ (List.Perm.symm (by repeat (first | exact List.Perm.refl _ | refine (List.Perm.swap _ _ _).trans (List.Perm.cons _ ?_)))))
              rw [hb0, hxo] at hw1
              have hnb : ∀ y ∈ hs, y.b ≠ x.b := fun y hy hyb => by
                have h1 := (hw1.own _ (getE_mem (i := 0) rfl)).1 y hy
                exact (List.pairwise_cons.1 hw1.apart).1 _ List.mem_cons_self rfl y.b h1.2 (by rw [hyb]; rfl)
              have hw2 := hw1.joinL
              obtain ⟨G3, hG3, _, hw4⟩ := hw2.addV (p := lnS (hs ++ [x])) (A := TT) (v := .bool true) (fun y hy => by
                rcases List.mem_append.1 hy with hy | hy
                · exact Vp.fact (A := TT) (p := lnS hs) hw2 4 rfl (fun _ _ => .inl trivial) y hy
                · rw [List.mem_singleton] at hy
                  subst hy
                  have h8 := Vp.fact (A := TT) (p := (Rslice (Rint .i64)).vp l') hw2 3 rfl (fun _ _ => .inl trivial)
                  subst hxe
                  exact SlR.of_val h8)
              have hlen1 : (hs ++ [x]).length = hs.length + 1 := by simp
              have hF3 : ∀ k, (k = x.b ∨ F k) → W.heap.size ≤ k := fun k hk => hk.elim (fun h => by rw [h, ← hb0]; exact hbn) (hF k)
              refine ⟨[(0, .int .i64 cap), (1, .slice a n c), (3, .int .i64 (k : Int)), (4, .int .i64 size), (12, .pointer (some ⟨b12, 0, none⟩)), (13, .int .i64 over), (32, .slice (some ⟨ab, off, none⟩) n2 c2), (33, .int .i64 (n2 : Int)), (34, .int .i64 (ci : Int))], _, (by repeat (first | exact SubD.nil | refine SubD.cons rfl ?_)), hw4, ?_⟩
              repeat (first | refine T_region ?_ | refine S_nil ?_ | refine pthen_normal ?_ | refine inb_normal ?_ | refine S_i64 tabOk rfl (by omega) ?_ | refine S_pure tabOk rfl ?_)
              refine ⟨⟨ci + 1, hs ++ [x], A, C, fun k => k = x.b ∨ F k, G3⟩, ⟨by dsimp only; omega, hrel.add (by rw [hxe]) (by rw [hl', hxe]) (by rw [hxe]; exact hln) (by rw [hxe, ← hw0r, List.getD_eq_getElem?_getD, List.getElem?_replicate]; split <;> rfl) (by rw [hxe]; exact hex.symm) hnb, by dsimp only; rw [hlen1]; omega, hF3⟩, by dsimp only; repeat (first | exact Sub.nil | refine Sub.cons rfl ?_), fun w' hw => ?_, by dsimp only; omega⟩
              dsimp only
              rw [hlen1, List.map_append]
              exact hw.fewer (by repeat (first | exact new_nil | refine new_ro ?_ | refine new_rx (by assumption) ?_ | refine new_cons (by first | assumption | omega) ?_ | refine newrow hw 2 rfl (Nat.le_refl _) ?_)) (by repeat (first | exact List.Sublist.slnil | refine List.Sublist.cons_cons _ ?_ | refine List.Sublist.cons _ ?_))
          · have hl0 : l' = [] := List.eq_nil_of_length_eq_zero (by omega)
            repeat (first | refine T_region ?_ | refine S_nil ?_ | refine pthen_normal ?_ | refine inb_normal ?_ | refine T_skip ?_ | refine S_i64 tabOk rfl (by omega) ?_ | refine S_pure tabOk rfl ?_)
            exact ⟨⟨ci + 1, hs, aH, cH, F, G⟩, ⟨by dsimp only; omega, hrel.skip (by rw [hl', hl0]), by dsimp only; omega, hF⟩, by dsimp only; repeat (first | exact Sub.nil | refine Sub.cons rfl ?_), fun w' hw => hw.fewer (by repeat (first | exact new_nil | refine new_ro ?_ | refine new_rx (by assumption) ?_ | refine new_cons (by first | assumption | omega) ?_ | refine newrow hw 3 rfl (Nat.le_refl _) ?_)) (by repeat (first | exact List.Sublist.slnil | refine List.Sublist.cons_cons _ ?_ | refine List.Sublist.cons _ ?_)), by dsimp only; omega⟩
      · have hcn : ci = n2 := by omega
        subst hcn
        rw [List.take_of_length_le (by omega)] at hrel
        repeat (first | refine pthen_normal ?_ | refine inb_hit ?_ | refine pthen_exit ?_ | refine T_exit ?_)
        exact ⟨⟨ci, hs, aH, cH, F, G⟩, ⟨hrel, hsl, hF⟩, by repeat (first | exact Sub.nil | refine Sub.cons rfl ?_), fun w' hw => hw⟩
    · rintro ⟨ci, hs, aH, cH, F, G⟩ ⟨hrel, hsl, hF⟩
      dsimp only [O1] at hrel hsl hF ⊢
      clear O1
      repeat (first | refine T_seq ?_ | refine T_region ?_)
      refine S_q (Q_mkif tabOk rfl rfl rfl rfl) ?_
      obtain ⟨F1, hF1e⟩ : ∃ F1 : Nat → Prop, F1 = fun k => k = b12 ∨ (Value.slice aH hs.length cH).ownBlock = some k ∨ F k := ⟨_, rfl⟩
      refine S_kn (fun w hh => (fun k hk => (World.ownsRow.lt (hh.own _ (getE_mem (i := 2) rfl) : w.ownsRow _ _ _ _ _ _) k hk).1 : ∀ k, (Value.slice aH hs.length cH).ownBlock = some k → W.heap.size ≤ k)) (fun hrn => ?_)
      have hF1 : ∀ k, F1 k → W.heap.size ≤ k := fun k hk => by
        rw [hF1e] at hk
        rcases hk with rfl | hk | hk
        · exact hb12
        · exact hrn k hk
        · exact hF k hk
      refine S_heap (ol' := [.rep (fun w => (lnP W.heap.size b12 hs).at_ w F1 (.bool true)) F1 true, .rep (fun w => (lnS hs).at_ w G (.bool true)) G false]) (fun w' hw => by
        rw [hF1e]
        exact ((hw.perm (o' := [.rep (fun w => (blV hs).at_ w F (.bool true)) F true, .row W.heap.size (.slice aH hs.length cH) 93 1 hs.length (hs.map lnPt), .blk b12 (.cells ⟨[.slice aH hs.length cH]⟩ 92 (0, 0)) true, .rep (fun w => (lnS hs).at_ w G (.bool true)) G false]) (by repeat (first | exact List.Perm.refl _ | refine (List.Perm.swap _ _ _).trans (List.Perm.cons _ ?_)))).joinH (by omega))) ?_
      refine S_callT 0 rfl Try.call45 rfl (fun w1 g => (hinit_ok (lnOb W.heap.size b12) hs F1 w1 (g.own _ (getE_mem (i := 0) rfl)).1 (g.own _ (getE_mem (i := 0) rfl)).2.2).mono fun e w' ⟨he, g2⟩ => ⟨_, _, F1, he, g2, fun _ h => h, fun _ h => .inl h, _, rfl, ?_⟩)
      obtain ⟨hs1, hs1e⟩ : ∃ hs1, (lnOb W.heap.size b12).ini ((lnOb W.heap.size b12).len hs) ((lnOb W.heap.size b12).len hs / 2) hs = hs1 := ⟨_, rfl⟩
      have hp1 : hs1.Perm hs := by rw [← hs1e]; exact ini_perm (lnOb_ol _ _) _ _ _
      have hd1 : Hd lnR hs1 hs1.length 0 := by rw [hp1.length_eq, ← hs1e]; exact init_heap (lnOb_ol W.heap.size b12) lnR_sw hs
      rw [hs1e]
      have hrel1 := hrel.perm hp1
      have hsl1 : hs1.length ≤ n2 := by rw [hp1.length_eq]; exact hsl
      clear hs1e
      refine S_heap (ol' := [.rep (fun w => (lnP W.heap.size b12 hs1).at_ w F1 (.bool true)) F1 true, .rep (fun w => (lnS hs1).at_ w G (.bool true)) G false]) (fun w' hw => (Hp.mapRep (p := lnS hs) (q := lnS hs1) (hw.perm (List.Perm.swap _ _ _)) (fun w1 h6 y hy => h6 y (hp1.mem_iff.1 hy))).perm (List.Perm.swap _ _ _)) ?_
      repeat (first | refine T_seq ?_ | refine T_region ?_ | refine S_nil ?_ | refine S_pure tabOk rfl ?_)
      refine S_callq rfl Try.call44 (fun w1 h1 => ssum_ok a n c ws w1 (ints_ext hI (h1.below (by repeat (first | exact new_nil | refine new_ro ?_ | refine new_rx (by assumption) ?_)))) (fun x hx => by have := hr.2.2 x hx; omega) (by omega)) ?_
      repeat (first | refine T_seq ?_ | refine S_nil ?_ | refine S_pure tabOk rfl ?_)
      obtain ⟨T0, hT0⟩ : ∃ T0, q.flatten.sum + size = T0 := ⟨_, rfl⟩
      let O2 : PJ → OL := fun i => [.rep (fun w => (lnP W.heap.size b12 i.hs).at_ w i.F (.bool true)) i.F true, .rep (fun w => (lnS i.hs).at_ w i.G (.bool true)) i.G false, .row W.heap.size (.slice i.ao i.out.length i.co) 34 2 i.out.length (vcells i.out)]
      refine T_cut (ι := PJ) (fun i => PlanR cap ws L0 w0 T0 i.out) (fun i => [(16, .slice i.ao i.out.length i.co)]) (fun i => [.row W.heap.size (.slice i.ao i.out.length i.co) 34 2 i.out.length (vcells i.out)]) ?_ ?_
      · refine T_block ?_
        refine T_loop (ι := PJ)
          (fun i => [(12, .pointer (some ⟨b12, 0, none⟩)), (13, .int .i64 (i.total - cap)), (16, .slice i.ao i.out.length i.co), (17, .int .i64 ws.sum)]) O2
          (fun i => Rel cap ws i.left i.went i.hs ∧ Hd lnR i.hs i.hs.length 0 ∧ i.left.flatten.sum = i.total ∧ (∀ x ∈ i.left.flatten, 0 ≤ x ∧ x ≤ 1048576) ∧ i.left.flatten.length + i.out.length ≤ 65537 ∧ (i.went.length = i.left.length ∧ i.left.length ≤ 8) ∧ (∀ k, i.F k → W.heap.size ≤ k) ∧ (∀ d, i.went.getD d 0 ≤ i.out.length) ∧ (∀ out', PlanR cap ws i.left i.went i.total out' → PlanR cap ws L0 w0 T0 (i.out ++ out')) ∧ i.hs.length ≤ 8)
          (fun i => i.left.flatten.length) ⟨L0, w0, T0, hs1, F1, G, [], none, 0⟩ ?_ (by dsimp only; rw [hT0] at hov; rw [hov]; repeat (first | exact Sub.nil | refine Sub.cons rfl ?_)) (fun w' hw => by dsimp only [O2]; exact (hw.nilRow _ _).perm (by repeat (first | exact List.Perm.refl _ | refine (List.Perm.swap _ _ _).trans (List.Perm.cons _ ?_)))) ?_
        · refine ⟨hrel1, hd1, ?_, hL0b, ?_, ⟨?_, by dsimp only; omega⟩, hF1, fun d => ?_, fun out' h => h, by dsimp only; omega⟩
          · dsimp only; omega
          · dsimp only; rw [hL0n, List.length_nil]; omega
          · dsimp only; rw [← hw0r, List.length_replicate]; omega
          · dsimp only
            rw [← hw0r, List.getD_eq_getElem?_getD, List.getElem?_replicate]
            split <;> exact Nat.le_refl _
        rintro ⟨left, went, total, hs, F, G, out, ao, co⟩ ⟨hrel, hhd, hsum, hbd, hct, ⟨hwl2, hl8⟩, hF, hwb, hpl, hh8⟩
        dsimp only [O2] at hrel hhd hsum hbd hct hwl2 hl8 hF hwb hpl hh8 ⊢
        have hsb := sum_bnd (B := 1048576) (by decide) hbd
        repeat (first | refine T_seq ?_ | refine T_region ?_ | refine S_nil ?_ | refine S_pure tabOk rfl ?_)
        refine T_cond_dec rfl (fun h => ?_) (fun h => ?_)
        · have hne := hrel.ne hsum (by omega) (by omega)
          cases hs with
          | nil => exact absurd hne (Nat.lt_irrefl _)
          | cons x tl =>
          have hbest := hrel.best hhd (x := x) rfl
          obtain ⟨hm1, hm2, hm3, hm4⟩ := hrel.mem x List.mem_cons_self
          have hcl : x.cls < left.length := getD_lt (by rw [hm1]; exact hm2)
          have hndb := hrel.ndb
          rw [List.map_cons, List.nodup_cons] at hndb
          have hnb : ∀ y ∈ tl, y.b ≠ x.b := fun y hy hyb => hndb.1 (by rw [← hyb]; exact List.mem_map_of_mem hy)
          have hwx := hwb x.cls
          rw [← hm3] at hwx
          refine T_kn (fun w hh => by
            have h1 := (Vp.fact0 (p := lnS (x :: tl)) hh 1 rfl) x List.mem_cons_self
            obtain ⟨lb, lo, _, e1, _⟩ := h1.get_ (i := 0) (List.length_pos_iff.2 hm2)
            exact (⟨lb, lo, e1, h1.len, h1.cap⟩ : ∃ lb lo, x.a = some ⟨lb, lo, none⟩ ∧ x.l.length = x.n ∧ x.n ≤ x.c)) (fun hkn => ?_)
          obtain ⟨lb, lo, hxa, hxn, hxc⟩ := hkn
          obtain ⟨xb, xc, xa, xn, xcc, xw, xe, xl⟩ := x
          dsimp only at hm1 hm2 hm3 hm4 hcl hnb hwx hxa hxn hxc hbest
          subst hxa
          cases xl with
          | nil => exact absurd rfl hm2
          | cons z zs =>
          rw [List.length_cons] at hxn
          subst hxn
          obtain ⟨hf1, hf22, hf33, hf44⟩ := flat_set hm1
          have hzb := hbd z hf44
          have hxlb : ∀ y ∈ z :: zs, 0 ≤ y ∧ y ≤ 1048576 := fun y hy => hbd y (getD_mem (by rw [hm1]; exact hy))
          have hxls := sum_bnd (B := 1048576) (by decide) hxlb
          have hxll : (z :: zs).length ≤ 65537 := by rw [← hm1]; have := getD_len left xc; omega
          rw [List.length_cons] at hxll hxls
          have hxeb := excS_bnd (c := xc) hr (cap := cap) (b := (z :: zs).sum) (by omega) (by omega)
          rw [← hm4] at hxeb
          have hws := rightW_sum hr
          have hmz := mul_bnd (X := 1048576) (by omega) hzb.2 hws.1 hws.2
          have hmz2 : 0 ≤ z * ws.sum := Int.mul_nonneg hzb.1 hws.1
          refine T_toX (fun i : Option Addr × Nat × (Nat → Prop) => (∀ k, i.2.2 k → W.heap.size ≤ k) ∧ W.heap.size ≤ b12 ∧ W.heap.size ≤ xb) _ (fun w hh => by
            obtain ⟨i, h1, h2, h3, h4⟩ := hh.splitH hnb hF
            exact ⟨i, ⟨h1, h2, h3⟩, h4⟩) ?_
          rintro ⟨A, C, F3⟩ ⟨hF3, _, hxbn⟩
          dsimp only [lnO] at hF3 ⊢
          repeat (first | refine T_seq ?_ | refine T_region ?_ | refine T_block ?_ | refine pthen_normal ?_ | refine T_skip ?_ | refine S_load tabOk 0 rfl rfl rfl ?_)
          refine S_rowA 1 rfl (by omega) (fun bS hbS => ?_)
          subst hbS
          refine S_q (Q_idx1 tabOk rfl rfl rfl rfl rfl rfl rfl (j := 0) rfl (by omega)) ?_
          refine S_load1 tabOk (v := .pointer (some ⟨xb, 0, none⟩)) rfl rfl (fun w' hw => by
            rw [Nat.zero_add]
            exact own_cell (hw.own _ (getE_mem (i := 1) rfl)) (by omega) rfl) ?_
          repeat (first | refine T_seq ?_ | refine S_nil ?_ | refine S_pure tabOk rfl ?_)
          refine T_drawT (by kernel_rfl) 11 rfl (by kernel_rfl) ?_
          repeat (first | refine D_pure tabOk rfl ?_ | refine D_load tabOk 2 rfl rfl rfl ?_ | refine D_q (Q_build tabOk rfl rfl rfl rfl rfl rfl rfl) ?_)
          refine D_bsliceF tabOk rfl rfl rfl rfl rfl rfl rfl rfl rfl rfl rfl rfl ?_
          refine D_outB 87 rfl (by repeat (first | exact exs_refl)) (fun b2 hb2 => ?_)
          refine D_allP rfl ?_
          refine S_append (ty := 0) tabOk 6 rfl rfl rfl rfl rfl rfl rfl rfl rfl (by decide) (fun w' hw => Sl.of_blk (xs := [.int .i64 (xc : Int), .int .i64 (xw : Int)]) (hw.own _ (getE_mem (i := 0) rfl)) rfl (fun j u hu => by rw [Nat.zero_add]; exact hu)) (by intro u hu; simp only [List.mem_cons, List.not_mem_nil, or_false] at hu; rcases hu with rfl | rfl <;> rfl) (by simp only [maxLen]; omega) (by show (_ + _) * 16 ≤ _; omega) rfl (fun AO CO hcO hdO => ⟨_, rfl, ?_⟩)
          repeat (first | refine T_seq ?_ | refine T_region ?_ | refine S_nil ?_ | refine S_pure tabOk rfl ?_ | refine S_load tabOk 3 rfl rfl rfl ?_)
          refine S_q (Q_idx1 tabOk rfl rfl rfl rfl rfl rfl rfl (j := 0) rfl (by omega)) ?_
          refine S_load1 tabOk (v := .int .i64 z) rfl rfl (fun w' hw => by
            have h1 := (Vp.fact0 (p := lnS _) hw 5 rfl) _ List.mem_cons_self
            exact h1.ints.sl.at_ (Nat.succ_pos _) rfl) ?_
          repeat (first | refine T_seq ?_ | refine S_nil ?_ | refine S_i64 tabOk rfl (by omega) ?_ | refine S_pure tabOk rfl ?_)
          refine T_drawT (by kernel_rfl) 13 rfl (by kernel_rfl) ?_
          repeat (first | refine D_pure tabOk rfl ?_ | refine D_load tabOk 3 rfl rfl rfl ?_)
          refine D_q (Q_idx1 tabOk rfl rfl rfl rfl rfl rfl rfl (j := 0) rfl (by omega)) ?_
          refine D_load1 tabOk (v := .int .i64 z) rfl rfl (fun w' hw => by
            have h1 := (Vp.fact0 (p := lnS _) hw 5 rfl) _ List.mem_cons_self
            exact h1.ints.sl.at_ (Nat.succ_pos _) rfl) ?_
          repeat (first | refine D_all rfl ?_ | refine D_i64 tabOk rfl (by omega) ?_ | refine D_pure tabOk rfl ?_ | refine T_seq ?_ | refine T_region ?_ | refine S_nil ?_ | refine S_pure tabOk rfl ?_ | refine S_load tabOk 3 rfl rfl rfl ?_ | refine S_store tabOk 3 rfl rfl rfl rfl rfl rfl ?_)
          refine S_q (Q_sliceFrom (sz := 1) tabOk rfl rfl rfl rfl rfl rfl rfl (L := 1) rfl (by omega) hxc) ?_
          repeat (first | refine T_seq ?_ | refine T_region ?_ | refine S_nil ?_ | refine S_i64 tabOk rfl (by omega) ?_ | refine S_pure tabOk rfl ?_ | refine S_load tabOk 3 rfl rfl rfl ?_ | refine S_store tabOk 3 rfl rfl rfl rfl rfl rfl ?_)
          have e9 : ((xw + 1 : Nat) : Int) = (xw : Int) + 1 := by omega
          obtain ⟨x', hx'⟩ : ∃ x' : Ln, x' = ⟨xb, xc, if xcc = 1 then some ⟨lb, lo, none⟩ else Option.map (fun x : Addr => x.add (1 * 1)) (some (⟨lb, lo, none⟩ : Addr)), zs.length + 1 - 1, xcc - 1, xw + 1, xe - z * ws.sum, zs⟩ := ⟨_, rfl⟩
          obtain ⟨F5, hF5e⟩ : ∃ F5 : Nat → Prop, F5 = fun k => k = b12 ∨ (Value.slice (some ⟨bS, 0, none⟩) (tl.length + 1) C).ownBlock = some k ∨ k = xb ∨ F3 k := ⟨_, rfl⟩
          refine T_kn (fun w hh => (World.ownsRow.lt (hh.own _ (getE_mem (i := 2) rfl) : w.ownsRow _ _ _ (.slice (some ⟨bS, 0, none⟩) (tl.length + 1) C) _ _) bS rfl).1) (fun hbSn => ?_)
          have hF5 : ∀ k, F5 k → W.heap.size ≤ k := fun k hk => by
            rw [hF5e] at hk
            rcases hk with rfl | hk | rfl | hk
            · exact hb12
            · rw [← Option.some.inj hk]; exact hbSn
            · exact hxbn
            · exact hF3 k hk
          have hvc : vcells out ++ [.int .i64 (xc : Int), .int .i64 (xw : Int)] = vcells (out ++ [(xc, xw)]) := by unfold vcells; rw [List.map_append, List.flatten_append]; rfl
          have hol : out.length + 1 = (out ++ [(xc, xw)]).length := by simp
          rw [hvc, hol]
          refine T_heap (ol' := [.rep (fun w => (lnP W.heap.size b12 (x' :: tl)).at_ w F5 (.bool true)) F5 true, .rep (fun w => (lnS (x' :: tl)).at_ w G (.bool true)) G false, .row W.heap.size (.slice AO (out ++ [(xc, xw)]).length CO) 34 2 (out ++ [(xc, xw)]).length (vcells (out ++ [(xc, xw)]))]) (fun w hw => by
            have h1 := hw.drop (fun h => by cases h)
            rw [← e9] at h1
            rw [hF5e]
            subst hx'
            exact Hp.closeH (x := ⟨xb, xc, some ⟨lb, lo, none⟩, zs.length + 1, xcc, xw, xe, z :: zs⟩) (x' := ⟨xb, xc, if xcc = 1 then some ⟨lb, lo, none⟩ else Option.map (fun x : Addr => x.add (1 * 1)) (some (⟨lb, lo, none⟩ : Addr)), zs.length + 1 - 1, xcc - 1, xw + 1, xe - z * ws.sum, zs⟩) h1 rfl (by rw [List.length_cons] at hh8; omega) (fun w1 h6 => h6.drop (k := 1) (by show 1 ≤ zs.length + 1; omega))) ?_
          have hst := hrel.step (x := ⟨xb, xc, some ⟨lb, lo, none⟩, zs.length + 1, xcc, xw, xe, z :: zs⟩) rfl hwl2
          dsimp only at hst
          have hdh : Dh lnR (x' :: tl) := hhd.dh.set x'
          have hpl2 : ∀ out', PlanR cap ws (left.set xc zs) (went.set xc (went.getD xc 0 + 1)) (total - z) out' → PlanR cap ws L0 w0 T0 ((out ++ [(xc, xw)]) ++ out') := fun out' ho => by
            have := hpl _ (PlanR.step (by omega) hbest hm1 ho)
            rw [List.append_assoc, hm3]
            exact this
          have hwb2 : ∀ d, (went.set xc (went.getD xc 0 + 1)).getD d 0 ≤ (out ++ [(xc, xw)]).length := fun d => by
            rw [getD_set _ _ _ _ _ (by omega), ← hol]
            have h1 := hwb d
            have h2 := hwb xc
            split <;> omega
          rw [List.length_cons] at hh8
          refine T_cond_dec rfl (fun hz => ?_) (fun hz => ?_)
          · have hz0 : zs = [] := List.eq_nil_of_length_eq_zero (by omega)
            repeat (first | refine T_region_any ?_)
            refine S_q (Q_mkif tabOk rfl rfl rfl rfl) ?_
            refine S_callT 0 rfl Try.call46 rfl (fun w1 g => (lheap_pop W.heap.size b12 (x' :: tl) F5 w1 (g.own _ (getE_mem (i := 0) rfl)).1 (g.own _ (getE_mem (i := 0) rfl)).2.2 (Nat.succ_pos _)).mono fun e w' ⟨u, he, g2⟩ => ⟨u, _, F5, he, g2, fun _ h => h, fun _ h => .inl h, _, rfl, ?_⟩)
            obtain ⟨hs3, hs3e⟩ : ∃ hs3, ((lnOb W.heap.size b12).pp (x' :: tl)).take ((x' :: tl).length - 1) = hs3 := ⟨_, rfl⟩
            have hs3e0 := hs3e
            have hpp := pp_perm (lnOb_ol W.heap.size b12) (x' :: tl)
            have hppl := hpp.length_eq
            have hppz := pp_last (lnOb_ol W.heap.size b12) (x' :: tl) (Nat.succ_pos _)
            have hpph := pp_heap (lnOb_ol W.heap.size b12) lnR_sw (x' :: tl) hdh (Nat.succ_pos _)
            rw [List.length_cons] at hppl hppz hpph hs3e
            rw [Nat.add_sub_cancel] at hppz hpph hs3e
            have hp3 : hs3.Perm tl := by
              have h1 : (lnOb W.heap.size b12).pp (x' :: tl) = hs3 ++ [x'] := by
                rw [← hs3e]
                conv => lhs; rw [← List.take_append_drop tl.length ((lnOb W.heap.size b12).pp (x' :: tl))]
                congr 1
                rw [List.drop_eq_getElem_cons (by omega), List.drop_of_length_le (by omega)]
                have h2 := List.getElem?_eq_getElem (l := (lnOb W.heap.size b12).pp (x' :: tl)) (i := tl.length) (by omega)
                rw [hppz] at h2
                rw [← Option.some.inj h2]
              rw [h1] at hpp
              exact (List.perm_cons x').1 ((List.perm_append_comm (l₁ := hs3) (l₂ := [x'])).symm.trans hpp)
            have hd3 : Hd lnR hs3 hs3.length 0 := by
              rw [hp3.length_eq, ← hs3e]
              exact hd_take hpph (by omega)
            rw [hs3e0]
            refine S_heap (ol' := [.rep (fun w => (lnP W.heap.size b12 hs3).at_ w F5 (.bool true)) F5 true, .rep (fun w => (lnS hs3).at_ w G (.bool true)) G false, .row W.heap.size (.slice AO (out ++ [(xc, xw)]).length CO) 34 2 (out ++ [(xc, xw)]).length (vcells (out ++ [(xc, xw)]))]) (fun w' hw => (Hp.mapRep (p := lnS (x' :: tl)) (q := lnS hs3) (hw.perm (List.Perm.swap _ _ _)) (fun w1 h6 y hy => h6 y (List.mem_cons_of_mem _ (hp3.mem_iff.1 hy)))).perm (List.Perm.swap _ _ _)) ?_
            repeat (first | refine S_nil ?_ | refine pthen_normal ?_ | refine inb_normal ?_)
            exact ⟨⟨left.set xc zs, went.set xc (went.getD xc 0 + 1), total - z, hs3, F5, G, out ++ [(xc, xw)], AO, CO⟩, ⟨(hst.1 hz0).perm hp3, hd3, by dsimp only; omega, fun y hy => hbd y (hf33 y hy), by dsimp only; omega, ⟨by dsimp only; rw [List.length_set, List.length_set]; exact hwl2, by dsimp only; rw [List.length_set]; exact hl8⟩, hF5, hwb2, hpl2, by dsimp only; rw [hp3.length_eq]; omega⟩, by dsimp only; repeat (first | exact Sub.nil | refine Sub.cons rfl ?_ | refine Sub.cons_int rfl (by omega) ?_), fun w' hw => hw, by dsimp only; omega⟩
          · have hz0 : zs ≠ [] := fun h => by rw [h] at hz; exact hz rfl
            repeat (first | refine T_region_any ?_)
            refine S_q (Q_mkif tabOk rfl rfl rfl rfl) ?_
            refine S_callT 0 rfl Try.call47 rfl (fun w1 g => (hfix_ok (lnOb W.heap.size b12) (x' :: tl) 0 F5 w1 (g.own _ (getE_mem (i := 0) rfl)).1 (g.own _ (getE_mem (i := 0) rfl)).2.2 (Nat.succ_pos _)).mono fun e w' ⟨he, g2⟩ => ⟨_, _, F5, he, g2, fun _ h => h, fun _ h => .inl h, _, rfl, ?_⟩)
            obtain ⟨hs3, hs3e⟩ : ∃ hs3, (lnOb W.heap.size b12).fx (x' :: tl) 0 = hs3 := ⟨_, rfl⟩
            have hp3 : hs3.Perm (x' :: tl) := by rw [← hs3e]; exact fx_perm (lnOb_ol _ _) _ _
            have hd3 : Hd lnR hs3 hs3.length 0 := by rw [hp3.length_eq, ← hs3e]; exact fx0_heap (lnOb_ol W.heap.size b12) lnR_sw _ hdh
            rw [hs3e]
            refine S_heap (ol' := [.rep (fun w => (lnP W.heap.size b12 hs3).at_ w F5 (.bool true)) F5 true, .rep (fun w => (lnS hs3).at_ w G (.bool true)) G false, .row W.heap.size (.slice AO (out ++ [(xc, xw)]).length CO) 34 2 (out ++ [(xc, xw)]).length (vcells (out ++ [(xc, xw)]))]) (fun w' hw => (Hp.mapRep (p := lnS (x' :: tl)) (q := lnS hs3) (hw.perm (List.Perm.swap _ _ _)) (fun w1 h6 y hy => h6 y (hp3.mem_iff.1 hy))).perm (List.Perm.swap _ _ _)) ?_
            repeat (first | refine S_nil ?_ | refine pthen_normal ?_ | refine inb_normal ?_)
            exact ⟨⟨left.set xc zs, went.set xc (went.getD xc 0 + 1), total - z, hs3, F5, G, out ++ [(xc, xw)], AO, CO⟩, ⟨(hst.2 hz0 x' (by rw [hx']) (by rw [hx']) (by rw [hx']) (by rw [hx']) (by rw [hx'])).perm hp3, hd3, by dsimp only; omega, fun y hy => hbd y (hf33 y hy), by dsimp only; omega, ⟨by dsimp only; rw [List.length_set, List.length_set]; exact hwl2, by dsimp only; rw [List.length_set]; exact hl8⟩, hF5, hwb2, hpl2, by dsimp only; rw [hp3.length_eq, List.length_cons]; omega⟩, by dsimp only; repeat (first | exact Sub.nil | refine Sub.cons rfl ?_ | refine Sub.cons_int rfl (by omega) ?_), fun w' hw => hw, by dsimp only; omega⟩
        · repeat (first | refine pthen_normal ?_ | refine inb_hit ?_ | refine pthen_exit ?_ | refine T_exit ?_)
          exact ⟨⟨left, went, total, hs, F, G, out, ao, co⟩, by have := hpl [] (.stop (by omega)); rw [List.append_nil] at this; exact this, by repeat (first | exact Sub.nil | refine Sub.cons rfl ?_), fun w' hw => hw.fewer (by repeat (first | exact new_nil | refine new_ro ?_ | refine new_rx (by assumption) ?_ | refine newrow hw 2 rfl (Nat.le_refl _) ?_)) (by repeat (first | exact List.Sublist.slnil | refine List.Sublist.cons_cons _ ?_ | refine List.Sublist.cons _ ?_))⟩
      · rintro ⟨left, went, total, hs2, F2, G2, out, ao, co⟩ hpl
        dsimp only at hpl ⊢
        clear O2
        repeat (first | refine T_seq ?_ | refine T_region ?_ | refine S_nil ?_ | refine T_ret ?_ | refine S_pure tabOk rfl ?_)
        exact ret2 rfl rfl rfl (fun w' hw => ⟨out, ao, co, fun _ => by rw [hL0, hw0r, hT0]; exact hpl, fun h => absurd hfit h, rfl, hw.below (by repeat (first | exact new_nil | refine newrow hw 0 rfl (Nat.le_refl _) ?_)), hw.own _ (getE_mem (i := 0) rfl)⟩)
  · rw [decide_eq_false hfit]
    repeat (first | refine S_nil ?_ | refine S_pure tabOk rfl ?_)
    refine T_cond_t rfl ?_
    repeat (first | refine T_seq ?_ | refine T_region ?_ | refine S_nil ?_ | refine pthen_ret ?_ | refine T_ret ?_ | refine S_pure tabOk rfl ?_)
    exact ret2 rfl rfl rfl (fun w' hw => ⟨[], none, 0, fun h => absurd h hfit, fun _ => rfl, rfl, hw.below (by repeat (first | exact new_nil)), rfl, .inl ⟨rfl, rfl⟩⟩)

section
variable {vs : List Value} {left : List (List Int)} {w : World} {F : Nat → Prop} {u : Value}
theorem bodK (h : (Bod Rll (vs.map fun v => [v]) left).at_ w F u) {d : Nat} (hd : d < left.length) : ∃ a0 n0 c0, vs[d]? = some (.slice a0 n0 c0) ∧ n0 = left[d].length ∧ (0 < n0 → ∃ lb lo, a0 = some ⟨lb, lo, none⟩) ∧ n0 ≤ c0 := by
  obtain ⟨cs, hcs, a0, n0, c0, e, h0⟩ := Bod.get_ h hd
  rw [List.getElem?_map] at hcs
  cases hv : vs[d]? with
  | none => rw [hv] at hcs; cases hcs
  | some v =>
    rw [hv] at hcs
    have hcs : [v] = cs := Option.some.inj hcs
    rw [← hcs] at e
    simp only [List.cons.injEq, and_true] at e
    exact ⟨a0, n0, c0, by rw [e], h0.len.symm, fun hn => by obtain ⟨b, off, e2, _⟩ := h0.blk hn; exact ⟨b, off, e2⟩, h0.cap⟩
theorem bodR (h : (Bod Rll (vs.map fun v => [v]) left).at_ w F u) {d : Nat} (hd : d < left.length) {a0 : Option Addr} {n0 c0 : Nat} (hv : vs[d]? = some (.slice a0 n0 c0)) : SlR (Rint .i64) w F a0 n0 c0 left[d] := by
  obtain ⟨a1, n1, c1, e, h0⟩ := h.2 d [.slice a0 n0 c0] left[d] (by rw [List.getElem?_map, hv]; rfl) (List.getElem?_eq_getElem hd)
  cases e
  exact h0
end
theorem blkV {w : World} {b : Nat} {e : TypeId} {cs : List Value} (hb : w.heap[b]? = some (.cells ⟨cs⟩ e (0, 0))) {d : Nat} {z : Value} (hz : cs[d]? = some z) : w.cell? ⟨b, 0 + d, none⟩ = some z :=
  (Sl.of_blk (n := cs.length) (sz := 1) (off := 0) (xs := cs) hb (by rw [Nat.mul_one]) (fun j u hu => by rw [Nat.zero_add]; exact hu)).at_ (by have := (List.getElem?_eq_some_iff.1 hz).1; omega) hz
theorem Bod.put {α : Type} {R : Rep α} {w : World} {A : Nat → Prop} {v u : Value} {css : List (List Value)} {l : List α} (h : (Bod R css l).at_ w A v) {i : Nat} {cs : List Value} {x : α} (hx : R.at_ w A cs x) : (Bod R (css.set i cs) (l.set i x)).at_ w A u := by
  obtain ⟨h1, h2⟩ := h
  refine ⟨by simp [h1], fun j ds y hj hy => ?_⟩
  rw [List.getElem?_set] at hj hy
  by_cases hij : i = j
  · subst hij
    rw [if_pos rfl] at hj hy
    split at hj
    · split at hy
      · cases hj; cases hy; exact hx
      · cases hy
    · cases hj
  · rw [if_neg hij] at hj hy
    exact h2 j ds y hj hy
structure RA where
  c : Nat
  vs : List Value
  aL : Option Addr
  cL : Nat
  F : Nat → Prop
structure RJ where
  left : List (List Int)
  went : List Nat
  total : Int
  vs : List Value
  F : Nat → Prop
  N : List Int
  out : List (Nat × Nat)
  ao : Option Addr
  co : Nat
set_option maxHeartbeats 8000000 in
theorem rplan_ok (a : Option Addr) (n c : Nat) (ws : List Int) (a2 : Option Addr) (n2 c2 : Nat) (q : List (List Int)) (cap cls size : Int) (W : World) (hI : Ints .i64 W a n c ws) (hx : SlR Rll W TT a2 n2 c2 q) (hq1 : q.length ≤ 1048576) (hq2 : ∀ l ∈ q, l.length ≤ 1048576) :
    Calls Try.prog 16 #[.int .i64 cap, .slice a n c, .slice a2 n2 c2, .int .i64 cls, .int .i64 size] W fun e w' => ∃ out av cv, (fitsP cap ws q cls size → PlanR cap ws (left0 q cls size) (List.replicate n 0) (q.flatten.sum + size) out) ∧ (¬ fitsP cap ws q cls size → out = []) ∧
      e = .returned (.tuple #[.slice av out.length cv, .bool (decide (fitsP cap ws q cls size))]) ∧ Below W.heap.size W w' ∧ w'.ownsRow W.heap.size 33 2 (.slice av out.length cv) out.length (vcells out) := by
  have hlen := hI.len
  have hqn := hx.len
  refine enter5 Try.func16 rfl rfl (Hp.refl W) ?_
  repeat (first | refine T_seq ?_ | refine T_region ?_ | refine S_nil ?_ | refine S_pure tabOk rfl ?_)
  refine S_callq rfl Try.call48 (fun w1 h1 => rfits_ok a n c ws a2 n2 c2 q cap cls size w1 (ints_ext hI (h1.below (by repeat (first | exact new_nil)))) (hx.ext (h1.below (by repeat (first | exact new_nil)))) hq1 hq2) ?_
  by_cases hfit : fitsP cap ws q cls size
  · rw [decide_eq_true hfit]
    obtain ⟨hr, hf2, hf3, hf4, hf5, hf6, hf7, hf8, hf9, hf10⟩ := hfit
    have hfit : fitsP cap ws q cls size := ⟨hr, hf2, hf3, hf4, hf5, hf6, hf7, hf8, hf9, hf10⟩
    have hwl := hr.2.1
    have hwl1 := hr.1
    obtain ⟨k, hk⟩ : ∃ k : Nat, cls = (k : Int) := ⟨cls.toNat, by omega⟩
    subst hk
    have hkq : k < q.length := by omega
    obtain ⟨L0, hL0⟩ : ∃ L0, left0 q (k : Int) size = L0 := ⟨_, rfl⟩
    obtain ⟨hL0l, hL0k, hL0d, hL0n, hL0s, hL0m⟩ := left0_facts (size := size) hkq
    rw [hL0] at hL0l hL0k hL0d hL0n hL0s hL0m
    have hL0b : ∀ x ∈ L0.flatten, 0 ≤ x ∧ x ≤ 1048576 := fun x hx => (hL0m x hx).elim (hf9 x) (fun h => by omega)
    have hg : ∀ d (hd : d < q.length), q.getD d [] = q[d] := fun d hd => by rw [List.getD_eq_getElem?_getD, List.getElem?_eq_getElem hd]; rfl
    obtain ⟨w0, hw0r⟩ : ∃ w0, List.replicate n 0 = w0 := ⟨_, rfl⟩
    repeat (first | refine S_nil ?_ | refine S_pure tabOk rfl ?_)
    refine T_cond_f rfl ?_
    repeat (first | refine T_seq ?_ | refine T_region ?_ | refine S_nil ?_ | refine pthen_normal ?_ | refine T_skip ?_ | refine S_pure tabOk rfl ?_)
    let O1 : RA → OL := fun i => [.rep (fun w => (Bod Rll (i.vs.map fun v => [v]) (L0.take i.c)).at_ w i.F (.bool true)) i.F false, .row W.heap.size (.slice i.aL i.c i.cL) 22 1 i.c i.vs]
    refine T_cut (ι := RA) (fun i => i.c = n2 ∧ i.vs.length = n2 ∧ ∀ k, i.F k → W.heap.size ≤ k)
      (fun i => [(0, .int .i64 cap), (1, .slice a n c), (12, .slice i.aL i.c i.cL), (13, .int .i64 (q.flatten.sum + size))]) O1 ?_ ?_
    · refine T_block ?_
      refine T_loop (ι := RA)
        (fun i => [(0, .int .i64 cap), (1, .slice a n c), (3, .int .i64 (k : Int)), (4, .int .i64 size), (12, .slice i.aL i.c i.cL), (13, .int .i64 ((q.take i.c).flatten.sum + size)), (29, .slice a2 n2 c2), (30, .int .i64 (n2 : Int)), (31, .int .i64 (i.c : Int))])
        O1 (fun i => i.c ≤ n2 ∧ i.vs.length = i.c ∧ ∀ k, i.F k → W.heap.size ≤ k) (fun i => n2 - i.c) ⟨0, [], none, 0, fun _ => False⟩ ⟨Nat.zero_le _, rfl, fun k hk => hk.elim⟩ (by dsimp only; rw [List.take_zero, List.flatten_nil, List.sum_nil]; repeat (first | exact Sub.nil | refine Sub.cons rfl ?_ | refine Sub.cons_int rfl (by omega) ?_))
        (fun w' hw => (hw.nilRow _ _).addN (v := .bool true) (Bod Rll [] []) (fun w => Bod.nil_)) ?_
      rintro ⟨ci, vs, aL, cL, F⟩ ⟨hc, hvl, hF⟩
      dsimp only [O1] at hc hvl hF ⊢
      have htb := sum_bnd (B := 1048576) (by decide) (l := (q.take ci).flatten) (fun x hx => hf9 x (by
        obtain ⟨l, hl, hxl⟩ := List.mem_flatten.1 hx
        exact List.mem_flatten.2 ⟨l, List.mem_of_mem_take hl, hxl⟩))
      have htl : (q.take ci).flatten.length ≤ 65536 := by
        have : q.flatten = (q.take ci).flatten ++ (q.drop ci).flatten := by rw [← List.flatten_append, List.take_append_drop]
        rw [this, List.length_append] at hf10
        omega
      repeat (first | refine T_seq ?_ | refine T_region ?_ | refine S_nil ?_ | refine S_pure tabOk rfl ?_)
      refine T_cond_dec rfl (fun h => ?_) (fun h => ?_)
      · have hcq : ci < q.length := by omega
        obtain ⟨ab, off, a0, n0, c0, rfl, hJ, hce⟩ := row_read hx hcq
        have hJn := hJ.len
        have hqm : ∀ x ∈ q[ci], 0 ≤ x ∧ x ≤ 1048576 := fun x hx => hf9 x (List.mem_flatten.2 ⟨_, List.getElem_mem hcq, hx⟩)
        have hqi : q[ci].length ≤ 65536 := by have := getD_len q ci; rw [hg _ hcq] at this; omega
        have hqs := sum_bnd (B := 1048576) (by decide) hqm
        obtain ⟨l', hl'⟩ : ∃ l', L0.getD ci [] = l' := ⟨_, rfl⟩
        have hl'b : ∀ x ∈ l', 0 ≤ x ∧ x ≤ 1048576 := fun x hx => hL0b x (getD_mem (by rw [hl']; exact hx))
        have hL0c : L0[ci]'(by omega) = l' := by rw [← hl', List.getD_eq_getElem?_getD, List.getElem?_eq_getElem (show ci < L0.length by omega)]; rfl
        repeat (first | refine T_seq ?_ | refine T_region ?_ | refine T_block ?_ | refine pthen_normal ?_ | refine T_skip ?_ | refine S_pure tabOk rfl ?_)
        refine S_q (Q_idx1 tabOk rfl rfl rfl rfl rfl rfl rfl (j := ci) rfl (by omega)) ?_
        refine S_load1 tabOk (v := .slice a0 n0 c0) rfl rfl (fun w' hw => hce w' (hw.below (by repeat (first | exact new_nil | refine new_ro ?_ | refine newrow hw 1 rfl (Nat.le_refl _) ?_)))) ?_
        repeat (first | refine T_seq ?_ | refine T_region ?_ | refine S_nil ?_ | refine S_pure tabOk rfl ?_)
        refine S_bslice tabOk rfl rfl rfl rfl rfl rfl rfl rfl rfl rfl rfl rfl (fun b36 hb36 => ?_)
        refine S_heap (fun w' h => Hp.closeRow (pre := []) (n := 0) (c := 0) (sz := 1) (cs := []) h hb36 (by decide) (by decide) rfl) ?_
        repeat (first | refine S_pure tabOk rfl ?_)
        refine S_append (ty := 0) tabOk 0 rfl rfl rfl rfl rfl rfl rfl rfl rfl (by decide) (fun w' hw => hJ.sl.ext (hw.below (by repeat (first | exact new_nil | refine new_ro ?_ | refine newrow hw 0 rfl (Nat.le_refl _) ?_ | refine newrow hw 2 rfl (Nat.le_refl _) ?_)))) (fun u hu => by obtain ⟨z, _, rfl⟩ := List.mem_map.1 hu; rfl) (by simp only [maxLen]; omega) (by show (_ + _) * 8 ≤ _; omega) rfl (fun A1 C1 hc1 hd1 => ⟨_, rfl, ?_⟩)
        have e1 : List.take (0 * 1) ([] : List Value) ++ q[ci].map (Value.int .i64) = q[ci].map (.int .i64) := rfl
        rw [e1, Nat.zero_add]
        subst hJn
        repeat (first | refine T_seq ?_ | refine T_region ?_ | refine S_nil ?_ | refine S_pure tabOk rfl ?_)
        refine T_cut (ι := Option Addr × Nat) (fun _ => True)
          (fun i => [(0, .int .i64 cap), (1, .slice a n c), (3, .int .i64 (k : Int)), (4, .int .i64 size), (12, .slice aL ci cL), (13, .int .i64 ((q.take ci).flatten.sum + size)), (15, .slice a0 q[ci].length c0), (16, .slice i.1 l'.length i.2), (29, .slice (some ⟨ab, off, none⟩) n2 c2), (30, .int .i64 (n2 : Int)), (31, .int .i64 (ci : Int))])
          (fun i => [.row W.heap.size (.slice i.1 l'.length i.2) 3 1 l'.length (l'.map (.int .i64)), .rep (fun w => (Bod Rll (vs.map fun v => [v]) (L0.take ci)).at_ w F (.bool true)) F false, .row W.heap.size (.slice aL ci cL) 22 1 ci vs]) ?_ ?_
        · refine T_cond_dec rfl (fun heq => ?_) (fun hne => ?_)
          · have hci : ci = k := by omega
            have hle : l' = q[ci] ++ [size] := by rw [← hl', ← hg ci hcq, hci, hL0k]
            repeat (first | refine T_region ?_ | refine S_pure tabOk rfl ?_)
            refine S_bslice tabOk rfl rfl rfl rfl rfl rfl rfl rfl rfl rfl rfl rfl (fun b44 hb44 => ?_)
            refine S_append (ty := 0) tabOk 1 rfl rfl rfl rfl rfl rfl rfl rfl rfl (by decide) (fun w' hw => Sl.of_blk (xs := [.int .i64 size]) (hw.own _ (getE_mem (i := 0) rfl)) rfl (fun j u hu => by rw [Nat.zero_add]; exact hu)) (by intro u hu; rw [List.mem_singleton] at hu; subst hu; rfl) (by simp only [maxLen]; omega) (by show (_ + _) * 8 ≤ _; omega) rfl (fun A2 C2 hc2 hd2 => ⟨_, rfl, ?_⟩)
            have e3 : q[ci].map (Value.int .i64) ++ [.int .i64 size] = l'.map (.int .i64) := by rw [hle, List.map_append]; rfl
            have e4 : q[ci].length + 1 = l'.length := by rw [hle, List.length_append]; rfl
            rw [e3, e4]
            repeat (first | refine S_nil ?_ | refine S_pure tabOk rfl ?_)
            exact ⟨(A2, C2), trivial, by repeat (first | exact Sub.nil | refine Sub.cons rfl ?_), fun w' hw => hw.fewer (by repeat (first | exact new_nil | refine new_ro ?_ | refine new_cons (by first | assumption | omega) ?_ | refine newrow hw 1 rfl (Nat.le_refl _) ?_ | refine newrow hw 3 rfl (Nat.le_refl _) ?_)) (by repeat (first | exact List.Sublist.slnil | refine List.Sublist.cons_cons _ ?_ | refine List.Sublist.cons _ ?_))⟩
          · have hle : q[ci] = l' := by rw [← hl', hL0d ci (by omega), hg _ hcq]
            rw [hle]
            repeat (first | refine pthen_normal ?_ | refine T_skip ?_)
            exact ⟨(A1, C1), trivial, by repeat (first | exact Sub.nil | refine Sub.cons rfl ?_), fun w' hw => hw.fewer (by repeat (first | exact new_nil | refine new_ro ?_ | refine newrow hw 0 rfl (Nat.le_refl _) ?_ | refine newrow hw 2 rfl (Nat.le_refl _) ?_)) (by repeat (first | exact List.Sublist.slnil | refine List.Sublist.cons_cons _ ?_))⟩
        · rintro ⟨A3, C3⟩ _
          dsimp only
          refine T_share ((Rslice (Rint .i64)).vp l') (fun w hr => SlR.val (SlR.of_ints (ints_own hr (fun z hz => mk_i64 (by have := hl'b z hz; omega))) (fun b off hn e => by rw [e]; rfl))) (fun F1 hF1 => ?_)
          have ev : (vs ++ [Value.slice A3 l'.length C3]).map (fun v => [v]) = vs.map (fun v => [v]) ++ [[Value.slice A3 l'.length C3]] := by rw [List.map_append]; rfl
          have el : L0.take (ci + 1) = L0.take ci ++ [l'] := by rw [List.take_succ_eq_append_getElem (by omega), hL0c]
          refine T_addV (Bod Rll ((vs ++ [Value.slice A3 l'.length C3]).map fun v => [v]) (L0.take (ci + 1))) (fun _ => False) (v := .bool true) (fun w hw => by
            rw [ev, el]
            exact Bod.snoc (Vp.fact (A := fun _ => False) (p := Bod Rll (vs.map fun v => [v]) (L0.take ci)) hw 1 rfl (fun k hk => .inr (hF k hk))) ⟨_, _, _, rfl, SlR.of_val (Vp.fact (A := fun _ => False) (p := (Rslice (Rint .i64)).vp l') hw 0 rfl (fun k hk => .inr (hF1 k hk)))⟩) (fun F2 hF2 => ?_)
          repeat (first | refine T_seq ?_ | refine T_region ?_ | refine S_pure tabOk rfl ?_)
          refine S_bslice tabOk rfl rfl rfl rfl rfl rfl rfl rfl rfl rfl rfl rfl (fun b48 hb48 => ?_)
          refine S_append (ty := 0) tabOk 4 rfl rfl rfl rfl rfl rfl rfl rfl rfl (by decide) (fun w' hw => Sl.of_blk (xs := [.slice A3 l'.length C3]) (hw.own _ (getE_mem (i := 0) rfl)) rfl (fun j u hu => by rw [Nat.zero_add]; exact hu)) (by intro u hu; rw [List.mem_singleton] at hu; subst hu; rfl) (by simp only [maxLen]; omega) (by show (_ + _) * 24 ≤ _; omega) rfl (fun A4 C4 hc4 hd4 => ⟨_, rfl, ?_⟩)
          repeat (first | refine S_nil ?_ | refine S_pure tabOk rfl ?_ | refine T_region_any ?_)
          refine S_callq rfl Try.call21 (fun w1 h1 => rsum_ok a0 q[ci].length c0 q[ci] w1 (ints_ext hJ (h1.below (by repeat (first | exact new_nil | refine new_ro ?_ | refine new_cons (by first | assumption | omega) ?_ | refine newrow h1 4 rfl (Nat.le_refl _) ?_)))) hqm (by omega)) ?_
          repeat (first | refine T_region ?_ | refine S_nil ?_ | refine pthen_normal ?_ | refine inb_normal ?_ | refine S_i64 tabOk rfl (by omega) ?_ | refine S_pure tabOk rfl ?_)
          have et : (q.take (ci + 1)).flatten.sum = (q.take ci).flatten.sum + q[ci].sum := by rw [rows_take hcq, List.sum_append]
          exact ⟨⟨ci + 1, vs ++ [.slice A3 l'.length C3], A4, C4, F2⟩, ⟨by dsimp only; omega, by simp [hvl], fun k hk => (hF2 k hk).elim (fun h => h.elim) id⟩, by dsimp only; rw [et]; repeat (first | exact Sub.nil | refine Sub.cons rfl ?_ | refine Sub.cons_int rfl (by omega) ?_), fun w' hw => hw.fewer (by repeat (first | exact new_nil | refine new_ro ?_ | refine new_cons (by first | assumption | omega) ?_ | refine newrow hw 4 rfl (Nat.le_refl _) ?_)) (by repeat (first | exact List.Sublist.slnil | refine List.Sublist.cons_cons _ ?_ | refine List.Sublist.cons _ ?_)), by dsimp only; omega⟩
      · have hcn : ci = q.length := by omega
        subst hcn
        repeat (first | refine pthen_normal ?_ | refine inb_hit ?_ | refine pthen_exit ?_ | refine T_exit ?_)
        exact ⟨⟨q.length, vs, aL, cL, F⟩, ⟨hqn, by dsimp only; omega, hF⟩, by dsimp only; rw [List.take_length]; repeat (first | exact Sub.nil | refine Sub.cons rfl ?_), fun w' hw => hw⟩
    · rintro ⟨ci, vs, aL, cL, F⟩ ⟨hcn, hvl, hF⟩
      dsimp only [O1] at hcn hvl hF ⊢
      subst hcn
      clear O1
      rw [List.take_of_length_le (by omega)]
      have hL0t : L0.flatten.sum = q.flatten.sum + size := hL0s
      obtain ⟨T0, hT0⟩ : ∃ T0, q.flatten.sum + size = T0 := ⟨_, rfl⟩
      rw [hT0] at hL0t
      repeat (first | refine T_seq ?_ | refine T_region ?_ | refine S_nil ?_ | refine S_pure tabOk rfl ?_)
      refine S_make tabOk rfl rfl rfl rfl rfl rfl (m := n) (c := n) rfl rfl (Nat.le_refl _) (by show 8 * _ ≤ _; omega) (by omega) (fun bN hbN => ?_)
      have hmz : (madeCells #[.int .i64 0] (n * 1)).toList = (List.replicate n (0 : Int)).map (Value.int .i64) := by rw [made_one, List.map_replicate]
      show S _ _ _ _ _ _ (.blk bN (.cells ⟨(madeCells #[.int .i64 0] (n * 1)).toList⟩ _ (0, 0)) true :: _) _ _
      rw [hmz, hT0]
      refine S_toX (ι := Nat × List Value) (fun i => aL = some ⟨i.1, 0, none⟩ ∧ W.heap.size ≤ i.1 ∧ ci ≤ cL) (fun i => [.blk i.1 (.cells ⟨vs ++ i.2⟩ 22 (0, 0)) true, .blk bN (.cells ⟨(List.replicate n (0 : Int)).map (Value.int .i64)⟩ 3 (0, 0)) true, .rep (fun w => (Bod Rll (vs.map fun v => [v]) L0).at_ w F (.bool true)) F false]) (fun w hh => by
        have h1 := hh.perm (o' := [.blk bN (.cells ⟨(List.replicate n (0 : Int)).map (Value.int .i64)⟩ 3 (0, 0)) true, .row W.heap.size (.slice aL ci cL) 22 1 ci vs, .rep (fun w => (Bod Rll (vs.map fun v => [v]) L0).at_ w F (.bool true)) F false]) (List.Perm.cons _ (List.Perm.swap _ _ _))
        have h2 := h1.perm (List.Perm.swap _ _ _)
        obtain ⟨b, junk, e1, e2, e3, _, _, _, e4⟩ := Hp.openRow (pre := []) h2 (by omega)
        exact ⟨(b, junk), ⟨e1, e2, e3⟩, e4⟩) ?_
      rintro ⟨bL, junk⟩ ⟨rfl, hbL, hcL⟩
      dsimp only at hbL ⊢
      repeat (first | refine T_seq ?_ | refine S_nil ?_ | refine S_pure tabOk rfl ?_)
      let O2 : RJ → OL := fun i => [.blk bL (.cells ⟨i.vs ++ junk⟩ 22 (0, 0)) true, .rep (fun w => (Bod Rll (i.vs.map fun v => [v]) i.left).at_ w i.F (.bool true)) i.F false, .blk bN (.cells ⟨i.N.map (Value.int .i64)⟩ 3 (0, 0)) true, .row W.heap.size (.slice i.ao i.out.length i.co) 33 2 i.out.length (vcells i.out)]
      refine T_cut (ι := RJ) (fun i => PlanR cap ws L0 w0 T0 i.out) (fun i => [(17, .slice i.ao i.out.length i.co)]) (fun i => [.row W.heap.size (.slice i.ao i.out.length i.co) 33 2 i.out.length (vcells i.out)]) ?_ ?_
      · refine T_block ?_
        refine T_loop (ι := RJ)
          (fun i => [(0, .int .i64 cap), (1, .slice a n c), (12, .slice (some ⟨bL, 0, none⟩) ci cL), (13, .int .i64 i.total), (17, .slice i.ao i.out.length i.co), (18, .slice (some ⟨bN, 0, none⟩) n n)]) O2
          (fun i => i.left.flatten.sum = i.total ∧ (∀ x ∈ i.left.flatten, 0 ≤ x ∧ x ≤ 1048576) ∧ i.left.flatten.length + i.out.length ≤ 65537 ∧ (i.went.length = i.left.length ∧ i.left.length = ci ∧ i.vs.length = ci) ∧ (∀ k, i.F k → W.heap.size ≤ k) ∧ (i.N.length = n ∧ ∀ d, d < n → i.N[d]? = some (i.went.getD d 0 : Int)) ∧ (∀ d, i.went.getD d 0 ≤ i.out.length) ∧ (∀ out', PlanR cap ws i.left i.went i.total out' → PlanR cap ws L0 w0 T0 (i.out ++ out')))
          (fun i => i.left.flatten.length) ⟨L0, w0, T0, vs, F, List.replicate n 0, [], none, 0⟩ ?_ (by repeat (first | exact Sub.nil | refine Sub.cons rfl ?_)) (fun w' hw => by dsimp only [O2]; exact (hw.nilRow _ _).perm ((List.Perm.swap _ _ _).trans (List.Perm.cons _ ((List.Perm.swap _ _ _).trans (List.Perm.trans (List.Perm.cons _ (List.Perm.swap _ _ _)) (List.Perm.swap _ _ _))))) ) ?_
        · refine ⟨hL0t, hL0b, by dsimp only; rw [hL0n, List.length_nil]; omega, ⟨by dsimp only; rw [← hw0r, List.length_replicate]; omega, by dsimp only; omega, hvl⟩, hF, ⟨by dsimp only; simp, fun d hd => ?_⟩, fun d => ?_, fun out' h => h⟩
          · dsimp only
            rw [List.getElem?_replicate, if_pos hd, ← hw0r, List.getD_eq_getElem?_getD, List.getElem?_replicate, if_pos hd]
            rfl
          · dsimp only
            rw [← hw0r, List.getD_eq_getElem?_getD, List.getElem?_replicate]
            split <;> exact Nat.le_refl _
        rintro ⟨left, went, total, vs, F, N, out, ao, co⟩ ⟨hsum, hbd, hct, ⟨hwl2, hll, hvl⟩, hF, ⟨hNl, hN⟩, hwb, hpl⟩
        dsimp only [O2] at hsum hbd hct hwl2 hll hvl hF hNl hN hwb hpl ⊢
        have hsb := sum_bnd (B := 1048576) (by decide) hbd
        have hls : ∀ d, 0 ≤ (left.getD d []).sum ∧ (left.getD d []).sum ≤ 1099511627776 := fun d => by
          have h3 := sum_bnd (B := 1048576) (by decide) (l := left.getD d []) (fun x hx => hbd x (getD_mem hx))
          have h4 := getD_len left d
          omega
        have hgl : ∀ d (hd : d < left.length), left.getD d [] = left[d] := fun d hd => by rw [List.getD_eq_getElem?_getD, List.getElem?_eq_getElem hd]; rfl
        have hlb : ∀ d (hd : d < left.length), (∀ x ∈ left[d], 0 ≤ x ∧ x ≤ 1048576) ∧ left[d].length ≤ 65537 := fun d hd => ⟨fun x hx => hbd x (List.mem_flatten.2 ⟨_, List.getElem_mem hd, hx⟩), by have := getD_len left d; rw [hgl d hd] at this; omega⟩
        have hexc : ∀ d, d < n → ∀ (w1 : World), Ints .i64 w1 a n c ws → Calls Try.prog 22 #[.int .i64 cap, .slice a n c, .int .i64 (d : Int), .int .i64 (left.getD d []).sum] w1 fun e w' => e = .returned (.int .i64 (exL cap ws left d)) ∧ Below w1.heap.size w1 w' := fun d hd w1 h => by
          have h3 := hls d
          have := rexc_ok a n c ws cap (d : Int) (left.getD d []).sum w1 h (by omega) (by omega)
          rw [if_pos ⟨hr, by omega, by omega⟩, Int.toNat_natCast] at this
          exact this
        repeat (first | refine T_seq ?_ | refine T_region ?_ | refine S_nil ?_ | refine S_pure tabOk rfl ?_)
        refine T_cond_dec rfl (fun h => ?_) (fun h => ?_)
        · repeat (first | refine pthen_normal ?_ | refine T_skip ?_)
          refine T_block ?_
          repeat (first | refine T_seq ?_ | refine T_region ?_ | refine S_nil ?_ | refine S_pure tabOk rfl ?_)
          refine T_cut (ι := Nat) (fun m => Best cap ws left m) (fun m => [(0, .int .i64 cap), (1, .slice a n c), (12, .slice (some ⟨bL, 0, none⟩) ci cL), (13, .int .i64 total), (17, .slice ao out.length co), (18, .slice (some ⟨bN, 0, none⟩) n n), (19, .int .i64 (m : Int))]) (fun _ => O2 ⟨left, went, total, vs, F, N, out, ao, co⟩) ?_ ?_
          · refine T_block ?_
            refine T_loop (ι := Nat × Int)
              (fun i => [(0, .int .i64 cap), (1, .slice a n c), (12, .slice (some ⟨bL, 0, none⟩) ci cL), (13, .int .i64 total), (17, .slice ao out.length co), (18, .slice (some ⟨bN, 0, none⟩) n n), (19, .int .i64 i.2), (61, .slice (some ⟨bL, 0, none⟩) ci cL), (62, .int .i64 (ci : Int)), (63, .int .i64 (i.1 : Int))])
              (fun _ => O2 ⟨left, went, total, vs, F, N, out, ao, co⟩) (fun i => i.1 ≤ ci ∧ ((i.2 = -1 ∧ ∀ d, d < i.1 → left.getD d [] = []) ∨ ∃ m : Nat, i.2 = (m : Int) ∧ m < i.1 ∧ left.getD m [] ≠ [] ∧ ∀ d, d < i.1 → left.getD d [] ≠ [] → exL cap ws left d < exL cap ws left m ∨ (exL cap ws left d = exL cap ws left m ∧ m ≤ d))) (fun i => ci - i.1) (0, -1) ⟨Nat.zero_le _, .inl ⟨rfl, fun d hd => absurd hd (Nat.not_lt_zero _)⟩⟩ (by repeat (first | exact Sub.nil | refine Sub.cons rfl ?_)) (fun w' hw => hw) ?_
            rintro ⟨d, best⟩ ⟨hd, hbest⟩
            dsimp only [O2] at hd hbest ⊢
            repeat (first | refine T_seq ?_ | refine T_region ?_ | refine S_nil ?_ | refine S_pure tabOk rfl ?_)
            refine T_cond_dec rfl (fun h => ?_) (fun h => ?_)
            · have hdl : d < left.length := by omega
              refine T_kn (fun w hh => fun e (he : e < left.length) => bodK (Vp.fact0 (p := Bod Rll (vs.map fun v => [v]) left) hh 1 rfl) he) (fun hkn => ?_)
              obtain ⟨a0, n0, c0, hv0, hn0, _, _⟩ := hkn d hdl
              have hvj : (vs ++ junk)[d]? = some (.slice a0 n0 c0) := by rw [List.getElem?_append_left (by omega)]; exact hv0
              repeat (first | refine T_draw (by kernel_rfl) (by kernel_rfl) ?_ | refine D_pure tabOk rfl ?_ | refine T_seq ?_ | refine T_region ?_ | refine T_block ?_ | refine S_nil ?_ | refine pthen_normal ?_ | refine T_skip ?_ | refine S_pure tabOk rfl ?_)
              refine D_q (Q_idx1 tabOk rfl rfl rfl rfl rfl rfl rfl (j := d) rfl (by omega)) ?_
              refine D_load1 tabOk (v := .slice a0 n0 c0) rfl rfl (fun w' hw => blkV (hw.own _ (getE_mem (i := 0) rfl)) hvj) ?_
              repeat (first | refine D_pure tabOk rfl ?_)
              by_cases hne : left[d] = []
              · have hn00 : n0 = 0 := by rw [hn0, hne]; rfl
                refine D_re 72 rfl (congrArg Value.bool (decide_eq_false (by omega))) ?_
                repeat (first | refine D_all rfl ?_ | refine D_pure tabOk rfl ?_ | refine D_pass rfl rfl rfl ?_)
                refine T_cond_f rfl ?_
                repeat (first | refine T_region ?_ | refine S_nil ?_ | refine pthen_normal ?_ | refine inb_normal ?_ | refine T_skip ?_ | refine S_i64 tabOk rfl (by omega) ?_ | refine S_pure tabOk rfl ?_)
                refine ⟨(d + 1, best), ⟨by dsimp only; omega, ?_⟩, by dsimp only; repeat (first | exact Sub.nil | refine Sub.cons rfl ?_), fun w' hw => hw, by dsimp only; omega⟩
                rcases hbest with ⟨h1, h2⟩ | ⟨m, h1, h2, h3, h4⟩
                · refine .inl ⟨h1, fun d2 hd2 => ?_⟩
                  rcases Nat.lt_succ_iff_lt_or_eq.1 hd2 with h | h
                  · exact h2 d2 h
                  · rw [h, hgl d hdl, hne]
                · refine .inr ⟨m, h1, by dsimp only; omega, h3, fun d2 hd2 hn2 => ?_⟩
                  rcases Nat.lt_succ_iff_lt_or_eq.1 hd2 with h | h
                  · exact h4 d2 h hn2
                  · rw [h, hgl d hdl, hne] at hn2; exact absurd rfl hn2
              · have hn00 : 0 < n0 := by rw [hn0]; exact List.length_pos_iff.2 hne
                have hned : left.getD d [] ≠ [] := by rw [hgl d hdl]; exact hne
                refine D_re 72 rfl (congrArg Value.bool (decide_eq_true (by omega))) ?_
                repeat (first | refine D_pure tabOk rfl ?_)
                rcases hbest with ⟨h1, h2⟩ | ⟨m, h1, h2, h3, h4⟩
                · refine D_re 75 rfl (congrArg Value.bool (decide_eq_true (by omega))) ?_
                  repeat (first | refine D_all rfl ?_ | refine D_pure tabOk rfl ?_ | refine D_pass rfl rfl rfl ?_)
                  refine T_cond_t rfl ?_
                  repeat (first | refine T_region ?_ | refine S_nil ?_ | refine pthen_normal ?_ | refine inb_normal ?_ | refine S_i64 tabOk rfl (by omega) ?_ | refine S_pure tabOk rfl ?_ | refine T_region_any ?_)
                  refine ⟨(d + 1, (d : Int)), ⟨by dsimp only; omega, .inr ⟨d, rfl, by dsimp only; omega, hned, fun d2 hd2 hn2 => ?_⟩⟩, by dsimp only; repeat (first | exact Sub.nil | refine Sub.cons rfl ?_), fun w' hw => hw, by dsimp only; omega⟩
                  rcases Nat.lt_succ_iff_lt_or_eq.1 hd2 with h | h
                  · exact absurd (h2 d2 h) hn2
                  · subst h
                    exact .inr ⟨rfl, Nat.le_refl _⟩
                · subst h1
                  have hml : m < left.length := by omega
                  obtain ⟨a1, n1, c1, hv1, hn1, _, _⟩ := hkn m hml
                  have hvj1 : (vs ++ junk)[m]? = some (.slice a1 n1 c1) := by rw [List.getElem?_append_left (by omega)]; exact hv1
                  refine D_re 75 rfl (congrArg Value.bool (decide_eq_false (by omega))) ?_
                  repeat (first | refine D_pure tabOk rfl ?_)
                  refine D_q (Q_idx1 tabOk rfl rfl rfl rfl rfl rfl rfl (j := d) rfl (by omega)) ?_
                  refine D_load1 tabOk (v := .slice a0 n0 c0) rfl rfl (fun w' hw => blkV (hw.own _ (getE_mem (i := 0) rfl)) hvj) ?_
                  refine D_callx rfl Try.call21 (v := .int .i64 (left.getD d []).sum) (fun w' vs1 hw' h9 => by obtain ⟨_, _, rfl, rfl, rfl⟩ := h9; rw [hgl d hdl]; exact rsum_ok a0 n0 c0 left[d] w' (bodR (Vp.fact0 (p := Bod Rll (vs.map fun v => [v]) left) hw' 1 rfl) hdl hv0).ints (hlb d hdl).1 (by have := (hlb d hdl).2; omega)) ?_
                  refine D_callx rfl Try.call22 (v := .int .i64 (exL cap ws left d)) (fun w' vs1 hw' h9 => by obtain ⟨_, _, rfl, rfl, _, _, rfl, rfl, _, _, rfl, rfl, _, _, rfl, rfl, rfl⟩ := h9; exact hexc d (by omega) w' (ints_ext hI (hw'.below (by repeat (first | exact new_nil | refine new_ro ?_ | refine new_cons (by first | assumption | omega) ?_ | refine newrow hw' 3 rfl (Nat.le_refl _) ?_))))) ?_
                  repeat (first | refine D_pure tabOk rfl ?_)
                  refine D_q (Q_idx1 tabOk rfl rfl rfl rfl rfl rfl rfl (j := m) rfl (by omega)) ?_
                  refine D_load1 tabOk (v := .slice a1 n1 c1) rfl rfl (fun w' hw => blkV (hw.own _ (getE_mem (i := 0) rfl)) hvj1) ?_
                  refine D_callx rfl Try.call21 (v := .int .i64 (left.getD m []).sum) (fun w' vs1 hw' h9 => by obtain ⟨_, _, rfl, rfl, rfl⟩ := h9; rw [hgl m hml]; exact rsum_ok a1 n1 c1 left[m] w' (bodR (Vp.fact0 (p := Bod Rll (vs.map fun v => [v]) left) hw' 1 rfl) hml hv1).ints (hlb m hml).1 (by have := (hlb m hml).2; omega)) ?_
                  refine D_callx rfl Try.call22 (v := .int .i64 (exL cap ws left m)) (fun w' vs1 hw' h9 => by obtain ⟨_, _, rfl, rfl, _, _, rfl, rfl, _, _, rfl, rfl, _, _, rfl, rfl, rfl⟩ := h9; exact hexc m (by omega) w' (ints_ext hI (hw'.below (by repeat (first | exact new_nil | refine new_ro ?_ | refine new_cons (by first | assumption | omega) ?_ | refine newrow hw' 3 rfl (Nat.le_refl _) ?_))))) ?_
                  repeat (first | refine D_all rfl ?_ | refine D_pure tabOk rfl ?_)
                  refine T_cond_dec rfl (fun hgt => ?_) (fun hle => ?_)
                  · repeat (first | refine T_region ?_ | refine S_nil ?_ | refine pthen_normal ?_ | refine inb_normal ?_ | refine S_i64 tabOk rfl (by omega) ?_ | refine S_pure tabOk rfl ?_ | refine T_region_any ?_)
                    refine ⟨(d + 1, (d : Int)), ⟨by dsimp only; omega, .inr ⟨d, rfl, by dsimp only; omega, hned, fun d2 hd2 hn2 => ?_⟩⟩, by dsimp only; repeat (first | exact Sub.nil | refine Sub.cons rfl ?_), fun w' hw => hw, by dsimp only; omega⟩
                    rcases Nat.lt_succ_iff_lt_or_eq.1 hd2 with h | h
                    · have := h4 d2 h hn2
                      omega
                    · subst h
                      exact .inr ⟨rfl, Nat.le_refl _⟩
                  · repeat (first | refine T_region ?_ | refine S_nil ?_ | refine pthen_normal ?_ | refine inb_normal ?_ | refine T_skip ?_ | refine S_i64 tabOk rfl (by omega) ?_ | refine S_pure tabOk rfl ?_)
                    refine ⟨(d + 1, (m : Int)), ⟨by dsimp only; omega, .inr ⟨m, rfl, by dsimp only; omega, h3, fun d2 hd2 hn2 => ?_⟩⟩, by dsimp only; repeat (first | exact Sub.nil | refine Sub.cons rfl ?_), fun w' hw => hw, by dsimp only; omega⟩
                    rcases Nat.lt_succ_iff_lt_or_eq.1 hd2 with h | h
                    · exact h4 d2 h hn2
                    · subst h
                      omega
            · have hdn : d = ci := by omega
              subst hdn
              rcases hbest with ⟨h1, h2⟩ | ⟨m, h1, h2, h3, h4⟩
              · exfalso
                have hfl0 : left.flatten = [] := by
                  rw [List.flatten_eq_nil_iff]
                  intro l hl
                  obtain ⟨d2, hd2, rfl⟩ := List.mem_iff_getElem.1 hl
                  rw [← hgl d2 hd2]
                  exact h2 d2 (by omega)
                rw [hfl0] at hsum
                simp at hsum
                omega
              · subst h1
                repeat (first | refine pthen_normal ?_ | refine inb_hit ?_ | refine pthen_exit ?_ | refine T_exit ?_)
                exact ⟨m, ⟨h3, fun d2 hn2 => h4 d2 (by have := getD_lt hn2; omega) hn2⟩, by repeat (first | exact Sub.nil | refine Sub.cons rfl ?_), fun w' hw => hw⟩
          · intro m hbest
            dsimp only [O2]
            have hml : m < left.length := getD_lt hbest.1
            obtain ⟨x, xs, hx⟩ : ∃ x xs, left.getD m [] = x :: xs := by
              cases h : left.getD m [] with
              | nil => exact absurd h hbest.1
              | cons x xs => exact ⟨x, xs, rfl⟩
            obtain ⟨hf1, hf22, hf33, hf44⟩ := flat_set hx
            have hxb := hbd x hf44
            have hlm : left[m] = x :: xs := by rw [← hgl m hml]; exact hx
            have hwm := hwb m
            refine T_kn (fun w hh => bodK (Vp.fact0 (p := Bod Rll (vs.map fun v => [v]) left) hh 1 rfl) hml) (fun hkn => ?_)
            obtain ⟨a0, n0, c0, hv0, hn0, ha0, hnc0⟩ := hkn
            rw [hlm, List.length_cons] at hn0
            obtain ⟨lb, lo, rfl⟩ := ha0 (by omega)
            have hvj : (vs ++ junk)[m]? = some (.slice (some ⟨lb, lo, none⟩) n0 c0) := by rw [List.getElem?_append_left (by omega)]; exact hv0
            have hrd : ∀ (w : World) G, (Bod Rll (vs.map fun v => [v]) left).at_ w G (.bool true) → SlR (Rint .i64) w G (some ⟨lb, lo, none⟩) n0 c0 (x :: xs) := fun w G h => by
              have := bodR h hml hv0
              rw [hlm] at this
              exact this
            have hpl2 : ∀ out', PlanR cap ws (left.set m xs) (went.set m (went.getD m 0 + 1)) (total - x) out' → PlanR cap ws L0 w0 T0 ((out ++ [(m, went.getD m 0)]) ++ out') := fun out' ho => by
              have := hpl _ (PlanR.step (by omega) hbest hx ho)
              rw [List.append_assoc]
              exact this
            obtain ⟨g, hge⟩ : ∃ g, went.getD m 0 = g := ⟨_, rfl⟩
            have hNm := hN m (by omega)
            rw [hge] at hwm hpl2 hNm
            repeat (first | refine T_seq ?_ | refine T_region ?_ | refine S_pure tabOk rfl ?_)
            refine S_q (Q_idx1 tabOk rfl rfl rfl rfl rfl rfl rfl (j := m) rfl (by omega)) ?_
            refine S_load1 tabOk (v := .int .i64 (g : Int)) rfl rfl (fun w' hw => blkV (hw.own _ (getE_mem (i := 2) rfl)) (by rw [List.getElem?_map, hNm]; rfl)) ?_
            repeat (first | refine S_q (Q_build tabOk rfl rfl rfl rfl rfl rfl rfl) ?_)
            refine S_bslice tabOk rfl rfl rfl rfl rfl rfl rfl rfl rfl rfl rfl rfl (fun b106 hb106 => ?_)
            refine S_append (ty := 0) tabOk 4 rfl rfl rfl rfl rfl rfl rfl rfl rfl (by decide) (fun w' hw => Sl.of_blk (xs := [.int .i64 (m : Int), .int .i64 (g : Int)]) (hw.own _ (getE_mem (i := 0) rfl)) rfl (fun j u hu => by rw [Nat.zero_add]; exact hu)) (by intro u hu; simp only [List.mem_cons, List.not_mem_nil, or_false] at hu; rcases hu with rfl | rfl <;> rfl) (by simp only [maxLen]; omega) (by show (_ + _) * 16 ≤ _; omega) rfl (fun AO CO hcO hdO => ⟨_, rfl, ?_⟩)
            have hvc : vcells out ++ [.int .i64 (m : Int), .int .i64 (g : Int)] = vcells (out ++ [(m, g)]) := by unfold vcells; rw [List.map_append, List.flatten_append]; rfl
            have hol : out.length + 1 = (out ++ [(m, g)]).length := by simp
            rw [hvc, hol]
            repeat (first | refine T_seq ?_ | refine T_region ?_ | refine S_nil ?_ | refine S_pure tabOk rfl ?_)
            refine S_q (Q_idx1 tabOk rfl rfl rfl rfl rfl rfl rfl (j := m) rfl (by omega)) ?_
            refine S_load1 tabOk (v := .int .i64 (g : Int)) rfl rfl (fun w' hw => blkV (hw.own _ (getE_mem (i := 3) rfl)) (by rw [List.getElem?_map, hNm]; rfl)) ?_
            repeat (first | refine S_i64 tabOk rfl (by omega) ?_)
            refine S_q (Q_idx1 tabOk rfl rfl rfl rfl rfl rfl rfl (j := m) rfl (by omega)) ?_
            refine S_store tabOk 3 rfl rfl rfl rfl (cs' := (N.set m ((g : Int) + 1)).map (Value.int .i64)) (by rw [Nat.zero_add, setMany_one (by rw [List.length_map]; omega), List.map_set]) rfl ?_
            repeat (first | refine T_seq ?_ | refine T_region ?_ | refine S_nil ?_ | refine S_pure tabOk rfl ?_)
            refine S_q (Q_idx1 tabOk rfl rfl rfl rfl rfl rfl rfl (j := m) rfl (by omega)) ?_
            refine S_load1 tabOk (v := .slice (some ⟨lb, lo, none⟩) n0 c0) rfl rfl (fun w' hw => blkV (hw.own _ (getE_mem (i := 1) rfl)) hvj) ?_
            refine S_q (Q_idx1 tabOk rfl rfl rfl rfl rfl rfl rfl (j := 0) rfl (by omega)) ?_
            refine S_load1 tabOk (v := .int .i64 x) rfl rfl (fun w' hw => (hrd w' _ (Vp.fact0 (p := Bod Rll (vs.map fun v => [v]) left) hw 2 rfl)).ints.sl.at_ (by omega) rfl) ?_
            repeat (first | refine S_nil ?_ | refine S_i64 tabOk rfl (by omega) ?_ | refine S_pure tabOk rfl ?_ | refine T_region_any ?_)
            refine S_q (Q_idx1 tabOk rfl rfl rfl rfl rfl rfl rfl (j := m) rfl (by omega)) ?_
            refine S_load1 tabOk (v := .slice (some ⟨lb, lo, none⟩) n0 c0) rfl rfl (fun w' hw => blkV (hw.own _ (getE_mem (i := 1) rfl)) hvj) ?_
            refine S_q (Q_sliceFrom (sz := 1) tabOk rfl rfl rfl rfl rfl rfl rfl (L := 1) rfl (by omega) hnc0) ?_
            obtain ⟨sl, hsl⟩ : ∃ sl : Value, sl = .slice (if c0 = 1 then some ⟨lb, lo, none⟩ else Option.map (fun x : Addr => x.add (1 * 1)) (some (⟨lb, lo, none⟩ : Addr))) (n0 - 1) (c0 - 1) := ⟨_, rfl⟩
            refine S_q (Q_idx1 tabOk rfl rfl rfl rfl rfl rfl rfl (j := m) rfl (by omega)) ?_
            refine S_store tabOk 1 rfl rfl rfl rfl (cs' := vs.set m sl ++ junk) (by rw [Nat.zero_add, hsl, setMany_one (by rw [List.length_append]; omega), List.set_append_left _ _ (by omega)]) rfl ?_
            refine S_addV (Bod Rll ((vs.set m sl).map fun v => [v]) (left.set m xs)) (fun _ => False) (v := .bool true) (fun w hw => by
              have h1 := Vp.fact (A := fun _ => False) (p := Bod Rll (vs.map fun v => [v]) left) hw 2 rfl (fun k hk => .inr (hF k hk))
              rw [List.map_set]
              exact Bod.put h1 ⟨_, _, _, by rw [hsl]; rfl, (hrd w _ h1).drop (k := 1) (by omega)⟩) (fun F4 hF4 => ?_)
            repeat (first | refine S_nil ?_ | refine pthen_normal ?_ | refine inb_normal ?_)
            refine ⟨⟨left.set m xs, went.set m (g + 1), total - x, vs.set m sl, F4, N.set m ((g : Int) + 1), out ++ [(m, g)], AO, CO⟩, ⟨by dsimp only; omega, fun y hy => hbd y (hf33 y hy), by dsimp only; omega, ⟨by dsimp only; rw [List.length_set, List.length_set]; exact hwl2, by dsimp only; rw [List.length_set]; exact hll, by dsimp only; rw [List.length_set]; exact hvl⟩, fun k hk => (hF4 k hk).elim (fun h => h.elim) id, ⟨by dsimp only; rw [List.length_set]; exact hNl, fun d hd => ?_⟩, fun d => ?_, hpl2⟩, by dsimp only; repeat (first | exact Sub.nil | refine Sub.cons rfl ?_), fun w' hw => ?_, by dsimp only; omega⟩
            · dsimp only
              rw [getD_set _ _ _ _ _ (by omega), List.getElem?_set]
              by_cases hdc : m = d
              · rw [if_pos hdc, if_pos (by omega), if_pos hdc.symm]
                rfl
              · rw [if_neg hdc, if_neg (fun h => hdc h.symm)]
                exact hN d hd
            · dsimp only
              rw [getD_set _ _ _ _ _ (by omega), ← hol]
              have h1 := hwb d
              split <;> omega
            · dsimp only
              refine Hp.perm ?_ (List.Perm.swap _ _ _)
              exact hw.fewer (by repeat (first | exact new_nil | refine new_ro ?_ | refine new_cons (by first | assumption | omega) ?_ | refine newrow hw 5 rfl (Nat.le_refl _) ?_)) (by repeat (first | exact List.Sublist.slnil | refine List.Sublist.cons_cons _ ?_ | refine List.Sublist.cons _ ?_))
        · repeat (first | refine pthen_normal ?_ | refine inb_hit ?_ | refine pthen_exit ?_ | refine T_exit ?_)
          exact ⟨⟨left, went, total, vs, F, N, out, ao, co⟩, by have := hpl [] (.stop (by omega)); rw [List.append_nil] at this; exact this, by repeat (first | exact Sub.nil | refine Sub.cons rfl ?_), fun w' hw => hw.fewer (by repeat (first | exact new_nil | refine new_ro ?_ | refine new_cons (by first | assumption | omega) ?_ | refine newrow hw 3 rfl (Nat.le_refl _) ?_)) (by repeat (first | exact List.Sublist.slnil | refine List.Sublist.cons_cons _ ?_ | refine List.Sublist.cons _ ?_))⟩
      · rintro ⟨left, went, total, vs2, F2, N, out, ao, co⟩ hpl
        dsimp only at hpl ⊢
        clear O2
        repeat (first | refine T_seq ?_ | refine T_region ?_ | refine S_nil ?_ | refine T_ret ?_ | refine S_pure tabOk rfl ?_)
        exact ret2 rfl rfl rfl (fun w' hw => ⟨out, ao, co, fun _ => by rw [hL0, hw0r]; exact hpl, fun h => absurd hfit h, rfl, hw.below (by repeat (first | exact new_nil | refine newrow hw 0 rfl (Nat.le_refl _) ?_)), hw.own _ (getE_mem (i := 0) rfl)⟩)
  · rw [decide_eq_false hfit]
    repeat (first | refine S_nil ?_ | refine S_pure tabOk rfl ?_)
    refine T_cond_t rfl ?_
    repeat (first | refine T_seq ?_ | refine T_region ?_ | refine S_nil ?_ | refine pthen_ret ?_ | refine T_ret ?_ | refine S_pure tabOk rfl ?_)
    exact ret2 rfl rfl rfl (fun w' hw => ⟨[], none, 0, fun h => absurd h hfit, fun _ => rfl, rfl, hw.below (by repeat (first | exact new_nil)), rfl, .inl ⟨rfl, rfl⟩⟩)

end Go.Proofs.Yteogkadjambmkaa
