/-
  An In in the caller's hands; awake; the walk of PackNumbers. Conditions: each theorem's own.
-/
import Derived.Test.YtcnpfempfgljfaaPkD
namespace Go.Proofs.Ytcnpfempfgljfaa
open Go Go.RowKit
set_option linter.unusedVariables false

theorem pw_mem {α : Type} {R : α → α → Prop} (hsym : ∀ x y, R x y → R y x) : ∀ {l : List α} {x y : α}, l.Pairwise R → x ∈ l → y ∈ l → x ≠ y → R x y
  | [], _, _, _, h, _, _ => by cases h
  | z :: l, x, y, hp, hx, hy, hne => by
    rw [List.pairwise_cons] at hp
    rcases List.mem_cons.1 hx with e1 | hx1
    · subst e1
      rcases List.mem_cons.1 hy with e2 | hy1
      · exact absurd e2.symm hne
      · exact hp.1 y hy1
    · rcases List.mem_cons.1 hy with e2 | hy1
      · subst e2
        exact hsym _ _ (hp.1 x hx1)
      · exact pw_mem hsym hp.2 hx1 hy1 hne
theorem Hp.append_new {w0 w w' : World} {ol new : OL} (h : Hp w0 w ol) (h2 : Hp w w' new) (hn : ∀ e ∈ new, e.ex = true → ∀ k, e.has k → w.heap.size ≤ k) (hxx : ∀ e ∈ new, e.ex = true) : Hp w0 w' (new ++ ol) := by
  have hb := h2.below hn
  have h3 := h.ext hb
  refine ⟨h3.os, h3.tape, h3.output, h3.size, fun k hk he => h3.old k hk fun e hm => he e (List.mem_append.2 (.inr hm)), fun e he => ?_, ?_⟩
  · rcases List.mem_append.1 he with he | he
    · exact h2.own e he
    · exact h3.own e he
  · rw [List.pairwise_append]
    exact ⟨h2.apart, h3.apart, fun x hx y hy _ k hk hk' => by
      have e1 := hn x hx (hxx x hx) k hk
      have e2 := h.lt hy hk'
      omega⟩
theorem Hp.reb {w0 w : World} {pre post : OL} {b b' : Nat} {v : Value} {e : TypeId} {sz m : Nat} {xs : List Value} (h : Hp w0 w (pre ++ .row b v e sz m xs :: post)) (hb : b' ≤ b) : Hp w0 w (pre ++ .row b' v e sz m xs :: post) :=
  h.turn (x' := .row b' v e sz m xs) rfl rfl rfl rfl (Nat.le_refl _) (fun _ _ _ => rfl) (own_rebase (h.own _ (List.mem_append.2 (.inr List.mem_cons_self))) hb) (fun k hk => .inl hk) (fun k hk => .inr hk)
/-- A block and a row are not in one another. -/
theorem Hp.dis {w0 w : World} {o : OL} (h : Hp w0 w o) (i j : Nat) {b base : Nat} {x : Obj} {e : TypeId} {sz m c : Nat} {A : Option Addr} {xs : List Value} (hi : getE o i = some (.blk b x true)) (hj : getE o j = some (.row base (.slice A m c) e sz m xs)) : ∀ b' off, A = some ⟨b', off, none⟩ → b' ≠ b := by
  rintro b' off rfl rfl
  have := pw_mem (fun _ _ => Dis.symm) h.apart (getE_mem hi) (getE_mem hj) (by intro hh; cases hh)
  exact this rfl b' rfl rfl

section
variable {P : Program} {n : Nat} {w0 : World} {all : Array Oper} {os : List Oper} {o : Oper} {l : FL} {ol : OL} {K : FL → OL → Prop} {Q : Post}
theorem S_callof {d m : Nat} {f : FuncId} {vs xs : List Value} (hs : callAt? n all (look l) o = some (d, f, vs)) (hcall : ∀ args w, (callFunc f args).run P w = .ok (.enter f args) w)
    (hc : ∀ w, Hp w0 w ol → Calls P f vs.toArray w (fun e w' => ∃ b a c, e = .returned (.pointer (some ⟨b, 0, none⟩)) ∧ Hp w w' [.blk b (inO a m c 0) true, .row w.heap.size (.slice a m c) 5 1 m xs] ∧ w.heap.size ≤ b))
    (k : ∀ b a c, w0.heap.size ≤ b → S P n w0 all os ((d, .pointer (some ⟨b, 0, none⟩)) :: l) (.blk b (inO a m c 0) true :: .row w0.heap.size (.slice a m c) 5 1 m xs :: ol) K Q) : S P n w0 all (o :: os) l ol K Q :=
  S_call hs hcall fun w hh => (hc w hh).mono fun e w' ⟨b, a, c, he, h2, hb⟩ => ⟨_, _, he, by
    have h3 := hh.append_new h2 (new_cons hb (newrow h2 1 rfl (Nat.le_refl _) new_nil)) (fun e he => by
      simp only [List.mem_cons, List.not_mem_nil, or_false] at he
      rcases he with rfl | rfl <;> rfl)
    exact Hp.reb (pre := [.blk b (inO a m c 0) true]) h3 hh.size, k b a c (Nat.le_trans hh.size hb)⟩
end
theorem nilInts {k : IntKind} (w : World) : Ints k w none 0 0 [] := ⟨rfl, Nat.le_refl _, Nat.zero_le _, fun _ => ⟨rfl, rfl⟩, fun z hz => (by cases hz), Sl.nil_⟩

theorem enc300 : enc 300 = [172, 2] := by
  rw [enc_big (by decide), enc_small (by decide)]
  rfl
theorem fits_lit2 {x y : Int} (hx : 0 ≤ x ∧ x ≤ 255) (hy : 0 ≤ y ∧ y ≤ 255) : ∀ z ∈ [x, y], Fits .u8 z := by
  intro z hz
  simp only [List.mem_cons, List.not_mem_nil, or_false] at hz
  rcases hz with rfl | rfl
  · exact fits8 hx
  · exact fits8 hy
theorem ints_lit {w : World} {b : Nat} {e : TypeId} {fz : Nat × Nat} {n : Nat} {zs : List Int} (hb : w.heap[b]? = some (.cells ⟨zs.map (.int .u8)⟩ e fz)) (hl : zs.length = n) (hf : ∀ z ∈ zs, Fits .u8 z) (hn : n ≤ maxLen) : Ints .u8 w (some ⟨b, 0, none⟩) n n zs :=
  ⟨hl, Nat.le_refl _, hn, fun e => (by cases e), hf, Sl.of_blk hb (by rw [List.length_map, hl, Nat.mul_one]) fun j u hu => by rw [Nat.zero_add]; exact hu⟩

theorem awake2_ok (w : World) : Calls Try.prog 13 #[] w fun e w' => e = .returned (.bool true) ∧ Below w.heap.size w w' := by
  refine enter0 Try.func13 rfl (Hp.refl w) ?_
  repeat (first | refine T_draw (by kernel_rfl) (by kernel_rfl) ?_ | refine D_all rfl ?_ | refine D_i64 tabOk rfl (by omega) ?_ | refine D_pure tabOk rfl ?_ | refine D_pass rfl rfl rfl ?_ | refine D_load tabOk 0 rfl rfl rfl ?_ | refine D_load tabOk 1 rfl rfl rfl ?_ | refine D_load tabOk 2 rfl rfl rfl ?_ | refine T_seq ?_ | refine T_region ?_ | refine T_block ?_ | refine S_nil ?_ | refine pthen_normal ?_ | refine inb_normal ?_ | refine inb_ret ?_ | refine pthen_ret ?_ | refine inb_hit ?_ | refine pthen_exit ?_ | refine T_skip ?_ | refine T_ret ?_ | refine T_exit ?_  | refine S_i64 tabOk rfl (by omega) ?_ | refine S_pure tabOk rfl ?_ | refine S_pass rfl rfl rfl ?_ | refine S_pass0 rfl rfl ?_ | refine T_region_any ?_  | refine S_load tabOk 0 rfl rfl rfl ?_ | refine S_load tabOk 1 rfl rfl rfl ?_ | refine S_load tabOk 2 rfl rfl rfl ?_ | refine S_load tabOk 3 rfl rfl rfl ?_ | refine S_store tabOk 0 rfl rfl rfl rfl rfl rfl ?_ | refine S_store tabOk 1 rfl rfl rfl rfl rfl rfl ?_ | refine S_store tabOk 2 rfl rfl rfl rfl rfl rfl ?_ | refine S_store tabOk 3 rfl rfl rfl rfl rfl rfl ?_ | refine S_q (Q_build tabOk rfl rfl rfl rfl rfl rfl rfl) ?_)
  refine S_bslice tabOk rfl rfl rfl rfl rfl rfl rfl rfl rfl rfl rfl rfl (fun b hb => ?_)
  refine S_callof rfl Try.call19 (fun w1 h1 => of_ok (some ⟨b, 0, none⟩) 2 2 [128, 0] w1 (ints_lit (h1.own _ (getE_mem (i := 0) rfl)) rfl (fits_lit2 (by decide) (by decide)) (by simp only [maxLen]; omega)) (by decide)) (fun b1 a1 c1 hb1 => ?_)
  repeat (first | refine T_draw (by kernel_rfl) (by kernel_rfl) ?_ | refine D_all rfl ?_ | refine D_i64 tabOk rfl (by omega) ?_ | refine D_pure tabOk rfl ?_ | refine D_pass rfl rfl rfl ?_ | refine D_load tabOk 0 rfl rfl rfl ?_ | refine D_load tabOk 1 rfl rfl rfl ?_ | refine D_load tabOk 2 rfl rfl rfl ?_ | refine T_seq ?_ | refine T_region ?_ | refine T_block ?_ | refine S_nil ?_ | refine pthen_normal ?_ | refine inb_normal ?_ | refine inb_ret ?_ | refine pthen_ret ?_ | refine inb_hit ?_ | refine pthen_exit ?_ | refine T_skip ?_ | refine T_ret ?_ | refine T_exit ?_  | refine S_i64 tabOk rfl (by omega) ?_ | refine S_pure tabOk rfl ?_ | refine S_pass rfl rfl rfl ?_ | refine S_pass0 rfl rfl ?_ | refine T_region_any ?_  | refine S_load tabOk 0 rfl rfl rfl ?_ | refine S_load tabOk 1 rfl rfl rfl ?_ | refine S_load tabOk 2 rfl rfl rfl ?_ | refine S_load tabOk 3 rfl rfl rfl ?_ | refine S_store tabOk 0 rfl rfl rfl rfl rfl rfl ?_ | refine S_store tabOk 1 rfl rfl rfl rfl rfl rfl ?_ | refine S_store tabOk 2 rfl rfl rfl rfl rfl rfl ?_ | refine S_store tabOk 3 rfl rfl rfl rfl rfl rfl ?_ | refine S_q (Q_build tabOk rfl rfl rfl rfl rfl rfl rfl) ?_)
  refine S_callrow rfl Try.call16 (fun w1 h1 => num_ok none 0 0 [] 300 w1 (nilInts w1) (by decide) (by decide)) (fun a2 c2 hc2 hd2 => ?_)
  rw [List.nil_append, enc300]
  refine S_bslice tabOk rfl rfl rfl rfl rfl rfl rfl rfl rfl rfl rfl rfl (fun b3 hb3 => ?_)
  refine S_callq rfl Try.call17 (fun w1 h1 => same1_ok a2 (some ⟨b3, 0, none⟩) 2 c2 2 2 [172, 2] w1 (h1.ints 1 rfl (fits_lit2 (by decide) (by decide))) (ints_lit (h1.own _ (getE_mem (i := 0) rfl)) rfl (fits_lit2 (by decide) (by decide)) (by simp only [maxLen]; omega))) ?_
  repeat (first | refine T_draw (by kernel_rfl) (by kernel_rfl) ?_ | refine D_all rfl ?_ | refine D_i64 tabOk rfl (by omega) ?_ | refine D_pure tabOk rfl ?_ | refine D_pass rfl rfl rfl ?_ | refine D_load tabOk 0 rfl rfl rfl ?_ | refine D_load tabOk 1 rfl rfl rfl ?_ | refine D_load tabOk 2 rfl rfl rfl ?_ | refine T_seq ?_ | refine T_region ?_ | refine T_block ?_ | refine S_nil ?_ | refine pthen_normal ?_ | refine inb_normal ?_ | refine inb_ret ?_ | refine pthen_ret ?_ | refine inb_hit ?_ | refine pthen_exit ?_ | refine T_skip ?_ | refine T_ret ?_ | refine T_exit ?_  | refine S_i64 tabOk rfl (by omega) ?_ | refine S_pure tabOk rfl ?_ | refine S_pass rfl rfl rfl ?_ | refine S_pass0 rfl rfl ?_ | refine T_region_any ?_  | refine S_load tabOk 0 rfl rfl rfl ?_ | refine S_load tabOk 1 rfl rfl rfl ?_ | refine S_load tabOk 2 rfl rfl rfl ?_ | refine S_load tabOk 3 rfl rfl rfl ?_ | refine S_store tabOk 0 rfl rfl rfl rfl rfl rfl ?_ | refine S_store tabOk 1 rfl rfl rfl rfl rfl rfl ?_ | refine S_store tabOk 2 rfl rfl rfl rfl rfl rfl ?_ | refine S_store tabOk 3 rfl rfl rfl rfl rfl rfl ?_ | refine S_q (Q_build tabOk rfl rfl rfl rfl rfl rfl rfl) ?_)
  have hd : rd 0 (List.drop 0 [128, 0]) = (2, 0, 0) := by decide
  refine S_callobj 2 rfl Try.call20 rfl (fun w1 h1 => (innum_ok b1 a1 2 c1 a1 2 c1 0 [128, 0] 0 w1 (h1.own _ (getE_mem (i := 2) rfl)) (Suf.refl (h1.ints 3 rfl (fits_lit2 (by decide) (by decide)))) (h1.ints 3 rfl (fits_lit2 (by decide) (by decide))) (h1.dis 2 3 rfl rfl) (by decide)).mono fun en w' ⟨a', n', c', h2, h3, h4⟩ => ⟨_, _, h2, h4, _, rfl, ?_⟩)
  rw [hd]
  repeat (first | refine T_draw (by kernel_rfl) (by kernel_rfl) ?_ | refine D_all rfl ?_ | refine D_i64 tabOk rfl (by omega) ?_ | refine D_pure tabOk rfl ?_ | refine D_pass rfl rfl rfl ?_ | refine D_load tabOk 0 rfl rfl rfl ?_ | refine D_load tabOk 1 rfl rfl rfl ?_ | refine D_load tabOk 2 rfl rfl rfl ?_ | refine T_seq ?_ | refine T_region ?_ | refine T_block ?_ | refine S_nil ?_ | refine pthen_normal ?_ | refine inb_normal ?_ | refine inb_ret ?_ | refine pthen_ret ?_ | refine inb_hit ?_ | refine pthen_exit ?_ | refine T_skip ?_ | refine T_ret ?_ | refine T_exit ?_  | refine S_i64 tabOk rfl (by omega) ?_ | refine S_pure tabOk rfl ?_ | refine S_pass rfl rfl rfl ?_ | refine S_pass0 rfl rfl ?_ | refine T_region_any ?_  | refine S_load tabOk 0 rfl rfl rfl ?_ | refine S_load tabOk 1 rfl rfl rfl ?_ | refine S_load tabOk 2 rfl rfl rfl ?_ | refine S_load tabOk 3 rfl rfl rfl ?_ | refine S_store tabOk 0 rfl rfl rfl rfl rfl rfl ?_ | refine S_store tabOk 1 rfl rfl rfl rfl rfl rfl ?_ | refine S_store tabOk 2 rfl rfl rfl rfl rfl rfl ?_ | refine S_store tabOk 3 rfl rfl rfl rfl rfl rfl ?_ | refine S_q (Q_build tabOk rfl rfl rfl rfl rfl rfl rfl) ?_)
  refine S_callq rfl Try.call21 (fun w1 h1 => err_ok b1 a' n' c' 2 w1 (h1.own _ (getE_mem (i := 2) rfl))) ?_
  repeat (first | refine T_draw (by kernel_rfl) (by kernel_rfl) ?_ | refine D_all rfl ?_ | refine D_i64 tabOk rfl (by omega) ?_ | refine D_pure tabOk rfl ?_ | refine D_pass rfl rfl rfl ?_ | refine D_load tabOk 0 rfl rfl rfl ?_ | refine D_load tabOk 1 rfl rfl rfl ?_ | refine D_load tabOk 2 rfl rfl rfl ?_ | refine T_seq ?_ | refine T_region ?_ | refine T_block ?_ | refine S_nil ?_ | refine pthen_normal ?_ | refine inb_normal ?_ | refine inb_ret ?_ | refine pthen_ret ?_ | refine inb_hit ?_ | refine pthen_exit ?_ | refine T_skip ?_ | refine T_ret ?_ | refine T_exit ?_  | refine S_i64 tabOk rfl (by omega) ?_ | refine S_pure tabOk rfl ?_ | refine S_pass rfl rfl rfl ?_ | refine S_pass0 rfl rfl ?_ | refine T_region_any ?_  | refine S_load tabOk 0 rfl rfl rfl ?_ | refine S_load tabOk 1 rfl rfl rfl ?_ | refine S_load tabOk 2 rfl rfl rfl ?_ | refine S_load tabOk 3 rfl rfl rfl ?_ | refine S_store tabOk 0 rfl rfl rfl rfl rfl rfl ?_ | refine S_store tabOk 1 rfl rfl rfl rfl rfl rfl ?_ | refine S_store tabOk 2 rfl rfl rfl rfl rfl rfl ?_ | refine S_store tabOk 3 rfl rfl rfl rfl rfl rfl ?_ | refine S_q (Q_build tabOk rfl rfl rfl rfl rfl rfl rfl) ?_)
  exact ret1 rfl rfl (fun w' hw' => ⟨rfl, hw'.below (new_cons hb3 (newrow hw' 1 rfl (Nat.le_refl _) (new_cons hb1 (newrow hw' 3 rfl (Nat.le_refl _) (new_cons hb new_nil)))))⟩)
end Go.Proofs.Ytcnpfempfgljfaa
