/-
  slices.Collect at uint64, against any iterator value. Conditions: each theorem's own.
-/
import Derived.Test.YteogkadjambmkaaItA
namespace Go.Proofs.Yteogkadjambmkaa
open Go Go.RowKit
set_option linter.unusedVariables false

theorem KpOk.later {Kp : World → World → Prop} {a b : Nat} (h : KpOk Kp a) (hab : a ≤ b) : KpOk Kp b :=
  ⟨h.t, fun W l o o' hl => h.b W l o o' (by omega), fun W W' hs hk hb => h.r W W' hs hk (hb.mono hab)⟩
/-- A value that is an iterator over numbers. -/
structure Itr (gf : Nat) (lb : Array Value) (Kp : World → World → Prop) (S Sp : List Int → Prop) (N : Nat) (w : World) : Prop where
  eg : ∀ args w, (callFunc gf args).run Try.prog w = .ok (.enter gf args) w
  le : N ≤ 1000000
  kp : KpOk Kp w.heap.size
  seq : ∀ n, SeqStopsK Fence.wide n Try.prog gf lb encU Kp S Sp N w
section
variable {gf : Nat} {lb : Array Value} {Kp : World → World → Prop} {S Sp : List Int → Prop} {N : Nat} {w : World}
theorem Itr.later {w' : World} (h : Itr gf lb Kp S Sp N w) (hb : Go.RowKit.Below w.heap.size w w') : Itr gf lb Kp S Sp N w' :=
  ⟨h.eg, h.le, h.kp.later hb.size, fun n l J Jx W hW => h.seq n l J Jx W (hb.trans (hW.mono hb.size))⟩
/-- A slice that came of a list: nil just if that is empty. -/
def NilOr (v : Value) (ss : List Int) : Prop := (v = .slice none 0 0 ∧ ss = []) ∨ ∃ g c, v = .slice (some ⟨g, 0, none⟩) ss.length c ∧ 0 < ss.length
theorem nilOr_of {w : World} {base : Nat} {v : Value} {E : TypeId} {ss : List Int} {xs : List Value} (h : w.ownsRow base E 1 v ss.length xs) (hn : v = .slice none 0 0 ↔ ss = []) : NilOr v ss := by
  rcases h.2 with ⟨e1, e2⟩ | ⟨g, c, cur, e1, _⟩
  · exact .inl ⟨e1, hn.1 e1⟩
  · refine .inr ⟨g, c, e1, ?_⟩
    rcases Nat.eq_zero_or_pos ss.length with h0 | h0
    · have := hn.2 (List.eq_nil_of_length_eq_zero h0)
      rw [e1] at this; cases this
    · exact h0
theorem ownsRow_base {w : World} {b b' : Nat} {E : TypeId} {sz n : Nat} {v : Value} {xs : List Value} (h : w.ownsRow b E sz v n xs) (hb : b' ≤ b) : w.ownsRow b' E sz v n xs := by
  obtain ⟨h1, h2⟩ := h
  refine ⟨h1, ?_⟩
  rcases h2 with h2 | ⟨g, c, cur, e1, e2, rest⟩
  · exact .inl h2
  · exact .inr ⟨g, c, cur, e1, by omega, rest⟩
abbrev uRow (base : Nat) (v : Value) (ss : List Int) : HE := .row base v 59 1 ss.length (ss.map (Value.int .u64))
set_option maxHeartbeats 2000000 in
theorem collect_ok (hi : Itr gf lb Kp S Sp N w) : Calls Try.prog 68 #[.func (.func gf) #[] lb] w fun e w' => ∃ v ss, e = .returned v ∧ S ss ∧ NilOr v ss ∧ Hp w w' [uRow w.heap.size v ss] := by
  refine enterW1 Try.func68 rfl rfl (Hp.refl w) ?_
  repeat (first | refine T_draw (by kernel_rfl) (by kernel_rfl) ?_ | refine D_all rfl ?_ | refine D_i64 tabOk rfl (by omega) ?_ | refine D_u64 tabOk rfl (by omega) ?_ | refine D_pure tabOk rfl ?_ | refine D_pass rfl rfl rfl ?_ | refine D_load tabOk 0 rfl rfl rfl ?_ | refine D_load tabOk 1 rfl rfl rfl ?_ | refine D_load tabOk 2 rfl rfl rfl ?_ | refine D_load tabOk 3 rfl rfl rfl ?_ | refine D_load tabOk 4 rfl rfl rfl ?_ | refine T_seq ?_ | refine T_region ?_ | refine T_block ?_ | refine S_nil ?_ | refine pthen_normal ?_ | refine inb_normal ?_ | refine inb_ret ?_ | refine pthen_ret ?_ | refine inb_hit ?_ | refine pthen_exit ?_ | refine T_skip ?_ | refine T_ret ?_ | refine T_exit ?_  | refine S_i64 tabOk rfl (by omega) ?_ | refine S_u64 tabOk rfl (by omega) ?_ | refine S_pure tabOk rfl ?_ | refine S_pass rfl rfl rfl ?_ | refine S_pass0 rfl rfl ?_ | refine T_region_any ?_  | refine S_load tabOk 0 rfl rfl rfl ?_ | refine S_load tabOk 1 rfl rfl rfl ?_ | refine S_load tabOk 2 rfl rfl rfl ?_ | refine S_load tabOk 3 rfl rfl rfl ?_ | refine S_load tabOk 4 rfl rfl rfl ?_ | refine S_load tabOk 5 rfl rfl rfl ?_ | refine S_store tabOk 0 rfl rfl rfl rfl rfl rfl ?_ | refine S_store tabOk 1 rfl rfl rfl rfl rfl rfl ?_ | refine S_store tabOk 2 rfl rfl rfl rfl rfl rfl ?_ | refine S_store tabOk 3 rfl rfl rfl rfl rfl rfl ?_ | refine S_store tabOk 4 rfl rfl rfl rfl rfl rfl ?_ | refine S_store tabOk 5 rfl rfl rfl rfl rfl rfl ?_ | refine S_q (Q_build tabOk rfl rfl rfl rfl rfl rfl rfl) ?_ | refine D_q (Q_build tabOk rfl rfl rfl rfl rfl rfl rfl) ?_)
  refine S_call rfl Try.call75 (fun w1 h1 => (apseq_ok hi.eg hi.le w1 (hi.later (h1.below new_nil)).kp (hi.later (h1.below new_nil)).seq).mono fun e w' ⟨v, ss, e1, hS, hr, hn, hb⟩ => ⟨v, [uRow w.heap.size v ss], e1, h1.fresh hb (x := uRow w.heap.size v ss) (ownsRow_base hr h1.size) (fun k hk => (World.ownsRow.lt hr k hk).1), ?_⟩)
  have hv := nilOr_of hr hn
  repeat (first | refine T_draw (by kernel_rfl) (by kernel_rfl) ?_ | refine D_all rfl ?_ | refine D_i64 tabOk rfl (by omega) ?_ | refine D_u64 tabOk rfl (by omega) ?_ | refine D_pure tabOk rfl ?_ | refine D_pass rfl rfl rfl ?_ | refine D_load tabOk 0 rfl rfl rfl ?_ | refine D_load tabOk 1 rfl rfl rfl ?_ | refine D_load tabOk 2 rfl rfl rfl ?_ | refine D_load tabOk 3 rfl rfl rfl ?_ | refine D_load tabOk 4 rfl rfl rfl ?_ | refine T_seq ?_ | refine T_region ?_ | refine T_block ?_ | refine S_nil ?_ | refine pthen_normal ?_ | refine inb_normal ?_ | refine inb_ret ?_ | refine pthen_ret ?_ | refine inb_hit ?_ | refine pthen_exit ?_ | refine T_skip ?_ | refine T_ret ?_ | refine T_exit ?_  | refine S_i64 tabOk rfl (by omega) ?_ | refine S_u64 tabOk rfl (by omega) ?_ | refine S_pure tabOk rfl ?_ | refine S_pass rfl rfl rfl ?_ | refine S_pass0 rfl rfl ?_ | refine T_region_any ?_  | refine S_load tabOk 0 rfl rfl rfl ?_ | refine S_load tabOk 1 rfl rfl rfl ?_ | refine S_load tabOk 2 rfl rfl rfl ?_ | refine S_load tabOk 3 rfl rfl rfl ?_ | refine S_load tabOk 4 rfl rfl rfl ?_ | refine S_load tabOk 5 rfl rfl rfl ?_ | refine S_store tabOk 0 rfl rfl rfl rfl rfl rfl ?_ | refine S_store tabOk 1 rfl rfl rfl rfl rfl rfl ?_ | refine S_store tabOk 2 rfl rfl rfl rfl rfl rfl ?_ | refine S_store tabOk 3 rfl rfl rfl rfl rfl rfl ?_ | refine S_store tabOk 4 rfl rfl rfl rfl rfl rfl ?_ | refine S_store tabOk 5 rfl rfl rfl rfl rfl rfl ?_ | refine S_q (Q_build tabOk rfl rfl rfl rfl rfl rfl rfl) ?_ | refine D_q (Q_build tabOk rfl rfl rfl rfl rfl rfl rfl) ?_)
  exact ret1 rfl rfl (fun w' hw => ⟨v, ss, rfl, hS, hv, hw⟩)
end
end Go.Proofs.Yteogkadjambmkaa
