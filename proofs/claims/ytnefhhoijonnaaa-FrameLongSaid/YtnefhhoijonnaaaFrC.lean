/-
  Frames: the kinds' methods; which frames may be. Conditions: each theorem's own.
-/
import Derived.Test.YtnefhhoijonnaaaFrB
namespace Go.Proofs.Ytnefhhoijonnaaa
open Go Go.RowKit
set_option linter.unusedVariables false

abbrev fnV (n : Nat) : Value := .func (.func n) #[] #[]
abbrev helloL : List Value := [.string ⟨#[104, 101, 108, 108, 111]⟩, fnV 87, fnV 88, fnV 89]
abbrev batchL : List Value := [.string ⟨#[98, 97, 116, 99, 104]⟩, fnV 90, fnV 91, fnV 92]
abbrev answL (s : ByteArray) : List Value := [.string s, fnV 84, fnV 85, fnV 86]
abbrev noL : List Value := [.string ⟨#[]⟩, .nilFunc, .nilFunc, .nilFunc]
/-- A kind's form. -/
inductive FormI : Int → List Value → Bool → Prop where
  | hello : FormI 1 helloL true
  | welcome : FormI 2 (answL ⟨#[119, 101, 108, 99, 111, 109, 101]⟩) true
  | batch : FormI 3 batchL true
  | ack : FormI 4 (answL ⟨#[97, 99, 107]⟩) true
  | no (k : Int) (h : k ≠ 1 ∧ k ≠ 2 ∧ k ≠ 3 ∧ k ≠ 4) : FormI k noL false
theorem formI_ex (k : Int) : ∃ l q, FormI k l q := by
  by_cases h1 : k = 1
  · subst h1; exact ⟨_, _, .hello⟩
  by_cases h2 : k = 2
  · subst h2; exact ⟨_, _, .welcome⟩
  by_cases h3 : k = 3
  · subst h3; exact ⟨_, _, .batch⟩
  by_cases h4 : k = 4
  · subst h4; exact ⟨_, _, .ack⟩
  exact ⟨_, _, .no k ⟨h1, h2, h3, h4⟩⟩
theorem answers_ok (s : ByteArray) (w : World) : Calls Try.prog 83 #[.string s] w fun e w' => e = .returned (.agg ⟨answL s⟩) ∧ Below w.heap.size w w' := by
  refine enter1 Try.func83 rfl rfl (Hp.refl w) ?_
  repeat (first | refine T_seq ?_ | refine T_region ?_)
  refine S_new tabOk rfl (fun b hb => ?_)
  repeat (first | refine T_seq ?_ | refine T_region ?_ | refine S_nil ?_ | refine T_ret ?_ | refine S_pure tabOk rfl ?_ | refine S_store tabOk 0 rfl rfl rfl rfl rfl rfl ?_ | refine S_q (Q_build tabOk rfl rfl rfl rfl rfl rfl rfl) ?_)
  exact ret1 rfl (ResIs.cellO tabOk 0 rfl rfl rfl rfl) (fun w' hw => ⟨rfl, hw.below (by repeat (first | exact new_nil | refine new_cons (by first | assumption | omega) ?_))⟩)
set_option maxHeartbeats 1000000 in
theorem forms_ok {k : Int} {l : List Value} {q : Bool} (h : FormI k l q) (w : World) : Calls Try.prog 46 #[.int .u8 k] w fun e w' => e = .returned (.tuple #[.agg ⟨l⟩, .bool q]) ∧ Below w.heap.size w w' := by
  refine enter1 Try.func46 rfl rfl (Hp.refl w) ?_
  repeat (first | refine T_seq ?_ | refine T_region ?_)
  refine S_new tabOk rfl (fun b hb => ?_)
  repeat (first | refine T_seq ?_ | refine T_region ?_ | refine T_block ?_ | refine S_nil ?_ | refine S_pure tabOk rfl ?_)
  cases h with
  | hello =>
    refine T_cond_t rfl ?_
    repeat (first | refine T_seq ?_ | refine T_region ?_ | refine S_nil ?_ | refine inb_ret ?_ | refine pthen_ret ?_ | refine T_ret ?_ | refine S_pure tabOk rfl ?_ | refine S_store tabOk 0 rfl rfl rfl rfl rfl rfl ?_ | refine S_q (Q_build tabOk rfl rfl rfl rfl rfl rfl rfl) ?_)
    exact ret2 rfl (ResIs.cellO tabOk 0 rfl rfl rfl rfl) rfl (fun w' hw => ⟨rfl, hw.below (by repeat (first | exact new_nil | refine new_cons (by first | assumption | omega) ?_))⟩)
  | welcome =>
    refine T_cond_f rfl ?_
    repeat (first | refine T_seq ?_ | refine T_region ?_ | refine S_nil ?_ | refine S_pure tabOk rfl ?_)
    refine T_cond_t rfl ?_
    repeat (first | refine T_seq ?_ | refine T_region ?_ | refine S_pure tabOk rfl ?_)
    refine S_callvq (v := .agg ⟨answL ⟨#[119, 101, 108, 99, 111, 109, 101]⟩⟩) rfl rfl rfl Try.call83 (fun w1 h1 => answers_ok _ w1) ?_
    repeat (first | refine S_nil ?_ | refine inb_ret ?_ | refine pthen_ret ?_ | refine T_ret ?_ | refine S_pure tabOk rfl ?_ | refine S_store tabOk 0 rfl rfl rfl rfl rfl rfl ?_)
    exact ret2 rfl (ResIs.cellO tabOk 0 rfl rfl rfl rfl) rfl (fun w' hw => ⟨rfl, hw.below (by repeat (first | exact new_nil | refine new_cons (by first | assumption | omega) ?_))⟩)
  | batch =>
    refine T_cond_f rfl ?_
    repeat (first | refine T_seq ?_ | refine T_region ?_ | refine S_nil ?_ | refine S_pure tabOk rfl ?_)
    refine T_cond_f rfl ?_
    repeat (first | refine T_seq ?_ | refine T_region ?_ | refine S_nil ?_ | refine S_pure tabOk rfl ?_)
    refine T_cond_t rfl ?_
    repeat (first | refine T_seq ?_ | refine T_region ?_ | refine S_nil ?_ | refine inb_ret ?_ | refine pthen_ret ?_ | refine T_ret ?_ | refine S_pure tabOk rfl ?_ | refine S_store tabOk 0 rfl rfl rfl rfl rfl rfl ?_ | refine S_q (Q_build tabOk rfl rfl rfl rfl rfl rfl rfl) ?_)
    exact ret2 rfl (ResIs.cellO tabOk 0 rfl rfl rfl rfl) rfl (fun w' hw => ⟨rfl, hw.below (by repeat (first | exact new_nil | refine new_cons (by first | assumption | omega) ?_))⟩)
  | ack =>
    refine T_cond_f rfl ?_
    repeat (first | refine T_seq ?_ | refine T_region ?_ | refine S_nil ?_ | refine S_pure tabOk rfl ?_)
    refine T_cond_f rfl ?_
    repeat (first | refine T_seq ?_ | refine T_region ?_ | refine S_nil ?_ | refine S_pure tabOk rfl ?_)
    refine T_cond_f rfl ?_
    repeat (first | refine T_seq ?_ | refine T_region ?_ | refine S_nil ?_ | refine S_pure tabOk rfl ?_)
    refine T_cond_t rfl ?_
    repeat (first | refine T_seq ?_ | refine T_region ?_ | refine S_pure tabOk rfl ?_)
    refine S_callvq (v := .agg ⟨answL ⟨#[97, 99, 107]⟩⟩) rfl rfl rfl Try.call83 (fun w1 h1 => answers_ok _ w1) ?_
    repeat (first | refine S_nil ?_ | refine inb_ret ?_ | refine pthen_ret ?_ | refine T_ret ?_ | refine S_pure tabOk rfl ?_ | refine S_store tabOk 0 rfl rfl rfl rfl rfl rfl ?_)
    exact ret2 rfl (ResIs.cellO tabOk 0 rfl rfl rfl rfl) rfl (fun w' hw => ⟨rfl, hw.below (by repeat (first | exact new_nil | refine new_cons (by first | assumption | omega) ?_))⟩)
  | no k h =>
    refine T_cond_dec rfl (fun g => absurd g h.1) (fun _ => ?_)
    repeat (first | refine T_seq ?_ | refine T_region ?_ | refine S_nil ?_ | refine S_pure tabOk rfl ?_)
    refine T_cond_dec rfl (fun g => absurd g h.2.1) (fun _ => ?_)
    repeat (first | refine T_seq ?_ | refine T_region ?_ | refine S_nil ?_ | refine S_pure tabOk rfl ?_)
    refine T_cond_dec rfl (fun g => absurd g h.2.2.1) (fun _ => ?_)
    repeat (first | refine T_seq ?_ | refine T_region ?_ | refine S_nil ?_ | refine S_pure tabOk rfl ?_)
    refine T_cond_dec rfl (fun g => absurd g h.2.2.2) (fun _ => ?_)
    repeat (first | refine T_seq ?_ | refine T_region ?_ | refine S_nil ?_ | refine pthen_normal ?_ | refine inb_normal ?_ | refine T_skip ?_ | refine T_ret ?_ | refine S_pure tabOk rfl ?_ | refine S_store tabOk 0 rfl rfl rfl rfl rfl rfl ?_ | refine S_q (Q_build tabOk rfl rfl rfl rfl rfl rfl rfl) ?_)
    exact ret2 rfl (ResIs.cellO tabOk 0 rfl rfl rfl rfl) rfl (fun w' hw => ⟨rfl, hw.below (by repeat (first | exact new_nil | refine new_cons (by first | assumption | omega) ?_))⟩)
/-- Which frames may be. -/
def kindR (h : Hd) (rs : List Run) (its : List (Int × (Int × List Int))) : Prop := (h.kd = 1 ∧ begR h rs.length its.length) ∨ ((h.kd = 2 ∨ h.kd = 4) ∧ graR h rs its.length) ∨ (h.kd = 3 ∧ batR h rs.length its)
def frR (h : Hd) (rs : List Run) (its : List (Int × (Int × List Int))) : Prop := 0 ≤ h.ag ∧ h.ag < 16 ∧ 1 ≤ h.ep ∧ kindR h rs its
/-- A frame's slices read so. -/
structure FsR (w : World) (A : Nat → Prop) (s : Fs) (rs : List Run) (its : List (Int × (Int × List Int))) : Prop where
  r : SlR Rrun w A s.ra s.rn s.rc rs
  i : SlR Ritem w A s.ia s.im s.ic its
theorem FsR.ext {w w' : World} {A : Nat → Prop} {s : Fs} {rs : List Run} {its : List (Int × (Int × List Int))} (h : FsR w A s rs its) (hb : Below w.heap.size w w') : FsR w' A s rs its := ⟨h.r.ext hb, h.i.ext hb⟩
open Classical in
set_option maxHeartbeats 2000000 in
theorem right_ok (h : Hd) (s : Fs) (hf : h.Fit) (A : Nat → Prop) (rs : List Run) (its : List (Int × (Int × List Int))) (w : World) (hx : FsR w A s rs its) (hn : s.rn ≤ 1000000) : Calls Try.prog 16 #[frV h s] w fun e w' => e = .returned (.bool (decide (frR h rs its))) ∧ Below w.heap.size w w' := by
  obtain ⟨l, q, hfo⟩ := formI_ex h.kd
  have hl := hx.r.len
  have hil := hx.i.len
  refine enter1 Try.func16 rfl rfl (Hp.refl w) ?_
  repeat (first | refine T_seq ?_ | refine T_region ?_)
  refine S_new tabOk rfl (fun b hb => ?_)
  repeat (first | refine T_seq ?_ | refine T_region ?_ | refine S_nil ?_ | refine S_pure tabOk rfl ?_ | refine S_load tabOk 0 rfl rfl rfl ?_)
  refine S_callq rfl Try.call46 (fun w1 h1 => forms_ok hfo w1) ?_
  repeat (first | refine S_pure tabOk rfl ?_)
  cases q with
  | false =>
    obtain ⟨rfl, hk⟩ : l = noL ∧ ¬ kindR h rs its := by
      generalize hkd : h.kd = kd at hfo
      cases hfo with
      | no k hk =>
        refine ⟨rfl, ?_⟩
        unfold kindR
        omega
    refine S_new tabOk rfl (fun b3 hb3 => ?_)
    repeat (first | refine T_seq ?_ | refine T_region ?_ | refine S_nil ?_ | refine T_ret ?_ | refine S_pure tabOk rfl ?_ | refine S_pass rfl rfl rfl ?_ | refine S_store tabOk 0 rfl rfl rfl rfl rfl rfl ?_)
    exact ret1 rfl rfl (fun w' hw => ⟨retb (decide_eq_false (fun g => hk g.2.2.2)).symm, hw.below (by repeat (first | exact new_nil | refine new_cons (by first | assumption | omega) ?_))⟩)
  | true =>
    have hfn : ∃ (u1 : ByteArray) (g u2 u3 : Nat), l = [.string u1, fnV g, fnV u2, fnV u3] ∧ (∀ args w, (callFunc g args).run Try.prog w = .ok (.enter g args) w) ∧ ∀ w1, Below w.heap.size w w1 → Calls Try.prog g #[frV h s] w1 fun e w' => e = .returned (.bool (decide (kindR h rs its))) ∧ Below w1.heap.size w1 w' := by
      generalize hkd : h.kd = kd at hfo
      cases hfo with
      | hello => exact ⟨_, _, _, _, rfl, Try.call87, fun w1 hb => (begins_ok h s w1).mono fun e w' ⟨e1, e2⟩ => ⟨by rw [e1]; exact retb (dec_eq (Iff.symm (show kindR h rs its ↔ begR h s.rn s.im from by unfold kindR; rw [hkd, hl, hil]; simp))), e2⟩⟩
      | welcome => exact ⟨_, _, _, _, rfl, Try.call84, fun w1 hb => (grants_ok h s hf A rs w1 (hx.r.ext hb) hn).mono fun e w' ⟨e1, e2⟩ => ⟨by rw [e1]; exact retb (dec_eq (Iff.symm (show kindR h rs its ↔ graR h rs s.im from by unfold kindR; rw [hkd, hil]; simp))), e2⟩⟩
      | batch => exact ⟨_, _, _, _, rfl, Try.call90, fun w1 hb => (carries_ok h s hf A its w1 (hx.i.ext hb)).mono fun e w' ⟨e1, e2⟩ => ⟨by rw [e1]; exact retb (dec_eq (Iff.symm (show kindR h rs its ↔ batR h s.rn its from by unfold kindR; rw [hkd, hl]; simp))), e2⟩⟩
      | ack => exact ⟨_, _, _, _, rfl, Try.call84, fun w1 hb => (grants_ok h s hf A rs w1 (hx.r.ext hb) hn).mono fun e w' ⟨e1, e2⟩ => ⟨by rw [e1]; exact retb (dec_eq (Iff.symm (show kindR h rs its ↔ graR h rs s.im from by unfold kindR; rw [hkd, hil]; simp))), e2⟩⟩
    obtain ⟨u1, g, u2, u3, rfl, hg, hcall⟩ := hfn
    refine S_new tabOk rfl (fun b3 hb3 => ?_)
    repeat (first | refine T_seq ?_ | refine T_region ?_ | refine S_nil ?_ | refine S_pure tabOk rfl ?_ | refine S_load tabOk 1 rfl rfl rfl ?_ | refine S_store tabOk 0 rfl rfl rfl rfl rfl rfl ?_)
    refine S_split rfl rfl (fun h1 => ?_) (fun h1 => ?_)
    rotate_left
    · repeat (first | refine S_nil ?_ | refine T_ret ?_ | refine S_pure tabOk rfl ?_ | refine S_pass rfl rfl rfl ?_)
      exact ret1 rfl rfl (fun w' hw => ⟨retb (decide_eq_false (fun g => by obtain ⟨g1, g2, g3, _⟩ := g; omega)).symm, hw.below (by repeat (first | exact new_nil | refine new_cons (by first | assumption | omega) ?_))⟩)
    repeat (first | refine S_pure tabOk rfl ?_ | refine S_load tabOk 1 rfl rfl rfl ?_)
    refine S_split rfl rfl (fun h2 => ?_) (fun h2 => ?_)
    rotate_left
    · repeat (first | refine S_nil ?_ | refine T_ret ?_ | refine S_pure tabOk rfl ?_ | refine S_pass rfl rfl rfl ?_)
      exact ret1 rfl rfl (fun w' hw => ⟨retb (decide_eq_false (fun g => by obtain ⟨g1, g2, g3, _⟩ := g; omega)).symm, hw.below (by repeat (first | exact new_nil | refine new_cons (by first | assumption | omega) ?_))⟩)
    repeat (first | refine S_pure tabOk rfl ?_ | refine S_load tabOk 1 rfl rfl rfl ?_)
    refine S_split rfl rfl (fun h3 => ?_) (fun h3 => ?_)
    rotate_left
    · repeat (first | refine S_nil ?_ | refine T_ret ?_ | refine S_pure tabOk rfl ?_ | refine S_pass rfl rfl rfl ?_)
      exact ret1 rfl rfl (fun w' hw => ⟨retb (decide_eq_false (fun g => by obtain ⟨g1, g2, g3, _⟩ := g; omega)).symm, hw.below (by repeat (first | exact new_nil | refine new_cons (by first | assumption | omega) ?_))⟩)
    repeat (first | refine S_pure tabOk rfl ?_ | refine S_load tabOk 0 rfl rfl rfl ?_ | refine S_load tabOk 1 rfl rfl rfl ?_)
    refine S_callvq rfl rfl rfl hg (fun w1 h1 => by rw [Array.append_empty]; exact hcall w1 (h1.below (by repeat (first | exact new_nil | refine new_cons (by first | assumption | omega) ?_)))) ?_
    repeat (first | refine S_nil ?_ | refine T_ret ?_ | refine S_pure tabOk rfl ?_)
    exact ret1 rfl rfl (fun w' hw => ⟨retb (decide_eq_decide.2 ⟨fun g => ⟨h1, h2, h3, g⟩, fun g => g.2.2.2⟩), hw.below (by repeat (first | exact new_nil | refine new_cons (by first | assumption | omega) ?_))⟩)
end Go.Proofs.Ytnefhhoijonnaaa
