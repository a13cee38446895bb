/-
  An engine of rules for walks, part L: ends of regions that draw. No program's text; conditions: each theorem's own.
-/
import Derived.Test.YtggnhcgmeibihaaEngK
namespace Go.Proofs.Ytggnhcgmeibihaa
open Go Go.RowKit
set_option linter.unusedVariables false
section
variable {P : Program} {n : Nat} {w0 : World} {all : Array Oper} {dl : DL} {ol : OL}
/-- What is said of a slot asks no world: any value for which it is true. -/
theorem D_outE (t : Nat) {Ψ : Value → World → Prop} (R : Value → Prop) {G : FL → OL → Prop} (h : lk dl t = some (.pr Ψ)) (hR : ∀ v w, Ψ v w → R v) (k : ∀ v, R v → D P n w0 all [] ((t, .ex v) :: dl) ol (FEnd n w0 ol G)) : D P n w0 all [] dl ol (FEnd n w0 ol G) :=
  D_end fun w hw f hf => by
    have hk := (k (f t) (hR _ _ (hf t _ h))).out _ (fun _ => rfl)
    have hk' : FEnd n w0 ol G ((t, .ex (f t)) :: dl) := hk
    obtain ⟨l', ol', e1, e2, e3⟩ := hk' w hw f (fun t' Φ ht' => by
      by_cases htt : t = t'
      · subst htt; rw [lk_cons_eq] at ht'; cases ht'
      · rw [lk_cons_ne htt] at ht'; exact hf t' Φ ht')
    refine ⟨l', ol', fun t' v hv => ?_, e2, e3⟩
    by_cases htt : t = t'
    · subst htt
      rcases e1 t v hv with e | ⟨Φ, e, _⟩
      · rw [lk_cons_eq] at e; cases e; exact .inr ⟨_, h, rfl⟩
      · rw [lk_cons_eq] at e; cases e
    · have := e1 t' v hv
      rwa [lk_cons_ne htt] at this
/-- D_out, where the blocks that are named by now are not in what is said. -/
theorem D_outW (t : Nat) {p : Vp} {A : Nat → Prop} {ol1 : OL} {G : FL → OL → Prop} (h : lk dl t = some (.pr (PV p w0 A ol1))) (hup : ∀ w v, Hp w0 w ol → p.at_ w (BB w0 A ol1) v → p.at_ w (BB w0 A ol) v)
    (k : ∀ v F w1, (∀ k, F k → A k ∨ w0.heap.size ≤ k) → p.at_ w1 F v → ∃ ol', snocO ol (.rep (fun w => p.at_ w F v) F false) = some ol' ∧ D P n w0 all [] ((t, .ex v) :: dl) ol' (FEnd n w0 ol' G)) : D P n w0 all [] dl ol (FEnd n w0 ol G) :=
  D_end fun w hw f hf => by
    have h2 : p.at_ w (BB w0 A ol) (f t) := hup w _ hw (hf t _ h)
    obtain ⟨F, g1, g2, g3⟩ := hw.addV h2
    obtain ⟨olz, hz, hD⟩ := k (f t) F w g1 g2
    have hk := hD.out _ (fun _ => rfl)
    have hk' : FEnd n w0 olz G ((t, .ex (f t)) :: dl) := hk
    obtain ⟨l', ol', e1, e2, e3⟩ := hk' w (g3.toEnd hz) f (fun t' Φ ht' => by
      by_cases htt : t = t'
      · subst htt; rw [lk_cons_eq] at ht'; cases ht'
      · rw [lk_cons_ne htt] at ht'; exact hf t' Φ ht')
    refine ⟨l', ol', fun t' v hv => ?_, e2, e3⟩
    by_cases htt : t = t'
    · subst htt
      rcases e1 t v hv with e | ⟨Φ, e, _⟩
      · rw [lk_cons_eq] at e; cases e; exact .inr ⟨_, h, rfl⟩
      · rw [lk_cons_eq] at e; cases e
    · have := e1 t' v hv
      rwa [lk_cons_ne htt] at this
end
end Go.Proofs.Ytggnhcgmeibihaa
