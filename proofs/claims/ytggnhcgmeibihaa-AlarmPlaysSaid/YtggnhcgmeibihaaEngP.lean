/-
  An engine of rules for walks, part P: the region's rule over part O. No program's text; conditions: each theorem's own.
-/
import Derived.Test.YtggnhcgmeibihaaEngO
namespace Go.Proofs.Ytggnhcgmeibihaa
open Go Go.RowKit
set_option linter.unusedVariables false

section
variable {γ : Type} {P : Program} {tb : Tab} {n : Nat} {w0 : World} {all : Array Oper} {o : Oper} {dl : DL} {ol : OL} {l : FL} {K : FL → OL → Prop} {Q : Post} {v : Value}
/-- What answers one value, is one whose answer is named. -/
theorem OpS.toF {o2 : Value × γ → OL} {tk : Option Value} (g : γ) (hv : ∀ u, tk = some u → v = u) (h : OpS P n w0 all ol (o2 (v, g)) dl o v) : OpA P n w0 all ol o2 dl o tk :=
  ⟨fun a w h1 h2 h3 h4 => by
    obtain ⟨g1, g2⟩ := h.ok a w h1 h2 h3 h4
    exact ⟨fun hw => Oper.wp_mono2 (fun a' w' ⟨e1, e2⟩ => ⟨(v, g), hv, e1, e2⟩) (fun _ _ _ h => h) (g1 hw), fun hw => by
      obtain ⟨e1, e2⟩ := g2 hw
      rw [← e1]
      exact ⟨hv, g, e2⟩⟩, h.lt⟩
def AllF (Pr : Nat → Oper → Prop) : Nat → List Oper → Prop
  | _, [] => True
  | i, o :: os => Pr i o ∧ AllF Pr (i + 1) os
theorem allF_at {Pr : Nat → Oper → Prop} : ∀ {os : List Oper} {k : Nat}, AllF Pr k os → ∀ i o, os[i]? = some o → Pr (k + i) o
  | [], _, _, i, o, ho => by simp at ho
  | x :: os, k, h, 0, o, ho => by
    simp at ho
    subst ho
    exact h.1
  | x :: os, k, h, i + 1, o, ho => by
    have := allF_at h.2 i o (by simpa using ho)
    rwa [show k + (i + 1) = k + 1 + i by omega]
def tdl (tds : List (Option Value)) (i : Nat) : Option Value := match tds[i]? with
  | some (some v) => some v
  | _ => none
/-- A region that draws, the heap's list by what is done and what it answered. -/
theorem T_drawF {id : Nat} {ops : List Oper} (hmix : P.follows .mixedOrders = true) (hreg : regOk ops ops.length = true) (γ0 : γ) (olf : (Nat → Bool) → (Nat → Value × γ) → OL) (h0 : olf (fun _ => false) (fun _ => (undef, γ0)) = ol)
    (tds : List (Option Value)) (hok : AllF (fun i o => ∀ L f, Closed ops L → L i = false → (∀ e ∈ o.after.toList, Region.binds .any e = true → L e.on = true) → OpA P n w0 ops.toArray (olf L f) (fun v => olf (add L i) (updF f i v)) (dlAt (EsF ops (tdl tds) f) ops i (toDL l)) o (tdl tds i)) 0 ops)
    (hend : ∀ L f w, (∀ j, j < ops.length → L j = true) → Hp w0 w (olf L f) → ∃ l' ol', SubD l' (dlAt (EsF ops (tdl tds) f) ops ops.length (toDL l)) ∧ Hp w0 w ol' ∧ K l' ol') : T P n w0 (.region id ops.toArray true) l ol (pthen K Q) := by
  refine ⟨fun a w hf hh => ?_⟩
  have hR := reg_of hreg
  refine wp_region_any hmix (any_of_invF (n := n) (w0 := w0) (olf := olf) (td := tdl tds) (dl := toDL l) (m := ops.length) hR (Nat.le_refl _) rfl (fun i o hi ho L f h1 h2 h3 => ?_) (fun f i t E h => dl_ex ops i ((List.range ops.length).map fun i => (tdl tds i).getD (f i).1) (toDL l) (fun t E h => ?_) t E (by rw [List.map_map]; exact h)) (fun L f a w hL h1 h2 h3 h4 => ?_) _ (fun _ => (undef, γ0)) _ _ _ ?_ (by simp) ?_ ?_)
  · have := allF_at hok i o ho
    rw [Nat.zero_add] at this
    exact this L f h1 h2 h3
  · rw [lk_toDL] at h
    cases hx : look l t with
    | none => rw [hx] at h; cases h
    | some u => rw [hx] at h; cases h; exact ⟨u, rfl⟩
  · rw [List.drop_length]
    obtain ⟨l', ol', e1, e2, e3⟩ := hend L f w hL h3
    refine (S_nil (P := P) (n := n) (w0 := w0) (all := ops.toArray) (l := l') (ol := ol') (K := K) (Q := Q) e3).out a w ⟨h1, h2, fun t v hv => ?_⟩ e2
    have := h4 t
    rw [e1 t v hv] at this
    obtain ⟨u, hu, hu'⟩ := this
    rw [hu, hu']
  · simp only [List.size_toArray]
    have : ((List.range ops.length).filter fun j => !(Array.replicate ops.length false).getD j true) = List.range ops.length := by
      rw [List.filter_eq_self]
      intro j hj
      have : j < ops.length := by have := List.mem_range.1 hj; omega
      simp [Array.getD, this]
    rw [this, List.length_range]
    omega
  · intro j hj _
    simp [Array.getD, hj]
  · have hz : (fun j => decide (j < ops.length) && (Array.replicate ops.length false).getD j true) = fun _ => false := by
      funext j
      by_cases hj : j < ops.length
      · simp [Array.getD, hj]
      · simp [hj]
    simp only [List.size_toArray]
    rw [hz, h0]
    refine ⟨hf.defers, hf.size, hh.drew, fun i o ho hi => (by cases hi), fun i t hi hc => ?_⟩
    have hnone : lk (dlAt (EsF ops (tdl tds) fun _ => (undef, γ0)) ops i (toDL l)) t = lk (toDL l) t := lk_dlAt_none fun j o hj ho hd => by
      have := (hc j o ho hd).1 hj
      cases this
    rw [hnone]
    exact sat_toDL hf t
end
end Go.Proofs.Ytggnhcgmeibihaa
