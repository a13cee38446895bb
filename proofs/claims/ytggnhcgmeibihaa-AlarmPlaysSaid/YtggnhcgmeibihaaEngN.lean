/-
  An engine of rules for walks, part N: the region's rule over part M; a store. No program's text; conditions: each theorem's own.
-/
import Derived.Test.YtggnhcgmeibihaaEngM
namespace Go.Proofs.Ytggnhcgmeibihaa
open Go Go.RowKit
set_option linter.unusedVariables false

section
variable {P : Program} {tb : Tab} {n : Nat} {w0 : World} {all : Array Oper} {o : Oper} {dl : DL} {ol : OL} {l : FL} {K : FL → OL → Prop} {Q : Post} {v : Value}
theorem OpS.ofD {d : Nat} (hd : o.dst = some d) (h : D P n w0 all [o] dl ol (fun dl' => lk dl' d = some (.ex v))) : OpS P n w0 all ol ol dl o v := by
  obtain ⟨E, h1, h2⟩ := h.out dl (fun _ => rfl)
  have h3 : lk (updD dl o.dst E) d = some (.ex v) := h2
  rw [hd, updD, lk_cons_eq] at h3
  cases h3
  exact OpS.of h1
theorem D_last {d : Nat} : D P n w0 all [] ((d, .ex v) :: dl) ol (fun dl' => lk dl' d = some (.ex v)) :=
  D_nil fun dl' he => by rw [he]; exact lk_cons_eq _ _ _
theorem OpS.store (ht : TabOk P tb) (i : Nat) {b off sz : Nat} {vs cs cs' : List Value} {e : TypeId} {ol' : OL} (hs : storeAt? tb all (rs all o dl) o = some (b, off, vs, sz)) (hlen : vs.length = sz) (h1 : ∀ u ∈ vs, u.oneCell' = true)
    (hi : getE ol i = some (.blk b (.cells ⟨cs⟩ e (0, 0)) true)) (hm : setMany cs off vs = some cs') (ho : putE ol i (.blk b (.cells ⟨cs'⟩ e (0, 0)) true) = some ol') : OpS P n w0 all ol ol' dl o undef := by
  unfold storeAt? at hs
  split at hs
  · rename_i hg
    split at hs
    · rename_i hd
      split at hs
      · rename_i t x y hop
        split at hs
        · rename_i ti hti
          split at hs
          · rename_i b' off' hx
            split at hs
            · rename_i v hy
              split at hs
              · rename_i vs' hv
                simp at hs
                obtain ⟨rfl, rfl, rfl, rfl⟩ := hs
                obtain ⟨pre, post, e1, e2⟩ := putE_eq hi ho
                refine ⟨fun a w g1 g2 hh g4 => ?_, fun d hd' => by rw [hd] at hd'; cases hd'⟩
                have hrd := rs_rd g4
                have hw := gd_wanted hrd hg
                have hb := hh.own _ (getE_mem hi)
                refine ⟨fun _ => ?_, (fun hn => by rw [hw] at hn; cases hn)⟩
                have hr : (execOp a.eval o).run P w = .ok .skip (w.setRow b' ⟨cs'⟩) := by
                  unfold execOp
                  simp [hop, hrd.ev hx, hrd.ev hy, Instr.storeAt, Instr.sureAddr, storeVar_own ht hti hv hlen h1 hb hm]
                simp only [Oper.wp, hr, Oper.upon]
                refine ⟨trivial, ?_⟩
                rw [e1] at hh
                rw [e2]
                exact hh.setRow rfl
              · cases hs
            · cases hs
          · cases hs
        · cases hs
      · cases hs
    · cases hs
  · cases hs
def AllS (Pr : Nat → Oper → Value → Prop) : Nat → List Oper → List Value → Prop
  | _, [], _ => True
  | _, _ :: _, [] => False
  | i, o :: os, v :: vs => Pr i o v ∧ AllS Pr (i + 1) os vs
theorem allS_at {Pr : Nat → Oper → Value → Prop} : ∀ {os : List Oper} {vs : List Value} {k : Nat}, AllS Pr k os vs → ∀ i o v, os[i]? = some o → vs[i]? = some v → Pr (k + i) o v
  | [], _, _, _, i, o, v, ho, _ => by simp at ho
  | _ :: _, [], _, h, _, _, _, _, _ => h.elim
  | x :: os, y :: vs, k, h, 0, o, v, ho, hv => by
    simp at ho hv
    subst ho; subst hv
    exact h.1
  | x :: os, y :: vs, k, h, i + 1, o, v, ho, hv => by
    have := allS_at h.2 i o v (by simpa using ho) (by simpa using hv)
    rwa [show k + (i + 1) = k + 1 + i by omega]
/-- A region that draws, the heap's list by what is done. -/
theorem T_drawS {id : Nat} {ops : List Oper} (hmix : P.follows .mixedOrders = true) (hreg : regOk ops ops.length = true) (vs : List Value) (hvs : vs.length = ops.length) (olf : (Nat → Bool) → OL) (h0 : olf (fun _ => false) = ol)
    (hok : AllS (fun i o v => ∀ L, Closed ops L → L i = false → (∀ e ∈ o.after.toList, Region.binds .any e = true → L e.on = true) → OpS P n w0 ops.toArray (olf L) (olf (add L i)) (dlAt (vs.map .ex) ops i (toDL l)) o v) 0 ops vs)
    {l' : FL} {ol' : OL} (hend : ∀ L, (∀ j, j < ops.length → L j = true) → olf L = ol') (hl : ∀ t v, look l' t = some v → lk (dlAt (vs.map .ex) ops ops.length (toDL l)) t = some (.ex v)) (k : K l' ol') : T P n w0 (.region id ops.toArray true) l ol (pthen K Q) := by
  refine ⟨fun a w hf hh => ?_⟩
  have hR := reg_of hreg
  refine wp_region_any hmix (any_of_invS (n := n) (w0 := w0) (olf := olf) (Es := vs.map .ex) (dl := toDL l) (m := ops.length) rfl hR (Nat.le_refl _) (by rw [List.length_map, hvs]) (fun i o v hi ho hv L h1 h2 h3 => ?_) (fun i t E h => dl_ex ops i vs (toDL l) (fun t E h => ?_) t E h) (fun L a w hL h1 h2 h3 h4 => ?_) _ _ _ _ ?_ (by simp) ?_ ?_)
  · have := allS_at hok i o v ho hv
    rw [Nat.zero_add] at this
    exact this L h1 h2 h3
  · rw [lk_toDL] at h
    cases hx : look l t with
    | none => rw [hx] at h; cases h
    | some u => rw [hx] at h; cases h; exact ⟨u, rfl⟩
  · rw [List.drop_length]
    rw [hend L hL] at h3
    refine (S_nil (P := P) (n := n) (w0 := w0) (all := ops.toArray) (l := l') (ol := ol') (K := K) (Q := Q) k).out a w ⟨h1, h2, fun t v hv => ?_⟩ h3
    have := h4 t
    rw [hl t v hv] at this
    obtain ⟨u, hu, hu'⟩ := this
    rw [hu, hu']
  · simp only [List.size_toArray]
    have : ((List.range ops.length).filter fun j => !(Array.replicate ops.length false).getD j true) = List.range ops.length := by
      rw [List.filter_eq_self]
      intro j hj
      have : j < ops.length := by have := List.mem_range.1 hj; omega
      simp [Array.getD, this]
    rw [this, List.length_range]
    omega
  · intro j hj _
    simp [Array.getD, hj]
  · have hz : (fun j => decide (j < ops.length) && (Array.replicate ops.length false).getD j true) = fun _ => false := by
      funext j
      by_cases hj : j < ops.length
      · simp [Array.getD, hj]
      · simp [hj]
    simp only [List.size_toArray]
    rw [hz, h0]
    refine ⟨hf.defers, hf.size, hh.drew, fun i o ho hi => (by cases hi), fun i t hi hc => ?_⟩
    have hnone : lk (dlAt (vs.map .ex) ops i (toDL l)) t = lk (toDL l) t := lk_dlAt_none fun j o hj ho hd => by
      have := (hc j o ho hd).1 hj
      cases this
    rw [hnone]
    exact sat_toDL hf t
end
end Go.Proofs.Ytggnhcgmeibihaa
