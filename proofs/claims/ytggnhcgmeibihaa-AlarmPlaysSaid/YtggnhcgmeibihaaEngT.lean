/-
  An engine of rules for walks, part T: slices with memory of their own, in regions that draw. No program's text; conditions: each theorem's own.
-/
import Derived.Test.YtggnhcgmeibihaaEngR
namespace Go.Proofs.Ytggnhcgmeibihaa
open Go Go.RowKit
set_option linter.unusedVariables false

theorem Hp.rowForm {w0 w : World} {o : OL} (h : Hp w0 w o) (i : Nat) {base sz m : Nat} {v : Value} {E : TypeId} {xs : List Value} (hi : getE o i = some (.row base v E sz m xs)) : ∃ A C, v = .slice A m C ∧ w.ownsRow base E sz (.slice A m C) m xs := by
  have h1 : w.ownsRow base E sz v m xs := h.own _ (getE_mem hi)
  obtain ⟨A, C, e, _, _⟩ := form_of_own h1
  exact ⟨A, C, e, e ▸ h1⟩
section
variable {γ : Type} {P : Program} {tb : Tab} {n : Nat} {w0 : World} {all : Array Oper} {o : Oper} {dl : DL} {ol ol' : OL} {o2 : Value × γ → OL} {tk : Option Value} {d : Nat} {v : Value}
theorem OpS.post {ol2 : OL} (h : OpS P n w0 all ol ol' dl o v) (hk : ∀ w, Hp w0 w ol' → Hp w0 w ol2) : OpS P n w0 all ol ol2 dl o v :=
  ⟨fun a w h1 h2 h3 h4 => by
    obtain ⟨g1, g2⟩ := h.ok a w h1 h2 h3 h4
    exact ⟨fun hw => Oper.wp_mono2 (fun a' w' ⟨e1, e2⟩ => ⟨e1, hk w' e2⟩) (fun _ _ _ h => h) (g1 hw), fun hw => ⟨(g2 hw).1, hk w (g2 hw).2⟩⟩, h.lt⟩
/-- What answers a value that is known, though not told. -/
theorem OpA.known (g : γ) (hd : o.dst = some d) (h : D P n w0 all [o] dl ol (fun dl' => lk dl' d = some (.ex v))) (hk : ∀ w, Hp w0 w ol → Hp w0 w (o2 (v, g))) : OpA P n w0 all ol o2 dl o none :=
  OpS.toF g (fun u h => by cases h) ((OpS.ofD hd h).post hk)
theorem OpA.callrow {f : FuncId} {Es : List Ent} {E : TypeId} {sz m : Nat} {xs : List Value} (hs : callD? n all dl o = some (d, f, Es)) (hcall : ∀ args w, (callFunc f args).run P w = .ok (.enter f args) w)
    (hc : ∀ w vs, Hp w0 w ol → EntsAt Es vs w → Calls P f vs.toArray w (fun e w' => ∃ a c, e = .returned (.slice a m c) ∧ Below w.heap.size w w' ∧ w'.ownsRow w.heap.size E sz (.slice a m c) m xs))
    (h : ∀ w v, Hp w0 w (.row w0.heap.size v E sz m xs :: ol) → ∃ g, Hp w0 w (o2 (v, g))) : OpA P n w0 all ol o2 dl o none :=
  OpA.call hs hcall fun w vs hh he => (hc w vs hh he).mono fun e w' ⟨a, c, e1, hb, hr⟩ => by
    obtain ⟨g, hg⟩ := h w' _ (hh.fresh hb (x := .row w0.heap.size (.slice a m c) E sz m xs) (own_rebase hr hh.size) (fun j hj => (World.ownsRow.lt hr j hj).1))
    exact ⟨_, g, e1, hg⟩
theorem OpA.bsliceR (ht : TabOk P tb) {t e : TypeId} {m sz : Nat} {ti te : TI} {ps : List (Nat × Operand)} {zs z0 cs : List Value} {vs : List (Nat × Value)} (hs : opAt? n all (rs all o dl) o = some (d, .buildSlice t m ps.toArray)) (hti : tl tb t = some ti) (hd : ti.desc = .slice e) (hte : tl tb e = some te) (hsz : te.size = sz) (hz : valCells te.zero = some zs) (hzl : Nat.beq zs.length sz = true)
    (hv : partsV (rs all o dl) ps = some vs) (hr : zrow zs sz (m * sz) 0 = some z0) (hb : buildL (placesS sz m 0) z0 vs = some cs) (hlt : allLt m vs = true) (hm : Nat.ble (m * sz) 16777216 = true) (hm2 : Nat.ble m 16777216 = true) (hcl : cs.length = m * sz)
    (h : ∀ w v, Hp w0 w (.row w0.heap.size v e sz m cs :: ol) → ∃ g, Hp w0 w (o2 (v, g))) : OpA P n w0 all ol o2 dl o none := by
  obtain ⟨hdst, hlt', hg, hop⟩ := opAt_spec hs
  refine ⟨fun a w h1 h2 h3 h4 => ?_, fun d' hd' => by rw [hdst] at hd'; cases hd'; exact hlt'⟩
  have hrd := rs_rd h4
  have hw := gd_wanted hrd hg
  refine ⟨fun _ => ?_, (fun hn => by rw [hw] at hn; cases hn)⟩
  have h5 := partsV_run hrd hv
  have h7 : (ps.toArray.map fun (p : Nat × Operand) => (p.1, a.eval p.2)) = vs.toArray := by
    apply Array.ext'
    simpa using h5
  have hrun := buildSlice_run ht (w := w) (m := m) hti hd hte hsz hz (Nat.eq_of_beq_eq_true hzl) hr hb hlt (Nat.le_of_ble_eq_true hm)
  have hr2 : (execOp a.eval o).run P w = .ok (.value (.slice (some ⟨w.heap.size, 0, none⟩) m m)) (w.alloc (.cells ⟨cs⟩ e)) := by
    unfold execOp
    simp only [hop, h7, Sem.run_bind, hrun, Result.andThen_ok, Sem.run_pure]
  simp only [Oper.wp, hr2, Oper.upon]
  have hle := Nat.le_of_ble_eq_true hm
  have hpos : m ≤ maxLen := Nat.le_trans (Nat.le_of_ble_eq_true hm2) (by unfold maxLen; decide)
  have h8 := Hp.closeRow (pre := []) (n := m) (c := m) (sz := sz) (h3.alloc (.cells ⟨cs⟩ e)) h3.size (Nat.le_refl _) hpos hcl
  rw [List.take_of_length_le (by omega)] at h8
  obtain ⟨g, h9⟩ := h _ _ h8
  exact ⟨(_, g), (fun u h => by cases h), rfl, h9⟩
end
end Go.Proofs.Ytggnhcgmeibihaa
