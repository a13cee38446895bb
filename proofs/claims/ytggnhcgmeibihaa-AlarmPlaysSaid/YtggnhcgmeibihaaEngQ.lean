/-
  An engine of rules for walks, part Q: an allocation, a call, over parts O and P. No program's text; conditions: each theorem's own.
-/
import Derived.Test.YtggnhcgmeibihaaEngP
namespace Go.Proofs.Ytggnhcgmeibihaa
open Go Go.RowKit
set_option linter.unusedVariables false

section
variable {γ : Type} {P : Program} {tb : Tab} {n : Nat} {w0 : World} {all : Array Oper} {o : Oper} {dl : DL} {ol : OL} {o2 : Value × γ → OL}
theorem OpA.new (ht : TabOk P tb) {d : Nat} {e : TypeId} {vs : List Value} (hs : newAt? tb n all (rs all o dl) o = some (d, e, vs))
    (h : ∀ w b, w0.heap.size ≤ b → Hp w0 w (.blk b (.cells ⟨vs⟩ e (0, 0)) true :: ol) → ∃ g, Hp w0 w (o2 (.pointer (some ⟨b, 0, none⟩), g))) : OpA P n w0 all ol o2 dl o none := by
  obtain ⟨hg, hd, hlt, hr⟩ := newAt_run ht hs
  refine ⟨fun a w h1 h2 h3 h4 => ?_, fun d' hd' => by rw [hd] at hd'; cases hd'; exact hlt⟩
  have hrd := rs_rd h4
  have hw := gd_wanted hrd hg
  refine ⟨fun _ => ?_, (fun hn => by rw [hw] at hn; cases hn)⟩
  simp only [Oper.wp, hr a w hrd, Oper.upon]
  obtain ⟨g, h5⟩ := h _ _ h3.size (h3.alloc _)
  exact ⟨(_, g), (fun u h => by cases h), rfl, h5⟩
theorem OpA.call {d : Nat} {f : FuncId} {Es : List Ent} (hs : callD? n all dl o = some (d, f, Es)) (hcall : ∀ args w, (callFunc f args).run P w = .ok (.enter f args) w)
    (hc : ∀ w vs, Hp w0 w ol → EntsAt Es vs w → Calls P f vs.toArray w (fun e w' => ∃ v g, e = .returned v ∧ Hp w0 w' (o2 (v, g)))) : OpA P n w0 all ol o2 dl o none := by
  unfold callD? at hs
  split at hs
  · rename_i hg
    split at hs
    · rename_i d' hd
      split at hs
      · rename_i hb
        split at hs
        · rename_i f' as ts hop
          split at hs
          · rename_i Es' hEs
            simp at hs
            obtain ⟨rfl, rfl, rfl⟩ := hs
            refine ⟨fun a w h1 h2 h3 h4 => ?_, fun d hd' => ?_⟩
            · have hw := gd_wanted (rs_rd h4) hg
              refine ⟨fun _ => ?_, (fun hn => by rw [hw] at hn; cases hn)⟩
              have hent : EntsAt Es' (as.toList.map a.eval) w := argsD_at hEs fun t ht => h4 t (by
                unfold Oper.looksAt
                refine List.mem_append_left _ (List.mem_filterMap.2 ⟨.tmp t, ?_, rfl⟩)
                rw [hop]
                simp [Op.operands, Call.operands]
                simpa using ht)
              have hm : as.map a.eval = (as.toList.map a.eval).toArray := by
                apply Array.ext'
                simp
              have hr : (execOp a.eval o).run P w = .ok (.enter f' (as.toList.map a.eval).toArray) w := by
                unfold execOp
                simp [hop, resolve, Act.eval, Deferred.ofValue, invoke, hcall, hm]
              simp only [Oper.wp, hr, Oper.upon]
              refine (hc w _ h3 hent).mono ?_
              rintro e w' ⟨v, g, rfl, hv⟩
              exact ⟨(v, g), (fun u h => by cases h), rfl, hv⟩
            · rw [hd] at hd'; cases hd'; simpa [Nat.blt_eq] using hb
          · cases hs
        · cases hs
      · cases hs
    · cases hs
  · cases hs

end
end Go.Proofs.Ytggnhcgmeibihaa
