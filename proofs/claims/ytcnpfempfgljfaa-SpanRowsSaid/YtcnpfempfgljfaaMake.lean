/-
  Slices that are made. Conditions: each theorem's own.
-/
import Derived.Test.YtcnpfempfgljfaaByv
import Derived.Laws.MakeOwn
namespace Go.Proofs.Ytcnpfempfgljfaa
open Go Go.RowKit
set_option linter.unusedVariables false

section
variable {P : Program} {tb : Tab} {n : Nat} {w0 : World} {all : Array Oper} {os : List Oper} {o : Oper} {l : FL} {ol : OL} {K : FL → OL → Prop} {Q : Post} {d : Nat}
/-- 'make': a block of its own, all of it zero. -/
theorem S_make (ht : TabOk P tb) {t e : TypeId} {x y : Operand} {kl kc : IntKind} {m c : Nat} {li ci : Int} {ti te : TI} (hs : opAt? n all (look l) o = some (d, .makeSlice t x y)) (hx : ev (look l) x = some (.int kl li)) (hy : ev (look l) y = some (.int kc ci)) (hti : tl tb t = some ti) (hd : ti.desc = .slice e) (hte : tl tb e = some te)
    (hl : li = (m : Int)) (hc : ci = (c : Int)) (hmc : m ≤ c) (hbytes : te.bytes * c ≤ 281474976710656) (h63 : c ≤ 9223372036854775807)
    (k : ∀ b, w0.heap.size ≤ b → S P n w0 all os ((d, .slice (some ⟨b, 0, none⟩) m c) :: l) (.blk b (.cells ⟨(madeCells te.zero.cells (c * te.size)).toList⟩ e (0, 0)) true :: ol) K Q) : S P n w0 all (o :: os) l ol K Q := by
  obtain ⟨hdst, hlt, hg, hop⟩ := opAt_spec hs
  refine ⟨fun a w hf hh => ?_⟩
  obtain ⟨inf, hinf, hz, hs1, hs2⟩ := (ht e te hte).2
  have hu := ht.under' hti
  rw [hd] at hu
  subst hl
  subst hc
  have hb' : (inf.bytes : Int) * (c : Int) ≤ 281474976710656 := by
    rw [hs2]
    have h : ((te.bytes * c : Nat) : Int) ≤ 281474976710656 := by omega
    rwa [Int.natCast_mul] at h
  have hr := run_make (P := P) w t e inf te.zero hu hinf hz kl kc (m : Int) (c : Int) (by omega) (by omega) hb' (by omega)
  simp only [Int.toNat_natCast, hs1] at hr
  refine wpList_run (v := .slice (some ⟨w.heap.size, 0, none⟩) m c) (gd_wanted hf.rd hg) ?_ ?_ (w' := w.alloc (.cells (madeCells te.zero.cells (c * te.size)) e))
  · unfold execOp
    simp only [hop, hf.rd.ev hx, hf.rd.ev hy, Sem.run_bind, hr, Result.andThen_ok, Sem.run_pure]
  · rw [hdst]
    exact (k w.heap.size hh.size).out _ _ (hf.put hlt _) (hh.alloc _)
end
end Go.Proofs.Ytcnpfempfgljfaa
