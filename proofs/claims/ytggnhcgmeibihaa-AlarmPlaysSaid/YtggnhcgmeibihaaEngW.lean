/-
  An engine of rules for walks, part W: slices that are made; what a callee made. Conditions: each theorem's own.
-/
import Derived.Test.YtggnhcgmeibihaaEngV
import Derived.Laws.MakeOwn
namespace Go.Proofs.Ytggnhcgmeibihaa
open Go Go.RowKit
set_option linter.unusedVariables false

section
variable {P : Program} {tb : Tab} {n : Nat} {w0 : World} {all : Array Oper} {os : List Oper} {o : Oper} {l : FL} {ol : OL} {K : FL → OL → Prop} {Q : Post} {d : Nat}
/-- 'make': a block of its own, all of it zero. -/
theorem S_make (ht : TabOk P tb) {t e : TypeId} {x y : Operand} {kl kc : IntKind} {m c : Nat} {li ci : Int} {ti te : TI} (hs : opAt? n all (look l) o = some (d, .makeSlice t x y)) (hx : ev (look l) x = some (.int kl li)) (hy : ev (look l) y = some (.int kc ci)) (hti : tl tb t = some ti) (hd : ti.desc = .slice e) (hte : tl tb e = some te)
    (hl : li = (m : Int)) (hc : ci = (c : Int)) (hmc : m ≤ c) (hbytes : te.bytes * c ≤ 281474976710656) (h63 : c ≤ 9223372036854775807)
    (k : ∀ b, w0.heap.size ≤ b → S P n w0 all os ((d, .slice (some ⟨b, 0, none⟩) m c) :: l) (.blk b (.cells ⟨(madeCells te.zero.cells (c * te.size)).toList⟩ e (0, 0)) true :: ol) K Q) : S P n w0 all (o :: os) l ol K Q := by
  obtain ⟨hdst, hlt, hg, hop⟩ := opAt_spec hs
  refine ⟨fun a w hf hh => ?_⟩
  obtain ⟨inf, hinf, hz, hs1, hs2⟩ := (ht e te hte).2
  have hu := ht.under' hti
  rw [hd] at hu
  subst hl
  subst hc
  have hb' : (inf.bytes : Int) * (c : Int) ≤ 281474976710656 := by
    rw [hs2]
    have h : ((te.bytes * c : Nat) : Int) ≤ 281474976710656 := by omega
    rwa [Int.natCast_mul] at h
  have hr := run_make (P := P) w t e inf te.zero hu hinf hz kl kc (m : Int) (c : Int) (by omega) (by omega) hb' (by omega)
  simp only [Int.toNat_natCast, hs1] at hr
  refine wpList_run (v := .slice (some ⟨w.heap.size, 0, none⟩) m c) (gd_wanted hf.rd hg) ?_ ?_ (w' := w.alloc (.cells (madeCells te.zero.cells (c * te.size)) e))
  · unfold execOp
    simp only [hop, hf.rd.ev hx, hf.rd.ev hy, Sem.run_bind, hr, Result.andThen_ok, Sem.run_pure]
  · rw [hdst]
    exact (k w.heap.size hh.size).out _ _ (hf.put hlt _) (hh.alloc _)
end
theorem nbb' {p : Vp} {w0 w w' : World} {A : Nat → Prop} {ol : OL} {v : Value} (hh : Hp w0 w ol) (h : p.at_ w' (fun k => w.heap.size ≤ k) v) : p.at_ w' (BB w0 A ol) v := p.keep h fun k hk _ => ⟨rfl, BB_new hh hk⟩
theorem ret5 {P : Program} {fn : Func} {n : Nat} {w0 : World} {R : Ending → World → Prop} {l : FL} {o : OL} {r1 r2 r3 r4 r5 : ResultVar} {v1 v2 v3 v4 v5 : Value} (hr : fn.results = #[r1, r2, r3, r4, r5]) (h1 : ResIs P w0 l o r1 v1) (h2 : ResIs P w0 l o r2 v2) (h3 : ResIs P w0 l o r3 v3) (h4 : ResIs P w0 l o r4 v4) (h5 : ResIs P w0 l o r5 v5) (h : ∀ w, Hp w0 w o → R (.returned (.tuple #[v1, v2, v3, v4, v5])) w) : bodyP P fn n w0 R .ret l o :=
  fun a w hf hh => ⟨_, by rw [results_eq, hr]; simp [res_run hf hh h1, res_run hf hh h2, res_run hf hh h3, res_run hf hh h4, res_run hf hh h5], h w hh⟩
theorem made_one (z : Value) (n : Nat) : (madeCells #[z] (n * 1)).toList = List.replicate n z := by
  rw [toList_madeCells_one, Nat.mul_one]
end Go.Proofs.Ytggnhcgmeibihaa
