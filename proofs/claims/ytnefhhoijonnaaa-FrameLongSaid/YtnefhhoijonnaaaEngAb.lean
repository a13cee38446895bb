/-
  An engine of rules for walks, part Ab: in a region that draws: places in a slice of which something is true; two blocks that a callee turns. No program's text; conditions: each theorem's own.
-/
import Derived.Test.YtnefhhoijonnaaaRn
namespace Go.Proofs.Ytnefhhoijonnaaa
open Go Go.RowKit
set_option linter.unusedVariables false

section
variable {P : Program} {tb : Tab} {n : Nat} {w0 : World} {all : Array Oper} {os : List Oper} {o : Oper} {dl : DL} {ol : OL} {F : DL → Prop} {d : Nat}
def rp (r : Nat → Option Value) (tx : Nat) (u : Value) : Nat → Option Value := fun t => if t = tx then some u else r t
/-- An operation that looks at a slot of which something is true. -/
theorem D_opp (tx : Nat) {Φ : Value → World → Prop} (E : Ent) (hd : o.dst = some d) (hn : Nat.blt d n = true) (hg : gd all (rs all o dl) o.guard = some true) (htx : (o.looksAt all).contains tx = true) (hx : lk dl tx = some (.pr Φ)) (hst : E.Stable)
    (h : ∀ a u w, Rd a (rp (rs all o dl) tx u) → Hp w0 w ol → Φ u w → ∃ v, (execOp a.eval o).run P w = .ok (.value v) w ∧ E.at v w) (k : D P n w0 all os ((d, E) :: dl) ol F) : D P n w0 all (o :: os) dl ol F := by
  have hn' : d < n := by simpa [Nat.blt_eq] using hn
  refine D_of (E := E) ⟨fun a w h1 h2 h3 h4 => ?_, hst, fun d' hd' => ?_⟩ hd k
  · have hrd := rs_rd h4
    have hw := gd_wanted hrd hg
    refine ⟨fun _ => ?_, (fun hn => by rw [hw] at hn; cases hn)⟩
    have hs := h4 tx (by simpa using htx)
    rw [hx] at hs
    obtain ⟨u, hu1, hu2⟩ := hs
    obtain ⟨v, e1, e2⟩ := h a u w (fun t v hv => by
      unfold rp at hv
      split at hv
      · rename_i e
        subst e
        cases hv
        exact hu1
      · exact hrd t v hv) h3 hu2
    simp only [Oper.wp, e1, Oper.upon]
    exact ⟨v, rfl, Below.refl _ _, e2⟩
  · rw [hd] at hd'; cases hd'; exact hn'
/-- A pointer, a slice, of whose place something is true. -/
def PtrP (X : Nat → Nat → World → Prop) (u : Value) (w : World) : Prop := ∃ b off, u = .pointer (some ⟨b, off, none⟩) ∧ X b off w
def SliP (m : Nat) (X : Nat → Nat → World → Prop) (u : Value) (w : World) : Prop := ∃ b off c, u = .slice (some ⟨b, off, none⟩) m c ∧ X b off w
def StabP (X : Nat → Nat → World → Prop) : Prop := ∀ b off w w', X b off w → Below w.heap.size w w' → X b off w'
theorem PtrP.stable {X : Nat → Nat → World → Prop} (h : StabP X) : ∀ v w w', PtrP X v w → Below w.heap.size w w' → PtrP X v w' := fun v w w' ⟨b, off, e, hx⟩ hb => ⟨b, off, e, h b off w w' hx hb⟩
theorem SliP.stable {m : Nat} {X : Nat → Nat → World → Prop} (h : StabP X) : ∀ v w w', SliP m X v w → Below w.heap.size w w' → SliP m X v w' := fun v w w' ⟨b, off, c, e, hx⟩ hb => ⟨b, off, c, e, h b off w w' hx hb⟩
/-- Its cells are these. -/
def CellsP (xs : List Value) (b off : Nat) (w : World) : Prop := b < w.heap.size ∧ ∀ j u, xs[j]? = some u → w.cell? ⟨b, off + j, none⟩ = some u
theorem CellsP.stab (xs : List Value) : StabP (CellsP xs) := fun b off w w' ⟨h1, h2⟩ hb => ⟨Nat.lt_of_lt_of_le h1 hb.size, fun j u hu => (hb.cell (p := ⟨b, off + j, none⟩) h1).trans (h2 j u hu)⟩
theorem SliP.of_own {w : World} {base : Nat} {e : TypeId} {sz m c : Nat} {a : Option Addr} {xs : List Value} (h : w.ownsRow base e sz (.slice a m c) m xs) (hm : 0 < m) : SliP m (CellsP xs) (.slice a m c) w := by
  obtain ⟨b, off, rfl, hlt, hc⟩ := (Sl.of_own h).get hm
  exact ⟨b, off, c, rfl, hlt, hc⟩
theorem D_idxp (ht : TabOk P tb) (tx : Nat) {t e : TypeId} {y : Operand} {k : IntKind} {i : Int} {ti te : TI} {m j sz : Nat} {xs : List Value} (hs : opAt? n all (rs all o dl) o = some (d, .indexAddr t (.tmp tx) y)) (hn : Nat.blt d n = true) (htx : (o.looksAt all).contains tx = true) (hx : lk dl tx = some (.pr (SliP m (CellsP xs)))) (hy : ev (rs all o dl) y = some (.int k i))
    (hti : tl tb t = some ti) (hd : ti.desc = .slice e) (hte : tl tb e = some te) (hsz : te.size = sz) (hij : i = ((j : Nat) : Int)) (hj : j < m) (k : D P n w0 all os ((d, .pr (PtrP (CellsP (xs.drop (j * sz))))) :: dl) ol F) : D P n w0 all (o :: os) dl ol F := by
  obtain ⟨hdst, hlt, hg, hop⟩ := opAt_spec hs
  refine D_opp tx (.pr (PtrP (CellsP (xs.drop (j * sz))))) hdst hn hg htx hx (PtrP.stable (CellsP.stab _)) (fun ac u w hrd hh hu => ?_) k
  obtain ⟨b, off, c, rfl, hb, hc⟩ := hu
  refine ⟨.pointer (some ⟨b, off + j * sz, none⟩), ?_, b, off + j * sz, rfl, hb, fun q u hq => ?_⟩
  · have h1 := ht.under hti w
    rw [hd] at h1
    have h2 := ht.sizeOf hte w
    have h4 : ac.eval (.tmp tx) = .slice (some ⟨b, off, none⟩) m c := by
      have := hrd tx _ (by unfold rp; rw [if_pos rfl])
      simp [Act.eval, Array.getD_eq_getD_getElem?, this]
    have h5 : ac.eval y = .int ‹IntKind› i := by
      refine Rd.ev (r := rs all o dl) (fun t v hv => ?_) hy
      by_cases ht : t = tx
      · subst ht
        have hr : rs all o dl t = none := by
          unfold rs
          split
          · rename_i hv
            rw [hx] at hv
            cases hv
          · rfl
        rw [hr] at hv
        cases hv
      · exact hrd t v (by unfold rp; rw [if_neg ht]; exact hv)
    unfold execOp
    subst hij
    have h3 : (0 : Int) ≤ j ∧ (j : Int) < m := by omega
    simp [hop, h4, h5, Instr.indexAt, asIntOf, h1, h2, hj, hsz, Addr.add_lit]
  · rw [List.getElem?_drop] at hq
    rw [Nat.add_assoc]
    exact hc _ u hq
/-- A field of what it points to. -/
theorem D_fldp (ht : TabOk P tb) (tx : Nat) (q : Nat) {xs : List Value} (hd : o.dst = some d) (hn : Nat.blt d n = true) (hg : gd all (rs all o dl) o.guard = some true) (htx : (o.looksAt all).contains tx = true) (hx : lk dl tx = some (.pr (PtrP (CellsP xs))))
    (hp : ∀ b off, pureVal tb (rp (rs all o dl) tx (.pointer (some ⟨b, off, none⟩))) o.op = some (.pointer (some ⟨b, off + q, none⟩))) (k : D P n w0 all os ((d, .pr (PtrP (CellsP (xs.drop q)))) :: dl) ol F) : D P n w0 all (o :: os) dl ol F := by
  refine D_opp tx (.pr (PtrP (CellsP (xs.drop q)))) hd hn hg htx hx (PtrP.stable (CellsP.stab _)) (fun ac u w hrd hh hu => ?_) k
  obtain ⟨b, off, rfl, hb, hc⟩ := hu
  exact ⟨_, pure_run ht hrd (hp b off) w, b, off + q, rfl, hb, fun j u hq => by
    rw [List.getElem?_drop] at hq
    rw [Nat.add_assoc]
    exact hc _ u hq⟩
/-- What it points to. -/
theorem D_loadp (ht : TabOk P tb) (tx : Nat) {t : TypeId} {ti : TI} {v : Value} {xs : List Value} (hs : opAt? n all (rs all o dl) o = some (d, .load t (.tmp tx))) (hn : Nat.blt d n = true) (htx : (o.looksAt all).contains tx = true) (hx : lk dl tx = some (.pr (PtrP (CellsP xs))))
    (hti : tl tb t = some ti) (ha : isAggD ti.desc = false) (hv : xs[0]? = some v) (k : D P n w0 all os ((d, .ex v) :: dl) ol F) : D P n w0 all (o :: os) dl ol F := by
  obtain ⟨hdst, hlt, hg, hop⟩ := opAt_spec hs
  refine D_opp tx (.ex v) hdst hn hg htx hx trivial (fun ac u w hrd hh hu => ?_) k
  obtain ⟨b, off, rfl, hb, hc⟩ := hu
  have h4 : ac.eval (.tmp tx) = .pointer (some ⟨b, off, none⟩) := by
    have := hrd tx _ (by unfold rp; rw [if_pos rfl])
    simp [Act.eval, Array.getD_eq_getD_getElem?, this]
  refine ⟨v, ?_, rfl⟩
  have hl := loadVar_one ht hti ha (hc 0 v hv)
  rw [Nat.add_zero] at hl
  unfold execOp
  simp [hop, h4, Instr.loadAt, Instr.sureAddr, hl]
/-- A function's value in a slot is called. -/
theorem D_callv {f : Operand} {xs : Array Operand} {ts : Array TypeId} {g : FuncId} {Es : List Ent} (hs : opAt? n all (rs all o dl) o = some (d, .call ⟨.value f, xs, ts⟩)) (hf : ev (rs all o dl) f = some (.func (.func g) #[] #[])) (hE : argsD dl xs.toList = some Es) (hcall : ∀ args w, (callFunc g args).run P w = .ok (.enter g args) w) (E : Ent) (hst : E.Stable)
    (hc : ∀ w vs, Hp w0 w ol → EntsAt Es vs w → Calls P g vs.toArray w (fun e w' => ∃ v, e = .returned v ∧ Below w.heap.size w w' ∧ E.at v w')) (k : D P n w0 all os ((d, E) :: dl) ol F) : D P n w0 all (o :: os) dl ol F := by
  obtain ⟨hdst, hlt, hg, hop⟩ := opAt_spec hs
  refine D_of (E := E) ⟨fun a w h1 h2 h3 h4 => ?_, hst, fun d hd' => ?_⟩ hdst k
  · have hrd := rs_rd h4
    have hw := gd_wanted hrd hg
    refine ⟨fun _ => ?_, (fun hn => by rw [hw] at hn; cases hn)⟩
    have hent : EntsAt Es (xs.toList.map a.eval) w := argsD_at hE fun t ht => h4 t (by
      unfold Oper.looksAt
      refine List.mem_append_left _ (List.mem_filterMap.2 ⟨.tmp t, ?_, rfl⟩)
      rw [hop]
      simp [Op.operands, Call.operands]
      first | exact .inr (by simpa using ht) | simpa using ht)
    have hm : xs.map a.eval = (xs.toList.map a.eval).toArray := by
      apply Array.ext'
      simp
    have hr : (execOp a.eval o).run P w = .ok (.enter g (xs.toList.map a.eval).toArray) w := by
      unfold execOp
      simp [hop, resolve, hrd.ev hf, Deferred.ofValue, invoke, hcall, hm]
    simp only [Oper.wp, hr, Oper.upon]
    refine (hc w _ h3 hent).mono ?_
    rintro e w' ⟨v, rfl, hb', hv⟩
    exact ⟨v, rfl, hb', hv⟩
  · rw [hdst] at hd'; cases hd'; exact hlt
theorem D_callvR (p : Vp) (A : Nat → Prop) {f : Operand} {xs : Array Operand} {ts : Array TypeId} {g : FuncId} {Es : List Ent} (hs : opAt? n all (rs all o dl) o = some (d, .call ⟨.value f, xs, ts⟩)) (hf : ev (rs all o dl) f = some (.func (.func g) #[] #[])) (hE : argsD dl xs.toList = some Es) (hcall : ∀ args w, (callFunc g args).run P w = .ok (.enter g args) w)
    (hc : ∀ w vs, Hp w0 w ol → EntsAt Es vs w → Calls P g vs.toArray w (fun e w' => ∃ v, e = .returned v ∧ Below w.heap.size w w' ∧ p.at_ w' (BB w0 A ol) v)) (k : D P n w0 all os ((d, .pr (PV p w0 A ol)) :: dl) ol F) : D P n w0 all (o :: os) dl ol F :=
  D_callv hs hf hE hcall (.pr (PV p w0 A ol)) PV.stable hc k
end
theorem ResIs.cellO {P : Program} {tb : Tab} {w0 : World} {l : FL} {o : OL} (ht : TabOk P tb) (i : Nat) {t ty b : Nat} {ti : TI} {cs : List Value} {e : TypeId} {fz : Nat × Nat} {r : Bool} {v : Value} (hl : look l t = some (.pointer (some ⟨b, 0, none⟩))) (hti : tl tb ty = some ti) (hi : getE o i = some (.blk b (.cells ⟨cs⟩ e fz) r)) (hv : loadOf ti cs 0 = some v) : ResIs P w0 l o (.cell t ty) v :=
  ⟨_, hl, fun w hw => loadVar_own ht hti (hw.own _ (getE_mem hi)) hv⟩
/-- A call that turns some entries of our own, that stand first. -/
theorem Hp.graftG {w0 w w' : World} {A L ol : OL} (hh : Hp w0 w (A ++ ol)) (h2 : Hp w w' L) (hA : ∀ e ∈ A, e.ex = true) (hL : ∀ e ∈ L, e.ex = true ∧ ∀ k, e.has k → (∃ e' ∈ A, e'.has k) ∨ w.heap.size ≤ k) (hk : ∀ e ∈ A, ∀ k, e.has k → w0.heap.size ≤ k ∨ ∃ e' ∈ L, e'.has k) : Hp w0 w' (L ++ ol) := by
  have hap := List.pairwise_append.1 hh.apart
  have hAo : ∀ e ∈ A, ∀ x ∈ ol, ∀ k, e.has k → ¬ x.has k := fun e he x hx k h1 h3 => hap.2.2 e he x hx (by simp [hA e he]) k h1 h3
  have hLo : ∀ e ∈ L, ∀ x ∈ ol, ∀ k, e.has k → ¬ x.has k := fun e he x hx k h1 h3 => by
    rcases (hL e he).2 k h1 with ⟨e', h4, h5⟩ | h4
    · exact hAo e' h4 x hx k h5 h3
    · have := hh.lt (List.mem_append.2 (.inr hx)) h3
      omega
  refine ⟨h2.os.trans hh.os, h2.tape.trans hh.tape, h2.output.trans hh.output, Nat.le_trans hh.size h2.size, fun k hk0 he => ?_, fun e hm => ?_, List.pairwise_append.2 ⟨h2.apart, hap.2.1, fun e he x hx _ k h1 h3 => hLo e he x hx k h1 h3⟩⟩
  · rw [h2.old k (Nat.lt_of_lt_of_le hk0 hh.size) fun e he' hx => he e (List.mem_append.2 (.inl he')) hx]
    refine hh.old k hk0 fun e hm hx h3 => ?_
    rcases List.mem_append.1 hm with hm | hm
    · rcases hk e hm k h3 with h4 | ⟨e', h4, h5⟩
      · omega
      · exact he e' (List.mem_append.2 (.inl h4)) (hL e' h4).1 h5
    · exact he e (List.mem_append.2 (.inr hm)) hx h3
  · rcases List.mem_append.1 hm with hm | hm
    · exact h2.own e hm
    · exact HE.keep (hh.own e (List.mem_append.2 (.inr hm))) fun k h3 => h2.old k (hh.lt (List.mem_append.2 (.inr hm)) h3) fun e' he' _ h4 => hLo e' he' e hm k h4 h3
end Go.Proofs.Ytnefhhoijonnaaa
