/-
  Objects that are turned by stores, maps, calls. No program's text; conditions: each theorem's own.
-/
import Derived.Test.YtggnhcgmeibihaaEngY
import Derived.Test.YtggnhcgmeibihaaHpA
import Derived.Test.YtggnhcgmeibihaaShA
namespace Go.Proofs.Ytggnhcgmeibihaa
open Go Go.RowKit
set_option linter.unusedVariables false

/-- of an object another thing is said -/
theorem Hp.turnX {w0 w : World} {ol ol' : OL} (i : Nat) {Φ Ψ : World → Prop} {F : Nat → Prop} (hh : Hp w0 w ol) (hi : getE ol i = some (.rep Φ F true)) (hΨ : Φ w → Ψ w) (hl : Loc Ψ F) (hput : putE ol i (.rep Ψ F true) = some ol') : Hp w0 w ol' := by
  obtain ⟨pre, post, e1, e2⟩ := putE_eq hi hput
  obtain ⟨h1, _, h3⟩ := hh.own _ (getE_mem hi)
  rw [e1] at hh
  rw [e2]
  exact hh.turn (x' := .rep Ψ F true) rfl rfl rfl rfl (Nat.le_refl _) (fun _ _ _ => rfl) ⟨hΨ h1, hl, h3⟩ (fun k hk => .inl hk) (fun k hk => .inr hk)
/-- one block of an object's -/
theorem Hp.turnB {w0 w w' : World} {ol ol' : OL} (i : Nat) {Φ Ψ : World → Prop} {F : Nat → Prop} {b : Nat} (hh : Hp w0 w ol) (hi : getE ol i = some (.rep Φ F true)) (hb : F b) (h1 : w'.os = w.os) (h2 : w'.tape = w.tape) (h3 : w'.output = w.output) (h4 : w.heap.size ≤ w'.heap.size) (h5 : ∀ k, k ≠ b → w'.heap[k]? = w.heap[k]?)
    (hΨ : Φ w → Ψ w') (hl : Loc Ψ F) (hput : putE ol i (.rep Ψ F true) = some ol') : Hp w0 w' ol' := by
  obtain ⟨pre, post, e1, e2⟩ := putE_eq hi hput
  obtain ⟨g1, _, g3⟩ := hh.own _ (getE_mem hi)
  rw [e1] at hh
  rw [e2]
  exact hh.turn (x' := .rep Ψ F true) rfl h1 h2 h3 h4 (fun k _ hne => h5 k fun e => hne (by rw [e]; exact hb)) ⟨hΨ g1, hl, fun k hk => Nat.lt_of_lt_of_le (g3 k hk) h4⟩ (fun k hk => .inl hk) (fun k hk => .inr hk)
section
variable {P : Program} {tb : Tab} {n : Nat} {w0 : World} {all : Array Oper} {os : List Oper} {o : Oper} {l : FL} {ol : OL} {K : FL → OL → Prop} {Q : Post} {d : Nat} {r : Nat → Option Value}
theorem S_storeO (ht : TabOk P tb) (i : Nat) {b off sz : Nat} {vs : List Value} {ol' : OL} {Φ Ψ : World → Prop} {F : Nat → Prop} (cs cs' : List Value) (e : TypeId) (hs : storeAt? tb all (look l) o = some (b, off, vs, sz)) (hlen : vs.length = sz) (h1 : ∀ u ∈ vs, u.oneCell' = true)
    (hi : getE ol i = some (.rep Φ F true)) (hb : F b) (hc : ∀ w, Φ w → w.heap[b]? = some (.cells ⟨cs⟩ e (0, 0))) (hm : setMany cs off vs = some cs') (hΨ : ∀ w w', Φ w → (∀ k, k ≠ b → w'.heap[k]? = w.heap[k]?) → w'.heap[b]? = some (.cells ⟨cs'⟩ e (0, 0)) → Ψ w') (hL : Loc Ψ F)
    (ho : putE ol i (.rep Ψ F true) = some ol') (k : S P n w0 all os l ol' K Q) : S P n w0 all (o :: os) l ol K Q := by
  refine ⟨fun a w hf hh => ?_⟩
  unfold storeAt? at hs
  split at hs
  · rename_i hg
    split at hs
    · rename_i hd
      split at hs
      · rename_i t x y hop
        split at hs
        · rename_i ti hti
          split at hs
          · rename_i b' off' hx
            split at hs
            · rename_i v hy
              split at hs
              · rename_i vs' hv
                simp at hs
                obtain ⟨rfl, rfl, rfl, rfl⟩ := hs
                have hb2 := hc w (hh.own _ (getE_mem hi)).1
                refine wpList_runu (gd_wanted hf.rd hg) ?_ ?_ (w' := w.setRow b' ⟨cs'⟩)
                · unfold execOp
                  simp [hop, hf.rd.ev hx, hf.rd.ev hy, Instr.storeAt, Instr.sureAddr, storeVar_own ht hti hv hlen h1 hb2 hm]
                · rw [hd]
                  refine k.out _ _ hf ?_
                  exact hh.turnB i hi hb rfl rfl rfl (by simp) (fun k hk => setRow_other w b' k ⟨cs'⟩ hk) (fun hΦ => hΨ w _ hΦ (fun k hk => setRow_other w b' k ⟨cs'⟩ hk) (setRow_heap w b' ⟨cs⟩ ⟨cs'⟩ e (0, 0) hb2)) hL ho
              · cases hs
            · cases hs
          · cases hs
        · cases hs
      · cases hs
    · cases hs
  · cases hs
theorem S_deleteO (ht : TabOk P tb) (i : Nat) {mt kt et : TypeId} {x ix : Operand} {κ : IntKind} {b : Nat} {k : Int} {tm tk : TI} {ol' : OL} {Φ Ψ : World → Prop} {F : Nat → Prop} (M : List ME) (c : Nat) (hs : noAt? all (look l) o = some (.call ⟨.builtin .delete, #[x, ix], #[mt, kt]⟩)) (hx : ev (look l) x = some (.map (some b))) (hk : ev (look l) ix = some (.int κ k))
    (htm : tl tb mt = some tm) (hdm : tm.desc = .map kt et) (htk : tl tb kt = some tk) (hdk : tk.desc = .int κ) (hi : getE ol i = some (.rep Φ F true)) (hb : F b) (hc : ∀ w, Φ w → w.heap[b]? = some (mapO κ M c))
    (hΨ : ∀ w w', Φ w → (∀ k, k ≠ b → w'.heap[k]? = w.heap[k]?) → w'.heap[b]? = some (mapO κ (mDel M k) c) → Ψ w') (hL : Loc Ψ F) (hp : putE ol i (.rep Ψ F true) = some ol') (kk : S P n w0 all os l ol' K Q) : S P n w0 all (o :: os) l ol K Q := by
  obtain ⟨hdst, hg, hop⟩ := noAt_spec hs
  refine ⟨fun a w hf hh => ?_⟩
  have h1 := ht.under' htm
  rw [hdm] at h1
  have h2 := ht.under' htk
  rw [hdk] at h2
  have hb2 := hc w (hh.own _ (getE_mem hi)).1
  have h3 := run_delete (P := P) (ty := o.type) h1 h2 hb2 k
  refine wpList_run (v := .tuple #[]) (gd_wanted hf.rd hg) (w' := { w with heap := w.heap.setIfInBounds b (mapO κ (mDel M k) c) }) ?_ ?_
  · unfold execOp
    simp [hop, resolve, invoke, builtin, hf.rd.ev hx, hf.rd.ev hk, h3]
  · rw [hdst]
    have e1 : ∀ k', k' ≠ b → (w.heap.setIfInBounds b (mapO κ (mDel M k) c))[k']? = w.heap[k']? := fun k' hk' => Array.getElem?_setIfInBounds_ne (fun e => hk' e.symm)
    exact kk.out _ _ hf (hh.turnB i hi hb rfl rfl rfl (by simp) e1 (fun hΦ => hΨ w _ hΦ e1 (by have := heap_lt hb2; simp [this])) hL hp)
theorem S_mapupdO (ht : TabOk P tb) (i : Nat) {mt kt et : TypeId} {x ix y : Operand} {κ : IntKind} {b : Nat} {k : Int} {v : Value} {tm tk : TI} {ol' : OL} {Φ Ψ : World → Prop} {F : Nat → Prop} (M : List ME) (c : Nat) (hs : noAt? all (look l) o = some (.mapUpdate mt x ix y)) (hx : ev (look l) x = some (.map (some b))) (hk : ev (look l) ix = some (.int κ k)) (hy : ev (look l) y = some v)
    (htm : tl tb mt = some tm) (hdm : tm.desc = .map kt et) (htk : tl tb kt = some tk) (hdk : tk.desc = .int κ) (hi : getE ol i = some (.rep Φ F true)) (hb : F b) (hc : ∀ w, Φ w → w.heap[b]? = some (mapO κ M c))
    (hΨ : ∀ w w', Φ w → (∀ k, k ≠ b → w'.heap[k]? = w.heap[k]?) → w'.heap[b]? = some (mapO κ (mPut M k v c).1 (mPut M k v c).2) → Ψ w') (hL : Loc Ψ F) (hp : putE ol i (.rep Ψ F true) = some ol') (kk : S P n w0 all os l ol' K Q) : S P n w0 all (o :: os) l ol K Q := by
  obtain ⟨hdst, hg, hop⟩ := noAt_spec hs
  refine ⟨fun a w hf hh => ?_⟩
  have h1 := ht.under' htm
  rw [hdm] at h1
  have h2 := ht.under' htk
  rw [hdk] at h2
  have hb2 := hc w (hh.own _ (getE_mem hi)).1
  have h3 := run_update (P := P) h1 h2 hb2 k v
  refine wpList_runu (gd_wanted hf.rd hg) (w' := { w with heap := w.heap.setIfInBounds b (mapO κ (mPut M k v c).1 (mPut M k v c).2) }) ?_ ?_
  · unfold execOp
    simp [hop, hf.rd.ev hx, hf.rd.ev hk, hf.rd.ev hy, h3]
  · rw [hdst]
    have e1 : ∀ k', k' ≠ b → (w.heap.setIfInBounds b (mapO κ (mPut M k v c).1 (mPut M k v c).2))[k']? = w.heap[k']? := fun k' hk' => Array.getElem?_setIfInBounds_ne (fun e => hk' e.symm)
    exact kk.out _ _ hf (hh.turnB i hi hb rfl rfl rfl (by simp) e1 (fun hΦ => hΨ w _ hΦ e1 (by have := heap_lt hb2; simp [this])) hL hp)
/-- 'v, ok := m[k]': there -/
theorem Q_look1 (ht : TabOk P tb) {mt kt et : TypeId} {x ix : Operand} {κ : IntKind} {b : Nat} {k : Int} {M : List ME} {c : Nat} {tm tk te : TI} {v : Value} (hs : opAt? n all r o = some (d, .lookup mt x ix true)) (hx : ev r x = some (.map (some b))) (hi : ev r ix = some (.int κ k))
    (htm : tl tb mt = some tm) (hdm : tm.desc = .map kt et) (htk : tl tb kt = some tk) (hdk : tk.desc = .int κ) (hte : tl tb et = some te) (hb : ∀ w, Hp w0 w ol → w.heap[b]? = some (mapO κ M c)) (hg : mGet M k = some v) :
    QOp P n w0 all r ol o d (.tuple #[v, .bool true]) := by
  have h := Q_lookup (w0 := w0) (ol := ol) ht hs hx hi htm hdm htk hdk hte hb
  unfold mGet at hg
  cases hm : mIdx k M 0 with
  | none =>
    rw [hm] at h hg
    first | exact h | cases hg
  | some p =>
    obtain ⟨j, u⟩ := p
    rw [hm] at h hg
    cases hg
    exact h
/-- .. not there -/
theorem Q_look0 (ht : TabOk P tb) {mt kt et : TypeId} {x ix : Operand} {κ : IntKind} {b : Nat} {k : Int} {M : List ME} {c : Nat} {tm tk te : TI} (hs : opAt? n all r o = some (d, .lookup mt x ix true)) (hx : ev r x = some (.map (some b))) (hi : ev r ix = some (.int κ k))
    (htm : tl tb mt = some tm) (hdm : tm.desc = .map kt et) (htk : tl tb kt = some tk) (hdk : tk.desc = .int κ) (hte : tl tb et = some te) (hb : ∀ w, Hp w0 w ol → w.heap[b]? = some (mapO κ M c)) (hg : mGet M k = none) :
    QOp P n w0 all r ol o d (.tuple #[te.zero, .bool false]) := by
  have h := Q_lookup (w0 := w0) (ol := ol) ht hs hx hi htm hdm htk hdk hte hb
  unfold mGet at hg
  cases hm : mIdx k M 0 with
  | none =>
    rw [hm] at h hg
    first | exact h | cases hg
  | some p =>
    obtain ⟨j, u⟩ := p
    rw [hm] at h hg
    cases hg
/-- An object that a callee turns, and a slice that it makes. -/
theorem Hp.graftTR {w0 w w' : World} {ol ol' : OL} (i : Nat) {Φ Ψ : World → Prop} {F F' : Nat → Prop} {v : Value} {E : TypeId} {sz m : Nat} {xs : List Value} (hh : Hp w0 w ol) (hi : getE ol i = some (.rep Φ F true)) (h2 : Hp w w' [.row w.heap.size v E sz m xs, .rep Ψ F' true]) (hF : ∀ k, F k → F' k) (hF' : ∀ k, F' k → F k ∨ w.heap.size ≤ k)
    (hput : putE ol i (.rep Ψ F' true) = some ol') : Hp w0 w' (.row w0.heap.size v E sz m xs :: ol') := by
  have hrow : w'.ownsRow w.heap.size E sz v m xs := h2.own _ List.mem_cons_self
  have hid : ∀ k, (HE.row w.heap.size v E sz m xs).has k → w.heap.size ≤ k := fun k hk => (World.ownsRow.lt hrow k hk).1
  have h3 := hh.graftT i hi (h2.drop fun _ => hid) hF hF' hput
  refine h3.more (x := .row w0.heap.size v E sz m xs) (own_rebase hrow hh.size) fun e he _ k hk hk' => ?_
  have h4 := hid k hk
  obtain ⟨pre, post, e1, e2⟩ := putE_eq hi hput
  rw [e2] at he
  rcases List.mem_append.1 he with he | he
  · have := hh.lt (e := e) (by rw [e1]; exact List.mem_append.2 (.inl he)) hk'
    omega
  · rcases List.mem_cons.1 he with rfl | he
    · exact (List.pairwise_cons.1 h2.apart).1 _ List.mem_cons_self rfl k hk hk'
    · have := hh.lt (e := e) (by rw [e1]; exact List.mem_append.2 (.inr (List.mem_cons_of_mem _ he))) hk'
      omega
theorem S_callTR (i : Nat) {f : FuncId} {vs : List Value} {Φ : World → Prop} {F : Nat → Prop} (hs : callAt? n all (look l) o = some (d, f, vs)) (hcall : ∀ args w, (callFunc f args).run P w = .ok (.enter f args) w) (hi : getE ol i = some (.rep Φ F true))
    (hc : ∀ w, Hp w0 w ol → Calls P f vs.toArray w (fun e w' => ∃ v Ψ F' u E sz m xs, e = .returned v ∧ Hp w w' [.row w.heap.size u E sz m xs, .rep Ψ F' true] ∧ (∀ k, F k → F' k) ∧ (∀ k, F' k → F k ∨ w.heap.size ≤ k) ∧ ∃ ol', putE ol i (.rep Ψ F' true) = some ol' ∧ S P n w0 all os ((d, v) :: l) (.row w0.heap.size u E sz m xs :: ol') K Q)) : S P n w0 all (o :: os) l ol K Q :=
  S_call hs hcall fun w hh => (hc w hh).mono fun e w' ⟨v, Ψ, F', u, E, sz, m, xs, he, h2, g1, g2, ol', hput, k⟩ => ⟨v, _, he, hh.graftTR i hi h2 g1 g2 hput, k⟩
end
/-- an object that a callee makes -/
theorem Hp.graftN {w0 w w' : World} {ol : OL} {Ψ : World → Prop} {F : Nat → Prop} (hh : Hp w0 w ol) (h2 : Hp w w' [.rep Ψ F true]) (hF : ∀ k, F k → w.heap.size ≤ k) : Hp w0 w' (.rep Ψ F true :: ol) :=
  hh.fresh (h2.below fun e he _ k hk => by
    rw [List.mem_singleton] at he
    subst he
    exact hF k hk) (h2.own _ List.mem_cons_self) hF
theorem S_callN {P : Program} {n : Nat} {w0 : World} {all : Array Oper} {os : List Oper} {o : Oper} {l : FL} {ol : OL} {K : FL → OL → Prop} {Q : Post} {d : Nat} {f : FuncId} {vs : List Value} (hs : callAt? n all (look l) o = some (d, f, vs)) (hcall : ∀ args w, (callFunc f args).run P w = .ok (.enter f args) w)
    (hc : ∀ w, Hp w0 w ol → Calls P f vs.toArray w (fun e w' => ∃ v Ψ F, e = .returned v ∧ Hp w w' [.rep Ψ F true] ∧ (∀ k, F k → w.heap.size ≤ k) ∧ ((∀ k, F k → w0.heap.size ≤ k) → S P n w0 all os ((d, v) :: l) (.rep Ψ F true :: ol) K Q))) : S P n w0 all (o :: os) l ol K Q :=
  S_call hs hcall fun w hh => (hc w hh).mono fun e w' ⟨v, Ψ, F, he, h2, g1, k⟩ => ⟨v, _, he, hh.graftN h2 g1, k fun j hj => Nat.le_trans hh.size (g1 j hj)⟩
end Go.Proofs.Ytggnhcgmeibihaa
