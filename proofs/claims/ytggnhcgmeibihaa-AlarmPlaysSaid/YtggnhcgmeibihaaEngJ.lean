/-
  An engine of rules for walks, part J: structs of two integers compared; small rules for what is dropped. No program's text; conditions: each theorem's own.
-/
import Derived.Test.YtggnhcgmeibihaaEngI
import Derived.Laws.StructEq
import Derived.Laws.Externs
import Derived.Lib.AppendZeros
namespace Go.Proofs.Ytggnhcgmeibihaa
open Go Go.RowKit
set_option linter.unusedVariables false

section
variable {P : Program} {tb : Tab} {n : Nat} {w0 : World} {all : Array Oper} {os : List Oper} {o : Oper} {l : FL} {ol : OL} {r : Nat → Option Value} {d : Nat}
theorem eq2_run (ht : TabOk P tb) {w : World} {t : TypeId} {k0 k1 : IntKind} {a0 a1 b0 b1 : Int} {f0 f1 : Field} {ti t0 t1 : TI} (hti : tl tb t = some ti) (hd : ti.desc = .struct #[f0, f1]) (h0 : tl tb f0.type = some t0) (h1 : tl tb f1.type = some t1) (d0 : t0.desc = .int k0) (d1 : t1.desc = .int k1)
    (o0 : f0.offset = 0) (o1 : f1.offset = 1) (n0 : f0.name ≠ "_") (n1 : f1.name ≠ "_") (hsh : P.stoodInHeld t = false) :
    (Op.equalIn 10000 t (.agg ⟨[.int k0 a0, .int k1 a1]⟩) (.agg ⟨[.int k0 b0, .int k1 b1]⟩)).run P w = .ok (decide (a0 = b0 ∧ a1 = b1)) w := by
  have hu := (ht t ti hti).1
  rw [hd] at hu
  have hfo : P.fieldsOf t = #[f0, f1] := by unfold Program.fieldsOf; rw [hu]
  rw [run_equalIn_agg w 9999 t _ _ (by rw [hfo]; exact hu) hsh, hfo]
  have p0 : ∀ x y, (part f0.type ⟨[x, y]⟩ f0.offset).run P w = .ok x w := fun x y => part_run ht h0 (by rw [o0]; simp [partV, d0, isAggD])
  have p1 : ∀ x y, (part f1.type ⟨[x, y]⟩ f1.offset).run P w = .ok y w := fun x y => part_run ht h1 (by rw [o1]; simp [partV, d1, isAggD])
  have u0 := (ht _ _ h0).1
  have u1 := (ht _ _ h1).1
  rw [d0] at u0
  rw [d1] at u1
  simp only [Op.eqFields, n0, n1, ne_eq, not_false_eq_true, if_true, Sem.run_bind, p0, p1, Result.andThen_ok, run_equalIn_int w 9998 _ k0 k0 a0 b0 u0, run_equalIn_int w 9998 _ k1 k1 a1 b1 u1, Sem.run_ite, Sem.run_pure]
  by_cases e0 : a0 = b0 <;> by_cases e1 : a1 = b1 <;> simp [e0, e1]
theorem Q_neq2 (ht : TabOk P tb) {t t' : TypeId} {x y : Operand} {k0 k1 : IntKind} {a0 a1 b0 b1 : Int} {f0 f1 : Field} {ti t0 t1 : TI} (hs : opAt? n all r o = some (d, .binOp .neq t x y t')) (hx : ev r x = some (.agg ⟨[.int k0 a0, .int k1 a1]⟩)) (hy : ev r y = some (.agg ⟨[.int k0 b0, .int k1 b1]⟩))
    (hti : tl tb t = some ti) (hd : ti.desc = .struct #[f0, f1]) (h0 : tl tb f0.type = some t0) (h1 : tl tb f1.type = some t1) (d0 : t0.desc = .int k0) (d1 : t1.desc = .int k1)
    (o0 : f0.offset = 0) (o1 : f1.offset = 1) (n0 : f0.name ≠ "_") (n1 : f1.name ≠ "_") (hsh : P.stoodInHeld t = false) (hg : P.eqGuardType P.depth t = false) : QOp P n w0 all r ol o d (.bool (!decide (a0 = b0 ∧ a1 = b1))) :=
  Q_of hs fun ac w hrd hh hop => by
    have h2 := eq2_run ht (w := w) (a0 := a0) (a1 := a1) (b0 := b0) (b1 := b1) hti hd h0 h1 d0 d1 o0 o1 n0 n1 hsh
    unfold execOp
    simp [hop, hrd.ev hx, hrd.ev hy, run_eqGuard_agg w _ t _ _ _ _ hg, run_neq_struct, h2]
theorem Q_eq2 (ht : TabOk P tb) {t t' : TypeId} {x y : Operand} {k0 k1 : IntKind} {a0 a1 b0 b1 : Int} {f0 f1 : Field} {ti t0 t1 : TI} (hs : opAt? n all r o = some (d, .binOp .eql t x y t')) (hx : ev r x = some (.agg ⟨[.int k0 a0, .int k1 a1]⟩)) (hy : ev r y = some (.agg ⟨[.int k0 b0, .int k1 b1]⟩))
    (hti : tl tb t = some ti) (hd : ti.desc = .struct #[f0, f1]) (h0 : tl tb f0.type = some t0) (h1 : tl tb f1.type = some t1) (d0 : t0.desc = .int k0) (d1 : t1.desc = .int k1)
    (o0 : f0.offset = 0) (o1 : f1.offset = 1) (n0 : f0.name ≠ "_") (n1 : f1.name ≠ "_") (hsh : P.stoodInHeld t = false) (hg : P.eqGuardType P.depth t = false) : QOp P n w0 all r ol o d (.bool (decide (a0 = b0 ∧ a1 = b1))) :=
  Q_of hs fun ac w hrd hh hop => by
    have h2 := eq2_run ht (w := w) (a0 := a0) (a1 := a1) (b0 := b0) (b1 := b1) hti hd h0 h1 d0 d1 o0 o1 n0 n1 hsh
    unfold execOp
    simp [hop, hrd.ev hx, hrd.ev hy, run_eqGuard_agg w _ t _ _ _ _ hg, run_eql_struct, h2]
end

theorem Hp.dropn {w0 w : World} {b : Nat} {x : Obj} {r : Bool} {o : OL} (h : Hp w0 w (.blk b x r :: o)) (hb : w0.heap.size ≤ b) : Hp w0 w o :=
  h.drop fun _ k hk => by simp only [HE.has, Option.some.injEq] at hk; omega
theorem Hp.dropr {w0 w : World} {Φ : World → Prop} {F : Nat → Prop} {o : OL} (h : Hp w0 w (.rep Φ F false :: o)) : Hp w0 w o :=
  h.drop fun hx => by cases hx
theorem own_rebase {w : World} {b b' : Nat} {e : TypeId} {sz m : Nat} {v : Value} {xs : List Value} (h : w.ownsRow b e sz v m xs) (hb : b' ≤ b) : w.ownsRow b' e sz v m xs := by
  obtain ⟨e1, e2⟩ := h
  refine ⟨e1, ?_⟩
  rcases e2 with e2 | ⟨g, cap, cur, e3, e4, e5⟩
  · exact .inl e2
  · exact .inr ⟨g, cap, cur, e3, Nat.le_trans hb e4, e5⟩
theorem newrow {w0 w : World} {base : Nat} {v : Value} {t : TypeId} {sz m : Nat} {xs : List Value} {ol o : OL} (hw : Hp w0 w o) (i : Nat) (hm : getE o i = some (.row base v t sz m xs)) (h : w0.heap.size ≤ base) (hs : ∀ e ∈ ol, e.ex = true → ∀ k, e.has k → w0.heap.size ≤ k) :
    ∀ e ∈ HE.row base v t sz m xs :: ol, e.ex = true → ∀ k, e.has k → w0.heap.size ≤ k := hw.new_row (getE_mem hm) h hs
section
variable {P : Program} {tb : Tab} {n : Nat} {w0 : World} {all : Array Oper} {os : List Oper} {o : Oper} {dl : DL} {ol : OL} {F : DL → Prop}
theorem D_loadN (ht : TabOk P tb) {d : Nat} {t : TypeId} {ti : TI} {ad : Addr} {vs : List Value} (hs : loadAt? tb n all (rs all o dl) o = some (d, t, ti, ad)) (ha : isAggD ti.desc = true) (hl : vs.length = ti.size) (hv : ∀ w, Hp w0 w ol → ∀ j u, vs[j]? = some u → w.cell? (ad.add j) = some u)
    (k : D P n w0 all os ((d, .ex (.agg ⟨vs⟩)) :: dl) ol F) : D P n w0 all (o :: os) dl ol F :=
  D_load_of ht hs (fun hti w hh => loadVar_agg ht hti ha hl (hv w hh)) k
end
section
variable {P : Program} {n : Nat} {w0 : World} {all : Array Oper} {os : List Oper} {o : Oper} {l : FL} {ol : OL} {K : FL → OL → Prop} {Q : Post}
/-- A call that answers a slice with memory of its own. -/
theorem S_callrow {d m sz : Nat} {f : FuncId} {vs xs : List Value} {E : TypeId} (hs : callAt? n all (look l) o = some (d, f, vs)) (hcall : ∀ args w, (callFunc f args).run P w = .ok (.enter f args) w)
    (hc : ∀ w, Hp w0 w ol → Calls P f vs.toArray w (fun e w' => ∃ a c, e = .returned (.slice a m c) ∧ Below w.heap.size w w' ∧ w'.ownsRow w.heap.size E sz (.slice a m c) m xs))
    (k : ∀ a c, m ≤ c → c ≤ maxLen → S P n w0 all os ((d, .slice a m c) :: l) (.row w0.heap.size (.slice a m c) E sz m xs :: ol) K Q) : S P n w0 all (o :: os) l ol K Q :=
  S_call hs hcall fun w hh => (hc w hh).mono fun e w' ⟨a, c, he, hb, hr⟩ => ⟨_, _, he, hh.fresh hb (x := .row w0.heap.size (.slice a m c) E sz m xs) (own_rebase hr hh.size) (fun j hj => (World.ownsRow.lt hr j hj).1), (by obtain ⟨A, C, e1, h1, h2⟩ := form_of_own hr; cases e1; exact k a c h1 h2)⟩
end

section
variable {P : Program} {tb : Tab} {n : Nat} {w0 : World} {all : Array Oper} {os : List Oper} {o : Oper} {l : FL} {dl : DL} {ol : OL} {K : FL → OL → Prop} {Q : Post} {F : DL → Prop} {r : Nat → Option Value} {d : Nat}
/-- A callee that turns nothing, of whose answer something is said that asks no world. -/
theorem S_callE (R : Value → Prop) {f : FuncId} {vs : List Value} (hs : callAt? n all (look l) o = some (d, f, vs)) (hcall : ∀ args w, (callFunc f args).run P w = .ok (.enter f args) w)
    (hc : ∀ w, Hp w0 w ol → Calls P f vs.toArray w (fun e w' => ∃ v, e = .returned v ∧ Below w.heap.size w w' ∧ R v)) (k : ∀ v, R v → S P n w0 all os ((d, v) :: l) ol K Q) : S P n w0 all (o :: os) l ol K Q :=
  S_call hs hcall fun w hh => (hc w hh).mono fun e w' ⟨v, he, hb, hR⟩ => ⟨v, ol, he, hh.ext hb, k v hR⟩
/-- .. of whose answer something is said, with more that is not told beforehand. -/
theorem S_callX {ι : Type} (I : ι → Prop) (p : ι → Vp) (A : Nat → Prop) {f : FuncId} {vs : List Value} (hs : callAt? n all (look l) o = some (d, f, vs)) (hcall : ∀ args w, (callFunc f args).run P w = .ok (.enter f args) w)
    (hc : ∀ w, Hp w0 w ol → Calls P f vs.toArray w (fun e w' => ∃ v i, e = .returned v ∧ Below w.heap.size w w' ∧ I i ∧ (p i).at_ w' (BB w0 A ol) v))
    (k : ∀ i v F w1, I i → (∀ k, F k → A k ∨ w0.heap.size ≤ k) → (p i).at_ w1 F v → S P n w0 all os ((d, v) :: l) (.rep (fun w => (p i).at_ w F v) F false :: ol) K Q) : S P n w0 all (o :: os) l ol K Q :=
  S_call hs hcall fun w hh => (hc w hh).mono fun e w' ⟨v, i, he, hb, hi, hp⟩ => by
    obtain ⟨F, h1, h2, h3⟩ := (hh.ext hb).addV hp
    exact ⟨v, _, he, h3, k i v F w' hi h1 h2⟩
/-- A function's value with what it holds. -/
theorem Q_mkfn {fn : Fn} {cs : Array Operand} {vs : List Value} (hs : opAt? n all r o = some (d, .makeFunc fn #[] cs)) (hv : evs r cs.toList = some vs) : QOp P n w0 all r ol o d (.func fn #[] ⟨vs⟩) :=
  Q_of hs fun ac w hrd hh hop => by
    have h := hrd.evs hv
    have hm : cs.map ac.eval = vs.toArray := by
      apply Array.ext'
      simpa using h
    unfold execOp
    simp [hop, Instr.makeFunc, hm]
theorem S_callv {f : Operand} {as : Array Operand} {ts : Array TypeId} {g : FuncId} {caps : Array Value} {vs : List Value} (hs : opAt? n all (look l) o = some (d, .call ⟨.value f, as, ts⟩)) (hf : ev (look l) f = some (.func (.func g) #[] caps)) (ha : evs (look l) as.toList = some vs) (hcall : ∀ args w, (callFunc g args).run P w = .ok (.enter g args) w)
    (hc : ∀ w, Hp w0 w ol → Calls P g (vs.toArray ++ caps) w (fun e w' => ∃ v ol', e = .returned v ∧ Hp w0 w' ol' ∧ S P n w0 all os ((d, v) :: l) ol' K Q)) : S P n w0 all (o :: os) l ol K Q := by
  obtain ⟨hdst, hlt, hg, hop⟩ := opAt_spec hs
  refine ⟨fun a w hfr hh => ?_⟩
  have hm : as.map a.eval = vs.toArray := by
    apply Array.ext'
    simpa using hfr.rd.evs ha
  have hr : (execOp a.eval o).run P w = .ok (.enter g (vs.toArray ++ caps)) w := by
    unfold execOp
    simp [hop, resolve, hfr.rd.ev hf, Deferred.ofValue, invoke, hm, hcall]
  unfold wpList
  rw [if_pos (gd_wanted hfr.rd hg)]
  left
  simp only [Oper.wp, hr, Oper.upon]
  refine (hc w hh).mono ?_
  rintro e w' ⟨v, ol', rfl, hh', k⟩
  show wpList P all _ os (a.put o.dst v) w'
  rw [hdst]
  exact k.out _ _ (hfr.put hlt _) hh'
theorem S_callvq {f : Operand} {as : Array Operand} {ts : Array TypeId} {g : FuncId} {caps : Array Value} {vs : List Value} {v : Value} (hs : opAt? n all (look l) o = some (d, .call ⟨.value f, as, ts⟩)) (hf : ev (look l) f = some (.func (.func g) #[] caps)) (ha : evs (look l) as.toList = some vs) (hcall : ∀ args w, (callFunc g args).run P w = .ok (.enter g args) w)
    (hc : ∀ w, Hp w0 w ol → Calls P g (vs.toArray ++ caps) w (fun e w' => e = .returned v ∧ Below w.heap.size w w')) (k : S P n w0 all os ((d, v) :: l) ol K Q) : S P n w0 all (o :: os) l ol K Q :=
  S_callv hs hf ha hcall fun w hh => (hc w hh).mono fun e w' ⟨he, hb⟩ => ⟨v, ol, he, hh.ext hb, k⟩
/-- 'append(nil, make([]T, m)...)' -/
theorem S_appz (ht : TabOk P tb) {t tn e : TypeId} {s x : Operand} {k kn : IntKind} {m sz : Nat} {i : Int} {ti tni te : TI} (hs : opAt? n all (look l) o = some (d, .call ⟨.builtin .append, #[s, x], #[t, tn]⟩)) (hv : ev (look l) s = some (.slice none 0 0)) (hx : ev (look l) x = some (.int k i)) (hi : i = (m : Int)) (h0 : 0 < m)
    (hti : tl tb t = some ti) (hd : ti.desc = .slice e) (htn : tl tb tn = some tni) (hdn : tni.desc = .int kn) (hte : tl tb e = some te) (hsz : te.size = sz) (hpos : 0 < sz) (hzs : te.zero.cells.size = sz) (hmax : m ≤ maxLen) (hbytes : m * te.bytes ≤ 281474976710656)
    (kk : ∀ b c cs, w0.heap.size ≤ b → m ≤ c → c ≤ maxLen → cs.length = c * sz → S P n w0 all os ((d, .slice (some ⟨b, 0, none⟩) m c) :: l) (.blk b (.cells ⟨cs⟩ e (0, 0)) true :: ol) K Q) : S P n w0 all (o :: os) l ol K Q := by
  obtain ⟨hdst, hlt, hg, hop⟩ := opAt_spec hs
  refine ⟨fun a w hf hh => ?_⟩
  obtain ⟨inf, hinf, hz, hs1, hs2⟩ := (ht e te hte).2
  have hu := ht.under' hti
  rw [hd] at hu
  have hun := ht.under' htn
  rw [hdn] at hun
  subst hi
  have hm9 : (m : Int) ≤ 9223372036854775807 := by simp only [maxLen] at hmax; omega
  have hr := Lib.run_append_nil_zeros (P := P) w t tn o.type e inf te.zero k kn hu hun hinf hz m h0 (by rw [hs1, hsz]; exact hpos) hm9 (by rw [hs2]; exact hbytes)
  have hge := grownCap_ge w m 0 e
  have hcm := grownCap_le_maxLen w m 0 e hmax
  refine wpList_run (v := .slice (some ⟨w.heap.size, 0, none⟩) m (grownCap w m 0 e)) (gd_wanted hf.rd hg) ?_ ?_ (w' := w.drew.alloc (.cells (Builtin.zeroCells te.zero.cells m ++ Builtin.zeroCells te.zero.cells (grownCap w m 0 e - m)) e))
  · unfold execOp
    simp [hop, resolve, invoke, builtin, hf.rd.ev hv, hf.rd.ev hx, hr]
  · rw [hdst]
    refine (kk w.heap.size (grownCap w m 0 e) (Builtin.zeroCells te.zero.cells m ++ Builtin.zeroCells te.zero.cells (grownCap w m 0 e - m)).toList hh.size hge hcm ?_).out _ _ (hf.put hlt _) (hh.drew.alloc _)
    simp only [Array.length_toList, Array.size_append, size_zeroCells, hzs, ← Nat.add_mul]
    congr 1
    omega
end

section
variable {P : Program} {tb : Tab} {n : Nat} {w0 : World} {all : Array Oper} {os : List Oper} {o : Oper} {dl : DL} {ol : OL} {F : DL → Prop} {d : Nat}
/-- What is said of a slice that was built: no block that is named is its own. -/
def BuiltF (w0 : World) (ol : OL) (m : Nat) (cs : List Value) (e : TypeId) (v : Value) (w : World) : Prop := ∃ b, v = .slice (some ⟨b, 0, none⟩) m m ∧ w.heap[b]? = some (.cells ⟨cs⟩ e (0, 0)) ∧ w0.heap.size ≤ b ∧ ∀ e ∈ ol, ¬ e.has b
theorem BuiltF.stable {m : Nat} {cs : List Value} {e : TypeId} : ∀ v w w', BuiltF w0 ol m cs e v w → Below w.heap.size w w' → BuiltF w0 ol m cs e v w' := by
  rintro v w w' ⟨b, h1, h2, h3, h4⟩ hb
  exact ⟨b, h1, (hb.block b (heap_lt h2)).trans h2, h3, h4⟩
theorem D_bsliceF (ht : TabOk P tb) {t e : TypeId} {m sz : Nat} {ti te : TI} {ps : List (Nat × Operand)} {zs z0 cs : List Value} {vs : List (Nat × Value)} (hs : opAt? n all (rs all o dl) o = some (d, .buildSlice t m ps.toArray)) (hti : tl tb t = some ti) (hd : ti.desc = .slice e) (hte : tl tb e = some te) (hsz : te.size = sz) (hz : valCells te.zero = some zs) (hzl : Nat.beq zs.length sz = true)
    (hv : partsV (rs all o dl) ps = some vs) (hr : zrow zs sz (m * sz) 0 = some z0) (hb : buildL (placesS sz m 0) z0 vs = some cs) (hlt : allLt m vs = true) (hm : Nat.ble (m * sz) 16777216 = true)
    (k : D P n w0 all os ((d, .pr (BuiltF w0 ol m cs e)) :: dl) ol F) : D P n w0 all (o :: os) dl ol F := by
  obtain ⟨hdst, hlt', hg, hop⟩ := opAt_spec hs
  refine D_fresh (BuiltF w0 ol m cs e) hdst hlt' hg BuiltF.stable (fun a w hrd _ hh => ?_) k
  have h5 := partsV_run hrd hv
  have h7 : (ps.toArray.map fun (p : Nat × Operand) => (p.1, a.eval p.2)) = vs.toArray := by
    apply Array.ext'
    simpa using h5
  have hrun := buildSlice_run ht (w := w) (m := m) hti hd hte hsz hz (Nat.eq_of_beq_eq_true hzl) hr hb hlt (Nat.le_of_ble_eq_true hm)
  refine ⟨_, w.alloc (.cells ⟨cs⟩ e), ?_, (Below.refl _ _).alloc (Nat.le_refl _) _, w.heap.size, rfl, heap_alloc_new w _, hh.size, fun e he hk => ?_⟩
  · unfold execOp
    simp only [hop, h7, Sem.run_bind, hrun, Result.andThen_ok, Sem.run_pure]
  · have := hh.lt he hk
    omega
theorem D_outB (t : Nat) {m : Nat} {cs : List Value} {e : TypeId} {ol1 : OL} {G : FL → OL → Prop} (h : lk dl t = some (.pr (BuiltF w0 ol1 m cs e))) (hex : ∀ e ∈ ol, e.ex = true → e ∈ ol1)
    (k : ∀ b, w0.heap.size ≤ b → D P n w0 all [] ((t, .ex (.slice (some ⟨b, 0, none⟩) m m)) :: dl) (.blk b (.cells ⟨cs⟩ e (0, 0)) false :: ol) (FEnd n w0 (.blk b (.cells ⟨cs⟩ e (0, 0)) false :: ol) G)) : D P n w0 all [] dl ol (FEnd n w0 ol G) :=
  D_end fun w hw f hf => by
    obtain ⟨b, h1, h2, h3, h4⟩ := hf t _ h
    have g3 : Hp w0 w (.blk b (.cells ⟨cs⟩ e (0, 0)) false :: ol) := hw.more h2 fun e he hr k hk hk' => by
      simp only [HE.has, Option.some.injEq] at hk
      subst hk
      exact h4 e (hex e he (by simpa [HE.ex] using hr)) hk'
    have hk := (k b h3).out _ (fun _ => rfl)
    have hk' : FEnd n w0 (.blk b (.cells ⟨cs⟩ e (0, 0)) false :: ol) G ((t, .ex (.slice (some ⟨b, 0, none⟩) m m)) :: dl) := hk
    obtain ⟨l', ol', e1, e2, e3⟩ := hk' w g3 f (fun t' Φ ht' => by
      by_cases htt : t = t'
      · subst htt; rw [lk_cons_eq] at ht'; cases ht'
      · rw [lk_cons_ne htt] at ht'; exact hf t' Φ ht')
    refine ⟨l', ol', fun t' v hv => ?_, e2, e3⟩
    by_cases htt : t = t'
    · subst htt
      rcases e1 t v hv with e | ⟨Φ, e, _⟩
      · rw [lk_cons_eq] at e; cases e; exact .inr ⟨_, h, h1⟩
      · rw [lk_cons_eq] at e; cases e
    · have := e1 t' v hv
      rwa [lk_cons_ne htt] at this
theorem exs_blk {b : Nat} {x : Obj} {ol1 : OL} (h : ∀ e ∈ ol, e.ex = true → e ∈ ol1) : ∀ e ∈ HE.blk b x false :: ol, e.ex = true → e ∈ ol1 := fun e he hx => by
  rcases List.mem_cons.1 he with rfl | he
  · cases hx
  · exact h e he hx
end

/-- What is known to the letter, of a list in which not all is. -/
def rmk (k : Nat) : FL → FL
  | [] => []
  | (j, v) :: l => match Nat.beq j k with
    | true => rmk k l
    | false => (j, v) :: rmk k l
theorem rmk_look {k : Nat} : ∀ {l : FL} {t : Nat} {v : Value}, look (rmk k l) t = some v → t ≠ k ∧ look l t = some v
  | [], t, v, h => by simp [rmk, look] at h
  | (j, u) :: l, t, v, h => by
    simp only [rmk] at h
    split at h
    · rename_i hb
      have ih := rmk_look (l := l) h
      refine ⟨ih.1, ?_⟩
      have hjk := Nat.eq_of_beq_eq_true hb
      rw [look_cons_ne (fun e => ih.1 (by rw [← e, hjk]))]
      exact ih.2
    · rename_i hb
      by_cases hjt : j = t
      · subst hjt
        rw [look_cons_eq] at h ⊢
        refine ⟨fun e => ?_, h⟩
        rw [e] at hb
        simp at hb
      · rw [look_cons_ne hjt] at h ⊢
        exact rmk_look h
def exG : DL → FL
  | [] => []
  | (k, E) :: dl => match E with
    | .ex v => (k, v) :: exG dl
    | .pr _ => rmk k (exG dl)
theorem exG_look : ∀ {dl : DL} {t : Nat} {v : Value}, look (exG dl) t = some v → lk dl t = some (.ex v)
  | [], t, v, h => by simp [exG, look] at h
  | (k, E) :: dl, t, v, h => by
    cases E with
    | ex u =>
      have h : look ((k, u) :: exG dl) t = some v := h
      by_cases hkt : k = t
      · subst hkt; rw [look_cons_eq] at h; cases h; rw [lk_cons_eq]
      · rw [look_cons_ne hkt] at h; rw [lk_cons_ne hkt]; exact exG_look h
    | pr Φ =>
      have h : look (rmk k (exG dl)) t = some v := h
      obtain ⟨h1, h2⟩ := rmk_look h
      rw [lk_cons_ne (Ne.symm h1)]
      exact exG_look h2
def rmkO (k : Nat) : FL → Option FL
  | [] => some []
  | (j, v) :: l => match rmkO k l with
    | some r => match Nat.beq j k with
      | true => some r
      | false => some ((j, v) :: r)
    | none => none
theorem rmkO_eq {k : Nat} : ∀ {l r : FL}, rmkO k l = some r → r = rmk k l
  | [], r, h => by simp [rmkO] at h; subst h; rfl
  | (j, v) :: l, r, h => by
    simp only [rmkO] at h
    split at h
    · rename_i q hq
      have ih := rmkO_eq hq
      cases hb : Nat.beq j k with
      | true => rw [hb] at h; simp at h; simp [rmk, hb, ← h, ih]
      | false => rw [hb] at h; simp at h; simp [rmk, hb, ← h, ih]
    · cases h
def exGo : DL → Option FL
  | [] => some []
  | (k, E) :: dl => match exGo dl with
    | some r => match E with
      | .ex v => some ((k, v) :: r)
      | .pr _ => match rmkO k r with
        | some q => some q
        | none => none
    | none => none
theorem exGo_eq : ∀ {dl : DL} {r : FL}, exGo dl = some r → r = exG dl
  | [], r, h => by simp [exGo] at h; subst h; rfl
  | (k, E) :: dl, r, h => by
    simp only [exGo] at h
    split at h
    · rename_i q hq
      have ih := exGo_eq hq
      cases E with
      | ex v => simp at h; simp [exG, ← h, ih]
      | pr Φ =>
        simp only at h
        split at h
        · rename_i z hz
          have := rmkO_eq hz
          simp at h
          simp [exG, ← h, this, ih]
        · cases h
    · cases h
theorem D_allP {P : Program} {n : Nat} {w0 : World} {all : Array Oper} {dl : DL} {ol : OL} {G : FL → OL → Prop} {l' : FL} (hl : exGo dl = some l') (h : G l' ol) : D P n w0 all [] dl ol (FEnd n w0 ol G) :=
  D_done l' (fun t v hv => exG_look (by rw [← exGo_eq hl]; exact hv)) h
theorem Hp.fewer {w0 w : World} {o o' : OL} (h : Hp w0 w o) (hn : ∀ e ∈ o, e.ex = true → ∀ k, e.has k → w0.heap.size ≤ k) (hs : o'.Sublist o) : Hp w0 w o' :=
  ⟨h.os, h.tape, h.output, h.size, fun k hk _ => h.old k hk fun e he hx hh => by have := hn e he hx k hh; omega, fun e he => h.own e (hs.subset he), h.apart.sublist hs⟩
/-- What is true wherever one stands. -/
theorem Hp.addN {w0 w : World} {o : OL} {v : Value} (p : Vp) (h : Hp w0 w o) (hp : ∀ w, p.at_ w (fun _ => False) v) : Hp w0 w (.rep (fun w => p.at_ w (fun _ => False) v) (fun _ => False) false :: o) :=
  h.more ⟨hp w, fun w1 w2 _ _ => hp w2, fun k hk => hk.elim⟩ fun e he hr k hk => hk.elim

section
variable {P : Program} {tb : Tab} {n : Nat} {w0 : World} {all : Array Oper} {os : List Oper} {o : Oper} {dl : DL} {ol : OL} {F : DL → Prop} {d : Nat}
/-- What is said of a variable that was made. -/
def AllocF (w0 : World) (ol : OL) (cs : List Value) (e : TypeId) (v : Value) (w : World) : Prop := ∃ b, v = .pointer (some ⟨b, 0, none⟩) ∧ w.heap[b]? = some (.cells ⟨cs⟩ e (0, 0)) ∧ w0.heap.size ≤ b ∧ ∀ e ∈ ol, ¬ e.has b
theorem AllocF.stable {cs : List Value} {e : TypeId} : ∀ v w w', AllocF w0 ol cs e v w → Below w.heap.size w w' → AllocF w0 ol cs e v w' := by
  rintro v w w' ⟨b, h1, h2, h3, h4⟩ hb
  exact ⟨b, h1, (hb.block b (heap_lt h2)).trans h2, h3, h4⟩
theorem newAt_run (ht : TabOk P tb) {r : Nat → Option Value} {e : TypeId} {vs : List Value} (hs : newAt? tb n all r o = some (d, e, vs)) : gd all r o.guard = some true ∧ o.dst = some d ∧ d < n ∧ ∀ a w, Rd a r → (execOp a.eval o).run P w = .ok (.value (.pointer (some ⟨w.heap.size, 0, none⟩))) (w.alloc (.cells ⟨vs⟩ e (0, 0))) := by
  unfold newAt? at hs
  split at hs
  · rename_i hg
    split at hs
    · rename_i d' hd
      split at hs
      · rename_i hb
        split at hs
        · rename_i e' hop
          split at hs
          · rename_i ti hti
            split at hs
            · rename_i vs' hv
              simp at hs
              obtain ⟨rfl, rfl, rfl⟩ := hs
              refine ⟨hg, hd, by simpa [Nat.blt_eq] using hb, fun a w hrd => ?_⟩
              have h1 := ht.zeroOf hti w
              unfold execOp
              simp [hop, Instr.alloc, h1, newVar, newRow, valCells_eq hv]
            · cases hs
          · cases hs
        · rename_i e' x hop
          split at hs
          · rename_i v hx
            split at hs
            · rename_i vs' hv
              simp at hs
              obtain ⟨rfl, rfl, rfl⟩ := hs
              refine ⟨hg, hd, by simpa [Nat.blt_eq] using hb, fun a w hrd => ?_⟩
              unfold execOp
              simp [hop, hrd.ev hx, Instr.box, newVar, newRow, valCells_eq hv]
            · cases hs
          · cases hs
        · cases hs
      · cases hs
    · cases hs
  · cases hs
theorem D_new (ht : TabOk P tb) {e : TypeId} {vs : List Value} (hs : newAt? tb n all (rs all o dl) o = some (d, e, vs)) (k : D P n w0 all os ((d, .pr (AllocF w0 ol vs e)) :: dl) ol F) : D P n w0 all (o :: os) dl ol F := by
  obtain ⟨hg, hd, hlt, hr⟩ := newAt_run ht hs
  refine D_fresh (AllocF w0 ol vs e) hd hlt hg AllocF.stable (fun a w hrd _ hh => ?_) k
  refine ⟨_, _, hr a w hrd, (Below.refl _ _).alloc (Nat.le_refl _) _, w.heap.size, rfl, heap_alloc_new w _, hh.size, fun e he hk => ?_⟩
  have := hh.lt he hk
  omega
theorem D_outA (t : Nat) {cs : List Value} {e : TypeId} {G : FL → OL → Prop} (h : lk dl t = some (.pr (AllocF w0 ol cs e)))
    (k : ∀ b, w0.heap.size ≤ b → D P n w0 all [] ((t, .ex (.pointer (some ⟨b, 0, none⟩))) :: dl) (.blk b (.cells ⟨cs⟩ e (0, 0)) true :: ol) (FEnd n w0 (.blk b (.cells ⟨cs⟩ e (0, 0)) true :: ol) G)) : D P n w0 all [] dl ol (FEnd n w0 ol G) :=
  D_end fun w hw f hf => by
    obtain ⟨b, h1, h2, h3, h4⟩ := hf t _ h
    have g3 : Hp w0 w (.blk b (.cells ⟨cs⟩ e (0, 0)) true :: ol) := hw.more h2 fun e he hr k hk hk' => by
      simp only [HE.has, Option.some.injEq] at hk
      subst hk
      exact h4 e he hk'
    have hk := (k b h3).out _ (fun _ => rfl)
    have hk' : FEnd n w0 (.blk b (.cells ⟨cs⟩ e (0, 0)) true :: ol) G ((t, .ex (.pointer (some ⟨b, 0, none⟩))) :: dl) := hk
    obtain ⟨l', ol', e1, e2, e3⟩ := hk' w g3 f (fun t' Φ ht' => by
      by_cases htt : t = t'
      · subst htt; rw [lk_cons_eq] at ht'; cases ht'
      · rw [lk_cons_ne htt] at ht'; exact hf t' Φ ht')
    refine ⟨l', ol', fun t' v hv => ?_, e2, e3⟩
    by_cases htt : t = t'
    · subst htt
      rcases e1 t v hv with e | ⟨Φ, e, _⟩
      · rw [lk_cons_eq] at e; cases e; exact .inr ⟨_, h, h1⟩
      · rw [lk_cons_eq] at e; cases e
    · have := e1 t' v hv
      rwa [lk_cons_ne htt] at this
end
/-- A row of ours that is only read from now on. -/
theorem Hp.share {w0 w : World} {o : OL} {p : Vp} {v : Value} {e : TypeId} {sz n : Nat} {xs : List Value} (h : Hp w0 w (.row w0.heap.size v e sz n xs :: o)) (hp : w.ownsRow w0.heap.size e sz v n xs → p.at_ w (fun k => v.ownBlock = some k) v) :
    ∃ F : Nat → Prop, (∀ k, F k → w0.heap.size ≤ k) ∧ Hp w0 w (.rep (fun w => p.at_ w F v) F false :: o) := by
  have hr : w.ownsRow w0.heap.size e sz v n xs := h.own _ List.mem_cons_self
  have hlt : ∀ k, v.ownBlock = some k → w0.heap.size ≤ k ∧ k < w.heap.size := fun k hk => World.ownsRow.lt hr k hk
  refine ⟨fun k => v.ownBlock = some k, fun k hk => (hlt k hk).1, (h.drop fun _ k hk => (hlt k hk).1).more ⟨hp hr, fun w1 w2 h1 h2 => p.keep h2 fun k hk _ => ⟨h1 k hk, hk⟩, fun k hk => (hlt k hk).2⟩ fun e he _ k hk hk' => ?_⟩
  exact (List.pairwise_cons.1 h.apart).1 e he rfl k hk hk'
theorem T_share {P : Program} {n : Nat} {w0 : World} {c : Code} {l : FL} {ol : OL} {Q : Post} (p : Vp) {v : Value} {e : TypeId} {sz m : Nat} {xs : List Value} (hp : ∀ w, w.ownsRow w0.heap.size e sz v m xs → p.at_ w (fun k => v.ownBlock = some k) v)
    (k : ∀ F : Nat → Prop, (∀ k, F k → w0.heap.size ≤ k) → T P n w0 c l (.rep (fun w => p.at_ w F v) F false :: ol) Q) : T P n w0 c l (.row w0.heap.size v e sz m xs :: ol) Q :=
  ⟨fun a w hf hh => by
    obtain ⟨F, h1, h2⟩ := hh.share (hp w)
    exact (k F h1).out a w hf h2⟩
theorem S_share {P : Program} {n : Nat} {w0 : World} {all : Array Oper} {os : List Oper} {l : FL} {ol : OL} {K : FL → OL → Prop} {Q : Post} (p : Vp) {v : Value} {e : TypeId} {sz m : Nat} {xs : List Value} (hp : ∀ w, w.ownsRow w0.heap.size e sz v m xs → p.at_ w (fun k => v.ownBlock = some k) v)
    (k : ∀ F : Nat → Prop, (∀ k, F k → w0.heap.size ≤ k) → S P n w0 all os l (.rep (fun w => p.at_ w F v) F false :: ol) K Q) : S P n w0 all os l (.row w0.heap.size v e sz m xs :: ol) K Q :=
  ⟨fun a w hf hh => by
    obtain ⟨F, h1, h2⟩ := hh.share (hp w)
    exact (k F h1).out a w hf h2⟩
theorem T_addV {P : Program} {n : Nat} {w0 : World} {c : Code} {l : FL} {ol : OL} {Q : Post} (p : Vp) (A : Nat → Prop) {v : Value} (h : ∀ w, Hp w0 w ol → p.at_ w (BB w0 A ol) v)
    (k : ∀ F : Nat → Prop, (∀ k, F k → A k ∨ w0.heap.size ≤ k) → T P n w0 c l (.rep (fun w => p.at_ w F v) F false :: ol) Q) : T P n w0 c l ol Q :=
  ⟨fun a w hf hh => by
    obtain ⟨F, h1, _, h2⟩ := hh.addV (h w hh)
    exact (k F h1).out a w hf h2⟩
theorem S_addV {P : Program} {n : Nat} {w0 : World} {all : Array Oper} {os : List Oper} {l : FL} {ol : OL} {K : FL → OL → Prop} {Q : Post} (p : Vp) (A : Nat → Prop) {v : Value} (h : ∀ w, Hp w0 w ol → p.at_ w (BB w0 A ol) v)
    (k : ∀ F : Nat → Prop, (∀ k, F k → A k ∨ w0.heap.size ≤ k) → S P n w0 all os l (.rep (fun w => p.at_ w F v) F false :: ol) K Q) : S P n w0 all os l ol K Q :=
  ⟨fun a w hf hh => by
    obtain ⟨F, h1, _, h2⟩ := hh.addV (h w hh)
    exact (k F h1).out a w hf h2⟩
/-- A function of the machine's own that answers a value at once. -/
theorem S_ext {P : Program} {n : Nat} {w0 : World} {all : Array Oper} {os : List Oper} {o : Oper} {l : FL} {ol : OL} {K : FL → OL → Prop} {Q : Post} {d : Nat} {f : FuncId} {vs : List Value} {v : Value} (hs : callAt? n all (look l) o = some (d, f, vs)) (hrun : ∀ w, (callFunc f vs.toArray).run P w = .ok (.value v) w)
    (k : S P n w0 all os ((d, v) :: l) ol K Q) : S P n w0 all (o :: os) l ol K Q := by
  refine ⟨fun a w hf hh => ?_⟩
  unfold callAt? at hs
  split at hs
  · rename_i hg
    split at hs
    · rename_i d' hd
      split at hs
      · rename_i hb
        split at hs
        · rename_i f' as ts hop
          split at hs
          · rename_i vs' hx
            simp at hs
            obtain ⟨rfl, rfl, rfl⟩ := hs
            have hm : as.map a.eval = vs'.toArray := by
              apply Array.ext'
              simpa using hf.rd.evs hx
            refine wpList_run (v := v) (w' := w) (gd_wanted hf.rd hg) ?_ ?_
            · unfold execOp
              simp [hop, resolve, Act.eval, Deferred.ofValue, invoke, hm, hrun]
            · rw [hd]
              exact k.out _ w (hf.put (by simpa [Nat.blt_eq] using hb) _) hh
          · cases hs
        · cases hs
      · cases hs
    · cases hs
  · cases hs
theorem run_add64c {P : Program} {f : FuncId} {fn : Func} (hf : P.funcs[f]? = some fn) (hname : (fn.name == "runtime.NumGoroutine") = false) (hb : fn.body.isNone = true) (hn : Extern.findNext fn = none) (he : Extern.find fn = some add64Entry) {x y : Int} (hx : 0 ≤ x) (hy : 0 ≤ y) (w : World) :
    (callFunc f #[.int .u64 x, .int .u64 y, .int .u64 0]).run P w = .ok (.value (.tuple #[.int .u64 ((x + y) % 18446744073709551616), .int .u64 ((x + y) / 18446744073709551616)])) w := by
  rw [run_callFunc_extern hf hname hb hn he, run_add64 x y 0 hx hy (by decide) (by decide) w]
  simp [Result.andThen]
/-- What is said of an entry, with what it is said of picked. -/
theorem T_pick {P : Program} {n : Nat} {w0 : World} {c : Code} {l : FL} {ol : OL} {Q : Post} {ι : Type} {p : Vp} (q : ι → Vp) (I : ι → Prop) {F : Nat → Prop} {v : Value} (hpq : ∀ w, p.at_ w F v → ∃ i, I i ∧ (q i).at_ w F v)
    (k : ∀ i, I i → T P n w0 c l (.rep (fun w => (q i).at_ w F v) F false :: ol) Q) : T P n w0 c l (.rep (fun w => p.at_ w F v) F false :: ol) Q :=
  ⟨fun a w hf hh => by
    obtain ⟨h1, h2, h3⟩ := hh.own _ List.mem_cons_self
    obtain ⟨i, hi, hq⟩ := hpq w h1
    refine (k i hi).out a w hf ⟨hh.os, hh.tape, hh.output, hh.size, fun j hj he => hh.old j hj fun e hm hx => ?_, fun e he => ?_, ?_⟩
    · rcases List.mem_cons.1 hm with rfl | hm
      · cases hx
      · exact he e (List.mem_cons_of_mem _ hm) hx
    · rcases List.mem_cons.1 he with rfl | he
      · exact ⟨hq, fun w1 w2 g1 g2 => (q i).keep g2 fun k hk _ => ⟨g1 k hk, hk⟩, h3⟩
      · exact hh.own e (List.mem_cons_of_mem _ he)
    · have := List.pairwise_cons.1 hh.apart
      exact List.pairwise_cons.2 ⟨fun e he => this.1 e he, this.2⟩⟩
end Go.Proofs.Ytggnhcgmeibihaa
