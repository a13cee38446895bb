/-
  An engine of rules for walks, part H: new memory in regions that draw. No program's text; conditions: each theorem's own.
-/
import Derived.Test.YtggnhcgmeibihaaEngG
namespace Go.Proofs.Ytggnhcgmeibihaa
open Go Go.RowKit
set_option linter.unusedVariables false

section
variable {P : Program} {tb : Tab} {n : Nat} {w0 : World} {all : Array Oper} {os : List Oper} {o : Oper} {dl : DL} {ol : OL} {F : DL → Prop} {d : Nat}
/-- An operation that makes new memory alone: something is true of its answer, and stays so. -/
theorem D_fresh (Φ : Value → World → Prop) (hd : o.dst = some d) (hn : d < n) (hg : gd all (rs all o dl) o.guard = some true) (hst : ∀ v w w', Φ v w → Below w.heap.size w w' → Φ v w')
    (hr : ∀ a w, Rd a (rs all o dl) → (∀ t ∈ o.looksAt all, Sat (lk dl t) a.tmps[t]? w) → Hp w0 w ol → ∃ v w', (execOp a.eval o).run P w = .ok (.value v) w' ∧ Below w.heap.size w w' ∧ Φ v w')
    (k : D P n w0 all os ((d, .pr Φ) :: dl) ol F) : D P n w0 all (o :: os) dl ol F := by
  refine D_of (E := .pr Φ) ⟨fun a w h1 h2 h3 h4 => ?_, hst, fun d' hd' => ?_⟩ hd k
  · have hrd := rs_rd h4
    have hw := gd_wanted hrd hg
    refine ⟨fun _ => ?_, (fun hn => by rw [hw] at hn; cases hn)⟩
    obtain ⟨v, w', e1, e2, e3⟩ := hr a w hrd h4 h3
    simp only [Oper.wp, e1, Oper.upon]
    exact ⟨v, rfl, e2, e3⟩
  · rw [hd] at hd'; cases hd'; exact hn

/-- What is said of a slice that was built. -/
def Built (base : Nat) (m : Nat) (cs : List Value) (e : TypeId) (v : Value) (w : World) : Prop := ∃ b, base ≤ b ∧ v = .slice (some ⟨b, 0, none⟩) m m ∧ w.heap[b]? = some (.cells ⟨cs⟩ e (0, 0))
theorem Built.stable {base m : Nat} {cs : List Value} {e : TypeId} : ∀ v w w', Built base m cs e v w → Below w.heap.size w w' → Built base m cs e v w' := by
  rintro v w w' ⟨b, h1, h2, h3⟩ hb
  exact ⟨b, h1, h2, (hb.block b (heap_lt h3)).trans h3⟩
theorem D_bslice (ht : TabOk P tb) {t e : TypeId} {m sz : Nat} {ti te : TI} {ps : List (Nat × Operand)} {zs z0 cs : List Value} {vs : List (Nat × Value)} (hs : opAt? n all (rs all o dl) o = some (d, .buildSlice t m ps.toArray)) (hti : tl tb t = some ti) (hd : ti.desc = .slice e) (hte : tl tb e = some te) (hsz : te.size = sz) (hz : valCells te.zero = some zs) (hzl : Nat.beq zs.length sz = true)
    (hv : partsV (rs all o dl) ps = some vs) (hr : zrow zs sz (m * sz) 0 = some z0) (hb : buildL (placesS sz m 0) z0 vs = some cs) (hlt : allLt m vs = true) (hm : Nat.ble (m * sz) 16777216 = true)
    (k : D P n w0 all os ((d, .pr (Built w0.heap.size m cs e)) :: dl) ol F) : D P n w0 all (o :: os) dl ol F := by
  obtain ⟨hdst, hlt', hg, hop⟩ := opAt_spec hs
  refine D_fresh (Built w0.heap.size m cs e) hdst hlt' hg Built.stable (fun a w hrd _ hh => ?_) k
  have h5 := partsV_run hrd hv
  have h7 : (ps.toArray.map fun (p : Nat × Operand) => (p.1, a.eval p.2)) = vs.toArray := by
    apply Array.ext'
    simpa using h5
  have hrun := buildSlice_run ht (w := w) (m := m) hti hd hte hsz hz (Nat.eq_of_beq_eq_true hzl) hr hb hlt (Nat.le_of_ble_eq_true hm)
  refine ⟨_, w.alloc (.cells ⟨cs⟩ e), ?_, (Below.refl _ _).alloc (Nat.le_refl _) _, w.heap.size, hh.size, rfl, heap_alloc_new w _⟩
  unfold execOp
  simp only [hop, h7, Sem.run_bind, hrun, Result.andThen_ok, Sem.run_pure]

/-- What is said of a slice that was appended to. -/
def Rowed (base : Nat) (e : TypeId) (sz m : Nat) (xs : List Value) (v : Value) (w : World) : Prop := ∃ A c, v = .slice A m c ∧ m ≤ c ∧ c ≤ maxLen ∧ w.ownsRow base e sz (.slice A m c) m xs
theorem Rowed.stable {base : Nat} {e : TypeId} {sz m : Nat} {xs : List Value} : ∀ v w w', Rowed base e sz m xs v w → Below w.heap.size w w' → Rowed base e sz m xs v w' := by
  rintro v w w' ⟨A, c, h1, h2, h3, h4⟩ hb
  have h5 : (HE.row base (.slice A m c) e sz m xs).holds w := h4
  exact ⟨A, c, h1, h2, h3, HE.keep h5 fun k hk => hb.block k (HE.lt h5 hk)⟩
/-- 'append(p[:len(p):len(p)], ..)' of a slice that was built. -/
theorem D_appendB (ht : TabOk P tb) {t e e' : TypeId} {s : Operand} {tx m k sz base : Nat} {a : Option Addr} {xs news : List Value} {ti te : TI}
    (hs : opAt? n all (rs all o dl) o = some (d, .call ⟨.builtin .append, #[s, .tmp tx], #[t, t]⟩)) (hv : ev (rs all o dl) s = some (.slice a m m)) (hx : lk dl tx = some (.pr (Built base k news e')))
    (hti : tl tb t = some ti) (hd : ti.desc = .slice e) (hte : tl tb e = some te) (hsz : te.size = sz) (hzs : te.zero.cells.size = sz) (hnl : news.length = k * sz)
    (hxs : ∀ w, Hp w0 w ol → Sl w sz a m xs) (hmax : m + k ≤ maxLen) (hbytes : (m + k) * te.bytes ≤ 140737488355328) (hnil : a = none → m = 0) (hpos : 0 < k)
    (kk : D P n w0 all os ((d, .pr (Rowed w0.heap.size e sz (m + k) (xs ++ news))) :: dl) ol F) : D P n w0 all (o :: os) dl ol F := by
  obtain ⟨hdst, hlt, hg, hop⟩ := opAt_spec hs
  refine D_fresh (Rowed w0.heap.size e sz (m + k) (xs ++ news)) hdst hlt hg Rowed.stable (fun ac w hrd h4 hh => ?_) kk
  obtain ⟨inf, hinf, hz, hs1, hs2⟩ := (ht e te hte).2
  have hu := ht.under' hti
  rw [hd] at hu
  have hsat := h4 tx (by
    unfold Oper.looksAt
    refine List.mem_append_left _ (List.mem_filterMap.2 ⟨.tmp tx, ?_, rfl⟩)
    rw [hop]
    simp [Op.operands, Call.operands])
  rw [hx] at hsat
  obtain ⟨u, hu1, b, hb, rfl, hcell⟩ := hsat
  have hr : Sl w sz (some ⟨b, 0, none⟩) k news := Sl.of_blk hcell hnl fun j y hy => by rw [Nat.zero_add]; exact hy
  obtain ⟨a', c', w', hrun, hbel, hsl, h1, h2, h3⟩ := run_append_full (P := P) w t o.type e inf te.zero sz te.bytes hu hinf hz (hs1.trans hsz) hs2 hzs a m xs (hxs w hh) (some ⟨b, 0, none⟩) k k news hr hmax hbytes hnil
  have hev : ac.eval (.tmp tx) = .slice (some ⟨b, 0, none⟩) k k := by simp [Act.eval, Array.getD_eq_getD_getElem?, hu1]
  refine ⟨.slice a' (m + k) c', w', ?_, hbel, a', c', rfl, h1, h2, ?_⟩
  · unfold execOp
    simp [hop, resolve, invoke, builtin, hrd.ev hv, hev, hrun]
  · rcases h3 with ⟨h3, _, _⟩ | ⟨_, h3⟩
    · omega
    · obtain ⟨e1, e2⟩ := h3
      refine ⟨e1, ?_⟩
      rcases e2 with e2 | ⟨g, cap, cur, e3, e4, e5⟩
      · exact .inl e2
      · exact .inr ⟨g, cap, cur, e3, Nat.le_trans hh.size e4, e5⟩

/-- A slot of which something is true, copied. -/
theorem D_mvp {Φ : Value → World → Prop} {tx : Nat} {op : Op} (hs : opAt? n all (rs all o dl) o = some (d, op)) (hop' : op = .move (.tmp tx) ∨ op = .assign (.tmp tx)) (hx : lk dl tx = some (.pr Φ)) (hst : ∀ v w w', Φ v w → Below w.heap.size w w' → Φ v w')
    (k : D P n w0 all os ((d, .pr Φ) :: dl) ol F) : D P n w0 all (o :: os) dl ol F := by
  obtain ⟨hdst, hlt, hg, hop⟩ := opAt_spec hs
  refine D_fresh Φ hdst hlt hg hst (fun ac w hrd h4 hh => ?_) k
  have hsat := h4 tx (by
    unfold Oper.looksAt
    refine List.mem_append_left _ (List.mem_filterMap.2 ⟨.tmp tx, ?_, rfl⟩)
    rw [hop]
    rcases hop' with rfl | rfl <;> simp [Op.operands])
  rw [hx] at hsat
  obtain ⟨u, hu1, hu2⟩ := hsat
  have hev : ac.eval (.tmp tx) = u := by simp [Act.eval, Array.getD_eq_getD_getElem?, hu1]
  refine ⟨u, w, ?_, Below.refl _ _, hu2⟩
  unfold execOp
  rcases hop' with rfl | rfl <;> simp [hop, hev]
end
end Go.Proofs.Ytggnhcgmeibihaa
