/-
  An engine of rules for walks, part X: maps whose keys are integers. No program's text; conditions: each theorem's own.
-/
import Derived.Test.YtggnhcgmeibihaaEngW
namespace Go.Proofs.Ytggnhcgmeibihaa
open Go Go.RowKit
set_option linter.unusedVariables false

abbrev ME := Int × Value × Nat
abbrev mE (κ : IntKind) (p : ME) : MapEntry := ⟨.int κ p.1, p.2.1, p.2.2⟩
abbrev mapO (κ : IntKind) (M : List ME) (clock : Nat) : Obj := .map ⟨M.map (mE κ)⟩ clock
def mIdx (k : Int) : List ME → Nat → Option (Nat × Value)
  | [], _ => none
  | p :: M, i => if k = p.1 then some (i, p.2.1) else mIdx k M (i + 1)
theorem findNow_int (κ κ' : IntKind) (k : Int) : ∀ (M : List ME) (i : Nat), Instr.findNow (.int κ') (.int κ k) (M.map (mE κ)) i = some (mIdx k M i)
  | [], i => rfl
  | p :: M, i => by
    simp only [List.map_cons, Instr.findNow, Instr.sameNow, mIdx]
    by_cases h : k = p.1
    · subst h
      simp
    · rw [if_neg h]
      have : (k == p.1) = false := by simpa using h
      simp only [this, if_true]
      exact findNow_int κ κ' k M (i + 1)
section
variable {P : Program} {w : World}
theorem run_check {kt : TypeId} {κ : IntKind} (hk : P.underlying kt = some (.int κ)) (b : Bool) (k : Int) : (Instr.checkKey b 10000 kt (.int κ k)).run P w = .ok () w := by
  show (Instr.checkKey b (9999 + 1) kt (.int κ k)).run P w = _
  unfold Instr.checkKey
  simp [run_underlying hk]
theorem run_find {kt : TypeId} {κ : IntKind} (hk : P.underlying kt = some (.int κ)) (k : Int) (M : List ME) : (Instr.findKey kt (.int κ k) (M.map (mE κ))).run P w = .ok (mIdx k M 0) w := by
  unfold Instr.findKey
  simp [run_underlying hk, findNow_int]
theorem run_get {b : Nat} {es : Array MapEntry} {c : Nat} (h : w.heap[b]? = some (.map es c)) : (getObj b).run P w = .ok (.map es c) w := by
  simp [getObj, Sem.run, h]
theorem run_set {b : Nat} {es : Array MapEntry} {c : Nat} (o : Obj) (h : w.heap[b]? = some (.map es c)) : (setObj b o).run P w = .ok () { w with heap := w.heap.setIfInBounds b o } := by
  simp [setObj, Sem.run, h]
theorem run_lookup {mt kt et : TypeId} {κ : IntKind} {b : Nat} {M : List ME} {c : Nat} {z : Value} (hm : P.underlying mt = some (.map kt et)) (hk : P.underlying kt = some (.int κ)) (hb : w.heap[b]? = some (mapO κ M c)) (hz : (zeroValue et).run P w = .ok z w) (k : Int) (ok : Bool) :
    (Instr.lookup mt (.map (some b)) (.int κ k) ok).run P w = .ok (let r := match mIdx k M 0 with | some (_, v) => (v, true) | none => (z, false); if ok then .tuple #[r.1, .bool r.2] else r.1) w := by
  unfold Instr.lookup
  simp only [Sem.run_bind, run_underlying hm, Result.andThen_ok, run_get hb, Sem.run_pure, run_check hk, run_find hk]
  cases mIdx k M 0 with
  | none => simp [hz]
  | some p => simp
def mPut (M : List ME) (k : Int) (v : Value) (c : Nat) : List ME × Nat := match mIdx k M 0 with
  | some (i, _) => (M.modify i (fun p => (k, v, p.2.2)), c)
  | none => (M ++ [(k, v, c)], c + 1)
def mDel (M : List ME) (k : Int) : List ME := match mIdx k M 0 with
  | some (i, _) => M.eraseIdx i
  | none => M
theorem mIdx_spec {k : Int} : ∀ {M : List ME} {i j : Nat} {v : Value}, mIdx k M i = some (j, v) → i ≤ j ∧ ∃ p, M[j - i]? = some p ∧ p.1 = k ∧ p.2.1 = v
  | [], i, j, v, h => by cases h
  | p :: M, i, j, v, h => by
    unfold mIdx at h
    split at h
    · rename_i hk
      cases h
      exact ⟨Nat.le_refl _, p, by rw [Nat.sub_self]; rfl, hk.symm, rfl⟩
    · obtain ⟨h1, q, h2, h3, h4⟩ := mIdx_spec h
      refine ⟨by omega, q, ?_, h3, h4⟩
      rw [show j - i = (j - (i + 1)) + 1 by omega, List.getElem?_cons_succ]
      exact h2
theorem modify_mE {κ : IntKind} {M : List ME} {i : Nat} {k : Int} {v : Value} : (⟨M.map (mE κ)⟩ : Array MapEntry).modify i (fun e => { e with key := .int κ k, val := v }) = ⟨(M.modify i fun p => (k, v, p.2.2)).map (mE κ)⟩ := by
  apply Array.ext'
  rw [Array.toList_modify]
  apply List.ext_getElem?
  intro j
  rw [List.getElem?_modify, List.getElem?_map, List.getElem?_map, List.getElem?_modify]
  cases M[j]? with
  | none => simp
  | some p => by_cases h : i = j <;> simp [h, mE]
theorem run_update {mt kt et : TypeId} {κ : IntKind} {b : Nat} {M : List ME} {c : Nat} (hm : P.underlying mt = some (.map kt et)) (hk : P.underlying kt = some (.int κ)) (hb : w.heap[b]? = some (mapO κ M c)) (k : Int) (v : Value) :
    (Instr.mapUpdate mt (.map (some b)) (.int κ k) v).run P w = .ok () { w with heap := w.heap.setIfInBounds b (mapO κ (mPut M k v c).1 (mPut M k v c).2) } := by
  unfold Instr.mapUpdate
  simp only [Sem.run_bind, run_underlying hm, Result.andThen_ok, run_get hb, run_check hk, run_find hk]
  unfold mPut
  cases h : mIdx k M 0 with
  | none =>
    simp only [run_set _ hb]
    congr 4
    simp [mE]
  | some p =>
    obtain ⟨i, u⟩ := p
    obtain ⟨_, q, h2, h3, h4⟩ := mIdx_spec h
    rw [Nat.sub_zero] at h2
    have hg : ((((⟨M.map (mE κ)⟩ : Array MapEntry)[i]?).map (·.key)).getD (.int κ k)) = .int κ k := by
      simp [h2, mE, h3]
    simp only [hg, Instr.keyThatStays, Instr.sameBits, beq_self_eq_true, Bool.and_self, if_true, Sem.run_bind, Sem.run_pure, Result.andThen_ok, run_set _ hb]
    rw [modify_mE]
theorem erase_map {α β : Type} (f : α → β) : ∀ (M : List α) (i : Nat), (M.map f).eraseIdx i = (M.eraseIdx i).map f
  | [], i => rfl
  | p :: M, 0 => rfl
  | p :: M, i + 1 => by rw [List.map_cons, List.eraseIdx_cons_succ, List.eraseIdx_cons_succ, List.map_cons, erase_map f M i]
theorem run_delete {mt kt et ty : TypeId} {κ : IntKind} {b : Nat} {M : List ME} {c : Nat} (hm : P.underlying mt = some (.map kt et)) (hk : P.underlying kt = some (.int κ)) (hb : w.heap[b]? = some (mapO κ M c)) (k : Int) :
    (Builtin.delete_ #[mt, kt] ty #[.map (some b), .int κ k]).run P w = .ok (.tuple #[]) { w with heap := w.heap.setIfInBounds b (mapO κ (mDel M k) c) } := by
  unfold Builtin.delete_
  simp only [Sem.run_bind, run_underlying hm, Result.andThen_ok, run_get hb, run_check hk, run_find hk]
  unfold mDel
  cases h : mIdx k M 0 with
  | none => simp [run_set _ hb, run_underlying hm, run_get hb, run_check hk, run_find hk, h]
  | some p =>
    obtain ⟨i, u⟩ := p
    obtain ⟨_, q, h2, h3, h4⟩ := mIdx_spec h
    rw [Nat.sub_zero] at h2
    simp [run_set _ hb, run_underlying hm, run_get hb, run_check hk, run_find hk, h, erase_map]
theorem run_maplen {mt kt et : TypeId} {κ : IntKind} {b : Nat} {M : List ME} {c : Nat} (hm : P.underlying mt = some (.map kt et)) (hb : w.heap[b]? = some (mapO κ M c)) : (Builtin.len_ #[mt] 0 #[.map (some b)]).run P w = .ok (.int .i64 (M.length : Int)) w := by
  unfold Builtin.len_
  simp [run_underlying hm, run_get hb, goInt]
end
section
variable {P : Program} {tb : Tab} {n : Nat} {w0 : World} {all : Array Oper} {os : List Oper} {o : Oper} {l : FL} {ol : OL} {K : FL → OL → Prop} {Q : Post} {d : Nat} {r : Nat → Option Value}
theorem Q_lookup (ht : TabOk P tb) {mt kt et : TypeId} {x ix : Operand} {ok : Bool} {κ : IntKind} {b : Nat} {k : Int} {M : List ME} {c : Nat} {tm tk te : TI} (hs : opAt? n all r o = some (d, .lookup mt x ix ok)) (hx : ev r x = some (.map (some b))) (hi : ev r ix = some (.int κ k))
    (htm : tl tb mt = some tm) (hdm : tm.desc = .map kt et) (htk : tl tb kt = some tk) (hdk : tk.desc = .int κ) (hte : tl tb et = some te) (hb : ∀ w, Hp w0 w ol → w.heap[b]? = some (mapO κ M c)) :
    QOp P n w0 all r ol o d (let q := match mIdx k M 0 with | some (_, v) => (v, true) | none => (te.zero, false); if ok then .tuple #[q.1, .bool q.2] else q.1) :=
  Q_of hs fun ac w hrd hh hop => by
    have h1 := ht.under' htm
    rw [hdm] at h1
    have h2 := ht.under' htk
    rw [hdk] at h2
    have h3 := run_lookup h1 h2 (hb w hh) (ht.zeroOf hte w) k ok
    unfold execOp
    simp only [hop, hrd.ev hx, hrd.ev hi, Sem.run_bind, h3, Result.andThen_ok, Sem.run_pure]
theorem Q_maplen (ht : TabOk P tb) {mt kt et : TypeId} {x : Operand} {κ : IntKind} {b : Nat} {M : List ME} {c : Nat} {tm : TI} (hs : opAt? n all r o = some (d, .call ⟨.builtin .len, #[x], #[mt]⟩)) (hx : ev r x = some (.map (some b)))
    (htm : tl tb mt = some tm) (hdm : tm.desc = .map kt et) (hb : ∀ w, Hp w0 w ol → w.heap[b]? = some (mapO κ M c)) : QOp P n w0 all r ol o d (.int .i64 (M.length : Int)) :=
  Q_of hs fun ac w hrd hh hop => by
    have h1 := ht.under' htm
    rw [hdm] at h1
    have h3 := run_maplen (P := P) h1 (hb w hh)
    have h4 : (Builtin.len_ #[mt] o.type #[.map (some b)]).run P w = .ok (.int .i64 (M.length : Int)) w := h3
    unfold execOp
    simp [hop, resolve, invoke, builtin, hrd.ev hx, h4]
/-- a block of our own is turned -/
theorem Hp.setB {w0 w : World} {pre post : OL} {b : Nat} {x y : Obj} (h : Hp w0 w (pre ++ .blk b x true :: post)) : Hp w0 { w with heap := w.heap.setIfInBounds b y } (pre ++ .blk b y true :: post) := by
  have hb : w.heap[b]? = some x := h.own _ (List.mem_append.2 (.inr List.mem_cons_self))
  refine h.turn (x' := .blk b y true) rfl rfl rfl rfl (by simp) (fun k hk hne => ?_) ?_ (fun k hk => .inl hk) (fun k hk => .inr hk)
  · have : b ≠ k := fun e => hne (by rw [e]; rfl)
    simp [Array.getElem?_setIfInBounds_ne this]
  · show ({ w with heap := w.heap.setIfInBounds b y } : World).heap[b]? = some y
    have := heap_lt hb
    simp [this]
theorem S_delete (ht : TabOk P tb) (i : Nat) {mt kt et : TypeId} {x ix : Operand} {κ : IntKind} {b : Nat} {k : Int} {M : List ME} {c : Nat} {tm tk : TI} {ol' : OL} (hs : opAt? n all (look l) o = some (d, .call ⟨.builtin .delete, #[x, ix], #[mt, kt]⟩)) (hx : ev (look l) x = some (.map (some b))) (hk : ev (look l) ix = some (.int κ k))
    (hi : getE ol i = some (.blk b (mapO κ M c) true)) (htm : tl tb mt = some tm) (hdm : tm.desc = .map kt et) (htk : tl tb kt = some tk) (hdk : tk.desc = .int κ) (hp : putE ol i (.blk b (mapO κ (mDel M k) c) true) = some ol') (kk : S P n w0 all os ((d, .tuple #[]) :: l) ol' K Q) : S P n w0 all (o :: os) l ol K Q := by
  obtain ⟨hdst, hlt, hg, hop⟩ := opAt_spec hs
  refine ⟨fun a w hf hh => ?_⟩
  have h1 := ht.under' htm
  rw [hdm] at h1
  have h2 := ht.under' htk
  rw [hdk] at h2
  have h3 := run_delete (P := P) (ty := o.type) h1 h2 (hh.own _ (getE_mem hi)) k
  obtain ⟨pre, post, e1, e2⟩ := putE_eq hi hp
  refine wpList_run (v := .tuple #[]) (gd_wanted hf.rd hg) (w' := { w with heap := w.heap.setIfInBounds b (mapO κ (mDel M k) c) }) ?_ ?_
  · unfold execOp
    simp [hop, resolve, invoke, builtin, hf.rd.ev hx, hf.rd.ev hk, h3]
  · rw [hdst]
    rw [e1] at hh
    rw [e2] at kk
    exact kk.out _ _ (hf.put hlt _) hh.setB
/-- an operation without a place for what it answers -/
def noAt? (all : Array Oper) (r : Nat → Option Value) (o : Oper) : Option Op :=
  match gd all r o.guard with
  | some true => match o.dst with
    | some _ => none
    | none => some o.op
  | _ => none
theorem noAt_spec {op : Op} (hs : noAt? all r o = some op) : o.dst = none ∧ gd all r o.guard = some true ∧ o.op = op := by
  unfold noAt? at hs
  split at hs
  · rename_i hg
    split at hs
    · cases hs
    · rename_i hd
      cases hs
      exact ⟨hd, hg, rfl⟩
  · cases hs
theorem S_mapupd (ht : TabOk P tb) (i : Nat) {mt kt et : TypeId} {x ix y : Operand} {κ : IntKind} {b : Nat} {k : Int} {v : Value} {M : List ME} {c : Nat} {tm tk : TI} {ol' : OL} (hs : noAt? all (look l) o = some (.mapUpdate mt x ix y)) (hx : ev (look l) x = some (.map (some b))) (hk : ev (look l) ix = some (.int κ k)) (hy : ev (look l) y = some v)
    (hi : getE ol i = some (.blk b (mapO κ M c) true)) (htm : tl tb mt = some tm) (hdm : tm.desc = .map kt et) (htk : tl tb kt = some tk) (hdk : tk.desc = .int κ) (hp : putE ol i (.blk b (mapO κ (mPut M k v c).1 (mPut M k v c).2) true) = some ol') (kk : S P n w0 all os l ol' K Q) : S P n w0 all (o :: os) l ol K Q := by
  obtain ⟨hdst, hg, hop⟩ := noAt_spec hs
  refine ⟨fun a w hf hh => ?_⟩
  have h1 := ht.under' htm
  rw [hdm] at h1
  have h2 := ht.under' htk
  rw [hdk] at h2
  have h3 := run_update (P := P) h1 h2 (hh.own _ (getE_mem hi)) k v
  obtain ⟨pre, post, e1, e2⟩ := putE_eq hi hp
  refine wpList_runu (gd_wanted hf.rd hg) (w' := { w with heap := w.heap.setIfInBounds b (mapO κ (mPut M k v c).1 (mPut M k v c).2) }) ?_ ?_
  · unfold execOp
    simp [hop, hf.rd.ev hx, hf.rd.ev hk, hf.rd.ev hy, h3]
  · rw [hdst]
    rw [e1] at hh
    rw [e2] at kk
    exact kk.out _ _ hf hh.setB
theorem S_makemap {t : TypeId} (hs : opAt? n all (look l) o = some (d, .makeMap t none)) (κ : IntKind) (kk : ∀ b, w0.heap.size ≤ b → S P n w0 all os ((d, .map (some b)) :: l) (.blk b (mapO κ [] 0) true :: ol) K Q) : S P n w0 all (o :: os) l ol K Q := by
  obtain ⟨hdst, hlt, hg, hop⟩ := opAt_spec hs
  refine ⟨fun a w hf hh => ?_⟩
  refine wpList_run (v := .map (some w.heap.size)) (gd_wanted hf.rd hg) (w' := w.alloc (.map #[] 0)) ?_ ?_
  · unfold execOp
    simp only [hop, Option.map_none, Instr.makeMap, Sem.run_bind, run_newObj, Result.andThen_ok, Sem.run_pure]
    rfl
  · rw [hdst]
    exact (kk w.heap.size hh.size).out _ _ (hf.put hlt _) (hh.alloc _)
end
end Go.Proofs.Ytggnhcgmeibihaa
