/-
  An engine of rules for walks, part E: the steps within a region that draws its order. No program's text; conditions: each theorem's own.
-/
import Derived.Test.YtggnhcgmeibihaaEngD
namespace Go.Proofs.Ytggnhcgmeibihaa
open Go Go.RowKit
set_option linter.unusedVariables false

structure D (P : Program) (n : Nat) (w0 : World) (all : Array Oper) (os : List Oper) (dl : DL) (ol : OL) (F : DL → Prop) : Prop where
  out : ∀ dl', (∀ t, lk dl' t = lk dl t) → DW P n w0 all ol os dl' F

def toDL : FL → DL
  | [] => []
  | (k, v) :: l => (k, .ex v) :: toDL l
theorem lk_toDL : ∀ (l : FL) (t : Nat), lk (toDL l) t = (look l t).map .ex
  | [], t => rfl
  | (k, v) :: l, t => by
    by_cases hkt : k = t
    · subst hkt
      rw [look_cons_eq]
      show lk ((k, Ent.ex v) :: toDL l) k = _
      rw [lk_cons_eq]; rfl
    · rw [look_cons_ne hkt]
      show lk ((k, Ent.ex v) :: toDL l) t = _
      rw [lk_cons_ne hkt]
      exact lk_toDL l t

/-- The slots that an operation names, as far as the steps below look. -/
def tmpOf : Operand → List Nat
  | .tmp t => [t]
  | _ => []
def tmpsOf : List Operand → List Nat
  | [] => []
  | x :: xs => match x with
    | .tmp t => t :: tmpsOf xs
    | _ => tmpsOf xs
def opTmps : Op → List Nat
  | .move x => tmpOf x
  | .assign x => tmpOf x
  | .pick c a b => tmpsOf [c, a, b]
  | .binOp _ _ x y _ => tmpsOf [x, y]
  | .unOp _ _ x => tmpOf x
  | .convert _ _ x => tmpOf x
  | .extract t _ => tmpOf t
  | .fieldAddr _ x _ => tmpOf x
  | .field _ x _ => tmpOf x
  | .nilCheck x => tmpOf x
  | .load _ x => tmpOf x
  | .store _ a v => tmpsOf [a, v]
  | .box _ x => tmpOf x
  | .indexAddr _ x i => tmpsOf [x, i]
  | .index _ x i => tmpsOf [x, i]
  | .slice _ x lo hi mx => tmpsOf (x :: (lo.toList ++ hi.toList ++ mx.toList))
  | .call ⟨.value f, as, _⟩ => tmpsOf (f :: as.toList)
  | .call ⟨.builtin _, as, _⟩ => tmpsOf as.toList
  | .build _ ps => tmpsOf (ps.toList.map (·.2))
  | .buildSlice _ _ ps => tmpsOf (ps.toList.map (·.2))
  | .lookup _ x i _ => tmpsOf [x, i]
  | .makeSlice _ x i => tmpsOf [x, i]
  | .makeInterface _ x => tmpOf x
  | .typeAssert x _ _ _ => tmpOf x
  | .makeFunc _ a b => tmpsOf (a.toList ++ b.toList)
  | _ => []
theorem tmpsOf_mem : ∀ {xs : List Operand} {t : Nat}, t ∈ tmpsOf xs → Operand.tmp t ∈ xs
  | [], t, h => by simp [tmpsOf] at h
  | x :: xs, t, h => by
    cases x with
    | tmp u =>
      simp only [tmpsOf, List.mem_cons] at h
      rcases h with rfl | h
      · simp
      · exact List.mem_cons_of_mem _ (tmpsOf_mem h)
    | _ => exact List.mem_cons_of_mem _ (tmpsOf_mem (by simpa [tmpsOf] using h))
theorem tmpOf_mem {x : Operand} {t : Nat} (h : t ∈ tmpOf x) : x = .tmp t := by
  cases x <;> simp [tmpOf] at h
  rw [h]
theorem opTmps_mem {op : Op} {t : Nat} (h : t ∈ opTmps op) : Operand.tmp t ∈ op.operands.toList := by
  unfold opTmps at h
  split at h <;> first
    | (have := tmpOf_mem h; subst this; simp [Op.operands]; done)
    | (have := tmpsOf_mem h; simpa [Op.operands, Call.operands] using this)
    | (have := tmpsOf_mem h; simp [Op.operands, Call.operands] at this ⊢; rcases this with h | h | h | h <;> simp [h])
    | (have := tmpsOf_mem h; simp [Op.operands, Call.operands] at this ⊢; rcases this with h | h <;> simp [h])
    | (simp at h)

def gTmps (all : Array Oper) (g : Option (Nat × Bool)) : List Nat :=
  match g with
  | none => []
  | some (j, _) => match all.toList[j]? with
    | some o => match o.dst with
      | some d => [d]
      | none => []
    | none => []
theorem gTmps_mem {all : Array Oper} {o : Oper} {t : Nat} (h : t ∈ gTmps all o.guard) : t ∈ o.looksAt all := by
  unfold Oper.looksAt
  refine List.mem_append_right _ ?_
  cases hg : o.guard with
  | none => rw [hg] at h; simp [gTmps] at h
  | some p =>
    obtain ⟨j, b⟩ := p
    rw [hg] at h
    simp only [gTmps] at h
    cases hj : all.toList[j]? with
    | none => rw [hj] at h; simp at h
    | some oj =>
      rw [hj] at h
      have hj' : all[j]? = some oj := by simpa using hj
      cases hd : oj.dst with
      | none => simp [hd] at h
      | some d => simp [hd] at h; simp [hj', hd, h]

def memN (t : Nat) : List Nat → Bool
  | [] => false
  | x :: xs => match Nat.beq x t with
    | true => true
    | false => memN t xs
theorem memN_mem {t : Nat} : ∀ {l : List Nat}, memN t l = true → t ∈ l
  | [], h => by simp [memN] at h
  | x :: xs, h => by
    simp only [memN] at h
    split at h
    · rename_i hb; rw [Nat.eq_of_beq_eq_true hb]; simp
    · exact List.mem_cons_of_mem _ (memN_mem h)

/-- What an operation may look at, of what is known to the letter. -/
def rs (all : Array Oper) (o : Oper) (dl : DL) (t : Nat) : Option Value :=
  match lk dl t with
  | some (.ex v) => match memN t (opTmps o.op) with
    | true => some v
    | false => match memN t (gTmps all o.guard) with
      | true => some v
      | false => none
  | _ => none

theorem looks_of {all : Array Oper} {o : Oper} {t : Nat} (h : t ∈ opTmps o.op) : t ∈ o.looksAt all := by
  unfold Oper.looksAt
  refine List.mem_append_left _ (List.mem_filterMap.2 ⟨.tmp t, opTmps_mem h, rfl⟩)

theorem rs_rd {all : Array Oper} {o : Oper} {dl : DL} {a : Act} {w : World} (h : ∀ t ∈ o.looksAt all, Sat (lk dl t) a.tmps[t]? w) : Rd a (rs all o dl) := by
  intro t v hv
  unfold rs at hv
  split at hv
  · rename_i u hu
    have key : t ∈ o.looksAt all → a.tmps[t]? = some u := fun hm => by
      have := h t hm
      rw [hu] at this
      obtain ⟨x, h1, h2⟩ := this
      rw [h1, h2]
    split at hv
    · rename_i hm; simp at hv; subst hv; exact key (looks_of (memN_mem hm))
    · split at hv
      · rename_i hm; simp at hv; subst hv; exact key (gTmps_mem (memN_mem hm))
      · cases hv
  · cases hv

section
variable {P : Program} {tb : Tab} {n : Nat} {w0 : World} {all : Array Oper} {os : List Oper} {o : Oper} {dl : DL} {ol : OL} {F : DL → Prop}

theorem D_nil (h : ∀ dl', (∀ t, lk dl' t = lk dl t) → F dl') : D P n w0 all [] dl ol F := ⟨h⟩

theorem D_of {E : Ent} {d : Nat} (h : DOp P n w0 all ol dl o E) (hd : o.dst = some d) (k : D P n w0 all os ((d, E) :: dl) ol F) : D P n w0 all (o :: os) dl ol F := by
  refine ⟨fun dl' he => ⟨E, ⟨fun a w h1 h2 h3 h4 => h.ok a w h1 h2 h3 fun t ht => ?_, h.stable, h.lt⟩, ?_⟩⟩
  · rw [← he t]; exact h4 t ht
  · rw [hd]
    refine k.out _ fun t => ?_
    by_cases hdt : d = t
    · subst hdt; rw [updD, lk_cons_eq, lk_cons_eq]
    · rw [updD, lk_cons_ne hdt, lk_cons_ne hdt, he t]

/-- An operation that leaves the world alone and answers 'v'. -/
theorem D_val {d : Nat} {v : Value} (hd : o.dst = some d) (hn : d < n) (hg : gd all (rs all o dl) o.guard = some true) (hr : ∀ a w, Rd a (rs all o dl) → Hp w0 w ol → (execOp a.eval o).run P w = .ok (.value v) w)
    (k : D P n w0 all os ((d, .ex v) :: dl) ol F) : D P n w0 all (o :: os) dl ol F := by
  refine D_of (E := .ex v) ⟨fun a w h1 h2 h3 h4 => ?_, trivial, fun d' hd' => ?_⟩ hd k
  · have hrd := rs_rd h4
    have hw := gd_wanted hrd hg
    refine ⟨fun _ => ?_, (fun hn => by rw [hw] at hn; cases hn)⟩
    simp only [Oper.wp, hr a w hrd h3, Oper.upon]
    exact ⟨v, rfl, Below.refl _ _, rfl⟩
  · rw [hd] at hd'; cases hd'; exact hn

theorem D_pure (ht : TabOk P tb) {d : Nat} {v : Value} (hs : pureStep tb n all (rs all o dl) o = some (d, v)) (k : D P n w0 all os ((d, .ex v) :: dl) ol F) : D P n w0 all (o :: os) dl ol F := by
  unfold pureStep at hs
  split at hs
  · rename_i hg
    split at hs
    · rename_i d' hd
      split at hs
      · rename_i hb
        split at hs
        · rename_i v' hv
          simp at hs
          obtain ⟨rfl, rfl⟩ := hs
          exact D_val hd (by simpa [Nat.blt_eq] using hb) hg (fun a w hrd _ => pure_run ht hrd hv w) k
        · cases hs
      · cases hs
    · cases hs
  · cases hs
theorem D_pure_eq (ht : TabOk P tb) {d : Nat} {v v' : Value} (hs : pureStep tb n all (rs all o dl) o = some (d, v)) (he : v = v') (k : D P n w0 all os ((d, .ex v') :: dl) ol F) : D P n w0 all (o :: os) dl ol F :=
  D_pure ht hs (he ▸ k)
theorem D_i64 (ht : TabOk P tb) {d : Nat} {e : Int} (hs : pureStep tb n all (rs all o dl) o = some (d, .int .i64 (IntKind.i64.wrap e))) (hb : -9223372036854775808 ≤ e ∧ e ≤ 9223372036854775807)
    (k : D P n w0 all os ((d, .ex (.int .i64 e)) :: dl) ol F) : D P n w0 all (o :: os) dl ol F := D_pure_eq ht hs (by rw [IntWalk.i64_in _ hb]) k
theorem D_u64 (ht : TabOk P tb) {d : Nat} {e : Int} (hs : pureStep tb n all (rs all o dl) o = some (d, .int .u64 (IntKind.u64.wrap e))) (hb : 0 ≤ e ∧ e ≤ 18446744073709551615)
    (k : D P n w0 all os ((d, .ex (.int .u64 e)) :: dl) ol F) : D P n w0 all (o :: os) dl ol F := D_pure_eq ht hs (by rw [IntWalk.u64_in _ hb]) k

theorem D_pass {d : Nat} (hg : gd all (rs all o dl) o.guard = some false) (hd : o.dst = some d) (hn : Nat.blt d n = true) (k : D P n w0 all os ((d, .ex undef) :: dl) ol F) : D P n w0 all (o :: os) dl ol F := by
  refine D_of (E := .ex undef) ⟨fun a w h1 h2 h3 h4 => ?_, trivial, fun d' hd' => ?_⟩ hd k
  · have hw := gd_wanted (rs_rd h4) hg
    exact ⟨(fun h => by rw [hw] at h; cases h), fun _ => rfl⟩
  · rw [hd] at hd'; cases hd'; simpa [Nat.blt_eq] using hn

theorem loadAt_run {r : Nat → Option Value} {d : Nat} {t : TypeId} {ti : TI} {ad : Addr} {v : Value} {a : Act} {w : World} (hs : loadAt? tb n all r o = some (d, t, ti, ad)) (hrd : Rd a r) (hv : tl tb t = some ti → (loadVar t ad).run P w = .ok v w) :
    gd all r o.guard = some true ∧ o.dst = some d ∧ d < n ∧ (execOp a.eval o).run P w = .ok (.value v) w := by
  unfold loadAt? at hs
  split at hs
  · rename_i hg
    split at hs
    · rename_i d' hd
      split at hs
      · rename_i hb
        split at hs
        · rename_i t' x hop
          split at hs
          · rename_i ti' hti
            split at hs
            · rename_i ad' hx
              simp at hs
              obtain ⟨rfl, rfl, rfl, rfl⟩ := hs
              refine ⟨hg, hd, by simpa [Nat.blt_eq] using hb, ?_⟩
              unfold execOp
              simp [hop, hrd.ev hx, Instr.loadAt, Instr.sureAddr, hv hti]
            · cases hs
          · cases hs
        · cases hs
      · cases hs
    · cases hs
  · cases hs

theorem loadAt_dst {r : Nat → Option Value} {d : Nat} {t : TypeId} {ti : TI} {ad : Addr} (hs : loadAt? tb n all r o = some (d, t, ti, ad)) : gd all r o.guard = some true ∧ o.dst = some d ∧ d < n := by
  unfold loadAt? at hs
  split at hs
  · rename_i hg
    split at hs
    · rename_i d' hd
      split at hs
      · rename_i hb
        split at hs
        · split at hs
          · split at hs
            · simp at hs
              exact ⟨hg, by rw [hd, hs.1], by rw [← hs.1]; simpa [Nat.blt_eq] using hb⟩
            · cases hs
          · cases hs
        · cases hs
      · cases hs
    · cases hs
  · cases hs

theorem D_load_of (ht : TabOk P tb) {d : Nat} {t : TypeId} {ti : TI} {ad : Addr} {v : Value} (hs : loadAt? tb n all (rs all o dl) o = some (d, t, ti, ad)) (hv : tl tb t = some ti → ∀ w, Hp w0 w ol → (loadVar t ad).run P w = .ok v w)
    (k : D P n w0 all os ((d, .ex v) :: dl) ol F) : D P n w0 all (o :: os) dl ol F := by
  obtain ⟨h1, h2, h3⟩ := loadAt_dst hs
  exact D_val h2 h3 h1 (fun a w hrd hh => (loadAt_run hs hrd (fun hti => hv hti w hh)).2.2.2) k
theorem D_load (ht : TabOk P tb) (i : Nat) {d : Nat} {t : TypeId} {ti : TI} {b off : Nat} {v : Value} {cs : List Value} {e : TypeId} {fz : Nat × Nat} {r : Bool} (hs : loadAt? tb n all (rs all o dl) o = some (d, t, ti, ⟨b, off, none⟩))
    (hi : getE ol i = some (.blk b (.cells ⟨cs⟩ e fz) r)) (hv : loadOf ti cs off = some v) (k : D P n w0 all os ((d, .ex v) :: dl) ol F) : D P n w0 all (o :: os) dl ol F :=
  D_load_of ht hs (fun hti w hh => loadVar_own ht hti (hh.own _ (getE_mem hi)) hv) k
theorem D_load1 (ht : TabOk P tb) {d : Nat} {t : TypeId} {ti : TI} {ad : Addr} {v : Value} (hs : loadAt? tb n all (rs all o dl) o = some (d, t, ti, ad)) (ha : isAggD ti.desc = false) (hv : ∀ w, Hp w0 w ol → w.cell? ad = some v)
    (k : D P n w0 all os ((d, .ex v) :: dl) ol F) : D P n w0 all (o :: os) dl ol F :=
  D_load_of ht hs (fun hti w hh => loadVar_one ht hti ha (hv w hh)) k

/-! calls: arguments that are known to the letter, or of which something is true -/
def argsD (dl : DL) : List Operand → Option (List Ent)
  | [] => some []
  | x :: xs => match x with
    | .tmp t => match lk dl t with
      | some E => match argsD dl xs with
        | some Es => some (E :: Es)
        | none => none
      | none => none
    | .const v => match argsD dl xs with
      | some Es => some (.ex v :: Es)
      | none => none
    | _ => none
def EntsAt : List Ent → List Value → World → Prop
  | [], vs, _ => vs = []
  | E :: Es, vs, w => ∃ u us, vs = u :: us ∧ E.at u w ∧ EntsAt Es us w

def callD? (n : Nat) (all : Array Oper) (dl : DL) (o : Oper) : Option (Nat × FuncId × List Ent) :=
  match gd all (rs all o dl) o.guard with
  | some true => match o.dst with
    | some d => match Nat.blt d n with
      | true => match o.op with
        | .call ⟨.value (.func f), as, _⟩ => match argsD dl as.toList with
          | some Es => some (d, f, Es)
          | none => none
        | _ => none
      | false => none
    | none => none
  | _ => none

theorem argsD_at {a : Act} {w : World} : ∀ {xs : List Operand} {Es : List Ent}, argsD dl xs = some Es → (∀ t, Operand.tmp t ∈ xs → Sat (lk dl t) a.tmps[t]? w) → EntsAt Es (xs.map a.eval) w
  | [], Es, h, _ => by simp [argsD] at h; subst h; simp [EntsAt]
  | x :: xs, Es, h, hs => by
    unfold argsD at h
    split at h
    · rename_i t
      split at h
      · rename_i E hE
        split at h
        · rename_i Es' hEs
          simp at h; subst h
          have h1 := hs t (by simp)
          rw [hE] at h1
          obtain ⟨v, h2, h3⟩ := h1
          exact ⟨_, _, rfl, by simpa [Act.eval, Array.getD_eq_getD_getElem?, h2] using h3, argsD_at hEs fun u hu => hs u (List.mem_cons_of_mem _ hu)⟩
        · cases h
      · cases h
    · rename_i v
      split at h
      · rename_i Es' hEs
        simp at h; subst h
        exact ⟨_, _, rfl, rfl, argsD_at hEs fun u hu => hs u (List.mem_cons_of_mem _ hu)⟩
      · cases h
    · cases h

theorem D_call_of {d : Nat} {f : FuncId} {Es : List Ent} (hs : callD? n all dl o = some (d, f, Es)) (hcall : ∀ args w, (callFunc f args).run P w = .ok (.enter f args) w) (E : Ent) (hst : E.Stable)
    (hc : ∀ w vs, Hp w0 w ol → EntsAt Es vs w → Calls P f vs.toArray w (fun e w' => ∃ v, e = .returned v ∧ Below w.heap.size w w' ∧ E.at v w')) (k : D P n w0 all os ((d, E) :: dl) ol F) : D P n w0 all (o :: os) dl ol F := by
  unfold callD? at hs
  split at hs
  · rename_i hg
    split at hs
    · rename_i d' hd
      split at hs
      · rename_i hb
        split at hs
        · rename_i f' as ts hop
          split at hs
          · rename_i Es' hEs
            simp at hs
            obtain ⟨rfl, rfl, rfl⟩ := hs
            refine D_of ⟨fun a w h1 h2 h3 h4 => ?_, hst, fun d hd' => ?_⟩ hd k
            · have hw := gd_wanted (rs_rd h4) hg
              refine ⟨fun _ => ?_, (fun hn => by rw [hw] at hn; cases hn)⟩
              have hent : EntsAt Es' (as.toList.map a.eval) w := argsD_at hEs fun t ht => h4 t (by
                unfold Oper.looksAt
                refine List.mem_append_left _ (List.mem_filterMap.2 ⟨.tmp t, ?_, rfl⟩)
                rw [hop]
                simp [Op.operands, Call.operands]
                simpa using ht)
              have hm : as.map a.eval = (as.toList.map a.eval).toArray := by
                apply Array.ext'
                simp
              have hr : (execOp a.eval o).run P w = .ok (.enter f' (as.toList.map a.eval).toArray) w := by
                unfold execOp
                simp [hop, resolve, Act.eval, Deferred.ofValue, invoke, hcall, hm]
              simp only [Oper.wp, hr, Oper.upon]
              refine (hc w _ h3 hent).mono ?_
              rintro e w' ⟨v, rfl, hb', hv⟩
              exact ⟨v, rfl, hb', hv⟩
            · rw [hd] at hd'; cases hd'; simpa [Nat.blt_eq] using hb
          · cases hs
        · cases hs
      · cases hs
    · cases hs
  · cases hs

/-- The answer is known. -/
theorem D_callx {d : Nat} {f : FuncId} {Es : List Ent} {v : Value} (hs : callD? n all dl o = some (d, f, Es)) (hcall : ∀ args w, (callFunc f args).run P w = .ok (.enter f args) w)
    (hc : ∀ w vs, Hp w0 w ol → EntsAt Es vs w → Calls P f vs.toArray w (fun e w' => e = .returned v ∧ Below w.heap.size w w')) (k : D P n w0 all os ((d, .ex v) :: dl) ol F) : D P n w0 all (o :: os) dl ol F :=
  D_call_of hs hcall (.ex v) trivial (fun w vs h1 h2 => (hc w vs h1 h2).mono fun e w' ⟨h3, h4⟩ => ⟨v, h3, h4, rfl⟩) k
/-- Something is true of the answer. -/
theorem D_callp {d : Nat} {f : FuncId} {Es : List Ent} (Ψ : Value → World → Prop) (hs : callD? n all dl o = some (d, f, Es)) (hcall : ∀ args w, (callFunc f args).run P w = .ok (.enter f args) w) (hst : ∀ v w w', Ψ v w → Below w.heap.size w w' → Ψ v w')
    (hc : ∀ w vs, Hp w0 w ol → EntsAt Es vs w → Calls P f vs.toArray w (fun e w' => ∃ v, e = .returned v ∧ Below w.heap.size w w' ∧ Ψ v w')) (k : D P n w0 all os ((d, .pr Ψ) :: dl) ol F) : D P n w0 all (o :: os) dl ol F :=
  D_call_of hs hcall (.pr Ψ) hst hc k

theorem D_re (d : Nat) {v v' : Value} (hl : lk dl d = some (.ex v)) (he : v = v') (h : D P n w0 all os ((d, .ex v') :: dl) ol F) : D P n w0 all os dl ol F := by
  refine ⟨fun dl' hd => h.out dl' fun t => ?_⟩
  rw [hd t]
  by_cases hdt : d = t
  · subst hdt; subst he; rw [lk_cons_eq, hl]
  · rw [lk_cons_ne hdt]

theorem D_split {d : Nat} {p : Prop} {_ : Decidable p} (hg : gslot all o.guard = some d) (hl : lk dl d = some (.ex (.bool (decide p)))) (ht : p → D P n w0 all (o :: os) ((d, .ex (.bool true)) :: dl) ol F)
    (hf : ¬ p → D P n w0 all (o :: os) ((d, .ex (.bool false)) :: dl) ol F) : D P n w0 all (o :: os) dl ol F := by
  by_cases hp : p
  · exact D_re d hl (by simp [hp]) (ht hp)
  · exact D_re d hl (by simp [hp]) (hf hp)
theorem D_splitb {d : Nat} {b : Bool} (hg : gslot all o.guard = some d) (hl : lk dl d = some (.ex (.bool b))) (ht : b = true → D P n w0 all (o :: os) ((d, .ex (.bool true)) :: dl) ol F)
    (hf : b = false → D P n w0 all (o :: os) ((d, .ex (.bool false)) :: dl) ol F) : D P n w0 all (o :: os) dl ol F := by
  cases b
  · exact D_re d hl rfl (hf rfl)
  · exact D_re d hl rfl (ht rfl)

/-! ### The end of the region, and its beginning -/
def FEnd (n : Nat) (w0 : World) (ol : OL) (G : FL → OL → Prop) (dl : DL) : Prop :=
  ∀ w, Hp w0 w ol → ∀ f : Nat → Value, (∀ t Φ, lk dl t = some (.pr Φ) → Φ (f t) w) → ∃ l' ol', (∀ t v, look l' t = some v → lk dl t = some (.ex v) ∨ ∃ Φ, lk dl t = some (.pr Φ) ∧ f t = v) ∧ Hp w0 w ol' ∧ G l' ol'

theorem FEnd.ext {G : FL → OL → Prop} {dl' : DL} (h : FEnd n w0 ol G dl) (he : ∀ t, lk dl' t = lk dl t) : FEnd n w0 ol G dl' := by
  intro w hw f hf
  obtain ⟨l', ol', h1, h2, h3⟩ := h w hw f fun t Φ ht => hf t Φ (by rw [he t]; exact ht)
  exact ⟨l', ol', fun t v hv => by rw [he t]; exact h1 t v hv, h2, h3⟩
theorem D_end {G : FL → OL → Prop} (h : FEnd n w0 ol G dl) : D P n w0 all [] dl ol (FEnd n w0 ol G) := D_nil fun dl' he => h.ext he
/-- All that is wanted is known to the letter. -/
theorem D_done {G : FL → OL → Prop} (l' : FL) (hl : ∀ t v, look l' t = some v → lk dl t = some (.ex v)) (h : G l' ol) : D P n w0 all [] dl ol (FEnd n w0 ol G) :=
  D_end fun w hw f hf => ⟨l', ol, fun t v hv => .inl (hl t v hv), hw, h⟩
/-- All entries, each with its value; of those that are known by a predicate 'f' says it. -/
def exP : DL → (Nat → Value) → Option FL
  | [], _ => some []
  | (k, E) :: dl, f => match exP dl f with
    | some r => match E with
      | .ex v => some ((k, v) :: r)
      | .pr _ => some ((k, f k) :: r)
    | none => none
theorem exP_look {f : Nat → Value} : ∀ {dl : DL} {l' : FL}, exP dl f = some l' → ∀ t v, look l' t = some v → lk dl t = some (.ex v) ∨ ∃ Φ, lk dl t = some (.pr Φ) ∧ f t = v
  | [], l', h, t, v, hv => by simp [exP] at h; subst h; simp [look] at hv
  | (k, E) :: dl, l', h, t, v, hv => by
    simp only [exP] at h
    split at h
    · rename_i r hr
      have ih := exP_look hr t v
      by_cases hkt : k = t
      · subst hkt
        rw [lk_cons_eq]
        cases E with
        | ex u => simp at h; subst h; rw [look_cons_eq] at hv; cases hv; exact .inl rfl
        | pr Φ => simp at h; subst h; rw [look_cons_eq] at hv; cases hv; exact .inr ⟨Φ, rfl, rfl⟩
      · rw [lk_cons_ne hkt]
        cases E with
        | ex u => simp at h; subst h; rw [look_cons_ne hkt] at hv; exact ih hv
        | pr Φ => simp at h; subst h; rw [look_cons_ne hkt] at hv; exact ih hv
    · cases h
theorem D_fin {G : FL → OL → Prop} (h : ∀ w, Hp w0 w ol → ∀ f : Nat → Value, (∀ t Φ, lk dl t = some (.pr Φ) → Φ (f t) w) → ∃ l' ol', exP dl f = some l' ∧ Hp w0 w ol' ∧ G l' ol') : D P n w0 all [] dl ol (FEnd n w0 ol G) :=
  D_end fun w hw f hf => let ⟨l', ol', h1, h2, h3⟩ := h w hw f hf; ⟨l', ol', exP_look h1, h2, h3⟩
def exF : DL → Option FL
  | [] => some []
  | (k, E) :: dl => match exF dl with
    | some r => match E with
      | .ex v => some ((k, v) :: r)
      | .pr _ => none
    | none => none
theorem exF_look : ∀ {dl : DL} {l' : FL}, exF dl = some l' → ∀ t v, look l' t = some v → lk dl t = some (.ex v)
  | [], l', h, t, v, hv => by simp [exF] at h; subst h; simp [look] at hv
  | (k, E) :: dl, l', h, t, v, hv => by
    simp only [exF] at h
    split at h
    · rename_i r hr
      cases E with
      | ex u =>
        simp at h; subst h
        by_cases hkt : k = t
        · subst hkt; rw [look_cons_eq] at hv; cases hv; rw [lk_cons_eq]
        · rw [look_cons_ne hkt] at hv; rw [lk_cons_ne hkt]; exact exF_look hr t v hv
      | pr Φ => simp at h
    · cases h
/-- Everything is known to the letter. -/
theorem D_all {G : FL → OL → Prop} {l' : FL} (hl : exF dl = some l') (h : G l' ol) : D P n w0 all [] dl ol (FEnd n w0 ol G) := D_done l' (exF_look hl) h
def SubD (l' : FL) (dl : DL) : Prop := ∀ t v, look l' t = some v → lk dl t = some (.ex v)
theorem SubD.nil : SubD [] dl := fun t v h => by simp [look] at h
theorem SubD.cons {k : Nat} {v : Value} {l' : FL} (h : lk dl k = some (.ex v)) (hs : SubD l' dl) : SubD ((k, v) :: l') dl := by
  intro t u hu
  by_cases hkt : k = t
  · subst hkt; rw [look_cons_eq] at hu; cases hu; exact h
  · rw [look_cons_ne hkt] at hu; exact hs t u hu
theorem SubD.cons_eq {k : Nat} {v v' : Value} {l' : FL} (h : lk dl k = some (.ex v)) (he : v = v') (hs : SubD l' dl) : SubD ((k, v') :: l') dl := by
  subst he; exact SubD.cons h hs
def SubP (l' : FL) (dl : DL) (f : Nat → Value) : Prop := ∀ t v, look l' t = some v → lk dl t = some (.ex v) ∨ ∃ Φ, lk dl t = some (.pr Φ) ∧ f t = v
theorem SubP.nil {f : Nat → Value} : SubP [] dl f := fun t v h => by simp [look] at h
theorem SubP.ex {f : Nat → Value} {k : Nat} {v : Value} {l' : FL} (h : lk dl k = some (.ex v)) (hs : SubP l' dl f) : SubP ((k, v) :: l') dl f := by
  intro t u hu
  by_cases hkt : k = t
  · subst hkt; rw [look_cons_eq] at hu; cases hu; exact .inl h
  · rw [look_cons_ne hkt] at hu; exact hs t u hu
theorem SubP.pr {f : Nat → Value} {k : Nat} {v : Value} {Φ : Value → World → Prop} {l' : FL} (h : lk dl k = some (.pr Φ)) (he : f k = v) (hs : SubP l' dl f) : SubP ((k, v) :: l') dl f := by
  intro t u hu
  by_cases hkt : k = t
  · subst hkt; rw [look_cons_eq] at hu; cases hu; exact .inr ⟨Φ, h, he⟩
  · rw [look_cons_ne hkt] at hu; exact hs t u hu
end

section
variable {P : Program} {tb : Tab} {n : Nat} {w0 : World} {l : FL} {ol : OL} {K : FL → OL → Prop} {Q : Post}

theorem dlAt_take {Es : List Ent} {m : Nat} : ∀ (os : List Oper) (i : Nat) (Es : List Ent) (dl : DL) (m : Nat), i ≤ m → dlAt Es (os.take m) i dl = dlAt Es os i dl
  | [], i, Es, dl, m, h => by simp
  | o :: os, 0, Es, dl, m, h => by rw [dlAt_zero, dlAt_zero]
  | o :: os, i + 1, [], dl, m + 1, h => rfl
  | o :: os, i + 1, E :: Es, dl, m + 1, h => by
    simp only [List.take_succ_cons, dlAt]
    exact dlAt_take (Es := Es) (m := m) os i Es _ m (by omega)
  | o :: os, i + 1, Es, dl, 0, h => by omega

theorem sat_toDL {a : Act} {w : World} (hf : Fr a n l) (t : Nat) : Sat (lk (toDL l) t) a.tmps[t]? w := by
  rw [lk_toDL]
  cases h : look l t with
  | none => trivial
  | some v => exact ⟨v, hf.get t v h, rfl⟩
theorem toDL_stable (t : Nat) (E : Ent) (h : lk (toDL l) t = some E) : E.Stable := by
  rw [lk_toDL] at h
  cases hl : look l t with
  | none => rw [hl] at h; simp at h
  | some v => rw [hl] at h; simp at h; rw [← h]; trivial

/-- A region that draws: its first m operations in whatever order, the others behind them, one by one. -/
theorem T_drawT {id : Nat} {ops : List Oper} (hmix : P.follows .mixedOrders = true) (m : Nat) (hm : Nat.ble m ops.length = true) (hreg : regOk ops m = true)
    (h : D P n w0 ops.toArray (ops.take m) (toDL l) ol (FEnd n w0 ol (fun l' ol' => S P n w0 ops.toArray (ops.drop m) l' ol' K Q))) : T P n w0 (.region id ops.toArray true) l ol (pthen K Q) := by
  refine ⟨fun a w hf hh => ?_⟩
  have hR := reg_of hreg
  have hmle := Nat.le_of_ble_eq_true hm
  obtain ⟨Es, hl, hok, hF⟩ := DW_es (h.out _ fun _ => rfl)
  have hEs : Es.length = m := by rw [hl, List.length_take]; omega
  have hEst : ∀ E ∈ Es, E.Stable := by
    intro E hE
    obtain ⟨i, hi, rfl⟩ := List.getElem_of_mem hE
    have ho : (ops.take m)[i]? = some ((ops.take m)[i]'(by omega)) := List.getElem?_eq_getElem _
    exact (hok i _ _ ho (List.getElem?_eq_getElem hi)).stable
  have hst := dl_stable (Es := Es) (dl := toDL l) (toDL_stable) hEst
  refine wp_region_any hmix (any_of_inv (n := n) (w0 := w0) (ol := ol) (Es := Es) (dl := toDL l) (m := m) hR hmle hEs (fun i o E hi ho hE => ?_) (fun i t E hE => hst ops i Es (toDL l) hEst toDL_stable t E hE) (fun a w h1 h2 h3 h4 => ?_) _ _ _ _ ?_ (by simp) ?_ ?_)
  · have := hok i o E (by rw [List.getElem?_take, if_pos hi]; exact ho) hE
    rwa [dlAt_take (Es := Es) (m := m) ops i Es _ m (by omega)] at this
  · rw [List.length_take, Nat.min_eq_left hmle, dlAt_take (Es := Es) (m := m) ops m Es _ m (Nat.le_refl _)] at hF
    have hch : ∃ f : Nat → Value, ∀ t Φ, lk (dlAt Es ops m (toDL l)) t = some (.pr Φ) → a.tmps[t]? = some (f t) ∧ Φ (f t) w := by
      refine ⟨fun t => a.tmps.getD t undef, fun t Φ ht => ?_⟩
      have := h4 t
      rw [ht] at this
      obtain ⟨v, hv, hΦ⟩ := this
      have e : a.tmps.getD t undef = v := by rw [Array.getD_eq_getD_getElem?, hv]; rfl
      show a.tmps[t]? = some (a.tmps.getD t undef) ∧ Φ (a.tmps.getD t undef) w
      rw [e]
      exact ⟨hv, hΦ⟩
    obtain ⟨f, hf'⟩ := hch
    obtain ⟨l', ol', e1, e2, e3⟩ := hF w h3 f fun t Φ ht => (hf' t Φ ht).2
    refine e3.out a w ⟨h1, h2, fun t v hv => ?_⟩ e2
    rcases e1 t v hv with e | ⟨Φ, e, rfl⟩
    · have := h4 t
      rw [e] at this
      obtain ⟨u, hu, hu'⟩ := this
      rw [hu, hu']
    · exact (hf' t Φ e).1
  · simp only [List.size_toArray]
    have : ((List.range m).filter fun j => !(Array.replicate ops.length false).getD j true) = List.range m := by
      rw [List.filter_eq_self]
      intro j hj
      have : j < ops.length := by have := List.mem_range.1 hj; omega
      simp [Array.getD, this]
    rw [this, List.length_range]
    omega
  · intro j hj _
    simp [Array.getD, hj]
  · refine ⟨hf.defers, hf.size, hh.drew, fun i o ho hi => ?_, fun i t hi hc => ?_⟩
    · have hil := (List.getElem?_eq_some_iff.1 ho).1
      simp [Array.getD, hil] at hi
    · have hnone : lk (dlAt Es ops i (toDL l)) t = lk (toDL l) t := lk_dlAt_none fun j o hj ho hd => by
        have hjl := (List.getElem?_eq_some_iff.1 ho).1
        have := (hc j o ho hd).1 hj
        simp [Array.getD, hjl] at this
      rw [hnone]
      exact sat_toDL hf t

/-- .. all of it in whatever order. -/
theorem T_draw {id : Nat} {ops : List Oper} (hmix : P.follows .mixedOrders = true) (hreg : regOk ops ops.length = true)
    (h : D P n w0 ops.toArray ops (toDL l) ol (FEnd n w0 ol K)) : T P n w0 (.region id ops.toArray true) l ol (pthen K Q) := by
  refine T_drawT hmix ops.length (by simp) hreg ?_
  rw [List.take_length, List.drop_length]
  refine ⟨fun dl' he => ?_⟩
  have := h.out dl' he
  have key : ∀ (os : List Oper) (dl : DL), DW P n w0 ops.toArray ol os dl (FEnd n w0 ol K) → DW P n w0 ops.toArray ol os dl (FEnd n w0 ol (fun l' ol' => S P n w0 ops.toArray [] l' ol' K Q)) := by
    intro os
    induction os with
    | nil =>
      intro dl hF w hw f hf
      obtain ⟨l', ol', h1, h2, h3⟩ := hF w hw f hf
      exact ⟨l', ol', h1, h2, S_nil h3⟩
    | cons o os ih => intro dl ⟨E, h1, h2⟩; exact ⟨E, h1, ih _ h2⟩
  exact key _ _ this
end
end Go.Proofs.Ytggnhcgmeibihaa
