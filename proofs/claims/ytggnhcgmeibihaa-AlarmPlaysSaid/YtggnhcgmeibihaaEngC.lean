/-
  An engine of rules for walks, part C: entering and leaving a function, memory of the call's own, calls. No program's text; conditions: each theorem's own.
-/
import Derived.Test.YtggnhcgmeibihaaEngB
namespace Go.Proofs.Ytggnhcgmeibihaa
open Go Go.RowKit
set_option linter.unusedVariables false

/-! ### Entering and leaving -/
def bodyP (P : Program) (fn : Func) (n : Nat) (w0 : World) (R : Ending → World → Prop) : Post := fun e l o =>
  match e with
  | .normal => ∀ a w, Fr a n l → Hp w0 w o → ∃ v, (results fn a.tmps).run P w = .ok v w ∧ R (.returned v) w
  | .ret => ∀ a w, Fr a n l → Hp w0 w o → ∃ v, (results fn a.tmps).run P w = .ok v w ∧ R (.returned v) w
  | _ => False

section
variable {P : Program} {f : FuncId} {fn : Func} {c : Code} {w0 : World} {R : Ending → World → Prop}

theorem enter_of {args : Array Value} {l : FL} {o : OL} (hf : P.funcs[f]? = some fn) (hb : fn.body = some c) (ho : Hp w0 w0 o)
    (hl : Fr { tmps := args ++ Array.replicate (fn.ntmps - args.size) undef, defers := [] } fn.ntmps l)
    (h : T P fn.ntmps w0 c l o (bodyP P fn fn.ntmps w0 R)) : Calls P f args w0 R := by
  refine calls_of_wp hf hb (wp_mono (h.out _ w0 hl ho) ?_)
  unfold lift bodyP
  rintro e a w ⟨l, o, h1, h2, h3⟩
  cases e with
  | normal => obtain ⟨v, hr, hR⟩ := h3 a w h1 h2; exact ⟨h1.defers, v, hr, hR⟩
  | ret => obtain ⟨v, hr, hR⟩ := h3 a w h1 h2; exact ⟨h1.defers, v, hr, hR⟩
  | _ => exact h3.elim

def fl0 : List Value → Nat → FL
  | [], _ => []
  | v :: vs, k => (k, v) :: fl0 vs (k + 1)
theorem look_fl0 : ∀ (vs : List Value) (k t : Nat) (v : Value), look (fl0 vs k) t = some v → k ≤ t ∧ vs[t - k]? = some v
  | [], k, t, v, h => by simp [fl0, look] at h
  | u :: vs, k, t, v, h => by
    by_cases hkt : k = t
    · subst hkt
      rw [fl0, look_cons_eq] at h
      simp at h
      simp [h]
    · rw [fl0, look_cons_ne hkt] at h
      obtain ⟨h1, h2⟩ := look_fl0 vs (k + 1) t v h
      refine ⟨by omega, ?_⟩
      have : t - k = t - (k + 1) + 1 := by omega
      rw [this]
      simpa using h2
theorem fr0 {args : List Value} {n : Nat} (hn : args.length ≤ n) : Fr { tmps := args.toArray ++ Array.replicate (n - args.toArray.size) undef, defers := [] } n (fl0 args 0) := by
  refine ⟨rfl, by simp; omega, fun t v h => ?_⟩
  obtain ⟨_, h2⟩ := look_fl0 args 0 t v h
  have hlt : t < args.length := by
    rcases Nat.lt_or_ge t args.length with h' | h'
    · exact h'
    · simp [List.getElem?_eq_none h'] at h2
  simp only [Nat.sub_zero] at h2
  show (args.toArray ++ Array.replicate (n - args.toArray.size) undef)[t]? = some v
  rw [Array.getElem?_append_left (by simpa using hlt)]
  simpa using h2

theorem enter0 (hf : P.funcs[f]? = some fn) (hb : fn.body = some c) {o : OL} (ho : Hp w0 w0 o) (h : T P fn.ntmps w0 c [] o (bodyP P fn fn.ntmps w0 R)) : Calls P f #[] w0 R :=
  enter_of hf hb ho (fr0 (args := []) (Nat.zero_le _)) h
theorem enter1 {v0 : Value} (hf : P.funcs[f]? = some fn) (hb : fn.body = some c) (hn : Nat.ble 1 fn.ntmps = true) {o : OL} (ho : Hp w0 w0 o) (h : T P fn.ntmps w0 c [(0, v0)] o (bodyP P fn fn.ntmps w0 R)) : Calls P f #[v0] w0 R :=
  enter_of hf hb ho (fr0 (args := [v0]) (Nat.le_of_ble_eq_true hn)) h
theorem enter2 {v0 v1 : Value} (hf : P.funcs[f]? = some fn) (hb : fn.body = some c) (hn : Nat.ble 2 fn.ntmps = true) {o : OL} (ho : Hp w0 w0 o) (h : T P fn.ntmps w0 c [(0, v0), (1, v1)] o (bodyP P fn fn.ntmps w0 R)) : Calls P f #[v0, v1] w0 R :=
  enter_of hf hb ho (fr0 (args := [v0, v1]) (Nat.le_of_ble_eq_true hn)) h
theorem enter3 {v0 v1 v2 : Value} (hf : P.funcs[f]? = some fn) (hb : fn.body = some c) (hn : Nat.ble 3 fn.ntmps = true) {o : OL} (ho : Hp w0 w0 o) (h : T P fn.ntmps w0 c [(0, v0), (1, v1), (2, v2)] o (bodyP P fn fn.ntmps w0 R)) : Calls P f #[v0, v1, v2] w0 R :=
  enter_of hf hb ho (fr0 (args := [v0, v1, v2]) (Nat.le_of_ble_eq_true hn)) h
theorem enter4 {v0 v1 v2 v3 : Value} (hf : P.funcs[f]? = some fn) (hb : fn.body = some c) (hn : Nat.ble 4 fn.ntmps = true) {o : OL} (ho : Hp w0 w0 o) (h : T P fn.ntmps w0 c [(0, v0), (1, v1), (2, v2), (3, v3)] o (bodyP P fn fn.ntmps w0 R)) : Calls P f #[v0, v1, v2, v3] w0 R :=
  enter_of hf hb ho (fr0 (args := [v0, v1, v2, v3]) (Nat.le_of_ble_eq_true hn)) h
theorem enter5 {v0 v1 v2 v3 v4 : Value} (hf : P.funcs[f]? = some fn) (hb : fn.body = some c) (hn : Nat.ble 5 fn.ntmps = true) {o : OL} (ho : Hp w0 w0 o) (h : T P fn.ntmps w0 c [(0, v0), (1, v1), (2, v2), (3, v3), (4, v4)] o (bodyP P fn fn.ntmps w0 R)) : Calls P f #[v0, v1, v2, v3, v4] w0 R :=
  enter_of hf hb ho (fr0 (args := [v0, v1, v2, v3, v4]) (Nat.le_of_ble_eq_true hn)) h
theorem enter6 {v0 v1 v2 v3 v4 v5 : Value} (hf : P.funcs[f]? = some fn) (hb : fn.body = some c) (hn : Nat.ble 6 fn.ntmps = true) {o : OL} (ho : Hp w0 w0 o) (h : T P fn.ntmps w0 c [(0, v0), (1, v1), (2, v2), (3, v3), (4, v4), (5, v5)] o (bodyP P fn fn.ntmps w0 R)) : Calls P f #[v0, v1, v2, v3, v4, v5] w0 R :=
  enter_of hf hb ho (fr0 (args := [v0, v1, v2, v3, v4, v5]) (Nat.le_of_ble_eq_true hn)) h

/-- What a result's place holds. -/
def ResIs (P : Program) (w0 : World) (l : FL) (o : OL) : ResultVar → Value → Prop
  | .tmp t, v => look l t = some v
  | .cell t ty, v => ∃ ad, look l t = some (.pointer (some ad)) ∧ ∀ w, Hp w0 w o → (loadVar ty ad).run P w = .ok v w

def resVal (tmps : Array Value) : ResultVar → Sem Value
  | .tmp t => pure (tmps.getD t undef)
  | .cell a t => do loadVar t (← asAddr (tmps.getD a undef))
theorem results_eq (fn : Func) (tmps : Array Value) : results fn tmps = (do let vs ← fn.results.mapM (resVal tmps); pure (if h : vs.size = 1 then vs[0] else .tuple vs)) := rfl

theorem res_run {n : Nat} {l : FL} {o : OL} {a : Act} {w : World} (hf : Fr a n l) (hh : Hp w0 w o) {r : ResultVar} {v : Value} (h : ResIs P w0 l o r v) : (resVal a.tmps r).run P w = .ok v w := by
  cases r with
  | tmp t => have := hf.get t v h; simp [resVal, Array.getD_eq_getD_getElem?, this]
  | cell t ty =>
    obtain ⟨ad, h1, h2⟩ := h
    have := hf.get t _ h1
    simp [resVal, Array.getD_eq_getD_getElem?, this, asAddr, h2 w hh]

variable {n : Nat} {l : FL} {o : OL}
theorem ret0 (hr : fn.results = #[]) (h : ∀ w, Hp w0 w o → R (.returned (.tuple #[])) w) : bodyP P fn n w0 R .ret l o :=
  fun a w hf hh => ⟨_, by simp [results, hr], h w hh⟩
theorem ret0n (hr : fn.results = #[]) (h : ∀ w, Hp w0 w o → R (.returned (.tuple #[])) w) : bodyP P fn n w0 R .normal l o :=
  fun a w hf hh => ⟨_, by simp [results, hr], h w hh⟩
theorem ret1 {r : ResultVar} {v : Value} (hr : fn.results = #[r]) (hv : ResIs P w0 l o r v) (h : ∀ w, Hp w0 w o → R (.returned v) w) : bodyP P fn n w0 R .ret l o :=
  fun a w hf hh => ⟨v, by rw [results_eq, hr]; simp [res_run hf hh hv], h w hh⟩
theorem ret2 {r s : ResultVar} {v u : Value} (hr : fn.results = #[r, s]) (hv : ResIs P w0 l o r v) (hu : ResIs P w0 l o s u) (h : ∀ w, Hp w0 w o → R (.returned (.tuple #[v, u])) w) : bodyP P fn n w0 R .ret l o :=
  fun a w hf hh => ⟨_, by rw [results_eq, hr]; simp [res_run hf hh hv, res_run hf hh hu], h w hh⟩
theorem ret3 {r s t : ResultVar} {v u x : Value} (hr : fn.results = #[r, s, t]) (hv : ResIs P w0 l o r v) (hu : ResIs P w0 l o s u) (hx : ResIs P w0 l o t x) (h : ∀ w, Hp w0 w o → R (.returned (.tuple #[v, u, x])) w) : bodyP P fn n w0 R .ret l o :=
  fun a w hf hh => ⟨_, by rw [results_eq, hr]; simp [res_run hf hh hv, res_run hf hh hu, res_run hf hh hx], h w hh⟩
end

/-! ### Memory of the call's own -/
abbrev cellsO (cs : List Value) (e : TypeId) : Obj := .cells cs.toArray e (0, 0)

def getE : OL → Nat → Option HE
  | [], _ => none
  | e :: _, 0 => some e
  | _ :: ol, i + 1 => getE ol i
def putE : OL → Nat → HE → Option OL
  | [], _, _ => none
  | _ :: ol, 0, x => some (x :: ol)
  | e :: ol, i + 1, x => match putE ol i x with
    | some r => some (e :: r)
    | none => none
theorem getE_mem : ∀ {ol : OL} {i : Nat} {e : HE}, getE ol i = some e → e ∈ ol
  | [], _, _, h => by simp [getE] at h
  | x :: ol, 0, e, h => by simp [getE] at h; simp [h]
  | x :: ol, i + 1, e, h => List.mem_cons_of_mem _ (getE_mem (ol := ol) (i := i) h)
theorem putE_eq : ∀ {ol ol' : OL} {i : Nat} {x x' : HE}, getE ol i = some x → putE ol i x' = some ol' → ∃ pre post, ol = pre ++ x :: post ∧ ol' = pre ++ x' :: post
  | [], _, _, _, _, h, _ => by simp [getE] at h
  | y :: ol, ol', 0, x, x', h, h' => by
    simp [getE] at h
    subst h
    simp [putE] at h'
    exact ⟨[], ol, rfl, by simp [← h']⟩
  | e :: ol, ol', i + 1, x, x', h, h' => by
    simp only [putE] at h'
    split at h'
    · rename_i q hq
      simp at h'
      obtain ⟨pre, post, h1, h2⟩ := putE_eq (ol := ol) (i := i) h hq
      exact ⟨e :: pre, post, by simp [h1], by simp [← h', h2]⟩
    · cases h'

def setMany : List Value → Nat → List Value → Option (List Value)
  | cs, 0, [] => some cs
  | c :: cs, 0, v :: vs => match setMany cs 0 vs with
    | some r => some (v :: r)
    | none => none
  | c :: cs, k + 1, vs => match setMany cs k vs with
    | some r => some (c :: r)
    | none => none
  | [], _, _ => none
theorem setMany_eq : ∀ {cs : List Value} {off : Nat} {vs cs' : List Value}, setMany cs off vs = some cs' → off + vs.length ≤ cs.length ∧ cs' = cs.take off ++ vs ++ cs.drop (off + vs.length)
  | cs, 0, [], cs', h => by simp [setMany] at h; simp [h]
  | c :: cs, 0, v :: vs, cs', h => by
    simp only [setMany] at h
    split at h
    · rename_i r hr
      simp at h
      obtain ⟨h1, h2⟩ := setMany_eq (cs := cs) (off := 0) hr
      refine ⟨by simp at h1 ⊢; omega, ?_⟩
      rw [← h, h2]; simp
    · cases h
  | c :: cs, k + 1, vs, cs', h => by
    simp only [setMany] at h
    split at h
    · rename_i r hr
      simp at h
      obtain ⟨h1, h2⟩ := setMany_eq (cs := cs) (off := k) hr
      refine ⟨by simp at h1 ⊢; omega, ?_⟩
      rw [← h, h2, Nat.add_right_comm k 1]; simp
    · cases h
  | [], k + 1, vs, cs', h => by simp [setMany] at h
  | [], 0, v :: vs, cs', h => by simp [setMany] at h

/-- A value's cells, each of them one. -/
def valCells (v : Value) : Option (List Value) :=
  match v with
  | .agg ⟨l⟩ => some l
  | .tuple _ => none
  | v => some [v]
def allOne : List Value → Bool
  | [] => true
  | v :: vs => match v with
    | .agg _ => false
    | .tuple _ => false
    | _ => allOne vs
theorem valCells_eq {v : Value} {l : List Value} (h : valCells v = some l) : v.cells = l.toArray := by
  cases v <;> simp [valCells] at h <;> subst h <;> simp [Value.cells]
theorem allOne_mem : ∀ {vs : List Value}, allOne vs = true → ∀ v ∈ vs, v.oneCell' = true
  | [], _, v, hv => by simp at hv
  | u :: vs, h, v, hv => by
    rcases List.mem_cons.1 hv with rfl | hv
    · cases v <;> first | rfl | (simp [allOne] at h)
    · refine allOne_mem (vs := vs) ?_ v hv
      cases u <;> first | exact h | (simp [allOne] at h)

def subl : List Value → Nat → Nat → Option (List Value)
  | _, 0, 0 => some []
  | c :: cs, 0, n + 1 => match subl cs 0 n with
    | some r => some (c :: r)
    | none => none
  | _ :: cs, k + 1, n => subl cs k n
  | [], _, _ => none
theorem subl_get : ∀ {cs : List Value} {off n : Nat} {r : List Value}, subl cs off n = some r → r.length = n ∧ ∀ j u, r[j]? = some u → cs[off + j]? = some u
  | cs, 0, 0, r, h => by simp [subl] at h; subst h; simp
  | c :: cs, 0, n + 1, r, h => by
    simp only [subl] at h
    split at h
    · rename_i q hq
      simp at h; subst h
      obtain ⟨h1, h2⟩ := subl_get (cs := cs) (off := 0) hq
      refine ⟨by simp [h1], fun j u hj => ?_⟩
      cases j with
      | zero => simpa using hj
      | succ j => have := h2 j u (by simpa using hj); simpa using this
    · cases h
  | c :: cs, k + 1, n, r, h => by
    simp only [subl] at h
    obtain ⟨h1, h2⟩ := subl_get (cs := cs) (off := k) h
    refine ⟨h1, fun j u hj => ?_⟩
    have := h2 j u hj
    have e : k + 1 + j = k + j + 1 := by omega
    rw [e]; simpa using this
  | [], k + 1, n, r, h => by simp [subl] at h
  | [], 0, n + 1, r, h => by simp [subl] at h

/-- What is loaded of cells that are known. -/
def loadOf (ti : TI) (cs : List Value) (off : Nat) : Option Value :=
  match isAggD ti.desc with
  | true => match subl cs off ti.size with
    | some r => some (.agg ⟨r⟩)
    | none => none
  | false => cs[off]?

section
variable {P : Program} {tb : Tab} {n : Nat} {w0 : World} {all : Array Oper} {rest : List Oper} {o : Oper} {l : FL} {ol : OL} {K : FL → OL → Prop} {Q : Post}

theorem loadVar_agg (ht : TabOk P tb) {t : TypeId} {ti : TI} (hti : tl tb t = some ti) (ha : isAggD ti.desc = true) {w : World} {ad : Addr} {vs : List Value} (hl : vs.length = ti.size) (h : ∀ j u, vs[j]? = some u → w.cell? (ad.add j) = some u) :
    (loadVar t ad).run P w = .ok (.agg ⟨vs⟩) w := by
  have h1 := ht.agg hti w
  have h2 := ht.sizeOf hti w
  rw [ha] at h1
  have h3 := run_loadCells_list (P := P) w ad vs h
  rw [hl] at h3
  simp [loadVar, h1, h2, h3]
theorem loadVar_one (ht : TabOk P tb) {t : TypeId} {ti : TI} (hti : tl tb t = some ti) (ha : isAggD ti.desc = false) {w : World} {ad : Addr} {v : Value} (h : w.cell? ad = some v) : (loadVar t ad).run P w = .ok v w := by
  have h1 := ht.agg hti w
  rw [ha] at h1
  simp [loadVar, h1, h]

theorem loadVar_own (ht : TabOk P tb) {t : TypeId} {ti : TI} (hti : tl tb t = some ti) {w : World} {b off : Nat} {cs : List Value} {e : TypeId} {fz : Nat × Nat} (hb : w.heap[b]? = some (.cells ⟨cs⟩ e fz)) {v : Value} (hv : loadOf ti cs off = some v) :
    (loadVar t ⟨b, off, none⟩).run P w = .ok v w := by
  unfold loadOf at hv
  split at hv
  · rename_i ha
    split at hv
    · rename_i r hr
      simp at hv; subst hv
      obtain ⟨h1, h2⟩ := subl_get hr
      refine loadVar_agg ht hti ha h1 fun j u hj => ?_
      rw [Addr.add_lit, cell_of_row w b (off + j) _ e fz hb]
      simpa using h2 j u hj
    · cases hv
  · rename_i ha
    refine loadVar_one ht hti ha ?_
    rw [cell_of_row w b off _ e fz hb]
    simpa using hv

/-- Where a load looks. -/
def loadAt? (tb : Tab) (n : Nat) (all : Array Oper) (r : Nat → Option Value) (o : Oper) : Option (Nat × TypeId × TI × Addr) :=
  match gd all r o.guard with
  | some true => match o.dst with
    | some d => match Nat.blt d n with
      | true => match o.op with
        | .load t x => match tl tb t with
          | some ti => match ev r x with
            | some (.pointer (some ad)) => some (d, t, ti, ad)
            | _ => none
          | none => none
        | _ => none
      | false => none
    | none => none
  | _ => none

theorem S_load_of (ht : TabOk P tb) {d : Nat} {t : TypeId} {ti : TI} {ad : Addr} {v : Value} (hs : loadAt? tb n all (look l) o = some (d, t, ti, ad)) (hv : tl tb t = some ti → ∀ w, Hp w0 w ol → (loadVar t ad).run P w = .ok v w)
    (k : S P n w0 all rest ((d, v) :: l) ol K Q) : S P n w0 all (o :: rest) l ol K Q := by
  refine ⟨fun a w hf hh => ?_⟩
  unfold loadAt? at hs
  split at hs
  · rename_i hg
    split at hs
    · rename_i d' hd
      split at hs
      · rename_i hb
        split at hs
        · rename_i t' x hop
          split at hs
          · rename_i ti' hti
            split at hs
            · rename_i ad' hx
              simp at hs
              obtain ⟨rfl, rfl, rfl, rfl⟩ := hs
              refine wpList_run (v := v) (gd_wanted hf.rd hg) ?_ ?_ (w' := w)
              · unfold execOp
                simp [hop, hf.rd.ev hx, Instr.loadAt, Instr.sureAddr, hv hti w hh]
              · rw [hd]
                exact k.out _ w (hf.put (by simpa [Nat.blt_eq] using hb) _) hh
            · cases hs
          · cases hs
        · cases hs
      · cases hs
    · cases hs
  · cases hs

/-- A load out of a block that is known. -/
theorem S_load (ht : TabOk P tb) (i : Nat) {d : Nat} {t : TypeId} {ti : TI} {b off : Nat} {v : Value} {cs : List Value} {e : TypeId} {fz : Nat × Nat} {r : Bool} (hs : loadAt? tb n all (look l) o = some (d, t, ti, ⟨b, off, none⟩))
    (hi : getE ol i = some (.blk b (.cells ⟨cs⟩ e fz) r)) (hv : loadOf ti cs off = some v) (k : S P n w0 all rest ((d, v) :: l) ol K Q) : S P n w0 all (o :: rest) l ol K Q :=
  S_load_of ht hs (fun hti w hh => loadVar_own ht hti (hh.own _ (getE_mem hi)) hv) k

/-- A load of one cell. -/
theorem S_load1 (ht : TabOk P tb) {d : Nat} {t : TypeId} {ti : TI} {ad : Addr} {v : Value} (hs : loadAt? tb n all (look l) o = some (d, t, ti, ad)) (ha : isAggD ti.desc = false) (hv : ∀ w, Hp w0 w ol → w.cell? ad = some v)
    (k : S P n w0 all rest ((d, v) :: l) ol K Q) : S P n w0 all (o :: rest) l ol K Q :=
  S_load_of ht hs (fun hti w hh => loadVar_one ht hti ha (hv w hh)) k
/-- A load of more cells. -/
theorem S_loadN (ht : TabOk P tb) {d : Nat} {t : TypeId} {ti : TI} {ad : Addr} {vs : List Value} (hs : loadAt? tb n all (look l) o = some (d, t, ti, ad)) (ha : isAggD ti.desc = true) (hl : vs.length = ti.size) (hv : ∀ w, Hp w0 w ol → ∀ j u, vs[j]? = some u → w.cell? (ad.add j) = some u)
    (k : S P n w0 all rest ((d, .agg ⟨vs⟩) :: l) ol K Q) : S P n w0 all (o :: rest) l ol K Q :=
  S_load_of ht hs (fun hti w hh => loadVar_agg ht hti ha hl (hv w hh)) k

/-! what is old -/
def Apart (ol : OL) (b : Nat) : Prop := ∀ e ∈ ol, e.ex = true → ¬ e.has b
theorem Apart.nil {b : Nat} : Apart [] b := fun e he => by simp at he
theorem Apart.cons {b b' : Nat} {x : Obj} {r : Bool} {ol : OL} (h : b' ≠ b) (hs : Apart ol b) : Apart (.blk b' x r :: ol) b := fun e he => by
  rcases List.mem_cons.1 he with rfl | he
  · intro _ hh; exact h (Option.some.inj hh)
  · exact hs e he
theorem Apart.new {b : Nat} {ol : OL} (h : ∀ e ∈ ol, e.ex = true → ∀ k, e.has k → w0.heap.size ≤ k) (hb : b < w0.heap.size) : Apart ol b := fun e he hx hh => by have := h e he hx b hh; omega
theorem Hp.cell {w : World} (h : Hp w0 w ol) {ad : Addr} {v : Value} (hc : w0.cell? ad = some v) (ha : Apart ol ad.block) : w.cell? ad = some v :=
  (World.cell?_of_block (w := w0) (h.old ad.block (World.block_lt_of_cell? w0 ad hc) ha)).trans hc

/-! ### Stores, new blocks -/
def storeAt? (tb : Tab) (all : Array Oper) (r : Nat → Option Value) (o : Oper) : Option (Nat × Nat × List Value × Nat) :=
  match gd all r o.guard with
  | some true => match o.dst with
    | none => match o.op with
      | .store t x y => match tl tb t with
        | some ti => match ev r x with
          | some (.pointer (some ⟨b, off, none⟩)) => match ev r y with
            | some v => match valCells v with
              | some vs => some (b, off, vs, ti.size)
              | none => none
            | none => none
          | _ => none
        | none => none
      | _ => none
    | _ => none
  | _ => none

theorem Hp.setRow {w : World} {pre post : OL} {b : Nat} {x : Obj} (h : Hp w0 w (pre ++ .blk b x true :: post)) {cur cs : Array Value} {e : TypeId} (hx : x = .cells cur e (0, 0)) : Hp w0 (w.setRow b cs) (pre ++ .blk b (.cells cs e (0, 0)) true :: post) := by
  subst hx
  have hb := h.own _ (List.mem_append.2 (.inr List.mem_cons_self))
  exact h.turn rfl rfl rfl rfl (by simp) (fun k hk hne => setRow_other w b k cs (fun e => hne (by rw [e]; rfl))) (setRow_heap w b cur cs e (0, 0) hb) (fun k hk => .inl hk) (fun k hk => .inr hk)

theorem storeVar_own (ht : TabOk P tb) {t : TypeId} {ti : TI} (hti : tl tb t = some ti) {w : World} {b off : Nat} {cs cs' vs : List Value} {e : TypeId} {v : Value} (hv : valCells v = some vs) (hlen : vs.length = ti.size)
    (h1 : ∀ u ∈ vs, u.oneCell' = true) (hb : w.heap[b]? = some (.cells ⟨cs⟩ e (0, 0))) (hm : setMany cs off vs = some cs') : (storeVar t ⟨b, off, none⟩ v).run P w = .ok () (w.setRow b ⟨cs'⟩) := by
  obtain ⟨hle, rfl⟩ := setMany_eq hm
  have h2 := ht.sizeOf hti w
  have h3 := run_storeCells_at P b off e vs 0 ⟨cs⟩ w hb (by simpa using hle) h1
  simp only [Nat.add_zero] at h3
  have hc := valCells_eq hv
  simp [storeVar, hc, h2, hlen, h3]

theorem S_store_of (ht : TabOk P tb) (i : Nat) {b off sz : Nat} {vs cs cs' : List Value} {e : TypeId} {ol' : OL} (hs : storeAt? tb all (look l) o = some (b, off, vs, sz)) (hlen : vs.length = sz) (h1 : ∀ u ∈ vs, u.oneCell' = true)
    (hi : getE ol i = some (.blk b (.cells ⟨cs⟩ e (0, 0)) true)) (hm : setMany cs off vs = some cs') (ho : putE ol i (.blk b (.cells ⟨cs'⟩ e (0, 0)) true) = some ol') (k : S P n w0 all rest l ol' K Q) : S P n w0 all (o :: rest) l ol K Q := by
  refine ⟨fun a w hf hh => ?_⟩
  unfold storeAt? at hs
  split at hs
  · rename_i hg
    split at hs
    · rename_i hd
      split at hs
      · rename_i t x y hop
        split at hs
        · rename_i ti hti
          split at hs
          · rename_i b' off' hx
            split at hs
            · rename_i v hy
              split at hs
              · rename_i vs' hv
                simp at hs
                obtain ⟨rfl, rfl, rfl, rfl⟩ := hs
                obtain ⟨pre, post, e1, e2⟩ := putE_eq hi ho
                have hb := hh.own _ (getE_mem hi)
                refine wpList_runu (gd_wanted hf.rd hg) ?_ ?_ (w' := w.setRow b' ⟨cs'⟩)
                · unfold execOp
                  simp [hop, hf.rd.ev hx, hf.rd.ev hy, Instr.storeAt, Instr.sureAddr, storeVar_own ht hti hv hlen h1 hb hm]
                · rw [hd]
                  refine k.out _ _ hf ?_
                  rw [e1] at hh
                  rw [e2]
                  exact hh.setRow rfl
              · cases hs
            · cases hs
          · cases hs
        · cases hs
      · cases hs
    · cases hs
  · cases hs

theorem S_store (ht : TabOk P tb) (i : Nat) {b off sz : Nat} {vs cs cs' : List Value} {e : TypeId} {ol' : OL} (hs : storeAt? tb all (look l) o = some (b, off, vs, sz)) (hlen : Nat.beq vs.length sz = true) (h1 : allOne vs = true)
    (hi : getE ol i = some (.blk b (.cells ⟨cs⟩ e (0, 0)) true)) (hm : setMany cs off vs = some cs') (ho : putE ol i (.blk b (.cells ⟨cs'⟩ e (0, 0)) true) = some ol') (k : S P n w0 all rest l ol' K Q) : S P n w0 all (o :: rest) l ol K Q :=
  S_store_of ht i hs (Nat.eq_of_beq_eq_true hlen) (allOne_mem h1) hi hm ho k

def newAt? (tb : Tab) (n : Nat) (all : Array Oper) (r : Nat → Option Value) (o : Oper) : Option (Nat × TypeId × List Value) :=
  match gd all r o.guard with
  | some true => match o.dst with
    | some d => match Nat.blt d n with
      | true => match o.op with
        | .alloc e => match tl tb e with
          | some ti => match valCells ti.zero with
            | some vs => some (d, e, vs)
            | none => none
          | none => none
        | .box e x => match ev r x with
          | some v => match valCells v with
            | some vs => some (d, e, vs)
            | none => none
          | none => none
        | _ => none
      | false => none
    | none => none
  | _ => none

theorem S_new (ht : TabOk P tb) {d : Nat} {e : TypeId} {vs : List Value} (hs : newAt? tb n all (look l) o = some (d, e, vs)) (k : ∀ b, w0.heap.size ≤ b → S P n w0 all rest ((d, .pointer (some ⟨b, 0, none⟩)) :: l) (.blk b (.cells ⟨vs⟩ e (0, 0)) true :: ol) K Q) :
    S P n w0 all (o :: rest) l ol K Q := by
  refine ⟨fun a w hf hh => ?_⟩
  unfold newAt? at hs
  split at hs
  · rename_i hg
    split at hs
    · rename_i d' hd
      split at hs
      · rename_i hb
        have fin : ∀ d, o.dst = some d → Nat.blt d n = true → (execOp a.eval o).run P w = .ok (.value (.pointer (some ⟨w.heap.size, 0, none⟩))) (w.alloc (.cells ⟨vs⟩ e (0, 0))) →
            (∀ b, w0.heap.size ≤ b → S P n w0 all rest ((d, .pointer (some ⟨b, 0, none⟩)) :: l) (.blk b (.cells ⟨vs⟩ e (0, 0)) true :: ol) K Q) → wpList P all (lift n w0 (pthen K Q)) (o :: rest) a w := by
          intro d hd hb hr k
          refine wpList_run (gd_wanted hf.rd hg) hr ?_
          rw [hd]
          exact (k w.heap.size hh.size).out _ _ (hf.put (by simpa [Nat.blt_eq] using hb) _) (hh.alloc _)
        split at hs
        · rename_i e' hop
          split at hs
          · rename_i ti hti
            split at hs
            · rename_i vs' hv
              simp at hs
              obtain ⟨rfl, rfl, rfl⟩ := hs
              refine fin d' hd hb ?_ k
              have h1 := ht.zeroOf hti w
              unfold execOp
              simp [hop, Instr.alloc, h1, newVar, newRow, valCells_eq hv]
            · cases hs
          · cases hs
        · rename_i e' x hop
          split at hs
          · rename_i v hx
            split at hs
            · rename_i vs' hv
              simp at hs
              obtain ⟨rfl, rfl, rfl⟩ := hs
              refine fin d' hd hb ?_ k
              unfold execOp
              simp [hop, hf.rd.ev hx, Instr.box, newVar, newRow, valCells_eq hv]
            · cases hs
          · cases hs
        · cases hs
      · cases hs
    · cases hs
  · cases hs

/-! ### Calls -/
def callAt? (n : Nat) (all : Array Oper) (r : Nat → Option Value) (o : Oper) : Option (Nat × FuncId × List Value) :=
  match gd all r o.guard with
  | some true => match o.dst with
    | some d => match Nat.blt d n with
      | true => match o.op with
        | .call ⟨.value (.func f), as, _⟩ => match evs r as.toList with
          | some vs => some (d, f, vs)
          | none => none
        | _ => none
      | false => none
    | none => none
  | _ => none

theorem S_call {d : Nat} {f : FuncId} {vs : List Value} (hs : callAt? n all (look l) o = some (d, f, vs)) (hcall : ∀ args w, (callFunc f args).run P w = .ok (.enter f args) w)
    (hc : ∀ w, Hp w0 w ol → Calls P f vs.toArray w (fun e w' => ∃ v ol', e = .returned v ∧ Hp w0 w' ol' ∧ S P n w0 all rest ((d, v) :: l) ol' K Q)) : S P n w0 all (o :: rest) l ol K Q := by
  refine ⟨fun a w hf hh => ?_⟩
  unfold callAt? at hs
  split at hs
  · rename_i hg
    split at hs
    · rename_i d' hd
      split at hs
      · rename_i hb
        split at hs
        · rename_i f' as ts hop
          split at hs
          · rename_i vs' hx
            simp at hs
            obtain ⟨rfl, rfl, rfl⟩ := hs
            have hm : as.map a.eval = vs'.toArray := by
              apply Array.ext'
              simpa using hf.rd.evs hx
            have hr : (execOp a.eval o).run P w = .ok (.enter f' vs'.toArray) w := by
              unfold execOp
              simp [hop, resolve, Act.eval, Deferred.ofValue, invoke, hm, hcall]
            unfold wpList
            rw [if_pos (gd_wanted hf.rd hg)]
            left
            simp only [Oper.wp, hr, Oper.upon]
            refine (hc w hh).mono ?_
            rintro e w' ⟨v, ol', rfl, hh', k⟩
            show wpList P all _ rest (a.put o.dst v) w'
            rw [hd]
            exact k.out _ _ (hf.put (by simpa [Nat.blt_eq] using hb) _) hh'
          · cases hs
        · cases hs
      · cases hs
    · cases hs
  · cases hs

/-- A callee that turns nothing that was there. -/
theorem S_callq {d : Nat} {f : FuncId} {vs : List Value} {v : Value} (hs : callAt? n all (look l) o = some (d, f, vs)) (hcall : ∀ args w, (callFunc f args).run P w = .ok (.enter f args) w)
    (hc : ∀ w, Hp w0 w ol → Calls P f vs.toArray w (fun e w' => e = .returned v ∧ Below w.heap.size w w')) (k : S P n w0 all rest ((d, v) :: l) ol K Q) : S P n w0 all (o :: rest) l ol K Q :=
  S_call hs hcall fun w hh => (hc w hh).mono fun e w' ⟨he, hb⟩ => ⟨v, ol, he, hh.ext hb, k⟩
end

theorem retb {b c : Bool} (h : b = c) : Ending.returned (.bool b) = .returned (.bool c) := by rw [h]
theorem reti {k : IntKind} {b c : Int} (h : b = c) : Ending.returned (.int k b) = .returned (.int k c) := by rw [h]
theorem dec_eq {p q : Prop} {_ : Decidable p} {_ : Decidable q} (h : p ↔ q) : decide p = decide q := by simp [h]
theorem false_dec {p : Prop} {_ : Decidable p} (h : ¬ p) : false = decide p := by simp [h]
theorem true_dec {p : Prop} {_ : Decidable p} (h : p) : true = decide p := by simp [h]
theorem new_nil {w0 : World} : ∀ e ∈ ([] : OL), e.ex = true → ∀ k, e.has k → w0.heap.size ≤ k := fun e he => by simp at he
theorem new_cons {w0 : World} {b : Nat} {x : Obj} {r : Bool} {ol : OL} (h : w0.heap.size ≤ b) (hs : ∀ e ∈ ol, e.ex = true → ∀ k, e.has k → w0.heap.size ≤ k) : ∀ e ∈ HE.blk b x r :: ol, e.ex = true → ∀ k, e.has k → w0.heap.size ≤ k := fun e he => by
  rcases List.mem_cons.1 he with rfl | he
  · intro _ k hk; simp only [HE.has, Option.some.injEq] at hk; omega
  · exact hs e he
/-- of a row that is there -/
theorem Hp.new_row {w0 w : World} {base : Nat} {v : Value} {t : TypeId} {sz n : Nat} {xs : List Value} {ol : OL} {o : OL} (hw : Hp w0 w o) (hm : HE.row base v t sz n xs ∈ o) (h : w0.heap.size ≤ base) (hs : ∀ e ∈ ol, e.ex = true → ∀ k, e.has k → w0.heap.size ≤ k) :
    ∀ e ∈ HE.row base v t sz n xs :: ol, e.ex = true → ∀ k, e.has k → w0.heap.size ≤ k := fun e he => by
  rcases List.mem_cons.1 he with rfl | he
  · intro _ k hk
    have := (World.ownsRow.lt (hw.own _ hm) k hk).1
    omega
  · exact hs e he
/-- .. of what only looks -/
theorem new_ro {w0 : World} {Φ : World → Prop} {F : Nat → Prop} {ol : OL} (hs : ∀ e ∈ ol, e.ex = true → ∀ k, e.has k → w0.heap.size ≤ k) : ∀ e ∈ HE.rep Φ F false :: ol, e.ex = true → ∀ k, e.has k → w0.heap.size ≤ k := fun e he => by
  rcases List.mem_cons.1 he with rfl | he
  · intro hx; cases hx
  · exact hs e he
end Go.Proofs.Ytggnhcgmeibihaa
