/-
  An engine of rules for walks, part D: regions that draw their order. Whatever order is drawn, each operation finds in its own slots what it would find in the text's order; what it answers is told by a predicate that stays true whatever is made meanwhile. No program's text; conditions: each theorem's own.
-/
import Derived.Test.YtggnhcgmeibihaaEngC
import Derived.Orders
namespace Go.Proofs.Ytggnhcgmeibihaa
open Go Go.RowKit
set_option linter.unusedVariables false

/-! ### Which operation surely stands ahead of which -/
def maskOf (acc : List Nat) : List Edge → Nat
  | [] => 0
  | e :: es => match Region.binds .any e with
    | true => (2 ^ e.on ||| acc.getD e.on 0) ||| maskOf acc es
    | false => maskOf acc es
def masks : List Oper → List Nat → List Nat
  | [], acc => acc
  | o :: os, acc => masks os (acc ++ [maskOf acc o.after.toList])

theorem maskOf_bit {acc : List Nat} {j : Nat} : ∀ {es : List Edge}, (maskOf acc es).testBit j = true → ∃ e ∈ es, Region.binds .any e = true ∧ (e.on = j ∨ (acc.getD e.on 0).testBit j = true)
  | [], h => by simp [maskOf] at h
  | e :: es, h => by
    simp only [maskOf] at h
    split at h
    · rename_i hb
      rw [Nat.testBit_or, Nat.testBit_or] at h
      simp only [Bool.or_eq_true] at h
      rcases h with (h | h) | h
      · refine ⟨e, by simp, hb, .inl ?_⟩
        rw [Nat.testBit_two_pow] at h
        simpa using h
      · exact ⟨e, by simp, hb, .inr h⟩
      · obtain ⟨e', h1, h2, h3⟩ := maskOf_bit h
        exact ⟨e', by simp [h1], h2, h3⟩
    · obtain ⟨e', h1, h2, h3⟩ := maskOf_bit h
      exact ⟨e', by simp [h1], h2, h3⟩

/-- Each mask is made of the operation's edges and of the masks ahead of it. -/
def MaskOk (ops : List Oper) (M : List Nat) : Prop :=
  ∀ i m, M[i]? = some m → ∃ o, ops[i]? = some o ∧ ∀ j, m.testBit j = true → ∃ e ∈ o.after.toList, Region.binds .any e = true ∧ (e.on = j ∨ (e.on < i ∧ (M.getD e.on 0).testBit j = true))

theorem masks_ok : ∀ (os pre : List Oper) (acc : List Nat), acc.length = pre.length → MaskOk pre acc → MaskOk (pre ++ os) (masks os acc)
  | [], pre, acc, _, h => by simpa [masks] using h
  | o :: os, pre, acc, hl, h => by
    have := masks_ok os (pre ++ [o]) (acc ++ [maskOf acc o.after.toList]) (by simp [hl]) (by
      intro i m hi
      rcases Nat.lt_or_ge i acc.length with hlt | hge
      · rw [List.getElem?_append_left hlt] at hi
        obtain ⟨o', h1, h2⟩ := h i m hi
        refine ⟨o', by rw [List.getElem?_append_left (by omega)]; exact h1, fun j hj => ?_⟩
        obtain ⟨e, he, hb, h3⟩ := h2 j hj
        refine ⟨e, he, hb, h3.imp id fun ⟨h4, h5⟩ => ⟨h4, ?_⟩⟩
        have : e.on < acc.length := by omega
        rw [List.getD_eq_getElem?_getD, List.getElem?_append_left this, ← List.getD_eq_getElem?_getD]; exact h5
      · rw [List.getElem?_append_right hge] at hi
        have hi0 : i - acc.length = 0 := by
          rcases Nat.eq_zero_or_pos (i - acc.length) with h0 | h0
          · exact h0
          · rw [List.getElem?_eq_none (by simp; omega)] at hi; cases hi
        rw [hi0] at hi
        simp at hi
        subst hi
        have hie : i = pre.length := by omega
        refine ⟨o, by subst hie; simp, fun j hj => ?_⟩
        obtain ⟨e, he, hb, h3⟩ := maskOf_bit hj
        refine ⟨e, he, hb, h3.imp id fun h5 => ?_⟩
        have hlt : e.on < acc.length := by
          rcases Nat.lt_or_ge e.on acc.length with h' | h'
          · exact h'
          · rw [List.getD_eq_getElem?_getD, List.getElem?_eq_none h'] at h5; simp at h5
        exact ⟨by omega, by rw [List.getD_eq_getElem?_getD, List.getElem?_append_left hlt, ← List.getD_eq_getElem?_getD]; exact h5⟩)
    simpa [masks] using this

/-- What has been carried out is closed under 'ahead of'. -/
def Closed (ops : List Oper) (L : Nat → Bool) : Prop := ∀ i o, ops[i]? = some o → L i = true → ∀ e ∈ o.after.toList, Region.binds .any e = true → L e.on = true

theorem closed_mask {ops : List Oper} {M : List Nat} (hM : MaskOk ops M) {L : Nat → Bool} (hL : Closed ops L) : ∀ (i : Nat) (m : Nat), M[i]? = some m → ∀ o, ops[i]? = some o → (∀ e ∈ o.after.toList, Region.binds .any e = true → L e.on = true) → ∀ j, m.testBit j = true → L j = true := by
  intro i
  induction i using Nat.strongRecOn with
  | _ i ih =>
    intro m hm o ho hpre j hj
    obtain ⟨o', ho', hb⟩ := hM i m hm
    rw [ho] at ho'
    cases ho'
    obtain ⟨e, he, hbe, h | ⟨hlt, h⟩⟩ := hb j hj
    · rw [← h]; exact hpre e he hbe
    · have hLe := hpre e he hbe
      rw [List.getD_eq_getElem?_getD] at h
      cases hme : M[e.on]? with
      | none => rw [hme] at h; simp at h
      | some m' =>
        rw [hme] at h
        obtain ⟨o2, ho2, _⟩ := hM e.on m' hme
        exact ih e.on hlt m' hme o2 ho2 (fun e' he' hb' => hL e.on o2 ho2 hLe e' he' hb') j (by simpa using h)

/-- The check of a region: whoever shares a slot with another stands in a fixed order with him; from place 'm' on each one stands behind all ahead of him. -/
def slotApart (ops : Array Oper) (x y : Oper) : Bool := x.apart ops y
def rowOk (all : Array Oper) (m i : Nat) (o : Oper) (mask : Nat) : Nat → List Oper → Bool
  | _, [] => true
  | j, p :: ps => match Nat.blt j i with
    | false => true
    | true => (mask.testBit j || (Nat.blt i m && slotApart all p o)) && rowOk all m i o mask (j + 1) ps
def edgesOk (i : Nat) : List Edge → Bool
  | [] => true
  | e :: es => (Nat.blt e.on i || !Region.binds .any e) && edgesOk i es
def noSel (o : Oper) : Bool := match o.op with
  | .select _ _ => false
  | _ => true
def rowsOk (all : Array Oper) (ops : List Oper) (m : Nat) : Nat → List Oper → List Nat → Bool
  | _, [], _ => true
  | i, o :: os, ms => match ms with
    | [] => false
    | mask :: ms => noSel o && edgesOk i o.after.toList && rowOk all m i o mask 0 ops && rowsOk all ops m (i + 1) os ms
def regOk (ops : List Oper) (m : Nat) : Bool := rowsOk ops.toArray ops m 0 ops (masks ops [])

theorem rowOk_spec {all : Array Oper} {m i : Nat} {o : Oper} {mask : Nat} : ∀ {ps : List Oper} {k : Nat}, rowOk all m i o mask k ps = true → ∀ j p, ps[j]? = some p → k + j < i → mask.testBit (k + j) = true ∨ (i < m ∧ p.apart all o = true)
  | [], k, _, j, p, hp, _ => by simp at hp
  | q :: ps, k, h, j, p, hp, hlt => by
    simp only [rowOk] at h
    have hk : Nat.blt k i = true := by rw [Nat.blt_eq]; omega
    rw [hk] at h
    simp only [Bool.and_eq_true, Bool.or_eq_true] at h
    cases j with
    | zero =>
      simp at hp
      subst hp
      rcases h.1 with h1 | h1
      · exact .inl (by simpa using h1)
      · exact .inr ⟨by simpa [Nat.blt_eq] using h1.1, h1.2⟩
    | succ j =>
      have := rowOk_spec h.2 j p (by simpa using hp) (by omega)
      have e : k + 1 + j = k + (j + 1) := by omega
      rwa [e] at this
theorem edgesOk_spec {i : Nat} : ∀ {es : List Edge}, edgesOk i es = true → ∀ e ∈ es, Region.binds .any e = true → e.on < i
  | [], _, e, he, _ => by simp at he
  | x :: es, h, e, he, hb => by
    simp only [edgesOk, Bool.and_eq_true, Bool.or_eq_true] at h
    rcases List.mem_cons.1 he with rfl | he
    · rcases h.1 with h1 | h1
      · simpa [Nat.blt_eq] using h1
      · simp [hb] at h1
    · exact edgesOk_spec h.2 e he hb
theorem rowsOk_spec {all : Array Oper} {ops : List Oper} {m : Nat} : ∀ {os : List Oper} {ms : List Nat} {k : Nat}, rowsOk all ops m k os ms = true → ∀ i o, os[i]? = some o → ∃ mask, ms[i]? = some mask ∧ noSel o = true ∧ edgesOk (k + i) o.after.toList = true ∧ rowOk all m (k + i) o mask 0 ops = true
  | [], _, _, _, i, o, ho => by simp at ho
  | x :: os, ms, k, h, i, o, ho => by
    cases ms with
    | nil => simp [rowsOk] at h
    | cons mask ms =>
      simp only [rowsOk, Bool.and_eq_true] at h
      cases i with
      | zero => simp at ho; subst ho; exact ⟨mask, by simp, h.1.1.1, h.1.1.2, h.1.2⟩
      | succ i =>
        obtain ⟨mk, h1, h2, h3, h4⟩ := rowsOk_spec h.2 i o (by simpa using ho)
        have e : k + 1 + i = k + (i + 1) := by omega
        rw [e] at h3 h4
        exact ⟨mk, by simpa using h1, h2, h3, h4⟩

/-- What the check gives. -/
structure Reg (ops : List Oper) (m : Nat) : Prop where
  noSelect : ∀ (i : Nat) (o : Oper), ops[i]? = some o → ∀ cs b, o.op ≠ .select cs b
  edges : ∀ (i : Nat) (o : Oper), ops[i]? = some o → ∀ e ∈ o.after.toList, Region.binds .any e = true → e.on < i
  ahead : ∀ (L : Nat → Bool), Closed ops L → ∀ (i : Nat) (o : Oper), ops[i]? = some o → (∀ e ∈ o.after.toList, Region.binds .any e = true → L e.on = true) → ∀ (j : Nat) (p : Oper), ops[j]? = some p → j < i → L j = true ∨ (i < m ∧ p.apart ops.toArray o = true)

theorem reg_of {ops : List Oper} {m : Nat} (h : regOk ops m = true) : Reg ops m := by
  unfold regOk at h
  have hM : MaskOk ops (masks ops []) := by
    have := masks_ok ops [] [] rfl (fun i m hi => by simp at hi)
    simpa using this
  refine ⟨fun i o ho cs b hop => ?_, fun i o ho e he hb => ?_, fun L hL i o ho hpre j p hp hlt => ?_⟩
  · obtain ⟨_, _, h2, _, _⟩ := rowsOk_spec h i o ho
    simp [noSel, hop] at h2
  · obtain ⟨_, _, _, h3, _⟩ := rowsOk_spec h i o ho
    have := edgesOk_spec h3 e he hb
    omega
  · obtain ⟨mask, h1, _, _, h4⟩ := rowsOk_spec h i o ho
    simp only [Nat.zero_add] at h4
    rcases rowOk_spec h4 j p hp (by omega) with h5 | h5
    · left
      simp only [Nat.zero_add] at h5
      exact closed_mask hM hL i mask h1 o ho hpre j h5
    · exact .inr h5

/-! ### What slots hold: a value, or one of which something stays true -/
inductive Ent where
  | ex (v : Value)
  | pr (Φ : Value → World → Prop)

abbrev DL := List (Nat × Ent)
def lk : DL → Nat → Option Ent
  | [], _ => none
  | (k, v) :: l, t => match Nat.beq k t with
    | true => some v
    | false => lk l t
theorem lk_cons_eq (k : Nat) (v : Ent) (l : DL) : lk ((k, v) :: l) k = some v := by simp [lk]
theorem lk_cons_ne {k t : Nat} (h : k ≠ t) (v : Ent) (l : DL) : lk ((k, v) :: l) t = lk l t := by
  have : Nat.beq k t = false := by
    cases hb : Nat.beq k t with
    | false => rfl
    | true => exact absurd (Nat.eq_of_beq_eq_true hb) h
  simp [lk, this]

def Ent.at : Ent → Value → World → Prop
  | .ex v, u, _ => u = v
  | .pr Φ, u, w => Φ u w
def Ent.Stable : Ent → Prop
  | .ex _ => True
  | .pr Φ => ∀ v w w', Φ v w → Below w.heap.size w w' → Φ v w'
theorem Ent.Stable.keep {E : Ent} (h : E.Stable) {v : Value} {w w' : World} (ha : E.at v w) (hb : Below w.heap.size w w') : E.at v w' := by
  cases E with
  | ex u => exact ha
  | pr Φ => exact h v w w' ha hb

def Sat (E : Option Ent) (x : Option Value) (w : World) : Prop := match E with
  | none => True
  | some E => ∃ v, x = some v ∧ E.at v w

def updD (dl : DL) (dst : Option Tmp) (E : Ent) : DL := match dst with
  | some d => (d, E) :: dl
  | none => dl

section
variable {P : Program} {n : Nat} {w0 : World} {ops : List Oper} {ol : OL}

/-- One operation, in whatever world behind the region's beginning: its slots hold what they hold in the text's order; it answers what is told. -/
def OpOk (P : Program) (n : Nat) (w0 : World) (all : Array Oper) (ol : OL) (dl : DL) (o : Oper) (E : Ent) : Prop :=
  ∀ a w, a.defers = [] → a.tmps.size = n → Hp w0 w ol → (∀ t ∈ o.looksAt all, Sat (lk dl t) a.tmps[t]? w) →
    (Region.wanted o (yielded all a.tmps) = true → o.wp P a w (fun a' w' => ∃ v, a' = a.put o.dst v ∧ Below w.heap.size w w' ∧ E.at v w') (fun _ _ _ => False)) ∧
    (Region.wanted o (yielded all a.tmps) = false → E.at undef w)

structure DOp (P : Program) (n : Nat) (w0 : World) (all : Array Oper) (ol : OL) (dl : DL) (o : Oper) (E : Ent) : Prop where
  ok : OpOk P n w0 all ol dl o E
  stable : E.Stable
  lt : ∀ d, o.dst = some d → d < n

/-- The walk in the text's order. -/
def DW (P : Program) (n : Nat) (w0 : World) (all : Array Oper) (ol : OL) : List Oper → DL → (DL → Prop) → Prop
  | [], dl, F => F dl
  | o :: os, dl, F => ∃ E, DOp P n w0 all ol dl o E ∧ DW P n w0 all ol os (updD dl o.dst E) F

/-- What the walk has made of it: an entry for each operation. -/
def dlAt (Es : List Ent) : List Oper → Nat → DL → DL
  | [], _, dl => dl
  | _, 0, dl => dl
  | o :: os, k + 1, dl => match Es with
    | [] => dl
    | E :: Es => dlAt Es os k (updD dl o.dst E)

theorem dlAt_zero {Es : List Ent} {os : List Oper} {dl : DL} : dlAt Es os 0 dl = dl := by cases os <;> cases Es <;> rfl

theorem DW_es {all : Array Oper} : ∀ {os : List Oper} {dl : DL} {F : DL → Prop}, DW P n w0 all ol os dl F → ∃ Es : List Ent, Es.length = os.length ∧ (∀ i o E, os[i]? = some o → Es[i]? = some E → DOp P n w0 all ol (dlAt Es os i dl) o E) ∧ F (dlAt Es os os.length dl)
  | [], dl, F, h => ⟨[], rfl, fun i o E ho => by simp at ho, by simpa [dlAt, DW] using h⟩
  | o :: os, dl, F, h => by
    obtain ⟨E, h1, h2⟩ := h
    obtain ⟨Es, hl, h3, h4⟩ := DW_es h2
    refine ⟨E :: Es, by simp [hl], fun i o' E' ho hE => ?_, by simpa [dlAt] using h4⟩
    cases i with
    | zero => simp at ho hE; subst ho; subst hE; rw [dlAt_zero]; exact h1
    | succ i => simpa [dlAt] using h3 i o' E' (by simpa using ho) (by simpa using hE)

/-- The last one ahead of place i that writes a slot. -/
theorem lk_dlAt_none {t : Nat} : ∀ {os : List Oper} {Es : List Ent} {i : Nat} {dl : DL}, (∀ j o, j < i → os[j]? = some o → o.dst ≠ some t) → lk (dlAt Es os i dl) t = lk dl t
  | [], Es, i, dl, _ => by cases i <;> cases Es <;> rfl
  | o :: os, Es, 0, dl, _ => by rw [dlAt_zero]
  | o :: os, [], i + 1, dl, _ => rfl
  | o :: os, E :: Es, i + 1, dl, h => by
    simp only [dlAt]
    rw [lk_dlAt_none (fun j o' hj ho => h (j + 1) o' (by omega) (by simpa using ho))]
    have h0 := h 0 o (by omega) rfl
    cases hd : o.dst with
    | none => rfl
    | some d => exact lk_cons_ne (fun e => h0 (by rw [hd, e])) _ _

theorem lk_dlAt_some {t k : Nat} {ok : Oper} {E : Ent} : ∀ {os : List Oper} {Es : List Ent} {i m : Nat} {dl : DL}, os[m]? = some ok → Es[m]? = some E → ok.dst = some t → m < i → (∀ j o, m < j → j < i → os[j]? = some o → o.dst ≠ some t) →
    lk (dlAt Es os i dl) t = some E
  | [], _, _, _, _, h, _, _, _, _ => by simp at h
  | o :: os, [], _, m, _, _, h, _, _, _ => by simp at h
  | o :: os, E' :: Es, 0, m, dl, _, _, _, h, _ => by omega
  | o :: os, E' :: Es, i + 1, 0, dl, h1, h2, h3, h4, h5 => by
    simp at h1 h2
    subst h1; subst h2
    simp only [dlAt]
    rw [lk_dlAt_none (fun j o' hj ho => h5 (j + 1) o' (by omega) (by omega) (by simpa using ho)), h3]
    exact lk_cons_eq _ _ _
  | o :: os, E' :: Es, i + 1, m + 1, dl, h1, h2, h3, h4, h5 => by
    simp only [dlAt]
    exact lk_dlAt_some (k := k) (os := os) (Es := Es) (i := i) (m := m) (by simpa using h1) (by simpa using h2) h3 (by omega) (fun j o' hj hji ho => h5 (j + 1) o' (by omega) (by omega) (by simpa using ho))

/-- What stands in the frame while the operations are carried out: 'L i': operation i has been. -/
structure Inv (n : Nat) (w0 : World) (ops : List Oper) (Es : List Ent) (ol : OL) (dl : DL) (L : Nat → Bool) (a : Act) (w : World) : Prop where
  defers : a.defers = []
  size : a.tmps.size = n
  hp : Hp w0 w ol
  closed : Closed ops L
  sat : ∀ i t, i ≤ ops.length → (∀ j o, ops[j]? = some o → o.dst = some t → (j < i ↔ L j = true)) → Sat (lk (dlAt Es ops i dl) t) a.tmps[t]? w

theorem Sat.keep {E : Option Ent} {x : Option Value} {w w' : World} (hs : ∀ E', E = some E' → E'.Stable) (h : Sat E x w) (hb : Below w.heap.size w w') : Sat E x w' := by
  cases E with
  | none => trivial
  | some E => obtain ⟨v, h1, h2⟩ := h; exact ⟨v, h1, (hs E rfl).keep h2 hb⟩

def add (L : Nat → Bool) (k : Nat) : Nat → Bool := fun j => if j = k then true else L j

theorem conflict_of {all : Array Oper} {p o : Oper} {t : Nat} (hp : p.dst = some t) (ho : t ∈ o.looksAt all ∨ o.dst = some t) : ¬ p.apart all o = true := by
  intro h
  obtain ⟨h1, h2, _⟩ := Oper.apart_spec h
  rcases ho with ho | ho
  · exact h1 t hp ho
  · exact h2 t hp ho
theorem conflict_of' {all : Array Oper} {p o : Oper} {t : Nat} (hp : o.dst = some t) (ho : t ∈ p.looksAt all) : ¬ p.apart all o = true := by
  intro h
  obtain ⟨_, _, h3⟩ := Oper.apart_spec h
  exact h3 t hp ho

theorem dl_stable {Es : List Ent} {dl : DL} (hdl : ∀ t E, lk dl t = some E → E.Stable) (hE : ∀ E ∈ Es, E.Stable) : ∀ (os : List Oper) (i : Nat) (Es' : List Ent) (dl' : DL), (∀ E ∈ Es', E.Stable) → (∀ t E, lk dl' t = some E → E.Stable) → ∀ t E, lk (dlAt Es' os i dl') t = some E → E.Stable
  | [], i, Es', dl', h1, h2 => by cases i <;> cases Es' <;> exact h2
  | o :: os, 0, Es', dl', h1, h2 => by rw [dlAt_zero]; exact h2
  | o :: os, i + 1, [], dl', h1, h2 => h2
  | o :: os, i + 1, E :: Es', dl', h1, h2 => by
    simp only [dlAt]
    refine dl_stable hdl hE os i Es' _ (fun E' hE' => h1 E' (List.mem_cons_of_mem _ hE')) fun t E' h => ?_
    cases hd : o.dst with
    | none => rw [hd] at h; exact h2 t E' h
    | some d =>
      rw [hd] at h
      simp only [updD] at h
      by_cases hdt : d = t
      · subst hdt
        rw [lk_cons_eq] at h
        cases h
        exact h1 _ (by simp)
      · rw [lk_cons_ne hdt] at h
        exact h2 t E' h

section
variable {Es : List Ent} {dl : DL} {L : Nat → Bool} {a : Act} {w : World} {m : Nat}

/-- What an operation that is ready finds. -/
theorem Inv.looks (hI : Inv n w0 ops Es ol dl L a w) (hR : Reg ops m) {k : Nat} {o : Oper} (ho : ops[k]? = some o) (hk : L k = false) (hpre : ∀ e ∈ o.after.toList, Region.binds .any e = true → L e.on = true) :
    ∀ t ∈ o.looksAt ops.toArray, Sat (lk (dlAt Es ops k dl) t) a.tmps[t]? w := by
  intro t ht
  have hkl : k < ops.length := (List.getElem?_eq_some_iff.1 ho).1
  refine hI.sat k t (Nat.le_of_lt hkl) fun j p hp hd => ⟨fun hlt => ?_, fun hL => ?_⟩
  · rcases hR.ahead L hI.closed k o ho hpre j p hp hlt with h | ⟨_, h⟩
    · exact h
    · exact absurd h (conflict_of hd (.inl ht))
  · rcases Nat.lt_trichotomy j k with h | h | h
    · exact h
    · subst h; rw [hk] at hL; cases hL
    · rcases hR.ahead L hI.closed j p hp (hI.closed j p hp hL) k o ho h with h' | ⟨_, h'⟩
      · rw [hk] at h'; cases h'
      · exact absurd h' (conflict_of' hd ht)

theorem add_closed (hL : Closed ops L) {k : Nat} {o : Oper} (ho : ops[k]? = some o) (hpre : ∀ e ∈ o.after.toList, Region.binds .any e = true → L e.on = true) : Closed ops (add L k) := by
  intro i p hp hi e he hb
  unfold add at hi ⊢
  by_cases hik : i = k
  · subst hik
    rw [ho] at hp; cases hp
    rw [hpre e he hb]; simp
  · rw [if_neg hik] at hi
    rw [hL i p hp hi e he hb]; simp

theorem Inv.step (hI : Inv n w0 ops Es ol dl L a w) (hR : Reg ops m) (hst : ∀ i t E, lk (dlAt Es ops i dl) t = some E → E.Stable) {k : Nat} {o : Oper} (ho : ops[k]? = some o) (hk : L k = false)
    (hpre : ∀ e ∈ o.after.toList, Region.binds .any e = true → L e.on = true) {E : Ent} (hE : Es[k]? = some E) (hlt : ∀ d, o.dst = some d → d < n) {w' : World} {v : Value} (hb : Below w.heap.size w w') (hv : E.at v w') :
    Inv n w0 ops Es ol dl (add L k) (a.put o.dst v) w' := by
  have hkl : k < ops.length := (List.getElem?_eq_some_iff.1 ho).1
  refine ⟨?_, ?_, hI.hp.ext hb, add_closed hI.closed ho hpre, fun i t hi hc => ?_⟩
  · cases hd : o.dst <;> simp [Act.put, hI.defers]
  · cases hd : o.dst <;> simp [Act.put, hI.size]
  · by_cases hdt : o.dst = some t
    · have hki : k < i := (hc k o ho hdt).2 (by simp [add])
      have he : lk (dlAt Es ops i dl) t = some E := by
        refine lk_dlAt_some (k := k) ho hE hdt hki fun j p hj hji hp hd => ?_
        have hLj : L j = true := by
          have := (hc j p hp hd).1 hji
          unfold add at this
          rwa [if_neg (by omega)] at this
        rcases hR.ahead L hI.closed j p hp (hI.closed j p hp hLj) k o ho hj with h' | ⟨_, h'⟩
        · rw [hk] at h'; cases h'
        · exact conflict_of hdt (.inr hd) h'
      rw [he]
      refine ⟨v, ?_, hv⟩
      have := hlt t hdt
      rw [hdt]
      simp [Act.put, hI.size, this]
    · have hsame : (a.put o.dst v).tmps[t]? = a.tmps[t]? := by
        cases hd : o.dst with
        | none => rfl
        | some d =>
          have hne : d ≠ t := fun e => hdt (by rw [hd, e])
          simp [Act.put, Array.getElem?_setIfInBounds_ne hne]
      rw [hsame]
      refine (hI.sat i t hi fun j p hp hd => ?_).keep (hst i t) hb
      rw [hc j p hp hd]
      unfold add
      by_cases hjk : j = k
      · subst hjk; rw [ho] at hp; cases hp; exact absurd hd hdt
      · rw [if_neg hjk]

/-- Behind place m one after the other. -/
theorem tail_any {Q : Exit → Act → World → Prop} (hR : Reg ops m) : ∀ (r m' : Nat) (listed : Array Bool) (a : Act) (w : World), m' + r = ops.length → m ≤ m' → listed.size = ops.length → (∀ j, j < ops.length → (listed.getD j true = true ↔ j < m')) →
    wpList P ops.toArray Q (ops.drop m') a w → wpAny P .any ops.toArray Q r listed a w
  | 0, m', listed, a, w, hr, hm, hs, hl, h => by
    have hmm : m' = ops.length := by omega
    subst hmm
    have hready : Region.ready .any ops.toArray listed = [] := by
      unfold Region.ready
      rw [List.filter_eq_nil_iff]
      intro i hi
      have hi' : i < ops.length := by simpa using hi
      have := (hl i hi').2 hi'
      simp [this]
    exact ⟨hready, by simpa [wpList] using h⟩
  | r + 1, m', listed, a, w, hr, hm, hs, hl, h => by
    have hlt : m' < ops.length := by omega
    obtain ⟨o, ho⟩ : ∃ o, ops[m']? = some o := ⟨_, List.getElem?_eq_getElem hlt⟩
    have hdrop : ops.drop m' = o :: ops.drop (m' + 1) := by
      rw [List.drop_eq_getElem_cons hlt]
      congr 1
      exact (List.getElem?_eq_some_iff.1 ho).2
    have hnotyet : listed.getD m' true = false := by
      cases hb : listed.getD m' true with
      | false => rfl
      | true => exact absurd ((hl m' hlt).1 hb) (by omega)
    let L : Nat → Bool := fun j => decide (j < m')
    have hcl : Closed ops L := fun i p hp hi e he hb => by
      have h1 := hR.edges i p hp e he hb
      simp only [L, decide_eq_true_eq] at hi ⊢
      omega
    have hmem : m' ∈ Region.ready .any ops.toArray listed := by
      unfold Region.ready
      rw [List.mem_filter]
      refine ⟨by simpa using hlt, ?_⟩
      have ho' : ops.toArray[m']? = some o := by simpa using ho
      simp only [hnotyet, ho', Option.map_some, Option.getD_some, Bool.not_false, Bool.true_and]
      rw [Array.all_eq_true_iff_forall_mem]
      intro e he
      cases hb : Region.binds .any e with
      | false => simp
      | true =>
        have h1 := hR.edges m' o ho e (by simpa using he) hb
        have h2 := (hl e.on (by omega)).2 h1
        have h3 : e.on < listed.size := by omega
        simp only [Array.getD, h3, dite_true] at h2 ⊢
        have h4 : listed[e.on] = true := h2
        simp [h4]
    have honly : ∀ i ∈ Region.ready .any ops.toArray listed, i = m' := by
      intro i hi
      unfold Region.ready at hi
      rw [List.mem_filter] at hi
      obtain ⟨h1, h2⟩ := hi
      have hi' : i < ops.length := by simpa using h1
      simp only [Bool.and_eq_true] at h2
      obtain ⟨h2, h3⟩ := h2
      have hge : ¬ i < m' := fun hh => by
        have := (hl i hi').2 hh
        rw [this] at h2; simp at h2
      rcases Nat.lt_or_ge m' i with hgt | hle
      · exfalso
        obtain ⟨oi, hoi⟩ : ∃ oi, ops[i]? = some oi := ⟨_, List.getElem?_eq_getElem hi'⟩
        have hoi' : ops.toArray[i]? = some oi := by simpa using hoi
        simp only [hoi', Option.map_some, Option.getD_some] at h3
        rw [Array.all_eq_true_iff_forall_mem] at h3
        have hpre : ∀ e ∈ oi.after.toList, Region.binds .any e = true → L e.on = true := by
          intro e he hb
          have h4 := h3 e (by simpa using he)
          have h5 := hR.edges i oi hoi e he hb
          simp only [hb, Bool.not_true, Bool.false_or] at h4
          have h6 : e.on < listed.size := by omega
          have h7 : listed.getD e.on true = true := by
            simp only [Array.getD, h6, dite_true] at h4 ⊢
            exact h4
          simp only [L, decide_eq_true_eq]
          exact (hl e.on (by omega)).1 h7
        rcases hR.ahead L hcl i oi hoi hpre m' o ho hgt with h' | ⟨h', _⟩
        · simp [L] at h'
        · omega
      · omega
    refine ⟨(fun h0 => by rw [h0] at hmem; cases hmem), fun i hi => ?_⟩
    have him := honly i hi
    subst him
    rw [hdrop] at h
    have ho' : ops.toArray[i]? = some o := by simpa using ho
    have hnext : ∀ a w, wpList P ops.toArray Q (ops.drop (i + 1)) a w → wpAny P .any ops.toArray Q r (listed.setIfInBounds i true) a w := fun a w hh =>
      tail_any hR r (i + 1) _ a w (by omega) (by omega) (by simpa using hs) (fun j hj => by
        by_cases hji : j = i
        · subst hji
          simp [Array.getD, hs, hlt]
        · have h1 := hl j hj
          have h2 : (listed.setIfInBounds i true).getD j true = listed.getD j true := by
            simp [Array.getD_eq_getD_getElem?, Array.getElem?_setIfInBounds_ne (Ne.symm hji)]
          rw [h2, h1]; omega) hh
    unfold wpOp
    simp only [ho']
    unfold wpList at h
    split
    · rename_i hw
      rw [if_pos hw] at h
      rcases h with h | h
      · exact .inl (Oper.wp_mono hnext h)
      · exact .inr h
    · rename_i hw
      rw [if_neg hw] at h
      exact hnext _ _ h

theorem filter_drop_one : ∀ (l : List Nat), l.Nodup → ∀ (i : Nat), i ∈ l → ∀ (p q : Nat → Bool), p i = true → q i = false → (∀ j, j ≠ i → q j = p j) → (l.filter q).length + 1 = (l.filter p).length
  | [], _, i, h, _, _, _, _, _ => by cases h
  | x :: l, hn, i, h, p, q, hp, hq, he => by
    rw [List.nodup_cons] at hn
    by_cases hxi : x = i
    · subst hxi
      have : l.filter q = l.filter p := List.filter_congr fun j hj => he j (fun e => hn.1 (e ▸ hj))
      simp [hp, hq, this]
    · have hi : i ∈ l := by
        rcases List.mem_cons.1 h with h | h
        · exact absurd h.symm hxi
        · exact h
      have ih := filter_drop_one l hn.2 i hi p q hp hq he
      rw [List.filter_cons, List.filter_cons, he x hxi]
      split <;> (try simp only [List.length_cons]) <;> omega

/-- Whatever order is drawn. -/
theorem any_of_inv {Q : Exit → Act → World → Prop} (hR : Reg ops m) (hm : m ≤ ops.length) (hEs : Es.length = m)
    (hok : ∀ i o E, i < m → ops[i]? = some o → Es[i]? = some E → DOp P n w0 ops.toArray ol (dlAt Es ops i dl) o E) (hst : ∀ i t E, lk (dlAt Es ops i dl) t = some E → E.Stable)
    (hQ : ∀ a w, a.defers = [] → a.tmps.size = n → Hp w0 w ol → (∀ t, Sat (lk (dlAt Es ops m dl) t) a.tmps[t]? w) → wpList P ops.toArray Q (ops.drop m) a w) :
    ∀ (fuel : Nat) (listed : Array Bool) (a : Act) (w : World), fuel = (ops.length - m) + ((List.range m).filter fun j => !listed.getD j true).length → listed.size = ops.length →
      (∀ j, j < ops.length → m ≤ j → listed.getD j true = false) → Inv n w0 ops Es ol dl (fun j => decide (j < ops.length) && listed.getD j true) a w → wpAny P .any ops.toArray Q fuel listed a w := by
  intro fuel
  induction fuel with
  | zero =>
    intro listed a w hf hs htail hI
    have hmm : ops.length = m := by omega
    have hall : ∀ j, j < m → listed.getD j true = true := by
      intro j hj
      cases hb : listed.getD j true with
      | true => rfl
      | false =>
        have h1 : j ∈ (List.range m).filter fun j => !listed.getD j true := by rw [List.mem_filter]; exact ⟨by simpa using hj, by rw [hb]; rfl⟩
        have h2 := List.length_pos_of_mem h1
        omega
    refine tail_any hR 0 m listed a w (by omega) (Nat.le_refl _) hs (fun j hj => ⟨fun _ => by omega, fun hj' => hall j hj'⟩) (hQ a w hI.defers hI.size hI.hp fun t => ?_)
    exact hI.sat m t hm fun j o ho _ => by
      have := (List.getElem?_eq_some_iff.1 ho).1
      simp [this, hall j (by omega)]
      omega
  | succ fuel ih =>
    intro listed a w hf hs htail hI
    by_cases hdone : ∀ j, j < m → listed.getD j true = true
    · have hz : ((List.range m).filter fun j => !listed.getD j true).length = 0 := by
        rw [List.length_eq_zero_iff, List.filter_eq_nil_iff]
        intro j hj
        have := hdone j (by simpa using hj)
        rw [this]; simp
      refine tail_any hR (fuel + 1) m listed a w (by omega) (Nat.le_refl _) hs (fun j hj => ⟨fun h => ?_, fun hj' => hdone j hj'⟩) (hQ a w hI.defers hI.size hI.hp fun t => ?_)
      · rcases Nat.lt_or_ge j m with h' | h'
        · exact h'
        · rw [htail j hj h'] at h; cases h
      · exact hI.sat m t hm fun j o ho _ => by
          have hj := (List.getElem?_eq_some_iff.1 ho).1
          rcases Nat.lt_or_ge j m with h' | h'
          · simp [hj, hdone j h', h']
          · simp [htail j hj h']; omega
    · -- one is left: something is ready
      have hready : ∀ i ∈ Region.ready .any ops.toArray listed, ∃ o, ops[i]? = some o ∧ i < ops.length ∧ listed.getD i true = false ∧ (∀ e ∈ o.after.toList, Region.binds .any e = true → (decide (e.on < ops.length) && listed.getD e.on true) = true) := by
        intro i hi
        unfold Region.ready at hi
        rw [List.mem_filter] at hi
        obtain ⟨h1, h2⟩ := hi
        have hi' : i < ops.length := by simpa using h1
        obtain ⟨oi, hoi⟩ : ∃ oi, ops[i]? = some oi := ⟨_, List.getElem?_eq_getElem hi'⟩
        have hoi' : ops.toArray[i]? = some oi := by simpa using hoi
        simp only [Bool.and_eq_true, hoi', Option.map_some, Option.getD_some] at h2
        obtain ⟨h2, h3⟩ := h2
        rw [Array.all_eq_true_iff_forall_mem] at h3
        refine ⟨oi, hoi, hi', by simpa using h2, fun e he hb => ?_⟩
        have h4 := h3 e (by simpa using he)
        have h5 := hR.edges i oi hoi e he hb
        simp only [hb, Bool.not_true, Bool.false_or] at h4
        have h6 : e.on < listed.size := by omega
        have h7 : listed.getD e.on true = true := by
          simp only [Array.getD, h6, dite_true] at h4 ⊢
          exact h4
        simp [h7]
        omega
      refine ⟨fun h0 => ?_, fun i hi => ?_⟩
      · exfalso
        -- the first that is left is ready
        have hex : ∃ j, j < m ∧ listed.getD j true = false := by
          false_or_by_contra
          rename_i hne
          exact hdone fun j hj => by
            cases hb : listed.getD j true with
            | true => rfl
            | false => exact absurd ⟨j, hj, hb⟩ hne
        obtain ⟨j, hj, hjb⟩ := hex
        have key : ∀ j, j < m → listed.getD j true = false → False := by
          intro j
          induction j using Nat.strongRecOn with
          | _ j ihj =>
            intro hj hjb
            have hjl : j < ops.length := by omega
            obtain ⟨o, ho⟩ : ∃ o, ops[j]? = some o := ⟨_, List.getElem?_eq_getElem hjl⟩
            have hmem : j ∈ Region.ready .any ops.toArray listed := by
              unfold Region.ready
              rw [List.mem_filter]
              refine ⟨by simpa using hjl, ?_⟩
              have ho' : ops.toArray[j]? = some o := by simpa using ho
              simp only [hjb, ho', Option.map_some, Option.getD_some, Bool.not_false, Bool.true_and]
              rw [Array.all_eq_true_iff_forall_mem]
              intro e he
              cases hb : Region.binds .any e with
              | false => simp
              | true =>
                have h1 := hR.edges j o ho e (by simpa using he) hb
                have h3 : e.on < listed.size := by omega
                cases hb2 : listed.getD e.on true with
                | true =>
                  simp only [Array.getD, h3, dite_true] at hb2 ⊢
                  have h4 : listed[e.on] = true := hb2
                  simp [h4]
                | false => exact (ihj e.on h1 (by omega) hb2).elim
            rw [h0] at hmem
            cases hmem
        exact key j hj hjb
      · obtain ⟨o, ho, hil, hib, hpre⟩ := hready i hi
        have him : i < m := by
          rcases Nat.lt_or_ge i m with h' | h'
          · exact h'
          · exfalso
            refine hdone fun j hj => ?_
            obtain ⟨p, hp⟩ : ∃ p, ops[j]? = some p := ⟨_, List.getElem?_eq_getElem (by omega)⟩
            rcases hR.ahead _ hI.closed i o ho hpre j p hp (by omega) with h2 | ⟨h2, _⟩
            · simp only [Bool.and_eq_true] at h2; exact h2.2
            · omega
        obtain ⟨E, hE⟩ : ∃ E, Es[i]? = some E := ⟨_, List.getElem?_eq_getElem (by omega)⟩
        have hLi : (decide (i < ops.length) && listed.getD i true) = false := by rw [hib]; simp
        have hD := hok i o E him ho hE
        have hlooks := hI.looks hR ho hLi hpre
        obtain ⟨hyes, hno⟩ := hD.ok a w hI.defers hI.size hI.hp hlooks
        have hLadd : (fun j => decide (j < ops.length) && (listed.setIfInBounds i true).getD j true) = add (fun j => decide (j < ops.length) && listed.getD j true) i := by
          funext j
          unfold add
          by_cases hji : j = i
          · subst hji; simp [Array.getD, hs, hil]
          · rw [if_neg hji]
            simp [Array.getD_eq_getD_getElem?, Array.getElem?_setIfInBounds_ne (Ne.symm hji)]
        have hnext : ∀ v w', Below w.heap.size w w' → E.at v w' → wpAny P .any ops.toArray Q fuel (listed.setIfInBounds i true) (a.put o.dst v) w' := by
          intro v w' hb hv
          refine ih _ _ _ ?_ (by simpa using hs) (fun j hj hmj => ?_) ?_
          · have : ((List.range m).filter fun j => !(listed.setIfInBounds i true).getD j true).length + 1 = ((List.range m).filter fun j => !listed.getD j true).length := by
              have e1 : ((List.range m).filter fun j => !listed.getD j true) = (List.range m).filter fun j => !listed.getD j true := rfl
              have hperm := filter_drop_one (List.range m) List.nodup_range i (by simpa using him) (fun j => !listed.getD j true) (fun j => !(listed.setIfInBounds i true).getD j true) (by simp [hib]) (by simp [Array.getD, hs, hil]) (fun j hj => by
                simp [Array.getD_eq_getD_getElem?, Array.getElem?_setIfInBounds_ne (Ne.symm hj)])
              exact hperm
            omega
          · have hji : j ≠ i := by omega
            have := htail j hj hmj
            simp only [Array.getD_eq_getD_getElem?] at this ⊢
            rw [Array.getElem?_setIfInBounds_ne (Ne.symm hji)]
            exact this
          · rw [hLadd]
            exact hI.step hR hst ho hLi hpre hE hD.lt hb hv
        unfold wpOp
        have ho' : ops.toArray[i]? = some o := by simpa using ho
        simp only [ho']
        split
        · rename_i hw
          left
          exact Oper.wp_mono2 (fun a' w' ⟨v, h1, h2, h3⟩ => by rw [h1]; exact hnext v w' h2 h3) (fun _ _ _ h => h.elim) (hyes hw)
        · rename_i hw
          exact hnext undef w (Below.refl _ _) (hno (by simpa using hw))
end
end
end Go.Proofs.Ytggnhcgmeibihaa
