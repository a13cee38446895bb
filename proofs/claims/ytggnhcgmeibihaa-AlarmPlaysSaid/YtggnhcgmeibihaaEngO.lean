/-
  An engine of rules for walks, part O: regions that draw, whose heap's list goes by what is done and what it answered. No program's text; conditions: each theorem's own.
-/
import Derived.Test.YtggnhcgmeibihaaEngN
namespace Go.Proofs.Ytggnhcgmeibihaa
open Go Go.RowKit
set_option linter.unusedVariables false

section
variable {γ : Type} {P : Program} {n : Nat} {w0 : World} {ops : List Oper}
/-- Answers, each with something that is said of it alone. -/
def updF (f : Nat → Value × γ) (k : Nat) (v : Value × γ) : Nat → Value × γ := fun j => if j = k then v else f j
/-- Some answers are told beforehand. -/
def EsF (ops : List Oper) (td : Nat → Option Value) (f : Nat → Value × γ) : List Ent := (List.range ops.length).map fun i => .ex ((td i).getD (f i).1)
theorem esF_get {td : Nat → Option Value} {f : Nat → Value × γ} {i : Nat} (h : i < ops.length) : (EsF ops td f)[i]? = some (.ex ((td i).getD (f i).1)) := by
  unfold EsF
  rw [List.getElem?_map, List.getElem?_range h]
  rfl
theorem getD_ok {t : Option Value} {v : Value} (h : ∀ u, t = some u → v = u) : t.getD v = v := by
  cases t with
  | none => rfl
  | some u => exact (h u rfl).symm
theorem esF_at {td : Nat → Option Value} {f : Nat → Value × γ} {k : Nat} {v : Value × γ} (h : k < ops.length) (hv : ∀ u, td k = some u → v.1 = u) : (EsF ops td (updF f k v))[k]? = some (.ex v.1) := by
  rw [esF_get h, updF, if_pos rfl, getD_ok hv]
theorem lk_dlAt_but {t k : Nat} : ∀ (os : List Oper) (i : Nat) (A B : List Ent) (dl dl' : DL), A.length = B.length → (∀ j, j ≠ k → A[j]? = B[j]?) → (∀ o, os[k]? = some o → o.dst ≠ some t) → lk dl t = lk dl' t → lk (dlAt A os i dl) t = lk (dlAt B os i dl') t
  | [], i, A, B, dl, dl', _, _, _, h => by cases i <;> cases A <;> cases B <;> exact h
  | o :: os, 0, A, B, dl, dl', _, _, _, h => by rw [dlAt_zero, dlAt_zero]; exact h
  | o :: os, i + 1, [], [], dl, dl', _, _, _, h => h
  | o :: os, i + 1, [], y :: B, dl, dl', hl, _, _, h => by simp at hl
  | o :: os, i + 1, x :: A, [], dl, dl', hl, _, _, h => by simp at hl
  | o :: os, i + 1, x :: A, y :: B, dl, dl', hl, hab, ho, h => by
    simp only [dlAt]
    have hdl : lk (updD dl o.dst x) t = lk (updD dl' o.dst y) t := by
      cases hd : o.dst with
      | none => exact h
      | some d =>
        by_cases hdt : d = t
        · subst hdt
          cases k with
          | zero => exact absurd hd (ho o rfl)
          | succ k =>
            have := hab 0 (by omega)
            simp at this
            rw [updD, updD, lk_cons_eq, lk_cons_eq, this]
        · rw [updD, updD, lk_cons_ne hdt, lk_cons_ne hdt]
          exact h
    cases k with
    | zero =>
      have e : A = B := List.ext_getElem? fun j => by have := hab (j + 1) (by omega); simpa using this
      subst e
      exact lk_dlAt_but (k := A.length + os.length) os i A A _ _ rfl (fun _ _ => rfl) (fun o h => by
        have := (List.getElem?_eq_some_iff.1 h).1
        omega) hdl
    | succ k =>
      exact lk_dlAt_but (k := k) os i A B _ _ (by simpa using hl) (fun j hj => by have := hab (j + 1) (by omega); simpa using this) (fun o h => ho o (by simpa using h)) hdl
theorem esF_ne {td : Nat → Option Value} {f : Nat → Value × γ} {k i t : Nat} {v : Value × γ} {o : Oper} {dl : DL} (ho : ops[k]? = some o) (hd : ¬ o.dst = some t) : lk (dlAt (EsF ops td (updF f k v)) ops i dl) t = lk (dlAt (EsF ops td f) ops i dl) t :=
  lk_dlAt_but (k := k) ops i _ _ dl dl (by simp [EsF]) (fun j hj => by
    unfold EsF
    rw [List.getElem?_map, List.getElem?_map]
    cases h : (List.range ops.length)[j]? with
    | none => rfl
    | some x =>
      have := (List.getElem?_eq_some_iff.1 h).2
      rw [List.getElem_range] at this
      subst this
      simp [updF, hj]) (fun o' h => by rw [ho] at h; cases h; exact hd) rfl
/-- One operation, from one list of the heap's to another, which goes by its answer. -/
structure OpA (P : Program) (n : Nat) (w0 : World) (all : Array Oper) (o1 : OL) (o2 : Value × γ → OL) (dl : DL) (o : Oper) (tk : Option Value) : Prop where
  ok : ∀ a w, a.defers = [] → a.tmps.size = n → Hp w0 w o1 → (∀ t ∈ o.looksAt all, Sat (lk dl t) a.tmps[t]? w) →
    (Region.wanted o (yielded all a.tmps) = true → o.wp P a w (fun a' w' => ∃ v : Value × γ, (∀ u, tk = some u → v.1 = u) ∧ a' = a.put o.dst v.1 ∧ Hp w0 w' (o2 v)) (fun _ _ _ => False)) ∧ (Region.wanted o (yielded all a.tmps) = false → (∀ u, tk = some u → undef = u) ∧ ∃ g, Hp w0 w (o2 (undef, g)))
  lt : ∀ d, o.dst = some d → d < n
variable {dl : DL} {L : Nat → Bool} {td : Nat → Option Value} {f : Nat → Value × γ} {a : Act} {w : World} {m : Nat} {olf : (Nat → Bool) → (Nat → Value × γ) → OL}
theorem Inv.stepF (hI : Inv n w0 ops (EsF ops td f) (olf L f) dl L a w) (hR : Reg ops m) (hex : ∀ (f : Nat → Value × γ) i t E, lk (dlAt (EsF ops td f) ops i dl) t = some E → ∃ v, E = .ex v) {k : Nat} {o : Oper} (ho : ops[k]? = some o) (hk : L k = false)
    (hpre : ∀ e ∈ o.after.toList, Region.binds .any e = true → L e.on = true) {v : Value × γ} (hv : ∀ u, td k = some u → v.1 = u) (hlt : ∀ d, o.dst = some d → d < n) {w' : World} (hp' : Hp w0 w' (olf (add L k) (updF f k v))) :
    Inv n w0 ops (EsF ops td (updF f k v)) (olf (add L k) (updF f k v)) dl (add L k) (a.put o.dst v.1) w' := by
  have hkl : k < ops.length := (List.getElem?_eq_some_iff.1 ho).1
  have hE : (EsF ops td (updF f k v))[k]? = some (.ex v.1) := esF_at hkl hv
  refine ⟨?_, ?_, hp', add_closed hI.closed ho hpre, fun i t hi hc => ?_⟩
  · cases hd : o.dst <;> simp [Act.put, hI.defers]
  · cases hd : o.dst <;> simp [Act.put, hI.size]
  · by_cases hdt : o.dst = some t
    · have hki : k < i := (hc k o ho hdt).2 (by simp [add])
      have he : lk (dlAt (EsF ops td (updF f k v)) ops i dl) t = some (.ex v.1) := by
        refine lk_dlAt_some (k := k) ho hE hdt hki fun j p hj hji hp hd => ?_
        have hLj : L j = true := by
          have := (hc j p hp hd).1 hji
          unfold add at this
          rwa [if_neg (by omega)] at this
        rcases hR.ahead L hI.closed j p hp (hI.closed j p hp hLj) k o ho hj with h' | ⟨_, h'⟩
        · rw [hk] at h'; cases h'
        · exact conflict_of hdt (.inr hd) h'
      rw [he]
      refine ⟨v.1, ?_, rfl⟩
      have := hlt t hdt
      rw [hdt]
      simp [Act.put, hI.size, this]
    · have hsame : (a.put o.dst v.1).tmps[t]? = a.tmps[t]? := by
        cases hd : o.dst with
        | none => rfl
        | some d =>
          have hne : d ≠ t := fun e => hdt (by rw [hd, e])
          simp [Act.put, Array.getElem?_setIfInBounds_ne hne]
      rw [hsame]
      rw [esF_ne ho hdt]
      refine Sat.anyw (hex f i t) (hI.sat i t hi fun j p hp hd => ?_)
      rw [hc j p hp hd]
      unfold add
      by_cases hjk : j = k
      · subst hjk; rw [ho] at hp; cases hp; exact absurd hd hdt
      · rw [if_neg hjk]

/-- Whatever order is drawn, the heap's list by what is done. -/
theorem any_of_invF {Q : Exit → Act → World → Prop} (hR : Reg ops m) (hm : m ≤ ops.length) (hml : m = ops.length)
    (hok : ∀ i o, i < m → ops[i]? = some o → ∀ L f, Closed ops L → L i = false → (∀ e ∈ o.after.toList, Region.binds .any e = true → L e.on = true) → OpA P n w0 ops.toArray (olf L f) (fun v => olf (add L i) (updF f i v)) (dlAt (EsF ops td f) ops i dl) o (td i)) (hex : ∀ (f : Nat → Value × γ) i t E, lk (dlAt (EsF ops td f) ops i dl) t = some E → ∃ v, E = .ex v)
    (hQ : ∀ L f a w, (∀ j, j < m → L j = true) → a.defers = [] → a.tmps.size = n → Hp w0 w (olf L f) → (∀ t, Sat (lk (dlAt (EsF ops td f) ops m dl) t) a.tmps[t]? w) → wpList P ops.toArray Q (ops.drop m) a w) :
    ∀ (fuel : Nat) (f : Nat → Value × γ) (listed : Array Bool) (a : Act) (w : World), fuel = (ops.length - m) + ((List.range m).filter fun j => !listed.getD j true).length → listed.size = ops.length →
      (∀ j, j < ops.length → m ≤ j → listed.getD j true = false) → Inv n w0 ops (EsF ops td f) (olf (fun j => decide (j < ops.length) && listed.getD j true) f) dl (fun j => decide (j < ops.length) && listed.getD j true) a w → wpAny P .any ops.toArray Q fuel listed a w := by
  intro fuel
  induction fuel with
  | zero =>
    intro f listed a w hf hs htail hI
    have hmm : ops.length = m := by omega
    have hall : ∀ j, j < m → listed.getD j true = true := by
      intro j hj
      cases hb : listed.getD j true with
      | true => rfl
      | false =>
        have h1 : j ∈ (List.range m).filter fun j => !listed.getD j true := by rw [List.mem_filter]; exact ⟨by simpa using hj, by rw [hb]; rfl⟩
        have h2 := List.length_pos_of_mem h1
        omega
    refine tail_any hR 0 m listed a w (by omega) (Nat.le_refl _) hs (fun j hj => ⟨fun _ => by omega, fun hj' => hall j hj'⟩) (hQ _ f a w (fun j hj => by simp [hall j hj]; omega) hI.defers hI.size hI.hp fun t => ?_)
    exact hI.sat m t hm fun j o ho _ => by
      have := (List.getElem?_eq_some_iff.1 ho).1
      simp [this, hall j (by omega)]
      omega
  | succ fuel ih =>
    intro f listed a w hf hs htail hI
    by_cases hdone : ∀ j, j < m → listed.getD j true = true
    · have hz : ((List.range m).filter fun j => !listed.getD j true).length = 0 := by
        rw [List.length_eq_zero_iff, List.filter_eq_nil_iff]
        intro j hj
        have := hdone j (by simpa using hj)
        rw [this]; simp
      refine tail_any hR (fuel + 1) m listed a w (by omega) (Nat.le_refl _) hs (fun j hj => ⟨fun h => ?_, fun hj' => hdone j hj'⟩) (hQ _ f a w (fun j hj => by simp [hdone j hj]; omega) hI.defers hI.size hI.hp fun t => ?_)
      · rcases Nat.lt_or_ge j m with h' | h'
        · exact h'
        · rw [htail j hj h'] at h; cases h
      · exact hI.sat m t hm fun j o ho _ => by
          have hj := (List.getElem?_eq_some_iff.1 ho).1
          rcases Nat.lt_or_ge j m with h' | h'
          · simp [hj, hdone j h', h']
          · simp [htail j hj h']; omega
    · -- one is left: something is ready
      have hready : ∀ i ∈ Region.ready .any ops.toArray listed, ∃ o, ops[i]? = some o ∧ i < ops.length ∧ listed.getD i true = false ∧ (∀ e ∈ o.after.toList, Region.binds .any e = true → (decide (e.on < ops.length) && listed.getD e.on true) = true) := by
        intro i hi
        unfold Region.ready at hi
        rw [List.mem_filter] at hi
        obtain ⟨h1, h2⟩ := hi
        have hi' : i < ops.length := by simpa using h1
        obtain ⟨oi, hoi⟩ : ∃ oi, ops[i]? = some oi := ⟨_, List.getElem?_eq_getElem hi'⟩
        have hoi' : ops.toArray[i]? = some oi := by simpa using hoi
        simp only [Bool.and_eq_true, hoi', Option.map_some, Option.getD_some] at h2
        obtain ⟨h2, h3⟩ := h2
        rw [Array.all_eq_true_iff_forall_mem] at h3
        refine ⟨oi, hoi, hi', by simpa using h2, fun e he hb => ?_⟩
        have h4 := h3 e (by simpa using he)
        have h5 := hR.edges i oi hoi e he hb
        simp only [hb, Bool.not_true, Bool.false_or] at h4
        have h6 : e.on < listed.size := by omega
        have h7 : listed.getD e.on true = true := by
          simp only [Array.getD, h6, dite_true] at h4 ⊢
          exact h4
        simp [h7]
        omega
      refine ⟨fun h0 => ?_, fun i hi => ?_⟩
      · exfalso
        -- the first that is left is ready
        have hex : ∃ j, j < m ∧ listed.getD j true = false := by
          false_or_by_contra
          rename_i hne
          exact hdone fun j hj => by
            cases hb : listed.getD j true with
            | true => rfl
            | false => exact absurd ⟨j, hj, hb⟩ hne
        obtain ⟨j, hj, hjb⟩ := hex
        have key : ∀ j, j < m → listed.getD j true = false → False := by
          intro j
          induction j using Nat.strongRecOn with
          | _ j ihj =>
            intro hj hjb
            have hjl : j < ops.length := by omega
            obtain ⟨o, ho⟩ : ∃ o, ops[j]? = some o := ⟨_, List.getElem?_eq_getElem hjl⟩
            have hmem : j ∈ Region.ready .any ops.toArray listed := by
              unfold Region.ready
              rw [List.mem_filter]
              refine ⟨by simpa using hjl, ?_⟩
              have ho' : ops.toArray[j]? = some o := by simpa using ho
              simp only [hjb, ho', Option.map_some, Option.getD_some, Bool.not_false, Bool.true_and]
              rw [Array.all_eq_true_iff_forall_mem]
              intro e he
              cases hb : Region.binds .any e with
              | false => simp
              | true =>
                have h1 := hR.edges j o ho e (by simpa using he) hb
                have h3 : e.on < listed.size := by omega
                cases hb2 : listed.getD e.on true with
                | true =>
                  simp only [Array.getD, h3, dite_true] at hb2 ⊢
                  have h4 : listed[e.on] = true := hb2
                  simp [h4]
                | false => exact (ihj e.on h1 (by omega) hb2).elim
            rw [h0] at hmem
            cases hmem
        exact key j hj hjb
      · obtain ⟨o, ho, hil, hib, hpre⟩ := hready i hi
        have him : i < m := by
          rcases Nat.lt_or_ge i m with h' | h'
          · exact h'
          · exfalso
            refine hdone fun j hj => ?_
            obtain ⟨p, hp⟩ : ∃ p, ops[j]? = some p := ⟨_, List.getElem?_eq_getElem (by omega)⟩
            rcases hR.ahead _ hI.closed i o ho hpre j p hp (by omega) with h2 | ⟨h2, _⟩
            · simp only [Bool.and_eq_true] at h2; exact h2.2
            · omega
        have hLi : (decide (i < ops.length) && listed.getD i true) = false := by rw [hib]; simp
        have hD := hok i o him ho _ f hI.closed hLi hpre
        have hlooks := hI.looks hR ho hLi hpre
        obtain ⟨hyes, hno⟩ := hD.ok a w hI.defers hI.size hI.hp hlooks
        have hLadd : (fun j => decide (j < ops.length) && (listed.setIfInBounds i true).getD j true) = add (fun j => decide (j < ops.length) && listed.getD j true) i := by
          funext j
          unfold add
          by_cases hji : j = i
          · subst hji; simp [Array.getD, hs, hil]
          · rw [if_neg hji]
            simp [Array.getD_eq_getD_getElem?, Array.getElem?_setIfInBounds_ne (Ne.symm hji)]
        have hnext : ∀ (v : Value × γ) w', (∀ u, td i = some u → v.1 = u) → Hp w0 w' (olf (add (fun j => decide (j < ops.length) && listed.getD j true) i) (updF f i v)) → wpAny P .any ops.toArray Q fuel (listed.setIfInBounds i true) (a.put o.dst v.1) w' := by
          intro v w' hv hp'
          refine ih (updF f i v) _ _ _ ?_ (by simpa using hs) (fun j hj hmj => ?_) ?_
          · have : ((List.range m).filter fun j => !(listed.setIfInBounds i true).getD j true).length + 1 = ((List.range m).filter fun j => !listed.getD j true).length := by
              have e1 : ((List.range m).filter fun j => !listed.getD j true) = (List.range m).filter fun j => !listed.getD j true := rfl
              have hperm := filter_drop_one (List.range m) List.nodup_range i (by simpa using him) (fun j => !listed.getD j true) (fun j => !(listed.setIfInBounds i true).getD j true) (by simp [hib]) (by simp [Array.getD, hs, hil]) (fun j hj => by
                simp [Array.getD_eq_getD_getElem?, Array.getElem?_setIfInBounds_ne (Ne.symm hj)])
              exact hperm
            omega
          · have hji : j ≠ i := by omega
            have := htail j hj hmj
            simp only [Array.getD_eq_getD_getElem?] at this ⊢
            rw [Array.getElem?_setIfInBounds_ne (Ne.symm hji)]
            exact this
          · rw [hLadd]
            exact hI.stepF hR hex ho hLi hpre hv hD.lt hp'
        unfold wpOp
        have ho' : ops.toArray[i]? = some o := by simpa using ho
        simp only [ho']
        split
        · rename_i hw
          left
          exact Oper.wp_mono2 (fun a' w' ⟨v, hv, h1, h2⟩ => by rw [h1]; exact hnext v w' hv h2) (fun _ _ _ h => h.elim) (hyes hw)
        · rename_i hw
          obtain ⟨h1, g, h2⟩ := hno (by simpa using hw)
          exact hnext (undef, g) w h1 h2
end
end Go.Proofs.Ytggnhcgmeibihaa
