/-
  An engine of rules for walks, part M: regions that draw, whose heap's list goes by what is done. No program's text; conditions: each theorem's own.
-/
import Derived.Test.YtggnhcgmeibihaaEngL
namespace Go.Proofs.Ytggnhcgmeibihaa
open Go Go.RowKit
set_option linter.unusedVariables false

section
variable {P : Program} {n : Nat} {w0 : World} {ops : List Oper}
theorem Sat.anyw {E : Option Ent} {x : Option Value} {w w' : World} (he : ∀ E', E = some E' → ∃ v, E' = .ex v) (h : Sat E x w) : Sat E x w' := by
  cases E with
  | none => trivial
  | some E =>
    obtain ⟨v, h1, h2⟩ := h
    obtain ⟨u, rfl⟩ := he _ rfl
    exact ⟨v, h1, h2⟩
/-- One operation, from one list of the heap's to another. -/
structure OpS (P : Program) (n : Nat) (w0 : World) (all : Array Oper) (o1 o2 : OL) (dl : DL) (o : Oper) (v : Value) : Prop where
  ok : ∀ a w, a.defers = [] → a.tmps.size = n → Hp w0 w o1 → (∀ t ∈ o.looksAt all, Sat (lk dl t) a.tmps[t]? w) →
    (Region.wanted o (yielded all a.tmps) = true → o.wp P a w (fun a' w' => a' = a.put o.dst v ∧ Hp w0 w' o2) (fun _ _ _ => False)) ∧ (Region.wanted o (yielded all a.tmps) = false → v = undef ∧ Hp w0 w o2)
  lt : ∀ d, o.dst = some d → d < n
theorem OpS.of {all : Array Oper} {ol : OL} {dl : DL} {o : Oper} {v : Value} (h : DOp P n w0 all ol dl o (.ex v)) : OpS P n w0 all ol ol dl o v :=
  ⟨fun a w h1 h2 h3 h4 => by
    obtain ⟨g1, g2⟩ := h.ok a w h1 h2 h3 h4
    exact ⟨fun hw => Oper.wp_mono2 (fun a' w' ⟨u, e1, e2, e3⟩ => ⟨by rw [e1]; cases e3; rfl, h3.ext e2⟩) (fun _ _ _ h => h) (g1 hw), fun hw => ⟨(g2 hw).symm, h3⟩⟩, h.lt⟩
theorem dl_ex : ∀ (os : List Oper) (i : Nat) (vs : List Value) (dl : DL), (∀ t E, lk dl t = some E → ∃ v, E = .ex v) → ∀ t E, lk (dlAt (vs.map .ex) os i dl) t = some E → ∃ v, E = .ex v
  | [], i, vs, dl, h2 => by cases i <;> cases vs <;> exact h2
  | o :: os, 0, vs, dl, h2 => by rw [dlAt_zero]; exact h2
  | o :: os, i + 1, [], dl, h2 => h2
  | o :: os, i + 1, v :: vs, dl, h2 => by
    simp only [List.map_cons, dlAt]
    refine dl_ex os i vs _ fun t E' h => ?_
    cases hd : o.dst with
    | none => rw [hd] at h; exact h2 t E' h
    | some d =>
      rw [hd] at h
      simp only [updD] at h
      by_cases hdt : d = t
      · subst hdt
        rw [lk_cons_eq] at h
        cases h
        exact ⟨_, rfl⟩
      · rw [lk_cons_ne hdt] at h
        exact h2 t E' h
variable {Es : List Ent} {dl : DL} {L : Nat → Bool} {a : Act} {w : World} {m : Nat} {olf : (Nat → Bool) → OL}
theorem Inv.stepS (hI : Inv n w0 ops Es (olf L) dl L a w) (hR : Reg ops m) (hex : ∀ i t E, lk (dlAt Es ops i dl) t = some E → ∃ v, E = .ex v) {k : Nat} {o : Oper} (ho : ops[k]? = some o) (hk : L k = false)
    (hpre : ∀ e ∈ o.after.toList, Region.binds .any e = true → L e.on = true) {v : Value} (hE : Es[k]? = some (.ex v)) (hlt : ∀ d, o.dst = some d → d < n) {w' : World} (hp' : Hp w0 w' (olf (add L k))) :
    Inv n w0 ops Es (olf (add L k)) dl (add L k) (a.put o.dst v) w' := by
  have hkl : k < ops.length := (List.getElem?_eq_some_iff.1 ho).1
  refine ⟨?_, ?_, hp', add_closed hI.closed ho hpre, fun i t hi hc => ?_⟩
  · cases hd : o.dst <;> simp [Act.put, hI.defers]
  · cases hd : o.dst <;> simp [Act.put, hI.size]
  · by_cases hdt : o.dst = some t
    · have hki : k < i := (hc k o ho hdt).2 (by simp [add])
      have he : lk (dlAt Es ops i dl) t = some (.ex v) := by
        refine lk_dlAt_some (k := k) ho hE hdt hki fun j p hj hji hp hd => ?_
        have hLj : L j = true := by
          have := (hc j p hp hd).1 hji
          unfold add at this
          rwa [if_neg (by omega)] at this
        rcases hR.ahead L hI.closed j p hp (hI.closed j p hp hLj) k o ho hj with h' | ⟨_, h'⟩
        · rw [hk] at h'; cases h'
        · exact conflict_of hdt (.inr hd) h'
      rw [he]
      refine ⟨v, ?_, rfl⟩
      have := hlt t hdt
      rw [hdt]
      simp [Act.put, hI.size, this]
    · have hsame : (a.put o.dst v).tmps[t]? = a.tmps[t]? := by
        cases hd : o.dst with
        | none => rfl
        | some d =>
          have hne : d ≠ t := fun e => hdt (by rw [hd, e])
          simp [Act.put, Array.getElem?_setIfInBounds_ne hne]
      rw [hsame]
      refine Sat.anyw (hex i t) (hI.sat i t hi fun j p hp hd => ?_)
      rw [hc j p hp hd]
      unfold add
      by_cases hjk : j = k
      · subst hjk; rw [ho] at hp; cases hp; exact absurd hd hdt
      · rw [if_neg hjk]

/-- Whatever order is drawn, the heap's list by what is done. -/
theorem any_of_invS {vs : List Value} (hEv : Es = vs.map .ex) {Q : Exit → Act → World → Prop} (hR : Reg ops m) (hm : m ≤ ops.length) (hEs : Es.length = m)
    (hok : ∀ i o v, i < m → ops[i]? = some o → vs[i]? = some v → ∀ L, Closed ops L → L i = false → (∀ e ∈ o.after.toList, Region.binds .any e = true → L e.on = true) → OpS P n w0 ops.toArray (olf L) (olf (add L i)) (dlAt Es ops i dl) o v) (hex : ∀ i t E, lk (dlAt Es ops i dl) t = some E → ∃ v, E = .ex v)
    (hQ : ∀ L a w, (∀ j, j < m → L j = true) → a.defers = [] → a.tmps.size = n → Hp w0 w (olf L) → (∀ t, Sat (lk (dlAt Es ops m dl) t) a.tmps[t]? w) → wpList P ops.toArray Q (ops.drop m) a w) :
    ∀ (fuel : Nat) (listed : Array Bool) (a : Act) (w : World), fuel = (ops.length - m) + ((List.range m).filter fun j => !listed.getD j true).length → listed.size = ops.length →
      (∀ j, j < ops.length → m ≤ j → listed.getD j true = false) → Inv n w0 ops Es (olf (fun j => decide (j < ops.length) && listed.getD j true)) dl (fun j => decide (j < ops.length) && listed.getD j true) a w → wpAny P .any ops.toArray Q fuel listed a w := by
  intro fuel
  induction fuel with
  | zero =>
    intro listed a w hf hs htail hI
    have hmm : ops.length = m := by omega
    have hall : ∀ j, j < m → listed.getD j true = true := by
      intro j hj
      cases hb : listed.getD j true with
      | true => rfl
      | false =>
        have h1 : j ∈ (List.range m).filter fun j => !listed.getD j true := by rw [List.mem_filter]; exact ⟨by simpa using hj, by rw [hb]; rfl⟩
        have h2 := List.length_pos_of_mem h1
        omega
    refine tail_any hR 0 m listed a w (by omega) (Nat.le_refl _) hs (fun j hj => ⟨fun _ => by omega, fun hj' => hall j hj'⟩) (hQ _ a w (fun j hj => by simp [hall j hj]; omega) hI.defers hI.size hI.hp fun t => ?_)
    exact hI.sat m t hm fun j o ho _ => by
      have := (List.getElem?_eq_some_iff.1 ho).1
      simp [this, hall j (by omega)]
      omega
  | succ fuel ih =>
    intro listed a w hf hs htail hI
    by_cases hdone : ∀ j, j < m → listed.getD j true = true
    · have hz : ((List.range m).filter fun j => !listed.getD j true).length = 0 := by
        rw [List.length_eq_zero_iff, List.filter_eq_nil_iff]
        intro j hj
        have := hdone j (by simpa using hj)
        rw [this]; simp
      refine tail_any hR (fuel + 1) m listed a w (by omega) (Nat.le_refl _) hs (fun j hj => ⟨fun h => ?_, fun hj' => hdone j hj'⟩) (hQ _ a w (fun j hj => by simp [hdone j hj]; omega) hI.defers hI.size hI.hp fun t => ?_)
      · rcases Nat.lt_or_ge j m with h' | h'
        · exact h'
        · rw [htail j hj h'] at h; cases h
      · exact hI.sat m t hm fun j o ho _ => by
          have hj := (List.getElem?_eq_some_iff.1 ho).1
          rcases Nat.lt_or_ge j m with h' | h'
          · simp [hj, hdone j h', h']
          · simp [htail j hj h']; omega
    · -- one is left: something is ready
      have hready : ∀ i ∈ Region.ready .any ops.toArray listed, ∃ o, ops[i]? = some o ∧ i < ops.length ∧ listed.getD i true = false ∧ (∀ e ∈ o.after.toList, Region.binds .any e = true → (decide (e.on < ops.length) && listed.getD e.on true) = true) := by
        intro i hi
        unfold Region.ready at hi
        rw [List.mem_filter] at hi
        obtain ⟨h1, h2⟩ := hi
        have hi' : i < ops.length := by simpa using h1
        obtain ⟨oi, hoi⟩ : ∃ oi, ops[i]? = some oi := ⟨_, List.getElem?_eq_getElem hi'⟩
        have hoi' : ops.toArray[i]? = some oi := by simpa using hoi
        simp only [Bool.and_eq_true, hoi', Option.map_some, Option.getD_some] at h2
        obtain ⟨h2, h3⟩ := h2
        rw [Array.all_eq_true_iff_forall_mem] at h3
        refine ⟨oi, hoi, hi', by simpa using h2, fun e he hb => ?_⟩
        have h4 := h3 e (by simpa using he)
        have h5 := hR.edges i oi hoi e he hb
        simp only [hb, Bool.not_true, Bool.false_or] at h4
        have h6 : e.on < listed.size := by omega
        have h7 : listed.getD e.on true = true := by
          simp only [Array.getD, h6, dite_true] at h4 ⊢
          exact h4
        simp [h7]
        omega
      refine ⟨fun h0 => ?_, fun i hi => ?_⟩
      · exfalso
        -- the first that is left is ready
        have hex : ∃ j, j < m ∧ listed.getD j true = false := by
          false_or_by_contra
          rename_i hne
          exact hdone fun j hj => by
            cases hb : listed.getD j true with
            | true => rfl
            | false => exact absurd ⟨j, hj, hb⟩ hne
        obtain ⟨j, hj, hjb⟩ := hex
        have key : ∀ j, j < m → listed.getD j true = false → False := by
          intro j
          induction j using Nat.strongRecOn with
          | _ j ihj =>
            intro hj hjb
            have hjl : j < ops.length := by omega
            obtain ⟨o, ho⟩ : ∃ o, ops[j]? = some o := ⟨_, List.getElem?_eq_getElem hjl⟩
            have hmem : j ∈ Region.ready .any ops.toArray listed := by
              unfold Region.ready
              rw [List.mem_filter]
              refine ⟨by simpa using hjl, ?_⟩
              have ho' : ops.toArray[j]? = some o := by simpa using ho
              simp only [hjb, ho', Option.map_some, Option.getD_some, Bool.not_false, Bool.true_and]
              rw [Array.all_eq_true_iff_forall_mem]
              intro e he
              cases hb : Region.binds .any e with
              | false => simp
              | true =>
                have h1 := hR.edges j o ho e (by simpa using he) hb
                have h3 : e.on < listed.size := by omega
                cases hb2 : listed.getD e.on true with
                | true =>
                  simp only [Array.getD, h3, dite_true] at hb2 ⊢
                  have h4 : listed[e.on] = true := hb2
                  simp [h4]
                | false => exact (ihj e.on h1 (by omega) hb2).elim
            rw [h0] at hmem
            cases hmem
        exact key j hj hjb
      · obtain ⟨o, ho, hil, hib, hpre⟩ := hready i hi
        have him : i < m := by
          rcases Nat.lt_or_ge i m with h' | h'
          · exact h'
          · exfalso
            refine hdone fun j hj => ?_
            obtain ⟨p, hp⟩ : ∃ p, ops[j]? = some p := ⟨_, List.getElem?_eq_getElem (by omega)⟩
            rcases hR.ahead _ hI.closed i o ho hpre j p hp (by omega) with h2 | ⟨h2, _⟩
            · simp only [Bool.and_eq_true] at h2; exact h2.2
            · omega
        obtain ⟨v, hv⟩ : ∃ v, vs[i]? = some v := ⟨_, List.getElem?_eq_getElem (by rw [hEv, List.length_map] at hEs; omega)⟩
        have hE : Es[i]? = some (.ex v) := by rw [hEv, List.getElem?_map, hv]; rfl
        have hLi : (decide (i < ops.length) && listed.getD i true) = false := by rw [hib]; simp
        have hD := hok i o v him ho hv _ hI.closed hLi hpre
        have hlooks := hI.looks hR ho hLi hpre
        obtain ⟨hyes, hno⟩ := hD.ok a w hI.defers hI.size hI.hp hlooks
        have hLadd : (fun j => decide (j < ops.length) && (listed.setIfInBounds i true).getD j true) = add (fun j => decide (j < ops.length) && listed.getD j true) i := by
          funext j
          unfold add
          by_cases hji : j = i
          · subst hji; simp [Array.getD, hs, hil]
          · rw [if_neg hji]
            simp [Array.getD_eq_getD_getElem?, Array.getElem?_setIfInBounds_ne (Ne.symm hji)]
        have hnext : ∀ w', Hp w0 w' (olf (add (fun j => decide (j < ops.length) && listed.getD j true) i)) → wpAny P .any ops.toArray Q fuel (listed.setIfInBounds i true) (a.put o.dst v) w' := by
          intro w' hp'
          refine ih _ _ _ ?_ (by simpa using hs) (fun j hj hmj => ?_) ?_
          · have : ((List.range m).filter fun j => !(listed.setIfInBounds i true).getD j true).length + 1 = ((List.range m).filter fun j => !listed.getD j true).length := by
              have e1 : ((List.range m).filter fun j => !listed.getD j true) = (List.range m).filter fun j => !listed.getD j true := rfl
              have hperm := filter_drop_one (List.range m) List.nodup_range i (by simpa using him) (fun j => !listed.getD j true) (fun j => !(listed.setIfInBounds i true).getD j true) (by simp [hib]) (by simp [Array.getD, hs, hil]) (fun j hj => by
                simp [Array.getD_eq_getD_getElem?, Array.getElem?_setIfInBounds_ne (Ne.symm hj)])
              exact hperm
            omega
          · have hji : j ≠ i := by omega
            have := htail j hj hmj
            simp only [Array.getD_eq_getD_getElem?] at this ⊢
            rw [Array.getElem?_setIfInBounds_ne (Ne.symm hji)]
            exact this
          · rw [hLadd]
            exact hI.stepS hR hex ho hLi hpre hE hD.lt hp'
        unfold wpOp
        have ho' : ops.toArray[i]? = some o := by simpa using ho
        simp only [ho']
        split
        · rename_i hw
          left
          exact Oper.wp_mono2 (fun a' w' ⟨h1, h2⟩ => by rw [h1]; exact hnext w' h2) (fun _ _ _ h => h.elim) (hyes hw)
        · rename_i hw
          obtain ⟨hu, h2⟩ := hno (by simpa using hw)
          rw [← hu]
          exact hnext w h2
end
end Go.Proofs.Ytggnhcgmeibihaa
