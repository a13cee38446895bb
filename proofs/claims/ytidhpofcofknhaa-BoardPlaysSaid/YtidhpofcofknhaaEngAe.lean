/-
  An engine of rules for walks, part Ae: a region that draws, as in Ad, whose last operation in the fixed order waits for all others: a block that it turns may be asked till then. No program's text; conditions: each theorem's own.
-/
import Derived.Test.YtidhpofcofknhaaEngAd
namespace Go.Proofs.Ytidhpofcofknhaa
open Go Go.RowKit
set_option linter.unusedVariables false

section
variable {P : Program} {n : Nat} {w0 : World} {ops : List Oper} {K : FL → OL → Prop} {Q : Post} {l : FL} {ol : OL}
/-- The operations in their order: each from one heap to the next. -/
def SN (P : Program) (n : Nat) (w0 : World) (ops : List Oper) (l : FL) (td : Nat → Option Value) (B : OL) (K : FL → OL → Prop) : List Nat → (Nat → Value × OL) → OL → Prop
  | [], f, ol => ∃ l', SubD l' (dlAt (EsF ops td f) ops ops.length (toDL l)) ∧ K l' ol
  | i :: r, f, ol => BaseOf w0 B ol ∧ ∃ o lo, ops[i]? = some o ∧ LookD (o.looksAt ops.toArray) (dlAt (EsF ops td f) ops i (toDL l)) lo ∧ S P n w0 ops.toArray [o] lo ol (fun l' ol' => ∃ v, resV o l' v ∧ (∀ u, td i = some u → v = u) ∧ SN P n w0 ops l td B K r (updF f i (v, ol')) ol') (fun _ _ _ => False)
theorem SN.base {td : Nat → Option Value} {B : OL} {i : Nat} {r : List Nat} {f : Nat → Value × OL} {ol : OL} (h : SN P n w0 ops l td B K (i :: r) f ol) : BaseOf w0 B ol := by
  unfold SN at h
  exact h.1
theorem SN.congr {td : Nat → Option Value} {B : OL} : ∀ {r : List Nat} {f g : Nat → Value × OL} {ol : OL}, (∀ j, (∃ u, td j = some u) ∨ f j = g j) → SN P n w0 ops l td B K r f ol → SN P n w0 ops l td B K r g ol
  | [], f, g, ol, hfg, h => by
    unfold SN at h ⊢
    rw [← esF_off hfg]
    exact h
  | i :: r, f, g, ol, hfg, h => by
    unfold SN at h ⊢
    rw [← esF_off hfg]
    obtain ⟨h1, o, lo, h2, h3, h5⟩ := h
    refine ⟨h1, o, lo, h2, h3, ⟨fun a w hf hh => ?_⟩⟩
    have := h5.out a w hf hh
    refine wpList_mono (fun e a w hl => lift_mono (fun e l o he => ?_) e a w hl) _ _ _ this
    unfold pthen at he ⊢
    cases e with
    | normal =>
      obtain ⟨v, q1, q2, q3⟩ := he
      exact ⟨v, q1, q2, SN.congr (fun j => by
        unfold updF
        by_cases e : j = i
        · rw [if_pos e, if_pos e]; exact .inr rfl
        · rw [if_neg e, if_neg e]; exact hfg j) q3⟩
    | _ => exact he
theorem cntL_full {L : Nat → Bool} : ∀ {sp : List Nat}, cntL L sp = sp.length → ∀ j ∈ sp, L j = true
  | [], _, j, hj => by cases hj
  | a :: sp, h, j, hj => by
    rw [cntL] at h
    cases ha : L a with
    | false => rw [ha] at h; cases h
    | true =>
      rw [ha] at h
      rcases List.mem_cons.1 hj with rfl | hj
      · exact ha
      · exact cntL_full (Nat.succ.inj h) j hj
/-- A region that draws: 'sp' are the operations that stand in a fixed order; of all others the answer is told, from slots and from the blocks of 'B' that stay. -/
theorem T_drawN {id : Nat} (hmix : P.follows .mixedOrders = true) (hreg : regOk ops ops.length = true) (sp : List Nat) (hsp : spineOk (masks ops []) sp = true) (hin : (sp.all fun i => Nat.blt i ops.length) = true) (hdst : (ops.all fun o => match o.dst with | some d => Nat.blt d n | none => true) = true) (B : OL) (hB : ∀ e ∈ B, e.ex = false) (tds : List (Option Value)) (la : Nat) (hla : sp.getLast? = some la) (hwa : ((List.range ops.length).all fun i => sp.contains i || ((masks ops [])[la]?.getD 0).testBit i) = true)
    (hfl : AllF (fun i o => sp.contains i = true ∨ ∃ d v, o.dst = some d ∧ tdl tds i = some v ∧ ∀ w (f : Nat → Value × OL), D P n w ops.toArray [o] (dlAt (EsF ops (tdl tds) f) ops i (toDL l)) B (fun dl' => lk dl' d = some (.ex v))) 0 ops)
    (hrun : SN P n w0 ops l (tdl tds) B K sp (fun _ => (undef, [])) ol) : T P n w0 (.region id ops.toArray true) l ol (pthen K Q) := by
  refine T_heap (fun w h => h.addF hrun) ?_
  refine T_drawF hmix hreg ([] : OL) (fun L f => factE (SN P n w0 ops l (tdl tds) B K (sp.drop (cntL L sp)) f (olS ol sp f (cntL L sp))) :: olS ol sp f (cntL L sp)) (by
    have : cntL (fun _ => false) sp = 0 := by cases sp <;> rfl
    rw [this]
    rfl) tds ?_ ?_
  · refine allF_mono (fun i o ho hpr => ?_) hfl
    rw [Nat.zero_add] at hpr ⊢
    intro L f hc hl hp
    have hlt : ∀ d, o.dst = some d → d < n := fun d hd => by
      have := List.all_eq_true.1 hdst o (List.mem_of_getElem? ho)
      rw [hd] at this
      simpa [Nat.blt_eq] using this
    by_cases hmem : i ∈ sp
    · obtain ⟨pre, post, e⟩ := List.append_of_mem hmem
      have hpre : ∀ j ∈ pre, L j = true := fun j hj => spine_done hc hsp e hj ho hp
      have h1 : cntL L sp = pre.length := by rw [e]; exact cntL_at hpre hl
      have h2 : cntL (add L i) sp = pre.length + 1 := by
        have e2 : sp = (pre ++ [i]) ++ post := by rw [e]; simp
        have hp2 : ∀ j ∈ pre ++ [i], add L i j = true := fun j hj => by
          unfold add
          rcases List.mem_append.1 hj with hj | hj
          · split
            · rfl
            · exact hpre j hj
          · rw [if_pos (List.mem_singleton.1 hj)]
        cases post with
        | nil =>
          rw [e2, List.append_nil, cntL_all hp2, List.length_append]
          rfl
        | cons j post =>
          rw [e2, cntL_at hp2, List.length_append]
          · rfl
          · have h4 := spine_at (i := i) (j := j) (pre := pre ++ [i]) (post := post) hsp e2 (by simp)
            unfold add
            rw [if_neg (by omega)]
            have hjl : j < ops.length := by
              have := List.all_eq_true.1 hin j (by rw [e2]; simp)
              simpa [Nat.blt_eq] using this
            cases hLj : L j with
            | false => rfl
            | true =>
              have := spine_done hc hsp e2 (i := i) (by simp) (List.getElem?_eq_getElem hjl) (fun e he hb => hc j _ (List.getElem?_eq_getElem hjl) hLj e he hb)
              rw [hl] at this
              cases this
      have h3 : sp[pre.length]? = some i := by rw [e]; simp
      have h5 : sp.drop pre.length = i :: post := by rw [e]; simp
      have h6 : sp.drop (pre.length + 1) = post := by rw [e]; simp
      have h7 : ∀ v, olS ol sp (updF f i v) (pre.length + 1) = v.2 := fun v => by
        show (updF f i v (sp[pre.length]?.getD 0)).2 = v.2
        rw [h3]
        show (updF f i v i).2 = v.2
        rw [updF, if_pos rfl]
      rw [h1, h2, h5, h6]
      refine OpA.pre (X := SN P n w0 ops l (tdl tds) B K (i :: post) f (olS ol sp f pre.length)) (fun w hw => hw.fact 0 rfl) hlt (fun hX => ?_)
      unfold SN at hX
      obtain ⟨_, o', lo, ho', hlo, hS⟩ := hX
      rw [ho] at ho'
      cases ho'
      cases hd : o.dst with
      | some d =>
        refine OpA.ofS hd (hlt d hd) hlo (S_heap (fun w h => h.dropr) (S_monoK hS fun l' ol' ⟨v, q1, q2, q3⟩ => ?_))
        unfold resV at q1
        rw [hd] at q1
        refine ⟨v, ol', q1, q2, fun w hw => ?_⟩
        rw [h7]
        exact hw.addF q3
      | none =>
        refine OpA.ofSn hd hlo (S_heap (fun w h => h.dropr) (S_monoK hS fun l' ol' ⟨v, q1, q2, q3⟩ => ?_))
        unfold resV at q1
        rw [hd] at q1
        subst q1
        refine ⟨ol', q2, fun w hw => ?_⟩
        rw [h7]
        exact hw.addF q3
    · have hs : i ∉ sp := hmem
      obtain ⟨d, v, hd, ht, hD⟩ := hpr.resolve_left fun h => hs (by simpa using h)
      have h1 : cntL (add L i) sp = cntL L sp := cntL_congr fun j hj => by
        have hne : j ≠ i := fun e => hs (e ▸ hj)
        unfold add
        rw [if_neg hne]
      have h2 : ∀ y, olS ol sp (updF f i y) (cntL L sp) = olS ol sp f (cntL L sp) := fun y => by
        have h3 := cntL_le L sp
        cases hk : cntL L sp with
        | zero => rfl
        | succ k =>
          have h4 : k < sp.length := by omega
          show (updF f i y (sp[k]?.getD 0)).2 = (f (sp[k]?.getD 0)).2
          rw [List.getElem?_eq_getElem h4]
          show (updF f i y sp[k]).2 = (f sp[k]).2
          have hne : sp[k] ≠ i := fun e => hs (e ▸ List.getElem_mem h4)
          rw [updF, if_neg hne]
      rw [h1]
      refine ⟨fun a w g1 g2 g3 g4 => ?_, hlt⟩
      have hX := g3.fact 0 rfl
      have hlt2 : cntL L sp < sp.length := Nat.lt_of_le_of_ne (cntL_le L sp) fun he => by
        have hLla : L la = true := cntL_full he la (List.mem_of_getLast? hla)
        have hil := (List.getElem?_eq_some_iff.1 ho).1
        have hbit := List.all_eq_true.1 hwa i (List.mem_range.2 hil)
        rw [show sp.contains i = false from by simpa using hs, Bool.false_or] at hbit
        have hM := masks_ok ops [] [] rfl (fun i m hi => by simp at hi)
        rw [List.nil_append] at hM
        have hlal : la < ops.length := by
          have := List.all_eq_true.1 hin la (List.mem_of_getLast? hla)
          simpa [Nat.blt_eq] using this
        cases hm : (masks ops [])[la]? with
        | none => rw [hm] at hbit; simp at hbit
        | some m =>
          rw [hm] at hbit
          have := closed_mask hM hc la m hm _ (List.getElem?_eq_getElem hlal) (fun e he hb => hc la _ (List.getElem?_eq_getElem hlal) hLla e he hb) i hbit
          rw [hl] at this
          cases this
      have hXb : BaseOf w0 B (olS ol sp f (cntL L sp)) := by
        have hX2 := hX
        rw [List.drop_eq_getElem_cons hlt2] at hX2
        exact hX2.base
      have hb : Hp w w B := ⟨rfl, rfl, rfl, Nat.le_refl _, fun _ _ _ => rfl, hXb w g3.dropr, List.pairwise_iff_getElem.2 fun i j hi hj _ hx => by
        rw [hB _ (List.getElem_mem hi), hB _ (List.getElem_mem hj)] at hx
        cases hx⟩
      have hnext : ∀ w', Hp w w' B → Hp w0 w' (factE (SN P n w0 ops l (tdl tds) B K (sp.drop (cntL L sp)) (updF f i (v, [])) (olS ol sp (updF f i (v, [])) (cntL L sp))) :: olS ol sp (updF f i (v, [])) (cntL L sp)) := fun w' hw' => by
        rw [h2]
        exact (g3.dropr.ext (hw'.below fun e he hx => by rw [hB e he] at hx; cases hx)).addF (SN.congr (f := f) (g := updF f i (v, [])) (fun j => by
          by_cases hj : j = i
          · subst hj; exact .inl ⟨v, ht⟩
          · rw [updF, if_neg hj]; exact .inr rfl) hX)
      obtain ⟨q1, q2⟩ := (OpS.ofD hd (hD w f)).ok a w g1 g2 hb g4
      refine ⟨fun hw => Oper.wp_mono2 (fun a' w' ⟨e1, e2⟩ => ⟨(v, []), fun u hu => by rw [ht] at hu; cases hu; rfl, e1, hnext w' e2⟩) (fun _ _ _ h => h) (q1 hw), fun hw => ?_⟩
      obtain ⟨e1, e2⟩ := q2 hw
      subst e1
      exact ⟨fun u hu => by rw [ht] at hu; cases hu; rfl, [], hnext w e2⟩
  · intro L f w hL hw
    have h1 : cntL L sp = sp.length := cntL_all fun j hj => hL j (by
      have := List.all_eq_true.1 hin j hj
      simpa [Nat.blt_eq] using this)
    rw [h1, List.drop_length] at hw
    have hX := hw.fact 0 rfl
    unfold SN at hX
    obtain ⟨l', q1, q2⟩ := hX
    exact ⟨l', _, q1, hw.dropr, q2⟩
theorem SN_step {td : Nat → Option Value} {B : OL} {i : Nat} {r : List Nat} {f : Nat → Value × OL} {o : Oper} (lo : FL) (hb : BaseOf w0 B ol) (ho : ops[i]? = some o) (hlo : LookD (o.looksAt ops.toArray) (dlAt (EsF ops td f) ops i (toDL l)) lo)
    (hS : S P n w0 ops.toArray [o] lo ol (fun l' ol' => ∃ v, resV o l' v ∧ (∀ u, td i = some u → v = u) ∧ SN P n w0 ops l td B K r (updF f i (v, ol')) ol') (fun _ _ _ => False)) : SN P n w0 ops l td B K (i :: r) f ol := by
  unfold SN
  exact ⟨hb, o, lo, ho, hlo, hS⟩
theorem SN_end {td : Nat → Option Value} {B : OL} {f : Nat → Value × OL} (l' : FL) (hl : SubD l' (dlAt (EsF ops td f) ops ops.length (toDL l))) (hk : K l' ol) : SN P n w0 ops l td B K [] f ol := by
  unfold SN
  exact ⟨l', hl, hk⟩
end
end Go.Proofs.Ytidhpofcofknhaa
