/-
  An engine of rules for walks, part Af: a region that draws, of whose operations some have effects and stand in a partial order: whichever of them may come next is stepped by the ordinary rules; all others compute from slots, or from blocks that stay as long as they are asked. No program's text; conditions: each theorem's own.
-/
import Derived.Test.YtidhpofcofknhaaEngAe
namespace Go.Proofs.Ytidhpofcofknhaa
open Go Go.RowKit
set_option linter.unusedVariables false

section
variable {P : Program} {n : Nat} {w0 : World} {ops : List Oper} {K : FL → OL → Prop} {Q : Post} {l : FL} {ol : OL}
abbrev updV (f : Nat → Value) (k : Nat) (v : Value) : Nat → Value := fun j => if j = k then v else f j
abbrev EsV (ops : List Oper) (td : Nat → Option Value) (f : Nat → Value) : List Ent := EsF (γ := Unit) ops td fun i => (f i, ())
/-- is somebody without effects still to come? -/
def needB (ops : List Oper) (sp rem : List Nat) : Bool := (List.range ops.length).any fun i => !(sp.contains i || sp.any fun la => !rem.contains la && ((masks ops [])[la]?.getD 0).testBit i)
/-- those that have effects, one after the other, in whatever order may be -/
def SB (P : Program) (n : Nat) (w0 : World) (ops : List Oper) (l : FL) (td : Nat → Option Value) (B : OL) (sp : List Nat) (K : FL → OL → Prop) : Nat → List Nat → (Nat → Value) → OL → Prop
  | 0, _, f, ol => ∃ l', SubD l' (dlAt (EsV ops td f) ops ops.length (toDL l)) ∧ K l' ol
  | k + 1, rem, f, ol => (needB ops sp rem = false ∨ BaseOf w0 B ol) ∧ ∀ i ∈ rem, (∀ j ∈ rem, ((masks ops [])[i]?.getD 0).testBit j = false) → ∃ o lo, ops[i]? = some o ∧ LookD (o.looksAt ops.toArray) (dlAt (EsV ops td f) ops i (toDL l)) lo ∧ S P n w0 ops.toArray [o] lo ol (fun l' ol' => ∃ v, resV o l' v ∧ (∀ u, td i = some u → v = u) ∧ SB P n w0 ops l td B sp K k (rem.filter fun j => !Nat.beq j i) (updV f i v) ol') (fun _ _ _ => False)
theorem esV_off {td : Nat → Option Value} {f g : Nat → Value} (h : ∀ j, (∃ u, td j = some u) ∨ f j = g j) : EsV ops td f = EsV ops td g := by
  unfold EsV EsF
  refine List.map_congr_left fun j _ => ?_
  rcases h j with ⟨u, hu⟩ | h
  · rw [hu]; rfl
  · show Ent.ex ((td j).getD (f j)) = Ent.ex ((td j).getD (g j))
    rw [h]
theorem SB.congr {td : Nat → Option Value} {B : OL} {sp : List Nat} : ∀ {k : Nat} {r : List Nat} {f g : Nat → Value} {ol : OL}, (∀ j, (∃ u, td j = some u) ∨ f j = g j) → SB P n w0 ops l td B sp K k r f ol → SB P n w0 ops l td B sp K k r g ol
  | 0, r, f, g, ol, hfg, h => by
    unfold SB at h ⊢
    rw [← esV_off hfg]
    exact h
  | k + 1, r, f, g, ol, hfg, h => by
    unfold SB at h ⊢
    rw [← esV_off hfg]
    refine ⟨h.1, fun i hi hm => ?_⟩
    obtain ⟨o, lo, h2, h3, h5⟩ := h.2 i hi hm
    refine ⟨o, lo, h2, h3, ⟨fun a w hf hh => ?_⟩⟩
    have := h5.out a w hf hh
    refine wpList_mono (fun e a w hl => lift_mono (fun e l o he => ?_) e a w hl) _ _ _ this
    unfold pthen at he ⊢
    cases e with
    | normal =>
      obtain ⟨v, q1, q2, q3⟩ := he
      exact ⟨v, q1, q2, SB.congr (fun j => by
        by_cases e : j = i
        · right; show (if j = i then v else f j) = (if j = i then v else g j); rw [if_pos e, if_pos e]
        · rcases hfg j with h | h
          · exact .inl h
          · right; show (if j = i then v else f j) = (if j = i then v else g j); rw [if_neg e, if_neg e]; exact h) q3⟩
    | _ => exact he
/-- the heap's list is the one of the last that was done -/
def topS (ol0 : OL) (L : Nat → Bool) (f : Nat → Value × (Nat × OL)) : List Nat → Nat × OL
  | [] => (0, ol0)
  | i :: r => if L i = true ∧ (topS ol0 L f r).1 < (f i).2.1 then (f i).2 else topS ol0 L f r
theorem topS_same {ol0 : OL} {L : Nat → Bool} {f : Nat → Value × (Nat × OL)} {i : Nat} {y : Value × (Nat × OL)} : ∀ {sp : List Nat}, i ∉ sp → topS ol0 (add L i) (updF f i y) sp = topS ol0 L f sp
  | [], _ => rfl
  | a :: r, h => by
    rw [List.mem_cons, not_or] at h
    have e1 : add L i a = L a := by unfold add; rw [if_neg (Ne.symm h.1)]
    have e2 : updF f i y a = f a := by unfold updF; rw [if_neg (Ne.symm h.1)]
    rw [topS, topS, e1, e2, topS_same h.2]
theorem topS_ge {ol0 : OL} {L : Nat → Bool} {f : Nat → Value × (Nat × OL)} {a : Nat} {r : List Nat} : (topS ol0 L f r).1 ≤ (topS ol0 L f (a :: r)).1 ∧ (L a = true → (f a).2.1 ≤ (topS ol0 L f (a :: r)).1) := by
  rw [topS]
  split
  · rename_i h
    exact ⟨Nat.le_of_lt h.2, fun _ => Nat.le_refl _⟩
  · rename_i h
    exact ⟨Nat.le_refl _, fun h1 => Nat.le_of_not_lt fun h2 => h ⟨h1, h2⟩⟩
theorem topS_new {ol0 : OL} {L : Nat → Bool} {f : Nat → Value × (Nat × OL)} {i : Nat} {y : Value × (Nat × OL)} (hL : L i = false) : ∀ {sp : List Nat}, sp.Nodup → i ∈ sp → (topS ol0 L f sp).1 < y.2.1 → topS ol0 (add L i) (updF f i y) sp = y.2
  | [], _, h, _ => by cases h
  | a :: r, hn, h, hlt => by
    rw [List.nodup_cons] at hn
    have hge := @topS_ge ol0 L f a r
    by_cases e : a = i
    · subst e
      rw [topS, topS_same hn.1, if_pos]
      · unfold updF; rw [if_pos rfl]
      · refine ⟨by unfold add; rw [if_pos rfl], ?_⟩
        unfold updF
        rw [if_pos rfl]
        omega
    · have hr := (List.mem_cons.1 h).resolve_left fun h => e h.symm
      have e1 : add L i a = L a := by unfold add; rw [if_neg e]
      have e2 : updF f i y a = f a := by unfold updF; rw [if_neg e]
      rw [topS, e1, e2, topS_new hL hn.2 hr (by omega), if_neg fun h9 => by
        have := hge.2 h9.1
        omega]
theorem topS_off {ol0 : OL} {L : Nat → Bool} {f : Nat → Value × (Nat × OL)} (h : ∀ i, L i = false) (sp : List Nat) : topS ol0 L f sp = (0, ol0) := by
  induction sp with
  | nil => rfl
  | cons a r ih => rw [topS, ih, if_neg fun h9 => by rw [h a] at h9; cases h9.1]
theorem natbeq_ne {i j : Nat} (h : j ≠ i) : Nat.beq j i = false := by
  cases h9 : Nat.beq j i with
  | false => rfl
  | true => exact absurd (Nat.eq_of_beq_eq_true h9) h
def nodupB : List Nat → Bool
  | [] => true
  | a :: r => !(r.any fun b => Nat.beq b a) && nodupB r
theorem nodupB_nodup : ∀ {l : List Nat}, nodupB l = true → l.Nodup
  | [], _ => List.nodup_nil
  | a :: r, h => by
    rw [nodupB, Bool.and_eq_true, Bool.not_eq_true', List.any_eq_false] at h
    exact List.nodup_cons.2 ⟨fun hm => h.1 a hm (Nat.beq_refl a), nodupB_nodup h.2⟩
/-- A region that draws: 'sp' are the operations with effects; of all others the answer is told, from slots and from the blocks of 'B'. -/
theorem T_drawB {id : Nat} (hmix : P.follows .mixedOrders = true) (hreg : regOk ops ops.length = true) (sp : List Nat) (hnd : nodupB sp = true) (hin : (sp.all fun i => Nat.blt i ops.length) = true) (hdst : (ops.all fun o => match o.dst with | some d => Nat.blt d n | none => true) = true) (hwa : ((List.range ops.length).all fun i => sp.contains i || sp.any fun la => ((masks ops [])[la]?.getD 0).testBit i) = true)
    (B : OL) (hB : ∀ e ∈ B, e.ex = false) (tds : List (Option Value))
    (hfl : AllF (fun i o => sp.contains i = true ∨ ∃ d v, o.dst = some d ∧ tdl tds i = some v ∧ ∀ w (f : Nat → Value), D P n w ops.toArray [o] (dlAt (EsV ops (tdl tds) f) ops i (toDL l)) B (fun dl' => lk dl' d = some (.ex v))) 0 ops)
    (hrun : SB P n w0 ops l (tdl tds) B sp K sp.length sp (fun _ => undef) ol) : T P n w0 (.region id ops.toArray true) l ol (pthen K Q) := by
  have hM := masks_ok ops [] [] rfl (fun i m hi => by simp at hi)
  rw [List.nil_append] at hM
  have hnd' := nodupB_nodup hnd
  have hinl : ∀ i ∈ sp, i < ops.length := fun i hi => by
    have := List.all_eq_true.1 hin i hi
    simpa [Nat.blt_eq] using this
  obtain ⟨olf, holf⟩ : ∃ olf : (Nat → Bool) → (Nat → Value × (Nat × OL)) → OL, olf = fun L f => factE (SB P n w0 ops l (tdl tds) B sp K (sp.filter fun i => !L i).length (sp.filter fun i => !L i) (fun i => (f i).1) (topS ol L f sp).2) :: (topS ol L f sp).2 := ⟨_, rfl⟩
  refine T_heap (fun w h => h.addF hrun) ?_
  refine T_drawF hmix hreg ((0, []) : Nat × OL) olf (by
    rw [holf]
    dsimp only
    rw [topS_off (fun _ => rfl)]
    have : (sp.filter fun i => !(fun _ => false : Nat → Bool) i) = sp := List.filter_eq_self.2 fun _ _ => rfl
    rw [this]) tds ?_ ?_
  · refine allF_mono (fun i o ho hpr => ?_) hfl
    rw [Nat.zero_add] at hpr ⊢
    intro L f hc hl hp
    have hlt : ∀ d, o.dst = some d → d < n := fun d hd => by
      have := List.all_eq_true.1 hdst o (List.mem_of_getElem? ho)
      rw [hd] at this
      simpa [Nat.blt_eq] using this
    rw [holf]
    dsimp only
    by_cases hmem : i ∈ sp
    · obtain ⟨rem, hrem⟩ : ∃ rem, rem = sp.filter fun i => !L i := ⟨_, rfl⟩
      have hir : i ∈ rem := by rw [hrem, List.mem_filter, hl]; exact ⟨hmem, rfl⟩
      have hrn : rem.Nodup := hrem ▸ hnd'.sublist List.filter_sublist
      have hmin : ∀ j ∈ rem, ((masks ops [])[i]?.getD 0).testBit j = false := fun j hj => by
        cases hb : ((masks ops [])[i]?.getD 0).testBit j with
        | false => rfl
        | true =>
          cases hm : (masks ops [])[i]? with
          | none => rw [hm] at hb; simp at hb
          | some m =>
            rw [hm] at hb
            have h1 := closed_mask hM hc i m hm o ho hp j hb
            rw [hrem, List.mem_filter, h1] at hj
            cases hj.2
      have hrem2 : (sp.filter fun j => !add L i j) = rem.filter fun j => !Nat.beq j i := by
        rw [hrem, List.filter_filter]
        refine List.filter_congr fun j _ => ?_
        unfold add
        by_cases e : j = i
        · subst e
          rw [if_pos rfl, Nat.beq_refl]
          rfl
        · rw [if_neg e, natbeq_ne e]
          simp
      have hk : ∃ k, rem.length = k + 1 ∧ (rem.filter fun j => !Nat.beq j i).length = k := by
        refine ⟨rem.length - 1, ?_, ?_⟩
        · have := List.length_pos_of_mem hir
          omega
        · have e1 : (rem.filter fun j => !Nat.beq j i) = rem.erase i := by
            rw [hrn.erase_eq_filter]
            refine List.filter_congr fun j _ => ?_
            by_cases e : j = i
            · subst e
              rw [Nat.beq_refl]
              simp
            · rw [natbeq_ne e]
              simp [e]
          rw [e1, List.length_erase_of_mem hir]
      obtain ⟨k, hk1, hk2⟩ := hk
      rw [← hrem]
      obtain ⟨top, htop⟩ : ∃ top, top = topS ol L f sp := ⟨_, rfl⟩
      rw [← htop]
      have hne : ∀ v ol', topS ol (add L i) (updF f i (v, (top.1 + 1, ol'))) sp = (top.1 + 1, ol') := fun v ol' => topS_new hl hnd' hmem (by rw [← htop]; exact Nat.lt_succ_self _)
      have hvals : ∀ v c, (fun j => (updF f i (v, c) j).1) = updV (fun j => (f j).1) i v := fun v c => by
        funext j
        unfold updF updV
        split <;> rfl
      refine OpA.pre (X := SB P n w0 ops l (tdl tds) B sp K rem.length rem (fun j => (f j).1) top.2) (fun w hw => hw.fact 0 rfl) hlt (fun hX => ?_)
      rw [hk1] at hX
      unfold SB at hX
      obtain ⟨o', lo, ho', hlo, hS⟩ := hX.2 i hir hmin
      rw [ho] at ho'
      cases ho'
      have hlo' : LookD (o.looksAt ops.toArray) (dlAt (EsF ops (tdl tds) f) ops i (toDL l)) lo := hlo
      have hnext : ∀ v ol', SB P n w0 ops l (tdl tds) B sp K k (rem.filter fun j => !Nat.beq j i) (updV (fun j => (f j).1) i v) ol' → ∀ w, Hp w0 w ol' → Hp w0 w (factE (SB P n w0 ops l (tdl tds) B sp K (sp.filter fun j => !add L i j).length (sp.filter fun j => !add L i j) (fun j => (updF f i (v, (top.1 + 1, ol')) j).1) (topS ol (add L i) (updF f i (v, (top.1 + 1, ol'))) sp).2) :: (topS ol (add L i) (updF f i (v, (top.1 + 1, ol'))) sp).2) := fun v ol' q3 w hw => by
        rw [hne, hvals, hrem2, hk2]
        exact hw.addF q3
      cases hd : o.dst with
      | some d =>
        refine OpA.ofS hd (hlt d hd) hlo' (S_heap (fun w h => h.dropr) (S_monoK hS fun l' ol' ⟨v, q1, q2, q3⟩ => ?_))
        unfold resV at q1
        rw [hd] at q1
        exact ⟨v, (top.1 + 1, ol'), q1, q2, hnext v ol' q3⟩
      | none =>
        refine OpA.ofSn hd hlo' (S_heap (fun w h => h.dropr) (S_monoK hS fun l' ol' ⟨v, q1, q2, q3⟩ => ?_))
        unfold resV at q1
        rw [hd] at q1
        subst q1
        exact ⟨(top.1 + 1, ol'), q2, hnext undef ol' q3⟩
    · have hs : i ∉ sp := hmem
      obtain ⟨d, v, hd, ht, hD⟩ := hpr.resolve_left fun h => hs (by simpa using h)
      have hrem2 : (sp.filter fun j => !add L i j) = sp.filter fun j => !L j := by
        refine List.filter_congr fun j hj => ?_
        unfold add
        rw [if_neg fun e : j = i => hs (e ▸ hj)]
      rw [hrem2]
      refine ⟨fun a w g1 g2 g3 g4 => ?_, hlt⟩
      have hX := g3.fact 0 rfl
      -- somebody is still to come
      have hne : (sp.filter fun i => !L i) ≠ [] := fun he => by
        have hall : ∀ j ∈ sp, L j = true := fun j hj => by
          cases hLj : L j with
          | true => rfl
          | false =>
            have : j ∈ sp.filter fun i => !L i := List.mem_filter.2 ⟨hj, by rw [hLj]; rfl⟩
            rw [he] at this
            cases this
        have hil := (List.getElem?_eq_some_iff.1 ho).1
        have hbit := List.all_eq_true.1 hwa i (List.mem_range.2 hil)
        rw [show sp.contains i = false from by simpa using hs, Bool.false_or, List.any_eq_true] at hbit
        obtain ⟨la, hla, hbit⟩ := hbit
        cases hm : (masks ops [])[la]? with
        | none => rw [hm] at hbit; simp at hbit
        | some m =>
          rw [hm] at hbit
          have := closed_mask hM hc la m hm _ (List.getElem?_eq_getElem (hinl la hla)) (fun e he hb => hc la _ (List.getElem?_eq_getElem (hinl la hla)) (hall la hla) e he hb) i hbit
          rw [hl] at this
          cases this
      obtain ⟨k, hk⟩ : ∃ k, (sp.filter fun i => !L i).length = k + 1 := ⟨(sp.filter fun i => !L i).length - 1, by
        have := List.length_pos_iff.2 hne
        omega⟩
      have hXb : BaseOf w0 B (topS ol L f sp).2 := by
        have hX2 := hX
        rw [hk] at hX2
        unfold SB at hX2
        refine hX2.1.resolve_left fun hnb => ?_
        have hil := (List.getElem?_eq_some_iff.1 ho).1
        have hbit := (List.any_eq_false.1 hnb) i (List.mem_range.2 hil)
        rw [show sp.contains i = false from by simpa using hs, Bool.false_or, Bool.not_eq_true, Bool.not_eq_false', List.any_eq_true] at hbit
        obtain ⟨la, hla, hbit⟩ := hbit
        rw [Bool.and_eq_true, Bool.not_eq_true'] at hbit
        have hLla : L la = true := by
          cases hLj : L la with
          | true => rfl
          | false =>
            have : la ∈ sp.filter fun i => !L i := List.mem_filter.2 ⟨hla, by rw [hLj]; rfl⟩
            have h9 := hbit.1
            rw [show (sp.filter fun i => !L i).contains la = true from by simpa using this] at h9
            cases h9
        have hbit2 := hbit.2
        cases hm : (masks ops [])[la]? with
        | none => rw [hm] at hbit2; simp at hbit2
        | some m =>
          rw [hm] at hbit2
          have := closed_mask hM hc la m hm _ (List.getElem?_eq_getElem (hinl la hla)) (fun e he hb => hc la _ (List.getElem?_eq_getElem (hinl la hla)) hLla e he hb) i hbit2
          rw [hl] at this
          cases this
      have hb : Hp w w B := ⟨rfl, rfl, rfl, Nat.le_refl _, fun _ _ _ => rfl, hXb w g3.dropr, List.pairwise_iff_getElem.2 fun i j hi hj _ hx => by
        rw [hB _ (List.getElem_mem hi), hB _ (List.getElem_mem hj)] at hx
        cases hx⟩
      have htop : ∀ y, topS ol (add L i) (updF f i y) sp = topS ol L f sp := fun y => topS_same hs
      have hnext : ∀ w', Hp w w' B → Hp w0 w' (factE (SB P n w0 ops l (tdl tds) B sp K (sp.filter fun i => !L i).length (sp.filter fun i => !L i) (fun j => (updF f i (v, (0, [])) j).1) (topS ol (add L i) (updF f i (v, (0, []))) sp).2) :: (topS ol (add L i) (updF f i (v, (0, []))) sp).2) := fun w' hw' => by
        rw [htop]
        exact (g3.dropr.ext (hw'.below fun e he hx => by rw [hB e he] at hx; cases hx)).addF (SB.congr (fun j => by
          by_cases hj : j = i
          · subst hj; exact .inl ⟨v, ht⟩
          · right
            unfold updF
            rw [if_neg hj]) hX)
      obtain ⟨q1, q2⟩ := (OpS.ofD hd (hD w fun j => (f j).1)).ok a w g1 g2 hb g4
      refine ⟨fun hw => Oper.wp_mono2 (fun a' w' ⟨e1, e2⟩ => ⟨(v, (0, [])), fun u hu => by rw [ht] at hu; cases hu; rfl, e1, hnext w' e2⟩) (fun _ _ _ h => h) (q1 hw), fun hw => ?_⟩
      obtain ⟨e1, e2⟩ := q2 hw
      subst e1
      exact ⟨fun u hu => by rw [ht] at hu; cases hu; rfl, (0, []), hnext w e2⟩
  · intro L f w hL hw
    have he : (sp.filter fun i => !L i) = [] := List.filter_eq_nil_iff.2 fun j hj => by rw [hL j (hinl j hj)]; decide
    rw [holf] at hw
    dsimp only at hw
    rw [he] at hw
    have hX := hw.fact 0 rfl
    unfold SB at hX
    obtain ⟨l', q1, q2⟩ := hX
    exact ⟨l', _, q1, hw.dropr, q2⟩
theorem SB_one {td : Nat → Option Value} {B : OL} {sp : List Nat} {k i : Nat} {rem : List Nat} {f : Nat → Value} {o : Oper} (lo : FL) (hb : needB ops sp rem = false ∨ BaseOf w0 B ol) (hc : (rem.filter fun i => rem.all fun j => !((masks ops [])[i]?.getD 0).testBit j) = [i]) (ho : ops[i]? = some o) (hlo : LookD (o.looksAt ops.toArray) (dlAt (EsV ops td f) ops i (toDL l)) lo)
    (hS : S P n w0 ops.toArray [o] lo ol (fun l' ol' => ∃ v, resV o l' v ∧ (∀ u, td i = some u → v = u) ∧ SB P n w0 ops l td B sp K k (rem.filter fun j => !Nat.beq j i) (updV f i v) ol') (fun _ _ _ => False)) : SB P n w0 ops l td B sp K (k + 1) rem f ol := by
  unfold SB
  refine ⟨hb, fun i' hi' hm => ?_⟩
  have : i' ∈ rem.filter fun i => rem.all fun j => !((masks ops [])[i]?.getD 0).testBit j := List.mem_filter.2 ⟨hi', List.all_eq_true.2 fun j hj => by rw [hm j hj]; rfl⟩
  rw [hc, List.mem_singleton] at this
  subst this
  exact ⟨o, lo, ho, hlo, hS⟩
theorem SB_two {td : Nat → Option Value} {B : OL} {sp : List Nat} {k i i2 : Nat} {rem : List Nat} {f : Nat → Value} {o o2 : Oper} (lo lo2 : FL) (hb : needB ops sp rem = false ∨ BaseOf w0 B ol) (hc : (rem.filter fun i => rem.all fun j => !((masks ops [])[i]?.getD 0).testBit j) = [i, i2]) (ho : ops[i]? = some o) (ho2 : ops[i2]? = some o2) (hlo : LookD (o.looksAt ops.toArray) (dlAt (EsV ops td f) ops i (toDL l)) lo) (hlo2 : LookD (o2.looksAt ops.toArray) (dlAt (EsV ops td f) ops i2 (toDL l)) lo2)
    (hS : S P n w0 ops.toArray [o] lo ol (fun l' ol' => ∃ v, resV o l' v ∧ (∀ u, td i = some u → v = u) ∧ SB P n w0 ops l td B sp K k (rem.filter fun j => !Nat.beq j i) (updV f i v) ol') (fun _ _ _ => False))
    (hS2 : S P n w0 ops.toArray [o2] lo2 ol (fun l' ol' => ∃ v, resV o2 l' v ∧ (∀ u, td i2 = some u → v = u) ∧ SB P n w0 ops l td B sp K k (rem.filter fun j => !Nat.beq j i2) (updV f i2 v) ol') (fun _ _ _ => False)) : SB P n w0 ops l td B sp K (k + 1) rem f ol := by
  unfold SB
  refine ⟨hb, fun i' hi' hm => ?_⟩
  have : i' ∈ rem.filter fun i => rem.all fun j => !((masks ops [])[i]?.getD 0).testBit j := List.mem_filter.2 ⟨hi', List.all_eq_true.2 fun j hj => by rw [hm j hj]; rfl⟩
  rw [hc, List.mem_cons, List.mem_singleton] at this
  rcases this with rfl | rfl
  · exact ⟨o, lo, ho, hlo, hS⟩
  · exact ⟨o2, lo2, ho2, hlo2, hS2⟩
theorem SB_end {td : Nat → Option Value} {B : OL} {sp : List Nat} {f : Nat → Value} {rem : List Nat} (l' : FL) (hl : SubD l' (dlAt (EsV ops td f) ops ops.length (toDL l))) (hk : K l' ol) : SB P n w0 ops l td B sp K 0 rem f ol := by
  unfold SB
  exact ⟨l', hl, hk⟩
theorem updV_comm {f : Nat → Value} {a b : Nat} {u v : Value} (h : Nat.beq a b = false) : ∀ j, (updV (updV f a u) b v) j = (updV (updV f b v) a u) j := fun j => by
  have hne := Nat.ne_of_beq_eq_false h
  show (if j = b then v else if j = a then u else f j) = (if j = a then u else if j = b then v else f j)
  by_cases e : j = b
  · rw [if_pos e, if_neg (fun e2 => hne (e2.symm.trans e)), if_pos e]
  · rw [if_neg e, if_neg e]
/-- another list of what is known -/
theorem SB_heap {td : Nat → Option Value} {B : OL} {sp : List Nat} {f : Nat → Value} {ol2 : OL} : ∀ {k : Nat} {rem : List Nat}, (∀ w, Hp w0 w ol → Hp w0 w ol2) → (K2 : k ≠ 0) → SB P n w0 ops l td B sp K k rem f ol2 → SB P n w0 ops l td B sp K k rem f ol
  | 0, _, _, h, _ => absurd rfl h
  | k + 1, rem, hs, _, h => by
    unfold SB at h ⊢
    refine ⟨h.1.imp id fun h1 w hw => h1 w (hs w hw), fun i hi hm => ?_⟩
    obtain ⟨o, lo, h1, h2, h3⟩ := h.2 i hi hm
    exact ⟨o, lo, h1, h2, S_heap hs h3⟩
end
end Go.Proofs.Ytidhpofcofknhaa
