/-
  Who goes, one by one, off the list. Conditions: each theorem's own.
-/
import Derived.Test.YteogkadjambmkaaQuT
namespace Go.Proofs.Yteogkadjambmkaa
open Go Go.RowKit
set_option linter.unusedVariables false

/-- Who goes, in order: each is the oldest that is left of its class; itself, only when nobody is left of its class. -/
inductive VicS (cap : Int) (cls : Nat) (size : Int) : List QE → Bool → List Int → Bool → Prop
  | stop {rem : List QE} {inn : Bool} (h : qSum rem + (if inn = true then size else 0) ≤ cap) : VicS cap cls size rem inn [] (!inn)
  | num {rem : List QE} {inn : Bool} {c : Nat} {e : QE} {es : List QE} {o : List Int} {own : Bool} (h : ofC rem c = e :: es) (k : VicS cap cls size (qDel rem e.1) inn o own) : VicS cap cls size rem inn (e.1 :: o) own
  | self {rem : List QE} {o : List Int} {own : Bool} (h : ofC rem cls = []) (k : VicS cap cls size rem false o own) : VicS cap cls size rem true o own
theorem ofC_mem {L : List QE} {c : Nat} {e : QE} (h : e ∈ ofC L c) : e ∈ L ∧ e.2.1 = (c : Int) := by
  unfold ofC at h
  rw [List.mem_filter] at h
  exact ⟨h.1, of_decide_eq_true h.2⟩
theorem mem_ofC {L : List QE} {c : Nat} {e : QE} (h : e ∈ L) (hc : e.2.1 = (c : Int)) : e ∈ ofC L c := by
  unfold ofC
  rw [List.mem_filter]
  exact ⟨h, decide_eq_true hc⟩
theorem ofC_nodup {L : List QE} (hn : (L.map (·.1)).Nodup) (c : Nat) : ((ofC L c).map (·.1)).Nodup := hn.sublist (List.filter_sublist.map _)
theorem eq_of_key {L : List QE} (hn : (L.map (·.1)).Nodup) {x y : QE} (hx : x ∈ L) (hy : y ∈ L) (h : x.1 = y.1) : x = y := by
  induction L with
  | nil => cases hx
  | cons z L ih =>
    rw [List.map_cons, List.nodup_cons] at hn
    rcases List.mem_cons.1 hx with rfl | hx'
    · rcases List.mem_cons.1 hy with rfl | hy'
      · rfl
      · exact absurd (show x.1 ∈ L.map (·.1) from List.mem_map.2 ⟨y, hy', h.symm⟩) hn.1
    · rcases List.mem_cons.1 hy with rfl | hy'
      · exact absurd (show y.1 ∈ L.map (·.1) from List.mem_map.2 ⟨x, hx', h⟩) hn.1
      · exact ih hn.2 hx' hy'
theorem ofC_del_eq {L : List QE} (hn : (L.map (·.1)).Nodup) {c : Nat} {e : QE} {es : List QE} (h : ofC L c = e :: es) : ofC (qDel L e.1) c = es := by
  have h1 : ofC (qDel L e.1) c = qDel (ofC L c) e.1 := by
    unfold ofC qDel
    rw [List.filter_filter, List.filter_filter]
    congr 1
    funext x
    rw [Bool.and_comm]
  rw [h1, h]
  have h2 := ofC_nodup hn c
  rw [h, List.map_cons, List.nodup_cons] at h2
  have : qDel (e :: es) e.1 = qDel es e.1 := by unfold qDel; rw [List.filter_cons_of_neg (by simp)]
  rw [this]
  exact qDel_none h2.1
theorem ofC_del_ne {L : List QE} (hn : (L.map (·.1)).Nodup) {c d : Nat} {e : QE} (he : e ∈ ofC L c) (hd : d ≠ c) : ofC (qDel L e.1) d = ofC L d := by
  have h1 : ofC (qDel L e.1) d = qDel (ofC L d) e.1 := by
    unfold ofC qDel
    rw [List.filter_filter, List.filter_filter]
    congr 1
    funext x
    rw [Bool.and_comm]
  rw [h1]
  refine qDel_none fun hm => ?_
  obtain ⟨y, hy, e1⟩ := List.mem_map.1 hm
  obtain ⟨g1, g2⟩ := ofC_mem hy
  obtain ⟨g3, g4⟩ := ofC_mem he
  have := eq_of_key hn g1 g3 e1
  rw [this, g4] at g2
  exact hd (by omega)
theorem nodup_del {L : List QE} (hn : (L.map (·.1)).Nodup) (n : Int) : ((qDel L n).map (·.1)).Nodup := hn.sublist ((qDel_sub L n).map _)
theorem qSum_del {L : List QE} (hn : (L.map (·.1)).Nodup) {e : QE} (he : e ∈ L) : qSum (qDel L e.1) = qSum L - sizeQ e := by
  induction L with
  | nil => cases he
  | cons y L ih =>
    rw [List.map_cons, List.nodup_cons] at hn
    unfold qSum at ih ⊢
    rcases List.mem_cons.1 he with rfl | hx
    · have e1 : qDel (e :: L) e.1 = L := by
        have : qDel (e :: L) e.1 = qDel L e.1 := by unfold qDel; rw [List.filter_cons_of_neg (by simp)]
        rw [this]
        exact qDel_none hn.1
      rw [e1, List.map_cons, List.sum_cons]; omega
    · have hne : y.1 ≠ e.1 := fun e' => hn.1 (List.mem_map.2 ⟨e, hx, e'.symm⟩)
      have e1 : qDel (y :: L) e.1 = y :: qDel L e.1 := by unfold qDel; rw [List.filter_cons_of_pos (by simpa using hne)]
      rw [e1, List.map_cons, List.map_cons, List.sum_cons, List.sum_cons, ih hn.2 hx]; omega
theorem szs_getD {L : List QE} {n d : Nat} (hd : d < n) : (szs L n).getD d [] = (ofC L d).map sizeQ := by
  rw [List.getD_eq_getElem?_getD, szs_at hd]; rfl
theorem nms_getD {L : List QE} {n d : Nat} (hd : d < n) : (nms L n).getD d [] = (ofC L d).map (·.1) := by
  rw [List.getD_eq_getElem?_getD, nms_at hd]; rfl
theorem szs_set {L : List QE} {n c : Nat} (hn : (L.map (·.1)).Nodup) (hc : c < n) {e : QE} {es : List QE} (h : ofC L c = e :: es) : (szs L n).set c (es.map sizeQ) = szs (qDel L e.1) n := by
  refine rng_set hc ?_ fun d hd => ?_
  · rw [ofC_del_eq hn h]
  · rw [ofC_del_ne hn (by rw [h]; exact List.mem_cons_self) hd]
/-- what is left: each class's, and who comes, if it is still in -/
def lft (rem : List QE) (n : Nat) (cls : Nat) (size : Int) (inn : Bool) : List (List Int) := if inn = true then left0 (szs rem n) (cls : Int) size else szs rem n
theorem lft_at {rem : List QE} {n cls d : Nat} {size : Int} {inn : Bool} (hd : d < n) : (lft rem n cls size inn).getD d [] = (ofC rem d).map sizeQ ++ (if inn = true ∧ d = cls then [size] else []) := by
  unfold lft
  cases inn with
  | false => rw [if_neg (by decide), if_neg (by simp), List.append_nil, szs_getD hd]
  | true =>
    rw [if_pos rfl]
    unfold left0
    rw [Int.toNat_natCast, List.getD_eq_getElem?_getD]
    by_cases e : d = cls
    · subst e
      rw [List.getElem?_set_self (by rw [szs_len]; exact hd), if_pos ⟨rfl, rfl⟩, szs_getD hd]
      rfl
    · rw [List.getElem?_set_ne (fun h => e h.symm), if_neg (fun h => e h.2), List.append_nil, szs_at hd]
      rfl
theorem lft_len {rem : List QE} {n cls : Nat} {size : Int} {inn : Bool} : (lft rem n cls size inn).length = n := by
  unfold lft left0
  split
  · rw [List.length_set, szs_len]
  · exact szs_len _ _
theorem lft_del {rem : List QE} {n cls c : Nat} {size : Int} {inn : Bool} (hn : (rem.map (·.1)).Nodup) (hc : c < n) {e : QE} {es : List QE} (h : ofC rem c = e :: es) : (lft rem n cls size inn).set c (es.map sizeQ ++ (if inn = true ∧ c = cls then [size] else [])) = lft (qDel rem e.1) n cls size inn := by
  refine List.ext_getElem? fun d => ?_
  rcases Nat.lt_or_ge d n with hd | hd
  · have h1 := lft_at (rem := qDel rem e.1) (cls := cls) (size := size) (inn := inn) hd
    have h2 := lft_at (rem := rem) (cls := cls) (size := size) (inn := inn) hd
    rw [List.getD_eq_getElem?_getD, List.getElem?_eq_getElem (by rw [lft_len]; exact hd)] at h1 h2
    rw [List.getElem?_eq_getElem (by rw [List.length_set, lft_len]; exact hd), List.getElem?_eq_getElem (by rw [lft_len]; exact hd)]
    congr 1
    simp only [Option.getD_some] at h1 h2
    rw [h1]
    by_cases e' : c = d
    · subst e'
      rw [List.getElem_set_self, ofC_del_eq hn h]
    · rw [List.getElem_set_ne e', h2, ofC_del_ne hn (by rw [h]; exact List.mem_cons_self) (fun h => e' h.symm)]
  · rw [List.getElem?_eq_none (by rw [List.length_set, lft_len]; exact hd), List.getElem?_eq_none (by rw [lft_len]; exact hd)]
theorem lft_self {rem : List QE} {n cls : Nat} {size : Int} (hc : cls < n) (h : ofC rem cls = []) : (lft rem n cls size true).set cls [] = lft rem n cls size false := by
  refine List.ext_getElem? fun d => ?_
  rcases Nat.lt_or_ge d n with hd | hd
  · have h1 := lft_at (rem := rem) (cls := cls) (size := size) (inn := false) hd
    have h2 := lft_at (rem := rem) (cls := cls) (size := size) (inn := true) hd
    rw [List.getD_eq_getElem?_getD, List.getElem?_eq_getElem (by rw [lft_len]; exact hd)] at h1 h2
    rw [List.getElem?_eq_getElem (by rw [List.length_set, lft_len]; exact hd), List.getElem?_eq_getElem (by rw [lft_len]; exact hd)]
    congr 1
    simp only [Option.getD_some] at h1 h2
    rw [h1]
    by_cases e' : cls = d
    · subst e'
      rw [List.getElem_set_self, h]
      simp
    · rw [List.getElem_set_ne e', h2, if_neg (fun h => e' h.2.symm), if_neg (by simp)]
  · rw [List.getElem?_eq_none (by rw [List.length_set, lft_len]; exact hd), List.getElem?_eq_none (by rw [lft_len]; exact hd)]
theorem vOut_acc (b : List (List Int)) : ∀ (pl : List (Nat × Nat)) (y : List Int × Bool), pl.foldl (vStep b) y = (y.1 ++ (pl.foldl (vStep b) ([], false)).1, y.2 || (pl.foldl (vStep b) ([], false)).2)
  | [], y => by simp
  | v :: pl, y => by
    rw [List.foldl_cons, List.foldl_cons, vOut_acc b pl (vStep b y v), vOut_acc b pl (vStep b ([], false) v)]
    unfold vStep
    split
    · simp
    · simp
theorem PlanR.vicS {cap : Int} {ws : List Int} {L : List QE} {n cls : Nat} {size : Int} (hcls : cls < n) {left : List (List Int)} {went : List Nat} {total : Int} {pl : List (Nat × Nat)} (hp : PlanR cap ws left went total pl) :
    ∀ {rem : List QE} {inn : Bool}, left = lft rem n cls size inn → went.length = n → total = qSum rem + (if inn = true then size else 0) → (rem.map (·.1)).Nodup →
      (∀ d, d < n → ((ofC L d).map (·.1)).drop (went.getD d 0) = (ofC rem d).map (·.1)) → (∀ d, d < n → (inn = true ∨ d ≠ cls) → went.getD d 0 ≤ (ofC L d).length) → (inn = false → ofC rem cls = []) →
      VicS cap cls size rem inn (vOut (nms L n) pl).1 ((vOut (nms L n) pl).2 || !inn) := by
  induction hp with
  | stop h =>
    intro rem inn hl hwl ht hn h2 h3 h4
    have : (vOut (nms L n) []).2 || !inn = !inn := by cases inn <;> rfl
    rw [show ((vOut (nms L n) []).2 || !inn) = !inn by cases inn <;> rfl]
    exact .stop (by rw [← ht]; exact h)
  | @step left went total c x xs out h hb hx hk ih =>
    intro rem inn hl hwl ht hn h2 h3 h4
    have hc : c < n := by
      rcases Nat.lt_or_ge c n with h1 | h1
      · exact h1
      · rw [hl, List.getD_eq_getElem?_getD, List.getElem?_eq_none (by rw [lft_len]; exact h1)] at hx
        cases hx
    have hset : ∀ d v, (went.set c v).getD d 0 = if d = c then v else went.getD d 0 := fun d v => by
      simp only [List.getD_eq_getElem?_getD]
      by_cases e : d = c
      · subst e
        rw [if_pos rfl, List.getElem?_set_self (by omega)]; rfl
      · rw [if_neg e, List.getElem?_set_ne (fun h => e h.symm)]
    rw [hl, lft_at hc] at hx
    cases hrc : ofC rem c with
    | cons e es =>
      rw [hrc, List.map_cons, List.cons_append] at hx
      obtain ⟨rfl, hxs⟩ := List.cons.inj hx
      have hd := h2 c hc
      rw [hrc, List.map_cons] at hd
      have hwc : went.getD c 0 < (ofC L c).length := by
        rcases Nat.lt_or_ge (went.getD c 0) (ofC L c).length with h1 | h1
        · exact h1
        · rw [List.drop_eq_nil_of_le (by rw [List.length_map]; exact h1)] at hd
          cases hd
      have hnum : ((nms L n).getD c []).getD (went.getD c 0) 0 = e.1 := by
        rw [nms_getD hc, List.getD_eq_getElem?_getD]
        have := congrArg (fun l => l[0]?) hd
        simp only [List.getElem?_drop, Nat.add_zero, List.getElem?_cons_zero] at this
        rw [this]; rfl
      have hstep : vOut (nms L n) ((c, went.getD c 0) :: out) = (e.1 :: (vOut (nms L n) out).1, (vOut (nms L n) out).2) := by
        unfold vOut
        rw [List.foldl_cons, vOut_acc]
        have h5 : vStep (nms L n) ([], false) (c, went.getD c 0) = ([e.1], false) := by
          unfold vStep
          rw [if_neg (by rw [nms_getD hc, List.length_map]; show ¬ went.getD c 0 = _; omega)]
          show ([] ++ [((nms L n).getD c []).getD (went.getD c 0) 0], false) = _
          rw [hnum]; rfl
        rw [h5]
        simp
      rw [hstep]
      refine .num hrc ?_
      have he : e ∈ rem := (ofC_mem (c := c) (by rw [hrc]; exact List.mem_cons_self)).1
      refine ih ?_ (by rw [List.length_set]; exact hwl) ?_ (nodup_del hn _) (fun d hd' => ?_) (fun d hd' hin => ?_) (fun hi => ?_)
      · rw [hl, ← hxs]
        exact lft_del hn hc hrc
      · rw [ht, qSum_del hn he]; omega
      · rw [hset]
        by_cases e' : d = c
        · subst e'
          rw [if_pos rfl, ofC_del_eq hn hrc, ← List.tail_drop, hd]
          rfl
        · rw [if_neg e', ofC_del_ne hn (by rw [hrc]; exact List.mem_cons_self) e']
          exact h2 d hd'
      · rw [hset]
        by_cases e' : d = c
        · subst e'
          rw [if_pos rfl]; omega
        · rw [if_neg e']
          exact h3 d hd' hin
      · have h6 := h4 hi
        have e' : cls ≠ c := fun e' => by rw [e', hrc] at h6; cases h6
        rw [ofC_del_ne hn (by rw [hrc]; exact List.mem_cons_self) e']
        exact h6
    | nil =>
      rw [hrc, List.map_nil, List.nil_append] at hx
      have hic : inn = true ∧ c = cls := by
        by_cases h7 : inn = true ∧ c = cls
        · exact h7
        · rw [if_neg h7] at hx; cases hx
      obtain ⟨rfl, rfl⟩ := hic
      rw [if_pos ⟨rfl, rfl⟩] at hx
      obtain ⟨rfl, hxs⟩ := List.cons.inj hx
      have hd := h2 c hc
      rw [hrc, List.map_nil, List.drop_eq_nil_iff, List.length_map] at hd
      have hw := h3 c hc (.inl rfl)
      have hwc : went.getD c 0 = (ofC L c).length := by omega
      have hstep : vOut (nms L n) ((c, went.getD c 0) :: out) = ((vOut (nms L n) out).1, true) := by
        unfold vOut
        rw [List.foldl_cons, vOut_acc]
        have h5 : vStep (nms L n) ([], false) (c, went.getD c 0) = ([], true) := by
          unfold vStep
          rw [if_pos (by rw [nms_getD hc, List.length_map]; exact hwc)]
        rw [h5]
        simp
      rw [hstep]
      refine .self hrc ?_
      have h8 := ih (rem := rem) (inn := false) (by rw [hl, ← hxs]; exact lft_self hc hrc) (by rw [List.length_set]; exact hwl) (by rw [ht]; simp) hn (fun d hd' => ?_) (fun d hd' hin => ?_) (fun _ => hrc)
      · simpa using h8
      · rw [hset]
        by_cases e' : d = c
        · subst e'
          rw [if_pos rfl, hrc, List.map_nil, List.drop_eq_nil_iff, List.length_map]; omega
        · rw [if_neg e']
          exact h2 d hd'
      · rw [hset]
        have e' : d ≠ c := hin.resolve_left (by decide)
        rw [if_neg e']
        exact h3 d hd' (.inl rfl)
theorem szs_sum {L : List QE} {n : Nat} (h : ∀ x ∈ L, 0 ≤ x.2.1 ∧ x.2.1 < (n : Int)) : (szs L n).flatten.sum = qSum L := by
  have h1 := bsum_all n L h
  have h2 : ∀ l : List (List Int), l.flatten.sum = (l.map List.sum).sum := fun l => by
    induction l with
    | nil => rfl
    | cons a l ih => rw [List.flatten_cons, List.sum_append, ih, List.map_cons, List.sum_cons]
  rw [h2]
  unfold szs qSum
  rw [List.map_map, ← h1]
  rfl
theorem VicR.vicS {cap : Int} {ws : List Int} {L : List QE} {cls : Nat} {size : Int} {o : List Int × Bool} (hcls : cls < ws.length) (hn : (L.map (·.1)).Nodup) (hc : ∀ x ∈ L, 0 ≤ x.2.1 ∧ x.2.1 < (ws.length : Int)) (h : VicR cap ws L (cls : Int) size o) : VicS cap cls size L true o.1 o.2 := by
  obtain ⟨pl, hp, rfl⟩ := h
  have h1 := hp.vicS (L := L) (n := ws.length) (cls := cls) (size := size) hcls (rem := L) (inn := true) rfl (by rw [List.length_replicate]) (by rw [if_pos rfl, szs_sum hc]) hn (fun d hd => by
    have : (List.replicate ws.length 0).getD d 0 = 0 := by rw [List.getD_eq_getElem?_getD, List.getElem?_replicate]; split <;> rfl
    rw [this, List.drop_zero]) (fun d hd _ => by
    have : (List.replicate ws.length 0).getD d 0 = 0 := by rw [List.getD_eq_getElem?_getD, List.getElem?_replicate]; split <;> rfl
    rw [this]; exact Nat.zero_le _) (fun h => by cases h)
  simpa using h1
section
variable {cap : Int} {cls : Nat} {size : Int} {rem : List QE} {inn own : Bool} {o : List Int} {n : Int}
theorem VicS.next (h : VicS cap cls size rem inn (n :: o) own) : (∃ c e es, ofC rem c = e :: es ∧ e.1 = n) ∧ ∃ inn', VicS cap cls size (qDel rem n) inn' o own := by
  cases h with
  | num h k => exact ⟨⟨_, _, _, h, rfl⟩, _, k⟩
  | self h k =>
    cases k with
    | num h k => exact ⟨⟨_, _, _, h, rfl⟩, _, k⟩
theorem qDel_lt {L : List QE} {e : QE} (he : e ∈ L) : (qDel L e.1).length < L.length := by
  unfold qDel
  rw [List.length_filter_lt_length_iff_exists]
  exact ⟨e, he, by simp⟩
theorem VicS.len (h : VicS cap cls size rem inn o own) : o.length ≤ rem.length := by
  induction h with
  | stop h => exact Nat.zero_le _
  | num h k ih =>
    have := qDel_lt (ofC_mem (by rw [h]; exact List.mem_cons_self)).1
    rw [List.length_cons]; omega
  | self h k ih => exact ih
theorem VicS.fits (hs : 0 ≤ size) (h : VicS cap cls size rem inn [] own) : qSum rem + (if own = true then 0 else size) ≤ cap := by
  cases h with
  | stop h => cases inn <;> simpa using h
  | self h k =>
    cases k with
    | stop h => simpa using h
end
end Go.Proofs.Yteogkadjambmkaa
