/-
  Frames: what is encoded is decoded, what is decoded is encoded; the plain law. Conditions: each theorem's own.
-/
import Derived.Test.YtnefhhoijonnaaaFrQ
namespace Go.Proofs.Ytnefhhoijonnaaa
open Go Go.RowKit
set_option linter.unusedVariables false

/-! ### What was encoded is read again -/
def At (all : List Int) (q : St) (r : List Int) : Prop := q.1 = 0 ∧ all.drop q.2 = r
section
variable {all r : List Int} {q : St}
theorem At.adv {u : List Int} (h : At all q (u ++ r)) : At all (0, q.2 + u.length) r := ⟨rfl, by
  have := congrArg (List.drop u.length) h.2
  rw [List.drop_drop, List.drop_left] at this
  exact this⟩
theorem pN_at {x : Int} (hx : Fits .u64 x) (h : At all q (encU x ++ r)) : pN all q = ((0, q.2 + (encU x).length), x) := by
  have h1 := fits_u64 hx
  have e1 := dec_enc x.toNat 0 r (by decide) (.inl rfl) (by show x.toNat < 18446744073709551616; omega)
  have e2 : rd q.1 (all.drop q.2) = (0, x.toNat, (encU x).length) := by
    rw [h.1, h.2]
    exact e1
  unfold pN
  rw [e2]
  dsimp only
  rw [Int.toNat_of_nonneg h1.1]
theorem pF_at {x most : Int} (hx : Fits .u64 x) (hm : x ≤ most) (h : At all q (encU x ++ r)) : pF all most q = ((0, q.2 + (encU x).length), x) := by
  have e := pN_at hx h
  unfold pF
  rw [e]
  dsimp only
  rw [if_neg (by omega)]
theorem pB_at {x : Int} (h : At all q ([x] ++ r)) : pB all q = ((0, q.2 + 1), x) := by
  unfold pB
  rw [h.1, h.2]
  rfl
theorem runN_cons (x : Run) (l : List Run) : encN (runN (x :: l)) = encU x.1 ++ (encU x.2 ++ encN (runN l)) := by
  unfold runN encN
  rw [List.map_cons, List.flatten_cons, List.map_append, List.flatten_append]
  simp
theorem pR_at {rs : List Run} (hf : ∀ x ∈ rs, okR x) (h : At all q (encN (runN rs) ++ r)) : ∀ k, k ≤ rs.length → ∃ q', pR all q k = (q', rs.take k) ∧ At all q' (encN (runN (rs.drop k)) ++ r)
  | 0, _ => ⟨q, rfl, h⟩
  | k + 1, hk => by
    obtain ⟨q', e1, e2⟩ := pR_at hf h k (by omega)
    have hk' : k < rs.length := hk
    have hr := hf _ (List.getElem_mem hk')
    rw [List.drop_eq_getElem_cons hk', runN_cons, List.append_assoc, List.append_assoc] at e2
    have e3 := pN_at hr.1 e2
    have e4 := pN_at hr.2 e2.adv
    refine ⟨_, ?_, e2.adv.adv⟩
    show ((pRun all (pR all q k).1).1, (pR all q k).2 ++ [(pRun all (pR all q k).1).2]) = _
    rw [e1]
    unfold pRun
    dsimp only
    rw [e3]
    dsimp only
    rw [e4]
    dsimp only
    rw [List.take_succ_eq_append_getElem hk']
theorem itsN_cons (x : ItemI) (l : List ItemI) : itsN (x :: l) = encU x.1 ++ spB x.2.1 x.2.2 ++ itsN l := by
  unfold itsN
  rw [List.map_cons, List.flatten_cons]
theorem pIt_at {x : ItemI} (hx : okIt x) (h : At all q (encU x.1 ++ spB x.2.1 x.2.2 ++ r)) : pIt all q = ((0, q.2 + (encU x.1 ++ spB x.2.1 x.2.2).length), x) := by
  have h1 := fits_u64 hx.1
  have e1 := getI_put (N := x.1.toNat) (k := x.2.1) (zs := x.2.2) (bh := r) (by omega) hx.2.1.1 hx.2.1.2 hx.2.2
  have e2 : getI q.1 (all.drop q.2) = (0, (x.1.toNat, (x.2.1, x.2.2)), (encU x.1 ++ spB x.2.1 x.2.2).length) := by
    rw [h.1, h.2]
    exact e1
  unfold pIt
  rw [e2]
  dsimp only
  rw [Int.toNat_of_nonneg h1.1]
theorem pI_at {its : List ItemI} (hf : ∀ x ∈ its, okIt x) (h : At all q (itsN its ++ r)) : ∀ k, k ≤ its.length → ∃ q', pI all q k = (q', its.take k) ∧ At all q' (itsN (its.drop k) ++ r)
  | 0, _ => ⟨q, rfl, h⟩
  | k + 1, hk => by
    obtain ⟨q', e1, e2⟩ := pI_at hf h k (by omega)
    have hk' : k < its.length := hk
    have hr := hf _ (List.getElem_mem hk')
    rw [List.drop_eq_getElem_cons hk', itsN_cons, List.append_assoc (_ ++ _)] at e2
    have e3 := pIt_at hr e2
    refine ⟨_, ?_, e2.adv⟩
    show ((pIt all (pI all q k).1).1, (pI all q k).2 ++ [(pIt all (pI all q k).1).2]) = _
    rw [e1]
    dsimp only
    rw [e3]
    dsimp only
    rw [List.take_succ_eq_append_getElem hk']
theorem at_end (h : At all q []) : enE q.1 (all.length - q.2) = 0 := by
  have : all.length ≤ q.2 := List.drop_eq_nil_iff.1 h.2
  rw [h.1]
  unfold enE
  rw [if_neg (by omega)]
end
theorem kindR_okIt {H : Hd} {rs : List Run} {its : List ItemI} (hR : frR H rs its) (ho : Oks rs its) : ∀ x ∈ its, okIt x := by
  intro x hx
  rcases hR.2.2.2 with ⟨_, h⟩ | ⟨_, h⟩ | ⟨_, _, h⟩
  · have : its = [] := List.eq_nil_of_length_eq_zero h.2.2.2.2.2
    subst this; cases hx
  · have : its = [] := List.eq_nil_of_length_eq_zero h.2.2.1
    subst this; cases hx
  · obtain ⟨j, hj, rfl⟩ := List.getElem_of_mem hx
    have := (h j hj).1
    exact ⟨(ho.i _ (List.getElem_mem hj)), ⟨this.1, this.2.1⟩, this.2.2⟩
theorem innD_inB {H : Hd} {rs : List Run} {its : List ItemI} (hf : H.Fit) (ho : Oks rs its) (hR : frR H rs its) : ∃ q, (headD (inB H rs its)).1.kd = H.kd ∧ innD (inB H rs its) = ⟨H, rs, its, q⟩ ∧ endD (inB H rs its) = 0 := by
  have hi := kindR_okIt hR ho
  have hag : Fits .u64 H.ag := mk_u64 (by have := hR.1; have := hR.2.1; omega)
  obtain ⟨all, hall⟩ : ∃ all, all = inB H rs its := ⟨_, rfl⟩
  have a0 : At all (0, 0) ([H.kd] ++ (encU H.ag ++ (encU H.ep ++ partB H rs its))) := ⟨rfl, by rw [hall]; show inB H rs its = _; unfold inB; simp⟩
  have e0 := pB_at a0
  have a1 : At all (0, 0 + 1) _ := a0.adv
  have e1 := pF_at (most := 15) hag (by have := hR.2.1; omega) a1
  have a2 := a1.adv
  have e2 := pN_at hf.ep a2
  have a3 := a2.adv
  have eh : headD all = (⟨H.kd, H.ag, H.ep, 0, 0, 0, 0⟩, (0, 0 + 1 + (encU H.ag).length + (encU H.ep).length)) := by
    unfold headD
    rw [e0]
    dsimp only
    rw [e1]
    dsimp only
    rw [e2]
  rw [← hall]
  have key : ∃ q, partD all ⟨H.kd, H.ag, H.ep, 0, 0, 0, 0⟩ (0, 0 + 1 + (encU H.ag).length + (encU H.ep).length) = ⟨H, rs, its, q⟩ ∧ At all q [] := by
    generalize (0, 0 + 1 + (encU H.ag).length + (encU H.ep).length) = q0 at a3 ⊢
    unfold partB at a3
    unfold partD
    dsimp only
    rcases hR.2.2.2 with ⟨k, h⟩ | ⟨k, h⟩ | ⟨k, hc, h⟩
    · rw [if_pos k] at a3
      rw [if_pos k]
      rw [← List.append_nil (encU H.ba)] at a3
      rw [pN_at hf.ba a3]
      refine ⟨_, ?_, a3.adv⟩
      obtain ⟨h1, h2, h3, h4, h5, h6⟩ := h
      rw [List.eq_nil_of_length_eq_zero h5, List.eq_nil_of_length_eq_zero h6]
      unfold hBa
      cases H
      dsimp only at h2 h3 h4
      subst h2 h3 h4
      rfl
    · rw [if_neg (by omega), if_neg (by omega)] at a3
      rw [if_neg (by omega), if_neg (by omega)]
      have en : encN (graN H rs.length) ++ encN (runN rs) = encU H.inc ++ (encU H.cu ++ (encU H.li ++ (encU ((rs.length : Nat) : Int) ++ (encN (runN rs) ++ [])))) := by
        simp [encN, graN]
      rw [en] at a3
      have hl : rs.length ≤ 32 := h.2.2.2.1
      have hn : Fits .u64 ((rs.length : Nat) : Int) := mk_u64 (by omega)
      have f1 := pN_at hf.inc a3
      have f2 := pN_at hf.cu a3.adv
      have f3 := pN_at hf.li a3.adv.adv
      have f4 := pF_at (most := 32) hn (by omega) a3.adv.adv.adv
      obtain ⟨q', f5, f6⟩ := pR_at ho.r a3.adv.adv.adv.adv rs.length (Nat.le_refl _)
      rw [List.drop_length] at f6
      rw [List.take_length] at f5
      unfold p3
      rw [f1]
      dsimp only
      rw [f2]
      dsimp only
      rw [f3]
      dsimp only
      rw [f4]
      dsimp only
      rw [Int.toNat_natCast, f5]
      refine ⟨q', ?_, f6⟩
      obtain ⟨h1, h2, h3, h4, h5, h6⟩ := h
      rw [List.eq_nil_of_length_eq_zero h3]
      unfold hGr
      cases H
      dsimp only at h2
      subst h2
      rfl
    · rw [if_neg (by omega), if_pos k] at a3
      rw [if_neg (by omega), if_pos k]
      have en : encN (batN H its.length) ++ itsN its = encU H.inc ++ (encU H.ba ++ (encU ((its.length : Nat) : Int) ++ (itsN its ++ []))) := by
        simp [encN, batN]
      rw [en] at a3
      have hl : its.length ≤ 64 := hc.2.2.2.2
      have hn : Fits .u64 ((its.length : Nat) : Int) := mk_u64 (by omega)
      have f1 := pN_at hf.inc a3
      have f2 := pN_at hf.ba a3.adv
      have f4 := pF_at (most := 64) hn (by omega) a3.adv.adv
      obtain ⟨q', f5, f6⟩ := pI_at hi a3.adv.adv.adv its.length (Nat.le_refl _)
      rw [List.drop_length] at f6
      rw [List.take_length] at f5
      unfold p2
      rw [f1]
      dsimp only
      rw [f2]
      dsimp only
      rw [f4]
      dsimp only
      rw [Int.toNat_natCast, f5]
      refine ⟨q', ?_, f6⟩
      obtain ⟨h1, h2, h3, h4, h5⟩ := hc
      rw [List.eq_nil_of_length_eq_zero h4]
      unfold hIt
      cases H
      dsimp only at h2 h3
      subst h2 h3
      rfl
  obtain ⟨q, k1, k2⟩ := key
  have ei : innD all = ⟨H, rs, its, q⟩ := by unfold innD; rw [eh]; exact k1
  refine ⟨q, by rw [eh], ei, ?_⟩
  unfold endD
  rw [ei]
  exact at_end k2
theorem frR_ok {H : Hd} {rs : List Run} {its : List ItemI} (hR : frR H rs its) : okK H.kd := by
  rcases hR.2.2.2 with ⟨k, h⟩ | ⟨k, h⟩ | ⟨k, h⟩ <;> unfold okK <;> omega
theorem decT_frB {H : Hd} {rs : List Run} {its : List ItemI} (hf : H.Fit) (ho : Oks rs its) (hR : frR H rs its) (hl : (frB H rs its).length ≤ 65507) : decT (frB H rs its) = (0, H, rs, its) := by
  obtain ⟨q, h1, h2, h3⟩ := innD_inB hf ho hR
  obtain ⟨o1, o2⟩ := openR_close (inB H rs its)
  have e1 : openR (frB H rs its) = inB H rs its := o1
  have e2 : openE (frB H rs its) = 0 := o2
  unfold decT
  rw [if_neg (by omega), e1, e2, h1, h2, h3, if_neg (by decide), if_neg (not_not_intro (frR_ok hR)), if_neg (by decide), if_neg (not_not_intro hR)]
/-! ### What was read is encoded again -/
section
variable {all : List Int} {q : St}
def Rev (all : List Int) (q : St) (u : List Int) (q' : St) : Prop := q.1 = 0 ∧ all.drop q.2 = u ++ all.drop q'.2
theorem Rev.trans {u v : List Int} {q1 q2 q3 : St} (h : Rev all q1 u q2) (g : Rev all q2 v q3) : Rev all q1 (u ++ v) q3 := ⟨h.1, by rw [h.2, g.2, List.append_assoc]⟩
theorem Rev.nil (h : q.1 = 0) : Rev all q [] q := ⟨h, rfl⟩
theorem pN_rev (hf : ∀ z ∈ all, Fits .u8 z) (h : (pN all q).1.1 = 0) : Rev all q (encU (pN all q).2) (pN all q).1 := by
  unfold pN at h ⊢
  dsimp only at h ⊢
  have h0 : q.1 = 0 := by
    unfold rd at h
    split at h
    · assumption
    · exact h
  have h2 := enc_dec (all.drop q.2) 0 (fun z hz => hf z (List.mem_of_mem_drop hz))
  have e : rd q.1 (all.drop q.2) = dec 0 (all.drop q.2) := by unfold rd; rw [if_pos h0]
  rw [e] at h ⊢
  have h3 := (h2 h).1
  refine ⟨h0, ?_⟩
  unfold encU
  rw [Int.toNat_natCast, h3, ← List.drop_drop, List.take_append_drop]
theorem pF_rev (hf : ∀ z ∈ all, Fits .u8 z) {most : Int} (h : (pF all most q).1.1 = 0) : Rev all q (encU (pF all most q).2) (pF all most q).1 := by
  unfold pF at h ⊢
  split
  · rename_i hc
    rw [if_pos hc] at h
    dsimp only at h
    split at h
    · cases h
    · contradiction
  · rename_i hc
    rw [if_neg hc] at h
    exact pN_rev hf h
theorem pB_rev (h : (pB all q).1.1 = 0) : Rev all q [(pB all q).2] (pB all q).1 := by
  unfold pB at h ⊢
  dsimp only at h ⊢
  unfold by1 at h ⊢
  by_cases h0 : q.1 = 0
  · rw [if_neg (not_not_intro h0)] at h ⊢
    refine ⟨h0, ?_⟩
    rw [← List.drop_drop]
    cases hc : all.drop q.2 with
    | nil => rw [hc] at h; cases h
    | cons z zs => rfl
  · rw [if_pos h0] at h
    exact absurd h h0
theorem pR_rev (hf : ∀ z ∈ all, Fits .u8 z) : ∀ n, (pR all q n).1.1 = 0 → Rev all q (encN (runN (pR all q n).2)) (pR all q n).1
  | 0, h => Rev.nil h
  | n + 1, h => by
    have g2 : Rev all _ _ _ := pN_rev hf (q := (pN all (pR all q n).1).1) h
    have g1 := pN_rev hf (q := (pR all q n).1) g2.1
    have g0 := pR_rev hf n g1.1
    have e := (g0.trans g1).trans g2
    have e2 : encN (runN (pR all q (n + 1)).2) = encN (runN (pR all q n).2) ++ encU (pN all (pR all q n).1).2 ++ encU (pN all (pN all (pR all q n).1).1).2 := by
      show encN (runN ((pR all q n).2 ++ [(pRun all (pR all q n).1).2])) = _
      unfold runN encN
      rw [List.map_append, List.flatten_append, List.map_append, List.flatten_append, List.append_assoc]
      congr 1
      simp [pRun]
    rw [e2]
    exact e
theorem getS_rev {zs : List Int} {e : Int} (hf : ∀ z ∈ zs, Fits .u8 z) (h : (getS e zs).1 = 0) : e = 0 ∧ zs = spB (getS e zs).2.1.1 (getS e zs).2.1.2 ++ zs.drop (getS e zs).2.2 := by
  unfold getS at h ⊢
  dsimp only at h ⊢
  obtain ⟨e', he'⟩ : ∃ e', e' = (if 8 ≤ (by1 e zs).2.1 then (if (by1 e zs).1 = 0 then 2 else (by1 e zs).1) else (by1 e zs).1) := ⟨_, rfl⟩
  rw [← he'] at h ⊢
  rw [if_pos h]
  have h0 : e' = 0 := by
    unfold rdB at h
    split at h
    · contradiction
    · omega
  have h1 : ¬ 8 ≤ (by1 e zs).2.1 ∧ (by1 e zs).1 = 0 := by
    rw [h0] at he'
    split at he'
    · split at he'
      · cases he'
      · omega
    · exact ⟨by assumption, he'.symm⟩
  rw [h0] at h ⊢
  have h2 := rdB_ok (zs := zs.drop (by1 e zs).2.2) (most := 4096) (fun z hz => hf z (List.mem_of_mem_drop hz)) h
  have h3 : e = 0 ∧ zs = [(by1 e zs).2.1] ++ zs.drop (by1 e zs).2.2 := by
    have g := h1.2
    unfold by1 at g ⊢
    by_cases h0 : e = 0
    · rw [if_neg (not_not_intro h0)] at g ⊢
      refine ⟨h0, ?_⟩
      cases zs with
      | nil => cases g
      | cons z zs => rfl
    · rw [if_pos h0] at g
      exact absurd g h0
  refine ⟨h3.1, ?_⟩
  have hk : (by1 e zs).2.1 < 8 ∧ 0 ≤ (by1 e zs).2.1 := by
    refine ⟨by omega, ?_⟩
    exact (by1_bd (e := e) (zs := zs) hf).1
  have hw : IntKind.u8.wrap (by1 e zs).2.1 = (by1 e zs).2.1 := by rw [IntKind.wrap_u8]; omega
  unfold spB
  rw [hw, h2.1]
  conv => lhs; rw [h3.2]
  rw [← List.drop_drop, List.cons_append, List.nil_append, List.cons_append, List.take_append_drop]
theorem pIt_rev (hf : ∀ z ∈ all, Fits .u8 z) (h : (pIt all q).1.1 = 0) : Rev all q (encU (pIt all q).2.1 ++ spB (pIt all q).2.2.1 (pIt all q).2.2.2) (pIt all q).1 := by
  unfold pIt at h ⊢
  dsimp only at h ⊢
  unfold getI at h ⊢
  dsimp only at h ⊢
  rw [if_pos h]
  have hd : ∀ z ∈ all.drop q.2, Fits .u8 z := fun z hz => hf z (List.mem_of_mem_drop hz)
  obtain ⟨h1, h2⟩ := getS_rev (zs := (all.drop q.2).drop (rd q.1 (all.drop q.2)).2.2) (fun z hz => hd z (List.mem_of_mem_drop hz)) h
  have h3 := pN_rev (q := q) hf h1
  unfold pN at h3
  dsimp only at h3
  refine ⟨h3.1, ?_⟩
  refine h3.2.trans ?_
  dsimp only
  have t1 : ∀ u, all.drop (q.2 + u) = (all.drop q.2).drop u := fun u => List.drop_drop.symm
  have t2 : ∀ u v, all.drop (q.2 + (u + v)) = ((all.drop q.2).drop u).drop v := fun u v => by rw [List.drop_drop, List.drop_drop]
  rw [t1, t2, List.append_assoc]
  exact congrArg _ h2
theorem pI_rev (hf : ∀ z ∈ all, Fits .u8 z) : ∀ n, (pI all q n).1.1 = 0 → Rev all q (itsN (pI all q n).2) (pI all q n).1
  | 0, h => Rev.nil h
  | n + 1, h => by
    have g2 := pIt_rev hf (q := (pI all q n).1) h
    have g0 := pI_rev hf n g2.1
    have e := g0.trans g2
    have e2 : itsN (pI all q (n + 1)).2 = itsN (pI all q n).2 ++ (encU (pIt all (pI all q n).1).2.1 ++ spB (pIt all (pI all q n).1).2.2.1 (pIt all (pI all q n).1).2.2.2) := by
      show itsN ((pI all q n).2 ++ [(pIt all (pI all q n).1).2]) = _
      unfold itsN
      rw [List.map_append, List.flatten_append]
      simp
    rw [e2]
    exact e
end
theorem partD_rev {all : List Int} {q : St} {H : Hd} (hf : ∀ z ∈ all, Fits .u8 z) (h : (partD all H q).q.1 = 0) : Rev all q (partB (partD all H q).H (partD all H q).rs (partD all H q).its) (partD all H q).q ∧ (partD all H q).H.kd = H.kd ∧ (partD all H q).H.ag = H.ag ∧ (partD all H q).H.ep = H.ep := by
  unfold partD at h ⊢
  by_cases k1 : H.kd = 1
  · rw [if_pos k1] at h ⊢
    refine ⟨?_, rfl, rfl, rfl⟩
    have e : ∀ x, partB (hBa H x) [] [] = encU x := fun x => by
      unfold partB
      rw [if_pos (show (hBa H x).kd = 1 from k1)]
      rfl
    dsimp only
    rw [e]
    exact pN_rev hf h
  rw [if_neg k1] at h ⊢
  by_cases k3 : H.kd = 3
  · rw [if_pos k3] at h ⊢
    refine ⟨?_, rfl, rfl, rfl⟩
    have e0 : ∀ x y l, partB (hIt H x y) [] l = encN (batN (hIt H x y) l.length) ++ itsN l := fun x y l => by
      unfold partB
      rw [if_neg (show ¬ (hIt H x y).kd = 1 from k1), if_pos (show (hIt H x y).kd = 3 from k3)]
    dsimp only
    rw [e0]
    have g4 := pI_rev hf _ h
    have g3 := pF_rev hf g4.1
    have g2 : Rev all (pN all q).1 _ (p2 all q) := pN_rev hf g3.1
    have g1 := pN_rev hf g2.1
    have hn := (pF_bd hf (most := 64) (by decide) (p2 all q)).1
    have e := ((g1.trans g2).trans g3).trans g4
    have e2 : encN (batN (hIt H (pN all q).2 (pN all (pN all q).1).2) (pI all (pF all 64 (p2 all q)).1 (pF all 64 (p2 all q)).2.toNat).2.length) = encU (pN all q).2 ++ encU (pN all (pN all q).1).2 ++ encU (pF all 64 (p2 all q)).2 := by
      rw [pI_len]
      unfold batN
      rw [Int.toNat_of_nonneg hn]
      simp [encN, hIt]
    rw [e2]
    exact e
  · rw [if_neg k3] at h ⊢
    refine ⟨?_, rfl, rfl, rfl⟩
    have e0 : ∀ x y z l, partB (hGr H x y z) l [] = encN (graN (hGr H x y z) l.length) ++ encN (runN l) := fun x y z l => by
      unfold partB
      rw [if_neg (show ¬ (hGr H x y z).kd = 1 from k1), if_neg (show ¬ (hGr H x y z).kd = 3 from k3)]
    dsimp only
    rw [e0]
    have g5 := pR_rev hf _ h
    have g4 := pF_rev hf g5.1
    have g3 : Rev all (pN all (pN all q).1).1 _ (p3 all q) := pN_rev hf g4.1
    have g2 := pN_rev hf g3.1
    have g1 := pN_rev hf g2.1
    have hn := (pF_bd hf (most := 32) (by decide) (p3 all q)).1
    have e := (((g1.trans g2).trans g3).trans g4).trans g5
    have e2 : encN (graN (hGr H (pN all q).2 (pN all (pN all q).1).2 (pN all (pN all (pN all q).1).1).2) (pR all (pF all 32 (p3 all q)).1 (pF all 32 (p3 all q)).2.toNat).2.length) = encU (pN all q).2 ++ encU (pN all (pN all q).1).2 ++ encU (pN all (pN all (pN all q).1).1).2 ++ encU (pF all 32 (p3 all q)).2 := by
      rw [pR_len]
      unfold graN
      rw [Int.toNat_of_nonneg hn]
      simp [encN, hGr]
    rw [e2]
    exact e
theorem innD_rev {all : List Int} (hf : ∀ z ∈ all, Fits .u8 z) (h : endD all = 0) : inB (innD all).H (innD all).rs (innD all).its = all := by
  unfold endD enE at h
  have h0 : (innD all).q.1 = 0 ∧ all.length - (innD all).q.2 = 0 := by
    split at h
    · cases h
    · rename_i h2
      exact ⟨h, by omega⟩
  obtain ⟨g4, k1, k2, k3⟩ := partD_rev (q := (headD all).2) (H := (headD all).1) hf h0.1
  have g3 : Rev all (pF all 15 (pB all (0, 0)).1).1 _ (headD all).2 := pN_rev hf g4.1
  have g2 := pF_rev hf g3.1
  have g1 := pB_rev g2.1
  have e := ((g1.trans g2).trans g3).trans g4
  have e2 : all.drop (partD all (headD all).1 (headD all).2).q.2 = [] := List.drop_eq_nil_iff.2 (by have := h0.2; unfold innD at this; omega)
  have e3 := e.2
  rw [e2, List.append_nil] at e3
  unfold inB innD
  rw [k1, k2, k3]
  exact e3.symm
theorem openR_openE {zs : List Int} (h : openE zs = 0) : closeB (openR zs) = zs := by
  unfold openE at h
  unfold openR
  split at h
  · cases h
  · rename_i h1
    split at h
    · rename_i h2
      rw [if_neg h1, if_pos h2]
      exact h2
    · cases h
theorem decT_0 {zs : List Int} {H : Hd} {rs : List Run} {its : List ItemI} (hf : ∀ z ∈ zs, Fits .u8 z) (h : decT zs = (0, H, rs, its)) : frR H rs its ∧ encE H rs its = 0 ∧ encZ H rs its = zs ∧ H = (innD (openR zs)).H ∧ rs = (innD (openR zs)).rs ∧ its = (innD (openR zs)).its := by
  unfold decT at h
  split at h
  · injection h with h _; cases h
  rename_i c1
  split at h
  · rename_i c2
    injection h with h _
    exact absurd h c2
  rename_i c2
  split at h
  · injection h with h _; cases h
  split at h
  · rename_i c3
    injection h with h _
    exact absurd h c3
  rename_i c3
  split at h
  · injection h with h _; cases h
  rename_i c4
  injection h with _ h
  injection h with e1 h
  injection h with e2 e3
  have e0 := Decidable.not_not.1 c2
  have hin := innD_rev (openR_fits hf) (Decidable.not_not.1 c3)
  have hR := Classical.not_not.1 c4
  rw [e1, e2, e3] at hin hR
  have hfr : frB H rs its = zs := by
    unfold frB
    rw [hin]
    exact openR_openE e0
  refine ⟨hR, ?_, ?_, e1.symm, e2.symm, e3.symm⟩
  · unfold encE
    rw [if_pos hR, hfr, if_neg c1]
  · unfold encZ
    rw [if_pos hR, hfr, if_neg c1]
end Go.Proofs.Ytnefhhoijonnaaa
