/-
  Frames: which may be, by the document. Conditions: each theorem's own.
-/
import Derived.Test.YtnefhhoijonnaaaFrG
namespace Go.Proofs.Ytnefhhoijonnaaa
open Go Go.RowKit
set_option linter.unusedVariables false

def sndR (H : Hd) : Prop := H.kd = 1 ∨ H.kd = 3
structure RR (H : Hd) (rs : List Run) (its : List ItemI) : Prop where
  b1 : sndR H → 1 ≤ H.ba ∧ H.cu = 0 ∧ H.li = 0 ∧ rs.length = 0
  b2 : ¬ sndR H → H.ba = 0
  b3 : H.kd = 1 → H.inc = 0
  b4 : H.kd ≠ 3 → its.length = 0
  c1 : its.length ≤ 64
  c2 : rs.length ≤ 32
  c3 : H.cu ≤ H.li
  c4 : Can rs
  d : itsR H.ba its
  e1 : ∀ (hp : 0 < rs.length), H.cu ≤ rs[0].1 ∧ 2 ≤ rs[0].1 - H.cu
  e2 : ∀ (i : Nat) (hi : i < rs.length), rs[i].2 ≤ H.li
theorem itsR_nil (b : Int) : itsR b [] := fun i hi => absurd hi (Nat.not_lt_zero _)
theorem can_last {rs : List Run} (h : Can rs) {i : Nat} (hi : i < rs.length) : rs[i].2 ≤ (rs[rs.length - 1]'(by omega)).2 := by
  rcases Nat.lt_or_ge i (rs.length - 1) with h1 | h1
  · have h2 := List.pairwise_iff_getElem.1 h.gap i (rs.length - 1) hi (by omega) h1
    have h3 := h.le _ (List.getElem_mem (show rs.length - 1 < rs.length by omega))
    omega
  · have : i = rs.length - 1 := by omega
    subst this
    exact Int.le_refl _
theorem kindR_rr {H : Hd} {rs : List Run} {its : List ItemI} (hf : H.Fit) (h1 : 1 ≤ H.kd ∧ H.kd ≤ 4) : kindR H rs its ↔ RR H rs its := by
  have hcu := fits_u64 hf.cu
  constructor
  · rintro (⟨k, g1, g2, g3, g4, g5, g6⟩ | ⟨k, g1, g2, g3, g4, g5, g6⟩ | ⟨k, ⟨g1, g2, g3, g4, g5⟩, g6⟩)
    · have e1 : rs = [] := List.eq_nil_of_length_eq_zero g5
      have e2 : its = [] := List.eq_nil_of_length_eq_zero g6
      subst e1
      subst e2
      exact ⟨fun _ => ⟨g1, g3, g4, rfl⟩, fun h => absurd (.inl k) h, fun _ => g2, fun _ => rfl, by decide, by decide, by omega, can_nil, itsR_nil _, fun hp => absurd hp (Nat.not_lt_zero _), fun i hi => absurd hi (Nat.not_lt_zero _)⟩
    · have e2 : its = [] := List.eq_nil_of_length_eq_zero g3
      subst e2
      exact ⟨fun h => by unfold sndR at h; omega, fun _ => g2, fun h => by omega, fun _ => rfl, by decide, g4, g5, g1, itsR_nil _, fun hp => by have := g6 hp; omega, fun i hi => by have h3 := (g6 (by omega)).2.2; have h4 := can_last g1 hi; omega⟩
    · have e1 : rs = [] := List.eq_nil_of_length_eq_zero g4
      subst e1
      exact ⟨fun _ => ⟨g1, g2, g3, rfl⟩, fun h => absurd (.inr k) h, fun h => by omega, fun h => absurd k h, g5, by decide, by omega, can_nil, g6, fun hp => absurd hp (Nat.not_lt_zero _), fun i hi => absurd hi (Nat.not_lt_zero _)⟩
  · intro h
    by_cases k1 : H.kd = 1
    · obtain ⟨g1, g2, g3, g4⟩ := h.b1 (.inl k1)
      exact .inl ⟨k1, g1, h.b3 k1, g2, g3, g4, h.b4 (by omega)⟩
    by_cases k3 : H.kd = 3
    · obtain ⟨g1, g2, g3, g4⟩ := h.b1 (.inr k3)
      exact .inr (.inr ⟨k3, ⟨g1, g2, g3, g4, h.c1⟩, h.d⟩)
    refine .inr (.inl ⟨by omega, h.c4, h.b2 (by unfold sndR; omega), h.b4 k3, h.c2, h.c3, fun hp => ?_⟩)
    have g1 := h.e1 hp
    exact ⟨by omega, by omega, h.e2 _ _⟩
theorem frR_rr {H : Hd} {rs : List Run} {its : List ItemI} (hf : H.Fit) (h : frR H rs its) : (1 ≤ H.kd ∧ H.kd ≤ 4) ∧ RR H rs its := by
  have hk : 1 ≤ H.kd ∧ H.kd ≤ 4 := by
    rcases h.2.2.2 with ⟨k, _⟩ | ⟨k, _⟩ | ⟨k, _⟩ <;> omega
  exact ⟨hk, (kindR_rr hf hk).1 h.2.2.2⟩
def prevN (b : Int) (l : List ItemI) : Nat → Int
  | 0 => b
  | k + 1 => (l[k]?.map (·.1)).getD b
theorem prevN_succ {b : Int} {l : List ItemI} {i : Nat} (h : i < l.length) : prevN b l (i + 1) = l[i].1 := by
  show (l[i]?.map (·.1)).getD b = _
  rw [List.getElem?_eq_getElem h]
  rfl
open Classical in
set_option maxHeartbeats 4000000 in
theorem rright5_ok (H : Hd) (s : Fs) (hf : H.Fit) {A : Nat → Prop} {rs : List Run} {its : List ItemI} (w : World) (hx : FsR w A s rs its) (hn : s.rn ≤ 1000) : Calls Try.prog 17 #[refV H s] w fun e w' => e = .returned (.bool (decide (frR H rs its))) ∧ Below w.heap.size w w' := by
  have hl := hx.r.len
  have hil := hx.i.len
  have hicp := hx.i.cap
  have himx := hx.i.max
  simp only [maxLen] at himx
  have hfr := (hx.r.flat flat_run).2
  have hkd := fits_u8 hf.kd
  have hba := fits_u64 hf.ba
  have hcu := fits_u64 hf.cu
  have hli := fits_u64 hf.li
  have hinc := fits_u64 hf.inc
  have hep := fits_u64 hf.ep
  refine enter1 Try.func17 rfl rfl (Hp.refl w) ?_
  repeat (first | refine T_seq ?_ | refine T_region ?_)
  refine S_new tabOk rfl (fun b hb => ?_)
  repeat (first | refine T_seq ?_ | refine T_region ?_ | refine S_nil ?_ | refine S_pure tabOk rfl ?_ | refine S_load tabOk 0 rfl rfl rfl ?_)
  refine S_split rfl rfl (fun g1 => ?_) (fun g1 => ?_)
  · repeat (first | refine S_nil ?_ | refine S_pure tabOk rfl ?_ | refine S_pass rfl rfl rfl ?_)
    refine T_cond_t rfl ?_
    repeat (first | refine T_seq ?_ | refine T_region ?_ | refine S_nil ?_ | refine pthen_ret ?_ | refine T_ret ?_ | refine S_pure tabOk rfl ?_)
    exact ret1 rfl rfl (fun w' hw => ⟨retb (false_dec (fun h => by have := (frR_rr hf h).1; omega)), hw.below (by repeat (first | exact new_nil | refine new_cons (by first | assumption | omega) ?_))⟩)
  repeat (first | refine S_pure tabOk rfl ?_ | refine S_load tabOk 0 rfl rfl rfl ?_)
  refine S_split rfl rfl (fun g2 => ?_) (fun g2 => ?_)
  · repeat (first | refine S_nil ?_ | refine S_pure tabOk rfl ?_ | refine S_pass rfl rfl rfl ?_)
    refine T_cond_t rfl ?_
    repeat (first | refine T_seq ?_ | refine T_region ?_ | refine S_nil ?_ | refine pthen_ret ?_ | refine T_ret ?_ | refine S_pure tabOk rfl ?_)
    exact ret1 rfl rfl (fun w' hw => ⟨retb (false_dec (fun h => by have := (frR_rr hf h).1; omega)), hw.below (by repeat (first | exact new_nil | refine new_cons (by first | assumption | omega) ?_))⟩)
  repeat (first | refine S_pure tabOk rfl ?_ | refine S_load tabOk 0 rfl rfl rfl ?_)
  refine S_split rfl rfl (fun g3 => ?_) (fun g3 => ?_)
  · repeat (first | refine S_nil ?_ | refine S_pure tabOk rfl ?_ | refine S_pass rfl rfl rfl ?_)
    refine T_cond_t rfl ?_
    repeat (first | refine T_seq ?_ | refine T_region ?_ | refine S_nil ?_ | refine pthen_ret ?_ | refine T_ret ?_ | refine S_pure tabOk rfl ?_)
    exact ret1 rfl rfl (fun w' hw => ⟨retb (false_dec (fun h => by have := h.1; omega)), hw.below (by repeat (first | exact new_nil | refine new_cons (by first | assumption | omega) ?_))⟩)
  repeat (first | refine S_pure tabOk rfl ?_ | refine S_load tabOk 0 rfl rfl rfl ?_)
  refine S_split rfl rfl (fun g4 => ?_) (fun g4 => ?_)
  · repeat (first | refine S_nil ?_ | refine S_pure tabOk rfl ?_ | refine S_pass rfl rfl rfl ?_)
    refine T_cond_t rfl ?_
    repeat (first | refine T_seq ?_ | refine T_region ?_ | refine S_nil ?_ | refine pthen_ret ?_ | refine T_ret ?_ | refine S_pure tabOk rfl ?_)
    exact ret1 rfl rfl (fun w' hw => ⟨retb (false_dec (fun h => by have := h.2.1; omega)), hw.below (by repeat (first | exact new_nil | refine new_cons (by first | assumption | omega) ?_))⟩)
  repeat (first | refine S_nil ?_ | refine S_pure tabOk rfl ?_ | refine S_load tabOk 0 rfl rfl rfl ?_)
  refine T_cond_dec rfl (fun g5 => ?_) (fun g5 => ?_)
  · repeat (first | refine T_seq ?_ | refine T_region ?_ | refine S_nil ?_ | refine pthen_ret ?_ | refine T_ret ?_ | refine S_pure tabOk rfl ?_)
    exact ret1 rfl rfl (fun w' hw => ⟨retb (false_dec (fun h => by have := h.2.2.1; omega)), hw.below (by repeat (first | exact new_nil | refine new_cons (by first | assumption | omega) ?_))⟩)
  have hk : 1 ≤ H.kd ∧ H.kd ≤ 4 := by omega
  repeat (first | refine T_seq ?_ | refine T_region ?_ | refine pthen_normal ?_ | refine T_skip ?_ | refine S_pure tabOk rfl ?_ | refine S_load tabOk 0 rfl rfl rfl ?_)
  refine S_cut (ι := Bool) (fun q => q = true ↔ sndR H) (fun q => [(1, .pointer (some ⟨b, 0, none⟩)), (3, .bool q)]) (fun _ => [.blk b (.cells ⟨frC .i64 H s⟩ 33 (0, 0)) true]) ?_ ?_
  · refine S_split rfl rfl (fun k1 => ?_) (fun k1 => ?_)
    · repeat (first | refine S_nil ?_ | refine S_pure tabOk rfl ?_ | refine S_pass rfl rfl rfl ?_)
      exact ⟨true, ⟨fun _ => .inl k1, fun _ => rfl⟩, by repeat (first | exact Sub.nil | refine Sub.cons rfl ?_), fun w' hw => hw⟩
    · repeat (first | refine S_nil ?_ | refine S_pure tabOk rfl ?_ | refine S_load tabOk 0 rfl rfl rfl ?_)
      exact ⟨decide (H.kd = 3), ⟨fun h => .inr (of_decide_eq_true h), fun h => decide_eq_true (h.resolve_left k1)⟩, by repeat (first | exact Sub.nil | refine Sub.cons rfl ?_), fun w' hw => hw⟩
  intro q hq
  refine T_seq ?_
  refine T_cut (ι := Unit) (fun _ => (sndR H → 1 ≤ H.ba ∧ H.cu = 0 ∧ H.li = 0 ∧ rs.length = 0) ∧ (¬ sndR H → H.ba = 0) ∧ (H.kd = 1 → H.inc = 0) ∧ (H.kd ≠ 3 → its.length = 0)) (fun _ => [(1, .pointer (some ⟨b, 0, none⟩))]) (fun _ => [.blk b (.cells ⟨frC .i64 H s⟩ 33 (0, 0)) true]) ?_ ?_
  · have hend : (sndR H → 1 ≤ H.ba ∧ H.cu = 0 ∧ H.li = 0 ∧ rs.length = 0) → (¬ sndR H → H.ba = 0) → (H.kd = 1 → H.inc = 0) → (H.kd ≠ 3 → its.length = 0) → ∀ {l' : FL} {o' : OL}, Sub [(1, .pointer (some ⟨b, 0, none⟩))] l' → (∀ w', Hp w w' o' → Hp w w' [.blk b (.cells ⟨frC .i64 H s⟩ 33 (0, 0)) true]) → ∃ i : Unit, ((sndR H → 1 ≤ H.ba ∧ H.cu = 0 ∧ H.li = 0 ∧ rs.length = 0) ∧ (¬ sndR H → H.ba = 0) ∧ (H.kd = 1 → H.inc = 0) ∧ (H.kd ≠ 3 → its.length = 0)) ∧ Sub [(1, .pointer (some ⟨b, 0, none⟩))] l' ∧ ∀ w', Hp w w' o' → Hp w w' [.blk b (.cells ⟨frC .i64 H s⟩ 33 (0, 0)) true] := fun h1 h2 h3 h4 _ _ h5 h6 => ⟨(), ⟨h1, h2, h3, h4⟩, h5, h6⟩
    cases q with
    | true =>
      have hs := hq.1 rfl
      repeat (first | refine T_seq ?_ | refine T_region ?_ | refine S_pure tabOk rfl ?_ | refine S_load tabOk 0 rfl rfl rfl ?_)
      by_cases k1 : 0 < H.ba
      · refine S_re 43 (v' := .bool true) rfl (congrArg Value.bool (decide_eq_true k1)) ?_
        refine S_q ((Q_neb tabOk rfl rfl rfl rfl rfl).eq (v' := .bool false) rfl) ?_
        repeat (first | refine S_pure tabOk rfl ?_ | refine S_load tabOk 0 rfl rfl rfl ?_)
        refine S_split rfl rfl (fun k2 => ?_) (fun k2 => ?_)
        · repeat (first | refine S_nil ?_ | refine S_pure tabOk rfl ?_ | refine S_pass rfl rfl rfl ?_)
          refine T_cond_t rfl ?_
          repeat (first | refine T_seq ?_ | refine T_region ?_ | refine S_nil ?_ | refine pthen_ret ?_ | refine T_ret ?_ | refine S_pure tabOk rfl ?_)
          exact ret1 rfl rfl (fun w' hw => ⟨retb (false_dec (fun h => by have := (frR_rr hf h).2.b1 hs; omega)), hw.below (by repeat (first | exact new_nil | refine new_cons (by first | assumption | omega) ?_))⟩)
        repeat (first | refine S_pure tabOk rfl ?_ | refine S_load tabOk 0 rfl rfl rfl ?_)
        refine S_split rfl rfl (fun k3 => ?_) (fun k3 => ?_)
        · repeat (first | refine S_nil ?_ | refine S_pure tabOk rfl ?_ | refine S_pass rfl rfl rfl ?_)
          refine T_cond_t rfl ?_
          repeat (first | refine T_seq ?_ | refine T_region ?_ | refine S_nil ?_ | refine pthen_ret ?_ | refine T_ret ?_ | refine S_pure tabOk rfl ?_)
          exact ret1 rfl rfl (fun w' hw => ⟨retb (false_dec (fun h => by have := (frR_rr hf h).2.b1 hs; omega)), hw.below (by repeat (first | exact new_nil | refine new_cons (by first | assumption | omega) ?_))⟩)
        repeat (first | refine S_pure tabOk rfl ?_ | refine S_load tabOk 0 rfl rfl rfl ?_)
        refine S_split rfl rfl (fun k4 => ?_) (fun k4 => ?_)
        · repeat (first | refine S_nil ?_ | refine S_pure tabOk rfl ?_ | refine S_pass rfl rfl rfl ?_)
          refine T_cond_t rfl ?_
          repeat (first | refine T_seq ?_ | refine T_region ?_ | refine S_nil ?_ | refine pthen_ret ?_ | refine T_ret ?_ | refine S_pure tabOk rfl ?_)
          exact ret1 rfl rfl (fun w' hw => ⟨retb (false_dec (fun h => by have := (frR_rr hf h).2.b1 hs; omega)), hw.below (by repeat (first | exact new_nil | refine new_cons (by first | assumption | omega) ?_))⟩)
        repeat (first | refine S_pure tabOk rfl ?_ | refine S_load tabOk 0 rfl rfl rfl ?_)
        rcases hs with k5 | k5
        · have hs : sndR H := .inl k5
          refine S_re 68 (v' := .bool true) rfl (congrArg Value.bool (decide_eq_true k5)) ?_
          repeat (first | refine S_pure tabOk rfl ?_ | refine S_load tabOk 0 rfl rfl rfl ?_)
          refine S_split rfl rfl (fun k6 => ?_) (fun k6 => ?_)
          · repeat (first | refine S_nil ?_ | refine S_pure tabOk rfl ?_ | refine S_pass rfl rfl rfl ?_)
            refine T_cond_t rfl ?_
            repeat (first | refine T_seq ?_ | refine T_region ?_ | refine S_nil ?_ | refine pthen_ret ?_ | refine T_ret ?_ | refine S_pure tabOk rfl ?_)
            exact ret1 rfl rfl (fun w' hw => ⟨retb (false_dec (fun h => by have := (frR_rr hf h).2.b3 k5; omega)), hw.below (by repeat (first | exact new_nil | refine new_cons (by first | assumption | omega) ?_))⟩)
          repeat (first | refine S_pure tabOk rfl ?_ | refine S_load tabOk 0 rfl rfl rfl ?_)
          refine S_re 78 (v' := .bool true) rfl (congrArg Value.bool (decide_eq_true (by omega))) ?_
          repeat (first | refine S_nil ?_ | refine S_pure tabOk rfl ?_ | refine S_load tabOk 0 rfl rfl rfl ?_)
          refine T_cond_dec rfl (fun k8 => ?_) (fun k8 => ?_)
          · repeat (first | refine T_seq ?_ | refine T_region ?_ | refine S_nil ?_ | refine pthen_ret ?_ | refine T_ret ?_ | refine S_pure tabOk rfl ?_)
            exact ret1 rfl rfl (fun w' hw => ⟨retb (false_dec (fun h => by have := (frR_rr hf h).2.b4 (by omega); omega)), hw.below (by repeat (first | exact new_nil | refine new_cons (by first | assumption | omega) ?_))⟩)
          repeat (first | refine pthen_normal ?_ | refine T_skip ?_)
          exact hend (fun _ => ⟨by omega, by omega, by omega, by omega⟩) (fun h => absurd hs h) (fun h => by omega) (fun h => by omega) (by repeat (first | exact Sub.nil | refine Sub.cons rfl ?_)) (fun w' hw => hw)
        · have hs : sndR H := .inr k5
          refine S_re 68 (v' := .bool false) rfl (congrArg Value.bool (decide_eq_false (by omega))) ?_
          repeat (first | refine S_pure tabOk rfl ?_ | refine S_pass rfl rfl rfl ?_ | refine S_load tabOk 0 rfl rfl rfl ?_)
          refine S_re 78 (v' := .bool false) rfl (congrArg Value.bool (decide_eq_false (by omega))) ?_
          repeat (first | refine S_nil ?_ | refine S_pure tabOk rfl ?_ | refine S_pass rfl rfl rfl ?_)
          refine T_cond_f rfl ?_
          repeat (first | refine pthen_normal ?_ | refine T_skip ?_)
          exact hend (fun _ => ⟨by omega, by omega, by omega, by omega⟩) (fun h => absurd hs h) (fun h => by omega) (fun h => by omega) (by repeat (first | exact Sub.nil | refine Sub.cons rfl ?_)) (fun w' hw => hw)
      · refine S_re 43 (v' := .bool false) rfl (congrArg Value.bool (decide_eq_false k1)) ?_
        refine S_q ((Q_neb tabOk rfl rfl rfl rfl rfl).eq (v' := .bool true) rfl) ?_
        repeat (first | refine S_nil ?_ | refine S_pure tabOk rfl ?_ | refine S_pass rfl rfl rfl ?_)
        refine T_cond_t rfl ?_
        repeat (first | refine T_seq ?_ | refine T_region ?_ | refine S_nil ?_ | refine pthen_ret ?_ | refine T_ret ?_ | refine S_pure tabOk rfl ?_)
        exact ret1 rfl rfl (fun w' hw => ⟨retb (false_dec (fun h => by have := (frR_rr hf h).2.b1 hs; omega)), hw.below (by repeat (first | exact new_nil | refine new_cons (by first | assumption | omega) ?_))⟩)
    | false =>
      have hs : ¬ sndR H := fun h => by have := hq.2 h; cases this
      have hs' : H.kd ≠ 1 ∧ H.kd ≠ 3 := by unfold sndR at hs; omega
      repeat (first | refine T_seq ?_ | refine T_region ?_ | refine S_pure tabOk rfl ?_ | refine S_load tabOk 0 rfl rfl rfl ?_)
      by_cases k1 : 0 < H.ba
      · refine S_re 43 (v' := .bool true) rfl (congrArg Value.bool (decide_eq_true k1)) ?_
        refine S_q ((Q_neb tabOk rfl rfl rfl rfl rfl).eq (v' := .bool true) rfl) ?_
        repeat (first | refine S_nil ?_ | refine S_pure tabOk rfl ?_ | refine S_pass rfl rfl rfl ?_)
        refine T_cond_t rfl ?_
        repeat (first | refine T_seq ?_ | refine T_region ?_ | refine S_nil ?_ | refine pthen_ret ?_ | refine T_ret ?_ | refine S_pure tabOk rfl ?_)
        exact ret1 rfl rfl (fun w' hw => ⟨retb (false_dec (fun h => by have := (frR_rr hf h).2.b2 hs; omega)), hw.below (by repeat (first | exact new_nil | refine new_cons (by first | assumption | omega) ?_))⟩)
      · refine S_re 43 (v' := .bool false) rfl (congrArg Value.bool (decide_eq_false k1)) ?_
        refine S_q ((Q_neb tabOk rfl rfl rfl rfl rfl).eq (v' := .bool false) rfl) ?_
        repeat (first | refine S_pure tabOk rfl ?_ | refine S_pass rfl rfl rfl ?_ | refine S_load tabOk 0 rfl rfl rfl ?_)
        refine S_re 68 (v' := .bool false) rfl (congrArg Value.bool (decide_eq_false hs'.1)) ?_
        repeat (first | refine S_pure tabOk rfl ?_ | refine S_pass rfl rfl rfl ?_ | refine S_load tabOk 0 rfl rfl rfl ?_)
        refine S_re 78 (v' := .bool true) rfl (congrArg Value.bool (decide_eq_true hs'.2)) ?_
        repeat (first | refine S_nil ?_ | refine S_pure tabOk rfl ?_ | refine S_load tabOk 0 rfl rfl rfl ?_)
        refine T_cond_dec rfl (fun k8 => ?_) (fun k8 => ?_)
        · repeat (first | refine T_seq ?_ | refine T_region ?_ | refine S_nil ?_ | refine pthen_ret ?_ | refine T_ret ?_ | refine S_pure tabOk rfl ?_)
          exact ret1 rfl rfl (fun w' hw => ⟨retb (false_dec (fun h => by have := (frR_rr hf h).2.b4 hs'.2; omega)), hw.below (by repeat (first | exact new_nil | refine new_cons (by first | assumption | omega) ?_))⟩)
        repeat (first | refine pthen_normal ?_ | refine T_skip ?_)
        exact hend (fun h => absurd h hs) (fun _ => by omega) (fun h => absurd h hs'.1) (fun _ => by omega) (by repeat (first | exact Sub.nil | refine Sub.cons rfl ?_)) (fun w' hw => hw)
  rintro ⟨⟩ ⟨b1, b2, b3, b4⟩
  repeat (first | refine T_draw (by kernel_rfl) (by kernel_rfl) ?_ | refine D_pure tabOk rfl ?_ | refine D_load tabOk 0 rfl rfl rfl ?_ | refine T_seq ?_)
  refine D_split rfl rfl (fun c1 => ?_) (fun c1 => ?_)
  · repeat (first | refine D_all rfl ?_ | refine D_pure tabOk rfl ?_ | refine D_pass rfl rfl rfl ?_)
    refine T_cond_t rfl ?_
    repeat (first | refine T_seq ?_ | refine T_region ?_ | refine S_nil ?_ | refine pthen_ret ?_ | refine T_ret ?_ | refine S_pure tabOk rfl ?_)
    exact ret1 rfl rfl (fun w' hw => ⟨retb (false_dec (fun h => by have := (frR_rr hf h).2.c1; omega)), hw.below (by repeat (first | exact new_nil | refine new_cons (by first | assumption | omega) ?_))⟩)
  repeat (first | refine D_pure tabOk rfl ?_ | refine D_load tabOk 0 rfl rfl rfl ?_)
  refine D_split rfl rfl (fun c2 => ?_) (fun c2 => ?_)
  · repeat (first | refine D_all rfl ?_ | refine D_pure tabOk rfl ?_ | refine D_pass rfl rfl rfl ?_)
    refine T_cond_t rfl ?_
    repeat (first | refine T_seq ?_ | refine T_region ?_ | refine S_nil ?_ | refine pthen_ret ?_ | refine T_ret ?_ | refine S_pure tabOk rfl ?_)
    exact ret1 rfl rfl (fun w' hw => ⟨retb (false_dec (fun h => by have := (frR_rr hf h).2.c2; omega)), hw.below (by repeat (first | exact new_nil | refine new_cons (by first | assumption | omega) ?_))⟩)
  repeat (first | refine D_pure tabOk rfl ?_ | refine D_load tabOk 0 rfl rfl rfl ?_)
  refine D_split rfl rfl (fun c3 => ?_) (fun c3 => ?_)
  · repeat (first | refine D_all rfl ?_ | refine D_pure tabOk rfl ?_ | refine D_pass rfl rfl rfl ?_)
    refine T_cond_t rfl ?_
    repeat (first | refine T_seq ?_ | refine T_region ?_ | refine S_nil ?_ | refine pthen_ret ?_ | refine T_ret ?_ | refine S_pure tabOk rfl ?_)
    exact ret1 rfl rfl (fun w' hw => ⟨retb (false_dec (fun h => by have := (frR_rr hf h).2.c3; omega)), hw.below (by repeat (first | exact new_nil | refine new_cons (by first | assumption | omega) ?_))⟩)
  repeat (first | refine D_pure tabOk rfl ?_ | refine D_load tabOk 0 rfl rfl rfl ?_)
  refine D_callp (fun v w' => ∃ m, PlO rs m ∧ ((Rslice Rrun).vp m).at_ w' TT v) rfl Try.call48 (fun v w w' ⟨m, h1, h2⟩ hb => ⟨m, h1, Vp.ext ((Rslice Rrun).vp m) h2 hb⟩) (fun w' vs hw' h7 => by
    obtain ⟨u1, _, rfl, rfl, rfl⟩ := h7
    exact (plain_ok s.ra s.rn s.rc rs A w' (hx.r.ext (hw'.below (by repeat (first | exact new_nil | refine new_cons (by first | assumption | omega) ?_)))) (by omega)).mono fun e w2 ⟨v, m, e1, e2, e3, e4⟩ => ⟨v, e1, e2, m, e3, Vp.tt ((Rslice Rrun).vp m) e4⟩) ?_
  by_cases c4 : Can rs
  rotate_left
  · refine D_callx (v := .bool false) rfl Try.call47 (fun w' vs hw' h7 => by
      obtain ⟨u1, _, rfl, rfl, u2, _, rfl, g2, rfl⟩ := h7
      obtain ⟨m, h8, h9⟩ := g2
      obtain ⟨a4, n4, c4', rfl, hs4⟩ := SlR.form h9
      exact (rsame_ok s.ra a4 s.rn s.rc n4 c4' rs m A TT w' (hx.r.ext (hw'.below (by repeat (first | exact new_nil | refine new_cons (by first | assumption | omega) ?_)))) hs4).mono fun e w2 ⟨e1, e2⟩ => ⟨by rw [e1]; exact retb (decide_eq_false fun h => c4 ((plo_can h8).2 h)), e2⟩) ?_
    repeat (first | refine D_pure tabOk rfl ?_)
    refine D_allP rfl ?_
    skip
    refine T_cond_t rfl ?_
    repeat (first | refine T_seq ?_ | refine T_region ?_ | refine S_nil ?_ | refine pthen_ret ?_ | refine T_ret ?_ | refine S_pure tabOk rfl ?_)
    exact ret1 rfl rfl (fun w' hw => ⟨retb (false_dec (fun h => c4 (frR_rr hf h).2.c4)), hw.below (by repeat (first | exact new_nil | refine new_cons (by first | assumption | omega) ?_))⟩)
  refine D_callx (v := .bool true) rfl Try.call47 (fun w' vs hw' h7 => by
    obtain ⟨u1, _, rfl, rfl, u2, _, rfl, g2, rfl⟩ := h7
    obtain ⟨m, h8, h9⟩ := g2
    obtain ⟨a4, n4, c4', rfl, hs4⟩ := SlR.form h9
    exact (rsame_ok s.ra a4 s.rn s.rc n4 c4' rs m A TT w' (hx.r.ext (hw'.below (by repeat (first | exact new_nil | refine new_cons (by first | assumption | omega) ?_)))) hs4).mono fun e w2 ⟨e1, e2⟩ => ⟨by rw [e1]; exact retb (decide_eq_true ((plo_can h8).1 c4)), e2⟩) ?_
  repeat (first | refine D_pure tabOk rfl ?_)
  refine D_allP rfl ?_
  skip
  refine T_cond_f rfl ?_
  repeat (first | refine T_seq ?_ | refine T_region ?_ | refine T_block ?_ | refine S_nil ?_ | refine pthen_normal ?_ | refine T_skip ?_ | refine S_pure tabOk rfl ?_ | refine S_load tabOk 0 rfl rfl rfl ?_)
  refine T_loop (ι := Nat) (fun i => [(1, .pointer (some ⟨b, 0, none⟩)), (4, .int .u64 (prevN H.ba its i)), (114, .slice s.ia s.im s.ic), (115, .int .i64 (s.im : Int)), (116, .int .i64 (i : Int))])
    (fun i => [.blk b (.cells ⟨frC .i64 H s⟩ 33 (0, 0)) true]) (fun i => i ≤ s.im ∧ ∀ k (hk : k < its.length), k < i → itsA H.ba its[k] (if k = 0 then none else its[k - 1]?)) (fun i => s.im - i) 0 ⟨Nat.zero_le _, fun k hk h => absurd h (Nat.not_lt_zero _)⟩ (by repeat (first | exact Sub.nil | refine Sub.cons rfl ?_)) (fun w' hw => hw) ?_
  rintro i ⟨hi, hyes⟩
  repeat (first | refine T_seq ?_ | refine T_region ?_ | refine S_nil ?_ | refine S_pure tabOk rfl ?_)
  refine T_cond_dec rfl (fun h => ?_) (fun h => ?_)
  · have hi' : i < its.length := by omega
    obtain ⟨ab, off, a0, n0, c0, hia, hN, hkf, hrd⟩ := item_read hx.i.tt hi'
    have hn0 : its[i].2.2.length = n0 := (hrd w (Below.refl _ w)).2.len
    have hN' := fits_u64 hN
    rw [hia]
    repeat (first | refine T_seq ?_ | refine T_region ?_ | refine T_block ?_ | refine pthen_normal ?_ | refine T_skip ?_ | refine S_pure tabOk rfl ?_)
    refine S_q (Q_idx (sz := 3) tabOk rfl rfl rfl rfl rfl rfl rfl rfl (j := i) (by omega)) ?_
    refine S_loadN tabOk (vs := [.int .u64 its[i].1, .int .i64 its[i].2.1, .slice a0 n0 c0]) rfl rfl rfl (fun w' hw => (hrd w' (hw.below (by repeat (first | exact new_nil | refine new_cons (by first | assumption | omega) ?_)))).1) ?_
    refine S_new tabOk rfl (fun b9 hb9 => ?_)
    repeat (first | refine T_seq ?_ | refine T_region ?_ | refine S_nil ?_ | refine S_pure tabOk rfl ?_ | refine S_load tabOk 0 rfl rfl rfl ?_ | refine S_store tabOk 0 rfl rfl rfl rfl rfl rfl ?_)
    refine S_callq (v := .bool (sright its[i].2.1 n0)) rfl Try.call49 (fun w1 g1 => rfright_ok its[i].2.1 a0 n0 c0 w1) ?_
    repeat (first | refine S_pure tabOk rfl ?_)
    by_cases d1 : 0 ≤ its[i].2.1 ∧ its[i].2.1 < 8 ∧ its[i].2.2.length ≤ 4096
    rotate_left
    · refine S_re 125 (v' := .bool true) rfl (congrArg Value.bool (by unfold sright; rw [decide_eq_false (by omega)]; rfl)) ?_
      repeat (first | refine S_nil ?_ | refine S_pure tabOk rfl ?_ | refine S_pass rfl rfl rfl ?_)
      refine T_cond_t rfl ?_
      repeat (first | refine T_seq ?_ | refine T_region ?_ | refine S_nil ?_ | refine inb_ret ?_ | refine pthen_ret ?_ | refine T_ret ?_ | refine S_pure tabOk rfl ?_)
      exact ret1 rfl rfl (fun w' hw => ⟨retb (false_dec (fun h => d1 ((frR_rr hf h).2.d i hi').1)), hw.below (by repeat (first | exact new_nil | refine new_cons (by first | assumption | omega) ?_))⟩)
    refine S_re 125 (v' := .bool false) rfl (congrArg Value.bool (by unfold sright; rw [decide_eq_true (by omega)]; rfl)) ?_
    repeat (first | refine S_pure tabOk rfl ?_ | refine S_load tabOk 0 rfl rfl rfl ?_)
    have hpv : itsR H.ba its → prevN H.ba its i ≤ its[i].1 ∧ (0 < i → prevN H.ba its i < its[i].1) := fun hd => by
      obtain ⟨_, q2, q3⟩ := hd i hi'
      cases i with
      | zero => exact ⟨q2, fun h => absurd h (Nat.lt_irrefl 0)⟩
      | succ j =>
        have := q3 j (by omega) rfl
        rw [prevN_succ (by omega)]
        exact ⟨by omega, fun _ => this⟩
    have hnx : ∀ {N : Prop}, prevN H.ba its i ≤ its[i].1 → (0 < i → prevN H.ba its i ≠ its[i].1) → ∀ k (hk : k < its.length), k < i + 1 → itsA H.ba its[k] (if k = 0 then none else its[k - 1]?) := fun q1 q2 k hk hki => by
      rcases Nat.lt_or_ge k i with h6 | h6
      · exact hyes k hk h6
      · have e : k = i := by omega
        subst e
        cases k with
        | zero =>
          refine ⟨d1, q1, fun y hy => ?_⟩
          rw [if_pos rfl] at hy
          cases hy
        | succ j =>
          have q3 := (hyes j (by omega) (by omega)).2.1
          rw [prevN_succ (by omega)] at q1 q2
          have q4 := q2 (by omega)
          refine ⟨d1, by omega, fun y hy => ?_⟩
          rw [if_neg (by omega), show j + 1 - 1 = j by omega, List.getElem?_eq_getElem (by omega)] at hy
          cases hy
          omega
    refine S_split rfl rfl (fun d2 => ?_) (fun d2 => ?_)
    · repeat (first | refine S_nil ?_ | refine S_pure tabOk rfl ?_ | refine S_pass rfl rfl rfl ?_)
      refine T_cond_t rfl ?_
      repeat (first | refine T_seq ?_ | refine T_region ?_ | refine S_nil ?_ | refine inb_ret ?_ | refine pthen_ret ?_ | refine T_ret ?_ | refine S_pure tabOk rfl ?_)
      exact ret1 rfl rfl (fun w' hw => ⟨retb (false_dec (fun h => by have := hpv (frR_rr hf h).2.d; omega)), hw.below (by repeat (first | exact new_nil | refine new_cons (by first | assumption | omega) ?_))⟩)
    repeat (first | refine S_pure tabOk rfl ?_)
    refine S_split rfl rfl (fun d3 => ?_) (fun d3 => ?_)
    · repeat (first | refine S_nil ?_ | refine S_pure tabOk rfl ?_ | refine S_load tabOk 0 rfl rfl rfl ?_)
      refine T_cond_dec rfl (fun d4 => ?_) (fun d4 => ?_)
      · repeat (first | refine T_seq ?_ | refine T_region ?_ | refine S_nil ?_ | refine inb_ret ?_ | refine pthen_ret ?_ | refine T_ret ?_ | refine S_pure tabOk rfl ?_)
        exact ret1 rfl rfl (fun w' hw => ⟨retb (false_dec (fun h => by have := (hpv (frR_rr hf h).2.d).2 (by omega); omega)), hw.below (by repeat (first | exact new_nil | refine new_cons (by first | assumption | omega) ?_))⟩)
      · repeat (first | refine T_region ?_ | refine S_nil ?_ | refine pthen_normal ?_ | refine inb_normal ?_ | refine T_skip ?_ | refine S_i64 tabOk rfl (by omega) ?_ | refine S_pure tabOk rfl ?_ | refine T_region_any ?_ | refine S_load tabOk 0 rfl rfl rfl ?_)
        exact ⟨i + 1, ⟨by omega, hnx (N := True) (by omega) (fun _ => by omega)⟩, by rw [prevN_succ hi']; repeat (first | exact Sub.nil | refine Sub.cons rfl ?_), fun w' hw => hw.less (by repeat (first | exact Less.nil | refine Less.keep ?_ | refine Less.dropB (by first | assumption | omega) ?_)), by omega⟩
    · repeat (first | refine S_nil ?_ | refine S_pure tabOk rfl ?_ | refine S_pass rfl rfl rfl ?_)
      refine T_cond_f rfl ?_
      repeat (first | refine T_region ?_ | refine S_nil ?_ | refine pthen_normal ?_ | refine inb_normal ?_ | refine T_skip ?_ | refine S_i64 tabOk rfl (by omega) ?_ | refine S_pure tabOk rfl ?_ | refine T_region_any ?_ | refine S_load tabOk 0 rfl rfl rfl ?_)
      exact ⟨i + 1, ⟨by omega, hnx (N := True) (by omega) (fun h => absurd h (by omega))⟩, by rw [prevN_succ hi']; repeat (first | exact Sub.nil | refine Sub.cons rfl ?_), fun w' hw => hw.less (by repeat (first | exact Less.nil | refine Less.keep ?_ | refine Less.dropB (by first | assumption | omega) ?_)), by omega⟩
  · have e : i = s.im := by omega
    subst e
    have hd : itsR H.ba its := fun k hk => by
      obtain ⟨q1, q2, q3⟩ := hyes k hk (by omega)
      refine ⟨q1, q2, fun j hj hjk => q3 _ ?_⟩
      rw [if_neg (by omega), show k - 1 = j by omega, List.getElem?_eq_getElem hj]
    repeat (first | refine T_seq ?_ | refine T_region ?_ | refine T_block ?_ | refine S_nil ?_ | refine pthen_normal ?_ | refine inb_hit ?_ | refine pthen_exit ?_ | refine T_exit ?_ | refine S_pure tabOk rfl ?_ | refine S_load tabOk 0 rfl rfl rfl ?_)
    refine T_loop (ι := Nat) (fun i => [(1, .pointer (some ⟨b, 0, none⟩)), (145, .slice s.ra s.rn s.rc), (146, .int .i64 (s.rn : Int)), (147, .int .i64 (i : Int))])
      (fun i => [.blk b (.cells ⟨frC .i64 H s⟩ 33 (0, 0)) true]) (fun i => i ≤ s.rn ∧ ∀ k (hk : k < rs.length), k < i → (k = 0 → H.cu ≤ rs[k].1 ∧ 2 ≤ rs[k].1 - H.cu) ∧ rs[k].2 ≤ H.li) (fun i => s.rn - i) 0 ⟨Nat.zero_le _, fun k hk h => absurd h (Nat.not_lt_zero _)⟩ (by repeat (first | exact Sub.nil | refine Sub.cons rfl ?_)) (fun w' hw => hw) ?_
    rintro i ⟨hi, hyes⟩
    repeat (first | refine T_seq ?_ | refine T_region ?_ | refine S_nil ?_ | refine S_pure tabOk rfl ?_)
    refine T_cond_dec rfl (fun h => ?_) (fun h => ?_)
    · have hi' : i < rs.length := by omega
      obtain ⟨ab, off, _, hra, hlt, _⟩ := hx.r.get_ hi'
      have hcell := run_cells (b := ab) (off := off) (by rw [← hra]; exact hx.r) hi'
      have hrf := fits_u64 (hfr _ (List.getElem_mem hi')).1
      rw [hra]
      repeat (first | refine T_seq ?_ | refine T_region ?_ | refine T_block ?_ | refine pthen_normal ?_ | refine T_skip ?_ | refine S_pure tabOk rfl ?_)
      refine S_q (Q_idx (sz := 2) tabOk rfl rfl rfl rfl rfl rfl rfl rfl (j := i) (by omega)) ?_
      refine S_loadN tabOk (vs := encR rs[i]) rfl rfl rfl (fun w' hw j u hu => by
          have h3 := hcell j u hu
          rw [Addr.add_lit] at h3 ⊢
          exact ((hw.below (by repeat (first | exact new_nil | refine new_cons (by first | assumption | omega) ?_))).cell (p := ⟨ab, off + i * 2 + j, none⟩) hlt).trans h3) ?_
      refine S_new tabOk rfl (fun b9 hb9 => ?_)
      repeat (first | refine T_seq ?_ | refine T_region ?_ | refine S_nil ?_ | refine S_pure tabOk rfl ?_ | refine S_store tabOk 0 rfl rfl rfl rfl rfl rfl ?_)
      have hnx : (i = 0 → H.cu ≤ rs[i].1 ∧ 2 ≤ rs[i].1 - H.cu) → rs[i].2 ≤ H.li → ∀ k (hk : k < rs.length), k < i + 1 → (k = 0 → H.cu ≤ rs[k].1 ∧ 2 ≤ rs[k].1 - H.cu) ∧ rs[k].2 ≤ H.li := fun q1 q2 k hk hki => by
        rcases Nat.lt_or_ge k i with h6 | h6
        · exact hyes k hk h6
        · have e : k = i := by omega
          subst e
          exact ⟨q1, q2⟩
      refine S_split rfl rfl (fun e0 => ?_) (fun e0 => ?_)
      · have e0' : i = 0 := by omega
        repeat (first | refine S_pure tabOk rfl ?_ | refine S_load tabOk 0 rfl rfl rfl ?_ | refine S_load tabOk 1 rfl rfl rfl ?_)
        refine S_split rfl rfl (fun e1 => ?_) (fun e1 => ?_)
        · repeat (first | refine S_nil ?_ | refine S_pure tabOk rfl ?_ | refine S_pass rfl rfl rfl ?_)
          refine T_cond_t rfl ?_
          repeat (first | refine T_seq ?_ | refine T_region ?_ | refine S_nil ?_ | refine inb_ret ?_ | refine pthen_ret ?_ | refine T_ret ?_ | refine S_pure tabOk rfl ?_)
          exact ret1 rfl rfl (fun w' hw => ⟨retb (false_dec (fun hR0 => by subst e0'; have := (frR_rr hf hR0).2.e1 hi'; omega)), hw.below (by repeat (first | exact new_nil | refine new_cons (by first | assumption | omega) ?_))⟩)
        repeat (first | refine S_u64 tabOk rfl (by omega) ?_ | refine S_pure tabOk rfl ?_ | refine S_load tabOk 0 rfl rfl rfl ?_ | refine S_load tabOk 1 rfl rfl rfl ?_)
        refine S_split rfl rfl (fun e3 => ?_) (fun e3 => ?_)
        · repeat (first | refine S_nil ?_ | refine S_pure tabOk rfl ?_ | refine S_pass rfl rfl rfl ?_)
          refine T_cond_t rfl ?_
          repeat (first | refine T_seq ?_ | refine T_region ?_ | refine S_nil ?_ | refine inb_ret ?_ | refine pthen_ret ?_ | refine T_ret ?_ | refine S_pure tabOk rfl ?_)
          exact ret1 rfl rfl (fun w' hw => ⟨retb (false_dec (fun hR0 => by subst e0'; have := (frR_rr hf hR0).2.e1 hi'; omega)), hw.below (by repeat (first | exact new_nil | refine new_cons (by first | assumption | omega) ?_))⟩)
        repeat (first | refine S_nil ?_ | refine S_pure tabOk rfl ?_ | refine S_load tabOk 0 rfl rfl rfl ?_ | refine S_load tabOk 1 rfl rfl rfl ?_)
        refine T_cond_dec rfl (fun e2 => ?_) (fun e2 => ?_)
        · repeat (first | refine T_seq ?_ | refine T_region ?_ | refine S_nil ?_ | refine inb_ret ?_ | refine pthen_ret ?_ | refine T_ret ?_ | refine S_pure tabOk rfl ?_)
          exact ret1 rfl rfl (fun w' hw => ⟨retb (false_dec (fun h => by have := (frR_rr hf h).2.e2 i hi'; omega)), hw.below (by repeat (first | exact new_nil | refine new_cons (by first | assumption | omega) ?_))⟩)
        · repeat (first | refine T_region ?_ | refine S_nil ?_ | refine pthen_normal ?_ | refine inb_normal ?_ | refine T_skip ?_ | refine S_i64 tabOk rfl (by omega) ?_ | refine S_pure tabOk rfl ?_)
          exact ⟨i + 1, ⟨by omega, hnx (fun _ => ⟨by omega, by omega⟩) (by omega)⟩, by repeat (first | exact Sub.nil | refine Sub.cons rfl ?_), fun w' hw => hw.less (by repeat (first | exact Less.nil | refine Less.keep ?_ | refine Less.dropB (by first | assumption | omega) ?_)), by omega⟩
      · repeat (first | refine S_nil ?_ | refine S_pure tabOk rfl ?_ | refine S_pass rfl rfl rfl ?_ | refine S_load tabOk 0 rfl rfl rfl ?_ | refine S_load tabOk 1 rfl rfl rfl ?_)
        refine T_cond_dec rfl (fun e2 => ?_) (fun e2 => ?_)
        · repeat (first | refine T_seq ?_ | refine T_region ?_ | refine S_nil ?_ | refine inb_ret ?_ | refine pthen_ret ?_ | refine T_ret ?_ | refine S_pure tabOk rfl ?_)
          exact ret1 rfl rfl (fun w' hw => ⟨retb (false_dec (fun h => by have := (frR_rr hf h).2.e2 i hi'; omega)), hw.below (by repeat (first | exact new_nil | refine new_cons (by first | assumption | omega) ?_))⟩)
        · repeat (first | refine T_region ?_ | refine S_nil ?_ | refine pthen_normal ?_ | refine inb_normal ?_ | refine T_skip ?_ | refine S_i64 tabOk rfl (by omega) ?_ | refine S_pure tabOk rfl ?_)
          exact ⟨i + 1, ⟨by omega, hnx (fun h => absurd h (by omega)) (by omega)⟩, by repeat (first | exact Sub.nil | refine Sub.cons rfl ?_), fun w' hw => hw.less (by repeat (first | exact Less.nil | refine Less.keep ?_ | refine Less.dropB (by first | assumption | omega) ?_)), by omega⟩
    · have e : i = s.rn := by omega
      subst e
      repeat (first | refine T_seq ?_ | refine T_region ?_ | refine S_nil ?_ | refine pthen_normal ?_ | refine inb_hit ?_ | refine pthen_exit ?_ | refine T_ret ?_ | refine T_exit ?_ | refine S_pure tabOk rfl ?_)
      exact ret1 rfl rfl (fun w' hw => ⟨retb (decide_eq_true ⟨by omega, by omega, by omega, (kindR_rr hf hk).2 ⟨b1, b2, b3, b4, by omega, by omega, by omega, c4, hd, fun hp => (hyes 0 hp (by omega)).1 rfl, fun i hi => (hyes i hi (by omega)).2⟩⟩).symm, hw.below (by repeat (first | exact new_nil | refine new_cons (by first | assumption | omega) ?_))⟩)
end Go.Proofs.Ytnefhhoijonnaaa
