/-
  The walk of container/heap's Remove; the plain law of Fix and Remove at any place. Conditions: each theorem's own.
-/
import Derived.Test.YtggnhcgmeibihaaHpD
namespace Go.Proofs.Ytggnhcgmeibihaa
open Go Go.RowKit
set_option linter.unusedVariables false

/-- what Remove takes the last of -/
def HOb.rm {P : Program} {iv : Value} {St : Type} (O : HOb P iv St) (s : St) (i : Nat) : St :=
  if O.len s - 1 = i then s else
    if i < (O.dn (O.len s - 1) (O.len s - 1) (O.sw s i (O.len s - 1)) i).2 then (O.dn (O.len s - 1) (O.len s - 1) (O.sw s i (O.len s - 1)) i).1
    else O.up (i + 1) (O.dn (O.len s - 1) (O.len s - 1) (O.sw s i (O.len s - 1)) i).1 i
set_option maxHeartbeats 1000000 in
theorem hremove_ok {iv : Value} {St : Type} (O : HOb Try.prog iv St) (s : St) (i : Nat) (F : Nat → Prop) (w : World) (h : (O.p s).at_ w F (.bool true)) (hF : ∀ k, F k → k < w.heap.size) (hi : i < O.len s) (u : Value) (q : Vp)
    (hp : ∀ w1, (O.p (O.rm s i)).at_ w1 F (.bool true) → (∀ k, F k → k < w1.heap.size) → Meth Try.prog iv "Pop" [] w1 fun e w' => e = .returned u ∧ Hp w1 w' [.rep (fun w => q.at_ w F (.bool true)) F true]) :
    Calls Try.prog 54 #[iv, .int .i64 (i : Int)] w fun e w' => e = .returned u ∧ Hp w w' [.rep (fun w => q.at_ w F (.bool true)) F true] := by
  have hle := O.hle h
  refine enter2 Try.func54 rfl rfl (Hp.startO h hF) ?_
  repeat (first | refine T_seq ?_ | refine T_region ?_ | refine S_nil ?_ | refine S_pure tabOk rfl ?_)
  refine S_invq rfl rfl rfl (fun w1 g => O.hlen (g.own _ (getE_mem (i := 0) rfl)).1) ?_
  repeat (first | refine T_seq ?_ | refine T_region ?_ | refine S_nil ?_ | refine S_i64 tabOk rfl (by omega) ?_ | refine S_pure tabOk rfl ?_)
  refine T_cut (ι := Unit) (fun _ => True) (fun _ => [(0, iv)]) (fun _ => [.rep (fun w => (O.p (O.rm s i)).at_ w F (.bool true)) F true]) ?_ ?_
  · refine T_cond_dec rfl (fun hne => ?_) (fun heq => ?_)
    · obtain ⟨R, hR⟩ : ∃ R, O.rm s i = R := ⟨_, rfl⟩
      rw [hR]
      unfold HOb.rm at hR
      rw [if_neg (by omega)] at hR
      have hdl := O.dn_len (O.len s - 1) (O.len s - 1) (O.sw s i (O.len s - 1)) i
      rw [O.lenSw] at hdl
      repeat (first | refine T_seq ?_ | refine T_region ?_ | refine S_pure tabOk rfl ?_)
      refine S_invT 0 rfl rfl rfl rfl (fun w1 g => (O.hswI i (O.len s - 1) (g.own _ (getE_mem (i := 0) rfl)).1 (g.own _ (getE_mem (i := 0) rfl)).2.2 rfl (by omega) hi (by omega)).mono fun e w' ⟨he, g2⟩ => ⟨_, _, F, he, g2, fun _ h => h, fun _ h => .inl h, _, rfl, ?_⟩)
      repeat (first | refine T_seq ?_ | refine T_region ?_ | refine S_nil ?_ | refine S_pure tabOk rfl ?_)
      refine S_callT 0 rfl Try.call73 rfl (fun w1 g => (hdownI O (O.sw s i (O.len s - 1)) i (O.len s - 1) F w1 (g.own _ (getE_mem (i := 0) rfl)).1 (g.own _ (getE_mem (i := 0) rfl)).2.2 (by rw [O.lenSw]; omega) (by omega) rfl (by omega)).mono fun e w' ⟨he, g2⟩ => ⟨_, _, F, he, g2, fun _ h => h, fun _ h => .inl h, _, rfl, ?_⟩)
      by_cases hd : i < (O.dn (O.len s - 1) (O.len s - 1) (O.sw s i (O.len s - 1)) i).2
      · rw [decide_eq_true hd]
        rw [if_pos hd] at hR
        rw [hR]
        repeat (first | refine S_nil ?_ | refine S_pure tabOk rfl ?_)
        refine T_cond_f rfl ?_
        repeat (first | refine pthen_normal ?_ | refine T_skip ?_)
        exact ⟨(), trivial, by repeat (first | exact Sub.nil | refine Sub.cons rfl ?_), fun w' hw => hw⟩
      · rw [decide_eq_false hd]
        rw [if_neg hd] at hR
        repeat (first | refine S_nil ?_ | refine S_pure tabOk rfl ?_)
        refine T_cond_t rfl ?_
        repeat (first | refine T_region ?_ | refine S_pure tabOk rfl ?_)
        refine S_callT 0 rfl Try.call74 rfl (fun w1 g => (hup_ok O (O.dn (O.len s - 1) (O.len s - 1) (O.sw s i (O.len s - 1)) i).1 i F w1 (g.own _ (getE_mem (i := 0) rfl)).1 (g.own _ (getE_mem (i := 0) rfl)).2.2 (by omega)).mono fun e w' ⟨he, g2⟩ => ⟨_, _, F, he, g2, fun _ h => h, fun _ h => .inl h, _, rfl, ?_⟩)
        rw [hR]
        repeat (first | refine S_nil ?_)
        exact ⟨(), trivial, by repeat (first | exact Sub.nil | refine Sub.cons rfl ?_), fun w' hw => hw⟩
    · have hR : O.rm s i = s := if_pos (by omega)
      rw [hR]
      repeat (first | refine pthen_normal ?_ | refine T_skip ?_)
      exact ⟨(), trivial, by repeat (first | exact Sub.nil | refine Sub.cons rfl ?_), fun w' hw => hw⟩
  · rintro ⟨⟩ _
    repeat (first | refine T_seq ?_ | refine T_region ?_ | refine S_pure tabOk rfl ?_)
    refine S_invT 0 rfl rfl rfl rfl (fun w1 g => (hp w1 (g.own _ (getE_mem (i := 0) rfl)).1 (g.own _ (getE_mem (i := 0) rfl)).2.2).mono fun e w' ⟨he, g2⟩ => ⟨_, _, F, he, g2, fun _ h => h, fun _ h => .inl h, _, rfl, ?_⟩)
    repeat (first | refine S_nil ?_ | refine T_ret ?_ | refine S_pure tabOk rfl ?_)
    exact ret1 rfl rfl (fun w' hw => ⟨rfl, hw⟩)

/-- a heap but for one place -/
def Fk {α : Type} (r : α → α → Bool) (s : List α) (n i : Nat) : Prop := ∀ j, 0 < j → j < n → (j ≠ i → (j - 1) / 2 ≠ i → ltL r s j ((j - 1) / 2) = false) ∧ ((j - 1) / 2 = i → 0 < i → ltL r s j ((i - 1) / 2) = false)
section
variable {P : Program} {iv : Value} {α : Type} {O : HOb P iv (List α)} {r : α → α → Bool} (hO : OL_ O r)
include hO
theorem dn_stay (n : Nat) : ∀ (f : Nat) (s : List α) (i : Nat), (∀ j, 0 < j → j < n → (j - 1) / 2 = i → ltL r s j i = false) → O.dn n f s i = (s, i)
  | 0, s, i, _ => rfl
  | f + 1, s, i, h => by
    unfold HOb.dn
    split
    · rfl
    · rename_i hn
      have hc := O.ch_lt (n := n) (s := s) (i := i) (by omega)
      have hcv : O.ch n s i = 2 * i + 1 ∨ O.ch n s i = 2 * i + 2 := by
        unfold HOb.ch
        split
        · exact .inr rfl
        · exact .inl rfl
      rw [hO.lt, h _ (by omega) hc.1 (by omega), if_neg (by decide)]
omit hO in
theorem dn_idx (n : Nat) : ∀ (f : Nat) (s : List α) (i : Nat), i ≤ (O.dn n f s i).2 ∧ ((O.dn n f s i).2 = i → (O.dn n f s i).1 = s)
  | 0, s, i => ⟨Nat.le_refl _, fun _ => rfl⟩
  | f + 1, s, i => by
    unfold HOb.dn
    split
    · exact ⟨Nat.le_refl _, fun _ => rfl⟩
    · rename_i hn
      have hc := O.ch_lt (n := n) (s := s) (i := i) (by omega)
      split
      · have := dn_idx n f (O.sw s i (O.ch n s i)) (O.ch n s i)
        exact ⟨by omega, fun h => by omega⟩
      · exact ⟨Nat.le_refl _, fun _ => rfl⟩
/-- down, then up if it stayed: the heap is whole again. -/
theorem mend_heap (hr : SW r) (n : Nat) (s : List α) (i : Nat) (hs : n ≤ s.length) (hi : i < n) (h : Fk r s n i) : Hd r (if i < (O.dn n n s i).2 then (O.dn n n s i).1 else O.up (i + 1) (O.dn n n s i).1 i) n 0 := by
  have hup : ∀ t : List α, n ≤ t.length → Hd r t n 0 → Hd r (O.up (i + 1) t i) n 0 := fun t ht hd => up_heap hO hr n (i + 1) t i ht hi (Nat.lt_succ_self _) fun k h0 hk => ⟨fun _ => hd k h0 hk (Nat.zero_le _), fun hp hi0 => by
    have e1 := hd k h0 hk (Nat.zero_le _)
    have e2 := hd i hi0 hi (Nat.zero_le _)
    rw [hp] at e1
    exact ltL_ntr hr (by omega) e1 e2⟩
  have hln : (O.dn n n s i).1.length = s.length := (dn_perm hO n n s i).length_eq
  by_cases hc : 0 < i ∧ ltL r s i ((i - 1) / 2) = true
  · have hst := dn_stay hO n n s i fun j h0 hj hp => by
      have e1 := (h j h0 hj).2 hp hc.1
      exact ltL_ntr hr (by omega) e1 (ltL_asym hr hc.2)
    rw [hst]
    dsimp only
    rw [if_neg (Nat.lt_irrefl _)]
    refine up_heap hO hr n (i + 1) s i hs hi (Nat.lt_succ_self _) fun k h0 hk => ⟨fun hki => ?_, fun hp hi0 => (h k h0 hk).2 hp hi0⟩
    by_cases hp : (k - 1) / 2 = i
    · rw [hp]
      exact ltL_ntr hr (by omega) ((h k h0 hk).2 hp hc.1) (ltL_asym hr hc.2)
    · exact (h k h0 hk).1 hki hp
  · have hd : Hd r (O.dn n n s i).1 n 0 := dn_heap hO hr n 0 n s i hs (Nat.sub_le _ _) fun j h0 hj hl => ⟨fun hp => ?_, fun hp hi0 _ => (h j h0 hj).2 hp hi0⟩
    · split
      · exact hd
      · exact hup _ (by omega) hd
    · by_cases hji : j = i
      · subst hji
        cases h9 : ltL r s j ((j - 1) / 2) with
        | false => rfl
        | true => exact absurd ⟨h0, h9⟩ hc
      · exact (h j h0 hj).1 hji hp
/-- Fix, if one place was turned. -/
theorem fx_heap (hr : SW r) (s : List α) (i : Nat) (hi : i < s.length) (h : Fk r s s.length i) : Hd r (O.fx s i) s.length 0 := by
  unfold HOb.fx
  rw [hO.len]
  exact mend_heap hO hr s.length s i (Nat.le_refl _) hi h
theorem rm_perm (s : List α) (i : Nat) : (O.rm s i).Perm s := by
  unfold HOb.rm
  rw [hO.sw]
  split
  · exact List.Perm.refl _
  · split
    · exact (dn_perm hO ..).trans (swL_perm ..)
    · exact (up_perm hO ..).trans ((dn_perm hO ..).trans (swL_perm ..))
theorem up_high : ∀ (f : Nat) (s : List α) (i k : Nat), i < s.length → i < k → (O.up f s i)[k]? = s[k]?
  | 0, s, i, k, _, _ => rfl
  | f + 1, s, i, k, hs, hk => by
    unfold HOb.up
    split
    · rfl
    · split
      · rw [hO.sw, up_high f _ _ _ (by rw [swL_len]; omega) (by omega), swL_get (by omega) (by omega), tr_n (by omega) (by omega)]
      · rfl
theorem rm_last (s : List α) (i : Nat) (hi : i < s.length) : (O.rm s i)[s.length - 1]? = s[i]? := by
  unfold HOb.rm
  rw [hO.len, hO.sw]
  split
  · rename_i h; rw [h]
  · have h1 : ((O.dn (s.length - 1) (s.length - 1) (swL s i (s.length - 1)) i).1)[s.length - 1]? = s[i]? := by
      rw [dn_high hO _ _ _ _ _ (by rw [swL_len]; omega) (Nat.le_refl _), swL_get hi (by omega), tr_r]
    split
    · exact h1
    · rw [up_high hO _ _ _ _ (by rw [(dn_perm hO ..).length_eq, swL_len]; omega) (by omega)]
      exact h1
theorem rm_heap (hr : SW r) (s : List α) (i : Nat) (hi : i < s.length) (h : Hd r s s.length 0) : Hd r (O.rm s i) (s.length - 1) 0 := by
  unfold HOb.rm
  rw [hO.len, hO.sw]
  split
  · exact fun j h0 hj hl => h j h0 (by omega) hl
  · rename_i hne
    refine mend_heap hO hr (s.length - 1) (swL s i (s.length - 1)) i (by rw [swL_len]; omega) (by omega) fun j h0 hj => ⟨fun hji hp => ?_, fun hp hi0 => ?_⟩
    · rw [ltL_sw hi (by omega), tr_n hji (by omega), tr_n hp (by omega)]
      exact h j h0 (by omega) (Nat.zero_le _)
    · rw [ltL_sw hi (by omega), tr_n (by omega) (by omega), tr_n (by omega) (by omega)]
      have e1 := h j h0 (by omega) (Nat.zero_le _)
      have e2 := h i hi0 hi (Nat.zero_le _)
      rw [hp] at e1
      exact ltL_ntr hr (by omega) e1 e2
end
/-- one place turned -/
theorem Hd.fk {α : Type} {r : α → α → Bool} (hr : SW r) {s : List α} (h : Hd r s s.length 0) {i : Nat} (hi : i < s.length) (x : α) : Fk r (s.set i x) (s.set i x).length i := by
  have hg : ∀ a b, a ≠ i → b ≠ i → ltL r (s.set i x) a b = ltL r s a b := fun a b ha hb => by
    unfold ltL
    rw [List.getElem?_set_ne (fun h => ha h.symm), List.getElem?_set_ne (fun h => hb h.symm)]
  intro j h0 hj
  rw [List.length_set] at hj
  refine ⟨fun hji hp => by rw [hg _ _ hji hp]; exact h j h0 hj (Nat.zero_le _), fun hp hi0 => ?_⟩
  rw [hg _ _ (by omega) (by omega)]
  have e1 := h j h0 hj (Nat.zero_le _)
  have e2 := h i hi0 hi (Nat.zero_le _)
  rw [hp] at e1
  exact ltL_ntr hr hi e1 e2
end Go.Proofs.Ytggnhcgmeibihaa
