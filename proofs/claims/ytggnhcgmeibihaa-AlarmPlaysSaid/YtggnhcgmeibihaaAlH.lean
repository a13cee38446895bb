/-
  The walk of alarm's Due. Conditions: each theorem's own.
-/
import Derived.Test.YtggnhcgmeibihaaAlG
namespace Go.Proofs.Ytggnhcgmeibihaa
open Go Go.RowKit
set_option linter.unusedVariables false

def dOut (l : List DE) (now : Int) : List Int := (l.takeWhile fun p => decide (p.2 ≤ now)).map (·.1)
def dRest (l : List DE) (now : Int) : List DE := l.dropWhile fun p => decide (p.2 ≤ now)
theorem while_at {α : Type} {p : α → Bool} : ∀ {l : List α} {k : Nat}, (∀ j x, j < k → l[j]? = some x → p x = true) → (∀ x, l[k]? = some x → p x = false) → k ≤ l.length → l.takeWhile p = l.take k ∧ l.dropWhile p = l.drop k
  | [], k, _, _, h => by
    have : k = 0 := by simpa using h
    subst this
    exact ⟨rfl, rfl⟩
  | x :: l, 0, _, h2, _ => by
    rw [List.takeWhile_cons_of_neg (by rw [h2 x rfl]; decide), List.dropWhile_cons_of_neg (by rw [h2 x rfl]; decide)]
    exact ⟨rfl, rfl⟩
  | x :: l, k + 1, h1, h2, h => by
    have := while_at (p := p) (l := l) (k := k) (fun j y hj hy => h1 (j + 1) y (by omega) (by rw [List.getElem?_cons_succ]; exact hy)) (fun y hy => h2 y (by rw [List.getElem?_cons_succ]; exact hy)) (by simpa using h)
    rw [List.takeWhile_cons_of_pos (h1 0 x (by omega) rfl), List.dropWhile_cons_of_pos (h1 0 x (by omega) rfl), this.1, this.2]
    exact ⟨rfl, rfl⟩
theorem due_at {l : List DE} {now : Int} {k : Nat} (h1 : ∀ p ∈ l.take k, p.2 ≤ now) (h2 : ∀ p, l[k]? = some p → now < p.2) (h : k ≤ l.length) : dOut l now = (l.take k).map (·.1) ∧ dRest l now = l.drop k := by
  have := while_at (p := fun p : DE => decide (p.2 ≤ now)) (l := l) (k := k) (fun j x hj hx => by
    rw [decide_eq_true_eq]
    exact h1 x (List.mem_of_getElem? (i := j) (by rw [List.getElem?_take_of_lt hj]; exact hx))) (fun x hx => by
    rw [decide_eq_false_iff_not]
    have := h2 x hx
    omega) h
  unfold dOut dRest
  rw [this.1, this.2]
  exact ⟨rfl, rfl⟩
structure DueI where
  k : Nat
  A : Option Addr
  C : Nat
  F : Nat → Prop
abbrev u64s (l : List Int) : List Value := l.map (.int .u64)
set_option maxHeartbeats 2000000 in
theorem al_due {ab : Nat} {l : List DE} {w : World} {F : Nat → Prop} (h : (alA ab l).at_ w F (.bool true)) (hF : ∀ k, F k → k < w.heap.size) (hl : l.length < 1073741824) (now : Int) : Calls Try.prog 15 #[aptr ab, .int .i64 now] w fun e w' => ∃ A C, e = .returned (.slice A (dOut l now).length C) ∧
    ∃ F' : Nat → Prop, (∀ k, F k → F' k) ∧ (∀ k, F' k → F k ∨ w.heap.size ≤ k) ∧ Hp w w' [.row w.heap.size (.slice A (dOut l now).length C) 27 1 (dOut l now).length (u64s (dOut l now)), .rep (fun w => (alA ab (dRest l now)).at_ w F' (.bool true)) F' true] := by
  refine enter2 Try.func15 rfl rfl (Hp.startO h hF) ?_
  repeat (first | refine T_seq ?_ | refine T_region ?_ | refine T_block ?_ | refine S_nil ?_ | refine S_pure tabOk rfl ?_)
  refine T_loop (ι := DueI) (fun i => [(0, aptr ab), (1, .int .i64 now), (5, .slice i.A i.k i.C)])
    (fun i => [.row w.heap.size (.slice i.A i.k i.C) 27 1 i.k (u64s ((l.take i.k).map (·.1))), .rep (fun w => (alA ab (l.drop i.k)).at_ w i.F (.bool true)) i.F true])
    (fun i => i.k ≤ l.length ∧ (∀ p ∈ l.take i.k, p.2 ≤ now) ∧ (∀ k, F k → i.F k) ∧ (∀ k, i.F k → F k ∨ w.heap.size ≤ k)) (fun i => l.length - i.k) ⟨0, none, 0, F⟩ ⟨Nat.zero_le _, by simp, fun k hk => hk, fun k hk => .inl hk⟩ (by repeat (first | exact Sub.nil | refine Sub.cons rfl ?_)) (fun w' hw => hw.nilRow _ _) ?_
  rintro ⟨k, A, C, F1⟩ ⟨hk, hle, hF1, hF2⟩
  dsimp only at hk hle hF1 hF2 ⊢
  refine T_toX (ι := Nat × List En × List ME × Nat) (fun i => AR i.2.1 i.2.2.1 (l.drop k) ∧ F1 i.1) (fun i => [.row w.heap.size (.slice A k C) 27 1 k (u64s ((l.take k).map (·.1))), .rep (fun w => (alS ab i.1 i.2.1 i.2.2.1 i.2.2.2).at_ w F1 (.bool true)) F1 true]) (fun w1 hh => by
    obtain ⟨⟨mb, s, M, c, e1, e2⟩, _, _⟩ := hh.own _ (getE_mem (i := 1) rfl)
    exact ⟨⟨mb, s, M, c⟩, ⟨e2, e1.2.2⟩, hh.turnX 1 rfl (fun _ => e1) Vp.loc rfl⟩) ?_
  rintro ⟨mb, s, M, c⟩ ⟨hR, hmb⟩
  dsimp only at hR hmb ⊢
  have hfin : ∀ w', (∀ p, l[k]? = some p → now < p.2) → Hp w w' [.row w.heap.size (.slice A k C) 27 1 k (u64s ((l.take k).map (·.1))), .rep (fun w => (alS ab mb s M c).at_ w F1 (.bool true)) F1 true] → ∃ A2 C2, Ending.returned (.slice A k C) = .returned (.slice A2 (dOut l now).length C2) ∧
    ∃ F' : Nat → Prop, (∀ k, F k → F' k) ∧ (∀ k, F' k → F k ∨ w.heap.size ≤ k) ∧ Hp w w' [.row w.heap.size (.slice A2 (dOut l now).length C2) 27 1 (dOut l now).length (u64s (dOut l now)), .rep (fun w => (alA ab (dRest l now)).at_ w F' (.bool true)) F' true] := fun w' h2 hw => by
    obtain ⟨e1, e2⟩ := due_at hle h2 hk
    have e3 : (dOut l now).length = k := by rw [e1, List.length_map, List.length_take]; omega
    rw [e3, e1, e2]
    exact ⟨A, C, rfl, F1, hF1, hF2, hw.turnX 1 rfl (fun h => ⟨mb, s, M, c, h, hR⟩) (Vp.loc (p := alA ab (l.drop k))) rfl⟩
  cases hd : l.drop k with
  | nil =>
    rw [hd] at hR
    repeat (first | refine T_seq ?_ | refine T_region ?_ | refine T_block ?_ | refine S_pure tabOk rfl ?_)
    refine S_callq rfl Try.call24 (fun w1 h1 => al_next (l := []) ⟨mb, s, M, c, (h1.own _ (getE_mem (i := 1) rfl)).1, hR⟩) ?_
    repeat (first | refine T_seq ?_ | refine T_region ?_ | refine S_nil ?_ | refine S_pure tabOk rfl ?_ | refine S_pass rfl rfl rfl ?_)
    refine T_cond_t rfl ?_
    repeat (first | refine T_seq ?_ | refine T_region ?_ | refine S_nil ?_ | refine inb_ret ?_ | refine pthen_ret ?_ | refine T_ret ?_ | refine S_pure tabOk rfl ?_)
    exact ret1 rfl rfl (fun w' hw => hfin w' (fun p hp => by
      have := (List.getElem?_eq_some_iff.1 hp).1
      rw [List.drop_eq_nil_iff] at hd
      omega) hw)
  | cons p rest =>
    have hkl : k < l.length := by
      rcases Nat.lt_or_ge k l.length with h | h
      · exact h
      · rw [List.drop_eq_nil_iff.2 h] at hd; cases hd
    have hpk : l[k]? = some p ∧ l.drop (k + 1) = rest := by
      rw [List.drop_eq_getElem_cons hkl] at hd
      cases hd
      exact ⟨List.getElem?_eq_getElem hkl, rfl⟩
    rw [hd] at hR
    have hpos : 0 < s.length := by rw [hR.len]; exact Nat.succ_pos _
    obtain ⟨x, hx⟩ : ∃ x, s[0]? = some x := ⟨_, List.getElem?_eq_getElem hpos⟩
    obtain ⟨rest', e1, e2⟩ := hR.root hx
    cases e1
    repeat (first | refine T_seq ?_ | refine T_region ?_ | refine T_block ?_ | refine S_pure tabOk rfl ?_)
    refine S_callq rfl Try.call24 (fun w1 h1 => al_next (l := enD x :: rest) ⟨mb, s, M, c, (h1.own _ (getE_mem (i := 1) rfl)).1, hR⟩) ?_
    repeat (first | refine T_seq ?_ | refine T_region ?_ | refine S_nil ?_ | refine S_pure tabOk rfl ?_)
    refine T_cond_dec rfl (fun hgt => ?_) (fun hgt => ?_)
    · repeat (first | refine T_seq ?_ | refine T_region ?_ | refine S_nil ?_ | refine inb_ret ?_ | refine pthen_ret ?_ | refine T_ret ?_ | refine S_pure tabOk rfl ?_)
      exact ret1 rfl rfl (fun w' hw => hfin w' (fun p hp => by
        rw [hpk.1] at hp
        cases hp
        exact hgt) hw)
    · repeat (first | refine T_seq ?_ | refine T_region ?_ | refine pthen_normal ?_ | refine T_skip ?_ | refine S_pure tabOk rfl ?_)
      refine S_q (Q_mkif tabOk rfl rfl rfl rfl) ?_
      refine S_callT 1 rfl Try.call53 rfl (fun w1 g => (alheap_pop (g.own _ (getE_mem (i := 1) rfl)).1 (g.own _ (getE_mem (i := 1) rfl)).2.2 hx).mono fun e w' ⟨he, F', g1, g2, g3⟩ => ⟨_, _, F', he, g3, g1, g2, _, rfl, ?_⟩)
      have hsz := g.size
      refine S_q (Q_tassert tabOk rfl rfl rfl rfl) ?_
      repeat (first | refine T_seq ?_ | refine S_nil ?_ | refine S_pure tabOk rfl ?_)
      refine T_drawT (by kernel_rfl) 8 rfl (by kernel_rfl) ?_
      repeat (first | refine D_pure tabOk rfl ?_)
      refine D_load1 tabOk (v := .map (some mb)) rfl rfl (fun w' hw => by
        have h9 := (hw.own _ (getE_mem (i := 1) rfl)).1
        exact alS_map (v := .bool true) ⟨h9.1.1, h9.2⟩) ?_
      repeat (first | refine D_pure tabOk rfl ?_)
      refine D_load1 tabOk (v := .int .u64 x.id) rfl rfl (fun w' hw => en_cell (hw.own _ (getE_mem (i := 1) rfl)).1.1.2.1 (j := 0) rfl) ?_
      repeat (first | refine D_all rfl ?_)
      refine S_deleteO tabOk 1 (Ψ := fun w => (alQ ab mb (((alOb 0 ab mb).pp s).take (s.length - 1)) (mDel M x.id) c x (s.length - 1)).at_ w F' (.bool true)) M c rfl rfl rfl rfl rfl rfl rfl rfl (g1 _ hmb) (fun w h => h.2.1) (fun w w' h h1 h2 => alQ_map_of h h1 h2) Vp.loc rfl ?_
      repeat (first | refine S_nil ?_ | refine S_pure tabOk rfl ?_ | refine T_region_any ?_)
      refine S_load1 tabOk (v := .int .u64 x.id) rfl rfl (fun w' hw => en_cell (hw.own _ (getE_mem (i := 1) rfl)).1.1.2.1 (j := 0) rfl) ?_
      refine S_bslice tabOk rfl rfl rfl rfl rfl rfl rfl rfl rfl rfl rfl rfl (fun nb hnb => ?_)
      refine S_append (ty := 0) tabOk 1 (news := [.int .u64 x.id]) rfl rfl rfl rfl rfl rfl rfl rfl rfl (by decide) (fun w' h => Sl.of_blk (h.own _ (getE_mem (i := 0) rfl)) rfl fun j u hu => by rw [Nat.zero_add]; exact hu) (fun u hu => by rw [List.mem_singleton] at hu; subst hu; rfl) (by simp only [maxLen]; omega) (by show (_ + _) * 8 ≤ _; omega) rfl (fun A' C' h1 h2 => ⟨_, rfl, ?_⟩)
      repeat (first | refine S_nil ?_ | refine pthen_normal ?_ | refine inb_normal ?_ | refine S_pure tabOk rfl ?_)
      have htk : l.take (k + 1) = l.take k ++ [enD x] := by rw [List.take_add_one, hpk.1]; rfl
      refine ⟨⟨k + 1, A', C', F'⟩, ⟨hkl, fun p hp => ?_, fun j hj => g1 j (hF1 j hj), fun j hj => ?_⟩, by repeat (first | exact Sub.nil | refine Sub.cons rfl ?_), fun w' hw => ?_, by show l.length - (k + 1) < l.length - k; omega⟩
      · rw [htk] at hp
        rcases List.mem_append.1 hp with hp | hp
        · exact hle p hp
        · rw [List.mem_singleton] at hp
          subst hp
          show x.tm ≤ now
          have : ¬ now < x.tm := hgt
          omega
      · rcases g2 j hj with h | h
        · exact hF2 j h
        · exact .inr (Nat.le_trans hsz h)
      · have h9 := hw.drop (fun _ k hk => by
          rw [← Option.some.inj hk]
          exact hnb)
        rw [htk, List.map_append, show u64s (List.map (·.1) (l.take k) ++ List.map (·.1) [enD x]) = u64s (List.map (·.1) (l.take k)) ++ [.int .u64 x.id] from List.map_append]
        exact h9.turnX 1 rfl (fun h => ⟨mb, _, _, c, ⟨h.1.1, h.2⟩, by
          have := hR.pop (alOb_ol 0 ab mb) hx
          rw [e2] at this
          rw [hpk.2]
          exact this⟩) (Vp.loc (p := alA ab (l.drop (k + 1)))) rfl
end Go.Proofs.Ytggnhcgmeibihaa
