/-
  An engine of rules for walks, part V: an S step as an operation of a region that draws. No program's text; conditions: each theorem's own.
-/
import Derived.Test.YtggnhcgmeibihaaEngU
namespace Go.Proofs.Ytggnhcgmeibihaa
open Go Go.RowKit
set_option linter.unusedVariables false

inductive LookD (ts : List Tmp) (dl : DL) : FL → Prop
  | nil : LookD ts dl []
  | cons {t : Nat} {v : Value} {l : FL} (h1 : ts.contains t = true) (h2 : lk dl t = some (.ex v)) (h : LookD ts dl l) : LookD ts dl ((t, v) :: l)
theorem LookD.get {ts : List Tmp} {dl : DL} {l : FL} (h : LookD ts dl l) {t : Nat} {v : Value} (hl : look l t = some v) : t ∈ ts ∧ lk dl t = some (.ex v) := by
  induction h with
  | nil => cases hl
  | @cons k u l h1 h2 h ih =>
    by_cases hkt : k = t
    · subst hkt
      rw [look_cons_eq] at hl
      cases hl
      exact ⟨by simpa using h1, h2⟩
    · rw [look_cons_ne hkt] at hl
      exact ih hl

theorem Oper.wp_put {P : Program} {o : Oper} {a : Act} {w : World} {R : Act → World → Prop} {Q : Exit → Act → World → Prop} (h : o.wp P a w R Q) (hd : ∀ a' w', R a' w' → a'.defers = []) (hq : ∀ e a w, e ≠ Exit.normal → Q e a w → False) (ha : a.defers = []) : o.wp P a w (fun a' w' => (∃ v, a' = a.put o.dst v) ∧ R a' w') (fun _ _ _ => False) := by
  unfold Oper.wp at *
  generalize (execOp a.eval o).run P w = r at *
  cases r with
  | ok x w' =>
    cases x <;> simp only [Oper.upon] at h ⊢ <;> try exact ⟨⟨_, rfl⟩, h⟩
    · refine Calls.mono h fun e w'' he => ?_
      cases e with
      | returned v => exact ⟨⟨_, rfl⟩, he⟩
      | panicked c => exact hq _ _ _ (fun h => by cases h) he
      | outgrown => obtain ⟨a', w3, h3⟩ := he; exact (hq _ _ _ (fun h => by cases h) h3).elim
    · have := hd _ _ h
      cases hdst : o.dst <;> rw [hdst] at this <;> simp [Act.put] at this
    · exact Rows.mono h fun v w'' he => ⟨⟨_, rfl⟩, he⟩
  | halt x w' =>
    cases x <;> simp only [Oper.upon] at h ⊢
    exact hq _ _ _ (fun h => by cases h) h
section
variable {γ : Type} {P : Program} {n : Nat} {w0 : World} {all : Array Oper} {o : Oper} {dl : DL} {ol : OL} {o2 : Value × γ → OL} {tk : Option Value}
theorem OpA.ofS {l : FL} {d : Nat} (hd : o.dst = some d) (hn : d < n) (hl : LookD (o.looksAt all) dl l)
    (h : S P n w0 all [o] l ol (fun l' ol' => ∃ v g, look l' d = some v ∧ (∀ u, tk = some u → v = u) ∧ ∀ w, Hp w0 w ol' → Hp w0 w (o2 (v, g))) (fun _ _ _ => False)) : OpA P n w0 all ol o2 dl o tk := by
  refine ⟨fun a w h1 h2 h3 h4 => ?_, fun d' hd' => by rw [hd] at hd'; cases hd'; exact hn⟩
  have hfr : Fr a n l := ⟨h1, h2, fun t v ht => by
    obtain ⟨g1, g2⟩ := hl.get ht
    have := h4 t g1
    rw [g2] at this
    obtain ⟨u, hu1, hu2⟩ := this
    rw [hu1, hu2]⟩
  have hw := h.out a w hfr h3
  obtain ⟨K, hK⟩ : ∃ K : FL → OL → Prop, K = fun l' ol' => ∃ v g, look l' d = some v ∧ (∀ u, tk = some u → v = u) ∧ ∀ w, Hp w0 w ol' → Hp w0 w (o2 (v, g)) := ⟨_, rfl⟩
  rw [← hK] at hw
  have hno : ∀ e a w, e ≠ Exit.normal → lift n w0 (pthen K (fun _ _ _ => False)) e a w → False := fun e a w he hh => by
    unfold lift pthen at hh
    obtain ⟨l', o', _, _, h9⟩ := hh
    cases e <;> first | exact he rfl | exact h9
  unfold wpList at hw
  have hput : ∀ v, (a.put o.dst v).tmps[d]? = some v := fun v => by
    rw [hd]
    simp [Act.put, h2, hn]
  constructor
  · intro hwant
    rw [if_pos hwant] at hw
    have hw2 : o.wp P a w (wpList P all (lift n w0 (pthen K (fun _ _ _ => False))) []) (lift n w0 (pthen K (fun _ _ _ => False))) := by
      rcases hw with hw | ⟨_, a', w', h9⟩
      · exact hw
      · exact (hno _ _ _ (fun h => by cases h) h9).elim
    refine Oper.wp_mono2 (fun a' w' hr => ?_) (fun _ _ _ h => h) (Oper.wp_put hw2 (fun a' w' hr => by
      unfold wpList lift at hr
      obtain ⟨l', o', hf, _, _⟩ := hr
      exact hf.defers) hno h1)
    unfold wpList lift pthen at hr
    obtain ⟨⟨v, hv⟩, l', o', hf, hh, hk⟩ := hr
    dsimp only at hk
    rw [hK] at hk
    obtain ⟨u, g, g1, g2, g3⟩ := hk
    have hvu : v = u := by
      have e1 := hf.get d u g1
      rw [hv, hput v] at e1
      exact Option.some.inj e1
    subst hvu
    exact ⟨(v, g), g2, hv, g3 w' hh⟩
  · intro hwant
    rw [if_neg (by rw [hwant]; decide)] at hw
    unfold wpList lift pthen at hw
    obtain ⟨l', o', hf, hh, hk⟩ := hw
    dsimp only at hk
    rw [hK] at hk
    obtain ⟨u, g, g1, g2, g3⟩ := hk
    have hvu : undef = u := by
      have e1 := hf.get d u g1
      rw [hput undef] at e1
      exact Option.some.inj e1
    subst hvu
    exact ⟨g2, g, g3 w hh⟩
end
theorem T_asThen {P : Program} {n : Nat} {w0 : World} {c : Code} {l : FL} {ol : OL} {Q : Post} (h : T P n w0 c l ol (pthen (fun l o => Q .normal l o) Q)) : T P n w0 c l ol Q :=
  T_mono h fun e l o hq => by
    unfold pthen at hq
    cases e <;> exact hq
/-- Blocks of our own, grouped anew. -/
theorem Hp.regroup {w0 w : World} (A A' : OL) {ol : OL} (h : Hp w0 w (A ++ ol)) (hA : ∀ e ∈ A, e.ex = true) (hA' : ∀ e ∈ A', e.ex = true ∧ e.holds w) (hd : A'.Pairwise Dis) (h1 : ∀ e ∈ A', ∀ k, e.has k → ∃ e' ∈ A, e'.has k) (h2 : ∀ e ∈ A, ∀ k, e.has k → w0.heap.size ≤ k ∨ ∃ e' ∈ A', e'.has k) : Hp w0 w (A' ++ ol) := by
  have hap := List.pairwise_append.1 h.apart
  refine ⟨h.os, h.tape, h.output, h.size, fun k hk he => h.old k hk fun e hm hx hh => ?_, fun e hm => ?_, List.pairwise_append.2 ⟨hd, hap.2.1, fun e he e2 he2 _ k hk hk2 => ?_⟩⟩
  · rcases List.mem_append.1 hm with hm | hm
    · rcases h2 e hm k hh with h3 | ⟨e', he', h3⟩
      · omega
      · exact he e' (List.mem_append_left _ he') (hA' e' he').1 h3
    · exact he e (List.mem_append_right _ hm) hx hh
  · rcases List.mem_append.1 hm with hm | hm
    · exact (hA' e hm).2
    · exact h.own e (List.mem_append_right _ hm)
  · obtain ⟨e', he', h3⟩ := h1 e he k hk
    exact hap.2.2 e' he' e2 he2 (by rw [hA e' he']; rfl) k h3 hk2
theorem new_rx {w0 : World} {Φ : World → Prop} {F : Nat → Prop} {r : Bool} {ol : OL} (h : ∀ k, F k → w0.heap.size ≤ k) (hs : ∀ e ∈ ol, e.ex = true → ∀ k, e.has k → w0.heap.size ≤ k) : ∀ e ∈ HE.rep Φ F r :: ol, e.ex = true → ∀ k, e.has k → w0.heap.size ≤ k := fun e he => by
  rcases List.mem_cons.1 he with rfl | he
  · exact fun _ k hk => h k hk
  · exact hs e he
theorem ints_own {w : World} {base : Nat} {e : TypeId} {k : IntKind} {a : Option Addr} {n c : Nat} {zs : List Int} (h : w.ownsRow base e 1 (.slice a n c) n (zs.map (.int k))) (hb : ∀ z ∈ zs, Fits k z) : Ints k w a n c zs := by
  have hsl := Sl.of_own h
  obtain ⟨A, C, e1, h1, h2⟩ := form_of_own h
  cases e1
  refine ⟨by simpa using hsl.len, h1, h2, fun ha => ?_, hb, hsl⟩
  obtain ⟨_, h3⟩ := h
  rcases h3 with ⟨e2, rfl⟩ | ⟨g, cap, cur, e2, _⟩
  · cases e2; exact ⟨rfl, rfl⟩
  · cases e2; cases ha
theorem T_toX {P : Program} {n : Nat} {w0 : World} {c : Code} {l : FL} {ol : OL} {Q : Post} {ι : Type} (I : ι → Prop) (O : ι → OL) (h : ∀ w, Hp w0 w ol → ∃ i, I i ∧ Hp w0 w (O i)) (k : ∀ i, I i → T P n w0 c l (O i) Q) : T P n w0 c l ol Q :=
  ⟨fun a w hf hh => by
    obtain ⟨i, h1, h2⟩ := h w hh
    exact (k i h1).out a w hf h2⟩
theorem S_toX {P : Program} {n : Nat} {w0 : World} {all : Array Oper} {os : List Oper} {l : FL} {ol : OL} {K : FL → OL → Prop} {Q : Post} {ι : Type} (I : ι → Prop) (O : ι → OL) (h : ∀ w, Hp w0 w ol → ∃ i, I i ∧ Hp w0 w (O i)) (k : ∀ i, I i → S P n w0 all os l (O i) K Q) : S P n w0 all os l ol K Q :=
  ⟨fun a w hf hh => by
    obtain ⟨i, h1, h2⟩ := h w hh
    exact (k i h1).out a w hf h2⟩
end Go.Proofs.Ytggnhcgmeibihaa
