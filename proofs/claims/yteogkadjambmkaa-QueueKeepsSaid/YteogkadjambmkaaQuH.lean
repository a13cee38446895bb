/-
  A queue's Get. Conditions: each theorem's own.
-/
import Derived.Test.YteogkadjambmkaaQuG
namespace Go.Proofs.Yteogkadjambmkaa
open Go Go.RowKit
set_option linter.unusedVariables false

def qFind (L : List QE) (n : Int) : Option QE := L.find? fun x => decide (x.1 = n)
theorem qFind_at : ∀ {L : List QE} {i : Nat} {x : QE}, (L.map (·.1)).Nodup → L[i]? = some x → qFind L x.1 = some x
  | y :: L, 0, x, _, h => by
    cases h
    simp [qFind]
  | y :: L, i + 1, x, hn, h => by
    rw [List.map_cons, List.nodup_cons] at hn
    have hx : x ∈ L := List.mem_of_getElem? h
    have hne : y.1 ≠ x.1 := fun e => hn.1 (List.mem_map.2 ⟨x, hx, e.symm⟩)
    have := qFind_at hn.2 (i := i) (x := x) (by simpa using h)
    unfold qFind at this ⊢
    rw [List.find?_cons_of_neg (by simpa using hne)]
    exact this
theorem qFind_none {L : List QE} {n : Int} (h : n ∉ L.map (·.1)) : qFind L n = none := by
  unfold qFind
  rw [List.find?_eq_none]
  intro x hx
  simp only [decide_eq_true_eq]
  exact fun e => h (List.mem_map.2 ⟨x, hx, e⟩)
section
variable {w : World} {G : Nat → Prop} {M : List ME} {L : List QE} {n : Int}
theorem MLz.hit (h : MLz w G M L) (hk : (M.map (·.1)).Nodup) {v : Value} (hg : mGet M n = some v) : ∃ (i : Nat) (p : ME) (x : QE), M[i]? = some p ∧ L[i]? = some x ∧ x.1 = n ∧ p.2.1 = v ∧ qFind L n = some x := by
  obtain ⟨p, hp, e1, e2⟩ := (mGet_iff hk n v).1 hg
  obtain ⟨i, hi⟩ := List.mem_iff_getElem?.1 hp
  have hil := (List.getElem?_eq_some_iff.1 hi).1
  obtain ⟨x, hx⟩ : ∃ x, L[i]? = some x := ⟨_, List.getElem?_eq_getElem (by rw [← h.len]; exact hil)⟩
  have h3 := (h.at_ i p x hi hx).1
  have h4 : x.1 = n := h3.symm.trans e1
  exact ⟨i, p, x, hi, hx, h4, e2, by rw [← h4]; exact qFind_at (by rw [← h.keys]; exact hk) hx⟩
theorem MLz.miss (h : MLz w G M L) (hg : mGet M n = none) : qFind L n = none := qFind_none (by rw [← h.keys]; exact mGet_mem.1 hg)
end
/-- what Get answers: class, bytes, is it there -/
def qGot (L : List QE) (n : Int) : Int × List Int × Bool := match qFind L n with
  | some x => (x.2.1, x.2.2, true)
  | none => (0, [], false)
section
variable {qb : Nat} {cap last : Int} {ws : List Int} {L : List QE} {K : Nat} {w : World} {F : Nat → Prop}
set_option maxHeartbeats 1000000 in
theorem q_get (h : (quA qb cap last ws L K).at_ w F (.bool true)) (hok : QOk cap last ws L) (n : Int) : Calls Try.prog 30 #[qptr qb, .int .u64 n] w fun e w' => ∃ a c, e = .returned (.tuple #[.agg #[.int .i64 (qGot L n).1, .slice a (qGot L n).2.1.length c], .bool (qGot L n).2.2]) ∧ Below w.heap.size w w' ∧ w'.ownsRow w.heap.size 5 1 (.slice a (qGot L n).2.1.length c) (qGot L n).2.1.length ((qGot L n).2.1.map (.int .u8)) := by
  obtain ⟨mb, bys, s, M, cc, wv, lv, bv, hS, _, hbys, _⟩ := h
  obtain ⟨F2, hst⟩ := Hp.startR (p := quV qb mb cap last ws bys s M cc L wv lv bv) (v := .bool true) hS
  refine enter2 Try.func30 rfl rfl hst ?_
  repeat (first | refine T_seq ?_ | refine T_region ?_)
  refine S_new tabOk rfl (fun b4 hb4 => ?_)
  repeat (first | refine T_seq ?_ | refine T_region ?_ | refine S_nil ?_ | refine S_pure tabOk rfl ?_)
  refine S_q (Q_eqptr tabOk rfl rfl rfl rfl rfl) ?_
  repeat (first | refine S_nil ?_)
  refine T_cond_f rfl ?_
  repeat (first | refine T_seq ?_ | refine T_region ?_ | refine pthen_normal ?_ | refine T_skip ?_ | refine S_pure tabOk rfl ?_)
  refine S_load1 tabOk (v := .map (some mb)) rfl rfl (fun w' hw => QuS.cell (hw.own _ (getE_mem (i := 1) rfl)).1 (j := 2) rfl) ?_
  repeat (first | refine S_pure tabOk rfl ?_)
  cases hg : mGet M n with
  | none =>
    have hm := hS.ml.miss hg
    have hgot : qGot L n = (0, [], false) := by unfold qGot; rw [hm]
    rw [hgot]
    refine S_q ((Q_look0 tabOk rfl rfl rfl rfl rfl rfl rfl rfl (fun w' hw => by exact QuS.m (hw.own _ (getE_mem (i := 1) rfl)).1) hg).eq (v' := .tuple #[.agg #[.int .i64 0, .slice none 0 0], .bool false]) rfl) ?_
    repeat (first | refine S_pure tabOk rfl ?_)
    refine S_new tabOk rfl (fun b6 hb6 => ?_)
    repeat (first | refine T_seq ?_ | refine T_region ?_ | refine S_nil ?_ | refine S_pure tabOk rfl ?_ | refine S_load tabOk 0 rfl rfl rfl ?_ | refine S_store tabOk 0 rfl rfl rfl rfl rfl rfl ?_)
    refine S_call rfl Try.call51 (fun w1 h1 => (qown_ok (p := ⟨0, [], none, 0⟩) w1 ⟨rfl, Nat.le_refl _, (by decide), fun _ => ⟨rfl, rfl⟩, (fun z hz => by cases hz), Sl.nil_⟩ (by simp)).mono fun e w' ⟨a1, c1, e1, hb1, hr⟩ => ⟨_, _, e1, h1.fresh hb1 (x := .row w.heap.size (.slice a1 0 c1) 5 1 0 []) (own_rebase hr h1.size) (fun j hj => (World.ownsRow.lt hr j hj).1), ?_⟩)
    repeat (first | refine S_nil ?_ | refine T_ret ?_ | refine S_pure tabOk rfl ?_ | refine S_store tabOk 2 rfl rfl rfl rfl rfl rfl ?_)
    exact ret2 rfl (ResIs.cellO tabOk 2 rfl rfl rfl rfl) rfl (fun w' hw => ⟨a1, c1, rfl, hw.below (by repeat (first | exact new_nil | refine new_ro ?_ | refine new_cons (by first | assumption | omega) ?_ | refine newrow hw 0 rfl (Nat.le_refl _) ?_)), hw.own _ (getE_mem (i := 0) rfl)⟩)
  | some u =>
    obtain ⟨i, p, x, hp, hx, rfl, rfl, hf⟩ := hS.ml.hit hS.mok.keys hg
    have hgot : qGot L x.1 = (x.2.1, x.2.2, true) := by unfold qGot; rw [hf]
    rw [hgot]
    obtain ⟨_, a, m, c, e2, h3⟩ := hS.ml.at_ i p x hp hx
    have hml := h3.len
    subst hml
    rw [e2] at hg
    refine S_q (Q_look1 tabOk rfl rfl rfl rfl rfl rfl rfl rfl (fun w' hw => QuS.m (hw.own _ (getE_mem (i := 1) rfl)).1) hg) ?_
    repeat (first | refine S_pure tabOk rfl ?_)
    refine S_new tabOk rfl (fun b6 hb6 => ?_)
    repeat (first | refine T_seq ?_ | refine T_region ?_ | refine S_nil ?_ | refine S_pure tabOk rfl ?_ | refine S_load tabOk 0 rfl rfl rfl ?_ | refine S_store tabOk 0 rfl rfl rfl rfl rfl rfl ?_)
    refine S_call rfl Try.call51 (fun w1 h1 => (qown_ok (p := ⟨x.2.1, x.2.2, a, c⟩) w1 (by
      obtain ⟨_, a', m', c', e2', h3'⟩ := (QuS.ml (h1.own _ (getE_mem (i := 2) rfl)).1).at_ i p x hp hx
      rw [e2] at e2'
      cases e2'
      exact h3'.ints) (by have := (hok.cls x (List.mem_of_getElem? hx)).2.2.2; show x.2.2.length ≤ _; omega)).mono fun e w' ⟨a1, c1, e1, hb1, hr⟩ => ⟨_, _, e1, h1.fresh hb1 (x := .row w.heap.size (.slice a1 x.2.2.length c1) 5 1 x.2.2.length (x.2.2.map (.int .u8))) (own_rebase hr h1.size) (fun j hj => (World.ownsRow.lt hr j hj).1), ?_⟩)
    repeat (first | refine S_nil ?_ | refine T_ret ?_ | refine S_pure tabOk rfl ?_ | refine S_store tabOk 2 rfl rfl rfl rfl rfl rfl ?_)
    exact ret2 rfl (ResIs.cellO tabOk 2 rfl rfl rfl rfl) rfl (fun w' hw => ⟨a1, c1, rfl, hw.below (by repeat (first | exact new_nil | refine new_ro ?_ | refine new_cons (by first | assumption | omega) ?_ | refine newrow hw 0 rfl (Nat.le_refl _) ?_)), hw.own _ (getE_mem (i := 0) rfl)⟩)
end
end Go.Proofs.Yteogkadjambmkaa
