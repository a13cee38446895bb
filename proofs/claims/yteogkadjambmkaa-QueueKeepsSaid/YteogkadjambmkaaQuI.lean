/-
  A queue's numbers, popped and pushed within the queue. Conditions: each theorem's own.
-/
import Derived.Test.YteogkadjambmkaaQuH
namespace Go.Proofs.Yteogkadjambmkaa
open Go Go.RowKit
set_option linter.unusedVariables false

/-- .. wherever the numbers' row lies. -/
def quX (qb mb : Nat) (cap last : Int) (ws bys s : List Int) (M : List ME) (c : Nat) (L : List QE) (wv bv : Value) : Vp :=
  ⟨fun w F _ => ∃ lv, QuS qb mb cap last ws bys s M c L wv lv bv w F, fun ⟨lv, h⟩ hk => ⟨lv, h.keep hk⟩⟩
section
variable {qb mb : Nat} {cap last : Int} {ws bys s : List Int} {M : List ME} {c : Nat} {L : List QE} {wv lv bv : Value} {w : World} {F : Nat → Prop}
theorem QuS.nu (h : QuS qb mb cap last ws bys s M c L wv lv bv w F) : (nuP qb (.int .i64 cap) wv (.map (some mb)) bv (.int .u64 last) s).at_ w (fun k => k = qb ∨ lv.ownBlock = some k) (.bool true) :=
  ⟨lv, h.q, .inl rfl, h.ls, fun k hk => .inr hk, h.sl⟩
/-- The numbers have turned, all else is as it was. -/
theorem QuS.turnNu (h : QuS qb mb cap last ws bys s M c L wv lv bv w F) {w' : World} {F1 : Nat → Prop} {s' : List Int} (h2 : Hp w w' [.rep (fun w => (nuP qb (.int .i64 cap) wv (.map (some mb)) bv (.int .u64 last) s').at_ w F1 (.bool true)) F1 true])
    (h1 : ∀ k, F1 k → (k = qb ∨ lv.ownBlock = some k) ∨ w.heap.size ≤ k) : ∃ lv', QuS qb mb cap last ws bys s' M c L wv lv' bv w' (fun k => F k ∨ F1 k) := by
  obtain ⟨⟨lv', k1, k2, k3, k4, k5⟩, _, hlt⟩ := h2.own _ List.mem_cons_self
  have hold : ∀ k o, w.heap[k]? = some o → k ≠ qb → lv.ownBlock ≠ some k → w'.heap[k]? = some o := fun k o ho n1 n2 => (h2.old k (heap_lt ho) fun e he _ hh => by
    rw [List.mem_singleton] at he
    subst he
    rcases h1 k hh with (h3 | h3) | h3
    · exact n1 h3
    · exact n2 h3
    · have := heap_lt ho; omega).trans ho
  have lrow : ∀ k, lv.ownBlock = some k → ∃ cur, w.heap[k]? = some (.cells cur 59 (0, 0)) := fun k hk => row_blk h.ls hk
  have wrow : ∀ k, wv.ownBlock = some k → k ≠ qb ∧ lv.ownBlock ≠ some k := fun k hk => by
    obtain ⟨cur, hc⟩ := row_blk h.ws hk
    exact ⟨cells_ne hc h.q (by decide), fun hl => by
      obtain ⟨cur2, hc2⟩ := lrow k hl
      exact cells_ne hc hc2 (by decide) rfl⟩
  have brow : ∀ k, bv.ownBlock = some k → k ≠ qb ∧ lv.ownBlock ≠ some k := fun k hk => by
    obtain ⟨cur, hc⟩ := row_blk h.bs hk
    exact ⟨cells_ne hc h.q (by decide), fun hl => by
      obtain ⟨cur2, hc2⟩ := lrow k hl
      exact cells_ne hc hc2 (by decide) rfl⟩
  have hmb : mb ≠ qb ∧ lv.ownBlock ≠ some mb := ⟨fun e => map_ne h.q h.m e.symm, fun hl => by
    obtain ⟨cur2, hc2⟩ := lrow mb hl
    exact map_ne hc2 h.m rfl⟩
  have kw : ∀ {v : Value} {E : TypeId} {n : Nat} {xs : List Value}, w.ownsRow 0 E 1 v n xs → (∀ k, v.ownBlock = some k → k ≠ qb ∧ lv.ownBlock ≠ some k) → w'.ownsRow 0 E 1 v n xs := fun hr hne => own_keep hr fun k hv => by
    obtain ⟨cur, hc⟩ := row_blk hr hv
    rw [hc]
    exact hold k _ hc (hne k hv).1 (hne k hv).2
  exact ⟨lv', k1, .inl h.Fq, kw h.ws wrow, fun k hk => .inl (h.Fw k hk), k3, fun k hk => .inr (k4 k hk), kw h.bs brow, fun k hk => .inl (h.Fb k hk), h.wb, hold mb _ h.m hmb.1 hmb.2, .inl h.Fm, h.mok, k5,
    h.ml.keep fun k hk hl => by
      obtain ⟨hkF, hkn⟩ := hk
      obtain ⟨o, ho⟩ : ∃ o, w.heap[k]? = some o := ⟨_, Array.getElem?_eq_getElem hl⟩
      refine ⟨by rw [ho]; exact hold k o ho (fun e => hkn (.inl e)) (fun e => hkn (.inr (.inr (.inr (.inl e))))), .inl hkF, ?_⟩
      rintro (e | e | e | e | e)
      · exact hkn (.inl e)
      · exact hkn (.inr (.inl e))
      · exact hkn (.inr (.inr (.inl e)))
      · rcases h1 k (k4 k e) with (h3 | h3) | h3
        · exact hkn (.inl h3)
        · exact hkn (.inr (.inr (.inr (.inl h3))))
        · omega
      · exact hkn (.inr (.inr (.inr (.inr e))))⟩
theorem qlow_pop (h : QuS qb mb cap last ws bys s M c L wv lv bv w F) (hF : ∀ k, F k → k < w.heap.size) {x : Int} (hx : s[0]? = some x) : Calls Try.prog 46 #[nuI qb] w fun e w' => (∃ y, e = .returned (.iface 59 (.int .u64 y))) ∧
    Hp w w' [.rep (fun w => (quX qb mb cap last ws bys (((nuOb qb (.int .i64 cap) wv (.map (some mb)) bv (.int .u64 last)).pp s).take (s.length - 1)) M c L wv bv).at_ w F (.bool true)) F true] := by
  refine (nuheap_pop h.nu (fun k hk => ?_) hx).mono fun e w' ⟨he, h8⟩ => ⟨he, ?_⟩
  · rcases hk with rfl | hk
    · exact heap_lt h.q
    · exact (World.ownsRow.lt h.ls k hk).2
  · obtain ⟨lv', hS⟩ := h.turnNu h8 fun k hk => .inl hk
    have hsub : ∀ k, (k = qb ∨ lv.ownBlock = some k) → F k := fun k hk => by
      rcases hk with rfl | hk
      · exact h.Fq
      · exact h.Fl k hk
    refine h8.widen hsub ⟨lv', hS.keep fun k hk _ => ⟨rfl, hk.elim id fun h9 => hsub k h9⟩⟩ (Vp.loc (p := quX qb mb cap last ws bys _ M c L wv bv)) hF
theorem qlow_push (h : QuS qb mb cap last ws bys s M c L wv lv bv w F) (hF : ∀ k, F k → k < w.heap.size) (hs : s.length < 1073741824) (x : Int) : Calls Try.prog 52 #[nuI qb, .iface 59 (.int .u64 x)] w fun e w' => e = .returned (.tuple #[]) ∧ ∃ F', (∀ k, F k → F' k) ∧ (∀ k, F' k → F k ∨ w.heap.size ≤ k) ∧
    Hp w w' [.rep (fun w => (quX qb mb cap last ws bys ((nuOb qb (.int .i64 cap) wv (.map (some mb)) bv (.int .u64 last)).up (s.length + 1) (s ++ [x]) s.length) M c L wv bv).at_ w F' (.bool true)) F' true] := by
  refine (nuheap_push h.nu (fun k hk => ?_) hs).mono fun e w' ⟨he, F1, f1, f2, h8⟩ => ⟨he, fun k => F k ∨ F1 k, fun k hk => .inl hk, fun k hk => ?_, ?_⟩
  · rcases hk with rfl | hk
    · exact heap_lt h.q
    · exact (World.ownsRow.lt h.ls k hk).2
  · rcases hk with hk | hk
    · exact .inl hk
    · rcases f2 k hk with (rfl | h9) | h9
      · exact .inl h.Fq
      · exact .inl (h.Fl k h9)
      · exact .inr h9
  · obtain ⟨lv', hS⟩ := h.turnNu h8 f2
    refine h8.widenM (fun e he k hk => by
      rw [List.mem_singleton] at he
      subst he
      exact .inr hk) ⟨lv', hS⟩ (Vp.loc (p := quX qb mb cap last ws bys _ M c L wv bv)) (fun k hk => ?_)
    rcases hk with hk | hk
    · exact Nat.lt_of_lt_of_le (hF k hk) h8.size
    · exact (h8.own _ List.mem_cons_self).2.2 k hk
end
end Go.Proofs.Yteogkadjambmkaa
