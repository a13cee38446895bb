/-
  alarm.entries as a heap's object. Conditions: each theorem's own. (Made by genAlB.py.)
-/
import Derived.Test.YtggnhcgmeibihaaAlA
namespace Go.Proofs.Ytggnhcgmeibihaa
open Go Go.RowKit
set_option linter.unusedVariables false

/-- somebody's entry: its block, whose, when -/
structure En where
  b : Nat
  id : Int
  tm : Int
abbrev enO (x : En) (i : Nat) : Obj := .cells ⟨[.int .u64 x.id, .int .i64 x.tm, .int .i64 (i : Int)]⟩ 103 (0, 0)
abbrev enPt (x : En) : Value := .pointer (some ⟨x.b, 0, none⟩)
def enR (x y : En) : Bool := decide (x.tm < y.tm ∨ (x.tm = y.tm ∧ x.id < y.id))
theorem enR_sw : SW enR := by
  constructor
  · intro a b h
    simp only [enR, decide_eq_true_eq, decide_eq_false_iff_not] at h ⊢
    omega
  · intro a b c h1 h2
    simp only [enR, decide_eq_false_iff_not] at h1 h2 ⊢
    omega
/-- the alarm's block, its row, its entries -/
def alV (base ab mb : Nat) (s : List En) : Vp :=
  ⟨fun w F v => w.heap[ab]? = some (.cells ⟨[v, .map (some mb)]⟩ 99 (0, 0)) ∧ F ab ∧ w.ownsRow base 100 1 v s.length (s.map enPt) ∧ (∀ k, v.ownBlock = some k → F k) ∧ (∀ i x, s[i]? = some x → w.heap[x.b]? = some (enO x i) ∧ F x.b) ∧ s.length ≤ 1073741824,
   fun {w w' A B v} ⟨h1, h2, h3, h4, h5, h6⟩ hk => ⟨((hk ab h2 (heap_lt h1)).1).trans h1, (hk ab h2 (heap_lt h1)).2, own_keep h3 (fun k hv => (hk k (h4 k hv) (World.ownsRow.lt h3 k hv).2).1), fun k hv => (hk k (h4 k hv) (World.ownsRow.lt h3 k hv).2).2, fun i x hx => ⟨((hk x.b (h5 i x hx).2 (heap_lt (h5 i x hx).1)).1).trans (h5 i x hx).1, (hk x.b (h5 i x hx).2 (heap_lt (h5 i x hx).1)).2⟩, h6⟩⟩
def alP (base ab mb : Nat) (s : List En) : Vp :=
  ⟨fun w F _ => ∃ v, (alV base ab mb s).at_ w F v, fun ⟨v, h⟩ hk => ⟨v, (alV base ab mb s).keep h hk⟩⟩
theorem Hp.startR {w : World} {p : Vp} {v : Value} {F : Nat → Prop} (hv : p.at_ w F v) : ∃ F' : Nat → Prop, Hp w w [.rep (fun w => p.at_ w F' v) F' false] :=
  ⟨fun k => F k ∧ k < w.heap.size, (Hp.refl w).more ⟨p.keep hv fun k hk hlt => ⟨rfl, hk, hlt⟩, Vp.loc, fun k hk => hk.2⟩ fun e he => (by cases he)⟩
theorem alV_form {base ab mb : Nat} {s : List En} {w : World} {F : Nat → Prop} {v : Value} (h : (alV base ab mb s).at_ w F v) : ∃ a c, v = .slice a s.length c ∧ s.length ≤ c := by
  obtain ⟨a, c, h1, h2, _⟩ := form_of_own h.2.2.1
  exact ⟨a, c, h1, h2⟩
theorem alV_addr {base ab mb : Nat} {s : List En} {w : World} {F : Nat → Prop} {v : Value} (h : (alV base ab mb s).at_ w F v) (h0 : 0 < s.length) : ∃ g c, v = .slice (some ⟨g, 0, none⟩) s.length c := by
  obtain ⟨_, h2⟩ := h.2.2.1
  rcases h2 with ⟨_, h3⟩ | ⟨g, cap, cur, h3, _⟩
  · omega
  · exact ⟨g, cap, h3⟩
theorem alV_cell {base ab mb : Nat} {s : List En} {w : World} {F : Nat → Prop} {g c n : Nat} (h : (alV base ab mb s).at_ w F (.slice (some ⟨g, 0, none⟩) n c)) {i : Nat} {x : En} (hx : s[i]? = some x) : w.cell? ⟨g, 0 + i, none⟩ = some (enPt x) := by
  obtain ⟨a, c', e, _⟩ := alV_form h
  cases e
  rw [Nat.zero_add]
  have := (List.getElem?_eq_some_iff.1 hx).1
  exact own_cell h.2.2.1 (by omega) (by rw [List.getElem?_map, hx]; rfl)
theorem alV_en {base ab mb : Nat} {s : List En} {w : World} {F : Nat → Prop} {v : Value} (h : (alV base ab mb s).at_ w F v) {i : Nat} {x : En} (hx : s[i]? = some x) {j : Nat} {u : Value} (hu : [.int .u64 x.id, .int .i64 x.tm, .int .i64 (i : Int)][j]? = some u) : w.cell? ⟨x.b, 0 + j, none⟩ = some u :=
  (Sl.of_blk (n := 3) (sz := 1) (off := 0) (h.2.2.2.2.1 i x hx).1 rfl (fun j u hu => by rw [Nat.zero_add]; exact hu)).at_ (by decide) hu

theorem alen_ok (a : Option Addr) (n c : Nat) (w : World) : Calls Try.prog 119 #[.slice a n c] w fun e w' => e = .returned (.int .i64 (n : Int)) ∧ Below w.heap.size w w' := by
  refine enter1 Try.func119 rfl rfl (Hp.refl w) ?_
  repeat (first | refine T_seq ?_ | refine T_region ?_ | refine S_nil ?_ | refine T_ret ?_ | refine S_pure tabOk rfl ?_)
  exact ret1 rfl rfl (fun w' hw => ⟨rfl, hw.below (by repeat (first | exact new_nil))⟩)
set_option maxHeartbeats 1000000 in
theorem aless_ok (base ab mb : Nat) (s : List En) (F0 : Nat → Prop) (v : Value) (i j : Nat) (w : World) (h : (alV base ab mb s).at_ w F0 v) (hi : i < s.length) (hj : j < s.length) :
    Calls Try.prog 120 #[v, .int .i64 (i : Int), .int .i64 (j : Int)] w fun e w' => e = .returned (.bool (ltL enR s i j)) ∧ Below w.heap.size w w' := by
  obtain ⟨F, hst⟩ := Hp.startR h
  obtain ⟨g, c, rfl⟩ := alV_addr h (by omega)
  obtain ⟨x, hx⟩ : ∃ x, s[i]? = some x := ⟨_, List.getElem?_eq_getElem hi⟩
  obtain ⟨y, hy⟩ : ∃ y, s[j]? = some y := ⟨_, List.getElem?_eq_getElem hj⟩
  have hl : ltL enR s i j = enR x y := by unfold ltL; rw [hx, hy]
  rw [hl]
  refine enter3 Try.func120 rfl rfl hst ?_
  repeat (first | refine T_draw (by kernel_rfl) (by kernel_rfl) ?_ | refine D_pure tabOk rfl ?_ | refine T_seq ?_ | refine T_region ?_ | refine S_nil ?_ | refine S_pure tabOk rfl ?_)
  refine D_q (Q_idx1 tabOk rfl rfl rfl rfl rfl rfl rfl (j := i) rfl hi) ?_
  skip
  refine D_load1 tabOk (v := enPt x) rfl rfl (fun w' hw => alV_cell (hw.own _ (getE_mem (i := 0) rfl)).1 hx) ?_
  repeat (first | refine D_pure tabOk rfl ?_)
  refine D_load1 tabOk (v := .int .i64 x.tm) rfl rfl (fun w' hw => alV_en (hw.own _ (getE_mem (i := 0) rfl)).1 hx (j := 1) rfl) ?_
  repeat (first | refine D_pure tabOk rfl ?_)
  refine D_q (Q_idx1 tabOk rfl rfl rfl rfl rfl rfl rfl (j := j) rfl hj) ?_
  skip
  refine D_load1 tabOk (v := enPt y) rfl rfl (fun w' hw => alV_cell (hw.own _ (getE_mem (i := 0) rfl)).1 hy) ?_
  repeat (first | refine D_pure tabOk rfl ?_)
  refine D_load1 tabOk (v := .int .i64 y.tm) rfl rfl (fun w' hw => alV_en (hw.own _ (getE_mem (i := 0) rfl)).1 hy (j := 1) rfl) ?_
  repeat (first | refine D_all rfl ?_ | refine D_pure tabOk rfl ?_)
  refine T_cond_dec rfl (fun h1 => ?_) (fun h1 => ?_)
  · repeat (first | refine T_draw (by kernel_rfl) (by kernel_rfl) ?_ | refine D_pure tabOk rfl ?_ | refine T_seq ?_)
    refine D_q (Q_idx1 tabOk rfl rfl rfl rfl rfl rfl rfl (j := i) rfl hi) ?_
    skip
    refine D_load1 tabOk (v := enPt x) rfl rfl (fun w' hw => alV_cell (hw.own _ (getE_mem (i := 0) rfl)).1 hx) ?_
    repeat (first | refine D_pure tabOk rfl ?_)
    refine D_load1 tabOk (v := .int .i64 x.tm) rfl rfl (fun w' hw => alV_en (hw.own _ (getE_mem (i := 0) rfl)).1 hx (j := 1) rfl) ?_
    repeat (first | refine D_pure tabOk rfl ?_)
    refine D_q (Q_idx1 tabOk rfl rfl rfl rfl rfl rfl rfl (j := j) rfl hj) ?_
    skip
    refine D_load1 tabOk (v := enPt y) rfl rfl (fun w' hw => alV_cell (hw.own _ (getE_mem (i := 0) rfl)).1 hy) ?_
    repeat (first | refine D_pure tabOk rfl ?_)
    refine D_load1 tabOk (v := .int .i64 y.tm) rfl rfl (fun w' hw => alV_en (hw.own _ (getE_mem (i := 0) rfl)).1 hy (j := 1) rfl) ?_
    repeat (first | refine D_all rfl ?_ | refine D_pure tabOk rfl ?_ | refine pthen_ret ?_ | refine T_ret ?_)
    exact ret1 rfl rfl (fun w' hw => ⟨congrArg (fun b => Ending.returned (Value.bool b)) (by unfold enR; rw [decide_eq_decide]; omega), hw.below (by repeat (first | exact new_nil | refine new_ro ?_))⟩)
  · repeat (first | refine T_draw (by kernel_rfl) (by kernel_rfl) ?_ | refine D_pure tabOk rfl ?_ | refine T_seq ?_ | refine pthen_normal ?_ | refine T_skip ?_)
    refine D_q (Q_idx1 tabOk rfl rfl rfl rfl rfl rfl rfl (j := i) rfl hi) ?_
    skip
    refine D_load1 tabOk (v := enPt x) rfl rfl (fun w' hw => alV_cell (hw.own _ (getE_mem (i := 0) rfl)).1 hx) ?_
    repeat (first | refine D_pure tabOk rfl ?_)
    refine D_load1 tabOk (v := .int .u64 x.id) rfl rfl (fun w' hw => alV_en (hw.own _ (getE_mem (i := 0) rfl)).1 hx (j := 0) rfl) ?_
    repeat (first | refine D_pure tabOk rfl ?_)
    refine D_q (Q_idx1 tabOk rfl rfl rfl rfl rfl rfl rfl (j := j) rfl hj) ?_
    skip
    refine D_load1 tabOk (v := enPt y) rfl rfl (fun w' hw => alV_cell (hw.own _ (getE_mem (i := 0) rfl)).1 hy) ?_
    repeat (first | refine D_pure tabOk rfl ?_)
    refine D_load1 tabOk (v := .int .u64 y.id) rfl rfl (fun w' hw => alV_en (hw.own _ (getE_mem (i := 0) rfl)).1 hy (j := 0) rfl) ?_
    repeat (first | refine D_all rfl ?_ | refine D_pure tabOk rfl ?_ | refine T_ret ?_)
    exact ret1 rfl rfl (fun w' hw => ⟨congrArg (fun b => Ending.returned (Value.bool b)) (by unfold enR; rw [decide_eq_decide]; omega), hw.below (by repeat (first | exact new_nil | refine new_ro ?_))⟩)

/-- Blocks that are known, from the beginning on. -/
theorem Hp.startL {w : World} : ∀ {L : List (Nat × Obj)}, (∀ p ∈ L, w.heap[p.1]? = some p.2) → (L.map Prod.fst).Nodup → Hp w w (L.map fun p => HE.blk p.1 p.2 true)
  | [], _, _ => Hp.refl w
  | p :: L, h, hn => by
    rw [List.map_cons, List.nodup_cons] at hn
    refine (Hp.startL (fun q hq => h q (List.mem_cons_of_mem _ hq)) hn.2).more (x := .blk p.1 p.2 true) (h p List.mem_cons_self) fun e he _ k hk hk2 => ?_
    obtain ⟨q, hq, rfl⟩ := List.mem_map.1 he
    have h1 : p.1 = k := Option.some.inj hk
    have h2 : q.1 = k := Option.some.inj hk2
    exact hn.1 (by rw [h1, ← h2]; exact List.mem_map_of_mem hq)
theorem Hp.widenL {w w' : World} {A : OL} {Ψ : World → Prop} {F : Nat → Prop} (h : Hp w w' A) (hF : ∀ e ∈ A, ∀ k, e.has k → F k) (hΨ : Ψ w') (hl : Loc Ψ F) (hlt : ∀ k, F k → k < w.heap.size) : Hp w w' [.rep Ψ F true] :=
  ⟨h.os, h.tape, h.output, h.size, fun k hk he => h.old k hk fun e hm hx hh => he _ List.mem_cons_self rfl (hF e hm k hh),
    fun e hm => by
      rw [List.mem_singleton] at hm
      subst hm
      exact ⟨hΨ, hl, fun k hk => Nat.lt_of_lt_of_le (hlt k hk) h.size⟩,
    List.pairwise_singleton _ _⟩

abbrev alI (ab : Nat) : Value := .iface 105 (.pointer (some ⟨ab, 0, none⟩))
theorem alV_load {base ab mb : Nat} {s : List En} {w : World} {F : Nat → Prop} {v : Value} (h : (alV base ab mb s).at_ w F v) : (loadVar 97 ⟨ab, 0, none⟩).run Try.prog w = .ok v w :=
  loadVar_one tabOk (t := 97) rfl rfl (by
    have h1 := Sl.of_blk (n := 2) (sz := 1) (off := 0) (xs := [v, .map (some mb)]) h.1 rfl (fun j u hu => by rw [Nat.zero_add]; exact hu)
    have := h1.at_ (j := 0) (by decide) rfl
    rwa [Nat.zero_add] at this)
theorem alM_len {base ab mb : Nat} {s : List En} {w : World} {F : Nat → Prop} (h : (alP base ab mb s).at_ w F (.bool true)) : Meth Try.prog (alI ab) "Len" [] w fun e w' => e = .returned (.int .i64 (s.length : Int)) ∧ Below w.heap.size w w' := by
  obtain ⟨v, hv⟩ := h
  obtain ⟨a, c, rfl, _⟩ := alV_form hv
  exact meth_val' (f := 119) (by kernel_rfl) (by kernel_rfl) Try.call119 (alV_load hv) (alen_ok a s.length c w)
theorem alM_less {base ab mb : Nat} {s : List En} {w : World} {F : Nat → Prop} {i j : Nat} (h : (alP base ab mb s).at_ w F (.bool true)) (hi : i < s.length) (hj : j < s.length) : Meth Try.prog (alI ab) "Less" [.int .i64 (i : Int), .int .i64 (j : Int)] w fun e w' => e = .returned (.bool (ltL enR s i j)) ∧ Below w.heap.size w w' := by
  obtain ⟨v, hv⟩ := h
  exact meth_val' (f := 120) (by kernel_rfl) (by kernel_rfl) Try.call120 (alV_load hv) (aless_ok base ab mb s F v i j w hv hi hj)
set_option maxHeartbeats 1000000 in
theorem alM_swap {base ab mb : Nat} {s : List En} {w : World} {F : Nat → Prop} {i j : Nat} (h : (alP base ab mb s).at_ w F (.bool true)) (hF : ∀ k, F k → k < w.heap.size) (hi : i < s.length) (hj : j < s.length) :
    Meth Try.prog (alI ab) "Swap" [.int .i64 (i : Int), .int .i64 (j : Int)] w fun e w' => e = .returned (.tuple #[]) ∧ Hp w w' [.rep (fun w => (alP base ab mb (swL s i j)).at_ w F (.bool true)) F true] := by
  obtain ⟨v, hv⟩ := h
  obtain ⟨g, c, rfl⟩ := alV_addr hv (by omega)
  obtain ⟨x, hx⟩ : ∃ x, s[i]? = some x := ⟨_, List.getElem?_eq_getElem hi⟩
  obtain ⟨y, hy⟩ : ∃ y, s[j]? = some y := ⟨_, List.getElem?_eq_getElem hj⟩
  have hs : swL s i j = (s.set i y).set j x := by unfold swL; rw [hx, hy]
  have hv0 := hv
  obtain ⟨h1, h2, ⟨h3, h4⟩, h5, h6, h7⟩ := hv
  rcases h4 with ⟨h4, _⟩ | ⟨g', cap, cur, h4, hb, hg, hn, hm, hz, ht⟩
  · cases h4
  · cases h4
    have hcur : cur = ⟨cur.toList⟩ := rfl
    rw [hcur] at hg
    have hlen : cur.toList.length = c := by rw [Array.length_toList, hz, Nat.mul_one]
    have hat : ∀ (k : Nat) (z : En), s[k]? = some z → cur.toList[k]? = some (enPt z) := fun k z hk => by
      have h8 : k < s.length := (List.getElem?_eq_some_iff.1 hk).1
      have h9 : (cur.toList.take (s.length * 1))[k]? = (s.map enPt)[k]? := by rw [ht]
      rw [List.getElem?_take_of_lt (by omega), List.getElem?_map, hk] at h9
      exact h9
    have hgx : ∀ (k : Nat) (z : En), s[k]? = some z → z.b ≠ g := fun k z hk hh => by
      have h9 := (h6 k z hk).1
      rw [hh, hg] at h9
      exact absurd (Obj.cells.inj (Option.some.inj h9)).2.1 (by decide)
    have hga : ab ≠ g := fun hh => by
      rw [hh, hg] at h1
      exact absurd (Obj.cells.inj (Option.some.inj h1)).2.1 (by decide)
    have hax : ∀ (k : Nat) (z : En), s[k]? = some z → z.b ≠ ab := fun k z hk hh => by
      have h9 := (h6 k z hk).1
      rw [hh, h1] at h9
      exact absurd (Obj.cells.inj (Option.some.inj h9)).2.1 (by decide)
    have hpl : ∀ (k : Nat) (z : En) (k' : Nat) (z' : En), s[k]? = some z → s[k']? = some z' → z.b = z'.b → k = k' := fun k z k' z' hk hk' hh => by
      have h9 := (h6 k z hk).1
      rw [hh, (h6 k' z' hk').1] at h9
      have h10 := (Obj.cells.inj (Option.some.inj h9)).1
      simp only [Array.mk.injEq, List.cons.injEq, Value.int.injEq, true_and, and_true] at h10
      omega
    refine meth_val' (f := 121) (by kernel_rfl) (by kernel_rfl) Try.call121 (alV_load hv0) ?_
    have hfin : ∀ (w' : World) (A : OL), Hp w w' A → (∀ e ∈ A, ∀ k, e.has k → k = g ∨ k = x.b ∨ k = y.b) → w'.heap[g]? = some (.cells ⟨(cur.toList.set i (enPt y)).set j (enPt x)⟩ 100 (0, 0)) → w'.heap[x.b]? = some (enO x j) → w'.heap[y.b]? = some (enO y i) → Hp w w' [.rep (fun w => (alP base ab mb (swL s i j)).at_ w F (.bool true)) F true] := fun w' A hA hAk k1 k2 k3 => by
      have hold : ∀ k o, w.heap[k]? = some o → k ≠ g → k ≠ x.b → k ≠ y.b → w'.heap[k]? = some o := fun k o ho hk1 hk2 hk3 => (hA.old k (heap_lt ho) fun e he _ hh => by
        rcases hAk e he k hh with h | h | h
        · exact hk1 h
        · exact hk2 h
        · exact hk3 h).trans ho
      refine hA.widenL (fun e he k hk => ?_) ⟨.slice (some ⟨g, 0, none⟩) s.length c, hold _ _ h1 hga (fun h => hax i x hx h.symm) (fun h => hax j y hy h.symm), h2, ?_, h5, fun k z hk => ?_, ?_⟩ (Vp.loc (p := alP base ab mb (swL s i j))) hF
      · rcases hAk e he k hk with h | h | h
        · rw [h]; exact h5 g rfl
        · rw [h]; exact (h6 i x hx).2
        · rw [h]; exact (h6 j y hy).2
      · rw [swL_len]
        refine ⟨by rw [List.length_map, swL_len, Nat.mul_one], .inr ⟨g, c, _, rfl, hb, k1, hn, hm, ?_, ?_⟩⟩
        · show (List.set _ _ _).length = _
          rw [List.length_set, List.length_set, hlen, Nat.mul_one]
        · show List.take _ (List.set _ _ _) = _
          rw [hs, List.take_set, List.take_set, ht, List.map_set, List.map_set]
      · have hkl : k < s.length := by have := (List.getElem?_eq_some_iff.1 hk).1; rwa [swL_len] at this
        rw [swL_get hi hj] at hk
        unfold tr at hk
        split at hk
        · rename_i hki
          subst hki
          rw [hy] at hk
          cases hk
          exact ⟨k3, (h6 j y hy).2⟩
        · split at hk
          · rename_i hki hkj
            subst hkj
            rw [hx] at hk
            cases hk
            exact ⟨k2, (h6 i x hx).2⟩
          · rename_i hki hkj
            exact ⟨hold _ _ (h6 k z hk).1 (hgx k z hk) (fun hh => hki (hpl k z i x hk hx hh)) (fun hh => hkj (hpl k z j y hk hy hh)), (h6 k z hk).2⟩
      · rw [swL_len]; exact h7
    by_cases hij : i = j
    · subst hij
      rw [hx] at hy
      cases hy
      refine (aswap_eq g s.length c i i x.b cur.toList x.id x.tm (i : Int) w (Hp.startL (L := [(g, _), (x.b, _)]) (fun p hp => ?_) ?_) hi hi (by omega) (hat i x hx) (hat i x hx) rfl).mono fun e w' ⟨he, h8⟩ => ⟨he, ?_⟩
      · simp only [List.mem_cons, List.not_mem_nil, or_false] at hp
        rcases hp with rfl | rfl
        · exact hg
        · exact (h6 i x hx).1
      · simp only [List.map_cons, List.map_nil, List.nodup_cons, List.mem_singleton, List.not_mem_nil, not_false_eq_true, List.nodup_nil, and_true]
        exact fun h => hgx i x hx h.symm
      · refine hfin w' _ h8 (fun e he k hk => ?_) (h8.own _ (getE_mem (i := 0) rfl)) (h8.own _ (getE_mem (i := 1) rfl)) (h8.own _ (getE_mem (i := 1) rfl))
        simp only [List.mem_cons, List.not_mem_nil, or_false] at he
        rcases he with rfl | rfl
        · exact .inl (Option.some.inj hk).symm
        · exact .inr (.inl (Option.some.inj hk).symm)
    · have hxy : x.b ≠ y.b := fun hh => hij (hpl i x j y hx hy hh)
      refine (aswap_ne g s.length c i j x.b y.b cur.toList x.id x.tm (i : Int) y.id y.tm (j : Int) w (Hp.startL (L := [(g, _), (x.b, _), (y.b, _)]) (fun p hp => ?_) ?_) hi hj (by omega) (hat i x hx) (hat j y hy)).mono fun e w' ⟨he, h8⟩ => ⟨he, ?_⟩
      · simp only [List.mem_cons, List.not_mem_nil, or_false] at hp
        rcases hp with rfl | rfl | rfl
        · exact hg
        · exact (h6 i x hx).1
        · exact (h6 j y hy).1
      · simp only [List.map_cons, List.map_nil, List.nodup_cons, List.mem_cons, List.mem_singleton, List.not_mem_nil, not_false_eq_true, List.nodup_nil, and_true, not_or, or_false]
        exact ⟨⟨fun h => hgx i x hx h.symm, fun h => hgx j y hy h.symm⟩, hxy⟩
      · refine hfin w' _ h8 (fun e he k hk => ?_) (h8.own _ (getE_mem (i := 0) rfl)) (h8.own _ (getE_mem (i := 1) rfl)) (h8.own _ (getE_mem (i := 2) rfl))
        simp only [List.mem_cons, List.not_mem_nil, or_false] at he
        rcases he with rfl | rfl | rfl
        · exact .inl (Option.some.inj hk).symm
        · exact .inr (.inl (Option.some.inj hk).symm)
        · exact .inr (.inr (Option.some.inj hk).symm)
/-- The alarm's entries are an object. -/
noncomputable def alOb (base ab mb : Nat) : HOb Try.prog (alI ab) (List En) where
  p := alP base ab mb
  len := List.length
  lt := ltL enR
  sw := swL
  lenSw := swL_len
  hle := fun ⟨v, h⟩ => h.2.2.2.2.2
  hlen := alM_len
  hlt := alM_less
  hsw := alM_swap
theorem alOb_ol (base ab mb : Nat) : OL_ (alOb base ab mb) enR := ⟨fun _ => rfl, fun _ _ _ => rfl, fun _ _ _ => rfl⟩
end Go.Proofs.Ytggnhcgmeibihaa
