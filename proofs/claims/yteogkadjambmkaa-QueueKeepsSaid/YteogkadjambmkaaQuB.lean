/-
  queue.numbers' Push and Pop; heap.Push and Pop of a queue's numbers. Conditions: each theorem's own.
-/
import Derived.Test.YteogkadjambmkaaQuA
namespace Go.Proofs.Yteogkadjambmkaa
open Go Go.RowKit
set_option linter.unusedVariables false

theorem qpop_walk (qb g n c : Nat) (k0 k1 k2 k4 k5 : Value) (xs : List Value) (x : Int) (w : World) (hb : w.heap[qb]? = some (.cells ⟨[k0, k1, k2, .slice (some ⟨g, 0, none⟩) (n + 1) c, k4, k5]⟩ 105 (0, 0))) (hr : w.ownsRow 0 59 1 (.slice (some ⟨g, 0, none⟩) (n + 1) c) (n + 1) xs) (hg : g ≠ qb) (hx : xs[n]? = some (.int .u64 x)) (hn : n ≤ 1073741824) (hnc : n ≤ c) :
    Calls Try.prog 120 #[.pointer (some ⟨qb, 3, none⟩)] w fun e w' => e = .returned (.iface 59 (.int .u64 x)) ∧ Hp w w' [.blk qb (.cells ⟨[k0, k1, k2, .slice (some ⟨g, 0, none⟩) n c, k4, k5]⟩ 105 (0, 0)) true] := by
  obtain ⟨F, hF, hst⟩ := Hp.startV (p := rowV 0 59 1 (n + 1) xs) (A := fun k => k ≠ qb) hb ⟨hr, fun k hk => by
    have : k = g := (Option.some.inj hk).symm
    rw [this]; exact hg⟩ (fun h => h rfl)
  refine enter1 Try.func120 rfl rfl hst ?_
  repeat (first | refine T_seq ?_ | refine T_region ?_ | refine S_nil ?_ | refine S_i64 tabOk rfl (by omega) ?_ | refine S_pure tabOk rfl ?_ | refine S_load tabOk 0 rfl rfl rfl ?_)
  refine S_q (Q_idx1 tabOk rfl rfl rfl rfl rfl rfl rfl (j := n) (by omega) (by omega)) ?_
  refine S_load1 tabOk (v := .int .u64 x) rfl rfl (fun w' hw => by
    rw [Nat.zero_add]
    exact own_cell (hw.own _ (getE_mem (i := 1) rfl)).1.1 (by omega) hx) ?_
  repeat (first | refine T_seq ?_ | refine T_region ?_ | refine S_nil ?_ | refine S_pure tabOk rfl ?_ | refine S_load tabOk 0 rfl rfl rfl ?_)
  refine S_q (Q_sliceTo tabOk rfl rfl rfl rfl rfl rfl (H := n) (by omega) (by omega)) ?_
  repeat (first | refine T_seq ?_ | refine T_region ?_ | refine S_nil ?_ | refine S_pure tabOk rfl ?_ | refine S_store tabOk 0 rfl rfl rfl rfl rfl rfl ?_)
  refine S_q (Q_mkif tabOk rfl rfl rfl rfl) ?_
  repeat (first | refine S_nil ?_ | refine T_ret ?_ | refine S_pure tabOk rfl ?_)
  exact ret1 rfl rfl (fun w' hw => ⟨rfl, hw.less (by repeat (first | exact Less.nil | refine Less.keep ?_ | refine Less.dropR ?_))⟩)
/-- what an append told -/
def PuF (w : World) (F : Nat → Prop) (m : Nat) (y : Value × (Nat → Prop)) : Prop := (∃ A C, y.1 = .slice A (m + 1) C) ∧ (∀ k, F k → y.2 k) ∧ ∀ k, y.2 k → F k ∨ w.heap.size ≤ k
set_option maxHeartbeats 2000000 in
theorem qpush_walk (qb m : Nat) (k0 k1 k2 k4 k5 : Value) (x : Int) (v : Value) (xs : List Value) (F : Nat → Prop) (w : World) (hst : Hp w w [.blk qb (.cells ⟨[k0, k1, k2, v, k4, k5]⟩ 105 (0, 0)) true, .rep (fun w => (rowV 0 59 1 m xs).at_ w F v) F true]) (hm : m ≤ 1073741823) (hv : ∃ a c, v = .slice a m c ∧ m ≤ c) :
    Calls Try.prog 121 #[.pointer (some ⟨qb, 3, none⟩), .iface 59 (.int .u64 x)] w fun e w' => e = .returned (.tuple #[]) ∧ ∃ A' c' F', (∀ k, F k → F' k) ∧ (∀ k, F' k → F k ∨ w.heap.size ≤ k) ∧ Hp w w' [.blk qb (.cells ⟨[k0, k1, k2, .slice A' (m + 1) c', k4, k5]⟩ 105 (0, 0)) true, .rep (fun w => (rowV 0 59 1 (m + 1) (xs ++ [.int .u64 x])).at_ w F' (.slice A' (m + 1) c')) F' true] := by
  obtain ⟨a, c, rfl, hmc⟩ := hv
  refine enter2 Try.func121 rfl rfl hst ?_
  refine T_asThen ?_
  let lst : Bool → Bool → Bool → Value → Value × (Nat → Prop) → OL := fun l6 l7 l9 v6 y7 =>
    [.blk qb (.cells ⟨[k0, k1, k2, cond l9 y7.1 (.slice a m c), k4, k5]⟩ 105 (0, 0)) true, .rep (fun w => (rowV 0 59 1 (cond l7 (m + 1) m) (cond l7 (xs ++ [.int .u64 x]) xs)).at_ w (cond l7 y7.2 F) (cond l7 y7.1 (.slice a m c))) (cond l7 y7.2 F) true] ++
      (cond l6 [.row w.heap.size v6 59 1 1 [.int .u64 x]] [] ++ cond l7 [factE (PuF w F m y7)] [])
  refine T_drawF (γ := Nat → Prop) (by kernel_rfl) (by kernel_rfl) F (fun L f => lst (L 6) (L 7) (L 9) (f 6).1 (f 7)) rfl [some (.pointer (some ⟨qb, 3, none⟩)), some (.pointer (some ⟨qb, 3, none⟩)), some (.pointer (some ⟨qb, 3, none⟩)), some (.slice a m c), some (.iface 59 (.int .u64 x)), some (.int .u64 x), none, none, some (.pointer (some ⟨qb, 3, none⟩)), some undef] ?_ ?_
  · refine ⟨?_, ?_, ?_, ?_, ?_, ?_, ?_, ?_, ?_, ?_, trivial⟩
    · exact fun L f hc hl hp => OpA.told F rfl (D_pure tabOk rfl D_last) rfl
    · exact fun L f hc hl hp => OpA.told F rfl (D_pure tabOk rfl D_last) rfl
    · exact fun L f hc hl hp => OpA.told F rfl (D_pure tabOk rfl D_last) rfl
    · intro L f hc hl hp
      have h7 := closed_no hc (j := 7) rfl ⟨3, .data⟩ (by simp) rfl hl
      have h9 := closed_no hc (j := 9) rfl ⟨7, .data⟩ (by simp) rfl h7
      show OpA _ _ _ _ (lst (L 6) (L 7) (L 9) (f 6).1 (f 7)) (fun y => lst (L 6) (L 7) (L 9) (f 6).1 (f 7)) _ _ _
      rw [h9]
      exact OpA.told F rfl (D_load tabOk 0 rfl rfl rfl D_last) rfl
    · exact fun L f hc hl hp => OpA.told F rfl (D_pure tabOk rfl D_last) rfl
    · exact fun L f hc hl hp => OpA.told F rfl (D_q (Q_tassert tabOk rfl rfl rfl rfl) D_last) rfl
    · intro L f hc hl hp
      have h7 := closed_no hc (j := 7) rfl ⟨6, .data⟩ (by simp) rfl hl
      have h9 := closed_no hc (j := 9) rfl ⟨7, .data⟩ (by simp) rfl h7
      show OpA _ _ _ _ (lst (L 6) (L 7) (L 9) (f 6).1 (f 7)) (fun y => lst true (L 7) (L 9) y.1 (f 7)) _ _ _
      rw [hl, h7, h9]
      refine OpA.ofS (l := [(9, .int .u64 x)]) rfl (by decide) (.cons rfl rfl .nil) ?_
      refine S_bslice tabOk rfl rfl rfl rfl rfl rfl rfl rfl rfl rfl rfl rfl (fun nb hnb => ?_)
      refine S_heap (fun w' h => Hp.closeRow (pre := []) (n := 1) (c := 1) (sz := 1) h hnb (by decide) (by decide) rfl) ?_
      refine S_nil ?_
      exact ⟨_, F, rfl, (fun u h => by cases h), fun w hw => hw.perm (by repeat (first | exact List.Perm.refl _ | refine (List.Perm.swap _ _ _).trans (List.Perm.cons _ ?_)))⟩
    · intro L f hc hl hp
      have h3 : L 3 = true := hp ⟨3, .data⟩ (by simp) rfl
      have h6 : L 6 = true := hp ⟨6, .data⟩ (by simp) rfl
      have h9 := closed_no hc (j := 9) rfl ⟨7, .data⟩ (by simp) rfl hl
      show OpA _ _ _ _ (lst (L 6) (L 7) (L 9) (f 6).1 (f 7)) (fun y => lst (L 6) true (L 9) (f 6).1 y) _ _ _
      rw [hl, h6, h9]
      refine OpA.pre (X := ∃ A C, (f 6).1 = .slice A 1 C) (fun w hw => ?_) (fun d h => by cases h; decide) ?_
      · obtain ⟨A, C, e2, _⟩ := hw.rowForm 2 rfl
        exact ⟨A, C, e2⟩
      · rintro ⟨A, C, e2⟩
        rw [e2]
        refine OpA.ofS (l := [(7, .slice a m c), (10, .slice A 1 C)]) rfl (by decide) (.cons rfl rfl (.cons rfl (by show some (Ent.ex (f 6).1) = _; rw [e2]) .nil)) ?_
        refine S_appendO (ty := 0) tabOk 1 (sz := 1) (news := [.int .u64 x]) rfl rfl rfl rfl rfl rfl rfl rfl rfl (by decide) (fun w' h => Sl.of_own (h.own _ (getE_mem (i := 2) rfl))) (fun u hu => by rw [List.mem_singleton] at hu; subst hu; rfl) (by show m + 1 ≤ maxLen; simp only [maxLen]; omega) (by show (m + 1) * 8 ≤ _; omega) (Nat.zero_le _) (fun A' c' F' h1 h2 h3 h4 => ⟨_, rfl, ?_⟩)
        refine S_nil ?_
        exact ⟨_, F', rfl, (fun u h => by cases h), fun w' hw => (hw.addF (p := PuF w F m (.slice A' (m + 1) c', F')) ⟨⟨A', c', rfl⟩, h3, h4⟩).perm (by repeat (first | exact List.Perm.refl _ | refine (List.Perm.swap _ _ _).trans (List.Perm.cons _ ?_)))⟩
    · exact fun L f hc hl hp => OpA.told F rfl (D_pure tabOk rfl D_last) rfl
    · intro L f hc hl hp
      have h7 : L 7 = true := hp ⟨7, .data⟩ (by simp) rfl
      have h6 : L 6 = true := hc 7 _ rfl h7 ⟨6, .data⟩ (by simp) rfl
      show OpA _ _ _ _ (lst (L 6) (L 7) (L 9) (f 6).1 (f 7)) (fun y => lst (L 6) (L 7) true (f 6).1 (f 7)) _ _ _
      rw [hl, h6, h7]
      refine OpA.pre (X := ∃ A C, (f 7).1 = .slice A (m + 1) C) (fun w hw => ?_) (fun d h => by cases h) ?_
      · obtain ⟨⟨A, C, e2⟩, _⟩ := hw.fact 3 rfl
        exact ⟨A, C, e2⟩
      · rintro ⟨A, C, e2⟩
        refine OpA.swap (dl' := [(12, .ex (.pointer (some ⟨qb, 3, none⟩))), (11, .ex (f 7).1)]) (List.forall_mem_cons.2 ⟨rfl, List.forall_mem_cons.2 ⟨rfl, fun _ h => nomatch h⟩⟩) ?_
        generalize f 7 = x7 at *
        obtain ⟨x7, g7⟩ := x7
        dsimp only at e2
        subst e2
        exact OpS.toF F (fun u h => by cases h; rfl) (OpS.store tabOk 0 rfl rfl (fun u h => by rw [List.mem_singleton] at h; subst h; rfl) rfl rfl rfl)
  · intro L f w' hL hw
    change Hp _ _ (lst (L 6) (L 7) (L 9) (f 6).1 (f 7)) at hw
    rw [hL 6 (by decide), hL 7 (by decide), hL 9 (by decide)] at hw
    obtain ⟨⟨A, C, e2⟩, g1, g2⟩ := hw.fact 3 rfl
    generalize f 7 = x7 at *
    obtain ⟨x7, g7⟩ := x7
    dsimp only at e2 g1 g2
    subst e2
    refine ⟨[], [.blk qb (.cells ⟨[k0, k1, k2, .slice A (m + 1) C, k4, k5]⟩ 105 (0, 0)) true, .rep (fun w => (rowV 0 59 1 (m + 1) (xs ++ [.int .u64 x])).at_ w g7 (.slice A (m + 1) C)) g7 true], SubD.nil, hw.less (by repeat (first | exact Less.nil | refine Less.keep ?_ | refine Less.dropR ?_ | refine Less.dropW (Nat.le_refl _) ?_)), ?_⟩
    exact ret0n rfl (fun w' hw => ⟨rfl, A, C, g7, g1, g2, hw⟩)
section
variable {qb : Nat} {k0 k1 k2 k4 k5 : Value} {s : List Int} {w : World} {F : Nat → Prop}
theorem nuM_pop {x : Int} (h : (nuP qb k0 k1 k2 k4 k5 s).at_ w F (.bool true)) (hF : ∀ k, F k → k < w.heap.size) (hx : s[s.length - 1]? = some x) :
    Meth Try.prog (nuI qb) "Pop" [] w fun e w' => e = .returned (.iface 59 (.int .u64 x)) ∧ Hp w w' [.rep (fun w => (nuP qb k0 k1 k2 k4 k5 (s.take (s.length - 1))).at_ w F (.bool true)) F true] := by
  obtain ⟨v, hv⟩ := h
  have h0 := (List.getElem?_eq_some_iff.1 hx).1
  obtain ⟨a, c, rfl, hsc⟩ := nuV_form hv
  obtain ⟨h1, h2, h3, h5, h7⟩ := hv
  obtain ⟨n, hn⟩ : ∃ n, s.length = n + 1 := ⟨s.length - 1, by omega⟩
  rw [show s.length - 1 = n by omega] at hx ⊢
  obtain ⟨g, junk, rfl, hb, hnc, hxl, hjl, hm, hg⟩ := own_open h3 (by omega)
  rw [hn] at h1 h3 h5
  have hgb : g ≠ qb := cells_ne hg h1 (by decide)
  refine meth_own (u := 103) (f := 120) (by kernel_rfl) (by kernel_rfl) Try.call120 ?_
  refine (qpop_walk qb g n c k0 k1 k2 k4 k5 _ x w h1 h3 hgb (by rw [List.getElem?_map, hx]; rfl) (by omega) (by omega)).mono fun e w' ⟨he, h8⟩ => ⟨he, ?_⟩
  have hold : ∀ k o, w.heap[k]? = some o → k ≠ qb → w'.heap[k]? = some o := fun k o ho hk => (h8.old k (heap_lt ho) fun e he _ => by
    rw [List.mem_singleton] at he
    subst he
    intro hh
    exact hk (Option.some.inj hh).symm).trans ho
  have hlen : (s.take n).length = n := by rw [List.length_take]; omega
  have hb2 : w'.heap[qb]? = _ := h8.own _ List.mem_cons_self
  refine h8.widen (fun k hk => ?_) ⟨.slice (some ⟨g, 0, none⟩) n c, hb2, h2, ?_, fun k hk => h5 k hk, ?_⟩ (Vp.loc (p := nuP qb k0 k1 k2 k4 k5 (s.take n))) hF
  · have : k = qb := (Option.some.inj hk).symm
    rw [this]
    exact h2
  · rw [hlen]
    have e1 : s.map (Value.int .u64) ++ junk = (s.take n).map (Value.int .u64) ++ ((s.drop n).map (Value.int .u64) ++ junk) := by rw [← List.append_assoc, ← List.map_append, List.take_append_drop]
    rw [e1] at hg hjl
    exact own_close (hold _ _ hg hgb) hb (by omega) hm (by rw [List.length_map, hlen]) hjl
  · rw [hlen]; omega
theorem nuM_push {x : Int} (h : (nuP qb k0 k1 k2 k4 k5 s).at_ w F (.bool true)) (hF : ∀ k, F k → k < w.heap.size) (hs : s.length < 1073741824) :
    Meth Try.prog (nuI qb) "Push" [.iface 59 (.int .u64 x)] w fun e w' => e = .returned (.tuple #[]) ∧ ∃ F', (∀ k, F k → F' k) ∧ (∀ k, F' k → F k ∨ w.heap.size ≤ k) ∧ Hp w w' [.rep (fun w => (nuP qb k0 k1 k2 k4 k5 (s ++ [x])).at_ w F' (.bool true)) F' true] := by
  obtain ⟨v, hv⟩ := h
  have hfm := nuV_form hv
  obtain ⟨h1, h2, h3, h5, h7⟩ := hv
  refine meth_own (u := 103) (f := 121) (by kernel_rfl) (by kernel_rfl) Try.call121 ?_
  refine (qpush_walk qb s.length k0 k1 k2 k4 k5 x v (s.map (.int .u64)) (fun k => v.ownBlock = some k) w ?_ (by omega) hfm).mono fun e w' ⟨he, A', c', F', g1, g2, g3⟩ => ⟨he, fun k => F k ∨ F' k, fun k hk => .inl hk, fun k hk => ?_, ?_⟩
  · have e1 : Hp w w [.rep (fun w => (rowV 0 59 1 s.length (s.map (.int .u64))).at_ w (fun k => v.ownBlock = some k) v) (fun k => v.ownBlock = some k) true] :=
      (Hp.refl w).more ⟨⟨h3, fun k hk => hk⟩, Vp.loc, fun k hk => hF k (h5 k hk)⟩ fun e he => (by cases he)
    refine e1.more (x := .blk qb _ true) h1 fun e he _ k hk hk2 => ?_
    have hk0 := Option.some.inj hk
    rw [List.mem_singleton] at he
    subst he
    obtain ⟨cur, h9⟩ := row_blk h3 hk2
    exact cells_ne h1 h9 (by decide) hk0
  · rcases hk with h | h
    · exact .inl h
    · rcases g2 k h with h | h
      · exact .inl (h5 k h)
      · exact .inr h
  · have o0 : w'.heap[qb]? = _ := g3.own _ (getE_mem (i := 0) rfl)
    obtain ⟨⟨o2, o3⟩, _, o4⟩ := g3.own _ (getE_mem (i := 1) rfl)
    have hlt : ∀ k, F k ∨ F' k → k < w'.heap.size := fun k hk => by
      rcases hk with h | h
      · exact Nat.lt_of_lt_of_le (hF k h) g3.size
      · exact o4 k h
    have hl : (s ++ [x]).length = s.length + 1 := by rw [List.length_append]; rfl
    refine g3.widenM (fun e he k hk => ?_) ⟨.slice A' (s.length + 1) c', o0, .inl h2, ?_, fun k hk => .inr (o3 k hk), by omega⟩ (Vp.loc (p := nuP qb k0 k1 k2 k4 k5 (s ++ [x]))) hlt
    · simp only [List.mem_cons, List.not_mem_nil, or_false] at he
      rcases he with rfl | rfl
      · left
        have := Option.some.inj hk
        rw [← this]; exact h2
      · exact .inr hk
    · rw [hl, List.map_append]
      exact o2
theorem nuheap_pop (h : (nuP qb k0 k1 k2 k4 k5 s).at_ w F (.bool true)) (hF : ∀ k, F k → k < w.heap.size) {x : Int} (hx : s[0]? = some x) : Calls Try.prog 46 #[nuI qb] w fun e w' => (∃ y, e = .returned (.iface 59 (.int .u64 y))) ∧
    Hp w w' [.rep (fun w => (nuP qb k0 k1 k2 k4 k5 (((nuOb qb k0 k1 k2 k4 k5).pp s).take (s.length - 1))).at_ w F (.bool true)) F true] := by
  have hl : 0 < s.length := (List.getElem?_eq_some_iff.1 hx).1
  have hpl : ((nuOb qb k0 k1 k2 k4 k5).pp s).length = s.length := (pp_perm (nuOb_ol qb k0 k1 k2 k4 k5) s).length_eq
  obtain ⟨y, hy⟩ : ∃ y, ((nuOb qb k0 k1 k2 k4 k5).pp s)[s.length - 1]? = some y := ⟨_, List.getElem?_eq_getElem (by omega)⟩
  refine (hpop_ok (nuOb qb k0 k1 k2 k4 k5) s F w h hF hl (.iface 59 (.int .u64 y)) (nuP qb k0 k1 k2 k4 k5 (((nuOb qb k0 k1 k2 k4 k5).pp s).take (s.length - 1))) (fun w1 h1 h2 => ?_)).mono fun e w' ⟨he, h3⟩ => ⟨⟨y, he⟩, h3⟩
  have := nuM_pop (x := y) h1 h2 (by rw [hpl]; exact hy)
  rw [hpl] at this
  exact this
theorem nuheap_push {x : Int} (h : (nuP qb k0 k1 k2 k4 k5 s).at_ w F (.bool true)) (hF : ∀ k, F k → k < w.heap.size) (hs : s.length < 1073741824) : Calls Try.prog 52 #[nuI qb, .iface 59 (.int .u64 x)] w fun e w' => e = .returned (.tuple #[]) ∧ ∃ F', (∀ k, F k → F' k) ∧ (∀ k, F' k → F k ∨ w.heap.size ≤ k) ∧
    Hp w w' [.rep (fun w => (nuP qb k0 k1 k2 k4 k5 ((nuOb qb k0 k1 k2 k4 k5).up (s.length + 1) (s ++ [x]) s.length)).at_ w F' (.bool true)) F' true] := by
  have hl : (s ++ [x]).length = s.length + 1 := by rw [List.length_append]; rfl
  have := hpush_ok (nuOb qb k0 k1 k2 k4 k5) s (s ++ [x]) F w h hF (show 0 < (s ++ [x]).length by omega) (.iface 59 (.int .u64 x)) (fun w1 h1 h2 => nuM_push h1 h2 hs)
  rw [show (nuOb qb k0 k1 k2 k4 k5).len (s ++ [x]) = s.length + 1 from hl, Nat.add_sub_cancel] at this
  exact this
end
end Go.Proofs.Yteogkadjambmkaa
