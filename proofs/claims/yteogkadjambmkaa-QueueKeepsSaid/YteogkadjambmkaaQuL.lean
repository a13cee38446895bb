/-
  A queue's Lowest. Conditions: each theorem's own.
-/
import Derived.Test.YteogkadjambmkaaQuI
namespace Go.Proofs.Yteogkadjambmkaa
open Go Go.RowKit
set_option linter.unusedVariables false

/-- what Lowest answers -/
def qLow (L : List QE) : Value := match L with
  | [] => .tuple #[.int .u64 0, .bool false]
  | x :: _ => .tuple #[.int .u64 x.1, .bool true]
section
variable {qb : Nat} {cap last : Int} {ws : List Int} {L : List QE} {K : Nat} {w : World} {F : Nat → Prop}
set_option maxHeartbeats 2000000 in
theorem q_lowest (h : (quA qb cap last ws L K).at_ w F (.bool true)) (hF : ∀ k, F k → k < w.heap.size) (hok : QOk cap last ws L) : Calls Try.prog 40 #[qptr qb] w fun e w' => e = .returned (qLow L) ∧ Hp w w' [.rep (fun w => (quA qb cap last ws L K).at_ w F (.bool true)) F true] := by
  obtain ⟨mb, bys, s0, M, cc, wv, lv, bv, hS, hN0, hbys, hcK, hsc⟩ := h
  have hst := Hp.startO (p := quX qb mb cap last ws bys s0 M cc L wv bv) (v := .bool true) ⟨lv, hS⟩ hF
  refine enter1 Try.func40 rfl rfl hst ?_
  repeat (first | refine T_seq ?_ | refine T_region ?_ | refine S_nil ?_ | refine S_pure tabOk rfl ?_)
  refine S_q (Q_eqptr tabOk rfl rfl rfl rfl rfl) ?_
  repeat (first | refine S_nil ?_)
  refine T_cond_f rfl ?_
  repeat (first | refine T_seq ?_ | refine T_block ?_ | refine pthen_normal ?_ | refine T_skip ?_)
  refine T_loop (ι := List Int) (fun _ => [(0, qptr qb)]) (fun s => [.rep (fun w => (quX qb mb cap last ws bys s M cc L wv bv).at_ w F (.bool true)) F true]) (fun s => NH s L last ∧ s.length ≤ cc) (fun s => s.length) s0 ⟨hN0, hsc⟩ (by repeat (first | exact Sub.nil | refine Sub.cons rfl ?_)) (fun _ hw => hw) ?_
  rintro s ⟨hN, hsl⟩
  try dsimp only at hN hsl ⊢
  refine T_toX (ι := Value) (fun lv => ∃ a c', lv = .slice a s.length c' ∧ s.length ≤ c' ∧ (0 < s.length → ∃ g, a = some ⟨g, 0, none⟩)) (fun lv => [.rep (fun w => (quV qb mb cap last ws bys s M cc L wv lv bv).at_ w F (.bool true)) F true]) (fun w1 h1 => ?_) (fun lv ⟨a, c', e1, hsc', hga⟩ => ?_)
  · obtain ⟨lv, h2⟩ := (h1.own _ List.mem_cons_self).1
    obtain ⟨a, c', e1, h3, _⟩ := form_of_own h2.ls
    exact ⟨lv, ⟨a, c', e1, h3, fun h0 => by
      have h4 := h2.ls
      rw [e1] at h4
      obtain ⟨g, _, e2, _⟩ := own_open h4 h0
      exact ⟨g, e2⟩⟩, h1.turnX 0 rfl (Ψ := fun w => (quV qb mb cap last ws bys s M cc L wv lv bv).at_ w F (.bool true)) (fun _ => h2) Vp.loc rfl⟩
  subst e1
  repeat (first | refine T_seq ?_ | refine T_region ?_ | refine S_pure tabOk rfl ?_)
  refine S_load1 tabOk (v := .slice a s.length c') rfl rfl (fun w' hw => QuS.cell (hw.own _ (getE_mem (i := 0) rfl)).1 (j := 3) rfl) ?_
  repeat (first | refine S_nil ?_ | refine S_pure tabOk rfl ?_)
  refine T_cond_dec rfl (fun hgt => ?_) (fun hgt => ?_)
  rotate_left
  · have hs0 : s = [] := List.eq_nil_of_length_eq_zero (by omega)
    subst hs0
    obtain rfl := hN.empty
    repeat (first | refine T_seq ?_ | refine T_region ?_ | refine S_nil ?_ | refine pthen_normal ?_ | refine inb_hit ?_ | refine pthen_exit ?_ | refine T_ret ?_ | refine T_exit ?_ | refine S_pure tabOk rfl ?_)
    exact ret2 rfl rfl rfl (fun w' hw => ⟨rfl, hw.turnX 0 rfl (Ψ := fun w => (quA qb cap last ws [] K).at_ w F (.bool true)) (fun h9 => ⟨mb, bys, [], M, cc, wv, _, bv, h9, hN, hbys, hcK, hsl⟩) Vp.loc rfl⟩)
  obtain ⟨g, rfl⟩ := hga (by omega)
  obtain ⟨x, hx⟩ : ∃ x, s[0]? = some x := ⟨_, List.getElem?_eq_getElem (by omega)⟩
  have hsx : ∀ {w' : World}, Hp w w' [.rep (fun w => (quV qb mb cap last ws bys s M cc L wv (.slice (some ⟨g, 0, none⟩) s.length c') bv).at_ w F (.bool true)) F true] → w'.cell? ⟨g, 0 + 0, none⟩ = some (.int .u64 x) := fun hw => own_cell (QuS.ls (hw.own _ (getE_mem (i := 0) rfl)).1) (by omega) (by rw [List.getElem?_map, hx]; rfl)
  obtain ⟨cls, sl, q, hone, hlk⟩ : ∃ (cls : Int) (sl : Value) (q : Bool), sl.oneCell' = true ∧ ((mGet M x = none ∧ cls = 0 ∧ sl = .slice none 0 0 ∧ q = false) ∨ (mGet M x = some (.agg #[.int .i64 cls, sl]) ∧ q = true)) := by
    cases hg : mGet M x with
    | none => exact ⟨0, .slice none 0 0, false, rfl, .inl ⟨rfl, rfl, rfl, rfl⟩⟩
    | some u =>
      obtain ⟨i, p, y, hp, hy, _, hv, _⟩ := hS.ml.hit hS.mok.keys hg
      obtain ⟨_, a2, m2, c2, e2, _⟩ := hS.ml.at_ i p y hp hy
      exact ⟨y.2.1, .slice a2 m2 c2, true, rfl, .inr ⟨by rw [← hv, e2], rfl⟩⟩
  repeat (first | refine T_seq ?_ | refine T_block ?_ | refine pthen_normal ?_ | refine T_skip ?_)
  let lst : Bool → Bool → Value → OL := fun l14 l15 v14 =>
    .rep (fun w => (quV qb mb cap last ws bys s M cc L wv (.slice (some ⟨g, 0, none⟩) s.length c') bv).at_ w F (.bool true)) F true :: (cond l14 [ptrE v14 (cond l15 [.int .i64 cls, sl] [.int .i64 0, .slice none 0 0]) 52, factE (newP w v14)] [])
  refine T_drawF (γ := Unit) (by kernel_rfl) (by kernel_rfl) () (fun L f => lst (L 14) (L 15) (f 14).1) rfl [some (qptr qb), some (qptr qb), some (.pointer (some ⟨qb, 2, none⟩)), some (.map (some mb)), some (qptr qb), some (qptr qb), some (.pointer (some ⟨qb, 3, none⟩)), some (.slice (some ⟨g, 0, none⟩) s.length c'), some (.pointer (some ⟨g, 0, none⟩)), some (.int .u64 x), some (.tuple #[.agg #[.int .i64 cls, sl], .bool q]), some (.tuple #[.agg #[.int .i64 cls, sl], .bool q]), some (.agg #[.int .i64 cls, sl]), some (.bool q), none, some undef, some (.bool q)] ?_ ?_
  · refine ⟨?_, ?_, ?_, ?_, ?_, ?_, ?_, ?_, ?_, ?_, ?_, ?_, ?_, ?_, ?_, ?_, ?_, trivial⟩
    · exact fun L f hc hl hp => OpA.told () rfl (D_pure tabOk rfl D_last) rfl
    · exact fun L f hc hl hp => OpA.told () rfl (D_pure tabOk rfl D_last) rfl
    · exact fun L f hc hl hp => OpA.told () rfl (D_pure tabOk rfl D_last) rfl
    · exact fun L f hc hl hp => OpA.told () rfl (D_load1 tabOk (v := .map (some mb)) rfl rfl (fun w' hw => QuS.cell (hw.own _ (getE_mem (i := 0) rfl)).1 (j := 2) rfl) D_last) rfl
    · exact fun L f hc hl hp => OpA.told () rfl (D_pure tabOk rfl D_last) rfl
    · exact fun L f hc hl hp => OpA.told () rfl (D_pure tabOk rfl D_last) rfl
    · exact fun L f hc hl hp => OpA.told () rfl (D_pure tabOk rfl D_last) rfl
    · exact fun L f hc hl hp => OpA.told () rfl (D_load1 tabOk (v := .slice (some ⟨g, 0, none⟩) s.length c') rfl rfl (fun w' hw => QuS.cell (hw.own _ (getE_mem (i := 0) rfl)).1 (j := 3) rfl) D_last) rfl
    · exact fun L f hc hl hp => OpA.told () rfl (D_q (Q_idx1 tabOk rfl rfl rfl rfl rfl rfl rfl (j := 0) rfl (by omega)) D_last) rfl
    · exact fun L f hc hl hp => OpA.told () rfl (D_load1 tabOk (v := .int .u64 x) rfl rfl (fun w' hw => own_cell (QuS.ls (hw.own _ (getE_mem (i := 0) rfl)).1) (by omega) (by rw [List.getElem?_map, hx]; rfl)) D_last) rfl
    · intro L f hc hl hp
      rcases hlk with ⟨hg, rfl, rfl, rfl⟩ | ⟨hg, rfl⟩
      · exact OpA.told () rfl (D_q ((Q_look0 tabOk rfl rfl rfl rfl rfl rfl rfl rfl (fun w' hw => by exact QuS.m (hw.own _ (getE_mem (i := 0) rfl)).1) hg).eq (v' := .tuple #[.agg #[.int .i64 0, .slice none 0 0], .bool false]) rfl) D_last) rfl
      · exact OpA.told () rfl (D_q (Q_look1 tabOk rfl rfl rfl rfl rfl rfl rfl rfl (fun w' hw => by exact QuS.m (hw.own _ (getE_mem (i := 0) rfl)).1) hg) D_last) rfl
    · exact fun L f hc hl hp => OpA.told () rfl (D_pure tabOk rfl D_last) rfl
    · exact fun L f hc hl hp => OpA.told () rfl (D_pure tabOk rfl D_last) rfl
    · exact fun L f hc hl hp => OpA.told () rfl (D_pure tabOk rfl D_last) rfl
    · intro L f hc hl hp
      have h15 := closed_no hc (j := 15) rfl ⟨14, .data⟩ (by simp) rfl hl
      show OpA _ _ _ _ (lst (L 14) (L 15) (f 14).1) (fun y => lst true (L 15) y.1) _ _ _
      rw [hl, h15]
      refine OpA.new tabOk rfl (fun w1 b hb hw => ⟨(), ?_⟩)
      exact (hw.addF (p := newP w (.pointer (some ⟨b, 0, none⟩))) ⟨b, rfl, hb⟩).pm [2, 1, 0] rfl rfl rfl
    · intro L f hc hl hp
      have h14 : L 14 = true := hp ⟨14, .data⟩ (by simp) rfl
      show OpA _ _ _ _ (lst (L 14) (L 15) (f 14).1) (fun y => lst (L 14) true (f 14).1) _ _ _
      rw [hl, h14]
      refine OpA.pre (X := ∃ b, (f 14).1 = .pointer (some ⟨b, 0, none⟩)) (fun w hw => ?_) (fun d h => by cases h) ?_
      · obtain ⟨b, e1, _⟩ := hw.fact 2 rfl
        exact ⟨b, e1⟩
      · rintro ⟨b, e1⟩
        refine OpA.swap (dl' := [(4, .ex (f 14).1), (26, .ex (.agg #[.int .i64 cls, sl]))]) (List.forall_mem_cons.2 ⟨rfl, List.forall_mem_cons.2 ⟨rfl, fun _ h => nomatch h⟩⟩) ?_
        generalize f 14 = x14 at *
        obtain ⟨x14, g14⟩ := x14
        dsimp only at e1
        subst e1
        exact OpS.toF () (fun u h => by cases h; rfl) (OpS.store tabOk 1 rfl rfl (fun u h => by
          change u ∈ [Value.int .i64 cls, sl] at h
          rw [List.mem_cons, List.mem_singleton] at h
          exact h.elim (fun e => by rw [e]; rfl) (fun e => by rw [e]; exact hone)) rfl rfl rfl)
    · exact fun L f hc hl hp => OpA.told () rfl (D_pure tabOk rfl D_last) rfl
  · intro L' f w5 hL hw
    change Hp _ _ (lst (L' 14) (L' 15) (f 14).1) at hw
    rw [hL 14 (by decide), hL 15 (by decide)] at hw
    obtain ⟨b, e1, hb⟩ := hw.fact 2 rfl
    rw [e1] at hw
    refine ⟨[(0, qptr qb), (5, .bool q)], [.rep (fun w => (quV qb mb cap last ws bys s M cc L wv (.slice (some ⟨g, 0, none⟩) s.length c') bv).at_ w F (.bool true)) F true], (by repeat (first | exact SubD.nil | refine SubD.cons rfl ?_)), hw.less (by repeat (first | exact Less.nil | refine Less.keep ?_ | refine Less.dropR ?_ | refine Less.dropB (by first | assumption | omega) ?_)), ?_⟩
    repeat (first | refine T_seq ?_ | refine T_region ?_ | refine S_nil ?_ | refine S_pure tabOk rfl ?_)
    rcases hlk with ⟨hg, rfl, rfl, rfl⟩ | ⟨hg, rfl⟩
    · refine T_cond_f rfl ?_
      repeat (first | refine pthen_normal ?_ | refine T_skip ?_ | refine S_pure tabOk rfl ?_ | refine T_region_any ?_)
      refine S_q (Q_mkif tabOk rfl rfl rfl rfl) ?_
      refine S_callT 0 rfl Try.call46 rfl (fun w1 g1 => (qlow_pop (g1.own _ (getE_mem (i := 0) rfl)).1 (g1.own _ (getE_mem (i := 0) rfl)).2.2 hx).mono fun e w' ⟨⟨y, he⟩, g2⟩ => ⟨_, _, F, he, g2, fun _ h => h, fun _ h => .inl h, _, rfl, ?_⟩)
      have hno : ∀ y ∈ L, y.1 ≠ x := fun y hy e => by
        have h9 := mGet_mem.1 hg
        rw [hS.ml.keys] at h9
        exact h9 (List.mem_map.2 ⟨y, hy, e⟩)
      repeat (first | refine S_nil ?_ | refine pthen_normal ?_ | refine inb_normal ?_)
      exact ⟨_, ⟨hN.pop (nuOb_ol qb (.int .i64 cap) wv (.map (some mb)) bv (.int .u64 last)) hx hno, by rw [List.length_take]; omega⟩, by repeat (first | exact Sub.nil | refine Sub.cons rfl ?_), fun w' hw => hw, by rw [List.length_take]; omega⟩
    · refine T_cond_t rfl ?_
      repeat (first | refine T_seq ?_ | refine T_region ?_ | refine S_pure tabOk rfl ?_)
      refine S_load1 tabOk (v := .slice (some ⟨g, 0, none⟩) s.length c') rfl rfl (fun w' hw => QuS.cell (hw.own _ (getE_mem (i := 0) rfl)).1 (j := 3) rfl) ?_
      skip
      refine S_q (Q_idx1 tabOk rfl rfl rfl rfl rfl rfl rfl (j := 0) rfl (by omega)) ?_
      refine S_load1 tabOk (v := .int .u64 x) rfl rfl (fun w' hw => own_cell (QuS.ls (hw.own _ (getE_mem (i := 0) rfl)).1) (by omega) (by rw [List.getElem?_map, hx]; rfl)) ?_
      repeat (first | refine S_nil ?_ | refine inb_ret ?_ | refine pthen_ret ?_ | refine T_ret ?_ | refine S_pure tabOk rfl ?_)
      obtain ⟨i, p, y, hp, hy, hyx, _⟩ := hS.ml.hit hS.mok.keys hg
      obtain ⟨z, rest, rfl, rfl⟩ := hN.root hok.srt hx (List.mem_map.2 ⟨y, List.mem_of_getElem? hy, hyx⟩)
      exact ret2 rfl rfl rfl (fun w' hw => ⟨rfl, hw.turnX 0 rfl (Ψ := fun w => (quA qb cap last ws (z :: rest) K).at_ w F (.bool true)) (fun h9 => ⟨mb, bys, s, M, cc, wv, _, bv, h9, hN, hbys, hcK, hsl⟩) Vp.loc rfl⟩)
end
end Go.Proofs.Yteogkadjambmkaa
