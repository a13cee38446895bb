/-
  heap.Push, Pop, Fix, Remove of an alarm with its map. Conditions: each theorem's own.
-/
import Derived.Test.YtggnhcgmeibihaaAlC
import Derived.Test.YtggnhcgmeibihaaEngX
namespace Go.Proofs.Ytggnhcgmeibihaa
open Go Go.RowKit
set_option linter.unusedVariables false

set_option maxHeartbeats 1000000 in
/-- heap.Push, from anything that Push turns into the object. -/
theorem hpushq_ok {iv : Value} {St : Type} (O : HOb Try.prog iv St) (q : Vp) (s1 : St) (F : Nat → Prop) (w : World) (h : q.at_ w F (.bool true)) (hF : ∀ k, F k → k < w.heap.size) (hi : 0 < O.len s1) (u : Value)
    (hp : ∀ w1, q.at_ w1 F (.bool true) → (∀ k, F k → k < w1.heap.size) → Meth Try.prog iv "Push" [u] w1 fun e w' => e = .returned (.tuple #[]) ∧ ∃ F', (∀ k, F k → F' k) ∧ (∀ k, F' k → F k ∨ w1.heap.size ≤ k) ∧ Hp w1 w' [.rep (fun w => (O.p s1).at_ w F' (.bool true)) F' true]) :
    Calls Try.prog 52 #[iv, u] w fun e w' => e = .returned (.tuple #[]) ∧ ∃ F', (∀ k, F k → F' k) ∧ (∀ k, F' k → F k ∨ w.heap.size ≤ k) ∧ Hp w w' [.rep (fun w => (O.p (O.up (O.len s1) s1 (O.len s1 - 1))).at_ w F' (.bool true)) F' true] := by
  refine enter2 Try.func52 rfl rfl (Hp.startO h hF) ?_
  repeat (first | refine T_seq ?_ | refine T_region ?_ | refine S_pure tabOk rfl ?_)
  refine S_inv rfl rfl rfl (fun w1 g => ?_)
  have g0 := g.own _ (getE_mem (i := 0) rfl)
  have hsz := g.size
  refine (hp w1 g0.1 g0.2.2).mono fun e w' ⟨he, F', g1, g2, g3⟩ => ⟨_, _, he, g.graftT 0 rfl g3 g1 g2 rfl, ?_⟩
  have hle := O.hle (g3.own _ (getE_mem (i := 0) rfl)).1
  repeat (first | refine S_nil ?_ | refine S_pure tabOk rfl ?_ | refine T_region_any ?_)
  refine S_invq rfl rfl rfl (fun w1 g => O.hlen (g.own _ (getE_mem (i := 0) rfl)).1) ?_
  repeat (first | refine S_i64 tabOk rfl (by omega) ?_)
  have hup := fun w1 h1 h2 => hup_ok O s1 (O.len s1 - 1) F' w1 h1 h2 (by omega)
  rw [show O.len s1 - 1 + 1 = O.len s1 by omega, show ((O.len s1 - 1 : Nat) : Int) = (O.len s1 : Int) - 1 by omega] at hup
  refine S_callT 0 rfl Try.call74 rfl (fun w1 g => (hup w1 (g.own _ (getE_mem (i := 0) rfl)).1 (g.own _ (getE_mem (i := 0) rfl)).2.2).mono fun e w' ⟨he, g9⟩ => ⟨_, _, F', he, g9, fun _ h => h, fun _ h => .inl h, _, rfl, ?_⟩)
  repeat (first | refine S_nil ?_)
  exact ret0n rfl (fun w' hw => ⟨rfl, F', g1, fun k hk => (g2 k hk).imp id (fun h => Nat.le_trans hsz h), hw⟩)

/-- and one more entry -/
def alE (ab mb : Nat) (s : List En) (x : En) (p : Nat) : Vp :=
  ⟨fun w F v => (alP 0 ab mb s).at_ w F v ∧ w.heap[x.b]? = some (enO x p) ∧ F x.b, fun {w w' A B v} ⟨h1, h2, h3⟩ hk => ⟨(alP 0 ab mb s).keep h1 hk, ((hk x.b h3 (heap_lt h2)).1).trans h2, (hk x.b h3 (heap_lt h2)).2⟩⟩
theorem cells_ne {w : World} {a b : Nat} {x y : Array Value} {t u : TypeId} {p q : Nat × Nat} (ha : w.heap[a]? = some (.cells x t p)) (hb : w.heap[b]? = some (.cells y u q)) (h : t ≠ u) : a ≠ b := fun hh => by
  rw [hh, hb] at ha
  exact h (Obj.cells.inj (Option.some.inj ha)).2.1.symm
theorem map_ne {w : World} {a b : Nat} {x : Array Value} {t : TypeId} {p : Nat × Nat} {es : Array MapEntry} {c : Nat} (ha : w.heap[a]? = some (.cells x t p)) (hb : w.heap[b]? = some (.map es c)) : a ≠ b := fun hh => by
  rw [hh, hb] at ha
  cases ha
theorem row_blk {w : World} {base n : Nat} {e : TypeId} {v : Value} {xs : List Value} (h : w.ownsRow base e 1 v n xs) {k : Nat} (hk : v.ownBlock = some k) : ∃ cur, w.heap[k]? = some (.cells cur e (0, 0)) := by
  obtain ⟨_, h2⟩ := h
  rcases h2 with ⟨rfl, _⟩ | ⟨g, cap, cur, rfl, h3, h4, _⟩
  · cases hk
  · cases hk
    exact ⟨cur, h4⟩
theorem alM_pop {ab mb : Nat} {s : List En} {x : En} {w : World} {F : Nat → Prop} (h : (alP 0 ab mb s).at_ w F (.bool true)) (hF : ∀ k, F k → k < w.heap.size) (hx : s[s.length - 1]? = some x) :
    Meth Try.prog (alI ab) "Pop" [] w fun e w' => e = .returned (.iface 100 (enPt x)) ∧ Hp w w' [.rep (fun w => (alE ab mb (s.take (s.length - 1)) x (s.length - 1)).at_ w F (.bool true)) F true] := by
  obtain ⟨v, hv⟩ := h
  have h0 := (List.getElem?_eq_some_iff.1 hx).1
  obtain ⟨g, c, rfl⟩ := alV_addr hv (by omega)
  obtain ⟨h1, h2, h3, h5, h6, h7⟩ := hv
  obtain ⟨n, hn⟩ : ∃ n, s.length = n + 1 := ⟨s.length - 1, by omega⟩
  rw [show s.length - 1 = n by omega] at hx ⊢
  rw [hn] at h1 h3 h5
  have h3' := h3
  obtain ⟨hl3, h4⟩ := h3
  rcases h4 with ⟨h4, _⟩ | ⟨g', cap, cur, h4, hb, hg, hnc, hm, hz, ht⟩
  · cases h4
  · cases h4
    have hgb : g ≠ ab := cells_ne hg h1 (by decide)
    refine meth_own (u := 97) (f := 122) (by kernel_rfl) (by kernel_rfl) Try.call122 ?_
    refine (apop_walk ab g n c mb _ _ w h1 h3' hgb (by rw [List.getElem?_map, hx]; rfl) (by omega) (by omega)).mono fun e w' ⟨he, h8⟩ => ⟨he, ?_⟩
    have hold : ∀ k o, w.heap[k]? = some o → k ≠ ab → w'.heap[k]? = some o := fun k o ho hk => (h8.old k (heap_lt ho) fun e he _ => by
      rw [List.mem_singleton] at he
      subst he
      intro hh
      exact hk (Option.some.inj hh).symm).trans ho
    have hlen : (s.take n).length = n := by rw [List.length_take]; omega
    have hb2 : w'.heap[ab]? = _ := h8.own _ List.mem_cons_self
    refine h8.widen (fun k hk => ?_) ⟨⟨.slice (some ⟨g, 0, none⟩) n c, hb2, h2, ?_, fun k hk => h5 k hk, fun i z hz2 => ?_, ?_⟩, hold _ _ (h6 n x hx).1 (cells_ne (h6 n x hx).1 h1 (by decide)), (h6 n x hx).2⟩ (Vp.loc (p := alE ab mb (s.take n) x n)) hF
    · have : k = ab := (Option.some.inj hk).symm
      rw [this]
      exact h2
    · rw [hlen]
      refine ⟨by rw [List.length_map, hlen, Nat.mul_one], .inr ⟨g, c, cur, rfl, hb, hold _ _ hg hgb, by omega, hm, hz, ?_⟩⟩
      rw [List.map_take, ← ht, List.take_take]
      congr 1
      omega
    · have hi : i < n := by
        have := (List.getElem?_eq_some_iff.1 hz2).1
        omega
      rw [List.getElem?_take_of_lt hi] at hz2
      exact ⟨hold _ _ (h6 i z hz2).1 (cells_ne (h6 i z hz2).1 h1 (by decide)), (h6 i z hz2).2⟩
    · rw [hlen]; omega
theorem alM_push {ab mb : Nat} {s : List En} {x : En} {p : Nat} {w : World} {F : Nat → Prop} (h : (alE ab mb s x p).at_ w F (.bool true)) (hF : ∀ k, F k → k < w.heap.size) (hs : s.length < 1073741824) (hne : ∀ (i : Nat) (z : En), s[i]? = some z → z.b ≠ x.b) :
    Meth Try.prog (alI ab) "Push" [.iface 100 (enPt x)] w fun e w' => e = .returned (.tuple #[]) ∧ ∃ F', (∀ k, F k → F' k) ∧ (∀ k, F' k → F k ∨ w.heap.size ≤ k) ∧ Hp w w' [.rep (fun w => (alP 0 ab mb (s ++ [x])).at_ w F' (.bool true)) F' true] := by
  obtain ⟨⟨v, hv⟩, hx1, hx2⟩ := h
  have hfm := alV_form hv
  obtain ⟨h1, h2, h3, h5, h6, h7⟩ := hv
  refine meth_own (u := 97) (f := 123) (by kernel_rfl) (by kernel_rfl) Try.call123 ?_
  have hax : ab ≠ x.b := cells_ne h1 hx1 (by decide)
  refine (apush_walk ab x.b s.length mb x.id x.tm p v (s.map enPt) (fun k => v.ownBlock = some k) w ?_ (by omega) hfm).mono fun e w' ⟨he, A', c', F', g1, g2, g3⟩ => ⟨he, fun k => F k ∨ F' k, fun k hk => .inl hk, fun k hk => ?_, ?_⟩
  · have e1 : Hp w w [.rep (fun w => (rowV 0 100 1 s.length (s.map enPt)).at_ w (fun k => v.ownBlock = some k) v) (fun k => v.ownBlock = some k) true] :=
      (Hp.refl w).more ⟨⟨h3, fun k hk => hk⟩, Vp.loc, fun k hk => hF k (h5 k hk)⟩ fun e he => (by cases he)
    have e2 := e1.more (x := .blk x.b (enO x p) true) hx1 fun e he _ k hk hk2 => by
      rw [List.mem_singleton] at he
      subst he
      obtain ⟨cur, h9⟩ := row_blk h3 hk2
      exact cells_ne hx1 h9 (by decide) (Option.some.inj hk)
    refine e2.more (x := .blk ab _ true) h1 fun e he _ k hk hk2 => ?_
    have hk0 := Option.some.inj hk
    rcases List.mem_cons.1 he with rfl | he
    · exact hax (hk0.trans (Option.some.inj hk2).symm)
    · rw [List.mem_singleton] at he
      subst he
      obtain ⟨cur, h9⟩ := row_blk h3 hk2
      exact cells_ne h1 h9 (by decide) hk0
  · rcases hk with h | h
    · exact .inl h
    · rcases g2 k h with h | h
      · exact .inl (h5 k h)
      · exact .inr h
  · have o0 : w'.heap[ab]? = _ := g3.own _ (getE_mem (i := 0) rfl)
    have o1 : w'.heap[x.b]? = _ := g3.own _ (getE_mem (i := 1) rfl)
    obtain ⟨⟨o2, o3⟩, _, o4⟩ := g3.own _ (getE_mem (i := 2) rfl)
    have hlt : ∀ k, F k ∨ F' k → k < w'.heap.size := fun k hk => by
      rcases hk with h | h
      · exact Nat.lt_of_lt_of_le (hF k h) g3.size
      · exact o4 k h
    have hl : (s ++ [x]).length = s.length + 1 := by rw [List.length_append]; rfl
    refine g3.widenM (fun e he k hk => ?_) ⟨.slice A' (s.length + 1) c', o0, .inl h2, ?_, fun k hk => .inr (o3 k hk), fun i z hz => ?_, by omega⟩ (Vp.loc (p := alP 0 ab mb (s ++ [x]))) hlt
    · simp only [List.mem_cons, List.not_mem_nil, or_false] at he
      rcases he with rfl | rfl | rfl
      · left
        have := Option.some.inj hk
        rw [← this]; exact h2
      · left
        have := Option.some.inj hk
        rw [← this]; exact hx2
      · exact .inr hk
    · rw [hl, List.map_append]
      exact o2
    · by_cases hi : i < s.length
      · rw [List.getElem?_append_left hi] at hz
        refine ⟨(g3.old z.b (heap_lt (h6 i z hz).1) fun e he _ hh => ?_).trans (h6 i z hz).1, .inl (h6 i z hz).2⟩
        simp only [List.mem_cons, List.not_mem_nil, or_false] at he
        rcases he with rfl | rfl | rfl
        · exact cells_ne h1 (h6 i z hz).1 (by decide) (Option.some.inj hh)
        · exact hne i z hz (Option.some.inj hh).symm
        · rcases g2 _ hh with h9 | h9
          · obtain ⟨cur, h9⟩ := row_blk h3 h9
            exact cells_ne (h6 i z hz).1 h9 (by decide) rfl
          · have := heap_lt (h6 i z hz).1
            omega
      · have hi2 : i = s.length := by
          have := (List.getElem?_eq_some_iff.1 hz).1
          omega
        subst hi2
        rw [List.getElem?_append_right (Nat.le_refl _), Nat.sub_self] at hz
        cases hz
        exact ⟨o1, .inl hx2⟩

/-- the alarm with its map -/
def alS (ab mb : Nat) (s : List En) (M : List ME) (c : Nat) : Vp :=
  ⟨fun w F v => (alP 0 ab mb s).at_ w F v ∧ w.heap[mb]? = some (mapO .u64 M c) ∧ F mb, fun {w w' A B v} ⟨h1, h2, h3⟩ hk => ⟨(alP 0 ab mb s).keep h1 hk, ((hk mb h3 (heap_lt h2)).1).trans h2, (hk mb h3 (heap_lt h2)).2⟩⟩
/-- and one more entry -/
def alQ (ab mb : Nat) (s : List En) (M : List ME) (c : Nat) (x : En) (p : Nat) : Vp :=
  ⟨fun w F v => (alE ab mb s x p).at_ w F v ∧ w.heap[mb]? = some (mapO .u64 M c) ∧ F mb, fun {w w' A B v} ⟨h1, h2, h3⟩ hk => ⟨(alE ab mb s x p).keep h1 hk, ((hk mb h3 (heap_lt h2)).1).trans h2, (hk mb h3 (heap_lt h2)).2⟩⟩
theorem alP_less {ab mb : Nat} {s : List En} {w : World} {F : Nat → Prop} {v : Value} {es : Array MapEntry} {c : Nat} (h : (alP 0 ab mb s).at_ w F v) (hb : w.heap[mb]? = some (.map es c)) : (alP 0 ab mb s).at_ w (fun k => F k ∧ k ≠ mb) v := by
  obtain ⟨v, h1, h2, h3, h5, h6, h7⟩ := h
  refine ⟨v, h1, ⟨h2, map_ne h1 hb⟩, h3, fun k hk => ⟨h5 k hk, ?_⟩, fun i x hx => ⟨(h6 i x hx).1, (h6 i x hx).2, map_ne (h6 i x hx).1 hb⟩, h7⟩
  obtain ⟨cur, h9⟩ := row_blk h3 hk
  exact map_ne h9 hb
/-- what becomes of the entries, said of all -/
theorem al_graft {w w' : World} {F F1 : Nat → Prop} {mb c : Nat} {M : List ME} {q Q : Vp} (hF : ∀ k, F k → k < w.heap.size) (hb : w.heap[mb]? = some (mapO .u64 M c)) (hmb : F mb) (h : Hp w w' [.rep (fun w => q.at_ w F1 (.bool true)) F1 true])
    (g1 : ∀ k, F k ∧ k ≠ mb → F1 k) (g2 : ∀ k, F1 k → (F k ∧ k ≠ mb) ∨ w.heap.size ≤ k) (hQ : ∀ w F2, q.at_ w F2 (.bool true) → w.heap[mb]? = some (mapO .u64 M c) → F2 mb → Q.at_ w F2 (.bool true)) :
    ∃ F' : Nat → Prop, (∀ k, F k → F' k) ∧ (∀ k, F' k → F k ∨ w.heap.size ≤ k) ∧ Hp w w' [.rep (fun w => Q.at_ w F' (.bool true)) F' true] := by
  obtain ⟨o1, _, o2⟩ := h.own _ (getE_mem (i := 0) rfl)
  have hmb2 : w'.heap[mb]? = some (mapO .u64 M c) := (h.old mb (heap_lt hb) fun e he _ hh => by
    rw [List.mem_singleton] at he
    subst he
    rcases g2 mb hh with h9 | h9
    · exact h9.2 rfl
    · have := heap_lt hb
      omega).trans hb
  refine ⟨fun k => F k ∨ F1 k, fun k hk => .inl hk, fun k hk => ?_, h.widenM (fun e he k hk => ?_) (hQ w' _ (q.keep o1 fun k hk _ => ⟨rfl, .inr hk⟩) hmb2 (.inl hmb)) Vp.loc fun k hk => ?_⟩
  · rcases hk with h | h
    · exact .inl h
    · exact (g2 k h).imp (fun h => h.1) id
  · rw [List.mem_singleton] at he
    subst he
    exact .inr hk
  · rcases hk with h9 | h9
    · exact Nat.lt_of_lt_of_le (hF k h9) h.size
    · exact o2 k h9
section
variable {ab mb c : Nat} {s : List En} {M : List ME} {w : World} {F : Nat → Prop}
theorem alheap_fix (h : (alS ab mb s M c).at_ w F (.bool true)) (hF : ∀ k, F k → k < w.heap.size) (i : Nat) (hi : i < s.length) : Calls Try.prog 51 #[alI ab, .int .i64 (i : Int)] w fun e w' => e = .returned (.tuple #[]) ∧
    ∃ F' : Nat → Prop, (∀ k, F k → F' k) ∧ (∀ k, F' k → F k ∨ w.heap.size ≤ k) ∧ Hp w w' [.rep (fun w => (alS ab mb ((alOb 0 ab mb).fx s i) M c).at_ w F' (.bool true)) F' true] := by
  obtain ⟨h1, h2, h3⟩ := h
  refine (hfix_ok (alOb 0 ab mb) s i (fun k => F k ∧ k ≠ mb) w (alP_less h1 h2) (fun k hk => hF k hk.1) hi).mono fun e w' ⟨he, h8⟩ => ⟨he, ?_⟩
  exact al_graft hF h2 h3 h8 (fun k hk => hk) (fun k hk => .inl hk) fun w F2 e1 e2 e3 => ⟨e1, e2, e3⟩
theorem alheap_pop (h : (alS ab mb s M c).at_ w F (.bool true)) (hF : ∀ k, F k → k < w.heap.size) {x : En} (hx : s[0]? = some x) : Calls Try.prog 53 #[alI ab] w fun e w' => e = .returned (.iface 100 (enPt x)) ∧
    ∃ F' : Nat → Prop, (∀ k, F k → F' k) ∧ (∀ k, F' k → F k ∨ w.heap.size ≤ k) ∧ Hp w w' [.rep (fun w => (alQ ab mb (((alOb 0 ab mb).pp s).take (s.length - 1)) M c x (s.length - 1)).at_ w F' (.bool true)) F' true] := by
  obtain ⟨h1, h2, h3⟩ := h
  have h0 := (List.getElem?_eq_some_iff.1 hx).1
  have hl := (pp_perm (alOb_ol 0 ab mb) s).length_eq
  have hx2 := pp_last (alOb_ol 0 ab mb) s h0
  refine (hpop_ok (alOb 0 ab mb) s (fun k => F k ∧ k ≠ mb) w (alP_less h1 h2) (fun k hk => hF k hk.1) h0 (.iface 100 (enPt x)) (alE ab mb (((alOb 0 ab mb).pp s).take (s.length - 1)) x (s.length - 1)) fun w1 g1 g2 => ?_).mono fun e w' ⟨he, h8⟩ => ⟨he, ?_⟩
  · have := alM_pop (s := (alOb 0 ab mb).pp s) g1 g2 (x := x) (by rw [hl, hx2, hx])
    rw [hl] at this
    exact this
  · exact al_graft hF h2 h3 h8 (fun k hk => hk) (fun k hk => .inl hk) fun w F2 e1 e2 e3 => ⟨e1, e2, e3⟩
theorem alheap_remove (h : (alS ab mb s M c).at_ w F (.bool true)) (hF : ∀ k, F k → k < w.heap.size) (i : Nat) {x : En} (hx : s[i]? = some x) : Calls Try.prog 54 #[alI ab, .int .i64 (i : Int)] w fun e w' => e = .returned (.iface 100 (enPt x)) ∧
    ∃ F' : Nat → Prop, (∀ k, F k → F' k) ∧ (∀ k, F' k → F k ∨ w.heap.size ≤ k) ∧ Hp w w' [.rep (fun w => (alS ab mb (((alOb 0 ab mb).rm s i).take (s.length - 1)) M c).at_ w F' (.bool true)) F' true] := by
  obtain ⟨h1, h2, h3⟩ := h
  have h0 := (List.getElem?_eq_some_iff.1 hx).1
  have hl := (rm_perm (alOb_ol 0 ab mb) s i).length_eq
  have hx2 := rm_last (alOb_ol 0 ab mb) s i h0
  refine (hremove_ok (alOb 0 ab mb) s i (fun k => F k ∧ k ≠ mb) w (alP_less h1 h2) (fun k hk => hF k hk.1) h0 (.iface 100 (enPt x)) (alE ab mb (((alOb 0 ab mb).rm s i).take (s.length - 1)) x (s.length - 1)) fun w1 g1 g2 => ?_).mono fun e w' ⟨he, h8⟩ => ⟨he, ?_⟩
  · have := alM_pop (s := (alOb 0 ab mb).rm s i) g1 g2 (x := x) (by rw [hl, hx2, hx])
    rw [hl] at this
    exact this
  · exact al_graft hF h2 h3 h8 (fun k hk => hk) (fun k hk => .inl hk) fun w F2 e1 e2 e3 => ⟨e1.1, e2, e3⟩
theorem alheap_push {x : En} {p : Nat} (h : (alQ ab mb s M c x p).at_ w F (.bool true)) (hF : ∀ k, F k → k < w.heap.size) (hs : s.length < 1073741824) (hne : ∀ (i : Nat) (z : En), s[i]? = some z → z.b ≠ x.b) : Calls Try.prog 52 #[alI ab, .iface 100 (enPt x)] w fun e w' => e = .returned (.tuple #[]) ∧
    ∃ F' : Nat → Prop, (∀ k, F k → F' k) ∧ (∀ k, F' k → F k ∨ w.heap.size ≤ k) ∧ Hp w w' [.rep (fun w => (alS ab mb ((alOb 0 ab mb).up (s.length + 1) (s ++ [x]) s.length) M c).at_ w F' (.bool true)) F' true] := by
  obtain ⟨⟨h1, h4, h5⟩, h2, h3⟩ := h
  have hl : (s ++ [x]).length = s.length + 1 := by rw [List.length_append]; rfl
  have := hpushq_ok (alOb 0 ab mb) (alE ab mb s x p) (s ++ [x]) (fun k => F k ∧ k ≠ mb) w ⟨alP_less h1 h2, h4, h5, map_ne h4 h2⟩ (fun k hk => hF k hk.1) (by show 0 < (s ++ [x]).length; omega) (.iface 100 (enPt x)) fun w1 g1 g2 => alM_push g1 g2 hs hne
  have hl2 : (alOb 0 ab mb).len (s ++ [x]) = s.length + 1 := hl
  rw [hl2, Nat.add_sub_cancel] at this
  refine this.mono fun e w' ⟨he, F1, g1, g2, h8⟩ => ⟨he, ?_⟩
  exact al_graft hF h2 h3 h8 g1 g2 fun w F2 e1 e2 e3 => ⟨e1, e2, e3⟩
end
end Go.Proofs.Ytggnhcgmeibihaa
