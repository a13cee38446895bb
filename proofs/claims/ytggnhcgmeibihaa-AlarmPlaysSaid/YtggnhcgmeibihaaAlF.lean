/-
  The walks of alarm's New, Len, Next, When. Conditions: each theorem's own.
-/
import Derived.Test.YtggnhcgmeibihaaAlE
import Derived.Test.YtggnhcgmeibihaaEngZ
namespace Go.Proofs.Ytggnhcgmeibihaa
open Go Go.RowKit
set_option linter.unusedVariables false

abbrev aptr (ab : Nat) : Value := .pointer (some ⟨ab, 0, none⟩)
/-- an alarm that says what a list says -/
def alA (ab : Nat) (l : List DE) : Vp :=
  ⟨fun w F v => ∃ mb s M c, (alS ab mb s M c).at_ w F (.bool true) ∧ AR s M l, fun ⟨mb, s, M, c, h1, h2⟩ hk => ⟨mb, s, M, c, (alS ab mb s M c).keep h1 hk, h2⟩⟩
section
variable {ab mb c : Nat} {s : List En} {M : List ME} {l : List DE} {w : World} {F : Nat → Prop} {v : Value}
theorem alS_map (h : (alS ab mb s M c).at_ w F v) : w.cell? ⟨ab, 0 + 1, none⟩ = some (.map (some mb)) := by
  obtain ⟨⟨u, hu⟩, _⟩ := h
  exact (Sl.of_blk (n := 2) (sz := 1) (off := 0) (xs := [u, .map (some mb)]) hu.1 rfl (fun j u hu => by rw [Nat.zero_add]; exact hu)).at_ (j := 1) (by decide) rfl
theorem alV_sl {base : Nat} (h : (alV base ab mb s).at_ w F v) : w.cell? ⟨ab, 0, none⟩ = some v := by
  have := (Sl.of_blk (n := 2) (sz := 1) (off := 0) (xs := [v, .map (some mb)]) h.1 rfl (fun j u hu => by rw [Nat.zero_add]; exact hu)).at_ (j := 0) (by decide) rfl
  rwa [Nat.zero_add] at this
theorem alS_en (h : (alS ab mb s M c).at_ w F v) {i : Nat} {x : En} (hx : s[i]? = some x) : w.heap[x.b]? = some (enO x i) ∧ F x.b := by
  obtain ⟨⟨u, hu⟩, _⟩ := h
  exact hu.2.2.2.2.1 i x hx
theorem en_cell {x : En} {i : Nat} (h : w.heap[x.b]? = some (enO x i)) {j : Nat} {u : Value} (hu : [.int .u64 x.id, .int .i64 x.tm, .int .i64 (i : Int)][j]? = some u) : w.cell? ⟨x.b, 0 + j, none⟩ = some u :=
  (Sl.of_blk (n := 3) (sz := 1) (off := 0) h rfl (fun j u hu => by rw [Nat.zero_add]; exact hu)).at_ (by
    have := (List.getElem?_eq_some_iff.1 hu).1
    simp only [List.length_cons, List.length_nil] at this
    omega) hu
end
theorem al_new (w : World) : Calls Try.prog 13 #[] w fun e w' => ∃ ab F, e = .returned (aptr ab) ∧ Hp w w' [.rep (fun w => (alA ab []).at_ w F (.bool true)) F true] ∧ ∀ k, F k → w.heap.size ≤ k := by
  refine enter0 Try.func13 rfl (Hp.refl w) ?_
  repeat (first | refine T_seq ?_ | refine T_region ?_ | refine S_nil ?_ | refine S_pure tabOk rfl ?_)
  refine S_makemap rfl .u64 (fun mb hmb => ?_)
  repeat (first | refine S_q (Q_build tabOk rfl rfl rfl rfl rfl rfl rfl) ?_)
  refine S_new tabOk rfl (fun ab hab => ?_)
  repeat (first | refine S_nil ?_ | refine T_ret ?_ | refine S_pure tabOk rfl ?_)
  refine ret1 rfl rfl (fun w' hw => ⟨ab, fun k => k = ab ∨ k = mb, rfl, ?_, fun k hk => by rcases hk with rfl | rfl <;> assumption⟩)
  have h1 : w'.heap[ab]? = _ := hw.own _ (getE_mem (i := 0) rfl)
  have h2 : w'.heap[mb]? = _ := hw.own _ (getE_mem (i := 1) rfl)
  refine hw.widenM (fun e he k hk => ?_) ⟨mb, [], [], 0, ⟨⟨_, h1, .inl rfl, World.ownsRow_nil w' _ _ _, fun k hk => (by cases hk), fun i x hx => (by simp at hx), (by decide)⟩, h2, .inr rfl⟩, .init⟩ (Vp.loc (p := alA ab [])) (fun k hk => ?_)
  · simp only [List.mem_cons, List.not_mem_nil, or_false] at he
    rcases he with rfl | rfl
    · exact .inl (Option.some.inj hk).symm
    · exact .inr (Option.some.inj hk).symm
  · rcases hk with rfl | rfl
    · exact heap_lt h1
    · exact heap_lt h2
section
variable {ab : Nat} {l : List DE} {w : World} {F : Nat → Prop}
theorem al_len (h : (alA ab l).at_ w F (.bool true)) : Calls Try.prog 16 #[aptr ab] w fun e w' => e = .returned (.int .i64 (l.length : Int)) ∧ Below w.heap.size w w' := by
  obtain ⟨mb, s, M, c, ⟨⟨v, hv⟩, _⟩, hR⟩ := h
  obtain ⟨a, cc, rfl, _⟩ := alV_form hv
  obtain ⟨F2, hst⟩ := Hp.startR hv
  refine enter1 Try.func16 rfl rfl hst ?_
  repeat (first | refine T_seq ?_ | refine T_region ?_ | refine S_nil ?_ | refine S_pure tabOk rfl ?_)
  refine S_q (Q_eqptr tabOk rfl rfl rfl rfl rfl) ?_
  repeat (first | refine T_seq ?_ | refine T_region ?_ | refine S_nil ?_ | refine pthen_normal ?_ | refine T_skip ?_ | refine T_cond_f rfl ?_ | refine S_pure tabOk rfl ?_)
  refine S_load1 tabOk (v := .slice a s.length cc) rfl rfl (fun w' hw => alV_sl (hw.own _ (getE_mem (i := 0) rfl)).1) ?_
  repeat (first | refine S_nil ?_ | refine T_ret ?_ | refine S_pure tabOk rfl ?_)
  exact ret1 rfl rfl (fun w' hw => ⟨by rw [hR.len], hw.below (by repeat (first | exact new_nil | refine new_ro ?_))⟩)
theorem al_len0 (w : World) : Calls Try.prog 16 #[.pointer none] w fun e w' => e = .returned (.int .i64 0) ∧ Below w.heap.size w w' := by
  refine enter1 Try.func16 rfl rfl (Hp.refl w) ?_
  repeat (first | refine T_seq ?_ | refine T_region ?_ | refine S_nil ?_ | refine S_pure tabOk rfl ?_)
  refine S_q (Q_eqptr tabOk rfl rfl rfl rfl rfl) ?_
  repeat (first | refine T_seq ?_ | refine T_region ?_ | refine S_nil ?_ | refine pthen_ret ?_ | refine T_ret ?_ | refine T_cond_t rfl ?_ | refine S_pure tabOk rfl ?_)
  exact ret1 rfl rfl (fun w' hw => ⟨rfl, hw.below (by repeat (first | exact new_nil))⟩)
/-- the least time -/
def dNext (l : List DE) : Value := match l with | [] => .tuple #[.int .i64 0, .bool false] | p :: _ => .tuple #[.int .i64 p.2, .bool true]
theorem al_next (h : (alA ab l).at_ w F (.bool true)) : Calls Try.prog 24 #[aptr ab] w fun e w' => e = .returned (dNext l) ∧ Below w.heap.size w w' := by
  have h0 := h
  obtain ⟨mb, s, M, c, ⟨⟨v, hv⟩, hm, hmF⟩, hR⟩ := h
  have hl := hR.len
  cases l with
  | nil =>
    obtain ⟨F2, hst⟩ := Hp.startR h0
    refine enter1 Try.func24 rfl rfl hst ?_
    repeat (first | refine T_seq ?_ | refine T_region ?_ | refine S_nil ?_ | refine S_pure tabOk rfl ?_)
    refine S_callq rfl Try.call16 (fun w1 h1 => al_len (h1.own _ (getE_mem (i := 0) rfl)).1) ?_
    repeat (first | refine T_seq ?_ | refine T_region ?_ | refine S_nil ?_ | refine pthen_ret ?_ | refine T_ret ?_ | refine T_cond_t rfl ?_ | refine S_pure tabOk rfl ?_)
    exact ret2 rfl rfl rfl (fun w' hw => ⟨rfl, hw.below (by repeat (first | exact new_nil | refine new_ro ?_))⟩)
  | cons p rest =>
    have hpos : 0 < s.length := by rw [hl]; exact Nat.succ_pos _
    obtain ⟨g, cc, rfl⟩ := alV_addr hv hpos
    obtain ⟨x, hx⟩ : ∃ x, s[0]? = some x := ⟨_, List.getElem?_eq_getElem hpos⟩
    obtain ⟨_, e1, _⟩ := hR.root hx
    cases e1
    obtain ⟨F2, hst⟩ := Hp.startR (p := ⟨fun w F v => (alA ab (enD x :: rest)).at_ w F (.bool true) ∧ (alV 0 ab mb s).at_ w F v, fun ⟨h1, h2⟩ hk => ⟨(alA ab (enD x :: rest)).keep h1 hk, (alV 0 ab mb s).keep h2 hk⟩⟩) ⟨h0, hv⟩
    refine enter1 Try.func24 rfl rfl hst ?_
    repeat (first | refine T_seq ?_ | refine T_region ?_ | refine S_nil ?_ | refine S_pure tabOk rfl ?_)
    refine S_callq rfl Try.call16 (fun w1 h1 => al_len (h1.own _ (getE_mem (i := 0) rfl)).1.1) ?_
    repeat (first | refine S_nil ?_ | refine S_pure tabOk rfl ?_)
    refine T_cond_dec rfl (fun h => absurd h (by simp only [List.length_cons]; omega)) (fun _ => ?_)
    repeat (first | refine T_seq ?_ | refine T_region ?_ | refine pthen_normal ?_ | refine T_skip ?_ | refine S_pure tabOk rfl ?_)
    refine S_load1 tabOk (v := .slice (some ⟨g, 0, none⟩) s.length cc) rfl rfl (fun w' hw => alV_sl (hw.own _ (getE_mem (i := 0) rfl)).1.2) ?_
    skip
    refine S_q (Q_idx1 tabOk rfl rfl rfl rfl rfl rfl rfl (j := 0) rfl hpos) ?_
    skip
    refine S_load1 tabOk (v := enPt x) rfl rfl (fun w' hw => alV_cell (hw.own _ (getE_mem (i := 0) rfl)).1.2 hx) ?_
    repeat (first | refine S_pure tabOk rfl ?_)
    refine S_load1 tabOk (v := .int .i64 x.tm) rfl rfl (fun w' hw => alV_en (hw.own _ (getE_mem (i := 0) rfl)).1.2 hx (j := 1) rfl) ?_
    repeat (first | refine S_nil ?_ | refine T_ret ?_ | refine S_pure tabOk rfl ?_)
    exact ret2 rfl rfl rfl (fun w' hw => ⟨rfl, hw.below (by repeat (first | exact new_nil | refine new_ro ?_))⟩)
theorem al_next0 (w : World) : Calls Try.prog 24 #[.pointer none] w fun e w' => e = .returned (.tuple #[.int .i64 0, .bool false]) ∧ Below w.heap.size w w' := by
  refine enter1 Try.func24 rfl rfl (Hp.refl w) ?_
  repeat (first | refine T_seq ?_ | refine T_region ?_ | refine S_nil ?_ | refine S_pure tabOk rfl ?_)
  refine S_callq rfl Try.call16 (fun w1 h1 => al_len0 w1) ?_
  repeat (first | refine T_seq ?_ | refine T_region ?_ | refine S_nil ?_ | refine pthen_ret ?_ | refine T_ret ?_ | refine T_cond_t rfl ?_ | refine S_pure tabOk rfl ?_)
  exact ret2 rfl rfl rfl (fun w' hw => ⟨rfl, hw.below (by repeat (first | exact new_nil))⟩)
/-- somebody's time -/
def dAt (l : List DE) (id : Int) : Option Int := (l.find? fun p => decide (p.1 = id)).map (·.2)
def dWhen (l : List DE) (id : Int) : Value := match dAt l id with | none => .tuple #[.int .i64 0, .bool false] | some t => .tuple #[.int .i64 t, .bool true]
theorem dAt_none {l : List DE} {id : Int} (h : ∀ p ∈ l, p.1 ≠ id) : dAt l id = none := by
  unfold dAt
  rw [List.find?_eq_none.2 fun p hp => by simpa using h p hp]
  rfl
theorem dAt_some {l : List DE} {id t : Int} (hn : (l.map (·.1)).Nodup) (h : (id, t) ∈ l) : dAt l id = some t := by
  induction l with
  | nil => cases h
  | cons p l ih =>
    rw [List.map_cons, List.nodup_cons] at hn
    unfold dAt
    by_cases hp : p.1 = id
    · rw [List.find?_cons_of_pos (by simpa using hp)]
      rcases List.mem_cons.1 h with h | h
      · rw [← h]; rfl
      · exact absurd (List.mem_map.2 ⟨_, h, hp.symm⟩) hn.1
    · rw [List.find?_cons_of_neg (by simpa using hp)]
      rcases List.mem_cons.1 h with h | h
      · rw [← h] at hp; exact absurd rfl hp
      · exact ih hn.2 h
theorem al_when (h : (alA ab l).at_ w F (.bool true)) (id : Int) : Calls Try.prog 17 #[aptr ab, .int .u64 id] w fun e w' => e = .returned (dWhen l id) ∧ Below w.heap.size w w' := by
  obtain ⟨mb, s, M, c, hS, hR⟩ := h
  obtain ⟨F2, hst⟩ := Hp.startR hS
  refine enter2 Try.func17 rfl rfl hst ?_
  repeat (first | refine T_seq ?_ | refine T_region ?_ | refine S_nil ?_ | refine S_pure tabOk rfl ?_)
  refine S_q (Q_eqptr tabOk rfl rfl rfl rfl rfl) ?_
  repeat (first | refine T_seq ?_ | refine T_region ?_ | refine S_nil ?_ | refine pthen_normal ?_ | refine T_skip ?_ | refine T_cond_f rfl ?_ | refine S_pure tabOk rfl ?_)
  refine S_load1 tabOk (v := .map (some mb)) rfl rfl (fun w' hw => alS_map (hw.own _ (getE_mem (i := 0) rfl)).1) ?_
  repeat (first | refine S_pure tabOk rfl ?_)
  unfold dWhen
  cases hg : mGet M id with
  | none =>
    rw [dAt_none (hR.missl hg)]
    refine S_q (Q_look0 tabOk rfl rfl rfl rfl rfl rfl rfl rfl (fun w' hw => (hw.own _ (getE_mem (i := 0) rfl)).1.2.1) hg) ?_
    repeat (first | refine T_seq ?_ | refine T_region ?_ | refine S_nil ?_ | refine pthen_ret ?_ | refine T_ret ?_ | refine T_cond_t rfl ?_ | refine S_pure tabOk rfl ?_)
    exact ret2 rfl rfl rfl (fun w' hw => ⟨rfl, hw.below (by repeat (first | exact new_nil | refine new_ro ?_))⟩)
  | some u =>
    obtain ⟨i, x, hx, rfl, rfl⟩ := hR.hit hg
    rw [dAt_some hR.ids (hR.find hx)]
    refine S_q (Q_look1 tabOk rfl rfl rfl rfl rfl rfl rfl rfl (fun w' hw => (hw.own _ (getE_mem (i := 0) rfl)).1.2.1) hg) ?_
    repeat (first | refine T_seq ?_ | refine T_region ?_ | refine S_nil ?_ | refine pthen_normal ?_ | refine T_skip ?_ | refine T_cond_f rfl ?_ | refine S_pure tabOk rfl ?_)
    refine S_load1 tabOk (v := .int .i64 x.tm) rfl rfl (fun w' hw => en_cell (alS_en (hw.own _ (getE_mem (i := 0) rfl)).1 hx).1 (j := 1) rfl) ?_
    repeat (first | refine S_nil ?_ | refine T_ret ?_ | refine S_pure tabOk rfl ?_)
    exact ret2 rfl rfl rfl (fun w' hw => ⟨rfl, hw.below (by repeat (first | exact new_nil | refine new_ro ?_))⟩)
theorem al_when0 (w : World) (id : Int) : Calls Try.prog 17 #[.pointer none, .int .u64 id] w fun e w' => e = .returned (.tuple #[.int .i64 0, .bool false]) ∧ Below w.heap.size w w' := by
  refine enter2 Try.func17 rfl rfl (Hp.refl w) ?_
  repeat (first | refine T_seq ?_ | refine T_region ?_ | refine S_nil ?_ | refine S_pure tabOk rfl ?_)
  refine S_q (Q_eqptr tabOk rfl rfl rfl rfl rfl) ?_
  repeat (first | refine T_seq ?_ | refine T_region ?_ | refine S_nil ?_ | refine pthen_ret ?_ | refine T_ret ?_ | refine T_cond_t rfl ?_ | refine S_pure tabOk rfl ?_)
  exact ret2 rfl rfl rfl (fun w' hw => ⟨rfl, hw.below (by repeat (first | exact new_nil))⟩)
end
end Go.Proofs.Ytggnhcgmeibihaa
