/-
  The walks of alarm's Set and Clear. Conditions: each theorem's own.
-/
import Derived.Test.YtggnhcgmeibihaaAlF
namespace Go.Proofs.Ytggnhcgmeibihaa
open Go Go.RowKit
set_option linter.unusedVariables false

section
variable {ab mb c : Nat} {s : List En} {M : List ME} {l : List DE} {w w' : World} {F : Nat → Prop} {v : Value}
theorem alS_map_of (h : (alS ab mb s M c).at_ w F v) {M2 : List ME} {c2 : Nat} (hk : ∀ k, k ≠ mb → w'.heap[k]? = w.heap[k]?) (hb : w'.heap[mb]? = some (mapO .u64 M2 c2)) : (alS ab mb s M2 c2).at_ w' F v := by
  obtain ⟨h1, h2, h3⟩ := h
  exact ⟨(alP 0 ab mb s).keep (alP_less h1 h2) fun k hk2 _ => ⟨hk k hk2.2, hk2.1⟩, hb, h3⟩
theorem alQ_map_of {x : En} {p : Nat} (h : (alQ ab mb s M c x p).at_ w F v) {M2 : List ME} {c2 : Nat} (hk : ∀ k, k ≠ mb → w'.heap[k]? = w.heap[k]?) (hb : w'.heap[mb]? = some (mapO .u64 M2 c2)) : (alQ ab mb s M2 c2 x p).at_ w' F v := by
  obtain ⟨⟨h1, h4, h5⟩, h2, h3⟩ := h
  exact ⟨⟨(alP 0 ab mb s).keep (alP_less h1 h2) fun k hk2 _ => ⟨hk k hk2.2, hk2.1⟩, (hk _ (map_ne h4 h2)).trans h4, h5⟩, hb, h3⟩
theorem alS_set (h : (alS ab mb s M c).at_ w F v) {i : Nat} {x : En} (hx : s[i]? = some x) (tm : Int) (hk : ∀ k, k ≠ x.b → w'.heap[k]? = w.heap[k]?) (hb : w'.heap[x.b]? = some (enO ⟨x.b, x.id, tm⟩ i)) : (alS ab mb (s.set i ⟨x.b, x.id, tm⟩) M c).at_ w' F v := by
  obtain ⟨⟨u, h1, h2, h3, h5, h6, h7⟩, h8, h9⟩ := h
  have hi := (List.getElem?_eq_some_iff.1 hx).1
  refine ⟨⟨u, (hk _ (cells_ne h1 (h6 i x hx).1 (by decide))).trans h1, h2, ?_, h5, fun j z hz => ?_, by rw [List.length_set]; exact h7⟩, (hk _ (map_ne (h6 i x hx).1 h8).symm).trans h8, h9⟩
  · rw [List.length_set, List.map_set]
    have e1 : (s.map enPt).set i (enPt ⟨x.b, x.id, tm⟩) = s.map enPt := set_self (by rw [List.getElem?_map, hx]; rfl)
    rw [e1]
    refine own_keep h3 fun k hv => hk k fun e => ?_
    obtain ⟨cur, h10⟩ := row_blk h3 hv
    exact cells_ne h10 (h6 i x hx).1 (by decide) e
  · by_cases hij : i = j
    · subst hij
      rw [List.getElem?_set_self hi] at hz
      cases hz
      exact ⟨hb, (h6 i x hx).2⟩
    · rw [List.getElem?_set_ne hij] at hz
      refine ⟨(hk _ fun e => ?_).trans (h6 j z hz).1, (h6 j z hz).2⟩
      have h10 := (h6 j z hz).1
      rw [e, (h6 i x hx).1] at h10
      have h11 := (Obj.cells.inj (Option.some.inj h10)).1
      simp only [Array.mk.injEq, List.cons.injEq, Value.int.injEq, true_and, and_true] at h11
      omega
theorem alS_join {x : En} {p : Nat} {ol : OL} {w0 : World} (h : Hp w0 w (.blk x.b (enO x p) true :: .rep (fun w => (alS ab mb s M c).at_ w F (.bool true)) F true :: ol)) : Hp w0 w (.rep (fun w => (alQ ab mb s M c x p).at_ w (fun k => F k ∨ k = x.b) (.bool true)) (fun k => F k ∨ k = x.b) true :: ol) := by
  have o0 : w.heap[x.b]? = _ := h.own _ (getE_mem (i := 0) rfl)
  obtain ⟨⟨h1, h2, h3⟩, _, o2⟩ := h.own _ (getE_mem (i := 1) rfl)
  refine Hp.regroup [.blk x.b (enO x p) true, .rep (fun w => (alS ab mb s M c).at_ w F (.bool true)) F true] [.rep (fun w => (alQ ab mb s M c x p).at_ w (fun k => F k ∨ k = x.b) (.bool true)) (fun k => F k ∨ k = x.b) true] h (fun e he => ?_) (fun e he => ?_) (List.pairwise_singleton _ _) (fun e he k hk => ?_) (fun e he k hk => ?_)
  · simp only [List.mem_cons, List.not_mem_nil, or_false] at he
    rcases he with rfl | rfl <;> rfl
  · rw [List.mem_singleton] at he
    subst he
    refine ⟨rfl, ⟨⟨(alP 0 ab mb s).keep h1 fun k hk _ => ⟨rfl, .inl hk⟩, o0, .inr rfl⟩, h2, .inl h3⟩, Vp.loc (p := alQ ab mb s M c x p), fun k hk => ?_⟩
    rcases hk with hk | rfl
    · exact o2 k hk
    · exact heap_lt o0
  · rw [List.mem_singleton] at he
    subst he
    rcases hk with hk | rfl
    · exact ⟨_, List.mem_cons_of_mem _ List.mem_cons_self, hk⟩
    · exact ⟨_, List.mem_cons_self, rfl⟩
  · simp only [List.mem_cons, List.not_mem_nil, or_false] at he
    rcases he with rfl | rfl
    · exact .inr ⟨_, List.mem_cons_self, .inr (Option.some.inj hk).symm⟩
    · exact .inr ⟨_, List.mem_cons_self, .inl hk⟩
/-- what an object's call leaves -/
def Turns (w : World) (F : Nat → Prop) (p : Vp) (w' : World) : Prop := ∃ F' : Nat → Prop, (∀ k, F k → F' k) ∧ (∀ k, F' k → F k ∨ w.heap.size ≤ k) ∧ Hp w w' [.rep (fun w => p.at_ w F' (.bool true)) F' true]
set_option maxHeartbeats 2000000 in
theorem al_set (h : (alA ab l).at_ w F (.bool true)) (hF : ∀ k, F k → k < w.heap.size) (hl : l.length < 1073741824) (id tm : Int) : Calls Try.prog 14 #[aptr ab, .int .u64 id, .int .i64 tm] w fun e w' => e = .returned (.tuple #[]) ∧ Turns w F (alA ab (dSet l id tm)) w' := by
  obtain ⟨mb, s, M, c, hS, hR⟩ := h
  have hmb := hS.2.2
  refine enter3 Try.func14 rfl rfl (Hp.startO hS hF) ?_
  repeat (first | refine T_seq ?_ | refine T_region ?_ | refine S_pure tabOk rfl ?_)
  refine S_q (Q_eqptr tabOk rfl rfl rfl rfl rfl) ?_
  repeat (first | refine T_seq ?_ | refine T_region ?_ | refine S_nil ?_ | refine pthen_normal ?_ | refine T_skip ?_ | refine T_cond_f rfl ?_ | refine S_pure tabOk rfl ?_)
  refine S_load1 tabOk (v := .map (some mb)) rfl rfl (fun w' hw => alS_map (hw.own _ (getE_mem (i := 0) rfl)).1) ?_
  repeat (first | refine S_pure tabOk rfl ?_)
  cases hg : mGet M id with
  | some u =>
    obtain ⟨i, x, hx, rfl, rfl⟩ := hR.hit hg
    have hi := (List.getElem?_eq_some_iff.1 hx).1
    have hxF := (alS_en hS hx).2
    refine S_q (Q_look1 tabOk rfl rfl rfl rfl rfl rfl rfl rfl (fun w' hw => (hw.own _ (getE_mem (i := 0) rfl)).1.2.1) hg) ?_
    repeat (first | refine T_seq ?_ | refine T_region ?_ | refine S_nil ?_ | refine S_pure tabOk rfl ?_)
    refine T_cond_t rfl ?_
    repeat (first | refine T_seq ?_ | refine T_region ?_ | refine S_pure tabOk rfl ?_)
    refine S_storeO tabOk 0 (Ψ := fun w => (alS ab mb (s.set i ⟨x.b, x.id, tm⟩) M c).at_ w F (.bool true)) [.int .u64 x.id, .int .i64 x.tm, .int .i64 (i : Int)] [.int .u64 x.id, .int .i64 tm, .int .i64 (i : Int)] 103 rfl rfl (fun u hu => by rw [List.mem_singleton] at hu; subst hu; rfl) rfl hxF (fun w h => (alS_en h hx).1) rfl (fun w w' h h1 h2 => alS_set h hx tm h1 h2) Vp.loc rfl ?_
    repeat (first | refine T_seq ?_ | refine S_nil ?_)
    refine T_drawT (by kernel_rfl) 8 rfl (by kernel_rfl) ?_
    repeat (first | refine D_pure tabOk rfl ?_)
    refine D_q (Q_mkif tabOk rfl rfl rfl rfl) ?_
    repeat (first | refine D_pure tabOk rfl ?_)
    have hx2 : (s.set i ⟨x.b, x.id, tm⟩)[i]? = some ⟨x.b, x.id, tm⟩ := List.getElem?_set_self hi
    refine D_load1 tabOk (v := .int .i64 (i : Int)) rfl rfl (fun w' hw => en_cell (alS_en (hw.own _ (getE_mem (i := 0) rfl)).1 hx2).1 (j := 2) rfl) ?_
    repeat (first | refine D_all rfl ?_)
    refine S_callT 0 rfl Try.call51 rfl (fun w1 g => (alheap_fix (g.own _ (getE_mem (i := 0) rfl)).1 (g.own _ (getE_mem (i := 0) rfl)).2.2 i (by rw [List.length_set]; exact hi)).mono fun e w' ⟨he, F', g1, g2, g3⟩ => ⟨_, _, F', he, g3, g1, g2, _, rfl, ?_⟩)
    have hsz := g.size
    repeat (first | refine S_nil ?_ | refine pthen_ret ?_ | refine T_ret ?_)
    exact ret0 rfl (fun w' hw => ⟨rfl, F', g1, fun k hk => (g2 k hk).imp id (fun h => Nat.le_trans hsz h), hw.turnX 0 rfl (fun h => ⟨mb, _, M, c, h, hR.setOld (alOb_ol 0 ab mb) hx tm⟩) (Vp.loc (p := alA ab (dSet l x.id tm))) rfl⟩)
  | none =>
    refine S_q (Q_look0 tabOk rfl rfl rfl rfl rfl rfl rfl rfl (fun w' hw => (hw.own _ (getE_mem (i := 0) rfl)).1.2.1) hg) ?_
    repeat (first | refine T_seq ?_ | refine T_region ?_ | refine S_nil ?_ | refine pthen_normal ?_ | refine T_skip ?_ | refine T_cond_f rfl ?_ | refine S_pure tabOk rfl ?_ | refine S_q (Q_build tabOk rfl rfl rfl rfl rfl rfl rfl) ?_)
    refine S_new tabOk rfl (fun xb hxb => ?_)
    obtain ⟨x, hx⟩ : ∃ x : En, x = ⟨xb, id, tm⟩ := ⟨_, rfl⟩
    repeat (first | refine T_seq ?_ | refine T_region ?_ | refine S_nil ?_ | refine S_pure tabOk rfl ?_)
    refine S_load1 tabOk (v := .map (some mb)) rfl rfl (fun w' hw => alS_map (hw.own _ (getE_mem (i := 1) rfl)).1) ?_
    repeat (first | refine S_pure tabOk rfl ?_)
    refine S_mapupdO tabOk 1 (Ψ := fun w => (alS ab mb s (mPut M id (enPt ⟨xb, id, tm⟩) c).1 (mPut M id (enPt ⟨xb, id, tm⟩) c).2).at_ w F (.bool true)) M c rfl rfl rfl rfl rfl rfl rfl rfl rfl hmb (fun w h => h.2.1) (fun w w' h h1 h2 => alS_map_of h h1 h2) Vp.loc rfl ?_
    repeat (first | refine S_nil ?_ | refine S_pure tabOk rfl ?_ | refine T_region_any ?_)
    refine S_q (Q_mkif tabOk rfl rfl rfl rfl) ?_
    repeat (first | refine S_pure tabOk rfl ?_)
    refine S_q (Q_mkif tabOk rfl rfl rfl rfl) ?_
    refine S_toX (ι := Unit) (fun _ => True) (fun _ => _) (fun w hh => ⟨(), trivial, alS_join (x := ⟨xb, id, tm⟩) (p := 0) hh⟩) (fun _ _ => ?_)
    have hne : ∀ (i : Nat) (z : En), s[i]? = some z → z.b ≠ xb := fun i z hz he => by
      have h1 := hF z.b (alS_en hS hz).2
      omega
    refine S_callT 0 rfl Try.call52 rfl (fun w1 g => (alheap_push (x := ⟨xb, id, tm⟩) (p := 0) (g.own _ (getE_mem (i := 0) rfl)).1 (g.own _ (getE_mem (i := 0) rfl)).2.2 (by rw [hR.len]; exact hl) hne).mono fun e w' ⟨he, F', g1, g2, g3⟩ => ⟨_, _, F', he, g3, g1, g2, _, rfl, ?_⟩)
    have hsz := g.size
    repeat (first | refine S_nil ?_)
    exact ret0n rfl (fun w' hw => ⟨rfl, F', fun k hk => g1 k (.inl hk), fun k hk => by
      rcases g2 k hk with (h | h) | h
      · exact .inl h
      · exact .inr (by rw [h]; exact hxb)
      · exact .inr (Nat.le_trans hsz h), hw.turnX 0 rfl (fun h => ⟨mb, _, _, _, h, hR.setNew (x := ⟨xb, id, tm⟩) (alOb_ol 0 ab mb) hg c⟩) (Vp.loc (p := alA ab (dSet l id tm))) rfl⟩)
theorem al_set0 (w : World) (id tm : Int) : Calls Try.prog 14 #[.pointer none, .int .u64 id, .int .i64 tm] w fun e w' => e = .returned (.tuple #[]) ∧ Below w.heap.size w w' := by
  refine enter3 Try.func14 rfl rfl (Hp.refl w) ?_
  repeat (first | refine T_seq ?_ | refine T_region ?_ | refine S_pure tabOk rfl ?_)
  refine S_q (Q_eqptr tabOk rfl rfl rfl rfl rfl) ?_
  repeat (first | refine S_nil ?_ | refine pthen_ret ?_ | refine T_ret ?_ | refine T_cond_t rfl ?_)
  exact ret0 rfl (fun w' hw => ⟨rfl, hw.below (by repeat (first | exact new_nil))⟩)
set_option maxHeartbeats 2000000 in
theorem al_clear (h : (alA ab l).at_ w F (.bool true)) (hF : ∀ k, F k → k < w.heap.size) (id : Int) : Calls Try.prog 21 #[aptr ab, .int .u64 id] w fun e w' => e = .returned (.bool (dAt l id).isSome) ∧ Turns w F (alA ab (dClear l id)) w' := by
  obtain ⟨mb, s, M, c, hS, hR⟩ := h
  have hmb := hS.2.2
  refine enter2 Try.func21 rfl rfl (Hp.startO hS hF) ?_
  repeat (first | refine T_seq ?_ | refine T_region ?_ | refine S_nil ?_ | refine S_pure tabOk rfl ?_)
  refine S_q (Q_eqptr tabOk rfl rfl rfl rfl rfl) ?_
  repeat (first | refine T_seq ?_ | refine T_region ?_ | refine S_nil ?_ | refine pthen_normal ?_ | refine T_skip ?_ | refine T_cond_f rfl ?_ | refine S_pure tabOk rfl ?_)
  refine S_load1 tabOk (v := .map (some mb)) rfl rfl (fun w' hw => alS_map (hw.own _ (getE_mem (i := 0) rfl)).1) ?_
  repeat (first | refine S_pure tabOk rfl ?_)
  cases hg : mGet M id with
  | some u =>
    obtain ⟨i, x, hx, rfl, rfl⟩ := hR.hit hg
    have hi := (List.getElem?_eq_some_iff.1 hx).1
    rw [dAt_some hR.ids (hR.find hx)]
    refine S_q (Q_look1 tabOk rfl rfl rfl rfl rfl rfl rfl rfl (fun w' hw => (hw.own _ (getE_mem (i := 0) rfl)).1.2.1) hg) ?_
    repeat (first | refine T_seq ?_ | refine T_region ?_ | refine S_nil ?_ | refine S_pure tabOk rfl ?_)
    refine T_cond_t rfl ?_
    repeat (first | refine T_seq ?_)
    refine T_drawT (by kernel_rfl) 8 rfl (by kernel_rfl) ?_
    repeat (first | refine D_pure tabOk rfl ?_)
    refine D_q (Q_mkif tabOk rfl rfl rfl rfl) ?_
    repeat (first | refine D_pure tabOk rfl ?_)
    refine D_load1 tabOk (v := .int .i64 (i : Int)) rfl rfl (fun w' hw => en_cell (alS_en (hw.own _ (getE_mem (i := 0) rfl)).1 hx).1 (j := 2) rfl) ?_
    repeat (first | refine D_all rfl ?_)
    refine S_callT 0 rfl Try.call54 rfl (fun w1 g => (alheap_remove (g.own _ (getE_mem (i := 0) rfl)).1 (g.own _ (getE_mem (i := 0) rfl)).2.2 i hx).mono fun e w' ⟨he, F', g1, g2, g3⟩ => ⟨_, _, F', he, g3, g1, g2, _, rfl, ?_⟩)
    have hsz := g.size
    repeat (first | refine T_region ?_ | refine S_nil ?_ | refine S_pure tabOk rfl ?_)
    refine S_load1 tabOk (v := .map (some mb)) rfl rfl (fun w' hw => alS_map (hw.own _ (getE_mem (i := 0) rfl)).1) ?_
    repeat (first | refine S_pure tabOk rfl ?_)
    refine S_deleteO tabOk 0 (Ψ := fun w => (alS ab mb (((alOb 0 ab mb).rm s i).take (s.length - 1)) (mDel M x.id) c).at_ w F' (.bool true)) M c rfl rfl rfl rfl rfl rfl rfl rfl (g1 _ hmb) (fun w h => h.2.1) (fun w w' h h1 h2 => alS_map_of h h1 h2) Vp.loc rfl ?_
    repeat (first | refine T_seq ?_ | refine T_region ?_ | refine S_nil ?_ | refine T_ret ?_ | refine S_pure tabOk rfl ?_)
    exact ret1 rfl rfl (fun w' hw => ⟨rfl, F', g1, fun k hk => (g2 k hk).imp id (fun h => Nat.le_trans hsz h), hw.turnX 0 rfl (fun h => ⟨mb, _, _, c, h, hR.clear (alOb_ol 0 ab mb) hx⟩) (Vp.loc (p := alA ab (dClear l x.id))) rfl⟩)
  | none =>
    rw [dAt_none (hR.missl hg), dClear_same (hR.missl hg)]
    refine S_q (Q_look0 tabOk rfl rfl rfl rfl rfl rfl rfl rfl (fun w' hw => (hw.own _ (getE_mem (i := 0) rfl)).1.2.1) hg) ?_
    repeat (first | refine T_seq ?_ | refine T_region ?_ | refine S_nil ?_ | refine pthen_normal ?_ | refine T_skip ?_ | refine T_ret ?_ | refine T_cond_f rfl ?_ | refine S_pure tabOk rfl ?_)
    exact ret1 rfl rfl (fun w' hw => ⟨rfl, F, fun k hk => hk, fun k hk => .inl hk, hw.turnX 0 rfl (fun h => ⟨mb, _, _, c, h, hR⟩) (Vp.loc (p := alA ab l)) rfl⟩)
theorem al_clear0 (w : World) (id : Int) : Calls Try.prog 21 #[.pointer none, .int .u64 id] w fun e w' => e = .returned (.bool false) ∧ Below w.heap.size w w' := by
  refine enter2 Try.func21 rfl rfl (Hp.refl w) ?_
  repeat (first | refine T_seq ?_ | refine T_region ?_ | refine S_nil ?_ | refine S_pure tabOk rfl ?_)
  refine S_q (Q_eqptr tabOk rfl rfl rfl rfl rfl) ?_
  repeat (first | refine T_seq ?_ | refine T_region ?_ | refine S_nil ?_ | refine pthen_ret ?_ | refine T_ret ?_ | refine T_cond_t rfl ?_ | refine S_pure tabOk rfl ?_)
  exact ret1 rfl rfl (fun w' hw => ⟨rfl, hw.below (by repeat (first | exact new_nil))⟩)
end
end Go.Proofs.Ytggnhcgmeibihaa
