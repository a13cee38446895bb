/-
  A queue's Len, Bytes, Class, Numbers. Conditions: each theorem's own.
-/
import Derived.Test.YteogkadjambmkaaQuC
namespace Go.Proofs.Yteogkadjambmkaa
open Go Go.RowKit
set_option linter.unusedVariables false

def quV (qb mb : Nat) (cap last : Int) (ws bys s : List Int) (M : List ME) (c : Nat) (L : List QE) (wv lv bv : Value) : Vp :=
  ⟨fun w F _ => QuS qb mb cap last ws bys s M c L wv lv bv w F, fun h hk => h.keep hk⟩
abbrev qptr (qb : Nat) : Value := .pointer (some ⟨qb, 0, none⟩)
section
variable {qb mb : Nat} {cap last : Int} {ws bys s : List Int} {M : List ME} {c K : Nat} {L : List QE} {wv lv bv : Value} {w : World} {F : Nat → Prop}
theorem QuS.cell (h : QuS qb mb cap last ws bys s M c L wv lv bv w F) {j : Nat} {u : Value} (hu : [.int .i64 cap, wv, .map (some mb), lv, bv, .int .u64 last][j]? = some u) : w.cell? ⟨qb, j, none⟩ = some u := by
  have hj := (List.getElem?_eq_some_iff.1 hu).1
  exact (Sl.of_blk (n := 6) (sz := 1) (off := 0) (xs := [.int .i64 cap, wv, .map (some mb), lv, bv, .int .u64 last]) h.q rfl (fun j u hu => by rw [Nat.zero_add]; exact hu)).at_ (j := j) (by simp at hj; omega) hu |> fun h => by rwa [Nat.zero_add] at h
theorem q_len (h : (quA qb cap last ws L K).at_ w F (.bool true)) : Calls Try.prog 33 #[qptr qb] w fun e w' => e = .returned (.int .i64 (L.length : Int)) ∧ Below w.heap.size w w' := by
  obtain ⟨mb, bys, s, M, c, wv, lv, bv, hS, _⟩ := h
  obtain ⟨F2, hst⟩ := Hp.startR (p := quV qb mb cap last ws bys s M c L wv lv bv) (v := .bool true) hS
  refine enter1 Try.func33 rfl rfl hst ?_
  repeat (first | refine T_seq ?_ | refine T_region ?_ | refine S_nil ?_ | refine S_pure tabOk rfl ?_)
  refine S_q (Q_eqptr tabOk rfl rfl rfl rfl rfl) ?_
  repeat (first | refine T_seq ?_ | refine T_region ?_ | refine S_nil ?_ | refine pthen_normal ?_ | refine T_skip ?_ | refine T_cond_f rfl ?_ | refine S_pure tabOk rfl ?_)
  refine S_load1 tabOk (v := .map (some mb)) rfl rfl (fun w' hw => QuS.cell (hw.own _ (getE_mem (i := 0) rfl)).1 (j := 2) rfl) ?_
  skip
  refine S_q (Q_maplen tabOk rfl rfl rfl rfl (fun w' hw => QuS.m (hw.own _ (getE_mem (i := 0) rfl)).1)) ?_
  repeat (first | refine S_nil ?_ | refine T_ret ?_ | refine S_pure tabOk rfl ?_)
  exact ret1 rfl rfl (fun w' hw => ⟨by rw [← hS.ml.len], hw.below (by repeat (first | exact new_nil | refine new_ro ?_))⟩)
theorem q_len0 (w : World) : Calls Try.prog 33 #[.pointer none] w fun e w' => e = .returned (.int .i64 0) ∧ Below w.heap.size w w' := by
  refine enter1 Try.func33 rfl rfl (Hp.refl w) ?_
  repeat (first | refine T_seq ?_ | refine T_region ?_ | refine S_nil ?_ | refine S_pure tabOk rfl ?_)
  refine S_q (Q_eqptr tabOk rfl rfl rfl rfl rfl) ?_
  repeat (first | refine T_seq ?_ | refine T_region ?_ | refine S_nil ?_ | refine pthen_ret ?_ | refine T_ret ?_ | refine T_cond_t rfl ?_ | refine S_pure tabOk rfl ?_)
  exact ret1 rfl rfl (fun w' hw => ⟨rfl, hw.below new_nil⟩)
theorem q_numbers0 (w : World) : Calls Try.prog 31 #[.pointer none] w fun e w' => e = .returned (.slice none 0 0) ∧ Below w.heap.size w w' := by
  refine enter1 Try.func31 rfl rfl (Hp.refl w) ?_
  repeat (first | refine T_seq ?_ | refine T_region ?_ | refine S_nil ?_ | refine S_pure tabOk rfl ?_)
  refine S_q (Q_eqptr tabOk rfl rfl rfl rfl rfl) ?_
  repeat (first | refine T_seq ?_ | refine T_region ?_ | refine S_nil ?_ | refine pthen_ret ?_ | refine T_ret ?_ | refine T_cond_t rfl ?_ | refine S_pure tabOk rfl ?_)
  exact ret1 rfl rfl (fun w' hw => ⟨rfl, hw.below new_nil⟩)
set_option maxHeartbeats 1000000 in
theorem q_numbers (h : (quA qb cap last ws L K).at_ w F (.bool true)) (hL : (L.map (·.1)).Pairwise (· < ·)) (hn : L.length ≤ 65535) : Calls Try.prog 31 #[qptr qb] w fun e w' => ∃ v, e = .returned v ∧ NilOr v (L.map (·.1)) ∧ Hp w w' [uRow w.heap.size v (L.map (·.1))] := by
  obtain ⟨mb, bys, s, M, c, wv, lv, bv, hS, _⟩ := h
  obtain ⟨F2, hst⟩ := Hp.startR (p := quV qb mb cap last ws bys s M c L wv lv bv) (v := .bool true) hS
  refine enter1 Try.func31 rfl rfl hst ?_
  repeat (first | refine T_seq ?_ | refine T_region ?_ | refine S_nil ?_ | refine S_pure tabOk rfl ?_)
  refine S_q (Q_eqptr tabOk rfl rfl rfl rfl rfl) ?_
  repeat (first | refine T_seq ?_ | refine T_region ?_ | refine S_nil ?_ | refine pthen_normal ?_ | refine T_skip ?_ | refine T_cond_f rfl ?_ | refine S_pure tabOk rfl ?_)
  refine S_load1 tabOk (v := .map (some mb)) rfl rfl (fun w' hw => QuS.cell (hw.own _ (getE_mem (i := 0) rfl)).1 (j := 2) rfl) ?_
  skip
  refine S_call rfl Try.call55 (fun w1 h1 => (qkeys_ok h1).mono fun e w' ⟨B, hB, e1, h2⟩ => ⟨_, _, e1, h2, ?_⟩)
  skip
  refine S_call rfl Try.call54 (fun w1 h1 => ?_)
  have hB1 : w1.heap[B]? = _ := h1.own _ (getE_mem (i := 0) rfl)
  have hm1 := QuS.m (h1.own _ (getE_mem (i := 1) rfl)).1
  have hit : Itr 70 #[.pointer (some ⟨B, 0, none⟩)] KeepsWalks (fun ss => ss.Perm (M.map (·.1))) (fun _ => True) M.length w1 :=
    ⟨Try.call70, by have := hS.ml.len; omega, kp_walks _, qkeys_stops B mb c M hS.mok w1 (heap_lt hB1) (by simp [World.cell?, hB1]) hm1⟩
  refine (sorted_ok hit (fun ss hs => by have := hs.length_eq; rw [List.length_map] at this; have := hS.ml.len; omega)).mono fun e w' ⟨v, ss, ts, e1, hp1, hp2, hsrt, hnil, h2⟩ => ⟨v, _, e1, h1.fresh (h2.below (newrow h2 0 rfl (Nat.le_refl _) new_nil)) (x := uRow w.heap.size v ts) (ownsRow_base (h2.own _ List.mem_cons_self) h1.size) (fun k hk => (World.ownsRow.lt (h2.own _ List.mem_cons_self) k hk).1), ?_⟩
  have hts : ts = L.map (·.1) := by
    rw [← hS.ml.keys]
    refine List.Perm.eq_of_pairwise (le := fun a b : Int => a ≤ b) (fun a b _ _ h1 h2 => by omega) hsrt ?_ (hp2.trans hp1)
    rw [hS.ml.keys]
    exact hL.imp fun h => by omega
  subst hts
  repeat (first | refine S_nil ?_ | refine T_ret ?_ | refine S_pure tabOk rfl ?_)
  exact ret1 rfl rfl (fun w' hw => ⟨v, rfl, hnil, hw.less (by repeat (first | exact Less.nil | refine Less.keep ?_ | refine Less.dropR ?_ | refine Less.dropB (by first | assumption | omega) ?_))⟩)
end
end Go.Proofs.Yteogkadjambmkaa
