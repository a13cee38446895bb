/-
  share.lines as a heap's object; its Pop. Conditions: each theorem's own.
-/
import Derived.Test.YteogkadjambmkaaShB
namespace Go.Proofs.Yteogkadjambmkaa
open Go Go.RowKit
set_option linter.unusedVariables false

abbrev lnI (bh : Nat) : Value := .iface 97 (.pointer (some ⟨bh, 0, none⟩))
theorem lnV_load {base bh : Nat} {s : List Ln} {w : World} {F : Nat → Prop} {v : Value} (h : (lnV base bh s).at_ w F v) : (loadVar 92 ⟨bh, 0, none⟩).run Try.prog w = .ok v w :=
  loadVar_one tabOk (t := 92) rfl rfl (by
    have h1 := Sl.of_blk (n := 1) (sz := 1) (off := 0) (xs := [v]) h.1 rfl (fun j u hu => by rw [Nat.zero_add]; exact hu)
    have := h1.at_ (j := 0) (by decide) rfl
    rwa [Nat.zero_add] at this)
theorem lnM_len {base bh : Nat} {s : List Ln} {w : World} {F : Nat → Prop} (h : (lnP base bh s).at_ w F (.bool true)) : Meth Try.prog (lnI bh) "Len" [] w fun e w' => e = .returned (.int .i64 (s.length : Int)) ∧ Below w.heap.size w w' := by
  obtain ⟨v, hv⟩ := h
  obtain ⟨a, c, rfl, _⟩ := lnV_form hv
  exact meth_val' (f := 112) (by kernel_rfl) (by kernel_rfl) Try.call112 (lnV_load hv) (llen_ok a s.length c w)
theorem lnM_less {base bh : Nat} {s : List Ln} {w : World} {F : Nat → Prop} {i j : Nat} (h : (lnP base bh s).at_ w F (.bool true)) (hi : i < s.length) (hj : j < s.length) : Meth Try.prog (lnI bh) "Less" [.int .i64 (i : Int), .int .i64 (j : Int)] w fun e w' => e = .returned (.bool (ltL lnR s i j)) ∧ Below w.heap.size w w' := by
  obtain ⟨v, hv⟩ := h
  exact meth_val' (f := 113) (by kernel_rfl) (by kernel_rfl) Try.call113 (lnV_load hv) (lless_ok base bh s F v i j w hv hi hj)
theorem lnM_swap {base bh : Nat} {s : List Ln} {w : World} {F : Nat → Prop} {i j : Nat} (h : (lnP base bh s).at_ w F (.bool true)) (hF : ∀ k, F k → k < w.heap.size) (hi : i < s.length) (hj : j < s.length) :
    Meth Try.prog (lnI bh) "Swap" [.int .i64 (i : Int), .int .i64 (j : Int)] w fun e w' => e = .returned (.tuple #[]) ∧ Hp w w' [.rep (fun w => (lnP base bh (swL s i j)).at_ w F (.bool true)) F true] := by
  obtain ⟨v, hv⟩ := h
  obtain ⟨g, c, rfl⟩ := lnV_addr hv (by omega)
  obtain ⟨x, hx⟩ : ∃ x, s[i]? = some x := ⟨_, List.getElem?_eq_getElem hi⟩
  obtain ⟨y, hy⟩ : ∃ y, s[j]? = some y := ⟨_, List.getElem?_eq_getElem hj⟩
  have hs : swL s i j = (s.set i y).set j x := by unfold swL; rw [hx, hy]
  obtain ⟨h1, h2, ⟨h3, h4⟩, h5, h6, h7⟩ := hv
  rcases h4 with ⟨h4, _⟩ | ⟨g', cap, cur, h4, hb, hg, hn, hm, hz, ht⟩
  · cases h4
  · cases h4
    have hcur : cur = ⟨cur.toList⟩ := rfl
    rw [hcur] at hg
    have hlen : cur.toList.length = c := by rw [Array.length_toList, hz, Nat.mul_one]
    have hat : ∀ (k : Nat) (z : Ln), s[k]? = some z → cur.toList[k]? = some (lnPt z) := fun k z hk => by
      have h8 : k < s.length := (List.getElem?_eq_some_iff.1 hk).1
      have h9 : (cur.toList.take (s.length * 1))[k]? = (s.map lnPt)[k]? := by rw [ht]
      rw [List.getElem?_take_of_lt (by omega), List.getElem?_map, hk] at h9
      exact h9
    refine meth_val' (f := 114) (by kernel_rfl) (by kernel_rfl) Try.call114 (lnV_load (base := base) (s := s) (F := F) ⟨h1, h2, ⟨h3, .inr ⟨g, c, cur, rfl, hb, hg, hn, hm, hz, ht⟩⟩, h5, h6, h7⟩) ?_
    refine (lswap_ok g s.length c i j cur.toList _ _ w hg hi hj (by omega) (hat i x hx) (hat j y hy)).mono fun e w' ⟨he, h8⟩ => ⟨he, ?_⟩
    have hold : ∀ k o, w.heap[k]? = some o → k ≠ g → w'.heap[k]? = some o := fun k o ho hk => (h8.old k (heap_lt ho) fun e he _ => by
      rw [List.mem_singleton] at he
      subst he
      intro hh
      exact hk (Option.some.inj hh).symm).trans ho
    have hg2 : w'.heap[g]? = _ := h8.own _ List.mem_cons_self
    refine h8.widen (fun k hk => ?_) ⟨.slice (some ⟨g, 0, none⟩) s.length c, hold _ _ h1 (fun hh => ?_), h2, ?_, h5, fun z hz2 => ?_, ?_⟩ (Vp.loc (p := lnP base bh (swL s i j))) hF
    · have : k = g := (Option.some.inj hk).symm
      rw [this]
      exact h5 g rfl
    · rw [hh, hg] at h1
      exact absurd (Obj.cells.inj (Option.some.inj h1)).2.1 (by decide)
    · rw [swL_len]
      refine ⟨by simp [swL_len], .inr ⟨g, c, _, rfl, hb, hg2, hn, hm, ?_, ?_⟩⟩
      · show (List.set _ _ _).length = _
        rw [List.length_set, List.length_set, hlen, Nat.mul_one]
      · show List.take _ (List.set _ _ _) = _
        rw [hs, List.take_set, List.take_set, ht, List.map_set, List.map_set]
    · have hz3 : z ∈ s := (swL_perm s i j).mem_iff.1 hz2
      refine ⟨hold _ _ (h6 z hz3).1 (fun hh => ?_), (h6 z hz3).2⟩
      have h9 := (h6 z hz3).1
      rw [hh, hg] at h9
      exact absurd (Obj.cells.inj (Option.some.inj h9)).2.1 (by decide)
    · rw [swL_len]; exact h7
/-- The heap's lines are an object. -/
noncomputable def lnOb (base bh : Nat) : HOb Try.prog (lnI bh) (List Ln) where
  p := lnP base bh
  len := List.length
  lt := ltL lnR
  sw := swL
  lenSw := swL_len
  hle := fun ⟨v, h⟩ => h.2.2.2.2.2
  hlen := lnM_len
  hlt := lnM_less
  hsw := lnM_swap
theorem lnOb_ol (base bh : Nat) : OL_ (lnOb base bh) lnR := ⟨fun _ => rfl, fun _ _ _ => rfl, fun _ _ _ => rfl⟩
end Go.Proofs.Yteogkadjambmkaa
