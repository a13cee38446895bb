/-
  share.lines' Pop. Conditions: each theorem's own.
-/
import Derived.Test.YteogkadjambmkaaShC
namespace Go.Proofs.Yteogkadjambmkaa
open Go Go.RowKit
set_option linter.unusedVariables false

/-- a row of one's own -/
def rowV (base : Nat) (E : TypeId) (sz n : Nat) (xs : List Value) : Vp :=
  ⟨fun w F v => w.ownsRow base E sz v n xs ∧ ∀ k, v.ownBlock = some k → F k,
   fun {w w' A B v} ⟨h1, h2⟩ hk => ⟨own_keep h1 (fun k hv => (hk k (h2 k hv) (World.ownsRow.lt h1 k hv).2).1), fun k hv => (hk k (h2 k hv) (World.ownsRow.lt h1 k hv).2).2⟩⟩
theorem lpop_walk (bh g n c : Nat) (xs : List Value) (base : Nat) (p : Option Addr) (w : World) (hb : w.heap[bh]? = some (.cells ⟨[.slice (some ⟨g, 0, none⟩) (n + 1) c]⟩ 92 (0, 0))) (hr : w.ownsRow base 93 1 (.slice (some ⟨g, 0, none⟩) (n + 1) c) (n + 1) xs) (hg : g ≠ bh) (hx : xs[n]? = some (.pointer p)) (hn : n ≤ 1073741824) (hnc : n ≤ c) :
    Calls Try.prog 115 #[.pointer (some ⟨bh, 0, none⟩)] w fun e w' => e = .returned (.iface 93 (.pointer p)) ∧ Hp w w' [.blk bh (.cells ⟨[.slice (some ⟨g, 0, none⟩) n c]⟩ 92 (0, 0)) true] := by
  obtain ⟨F, hF, hst⟩ := Hp.startV (p := rowV base 93 1 (n + 1) xs) (A := fun k => k ≠ bh) hb ⟨hr, fun k hk => by
    have : k = g := (Option.some.inj hk).symm
    rw [this]; exact hg⟩ (fun h => h rfl)
  refine enter1 Try.func115 rfl rfl hst ?_
  repeat (first | refine T_draw (by kernel_rfl) (by kernel_rfl) ?_ | refine D_all rfl ?_ | refine D_i64 tabOk rfl (by omega) ?_ | refine D_u64 tabOk rfl (by omega) ?_ | refine D_pure tabOk rfl ?_ | refine D_pass rfl rfl rfl ?_ | refine D_load tabOk 0 rfl rfl rfl ?_ | refine D_load tabOk 1 rfl rfl rfl ?_ | refine D_load tabOk 2 rfl rfl rfl ?_ | refine D_load tabOk 3 rfl rfl rfl ?_ | refine D_load tabOk 4 rfl rfl rfl ?_ | refine T_seq ?_ | refine T_region ?_ | refine T_block ?_ | refine S_nil ?_ | refine pthen_normal ?_ | refine inb_normal ?_ | refine inb_ret ?_ | refine pthen_ret ?_ | refine inb_hit ?_ | refine pthen_exit ?_ | refine T_skip ?_ | refine T_ret ?_ | refine T_exit ?_  | refine S_i64 tabOk rfl (by omega) ?_ | refine S_u64 tabOk rfl (by omega) ?_ | refine S_pure tabOk rfl ?_ | refine S_pass rfl rfl rfl ?_ | refine S_pass0 rfl rfl ?_ | refine T_region_any ?_  | refine S_load tabOk 0 rfl rfl rfl ?_ | refine S_load tabOk 1 rfl rfl rfl ?_ | refine S_load tabOk 2 rfl rfl rfl ?_ | refine S_load tabOk 3 rfl rfl rfl ?_ | refine S_load tabOk 4 rfl rfl rfl ?_ | refine S_load tabOk 5 rfl rfl rfl ?_ | refine S_store tabOk 0 rfl rfl rfl rfl rfl rfl ?_ | refine S_store tabOk 1 rfl rfl rfl rfl rfl rfl ?_ | refine S_store tabOk 2 rfl rfl rfl rfl rfl rfl ?_ | refine S_store tabOk 3 rfl rfl rfl rfl rfl rfl ?_ | refine S_store tabOk 4 rfl rfl rfl rfl rfl rfl ?_ | refine S_store tabOk 5 rfl rfl rfl rfl rfl rfl ?_ | refine S_q (Q_build tabOk rfl rfl rfl rfl rfl rfl rfl) ?_ | refine D_q (Q_build tabOk rfl rfl rfl rfl rfl rfl rfl) ?_)
  refine S_q (Q_idx1 tabOk rfl rfl rfl rfl rfl rfl rfl (j := n) (by omega) (by omega)) ?_
  refine S_load1 tabOk (v := .pointer p) rfl rfl (fun w' hw => by
    rw [Nat.zero_add]
    exact own_cell (hw.own _ (getE_mem (i := 1) rfl)).1.1 (by omega) hx) ?_
  repeat (first | refine T_draw (by kernel_rfl) (by kernel_rfl) ?_ | refine D_all rfl ?_ | refine D_i64 tabOk rfl (by omega) ?_ | refine D_u64 tabOk rfl (by omega) ?_ | refine D_pure tabOk rfl ?_ | refine D_pass rfl rfl rfl ?_ | refine D_load tabOk 0 rfl rfl rfl ?_ | refine D_load tabOk 1 rfl rfl rfl ?_ | refine D_load tabOk 2 rfl rfl rfl ?_ | refine D_load tabOk 3 rfl rfl rfl ?_ | refine D_load tabOk 4 rfl rfl rfl ?_ | refine T_seq ?_ | refine T_region ?_ | refine T_block ?_ | refine S_nil ?_ | refine pthen_normal ?_ | refine inb_normal ?_ | refine inb_ret ?_ | refine pthen_ret ?_ | refine inb_hit ?_ | refine pthen_exit ?_ | refine T_skip ?_ | refine T_ret ?_ | refine T_exit ?_  | refine S_i64 tabOk rfl (by omega) ?_ | refine S_u64 tabOk rfl (by omega) ?_ | refine S_pure tabOk rfl ?_ | refine S_pass rfl rfl rfl ?_ | refine S_pass0 rfl rfl ?_ | refine T_region_any ?_  | refine S_load tabOk 0 rfl rfl rfl ?_ | refine S_load tabOk 1 rfl rfl rfl ?_ | refine S_load tabOk 2 rfl rfl rfl ?_ | refine S_load tabOk 3 rfl rfl rfl ?_ | refine S_load tabOk 4 rfl rfl rfl ?_ | refine S_load tabOk 5 rfl rfl rfl ?_ | refine S_store tabOk 0 rfl rfl rfl rfl rfl rfl ?_ | refine S_store tabOk 1 rfl rfl rfl rfl rfl rfl ?_ | refine S_store tabOk 2 rfl rfl rfl rfl rfl rfl ?_ | refine S_store tabOk 3 rfl rfl rfl rfl rfl rfl ?_ | refine S_store tabOk 4 rfl rfl rfl rfl rfl rfl ?_ | refine S_store tabOk 5 rfl rfl rfl rfl rfl rfl ?_ | refine S_q (Q_build tabOk rfl rfl rfl rfl rfl rfl rfl) ?_ | refine D_q (Q_build tabOk rfl rfl rfl rfl rfl rfl rfl) ?_)
  refine S_q (Q_sliceTo tabOk rfl rfl rfl rfl rfl rfl (H := n) (by omega) (by omega)) ?_
  repeat (first | refine T_draw (by kernel_rfl) (by kernel_rfl) ?_ | refine D_all rfl ?_ | refine D_i64 tabOk rfl (by omega) ?_ | refine D_u64 tabOk rfl (by omega) ?_ | refine D_pure tabOk rfl ?_ | refine D_pass rfl rfl rfl ?_ | refine D_load tabOk 0 rfl rfl rfl ?_ | refine D_load tabOk 1 rfl rfl rfl ?_ | refine D_load tabOk 2 rfl rfl rfl ?_ | refine D_load tabOk 3 rfl rfl rfl ?_ | refine D_load tabOk 4 rfl rfl rfl ?_ | refine T_seq ?_ | refine T_region ?_ | refine T_block ?_ | refine S_nil ?_ | refine pthen_normal ?_ | refine inb_normal ?_ | refine inb_ret ?_ | refine pthen_ret ?_ | refine inb_hit ?_ | refine pthen_exit ?_ | refine T_skip ?_ | refine T_ret ?_ | refine T_exit ?_  | refine S_i64 tabOk rfl (by omega) ?_ | refine S_u64 tabOk rfl (by omega) ?_ | refine S_pure tabOk rfl ?_ | refine S_pass rfl rfl rfl ?_ | refine S_pass0 rfl rfl ?_ | refine T_region_any ?_  | refine S_load tabOk 0 rfl rfl rfl ?_ | refine S_load tabOk 1 rfl rfl rfl ?_ | refine S_load tabOk 2 rfl rfl rfl ?_ | refine S_load tabOk 3 rfl rfl rfl ?_ | refine S_load tabOk 4 rfl rfl rfl ?_ | refine S_load tabOk 5 rfl rfl rfl ?_ | refine S_store tabOk 0 rfl rfl rfl rfl rfl rfl ?_ | refine S_store tabOk 1 rfl rfl rfl rfl rfl rfl ?_ | refine S_store tabOk 2 rfl rfl rfl rfl rfl rfl ?_ | refine S_store tabOk 3 rfl rfl rfl rfl rfl rfl ?_ | refine S_store tabOk 4 rfl rfl rfl rfl rfl rfl ?_ | refine S_store tabOk 5 rfl rfl rfl rfl rfl rfl ?_ | refine S_q (Q_build tabOk rfl rfl rfl rfl rfl rfl rfl) ?_ | refine D_q (Q_build tabOk rfl rfl rfl rfl rfl rfl rfl) ?_)
  refine S_q (Q_mkif tabOk rfl rfl rfl rfl) ?_
  repeat (first | refine T_draw (by kernel_rfl) (by kernel_rfl) ?_ | refine D_all rfl ?_ | refine D_i64 tabOk rfl (by omega) ?_ | refine D_u64 tabOk rfl (by omega) ?_ | refine D_pure tabOk rfl ?_ | refine D_pass rfl rfl rfl ?_ | refine D_load tabOk 0 rfl rfl rfl ?_ | refine D_load tabOk 1 rfl rfl rfl ?_ | refine D_load tabOk 2 rfl rfl rfl ?_ | refine D_load tabOk 3 rfl rfl rfl ?_ | refine D_load tabOk 4 rfl rfl rfl ?_ | refine T_seq ?_ | refine T_region ?_ | refine T_block ?_ | refine S_nil ?_ | refine pthen_normal ?_ | refine inb_normal ?_ | refine inb_ret ?_ | refine pthen_ret ?_ | refine inb_hit ?_ | refine pthen_exit ?_ | refine T_skip ?_ | refine T_ret ?_ | refine T_exit ?_  | refine S_i64 tabOk rfl (by omega) ?_ | refine S_u64 tabOk rfl (by omega) ?_ | refine S_pure tabOk rfl ?_ | refine S_pass rfl rfl rfl ?_ | refine S_pass0 rfl rfl ?_ | refine T_region_any ?_  | refine S_load tabOk 0 rfl rfl rfl ?_ | refine S_load tabOk 1 rfl rfl rfl ?_ | refine S_load tabOk 2 rfl rfl rfl ?_ | refine S_load tabOk 3 rfl rfl rfl ?_ | refine S_load tabOk 4 rfl rfl rfl ?_ | refine S_load tabOk 5 rfl rfl rfl ?_ | refine S_store tabOk 0 rfl rfl rfl rfl rfl rfl ?_ | refine S_store tabOk 1 rfl rfl rfl rfl rfl rfl ?_ | refine S_store tabOk 2 rfl rfl rfl rfl rfl rfl ?_ | refine S_store tabOk 3 rfl rfl rfl rfl rfl rfl ?_ | refine S_store tabOk 4 rfl rfl rfl rfl rfl rfl ?_ | refine S_store tabOk 5 rfl rfl rfl rfl rfl rfl ?_ | refine S_q (Q_build tabOk rfl rfl rfl rfl rfl rfl rfl) ?_ | refine D_q (Q_build tabOk rfl rfl rfl rfl rfl rfl rfl) ?_)
  exact ret1 rfl rfl (fun w' hw => ⟨rfl, hw.less (by repeat (first | exact Less.nil | refine Less.keep ?_ | refine Less.dropR ?_ | refine Less.dropB (by first | assumption | omega) ?_ | refine Less.dropW (Nat.le_refl _) ?_))⟩)
theorem lnM_pop {base bh : Nat} {s : List Ln} {x : Ln} {w : World} {F : Nat → Prop} (h : (lnP base bh s).at_ w F (.bool true)) (hF : ∀ k, F k → k < w.heap.size) (hx : s[s.length - 1]? = some x) :
    Meth Try.prog (lnI bh) "Pop" [] w fun e w' => e = .returned (.iface 93 (lnPt x)) ∧ Hp w w' [.rep (fun w => (lnP base bh (s.take (s.length - 1))).at_ w F (.bool true)) F true] := by
  obtain ⟨v, hv⟩ := h
  have h0 := (List.getElem?_eq_some_iff.1 hx).1
  obtain ⟨g, c, rfl⟩ := lnV_addr hv (by omega)
  obtain ⟨h1, h2, h3, h5, h6, h7⟩ := hv
  obtain ⟨n, hn⟩ : ∃ n, s.length = n + 1 := ⟨s.length - 1, by omega⟩
  rw [show s.length - 1 = n by omega] at hx ⊢
  rw [hn] at h1 h3 h5
  have h3' := h3
  obtain ⟨hl3, h4⟩ := h3
  rcases h4 with ⟨h4, _⟩ | ⟨g', cap, cur, h4, hb, hg, hnc, hm, hz, ht⟩
  · cases h4
  · cases h4
    have hgb : g ≠ bh := fun hh => by
      rw [hh, h1] at hg
      exact absurd (Obj.cells.inj (Option.some.inj hg)).2.1 (by decide)
    refine meth_own (u := 92) (f := 115) (by kernel_rfl) (by kernel_rfl) Try.call115 ?_
    refine (lpop_walk bh g n c _ base _ w h1 h3' hgb (by rw [List.getElem?_map, hx]; rfl) (by omega) (by omega)).mono fun e w' ⟨he, h8⟩ => ⟨he, ?_⟩
    have hold : ∀ k o, w.heap[k]? = some o → k ≠ bh → w'.heap[k]? = some o := fun k o ho hk => (h8.old k (heap_lt ho) fun e he _ => by
      rw [List.mem_singleton] at he
      subst he
      intro hh
      exact hk (Option.some.inj hh).symm).trans ho
    have hlen : (s.take n).length = n := by rw [List.length_take]; omega
    have hb2 : w'.heap[bh]? = _ := h8.own _ List.mem_cons_self
    refine h8.widen (fun k hk => ?_) ⟨.slice (some ⟨g, 0, none⟩) n c, hb2, h2, ?_, fun k hk => h5 k hk, fun z hz2 => ?_, ?_⟩ (Vp.loc (p := lnP base bh (s.take n))) hF
    · have : k = bh := (Option.some.inj hk).symm
      rw [this]
      exact h2
    · rw [hlen]
      refine ⟨by rw [List.length_map, hlen, Nat.mul_one], .inr ⟨g, c, cur, rfl, hb, hold _ _ hg hgb, by omega, hm, hz, ?_⟩⟩
      rw [List.map_take, ← ht, List.take_take]
      congr 1
      omega
    · have hz3 : z ∈ s := List.mem_of_mem_take hz2
      refine ⟨hold _ _ (h6 z hz3).1 (fun hh => ?_), (h6 z hz3).2⟩
      have h9 := (h6 z hz3).1
      rw [hh, h1] at h9
      exact absurd (Obj.cells.inj (Option.some.inj h9)).2.1 (by decide)
    · rw [hlen]; omega
theorem lheap_pop (base bh : Nat) (s : List Ln) (F : Nat → Prop) (w : World) (h : (lnP base bh s).at_ w F (.bool true)) (hF : ∀ k, F k → k < w.heap.size) (h0 : 0 < s.length) :
    Calls Try.prog 46 #[lnI bh] w fun e w' => ∃ u, e = .returned u ∧ Hp w w' [.rep (fun w => (lnP base bh (((lnOb base bh).pp s).take (s.length - 1))).at_ w F (.bool true)) F true] := by
  have hl := (pp_perm (lnOb_ol base bh) s).length_eq
  have hx := pp_last (lnOb_ol base bh) s h0
  rw [List.getElem?_eq_getElem h0] at hx
  refine (hpop_ok (lnOb base bh) s F w h hF h0 (.iface 93 (lnPt s[0])) (lnP base bh (((lnOb base bh).pp s).take (s.length - 1))) fun w1 h1 h2 => ?_).mono fun e w' ⟨he, h3⟩ => ⟨_, he, h3⟩
  have := lnM_pop (s := (lnOb base bh).pp s) h1 h2 (x := s[0]) (by rw [hl]; exact hx)
  rw [hl] at this
  exact this
end Go.Proofs.Yteogkadjambmkaa
