/-
  Contracts of an item's Put, and of the document's Puts. Conditions: each theorem's own.
-/
import Derived.Test.YtcnpfempfgljfaaSpH
import Derived.Test.YtcnpfempfgljfaaEngT
namespace Go.Proofs.Ytcnpfempfgljfaa
open Go Go.RowKit
set_option linter.unusedVariables false

theorem closed_no {ops : List Oper} {L : Nat → Bool} (hc : Closed ops L) {j : Nat} {p : Oper} (hj : ops[j]? = some p) (e : Edge) (he : e ∈ p.after.toList) (hb : Region.binds .any e = true) (hl : L e.on = false) : L j = false := by
  cases h : L j with
  | false => rfl
  | true => rw [hc j p hj h e he hb] at hl; cases hl
theorem spB_fits {k : Int} {zs : List Int} (h : ∀ z ∈ zs, Fits .u8 z) : ∀ z ∈ spB k zs, Fits .u8 z := fun z hz => by
  rcases List.mem_cons.1 hz with rfl | hz
  · rw [IntKind.wrap_u8]; exact fits8 (by omega)
  · exact encB_fits h z hz
theorem spB_len (k : Int) (zs : List Int) (h : zs.length < 18446744073709551616) : (spB k zs).length ≤ zs.length + 11 := by
  have := enc_len10 h
  unfold spB encB
  simp only [List.length_cons, List.length_append]
  omega

theorem itput_ok (N : Nat) (k : Int) (a a' : Option Addr) (n c n' c' : Nat) (zs ys : List Int) (w : World) (hw : Ints .u8 w a n c zs) (hw' : Ints .u8 w a' n' c' ys) (hn : zs.length ≤ 268435456) (hn' : ys.length ≤ 134217728) (hN : N < 18446744073709551616) :
    Calls Try.prog 47 #[itV N k a n c, .slice a' n' c'] w fun e w' => ∃ a c, e = .returned (.slice a (ys ++ enc N ++ spB k zs).length c) ∧ Below w.heap.size w w' ∧ w'.ownsRow w.heap.size 5 1 (.slice a (ys ++ enc N ++ spB k zs).length c) (ys ++ enc N ++ spB k zs).length ((ys ++ enc N ++ spB k zs).map (.int .u8)) := by
  have hel := enc_len10 hN
  have hyf : ∀ z ∈ ys ++ enc N, Fits .u8 z := app_fits hw'.fits (enc_fits N)
  have hyl : (ys ++ enc N).length ≤ 268435456 := by rw [List.length_append]; omega
  refine enter2 Try.func47 rfl rfl (Hp.refl w) ?_
  repeat (first | refine T_draw (by kernel_rfl) (by kernel_rfl) ?_ | refine D_all rfl ?_ | refine D_i64 tabOk rfl (by omega) ?_ | refine D_u64 tabOk rfl (by omega) ?_ | refine D_pure tabOk rfl ?_ | refine D_pass rfl rfl rfl ?_ | refine D_load tabOk 0 rfl rfl rfl ?_ | refine D_load tabOk 1 rfl rfl rfl ?_ | refine D_load tabOk 2 rfl rfl rfl ?_ | refine D_load tabOk 3 rfl rfl rfl ?_ | refine D_load tabOk 4 rfl rfl rfl ?_ | refine T_seq ?_ | refine T_region ?_ | refine T_block ?_ | refine S_nil ?_ | refine pthen_normal ?_ | refine inb_normal ?_ | refine inb_ret ?_ | refine pthen_ret ?_ | refine inb_hit ?_ | refine pthen_exit ?_ | refine T_skip ?_ | refine T_ret ?_ | refine T_exit ?_  | refine S_i64 tabOk rfl (by omega) ?_ | refine S_u64 tabOk rfl (by omega) ?_ | refine S_pure tabOk rfl ?_ | refine S_pass rfl rfl rfl ?_ | refine S_pass0 rfl rfl ?_ | refine T_region_any ?_  | refine S_load tabOk 0 rfl rfl rfl ?_ | refine S_load tabOk 1 rfl rfl rfl ?_ | refine S_load tabOk 2 rfl rfl rfl ?_ | refine S_load tabOk 3 rfl rfl rfl ?_ | refine S_load tabOk 4 rfl rfl rfl ?_ | refine S_load tabOk 5 rfl rfl rfl ?_ | refine S_store tabOk 0 rfl rfl rfl rfl rfl rfl ?_ | refine S_store tabOk 1 rfl rfl rfl rfl rfl rfl ?_ | refine S_store tabOk 2 rfl rfl rfl rfl rfl rfl ?_ | refine S_store tabOk 3 rfl rfl rfl rfl rfl rfl ?_ | refine S_store tabOk 4 rfl rfl rfl rfl rfl rfl ?_ | refine S_store tabOk 5 rfl rfl rfl rfl rfl rfl ?_ | refine S_q (Q_build tabOk rfl rfl rfl rfl rfl rfl rfl) ?_ | refine D_q (Q_build tabOk rfl rfl rfl rfl rfl rfl rfl) ?_)
  refine S_new tabOk rfl (fun b2 hb2 => ?_)
  repeat (first | refine D_all rfl ?_ | refine D_i64 tabOk rfl (by omega) ?_ | refine D_u64 tabOk rfl (by omega) ?_ | refine D_pure tabOk rfl ?_ | refine D_pass rfl rfl rfl ?_ | refine D_load tabOk 0 rfl rfl rfl ?_ | refine D_load tabOk 1 rfl rfl rfl ?_ | refine D_load tabOk 2 rfl rfl rfl ?_ | refine D_load tabOk 3 rfl rfl rfl ?_ | refine D_load tabOk 4 rfl rfl rfl ?_ | refine T_seq ?_ | refine T_region ?_ | refine T_block ?_ | refine S_nil ?_ | refine pthen_normal ?_ | refine inb_normal ?_ | refine inb_ret ?_ | refine pthen_ret ?_ | refine inb_hit ?_ | refine pthen_exit ?_ | refine T_skip ?_ | refine T_ret ?_ | refine T_exit ?_  | refine S_i64 tabOk rfl (by omega) ?_ | refine S_u64 tabOk rfl (by omega) ?_ | refine S_pure tabOk rfl ?_ | refine S_pass rfl rfl rfl ?_ | refine S_pass0 rfl rfl ?_ | refine T_region_any ?_  | refine S_load tabOk 0 rfl rfl rfl ?_ | refine S_load tabOk 1 rfl rfl rfl ?_ | refine S_load tabOk 2 rfl rfl rfl ?_ | refine S_load tabOk 3 rfl rfl rfl ?_ | refine S_load tabOk 4 rfl rfl rfl ?_ | refine S_load tabOk 5 rfl rfl rfl ?_ | refine S_store tabOk 0 rfl rfl rfl rfl rfl rfl ?_ | refine S_store tabOk 1 rfl rfl rfl rfl rfl rfl ?_ | refine S_store tabOk 2 rfl rfl rfl rfl rfl rfl ?_ | refine S_store tabOk 3 rfl rfl rfl rfl rfl rfl ?_ | refine S_store tabOk 4 rfl rfl rfl rfl rfl rfl ?_ | refine S_store tabOk 5 rfl rfl rfl rfl rfl rfl ?_ | refine S_q (Q_build tabOk rfl rfl rfl rfl rfl rfl rfl) ?_ | refine D_q (Q_build tabOk rfl rfl rfl rfl rfl rfl rfl) ?_)
  obtain ⟨L1, hL1⟩ : ∃ L, L = ys ++ enc N := ⟨_, rfl⟩
  obtain ⟨L2, hL2⟩ : ∃ L, L = L1 ++ spB k zs := ⟨_, rfl⟩
  rw [← hL1, ← hL2]
  rw [← hL1] at hyf hyl
  let lst : Bool → Bool → Bool → Value × Unit → Value × Unit → Value × Unit → OL := fun l5 l6 l7 x5 x6 x7 =>
    .blk b2 (.cells ⟨[.int .u64 (N : Int), .int .i64 k, .slice a n c]⟩ 76 (0, 0)) true :: (cond l5 [.row w.heap.size x5.1 5 1 L1.length (L1.map (.int .u8))] [] ++ (cond l6 [.row w.heap.size x6.1 5 1 L2.length (L2.map (.int .u8))] [] ++ cond l7 [factE (x7.1 = x6.1)] []))
  refine T_drawF (γ := Unit) (by kernel_rfl) (by kernel_rfl) () (fun L f => lst (L 5) (L 6) (L 7) (f 5) (f 6) (f 7)) rfl [some (.pointer (some ⟨b2, 1, none⟩)), some (spV k a n c), some (.slice a' n' c'), some (.pointer (some ⟨b2, 0, none⟩)), some (.int .u64 (N : Int)), none, none, none] ?_ ?_
  · refine ⟨?_, ?_, ?_, ?_, ?_, ?_, ?_, ?_, trivial⟩
    · exact fun L f hc hl hp => OpA.told () rfl (D_pure tabOk rfl D_last) rfl
    · exact fun L f hc hl hp => OpA.told () rfl (D_load tabOk 0 rfl rfl rfl D_last) rfl
    · exact fun L f hc hl hp => OpA.told () rfl (D_pure tabOk rfl D_last) rfl
    · exact fun L f hc hl hp => OpA.told () rfl (D_pure tabOk rfl D_last) rfl
    · exact fun L f hc hl hp => OpA.told () rfl (D_load tabOk 0 rfl rfl rfl D_last) rfl
    · intro L f hc hl hp
      have h6 := closed_no hc (j := 6) rfl ⟨5, .chain⟩ (by simp) rfl hl
      have h7 := closed_no hc (j := 7) rfl ⟨5, .phase⟩ (by simp) rfl hl
      show OpA _ _ _ _ (lst (L 5) (L 6) (L 7) (f 5) (f 6) (f 7)) (fun y => lst true (L 6) (L 7) y (f 6) (f 7)) _ _ _
      rw [hl, h6, h7]
      refine OpA.callrow rfl Try.call16 (fun w1 vs hw1 h => by
        obtain ⟨u1, _, rfl, rfl, u2, _, rfl, rfl, rfl⟩ := h
        have := num_ok a' n' c' ys N w1 (hw'.ext (hw1.below (by repeat (first | exact new_nil | refine new_ro ?_ | refine new_cons (by first | assumption | omega) ?_ | refine newrow hw1 0 rfl (Nat.le_refl _) ?_ | refine newrow hw1 1 rfl (Nat.le_refl _) ?_ | refine newrow hw1 2 rfl (Nat.le_refl _) ?_ | refine newrow hw1 3 rfl (Nat.le_refl _) ?_ | refine newrow hw1 4 rfl (Nat.le_refl _) ?_ | refine newrow hw1 5 rfl (Nat.le_refl _) ?_ | refine newrow hw1 6 rfl (Nat.le_refl _) ?_ | refine newrow hw1 7 rfl (Nat.le_refl _) ?_ | refine newrow hw1 8 rfl (Nat.le_refl _) ?_ | refine newrow hw1 9 rfl (Nat.le_refl _) ?_ | refine newrow hw1 10 rfl (Nat.le_refl _) ?_ | refine newrow hw1 11 rfl (Nat.le_refl _) ?_ | refine newrow hw1 12 rfl (Nat.le_refl _) ?_ | refine newrow hw1 13 rfl (Nat.le_refl _) ?_ | refine newrow hw1 14 rfl (Nat.le_refl _) ?_ | refine newrow hw1 15 rfl (Nat.le_refl _) ?_ | refine newrow hw1 16 rfl (Nat.le_refl _) ?_)))) (by omega) hN
        rw [← hL1] at this
        exact this) (fun w1 v hw1 => ⟨(), hw1.perm (by repeat (first | exact List.Perm.refl _ | refine (List.Perm.swap _ _ _).trans (List.Perm.cons _ ?_)))⟩)
    · intro L f hc hl hp
      have h5 : L 5 = true := hp ⟨5, .chain⟩ (by simp) rfl
      have h7 := closed_no hc (j := 7) rfl ⟨6, .chain⟩ (by simp) rfl hl
      show OpA _ _ _ _ (lst (L 5) (L 6) (L 7) (f 5) (f 6) (f 7)) (fun y => lst (L 5) true (L 7) (f 5) y (f 7)) _ _ _
      rw [hl, h5, h7]
      refine OpA.callrow rfl Try.call46 (fun w1 vs hw1 h => by
        obtain ⟨u1, _, rfl, rfl, u2, _, rfl, e2, rfl⟩ := h
        obtain ⟨A1, C1, q1, r1⟩ := hw1.rowForm 1 rfl
        have e3 : u2 = .slice A1 L1.length C1 := by first | exact e2.trans q1 | exact e2.symm.trans q1
        rw [e3]
        have := spput_ok k a A1 n c L1.length C1 zs L1 w1 (hw.ext (hw1.below (by repeat (first | exact new_nil | refine new_ro ?_ | refine new_cons (by first | assumption | omega) ?_ | refine newrow hw1 0 rfl (Nat.le_refl _) ?_ | refine newrow hw1 1 rfl (Nat.le_refl _) ?_ | refine newrow hw1 2 rfl (Nat.le_refl _) ?_ | refine newrow hw1 3 rfl (Nat.le_refl _) ?_ | refine newrow hw1 4 rfl (Nat.le_refl _) ?_ | refine newrow hw1 5 rfl (Nat.le_refl _) ?_ | refine newrow hw1 6 rfl (Nat.le_refl _) ?_ | refine newrow hw1 7 rfl (Nat.le_refl _) ?_ | refine newrow hw1 8 rfl (Nat.le_refl _) ?_ | refine newrow hw1 9 rfl (Nat.le_refl _) ?_ | refine newrow hw1 10 rfl (Nat.le_refl _) ?_ | refine newrow hw1 11 rfl (Nat.le_refl _) ?_ | refine newrow hw1 12 rfl (Nat.le_refl _) ?_ | refine newrow hw1 13 rfl (Nat.le_refl _) ?_ | refine newrow hw1 14 rfl (Nat.le_refl _) ?_ | refine newrow hw1 15 rfl (Nat.le_refl _) ?_ | refine newrow hw1 16 rfl (Nat.le_refl _) ?_)))) (ints_of_own r1 hyf) hn hyl
        rw [← hL2] at this
        exact this) (fun w1 v hw1 => ⟨(), hw1.perm (by repeat (first | exact List.Perm.refl _ | refine (List.Perm.swap _ _ _).trans (List.Perm.cons _ ?_)))⟩)
    · intro L f hc hl hp
      have h5 : L 5 = true := hp ⟨5, .phase⟩ (by simp) rfl
      have h6 : L 6 = true := hp ⟨6, .phase⟩ (by simp) rfl
      show OpA _ _ _ _ (lst (L 5) (L 6) (L 7) (f 5) (f 6) (f 7)) (fun y => lst (L 5) (L 6) true (f 5) (f 6) y) _ _ _
      rw [hl, h5, h6]
      exact OpA.known () rfl (D_pure tabOk rfl D_last) (fun w1 hw1 => (hw1.addF rfl).perm (by repeat (first | exact List.Perm.refl _ | refine (List.Perm.swap _ _ _).trans (List.Perm.cons _ ?_))))
  intro L f w1 hL hw1
  change Hp _ _ (lst (L 5) (L 6) (L 7) (f 5) (f 6) (f 7)) at hw1
  rw [hL 5 (by decide), hL 6 (by decide), hL 7 (by decide)] at hw1
  have e7 : (f 7).1 = (f 6).1 := hw1.fact 3 rfl
  obtain ⟨A2, C2, q2, _⟩ := hw1.rowForm 2 rfl
  rw [q2] at e7
  refine ⟨[(4, (f 7).1)], [.row w.heap.size (.slice A2 L2.length C2) 5 1 L2.length (L2.map (.int .u8))], (by repeat (first | exact SubD.nil | refine SubD.cons rfl ?_)), ?_, ?_⟩
  · have h9 := hw1.fewer (by repeat (first | exact new_nil | refine new_ro ?_ | refine new_cons (by first | assumption | omega) ?_ | refine newrow hw1 0 rfl (Nat.le_refl _) ?_ | refine newrow hw1 1 rfl (Nat.le_refl _) ?_ | refine newrow hw1 2 rfl (Nat.le_refl _) ?_ | refine newrow hw1 3 rfl (Nat.le_refl _) ?_ | refine newrow hw1 4 rfl (Nat.le_refl _) ?_ | refine newrow hw1 5 rfl (Nat.le_refl _) ?_ | refine newrow hw1 6 rfl (Nat.le_refl _) ?_ | refine newrow hw1 7 rfl (Nat.le_refl _) ?_ | refine newrow hw1 8 rfl (Nat.le_refl _) ?_ | refine newrow hw1 9 rfl (Nat.le_refl _) ?_ | refine newrow hw1 10 rfl (Nat.le_refl _) ?_ | refine newrow hw1 11 rfl (Nat.le_refl _) ?_ | refine newrow hw1 12 rfl (Nat.le_refl _) ?_ | refine newrow hw1 13 rfl (Nat.le_refl _) ?_ | refine newrow hw1 14 rfl (Nat.le_refl _) ?_ | refine newrow hw1 15 rfl (Nat.le_refl _) ?_ | refine newrow hw1 16 rfl (Nat.le_refl _) ?_)) (o' := [.row w.heap.size (f 6).1 5 1 L2.length (L2.map (.int .u8))]) (by repeat (first | exact List.Sublist.slnil | refine List.Sublist.cons_cons _ ?_ | refine List.Sublist.cons _ ?_))
    rw [q2] at h9
    exact h9
  rw [e7]
  repeat (first | refine T_draw (by kernel_rfl) (by kernel_rfl) ?_ | refine D_all rfl ?_ | refine D_i64 tabOk rfl (by omega) ?_ | refine D_u64 tabOk rfl (by omega) ?_ | refine D_pure tabOk rfl ?_ | refine D_pass rfl rfl rfl ?_ | refine D_load tabOk 0 rfl rfl rfl ?_ | refine D_load tabOk 1 rfl rfl rfl ?_ | refine D_load tabOk 2 rfl rfl rfl ?_ | refine D_load tabOk 3 rfl rfl rfl ?_ | refine D_load tabOk 4 rfl rfl rfl ?_ | refine T_seq ?_ | refine T_region ?_ | refine T_block ?_ | refine S_nil ?_ | refine pthen_normal ?_ | refine inb_normal ?_ | refine inb_ret ?_ | refine pthen_ret ?_ | refine inb_hit ?_ | refine pthen_exit ?_ | refine T_skip ?_ | refine T_ret ?_ | refine T_exit ?_  | refine S_i64 tabOk rfl (by omega) ?_ | refine S_u64 tabOk rfl (by omega) ?_ | refine S_pure tabOk rfl ?_ | refine S_pass rfl rfl rfl ?_ | refine S_pass0 rfl rfl ?_ | refine T_region_any ?_  | refine S_load tabOk 0 rfl rfl rfl ?_ | refine S_load tabOk 1 rfl rfl rfl ?_ | refine S_load tabOk 2 rfl rfl rfl ?_ | refine S_load tabOk 3 rfl rfl rfl ?_ | refine S_load tabOk 4 rfl rfl rfl ?_ | refine S_load tabOk 5 rfl rfl rfl ?_ | refine S_store tabOk 0 rfl rfl rfl rfl rfl rfl ?_ | refine S_store tabOk 1 rfl rfl rfl rfl rfl rfl ?_ | refine S_store tabOk 2 rfl rfl rfl rfl rfl rfl ?_ | refine S_store tabOk 3 rfl rfl rfl rfl rfl rfl ?_ | refine S_store tabOk 4 rfl rfl rfl rfl rfl rfl ?_ | refine S_store tabOk 5 rfl rfl rfl rfl rfl rfl ?_ | refine S_q (Q_build tabOk rfl rfl rfl rfl rfl rfl rfl) ?_ | refine D_q (Q_build tabOk rfl rfl rfl rfl rfl rfl rfl) ?_)
  exact ret1 rfl rfl (fun w' hw => ⟨A2, C2, rfl, hw.below (by repeat (first | exact new_nil | refine new_ro ?_ | refine new_cons (by first | assumption | omega) ?_ | refine newrow hw 0 rfl (Nat.le_refl _) ?_ | refine newrow hw 1 rfl (Nat.le_refl _) ?_ | refine newrow hw 2 rfl (Nat.le_refl _) ?_ | refine newrow hw 3 rfl (Nat.le_refl _) ?_ | refine newrow hw 4 rfl (Nat.le_refl _) ?_ | refine newrow hw 5 rfl (Nat.le_refl _) ?_ | refine newrow hw 6 rfl (Nat.le_refl _) ?_ | refine newrow hw 7 rfl (Nat.le_refl _) ?_ | refine newrow hw 8 rfl (Nat.le_refl _) ?_ | refine newrow hw 9 rfl (Nat.le_refl _) ?_ | refine newrow hw 10 rfl (Nat.le_refl _) ?_ | refine newrow hw 11 rfl (Nat.le_refl _) ?_ | refine newrow hw 12 rfl (Nat.le_refl _) ?_ | refine newrow hw 13 rfl (Nat.le_refl _) ?_ | refine newrow hw 14 rfl (Nat.le_refl _) ?_ | refine newrow hw 15 rfl (Nat.le_refl _) ?_ | refine newrow hw 16 rfl (Nat.le_refl _) ?_)), hw.own _ (getE_mem (i := 0) rfl)⟩)

theorem rput_ok (k : Int) (a : Option Addr) (n c : Nat) (zs : List Int) (w : World) (hw : Ints .u8 w a n c zs) (hn : zs.length ≤ 268435456) :
    Calls Try.prog 48 #[spV k a n c] w fun e w' => ∃ a c, e = .returned (.slice a (spB k zs).length c) ∧ Below w.heap.size w w' ∧ w'.ownsRow w.heap.size 5 1 (.slice a (spB k zs).length c) (spB k zs).length ((spB k zs).map (.int .u8)) := by
  have hsl := spB_len k zs (by omega)
  have hkf : Fits .u8 (IntKind.u8.wrap k) := by rw [IntKind.wrap_u8]; exact fits8 (by omega)
  refine enter1 Try.func48 rfl rfl (Hp.refl w) ?_
  repeat (first | refine T_draw (by kernel_rfl) (by kernel_rfl) ?_ | refine D_all rfl ?_ | refine D_i64 tabOk rfl (by omega) ?_ | refine D_u64 tabOk rfl (by omega) ?_ | refine D_pure tabOk rfl ?_ | refine D_pass rfl rfl rfl ?_ | refine D_load tabOk 0 rfl rfl rfl ?_ | refine D_load tabOk 1 rfl rfl rfl ?_ | refine D_load tabOk 2 rfl rfl rfl ?_ | refine D_load tabOk 3 rfl rfl rfl ?_ | refine D_load tabOk 4 rfl rfl rfl ?_ | refine T_seq ?_ | refine T_region ?_ | refine T_block ?_ | refine S_nil ?_ | refine pthen_normal ?_ | refine inb_normal ?_ | refine inb_ret ?_ | refine pthen_ret ?_ | refine inb_hit ?_ | refine pthen_exit ?_ | refine T_skip ?_ | refine T_ret ?_ | refine T_exit ?_  | refine S_i64 tabOk rfl (by omega) ?_ | refine S_u64 tabOk rfl (by omega) ?_ | refine S_pure tabOk rfl ?_ | refine S_pass rfl rfl rfl ?_ | refine S_pass0 rfl rfl ?_ | refine T_region_any ?_  | refine S_load tabOk 0 rfl rfl rfl ?_ | refine S_load tabOk 1 rfl rfl rfl ?_ | refine S_load tabOk 2 rfl rfl rfl ?_ | refine S_load tabOk 3 rfl rfl rfl ?_ | refine S_load tabOk 4 rfl rfl rfl ?_ | refine S_load tabOk 5 rfl rfl rfl ?_ | refine S_store tabOk 0 rfl rfl rfl rfl rfl rfl ?_ | refine S_store tabOk 1 rfl rfl rfl rfl rfl rfl ?_ | refine S_store tabOk 2 rfl rfl rfl rfl rfl rfl ?_ | refine S_store tabOk 3 rfl rfl rfl rfl rfl rfl ?_ | refine S_store tabOk 4 rfl rfl rfl rfl rfl rfl ?_ | refine S_store tabOk 5 rfl rfl rfl rfl rfl rfl ?_ | refine S_q (Q_build tabOk rfl rfl rfl rfl rfl rfl rfl) ?_ | refine D_q (Q_build tabOk rfl rfl rfl rfl rfl rfl rfl) ?_)
  refine S_new tabOk rfl (fun b1 hb1 => ?_)
  repeat (first | refine D_all rfl ?_ | refine D_i64 tabOk rfl (by omega) ?_ | refine D_u64 tabOk rfl (by omega) ?_ | refine D_pure tabOk rfl ?_ | refine D_pass rfl rfl rfl ?_ | refine D_load tabOk 0 rfl rfl rfl ?_ | refine D_load tabOk 1 rfl rfl rfl ?_ | refine D_load tabOk 2 rfl rfl rfl ?_ | refine D_load tabOk 3 rfl rfl rfl ?_ | refine D_load tabOk 4 rfl rfl rfl ?_ | refine T_seq ?_ | refine T_region ?_ | refine T_block ?_ | refine S_nil ?_ | refine pthen_normal ?_ | refine inb_normal ?_ | refine inb_ret ?_ | refine pthen_ret ?_ | refine inb_hit ?_ | refine pthen_exit ?_ | refine T_skip ?_ | refine T_ret ?_ | refine T_exit ?_  | refine S_i64 tabOk rfl (by omega) ?_ | refine S_u64 tabOk rfl (by omega) ?_ | refine S_pure tabOk rfl ?_ | refine S_pass rfl rfl rfl ?_ | refine S_pass0 rfl rfl ?_ | refine T_region_any ?_  | refine S_load tabOk 0 rfl rfl rfl ?_ | refine S_load tabOk 1 rfl rfl rfl ?_ | refine S_load tabOk 2 rfl rfl rfl ?_ | refine S_load tabOk 3 rfl rfl rfl ?_ | refine S_load tabOk 4 rfl rfl rfl ?_ | refine S_load tabOk 5 rfl rfl rfl ?_ | refine S_store tabOk 0 rfl rfl rfl rfl rfl rfl ?_ | refine S_store tabOk 1 rfl rfl rfl rfl rfl rfl ?_ | refine S_store tabOk 2 rfl rfl rfl rfl rfl rfl ?_ | refine S_store tabOk 3 rfl rfl rfl rfl rfl rfl ?_ | refine S_store tabOk 4 rfl rfl rfl rfl rfl rfl ?_ | refine S_store tabOk 5 rfl rfl rfl rfl rfl rfl ?_ | refine S_q (Q_build tabOk rfl rfl rfl rfl rfl rfl rfl) ?_ | refine D_q (Q_build tabOk rfl rfl rfl rfl rfl rfl rfl) ?_)
  let R : Value → List Int → HE := fun v L => .row w.heap.size v 5 1 L.length (L.map (.int .u8))
  let lst : Bool → Bool → Bool → Bool → Bool → Value × Unit → Value × Unit → Value × Unit → Value × Unit → Value × Unit → OL := fun l3 l6 l7 l8 l9 x3 x6 x7 x8 x9 =>
    .blk b1 (.cells ⟨[.int .i64 k, .slice a n c]⟩ 43 (0, 0)) true :: (cond l3 [R x3.1 [IntKind.u8.wrap k]] [] ++ (cond l6 [R x6.1 (encB zs)] [] ++ (cond l7 [.row w.heap.size x7.1 22 1 2 [x3.1, x6.1]] [] ++ (cond l8 [R x8.1 (spB k zs)] [] ++ cond l9 [factE (x9.1 = x8.1)] []))))
  refine T_drawF (γ := Unit) (by kernel_rfl) (by kernel_rfl) () (fun L f => lst (L 3) (L 6) (L 7) (L 8) (L 9) (f 3) (f 6) (f 7) (f 8) (f 9)) rfl [some (.pointer (some ⟨b1, 0, none⟩)), some (.int .i64 k), some (.int .u8 (IntKind.u8.wrap k)), none, some (.pointer (some ⟨b1, 1, none⟩)), some (.slice a n c), none, none, none, none] ?_ ?_
  · refine ⟨?_, ?_, ?_, ?_, ?_, ?_, ?_, ?_, ?_, ?_, trivial⟩
    · exact fun L f hc hl hp => OpA.told () rfl (D_pure tabOk rfl D_last) rfl
    · exact fun L f hc hl hp => OpA.told () rfl (D_load tabOk 0 rfl rfl rfl D_last) rfl
    · exact fun L f hc hl hp => OpA.told () rfl (D_pure tabOk rfl D_last) rfl
    · intro L f hc hl hp
      have h7 := closed_no hc (j := 7) rfl ⟨3, .data⟩ (by simp) rfl hl
      have h8 := closed_no hc (j := 8) rfl ⟨7, .data⟩ (by simp) rfl h7
      have h9 := closed_no hc (j := 9) rfl ⟨8, .data⟩ (by simp) rfl h8
      show OpA _ _ _ _ (lst (L 3) (L 6) (L 7) (L 8) (L 9) (f 3) (f 6) (f 7) (f 8) (f 9)) (fun y => lst true (L 6) (L 7) (L 8) (L 9) y (f 6) (f 7) (f 8) (f 9)) _ _ _
      rw [hl, h7, h8, h9]
      generalize L 6 = l6
      exact OpA.bsliceR tabOk rfl rfl rfl rfl rfl rfl rfl rfl rfl rfl rfl rfl rfl rfl (fun w1 v hw1 => ⟨(), hw1.perm (by cases l6 <;> (repeat (first | exact List.Perm.refl _ | refine (List.Perm.swap _ _ _).trans (List.Perm.cons _ ?_))))⟩)
    · exact fun L f hc hl hp => OpA.told () rfl (D_pure tabOk rfl D_last) rfl
    · exact fun L f hc hl hp => OpA.told () rfl (D_load tabOk 0 rfl rfl rfl D_last) rfl
    · intro L f hc hl hp
      have h7 := closed_no hc (j := 7) rfl ⟨6, .data⟩ (by simp) rfl hl
      have h8 := closed_no hc (j := 8) rfl ⟨7, .data⟩ (by simp) rfl h7
      have h9 := closed_no hc (j := 9) rfl ⟨8, .data⟩ (by simp) rfl h8
      show OpA _ _ _ _ (lst (L 3) (L 6) (L 7) (L 8) (L 9) (f 3) (f 6) (f 7) (f 8) (f 9)) (fun y => lst (L 3) true (L 7) (L 8) (L 9) (f 3) y (f 7) (f 8) (f 9)) _ _ _
      rw [hl, h7, h8, h9]
      have hnw : ∀ l3 : Bool, ∀ w1, Hp w w1 (lst l3 false false false false (f 3) (f 6) (f 7) (f 8) (f 9)) → Below w.heap.size w w1 := fun l3 w1 hw1 => by cases l3 <;> exact hw1.below (by repeat (first | exact new_nil | refine new_ro ?_ | refine new_cons (by first | assumption | omega) ?_ | refine newrow hw1 0 rfl (Nat.le_refl _) ?_ | refine newrow hw1 1 rfl (Nat.le_refl _) ?_ | refine newrow hw1 2 rfl (Nat.le_refl _) ?_ | refine newrow hw1 3 rfl (Nat.le_refl _) ?_ | refine newrow hw1 4 rfl (Nat.le_refl _) ?_ | refine newrow hw1 5 rfl (Nat.le_refl _) ?_ | refine newrow hw1 6 rfl (Nat.le_refl _) ?_ | refine newrow hw1 7 rfl (Nat.le_refl _) ?_ | refine newrow hw1 8 rfl (Nat.le_refl _) ?_ | refine newrow hw1 9 rfl (Nat.le_refl _) ?_ | refine newrow hw1 10 rfl (Nat.le_refl _) ?_ | refine newrow hw1 11 rfl (Nat.le_refl _) ?_ | refine newrow hw1 12 rfl (Nat.le_refl _) ?_ | refine newrow hw1 13 rfl (Nat.le_refl _) ?_ | refine newrow hw1 14 rfl (Nat.le_refl _) ?_ | refine newrow hw1 15 rfl (Nat.le_refl _) ?_ | refine newrow hw1 16 rfl (Nat.le_refl _) ?_))
      generalize L 3 = l3
      refine OpA.callrow rfl Try.call33 (fun w1 vs hw1 h => by
        obtain ⟨u1, _, rfl, rfl, rfl⟩ := h
        exact refbytes_ok a n c zs w1 (hw.ext (hnw l3 w1 hw1)) (by omega)) (fun w1 v hw1 => ⟨(), hw1.perm (by cases l3 <;> (repeat (first | exact List.Perm.refl _ | refine (List.Perm.swap _ _ _).trans (List.Perm.cons _ ?_))))⟩)
    · intro L f hc hl hp
      have h3 : L 3 = true := hp ⟨3, .data⟩ (by simp) rfl
      have h6 : L 6 = true := hp ⟨6, .data⟩ (by simp) rfl
      have h8 := closed_no hc (j := 8) rfl ⟨7, .data⟩ (by simp) rfl hl
      have h9 := closed_no hc (j := 9) rfl ⟨8, .data⟩ (by simp) rfl h8
      show OpA _ _ _ _ (lst (L 3) (L 6) (L 7) (L 8) (L 9) (f 3) (f 6) (f 7) (f 8) (f 9)) (fun y => lst (L 3) (L 6) true (L 8) (L 9) (f 3) (f 6) y (f 8) (f 9)) _ _ _
      rw [hl, h3, h6, h8, h9]
      refine OpA.pre (X := ∃ A3 C3 A6 C6, (f 3).1 = .slice A3 1 C3 ∧ (f 6).1 = .slice A6 (encB zs).length C6) (fun w1 hw1 => ?_) (fun d h => by cases h; decide) ?_
      · obtain ⟨A3, C3, q3, _⟩ := hw1.rowForm 1 rfl
        obtain ⟨A6, C6, q6, _⟩ := hw1.rowForm 2 rfl
        exact ⟨A3, C3, A6, C6, q3, q6⟩
      · rintro ⟨A3, C3, A6, C6, q3, q6⟩
        refine OpA.swap (dl' := [(6, .ex (f 3).1), (9, .ex (f 6).1)]) (List.forall_mem_cons.2 ⟨rfl, List.forall_mem_cons.2 ⟨rfl, fun _ h => nomatch h⟩⟩) ?_
        generalize f 3 = x3 at *
        generalize f 6 = x6 at *
        obtain ⟨x3, ⟨⟩⟩ := x3
        obtain ⟨x6, ⟨⟩⟩ := x6
        dsimp only at q3 q6
        subst q3
        subst q6
        exact OpA.bsliceR tabOk rfl rfl rfl rfl rfl rfl rfl rfl rfl rfl rfl rfl rfl rfl (fun w1 v hw1 => ⟨(), hw1.perm (by repeat (first | exact List.Perm.refl _ | refine (List.Perm.swap _ _ _).trans (List.Perm.cons _ ?_)))⟩)
    · intro L f hc hl hp
      have h7 : L 7 = true := hp ⟨7, .data⟩ (by simp) rfl
      have h6 : L 6 = true := hp ⟨6, .chain⟩ (by simp) rfl
      have h3 : L 3 = true := hc 7 _ rfl h7 ⟨3, .data⟩ (by simp) rfl
      have h9 := closed_no hc (j := 9) rfl ⟨8, .data⟩ (by simp) rfl hl
      show OpA _ _ _ _ (lst (L 3) (L 6) (L 7) (L 8) (L 9) (f 3) (f 6) (f 7) (f 8) (f 9)) (fun y => lst (L 3) (L 6) (L 7) true (L 9) (f 3) (f 6) (f 7) y (f 9)) _ _ _
      rw [hl, h3, h6, h7, h9]
      refine OpA.callrow rfl Try.call15 (fun w1 vs hw1 h => by
        obtain ⟨u1, _, rfl, e1, rfl⟩ := h
        obtain ⟨A3, C3, q3, r3⟩ := hw1.rowForm 1 rfl
        obtain ⟨A6, C6, q6, r6⟩ := hw1.rowForm 2 rfl
        obtain ⟨A7, C7, q7, r7⟩ := hw1.rowForm 3 rfl
        have e3 : u1 = .slice A7 2 C7 := by first | exact e1.trans q7 | exact e1.symm.trans q7
        rw [e3]
        rw [q3, q6] at r7
        have := join_ok A7 2 C7 [⟨A3, 1, C3, [IntKind.u8.wrap k]⟩, ⟨A6, (encB zs).length, C6, encB zs⟩] w1 (by decide) (Sl.of_own r7) (fun p hp => by
          simp only [List.mem_cons, List.not_mem_nil, or_false] at hp
          rcases hp with rfl | rfl
          · exact ints_of_own r3 (fun z hz => by rw [List.mem_singleton] at hz; subst hz; exact hkf)
          · exact ints_of_own r6 (encB_fits hw.fits)) (by simp only [cat, List.map_cons, List.map_nil, List.flatten_cons, List.flatten_nil, List.append_nil]; show (spB k zs).length ≤ _; omega)
        rw [show cat [⟨A3, 1, C3, [IntKind.u8.wrap k]⟩, ⟨A6, (encB zs).length, C6, encB zs⟩] = spB k zs by simp [cat, spB]] at this
        exact this) (fun w1 v hw1 => ⟨(), hw1.perm (by repeat (first | exact List.Perm.refl _ | refine (List.Perm.swap _ _ _).trans (List.Perm.cons _ ?_)))⟩)
    · intro L f hc hl hp
      have h8 : L 8 = true := hp ⟨8, .data⟩ (by simp) rfl
      have h7 : L 7 = true := hp ⟨7, .phase⟩ (by simp) rfl
      have h6 : L 6 = true := hp ⟨6, .phase⟩ (by simp) rfl
      have h3 : L 3 = true := hp ⟨3, .phase⟩ (by simp) rfl
      show OpA _ _ _ _ (lst (L 3) (L 6) (L 7) (L 8) (L 9) (f 3) (f 6) (f 7) (f 8) (f 9)) (fun y => lst (L 3) (L 6) (L 7) (L 8) true (f 3) (f 6) (f 7) (f 8) y) _ _ _
      rw [hl, h3, h6, h7, h8]
      exact OpA.known () rfl (D_pure tabOk rfl D_last) (fun w1 hw1 => (hw1.addF rfl).perm (by repeat (first | exact List.Perm.refl _ | refine (List.Perm.swap _ _ _).trans (List.Perm.cons _ ?_))))
  intro L f w1 hL hw1
  change Hp _ _ (lst (L 3) (L 6) (L 7) (L 8) (L 9) (f 3) (f 6) (f 7) (f 8) (f 9)) at hw1
  rw [hL 3 (by decide), hL 6 (by decide), hL 7 (by decide), hL 8 (by decide), hL 9 (by decide)] at hw1
  have e9 : (f 9).1 = (f 8).1 := hw1.fact 5 rfl
  obtain ⟨A2, C2, q2, _⟩ := hw1.rowForm 4 rfl
  rw [q2] at e9
  refine ⟨[(2, (f 9).1)], [R (.slice A2 (spB k zs).length C2) (spB k zs)], (by repeat (first | exact SubD.nil | refine SubD.cons rfl ?_)), ?_, ?_⟩
  · have h9 := hw1.fewer (by repeat (first | exact new_nil | refine new_ro ?_ | refine new_cons (by first | assumption | omega) ?_ | refine newrow hw1 0 rfl (Nat.le_refl _) ?_ | refine newrow hw1 1 rfl (Nat.le_refl _) ?_ | refine newrow hw1 2 rfl (Nat.le_refl _) ?_ | refine newrow hw1 3 rfl (Nat.le_refl _) ?_ | refine newrow hw1 4 rfl (Nat.le_refl _) ?_ | refine newrow hw1 5 rfl (Nat.le_refl _) ?_ | refine newrow hw1 6 rfl (Nat.le_refl _) ?_ | refine newrow hw1 7 rfl (Nat.le_refl _) ?_ | refine newrow hw1 8 rfl (Nat.le_refl _) ?_ | refine newrow hw1 9 rfl (Nat.le_refl _) ?_ | refine newrow hw1 10 rfl (Nat.le_refl _) ?_ | refine newrow hw1 11 rfl (Nat.le_refl _) ?_ | refine newrow hw1 12 rfl (Nat.le_refl _) ?_ | refine newrow hw1 13 rfl (Nat.le_refl _) ?_ | refine newrow hw1 14 rfl (Nat.le_refl _) ?_ | refine newrow hw1 15 rfl (Nat.le_refl _) ?_ | refine newrow hw1 16 rfl (Nat.le_refl _) ?_)) (o' := [R (f 8).1 (spB k zs)]) (by repeat (first | exact List.Sublist.slnil | refine List.Sublist.cons_cons _ ?_ | refine List.Sublist.cons _ ?_))
    rw [q2] at h9
    exact h9
  rw [e9]
  repeat (first | refine T_draw (by kernel_rfl) (by kernel_rfl) ?_ | refine D_all rfl ?_ | refine D_i64 tabOk rfl (by omega) ?_ | refine D_u64 tabOk rfl (by omega) ?_ | refine D_pure tabOk rfl ?_ | refine D_pass rfl rfl rfl ?_ | refine D_load tabOk 0 rfl rfl rfl ?_ | refine D_load tabOk 1 rfl rfl rfl ?_ | refine D_load tabOk 2 rfl rfl rfl ?_ | refine D_load tabOk 3 rfl rfl rfl ?_ | refine D_load tabOk 4 rfl rfl rfl ?_ | refine T_seq ?_ | refine T_region ?_ | refine T_block ?_ | refine S_nil ?_ | refine pthen_normal ?_ | refine inb_normal ?_ | refine inb_ret ?_ | refine pthen_ret ?_ | refine inb_hit ?_ | refine pthen_exit ?_ | refine T_skip ?_ | refine T_ret ?_ | refine T_exit ?_  | refine S_i64 tabOk rfl (by omega) ?_ | refine S_u64 tabOk rfl (by omega) ?_ | refine S_pure tabOk rfl ?_ | refine S_pass rfl rfl rfl ?_ | refine S_pass0 rfl rfl ?_ | refine T_region_any ?_  | refine S_load tabOk 0 rfl rfl rfl ?_ | refine S_load tabOk 1 rfl rfl rfl ?_ | refine S_load tabOk 2 rfl rfl rfl ?_ | refine S_load tabOk 3 rfl rfl rfl ?_ | refine S_load tabOk 4 rfl rfl rfl ?_ | refine S_load tabOk 5 rfl rfl rfl ?_ | refine S_store tabOk 0 rfl rfl rfl rfl rfl rfl ?_ | refine S_store tabOk 1 rfl rfl rfl rfl rfl rfl ?_ | refine S_store tabOk 2 rfl rfl rfl rfl rfl rfl ?_ | refine S_store tabOk 3 rfl rfl rfl rfl rfl rfl ?_ | refine S_store tabOk 4 rfl rfl rfl rfl rfl rfl ?_ | refine S_store tabOk 5 rfl rfl rfl rfl rfl rfl ?_ | refine S_q (Q_build tabOk rfl rfl rfl rfl rfl rfl rfl) ?_ | refine D_q (Q_build tabOk rfl rfl rfl rfl rfl rfl rfl) ?_)
  exact ret1 rfl rfl (fun w' hw => ⟨A2, C2, rfl, hw.below (by repeat (first | exact new_nil | refine new_ro ?_ | refine new_cons (by first | assumption | omega) ?_ | refine newrow hw 0 rfl (Nat.le_refl _) ?_ | refine newrow hw 1 rfl (Nat.le_refl _) ?_ | refine newrow hw 2 rfl (Nat.le_refl _) ?_ | refine newrow hw 3 rfl (Nat.le_refl _) ?_ | refine newrow hw 4 rfl (Nat.le_refl _) ?_ | refine newrow hw 5 rfl (Nat.le_refl _) ?_ | refine newrow hw 6 rfl (Nat.le_refl _) ?_ | refine newrow hw 7 rfl (Nat.le_refl _) ?_ | refine newrow hw 8 rfl (Nat.le_refl _) ?_ | refine newrow hw 9 rfl (Nat.le_refl _) ?_ | refine newrow hw 10 rfl (Nat.le_refl _) ?_ | refine newrow hw 11 rfl (Nat.le_refl _) ?_ | refine newrow hw 12 rfl (Nat.le_refl _) ?_ | refine newrow hw 13 rfl (Nat.le_refl _) ?_ | refine newrow hw 14 rfl (Nat.le_refl _) ?_ | refine newrow hw 15 rfl (Nat.le_refl _) ?_ | refine newrow hw 16 rfl (Nat.le_refl _) ?_)), hw.own _ (getE_mem (i := 0) rfl)⟩)

theorem rputitem_ok (N : Nat) (k : Int) (a : Option Addr) (n c : Nat) (zs : List Int) (w : World) (hw : Ints .u8 w a n c zs) (hn : zs.length ≤ 134217728) (hN : N < 18446744073709551616) :
    Calls Try.prog 49 #[itV N k a n c] w fun e w' => ∃ a c, e = .returned (.slice a (enc N ++ spB k zs).length c) ∧ Below w.heap.size w w' ∧ w'.ownsRow w.heap.size 5 1 (.slice a (enc N ++ spB k zs).length c) (enc N ++ spB k zs).length ((enc N ++ spB k zs).map (.int .u8)) := by
  have hsl := spB_len k zs (by omega)
  have hel := enc_len10 hN
  have hll : (enc N ++ spB k zs).length ≤ 2147483648 := by rw [List.length_append]; omega
  refine enter1 Try.func49 rfl rfl (Hp.refl w) ?_
  repeat (first | refine T_draw (by kernel_rfl) (by kernel_rfl) ?_ | refine D_all rfl ?_ | refine D_i64 tabOk rfl (by omega) ?_ | refine D_u64 tabOk rfl (by omega) ?_ | refine D_pure tabOk rfl ?_ | refine D_pass rfl rfl rfl ?_ | refine D_load tabOk 0 rfl rfl rfl ?_ | refine D_load tabOk 1 rfl rfl rfl ?_ | refine D_load tabOk 2 rfl rfl rfl ?_ | refine D_load tabOk 3 rfl rfl rfl ?_ | refine D_load tabOk 4 rfl rfl rfl ?_ | refine T_seq ?_ | refine T_region ?_ | refine T_block ?_ | refine S_nil ?_ | refine pthen_normal ?_ | refine inb_normal ?_ | refine inb_ret ?_ | refine pthen_ret ?_ | refine inb_hit ?_ | refine pthen_exit ?_ | refine T_skip ?_ | refine T_ret ?_ | refine T_exit ?_  | refine S_i64 tabOk rfl (by omega) ?_ | refine S_u64 tabOk rfl (by omega) ?_ | refine S_pure tabOk rfl ?_ | refine S_pass rfl rfl rfl ?_ | refine S_pass0 rfl rfl ?_ | refine T_region_any ?_  | refine S_load tabOk 0 rfl rfl rfl ?_ | refine S_load tabOk 1 rfl rfl rfl ?_ | refine S_load tabOk 2 rfl rfl rfl ?_ | refine S_load tabOk 3 rfl rfl rfl ?_ | refine S_load tabOk 4 rfl rfl rfl ?_ | refine S_load tabOk 5 rfl rfl rfl ?_ | refine S_store tabOk 0 rfl rfl rfl rfl rfl rfl ?_ | refine S_store tabOk 1 rfl rfl rfl rfl rfl rfl ?_ | refine S_store tabOk 2 rfl rfl rfl rfl rfl rfl ?_ | refine S_store tabOk 3 rfl rfl rfl rfl rfl rfl ?_ | refine S_store tabOk 4 rfl rfl rfl rfl rfl rfl ?_ | refine S_store tabOk 5 rfl rfl rfl rfl rfl rfl ?_ | refine S_q (Q_build tabOk rfl rfl rfl rfl rfl rfl rfl) ?_ | refine D_q (Q_build tabOk rfl rfl rfl rfl rfl rfl rfl) ?_)
  refine S_new tabOk rfl (fun b1 hb1 => ?_)
  repeat (first | refine D_all rfl ?_ | refine D_i64 tabOk rfl (by omega) ?_ | refine D_u64 tabOk rfl (by omega) ?_ | refine D_pure tabOk rfl ?_ | refine D_pass rfl rfl rfl ?_ | refine D_load tabOk 0 rfl rfl rfl ?_ | refine D_load tabOk 1 rfl rfl rfl ?_ | refine D_load tabOk 2 rfl rfl rfl ?_ | refine D_load tabOk 3 rfl rfl rfl ?_ | refine D_load tabOk 4 rfl rfl rfl ?_ | refine T_seq ?_ | refine T_region ?_ | refine T_block ?_ | refine S_nil ?_ | refine pthen_normal ?_ | refine inb_normal ?_ | refine inb_ret ?_ | refine pthen_ret ?_ | refine inb_hit ?_ | refine pthen_exit ?_ | refine T_skip ?_ | refine T_ret ?_ | refine T_exit ?_  | refine S_i64 tabOk rfl (by omega) ?_ | refine S_u64 tabOk rfl (by omega) ?_ | refine S_pure tabOk rfl ?_ | refine S_pass rfl rfl rfl ?_ | refine S_pass0 rfl rfl ?_ | refine T_region_any ?_  | refine S_load tabOk 0 rfl rfl rfl ?_ | refine S_load tabOk 1 rfl rfl rfl ?_ | refine S_load tabOk 2 rfl rfl rfl ?_ | refine S_load tabOk 3 rfl rfl rfl ?_ | refine S_load tabOk 4 rfl rfl rfl ?_ | refine S_load tabOk 5 rfl rfl rfl ?_ | refine S_store tabOk 0 rfl rfl rfl rfl rfl rfl ?_ | refine S_store tabOk 1 rfl rfl rfl rfl rfl rfl ?_ | refine S_store tabOk 2 rfl rfl rfl rfl rfl rfl ?_ | refine S_store tabOk 3 rfl rfl rfl rfl rfl rfl ?_ | refine S_store tabOk 4 rfl rfl rfl rfl rfl rfl ?_ | refine S_store tabOk 5 rfl rfl rfl rfl rfl rfl ?_ | refine S_q (Q_build tabOk rfl rfl rfl rfl rfl rfl rfl) ?_ | refine D_q (Q_build tabOk rfl rfl rfl rfl rfl rfl rfl) ?_)
  let R : Value → List Int → HE := fun v L => .row w.heap.size v 5 1 L.length (L.map (.int .u8))
  let lst : Bool → Bool → Bool → Bool → Bool → Value × Unit → Value × Unit → Value × Unit → Value × Unit → Value × Unit → OL := fun l2 l5 l6 l7 l8 x2 x5 x6 x7 x8 =>
    .blk b1 (.cells ⟨[.int .u64 (N : Int), .int .i64 k, .slice a n c]⟩ 79 (0, 0)) true :: (cond l2 [R x2.1 (enc N)] [] ++ (cond l5 [R x5.1 (spB k zs)] [] ++ (cond l6 [.row w.heap.size x6.1 22 1 2 [x2.1, x5.1]] [] ++ (cond l7 [R x7.1 (enc N ++ spB k zs)] [] ++ cond l8 [factE (x8.1 = x7.1)] []))))
  refine T_drawF (γ := Unit) (by kernel_rfl) (by kernel_rfl) () (fun L f => lst (L 2) (L 5) (L 6) (L 7) (L 8) (f 2) (f 5) (f 6) (f 7) (f 8)) rfl [some (.pointer (some ⟨b1, 0, none⟩)), some (.int .u64 (N : Int)), none, some (.pointer (some ⟨b1, 1, none⟩)), some (spV k a n c), none, none, none, none] ?_ ?_
  · refine ⟨?_, ?_, ?_, ?_, ?_, ?_, ?_, ?_, ?_, trivial⟩
    · exact fun L f hc hl hp => OpA.told () rfl (D_pure tabOk rfl D_last) rfl
    · exact fun L f hc hl hp => OpA.told () rfl (D_load tabOk 0 rfl rfl rfl D_last) rfl
    · intro L f hc hl hp
      have h5 := closed_no hc (j := 5) rfl ⟨2, .chain⟩ (by simp) rfl hl
      have h6 := closed_no hc (j := 6) rfl ⟨2, .data⟩ (by simp) rfl hl
      have h7 := closed_no hc (j := 7) rfl ⟨6, .data⟩ (by simp) rfl h6
      have h8 := closed_no hc (j := 8) rfl ⟨7, .data⟩ (by simp) rfl h7
      show OpA _ _ _ _ (lst (L 2) (L 5) (L 6) (L 7) (L 8) (f 2) (f 5) (f 6) (f 7) (f 8)) (fun y => lst true (L 5) (L 6) (L 7) (L 8) y (f 5) (f 6) (f 7) (f 8)) _ _ _
      rw [hl, h5, h6, h7, h8]
      refine OpA.callrow rfl Try.call18 (fun w1 vs hw1 h => by
        obtain ⟨u1, _, rfl, rfl, rfl⟩ := h
        exact refnum_ok (N + 1) N w1 (by omega) hN) (fun w1 v hw1 => ⟨(), hw1.perm (by repeat (first | exact List.Perm.refl _ | refine (List.Perm.swap _ _ _).trans (List.Perm.cons _ ?_)))⟩)
    · exact fun L f hc hl hp => OpA.told () rfl (D_pure tabOk rfl D_last) rfl
    · exact fun L f hc hl hp => OpA.told () rfl (D_load tabOk 0 rfl rfl rfl D_last) rfl
    · intro L f hc hl hp
      have h2 : L 2 = true := hp ⟨2, .chain⟩ (by simp) rfl
      have h6 := closed_no hc (j := 6) rfl ⟨5, .data⟩ (by simp) rfl hl
      have h7 := closed_no hc (j := 7) rfl ⟨6, .data⟩ (by simp) rfl h6
      have h8 := closed_no hc (j := 8) rfl ⟨7, .data⟩ (by simp) rfl h7
      show OpA _ _ _ _ (lst (L 2) (L 5) (L 6) (L 7) (L 8) (f 2) (f 5) (f 6) (f 7) (f 8)) (fun y => lst (L 2) true (L 6) (L 7) (L 8) (f 2) y (f 6) (f 7) (f 8)) _ _ _
      rw [hl, h2, h6, h7, h8]
      refine OpA.callrow rfl Try.call48 (fun w1 vs hw1 h => by
        obtain ⟨u1, _, rfl, rfl, rfl⟩ := h
        exact rput_ok k a n c zs w1 (hw.ext (hw1.below (by repeat (first | exact new_nil | refine new_ro ?_ | refine new_cons (by first | assumption | omega) ?_ | refine newrow hw1 0 rfl (Nat.le_refl _) ?_ | refine newrow hw1 1 rfl (Nat.le_refl _) ?_ | refine newrow hw1 2 rfl (Nat.le_refl _) ?_ | refine newrow hw1 3 rfl (Nat.le_refl _) ?_ | refine newrow hw1 4 rfl (Nat.le_refl _) ?_ | refine newrow hw1 5 rfl (Nat.le_refl _) ?_ | refine newrow hw1 6 rfl (Nat.le_refl _) ?_ | refine newrow hw1 7 rfl (Nat.le_refl _) ?_ | refine newrow hw1 8 rfl (Nat.le_refl _) ?_ | refine newrow hw1 9 rfl (Nat.le_refl _) ?_ | refine newrow hw1 10 rfl (Nat.le_refl _) ?_ | refine newrow hw1 11 rfl (Nat.le_refl _) ?_ | refine newrow hw1 12 rfl (Nat.le_refl _) ?_ | refine newrow hw1 13 rfl (Nat.le_refl _) ?_ | refine newrow hw1 14 rfl (Nat.le_refl _) ?_ | refine newrow hw1 15 rfl (Nat.le_refl _) ?_ | refine newrow hw1 16 rfl (Nat.le_refl _) ?_)))) (by omega)) (fun w1 v hw1 => ⟨(), hw1.perm (by repeat (first | exact List.Perm.refl _ | refine (List.Perm.swap _ _ _).trans (List.Perm.cons _ ?_)))⟩)
    · intro L f hc hl hp
      have h2 : L 2 = true := hp ⟨2, .data⟩ (by simp) rfl
      have h5 : L 5 = true := hp ⟨5, .data⟩ (by simp) rfl
      have h7 := closed_no hc (j := 7) rfl ⟨6, .data⟩ (by simp) rfl hl
      have h8 := closed_no hc (j := 8) rfl ⟨7, .data⟩ (by simp) rfl h7
      show OpA _ _ _ _ (lst (L 2) (L 5) (L 6) (L 7) (L 8) (f 2) (f 5) (f 6) (f 7) (f 8)) (fun y => lst (L 2) (L 5) true (L 7) (L 8) (f 2) (f 5) y (f 7) (f 8)) _ _ _
      rw [hl, h2, h5, h7, h8]
      refine OpA.pre (X := ∃ A3 C3 A6 C6, (f 2).1 = .slice A3 (enc N).length C3 ∧ (f 5).1 = .slice A6 (spB k zs).length C6) (fun w1 hw1 => ?_) (fun d h => by cases h; decide) ?_
      · obtain ⟨A3, C3, q3, _⟩ := hw1.rowForm 1 rfl
        obtain ⟨A6, C6, q6, _⟩ := hw1.rowForm 2 rfl
        exact ⟨A3, C3, A6, C6, q3, q6⟩
      · rintro ⟨A3, C3, A6, C6, q3, q6⟩
        refine OpA.swap (dl' := [(5, .ex (f 2).1), (8, .ex (f 5).1)]) (List.forall_mem_cons.2 ⟨rfl, List.forall_mem_cons.2 ⟨rfl, fun _ h => nomatch h⟩⟩) ?_
        generalize f 2 = x3 at *
        generalize f 5 = x6 at *
        obtain ⟨x3, ⟨⟩⟩ := x3
        obtain ⟨x6, ⟨⟩⟩ := x6
        dsimp only at q3 q6
        subst q3
        subst q6
        exact OpA.bsliceR tabOk rfl rfl rfl rfl rfl rfl rfl rfl rfl rfl rfl rfl rfl rfl (fun w1 v hw1 => ⟨(), hw1.perm (by repeat (first | exact List.Perm.refl _ | refine (List.Perm.swap _ _ _).trans (List.Perm.cons _ ?_)))⟩)
    · intro L f hc hl hp
      have h6 : L 6 = true := hp ⟨6, .data⟩ (by simp) rfl
      have h5 : L 5 = true := hp ⟨5, .chain⟩ (by simp) rfl
      have h2 : L 2 = true := hc 6 _ rfl h6 ⟨2, .data⟩ (by simp) rfl
      have h8 := closed_no hc (j := 8) rfl ⟨7, .data⟩ (by simp) rfl hl
      show OpA _ _ _ _ (lst (L 2) (L 5) (L 6) (L 7) (L 8) (f 2) (f 5) (f 6) (f 7) (f 8)) (fun y => lst (L 2) (L 5) (L 6) true (L 8) (f 2) (f 5) (f 6) y (f 8)) _ _ _
      rw [hl, h2, h5, h6, h8]
      refine OpA.callrow rfl Try.call15 (fun w1 vs hw1 h => by
        obtain ⟨u1, _, rfl, e1, rfl⟩ := h
        obtain ⟨A3, C3, q3, r3⟩ := hw1.rowForm 1 rfl
        obtain ⟨A6, C6, q6, r6⟩ := hw1.rowForm 2 rfl
        obtain ⟨A7, C7, q7, r7⟩ := hw1.rowForm 3 rfl
        have e3 : u1 = .slice A7 2 C7 := by first | exact e1.trans q7 | exact e1.symm.trans q7
        rw [e3]
        rw [q3, q6] at r7
        have := join_ok A7 2 C7 [⟨A3, (enc N).length, C3, enc N⟩, ⟨A6, (spB k zs).length, C6, spB k zs⟩] w1 (by decide) (Sl.of_own r7) (fun p hp => by
          simp only [List.mem_cons, List.not_mem_nil, or_false] at hp
          rcases hp with rfl | rfl
          · exact ints_of_own r3 (enc_fits N)
          · exact ints_of_own r6 (spB_fits hw.fits)) (by simp only [cat, List.map_cons, List.map_nil, List.flatten_cons, List.flatten_nil, List.append_nil]; exact hll)
        rw [show cat [⟨A3, (enc N).length, C3, enc N⟩, ⟨A6, (spB k zs).length, C6, spB k zs⟩] = enc N ++ spB k zs by simp [cat]] at this
        exact this) (fun w1 v hw1 => ⟨(), hw1.perm (by repeat (first | exact List.Perm.refl _ | refine (List.Perm.swap _ _ _).trans (List.Perm.cons _ ?_)))⟩)
    · intro L f hc hl hp
      have h7 : L 7 = true := hp ⟨7, .data⟩ (by simp) rfl
      have h6 : L 6 = true := hp ⟨6, .phase⟩ (by simp) rfl
      have h5 : L 5 = true := hp ⟨5, .phase⟩ (by simp) rfl
      have h2 : L 2 = true := hp ⟨2, .phase⟩ (by simp) rfl
      show OpA _ _ _ _ (lst (L 2) (L 5) (L 6) (L 7) (L 8) (f 2) (f 5) (f 6) (f 7) (f 8)) (fun y => lst (L 2) (L 5) (L 6) (L 7) true (f 2) (f 5) (f 6) (f 7) y) _ _ _
      rw [hl, h2, h5, h6, h7]
      exact OpA.known () rfl (D_pure tabOk rfl D_last) (fun w1 hw1 => (hw1.addF rfl).perm (by repeat (first | exact List.Perm.refl _ | refine (List.Perm.swap _ _ _).trans (List.Perm.cons _ ?_))))
  intro L f w1 hL hw1
  change Hp _ _ (lst (L 2) (L 5) (L 6) (L 7) (L 8) (f 2) (f 5) (f 6) (f 7) (f 8)) at hw1
  rw [hL 2 (by decide), hL 5 (by decide), hL 6 (by decide), hL 7 (by decide), hL 8 (by decide)] at hw1
  have e9 : (f 8).1 = (f 7).1 := hw1.fact 5 rfl
  obtain ⟨A2, C2, q2, _⟩ := hw1.rowForm 4 rfl
  rw [q2] at e9
  refine ⟨[(2, (f 8).1)], [R (.slice A2 (enc N ++ spB k zs).length C2) (enc N ++ spB k zs)], (by repeat (first | exact SubD.nil | refine SubD.cons rfl ?_)), ?_, ?_⟩
  · have h9 := hw1.fewer (by repeat (first | exact new_nil | refine new_ro ?_ | refine new_cons (by first | assumption | omega) ?_ | refine newrow hw1 0 rfl (Nat.le_refl _) ?_ | refine newrow hw1 1 rfl (Nat.le_refl _) ?_ | refine newrow hw1 2 rfl (Nat.le_refl _) ?_ | refine newrow hw1 3 rfl (Nat.le_refl _) ?_ | refine newrow hw1 4 rfl (Nat.le_refl _) ?_ | refine newrow hw1 5 rfl (Nat.le_refl _) ?_ | refine newrow hw1 6 rfl (Nat.le_refl _) ?_ | refine newrow hw1 7 rfl (Nat.le_refl _) ?_ | refine newrow hw1 8 rfl (Nat.le_refl _) ?_ | refine newrow hw1 9 rfl (Nat.le_refl _) ?_ | refine newrow hw1 10 rfl (Nat.le_refl _) ?_ | refine newrow hw1 11 rfl (Nat.le_refl _) ?_ | refine newrow hw1 12 rfl (Nat.le_refl _) ?_ | refine newrow hw1 13 rfl (Nat.le_refl _) ?_ | refine newrow hw1 14 rfl (Nat.le_refl _) ?_ | refine newrow hw1 15 rfl (Nat.le_refl _) ?_ | refine newrow hw1 16 rfl (Nat.le_refl _) ?_)) (o' := [R (f 7).1 (enc N ++ spB k zs)]) (by repeat (first | exact List.Sublist.slnil | refine List.Sublist.cons_cons _ ?_ | refine List.Sublist.cons _ ?_))
    rw [q2] at h9
    exact h9
  rw [e9]
  repeat (first | refine T_draw (by kernel_rfl) (by kernel_rfl) ?_ | refine D_all rfl ?_ | refine D_i64 tabOk rfl (by omega) ?_ | refine D_u64 tabOk rfl (by omega) ?_ | refine D_pure tabOk rfl ?_ | refine D_pass rfl rfl rfl ?_ | refine D_load tabOk 0 rfl rfl rfl ?_ | refine D_load tabOk 1 rfl rfl rfl ?_ | refine D_load tabOk 2 rfl rfl rfl ?_ | refine D_load tabOk 3 rfl rfl rfl ?_ | refine D_load tabOk 4 rfl rfl rfl ?_ | refine T_seq ?_ | refine T_region ?_ | refine T_block ?_ | refine S_nil ?_ | refine pthen_normal ?_ | refine inb_normal ?_ | refine inb_ret ?_ | refine pthen_ret ?_ | refine inb_hit ?_ | refine pthen_exit ?_ | refine T_skip ?_ | refine T_ret ?_ | refine T_exit ?_  | refine S_i64 tabOk rfl (by omega) ?_ | refine S_u64 tabOk rfl (by omega) ?_ | refine S_pure tabOk rfl ?_ | refine S_pass rfl rfl rfl ?_ | refine S_pass0 rfl rfl ?_ | refine T_region_any ?_  | refine S_load tabOk 0 rfl rfl rfl ?_ | refine S_load tabOk 1 rfl rfl rfl ?_ | refine S_load tabOk 2 rfl rfl rfl ?_ | refine S_load tabOk 3 rfl rfl rfl ?_ | refine S_load tabOk 4 rfl rfl rfl ?_ | refine S_load tabOk 5 rfl rfl rfl ?_ | refine S_store tabOk 0 rfl rfl rfl rfl rfl rfl ?_ | refine S_store tabOk 1 rfl rfl rfl rfl rfl rfl ?_ | refine S_store tabOk 2 rfl rfl rfl rfl rfl rfl ?_ | refine S_store tabOk 3 rfl rfl rfl rfl rfl rfl ?_ | refine S_store tabOk 4 rfl rfl rfl rfl rfl rfl ?_ | refine S_store tabOk 5 rfl rfl rfl rfl rfl rfl ?_ | refine S_q (Q_build tabOk rfl rfl rfl rfl rfl rfl rfl) ?_ | refine D_q (Q_build tabOk rfl rfl rfl rfl rfl rfl rfl) ?_)
  exact ret1 rfl rfl (fun w' hw => ⟨A2, C2, rfl, hw.below (by repeat (first | exact new_nil | refine new_ro ?_ | refine new_cons (by first | assumption | omega) ?_ | refine newrow hw 0 rfl (Nat.le_refl _) ?_ | refine newrow hw 1 rfl (Nat.le_refl _) ?_ | refine newrow hw 2 rfl (Nat.le_refl _) ?_ | refine newrow hw 3 rfl (Nat.le_refl _) ?_ | refine newrow hw 4 rfl (Nat.le_refl _) ?_ | refine newrow hw 5 rfl (Nat.le_refl _) ?_ | refine newrow hw 6 rfl (Nat.le_refl _) ?_ | refine newrow hw 7 rfl (Nat.le_refl _) ?_ | refine newrow hw 8 rfl (Nat.le_refl _) ?_ | refine newrow hw 9 rfl (Nat.le_refl _) ?_ | refine newrow hw 10 rfl (Nat.le_refl _) ?_ | refine newrow hw 11 rfl (Nat.le_refl _) ?_ | refine newrow hw 12 rfl (Nat.le_refl _) ?_ | refine newrow hw 13 rfl (Nat.le_refl _) ?_ | refine newrow hw 14 rfl (Nat.le_refl _) ?_ | refine newrow hw 15 rfl (Nat.le_refl _) ?_ | refine newrow hw 16 rfl (Nat.le_refl _) ?_)), hw.own _ (getE_mem (i := 0) rfl)⟩)
end Go.Proofs.Ytcnpfempfgljfaa
