/-
  Frames: Decode, the walk. Conditions: each theorem's own.
-/
import Derived.Test.YtnefhhoijonnaaaFrQ
namespace Go.Proofs.Ytnefhhoijonnaaa
open Go Go.RowKit
set_option linter.unusedVariables false

theorem pm7 {α : Type} (a b c d e f : α) : List.Perm [a, b, c, d, e, f] [b, c, a, d, e, f] := by
  have hP : List.Perm ([0, 1, 2, 3, 4, 5] : List Nat) [1, 2, 0, 3, 4, 5] := by decide
  exact hP.map fun i => ([a, b, c, d, e, f][i]?).getD a
theorem openR_bd {zs : List Int} (h : ∀ z ∈ zs, Fits .u8 z) : (∀ z ∈ openR zs, Fits .u8 z) ∧ (openR zs).length ≤ zs.length := by
  unfold openR
  split
  · exact ⟨fun z hz => (by cases hz), Nat.zero_le _⟩
  split
  · exact ⟨fun z hz => h z (List.mem_of_mem_take hz), by rw [List.length_take]; omega⟩
  · exact ⟨fun z hz => (by cases hz), Nat.zero_le _⟩
theorem fsR_zero (w : World) (A : Nat → Prop) : FsR w A ⟨none, 0, 0, none, 0, 0⟩ [] [] := ⟨SlR.nil_, SlR.nil_⟩
theorem formI_ok {k : Int} {l : List Value} {q : Bool} (h : FormI k l q) : q = true ↔ okK k := by
  unfold okK
  cases h with
  | hello => simp
  | welcome => simp
  | batch => simp
  | ack => simp
  | no k h => exact ⟨fun h => (by cases h), fun h1 => (by omega)⟩
open Classical in
set_option maxHeartbeats 4000000 in
theorem decode_ok {a : Option Addr} {n c : Nat} {zs : List Int} (w : World) (hx : Ints .u8 w a n c zs) : Calls Try.prog 25 #[.slice a n c] w fun e w' => ∃ s, e = .returned (.tuple #[frV (decT zs).2.1 s, .int .i64 (decT zs).1]) ∧ Below w.heap.size w w' ∧ FsR w' (fun k => w.heap.size ≤ k) s (decT zs).2.2.1 (decT zs).2.2.2 := by
  have hl := hx.len
  refine enter1 Try.func25 rfl rfl (Hp.refl w) ?_
  repeat (first | refine T_seq ?_ | refine T_region ?_)
  refine S_new tabOk rfl (fun b2 hb2 => ?_)
  repeat (first | refine T_seq ?_ | refine T_region ?_ | refine S_nil ?_ | refine S_pure tabOk rfl ?_)
  refine T_cond_dec rfl (fun h1 => ?_) (fun h1 => ?_)
  · have e : decT zs = (6, zH, [], []) := by unfold decT; rw [if_pos (by omega)]
    rw [e]
    repeat (first | refine T_seq ?_ | refine T_region ?_ | refine S_nil ?_ | refine pthen_ret ?_ | refine T_ret ?_ | refine S_pure tabOk rfl ?_ | refine S_store tabOk 0 rfl rfl rfl rfl rfl rfl ?_ | refine S_q (Q_build tabOk rfl rfl rfl rfl rfl rfl rfl) ?_)
    exact ret2 rfl (ResIs.cellO tabOk 0 rfl rfl rfl rfl) rfl (fun w' hw => ⟨⟨none, 0, 0, none, 0, 0⟩, rfl, hw.below (by repeat (first | exact new_nil | refine new_cons (by first | assumption | omega) ?_)), fsR_zero _ _⟩)
  repeat (first | refine T_seq ?_ | refine T_region ?_ | refine pthen_normal ?_ | refine T_skip ?_ | refine S_pure tabOk rfl ?_)
  refine S_callrow2 (m := (openR zs).length) (xs := (openR zs).map (.int .u8)) (v2 := .int .i64 (openE zs)) (E := 5) (sz := 1) rfl Try.call59 (fun w1 h1 => open_ok a n c zs w1 (ints_ext hx (h1.below (by repeat (first | exact new_nil | refine new_cons (by first | assumption | omega) ?_)))) (by omega)) (fun a1 c1 hc1 hd1 => ?_)
  obtain ⟨all, hall⟩ : ∃ all, all = openR zs := ⟨_, rfl⟩
  have hbd := openR_bd hx.fits
  rw [← hall] at hbd hc1 ⊢
  repeat (first | refine T_seq ?_ | refine T_region ?_ | refine S_nil ?_ | refine S_pure tabOk rfl ?_)
  refine T_cond_dec rfl (fun h2 => ?_) (fun h2 => ?_)
  · have e : decT zs = (openE zs, zH, [], []) := by unfold decT; rw [if_neg (by omega), if_pos h2]
    rw [e]
    repeat (first | refine T_seq ?_ | refine T_region ?_ | refine S_nil ?_ | refine pthen_ret ?_ | refine T_ret ?_ | refine S_pure tabOk rfl ?_ | refine S_store tabOk 1 rfl rfl rfl rfl rfl rfl ?_ | refine S_q (Q_build tabOk rfl rfl rfl rfl rfl rfl rfl) ?_)
    exact ret2 rfl (ResIs.cellO tabOk 1 rfl rfl rfl rfl) rfl (fun w' hw => ⟨⟨none, 0, 0, none, 0, 0⟩, rfl, hw.below (by repeat (first | exact new_nil | refine new_cons (by first | assumption | omega) ?_ | refine newrow hw 0 rfl (Nat.le_refl _) ?_)), fsR_zero _ _⟩)
  have h2' : openE zs = 0 := Decidable.not_not.1 h2
  repeat (first | refine T_seq ?_ | refine T_region ?_ | refine pthen_normal ?_ | refine T_skip ?_ | refine S_pure tabOk rfl ?_)
  refine S_callof rfl Try.call60 (fun w1 h1 => of_ok a1 all.length c1 all w1 (ints_of_own (h1.own _ (getE_mem (i := 0) rfl)) hbd.1) (by omega)) (fun b A C hb => ?_)
  obtain ⟨N, hN⟩ : ∃ N, N = all.length := ⟨_, rfl⟩
  rw [← hN]
  have hIn : ∀ {w0 w : World} {o : OL} {base : Nat}, Hp w0 w o → ∀ i, getE o i = some (.row base (.slice A N C) 5 1 N (all.map (.int .u8))) → Ints .u8 w A N C all := fun h i hi => ints_of_own (h.own _ (getE_mem hi)) hbd.1
  have hNN : N ≤ 1073741824 := by omega
  have hNb : ∀ k, FB b k → w.heap.size ≤ k := fun k hk => by rw [show k = b from hk]; exact hb
  refine S_kn (p := (∀ b' off, A = some ⟨b', off, none⟩ → b' ≠ b) ∧ Suf A N C 0 A N C) (fun w1 h1 => ⟨h1.dis 0 1 rfl rfl, Suf.refl (hIn h1 1 rfl)⟩) (fun ⟨hap, hsuf⟩ => ?_)
  refine S_heap (fun w' h => h.inAt (s := (0, 0)) 0 rfl hsuf rfl) ?_
  repeat (first | refine T_seq ?_ | refine T_region ?_ | refine S_nil ?_ | refine S_pure tabOk rfl ?_)
  refine S_tin 0 rfl Try.call61 rfl (fun w1 h1 h => byte_t h (hIn h1 1 rfl) hap hNN) rfl ?_
  repeat (first | refine S_q (Q_build tabOk rfl rfl rfl rfl rfl rfl rfl) ?_)
  refine S_new tabOk rfl (fun bf hbf => ?_)
  repeat (first | refine T_seq ?_ | refine T_region ?_ | refine S_nil ?_ | refine S_pure tabOk rfl ?_ | refine S_load tabOk 0 rfl rfl rfl ?_ | refine S_store tabOk 0 rfl rfl rfl rfl rfl rfl ?_)
  obtain ⟨l, q, hfo⟩ := formI_ex (headD all).1.kd
  refine S_callq rfl Try.call46 (fun w1 h1 => forms_ok hfo w1) ?_
  repeat (first | refine S_pure tabOk rfl ?_)
  have hqk := formI_ok hfo
  cases q with
  | false =>
    obtain rfl : l = noL := by
      generalize (headD all).1.kd = kd at hfo
      cases hfo with
      | no k hk => rfl
    have e : decT zs = (2, zH, [], []) := by
      unfold decT
      rw [if_neg (by omega), if_neg h2, ← hall, if_pos (fun h => by have := hqk.2 h; cases this)]
    rw [e]
    refine S_new tabOk rfl (fun b8 hb8 => ?_)
    repeat (first | refine T_seq ?_ | refine T_region ?_ | refine S_nil ?_ | refine S_pure tabOk rfl ?_ | refine S_store tabOk 0 rfl rfl rfl rfl rfl rfl ?_)
    refine T_cond_t rfl ?_
    repeat (first | refine T_seq ?_ | refine T_region ?_ | refine S_nil ?_ | refine pthen_ret ?_ | refine T_ret ?_ | refine S_pure tabOk rfl ?_ | refine S_store tabOk 5 rfl rfl rfl rfl rfl rfl ?_ | refine S_q (Q_build tabOk rfl rfl rfl rfl rfl rfl rfl) ?_)
    exact ret2 rfl (ResIs.cellO tabOk 5 rfl rfl rfl rfl) rfl (fun w' hw => ⟨⟨none, 0, 0, none, 0, 0⟩, rfl, hw.below (by repeat (first | exact new_nil | refine new_rx (by assumption) ?_ | refine new_cons (by first | assumption | omega) ?_ | refine newrow hw 3 rfl (Nat.le_refl _) ?_ | refine newrow hw 4 rfl (Nat.le_refl _) ?_)), fsR_zero _ _⟩)
  | true =>
    have hok := hqk.1 rfl
    have hkf := headD_fit hbd.1
    obtain ⟨u1, g1, g2, g3, rfl, hg3, hget⟩ := form_get hfo
    refine S_new tabOk rfl (fun b8 hb8 => ?_)
    repeat (first | refine T_seq ?_ | refine T_region ?_ | refine S_nil ?_ | refine S_pure tabOk rfl ?_ | refine S_store tabOk 0 rfl rfl rfl rfl rfl rfl ?_)
    refine T_cond_f rfl ?_
    repeat (first | refine T_seq ?_ | refine T_region ?_ | refine pthen_normal ?_ | refine T_skip ?_ | refine S_pure tabOk rfl ?_)
    refine S_tin 2 rfl Try.call62 rfl (fun w1 h1 h => fewIn_t (by decide) h (hIn h1 3 rfl) hap hNN) rfl ?_
    repeat (first | refine T_seq ?_ | refine T_region ?_ | refine S_nil ?_ | refine S_pure tabOk rfl ?_ | refine S_store tabOk 1 rfl rfl rfl rfl rfl rfl ?_)
    refine S_tin 2 rfl Try.call63 rfl (fun w1 h1 h => num_t h (hIn h1 3 rfl) hap hNN) rfl ?_
    repeat (first | refine T_seq ?_ | refine T_region ?_ | refine S_nil ?_ | refine S_pure tabOk rfl ?_ | refine S_load tabOk 0 rfl rfl rfl ?_ | refine S_store tabOk 1 rfl rfl rfl rfl rfl rfl ?_)
    refine S_callv rfl rfl rfl hg3 (fun w1 h1 => ?_)
    rw [Array.append_empty]
    refine (hget (q := (headD all).2) ⟨h1.own _ (getE_mem (i := 1) rfl), (h1.own _ (getE_mem (i := 2) rfl)).1, hIn h1 3 rfl, h1.disI 1 2 rfl rfl, hap, h1.dis 1 3 rfl rfl, hNN⟩).mono fun e w2 ⟨s, css, G, e1, hG, hsr, hsi, h5⟩ => ?_
    have hw3 := h1.perm (pm7 ..)
    have hw4 := Hp.graftG (A := [.blk bf (fO (headD all).1 ⟨none, 0, 0, none, 0, 0⟩) true, inE b A N C (headD all).2]) hw3 h5 (fun e he => by
      simp only [List.mem_cons, List.not_mem_nil, or_false] at he
      rcases he with rfl | rfl <;> rfl) (fun e he => by
      simp only [List.mem_cons, List.not_mem_nil, or_false] at he
      rcases he with rfl | rfl | rfl | rfl | rfl
      · exact ⟨rfl, fun k hk => .inl ⟨_, List.mem_cons_self, hk⟩⟩
      · exact ⟨rfl, fun k hk => .inl ⟨_, List.mem_cons_of_mem _ List.mem_cons_self, hk⟩⟩
      · exact ⟨rfl, fun k hk => .inr (World.ownsRow.lt (h5.own _ (getE_mem (i := 2) rfl)) k hk).1⟩
      · exact ⟨rfl, fun k hk => .inr (World.ownsRow.lt (h5.own _ (getE_mem (i := 3) rfl)) k hk).1⟩
      · exact ⟨rfl, fun k hk => .inr (hG k hk)⟩) (fun e he k hk => by
      simp only [List.mem_cons, List.not_mem_nil, or_false] at he
      rcases he with rfl | rfl
      · exact .inr ⟨_, List.mem_cons_self, hk⟩
      · exact .inr ⟨_, List.mem_cons_of_mem _ List.mem_cons_self, hk⟩)
    have hw5 := Hp.reb (pre := [_, _]) (b' := w.heap.size) hw4 h1.size
    have hw6 := Hp.reb (pre := [_, _, _]) (b' := w.heap.size) hw5 h1.size
    have hGw : ∀ k, G k → w.heap.size ≤ k := fun k hk => Nat.le_trans h1.size (hG k hk)
    refine ⟨_, _, e1, hw6, ?_⟩
    clear hw3 hw4 hw5 hw6 h5 hG
    obtain ⟨d, hd⟩ : ∃ d, d = innD all := ⟨_, rfl⟩
    have hdd : partD all (headD all).1 (headD all).2 = d := by rw [hd]; rfl
    rw [hdd] at hsr hsi ⊢
    have hdf : d.H.Fit := by rw [hd]; exact innD_fit hbd.1
    have hdr : ∀ r ∈ d.rs, okR r := by
      rw [hd]
      unfold innD partD
      split
      · exact fun r hr => by cases hr
      split
      · exact fun r hr => by cases hr
      · exact pR_okR hbd.1 _ _
    have hsl : s.rn ≤ 1000 := by
      rw [hsr, hd]
      have h3 := pF_bd hbd.1 (most := 32) (by decide) (p3 all (headD all).2)
      unfold innD partD
      split
      · exact Nat.zero_le _
      split
      · exact Nat.zero_le _
      · dsimp only
        rw [pR_len]
        omega
    repeat (first | refine T_seq ?_ | refine T_region ?_ | refine S_nil ?_ | refine S_pure tabOk rfl ?_)
    have hee : enE d.q.1 (all.length - d.q.2) = endD all := by rw [hd]; rfl
    refine S_tin 1 rfl Try.call64 rfl (fun w1 h1 h => end_t h (hIn h1 6 rfl)) rfl ?_
    rw [hee]
    have hok' : okK (headD (openR zs)).1.kd := by rw [← hall]; exact hok
    repeat (first | refine T_seq ?_ | refine T_region ?_ | refine S_nil ?_ | refine S_pure tabOk rfl ?_)
    refine T_cond_dec rfl (fun h6 => ?_) (fun h6 => ?_)
    · have e : decT zs = (endD all, zH, [], []) := by
        unfold decT
        rw [if_neg (by omega), if_neg h2, if_neg (fun h => h hok'), ← hall, if_pos h6]
      rw [e]
      repeat (first | refine T_seq ?_ | refine T_region ?_ | refine S_pure tabOk rfl ?_ | refine S_q (Q_build tabOk rfl rfl rfl rfl rfl rfl rfl) ?_)
      refine S_store tabOk 8 rfl rfl rfl rfl rfl rfl ?_
      repeat (first | refine S_nil ?_ | refine pthen_ret ?_ | refine T_ret ?_ | refine S_pure tabOk rfl ?_)
      exact ret2 rfl (ResIs.cellO tabOk 8 rfl rfl rfl rfl) rfl (fun w' hw => ⟨⟨none, 0, 0, none, 0, 0⟩, rfl, hw.below (by repeat (first | exact new_nil | refine new_rx (by assumption) ?_ | refine new_cons (by first | assumption | omega) ?_ | refine newrow hw 2 rfl (Nat.le_refl _) ?_ | refine newrow hw 3 rfl (Nat.le_refl _) ?_ | refine newrow hw 6 rfl (Nat.le_refl _) ?_ | refine newrow hw 7 rfl (Nat.le_refl _) ?_)), fsR_zero _ _⟩)
    · have hFs : ∀ {w' : World} {x0 x1 x5 x6 x7 x8 : HE}, Hp w w' [x0, x1, .row w.heap.size (.slice s.ra s.rn s.rc) 102 2 s.rn (cellsR d.rs), .row w.heap.size (.slice s.ia s.im s.ic) 54 3 s.im css.flatten, bodE css d.its G, x5, x6, x7, x8] → FsR w' (fun k => w.heap.size ≤ k) s d.rs d.its := fun h => ⟨.of_row flat_run (h.own _ (getE_mem (i := 2) rfl)) hsr.symm hdr fun k hk _ => hk, Bod.slr (Vp.mono _ (h.own _ (getE_mem (i := 4) rfl)).1 hGw) (h.own _ (getE_mem (i := 3) rfl)) hsi.symm fun k hk _ => hk⟩
      repeat (first | refine T_seq ?_ | refine T_region ?_ | refine pthen_normal ?_ | refine T_skip ?_ | refine S_load tabOk 0 rfl rfl rfl ?_)
      by_cases hR : frR d.H d.rs d.its
      · refine S_callq (v := .bool true) rfl Try.call16 (fun w1 h1 => (right_ok d.H s hdf _ d.rs d.its w1 (hFs h1) (by omega)).mono fun e w' ⟨e1, e2⟩ => ⟨by rw [e1]; exact retb (decide_eq_true hR), e2⟩) ?_
        have e : decT zs = (0, d.H, d.rs, d.its) := by
          unfold decT
          rw [if_neg (by omega), if_neg h2, if_neg (fun h => h hok'), ← hall, if_neg h6, ← hd, if_neg (fun h => h hR)]
        rw [e]
        repeat (first | refine S_nil ?_ | refine S_pure tabOk rfl ?_)
        refine T_cond_f rfl ?_
        repeat (first | refine T_seq ?_ | refine T_region ?_ | refine pthen_normal ?_ | refine T_skip ?_ | refine S_load tabOk 0 rfl rfl rfl ?_)
        refine S_store tabOk 8 rfl rfl rfl rfl rfl rfl ?_
        repeat (first | refine S_nil ?_ | refine T_ret ?_ | refine S_pure tabOk rfl ?_)
        exact ret2 rfl (ResIs.cellO tabOk 8 rfl rfl rfl rfl) rfl (fun w' hw => ⟨s, rfl, hw.below (by repeat (first | exact new_nil | refine new_rx (by assumption) ?_ | refine new_cons (by first | assumption | omega) ?_ | refine newrow hw 2 rfl (Nat.le_refl _) ?_ | refine newrow hw 3 rfl (Nat.le_refl _) ?_ | refine newrow hw 6 rfl (Nat.le_refl _) ?_ | refine newrow hw 7 rfl (Nat.le_refl _) ?_)), hFs hw⟩)
      · refine S_callq (v := .bool false) rfl Try.call16 (fun w1 h1 => (right_ok d.H s hdf _ d.rs d.its w1 (hFs h1) (by omega)).mono fun e w' ⟨e1, e2⟩ => ⟨by rw [e1]; exact retb (decide_eq_false hR), e2⟩) ?_
        have e : decT zs = (1, zH, [], []) := by
          unfold decT
          rw [if_neg (by omega), if_neg h2, if_neg (fun h => h hok'), ← hall, if_neg h6, ← hd, if_pos hR]
        rw [e]
        repeat (first | refine S_nil ?_ | refine S_pure tabOk rfl ?_)
        refine T_cond_t rfl ?_
        repeat (first | refine T_seq ?_ | refine T_region ?_ | refine S_q (Q_build tabOk rfl rfl rfl rfl rfl rfl rfl) ?_)
        refine S_store tabOk 8 rfl rfl rfl rfl rfl rfl ?_
        repeat (first | refine S_nil ?_ | refine pthen_ret ?_ | refine T_ret ?_ | refine S_pure tabOk rfl ?_)
        exact ret2 rfl (ResIs.cellO tabOk 8 rfl rfl rfl rfl) rfl (fun w' hw => ⟨⟨none, 0, 0, none, 0, 0⟩, rfl, hw.below (by repeat (first | exact new_nil | refine new_rx (by assumption) ?_ | refine new_cons (by first | assumption | omega) ?_ | refine newrow hw 2 rfl (Nat.le_refl _) ?_ | refine newrow hw 3 rfl (Nat.le_refl _) ?_ | refine newrow hw 6 rfl (Nat.le_refl _) ?_ | refine newrow hw 7 rfl (Nat.le_refl _) ?_)), fsR_zero _ _⟩)
end Go.Proofs.Ytnefhhoijonnaaa
