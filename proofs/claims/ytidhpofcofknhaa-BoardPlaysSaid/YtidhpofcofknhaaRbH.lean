/-
  The document's board beside a board: steps; the law's like. Conditions: each theorem's own.
-/
import Derived.Test.YtidhpofcofknhaaRbG
namespace Go.Proofs.Ytidhpofcofknhaa
open Go Go.RowKit
set_option linter.unusedVariables false

/-- runs that are apart from an object -/
def RArg (w : World) (F : Nat → Prop) (a : Option Addr) (n c : Nat) (rl : List Run) : Prop := ∃ A0 : Nat → Prop, SlR Rrun w A0 a n c rl ∧ ∀ k, A0 k → ¬ F k
section
variable {n : Nat} {w0 : World} {all : Array Oper} {os : List Oper} {o : Oper} {l : FL} {ol : OL} {K : FL → OL → Prop} {Q : Post} {d xb : Nat} {f m last : Int} {gs : List BG} {F : Nat → Prop}
theorem S_rbsend (i : Nat) {a : Option Addr} {ln c : Nat} {now : Int} {L : List Int} (hs : callAt? n all (look l) o = some (d, 10, [bptr xb, .int .i64 now, .slice a ln c])) (hi : getE ol i = some (.rep (fun w => (rbA xb f m gs last).at_ w F (.bool true)) F true)) (hN : ∀ k, F k → w0.heap.size ≤ k)
    (hl : ∀ w, Hp w0 w ol → Arg w F a ln c L) (hnow : 0 ≤ now ∧ now ≤ 1152921504606846976) (hln : L.length + (bNums gs).length ≤ 60000) (hcn : gs.length < 60000) (hla : last + 1 ≤ 1099511627776)
    (k : ∀ F' : Nat → Prop, (∀ k, F' k → w0.heap.size ≤ k) → ∃ ol', putE ol i (.rep (fun w => (rbA xb f m (bSend f m gs last now L).1 (bSend f m gs last now L).2.1).at_ w F' (.bool true)) F' true) = some ol' ∧ S Try.prog n w0 all os ((d, .int .u64 (bSend f m gs last now L).2.2) :: l) ol' K Q) : S Try.prog n w0 all (o :: os) l ol K Q :=
  S_callT i hs Try.call10 hi fun w g => by
    obtain ⟨A0, h1, h2⟩ := hl w g
    exact (rb_send (g.own _ (getE_mem hi)).1 (g.own _ (getE_mem hi)).2.2 h1 h2 hnow hln hcn hla).mono fun e w' ⟨he, F', g1, g2, g3⟩ => by
      obtain ⟨ol', e1, e2⟩ := k F' fun j hj => (g2 j hj).elim (hN j) (Nat.le_trans g.size)
      exact ⟨_, _, F', he, g3, g1, g2, ol', e1, e2⟩
theorem S_rbtake (i : Nat) {a : Option Addr} {ln c : Nat} {rl : List Run} {s : Int → Bool} (hs : callAt? n all (look l) o = some (d, 14, [bptr xb, .slice a ln c])) (hi : getE ol i = some (.rep (fun w => (rbA xb f m gs last).at_ w F (.bool true)) F true)) (hN : ∀ k, F k → w0.heap.size ≤ k)
    (hl : ∀ w, Hp w0 w ol → RArg w F a ln c rl) (hln : ln ≤ 1000000) (hsr : ∀ x, s x = true ↔ Mem rl x)
    (k : ∀ A C (F' : Nat → Prop), (∀ k, F' k → w0.heap.size ≤ k) → ∃ ol', putE ol i (.rep (fun w => (rbA xb f m (rmB gs s) last).at_ w F' (.bool true)) F' true) = some ol' ∧ S Try.prog n w0 all os ((d, .slice A (sortU ((bNums gs).filter s)).length C) :: l) (.row w0.heap.size (.slice A (sortU ((bNums gs).filter s)).length C) 34 1 (sortU ((bNums gs).filter s)).length (u64s (sortU ((bNums gs).filter s))) :: ol') K Q) : S Try.prog n w0 all (o :: os) l ol K Q :=
  S_callTR i hs Try.call14 hi fun w g => by
    obtain ⟨A0, h1, h2⟩ := hl w g
    exact (rb_take (g.own _ (getE_mem hi)).1 (g.own _ (getE_mem hi)).2.2 h1 h2 hln hsr).mono fun e w' ⟨A, C, he, F', g1, g2, g3⟩ => by
      obtain ⟨ol', e1, e2⟩ := k A C F' fun j hj => (g2 j hj).elim (hN j) (Nat.le_trans g.size)
      exact ⟨_, _, F', _, _, _, _, _, he, g3, g1, g2, ol', e1, e2⟩
theorem S_rbdue (i : Nat) {now : Int} (hs : callAt? n all (look l) o = some (d, 17, [bptr xb, .int .i64 now])) (hi : getE ol i = some (.rep (fun w => (rbA xb f m gs last).at_ w F (.bool true)) F true)) (hN : ∀ k, F k → w0.heap.size ≤ k) (hnow : 0 ≤ now ∧ now ≤ 1152921504606846976) (htr : ∀ g ∈ gs, g.tries < 1099511627776)
    (k : ∀ a ln c xs (Fv F' : Nat → Prop), (∀ k, Fv k → w0.heap.size ≤ k) → (∀ k, F' k → w0.heap.size ≤ k) → (dueL gs now).length = ln ∧ xs.length = ln → ∃ ol', putE ol i (.rep (fun w => (rbA xb f m (dueG f m now gs) last).at_ w F' (.bool true)) F' true) = some ol' ∧ S Try.prog n w0 all os ((d, .slice a ln c) :: l) (.rep (fun w => (LLx a ln c xs (dueL gs now)).at_ w Fv (.bool true)) Fv false :: ol') K Q) : S Try.prog n w0 all (o :: os) l ol K Q :=
  S_call hs Try.call17 fun w g => (rb_due (g.own _ (getE_mem hi)).1 (g.own _ (getE_mem hi)).2.2 hnow htr).mono fun e w' ⟨v, Fv, he, hv, F', g1, g2, g3⟩ => by
    obtain ⟨a, ln, c, xs, rfl, hx⟩ := toLL (g3.own _ (getE_mem (i := 0) rfl)).1
    have g4 := g3.mapI 0 rfl (Ψ := fun w => (LLx a ln c xs (dueL gs now)).at_ w Fv (.bool true)) (fun _ => hx) (Vp.loc (p := LLx _ _ _ _ _)) rfl
    obtain ⟨ol', e1, e2⟩ := k a ln c xs Fv F' (fun j hj => Nat.le_trans g.size (hv j hj)) (fun j hj => (g2 j hj).elim (hN j) (Nat.le_trans g.size)) (LLx.len hx)
    exact ⟨_, _, he, g.graftTV i hi g4 hv g1 g2 e1, e2⟩
end
/-- as it is read -/
theorem rb_rd {xb : Nat} {f m last : Int} {gs : List BG} {w : World} {F : Nat → Prop} {v : Value} (h : (rbA xb f m gs last).at_ w F v) : BOk last gs ∧ BNe gs ∧ ∃ a c, (rbR xb f m last gs a c).at_ w TT (.bool true) := by
  obtain ⟨K, a, c, G, ⟨rfl, hp, hok, hne⟩, hst, hcov⟩ := rb_open h
  exact ⟨hok, hne, a, c, rb_read (hst.own _ (getE_mem (i := 0) rfl)) (hst.own _ (getE_mem (i := 1) rfl)) (hst.own _ (getE_mem (i := 2) rfl)).1 hok⟩
theorem sortU_len_nd {l : List Int} (h : l.Nodup) : (sortU l).length = l.length := Nat.le_antisymm sortU_len (nodup_sub_len h fun x hx => sortU_mem.2 hx)
/-- the least time -/
def atN (gs : List BG) : Int := match bAl gs with
  | [] => 0
  | p :: _ => p.2
theorem dNext_at {last : Int} {gs : List BG} (hok : BOk last gs) : dNext (bAl gs) = .tuple #[.int .i64 (atN gs), .bool (decide (0 < (gs.length : Int)))] := by
  have hl := bAl_len gs
  unfold atN dNext
  cases hb : bAl gs with
  | nil =>
    rw [hb] at hl
    have : gs.length = 0 := hl.symm
    rw [decide_eq_false (by omega)]
  | cons p r =>
    rw [hb] at hl
    rw [decide_eq_true (by rw [← hl]; show 0 < ((r.length + 1 : Nat) : Int); omega)]
theorem atN_least {last : Int} {gs : List BG} (hok : BOk last gs) {t : Int} (h0 : gs = [] → t = 0) (h1 : gs ≠ [] → (∃ g ∈ gs, g.tm = t) ∧ ∀ g ∈ gs, t ≤ g.tm) : t = atN gs := by
  have hs := bAl_srt hok.idn
  have hm : ∀ x, x ∈ bAl gs ↔ ∃ g ∈ gs, bT g = x := fun x => bAl_mem
  have hl := bAl_len gs
  unfold atN
  cases hb : bAl gs with
  | nil =>
    rw [hb] at hl
    exact h0 (List.length_eq_zero_iff.1 hl.symm)
  | cons p r =>
    rw [hb] at hs hl hm
    have hne : gs ≠ [] := fun e => by rw [e] at hl; cases hl
    obtain ⟨⟨g, hg, hgt⟩, h3⟩ := h1 hne
    obtain ⟨y, hy, hyp⟩ := (hm p).1 List.mem_cons_self
    have h4 := h3 y hy
    have h5 := (hm (bT g)).2 ⟨g, hg, rfl⟩
    have h6 : p.2 ≤ g.tm := by
      rcases List.mem_cons.1 h5 with h5 | h5
      · rw [← h5]; exact Int.le_refl _
      · have := (List.pairwise_cons.1 hs).1 _ h5
        unfold dBef at this
        dsimp only at this
        omega
    have h7 : y.tm = p.2 := by rw [← hyp]
    show t = p.2
    omega
set_option maxHeartbeats 8000000 in
theorem like13_ok {bb xb : Nat} {f m last : Int} {gs : List BG} {w : World} {A1 A2 : Nat → Prop} {v1 v2 : Value} (hb : (boA bb f m gs last).at_ w A1 v1) (hx : (rbA xb f m gs last).at_ w A2 v2) : Calls Try.prog 18 #[bptr bb, bptr xb] w fun e w' => e = .returned (.bool true) ∧ Below w.heap.size w w' := by
  obtain ⟨hok, hne, a, c, hR⟩ := rb_rd hx
  have hcnt := hok.cnt
  have hlen := hok.len
  have hsl := sortU_len_nd hok.nd
  refine enter2 Try.func18 rfl rfl (Hp.refl w) ?_
  repeat (first | refine T_seq ?_ | refine T_region ?_ | refine S_nil ?_ | refine S_pure tabOk rfl ?_)
  refine S_callrow rfl Try.call51 (fun w1 h1 => rall13_ok ((rbR xb f m last gs a c).ext hR (h1.below (by repeat (first | exact new_nil)))) hok) (fun a1 c1 hc1 hd1 => ?_)
  obtain ⟨U, hU⟩ : ∃ U, U = sortU (bNums gs) := ⟨_, rfl⟩
  rw [← hU] at hsl hc1 ⊢
  have hUm : ∀ x, x ∈ U ↔ x ∈ bNums gs := fun x => by rw [hU, sortU_mem]
  have hUf : ∀ x ∈ U, Fits .u64 x := fun x hx => hok.nfit ((hUm x).1 hx)
  repeat (first | refine T_seq ?_ | refine T_region ?_ | refine S_nil ?_ | refine S_pure tabOk rfl ?_)
  refine S_callq (v := .tuple #[.int .i64 (atN gs), .bool (decide (0 < (gs.length : Int)))]) rfl Try.call33 (fun w1 h1 => by
    rw [← dNext_at hok]
    exact bo_next ((boA bb f m gs last).ext hb (h1.below (by repeat (first | exact new_nil | refine newrow h1 0 rfl (Nat.le_refl _) ?_))))) ?_
  repeat (first | refine T_seq ?_ | refine T_region ?_ | refine S_nil ?_ | refine S_pure tabOk rfl ?_)
  refine S_load1 tabOk (v := .slice a gs.length c) rfl rfl (fun w' hw => rbR.cell hR (hw.below (by repeat (first | exact new_nil | refine newrow hw 0 rfl (Nat.le_refl _) ?_))) (j := 2) rfl) ?_
  repeat (first | refine S_nil ?_ | refine S_pure tabOk rfl ?_)
  refine T_cut (ι := Unit) (fun _ => True) (fun _ => [(0, bptr bb), (1, bptr xb), (5, .slice a1 U.length c1), (6, .int .i64 (atN gs)), (7, .bool (decide (0 < (gs.length : Int)))), (8, .int .i64 (atN gs))]) (fun _ => [.row w.heap.size (.slice a1 U.length c1) 34 1 U.length (u64s U)]) ?_ ?_
  · refine T_block ?_
    refine T_loop (ι := Nat × Int) (fun q => [(0, bptr bb), (1, bptr xb), (5, .slice a1 U.length c1), (6, .int .i64 (atN gs)), (7, .bool (decide (0 < (gs.length : Int)))), (8, .int .i64 q.2), (23, .slice a gs.length c), (24, .int .i64 (gs.length : Int)), (25, .int .i64 (q.1 : Int))]) (fun _ => [.row w.heap.size (.slice a1 U.length c1) 34 1 U.length (u64s U)])
      (fun q => q.1 ≤ gs.length ∧ (q.1 = 0 → q.2 = 0) ∧ (q.1 ≠ 0 → (∃ g ∈ gs.take q.1, g.tm = q.2) ∧ ∀ g ∈ gs.take q.1, q.2 ≤ g.tm)) (fun q => gs.length - q.1) (0, 0) ⟨Nat.zero_le _, fun _ => rfl, fun h => absurd rfl h⟩ (by repeat (first | exact Sub.nil | refine Sub.cons rfl ?_)) (fun w' hw => hw) ?_
    rintro ⟨i, t⟩ ⟨hi, ht0, ht1⟩
    dsimp only at hi ht0 ht1 ⊢
    repeat (first | refine T_seq ?_ | refine T_region ?_ | refine S_nil ?_ | refine S_pure tabOk rfl ?_)
    refine T_cond_dec rfl (fun hlt => ?_) (fun hge => ?_)
    rotate_left
    · have hie : i = gs.length := by omega
      subst hie
      rw [List.take_length] at ht1
      obtain rfl := atN_least hok (fun e => ht0 (by rw [e]; rfl)) (fun e => ht1 (fun h => e (List.length_eq_zero_iff.1 h)))
      repeat (first | refine pthen_normal ?_ | refine inb_hit ?_ | refine pthen_exit ?_ | refine T_exit ?_)
      exact ⟨(), trivial, by repeat (first | exact Sub.nil | refine Sub.cons rfl ?_), fun w' hw => hw⟩
    obtain ⟨g, hg⟩ : ∃ g, gs[i]? = some g := ⟨_, List.getElem?_eq_getElem (by omega)⟩
    have htk : gs.take (i + 1) = gs.take i ++ [g] := by rw [List.take_add_one, hg]; rfl
    obtain ⟨ab, off, xa, xc, rfl, hz, hce⟩ := grp_at hR.2 hg
    repeat (first | refine T_seq ?_ | refine T_region ?_ | refine T_block ?_ | refine pthen_normal ?_ | refine T_skip ?_ | refine S_pure tabOk rfl ?_)
    refine S_q (Q_idx (sz := 4) tabOk rfl rfl rfl rfl rfl rfl rfl (j := i) rfl (by omega)) ?_
    refine S_loadN tabOk (vs := [.int .u64 g.id, .slice xa g.L.length xc, .int .i64 g.tm, .int .i64 g.tries]) rfl rfl rfl (fun w' hw jj u hu => by
      rw [Addr.add_lit]
      exact hce w' (hw.below (by repeat (first | exact new_nil | refine newrow hw 0 rfl (Nat.le_refl _) ?_))) jj u hu) ?_
    refine S_new tabOk rfl (fun b10 hb10 => ?_)
    repeat (first | refine T_seq ?_ | refine T_region ?_ | refine S_nil ?_ | refine S_pure tabOk rfl ?_ | refine S_store tabOk 0 rfl rfl rfl rfl rfl rfl ?_)
    have hlow : ∀ t', t' ≤ g.tm → (∀ x ∈ gs.take i, t' ≤ x.tm) → ∀ x ∈ gs.take (i + 1), t' ≤ x.tm := fun t' h1 h2 x hx => by
      rw [htk, List.mem_append, List.mem_singleton] at hx
      rcases hx with hx | rfl
      · exact h2 x hx
      · exact h1
    have hin : ∀ x, x ∈ gs.take i ∨ x = g → x ∈ gs.take (i + 1) := fun x hx => by
      rw [htk, List.mem_append, List.mem_singleton]
      exact hx
    by_cases h0 : i = 0
    · refine S_re 32 (v' := .bool true) rfl (congrArg Value.bool (decide_eq_true (by omega))) ?_
      repeat (first | refine S_nil ?_ | refine S_pure tabOk rfl ?_ | refine S_pass rfl rfl rfl ?_)
      refine T_cond_t rfl ?_
      repeat (first | refine T_region ?_ | refine S_nil ?_ | refine pthen_normal ?_ | refine inb_normal ?_ | refine S_i64 tabOk rfl (by omega) ?_ | refine S_pure tabOk rfl ?_ | refine T_region_any ?_ | refine S_load tabOk 0 rfl rfl rfl ?_)
      exact ⟨(i + 1, g.tm), ⟨by show i + 1 ≤ gs.length; omega, fun h => absurd h (Nat.succ_ne_zero _), fun _ => ⟨⟨g, hin g (.inr rfl), rfl⟩, hlow g.tm (Int.le_refl _) (by subst h0; simp)⟩⟩, by repeat (first | exact Sub.nil | refine Sub.cons rfl ?_), fun w' hw => hw.less (by repeat (first | exact Less.nil | refine Less.keep ?_ | refine Less.dropB (by first | assumption | omega) ?_)), by show gs.length - (i + 1) < gs.length - i; omega⟩
    · obtain ⟨⟨y, hy, hyt⟩, hlo⟩ := ht1 h0
      refine S_re 32 (v' := .bool false) rfl (congrArg Value.bool (decide_eq_false (by omega))) ?_
      repeat (first | refine S_nil ?_ | refine S_pure tabOk rfl ?_ | refine S_load tabOk 0 rfl rfl rfl ?_)
      refine T_cond_dec rfl (fun hl => ?_) (fun hl => ?_)
      · repeat (first | refine T_region ?_ | refine S_nil ?_ | refine pthen_normal ?_ | refine inb_normal ?_ | refine S_i64 tabOk rfl (by omega) ?_ | refine S_pure tabOk rfl ?_ | refine T_region_any ?_ | refine S_load tabOk 0 rfl rfl rfl ?_)
        exact ⟨(i + 1, g.tm), ⟨by show i + 1 ≤ gs.length; omega, fun h => absurd h (Nat.succ_ne_zero _), fun _ => ⟨⟨g, hin g (.inr rfl), rfl⟩, hlow g.tm (Int.le_refl _) fun x hx => by have := hlo x hx; omega⟩⟩, by repeat (first | exact Sub.nil | refine Sub.cons rfl ?_), fun w' hw => hw.less (by repeat (first | exact Less.nil | refine Less.keep ?_ | refine Less.dropB (by first | assumption | omega) ?_)), by show gs.length - (i + 1) < gs.length - i; omega⟩
      · repeat (first | refine T_region ?_ | refine S_nil ?_ | refine pthen_normal ?_ | refine inb_normal ?_ | refine T_skip ?_ | refine S_i64 tabOk rfl (by omega) ?_ | refine S_pure tabOk rfl ?_)
        exact ⟨(i + 1, t), ⟨by show i + 1 ≤ gs.length; omega, fun h => absurd h (Nat.succ_ne_zero _), fun _ => ⟨⟨y, hin y (.inl hy), hyt⟩, hlow t (by omega) hlo⟩⟩, by repeat (first | exact Sub.nil | refine Sub.cons rfl ?_), fun w' hw => hw.less (by repeat (first | exact Less.nil | refine Less.keep ?_ | refine Less.dropB (by first | assumption | omega) ?_)), by show gs.length - (i + 1) < gs.length - i; omega⟩
  intro _ _
  repeat (first | refine T_seq ?_ | refine T_region ?_ | refine S_pure tabOk rfl ?_)
  refine S_callR (setP (· ∈ bNums gs) (bNums gs).length) (fun _ => False) rfl Try.call53 (fun w1 g1 => (bo_flight ((boA bb f m gs last).ext hb (g1.below (by repeat (first | exact new_nil | refine newrow g1 0 rfl (Nat.le_refl _) ?_))))).mono fun e w' ⟨r, e1, e2, e3⟩ => ⟨r, e1, e2, nbb g1 e3⟩) (fun v8 F8 w8 hF8 hv8 => ?_)
  repeat (first | refine S_pure tabOk rfl ?_)
  refine S_of (L := U) rfl (fun w1 h1 => ⟨_, row_slr (h1.own _ (getE_mem (i := 1) rfl)) rfl hUf⟩) (by omega) (fun a2 m2 c2 F2 hF2 => ?_)
  refine S_callq (v := .bool true) rfl Try.call52 (fun w1 g1 => same_t w1 (g1.own _ (getE_mem (i := 1) rfl)).1 (g1.own _ (getE_mem (i := 0) rfl)).1 fun x => (hUm x).symm) ?_
  repeat (first | refine S_pure tabOk rfl ?_)
  refine S_callq (v := .int .i64 (U.length : Int)) rfl Try.call54 (fun w1 h1 => by
    rw [hsl]
    exact bo_count ((boA bb f m gs last).ext hb (h1.below (by repeat (first | exact new_nil | refine new_ro ?_ | refine newrow h1 2 rfl (Nat.le_refl _) ?_))))) ?_
  repeat (first | refine S_pure tabOk rfl ?_)
  refine S_re 54 (v' := .bool false) rfl (congrArg Value.bool (decide_eq_false fun h => h rfl)) ?_
  repeat (first | refine S_pure tabOk rfl ?_)
  refine S_load1 tabOk (v := .slice a gs.length c) rfl rfl (fun w' hw => rbR.cell hR (hw.below (by repeat (first | exact new_nil | refine new_ro ?_ | refine newrow hw 2 rfl (Nat.le_refl _) ?_))) (j := 2) rfl) ?_
  repeat (first | refine S_pure tabOk rfl ?_)
  refine S_q (Q_neb tabOk rfl rfl rfl rfl rfl) ?_
  refine S_re 62 (v' := .bool false) rfl (by cases decide (0 < (gs.length : Int)) <;> rfl) ?_
  repeat (first | refine S_nil ?_ | refine S_pure tabOk rfl ?_)
  refine T_cond_dec rfl (fun h => absurd rfl h) (fun _ => ?_)
  repeat (first | refine T_seq ?_ | refine T_region ?_ | refine T_block ?_ | refine S_nil ?_ | refine pthen_normal ?_ | refine T_skip ?_ | refine S_pure tabOk rfl ?_)
  refine T_loop (ι := Nat) (fun j => [(0, bptr bb), (1, bptr xb), (69, .slice a1 U.length c1), (70, .int .i64 (U.length : Int)), (71, .int .i64 (j : Int))]) (fun _ => [.row w.heap.size (.slice a1 U.length c1) 34 1 U.length (u64s U)]) (fun j => j ≤ U.length) (fun j => U.length - j) 0 (Nat.zero_le _) (by repeat (first | exact Sub.nil | refine Sub.cons rfl ?_)) (fun w' hw => hw.less (by repeat (first | exact Less.nil | refine Less.keep ?_ | refine Less.dropR ?_))) ?_
  intro j hj
  repeat (first | refine T_seq ?_ | refine T_region ?_ | refine S_nil ?_ | refine S_pure tabOk rfl ?_)
  refine T_cond_dec rfl (fun hlt => ?_) (fun hge => ?_)
  rotate_left
  · repeat (first | refine T_seq ?_ | refine T_region ?_ | refine S_nil ?_ | refine pthen_normal ?_ | refine inb_hit ?_ | refine pthen_exit ?_ | refine T_ret ?_ | refine T_exit ?_ | refine S_pure tabOk rfl ?_)
    exact ret1 rfl rfl (fun w' hw => ⟨rfl, hw.below (by repeat (first | exact new_nil | refine newrow hw 0 rfl (Nat.le_refl _) ?_))⟩)
  have hjl : j < U.length := by omega
  have hUj : U[j] ∈ bNums gs := (hUm _).1 (List.getElem_mem hjl)
  repeat (first | refine T_seq ?_ | refine T_region ?_ | refine T_block ?_ | refine pthen_normal ?_ | refine T_skip ?_)
  refine S_rowA 0 rfl (by omega) (fun bU hbU => ?_)
  subst hbU
  refine S_q (Q_idx (sz := 1) tabOk rfl rfl rfl rfl rfl rfl rfl (j := j) rfl hjl) ?_
  refine S_load1 tabOk (v := .int .u64 U[j]) rfl rfl (fun w' hw => by rw [Nat.zero_add, Nat.mul_one]; exact own_cell (hw.own _ (getE_mem (i := 0) rfl)) (by omega) (u64s_get hjl)) ?_
  repeat (first | refine T_seq ?_ | refine T_region ?_ | refine S_nil ?_ | refine S_pure tabOk rfl ?_)
  refine S_callq (v := .bool true) rfl Try.call20 (fun w1 h1 => by
    rw [← decide_eq_true hUj]
    exact bo_has ((boA bb f m gs last).ext hb (h1.below (by repeat (first | exact new_nil | refine newrow h1 0 rfl (Nat.le_refl _) ?_)))) _) ?_
  repeat (first | refine S_pure tabOk rfl ?_)
  refine S_callq rfl Try.call19 (fun w1 h1 => bo_tries ((boA bb f m gs last).ext hb (h1.below (by repeat (first | exact new_nil | refine newrow h1 0 rfl (Nat.le_refl _) ?_)))) U[j]) ?_
  repeat (first | refine S_pure tabOk rfl ?_)
  refine S_callq rfl Try.call55 (fun w1 h1 => rtries13_ok ((rbR xb f m last gs a c).ext hR (h1.below (by repeat (first | exact new_nil | refine newrow h1 0 rfl (Nat.le_refl _) ?_)))) hok U[j]) ?_
  repeat (first | refine S_pure tabOk rfl ?_)
  refine S_re 88 (v' := .bool false) rfl (congrArg Value.bool (decide_eq_false fun h => h rfl)) ?_
  repeat (first | refine S_pure tabOk rfl ?_)
  refine S_callq rfl Try.call20 (fun w1 h1 => bo_has ((boA bb f m gs last).ext hb (h1.below (by repeat (first | exact new_nil | refine newrow h1 0 rfl (Nat.le_refl _) ?_)))) _) ?_
  repeat (first | refine S_pure tabOk rfl ?_)
  refine S_callq rfl Try.call37 (fun w1 h1 => rhas13_ok ((rbR xb f m last gs a c).ext hR (h1.below (by repeat (first | exact new_nil | refine newrow h1 0 rfl (Nat.le_refl _) ?_)))) hok _) ?_
  refine S_q (Q_neb tabOk rfl rfl rfl rfl rfl) ?_
  refine S_re 97 (v' := .bool false) rfl (by cases decide (IntKind.u64.wrap (U[j] + 1) ∈ bNums gs) <;> rfl) ?_
  repeat (first | refine S_nil ?_ | refine S_pure tabOk rfl ?_)
  refine T_cond_f rfl ?_
  repeat (first | refine T_region ?_ | refine S_nil ?_ | refine pthen_normal ?_ | refine inb_normal ?_ | refine T_skip ?_ | refine S_i64 tabOk rfl (by omega) ?_ | refine S_pure tabOk rfl ?_)
  exact ⟨j + 1, by show j + 1 ≤ U.length; omega, by repeat (first | exact Sub.nil | refine Sub.cons rfl ?_), fun w' hw => hw, by show U.length - (j + 1) < U.length - j; omega⟩
end Go.Proofs.Ytidhpofcofknhaa
