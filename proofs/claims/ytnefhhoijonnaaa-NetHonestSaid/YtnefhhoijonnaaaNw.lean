/-
  The document's Send, Double, Replay, Forge of a net. Conditions: each theorem's own. The document's Deliver. Conditions: each theorem's own. The document's Turn. Conditions: each theorem's own. New; what Deliver tells; awake. Conditions: each theorem's own. The law's do: an act on both nets. Conditions: each theorem's own. The law's like. Conditions: each theorem's own.
  Conditions: each theorem's own.
-/
import Derived.Test.YtnefhhoijonnaaaNx
namespace Go.Proofs.Ytnefhhoijonnaaa
open Go Go.RowKit
set_option linter.unusedVariables false


/-- What was made is put where nothing was told. -/
theorem Hp.fill {w0 w : World} {e : HE} {o o' : OL} (h : Hp w0 w (e :: o)) (i : Nat) (hi : getE o i = some (factE True)) (hp : putE o i e = some o') : Hp w0 w o' := by
  obtain ⟨pre, post, e1, e2⟩ := putE_eq hi hp
  rw [e1] at h
  rw [e2]
  have h1 : Hp w0 w (factE True :: (pre ++ e :: post)) := h.perm (by
    refine (List.Perm.cons e List.perm_middle).trans ((List.Perm.swap _ _ _).trans (List.Perm.cons _ ?_))
    exact List.perm_middle.symm)
  exact h1.drop fun hx => by cases hx
theorem Hp.fills {w0 w : World} {o : OL} (h : Hp w0 w o) : Hp w0 w (factE True :: o) := h.addF trivial
theorem rjoin_ok {A a : Option Addr} {C n c : Nat} {zs : List Int} (w : World) (hs : Sl w 1 A 1 [.slice a n c]) (hi : Ints .u8 w a n c zs) (hl : zs.length ≤ 2147483648) : Calls Try.prog 30 #[.slice A 1 C] w fun e w' => ∃ a c, e = .returned (.slice a zs.length c) ∧ Below w.heap.size w w' ∧ w'.ownsRow w.heap.size 5 1 (.slice a zs.length c) zs.length (zs.map (.int .u8)) := by
  have h := join_ok A 1 C [⟨a, n, c, zs⟩] w (by decide) hs (fun p hp => by rw [List.mem_singleton] at hp; subst hp; exact hi) (by show ([zs] : List (List Int)).flatten.length ≤ _; simpa using hl)
  have e : cat [⟨a, n, c, zs⟩] = zs := by simp [cat]
  rw [e] at h
  exact h
theorem pmL7 {α : Type} (x0 x1 x2 x3 x4 x5 x6 x7 x8 : α) (r : List α) : List.Perm (x0 :: x1 :: x2 :: x3 :: x4 :: x5 :: x6 :: x7 :: x8 :: r) (x0 :: x6 :: x1 :: x2 :: x3 :: x4 :: x5 :: x7 :: x8 :: r) := by
  have hP : List.Perm ([0, 1, 2, 3, 4, 5, 6, 7, 8] : List Nat) [0, 6, 1, 2, 3, 4, 5, 7, 8] := by decide
  exact (hP.map fun i => ([x0, x1, x2, x3, x4, x5, x6, x7, x8][i]?).getD x0).append_right r
theorem pmL8 {α : Type} (x0 x1 x2 x3 x4 x5 x6 x7 x8 x9 x10 x11 x12 : α) (r : List α) : List.Perm (x0 :: x1 :: x2 :: x3 :: x4 :: x5 :: x6 :: x7 :: x8 :: x9 :: x10 :: x11 :: x12 :: r) (x0 :: x6 :: x10 :: x1 :: x2 :: x3 :: x4 :: x5 :: x7 :: x8 :: x9 :: x11 :: x12 :: r) := by
  have hP : List.Perm ([0, 1, 2, 3, 4, 5, 6, 7, 8, 9, 10, 11, 12] : List Nat) [0, 6, 10, 1, 2, 3, 4, 5, 7, 8, 9, 11, 12] := by decide
  exact (hP.map fun i => ([x0, x1, x2, x3, x4, x5, x6, x7, x8, x9, x10, x11, x12][i]?).getD x0).append_right r
theorem pmL4 {α : Type} (x0 x1 x2 x3 x4 x5 x6 x7 : α) (r : List α) : List.Perm (x0 :: x1 :: x2 :: x3 :: x4 :: x5 :: x6 :: x7 :: r) (x4 :: x5 :: x6 :: x7 :: x0 :: x1 :: x2 :: x3 :: r) := by
  have hP : List.Perm ([0, 1, 2, 3, 4, 5, 6, 7] : List Nat) [4, 5, 6, 7, 0, 1, 2, 3] := by decide
  exact (hP.map fun i => ([x0, x1, x2, x3, x4, x5, x6, x7][i]?).getD x0).append_right r
theorem pmL5 {α : Type} (x0 x1 x2 x3 x4 x5 x6 x7 x8 : α) (r : List α) : List.Perm (x0 :: x1 :: x2 :: x3 :: x4 :: x5 :: x6 :: x7 :: x8 :: r) (x5 :: x6 :: x7 :: x8 :: x4 :: x0 :: x1 :: x2 :: x3 :: r) := by
  have hP : List.Perm ([0, 1, 2, 3, 4, 5, 6, 7, 8] : List Nat) [5, 6, 7, 8, 4, 0, 1, 2, 3] := by decide
  exact (hP.map fun i => ([x0, x1, x2, x3, x4, x5, x6, x7, x8][i]?).getD x0).append_right r
theorem pmL9 {α : Type} (x0 x1 x2 x3 x4 x5 x6 x7 x8 x9 x10 x11 x12 : α) (r : List α) : List.Perm (x0 :: x1 :: x2 :: x3 :: x4 :: x5 :: x6 :: x7 :: x8 :: x9 :: x10 :: x11 :: x12 :: r) (x9 :: x10 :: x11 :: x12 :: x8 :: x0 :: x1 :: x2 :: x3 :: x4 :: x5 :: x6 :: x7 :: r) := by
  have hP : List.Perm ([0, 1, 2, 3, 4, 5, 6, 7, 8, 9, 10, 11, 12] : List Nat) [9, 10, 11, 12, 8, 0, 1, 2, 3, 4, 5, 6, 7] := by decide
  exact (hP.map fun i => ([x0, x1, x2, x3, x4, x5, x6, x7, x8, x9, x10, x11, x12][i]?).getD x0).append_right r
theorem pmL6 {α : Type} (x0 x1 x2 x3 x4 x5 x6 x7 : α) (r : List α) : List.Perm (x0 :: x1 :: x2 :: x3 :: x4 :: x5 :: x6 :: x7 :: r) (x0 :: x5 :: x1 :: x2 :: x3 :: x4 :: x6 :: x7 :: r) := by
  have hP : List.Perm ([0, 1, 2, 3, 4, 5, 6, 7] : List Nat) [0, 5, 1, 2, 3, 4, 6, 7] := by decide
  exact (hP.map fun i => ([x0, x1, x2, x3, x4, x5, x6, x7][i]?).getD x0).append_right r
set_option maxHeartbeats 4000000 in
theorem rdouble_ok {w0 w : World} {b : Nat} {K : List Pk} {G : Nat → Prop} {N : Nt} {rest : OL} {k : Nat} (i : Int) (h : NetH w0 w 69 133 b K G N rest) (hN : N.ok K k) (hk : k ≤ 1000) : Calls Try.prog 73 #[.pointer (some ⟨b, 0, none⟩), .int .i64 i] w fun e w' => ∃ K' G' N', e = .returned (.int .i64 (if atV i N.v.1.length then 0 else 4)) ∧ NetQ w0 w' 69 133 b K N rest (k + 1) (dblV N.v i) K' G' N' := by
  obtain ⟨la, lc, sa, sc, Ln, Sn⟩ := N
  have hln := hN.ln
  have hsn := hN.sn
  dsimp only at hln hsn
  rw [show (Nt.v ⟨la, lc, sa, sc, Ln, Sn⟩).1.length = Ln.length from List.length_map _]
  have hno : atV i Ln.length = false → dblV (Nt.v ⟨la, lc, sa, sc, Ln, Sn⟩) i = Nt.v ⟨la, lc, sa, sc, Ln, Sn⟩ := fun he => by
    unfold dblV
    rw [show (Nt.v ⟨la, lc, sa, sc, Ln, Sn⟩).1.length = Ln.length from List.length_map _, if_neg (by rw [he]; decide)]
  refine enterW2 Try.func73 rfl rfl h ?_
  repeat (first | refine T_seq ?_ | refine T_region ?_ | refine S_nil ?_ | refine S_pure tabOk rfl ?_)
  cases he : atV i Ln.length with
  | false =>
    have he' : ¬ (0 ≤ i ∧ i < Ln.length) := of_decide_eq_false he
    by_cases h1 : i < 0
    · refine S_re 7 (v' := .bool true) rfl (congrArg Value.bool (decide_eq_true h1)) ?_
      repeat (first | refine S_nil ?_ | refine S_pure tabOk rfl ?_ | refine S_pass rfl rfl rfl ?_)
      refine T_cond_t rfl ?_
      repeat (first | refine T_seq ?_ | refine T_region ?_ | refine S_nil ?_ | refine pthen_ret ?_ | refine T_ret ?_ | refine S_pure tabOk rfl ?_)
      exact ret1 rfl rfl (fun w' hw => ⟨K, G, ⟨la, lc, sa, sc, Ln, Sn⟩, rfl, hw, ⟨hN.l, hN.s, Nat.le_succ_of_le hN.ln, Nat.le_succ_of_le hN.sn⟩, fun _ h => h, (hno he).symm⟩)
    · refine S_re 7 (v' := .bool false) rfl (congrArg Value.bool (decide_eq_false h1)) ?_
      repeat (first | refine S_nil ?_ | refine S_pure tabOk rfl ?_ | refine S_load tabOk 1 rfl rfl rfl ?_)
      refine T_cond_dec rfl (fun h2 => ?_) (fun h2 => by exfalso; dsimp only at h2; omega)
      repeat (first | refine T_seq ?_ | refine T_region ?_ | refine S_nil ?_ | refine pthen_ret ?_ | refine T_ret ?_ | refine S_pure tabOk rfl ?_)
      exact ret1 rfl rfl (fun w' hw => ⟨K, G, ⟨la, lc, sa, sc, Ln, Sn⟩, rfl, hw, ⟨hN.l, hN.s, Nat.le_succ_of_le hN.ln, Nat.le_succ_of_le hN.sn⟩, fun _ h => h, (hno he).symm⟩)
  | true =>
    have he' : 0 ≤ i ∧ i < Ln.length := of_decide_eq_true he
    refine S_re 7 (v' := .bool false) rfl (congrArg Value.bool (decide_eq_false (by omega))) ?_
    repeat (first | refine S_nil ?_ | refine S_pure tabOk rfl ?_ | refine S_load tabOk 1 rfl rfl rfl ?_)
    refine T_cond_dec rfl (fun h2 => by exfalso; dsimp only at h2; omega) (fun h2 => ?_)
    obtain ⟨j, rfl, hj⟩ := at_j he
    obtain ⟨q, hq0⟩ : ∃ q, q = Ln[j] := ⟨_, rfl⟩
    have hq : q ∈ K := by rw [hq0]; exact hN.l _ (List.getElem_mem hj)
    obtain ⟨hqt, hqb, hqf⟩ : Fits .i64 q.to ∧ q.bs.length ≤ 70000 ∧ ∀ z ∈ q.bs, Fits .u8 z := by
      have := (h.own _ List.mem_cons_self).1.1 q hq
      exact ⟨this.1, this.2.1, this.2.2.ints.fits⟩
    repeat (first | refine T_seq ?_ | refine pthen_normal ?_ | refine T_skip ?_)
    refine T_kn (X := ∃ g, la = some ⟨g, 0, none⟩) (fun w hw => hw.rowA 2 (m := Ln.length) rfl (by omega)) (fun ⟨g, hg⟩ => ?_)
    subst hg
    refine T_toX (ι := Unit) (fun _ => True) (fun _ => knE w0 K G :: nbE 69 b (some ⟨g, 0, none⟩) Ln.length lc sa Sn.length sc :: rowP w0 133 (some ⟨g, 0, none⟩) lc Ln :: rowP w0 133 sa sc Sn :: factE True :: factE True :: factE True :: factE True :: rest) (fun w hw => ⟨(), trivial, (hw.fills.fills.fills.fills).perm (pmL4 ..)⟩) (fun _ _ => ?_)
    let lst : Bool → Bool → Bool → Bool → Bool → Bool → Value × (Unit) → Value × (Unit) → Value × (Unit) → Value × (Unit) → Value × (Unit) → OL := fun l21 l22 l23 l24 l25 l28 x21 x22 x23 x24 x25 =>
      knE w0 K G :: .blk b (.cells ⟨[cond l28 x25.1 (.slice (some ⟨g, 0, none⟩) Ln.length lc), .slice sa Sn.length sc]⟩ 69 (0, 0)) true :: .row w0.heap.size (cond l25 x25.1 (.slice (some ⟨g, 0, none⟩) Ln.length lc)) 133 2 (cond l25 (Ln.length + 1) Ln.length) (cond l25 (cellsP Ln ++ [.int .i64 q.to, x22.1]) (cellsP Ln)) :: rowP w0 133 sa sc Sn :: (cond l21 (.row w0.heap.size x21.1 37 1 1 [.slice q.a q.bs.length q.c]) (factE True)) :: (cond l22 (.row w0.heap.size x22.1 5 1 q.bs.length (q.bs.map (.int .u8))) (factE True)) :: (cond l23 (factE (x23.1 = .agg ⟨[.int .i64 q.to, x22.1]⟩)) (factE True)) :: (cond l24 (.row w0.heap.size x24.1 133 2 1 [.int .i64 q.to, x22.1]) (factE True)) :: rest
    refine T_drawF (γ := Unit) (by kernel_rfl) (by kernel_rfl) () (fun L f => lst (L 21) (L 22) (L 23) (L 24) (L 25) (L 28) (f 21) (f 22) (f 23) (f 24) (f 25)) rfl [some (.pointer (some ⟨b, 0, none⟩)), some (.pointer (some ⟨b, 0, none⟩)), some (.pointer (some ⟨b, 0, none⟩)), some (.pointer (some ⟨b, 0, none⟩)), some (.slice (some ⟨g, 0, none⟩) Ln.length lc), some (.pointer (some ⟨b, 0, none⟩)), some (.pointer (some ⟨b, 0, none⟩)), some (.pointer (some ⟨b, 0, none⟩)), some (.slice (some ⟨g, 0, none⟩) Ln.length lc), some (.int .i64 (j : Int)), some (.pointer (some ⟨g, 0 + j * 2, none⟩)), some (.pointer (some ⟨g, 0 + j * 2 + 0, none⟩)), some (.int .i64 q.to), some (.pointer (some ⟨b, 0, none⟩)), some (.pointer (some ⟨b, 0, none⟩)), some (.pointer (some ⟨b, 0, none⟩)), some (.slice (some ⟨g, 0, none⟩) Ln.length lc), some (.int .i64 (j : Int)), some (.pointer (some ⟨g, 0 + j * 2, none⟩)), some (.pointer (some ⟨g, 0 + j * 2 + 1, none⟩)), some (.slice q.a q.bs.length q.c), none, none, none, none, none, some (.pointer (some ⟨b, 0, none⟩)), some (.pointer (some ⟨b, 0, none⟩)), none] ?_ ?_
    · refine ⟨?_, ?_, ?_, ?_, ?_, ?_, ?_, ?_, ?_, ?_, ?_, ?_, ?_, ?_, ?_, ?_, ?_, ?_, ?_, ?_, ?_, ?_, ?_, ?_, ?_, ?_, ?_, ?_, ?_, trivial⟩
      · exact fun L f hc hl hp => OpA.told () rfl (D_pure tabOk rfl D_last) rfl
      · exact fun L f hc hl hp => OpA.told () rfl (D_pure tabOk rfl D_last) rfl
      · exact fun L f hc hl hp => OpA.told () rfl (D_pure tabOk rfl D_last) rfl
      · exact fun L f hc hl hp => OpA.told () rfl (D_pure tabOk rfl D_last) rfl
      · intro L f hc hl hp
        have h25 := closed_no hc (j := 25) rfl ⟨4, .data⟩ (by simp) rfl hl
        have h28 := closed_no hc (j := 28) rfl ⟨4, .phase⟩ (by simp) rfl hl
        show OpA _ _ _ _ (lst (L 21) (L 22) (L 23) (L 24) (L 25) (L 28) (f 21) (f 22) (f 23) (f 24) (f 25)) (fun y => lst (L 21) (L 22) (L 23) (L 24) (L 25) (L 28) (f 21) (f 22) (f 23) (f 24) (f 25)) _ _ _
        rw [h25, h28]
        exact OpA.told () rfl (D_load tabOk 1 rfl rfl rfl D_last) rfl
      · exact fun L f hc hl hp => OpA.told () rfl (D_pure tabOk rfl D_last) rfl
      · exact fun L f hc hl hp => OpA.told () rfl (D_pure tabOk rfl D_last) rfl
      · exact fun L f hc hl hp => OpA.told () rfl (D_pure tabOk rfl D_last) rfl
      · intro L f hc hl hp
        have h10 := closed_no hc (j := 10) rfl ⟨8, .data⟩ (by simp) rfl hl
        have h11 := closed_no hc (j := 11) rfl ⟨10, .data⟩ (by simp) rfl h10
        have h12 := closed_no hc (j := 12) rfl ⟨11, .data⟩ (by simp) rfl h11
        have h23 := closed_no hc (j := 23) rfl ⟨12, .data⟩ (by simp) rfl h12
        have h24 := closed_no hc (j := 24) rfl ⟨23, .data⟩ (by simp) rfl h23
        have h25 := closed_no hc (j := 25) rfl ⟨24, .data⟩ (by simp) rfl h24
        have h28 := closed_no hc (j := 28) rfl ⟨8, .phase⟩ (by simp) rfl hl
        show OpA _ _ _ _ (lst (L 21) (L 22) (L 23) (L 24) (L 25) (L 28) (f 21) (f 22) (f 23) (f 24) (f 25)) (fun y => lst (L 21) (L 22) (L 23) (L 24) (L 25) (L 28) (f 21) (f 22) (f 23) (f 24) (f 25)) _ _ _
        rw [h23, h24, h25, h28]
        exact OpA.told () rfl (D_load tabOk 1 rfl rfl rfl D_last) rfl
      · exact fun L f hc hl hp => OpA.told () rfl (D_pure tabOk rfl D_last) rfl
      · intro L f hc hl hp
        have h11 := closed_no hc (j := 11) rfl ⟨10, .data⟩ (by simp) rfl hl
        have h12 := closed_no hc (j := 12) rfl ⟨11, .data⟩ (by simp) rfl h11
        have h23 := closed_no hc (j := 23) rfl ⟨12, .data⟩ (by simp) rfl h12
        have h24 := closed_no hc (j := 24) rfl ⟨23, .data⟩ (by simp) rfl h23
        have h25 := closed_no hc (j := 25) rfl ⟨24, .data⟩ (by simp) rfl h24
        have h28 := closed_no hc (j := 28) rfl ⟨10, .phase⟩ (by simp) rfl hl
        show OpA _ _ _ _ (lst (L 21) (L 22) (L 23) (L 24) (L 25) (L 28) (f 21) (f 22) (f 23) (f 24) (f 25)) (fun y => lst (L 21) (L 22) (L 23) (L 24) (L 25) (L 28) (f 21) (f 22) (f 23) (f 24) (f 25)) _ _ _
        rw [h23, h24, h25, h28]
        exact OpA.told () rfl (D_q (Q_idx (sz := 2) tabOk rfl rfl rfl rfl rfl rfl rfl rfl (j := j) hj) D_last) rfl
      · exact fun L f hc hl hp => OpA.told () rfl (D_pure tabOk rfl D_last) rfl
      · intro L f hc hl hp
        have h23 := closed_no hc (j := 23) rfl ⟨12, .data⟩ (by simp) rfl hl
        have h24 := closed_no hc (j := 24) rfl ⟨23, .data⟩ (by simp) rfl h23
        have h25 := closed_no hc (j := 25) rfl ⟨24, .data⟩ (by simp) rfl h24
        have h28 := closed_no hc (j := 28) rfl ⟨12, .phase⟩ (by simp) rfl hl
        show OpA _ _ _ _ (lst (L 21) (L 22) (L 23) (L 24) (L 25) (L 28) (f 21) (f 22) (f 23) (f 24) (f 25)) (fun y => lst (L 21) (L 22) (L 23) (L 24) (L 25) (L 28) (f 21) (f 22) (f 23) (f 24) (f 25)) _ _ _
        rw [h23, h24, h25, h28]
        exact OpA.told () rfl (D_load1 tabOk rfl rfl (v := .int .i64 q.to) (fun w' hw => by
          have h1 := row_cellP hw 2 rfl hj 0 _ rfl
          rw [Addr.add_lit] at h1
          rw [hq0]
          exact h1) D_last) rfl
      · exact fun L f hc hl hp => OpA.told () rfl (D_pure tabOk rfl D_last) rfl
      · exact fun L f hc hl hp => OpA.told () rfl (D_pure tabOk rfl D_last) rfl
      · exact fun L f hc hl hp => OpA.told () rfl (D_pure tabOk rfl D_last) rfl
      · intro L f hc hl hp
        have h18 := closed_no hc (j := 18) rfl ⟨16, .data⟩ (by simp) rfl hl
        have h19 := closed_no hc (j := 19) rfl ⟨18, .data⟩ (by simp) rfl h18
        have h20 := closed_no hc (j := 20) rfl ⟨19, .data⟩ (by simp) rfl h19
        have h21 := closed_no hc (j := 21) rfl ⟨20, .data⟩ (by simp) rfl h20
        have h22 := closed_no hc (j := 22) rfl ⟨21, .data⟩ (by simp) rfl h21
        have h23 := closed_no hc (j := 23) rfl ⟨22, .data⟩ (by simp) rfl h22
        have h24 := closed_no hc (j := 24) rfl ⟨23, .data⟩ (by simp) rfl h23
        have h25 := closed_no hc (j := 25) rfl ⟨22, .chain⟩ (by simp) rfl h22
        have h28 := closed_no hc (j := 28) rfl ⟨16, .phase⟩ (by simp) rfl hl
        show OpA _ _ _ _ (lst (L 21) (L 22) (L 23) (L 24) (L 25) (L 28) (f 21) (f 22) (f 23) (f 24) (f 25)) (fun y => lst (L 21) (L 22) (L 23) (L 24) (L 25) (L 28) (f 21) (f 22) (f 23) (f 24) (f 25)) _ _ _
        rw [h21, h22, h23, h24, h25, h28]
        exact OpA.told () rfl (D_load tabOk 1 rfl rfl rfl D_last) rfl
      · exact fun L f hc hl hp => OpA.told () rfl (D_pure tabOk rfl D_last) rfl
      · intro L f hc hl hp
        have h19 := closed_no hc (j := 19) rfl ⟨18, .data⟩ (by simp) rfl hl
        have h20 := closed_no hc (j := 20) rfl ⟨19, .data⟩ (by simp) rfl h19
        have h21 := closed_no hc (j := 21) rfl ⟨20, .data⟩ (by simp) rfl h20
        have h22 := closed_no hc (j := 22) rfl ⟨21, .data⟩ (by simp) rfl h21
        have h23 := closed_no hc (j := 23) rfl ⟨22, .data⟩ (by simp) rfl h22
        have h24 := closed_no hc (j := 24) rfl ⟨23, .data⟩ (by simp) rfl h23
        have h25 := closed_no hc (j := 25) rfl ⟨22, .chain⟩ (by simp) rfl h22
        have h28 := closed_no hc (j := 28) rfl ⟨18, .phase⟩ (by simp) rfl hl
        show OpA _ _ _ _ (lst (L 21) (L 22) (L 23) (L 24) (L 25) (L 28) (f 21) (f 22) (f 23) (f 24) (f 25)) (fun y => lst (L 21) (L 22) (L 23) (L 24) (L 25) (L 28) (f 21) (f 22) (f 23) (f 24) (f 25)) _ _ _
        rw [h21, h22, h23, h24, h25, h28]
        exact OpA.told () rfl (D_q (Q_idx (sz := 2) tabOk rfl rfl rfl rfl rfl rfl rfl rfl (j := j) hj) D_last) rfl
      · exact fun L f hc hl hp => OpA.told () rfl (D_pure tabOk rfl D_last) rfl
      · intro L f hc hl hp
        have h21 := closed_no hc (j := 21) rfl ⟨20, .data⟩ (by simp) rfl hl
        have h22 := closed_no hc (j := 22) rfl ⟨21, .data⟩ (by simp) rfl h21
        have h23 := closed_no hc (j := 23) rfl ⟨22, .data⟩ (by simp) rfl h22
        have h24 := closed_no hc (j := 24) rfl ⟨23, .data⟩ (by simp) rfl h23
        have h25 := closed_no hc (j := 25) rfl ⟨22, .chain⟩ (by simp) rfl h22
        have h28 := closed_no hc (j := 28) rfl ⟨20, .phase⟩ (by simp) rfl hl
        show OpA _ _ _ _ (lst (L 21) (L 22) (L 23) (L 24) (L 25) (L 28) (f 21) (f 22) (f 23) (f 24) (f 25)) (fun y => lst (L 21) (L 22) (L 23) (L 24) (L 25) (L 28) (f 21) (f 22) (f 23) (f 24) (f 25)) _ _ _
        rw [h21, h22, h23, h24, h25, h28]
        exact OpA.told () rfl (D_load1 tabOk rfl rfl (v := .slice q.a q.bs.length q.c) (fun w' hw => by
          have h1 := row_cellP hw 2 rfl hj 1 _ rfl
          rw [Addr.add_lit] at h1
          rw [hq0]
          exact h1) D_last) rfl
      · intro L f hc hl hp
        have h22 := closed_no hc (j := 22) rfl ⟨21, .data⟩ (by simp) rfl hl
        have h23 := closed_no hc (j := 23) rfl ⟨22, .data⟩ (by simp) rfl h22
        have h24 := closed_no hc (j := 24) rfl ⟨23, .data⟩ (by simp) rfl h23
        have h25 := closed_no hc (j := 25) rfl ⟨22, .chain⟩ (by simp) rfl h22
        have h28 := closed_no hc (j := 28) rfl ⟨21, .phase⟩ (by simp) rfl hl
        show OpA _ _ _ _ (lst (L 21) (L 22) (L 23) (L 24) (L 25) (L 28) (f 21) (f 22) (f 23) (f 24) (f 25)) (fun y => lst true (L 22) (L 23) (L 24) (L 25) (L 28) y (f 22) (f 23) (f 24) (f 25)) _ _ _
        rw [hl, h22, h23, h24, h25, h28]
        exact OpA.bsliceR tabOk rfl rfl rfl rfl rfl rfl rfl rfl rfl rfl rfl rfl rfl rfl (fun w1 v hw1 => ⟨(), hw1.fill 4 rfl rfl⟩)
      · intro L f hc hl hp
        have h21 : L 21 = true := hp ⟨21, .data⟩ (by simp) rfl
        have h23 := closed_no hc (j := 23) rfl ⟨22, .data⟩ (by simp) rfl hl
        have h24 := closed_no hc (j := 24) rfl ⟨23, .data⟩ (by simp) rfl h23
        have h25 := closed_no hc (j := 25) rfl ⟨22, .chain⟩ (by simp) rfl hl
        have h28 := closed_no hc (j := 28) rfl ⟨22, .phase⟩ (by simp) rfl hl
        show OpA _ _ _ _ (lst (L 21) (L 22) (L 23) (L 24) (L 25) (L 28) (f 21) (f 22) (f 23) (f 24) (f 25)) (fun y => lst (L 21) true (L 23) (L 24) (L 25) (L 28) (f 21) y (f 23) (f 24) (f 25)) _ _ _
        rw [hl, h21, h23, h24, h25, h28]
        refine OpA.pre (X := ∃ A C, (f 21).1 = .slice A 1 C) (fun w hw => ?_) (fun d h => by cases h; decide) ?_
        · obtain ⟨A, C, e2, _⟩ := hw.rowForm 4 rfl
          exact ⟨A, C, e2⟩
        · rintro ⟨A', C', e2⟩
          refine OpA.callrow rfl Try.call30 (fun w1 vs hw h => by
            obtain ⟨u1, _, rfl, rfl, u2, _, rfl, rfl, rfl⟩ := h
            have hr : w1.ownsRow w0.heap.size 37 1 (f 21).1 1 [.slice q.a q.bs.length q.c] := hw.own _ (getE_mem (i := 4) rfl)
            rw [e2] at hr ⊢
            exact rjoin_ok w1 (Sl.of_own hr) (okP.ints (hw.okP 0 rfl) hq) (by omega)) (fun w1 v hw1 => ⟨(), hw1.fill 5 rfl rfl⟩)
      · intro L f hc hl hp
        have h22 : L 22 = true := hp ⟨22, .data⟩ (by simp) rfl
        have h21 : L 21 = true := hc 22 _ rfl h22 ⟨21, .data⟩ (by simp) rfl
        have h24 := closed_no hc (j := 24) rfl ⟨23, .data⟩ (by simp) rfl hl
        have h25 := closed_no hc (j := 25) rfl ⟨24, .data⟩ (by simp) rfl h24
        have h28 := closed_no hc (j := 28) rfl ⟨23, .phase⟩ (by simp) rfl hl
        show OpA _ _ _ _ (lst (L 21) (L 22) (L 23) (L 24) (L 25) (L 28) (f 21) (f 22) (f 23) (f 24) (f 25)) (fun y => lst (L 21) (L 22) true (L 24) (L 25) (L 28) (f 21) (f 22) y (f 24) (f 25)) _ _ _
        rw [hl, h21, h22, h24, h25, h28]
        refine OpA.pre (X := ∃ A C, (f 22).1 = .slice A q.bs.length C) (fun w hw => ?_) (fun d h => by cases h; decide) ?_
        · obtain ⟨A, C, e2, _⟩ := hw.rowForm 5 rfl
          exact ⟨A, C, e2⟩
        · rintro ⟨A', C', e2⟩
          refine OpA.swap (dl' := [(28, .ex (.int .i64 q.to)), (38, .ex (f 22).1)]) (List.forall_mem_cons.2 ⟨rfl, List.forall_mem_cons.2 ⟨rfl, fun _ h => nomatch h⟩⟩) ?_
          generalize f 22 = x4 at *
          obtain ⟨x4, g4⟩ := x4
          dsimp only at e2
          subst e2
          exact OpA.known () rfl (D_q (Q_build tabOk rfl rfl rfl rfl rfl rfl rfl) D_last) (fun w hw => (hw.addF rfl).fill 6 rfl rfl)
      · intro L f hc hl hp
        have h23 : L 23 = true := hp ⟨23, .data⟩ (by simp) rfl
        have h22 : L 22 = true := hc 23 _ rfl h23 ⟨22, .data⟩ (by simp) rfl
        have h21 : L 21 = true := hc 22 _ rfl h22 ⟨21, .data⟩ (by simp) rfl
        have h25 := closed_no hc (j := 25) rfl ⟨24, .data⟩ (by simp) rfl hl
        have h28 := closed_no hc (j := 28) rfl ⟨24, .phase⟩ (by simp) rfl hl
        show OpA _ _ _ _ (lst (L 21) (L 22) (L 23) (L 24) (L 25) (L 28) (f 21) (f 22) (f 23) (f 24) (f 25)) (fun y => lst (L 21) (L 22) (L 23) true (L 25) (L 28) (f 21) (f 22) (f 23) y (f 25)) _ _ _
        rw [hl, h21, h22, h23, h25, h28]
        refine OpA.pre (X := (∃ A C, (f 22).1 = .slice A q.bs.length C) ∧ (f 23).1 = .agg ⟨[.int .i64 q.to, (f 22).1]⟩) (fun w hw => ?_) (fun d h => by cases h; decide) ?_
        · obtain ⟨A, C, e2, _⟩ := hw.rowForm 5 rfl
          exact ⟨⟨A, C, e2⟩, hw.fact 6 rfl⟩
        · rintro ⟨⟨A', C', e2⟩, e3⟩
          refine OpA.swap (dl' := [(39, .ex (f 23).1)]) (List.forall_mem_cons.2 ⟨rfl, fun _ h => nomatch h⟩) ?_
          generalize f 22 = x4 at *
          generalize f 23 = x5 at *
          obtain ⟨x4, g4⟩ := x4
          obtain ⟨x5, g5⟩ := x5
          dsimp only at e2 e3
          subst e2
          subst e3
          exact OpA.bsliceR tabOk rfl rfl rfl rfl rfl rfl rfl rfl rfl rfl rfl rfl rfl rfl (fun w1 v hw1 => ⟨(), hw1.fill 7 rfl rfl⟩)
      · intro L f hc hl hp
        have h22 : L 22 = true := hp ⟨22, .chain⟩ (by simp) rfl
        have h21 : L 21 = true := hc 22 _ rfl h22 ⟨21, .data⟩ (by simp) rfl
        have h24 : L 24 = true := hp ⟨24, .data⟩ (by simp) rfl
        have h23 : L 23 = true := hc 24 _ rfl h24 ⟨23, .data⟩ (by simp) rfl
        have h28 := closed_no hc (j := 28) rfl ⟨25, .data⟩ (by simp) rfl hl
        show OpA _ _ _ _ (lst (L 21) (L 22) (L 23) (L 24) (L 25) (L 28) (f 21) (f 22) (f 23) (f 24) (f 25)) (fun y => lst (L 21) (L 22) (L 23) (L 24) true (L 28) (f 21) (f 22) (f 23) (f 24) y) _ _ _
        rw [hl, h21, h22, h23, h24, h28]
        refine OpA.pre (X := (∃ A C, (f 24).1 = .slice A 1 C) ∧ ∃ A C, (f 22).1 = .slice A q.bs.length C) (fun w hw => ?_) (fun d h => by cases h; decide) ?_
        · obtain ⟨A, C, e2, _⟩ := hw.rowForm 7 rfl
          obtain ⟨A1, C1, e3, _⟩ := hw.rowForm 5 rfl
          exact ⟨⟨A, C, e2⟩, A1, C1, e3⟩
        · rintro ⟨⟨A', C', e2⟩, A1, C1, e3⟩
          generalize hx7 : f 24 = x7
          rw [hx7] at e2
          obtain ⟨x7, g7⟩ := x7
          dsimp only at e2
          subst e2
          generalize f 22 = x4 at *
          obtain ⟨x4, g4⟩ := x4
          dsimp only at e3
          subst e3
          refine OpA.ofS (l := [(20, .slice (some ⟨g, 0, none⟩) Ln.length lc), (40, .slice A' 1 C')]) rfl (by decide) (.cons rfl rfl (.cons rfl (by show some (Ent.ex (f 24).1) = _; rw [hx7]) .nil)) ?_
          refine S_append (ty := 0) tabOk 2 (m := Ln.length) (v := .slice (some ⟨g, 0, none⟩) Ln.length lc) (xs := cellsP Ln) (news := [.int .i64 q.to, .slice A1 q.bs.length C1]) rfl rfl rfl rfl rfl rfl rfl rfl rfl (by decide) (fun w' hw => Sl.of_own (hw.own _ (getE_mem (i := 7) rfl))) (by intro u hu; simp only [List.mem_cons, List.not_mem_nil, or_false] at hu; rcases hu with rfl | rfl <;> rfl) (by simp only [maxLen]; omega) (by show (_ + _) * 32 ≤ _; omega) rfl (fun AS CS hcS hdS => ⟨_, rfl, ?_⟩)
          refine S_nil ?_
          exact ⟨_, (), rfl, (fun u h => by cases h), fun w hw => hw⟩
      · exact fun L f hc hl hp => OpA.told () rfl (D_pure tabOk rfl D_last) rfl
      · exact fun L f hc hl hp => OpA.told () rfl (D_pure tabOk rfl D_last) rfl
      · intro L f hc hl hp
        have h21 : L 21 = true := hp ⟨21, .phase⟩ (by simp) rfl
        have h22 : L 22 = true := hp ⟨22, .phase⟩ (by simp) rfl
        have h23 : L 23 = true := hp ⟨23, .phase⟩ (by simp) rfl
        have h24 : L 24 = true := hp ⟨24, .phase⟩ (by simp) rfl
        have h25 : L 25 = true := hp ⟨25, .data⟩ (by simp) rfl
        show OpA _ _ _ _ (lst (L 21) (L 22) (L 23) (L 24) (L 25) (L 28) (f 21) (f 22) (f 23) (f 24) (f 25)) (fun y => lst (L 21) (L 22) (L 23) (L 24) (L 25) true (f 21) (f 22) (f 23) (f 24) (f 25)) _ _ _
        rw [hl, h21, h22, h23, h24, h25]
        refine OpA.pre (X := ∃ A C, (f 25).1 = .slice A (Ln.length + 1) C) (fun w hw => ?_) (fun d h => by cases h) ?_
        · obtain ⟨A, C, e2, _⟩ := hw.rowForm 2 rfl
          exact ⟨A, C, e2⟩
        · rintro ⟨A', C', e2⟩
          refine OpA.swap (dl' := [(43, .ex (.pointer (some ⟨b, 0, none⟩))), (41, .ex (f 25).1)]) (List.forall_mem_cons.2 ⟨rfl, List.forall_mem_cons.2 ⟨rfl, fun _ h => nomatch h⟩⟩) ?_
          generalize f 25 = x8 at *
          obtain ⟨x8, g8⟩ := x8
          dsimp only at e2
          subst e2
          exact OpS.toF () (fun u h => by cases h) (OpS.store tabOk 1 rfl rfl (fun u h => by rw [List.mem_singleton] at h; subst h; rfl) rfl rfl rfl)
    · intro L f w5 hL hw
      change Hp _ _ (lst (L 21) (L 22) (L 23) (L 24) (L 25) (L 28) (f 21) (f 22) (f 23) (f 24) (f 25)) at hw
      rw [hL 21 (by decide), hL 22 (by decide), hL 23 (by decide), hL 24 (by decide), hL 25 (by decide), hL 28 (by decide)] at hw
      obtain ⟨A0, C0, e2, _⟩ := hw.rowForm 2 rfl
      generalize f 25 = x8 at hw e2 ⊢
      obtain ⟨x8, g8⟩ := x8
      have e3 : x8 = .slice A0 (Ln.length + 1) C0 := e2
      subst e3
      clear e2
      obtain ⟨Y0, Z0, e2, _⟩ := hw.rowForm 5 rfl
      generalize f 22 = x8 at hw e2 ⊢
      obtain ⟨x8, g8⟩ := x8
      have e3 : x8 = .slice Y0 q.bs.length Z0 := e2
      subst e3
      clear e2
      obtain ⟨G2, hw8⟩ := Hp.snocK (p := (⟨q.to, q.bs, Y0, Z0⟩ : Pk)) (hw.perm (pmL6 ..)) hqt hqb hqf
      have hw9 : Hp w0 w5 (knE w0 (K ++ [(⟨q.to, q.bs, Y0, Z0⟩ : Pk)]) G2 :: nbE 69 b A0 (Ln ++ [(⟨q.to, q.bs, Y0, Z0⟩ : Pk)]).length C0 sa Sn.length sc :: rowP w0 133 A0 C0 (Ln ++ [(⟨q.to, q.bs, Y0, Z0⟩ : Pk)]) :: rowP w0 133 sa sc Sn :: rest) := by
        unfold nbE rowP
        rw [cellsP_snoc Ln (⟨q.to, q.bs, Y0, Z0⟩ : Pk), show (Ln ++ [(⟨q.to, q.bs, Y0, Z0⟩ : Pk)]).length = Ln.length + 1 from List.length_append]
        exact hw8.less (by repeat (first | refine Less.keep ?_ | refine Less.dropR ?_ | refine Less.dropW (Nat.le_refl _) ?_ | exact Less.same _))
      refine ⟨[], _, SubD.nil, hw9, ?_⟩
      repeat (first | refine T_seq ?_ | refine T_region ?_ | refine S_nil ?_ | refine T_ret ?_ | refine S_pure tabOk rfl ?_)
      refine ret1 rfl rfl (fun w' hw => ⟨_, _, ⟨A0, C0, sa, sc, Ln ++ [(⟨q.to, q.bs, Y0, Z0⟩ : Pk)], Sn⟩, rfl, hw.less (by repeat (first | refine Less.keep ?_ | exact Less.same _)), ⟨fun p hp => ?_, fun p hp => List.mem_append_left _ (hN.s p hp), ?_, Nat.le_succ_of_le hN.sn⟩, fun _ h => List.mem_append_left _ h, ?_⟩)
      · rcases List.mem_append.1 hp with hp | hp
        · exact List.mem_append_left _ (hN.l p hp)
        · exact List.mem_append_right _ hp
      · show (Ln ++ [_]).length ≤ _
        rw [List.length_append]
        show Ln.length + 1 ≤ _
        omega
      · unfold dblV
        rw [if_pos (by rw [show (Nt.v ⟨_, lc, _, sc, Ln, Sn⟩).1.length = Ln.length from List.length_map _]; exact he)]
        unfold Nt.v
        dsimp only
        rw [List.map_append, Int.toNat_natCast, List.getD_eq_getElem?_getD, List.getElem?_map, List.getElem?_eq_getElem hj, hq0]
        rfl
set_option maxHeartbeats 4000000 in
theorem rreplay_ok {w0 w : World} {b : Nat} {K : List Pk} {G : Nat → Prop} {N : Nt} {rest : OL} {k : Nat} (i : Int) (h : NetH w0 w 69 133 b K G N rest) (hN : N.ok K k) (hk : k ≤ 1000) : Calls Try.prog 76 #[.pointer (some ⟨b, 0, none⟩), .int .i64 i] w fun e w' => ∃ K' G' N', e = .returned (.int .i64 (if atV i N.v.2.length then 0 else 4)) ∧ NetQ w0 w' 69 133 b K N rest (k + 1) (repV N.v i) K' G' N' := by
  obtain ⟨la, lc, sa, sc, Ln, Sn⟩ := N
  have hln := hN.ln
  have hsn := hN.sn
  dsimp only at hln hsn
  rw [show (Nt.v ⟨la, lc, sa, sc, Ln, Sn⟩).2.length = Sn.length from List.length_map _]
  have hno : atV i Sn.length = false → repV (Nt.v ⟨la, lc, sa, sc, Ln, Sn⟩) i = Nt.v ⟨la, lc, sa, sc, Ln, Sn⟩ := fun he => by
    unfold repV
    rw [show (Nt.v ⟨la, lc, sa, sc, Ln, Sn⟩).2.length = Sn.length from List.length_map _, if_neg (by rw [he]; decide)]
  refine enterW2 Try.func76 rfl rfl h ?_
  repeat (first | refine T_seq ?_ | refine T_region ?_ | refine S_nil ?_ | refine S_pure tabOk rfl ?_)
  cases he : atV i Sn.length with
  | false =>
    have he' : ¬ (0 ≤ i ∧ i < Sn.length) := of_decide_eq_false he
    by_cases h1 : i < 0
    · refine S_re 7 (v' := .bool true) rfl (congrArg Value.bool (decide_eq_true h1)) ?_
      repeat (first | refine S_nil ?_ | refine S_pure tabOk rfl ?_ | refine S_pass rfl rfl rfl ?_)
      refine T_cond_t rfl ?_
      repeat (first | refine T_seq ?_ | refine T_region ?_ | refine S_nil ?_ | refine pthen_ret ?_ | refine T_ret ?_ | refine S_pure tabOk rfl ?_)
      exact ret1 rfl rfl (fun w' hw => ⟨K, G, ⟨la, lc, sa, sc, Ln, Sn⟩, rfl, hw, ⟨hN.l, hN.s, Nat.le_succ_of_le hN.ln, Nat.le_succ_of_le hN.sn⟩, fun _ h => h, (hno he).symm⟩)
    · refine S_re 7 (v' := .bool false) rfl (congrArg Value.bool (decide_eq_false h1)) ?_
      repeat (first | refine S_nil ?_ | refine S_pure tabOk rfl ?_ | refine S_load tabOk 1 rfl rfl rfl ?_)
      refine T_cond_dec rfl (fun h2 => ?_) (fun h2 => by exfalso; dsimp only at h2; omega)
      repeat (first | refine T_seq ?_ | refine T_region ?_ | refine S_nil ?_ | refine pthen_ret ?_ | refine T_ret ?_ | refine S_pure tabOk rfl ?_)
      exact ret1 rfl rfl (fun w' hw => ⟨K, G, ⟨la, lc, sa, sc, Ln, Sn⟩, rfl, hw, ⟨hN.l, hN.s, Nat.le_succ_of_le hN.ln, Nat.le_succ_of_le hN.sn⟩, fun _ h => h, (hno he).symm⟩)
  | true =>
    have he' : 0 ≤ i ∧ i < Sn.length := of_decide_eq_true he
    refine S_re 7 (v' := .bool false) rfl (congrArg Value.bool (decide_eq_false (by omega))) ?_
    repeat (first | refine S_nil ?_ | refine S_pure tabOk rfl ?_ | refine S_load tabOk 1 rfl rfl rfl ?_)
    refine T_cond_dec rfl (fun h2 => by exfalso; dsimp only at h2; omega) (fun h2 => ?_)
    obtain ⟨j, rfl, hj⟩ := at_j he
    obtain ⟨q, hq0⟩ : ∃ q, q = Sn[j] := ⟨_, rfl⟩
    have hq : q ∈ K := by rw [hq0]; exact hN.s _ (List.getElem_mem hj)
    obtain ⟨hqt, hqb, hqf⟩ : Fits .i64 q.to ∧ q.bs.length ≤ 70000 ∧ ∀ z ∈ q.bs, Fits .u8 z := by
      have := (h.own _ List.mem_cons_self).1.1 q hq
      exact ⟨this.1, this.2.1, this.2.2.ints.fits⟩
    repeat (first | refine T_seq ?_ | refine pthen_normal ?_ | refine T_skip ?_)
    refine T_kn (X := ∃ g, sa = some ⟨g, 0, none⟩) (fun w hw => hw.rowA 3 (m := Sn.length) rfl (by omega)) (fun ⟨g, hg⟩ => ?_)
    subst hg
    refine T_toX (ι := Unit) (fun _ => True) (fun _ => knE w0 K G :: nbE 69 b la Ln.length lc (some ⟨g, 0, none⟩) Sn.length sc :: rowP w0 133 la lc Ln :: rowP w0 133 (some ⟨g, 0, none⟩) sc Sn :: factE True :: factE True :: factE True :: factE True :: rest) (fun w hw => ⟨(), trivial, (hw.fills.fills.fills.fills).perm (pmL4 ..)⟩) (fun _ _ => ?_)
    let lst : Bool → Bool → Bool → Bool → Bool → Bool → Value × (Unit) → Value × (Unit) → Value × (Unit) → Value × (Unit) → Value × (Unit) → OL := fun l21 l22 l23 l24 l25 l28 x21 x22 x23 x24 x25 =>
      knE w0 K G :: .blk b (.cells ⟨[cond l28 x25.1 (.slice la Ln.length lc), .slice (some ⟨g, 0, none⟩) Sn.length sc]⟩ 69 (0, 0)) true :: .row w0.heap.size (cond l25 x25.1 (.slice la Ln.length lc)) 133 2 (cond l25 (Ln.length + 1) Ln.length) (cond l25 (cellsP Ln ++ [.int .i64 q.to, x22.1]) (cellsP Ln)) :: rowP w0 133 (some ⟨g, 0, none⟩) sc Sn :: (cond l21 (.row w0.heap.size x21.1 37 1 1 [.slice q.a q.bs.length q.c]) (factE True)) :: (cond l22 (.row w0.heap.size x22.1 5 1 q.bs.length (q.bs.map (.int .u8))) (factE True)) :: (cond l23 (factE (x23.1 = .agg ⟨[.int .i64 q.to, x22.1]⟩)) (factE True)) :: (cond l24 (.row w0.heap.size x24.1 133 2 1 [.int .i64 q.to, x22.1]) (factE True)) :: rest
    refine T_drawF (γ := Unit) (by kernel_rfl) (by kernel_rfl) () (fun L f => lst (L 21) (L 22) (L 23) (L 24) (L 25) (L 28) (f 21) (f 22) (f 23) (f 24) (f 25)) rfl [some (.pointer (some ⟨b, 0, none⟩)), some (.pointer (some ⟨b, 0, none⟩)), some (.pointer (some ⟨b, 0, none⟩)), some (.pointer (some ⟨b, 0, none⟩)), some (.slice la Ln.length lc), some (.pointer (some ⟨b, 0, none⟩)), some (.pointer (some ⟨b, 0, none⟩)), some (.pointer (some ⟨b, 1, none⟩)), some (.slice (some ⟨g, 0, none⟩) Sn.length sc), some (.int .i64 (j : Int)), some (.pointer (some ⟨g, 0 + j * 2, none⟩)), some (.pointer (some ⟨g, 0 + j * 2 + 0, none⟩)), some (.int .i64 q.to), some (.pointer (some ⟨b, 0, none⟩)), some (.pointer (some ⟨b, 0, none⟩)), some (.pointer (some ⟨b, 1, none⟩)), some (.slice (some ⟨g, 0, none⟩) Sn.length sc), some (.int .i64 (j : Int)), some (.pointer (some ⟨g, 0 + j * 2, none⟩)), some (.pointer (some ⟨g, 0 + j * 2 + 1, none⟩)), some (.slice q.a q.bs.length q.c), none, none, none, none, none, some (.pointer (some ⟨b, 0, none⟩)), some (.pointer (some ⟨b, 0, none⟩)), none] ?_ ?_
    · refine ⟨?_, ?_, ?_, ?_, ?_, ?_, ?_, ?_, ?_, ?_, ?_, ?_, ?_, ?_, ?_, ?_, ?_, ?_, ?_, ?_, ?_, ?_, ?_, ?_, ?_, ?_, ?_, ?_, ?_, trivial⟩
      · exact fun L f hc hl hp => OpA.told () rfl (D_pure tabOk rfl D_last) rfl
      · exact fun L f hc hl hp => OpA.told () rfl (D_pure tabOk rfl D_last) rfl
      · exact fun L f hc hl hp => OpA.told () rfl (D_pure tabOk rfl D_last) rfl
      · exact fun L f hc hl hp => OpA.told () rfl (D_pure tabOk rfl D_last) rfl
      · intro L f hc hl hp
        have h25 := closed_no hc (j := 25) rfl ⟨4, .data⟩ (by simp) rfl hl
        have h28 := closed_no hc (j := 28) rfl ⟨4, .phase⟩ (by simp) rfl hl
        show OpA _ _ _ _ (lst (L 21) (L 22) (L 23) (L 24) (L 25) (L 28) (f 21) (f 22) (f 23) (f 24) (f 25)) (fun y => lst (L 21) (L 22) (L 23) (L 24) (L 25) (L 28) (f 21) (f 22) (f 23) (f 24) (f 25)) _ _ _
        rw [h25, h28]
        exact OpA.told () rfl (D_load tabOk 1 rfl rfl rfl D_last) rfl
      · exact fun L f hc hl hp => OpA.told () rfl (D_pure tabOk rfl D_last) rfl
      · exact fun L f hc hl hp => OpA.told () rfl (D_pure tabOk rfl D_last) rfl
      · exact fun L f hc hl hp => OpA.told () rfl (D_pure tabOk rfl D_last) rfl
      · intro L f hc hl hp
        have h10 := closed_no hc (j := 10) rfl ⟨8, .data⟩ (by simp) rfl hl
        have h11 := closed_no hc (j := 11) rfl ⟨10, .data⟩ (by simp) rfl h10
        have h12 := closed_no hc (j := 12) rfl ⟨11, .data⟩ (by simp) rfl h11
        have h23 := closed_no hc (j := 23) rfl ⟨12, .data⟩ (by simp) rfl h12
        have h24 := closed_no hc (j := 24) rfl ⟨23, .data⟩ (by simp) rfl h23
        have h25 := closed_no hc (j := 25) rfl ⟨24, .data⟩ (by simp) rfl h24
        have h28 := closed_no hc (j := 28) rfl ⟨8, .phase⟩ (by simp) rfl hl
        show OpA _ _ _ _ (lst (L 21) (L 22) (L 23) (L 24) (L 25) (L 28) (f 21) (f 22) (f 23) (f 24) (f 25)) (fun y => lst (L 21) (L 22) (L 23) (L 24) (L 25) (L 28) (f 21) (f 22) (f 23) (f 24) (f 25)) _ _ _
        rw [h23, h24, h25, h28]
        exact OpA.told () rfl (D_load tabOk 1 rfl rfl rfl D_last) rfl
      · exact fun L f hc hl hp => OpA.told () rfl (D_pure tabOk rfl D_last) rfl
      · intro L f hc hl hp
        have h11 := closed_no hc (j := 11) rfl ⟨10, .data⟩ (by simp) rfl hl
        have h12 := closed_no hc (j := 12) rfl ⟨11, .data⟩ (by simp) rfl h11
        have h23 := closed_no hc (j := 23) rfl ⟨12, .data⟩ (by simp) rfl h12
        have h24 := closed_no hc (j := 24) rfl ⟨23, .data⟩ (by simp) rfl h23
        have h25 := closed_no hc (j := 25) rfl ⟨24, .data⟩ (by simp) rfl h24
        have h28 := closed_no hc (j := 28) rfl ⟨10, .phase⟩ (by simp) rfl hl
        show OpA _ _ _ _ (lst (L 21) (L 22) (L 23) (L 24) (L 25) (L 28) (f 21) (f 22) (f 23) (f 24) (f 25)) (fun y => lst (L 21) (L 22) (L 23) (L 24) (L 25) (L 28) (f 21) (f 22) (f 23) (f 24) (f 25)) _ _ _
        rw [h23, h24, h25, h28]
        exact OpA.told () rfl (D_q (Q_idx (sz := 2) tabOk rfl rfl rfl rfl rfl rfl rfl rfl (j := j) hj) D_last) rfl
      · exact fun L f hc hl hp => OpA.told () rfl (D_pure tabOk rfl D_last) rfl
      · intro L f hc hl hp
        have h23 := closed_no hc (j := 23) rfl ⟨12, .data⟩ (by simp) rfl hl
        have h24 := closed_no hc (j := 24) rfl ⟨23, .data⟩ (by simp) rfl h23
        have h25 := closed_no hc (j := 25) rfl ⟨24, .data⟩ (by simp) rfl h24
        have h28 := closed_no hc (j := 28) rfl ⟨12, .phase⟩ (by simp) rfl hl
        show OpA _ _ _ _ (lst (L 21) (L 22) (L 23) (L 24) (L 25) (L 28) (f 21) (f 22) (f 23) (f 24) (f 25)) (fun y => lst (L 21) (L 22) (L 23) (L 24) (L 25) (L 28) (f 21) (f 22) (f 23) (f 24) (f 25)) _ _ _
        rw [h23, h24, h25, h28]
        exact OpA.told () rfl (D_load1 tabOk rfl rfl (v := .int .i64 q.to) (fun w' hw => by
          have h1 := row_cellP hw 3 rfl hj 0 _ rfl
          rw [Addr.add_lit] at h1
          rw [hq0]
          exact h1) D_last) rfl
      · exact fun L f hc hl hp => OpA.told () rfl (D_pure tabOk rfl D_last) rfl
      · exact fun L f hc hl hp => OpA.told () rfl (D_pure tabOk rfl D_last) rfl
      · exact fun L f hc hl hp => OpA.told () rfl (D_pure tabOk rfl D_last) rfl
      · intro L f hc hl hp
        have h18 := closed_no hc (j := 18) rfl ⟨16, .data⟩ (by simp) rfl hl
        have h19 := closed_no hc (j := 19) rfl ⟨18, .data⟩ (by simp) rfl h18
        have h20 := closed_no hc (j := 20) rfl ⟨19, .data⟩ (by simp) rfl h19
        have h21 := closed_no hc (j := 21) rfl ⟨20, .data⟩ (by simp) rfl h20
        have h22 := closed_no hc (j := 22) rfl ⟨21, .data⟩ (by simp) rfl h21
        have h23 := closed_no hc (j := 23) rfl ⟨22, .data⟩ (by simp) rfl h22
        have h24 := closed_no hc (j := 24) rfl ⟨23, .data⟩ (by simp) rfl h23
        have h25 := closed_no hc (j := 25) rfl ⟨22, .chain⟩ (by simp) rfl h22
        have h28 := closed_no hc (j := 28) rfl ⟨16, .phase⟩ (by simp) rfl hl
        show OpA _ _ _ _ (lst (L 21) (L 22) (L 23) (L 24) (L 25) (L 28) (f 21) (f 22) (f 23) (f 24) (f 25)) (fun y => lst (L 21) (L 22) (L 23) (L 24) (L 25) (L 28) (f 21) (f 22) (f 23) (f 24) (f 25)) _ _ _
        rw [h21, h22, h23, h24, h25, h28]
        exact OpA.told () rfl (D_load tabOk 1 rfl rfl rfl D_last) rfl
      · exact fun L f hc hl hp => OpA.told () rfl (D_pure tabOk rfl D_last) rfl
      · intro L f hc hl hp
        have h19 := closed_no hc (j := 19) rfl ⟨18, .data⟩ (by simp) rfl hl
        have h20 := closed_no hc (j := 20) rfl ⟨19, .data⟩ (by simp) rfl h19
        have h21 := closed_no hc (j := 21) rfl ⟨20, .data⟩ (by simp) rfl h20
        have h22 := closed_no hc (j := 22) rfl ⟨21, .data⟩ (by simp) rfl h21
        have h23 := closed_no hc (j := 23) rfl ⟨22, .data⟩ (by simp) rfl h22
        have h24 := closed_no hc (j := 24) rfl ⟨23, .data⟩ (by simp) rfl h23
        have h25 := closed_no hc (j := 25) rfl ⟨22, .chain⟩ (by simp) rfl h22
        have h28 := closed_no hc (j := 28) rfl ⟨18, .phase⟩ (by simp) rfl hl
        show OpA _ _ _ _ (lst (L 21) (L 22) (L 23) (L 24) (L 25) (L 28) (f 21) (f 22) (f 23) (f 24) (f 25)) (fun y => lst (L 21) (L 22) (L 23) (L 24) (L 25) (L 28) (f 21) (f 22) (f 23) (f 24) (f 25)) _ _ _
        rw [h21, h22, h23, h24, h25, h28]
        exact OpA.told () rfl (D_q (Q_idx (sz := 2) tabOk rfl rfl rfl rfl rfl rfl rfl rfl (j := j) hj) D_last) rfl
      · exact fun L f hc hl hp => OpA.told () rfl (D_pure tabOk rfl D_last) rfl
      · intro L f hc hl hp
        have h21 := closed_no hc (j := 21) rfl ⟨20, .data⟩ (by simp) rfl hl
        have h22 := closed_no hc (j := 22) rfl ⟨21, .data⟩ (by simp) rfl h21
        have h23 := closed_no hc (j := 23) rfl ⟨22, .data⟩ (by simp) rfl h22
        have h24 := closed_no hc (j := 24) rfl ⟨23, .data⟩ (by simp) rfl h23
        have h25 := closed_no hc (j := 25) rfl ⟨22, .chain⟩ (by simp) rfl h22
        have h28 := closed_no hc (j := 28) rfl ⟨20, .phase⟩ (by simp) rfl hl
        show OpA _ _ _ _ (lst (L 21) (L 22) (L 23) (L 24) (L 25) (L 28) (f 21) (f 22) (f 23) (f 24) (f 25)) (fun y => lst (L 21) (L 22) (L 23) (L 24) (L 25) (L 28) (f 21) (f 22) (f 23) (f 24) (f 25)) _ _ _
        rw [h21, h22, h23, h24, h25, h28]
        exact OpA.told () rfl (D_load1 tabOk rfl rfl (v := .slice q.a q.bs.length q.c) (fun w' hw => by
          have h1 := row_cellP hw 3 rfl hj 1 _ rfl
          rw [Addr.add_lit] at h1
          rw [hq0]
          exact h1) D_last) rfl
      · intro L f hc hl hp
        have h22 := closed_no hc (j := 22) rfl ⟨21, .data⟩ (by simp) rfl hl
        have h23 := closed_no hc (j := 23) rfl ⟨22, .data⟩ (by simp) rfl h22
        have h24 := closed_no hc (j := 24) rfl ⟨23, .data⟩ (by simp) rfl h23
        have h25 := closed_no hc (j := 25) rfl ⟨22, .chain⟩ (by simp) rfl h22
        have h28 := closed_no hc (j := 28) rfl ⟨21, .phase⟩ (by simp) rfl hl
        show OpA _ _ _ _ (lst (L 21) (L 22) (L 23) (L 24) (L 25) (L 28) (f 21) (f 22) (f 23) (f 24) (f 25)) (fun y => lst true (L 22) (L 23) (L 24) (L 25) (L 28) y (f 22) (f 23) (f 24) (f 25)) _ _ _
        rw [hl, h22, h23, h24, h25, h28]
        exact OpA.bsliceR tabOk rfl rfl rfl rfl rfl rfl rfl rfl rfl rfl rfl rfl rfl rfl (fun w1 v hw1 => ⟨(), hw1.fill 4 rfl rfl⟩)
      · intro L f hc hl hp
        have h21 : L 21 = true := hp ⟨21, .data⟩ (by simp) rfl
        have h23 := closed_no hc (j := 23) rfl ⟨22, .data⟩ (by simp) rfl hl
        have h24 := closed_no hc (j := 24) rfl ⟨23, .data⟩ (by simp) rfl h23
        have h25 := closed_no hc (j := 25) rfl ⟨22, .chain⟩ (by simp) rfl hl
        have h28 := closed_no hc (j := 28) rfl ⟨22, .phase⟩ (by simp) rfl hl
        show OpA _ _ _ _ (lst (L 21) (L 22) (L 23) (L 24) (L 25) (L 28) (f 21) (f 22) (f 23) (f 24) (f 25)) (fun y => lst (L 21) true (L 23) (L 24) (L 25) (L 28) (f 21) y (f 23) (f 24) (f 25)) _ _ _
        rw [hl, h21, h23, h24, h25, h28]
        refine OpA.pre (X := ∃ A C, (f 21).1 = .slice A 1 C) (fun w hw => ?_) (fun d h => by cases h; decide) ?_
        · obtain ⟨A, C, e2, _⟩ := hw.rowForm 4 rfl
          exact ⟨A, C, e2⟩
        · rintro ⟨A', C', e2⟩
          refine OpA.callrow rfl Try.call30 (fun w1 vs hw h => by
            obtain ⟨u1, _, rfl, rfl, u2, _, rfl, rfl, rfl⟩ := h
            have hr : w1.ownsRow w0.heap.size 37 1 (f 21).1 1 [.slice q.a q.bs.length q.c] := hw.own _ (getE_mem (i := 4) rfl)
            rw [e2] at hr ⊢
            exact rjoin_ok w1 (Sl.of_own hr) (okP.ints (hw.okP 0 rfl) hq) (by omega)) (fun w1 v hw1 => ⟨(), hw1.fill 5 rfl rfl⟩)
      · intro L f hc hl hp
        have h22 : L 22 = true := hp ⟨22, .data⟩ (by simp) rfl
        have h21 : L 21 = true := hc 22 _ rfl h22 ⟨21, .data⟩ (by simp) rfl
        have h24 := closed_no hc (j := 24) rfl ⟨23, .data⟩ (by simp) rfl hl
        have h25 := closed_no hc (j := 25) rfl ⟨24, .data⟩ (by simp) rfl h24
        have h28 := closed_no hc (j := 28) rfl ⟨23, .phase⟩ (by simp) rfl hl
        show OpA _ _ _ _ (lst (L 21) (L 22) (L 23) (L 24) (L 25) (L 28) (f 21) (f 22) (f 23) (f 24) (f 25)) (fun y => lst (L 21) (L 22) true (L 24) (L 25) (L 28) (f 21) (f 22) y (f 24) (f 25)) _ _ _
        rw [hl, h21, h22, h24, h25, h28]
        refine OpA.pre (X := ∃ A C, (f 22).1 = .slice A q.bs.length C) (fun w hw => ?_) (fun d h => by cases h; decide) ?_
        · obtain ⟨A, C, e2, _⟩ := hw.rowForm 5 rfl
          exact ⟨A, C, e2⟩
        · rintro ⟨A', C', e2⟩
          refine OpA.swap (dl' := [(28, .ex (.int .i64 q.to)), (38, .ex (f 22).1)]) (List.forall_mem_cons.2 ⟨rfl, List.forall_mem_cons.2 ⟨rfl, fun _ h => nomatch h⟩⟩) ?_
          generalize f 22 = x4 at *
          obtain ⟨x4, g4⟩ := x4
          dsimp only at e2
          subst e2
          exact OpA.known () rfl (D_q (Q_build tabOk rfl rfl rfl rfl rfl rfl rfl) D_last) (fun w hw => (hw.addF rfl).fill 6 rfl rfl)
      · intro L f hc hl hp
        have h23 : L 23 = true := hp ⟨23, .data⟩ (by simp) rfl
        have h22 : L 22 = true := hc 23 _ rfl h23 ⟨22, .data⟩ (by simp) rfl
        have h21 : L 21 = true := hc 22 _ rfl h22 ⟨21, .data⟩ (by simp) rfl
        have h25 := closed_no hc (j := 25) rfl ⟨24, .data⟩ (by simp) rfl hl
        have h28 := closed_no hc (j := 28) rfl ⟨24, .phase⟩ (by simp) rfl hl
        show OpA _ _ _ _ (lst (L 21) (L 22) (L 23) (L 24) (L 25) (L 28) (f 21) (f 22) (f 23) (f 24) (f 25)) (fun y => lst (L 21) (L 22) (L 23) true (L 25) (L 28) (f 21) (f 22) (f 23) y (f 25)) _ _ _
        rw [hl, h21, h22, h23, h25, h28]
        refine OpA.pre (X := (∃ A C, (f 22).1 = .slice A q.bs.length C) ∧ (f 23).1 = .agg ⟨[.int .i64 q.to, (f 22).1]⟩) (fun w hw => ?_) (fun d h => by cases h; decide) ?_
        · obtain ⟨A, C, e2, _⟩ := hw.rowForm 5 rfl
          exact ⟨⟨A, C, e2⟩, hw.fact 6 rfl⟩
        · rintro ⟨⟨A', C', e2⟩, e3⟩
          refine OpA.swap (dl' := [(39, .ex (f 23).1)]) (List.forall_mem_cons.2 ⟨rfl, fun _ h => nomatch h⟩) ?_
          generalize f 22 = x4 at *
          generalize f 23 = x5 at *
          obtain ⟨x4, g4⟩ := x4
          obtain ⟨x5, g5⟩ := x5
          dsimp only at e2 e3
          subst e2
          subst e3
          exact OpA.bsliceR tabOk rfl rfl rfl rfl rfl rfl rfl rfl rfl rfl rfl rfl rfl rfl (fun w1 v hw1 => ⟨(), hw1.fill 7 rfl rfl⟩)
      · intro L f hc hl hp
        have h22 : L 22 = true := hp ⟨22, .chain⟩ (by simp) rfl
        have h21 : L 21 = true := hc 22 _ rfl h22 ⟨21, .data⟩ (by simp) rfl
        have h24 : L 24 = true := hp ⟨24, .data⟩ (by simp) rfl
        have h23 : L 23 = true := hc 24 _ rfl h24 ⟨23, .data⟩ (by simp) rfl
        have h28 := closed_no hc (j := 28) rfl ⟨25, .data⟩ (by simp) rfl hl
        show OpA _ _ _ _ (lst (L 21) (L 22) (L 23) (L 24) (L 25) (L 28) (f 21) (f 22) (f 23) (f 24) (f 25)) (fun y => lst (L 21) (L 22) (L 23) (L 24) true (L 28) (f 21) (f 22) (f 23) (f 24) y) _ _ _
        rw [hl, h21, h22, h23, h24, h28]
        refine OpA.pre (X := (∃ A C, (f 24).1 = .slice A 1 C) ∧ ∃ A C, (f 22).1 = .slice A q.bs.length C) (fun w hw => ?_) (fun d h => by cases h; decide) ?_
        · obtain ⟨A, C, e2, _⟩ := hw.rowForm 7 rfl
          obtain ⟨A1, C1, e3, _⟩ := hw.rowForm 5 rfl
          exact ⟨⟨A, C, e2⟩, A1, C1, e3⟩
        · rintro ⟨⟨A', C', e2⟩, A1, C1, e3⟩
          generalize hx7 : f 24 = x7
          rw [hx7] at e2
          obtain ⟨x7, g7⟩ := x7
          dsimp only at e2
          subst e2
          generalize f 22 = x4 at *
          obtain ⟨x4, g4⟩ := x4
          dsimp only at e3
          subst e3
          refine OpA.ofS (l := [(20, .slice la Ln.length lc), (40, .slice A' 1 C')]) rfl (by decide) (.cons rfl rfl (.cons rfl (by show some (Ent.ex (f 24).1) = _; rw [hx7]) .nil)) ?_
          refine S_append (ty := 0) tabOk 2 (m := Ln.length) (v := .slice la Ln.length lc) (xs := cellsP Ln) (news := [.int .i64 q.to, .slice A1 q.bs.length C1]) rfl rfl rfl rfl rfl rfl rfl rfl rfl (by decide) (fun w' hw => Sl.of_own (hw.own _ (getE_mem (i := 7) rfl))) (by intro u hu; simp only [List.mem_cons, List.not_mem_nil, or_false] at hu; rcases hu with rfl | rfl <;> rfl) (by simp only [maxLen]; omega) (by show (_ + _) * 32 ≤ _; omega) rfl (fun AS CS hcS hdS => ⟨_, rfl, ?_⟩)
          refine S_nil ?_
          exact ⟨_, (), rfl, (fun u h => by cases h), fun w hw => hw⟩
      · exact fun L f hc hl hp => OpA.told () rfl (D_pure tabOk rfl D_last) rfl
      · exact fun L f hc hl hp => OpA.told () rfl (D_pure tabOk rfl D_last) rfl
      · intro L f hc hl hp
        have h21 : L 21 = true := hp ⟨21, .phase⟩ (by simp) rfl
        have h22 : L 22 = true := hp ⟨22, .phase⟩ (by simp) rfl
        have h23 : L 23 = true := hp ⟨23, .phase⟩ (by simp) rfl
        have h24 : L 24 = true := hp ⟨24, .phase⟩ (by simp) rfl
        have h25 : L 25 = true := hp ⟨25, .data⟩ (by simp) rfl
        show OpA _ _ _ _ (lst (L 21) (L 22) (L 23) (L 24) (L 25) (L 28) (f 21) (f 22) (f 23) (f 24) (f 25)) (fun y => lst (L 21) (L 22) (L 23) (L 24) (L 25) true (f 21) (f 22) (f 23) (f 24) (f 25)) _ _ _
        rw [hl, h21, h22, h23, h24, h25]
        refine OpA.pre (X := ∃ A C, (f 25).1 = .slice A (Ln.length + 1) C) (fun w hw => ?_) (fun d h => by cases h) ?_
        · obtain ⟨A, C, e2, _⟩ := hw.rowForm 2 rfl
          exact ⟨A, C, e2⟩
        · rintro ⟨A', C', e2⟩
          refine OpA.swap (dl' := [(43, .ex (.pointer (some ⟨b, 0, none⟩))), (41, .ex (f 25).1)]) (List.forall_mem_cons.2 ⟨rfl, List.forall_mem_cons.2 ⟨rfl, fun _ h => nomatch h⟩⟩) ?_
          generalize f 25 = x8 at *
          obtain ⟨x8, g8⟩ := x8
          dsimp only at e2
          subst e2
          exact OpS.toF () (fun u h => by cases h) (OpS.store tabOk 1 rfl rfl (fun u h => by rw [List.mem_singleton] at h; subst h; rfl) rfl rfl rfl)
    · intro L f w5 hL hw
      change Hp _ _ (lst (L 21) (L 22) (L 23) (L 24) (L 25) (L 28) (f 21) (f 22) (f 23) (f 24) (f 25)) at hw
      rw [hL 21 (by decide), hL 22 (by decide), hL 23 (by decide), hL 24 (by decide), hL 25 (by decide), hL 28 (by decide)] at hw
      obtain ⟨A0, C0, e2, _⟩ := hw.rowForm 2 rfl
      generalize f 25 = x8 at hw e2 ⊢
      obtain ⟨x8, g8⟩ := x8
      have e3 : x8 = .slice A0 (Ln.length + 1) C0 := e2
      subst e3
      clear e2
      obtain ⟨Y0, Z0, e2, _⟩ := hw.rowForm 5 rfl
      generalize f 22 = x8 at hw e2 ⊢
      obtain ⟨x8, g8⟩ := x8
      have e3 : x8 = .slice Y0 q.bs.length Z0 := e2
      subst e3
      clear e2
      obtain ⟨G2, hw8⟩ := Hp.snocK (p := (⟨q.to, q.bs, Y0, Z0⟩ : Pk)) (hw.perm (pmL6 ..)) hqt hqb hqf
      have hw9 : Hp w0 w5 (knE w0 (K ++ [(⟨q.to, q.bs, Y0, Z0⟩ : Pk)]) G2 :: nbE 69 b A0 (Ln ++ [(⟨q.to, q.bs, Y0, Z0⟩ : Pk)]).length C0 (some ⟨g, 0, none⟩) Sn.length sc :: rowP w0 133 A0 C0 (Ln ++ [(⟨q.to, q.bs, Y0, Z0⟩ : Pk)]) :: rowP w0 133 (some ⟨g, 0, none⟩) sc Sn :: rest) := by
        unfold nbE rowP
        rw [cellsP_snoc Ln (⟨q.to, q.bs, Y0, Z0⟩ : Pk), show (Ln ++ [(⟨q.to, q.bs, Y0, Z0⟩ : Pk)]).length = Ln.length + 1 from List.length_append]
        exact hw8.less (by repeat (first | refine Less.keep ?_ | refine Less.dropR ?_ | refine Less.dropW (Nat.le_refl _) ?_ | exact Less.same _))
      refine ⟨[], _, SubD.nil, hw9, ?_⟩
      repeat (first | refine T_seq ?_ | refine T_region ?_ | refine S_nil ?_ | refine T_ret ?_ | refine S_pure tabOk rfl ?_)
      refine ret1 rfl rfl (fun w' hw => ⟨_, _, ⟨A0, C0, (some ⟨g, 0, none⟩), sc, Ln ++ [(⟨q.to, q.bs, Y0, Z0⟩ : Pk)], Sn⟩, rfl, hw.less (by repeat (first | refine Less.keep ?_ | exact Less.same _)), ⟨fun p hp => ?_, fun p hp => List.mem_append_left _ (hN.s p hp), ?_, Nat.le_succ_of_le hN.sn⟩, fun _ h => List.mem_append_left _ h, ?_⟩)
      · rcases List.mem_append.1 hp with hp | hp
        · exact List.mem_append_left _ (hN.l p hp)
        · exact List.mem_append_right _ hp
      · show (Ln ++ [_]).length ≤ _
        rw [List.length_append]
        show Ln.length + 1 ≤ _
        omega
      · unfold repV
        rw [if_pos (by rw [show (Nt.v ⟨_, lc, _, sc, Ln, Sn⟩).2.length = Sn.length from List.length_map _]; exact he)]
        unfold Nt.v
        dsimp only
        rw [List.map_append, Int.toNat_natCast, List.getD_eq_getElem?_getD, List.getElem?_map, List.getElem?_eq_getElem hj, hq0]
        rfl
set_option maxHeartbeats 4000000 in
theorem rforge_ok {w0 w : World} {b : Nat} {K : List Pk} {G : Nat → Prop} {N : Nt} {rest : OL} {k : Nat} {q : Pk} (h : NetH w0 w 69 133 b K G N rest) (hN : N.ok K k) (hk : k ≤ 1000) (hp : q ∈ K) : Calls Try.prog 75 #[.pointer (some ⟨b, 0, none⟩), .agg ⟨cellP q⟩] w fun e w' => ∃ K' G' N', e = .returned (.int .i64 (forE N.v q.v)) ∧ NetQ w0 w' 69 133 b K N rest (k + 1) (forV N.v q.v) K' G' N' := by
  have hq : q ∈ K := hp
  obtain ⟨hqt, hqb, hqf⟩ : Fits .i64 q.to ∧ q.bs.length ≤ 70000 ∧ ∀ z ∈ q.bs, Fits .u8 z := by
    have := (h.own _ List.mem_cons_self).1.1 q hp
    exact ⟨this.1, this.2.1, this.2.2.ints.fits⟩
  obtain ⟨la, lc, sa, sc, Ln, Sn⟩ := N
  have hln := hN.ln
  have hsn := hN.sn
  dsimp only at hln hsn
  have hno : ¬ (errV q.v = 0 ∧ honV (Sn.map Pk.v) q.bs = true) → forV (Nt.v ⟨la, lc, sa, sc, Ln, Sn⟩) q.v = Nt.v ⟨la, lc, sa, sc, Ln, Sn⟩ := fun he => by
    unfold forV
    rw [if_neg (by exact he)]
  refine enterW2 Try.func75 rfl rfl h ?_
  repeat (first | refine T_seq ?_ | refine T_region ?_)
  refine S_new tabOk rfl (fun b3 hb3 => ?_)
  repeat (first | refine T_seq ?_ | refine T_region ?_ | refine S_nil ?_ | refine S_pure tabOk rfl ?_ | refine S_load tabOk 0 rfl rfl rfl ?_)
  refine S_callq rfl Try.call107 (fun w1 h1 => rerr_ok q w1) ?_
  repeat (first | refine T_seq ?_ | refine T_region ?_ | refine S_nil ?_ | refine S_pure tabOk rfl ?_)
  refine T_cond_dec rfl (fun he => ?_) (fun he => ?_)
  · have e : forE (Nt.v ⟨la, lc, sa, sc, Ln, Sn⟩) q.v = errV q.v := by unfold forE; rw [if_pos he]
    rw [e]
    repeat (first | refine T_seq ?_ | refine T_region ?_ | refine S_nil ?_ | refine pthen_ret ?_ | refine T_ret ?_ | refine S_pure tabOk rfl ?_)
    exact ret1 rfl rfl (fun w' hw => ⟨K, G, ⟨la, lc, sa, sc, Ln, Sn⟩, rfl, hw.less (by repeat (first | refine Less.keep ?_ | refine Less.dropB (by first | assumption | omega) ?_ | exact Less.same _)), ⟨hN.l, hN.s, Nat.le_succ_of_le hN.ln, Nat.le_succ_of_le hN.sn⟩, fun _ h => h, (hno fun h => he h.1).symm⟩)
  have he0 : errV q.v = 0 := Decidable.not_not.1 he
  repeat (first | refine T_seq ?_ | refine T_region ?_ | refine pthen_normal ?_ | refine T_skip ?_ | refine S_pure tabOk rfl ?_ | refine S_load tabOk 0 rfl rfl rfl ?_)
  refine S_callq (v := .bool (honV (Sn.map Pk.v) q.bs)) rfl Try.call106 (fun w1 h1 => rhonest_ok w1 (h1.own _ (getE_mem (i := 2) rfl)) (pk_slr (h1.own _ (getE_mem (i := 4) rfl)) (h1.okP 1 rfl) hN.s) (okP.ints (h1.okP 1 rfl) hp)) ?_
  repeat (first | refine S_nil ?_ | refine S_pure tabOk rfl ?_)
  cases hh : honV (Sn.map Pk.v) q.bs with
  | false =>
    have e : forE (Nt.v ⟨la, lc, sa, sc, Ln, Sn⟩) q.v = 11 := by
      unfold forE
      rw [if_neg he, if_neg (fun h => by have h2 : honV (Sn.map Pk.v) q.bs = true := h; rw [hh] at h2; cases h2)]
    rw [e]
    refine T_cond_t rfl ?_
    repeat (first | refine T_seq ?_ | refine T_region ?_ | refine S_nil ?_ | refine pthen_ret ?_ | refine T_ret ?_ | refine S_pure tabOk rfl ?_)
    exact ret1 rfl rfl (fun w' hw => ⟨K, G, ⟨la, lc, sa, sc, Ln, Sn⟩, rfl, hw.less (by repeat (first | refine Less.keep ?_ | refine Less.dropB (by first | assumption | omega) ?_ | exact Less.same _)), ⟨hN.l, hN.s, Nat.le_succ_of_le hN.ln, Nat.le_succ_of_le hN.sn⟩, fun _ h => h, (hno fun h => by rw [hh] at h; cases h.2).symm⟩)
  | true =>
    have e : forE (Nt.v ⟨la, lc, sa, sc, Ln, Sn⟩) q.v = 0 := by
      unfold forE
      rw [if_neg he, if_pos (by exact hh)]
    rw [e]
    refine T_cond_f rfl ?_
    repeat (first | refine T_seq ?_ | refine pthen_normal ?_ | refine T_skip ?_)
    refine T_toX (ι := Unit) (fun _ => True) (fun _ => knE w0 K G :: nbE 69 b la Ln.length lc sa Sn.length sc :: rowP w0 133 la lc Ln :: rowP w0 133 sa sc Sn :: .blk b3 (.cells ⟨cellP q⟩ 133 (0, 0)) true :: factE True :: factE True :: factE True :: factE True :: rest) (fun w hw => ⟨(), trivial, (hw.fills.fills.fills.fills).perm (pmL5 ..)⟩) (fun _ _ => ?_)
    let lst : Bool → Bool → Bool → Bool → Bool → Bool → Value × (Unit) → Value × (Unit) → Value × (Unit) → Value × (Unit) → Value × (Unit) → OL := fun l9 l10 l11 l12 l13 l16 x9 x10 x11 x12 x13 =>
      knE w0 K G :: .blk b (.cells ⟨[cond l16 x13.1 (.slice la Ln.length lc), .slice sa Sn.length sc]⟩ 69 (0, 0)) true :: .row w0.heap.size (cond l13 x13.1 (.slice la Ln.length lc)) 133 2 (cond l13 (Ln.length + 1) Ln.length) (cond l13 (cellsP Ln ++ [.int .i64 q.to, x10.1]) (cellsP Ln)) :: rowP w0 133 sa sc Sn :: .blk b3 (.cells ⟨cellP q⟩ 133 (0, 0)) true :: (cond l9 (.row w0.heap.size x9.1 37 1 1 [.slice q.a q.bs.length q.c]) (factE True)) :: (cond l10 (.row w0.heap.size x10.1 5 1 q.bs.length (q.bs.map (.int .u8))) (factE True)) :: (cond l11 (factE (x11.1 = .agg ⟨[.int .i64 q.to, x10.1]⟩)) (factE True)) :: (cond l12 (.row w0.heap.size x12.1 133 2 1 [.int .i64 q.to, x10.1]) (factE True)) :: rest
    refine T_drawF (γ := Unit) (by kernel_rfl) (by kernel_rfl) () (fun L f => lst (L 9) (L 10) (L 11) (L 12) (L 13) (L 16) (f 9) (f 10) (f 11) (f 12) (f 13)) rfl [some (.pointer (some ⟨b, 0, none⟩)), some (.pointer (some ⟨b, 0, none⟩)), some (.pointer (some ⟨b, 0, none⟩)), some (.pointer (some ⟨b, 0, none⟩)), some (.slice la Ln.length lc), some (.pointer (some ⟨b3, 0, none⟩)), some (.int .i64 q.to), some (.pointer (some ⟨b3, 1, none⟩)), some (.slice q.a q.bs.length q.c), none, none, none, none, none, some (.pointer (some ⟨b, 0, none⟩)), some (.pointer (some ⟨b, 0, none⟩)), none] ?_ ?_
    · refine ⟨?_, ?_, ?_, ?_, ?_, ?_, ?_, ?_, ?_, ?_, ?_, ?_, ?_, ?_, ?_, ?_, ?_, trivial⟩
      · exact fun L f hc hl hp => OpA.told () rfl (D_pure tabOk rfl D_last) rfl
      · exact fun L f hc hl hp => OpA.told () rfl (D_pure tabOk rfl D_last) rfl
      · exact fun L f hc hl hp => OpA.told () rfl (D_pure tabOk rfl D_last) rfl
      · exact fun L f hc hl hp => OpA.told () rfl (D_pure tabOk rfl D_last) rfl
      · intro L f hc hl hp
        have h13 := closed_no hc (j := 13) rfl ⟨4, .data⟩ (by simp) rfl hl
        have h16 := closed_no hc (j := 16) rfl ⟨4, .phase⟩ (by simp) rfl hl
        show OpA _ _ _ _ (lst (L 9) (L 10) (L 11) (L 12) (L 13) (L 16) (f 9) (f 10) (f 11) (f 12) (f 13)) (fun y => lst (L 9) (L 10) (L 11) (L 12) (L 13) (L 16) (f 9) (f 10) (f 11) (f 12) (f 13)) _ _ _
        rw [h13, h16]
        exact OpA.told () rfl (D_load tabOk 1 rfl rfl rfl D_last) rfl
      · exact fun L f hc hl hp => OpA.told () rfl (D_pure tabOk rfl D_last) rfl
      · intro L f hc hl hp
        have h11 := closed_no hc (j := 11) rfl ⟨6, .data⟩ (by simp) rfl hl
        have h12 := closed_no hc (j := 12) rfl ⟨11, .data⟩ (by simp) rfl h11
        have h13 := closed_no hc (j := 13) rfl ⟨12, .data⟩ (by simp) rfl h12
        have h16 := closed_no hc (j := 16) rfl ⟨6, .phase⟩ (by simp) rfl hl
        show OpA _ _ _ _ (lst (L 9) (L 10) (L 11) (L 12) (L 13) (L 16) (f 9) (f 10) (f 11) (f 12) (f 13)) (fun y => lst (L 9) (L 10) (L 11) (L 12) (L 13) (L 16) (f 9) (f 10) (f 11) (f 12) (f 13)) _ _ _
        rw [h11, h12, h13, h16]
        exact OpA.told () rfl (D_load tabOk 4 rfl rfl rfl D_last) rfl
      · exact fun L f hc hl hp => OpA.told () rfl (D_pure tabOk rfl D_last) rfl
      · intro L f hc hl hp
        have h9 := closed_no hc (j := 9) rfl ⟨8, .data⟩ (by simp) rfl hl
        have h10 := closed_no hc (j := 10) rfl ⟨9, .data⟩ (by simp) rfl h9
        have h11 := closed_no hc (j := 11) rfl ⟨10, .data⟩ (by simp) rfl h10
        have h12 := closed_no hc (j := 12) rfl ⟨11, .data⟩ (by simp) rfl h11
        have h13 := closed_no hc (j := 13) rfl ⟨10, .chain⟩ (by simp) rfl h10
        have h16 := closed_no hc (j := 16) rfl ⟨8, .phase⟩ (by simp) rfl hl
        show OpA _ _ _ _ (lst (L 9) (L 10) (L 11) (L 12) (L 13) (L 16) (f 9) (f 10) (f 11) (f 12) (f 13)) (fun y => lst (L 9) (L 10) (L 11) (L 12) (L 13) (L 16) (f 9) (f 10) (f 11) (f 12) (f 13)) _ _ _
        rw [h9, h10, h11, h12, h13, h16]
        exact OpA.told () rfl (D_load tabOk 4 rfl rfl rfl D_last) rfl
      · intro L f hc hl hp
        have h10 := closed_no hc (j := 10) rfl ⟨9, .data⟩ (by simp) rfl hl
        have h11 := closed_no hc (j := 11) rfl ⟨10, .data⟩ (by simp) rfl h10
        have h12 := closed_no hc (j := 12) rfl ⟨11, .data⟩ (by simp) rfl h11
        have h13 := closed_no hc (j := 13) rfl ⟨10, .chain⟩ (by simp) rfl h10
        have h16 := closed_no hc (j := 16) rfl ⟨9, .phase⟩ (by simp) rfl hl
        show OpA _ _ _ _ (lst (L 9) (L 10) (L 11) (L 12) (L 13) (L 16) (f 9) (f 10) (f 11) (f 12) (f 13)) (fun y => lst true (L 10) (L 11) (L 12) (L 13) (L 16) y (f 10) (f 11) (f 12) (f 13)) _ _ _
        rw [hl, h10, h11, h12, h13, h16]
        exact OpA.bsliceR tabOk rfl rfl rfl rfl rfl rfl rfl rfl rfl rfl rfl rfl rfl rfl (fun w1 v hw1 => ⟨(), hw1.fill 5 rfl rfl⟩)
      · intro L f hc hl hp
        have h9 : L 9 = true := hp ⟨9, .data⟩ (by simp) rfl
        have h11 := closed_no hc (j := 11) rfl ⟨10, .data⟩ (by simp) rfl hl
        have h12 := closed_no hc (j := 12) rfl ⟨11, .data⟩ (by simp) rfl h11
        have h13 := closed_no hc (j := 13) rfl ⟨10, .chain⟩ (by simp) rfl hl
        have h16 := closed_no hc (j := 16) rfl ⟨10, .phase⟩ (by simp) rfl hl
        show OpA _ _ _ _ (lst (L 9) (L 10) (L 11) (L 12) (L 13) (L 16) (f 9) (f 10) (f 11) (f 12) (f 13)) (fun y => lst (L 9) true (L 11) (L 12) (L 13) (L 16) (f 9) y (f 11) (f 12) (f 13)) _ _ _
        rw [hl, h9, h11, h12, h13, h16]
        refine OpA.pre (X := ∃ A C, (f 9).1 = .slice A 1 C) (fun w hw => ?_) (fun d h => by cases h; decide) ?_
        · obtain ⟨A, C, e2, _⟩ := hw.rowForm 5 rfl
          exact ⟨A, C, e2⟩
        · rintro ⟨A', C', e2⟩
          refine OpA.callrow rfl Try.call30 (fun w1 vs hw h => by
            obtain ⟨u1, _, rfl, rfl, u2, _, rfl, rfl, rfl⟩ := h
            have hr : w1.ownsRow w0.heap.size 37 1 (f 9).1 1 [.slice q.a q.bs.length q.c] := hw.own _ (getE_mem (i := 5) rfl)
            rw [e2] at hr ⊢
            exact rjoin_ok w1 (Sl.of_own hr) (okP.ints (hw.okP 0 rfl) hq) (by omega)) (fun w1 v hw1 => ⟨(), hw1.fill 6 rfl rfl⟩)
      · intro L f hc hl hp
        have h10 : L 10 = true := hp ⟨10, .data⟩ (by simp) rfl
        have h9 : L 9 = true := hc 10 _ rfl h10 ⟨9, .data⟩ (by simp) rfl
        have h12 := closed_no hc (j := 12) rfl ⟨11, .data⟩ (by simp) rfl hl
        have h13 := closed_no hc (j := 13) rfl ⟨12, .data⟩ (by simp) rfl h12
        have h16 := closed_no hc (j := 16) rfl ⟨11, .phase⟩ (by simp) rfl hl
        show OpA _ _ _ _ (lst (L 9) (L 10) (L 11) (L 12) (L 13) (L 16) (f 9) (f 10) (f 11) (f 12) (f 13)) (fun y => lst (L 9) (L 10) true (L 12) (L 13) (L 16) (f 9) (f 10) y (f 12) (f 13)) _ _ _
        rw [hl, h9, h10, h12, h13, h16]
        refine OpA.pre (X := ∃ A C, (f 10).1 = .slice A q.bs.length C) (fun w hw => ?_) (fun d h => by cases h; decide) ?_
        · obtain ⟨A, C, e2, _⟩ := hw.rowForm 6 rfl
          exact ⟨A, C, e2⟩
        · rintro ⟨A', C', e2⟩
          refine OpA.swap (dl' := [(22, .ex (.int .i64 q.to)), (26, .ex (f 10).1)]) (List.forall_mem_cons.2 ⟨rfl, List.forall_mem_cons.2 ⟨rfl, fun _ h => nomatch h⟩⟩) ?_
          generalize f 10 = x4 at *
          obtain ⟨x4, g4⟩ := x4
          dsimp only at e2
          subst e2
          exact OpA.known () rfl (D_q (Q_build tabOk rfl rfl rfl rfl rfl rfl rfl) D_last) (fun w hw => (hw.addF rfl).fill 7 rfl rfl)
      · intro L f hc hl hp
        have h11 : L 11 = true := hp ⟨11, .data⟩ (by simp) rfl
        have h10 : L 10 = true := hc 11 _ rfl h11 ⟨10, .data⟩ (by simp) rfl
        have h9 : L 9 = true := hc 10 _ rfl h10 ⟨9, .data⟩ (by simp) rfl
        have h13 := closed_no hc (j := 13) rfl ⟨12, .data⟩ (by simp) rfl hl
        have h16 := closed_no hc (j := 16) rfl ⟨12, .phase⟩ (by simp) rfl hl
        show OpA _ _ _ _ (lst (L 9) (L 10) (L 11) (L 12) (L 13) (L 16) (f 9) (f 10) (f 11) (f 12) (f 13)) (fun y => lst (L 9) (L 10) (L 11) true (L 13) (L 16) (f 9) (f 10) (f 11) y (f 13)) _ _ _
        rw [hl, h9, h10, h11, h13, h16]
        refine OpA.pre (X := (∃ A C, (f 10).1 = .slice A q.bs.length C) ∧ (f 11).1 = .agg ⟨[.int .i64 q.to, (f 10).1]⟩) (fun w hw => ?_) (fun d h => by cases h; decide) ?_
        · obtain ⟨A, C, e2, _⟩ := hw.rowForm 6 rfl
          exact ⟨⟨A, C, e2⟩, hw.fact 7 rfl⟩
        · rintro ⟨⟨A', C', e2⟩, e3⟩
          refine OpA.swap (dl' := [(27, .ex (f 11).1)]) (List.forall_mem_cons.2 ⟨rfl, fun _ h => nomatch h⟩) ?_
          generalize f 10 = x4 at *
          generalize f 11 = x5 at *
          obtain ⟨x4, g4⟩ := x4
          obtain ⟨x5, g5⟩ := x5
          dsimp only at e2 e3
          subst e2
          subst e3
          exact OpA.bsliceR tabOk rfl rfl rfl rfl rfl rfl rfl rfl rfl rfl rfl rfl rfl rfl (fun w1 v hw1 => ⟨(), hw1.fill 8 rfl rfl⟩)
      · intro L f hc hl hp
        have h10 : L 10 = true := hp ⟨10, .chain⟩ (by simp) rfl
        have h9 : L 9 = true := hc 10 _ rfl h10 ⟨9, .data⟩ (by simp) rfl
        have h12 : L 12 = true := hp ⟨12, .data⟩ (by simp) rfl
        have h11 : L 11 = true := hc 12 _ rfl h12 ⟨11, .data⟩ (by simp) rfl
        have h16 := closed_no hc (j := 16) rfl ⟨13, .data⟩ (by simp) rfl hl
        show OpA _ _ _ _ (lst (L 9) (L 10) (L 11) (L 12) (L 13) (L 16) (f 9) (f 10) (f 11) (f 12) (f 13)) (fun y => lst (L 9) (L 10) (L 11) (L 12) true (L 16) (f 9) (f 10) (f 11) (f 12) y) _ _ _
        rw [hl, h9, h10, h11, h12, h16]
        refine OpA.pre (X := (∃ A C, (f 12).1 = .slice A 1 C) ∧ ∃ A C, (f 10).1 = .slice A q.bs.length C) (fun w hw => ?_) (fun d h => by cases h; decide) ?_
        · obtain ⟨A, C, e2, _⟩ := hw.rowForm 8 rfl
          obtain ⟨A1, C1, e3, _⟩ := hw.rowForm 6 rfl
          exact ⟨⟨A, C, e2⟩, A1, C1, e3⟩
        · rintro ⟨⟨A', C', e2⟩, A1, C1, e3⟩
          generalize hx7 : f 12 = x7
          rw [hx7] at e2
          obtain ⟨x7, g7⟩ := x7
          dsimp only at e2
          subst e2
          generalize f 10 = x4 at *
          obtain ⟨x4, g4⟩ := x4
          dsimp only at e3
          subst e3
          refine OpA.ofS (l := [(20, .slice la Ln.length lc), (28, .slice A' 1 C')]) rfl (by decide) (.cons rfl rfl (.cons rfl (by show some (Ent.ex (f 12).1) = _; rw [hx7]) .nil)) ?_
          refine S_append (ty := 0) tabOk 2 (m := Ln.length) (v := .slice la Ln.length lc) (xs := cellsP Ln) (news := [.int .i64 q.to, .slice A1 q.bs.length C1]) rfl rfl rfl rfl rfl rfl rfl rfl rfl (by decide) (fun w' hw => Sl.of_own (hw.own _ (getE_mem (i := 8) rfl))) (by intro u hu; simp only [List.mem_cons, List.not_mem_nil, or_false] at hu; rcases hu with rfl | rfl <;> rfl) (by simp only [maxLen]; omega) (by show (_ + _) * 32 ≤ _; omega) rfl (fun AS CS hcS hdS => ⟨_, rfl, ?_⟩)
          refine S_nil ?_
          exact ⟨_, (), rfl, (fun u h => by cases h), fun w hw => hw⟩
      · exact fun L f hc hl hp => OpA.told () rfl (D_pure tabOk rfl D_last) rfl
      · exact fun L f hc hl hp => OpA.told () rfl (D_pure tabOk rfl D_last) rfl
      · intro L f hc hl hp
        have h9 : L 9 = true := hp ⟨9, .phase⟩ (by simp) rfl
        have h10 : L 10 = true := hp ⟨10, .phase⟩ (by simp) rfl
        have h11 : L 11 = true := hp ⟨11, .phase⟩ (by simp) rfl
        have h12 : L 12 = true := hp ⟨12, .phase⟩ (by simp) rfl
        have h13 : L 13 = true := hp ⟨13, .data⟩ (by simp) rfl
        show OpA _ _ _ _ (lst (L 9) (L 10) (L 11) (L 12) (L 13) (L 16) (f 9) (f 10) (f 11) (f 12) (f 13)) (fun y => lst (L 9) (L 10) (L 11) (L 12) (L 13) true (f 9) (f 10) (f 11) (f 12) (f 13)) _ _ _
        rw [hl, h9, h10, h11, h12, h13]
        refine OpA.pre (X := ∃ A C, (f 13).1 = .slice A (Ln.length + 1) C) (fun w hw => ?_) (fun d h => by cases h) ?_
        · obtain ⟨A, C, e2, _⟩ := hw.rowForm 2 rfl
          exact ⟨A, C, e2⟩
        · rintro ⟨A', C', e2⟩
          refine OpA.swap (dl' := [(31, .ex (.pointer (some ⟨b, 0, none⟩))), (29, .ex (f 13).1)]) (List.forall_mem_cons.2 ⟨rfl, List.forall_mem_cons.2 ⟨rfl, fun _ h => nomatch h⟩⟩) ?_
          generalize f 13 = x8 at *
          obtain ⟨x8, g8⟩ := x8
          dsimp only at e2
          subst e2
          exact OpS.toF () (fun u h => by cases h) (OpS.store tabOk 1 rfl rfl (fun u h => by rw [List.mem_singleton] at h; subst h; rfl) rfl rfl rfl)
    · intro L f w5 hL hw
      change Hp _ _ (lst (L 9) (L 10) (L 11) (L 12) (L 13) (L 16) (f 9) (f 10) (f 11) (f 12) (f 13)) at hw
      rw [hL 9 (by decide), hL 10 (by decide), hL 11 (by decide), hL 12 (by decide), hL 13 (by decide), hL 16 (by decide)] at hw
      obtain ⟨A0, C0, e2, _⟩ := hw.rowForm 2 rfl
      generalize f 13 = x8 at hw e2 ⊢
      obtain ⟨x8, g8⟩ := x8
      have e3 : x8 = .slice A0 (Ln.length + 1) C0 := e2
      subst e3
      clear e2
      obtain ⟨Y0, Z0, e2, _⟩ := hw.rowForm 6 rfl
      generalize f 10 = x8 at hw e2 ⊢
      obtain ⟨x8, g8⟩ := x8
      have e3 : x8 = .slice Y0 q.bs.length Z0 := e2
      subst e3
      clear e2
      obtain ⟨G2, hw8⟩ := Hp.snocK (p := (⟨q.to, q.bs, Y0, Z0⟩ : Pk)) (hw.perm (pmL7 ..)) hqt hqb hqf
      have hw9 : Hp w0 w5 (knE w0 (K ++ [(⟨q.to, q.bs, Y0, Z0⟩ : Pk)]) G2 :: nbE 69 b A0 (Ln ++ [(⟨q.to, q.bs, Y0, Z0⟩ : Pk)]).length C0 sa Sn.length sc :: rowP w0 133 A0 C0 (Ln ++ [(⟨q.to, q.bs, Y0, Z0⟩ : Pk)]) :: rowP w0 133 sa sc Sn :: rest) := by
        unfold nbE rowP
        rw [cellsP_snoc Ln (⟨q.to, q.bs, Y0, Z0⟩ : Pk), show (Ln ++ [(⟨q.to, q.bs, Y0, Z0⟩ : Pk)]).length = Ln.length + 1 from List.length_append]
        exact hw8.less (by repeat (first | refine Less.keep ?_ | refine Less.dropR ?_ | refine Less.dropB (by first | assumption | omega) ?_ | refine Less.dropW (Nat.le_refl _) ?_ | exact Less.same _))
      refine ⟨[], _, SubD.nil, hw9, ?_⟩
      repeat (first | refine T_seq ?_ | refine T_region ?_ | refine S_nil ?_ | refine T_ret ?_ | refine S_pure tabOk rfl ?_)
      refine ret1 rfl rfl (fun w' hw => ⟨_, _, ⟨A0, C0, sa, sc, Ln ++ [(⟨q.to, q.bs, Y0, Z0⟩ : Pk)], Sn⟩, rfl, hw.less (by repeat (first | refine Less.keep ?_ | exact Less.same _)), ⟨fun p hp => ?_, fun p hp => List.mem_append_left _ (hN.s p hp), ?_, Nat.le_succ_of_le hN.sn⟩, fun _ h => List.mem_append_left _ h, ?_⟩)
      · rcases List.mem_append.1 hp with hp | hp
        · exact List.mem_append_left _ (hN.l p hp)
        · exact List.mem_append_right _ hp
      · show (Ln ++ [_]).length ≤ _
        rw [List.length_append]
        show Ln.length + 1 ≤ _
        omega
      · unfold forV
        rw [if_pos ⟨he0, by exact hh⟩]
        unfold Nt.v
        dsimp only
        rw [List.map_append]
        rfl
set_option maxHeartbeats 8000000 in
theorem rsend_ok {w0 w : World} {b : Nat} {K : List Pk} {G : Nat → Prop} {N : Nt} {rest : OL} {k : Nat} {q : Pk} (h : NetH w0 w 69 133 b K G N rest) (hN : N.ok K k) (hk : k ≤ 1000) (hp : q ∈ K) : Calls Try.prog 77 #[.pointer (some ⟨b, 0, none⟩), .agg ⟨cellP q⟩] w fun e w' => ∃ K' G' N', e = .returned (.int .i64 (errV q.v)) ∧ NetQ w0 w' 69 133 b K N rest (k + 1) (sendV N.v q.v) K' G' N' := by
  have hq : q ∈ K := hp
  obtain ⟨hqt, hqb, hqf⟩ : Fits .i64 q.to ∧ q.bs.length ≤ 70000 ∧ ∀ z ∈ q.bs, Fits .u8 z := by
    have := (h.own _ List.mem_cons_self).1.1 q hp
    exact ⟨this.1, this.2.1, this.2.2.ints.fits⟩
  obtain ⟨la, lc, sa, sc, Ln, Sn⟩ := N
  have hln := hN.ln
  have hsn := hN.sn
  dsimp only at hln hsn
  refine enterW2 Try.func77 rfl rfl h ?_
  repeat (first | refine T_seq ?_ | refine T_region ?_)
  refine S_new tabOk rfl (fun b3 hb3 => ?_)
  repeat (first | refine T_seq ?_ | refine T_region ?_ | refine S_nil ?_ | refine S_pure tabOk rfl ?_ | refine S_load tabOk 0 rfl rfl rfl ?_)
  refine S_callq rfl Try.call107 (fun w1 h1 => rerr_ok q w1) ?_
  repeat (first | refine T_seq ?_ | refine T_region ?_ | refine S_nil ?_ | refine S_pure tabOk rfl ?_)
  refine T_cond_dec rfl (fun he => ?_) (fun he => ?_)
  · repeat (first | refine T_seq ?_ | refine T_region ?_ | refine S_nil ?_ | refine pthen_ret ?_ | refine T_ret ?_ | refine S_pure tabOk rfl ?_)
    exact ret1 rfl rfl (fun w' hw => ⟨K, G, ⟨la, lc, sa, sc, Ln, Sn⟩, rfl, hw.less (by repeat (first | refine Less.keep ?_ | refine Less.dropB (by first | assumption | omega) ?_ | exact Less.same _)), ⟨hN.l, hN.s, Nat.le_succ_of_le hN.ln, Nat.le_succ_of_le hN.sn⟩, fun _ h => h, by unfold sendV; rw [if_neg he]⟩)
  have he0 : errV q.v = 0 := Decidable.not_not.1 he
  rw [he0]
  repeat (first | refine T_seq ?_ | refine pthen_normal ?_ | refine T_skip ?_)
  refine T_toX (ι := Unit) (fun _ => True) (fun _ => knE w0 K G :: nbE 69 b la Ln.length lc sa Sn.length sc :: rowP w0 133 la lc Ln :: rowP w0 133 sa sc Sn :: .blk b3 (.cells ⟨cellP q⟩ 133 (0, 0)) true :: factE True :: factE True :: factE True :: factE True :: factE True :: factE True :: factE True :: factE True :: rest) (fun w hw => ⟨(), trivial, (hw.fills.fills.fills.fills.fills.fills.fills.fills).perm (pmL9 ..)⟩) (fun _ _ => ?_)
  let lst : Bool → Bool → Bool → Bool → Bool → Bool → Bool → Bool → Bool → Bool → Bool → Bool → Value × (Unit) → Value × (Unit) → Value × (Unit) → Value × (Unit) → Value × (Unit) → Value × (Unit) → Value × (Unit) → Value × (Unit) → Value × (Unit) → Value × (Unit) → OL := fun l10 l11 l12 l13 l14 l23 l24 l25 l26 l27 l30 l33 x10 x11 x12 x13 x14 x23 x24 x25 x26 x27 =>
    knE w0 K G :: .blk b (.cells ⟨[cond l30 x14.1 (.slice la Ln.length lc), cond l33 x27.1 (.slice sa Sn.length sc)]⟩ 69 (0, 0)) true :: .row w0.heap.size (cond l14 x14.1 (.slice la Ln.length lc)) 133 2 (cond l14 (Ln.length + 1) Ln.length) (cond l14 (cellsP Ln ++ [.int .i64 q.to, x11.1]) (cellsP Ln)) :: .row w0.heap.size (cond l27 x27.1 (.slice sa Sn.length sc)) 133 2 (cond l27 (Sn.length + 1) Sn.length) (cond l27 (cellsP Sn ++ [.int .i64 q.to, x24.1]) (cellsP Sn)) :: .blk b3 (.cells ⟨cellP q⟩ 133 (0, 0)) true :: (cond l10 (.row w0.heap.size x10.1 37 1 1 [.slice q.a q.bs.length q.c]) (factE True)) :: (cond l11 (.row w0.heap.size x11.1 5 1 q.bs.length (q.bs.map (.int .u8))) (factE True)) :: (cond l12 (factE (x12.1 = .agg ⟨[.int .i64 q.to, x11.1]⟩)) (factE True)) :: (cond l13 (.row w0.heap.size x13.1 133 2 1 [.int .i64 q.to, x11.1]) (factE True)) :: (cond l23 (.row w0.heap.size x23.1 37 1 1 [.slice q.a q.bs.length q.c]) (factE True)) :: (cond l24 (.row w0.heap.size x24.1 5 1 q.bs.length (q.bs.map (.int .u8))) (factE True)) :: (cond l25 (factE (x25.1 = .agg ⟨[.int .i64 q.to, x24.1]⟩)) (factE True)) :: (cond l26 (.row w0.heap.size x26.1 133 2 1 [.int .i64 q.to, x24.1]) (factE True)) :: rest
  refine T_drawF (γ := Unit) (by kernel_rfl) (by kernel_rfl) () (fun L f => lst (L 10) (L 11) (L 12) (L 13) (L 14) (L 23) (L 24) (L 25) (L 26) (L 27) (L 30) (L 33) (f 10) (f 11) (f 12) (f 13) (f 14) (f 23) (f 24) (f 25) (f 26) (f 27)) rfl [some (.pointer (some ⟨b, 0, none⟩)), some (.pointer (some ⟨b, 0, none⟩)), some (.pointer (some ⟨b, 0, none⟩)), some (.pointer (some ⟨b, 0, none⟩)), some (.pointer (some ⟨b, 0, none⟩)), some (.slice la Ln.length lc), some (.pointer (some ⟨b3, 0, none⟩)), some (.int .i64 q.to), some (.pointer (some ⟨b3, 1, none⟩)), some (.slice q.a q.bs.length q.c), none, none, none, none, none, some (.pointer (some ⟨b, 0, none⟩)), some (.pointer (some ⟨b, 0, none⟩)), some (.pointer (some ⟨b, 1, none⟩)), some (.slice sa Sn.length sc), some (.pointer (some ⟨b3, 0, none⟩)), some (.int .i64 q.to), some (.pointer (some ⟨b3, 1, none⟩)), some (.slice q.a q.bs.length q.c), none, none, none, none, none, some (.pointer (some ⟨b, 0, none⟩)), some (.pointer (some ⟨b, 0, none⟩)), none, some (.pointer (some ⟨b, 0, none⟩)), some (.pointer (some ⟨b, 1, none⟩)), none] ?_ ?_
  · refine ⟨?_, ?_, ?_, ?_, ?_, ?_, ?_, ?_, ?_, ?_, ?_, ?_, ?_, ?_, ?_, ?_, ?_, ?_, ?_, ?_, ?_, ?_, ?_, ?_, ?_, ?_, ?_, ?_, ?_, ?_, ?_, ?_, ?_, ?_, trivial⟩
    · exact fun L f hc hl hp => OpA.told () rfl (D_pure tabOk rfl D_last) rfl
    · exact fun L f hc hl hp => OpA.told () rfl (D_pure tabOk rfl D_last) rfl
    · exact fun L f hc hl hp => OpA.told () rfl (D_pure tabOk rfl D_last) rfl
    · exact fun L f hc hl hp => OpA.told () rfl (D_pure tabOk rfl D_last) rfl
    · exact fun L f hc hl hp => OpA.told () rfl (D_pure tabOk rfl D_last) rfl
    · intro L f hc hl hp
      have h14 := closed_no hc (j := 14) rfl ⟨5, .data⟩ (by simp) rfl hl
      have h24 := closed_no hc (j := 24) rfl ⟨14, .chain⟩ (by simp) rfl h14
      have h25 := closed_no hc (j := 25) rfl ⟨24, .data⟩ (by simp) rfl h24
      have h26 := closed_no hc (j := 26) rfl ⟨25, .data⟩ (by simp) rfl h25
      have h27 := closed_no hc (j := 27) rfl ⟨24, .chain⟩ (by simp) rfl h24
      have h30 := closed_no hc (j := 30) rfl ⟨5, .phase⟩ (by simp) rfl hl
      have h33 := closed_no hc (j := 33) rfl ⟨5, .phase⟩ (by simp) rfl hl
      show OpA _ _ _ _ (lst (L 10) (L 11) (L 12) (L 13) (L 14) (L 23) (L 24) (L 25) (L 26) (L 27) (L 30) (L 33) (f 10) (f 11) (f 12) (f 13) (f 14) (f 23) (f 24) (f 25) (f 26) (f 27)) (fun y => lst (L 10) (L 11) (L 12) (L 13) (L 14) (L 23) (L 24) (L 25) (L 26) (L 27) (L 30) (L 33) (f 10) (f 11) (f 12) (f 13) (f 14) (f 23) (f 24) (f 25) (f 26) (f 27)) _ _ _
      rw [h14, h24, h25, h26, h27, h30, h33]
      exact OpA.told () rfl (D_load tabOk 1 rfl rfl rfl D_last) rfl
    · exact fun L f hc hl hp => OpA.told () rfl (D_pure tabOk rfl D_last) rfl
    · intro L f hc hl hp
      have h12 := closed_no hc (j := 12) rfl ⟨7, .data⟩ (by simp) rfl hl
      have h13 := closed_no hc (j := 13) rfl ⟨12, .data⟩ (by simp) rfl h12
      have h14 := closed_no hc (j := 14) rfl ⟨13, .data⟩ (by simp) rfl h13
      have h24 := closed_no hc (j := 24) rfl ⟨14, .chain⟩ (by simp) rfl h14
      have h25 := closed_no hc (j := 25) rfl ⟨24, .data⟩ (by simp) rfl h24
      have h26 := closed_no hc (j := 26) rfl ⟨25, .data⟩ (by simp) rfl h25
      have h27 := closed_no hc (j := 27) rfl ⟨24, .chain⟩ (by simp) rfl h24
      have h30 := closed_no hc (j := 30) rfl ⟨7, .phase⟩ (by simp) rfl hl
      have h33 := closed_no hc (j := 33) rfl ⟨7, .phase⟩ (by simp) rfl hl
      show OpA _ _ _ _ (lst (L 10) (L 11) (L 12) (L 13) (L 14) (L 23) (L 24) (L 25) (L 26) (L 27) (L 30) (L 33) (f 10) (f 11) (f 12) (f 13) (f 14) (f 23) (f 24) (f 25) (f 26) (f 27)) (fun y => lst (L 10) (L 11) (L 12) (L 13) (L 14) (L 23) (L 24) (L 25) (L 26) (L 27) (L 30) (L 33) (f 10) (f 11) (f 12) (f 13) (f 14) (f 23) (f 24) (f 25) (f 26) (f 27)) _ _ _
      rw [h12, h13, h14, h24, h25, h26, h27, h30, h33]
      exact OpA.told () rfl (D_load tabOk 4 rfl rfl rfl D_last) rfl
    · exact fun L f hc hl hp => OpA.told () rfl (D_pure tabOk rfl D_last) rfl
    · intro L f hc hl hp
      have h10 := closed_no hc (j := 10) rfl ⟨9, .data⟩ (by simp) rfl hl
      have h11 := closed_no hc (j := 11) rfl ⟨10, .data⟩ (by simp) rfl h10
      have h12 := closed_no hc (j := 12) rfl ⟨11, .data⟩ (by simp) rfl h11
      have h13 := closed_no hc (j := 13) rfl ⟨12, .data⟩ (by simp) rfl h12
      have h14 := closed_no hc (j := 14) rfl ⟨11, .chain⟩ (by simp) rfl h11
      have h24 := closed_no hc (j := 24) rfl ⟨14, .chain⟩ (by simp) rfl h14
      have h25 := closed_no hc (j := 25) rfl ⟨24, .data⟩ (by simp) rfl h24
      have h26 := closed_no hc (j := 26) rfl ⟨25, .data⟩ (by simp) rfl h25
      have h27 := closed_no hc (j := 27) rfl ⟨24, .chain⟩ (by simp) rfl h24
      have h30 := closed_no hc (j := 30) rfl ⟨9, .phase⟩ (by simp) rfl hl
      have h33 := closed_no hc (j := 33) rfl ⟨9, .phase⟩ (by simp) rfl hl
      show OpA _ _ _ _ (lst (L 10) (L 11) (L 12) (L 13) (L 14) (L 23) (L 24) (L 25) (L 26) (L 27) (L 30) (L 33) (f 10) (f 11) (f 12) (f 13) (f 14) (f 23) (f 24) (f 25) (f 26) (f 27)) (fun y => lst (L 10) (L 11) (L 12) (L 13) (L 14) (L 23) (L 24) (L 25) (L 26) (L 27) (L 30) (L 33) (f 10) (f 11) (f 12) (f 13) (f 14) (f 23) (f 24) (f 25) (f 26) (f 27)) _ _ _
      rw [h10, h11, h12, h13, h14, h24, h25, h26, h27, h30, h33]
      exact OpA.told () rfl (D_load tabOk 4 rfl rfl rfl D_last) rfl
    · intro L f hc hl hp
      have h11 := closed_no hc (j := 11) rfl ⟨10, .data⟩ (by simp) rfl hl
      have h12 := closed_no hc (j := 12) rfl ⟨11, .data⟩ (by simp) rfl h11
      have h13 := closed_no hc (j := 13) rfl ⟨12, .data⟩ (by simp) rfl h12
      have h14 := closed_no hc (j := 14) rfl ⟨11, .chain⟩ (by simp) rfl h11
      have h24 := closed_no hc (j := 24) rfl ⟨14, .chain⟩ (by simp) rfl h14
      have h25 := closed_no hc (j := 25) rfl ⟨24, .data⟩ (by simp) rfl h24
      have h26 := closed_no hc (j := 26) rfl ⟨25, .data⟩ (by simp) rfl h25
      have h27 := closed_no hc (j := 27) rfl ⟨24, .chain⟩ (by simp) rfl h24
      have h30 := closed_no hc (j := 30) rfl ⟨10, .phase⟩ (by simp) rfl hl
      have h33 := closed_no hc (j := 33) rfl ⟨10, .phase⟩ (by simp) rfl hl
      show OpA _ _ _ _ (lst (L 10) (L 11) (L 12) (L 13) (L 14) (L 23) (L 24) (L 25) (L 26) (L 27) (L 30) (L 33) (f 10) (f 11) (f 12) (f 13) (f 14) (f 23) (f 24) (f 25) (f 26) (f 27)) (fun y => lst true (L 11) (L 12) (L 13) (L 14) (L 23) (L 24) (L 25) (L 26) (L 27) (L 30) (L 33) y (f 11) (f 12) (f 13) (f 14) (f 23) (f 24) (f 25) (f 26) (f 27)) _ _ _
      rw [hl, h11, h12, h13, h14, h24, h25, h26, h27, h30, h33]
      exact OpA.bsliceR tabOk rfl rfl rfl rfl rfl rfl rfl rfl rfl rfl rfl rfl rfl rfl (fun w1 v hw1 => ⟨(), hw1.fill 5 rfl rfl⟩)
    · intro L f hc hl hp
      have h10 : L 10 = true := hp ⟨10, .data⟩ (by simp) rfl
      have h12 := closed_no hc (j := 12) rfl ⟨11, .data⟩ (by simp) rfl hl
      have h13 := closed_no hc (j := 13) rfl ⟨12, .data⟩ (by simp) rfl h12
      have h14 := closed_no hc (j := 14) rfl ⟨11, .chain⟩ (by simp) rfl hl
      have h24 := closed_no hc (j := 24) rfl ⟨14, .chain⟩ (by simp) rfl h14
      have h25 := closed_no hc (j := 25) rfl ⟨24, .data⟩ (by simp) rfl h24
      have h26 := closed_no hc (j := 26) rfl ⟨25, .data⟩ (by simp) rfl h25
      have h27 := closed_no hc (j := 27) rfl ⟨24, .chain⟩ (by simp) rfl h24
      have h30 := closed_no hc (j := 30) rfl ⟨11, .phase⟩ (by simp) rfl hl
      have h33 := closed_no hc (j := 33) rfl ⟨11, .phase⟩ (by simp) rfl hl
      show OpA _ _ _ _ (lst (L 10) (L 11) (L 12) (L 13) (L 14) (L 23) (L 24) (L 25) (L 26) (L 27) (L 30) (L 33) (f 10) (f 11) (f 12) (f 13) (f 14) (f 23) (f 24) (f 25) (f 26) (f 27)) (fun y => lst (L 10) true (L 12) (L 13) (L 14) (L 23) (L 24) (L 25) (L 26) (L 27) (L 30) (L 33) (f 10) y (f 12) (f 13) (f 14) (f 23) (f 24) (f 25) (f 26) (f 27)) _ _ _
      rw [hl, h10, h12, h13, h14, h24, h25, h26, h27, h30, h33]
      refine OpA.pre (X := ∃ A C, (f 10).1 = .slice A 1 C) (fun w hw => ?_) (fun d h => by cases h; decide) ?_
      · obtain ⟨A, C, e2, _⟩ := hw.rowForm 5 rfl
        exact ⟨A, C, e2⟩
      · rintro ⟨A', C', e2⟩
        refine OpA.callrow rfl Try.call30 (fun w1 vs hw h => by
          obtain ⟨u1, _, rfl, rfl, u2, _, rfl, rfl, rfl⟩ := h
          have hr : w1.ownsRow w0.heap.size 37 1 (f 10).1 1 [.slice q.a q.bs.length q.c] := hw.own _ (getE_mem (i := 5) rfl)
          rw [e2] at hr ⊢
          exact rjoin_ok w1 (Sl.of_own hr) (okP.ints (hw.okP 0 rfl) hq) (by omega)) (fun w1 v hw1 => ⟨(), hw1.fill 6 rfl rfl⟩)
    · intro L f hc hl hp
      have h11 : L 11 = true := hp ⟨11, .data⟩ (by simp) rfl
      have h10 : L 10 = true := hc 11 _ rfl h11 ⟨10, .data⟩ (by simp) rfl
      have h13 := closed_no hc (j := 13) rfl ⟨12, .data⟩ (by simp) rfl hl
      have h14 := closed_no hc (j := 14) rfl ⟨13, .data⟩ (by simp) rfl h13
      have h24 := closed_no hc (j := 24) rfl ⟨14, .chain⟩ (by simp) rfl h14
      have h25 := closed_no hc (j := 25) rfl ⟨24, .data⟩ (by simp) rfl h24
      have h26 := closed_no hc (j := 26) rfl ⟨25, .data⟩ (by simp) rfl h25
      have h27 := closed_no hc (j := 27) rfl ⟨24, .chain⟩ (by simp) rfl h24
      have h30 := closed_no hc (j := 30) rfl ⟨12, .phase⟩ (by simp) rfl hl
      have h33 := closed_no hc (j := 33) rfl ⟨12, .phase⟩ (by simp) rfl hl
      show OpA _ _ _ _ (lst (L 10) (L 11) (L 12) (L 13) (L 14) (L 23) (L 24) (L 25) (L 26) (L 27) (L 30) (L 33) (f 10) (f 11) (f 12) (f 13) (f 14) (f 23) (f 24) (f 25) (f 26) (f 27)) (fun y => lst (L 10) (L 11) true (L 13) (L 14) (L 23) (L 24) (L 25) (L 26) (L 27) (L 30) (L 33) (f 10) (f 11) y (f 13) (f 14) (f 23) (f 24) (f 25) (f 26) (f 27)) _ _ _
      rw [hl, h10, h11, h13, h14, h24, h25, h26, h27, h30, h33]
      refine OpA.pre (X := ∃ A C, (f 11).1 = .slice A q.bs.length C) (fun w hw => ?_) (fun d h => by cases h; decide) ?_
      · obtain ⟨A, C, e2, _⟩ := hw.rowForm 6 rfl
        exact ⟨A, C, e2⟩
      · rintro ⟨A', C', e2⟩
        refine OpA.swap (dl' := [(18, .ex (.int .i64 q.to)), (22, .ex (f 11).1)]) (List.forall_mem_cons.2 ⟨rfl, List.forall_mem_cons.2 ⟨rfl, fun _ h => nomatch h⟩⟩) ?_
        generalize f 11 = x4 at *
        obtain ⟨x4, g4⟩ := x4
        dsimp only at e2
        subst e2
        exact OpA.known () rfl (D_q (Q_build tabOk rfl rfl rfl rfl rfl rfl rfl) D_last) (fun w hw => (hw.addF rfl).fill 7 rfl rfl)
    · intro L f hc hl hp
      have h12 : L 12 = true := hp ⟨12, .data⟩ (by simp) rfl
      have h11 : L 11 = true := hc 12 _ rfl h12 ⟨11, .data⟩ (by simp) rfl
      have h10 : L 10 = true := hc 11 _ rfl h11 ⟨10, .data⟩ (by simp) rfl
      have h14 := closed_no hc (j := 14) rfl ⟨13, .data⟩ (by simp) rfl hl
      have h24 := closed_no hc (j := 24) rfl ⟨14, .chain⟩ (by simp) rfl h14
      have h25 := closed_no hc (j := 25) rfl ⟨24, .data⟩ (by simp) rfl h24
      have h26 := closed_no hc (j := 26) rfl ⟨25, .data⟩ (by simp) rfl h25
      have h27 := closed_no hc (j := 27) rfl ⟨24, .chain⟩ (by simp) rfl h24
      have h30 := closed_no hc (j := 30) rfl ⟨13, .phase⟩ (by simp) rfl hl
      have h33 := closed_no hc (j := 33) rfl ⟨13, .phase⟩ (by simp) rfl hl
      show OpA _ _ _ _ (lst (L 10) (L 11) (L 12) (L 13) (L 14) (L 23) (L 24) (L 25) (L 26) (L 27) (L 30) (L 33) (f 10) (f 11) (f 12) (f 13) (f 14) (f 23) (f 24) (f 25) (f 26) (f 27)) (fun y => lst (L 10) (L 11) (L 12) true (L 14) (L 23) (L 24) (L 25) (L 26) (L 27) (L 30) (L 33) (f 10) (f 11) (f 12) y (f 14) (f 23) (f 24) (f 25) (f 26) (f 27)) _ _ _
      rw [hl, h10, h11, h12, h14, h24, h25, h26, h27, h30, h33]
      refine OpA.pre (X := (∃ A C, (f 11).1 = .slice A q.bs.length C) ∧ (f 12).1 = .agg ⟨[.int .i64 q.to, (f 11).1]⟩) (fun w hw => ?_) (fun d h => by cases h; decide) ?_
      · obtain ⟨A, C, e2, _⟩ := hw.rowForm 6 rfl
        exact ⟨⟨A, C, e2⟩, hw.fact 7 rfl⟩
      · rintro ⟨⟨A', C', e2⟩, e3⟩
        refine OpA.swap (dl' := [(23, .ex (f 12).1)]) (List.forall_mem_cons.2 ⟨rfl, fun _ h => nomatch h⟩) ?_
        generalize f 11 = x4 at *
        generalize f 12 = x5 at *
        obtain ⟨x4, g4⟩ := x4
        obtain ⟨x5, g5⟩ := x5
        dsimp only at e2 e3
        subst e2
        subst e3
        exact OpA.bsliceR tabOk rfl rfl rfl rfl rfl rfl rfl rfl rfl rfl rfl rfl rfl rfl (fun w1 v hw1 => ⟨(), hw1.fill 8 rfl rfl⟩)
    · intro L f hc hl hp
      have h11 : L 11 = true := hp ⟨11, .chain⟩ (by simp) rfl
      have h10 : L 10 = true := hc 11 _ rfl h11 ⟨10, .data⟩ (by simp) rfl
      have h13 : L 13 = true := hp ⟨13, .data⟩ (by simp) rfl
      have h12 : L 12 = true := hc 13 _ rfl h13 ⟨12, .data⟩ (by simp) rfl
      have h24 := closed_no hc (j := 24) rfl ⟨14, .chain⟩ (by simp) rfl hl
      have h25 := closed_no hc (j := 25) rfl ⟨24, .data⟩ (by simp) rfl h24
      have h26 := closed_no hc (j := 26) rfl ⟨25, .data⟩ (by simp) rfl h25
      have h27 := closed_no hc (j := 27) rfl ⟨24, .chain⟩ (by simp) rfl h24
      have h30 := closed_no hc (j := 30) rfl ⟨14, .data⟩ (by simp) rfl hl
      have h33 := closed_no hc (j := 33) rfl ⟨14, .phase⟩ (by simp) rfl hl
      show OpA _ _ _ _ (lst (L 10) (L 11) (L 12) (L 13) (L 14) (L 23) (L 24) (L 25) (L 26) (L 27) (L 30) (L 33) (f 10) (f 11) (f 12) (f 13) (f 14) (f 23) (f 24) (f 25) (f 26) (f 27)) (fun y => lst (L 10) (L 11) (L 12) (L 13) true (L 23) (L 24) (L 25) (L 26) (L 27) (L 30) (L 33) (f 10) (f 11) (f 12) (f 13) y (f 23) (f 24) (f 25) (f 26) (f 27)) _ _ _
      rw [hl, h10, h11, h12, h13, h24, h25, h26, h27, h30, h33]
      refine OpA.pre (X := (∃ A C, (f 13).1 = .slice A 1 C) ∧ ∃ A C, (f 11).1 = .slice A q.bs.length C) (fun w hw => ?_) (fun d h => by cases h; decide) ?_
      · obtain ⟨A, C, e2, _⟩ := hw.rowForm 8 rfl
        obtain ⟨A1, C1, e3, _⟩ := hw.rowForm 6 rfl
        exact ⟨⟨A, C, e2⟩, A1, C1, e3⟩
      · rintro ⟨⟨A', C', e2⟩, A1, C1, e3⟩
        generalize hx7 : f 13 = x7
        rw [hx7] at e2
        obtain ⟨x7, g7⟩ := x7
        dsimp only at e2
        subst e2
        generalize f 11 = x4 at *
        obtain ⟨x4, g4⟩ := x4
        dsimp only at e3
        subst e3
        refine OpA.ofS (l := [(16, .slice la Ln.length lc), (24, .slice A' 1 C')]) rfl (by decide) (.cons rfl rfl (.cons rfl (by show some (Ent.ex (f 13).1) = _; rw [hx7]) .nil)) ?_
        refine S_append (ty := 0) tabOk 2 (m := Ln.length) (v := .slice la Ln.length lc) (xs := cellsP Ln) (news := [.int .i64 q.to, .slice A1 q.bs.length C1]) rfl rfl rfl rfl rfl rfl rfl rfl rfl (by decide) (fun w' hw => Sl.of_own (hw.own _ (getE_mem (i := 8) rfl))) (by intro u hu; simp only [List.mem_cons, List.not_mem_nil, or_false] at hu; rcases hu with rfl | rfl <;> rfl) (by simp only [maxLen]; omega) (by show (_ + _) * 32 ≤ _; omega) rfl (fun AS CS hcS hdS => ⟨_, rfl, ?_⟩)
        refine S_nil ?_
        exact ⟨_, (), rfl, (fun u h => by cases h), fun w hw => hw⟩
    · exact fun L f hc hl hp => OpA.told () rfl (D_pure tabOk rfl D_last) rfl
    · exact fun L f hc hl hp => OpA.told () rfl (D_pure tabOk rfl D_last) rfl
    · exact fun L f hc hl hp => OpA.told () rfl (D_pure tabOk rfl D_last) rfl
    · intro L f hc hl hp
      have h27 := closed_no hc (j := 27) rfl ⟨18, .data⟩ (by simp) rfl hl
      have h30 := closed_no hc (j := 30) rfl ⟨18, .phase⟩ (by simp) rfl hl
      have h33 := closed_no hc (j := 33) rfl ⟨18, .phase⟩ (by simp) rfl hl
      show OpA _ _ _ _ (lst (L 10) (L 11) (L 12) (L 13) (L 14) (L 23) (L 24) (L 25) (L 26) (L 27) (L 30) (L 33) (f 10) (f 11) (f 12) (f 13) (f 14) (f 23) (f 24) (f 25) (f 26) (f 27)) (fun y => lst (L 10) (L 11) (L 12) (L 13) (L 14) (L 23) (L 24) (L 25) (L 26) (L 27) (L 30) (L 33) (f 10) (f 11) (f 12) (f 13) (f 14) (f 23) (f 24) (f 25) (f 26) (f 27)) _ _ _
      rw [h27, h30, h33]
      exact OpA.told () rfl (D_load tabOk 1 rfl rfl rfl D_last) rfl
    · exact fun L f hc hl hp => OpA.told () rfl (D_pure tabOk rfl D_last) rfl
    · intro L f hc hl hp
      have h25 := closed_no hc (j := 25) rfl ⟨20, .data⟩ (by simp) rfl hl
      have h26 := closed_no hc (j := 26) rfl ⟨25, .data⟩ (by simp) rfl h25
      have h27 := closed_no hc (j := 27) rfl ⟨26, .data⟩ (by simp) rfl h26
      have h30 := closed_no hc (j := 30) rfl ⟨27, .chain⟩ (by simp) rfl h27
      have h33 := closed_no hc (j := 33) rfl ⟨20, .phase⟩ (by simp) rfl hl
      show OpA _ _ _ _ (lst (L 10) (L 11) (L 12) (L 13) (L 14) (L 23) (L 24) (L 25) (L 26) (L 27) (L 30) (L 33) (f 10) (f 11) (f 12) (f 13) (f 14) (f 23) (f 24) (f 25) (f 26) (f 27)) (fun y => lst (L 10) (L 11) (L 12) (L 13) (L 14) (L 23) (L 24) (L 25) (L 26) (L 27) (L 30) (L 33) (f 10) (f 11) (f 12) (f 13) (f 14) (f 23) (f 24) (f 25) (f 26) (f 27)) _ _ _
      rw [h25, h26, h27, h30, h33]
      exact OpA.told () rfl (D_load tabOk 4 rfl rfl rfl D_last) rfl
    · exact fun L f hc hl hp => OpA.told () rfl (D_pure tabOk rfl D_last) rfl
    · intro L f hc hl hp
      have h23 := closed_no hc (j := 23) rfl ⟨22, .data⟩ (by simp) rfl hl
      have h24 := closed_no hc (j := 24) rfl ⟨23, .data⟩ (by simp) rfl h23
      have h25 := closed_no hc (j := 25) rfl ⟨24, .data⟩ (by simp) rfl h24
      have h26 := closed_no hc (j := 26) rfl ⟨25, .data⟩ (by simp) rfl h25
      have h27 := closed_no hc (j := 27) rfl ⟨24, .chain⟩ (by simp) rfl h24
      have h30 := closed_no hc (j := 30) rfl ⟨24, .phase⟩ (by simp) rfl h24
      have h33 := closed_no hc (j := 33) rfl ⟨22, .phase⟩ (by simp) rfl hl
      show OpA _ _ _ _ (lst (L 10) (L 11) (L 12) (L 13) (L 14) (L 23) (L 24) (L 25) (L 26) (L 27) (L 30) (L 33) (f 10) (f 11) (f 12) (f 13) (f 14) (f 23) (f 24) (f 25) (f 26) (f 27)) (fun y => lst (L 10) (L 11) (L 12) (L 13) (L 14) (L 23) (L 24) (L 25) (L 26) (L 27) (L 30) (L 33) (f 10) (f 11) (f 12) (f 13) (f 14) (f 23) (f 24) (f 25) (f 26) (f 27)) _ _ _
      rw [h23, h24, h25, h26, h27, h30, h33]
      exact OpA.told () rfl (D_load tabOk 4 rfl rfl rfl D_last) rfl
    · intro L f hc hl hp
      have h24 := closed_no hc (j := 24) rfl ⟨23, .data⟩ (by simp) rfl hl
      have h25 := closed_no hc (j := 25) rfl ⟨24, .data⟩ (by simp) rfl h24
      have h26 := closed_no hc (j := 26) rfl ⟨25, .data⟩ (by simp) rfl h25
      have h27 := closed_no hc (j := 27) rfl ⟨24, .chain⟩ (by simp) rfl h24
      have h30 := closed_no hc (j := 30) rfl ⟨24, .phase⟩ (by simp) rfl h24
      have h33 := closed_no hc (j := 33) rfl ⟨23, .phase⟩ (by simp) rfl hl
      show OpA _ _ _ _ (lst (L 10) (L 11) (L 12) (L 13) (L 14) (L 23) (L 24) (L 25) (L 26) (L 27) (L 30) (L 33) (f 10) (f 11) (f 12) (f 13) (f 14) (f 23) (f 24) (f 25) (f 26) (f 27)) (fun y => lst (L 10) (L 11) (L 12) (L 13) (L 14) true (L 24) (L 25) (L 26) (L 27) (L 30) (L 33) (f 10) (f 11) (f 12) (f 13) (f 14) y (f 24) (f 25) (f 26) (f 27)) _ _ _
      rw [hl, h24, h25, h26, h27, h30, h33]
      exact OpA.bsliceR tabOk rfl rfl rfl rfl rfl rfl rfl rfl rfl rfl rfl rfl rfl rfl (fun w1 v hw1 => ⟨(), hw1.fill 9 rfl rfl⟩)
    · intro L f hc hl hp
      have h14 : L 14 = true := hp ⟨14, .chain⟩ (by simp) rfl
      have h11 : L 11 = true := hc 14 _ rfl h14 ⟨11, .chain⟩ (by simp) rfl
      have h10 : L 10 = true := hc 11 _ rfl h11 ⟨10, .data⟩ (by simp) rfl
      have h13 : L 13 = true := hc 14 _ rfl h14 ⟨13, .data⟩ (by simp) rfl
      have h12 : L 12 = true := hc 13 _ rfl h13 ⟨12, .data⟩ (by simp) rfl
      have h23 : L 23 = true := hp ⟨23, .data⟩ (by simp) rfl
      have h25 := closed_no hc (j := 25) rfl ⟨24, .data⟩ (by simp) rfl hl
      have h26 := closed_no hc (j := 26) rfl ⟨25, .data⟩ (by simp) rfl h25
      have h27 := closed_no hc (j := 27) rfl ⟨24, .chain⟩ (by simp) rfl hl
      have h30 := closed_no hc (j := 30) rfl ⟨24, .phase⟩ (by simp) rfl hl
      have h33 := closed_no hc (j := 33) rfl ⟨24, .phase⟩ (by simp) rfl hl
      show OpA _ _ _ _ (lst (L 10) (L 11) (L 12) (L 13) (L 14) (L 23) (L 24) (L 25) (L 26) (L 27) (L 30) (L 33) (f 10) (f 11) (f 12) (f 13) (f 14) (f 23) (f 24) (f 25) (f 26) (f 27)) (fun y => lst (L 10) (L 11) (L 12) (L 13) (L 14) (L 23) true (L 25) (L 26) (L 27) (L 30) (L 33) (f 10) (f 11) (f 12) (f 13) (f 14) (f 23) y (f 25) (f 26) (f 27)) _ _ _
      rw [hl, h10, h11, h12, h13, h14, h23, h25, h26, h27, h30, h33]
      refine OpA.pre (X := ∃ A C, (f 23).1 = .slice A 1 C) (fun w hw => ?_) (fun d h => by cases h; decide) ?_
      · obtain ⟨A, C, e2, _⟩ := hw.rowForm 9 rfl
        exact ⟨A, C, e2⟩
      · rintro ⟨A', C', e2⟩
        refine OpA.callrow rfl Try.call30 (fun w1 vs hw h => by
          obtain ⟨u1, _, rfl, rfl, u2, _, rfl, rfl, rfl⟩ := h
          have hr : w1.ownsRow w0.heap.size 37 1 (f 23).1 1 [.slice q.a q.bs.length q.c] := hw.own _ (getE_mem (i := 9) rfl)
          rw [e2] at hr ⊢
          exact rjoin_ok w1 (Sl.of_own hr) (okP.ints (hw.okP 0 rfl) hq) (by omega)) (fun w1 v hw1 => ⟨(), hw1.fill 10 rfl rfl⟩)
    · intro L f hc hl hp
      have h24 : L 24 = true := hp ⟨24, .data⟩ (by simp) rfl
      have h14 : L 14 = true := hc 24 _ rfl h24 ⟨14, .chain⟩ (by simp) rfl
      have h11 : L 11 = true := hc 14 _ rfl h14 ⟨11, .chain⟩ (by simp) rfl
      have h10 : L 10 = true := hc 11 _ rfl h11 ⟨10, .data⟩ (by simp) rfl
      have h13 : L 13 = true := hc 14 _ rfl h14 ⟨13, .data⟩ (by simp) rfl
      have h12 : L 12 = true := hc 13 _ rfl h13 ⟨12, .data⟩ (by simp) rfl
      have h23 : L 23 = true := hc 24 _ rfl h24 ⟨23, .data⟩ (by simp) rfl
      have h26 := closed_no hc (j := 26) rfl ⟨25, .data⟩ (by simp) rfl hl
      have h27 := closed_no hc (j := 27) rfl ⟨26, .data⟩ (by simp) rfl h26
      have h30 := closed_no hc (j := 30) rfl ⟨27, .chain⟩ (by simp) rfl h27
      have h33 := closed_no hc (j := 33) rfl ⟨25, .phase⟩ (by simp) rfl hl
      show OpA _ _ _ _ (lst (L 10) (L 11) (L 12) (L 13) (L 14) (L 23) (L 24) (L 25) (L 26) (L 27) (L 30) (L 33) (f 10) (f 11) (f 12) (f 13) (f 14) (f 23) (f 24) (f 25) (f 26) (f 27)) (fun y => lst (L 10) (L 11) (L 12) (L 13) (L 14) (L 23) (L 24) true (L 26) (L 27) (L 30) (L 33) (f 10) (f 11) (f 12) (f 13) (f 14) (f 23) (f 24) y (f 26) (f 27)) _ _ _
      rw [hl, h10, h11, h12, h13, h14, h23, h24, h26, h27, h30, h33]
      refine OpA.pre (X := ∃ A C, (f 24).1 = .slice A q.bs.length C) (fun w hw => ?_) (fun d h => by cases h; decide) ?_
      · obtain ⟨A, C, e2, _⟩ := hw.rowForm 10 rfl
        exact ⟨A, C, e2⟩
      · rintro ⟨A', C', e2⟩
        refine OpA.swap (dl' := [(31, .ex (.int .i64 q.to)), (35, .ex (f 24).1)]) (List.forall_mem_cons.2 ⟨rfl, List.forall_mem_cons.2 ⟨rfl, fun _ h => nomatch h⟩⟩) ?_
        generalize f 24 = x4 at *
        obtain ⟨x4, g4⟩ := x4
        dsimp only at e2
        subst e2
        exact OpA.known () rfl (D_q (Q_build tabOk rfl rfl rfl rfl rfl rfl rfl) D_last) (fun w hw => (hw.addF rfl).fill 11 rfl rfl)
    · intro L f hc hl hp
      have h25 : L 25 = true := hp ⟨25, .data⟩ (by simp) rfl
      have h24 : L 24 = true := hc 25 _ rfl h25 ⟨24, .data⟩ (by simp) rfl
      have h14 : L 14 = true := hc 24 _ rfl h24 ⟨14, .chain⟩ (by simp) rfl
      have h11 : L 11 = true := hc 14 _ rfl h14 ⟨11, .chain⟩ (by simp) rfl
      have h10 : L 10 = true := hc 11 _ rfl h11 ⟨10, .data⟩ (by simp) rfl
      have h13 : L 13 = true := hc 14 _ rfl h14 ⟨13, .data⟩ (by simp) rfl
      have h12 : L 12 = true := hc 13 _ rfl h13 ⟨12, .data⟩ (by simp) rfl
      have h23 : L 23 = true := hc 24 _ rfl h24 ⟨23, .data⟩ (by simp) rfl
      have h27 := closed_no hc (j := 27) rfl ⟨26, .data⟩ (by simp) rfl hl
      have h30 := closed_no hc (j := 30) rfl ⟨27, .chain⟩ (by simp) rfl h27
      have h33 := closed_no hc (j := 33) rfl ⟨26, .phase⟩ (by simp) rfl hl
      show OpA _ _ _ _ (lst (L 10) (L 11) (L 12) (L 13) (L 14) (L 23) (L 24) (L 25) (L 26) (L 27) (L 30) (L 33) (f 10) (f 11) (f 12) (f 13) (f 14) (f 23) (f 24) (f 25) (f 26) (f 27)) (fun y => lst (L 10) (L 11) (L 12) (L 13) (L 14) (L 23) (L 24) (L 25) true (L 27) (L 30) (L 33) (f 10) (f 11) (f 12) (f 13) (f 14) (f 23) (f 24) (f 25) y (f 27)) _ _ _
      rw [hl, h10, h11, h12, h13, h14, h23, h24, h25, h27, h30, h33]
      refine OpA.pre (X := (∃ A C, (f 24).1 = .slice A q.bs.length C) ∧ (f 25).1 = .agg ⟨[.int .i64 q.to, (f 24).1]⟩) (fun w hw => ?_) (fun d h => by cases h; decide) ?_
      · obtain ⟨A, C, e2, _⟩ := hw.rowForm 10 rfl
        exact ⟨⟨A, C, e2⟩, hw.fact 11 rfl⟩
      · rintro ⟨⟨A', C', e2⟩, e3⟩
        refine OpA.swap (dl' := [(36, .ex (f 25).1)]) (List.forall_mem_cons.2 ⟨rfl, fun _ h => nomatch h⟩) ?_
        generalize f 24 = x4 at *
        generalize f 25 = x5 at *
        obtain ⟨x4, g4⟩ := x4
        obtain ⟨x5, g5⟩ := x5
        dsimp only at e2 e3
        subst e2
        subst e3
        exact OpA.bsliceR tabOk rfl rfl rfl rfl rfl rfl rfl rfl rfl rfl rfl rfl rfl rfl (fun w1 v hw1 => ⟨(), hw1.fill 12 rfl rfl⟩)
    · intro L f hc hl hp
      have h24 : L 24 = true := hp ⟨24, .chain⟩ (by simp) rfl
      have h14 : L 14 = true := hc 24 _ rfl h24 ⟨14, .chain⟩ (by simp) rfl
      have h11 : L 11 = true := hc 14 _ rfl h14 ⟨11, .chain⟩ (by simp) rfl
      have h10 : L 10 = true := hc 11 _ rfl h11 ⟨10, .data⟩ (by simp) rfl
      have h13 : L 13 = true := hc 14 _ rfl h14 ⟨13, .data⟩ (by simp) rfl
      have h12 : L 12 = true := hc 13 _ rfl h13 ⟨12, .data⟩ (by simp) rfl
      have h23 : L 23 = true := hc 24 _ rfl h24 ⟨23, .data⟩ (by simp) rfl
      have h26 : L 26 = true := hp ⟨26, .data⟩ (by simp) rfl
      have h25 : L 25 = true := hc 26 _ rfl h26 ⟨25, .data⟩ (by simp) rfl
      have h30 := closed_no hc (j := 30) rfl ⟨27, .chain⟩ (by simp) rfl hl
      have h33 := closed_no hc (j := 33) rfl ⟨27, .data⟩ (by simp) rfl hl
      show OpA _ _ _ _ (lst (L 10) (L 11) (L 12) (L 13) (L 14) (L 23) (L 24) (L 25) (L 26) (L 27) (L 30) (L 33) (f 10) (f 11) (f 12) (f 13) (f 14) (f 23) (f 24) (f 25) (f 26) (f 27)) (fun y => lst (L 10) (L 11) (L 12) (L 13) (L 14) (L 23) (L 24) (L 25) (L 26) true (L 30) (L 33) (f 10) (f 11) (f 12) (f 13) (f 14) (f 23) (f 24) (f 25) (f 26) y) _ _ _
      rw [hl, h10, h11, h12, h13, h14, h23, h24, h25, h26, h30, h33]
      refine OpA.pre (X := (∃ A C, (f 26).1 = .slice A 1 C) ∧ ∃ A C, (f 24).1 = .slice A q.bs.length C) (fun w hw => ?_) (fun d h => by cases h; decide) ?_
      · obtain ⟨A, C, e2, _⟩ := hw.rowForm 12 rfl
        obtain ⟨A1, C1, e3, _⟩ := hw.rowForm 10 rfl
        exact ⟨⟨A, C, e2⟩, A1, C1, e3⟩
      · rintro ⟨⟨A', C', e2⟩, A1, C1, e3⟩
        generalize hx7 : f 26 = x7
        rw [hx7] at e2
        obtain ⟨x7, g7⟩ := x7
        dsimp only at e2
        subst e2
        generalize f 24 = x4 at *
        obtain ⟨x4, g4⟩ := x4
        dsimp only at e3
        subst e3
        refine OpA.ofS (l := [(29, .slice sa Sn.length sc), (37, .slice A' 1 C')]) rfl (by decide) (.cons rfl rfl (.cons rfl (by show some (Ent.ex (f 26).1) = _; rw [hx7]) .nil)) ?_
        refine S_append (ty := 0) tabOk 3 (m := Sn.length) (v := .slice sa Sn.length sc) (xs := cellsP Sn) (news := [.int .i64 q.to, .slice A1 q.bs.length C1]) rfl rfl rfl rfl rfl rfl rfl rfl rfl (by decide) (fun w' hw => Sl.of_own (hw.own _ (getE_mem (i := 12) rfl))) (by intro u hu; simp only [List.mem_cons, List.not_mem_nil, or_false] at hu; rcases hu with rfl | rfl <;> rfl) (by simp only [maxLen]; omega) (by show (_ + _) * 32 ≤ _; omega) rfl (fun AS CS hcS hdS => ⟨_, rfl, ?_⟩)
        refine S_nil ?_
        exact ⟨_, (), rfl, (fun u h => by cases h), fun w hw => hw⟩
    · exact fun L f hc hl hp => OpA.told () rfl (D_pure tabOk rfl D_last) rfl
    · exact fun L f hc hl hp => OpA.told () rfl (D_pure tabOk rfl D_last) rfl
    · intro L f hc hl hp
      have h10 : L 10 = true := hp ⟨10, .phase⟩ (by simp) rfl
      have h11 : L 11 = true := hp ⟨11, .phase⟩ (by simp) rfl
      have h12 : L 12 = true := hp ⟨12, .phase⟩ (by simp) rfl
      have h13 : L 13 = true := hp ⟨13, .phase⟩ (by simp) rfl
      have h14 : L 14 = true := hp ⟨14, .data⟩ (by simp) rfl
      have h24 : L 24 = true := hp ⟨24, .phase⟩ (by simp) rfl
      have h23 : L 23 = true := hc 24 _ rfl h24 ⟨23, .data⟩ (by simp) rfl
      have h27 : L 27 = true := hp ⟨27, .chain⟩ (by simp) rfl
      have h26 : L 26 = true := hc 27 _ rfl h27 ⟨26, .data⟩ (by simp) rfl
      have h25 : L 25 = true := hc 26 _ rfl h26 ⟨25, .data⟩ (by simp) rfl
      have h33 := closed_no hc (j := 33) rfl ⟨30, .chain⟩ (by simp) rfl hl
      show OpA _ _ _ _ (lst (L 10) (L 11) (L 12) (L 13) (L 14) (L 23) (L 24) (L 25) (L 26) (L 27) (L 30) (L 33) (f 10) (f 11) (f 12) (f 13) (f 14) (f 23) (f 24) (f 25) (f 26) (f 27)) (fun y => lst (L 10) (L 11) (L 12) (L 13) (L 14) (L 23) (L 24) (L 25) (L 26) (L 27) true (L 33) (f 10) (f 11) (f 12) (f 13) (f 14) (f 23) (f 24) (f 25) (f 26) (f 27)) _ _ _
      rw [hl, h10, h11, h12, h13, h14, h23, h24, h25, h26, h27, h33]
      refine OpA.pre (X := ∃ A C, (f 14).1 = .slice A (Ln.length + 1) C) (fun w hw => ?_) (fun d h => by cases h) ?_
      · obtain ⟨A, C, e2, _⟩ := hw.rowForm 2 rfl
        exact ⟨A, C, e2⟩
      · rintro ⟨A', C', e2⟩
        refine OpA.swap (dl' := [(40, .ex (.pointer (some ⟨b, 0, none⟩))), (25, .ex (f 14).1)]) (List.forall_mem_cons.2 ⟨rfl, List.forall_mem_cons.2 ⟨rfl, fun _ h => nomatch h⟩⟩) ?_
        generalize f 14 = x8 at *
        obtain ⟨x8, g8⟩ := x8
        dsimp only at e2
        subst e2
        exact OpS.toF () (fun u h => by cases h) (OpS.store tabOk 1 rfl rfl (fun u h => by rw [List.mem_singleton] at h; subst h; rfl) rfl rfl rfl)
    · exact fun L f hc hl hp => OpA.told () rfl (D_pure tabOk rfl D_last) rfl
    · exact fun L f hc hl hp => OpA.told () rfl (D_pure tabOk rfl D_last) rfl
    · intro L f hc hl hp
      have h10 : L 10 = true := hp ⟨10, .phase⟩ (by simp) rfl
      have h11 : L 11 = true := hp ⟨11, .phase⟩ (by simp) rfl
      have h12 : L 12 = true := hp ⟨12, .phase⟩ (by simp) rfl
      have h13 : L 13 = true := hp ⟨13, .phase⟩ (by simp) rfl
      have h14 : L 14 = true := hp ⟨14, .phase⟩ (by simp) rfl
      have h23 : L 23 = true := hp ⟨23, .phase⟩ (by simp) rfl
      have h24 : L 24 = true := hp ⟨24, .phase⟩ (by simp) rfl
      have h25 : L 25 = true := hp ⟨25, .phase⟩ (by simp) rfl
      have h26 : L 26 = true := hp ⟨26, .phase⟩ (by simp) rfl
      have h27 : L 27 = true := hp ⟨27, .data⟩ (by simp) rfl
      have h30 : L 30 = true := hp ⟨30, .chain⟩ (by simp) rfl
      show OpA _ _ _ _ (lst (L 10) (L 11) (L 12) (L 13) (L 14) (L 23) (L 24) (L 25) (L 26) (L 27) (L 30) (L 33) (f 10) (f 11) (f 12) (f 13) (f 14) (f 23) (f 24) (f 25) (f 26) (f 27)) (fun y => lst (L 10) (L 11) (L 12) (L 13) (L 14) (L 23) (L 24) (L 25) (L 26) (L 27) (L 30) true (f 10) (f 11) (f 12) (f 13) (f 14) (f 23) (f 24) (f 25) (f 26) (f 27)) _ _ _
      rw [hl, h10, h11, h12, h13, h14, h23, h24, h25, h26, h27, h30]
      refine OpA.pre (X := ∃ A C, (f 27).1 = .slice A (Sn.length + 1) C) (fun w hw => ?_) (fun d h => by cases h) ?_
      · obtain ⟨A, C, e2, _⟩ := hw.rowForm 3 rfl
        exact ⟨A, C, e2⟩
      · rintro ⟨A', C', e2⟩
        refine OpA.swap (dl' := [(42, .ex (.pointer (some ⟨b, 1, none⟩))), (38, .ex (f 27).1)]) (List.forall_mem_cons.2 ⟨rfl, List.forall_mem_cons.2 ⟨rfl, fun _ h => nomatch h⟩⟩) ?_
        generalize f 27 = x8 at *
        obtain ⟨x8, g8⟩ := x8
        dsimp only at e2
        subst e2
        exact OpS.toF () (fun u h => by cases h) (OpS.store tabOk 1 rfl rfl (fun u h => by rw [List.mem_singleton] at h; subst h; rfl) rfl rfl rfl)
  · intro L f w5 hL hw
    change Hp _ _ (lst (L 10) (L 11) (L 12) (L 13) (L 14) (L 23) (L 24) (L 25) (L 26) (L 27) (L 30) (L 33) (f 10) (f 11) (f 12) (f 13) (f 14) (f 23) (f 24) (f 25) (f 26) (f 27)) at hw
    rw [hL 10 (by decide), hL 11 (by decide), hL 12 (by decide), hL 13 (by decide), hL 14 (by decide), hL 23 (by decide), hL 24 (by decide), hL 25 (by decide), hL 26 (by decide), hL 27 (by decide), hL 30 (by decide), hL 33 (by decide)] at hw
    obtain ⟨A0, C0, e2, _⟩ := hw.rowForm 2 rfl
    generalize f 14 = x8 at hw e2 ⊢
    obtain ⟨x8, g8⟩ := x8
    have e3 : x8 = .slice A0 (Ln.length + 1) C0 := e2
    subst e3
    clear e2
    obtain ⟨Y0, Z0, e2, _⟩ := hw.rowForm 6 rfl
    generalize f 11 = x8 at hw e2 ⊢
    obtain ⟨x8, g8⟩ := x8
    have e3 : x8 = .slice Y0 q.bs.length Z0 := e2
    subst e3
    clear e2
    obtain ⟨A1, C1, e2, _⟩ := hw.rowForm 3 rfl
    generalize f 27 = x8 at hw e2 ⊢
    obtain ⟨x8, g8⟩ := x8
    have e3 : x8 = .slice A1 (Sn.length + 1) C1 := e2
    subst e3
    clear e2
    obtain ⟨Y1, Z1, e2, _⟩ := hw.rowForm 10 rfl
    generalize f 24 = x8 at hw e2 ⊢
    obtain ⟨x8, g8⟩ := x8
    have e3 : x8 = .slice Y1 q.bs.length Z1 := e2
    subst e3
    clear e2
    obtain ⟨G2, hw7⟩ := Hp.snocK (p := (⟨q.to, q.bs, Y0, Z0⟩ : Pk)) (hw.perm (pmL8 ..)) hqt hqb hqf
    obtain ⟨G3, hw8⟩ := Hp.snocK (p := (⟨q.to, q.bs, Y1, Z1⟩ : Pk)) hw7 hqt hqb hqf
    have hw9 : Hp w0 w5 (knE w0 (K ++ [(⟨q.to, q.bs, Y0, Z0⟩ : Pk)] ++ [(⟨q.to, q.bs, Y1, Z1⟩ : Pk)]) G3 :: nbE 69 b A0 (Ln ++ [(⟨q.to, q.bs, Y0, Z0⟩ : Pk)]).length C0 A1 (Sn ++ [(⟨q.to, q.bs, Y1, Z1⟩ : Pk)]).length C1 :: rowP w0 133 A0 C0 (Ln ++ [(⟨q.to, q.bs, Y0, Z0⟩ : Pk)]) :: rowP w0 133 A1 C1 (Sn ++ [(⟨q.to, q.bs, Y1, Z1⟩ : Pk)]) :: rest) := by
      unfold nbE rowP
      rw [cellsP_snoc Ln (⟨q.to, q.bs, Y0, Z0⟩ : Pk), show (Ln ++ [(⟨q.to, q.bs, Y0, Z0⟩ : Pk)]).length = Ln.length + 1 from List.length_append, cellsP_snoc Sn (⟨q.to, q.bs, Y1, Z1⟩ : Pk), show (Sn ++ [(⟨q.to, q.bs, Y1, Z1⟩ : Pk)]).length = Sn.length + 1 from List.length_append]
      exact hw8.less (by repeat (first | refine Less.keep ?_ | refine Less.dropR ?_ | refine Less.dropB (by first | assumption | omega) ?_ | refine Less.dropW (Nat.le_refl _) ?_ | exact Less.same _))
    refine ⟨[], _, SubD.nil, hw9, ?_⟩
    repeat (first | refine T_seq ?_ | refine T_region ?_ | refine S_nil ?_ | refine T_ret ?_ | refine S_pure tabOk rfl ?_)
    refine ret1 rfl rfl (fun w' hw => ⟨_, _, ⟨A0, C0, A1, C1, Ln ++ [(⟨q.to, q.bs, Y0, Z0⟩ : Pk)], Sn ++ [(⟨q.to, q.bs, Y1, Z1⟩ : Pk)]⟩, rfl, hw.less (by repeat (first | refine Less.keep ?_ | exact Less.same _)), ⟨fun p hp => ?_, fun p hp => ?_, ?_, ?_⟩, fun _ h => List.mem_append_left _ (List.mem_append_left _ h), ?_⟩)
    · rcases List.mem_append.1 hp with hp | hp
      · exact List.mem_append_left _ (List.mem_append_left _ (hN.l p hp))
      · exact List.mem_append_left _ (List.mem_append_right _ hp)
    · rcases List.mem_append.1 hp with hp | hp
      · exact List.mem_append_left _ (List.mem_append_left _ (hN.s p hp))
      · exact List.mem_append_right _ hp
    · show (Ln ++ [_]).length ≤ _
      rw [List.length_append]
      show Ln.length + 1 ≤ _
      omega
    · show (Sn ++ [_]).length ≤ _
      rw [List.length_append]
      show Sn.length + 1 ≤ _
      omega
    · unfold sendV
      rw [if_pos he0]
      unfold Nt.v
      dsimp only
      rw [List.map_append, List.map_append]
      rfl

theorem pmM0 {α : Type} (x0 x1 x2 x3 x4 x5 x6 : α) (r : List α) : List.Perm (x0 :: x1 :: x2 :: x3 :: x4 :: x5 :: x6 :: r) (x3 :: x4 :: x5 :: x6 :: x1 :: x2 :: x0 :: r) := by
  have hP : List.Perm ([0, 1, 2, 3, 4, 5, 6] : List Nat) [3, 4, 5, 6, 1, 2, 0] := by decide
  exact (hP.map fun i => ([x0, x1, x2, x3, x4, x5, x6][i]?).getD x0).append_right r
theorem pmM1 {α : Type} (x0 x1 x2 x3 x4 x5 x6 : α) (r : List α) : List.Perm (x0 :: x1 :: x2 :: x3 :: x4 :: x5 :: x6 :: r) (x0 :: x1 :: x6 :: x2 :: x3 :: x4 :: x5 :: r) := by
  have hP : List.Perm ([0, 1, 2, 3, 4, 5, 6] : List Nat) [0, 1, 6, 2, 3, 4, 5] := by decide
  exact (hP.map fun i => ([x0, x1, x2, x3, x4, x5, x6][i]?).getD x0).append_right r
set_option maxHeartbeats 8000000 in
theorem rdeliver_ok {w0 w : World} {b : Nat} {K : List Pk} {G : Nat → Prop} {N : Nt} {rest : OL} {k : Nat} (i : Int) (h : NetH w0 w 69 133 b K G N rest) (hN : N.ok K k) (hk : k ≤ 1000) : Calls Try.prog 72 #[.pointer (some ⟨b, 0, none⟩), .int .i64 i] w fun e w' => ∃ N', e = .returned (.tuple #[.agg ⟨cellP (delP N i)⟩, .int .i64 (if atV i N.v.1.length then 0 else 4)]) ∧ NetQ w0 w' 69 133 b K N rest k (delV N.v i) K G N' := by
  obtain ⟨la, lc, sa, sc, Ln, Sn⟩ := N
  have hln := hN.ln
  dsimp only at hln
  rw [show (Nt.v ⟨la, lc, sa, sc, Ln, Sn⟩).1.length = Ln.length from List.length_map _]
  have e0 : atV i Ln.length = false → delP ⟨la, lc, sa, sc, Ln, Sn⟩ i = ⟨0, [], none, 0⟩ := fun he => by unfold delP; rw [if_neg (by rw [he]; decide)]
  have hno : atV i Ln.length = false → delV (Nt.v ⟨la, lc, sa, sc, Ln, Sn⟩) i = Nt.v ⟨la, lc, sa, sc, Ln, Sn⟩ := fun he => by
    unfold delV
    rw [show (Nt.v ⟨la, lc, sa, sc, Ln, Sn⟩).1.length = Ln.length from List.length_map _, if_neg (by rw [he]; decide)]
  refine enterW2 Try.func72 rfl rfl h ?_
  repeat (first | refine T_seq ?_ | refine T_region ?_)
  refine S_new tabOk rfl (fun b4 hb4 => ?_)
  repeat (first | refine T_seq ?_ | refine T_region ?_ | refine S_nil ?_ | refine S_pure tabOk rfl ?_)
  cases he : atV i Ln.length with
  | false =>
    rw [e0 he]
    have he' : ¬ (0 ≤ i ∧ i < Ln.length) := of_decide_eq_false he
    by_cases h1 : i < 0
    · refine S_re 9 (v' := .bool true) rfl (congrArg Value.bool (decide_eq_true h1)) ?_
      repeat (first | refine S_nil ?_ | refine S_pure tabOk rfl ?_ | refine S_pass rfl rfl rfl ?_)
      refine T_cond_t rfl ?_
      repeat (first | refine T_seq ?_ | refine T_region ?_ | refine S_nil ?_ | refine pthen_ret ?_ | refine T_ret ?_ | refine S_pure tabOk rfl ?_ | refine S_store tabOk 0 rfl rfl rfl rfl rfl rfl ?_ | refine S_q (Q_build tabOk rfl rfl rfl rfl rfl rfl rfl) ?_)
      exact ret2 rfl (ResIs.cellO tabOk 0 rfl rfl rfl rfl) rfl (fun w' hw => ⟨⟨la, lc, sa, sc, Ln, Sn⟩, rfl, ⟨hw.less (by repeat (first | refine Less.keep ?_ | refine Less.dropB (by first | assumption | omega) ?_ | exact Less.same _)), hN, fun _ h => h, (hno he).symm⟩⟩)
    · refine S_re 9 (v' := .bool false) rfl (congrArg Value.bool (decide_eq_false h1)) ?_
      repeat (first | refine S_nil ?_ | refine S_pure tabOk rfl ?_ | refine S_load tabOk 2 rfl rfl rfl ?_)
      refine T_cond_dec rfl (fun h2 => ?_) (fun h2 => by exfalso; dsimp only at h2; omega)
      repeat (first | refine T_seq ?_ | refine T_region ?_ | refine S_nil ?_ | refine pthen_ret ?_ | refine T_ret ?_ | refine S_pure tabOk rfl ?_ | refine S_store tabOk 0 rfl rfl rfl rfl rfl rfl ?_ | refine S_q (Q_build tabOk rfl rfl rfl rfl rfl rfl rfl) ?_)
      exact ret2 rfl (ResIs.cellO tabOk 0 rfl rfl rfl rfl) rfl (fun w' hw => ⟨⟨la, lc, sa, sc, Ln, Sn⟩, rfl, ⟨hw.less (by repeat (first | refine Less.keep ?_ | refine Less.dropB (by first | assumption | omega) ?_ | exact Less.same _)), hN, fun _ h => h, (hno he).symm⟩⟩)
  | true =>
    have he' : 0 ≤ i ∧ i < Ln.length := of_decide_eq_true he
    refine S_re 9 (v' := .bool false) rfl (congrArg Value.bool (decide_eq_false (by omega))) ?_
    repeat (first | refine S_nil ?_ | refine S_pure tabOk rfl ?_ | refine S_load tabOk 2 rfl rfl rfl ?_)
    refine T_cond_dec rfl (fun h2 => by exfalso; dsimp only at h2; omega) (fun h2 => ?_)
    clear e0 hno he'
    obtain ⟨j, rfl, hj⟩ := at_j he
    obtain ⟨q, hq0⟩ : ∃ q, q = Ln[j] := ⟨_, rfl⟩
    have e : delP ⟨la, lc, sa, sc, Ln, Sn⟩ (j : Int) = q := by
      unfold delP
      rw [if_pos he, Int.toNat_natCast, List.getD_eq_getElem?_getD, List.getElem?_eq_getElem hj, hq0]
      rfl
    rw [e]
    refine T_kn (X := (∃ g, la = some ⟨g, 0, none⟩) ∧ Ln.length ≤ lc) (fun w hw => ⟨hw.rowA 3 (m := Ln.length) rfl (by omega), by
      obtain ⟨A, C, e2, h3⟩ := hw.rowForm 3 rfl
      obtain ⟨A', C', e', h1, h2⟩ := form_of_own h3
      cases e2
      cases e'
      exact h1⟩) (fun ⟨⟨g, hg⟩, hcap⟩ => ?_)
    subst hg
    repeat (first | refine T_seq ?_ | refine T_region ?_ | refine pthen_normal ?_ | refine T_skip ?_ | refine S_pure tabOk rfl ?_ | refine S_load tabOk 2 rfl rfl rfl ?_)
    refine S_q (Q_idx (sz := 2) tabOk rfl rfl rfl rfl rfl rfl rfl rfl (j := j) hj) ?_
    refine S_loadN tabOk (vs := cellP q) rfl rfl rfl (fun w' hw => by rw [hq0]; exact row_cellP hw 3 rfl hj) ?_
    skip
    refine S_new tabOk rfl (fun b6 hb6 => ?_)
    repeat (first | refine T_seq ?_ | refine S_nil ?_ | refine S_store tabOk 0 rfl rfl rfl rfl rfl rfl ?_)
    refine T_toX (ι := Unit) (fun _ => True) (fun _ => knE w0 K G :: nbE 69 b (some ⟨g, 0, none⟩) Ln.length lc sa Sn.length sc :: rowP w0 133 (some ⟨g, 0, none⟩) lc Ln :: rowP w0 133 sa sc Sn :: .blk b6 (.cells ⟨cellP q⟩ 133 (0, 0)) true :: .blk b4 (.cells ⟨[.int .i64 0, .slice none 0 0]⟩ 133 (0, 0)) true :: factE True :: rest) (fun w hw => ⟨(), trivial, (hw.fills).perm (pmM0 ..)⟩) (fun _ _ => ?_)
    have hs1 := cellsP_split Ln j (by omega)
    have hs2 := cellsP_split Ln (j + 1) (by omega)
    have hone : ∀ l, ∀ u ∈ cellsP l, u.oneCell' = true := cellsP_one
    let lst : Bool → Bool → Bool → Bool → Value × (Unit) → Value × (Unit) → Value × (Unit) → OL := fun l1 l8 l16 l19 x1 x8 x16 =>
      knE w0 K G :: .blk b (.cells ⟨[cond l19 x16.1 (.slice (some ⟨g, 0, none⟩) Ln.length lc), .slice sa Sn.length sc]⟩ 69 (0, 0)) true :: rowP w0 133 (some ⟨g, 0, none⟩) lc Ln :: rowP w0 133 sa sc Sn :: .blk b6 (.cells ⟨cellP q⟩ 133 (0, 0)) true :: .blk b4 (.cells ⟨[.int .i64 0, .slice none 0 0]⟩ 133 (0, 0)) true :: (cond l1 (.row w0.heap.size (cond l16 x16.1 (cond l8 x8.1 x1.1)) 133 2 (cond l16 (0 + j + (Ln.length - (j + 1))) (cond l8 (0 + j) 0)) (cond l16 ([] ++ cellsP (Ln.take j) ++ cellsP (Ln.drop (j + 1))) (cond l8 ([] ++ cellsP (Ln.take j)) []))) (factE True)) :: rest
    refine T_drawF (γ := Unit) (by kernel_rfl) (by kernel_rfl) () (fun L f => lst (L 1) (L 8) (L 16) (L 19) (f 1) (f 8) (f 16)) rfl [some (.pointer (some ⟨b, 0, none⟩)), none, some (.pointer (some ⟨b, 0, none⟩)), some (.pointer (some ⟨b, 0, none⟩)), some (.pointer (some ⟨b, 0, none⟩)), some (.slice (some ⟨g, 0, none⟩) Ln.length lc), some (.int .i64 (j : Int)), some (.slice (some ⟨g, 0, none⟩) j lc), none, some (.pointer (some ⟨b, 0, none⟩)), some (.pointer (some ⟨b, 0, none⟩)), some (.pointer (some ⟨b, 0, none⟩)), some (.slice (some ⟨g, 0, none⟩) Ln.length lc), some (.int .i64 (j : Int)), some (.int .i64 (IntKind.i64.wrap ((j : Int) + 1))), some (.slice (if lc = j + 1 then some ⟨g, 0, none⟩ else (some (⟨g, 0, none⟩ : Addr)).map (·.add ((j + 1) * 2))) (Ln.length - (j + 1)) (lc - (j + 1))), none, some (.pointer (some ⟨b, 0, none⟩)), some (.pointer (some ⟨b, 0, none⟩)), none] ?_ ?_
    · refine ⟨?_, ?_, ?_, ?_, ?_, ?_, ?_, ?_, ?_, ?_, ?_, ?_, ?_, ?_, ?_, ?_, ?_, ?_, ?_, ?_, trivial⟩
      · exact fun L f hc hl hp => OpA.told () rfl (D_pure tabOk rfl D_last) rfl
      · intro L f hc hl hp
        have h8 := closed_no hc (j := 8) rfl ⟨1, .data⟩ (by simp) rfl hl
        have h16 := closed_no hc (j := 16) rfl ⟨8, .data⟩ (by simp) rfl h8
        have h19 := closed_no hc (j := 19) rfl ⟨1, .phase⟩ (by simp) rfl hl
        show OpA _ _ _ _ (lst (L 1) (L 8) (L 16) (L 19) (f 1) (f 8) (f 16)) (fun y => lst true (L 8) (L 16) (L 19) y (f 8) (f 16)) _ _ _
        rw [hl, h8, h16, h19]
        exact OpA.bsliceR tabOk (m := 0) (ps := []) rfl rfl rfl rfl rfl rfl rfl rfl rfl rfl rfl rfl rfl rfl (fun w1 v hw1 => ⟨(), hw1.fill 6 rfl rfl⟩)
      · exact fun L f hc hl hp => OpA.told () rfl (D_pure tabOk rfl D_last) rfl
      · exact fun L f hc hl hp => OpA.told () rfl (D_pure tabOk rfl D_last) rfl
      · exact fun L f hc hl hp => OpA.told () rfl (D_pure tabOk rfl D_last) rfl
      · intro L f hc hl hp
        have h7 := closed_no hc (j := 7) rfl ⟨5, .data⟩ (by simp) rfl hl
        have h8 := closed_no hc (j := 8) rfl ⟨7, .data⟩ (by simp) rfl h7
        have h16 := closed_no hc (j := 16) rfl ⟨8, .data⟩ (by simp) rfl h8
        have h19 := closed_no hc (j := 19) rfl ⟨5, .phase⟩ (by simp) rfl hl
        show OpA _ _ _ _ (lst (L 1) (L 8) (L 16) (L 19) (f 1) (f 8) (f 16)) (fun y => lst (L 1) (L 8) (L 16) (L 19) (f 1) (f 8) (f 16)) _ _ _
        rw [h8, h16, h19]
        exact OpA.told () rfl (D_load tabOk 1 rfl rfl rfl D_last) rfl
      · exact fun L f hc hl hp => OpA.told () rfl (D_pure tabOk rfl D_last) rfl
      · intro L f hc hl hp
        have h8 := closed_no hc (j := 8) rfl ⟨7, .data⟩ (by simp) rfl hl
        have h16 := closed_no hc (j := 16) rfl ⟨8, .data⟩ (by simp) rfl h8
        have h19 := closed_no hc (j := 19) rfl ⟨7, .phase⟩ (by simp) rfl hl
        show OpA _ _ _ _ (lst (L 1) (L 8) (L 16) (L 19) (f 1) (f 8) (f 16)) (fun y => lst (L 1) (L 8) (L 16) (L 19) (f 1) (f 8) (f 16)) _ _ _
        rw [h8, h16, h19]
        exact OpA.told () rfl (D_q (Q_sliceTo tabOk rfl rfl rfl rfl rfl rfl rfl (by omega)) D_last) rfl
      · intro L f hc hl hp
        have h1 : L 1 = true := hp ⟨1, .data⟩ (by simp) rfl
        have h16 := closed_no hc (j := 16) rfl ⟨8, .data⟩ (by simp) rfl hl
        have h19 := closed_no hc (j := 19) rfl ⟨8, .phase⟩ (by simp) rfl hl
        show OpA _ _ _ _ (lst (L 1) (L 8) (L 16) (L 19) (f 1) (f 8) (f 16)) (fun y => lst (L 1) true (L 16) (L 19) (f 1) y (f 16)) _ _ _
        rw [hl, h1, h16, h19]
        refine OpA.pre (X := ∃ A C, (f 1).1 = .slice A (0) C) (fun w hw => ?_) (fun d h => by cases h; decide) ?_
        · obtain ⟨A, C, e2, _⟩ := hw.rowForm 6 rfl
          exact ⟨A, C, e2⟩
        · rintro ⟨A', C', e2⟩
          generalize hx7 : f 1 = x7
          rw [hx7] at e2
          obtain ⟨x7, g7⟩ := x7
          dsimp only at e2
          subst e2
          refine OpA.ofS (l := [(27, .slice A' (0) C'), (33, .slice (some ⟨g, 0, none⟩) j lc)]) rfl (by decide) (.cons rfl (by show some (Ent.ex (f 1).1) = _; rw [hx7]) (.cons rfl rfl .nil)) ?_
          refine S_append (ty := 0) tabOk 6 (m := 0) (k := j) (v := .slice A' (0) C') (xs := []) (news := cellsP (Ln.take j)) rfl rfl rfl rfl rfl rfl rfl rfl rfl (by decide) (fun w' hw => by have h3 := (Sl.of_own (show (w'.ownsRow w0.heap.size 133 2 (.slice (some ⟨g, 0, none⟩) Ln.length lc) Ln.length (cellsP Ln)) from hw.own _ (getE_mem (i := 2) rfl))).take (k := j) (by omega); rw [hs1.1] at h3; exact h3) (hone _) (by simp only [maxLen]; omega) (by show (_ + _) * 32 ≤ _; omega) rfl (fun AS CS hcS hdS => ⟨_, rfl, ?_⟩)
          refine S_nil ?_
          exact ⟨_, (), rfl, (fun u h => by cases h), fun w hw => hw⟩
      · exact fun L f hc hl hp => OpA.told () rfl (D_pure tabOk rfl D_last) rfl
      · exact fun L f hc hl hp => OpA.told () rfl (D_pure tabOk rfl D_last) rfl
      · exact fun L f hc hl hp => OpA.told () rfl (D_pure tabOk rfl D_last) rfl
      · intro L f hc hl hp
        have h15 := closed_no hc (j := 15) rfl ⟨12, .data⟩ (by simp) rfl hl
        have h16 := closed_no hc (j := 16) rfl ⟨15, .data⟩ (by simp) rfl h15
        have h19 := closed_no hc (j := 19) rfl ⟨12, .phase⟩ (by simp) rfl hl
        show OpA _ _ _ _ (lst (L 1) (L 8) (L 16) (L 19) (f 1) (f 8) (f 16)) (fun y => lst (L 1) (L 8) (L 16) (L 19) (f 1) (f 8) (f 16)) _ _ _
        rw [h16, h19]
        exact OpA.told () rfl (D_load tabOk 1 rfl rfl rfl D_last) rfl
      · exact fun L f hc hl hp => OpA.told () rfl (D_pure tabOk rfl D_last) rfl
      · exact fun L f hc hl hp => OpA.told () rfl (D_pure tabOk rfl D_last) rfl
      · intro L f hc hl hp
        have h16 := closed_no hc (j := 16) rfl ⟨15, .data⟩ (by simp) rfl hl
        have h19 := closed_no hc (j := 19) rfl ⟨15, .phase⟩ (by simp) rfl hl
        show OpA _ _ _ _ (lst (L 1) (L 8) (L 16) (L 19) (f 1) (f 8) (f 16)) (fun y => lst (L 1) (L 8) (L 16) (L 19) (f 1) (f 8) (f 16)) _ _ _
        rw [h16, h19]
        exact OpA.told () rfl (D_q (Q_sliceFrom tabOk (L := j + 1) (sz := 2) rfl rfl rfl rfl rfl rfl rfl (by rw [IntKind.wrap_i64]; omega) (by omega) hcap) D_last) rfl
      · intro L f hc hl hp
        have h8 : L 8 = true := hp ⟨8, .data⟩ (by simp) rfl
        have h1 : L 1 = true := hc 8 _ rfl h8 ⟨1, .data⟩ (by simp) rfl
        have h19 := closed_no hc (j := 19) rfl ⟨16, .data⟩ (by simp) rfl hl
        show OpA _ _ _ _ (lst (L 1) (L 8) (L 16) (L 19) (f 1) (f 8) (f 16)) (fun y => lst (L 1) (L 8) true (L 19) (f 1) (f 8) y) _ _ _
        rw [hl, h1, h8, h19]
        refine OpA.pre (X := ∃ A C, (f 8).1 = .slice A (0 + j) C) (fun w hw => ?_) (fun d h => by cases h; decide) ?_
        · obtain ⟨A, C, e2, _⟩ := hw.rowForm 6 rfl
          exact ⟨A, C, e2⟩
        · rintro ⟨A', C', e2⟩
          generalize hx7 : f 8 = x7
          rw [hx7] at e2
          obtain ⟨x7, g7⟩ := x7
          dsimp only at e2
          subst e2
          refine OpA.ofS (l := [(34, .slice A' (0 + j) C'), (41, .slice (if lc = j + 1 then some ⟨g, 0, none⟩ else (some (⟨g, 0, none⟩ : Addr)).map (·.add ((j + 1) * 2))) (Ln.length - (j + 1)) (lc - (j + 1)))]) rfl (by decide) (.cons rfl (by show some (Ent.ex (f 8).1) = _; rw [hx7]) (.cons rfl rfl .nil)) ?_
          refine S_append (ty := 0) tabOk 6 (m := 0 + j) (k := Ln.length - (j + 1)) (v := .slice A' (0 + j) C') (xs := [] ++ cellsP (Ln.take j)) (news := cellsP (Ln.drop (j + 1))) rfl rfl rfl rfl rfl rfl rfl rfl rfl (by decide) (fun w' hw => by have h3 := (Sl.of_own (show (w'.ownsRow w0.heap.size 133 2 (.slice (some ⟨g, 0, none⟩) Ln.length lc) Ln.length (cellsP Ln)) from hw.own _ (getE_mem (i := 2) rfl))).drop (k := j + 1) (c := lc) (by omega) hcap; rw [hs2.2] at h3; exact h3) (hone _) (by simp only [maxLen]; omega) (by show (_ + _) * 32 ≤ _; omega) rfl (fun AS CS hcS hdS => ⟨_, rfl, ?_⟩)
          refine S_nil ?_
          exact ⟨_, (), rfl, (fun u h => by cases h), fun w hw => hw⟩
      · exact fun L f hc hl hp => OpA.told () rfl (D_pure tabOk rfl D_last) rfl
      · exact fun L f hc hl hp => OpA.told () rfl (D_pure tabOk rfl D_last) rfl
      · intro L f hc hl hp
        have h1 : L 1 = true := hp ⟨1, .phase⟩ (by simp) rfl
        have h8 : L 8 = true := hp ⟨8, .phase⟩ (by simp) rfl
        have h16 : L 16 = true := hp ⟨16, .data⟩ (by simp) rfl
        show OpA _ _ _ _ (lst (L 1) (L 8) (L 16) (L 19) (f 1) (f 8) (f 16)) (fun y => lst (L 1) (L 8) (L 16) true (f 1) (f 8) (f 16)) _ _ _
        rw [hl, h1, h8, h16]
        refine OpA.pre (X := ∃ A C, (f 16).1 = .slice A (0 + j + (Ln.length - (j + 1))) C) (fun w hw => ?_) (fun d h => by cases h) ?_
        · obtain ⟨A, C, e2, _⟩ := hw.rowForm 6 rfl
          exact ⟨A, C, e2⟩
        · rintro ⟨A', C', e2⟩
          refine OpA.swap (dl' := [(44, .ex (.pointer (some ⟨b, 0, none⟩))), (42, .ex (f 16).1)]) (List.forall_mem_cons.2 ⟨rfl, List.forall_mem_cons.2 ⟨rfl, fun _ h => nomatch h⟩⟩) ?_
          generalize f 16 = x8 at *
          obtain ⟨x8, g8⟩ := x8
          dsimp only at e2
          subst e2
          exact OpS.toF () (fun u h => by cases h) (OpS.store tabOk 1 rfl rfl (fun u h => by rw [List.mem_singleton] at h; subst h; rfl) rfl rfl rfl)
    · intro L f w5 hL hw
      change Hp _ _ (lst (L 1) (L 8) (L 16) (L 19) (f 1) (f 8) (f 16)) at hw
      rw [hL 1 (by decide), hL 8 (by decide), hL 16 (by decide), hL 19 (by decide)] at hw
      obtain ⟨A', C', e2, _⟩ := hw.rowForm 6 rfl
      generalize f 16 = x8 at hw e2 ⊢
      obtain ⟨x8, g8⟩ := x8
      have e3 : x8 = .slice A' (0 + j + (Ln.length - (j + 1))) C' := e2
      subst e3
      have hel : (Ln.eraseIdx j).length = 0 + j + (Ln.length - (j + 1)) := by rw [List.length_eraseIdx_of_lt hj]; omega
      have hec : [] ++ cellsP (Ln.take j) ++ cellsP (Ln.drop (j + 1)) = cellsP (Ln.eraseIdx j) := by rw [List.nil_append, ← cellsP_app, List.eraseIdx_eq_take_drop_succ]
      have hw9 : Hp w0 w5 (knE w0 K G :: nbE 69 b A' (Ln.eraseIdx j).length C' sa Sn.length sc :: rowP w0 133 A' C' (Ln.eraseIdx j) :: rowP w0 133 sa sc Sn :: .blk b6 (.cells ⟨cellP q⟩ 133 (0, 0)) true :: .blk b4 (.cells ⟨[.int .i64 0, .slice none 0 0]⟩ 133 (0, 0)) true :: rest) := by
        unfold rowP
        rw [hel, ← hec]
        exact (hw.perm (pmM1 ..)).less (by repeat (first | refine Less.keep ?_ | refine Less.dropW (Nat.le_refl _) ?_ | exact Less.same _))
      refine ⟨[(4, .pointer (some ⟨b4, 0, none⟩)), (6, .pointer (some ⟨b6, 0, none⟩))], knE w0 K G :: nbE 69 b A' (Ln.eraseIdx j).length C' sa Sn.length sc :: rowP w0 133 A' C' (Ln.eraseIdx j) :: rowP w0 133 sa sc Sn :: .blk b6 (.cells ⟨cellP q⟩ 133 (0, 0)) true :: .blk b4 (.cells ⟨[.int .i64 0, .slice none 0 0]⟩ 133 (0, 0)) true :: rest, (by repeat (first | exact SubD.nil | refine SubD.cons rfl ?_)), hw9, ?_⟩
      repeat (first | refine T_seq ?_ | refine T_region ?_ | refine S_nil ?_ | refine T_ret ?_ | refine S_pure tabOk rfl ?_ | refine S_load tabOk 4 rfl rfl rfl ?_ | refine S_store tabOk 5 rfl rfl rfl rfl rfl rfl ?_)
      refine ret2 rfl (ResIs.cellO tabOk 5 rfl rfl rfl rfl) rfl (fun w' hw => ⟨⟨A', C', sa, sc, Ln.eraseIdx j, Sn⟩, rfl, ⟨hw.less (by repeat (first | refine Less.keep ?_ | refine Less.dropB (by first | assumption | omega) ?_ | exact Less.same _)), ⟨fun p hp => hN.l p (List.mem_of_mem_eraseIdx hp), hN.s, by show (Ln.eraseIdx j).length ≤ _; omega, hN.sn⟩, fun _ h => h, ?_⟩⟩)
      unfold delV
      rw [if_pos (by rw [show (Nt.v ⟨_, lc, sa, sc, Ln, Sn⟩).1.length = Ln.length from List.length_map _]; exact he), Int.toNat_natCast]
      unfold Nt.v
      dsimp only
      rw [List.eraseIdx_eq_take_drop_succ, List.eraseIdx_eq_take_drop_succ, List.map_append, List.map_take, List.map_drop]

theorem pmN0 {α : Type} (x0 x1 x2 x3 x4 : α) (r : List α) : List.Perm (x0 :: x1 :: x2 :: x3 :: x4 :: r) (x3 :: x0 :: x1 :: x2 :: x4 :: r) := by
  have hP : List.Perm ([0, 1, 2, 3, 4] : List Nat) [3, 0, 1, 2, 4] := by decide
  exact (hP.map fun i => ([x0, x1, x2, x3, x4][i]?).getD x0).append_right r
theorem pmN1 {α : Type} (x0 x1 x2 x3 x4 : α) (r : List α) : List.Perm (x0 :: x1 :: x2 :: x3 :: x4 :: r) (x2 :: x1 :: x3 :: x0 :: x4 :: r) := by
  have hP : List.Perm ([0, 1, 2, 3, 4] : List Nat) [2, 1, 3, 0, 4] := by decide
  exact (hP.map fun i => ([x0, x1, x2, x3, x4][i]?).getD x0).append_right r
theorem tmod_fix2 {a n : Int} (hn : 0 < n) : (a.tmod n + n).tmod n = a % n := by
  have h1 := tmod_fix (a := a) hn
  have h2 := Int.emod_nonneg a (by omega : n ≠ 0)
  have h3 := Int.emod_lt_of_pos a hn
  split at h1
  · rw [h1, Int.tmod_eq_emod_of_nonneg h2, Int.emod_eq_of_lt h2 h3]
  · rw [h1, Int.tmod_eq_emod_of_nonneg (by omega), Int.add_emod_right, Int.emod_eq_of_lt h2 h3]
theorem cellsP_set1 (l : List Pk) (junk : List Value) (j : Nat) (v : Value) (q : Pk) (h : j < l.length) (hq : cellP q = [.int .i64 l[j].to, v]) : (cellsP l ++ junk).take (j * 2 + 1) ++ [v] ++ (cellsP l ++ junk).drop (j * 2 + 1 + 1) = (cellsP l ++ junk).take (j * 2) ++ cellP q ++ (cellsP l ++ junk).drop (j * 2 + 2) := by
  have hl := cellsP_len l
  have hg := (cellsP_get h).1
  have hlt : j * 2 < (cellsP l ++ junk).length := by rw [List.length_append]; omega
  have e : (cellsP l ++ junk)[j * 2] = .int .i64 l[j].to := by
    rw [List.getElem_append_left (by omega)]
    exact (List.getElem_eq_iff _).2 hg
  rw [List.take_succ_eq_append_getElem hlt, e, hq]
  simp
theorem turV_same {x : V2} {i a y : Int} (h : ¬ (atV i x.1.length = true ∧ (x.1.getD i.toNat (0, [])).2 ≠ [] ∧ honV x.2 (turB (x.1.getD i.toNat (0, [])).2 a y) = true)) : turV x i a y = x := by unfold turV; rw [if_neg h]
set_option maxHeartbeats 8000000 in
theorem rturn_ok {w0 w : World} {b : Nat} {K : List Pk} {G : Nat → Prop} {N : Nt} {rest : OL} {k : Nat} (i at_ by_ : Int) (hat : Fits .i64 at_) (h : NetH w0 w 69 133 b K G N rest) (hN : N.ok K k) (hk : k ≤ 1000) : Calls Try.prog 74 #[.pointer (some ⟨b, 0, none⟩), .int .i64 i, .int .i64 at_, .int .u8 by_] w fun e w' => ∃ K' G' N', e = .returned (.int .i64 (turE N.v i at_ by_)) ∧ NetQ w0 w' 69 133 b K N rest k (turV N.v i at_ by_) K' G' N' := by
  obtain ⟨la, lc, sa, sc, Ln, Sn⟩ := N
  have hln := hN.ln
  dsimp only at hln
  have hvl : (Nt.v ⟨la, lc, sa, sc, Ln, Sn⟩).1.length = Ln.length := List.length_map _
  refine enterW4 Try.func74 rfl rfl h ?_
  repeat (first | refine T_seq ?_ | refine T_region ?_ | refine S_nil ?_ | refine S_pure tabOk rfl ?_)
  cases he : atV i Ln.length with
  | false =>
    have e1 : turE (Nt.v ⟨la, lc, sa, sc, Ln, Sn⟩) i at_ by_ = 4 := by unfold turE; rw [hvl, if_neg (by rw [he]; decide)]
    have e2 : turV (Nt.v ⟨la, lc, sa, sc, Ln, Sn⟩) i at_ by_ = Nt.v ⟨la, lc, sa, sc, Ln, Sn⟩ := turV_same (fun h => by rw [hvl, he] at h; cases h.1)
    rw [e1, e2]
    have he' : ¬ (0 ≤ i ∧ i < Ln.length) := of_decide_eq_false he
    by_cases h1 : i < 0
    · refine S_re 13 (v' := .bool true) rfl (congrArg Value.bool (decide_eq_true h1)) ?_
      repeat (first | refine S_nil ?_ | refine S_pure tabOk rfl ?_ | refine S_pass rfl rfl rfl ?_)
      refine T_cond_t rfl ?_
      repeat (first | refine T_seq ?_ | refine T_region ?_ | refine S_nil ?_ | refine pthen_ret ?_ | refine T_ret ?_ | refine S_pure tabOk rfl ?_)
      exact ret1 rfl rfl (fun w' hw => ⟨K, G, ⟨la, lc, sa, sc, Ln, Sn⟩, rfl, hw, hN, fun _ h => h, rfl⟩)
    · refine S_re 13 (v' := .bool false) rfl (congrArg Value.bool (decide_eq_false h1)) ?_
      repeat (first | refine S_nil ?_ | refine S_pure tabOk rfl ?_ | refine S_load tabOk 1 rfl rfl rfl ?_)
      refine T_cond_dec rfl (fun h2 => ?_) (fun h2 => by exfalso; dsimp only at h2; omega)
      repeat (first | refine T_seq ?_ | refine T_region ?_ | refine S_nil ?_ | refine pthen_ret ?_ | refine T_ret ?_ | refine S_pure tabOk rfl ?_)
      exact ret1 rfl rfl (fun w' hw => ⟨K, G, ⟨la, lc, sa, sc, Ln, Sn⟩, rfl, hw, hN, fun _ h => h, rfl⟩)
  | true =>
    have he' : 0 ≤ i ∧ i < Ln.length := of_decide_eq_true he
    refine S_re 13 (v' := .bool false) rfl (congrArg Value.bool (decide_eq_false (by omega))) ?_
    repeat (first | refine S_nil ?_ | refine S_pure tabOk rfl ?_ | refine S_load tabOk 1 rfl rfl rfl ?_)
    refine T_cond_dec rfl (fun h2 => by exfalso; dsimp only at h2; omega) (fun h2 => ?_)
    clear he'
    obtain ⟨j, rfl, hj⟩ := at_j he
    obtain ⟨q, hq0⟩ : ∃ q, q = Ln[j] := ⟨_, rfl⟩
    have hq : q ∈ K := by rw [hq0]; exact hN.l _ (List.getElem_mem hj)
    have hg0 : (Nt.v ⟨la, lc, sa, sc, Ln, Sn⟩).1.getD ((j : Nat) : Int).toNat (0, []) = q.v := by
      rw [Int.toNat_natCast, List.getD_eq_getElem?_getD]
      show ((Ln.map Pk.v)[j]?).getD _ = _
      rw [List.getElem?_map, List.getElem?_eq_getElem hj, hq0]
      rfl
    obtain ⟨hqt, hqb, hqf⟩ : Fits .i64 q.to ∧ q.bs.length ≤ 70000 ∧ ∀ z ∈ q.bs, Fits .u8 z := by
      have := (h.own _ List.mem_cons_self).1.1 q hq
      exact ⟨this.1, this.2.1, this.2.2.ints.fits⟩
    refine T_kn (X := ∃ g, la = some ⟨g, 0, none⟩) (fun w hw => hw.rowA 2 (m := Ln.length) rfl (by omega)) (fun ⟨g, hg⟩ => ?_)
    subst hg
    have hv1 : (Nt.v ⟨some ⟨g, 0, none⟩, lc, sa, sc, Ln, Sn⟩).1.length = Ln.length := hvl
    have hv2 : (Nt.v ⟨some ⟨g, 0, none⟩, lc, sa, sc, Ln, Sn⟩).1.getD ((j : Nat) : Int).toNat (0, []) = q.v := hg0
    repeat (first | refine T_seq ?_ | refine T_region ?_ | refine pthen_normal ?_ | refine T_skip ?_ | refine S_pure tabOk rfl ?_ | refine S_load tabOk 1 rfl rfl rfl ?_)
    refine S_q (Q_idx (sz := 2) tabOk rfl rfl rfl rfl rfl rfl rfl rfl (j := j) hj) ?_
    repeat (first | refine S_pure tabOk rfl ?_)
    refine S_load1 tabOk rfl rfl (v := .slice q.a q.bs.length q.c) (fun w' hw => by
      have h1 := row_cellP hw 2 rfl hj 1 _ rfl
      rw [Addr.add_lit] at h1
      rw [hq0]
      exact h1) ?_
    skip
    refine S_bslice tabOk rfl rfl rfl rfl rfl rfl rfl rfl rfl rfl rfl rfl (fun b30 hb30 => ?_)
    skip
    refine S_callrow rfl Try.call30 (fun w1 h1 => join1_ok q.a q.bs.length q.c q.bs b30 _ _ w1 (okP.ints (h1.okP 1 rfl) hq) (h1.own _ (getE_mem (i := 0) rfl)) (by omega)) (fun ra rc hrc hrm => ?_)
    repeat (first | refine T_seq ?_ | refine T_region ?_ | refine S_nil ?_ | refine S_pure tabOk rfl ?_)
    obtain ⟨zs, hzs⟩ : ∃ zs, zs = turB q.bs at_ by_ := ⟨_, rfl⟩
    have hzl : zs.length = q.bs.length := by rw [hzs]; exact turB_len _ _ _
    have hzf : ∀ z ∈ zs, Fits .u8 z := by rw [hzs]; exact turB_fits hqf _ _
    refine T_cut (ι := Unit) (fun _ => True) (fun _ => [(0, .pointer (some ⟨b, 0, none⟩)), (1, .int .i64 (j : Int)), (9, .slice ra q.bs.length rc), (10, .int .i64 (q.bs.length : Int))])
      (fun _ => .row w0.heap.size (.slice ra q.bs.length rc) 5 1 q.bs.length (zs.map (.int .u8)) :: knE w0 K G :: nbE 69 b (some ⟨g, 0, none⟩) Ln.length lc sa Sn.length sc :: rowP w0 133 (some ⟨g, 0, none⟩) lc Ln :: rowP w0 133 sa sc Sn :: rest) ?_ ?_
    · refine T_cond_dec rfl (fun h3 => ?_) (fun h3 => ?_)
      rotate_left
      · have hn0 : q.bs = [] := List.eq_nil_of_length_eq_zero (by omega)
        have hz0 : zs = q.bs := by rw [hzs, hn0]; rfl
        repeat (first | refine pthen_normal ?_ | refine T_skip ?_)
        refine ⟨(), trivial, by repeat (first | exact Sub.nil | refine Sub.cons rfl ?_), fun w' hw => ?_⟩
        rw [hz0]
        exact hw.less (by repeat (first | refine Less.keep ?_ | refine Less.dropB (by first | assumption | omega) ?_ | exact Less.same _))
      · have hnl : 0 < q.bs.length := by omega
        obtain ⟨kk, hkk⟩ : ∃ kk : Nat, at_ % (q.bs.length : Int) = kk := ⟨_, (Int.toNat_of_nonneg (Int.emod_nonneg _ (by omega))).symm⟩
        have hkm : kk < q.bs.length := by have := Int.emod_lt_of_pos at_ (by omega : (0 : Int) < (q.bs.length : Int)); omega
        have hfix := tmod_fix2 (a := at_) (n := q.bs.length) (by omega)
        have hfix1 := tmod_fix (a := at_) (n := q.bs.length) (by omega)
        rw [hkk] at hfix hfix1
        have hmb : -(q.bs.length : Int) ≤ at_.tmod q.bs.length ∧ at_.tmod q.bs.length < q.bs.length := by split at hfix1 <;> omega
        repeat (first | refine T_region ?_ | refine S_pure tabOk rfl ?_)
        refine S_q (Q_rem rfl rfl rfl (by omega)) ?_
        repeat (first | refine S_i64 tabOk rfl (by omega) ?_ | refine S_pure tabOk rfl ?_)
        refine S_q ((Q_rem rfl rfl rfl (by omega)).eq (congrArg (Value.int .i64) hfix)) ?_
        refine S_openRow (by omega) (fun b5 junk hab hbb hmc hxl hjl hcm => ?_)
        subst hab
        refine S_q (Q_idx1 tabOk rfl rfl rfl rfl rfl rfl rfl rfl (j := kk) hkm) ?_
        have hgt : q.bs[kk]? = some q.bs[kk] := List.getElem?_eq_getElem hkm
        refine S_load1 tabOk rfl rfl (v := .int .u8 q.bs[kk]) (fun w' hw' => by rw [Nat.zero_add]; exact (cell_of_row w' b5 _ _ _ _ (hw'.own _ (getE_mem (i := 0) rfl))).trans (by simpa using cells_get hgt)) ?_
        repeat (first | refine S_pure tabOk rfl ?_)
        refine S_q (Q_idx1 tabOk rfl rfl rfl rfl rfl rfl rfl rfl (j := kk) hkm) ?_
        have hset : setMany (q.bs.map (Value.int .u8) ++ junk) (0 + kk) [.int .u8 (bits .xor .u8 q.bs[kk] by_)] = some ((q.bs.set kk (bx q.bs[kk] by_)).map (Value.int .u8) ++ junk) := by
          rw [Nat.zero_add, setMany_one (by rw [List.length_append, List.length_map]; omega), ← cells_set hkm]
          rfl
        refine S_store_of tabOk 0 rfl rfl (fun u hu => by rw [List.mem_singleton] at hu; subst hu; rfl) rfl hset rfl ?_
        have htb : q.bs.set kk (bx q.bs[kk] by_) = zs := by
          rw [hzs]
          unfold turB
          rw [hkk, Int.toNat_natCast, List.getD_eq_getElem?_getD, hgt]
          rfl
        rw [htb]
        clear hset hgt
        repeat (first | refine S_nil ?_)
        refine ⟨(), trivial, by repeat (first | exact Sub.nil | refine Sub.cons rfl ?_), fun w' hw => ?_⟩
        have h1 := Hp.closeRow (pre := []) (n := q.bs.length) (c := rc) (sz := 1) hw hbb hmc hcm (by rw [List.length_append, List.length_map, hzl]; rw [List.length_append, List.length_map] at hjl; omega)
        rw [Nat.mul_one, List.take_append_of_le_length (by rw [List.length_map]; omega), List.take_of_length_le (by rw [List.length_map]; omega)] at h1
        exact h1.less (by repeat (first | refine Less.keep ?_ | refine Less.dropB (by first | assumption | omega) ?_ | exact Less.same _))
    rintro _ _
    repeat (first | refine T_seq ?_ | refine T_region ?_ | refine S_pure tabOk rfl ?_)
    obtain ⟨q2, hq2⟩ : ∃ q2 : Pk, q2 = ⟨q.to, zs, ra, rc⟩ := ⟨_, rfl⟩
    have hq2c : cellP q2 = [.int .i64 Ln[j].to, .slice ra q.bs.length rc] := by rw [hq2, ← hq0, ← hzl]
    have hll2 : (Ln.set j q2).length = Ln.length := List.length_set
    have hll := cellsP_len Ln
    have hfin : ∀ w' jk, w0.heap.size ≤ g → Ln.length ≤ lc → lc ≤ maxLen → (cellsP Ln ++ jk).length = lc * 2 → Hp w0 w' (.blk g (.cells ⟨(cellsP Ln ++ jk).take (j * 2 + 1) ++ [.slice ra q.bs.length rc] ++ (cellsP Ln ++ jk).drop (j * 2 + 1 + 1)⟩ 133 (0, 0)) true :: .row w0.heap.size (.slice ra q.bs.length rc) 5 1 q.bs.length (zs.map (.int .u8)) :: knE w0 K G :: nbE 69 b (some ⟨g, 0, none⟩) Ln.length lc sa Sn.length sc :: rowP w0 133 sa sc Sn :: rest) → ∃ G2, Hp w0 w' (knE w0 (K ++ [q2]) G2 :: nbE 69 b (some ⟨g, 0, none⟩) (Ln.set j q2).length lc sa Sn.length sc :: rowP w0 133 (some ⟨g, 0, none⟩) lc (Ln.set j q2) :: rowP w0 133 sa sc Sn :: rest) := fun w' jk g1 g2 g3 g4 hw => by
      rw [cellsP_set1 Ln jk j _ q2 hj hq2c] at hw
      have h5 := Hp.closeRow (pre := []) (n := Ln.length) (c := lc) (sz := 2) hw g1 g2 g3 (by
        rw [List.length_append] at g4
        rw [List.length_append, List.length_append, List.length_take, List.length_drop, List.length_append]
        show min (j * 2) _ + 2 + _ = _
        omega)
      rw [cellsP_set Ln jk j q2 hj] at h5
      have h6 := h5.perm (pmN1 ..)
      rw [← hzl] at h6
      obtain ⟨G2, h8⟩ := Hp.snocK (p := ⟨q.to, zs, ra, rc⟩) h6 hqt (by dsimp only; omega) hzf
      rw [← hq2] at h8
      refine ⟨G2, ?_⟩
      unfold rowP
      rw [hll2]
      exact h8
    have hok2 : (Nt.mk (some ⟨g, 0, none⟩) lc sa sc (Ln.set j q2) Sn).ok (K ++ [q2]) k := ⟨fun p hp => by
      rcases List.mem_or_eq_of_mem_set hp with hp | hp
      · exact List.mem_append_left _ (hN.l p hp)
      · rw [hp]; exact List.mem_append_right _ List.mem_cons_self, fun p hp => List.mem_append_left _ (hN.s p hp), by show (Ln.set j q2).length ≤ _; omega, hN.sn⟩
    have hset2 : ∀ jk : List Value, (cellsP Ln ++ jk).length = lc * 2 → Ln.length ≤ lc → setMany (cellsP Ln ++ jk) (0 + j * 2 + 1) [.slice ra q.bs.length rc] = some ((cellsP Ln ++ jk).take (j * 2 + 1) ++ [.slice ra q.bs.length rc] ++ (cellsP Ln ++ jk).drop (j * 2 + 1 + 1)) := fun jk h1 h2 => by
      rw [Nat.zero_add]
      exact setMany_some (by show _ + 1 ≤ _; omega)
    have hv3 : (Nt.mk (some ⟨g, 0, none⟩) lc sa sc (Ln.set j q2) Sn).v = ((Ln.map Pk.v).set j (q.to, zs), Sn.map Pk.v) := by
      unfold Nt.v
      dsimp only
      rw [List.map_set, hq2]
      rfl
    by_cases hn0 : 0 < q.bs.length
    rotate_left
    · have hnil : q.bs = [] := List.eq_nil_of_length_eq_zero (by omega)
      have hz0 : zs = [] := List.eq_nil_of_length_eq_zero (by omega)
      have e1 : turE (Nt.v ⟨some ⟨g, 0, none⟩, lc, sa, sc, Ln, Sn⟩) j at_ by_ = 0 := by unfold turE; rw [hv1, if_pos he, hv2, if_pos (show (Pk.v q).2 = [] from hnil)]
      have e2 : turV (Nt.v ⟨some ⟨g, 0, none⟩, lc, sa, sc, Ln, Sn⟩) j at_ by_ = (Nt.mk (some ⟨g, 0, none⟩) lc sa sc (Ln.set j q2) Sn).v := by
        rw [turV_same (fun h => by rw [hv2] at h; exact h.2.1 hnil), hv3, hz0]
        have e3 : (q.to, ([] : List Int)) = (Ln.map Pk.v)[j]'(by rw [List.length_map]; exact hj) := by
          rw [List.getElem_map, ← hq0]
          show _ = (q.to, q.bs)
          rw [hnil]
        rw [e3, List.set_getElem_self]
        rfl
      rw [e1, e2]
      refine S_re 51 (v' := .bool false) rfl (congrArg Value.bool (decide_eq_false (by omega))) ?_
      repeat (first | refine S_nil ?_ | refine S_pure tabOk rfl ?_ | refine S_pass rfl rfl rfl ?_)
      refine T_cond_f rfl ?_
      repeat (first | refine T_seq ?_ | refine T_region ?_ | refine pthen_normal ?_ | refine T_skip ?_ | refine S_pure tabOk rfl ?_ | refine S_load tabOk 2 rfl rfl rfl ?_)
      refine S_heap (fun w hw => hw.perm (pmN0 ..)) ?_
      refine S_openRow (by omega) (fun g2 junk hg hbg hmc hxl hjl hcm => ?_)
      cases hg
      refine S_q (Q_idx (sz := 2) tabOk rfl rfl rfl rfl rfl rfl rfl rfl (j := j) hj) ?_
      repeat (first | refine S_pure tabOk rfl ?_)
      refine S_store_of tabOk 0 rfl rfl (fun u hu => by rw [List.mem_singleton] at hu; subst hu; rfl) rfl (hset2 junk hjl hmc) rfl ?_
      repeat (first | refine T_seq ?_ | refine T_region ?_ | refine S_nil ?_ | refine T_ret ?_ | refine S_pure tabOk rfl ?_)
      refine ret1 rfl rfl (fun w' hw => ?_)
      obtain ⟨G2, h9⟩ := hfin w' junk hbg hmc hcm hjl hw
      exact ⟨_, G2, ⟨some ⟨g, 0, none⟩, lc, sa, sc, Ln.set j q2, Sn⟩, rfl, h9, hok2, fun _ h => List.mem_append_left _ h, rfl⟩
    have hne : q.bs ≠ [] := fun h => by rw [h] at hn0; exact absurd hn0 (by decide)
    refine S_re 51 (v' := .bool true) rfl (congrArg Value.bool (decide_eq_true (by omega))) ?_
    repeat (first | refine S_pure tabOk rfl ?_)
    refine S_callq (v := .bool (honV (Sn.map Pk.v) zs)) rfl Try.call106 (fun w1 h1 => rhonest_ok w1 (h1.own _ (getE_mem (i := 2) rfl)) (pk_slr (h1.own _ (getE_mem (i := 4) rfl)) (h1.okP 1 rfl) hN.s) (ints_of_own (h1.own _ (getE_mem (i := 0) rfl)) hzf)) ?_
    repeat (first | refine S_nil ?_ | refine S_pure tabOk rfl ?_)
    cases hh : honV (Sn.map Pk.v) zs with
    | false =>
      have e1 : turE (Nt.v ⟨some ⟨g, 0, none⟩, lc, sa, sc, Ln, Sn⟩) j at_ by_ = 11 := by
        unfold turE
        rw [hv1, if_pos he, hv2, if_neg (show ¬ (Pk.v q).2 = [] from hne), show turB (Pk.v q).2 at_ by_ = zs from hzs.symm, if_neg (fun h => by have h2 : honV (Sn.map Pk.v) zs = true := h; rw [hh] at h2; cases h2)]
      have e2 : turV (Nt.v ⟨some ⟨g, 0, none⟩, lc, sa, sc, Ln, Sn⟩) j at_ by_ = Nt.v ⟨some ⟨g, 0, none⟩, lc, sa, sc, Ln, Sn⟩ := turV_same (fun h => by
        rw [hv2, show turB (Pk.v q).2 at_ by_ = zs from hzs.symm] at h
        have h2 : honV (Sn.map Pk.v) zs = true := h.2.2
        rw [hh] at h2
        cases h2)
      rw [e1, e2]
      refine T_cond_t rfl ?_
      repeat (first | refine T_seq ?_ | refine T_region ?_ | refine S_nil ?_ | refine pthen_ret ?_ | refine T_ret ?_ | refine S_pure tabOk rfl ?_)
      exact ret1 rfl rfl (fun w' hw => ⟨K, G, ⟨some ⟨g, 0, none⟩, lc, sa, sc, Ln, Sn⟩, rfl, hw.less (by repeat (first | refine Less.keep ?_ | refine Less.dropW (Nat.le_refl _) ?_ | exact Less.same _)), hN, fun _ h => h, rfl⟩)
    | true =>
      have e1 : turE (Nt.v ⟨some ⟨g, 0, none⟩, lc, sa, sc, Ln, Sn⟩) j at_ by_ = 0 := by
        unfold turE
        rw [hv1, if_pos he, hv2, if_neg (show ¬ (Pk.v q).2 = [] from hne), show turB (Pk.v q).2 at_ by_ = zs from hzs.symm, if_pos (by exact hh)]
      have e2 : turV (Nt.v ⟨some ⟨g, 0, none⟩, lc, sa, sc, Ln, Sn⟩) j at_ by_ = (Nt.mk (some ⟨g, 0, none⟩) lc sa sc (Ln.set j q2) Sn).v := by
        rw [hv3]
        unfold turV
        rw [hv1, hv2, show turB (Pk.v q).2 at_ by_ = zs from hzs.symm, if_pos ⟨he, hne, by exact hh⟩, Int.toNat_natCast]
        rfl
      rw [e1, e2]
      refine T_cond_f rfl ?_
      repeat (first | refine T_seq ?_ | refine T_region ?_ | refine pthen_normal ?_ | refine T_skip ?_ | refine S_pure tabOk rfl ?_ | refine S_load tabOk 2 rfl rfl rfl ?_)
      refine S_heap (fun w hw => hw.perm (pmN0 ..)) ?_
      refine S_openRow (by omega) (fun g2 junk hg hbg hmc hxl hjl hcm => ?_)
      cases hg
      refine S_q (Q_idx (sz := 2) tabOk rfl rfl rfl rfl rfl rfl rfl rfl (j := j) hj) ?_
      repeat (first | refine S_pure tabOk rfl ?_)
      refine S_store_of tabOk 0 rfl rfl (fun u hu => by rw [List.mem_singleton] at hu; subst hu; rfl) rfl (hset2 junk hjl hmc) rfl ?_
      repeat (first | refine T_seq ?_ | refine T_region ?_ | refine S_nil ?_ | refine T_ret ?_ | refine S_pure tabOk rfl ?_)
      refine ret1 rfl rfl (fun w' hw => ?_)
      obtain ⟨G2, h9⟩ := hfin w' junk hbg hmc hcm hjl hw
      exact ⟨_, G2, ⟨some ⟨g, 0, none⟩, lc, sa, sc, Ln.set j q2, Sn⟩, rfl, h9, hok2, fun _ h => List.mem_append_left _ h, rfl⟩

theorem pmO1 {α : Type} (x0 x1 x2 x3 : α) (r : List α) : List.Perm (x0 :: x1 :: x2 :: x3 :: r) (x3 :: x0 :: x1 :: x2 :: r) := by
  have hP : List.Perm ([0, 1, 2, 3] : List Nat) [3, 0, 1, 2] := by decide
  exact (hP.map fun i => ([x0, x1, x2, x3][i]?).getD x0).append_right r
theorem nnew_ok {w0 w : World} {rest : OL} (h : Hp w0 w rest) : Calls Try.prog 32 #[] w fun e w' => ∃ b, e = .returned (.pointer (some ⟨b, 0, none⟩)) ∧ w0.heap.size ≤ b ∧ Hp w0 w' (.blk b (.cells ⟨[.slice none 0 0, .slice none 0 0]⟩ 131 (0, 0)) true :: rest) := by
  refine enterW0 Try.func32 rfl h ?_
  repeat (first | refine T_seq ?_ | refine T_region ?_ | refine S_nil ?_ | refine S_pure tabOk rfl ?_ | refine S_q (Q_build tabOk rfl rfl rfl rfl rfl rfl rfl) ?_)
  refine S_new tabOk rfl (fun b hb => ?_)
  repeat (first | refine S_nil ?_ | refine T_ret ?_ | refine S_pure tabOk rfl ?_)
  exact ret1 rfl rfl (fun w' hw => ⟨b, rfl, hb, hw⟩)
def delW (x : V2) (i : Int) : PVal := if atV i x.1.length then x.1.getD i.toNat (0, []) else (0, [])
theorem delP_v (N : Nt) (i : Int) : (delP N i).v = delW N.v i := by
  have hl : N.v.1.length = N.L.length := List.length_map _
  unfold delP delW
  rw [hl]
  split
  · show _ = (N.L.map Pk.v).getD _ _
    rw [List.getD_eq_getElem?_getD, List.getD_eq_getElem?_getD, List.getElem?_map]
    cases N.L[i.toNat]? <;> rfl
  · rfl
theorem delP_ints {w : World} {K : List Pk} {G : Nat → Prop} {N : Nt} {k : Nat} (h : okP w G K) (hN : N.ok K k) (i : Int) : Ints .u8 w (delP N i).a (delP N i).bs.length (delP N i).c (delP N i).bs := by
  unfold delP
  split
  · rename_i he
    obtain ⟨j, rfl, hj⟩ := at_j he
    rw [Int.toNat_natCast, List.getD_eq_getElem?_getD, List.getElem?_eq_getElem hj]
    exact h.ints (hN.l _ (List.getElem_mem hj))
  · exact (SlR.nil_ (R := Rint .u8) (A := TT)).ints
theorem Hp.netN {w0 w : World} {T E : TypeId} {b : Nat} {rest : OL} (h : Hp w0 w (.blk b (.cells ⟨[.slice none 0 0, .slice none 0 0]⟩ T (0, 0)) true :: rest)) : Hp w0 w (nbE T b none 0 0 none 0 0 :: rowP w0 E none 0 [] :: rowP w0 E none 0 [] :: rest) :=
  ((h.nilRow E 2).nilRow E 2).perm ((List.Perm.cons _ (List.Perm.swap _ _ _)).trans ((List.Perm.swap _ _ _).trans (List.Perm.cons _ (List.Perm.swap _ _ _)))) |>.perm (List.Perm.cons _ (List.Perm.refl _))
theorem Hp.blkK {w0 w : World} {o : OL} {bx : Nat} {e : TypeId} {fz : Nat × Nat} {to : Int} {bs : List Int} (h : Hp w0 w (.blk bx (.cells ⟨bs.map (.int .u8)⟩ e fz) true :: o)) (h1 : Fits .i64 to) (h2 : bs.length ≤ 70000) (h3 : ∀ z ∈ bs, Fits .u8 z) (hbx : w0.heap.size ≤ bx) : Hp w0 w (knE w0 [⟨to, bs, some ⟨bx, 0, none⟩, bs.length⟩] (fun k => k = bx) :: o) := by
  have hb : w.heap[bx]? = _ := h.own _ List.mem_cons_self
  have hi : Ints .u8 w (some ⟨bx, 0, none⟩) bs.length bs.length bs := ints_lit hb rfl h3 (by simp only [maxLen]; omega)
  refine Hp.regroup [.blk bx (.cells ⟨bs.map (.int .u8)⟩ e fz) true] [_] h (fun e he => by rw [List.mem_singleton] at he; subst he; rfl) (fun e he => ?_) (List.pairwise_singleton _ _) (fun e he k hk => ?_) (fun e he k hk => ?_)
  · rw [List.mem_singleton] at he
    subst he
    refine ⟨rfl, ⟨fun q hq => ?_, fun k hk => by rw [show k = bx from hk]; exact hbx⟩, okP.loc, fun k hk => by rw [show k = bx from hk]; exact heap_lt hb⟩
    rw [List.mem_singleton] at hq
    subst hq
    exact ⟨h1, h2, .of_ints hi fun b off hn e => by cases e; rfl⟩
  · rw [List.mem_singleton] at he
    subst he
    exact ⟨_, List.mem_cons_self, congrArg some (show k = bx from hk).symm⟩
  · rw [List.mem_singleton] at he
    subst he
    exact .inr ⟨_, List.mem_cons_self, (Option.some.inj hk).symm⟩
theorem Nt.ok.mono {N : Nt} {K : List Pk} {a b : Nat} (h : N.ok K a) (hab : a ≤ b) : N.ok K b := ⟨h.l, h.s, Nat.le_trans h.ln hab, Nat.le_trans h.sn hab⟩
theorem nt_ok0 (K : List Pk) (k : Nat) : (Nt.mk none 0 none 0 [] []).ok K k := ⟨fun p hp => (by cases hp), fun p hp => (by cases hp), Nat.zero_le _, Nat.zero_le _⟩
set_option maxHeartbeats 4000000 in
theorem awake18_ok (w : World) : Calls Try.prog 31 #[] w fun e w' => e = .returned (.bool true) ∧ Below w.heap.size w w' := by
  refine enter0 Try.func31 rfl (Hp.refl w) ?_
  repeat (first | refine T_seq ?_ | refine T_region ?_ | refine S_nil ?_ | refine S_pure tabOk rfl ?_)
  refine S_call rfl Try.call32 (fun w1 h1 => (nnew_ok h1).mono fun e w' ⟨b, e1, hb, h2⟩ => ⟨_, _, e1, h2, ?_⟩)
  repeat (first | refine T_seq ?_ | refine T_region ?_ | refine S_nil ?_ | refine S_pure tabOk rfl ?_)
  refine S_bslice tabOk rfl rfl rfl rfl rfl rfl rfl rfl rfl rfl rfl rfl (fun bx hbx => ?_)
  skip
  refine S_mark tabOk 0 rfl rfl rfl rfl rfl rfl rfl rfl ?_
  repeat (first | refine S_q (Q_build tabOk rfl rfl rfl rfl rfl rfl rfl) ?_)
  obtain ⟨p0, hp0⟩ : ∃ p0 : Pk, p0 = ⟨0, [120], some ⟨bx, 0, none⟩, 1⟩ := ⟨_, rfl⟩
  refine S_heap (ol' := knE w [p0] (fun k => k = bx) :: nbE 131 b none 0 0 none 0 0 :: rowP w 71 none 0 [] :: rowP w 71 none 0 [] :: []) (fun w' hw => by
    rw [hp0]
    exact ((Hp.blkK (to := 0) (bs := [120]) hw (mk_i64 (n := 0) (by decide)) (by show 1 ≤ 70000; omega) (fun z hz => by rw [List.mem_singleton] at hz; rw [hz]; exact fits8 (by decide)) hbx).perm (List.Perm.swap _ _ _)).netN.perm (pmO1 ..)) ?_
  have hpv : p0.v = (0, [120]) := by rw [hp0]; rfl
  have her : errV p0.v = 0 := by rw [hpv]; unfold errV; rw [if_neg (by decide), if_neg (by show ¬ 65507 < 1; omega)]
  have hk1 : 1 ≤ 1000 := by omega
  have hS := fun w1 (h1 : Hp w w1 (knE w [p0] (fun k => k = bx) :: nbE 131 b none 0 0 none 0 0 :: rowP w 71 none 0 [] :: rowP w 71 none 0 [] :: [])) => send_ok (N := ⟨none, 0, none, 0, [], []⟩) (q := p0) (k := 1) (rest := []) h1 (nt_ok0 _ _) hk1 List.mem_cons_self
  rw [her, hpv] at hS
  have her2 : errV (0, [120]) = 0 := by rw [← hpv]; exact her
  subst hp0
  clear her hpv
  refine S_call rfl Try.call39 (fun w1 h1 => (hS w1 h1).mono fun e w' ⟨K1, G1, N1, e1, h2⟩ => ⟨_, _, e1, h2.h, ?_⟩)
  clear hS
  have hv1 : N1.v = ([(0, [120])], [(0, [120])]) := by rw [h2.v]; unfold sendV; rw [if_pos her2]; rfl
  have hok1 := h2.ok
  clear h2 e1
  have hl1 : N1.L.length = 1 := by have := congrArg (fun x : V2 => x.1.length) hv1; simpa [Nt.v] using this
  repeat (first | refine S_pure tabOk rfl ?_)
  refine S_re 11 (v' := .bool false) rfl rfl ?_
  skip
  have ha1 : atV 0 1 = true := rfl
  refine S_call rfl Try.call45 (fun w1 h1 => (ndouble_ok (N := N1) (rest := []) 0 h1 hok1 (by omega)).mono fun e w' ⟨K2, G2, N2, e1, h2⟩ => ⟨.int .i64 0, _, by rw [e1, hv1]; rfl, h2.h, ?_⟩)
  have hv2 : N2.v = ([(0, [120]), (0, [120])], [(0, [120])]) := by rw [h2.v, hv1]; rfl
  have hok2 := h2.ok
  clear h2 e1
  repeat (first | refine S_nil ?_ | refine S_pure tabOk rfl ?_)
  refine T_cond_f rfl ?_
  repeat (first | refine T_seq ?_ | refine T_region ?_ | refine pthen_normal ?_ | refine T_skip ?_ | refine S_pure tabOk rfl ?_)
  refine S_call rfl Try.call43 (fun w1 h1 => (ndeliver_ok (N := N2) (rest := []) 0 h1 hok2 (by omega)).mono fun e w' ⟨N3, e1, h2⟩ => ⟨.tuple #[.agg ⟨cellP (delP N2 0)⟩, .int .i64 0], _, by rw [e1, hv2]; rfl, h2.h, ?_⟩)
  have hv3 : N3.v = ([(0, [120])], [(0, [120])]) := by rw [h2.v, hv2]; rfl
  have hdv : (delP N2 0).v = (0, [120]) := by rw [delP_v, hv2]; rfl
  have hdb : (delP N2 0).bs = [120] := congrArg Prod.snd hdv
  clear h2 e1
  have hl3 : N3.L.length = 1 := by have := congrArg (fun x : V2 => x.1.length) hv3; simpa [Nt.v] using this
  have hs3 : N3.S.length = 1 := by have := congrArg (fun x : V2 => x.2.length) hv3; simpa [Nt.v] using this
  repeat (first | refine S_pure tabOk rfl ?_)
  refine S_new tabOk rfl (fun b2 hb2 => ?_)
  repeat (first | refine T_seq ?_ | refine T_region ?_ | refine S_nil ?_ | refine S_pure tabOk rfl ?_ | refine S_load tabOk 0 rfl rfl rfl ?_ | refine S_store tabOk 0 rfl rfl rfl rfl rfl rfl ?_)
  refine S_re 23 (v' := .bool true) rfl rfl ?_
  skip
  refine S_q (Q_b2s tabOk rfl rfl rfl rfl rfl rfl rfl rfl (zs := (delP N2 0).bs) (fun w' hw => delP_ints (hw.okP 1 rfl) hok2 0)) ?_
  rw [hdb]
  refine S_q ((Q_streq rfl rfl rfl).eq (v' := .bool true) (by
    have e : strOfNums [120] = ⟨#[120]⟩ := by rfl
    rw [e]
    simp)) ?_
  repeat (first | refine S_pure tabOk rfl ?_)
  refine S_callq rfl Try.call37 (fun w1 h1 => nlen_ok w1 (h1.own _ (getE_mem (i := 2) rfl))) ?_
  rw [hl3]
  repeat (first | refine S_pure tabOk rfl ?_)
  refine S_callq rfl Try.call35 (fun w1 h1 => nsent_ok w1 (h1.own _ (getE_mem (i := 2) rfl))) ?_
  rw [hs3]
  repeat (first | refine S_nil ?_ | refine T_ret ?_ | refine S_pure tabOk rfl ?_)
  exact ret1 rfl rfl (fun w' hw => ⟨rfl, hw.below (by have hG := hw.newK 1 rfl; exact (by repeat (first | exact new_nil | refine new_rx (by assumption) ?_ | refine new_cons (by first | assumption | omega) ?_ | refine newrow hw 3 rfl (Nat.le_refl _) ?_ | refine newrow hw 4 rfl (Nat.le_refl _) ?_)))⟩)

theorem Nt.ok.up {N : Nt} {K K' : List Pk} {a b : Nat} (h : N.ok K a) (hK : ∀ p ∈ K, p ∈ K') (hab : a ≤ b) : N.ok K' b := ⟨fun p hp => hK p (h.l p hp), fun p hp => hK p (h.s p hp), Nat.le_trans h.ln hab, Nat.le_trans h.sn hab⟩
def doI (i : Int) (n : Nat) : Int := if 0 < i then i % ((n : Int) + 2) else i
noncomputable def opV (x : V2) (d : Int) (p : PVal) (i at_ by_ : Int) : V2 :=
  if d = 2 ∨ d = 3 then delV x i else if d = 4 then dblV x i else if d = 5 then turV x i at_ by_ else if d = 6 then forV x p else if d = 7 then repV x i else sendV x p
theorem pmP0 {α : Type} (x0 x1 x2 x3 x4 x5 : α) (r : List α) : List.Perm (x0 :: x1 :: x2 :: x3 :: x4 :: x5 :: r) (x2 :: x3 :: x4 :: x5 :: x0 :: x1 :: r) := by
  have hP : List.Perm ([0, 1, 2, 3, 4, 5] : List Nat) [2, 3, 4, 5, 0, 1] := by decide
  exact (hP.map fun i => ([x0, x1, x2, x3, x4, x5][i]?).getD x0).append_right r
theorem pmP1 {α : Type} (x0 x1 x2 x3 x4 x5 : α) (r : List α) : List.Perm (x0 :: x1 :: x2 :: x3 :: x4 :: x5 :: r) (x4 :: x5 :: x0 :: x1 :: x2 :: x3 :: r) := by
  have hP : List.Perm ([0, 1, 2, 3, 4, 5] : List Nat) [4, 5, 0, 1, 2, 3] := by decide
  exact (hP.map fun i => ([x0, x1, x2, x3, x4, x5][i]?).getD x0).append_right r
theorem pmP2 {α : Type} (x0 x1 x2 x3 x4 x5 x6 x7 x8 : α) (r : List α) : List.Perm (x0 :: x1 :: x2 :: x3 :: x4 :: x5 :: x6 :: x7 :: x8 :: r) (x2 :: x6 :: x7 :: x8 :: x3 :: x4 :: x5 :: x0 :: x1 :: r) := by
  have hP : List.Perm ([0, 1, 2, 3, 4, 5, 6, 7, 8] : List Nat) [2, 6, 7, 8, 3, 4, 5, 0, 1] := by decide
  exact (hP.map fun i => ([x0, x1, x2, x3, x4, x5, x6, x7, x8][i]?).getD x0).append_right r
theorem pmP3 {α : Type} (x0 x1 x2 x3 x4 x5 x6 x7 x8 : α) (r : List α) : List.Perm (x0 :: x1 :: x2 :: x3 :: x4 :: x5 :: x6 :: x7 :: x8 :: r) (x7 :: x8 :: x0 :: x4 :: x5 :: x6 :: x1 :: x2 :: x3 :: r) := by
  have hP : List.Perm ([0, 1, 2, 3, 4, 5, 6, 7, 8] : List Nat) [7, 8, 0, 4, 5, 6, 1, 2, 3] := by decide
  exact (hP.map fun i => ([x0, x1, x2, x3, x4, x5, x6, x7, x8][i]?).getD x0).append_right r
theorem pmP4 {α : Type} (x0 x1 x2 x3 x4 x5 x6 x7 x8 x9 x10 : α) (r : List α) : List.Perm (x0 :: x1 :: x2 :: x3 :: x4 :: x5 :: x6 :: x7 :: x8 :: x9 :: x10 :: r) (x1 :: x2 :: x3 :: x4 :: x5 :: x6 :: x7 :: x8 :: x9 :: x10 :: x0 :: r) := by
  have hP : List.Perm ([0, 1, 2, 3, 4, 5, 6, 7, 8, 9, 10] : List Nat) [1, 2, 3, 4, 5, 6, 7, 8, 9, 10, 0] := by decide
  exact (hP.map fun i => ([x0, x1, x2, x3, x4, x5, x6, x7, x8, x9, x10][i]?).getD x0).append_right r
theorem pmP5 {α : Type} (x0 x1 x2 x3 x4 x5 x6 x7 x8 x9 x10 x11 : α) (r : List α) : List.Perm (x0 :: x1 :: x2 :: x3 :: x4 :: x5 :: x6 :: x7 :: x8 :: x9 :: x10 :: x11 :: r) (x1 :: x2 :: x3 :: x4 :: x5 :: x6 :: x7 :: x8 :: x9 :: x10 :: x11 :: x0 :: r) := by
  have hP : List.Perm ([0, 1, 2, 3, 4, 5, 6, 7, 8, 9, 10, 11] : List Nat) [1, 2, 3, 4, 5, 6, 7, 8, 9, 10, 11, 0] := by decide
  exact (hP.map fun i => ([x0, x1, x2, x3, x4, x5, x6, x7, x8, x9, x10, x11][i]?).getD x0).append_right r
theorem pmP6 {α : Type} (x0 x1 x2 x3 x4 x5 x6 x7 x8 x9 x10 : α) (r : List α) : List.Perm (x0 :: x1 :: x2 :: x3 :: x4 :: x5 :: x6 :: x7 :: x8 :: x9 :: x10 :: r) (x3 :: x1 :: x4 :: x5 :: x6 :: x7 :: x8 :: x9 :: x10 :: x0 :: x2 :: r) := by
  have hP : List.Perm ([0, 1, 2, 3, 4, 5, 6, 7, 8, 9, 10] : List Nat) [3, 1, 4, 5, 6, 7, 8, 9, 10, 0, 2] := by decide
  exact (hP.map fun i => ([x0, x1, x2, x3, x4, x5, x6, x7, x8, x9, x10][i]?).getD x0).append_right r
theorem pmP7 {α : Type} (x0 x1 x2 x3 x4 x5 x6 x7 x8 x9 : α) (r : List α) : List.Perm (x0 :: x1 :: x2 :: x3 :: x4 :: x5 :: x6 :: x7 :: x8 :: x9 :: r) (x8 :: x9 :: x0 :: x1 :: x2 :: x3 :: x4 :: x5 :: x6 :: x7 :: r) := by
  have hP : List.Perm ([0, 1, 2, 3, 4, 5, 6, 7, 8, 9] : List Nat) [8, 9, 0, 1, 2, 3, 4, 5, 6, 7] := by decide
  exact (hP.map fun i => ([x0, x1, x2, x3, x4, x5, x6, x7, x8, x9][i]?).getD x0).append_right r
theorem pmP8 {α : Type} (x0 x1 x2 x3 x4 x5 x6 : α) (r : List α) : List.Perm (x0 :: x1 :: x2 :: x3 :: x4 :: x5 :: x6 :: r) (x0 :: x4 :: x5 :: x6 :: x1 :: x2 :: x3 :: r) := by
  have hP : List.Perm ([0, 1, 2, 3, 4, 5, 6] : List Nat) [0, 4, 5, 6, 1, 2, 3] := by decide
  exact (hP.map fun i => ([x0, x1, x2, x3, x4, x5, x6][i]?).getD x0).append_right r
theorem pmP9 {α : Type} (x0 x1 x2 x3 x4 x5 x6 x7 : α) (r : List α) : List.Perm (x0 :: x1 :: x2 :: x3 :: x4 :: x5 :: x6 :: x7 :: r) (x1 :: x5 :: x6 :: x7 :: x2 :: x3 :: x4 :: x0 :: r) := by
  have hP : List.Perm ([0, 1, 2, 3, 4, 5, 6, 7] : List Nat) [1, 5, 6, 7, 2, 3, 4, 0] := by decide
  exact (hP.map fun i => ([x0, x1, x2, x3, x4, x5, x6, x7][i]?).getD x0).append_right r
theorem pmPc {α : Type} (x0 x1 x2 x3 x4 x5 x6 x7 : α) (r : List α) : List.Perm (x0 :: x1 :: x2 :: x3 :: x4 :: x5 :: x6 :: x7 :: r) (x1 :: x2 :: x3 :: x4 :: x5 :: x6 :: x7 :: x0 :: r) := by
  have hP : List.Perm ([0, 1, 2, 3, 4, 5, 6, 7] : List Nat) [1, 2, 3, 4, 5, 6, 7, 0] := by decide
  exact (hP.map fun i => ([x0, x1, x2, x3, x4, x5, x6, x7][i]?).getD x0).append_right r
theorem pmPb {α : Type} (x0 x1 x2 x3 x4 x5 x6 x7 x8 x9 x10 x11 : α) (r : List α) : List.Perm (x0 :: x1 :: x2 :: x3 :: x4 :: x5 :: x6 :: x7 :: x8 :: x9 :: x10 :: x11 :: r) (x1 :: x5 :: x6 :: x7 :: x2 :: x3 :: x4 :: x9 :: x0 :: x8 :: x10 :: x11 :: r) := by
  have hP : List.Perm ([0, 1, 2, 3, 4, 5, 6, 7, 8, 9, 10, 11] : List Nat) [1, 5, 6, 7, 2, 3, 4, 9, 0, 8, 10, 11] := by decide
  exact (hP.map fun i => ([x0, x1, x2, x3, x4, x5, x6, x7, x8, x9, x10, x11][i]?).getD x0).append_right r
set_option maxHeartbeats 16000000 in
theorem do_ok {w0 w : World} {b1 b2 : Nat} {K : List Pk} {G : Nat → Prop} {N1 N2 : Nt} {rest : OL} {k : Nat} {F : Nat → Prop} {a : Option Addr} {c : Nat} {zs : List Int} (d to i at_ by_ : Int) (hd : Fits .u8 d) (hto : Fits .i64 to) (hi : Fits .i64 i) (hat : Fits .i64 at_) (hby : Fits .u8 by_) (h : Hp w0 w (knE w0 K G :: nbE 131 b1 N1.la N1.L.length N1.lc N1.sa N1.S.length N1.sc :: rowP w0 71 N1.la N1.lc N1.L :: rowP w0 71 N1.sa N1.sc N1.S :: nbE 69 b2 N2.la N2.L.length N2.lc N2.sa N2.S.length N2.sc :: rowP w0 133 N2.la N2.lc N2.L :: rowP w0 133 N2.sa N2.sc N2.S :: .rep (fun w => (bP zs).at_ w F (.slice a zs.length c)) F false :: rest)) (hN1 : N1.ok K k) (hN2 : N2.ok K k) (hk : k ≤ 900) :
    Calls Try.prog 33 #[.pointer (some ⟨b1, 0, none⟩), .pointer (some ⟨b2, 0, none⟩), .agg ⟨[.int .u8 d, .int .i64 to, .slice a zs.length c, .int .i64 i, .int .i64 at_, .int .u8 by_]⟩] w fun e w' => ∃ (K' : List Pk) (G' : Nat → Prop) (N1' N2' : Nt) (r : Bool), e = .returned (.bool r) ∧ Hp w0 w' (knE w0 K' G' :: nbE 131 b1 N1'.la N1'.L.length N1'.lc N1'.sa N1'.S.length N1'.sc :: rowP w0 71 N1'.la N1'.lc N1'.L :: rowP w0 71 N1'.sa N1'.sc N1'.S :: nbE 69 b2 N2'.la N2'.L.length N2'.lc N2'.sa N2'.S.length N2'.sc :: rowP w0 133 N2'.la N2'.lc N2'.L :: rowP w0 133 N2'.sa N2'.sc N2'.S :: .rep (fun w => (bP zs).at_ w F (.slice a zs.length c)) F false :: rest) ∧ N1'.ok K' (k + 1) ∧ N2'.ok K' (k + 1) ∧ (∀ p ∈ K, p ∈ K') ∧ N1'.v = opV N1.v (d % 8) (to, zs.take 200) (doI i N1.L.length) at_ by_ ∧ N2'.v = opV N2.v (d % 8) (to, zs.take 200) (doI i N1.L.length) at_ by_ ∧ (N1.v = N2.v → r = true) := by
  have hd' := fits_u8 hd
  have hi' := fits_i64 hi
  have hl1 := hN1.ln
  refine enterW3 Try.func33 rfl rfl h ?_
  repeat (first | refine T_seq ?_ | refine T_region ?_)
  refine S_new tabOk rfl (fun b5 hb5 => ?_)
  repeat (first | refine T_seq ?_ | refine T_region ?_ | refine S_nil ?_ | refine S_pure tabOk rfl ?_ | refine S_load tabOk 0 rfl rfl rfl ?_)
  refine S_call rfl Try.call38 (fun w1 h1 => (few18_ok (p := ⟨to, zs, a, c⟩) w1 (bP_ints (Vp.fact0 (p := bP zs) h1 8 rfl))).mono fun e w' ⟨ra, rc, e1, hb2, hr⟩ => ⟨.agg ⟨[.int .i64 to, .slice ra (zs.take 200).length rc]⟩, _, e1, h1.fresh hb2 (x := .row w0.heap.size (.slice ra (zs.take 200).length rc) 5 1 (zs.take 200).length ((zs.take 200).map (.int .u8))) (own_rebase hr h1.size) (fun j hj => (World.ownsRow.lt hr j hj).1), ?_⟩)
  clear e1
  skip
  refine S_new tabOk rfl (fun b7 hb7 => ?_)
  obtain ⟨p, hp⟩ : ∃ p : Pk, p = ⟨to, zs.take 200, ra, rc⟩ := ⟨_, rfl⟩
  have hpv : p.v = (to, zs.take 200) := by rw [hp]; rfl
  repeat (first | refine T_seq ?_ | refine T_region ?_ | refine S_nil ?_ | refine S_pure tabOk rfl ?_ | refine S_load tabOk 2 rfl rfl rfl ?_ | refine S_store tabOk 0 rfl rfl rfl rfl rfl rfl ?_)
  refine T_toX (ι := Nat → Prop) (fun _ => True) (fun G1 => knE w0 (K ++ [p]) G1 :: nbE 131 b1 N1.la N1.L.length N1.lc N1.sa N1.S.length N1.sc :: rowP w0 71 N1.la N1.lc N1.L :: rowP w0 71 N1.sa N1.sc N1.S :: nbE 69 b2 N2.la N2.L.length N2.lc N2.sa N2.S.length N2.sc :: rowP w0 133 N2.la N2.lc N2.L :: rowP w0 133 N2.sa N2.sc N2.S :: .rep (fun w => (bP zs).at_ w F (.slice a zs.length c)) F false :: .blk b7 (.cells ⟨cellP p⟩ 71 (0, 0)) true :: .blk b5 (.cells ⟨[.int .u8 d, .int .i64 to, .slice a zs.length c, .int .i64 i, .int .i64 at_, .int .u8 by_]⟩ 73 (0, 0)) true :: rest) (fun w hw => ?_) (fun G1 _ => ?_)
  · have hzf : ∀ z ∈ zs.take 200, Fits .u8 z := fun z hz => (bP_ints (Vp.fact0 (p := bP zs) hw 10 rfl)).fits z (List.mem_of_mem_take hz)
    obtain ⟨G1, h2⟩ := Hp.snocK (p := ⟨to, zs.take 200, ra, rc⟩) (hw.perm (pmP6 ..)) hto (by show (zs.take 200).length ≤ 70000; rw [List.length_take]; omega) hzf
    refine ⟨G1, trivial, ?_⟩
    rw [hp]
    exact h2
  obtain ⟨K1, hK1⟩ : ∃ K1, K1 = K ++ [p] := ⟨_, rfl⟩
  have hKK : ∀ q ∈ K, q ∈ K1 := fun q hq => by rw [hK1]; exact List.mem_append_left _ hq
  have hpK : p ∈ K1 := by rw [hK1]; exact List.mem_append_right _ List.mem_cons_self
  replace hN1 := hN1.up hKK (Nat.le_refl k)
  replace hN2 := hN2.up hKK (Nat.le_refl k)
  rw [← hK1, ← hpv]
  clear hK1
  obtain ⟨m, hm⟩ : ∃ m, m = doI i N1.L.length := ⟨_, rfl⟩
  rw [← hm]
  refine T_cut (ι := Unit) (fun _ => True) (fun _ => [(0, .pointer (some ⟨b1, 0, none⟩)), (1, .pointer (some ⟨b2, 0, none⟩)), (5, .pointer (some ⟨b5, 0, none⟩)), (7, .pointer (some ⟨b7, 0, none⟩)), (8, .int .i64 m)])
    (fun _ => knE w0 K1 G1 :: nbE 131 b1 N1.la N1.L.length N1.lc N1.sa N1.S.length N1.sc :: rowP w0 71 N1.la N1.lc N1.L :: rowP w0 71 N1.sa N1.sc N1.S :: nbE 69 b2 N2.la N2.L.length N2.lc N2.sa N2.S.length N2.sc :: rowP w0 133 N2.la N2.lc N2.L :: rowP w0 133 N2.sa N2.sc N2.S :: .rep (fun w => (bP zs).at_ w F (.slice a zs.length c)) F false :: .blk b7 (.cells ⟨cellP p⟩ 71 (0, 0)) true :: .blk b5 (.cells ⟨[.int .u8 d, .int .i64 to, .slice a zs.length c, .int .i64 i, .int .i64 at_, .int .u8 by_]⟩ 73 (0, 0)) true :: rest) ?_ ?_
  · refine T_cond_dec rfl (fun h3 => ?_) (fun h3 => ?_)
    · have em : m = i % ((N1.L.length : Int) + 2) := by rw [hm]; unfold doI; rw [if_pos h3]
      repeat (first | refine T_region ?_ | refine S_pure tabOk rfl ?_)
      refine S_callq rfl Try.call37 (fun w1 h1 => nlen_ok w1 (h1.own _ (getE_mem (i := 1) rfl))) ?_
      repeat (first | refine S_i64 tabOk rfl (by omega) ?_)
      refine S_q (Q_rem0 rfl rfl rfl (by omega) (by omega)) ?_
      repeat (first | refine S_nil ?_ | refine S_pure tabOk rfl ?_)
      refine ⟨(), trivial, ?_, fun w' hw => hw⟩
      rw [em]
      repeat (first | exact Sub.nil | refine Sub.cons rfl ?_)
    · have em : m = i := by rw [hm]; unfold doI; rw [if_neg h3]
      repeat (first | refine pthen_normal ?_ | refine T_skip ?_)
      refine ⟨(), trivial, ?_, fun w' hw => hw⟩
      rw [em]
      repeat (first | exact Sub.nil | refine Sub.cons rfl ?_)
  rintro _ _
  have hmf : Fits .i64 m := by
    rw [hm]
    unfold doI
    split
    · have h1 := Int.emod_nonneg i (by omega : ((N1.L.length : Int) + 2) ≠ 0)
      have h2 := Int.emod_lt_of_pos i (by omega : 0 < ((N1.L.length : Int) + 2))
      exact mk_i64 (by omega)
    · exact hi
  clear hm
  repeat (first | refine T_seq ?_ | refine T_region ?_ | refine S_pure tabOk rfl ?_)
  refine S_load tabOk 9 rfl rfl rfl ?_
  refine S_q (Q_rem0 rfl rfl rfl (by decide) hd'.1) ?_
  obtain ⟨e8, he8⟩ : ∃ x, x = d % 8 := ⟨_, rfl⟩
  rw [← he8]
  repeat (first | refine T_seq ?_ | refine T_region ?_ | refine T_block ?_ | refine S_nil ?_ | refine S_pure tabOk rfl ?_)
  have hcode : ∀ {x y : V2} {u v : Int}, (x = y → u = v) → (x = y → (decide (u = v)) = true) := fun h e => decide_eq_true (h e)
  refine T_cond_dec rfl (fun h2 => ?_) (fun h2 => ?_)
  · repeat (first | refine T_seq ?_ | refine T_region ?_ | refine S_pure tabOk rfl ?_)
    refine S_call rfl Try.call43 (fun w1 h1 => (ndeliver_ok m h1 hN1 (by omega)).mono fun e w' ⟨M1, e1, q1⟩ => ⟨_, _, e1, q1.h, ?_⟩)
    repeat (first | refine S_pure tabOk rfl ?_)
    refine S_new tabOk rfl (fun b9 hb9 => ?_)
    repeat (first | refine T_seq ?_ | refine T_region ?_ | refine S_nil ?_ | refine S_pure tabOk rfl ?_ | refine S_store tabOk 0 rfl rfl rfl rfl rfl rfl ?_)
    refine S_call rfl Try.call72 (fun w1 h1 => (rdeliver_ok m (h1.perm (pmP9 ..)) hN2 (by omega)).mono fun e w' ⟨M2, e2, q2⟩ => ⟨_, _, e2, q2.h, ?_⟩)
    repeat (first | refine S_pure tabOk rfl ?_)
    refine S_new tabOk rfl (fun b11 hb11 => ?_)
    repeat (first | refine T_seq ?_ | refine T_region ?_ | refine S_nil ?_ | refine S_pure tabOk rfl ?_ | refine S_store tabOk 0 rfl rfl rfl rfl rfl rfl ?_)
    have hfin : ∀ w' (r : Bool), (N1.v = N2.v → r = true) → Hp w0 w' (.blk b11 (.cells ⟨cellP (delP N2 m)⟩ 133 (0, 0)) true :: knE w0 K1 G1 :: nbE 69 b2 M2.la M2.L.length M2.lc M2.sa M2.S.length M2.sc :: rowP w0 133 M2.la M2.lc M2.L :: rowP w0 133 M2.sa M2.sc M2.S :: nbE 131 b1 M1.la M1.L.length M1.lc M1.sa M1.S.length M1.sc :: rowP w0 71 M1.la M1.lc M1.L :: rowP w0 71 M1.sa M1.sc M1.S :: .blk b9 (.cells ⟨cellP (delP N1 m)⟩ 71 (0, 0)) true :: .rep (fun w => (bP zs).at_ w F (.slice a zs.length c)) F false :: .blk b7 (.cells ⟨cellP p⟩ 71 (0, 0)) true :: .blk b5 (.cells ⟨[.int .u8 d, .int .i64 to, .slice a zs.length c, .int .i64 i, .int .i64 at_, .int .u8 by_]⟩ 73 (0, 0)) true :: rest) → ∃ (K' : List Pk) (G' : Nat → Prop) (N1' N2' : Nt) (r' : Bool), Ending.returned (.bool r) = .returned (.bool r') ∧ Hp w0 w' (knE w0 K' G' :: nbE 131 b1 N1'.la N1'.L.length N1'.lc N1'.sa N1'.S.length N1'.sc :: rowP w0 71 N1'.la N1'.lc N1'.L :: rowP w0 71 N1'.sa N1'.sc N1'.S :: nbE 69 b2 N2'.la N2'.L.length N2'.lc N2'.sa N2'.S.length N2'.sc :: rowP w0 133 N2'.la N2'.lc N2'.L :: rowP w0 133 N2'.sa N2'.sc N2'.S :: .rep (fun w => (bP zs).at_ w F (.slice a zs.length c)) F false :: rest) ∧ N1'.ok K' (k + 1) ∧ N2'.ok K' (k + 1) ∧ (∀ p ∈ K, p ∈ K') ∧ N1'.v = opV N1.v e8 p.v m at_ by_ ∧ N2'.v = opV N2.v e8 p.v m at_ by_ ∧ (N1.v = N2.v → r' = true) := fun w' r hr hw => ⟨K1, G1, M1, M2, r, rfl, (hw.perm (pmPb ..)).less (by repeat (first | refine Less.keep ?_ | refine Less.dropB (by first | assumption | omega) ?_ | exact Less.same _)), q1.ok.mono (Nat.le_succ k), q2.ok.mono (Nat.le_succ k), hKK, by rw [q1.v, h2]; rfl, by rw [q2.v, h2]; rfl, hr⟩
    have hpe : N1.v = N2.v → (delP N1 m).v = (delP N2 m).v := fun h => by rw [delP_v, delP_v, h]
    by_cases hc : (if atV m N1.v.1.length then 0 else 4 : Int) = (if atV m N2.v.1.length then 0 else 4 : Int)
    rotate_left
    · refine S_re 47 (v' := .bool false) rfl (congrArg Value.bool (decide_eq_false hc)) ?_
      repeat (first | refine S_nil ?_ | refine inb_ret ?_ | refine pthen_ret ?_ | refine T_ret ?_ | refine S_pure tabOk rfl ?_ | refine S_pass rfl rfl rfl ?_)
      exact ret1 rfl rfl (fun w' hw => hfin w' false (fun h => absurd (by rw [h]) hc) hw)
    refine S_re 47 (v' := .bool true) rfl (congrArg Value.bool (decide_eq_true hc)) ?_
    repeat (first | refine S_pure tabOk rfl ?_)
    refine S_load tabOk 8 rfl rfl rfl ?_
    repeat (first | refine S_pure tabOk rfl ?_ | refine S_load tabOk 0 rfl rfl rfl ?_)
    by_cases ht : (delP N1 m).to = (delP N2 m).to
    rotate_left
    · refine S_re 54 (v' := .bool false) rfl (congrArg Value.bool (decide_eq_false ht)) ?_
      repeat (first | refine S_nil ?_ | refine inb_ret ?_ | refine pthen_ret ?_ | refine T_ret ?_ | refine S_pure tabOk rfl ?_ | refine S_pass rfl rfl rfl ?_)
      exact ret1 rfl rfl (fun w' hw => hfin w' false (fun h => absurd (congrArg Prod.fst (hpe h)) ht) hw)
    refine S_re 54 (v' := .bool true) rfl (congrArg Value.bool (decide_eq_true ht)) ?_
    repeat (first | refine S_pure tabOk rfl ?_)
    refine S_load tabOk 8 rfl rfl rfl ?_
    repeat (first | refine S_pure tabOk rfl ?_ | refine S_load tabOk 0 rfl rfl rfl ?_)
    refine S_callq rfl Try.call21 (fun w1 h1 => same_ok (delP N1 m).a (delP N2 m).a _ (delP N1 m).c _ (delP N2 m).c (delP N1 m).bs (delP N2 m).bs w1 (delP_ints (h1.okP 1 rfl) hN1 m) (delP_ints (h1.okP 1 rfl) hN2 m)) ?_
    repeat (first | refine S_nil ?_ | refine inb_ret ?_ | refine pthen_ret ?_ | refine T_ret ?_ | refine S_pure tabOk rfl ?_)
    exact ret1 rfl rfl (fun w' hw => hfin w' _ (fun h => decide_eq_true (congrArg Prod.snd (hpe h))) hw)
  repeat (first | refine T_seq ?_ | refine T_region ?_ | refine S_nil ?_ | refine S_pure tabOk rfl ?_)
  refine T_cond_dec rfl (fun h3 => ?_) (fun h3 => ?_)
  · repeat (first | refine T_seq ?_ | refine T_region ?_ | refine S_pure tabOk rfl ?_)
    refine S_call rfl Try.call72 (fun w1 h1 => (rdeliver_ok m (h1.perm (pmP8 ..)) hN2 (by omega)).mono fun e w' ⟨M2, e2, q2⟩ => ⟨_, _, e2, q2.h.perm (pmP8 ..), ?_⟩)
    repeat (first | refine S_pure tabOk rfl ?_)
    refine S_new tabOk rfl (fun b13 hb13 => ?_)
    repeat (first | refine T_seq ?_ | refine T_region ?_ | refine S_nil ?_ | refine S_pure tabOk rfl ?_ | refine S_store tabOk 0 rfl rfl rfl rfl rfl rfl ?_)
    refine S_call rfl Try.call41 (fun w1 h1 => (ndrop_ok m (h1.perm (pmPc ..)) hN1 (by omega)).mono fun e w' ⟨M1, e1, q1⟩ => ⟨_, _, e1, q1.h, ?_⟩)
    repeat (first | refine S_nil ?_ | refine inb_ret ?_ | refine pthen_ret ?_ | refine T_ret ?_ | refine S_pure tabOk rfl ?_)
    exact ret1 rfl rfl (fun w' hw => ⟨K1, G1, M1, M2, _, rfl, hw.less (by repeat (first | refine Less.keep ?_ | refine Less.dropB (by first | assumption | omega) ?_ | exact Less.same _)), q1.ok.mono (Nat.le_succ k), q2.ok.mono (Nat.le_succ k), hKK, by rw [q1.v, h3]; rfl, by rw [q2.v, h3]; rfl, fun h => decide_eq_true (by rw [h])⟩)
  repeat (first | refine T_seq ?_ | refine T_region ?_ | refine S_nil ?_ | refine S_pure tabOk rfl ?_)
  refine T_cond_dec rfl (fun h4 => ?_) (fun h4 => ?_)
  · repeat (first | refine T_seq ?_ | refine T_region ?_ | refine S_pure tabOk rfl ?_)
    refine S_call rfl Try.call45 (fun w1 h1 => (ndouble_ok m h1 hN1 (by omega)).mono fun e w' ⟨K2, G2, M1, e1, q1⟩ => ⟨_, _, e1, q1.h, ?_⟩)
    repeat (first | refine S_pure tabOk rfl ?_)
    refine S_call rfl Try.call73 (fun w1 h1 => (rdouble_ok m (h1.perm (pmP8 ..)) (hN2.up q1.k (Nat.le_refl k)) (by omega)).mono fun e w' ⟨K3, G3, M2, e2, q2⟩ => ⟨_, _, e2, q2.h.perm (pmP8 ..), ?_⟩)
    repeat (first | refine S_nil ?_ | refine inb_ret ?_ | refine pthen_ret ?_ | refine T_ret ?_ | refine S_pure tabOk rfl ?_)
    exact ret1 rfl rfl (fun w' hw => ⟨K3, G3, M1, M2, _, rfl, hw.less (by repeat (first | refine Less.keep ?_ | refine Less.dropB (by first | assumption | omega) ?_ | exact Less.same _)), q1.ok.up q2.k (Nat.le_refl _), q2.ok, fun p hp => q2.k p (q1.k p (hKK p hp)), by rw [q1.v, h4]; rfl, by rw [q2.v, h4]; rfl, fun h => decide_eq_true (by rw [h])⟩)
  repeat (first | refine T_seq ?_ | refine T_region ?_ | refine S_nil ?_ | refine S_pure tabOk rfl ?_)
  refine T_cond_dec rfl (fun h5 => ?_) (fun h5 => ?_)
  · repeat (first | refine T_seq ?_)
    refine T_toX (ι := Unit) (fun _ => True) (fun _ => .blk b7 (.cells ⟨cellP p⟩ 71 (0, 0)) true :: .blk b5 (.cells ⟨[.int .u8 d, .int .i64 to, .slice a zs.length c, .int .i64 i, .int .i64 at_, .int .u8 by_]⟩ 73 (0, 0)) true :: knE w0 K1 G1 :: nbE 131 b1 N1.la N1.L.length N1.lc N1.sa N1.S.length N1.sc :: rowP w0 71 N1.la N1.lc N1.L :: rowP w0 71 N1.sa N1.sc N1.S :: nbE 69 b2 N2.la N2.L.length N2.lc N2.sa N2.S.length N2.sc :: rowP w0 133 N2.la N2.lc N2.L :: rowP w0 133 N2.sa N2.sc N2.S :: .rep (fun w => (bP zs).at_ w F (.slice a zs.length c)) F false :: rest) (fun w hw => ⟨(), trivial, hw.perm (pmP7 ..)⟩) (fun _ _ => ?_)
    let lst : Bool → Bool → Value × (List Pk × ((Nat → Prop) × Nt)) → Value × (List Pk × ((Nat → Prop) × Nt)) → OL := fun l6 l13 x6 x13 =>
      .blk b7 (.cells ⟨cellP p⟩ 71 (0, 0)) true :: .blk b5 (.cells ⟨[.int .u8 d, .int .i64 to, .slice a zs.length c, .int .i64 i, .int .i64 at_, .int .u8 by_]⟩ 73 (0, 0)) true :: cond l13 (knE w0 x13.2.1 x13.2.2.1 :: nbE 131 b1 x6.2.2.2.la x6.2.2.2.L.length x6.2.2.2.lc x6.2.2.2.sa x6.2.2.2.S.length x6.2.2.2.sc :: rowP w0 71 x6.2.2.2.la x6.2.2.2.lc x6.2.2.2.L :: rowP w0 71 x6.2.2.2.sa x6.2.2.2.sc x6.2.2.2.S :: nbE 69 b2 x13.2.2.2.la x13.2.2.2.L.length x13.2.2.2.lc x13.2.2.2.sa x13.2.2.2.S.length x13.2.2.2.sc :: rowP w0 133 x13.2.2.2.la x13.2.2.2.lc x13.2.2.2.L :: rowP w0 133 x13.2.2.2.sa x13.2.2.2.sc x13.2.2.2.S :: .rep (fun w => (bP zs).at_ w F (.slice a zs.length c)) F false :: factE ((x6.2.2.2 : Nt).ok x6.2.1 (k + 1) ∧ (∀ q ∈ K1, q ∈ x6.2.1) ∧ (x6.2.2.2 : Nt).v = turV N1.v m at_ by_) :: factE ((x13.2.2.2 : Nt).ok x13.2.1 (k + 1) ∧ (∀ q ∈ x6.2.1, q ∈ x13.2.1) ∧ (x13.2.2.2 : Nt).v = turV N2.v m at_ by_) :: rest) (cond l6 (knE w0 x6.2.1 x6.2.2.1 :: nbE 131 b1 x6.2.2.2.la x6.2.2.2.L.length x6.2.2.2.lc x6.2.2.2.sa x6.2.2.2.S.length x6.2.2.2.sc :: rowP w0 71 x6.2.2.2.la x6.2.2.2.lc x6.2.2.2.L :: rowP w0 71 x6.2.2.2.sa x6.2.2.2.sc x6.2.2.2.S :: nbE 69 b2 N2.la N2.L.length N2.lc N2.sa N2.S.length N2.sc :: rowP w0 133 N2.la N2.lc N2.L :: rowP w0 133 N2.sa N2.sc N2.S :: .rep (fun w => (bP zs).at_ w F (.slice a zs.length c)) F false :: factE ((x6.2.2.2 : Nt).ok x6.2.1 (k + 1) ∧ (∀ q ∈ K1, q ∈ x6.2.1) ∧ (x6.2.2.2 : Nt).v = turV N1.v m at_ by_) :: rest) (knE w0 K1 G1 :: nbE 131 b1 N1.la N1.L.length N1.lc N1.sa N1.S.length N1.sc :: rowP w0 71 N1.la N1.lc N1.L :: rowP w0 71 N1.sa N1.sc N1.S :: nbE 69 b2 N2.la N2.L.length N2.lc N2.sa N2.S.length N2.sc :: rowP w0 133 N2.la N2.lc N2.L :: rowP w0 133 N2.sa N2.sc N2.S :: .rep (fun w => (bP zs).at_ w F (.slice a zs.length c)) F false :: rest))
    refine T_drawF (γ := List Pk × ((Nat → Prop) × Nt)) (by kernel_rfl) (by kernel_rfl) ([], (fun _ => False), ⟨none, 0, none, 0, [], []⟩) (fun L f => lst (L 6) (L 13) (f 6) (f 13)) rfl [some (.pointer (some ⟨b1, 0, none⟩)), some (.int .i64 m), some (.pointer (some ⟨b5, 4, none⟩)), some (.int .i64 at_), some (.pointer (some ⟨b5, 5, none⟩)), some (.int .u8 by_), some (.int .i64 (turE N1.v m at_ by_)), some (.pointer (some ⟨b2, 0, none⟩)), some (.int .i64 m), some (.pointer (some ⟨b5, 4, none⟩)), some (.int .i64 at_), some (.pointer (some ⟨b5, 5, none⟩)), some (.int .u8 by_), some (.int .i64 (turE N2.v m at_ by_)), some (.bool (decide (turE N1.v m at_ by_ = turE N2.v m at_ by_))), some (.bool (decide (turE N1.v m at_ by_ = turE N2.v m at_ by_)))] ?_ ?_
    · refine ⟨?_, ?_, ?_, ?_, ?_, ?_, ?_, ?_, ?_, ?_, ?_, ?_, ?_, ?_, ?_, ?_, trivial⟩
      · exact fun L f hc hl hp => OpA.told ([], (fun _ => False), ⟨none, 0, none, 0, [], []⟩) rfl (D_pure tabOk rfl D_last) rfl
      · exact fun L f hc hl hp => OpA.told ([], (fun _ => False), ⟨none, 0, none, 0, [], []⟩) rfl (D_pure tabOk rfl D_last) rfl
      · exact fun L f hc hl hp => OpA.told ([], (fun _ => False), ⟨none, 0, none, 0, [], []⟩) rfl (D_pure tabOk rfl D_last) rfl
      · intro L f hc hl hp
        have h6 := closed_no hc (j := 6) rfl ⟨3, .data⟩ (by simp) rfl hl
        have h13 := closed_no hc (j := 13) rfl ⟨6, .chain⟩ (by simp) rfl h6
        show OpA _ _ _ _ (lst (L 6) (L 13) (f 6) (f 13)) (fun y => lst (L 6) (L 13) (f 6) (f 13)) _ _ _
        rw [h6, h13]
        exact OpA.told ([], (fun _ => False), ⟨none, 0, none, 0, [], []⟩) rfl (D_load tabOk 1 rfl rfl rfl D_last) rfl
      · exact fun L f hc hl hp => OpA.told ([], (fun _ => False), ⟨none, 0, none, 0, [], []⟩) rfl (D_pure tabOk rfl D_last) rfl
      · intro L f hc hl hp
        have h6 := closed_no hc (j := 6) rfl ⟨5, .data⟩ (by simp) rfl hl
        have h13 := closed_no hc (j := 13) rfl ⟨6, .chain⟩ (by simp) rfl h6
        show OpA _ _ _ _ (lst (L 6) (L 13) (f 6) (f 13)) (fun y => lst (L 6) (L 13) (f 6) (f 13)) _ _ _
        rw [h6, h13]
        exact OpA.told ([], (fun _ => False), ⟨none, 0, none, 0, [], []⟩) rfl (D_load tabOk 1 rfl rfl rfl D_last) rfl
      · intro L f hc hl hp
        have h13 := closed_no hc (j := 13) rfl ⟨6, .chain⟩ (by simp) rfl hl
        show OpA _ _ _ _ (lst (L 6) (L 13) (f 6) (f 13)) (fun y => lst true (L 13) y (f 13)) _ _ _
        rw [hl, h13]
        refine OpA.ofS (l := [(85, .pointer (some ⟨b1, 0, none⟩)), (86, .int .i64 m), (88, .int .i64 at_), (90, .int .u8 by_)]) rfl (by decide) (.cons rfl rfl (.cons rfl rfl (.cons rfl rfl (.cons rfl rfl .nil)))) ?_
        refine S_call rfl Try.call40 (fun w1 h1 => (nturn_ok m at_ by_ hat (h1.perm (pmP0 ..)) hN1 (by omega)).mono fun e w' ⟨K2, G2, M1, e1, q1⟩ => ⟨_, _, e1, q1.h.perm (pmP1 ..), ?_⟩)
        refine S_nil ?_
        exact ⟨_, (K2, G2, M1), rfl, (fun u h => by cases h; rfl), fun w hw => (hw.addF ⟨q1.ok.mono (Nat.le_succ k), q1.k, q1.v⟩).perm (pmP4 ..)⟩
      · exact fun L f hc hl hp => OpA.told ([], (fun _ => False), ⟨none, 0, none, 0, [], []⟩) rfl (D_pure tabOk rfl D_last) rfl
      · exact fun L f hc hl hp => OpA.told ([], (fun _ => False), ⟨none, 0, none, 0, [], []⟩) rfl (D_pure tabOk rfl D_last) rfl
      · exact fun L f hc hl hp => OpA.told ([], (fun _ => False), ⟨none, 0, none, 0, [], []⟩) rfl (D_pure tabOk rfl D_last) rfl
      · intro L f hc hl hp
        have h13 := closed_no hc (j := 13) rfl ⟨10, .data⟩ (by simp) rfl hl
        show OpA _ _ _ _ (lst (L 6) (L 13) (f 6) (f 13)) (fun y => lst (L 6) (L 13) (f 6) (f 13)) _ _ _
        rw [h13]
        exact OpA.told ([], (fun _ => False), ⟨none, 0, none, 0, [], []⟩) rfl (D_load tabOk 1 rfl rfl rfl D_last) rfl
      · exact fun L f hc hl hp => OpA.told ([], (fun _ => False), ⟨none, 0, none, 0, [], []⟩) rfl (D_pure tabOk rfl D_last) rfl
      · intro L f hc hl hp
        have h13 := closed_no hc (j := 13) rfl ⟨12, .data⟩ (by simp) rfl hl
        show OpA _ _ _ _ (lst (L 6) (L 13) (f 6) (f 13)) (fun y => lst (L 6) (L 13) (f 6) (f 13)) _ _ _
        rw [h13]
        exact OpA.told ([], (fun _ => False), ⟨none, 0, none, 0, [], []⟩) rfl (D_load tabOk 1 rfl rfl rfl D_last) rfl
      · intro L f hc hl hp
        have h6 : L 6 = true := hp ⟨6, .chain⟩ (by simp) rfl
        show OpA _ _ _ _ (lst (L 6) (L 13) (f 6) (f 13)) (fun y => lst (L 6) true (f 6) y) _ _ _
        rw [hl, h6]
        refine OpA.pre (X := (((f 6).2.2.2 : Nt).ok (f 6).2.1 (k + 1) ∧ (∀ q ∈ K1, q ∈ (f 6).2.1) ∧ ((f 6).2.2.2 : Nt).v = turV N1.v m at_ by_)) (fun w hw => hw.fact 10 rfl) (fun d h => by cases h; decide) (fun ⟨hx1, hx2, hx3⟩ => ?_)
        refine OpA.ofS (l := [(92, .pointer (some ⟨b2, 0, none⟩)), (93, .int .i64 m), (95, .int .i64 at_), (97, .int .u8 by_)]) rfl (by decide) (.cons rfl rfl (.cons rfl rfl (.cons rfl rfl (.cons rfl rfl .nil)))) ?_
        refine S_call rfl Try.call74 (fun w1 h1 => (rturn_ok m at_ by_ hat (h1.perm (pmP2 ..)) (hN2.up hx2 (Nat.le_refl k)) (by omega)).mono fun e w' ⟨K3, G3, M2, e2, q2⟩ => ⟨_, _, e2, q2.h.perm (pmP3 ..), ?_⟩)
        refine S_nil ?_
        exact ⟨_, (K3, G3, M2), rfl, (fun u h => by cases h; rfl), fun w hw => (hw.addF ⟨q2.ok.mono (Nat.le_succ k), q2.k, q2.v⟩).perm (pmP5 ..)⟩
      · exact fun L f hc hl hp => OpA.told ([], (fun _ => False), ⟨none, 0, none, 0, [], []⟩) rfl (D_pure tabOk rfl D_last) rfl
      · exact fun L f hc hl hp => OpA.told ([], (fun _ => False), ⟨none, 0, none, 0, [], []⟩) rfl (D_pure tabOk rfl D_last) rfl
    · intro L f w5 hL hw
      change Hp _ _ (lst (L 6) (L 13) (f 6) (f 13)) at hw
      rw [hL 6 (by decide), hL 13 (by decide)] at hw
      obtain ⟨y1, hy1⟩ : ∃ y, y = f 6 := ⟨_, rfl⟩
      obtain ⟨y2, hy2⟩ : ∃ y, y = f 13 := ⟨_, rfl⟩
      have hx1 : ((y1.2.2.2 : Nt).ok y1.2.1 (k + 1) ∧ (∀ q ∈ K1, q ∈ y1.2.1) ∧ (y1.2.2.2 : Nt).v = turV N1.v m at_ by_) := by rw [hy1]; exact hw.fact 10 rfl
      have hx2 : ((y2.2.2.2 : Nt).ok y2.2.1 (k + 1) ∧ (∀ q ∈ y1.2.1, q ∈ y2.2.1) ∧ (y2.2.2.2 : Nt).v = turV N2.v m at_ by_) := by rw [hy2, hy1]; exact hw.fact 11 rfl
      have hw9 : Hp w0 w5 (.blk b7 (.cells ⟨cellP p⟩ 71 (0, 0)) true :: .blk b5 (.cells ⟨[.int .u8 d, .int .i64 to, .slice a zs.length c, .int .i64 i, .int .i64 at_, .int .u8 by_]⟩ 73 (0, 0)) true :: knE w0 y2.2.1 y2.2.2.1 :: nbE 131 b1 y1.2.2.2.la y1.2.2.2.L.length y1.2.2.2.lc y1.2.2.2.sa y1.2.2.2.S.length y1.2.2.2.sc :: rowP w0 71 y1.2.2.2.la y1.2.2.2.lc y1.2.2.2.L :: rowP w0 71 y1.2.2.2.sa y1.2.2.2.sc y1.2.2.2.S :: nbE 69 b2 y2.2.2.2.la y2.2.2.2.L.length y2.2.2.2.lc y2.2.2.2.sa y2.2.2.2.S.length y2.2.2.2.sc :: rowP w0 133 y2.2.2.2.la y2.2.2.2.lc y2.2.2.2.L :: rowP w0 133 y2.2.2.2.sa y2.2.2.2.sc y2.2.2.2.S :: .rep (fun w => (bP zs).at_ w F (.slice a zs.length c)) F false :: factE ((y1.2.2.2 : Nt).ok y1.2.1 (k + 1) ∧ (∀ q ∈ K1, q ∈ y1.2.1) ∧ (y1.2.2.2 : Nt).v = turV N1.v m at_ by_) :: factE ((y2.2.2.2 : Nt).ok y2.2.1 (k + 1) ∧ (∀ q ∈ y1.2.1, q ∈ y2.2.1) ∧ (y2.2.2.2 : Nt).v = turV N2.v m at_ by_) :: rest) := by rw [hy1, hy2]; exact hw
      refine ⟨[(6, .bool (decide (turE N1.v m at_ by_ = turE N2.v m at_ by_)))], _, (by repeat (first | exact SubD.nil | refine SubD.cons rfl ?_)), hw9, ?_⟩
      repeat (first | refine inb_ret ?_ | refine pthen_ret ?_ | refine T_ret ?_)
      exact ret1 rfl rfl (fun w' hw => ⟨y2.2.1, y2.2.2.1, y1.2.2.2, y2.2.2.2, _, rfl, hw.less (by repeat (first | refine Less.keep ?_ | refine Less.dropR ?_ | refine Less.dropB (by first | assumption | omega) ?_ | exact Less.same _)), hx1.1.up hx2.2.1 (Nat.le_refl _), hx2.1, fun p hp => hx2.2.1 p (hx1.2.1 p (hKK p hp)), by rw [hx1.2.2, h5]; rfl, by rw [hx2.2.2, h5]; rfl, fun h => decide_eq_true (by first | rfl | rw [h])⟩)
  repeat (first | refine T_seq ?_ | refine T_region ?_ | refine S_nil ?_ | refine S_pure tabOk rfl ?_)
  refine T_cond_dec rfl (fun h6 => ?_) (fun h6 => ?_)
  · repeat (first | refine T_seq ?_)
    refine T_toX (ι := Unit) (fun _ => True) (fun _ => .blk b7 (.cells ⟨cellP p⟩ 71 (0, 0)) true :: .blk b5 (.cells ⟨[.int .u8 d, .int .i64 to, .slice a zs.length c, .int .i64 i, .int .i64 at_, .int .u8 by_]⟩ 73 (0, 0)) true :: knE w0 K1 G1 :: nbE 131 b1 N1.la N1.L.length N1.lc N1.sa N1.S.length N1.sc :: rowP w0 71 N1.la N1.lc N1.L :: rowP w0 71 N1.sa N1.sc N1.S :: nbE 69 b2 N2.la N2.L.length N2.lc N2.sa N2.S.length N2.sc :: rowP w0 133 N2.la N2.lc N2.L :: rowP w0 133 N2.sa N2.sc N2.S :: .rep (fun w => (bP zs).at_ w F (.slice a zs.length c)) F false :: rest) (fun w hw => ⟨(), trivial, hw.perm (pmP7 ..)⟩) (fun _ _ => ?_)
    let lst : Bool → Bool → Value × (List Pk × ((Nat → Prop) × Nt)) → Value × (List Pk × ((Nat → Prop) × Nt)) → OL := fun l2 l9 x2 x9 =>
      .blk b7 (.cells ⟨cellP p⟩ 71 (0, 0)) true :: .blk b5 (.cells ⟨[.int .u8 d, .int .i64 to, .slice a zs.length c, .int .i64 i, .int .i64 at_, .int .u8 by_]⟩ 73 (0, 0)) true :: cond l9 (knE w0 x9.2.1 x9.2.2.1 :: nbE 131 b1 x2.2.2.2.la x2.2.2.2.L.length x2.2.2.2.lc x2.2.2.2.sa x2.2.2.2.S.length x2.2.2.2.sc :: rowP w0 71 x2.2.2.2.la x2.2.2.2.lc x2.2.2.2.L :: rowP w0 71 x2.2.2.2.sa x2.2.2.2.sc x2.2.2.2.S :: nbE 69 b2 x9.2.2.2.la x9.2.2.2.L.length x9.2.2.2.lc x9.2.2.2.sa x9.2.2.2.S.length x9.2.2.2.sc :: rowP w0 133 x9.2.2.2.la x9.2.2.2.lc x9.2.2.2.L :: rowP w0 133 x9.2.2.2.sa x9.2.2.2.sc x9.2.2.2.S :: .rep (fun w => (bP zs).at_ w F (.slice a zs.length c)) F false :: factE ((x2.2.2.2 : Nt).ok x2.2.1 (k + 1) ∧ (∀ q ∈ K1, q ∈ x2.2.1) ∧ (x2.2.2.2 : Nt).v = forV N1.v p.v) :: factE ((x9.2.2.2 : Nt).ok x9.2.1 (k + 1) ∧ (∀ q ∈ x2.2.1, q ∈ x9.2.1) ∧ (x9.2.2.2 : Nt).v = forV N2.v p.v) :: rest) (cond l2 (knE w0 x2.2.1 x2.2.2.1 :: nbE 131 b1 x2.2.2.2.la x2.2.2.2.L.length x2.2.2.2.lc x2.2.2.2.sa x2.2.2.2.S.length x2.2.2.2.sc :: rowP w0 71 x2.2.2.2.la x2.2.2.2.lc x2.2.2.2.L :: rowP w0 71 x2.2.2.2.sa x2.2.2.2.sc x2.2.2.2.S :: nbE 69 b2 N2.la N2.L.length N2.lc N2.sa N2.S.length N2.sc :: rowP w0 133 N2.la N2.lc N2.L :: rowP w0 133 N2.sa N2.sc N2.S :: .rep (fun w => (bP zs).at_ w F (.slice a zs.length c)) F false :: factE ((x2.2.2.2 : Nt).ok x2.2.1 (k + 1) ∧ (∀ q ∈ K1, q ∈ x2.2.1) ∧ (x2.2.2.2 : Nt).v = forV N1.v p.v) :: rest) (knE w0 K1 G1 :: nbE 131 b1 N1.la N1.L.length N1.lc N1.sa N1.S.length N1.sc :: rowP w0 71 N1.la N1.lc N1.L :: rowP w0 71 N1.sa N1.sc N1.S :: nbE 69 b2 N2.la N2.L.length N2.lc N2.sa N2.S.length N2.sc :: rowP w0 133 N2.la N2.lc N2.L :: rowP w0 133 N2.sa N2.sc N2.S :: .rep (fun w => (bP zs).at_ w F (.slice a zs.length c)) F false :: rest))
    refine T_drawF (γ := List Pk × ((Nat → Prop) × Nt)) (by kernel_rfl) (by kernel_rfl) ([], (fun _ => False), ⟨none, 0, none, 0, [], []⟩) (fun L f => lst (L 2) (L 9) (f 2) (f 9)) rfl [some (.pointer (some ⟨b1, 0, none⟩)), some (.agg ⟨cellP p⟩), some (.int .i64 (forE N1.v p.v)), some (.pointer (some ⟨b2, 0, none⟩)), some (.pointer (some ⟨b7, 0, none⟩)), some (.int .i64 p.to), some (.pointer (some ⟨b7, 1, none⟩)), some (.slice p.a p.bs.length p.c), some (.agg ⟨cellP p⟩), some (.int .i64 (forE N2.v p.v)), some (.bool (decide (forE N1.v p.v = forE N2.v p.v))), some (.bool (decide (forE N1.v p.v = forE N2.v p.v)))] ?_ ?_
    · refine ⟨?_, ?_, ?_, ?_, ?_, ?_, ?_, ?_, ?_, ?_, ?_, ?_, trivial⟩
      · exact fun L f hc hl hp => OpA.told ([], (fun _ => False), ⟨none, 0, none, 0, [], []⟩) rfl (D_pure tabOk rfl D_last) rfl
      · intro L f hc hl hp
        have h2 := closed_no hc (j := 2) rfl ⟨1, .data⟩ (by simp) rfl hl
        have h9 := closed_no hc (j := 9) rfl ⟨2, .chain⟩ (by simp) rfl h2
        show OpA _ _ _ _ (lst (L 2) (L 9) (f 2) (f 9)) (fun y => lst (L 2) (L 9) (f 2) (f 9)) _ _ _
        rw [h2, h9]
        exact OpA.told ([], (fun _ => False), ⟨none, 0, none, 0, [], []⟩) rfl (D_load tabOk 0 rfl rfl rfl D_last) rfl
      · intro L f hc hl hp
        have h9 := closed_no hc (j := 9) rfl ⟨2, .chain⟩ (by simp) rfl hl
        show OpA _ _ _ _ (lst (L 2) (L 9) (f 2) (f 9)) (fun y => lst true (L 9) y (f 9)) _ _ _
        rw [hl, h9]
        refine OpA.ofS (l := [(102, .pointer (some ⟨b1, 0, none⟩)), (103, .agg ⟨cellP p⟩)]) rfl (by decide) (.cons rfl rfl (.cons rfl rfl .nil)) ?_
        refine S_call rfl Try.call44 (fun w1 h1 => (nforge_ok (h1.perm (pmP0 ..)) hN1 (by omega) hpK).mono fun e w' ⟨K2, G2, M1, e1, q1⟩ => ⟨_, _, e1, q1.h.perm (pmP1 ..), ?_⟩)
        refine S_nil ?_
        exact ⟨_, (K2, G2, M1), rfl, (fun u h => by cases h; rfl), fun w hw => (hw.addF ⟨q1.ok, q1.k, q1.v⟩).perm (pmP4 ..)⟩
      · exact fun L f hc hl hp => OpA.told ([], (fun _ => False), ⟨none, 0, none, 0, [], []⟩) rfl (D_pure tabOk rfl D_last) rfl
      · exact fun L f hc hl hp => OpA.told ([], (fun _ => False), ⟨none, 0, none, 0, [], []⟩) rfl (D_pure tabOk rfl D_last) rfl
      · intro L f hc hl hp
        have h8 := closed_no hc (j := 8) rfl ⟨5, .data⟩ (by simp) rfl hl
        have h9 := closed_no hc (j := 9) rfl ⟨8, .data⟩ (by simp) rfl h8
        show OpA _ _ _ _ (lst (L 2) (L 9) (f 2) (f 9)) (fun y => lst (L 2) (L 9) (f 2) (f 9)) _ _ _
        rw [h9]
        exact OpA.told ([], (fun _ => False), ⟨none, 0, none, 0, [], []⟩) rfl (D_load tabOk 0 rfl rfl rfl D_last) rfl
      · exact fun L f hc hl hp => OpA.told ([], (fun _ => False), ⟨none, 0, none, 0, [], []⟩) rfl (D_pure tabOk rfl D_last) rfl
      · intro L f hc hl hp
        have h8 := closed_no hc (j := 8) rfl ⟨7, .data⟩ (by simp) rfl hl
        have h9 := closed_no hc (j := 9) rfl ⟨8, .data⟩ (by simp) rfl h8
        show OpA _ _ _ _ (lst (L 2) (L 9) (f 2) (f 9)) (fun y => lst (L 2) (L 9) (f 2) (f 9)) _ _ _
        rw [h9]
        exact OpA.told ([], (fun _ => False), ⟨none, 0, none, 0, [], []⟩) rfl (D_load tabOk 0 rfl rfl rfl D_last) rfl
      · intro L f hc hl hp
        have h9 := closed_no hc (j := 9) rfl ⟨8, .data⟩ (by simp) rfl hl
        show OpA _ _ _ _ (lst (L 2) (L 9) (f 2) (f 9)) (fun y => lst (L 2) (L 9) (f 2) (f 9)) _ _ _
        rw [h9]
        exact OpA.told ([], (fun _ => False), ⟨none, 0, none, 0, [], []⟩) rfl (D_q (Q_build tabOk rfl rfl rfl rfl rfl rfl rfl) D_last) rfl
      · intro L f hc hl hp
        have h2 : L 2 = true := hp ⟨2, .chain⟩ (by simp) rfl
        show OpA _ _ _ _ (lst (L 2) (L 9) (f 2) (f 9)) (fun y => lst (L 2) true (f 2) y) _ _ _
        rw [hl, h2]
        refine OpA.pre (X := (((f 2).2.2.2 : Nt).ok (f 2).2.1 (k + 1) ∧ (∀ q ∈ K1, q ∈ (f 2).2.1) ∧ ((f 2).2.2.2 : Nt).v = forV N1.v p.v)) (fun w hw => hw.fact 10 rfl) (fun d h => by cases h; decide) (fun ⟨hx1, hx2, hx3⟩ => ?_)
        refine OpA.ofS (l := [(105, .pointer (some ⟨b2, 0, none⟩)), (110, .agg ⟨cellP p⟩)]) rfl (by decide) (.cons rfl rfl (.cons rfl rfl .nil)) ?_
        refine S_call rfl Try.call75 (fun w1 h1 => (rforge_ok (h1.perm (pmP2 ..)) (hN2.up hx2 (Nat.le_refl k)) (by omega) (hx2 p hpK)).mono fun e w' ⟨K3, G3, M2, e2, q2⟩ => ⟨_, _, e2, q2.h.perm (pmP3 ..), ?_⟩)
        refine S_nil ?_
        exact ⟨_, (K3, G3, M2), rfl, (fun u h => by cases h; rfl), fun w hw => (hw.addF ⟨q2.ok, q2.k, q2.v⟩).perm (pmP5 ..)⟩
      · exact fun L f hc hl hp => OpA.told ([], (fun _ => False), ⟨none, 0, none, 0, [], []⟩) rfl (D_pure tabOk rfl D_last) rfl
      · exact fun L f hc hl hp => OpA.told ([], (fun _ => False), ⟨none, 0, none, 0, [], []⟩) rfl (D_pure tabOk rfl D_last) rfl
    · intro L f w5 hL hw
      change Hp _ _ (lst (L 2) (L 9) (f 2) (f 9)) at hw
      rw [hL 2 (by decide), hL 9 (by decide)] at hw
      obtain ⟨y1, hy1⟩ : ∃ y, y = f 2 := ⟨_, rfl⟩
      obtain ⟨y2, hy2⟩ : ∃ y, y = f 9 := ⟨_, rfl⟩
      have hx1 : ((y1.2.2.2 : Nt).ok y1.2.1 (k + 1) ∧ (∀ q ∈ K1, q ∈ y1.2.1) ∧ (y1.2.2.2 : Nt).v = forV N1.v p.v) := by rw [hy1]; exact hw.fact 10 rfl
      have hx2 : ((y2.2.2.2 : Nt).ok y2.2.1 (k + 1) ∧ (∀ q ∈ y1.2.1, q ∈ y2.2.1) ∧ (y2.2.2.2 : Nt).v = forV N2.v p.v) := by rw [hy2, hy1]; exact hw.fact 11 rfl
      have hw9 : Hp w0 w5 (.blk b7 (.cells ⟨cellP p⟩ 71 (0, 0)) true :: .blk b5 (.cells ⟨[.int .u8 d, .int .i64 to, .slice a zs.length c, .int .i64 i, .int .i64 at_, .int .u8 by_]⟩ 73 (0, 0)) true :: knE w0 y2.2.1 y2.2.2.1 :: nbE 131 b1 y1.2.2.2.la y1.2.2.2.L.length y1.2.2.2.lc y1.2.2.2.sa y1.2.2.2.S.length y1.2.2.2.sc :: rowP w0 71 y1.2.2.2.la y1.2.2.2.lc y1.2.2.2.L :: rowP w0 71 y1.2.2.2.sa y1.2.2.2.sc y1.2.2.2.S :: nbE 69 b2 y2.2.2.2.la y2.2.2.2.L.length y2.2.2.2.lc y2.2.2.2.sa y2.2.2.2.S.length y2.2.2.2.sc :: rowP w0 133 y2.2.2.2.la y2.2.2.2.lc y2.2.2.2.L :: rowP w0 133 y2.2.2.2.sa y2.2.2.2.sc y2.2.2.2.S :: .rep (fun w => (bP zs).at_ w F (.slice a zs.length c)) F false :: factE ((y1.2.2.2 : Nt).ok y1.2.1 (k + 1) ∧ (∀ q ∈ K1, q ∈ y1.2.1) ∧ (y1.2.2.2 : Nt).v = forV N1.v p.v) :: factE ((y2.2.2.2 : Nt).ok y2.2.1 (k + 1) ∧ (∀ q ∈ y1.2.1, q ∈ y2.2.1) ∧ (y2.2.2.2 : Nt).v = forV N2.v p.v) :: rest) := by rw [hy1, hy2]; exact hw
      refine ⟨[(6, .bool (decide (forE N1.v p.v = forE N2.v p.v)))], _, (by repeat (first | exact SubD.nil | refine SubD.cons rfl ?_)), hw9, ?_⟩
      repeat (first | refine inb_ret ?_ | refine pthen_ret ?_ | refine T_ret ?_)
      exact ret1 rfl rfl (fun w' hw => ⟨y2.2.1, y2.2.2.1, y1.2.2.2, y2.2.2.2, _, rfl, hw.less (by repeat (first | refine Less.keep ?_ | refine Less.dropR ?_ | refine Less.dropB (by first | assumption | omega) ?_ | exact Less.same _)), hx1.1.up hx2.2.1 (Nat.le_refl _), hx2.1, fun p hp => hx2.2.1 p (hx1.2.1 p (hKK p hp)), by rw [hx1.2.2, h6]; rfl, by rw [hx2.2.2, h6]; rfl, fun h => decide_eq_true (by first | rfl | rw [h])⟩)
  repeat (first | refine T_seq ?_ | refine T_region ?_ | refine S_nil ?_ | refine S_pure tabOk rfl ?_)
  refine T_cond_dec rfl (fun h7 => ?_) (fun h7 => ?_)
  · repeat (first | refine T_seq ?_ | refine T_region ?_ | refine S_pure tabOk rfl ?_)
    refine S_call rfl Try.call42 (fun w1 h1 => (nreplay_ok m h1 hN1 (by omega)).mono fun e w' ⟨K2, G2, M1, e1, q1⟩ => ⟨_, _, e1, q1.h, ?_⟩)
    repeat (first | refine S_pure tabOk rfl ?_)
    refine S_call rfl Try.call76 (fun w1 h1 => (rreplay_ok m (h1.perm (pmP8 ..)) (hN2.up q1.k (Nat.le_refl k)) (by omega)).mono fun e w' ⟨K3, G3, M2, e2, q2⟩ => ⟨_, _, e2, q2.h.perm (pmP8 ..), ?_⟩)
    repeat (first | refine S_nil ?_ | refine inb_ret ?_ | refine pthen_ret ?_ | refine T_ret ?_ | refine S_pure tabOk rfl ?_)
    exact ret1 rfl rfl (fun w' hw => ⟨K3, G3, M1, M2, _, rfl, hw.less (by repeat (first | refine Less.keep ?_ | refine Less.dropB (by first | assumption | omega) ?_ | exact Less.same _)), q1.ok.up q2.k (Nat.le_refl _), q2.ok, fun p hp => q2.k p (q1.k p (hKK p hp)), by rw [q1.v, h7]; rfl, by rw [q2.v, h7]; rfl, fun h => decide_eq_true (by rw [h])⟩)
  repeat (first | refine T_seq ?_ | refine pthen_normal ?_ | refine inb_normal ?_ | refine T_skip ?_)
  refine T_toX (ι := Unit) (fun _ => True) (fun _ => .blk b7 (.cells ⟨cellP p⟩ 71 (0, 0)) true :: .blk b5 (.cells ⟨[.int .u8 d, .int .i64 to, .slice a zs.length c, .int .i64 i, .int .i64 at_, .int .u8 by_]⟩ 73 (0, 0)) true :: knE w0 K1 G1 :: nbE 131 b1 N1.la N1.L.length N1.lc N1.sa N1.S.length N1.sc :: rowP w0 71 N1.la N1.lc N1.L :: rowP w0 71 N1.sa N1.sc N1.S :: nbE 69 b2 N2.la N2.L.length N2.lc N2.sa N2.S.length N2.sc :: rowP w0 133 N2.la N2.lc N2.L :: rowP w0 133 N2.sa N2.sc N2.S :: .rep (fun w => (bP zs).at_ w F (.slice a zs.length c)) F false :: rest) (fun w hw => ⟨(), trivial, hw.perm (pmP7 ..)⟩) (fun _ _ => ?_)
  let lst : Bool → Bool → Value × (List Pk × ((Nat → Prop) × Nt)) → Value × (List Pk × ((Nat → Prop) × Nt)) → OL := fun l2 l9 x2 x9 =>
    .blk b7 (.cells ⟨cellP p⟩ 71 (0, 0)) true :: .blk b5 (.cells ⟨[.int .u8 d, .int .i64 to, .slice a zs.length c, .int .i64 i, .int .i64 at_, .int .u8 by_]⟩ 73 (0, 0)) true :: cond l9 (knE w0 x9.2.1 x9.2.2.1 :: nbE 131 b1 x2.2.2.2.la x2.2.2.2.L.length x2.2.2.2.lc x2.2.2.2.sa x2.2.2.2.S.length x2.2.2.2.sc :: rowP w0 71 x2.2.2.2.la x2.2.2.2.lc x2.2.2.2.L :: rowP w0 71 x2.2.2.2.sa x2.2.2.2.sc x2.2.2.2.S :: nbE 69 b2 x9.2.2.2.la x9.2.2.2.L.length x9.2.2.2.lc x9.2.2.2.sa x9.2.2.2.S.length x9.2.2.2.sc :: rowP w0 133 x9.2.2.2.la x9.2.2.2.lc x9.2.2.2.L :: rowP w0 133 x9.2.2.2.sa x9.2.2.2.sc x9.2.2.2.S :: .rep (fun w => (bP zs).at_ w F (.slice a zs.length c)) F false :: factE ((x2.2.2.2 : Nt).ok x2.2.1 (k + 1) ∧ (∀ q ∈ K1, q ∈ x2.2.1) ∧ (x2.2.2.2 : Nt).v = sendV N1.v p.v) :: factE ((x9.2.2.2 : Nt).ok x9.2.1 (k + 1) ∧ (∀ q ∈ x2.2.1, q ∈ x9.2.1) ∧ (x9.2.2.2 : Nt).v = sendV N2.v p.v) :: rest) (cond l2 (knE w0 x2.2.1 x2.2.2.1 :: nbE 131 b1 x2.2.2.2.la x2.2.2.2.L.length x2.2.2.2.lc x2.2.2.2.sa x2.2.2.2.S.length x2.2.2.2.sc :: rowP w0 71 x2.2.2.2.la x2.2.2.2.lc x2.2.2.2.L :: rowP w0 71 x2.2.2.2.sa x2.2.2.2.sc x2.2.2.2.S :: nbE 69 b2 N2.la N2.L.length N2.lc N2.sa N2.S.length N2.sc :: rowP w0 133 N2.la N2.lc N2.L :: rowP w0 133 N2.sa N2.sc N2.S :: .rep (fun w => (bP zs).at_ w F (.slice a zs.length c)) F false :: factE ((x2.2.2.2 : Nt).ok x2.2.1 (k + 1) ∧ (∀ q ∈ K1, q ∈ x2.2.1) ∧ (x2.2.2.2 : Nt).v = sendV N1.v p.v) :: rest) (knE w0 K1 G1 :: nbE 131 b1 N1.la N1.L.length N1.lc N1.sa N1.S.length N1.sc :: rowP w0 71 N1.la N1.lc N1.L :: rowP w0 71 N1.sa N1.sc N1.S :: nbE 69 b2 N2.la N2.L.length N2.lc N2.sa N2.S.length N2.sc :: rowP w0 133 N2.la N2.lc N2.L :: rowP w0 133 N2.sa N2.sc N2.S :: .rep (fun w => (bP zs).at_ w F (.slice a zs.length c)) F false :: rest))
  refine T_drawF (γ := List Pk × ((Nat → Prop) × Nt)) (by kernel_rfl) (by kernel_rfl) ([], (fun _ => False), ⟨none, 0, none, 0, [], []⟩) (fun L f => lst (L 2) (L 9) (f 2) (f 9)) rfl [some (.pointer (some ⟨b1, 0, none⟩)), some (.agg ⟨cellP p⟩), some (.int .i64 (errV p.v)), some (.pointer (some ⟨b2, 0, none⟩)), some (.pointer (some ⟨b7, 0, none⟩)), some (.int .i64 p.to), some (.pointer (some ⟨b7, 1, none⟩)), some (.slice p.a p.bs.length p.c), some (.agg ⟨cellP p⟩), some (.int .i64 (errV p.v)), some (.bool (decide (errV p.v = errV p.v))), some (.bool (decide (errV p.v = errV p.v)))] ?_ ?_
  · refine ⟨?_, ?_, ?_, ?_, ?_, ?_, ?_, ?_, ?_, ?_, ?_, ?_, trivial⟩
    · exact fun L f hc hl hp => OpA.told ([], (fun _ => False), ⟨none, 0, none, 0, [], []⟩) rfl (D_pure tabOk rfl D_last) rfl
    · intro L f hc hl hp
      have h2 := closed_no hc (j := 2) rfl ⟨1, .data⟩ (by simp) rfl hl
      have h9 := closed_no hc (j := 9) rfl ⟨2, .chain⟩ (by simp) rfl h2
      show OpA _ _ _ _ (lst (L 2) (L 9) (f 2) (f 9)) (fun y => lst (L 2) (L 9) (f 2) (f 9)) _ _ _
      rw [h2, h9]
      exact OpA.told ([], (fun _ => False), ⟨none, 0, none, 0, [], []⟩) rfl (D_load tabOk 0 rfl rfl rfl D_last) rfl
    · intro L f hc hl hp
      have h9 := closed_no hc (j := 9) rfl ⟨2, .chain⟩ (by simp) rfl hl
      show OpA _ _ _ _ (lst (L 2) (L 9) (f 2) (f 9)) (fun y => lst true (L 9) y (f 9)) _ _ _
      rw [hl, h9]
      refine OpA.ofS (l := [(122, .pointer (some ⟨b1, 0, none⟩)), (123, .agg ⟨cellP p⟩)]) rfl (by decide) (.cons rfl rfl (.cons rfl rfl .nil)) ?_
      refine S_call rfl Try.call39 (fun w1 h1 => (send_ok (h1.perm (pmP0 ..)) hN1 (by omega) hpK).mono fun e w' ⟨K2, G2, M1, e1, q1⟩ => ⟨_, _, e1, q1.h.perm (pmP1 ..), ?_⟩)
      refine S_nil ?_
      exact ⟨_, (K2, G2, M1), rfl, (fun u h => by cases h; rfl), fun w hw => (hw.addF ⟨q1.ok, q1.k, q1.v⟩).perm (pmP4 ..)⟩
    · exact fun L f hc hl hp => OpA.told ([], (fun _ => False), ⟨none, 0, none, 0, [], []⟩) rfl (D_pure tabOk rfl D_last) rfl
    · exact fun L f hc hl hp => OpA.told ([], (fun _ => False), ⟨none, 0, none, 0, [], []⟩) rfl (D_pure tabOk rfl D_last) rfl
    · intro L f hc hl hp
      have h8 := closed_no hc (j := 8) rfl ⟨5, .data⟩ (by simp) rfl hl
      have h9 := closed_no hc (j := 9) rfl ⟨8, .data⟩ (by simp) rfl h8
      show OpA _ _ _ _ (lst (L 2) (L 9) (f 2) (f 9)) (fun y => lst (L 2) (L 9) (f 2) (f 9)) _ _ _
      rw [h9]
      exact OpA.told ([], (fun _ => False), ⟨none, 0, none, 0, [], []⟩) rfl (D_load tabOk 0 rfl rfl rfl D_last) rfl
    · exact fun L f hc hl hp => OpA.told ([], (fun _ => False), ⟨none, 0, none, 0, [], []⟩) rfl (D_pure tabOk rfl D_last) rfl
    · intro L f hc hl hp
      have h8 := closed_no hc (j := 8) rfl ⟨7, .data⟩ (by simp) rfl hl
      have h9 := closed_no hc (j := 9) rfl ⟨8, .data⟩ (by simp) rfl h8
      show OpA _ _ _ _ (lst (L 2) (L 9) (f 2) (f 9)) (fun y => lst (L 2) (L 9) (f 2) (f 9)) _ _ _
      rw [h9]
      exact OpA.told ([], (fun _ => False), ⟨none, 0, none, 0, [], []⟩) rfl (D_load tabOk 0 rfl rfl rfl D_last) rfl
    · intro L f hc hl hp
      have h9 := closed_no hc (j := 9) rfl ⟨8, .data⟩ (by simp) rfl hl
      show OpA _ _ _ _ (lst (L 2) (L 9) (f 2) (f 9)) (fun y => lst (L 2) (L 9) (f 2) (f 9)) _ _ _
      rw [h9]
      exact OpA.told ([], (fun _ => False), ⟨none, 0, none, 0, [], []⟩) rfl (D_q (Q_build tabOk rfl rfl rfl rfl rfl rfl rfl) D_last) rfl
    · intro L f hc hl hp
      have h2 : L 2 = true := hp ⟨2, .chain⟩ (by simp) rfl
      show OpA _ _ _ _ (lst (L 2) (L 9) (f 2) (f 9)) (fun y => lst (L 2) true (f 2) y) _ _ _
      rw [hl, h2]
      refine OpA.pre (X := (((f 2).2.2.2 : Nt).ok (f 2).2.1 (k + 1) ∧ (∀ q ∈ K1, q ∈ (f 2).2.1) ∧ ((f 2).2.2.2 : Nt).v = sendV N1.v p.v)) (fun w hw => hw.fact 10 rfl) (fun d h => by cases h; decide) (fun ⟨hx1, hx2, hx3⟩ => ?_)
      refine OpA.ofS (l := [(125, .pointer (some ⟨b2, 0, none⟩)), (130, .agg ⟨cellP p⟩)]) rfl (by decide) (.cons rfl rfl (.cons rfl rfl .nil)) ?_
      refine S_call rfl Try.call77 (fun w1 h1 => (rsend_ok (h1.perm (pmP2 ..)) (hN2.up hx2 (Nat.le_refl k)) (by omega) (hx2 p hpK)).mono fun e w' ⟨K3, G3, M2, e2, q2⟩ => ⟨_, _, e2, q2.h.perm (pmP3 ..), ?_⟩)
      refine S_nil ?_
      exact ⟨_, (K3, G3, M2), rfl, (fun u h => by cases h; rfl), fun w hw => (hw.addF ⟨q2.ok, q2.k, q2.v⟩).perm (pmP5 ..)⟩
    · exact fun L f hc hl hp => OpA.told ([], (fun _ => False), ⟨none, 0, none, 0, [], []⟩) rfl (D_pure tabOk rfl D_last) rfl
    · exact fun L f hc hl hp => OpA.told ([], (fun _ => False), ⟨none, 0, none, 0, [], []⟩) rfl (D_pure tabOk rfl D_last) rfl
  · intro L f w5 hL hw
    change Hp _ _ (lst (L 2) (L 9) (f 2) (f 9)) at hw
    rw [hL 2 (by decide), hL 9 (by decide)] at hw
    obtain ⟨y1, hy1⟩ : ∃ y, y = f 2 := ⟨_, rfl⟩
    obtain ⟨y2, hy2⟩ : ∃ y, y = f 9 := ⟨_, rfl⟩
    have hx1 : ((y1.2.2.2 : Nt).ok y1.2.1 (k + 1) ∧ (∀ q ∈ K1, q ∈ y1.2.1) ∧ (y1.2.2.2 : Nt).v = sendV N1.v p.v) := by rw [hy1]; exact hw.fact 10 rfl
    have hx2 : ((y2.2.2.2 : Nt).ok y2.2.1 (k + 1) ∧ (∀ q ∈ y1.2.1, q ∈ y2.2.1) ∧ (y2.2.2.2 : Nt).v = sendV N2.v p.v) := by rw [hy2, hy1]; exact hw.fact 11 rfl
    have hw9 : Hp w0 w5 (.blk b7 (.cells ⟨cellP p⟩ 71 (0, 0)) true :: .blk b5 (.cells ⟨[.int .u8 d, .int .i64 to, .slice a zs.length c, .int .i64 i, .int .i64 at_, .int .u8 by_]⟩ 73 (0, 0)) true :: knE w0 y2.2.1 y2.2.2.1 :: nbE 131 b1 y1.2.2.2.la y1.2.2.2.L.length y1.2.2.2.lc y1.2.2.2.sa y1.2.2.2.S.length y1.2.2.2.sc :: rowP w0 71 y1.2.2.2.la y1.2.2.2.lc y1.2.2.2.L :: rowP w0 71 y1.2.2.2.sa y1.2.2.2.sc y1.2.2.2.S :: nbE 69 b2 y2.2.2.2.la y2.2.2.2.L.length y2.2.2.2.lc y2.2.2.2.sa y2.2.2.2.S.length y2.2.2.2.sc :: rowP w0 133 y2.2.2.2.la y2.2.2.2.lc y2.2.2.2.L :: rowP w0 133 y2.2.2.2.sa y2.2.2.2.sc y2.2.2.2.S :: .rep (fun w => (bP zs).at_ w F (.slice a zs.length c)) F false :: factE ((y1.2.2.2 : Nt).ok y1.2.1 (k + 1) ∧ (∀ q ∈ K1, q ∈ y1.2.1) ∧ (y1.2.2.2 : Nt).v = sendV N1.v p.v) :: factE ((y2.2.2.2 : Nt).ok y2.2.1 (k + 1) ∧ (∀ q ∈ y1.2.1, q ∈ y2.2.1) ∧ (y2.2.2.2 : Nt).v = sendV N2.v p.v) :: rest) := by rw [hy1, hy2]; exact hw
    refine ⟨[(6, .bool (decide (errV p.v = errV p.v)))], _, (by repeat (first | exact SubD.nil | refine SubD.cons rfl ?_)), hw9, ?_⟩
    repeat (first | refine T_ret ?_)
    exact ret1 rfl rfl (fun w' hw => ⟨y2.2.1, y2.2.2.1, y1.2.2.2, y2.2.2.2, _, rfl, hw.less (by repeat (first | refine Less.keep ?_ | refine Less.dropR ?_ | refine Less.dropB (by first | assumption | omega) ?_ | exact Less.same _)), hx1.1.up hx2.2.1 (Nat.le_refl _), hx2.1, fun p hp => hx2.2.1 p (hx1.2.1 p (hKK p hp)), by rw [hx1.2.2]; unfold opV; rw [if_neg (fun h => h.elim h2 h3), if_neg h4, if_neg h5, if_neg h6, if_neg h7], by rw [hx2.2.2]; unfold opV; rw [if_neg (fun h => h.elim h2 h3), if_neg h4, if_neg h5, if_neg h6, if_neg h7], fun h => decide_eq_true (by first | rfl | rw [h])⟩)


end Go.Proofs.Ytnefhhoijonnaaa
