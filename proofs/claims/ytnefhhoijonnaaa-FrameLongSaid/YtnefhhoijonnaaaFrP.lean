/-
  Frames: how a Batch's own parts are read. Conditions: each theorem's own.
-/
import Derived.Test.YtnefhhoijonnaaaFrO
namespace Go.Proofs.Ytnefhhoijonnaaa
open Go Go.RowKit
set_option linter.unusedVariables false

theorem pm0 {α : Type} (a b c d e : α) : List.Perm [a, b, c, d, e] [c, d, a, b, e] := by
  have hP : List.Perm ([0, 1, 2, 3, 4] : List Nat) [2, 3, 0, 1, 4] := by decide
  exact hP.map fun i => ([a, b, c, d, e][i]?).getD a
theorem pm1 {α : Type} (a b c d e f g : α) : List.Perm [a, b, c, d, e, f, g] [d, c, e, f, g, b, a] := by
  have hP : List.Perm ([0, 1, 2, 3, 4, 5, 6] : List Nat) [3, 2, 4, 5, 6, 1, 0] := by decide
  exact hP.map fun i => ([a, b, c, d, e, f, g][i]?).getD a
theorem pm2 {α : Type} (a b c d e f g h : α) : List.Perm [a, b, c, d, e, f, g, h] [d, f, a, b, c, e, g, h] := by
  have hP : List.Perm ([0, 1, 2, 3, 4, 5, 6, 7] : List Nat) [3, 5, 0, 1, 2, 4, 6, 7] := by decide
  exact hP.map fun i => ([a, b, c, d, e, f, g, h][i]?).getD a
theorem pm3 {α : Type} (a b c d e f g : α) : List.Perm [a, b, c, d, e, f, g] [b, c, d, a, e, f, g] := by
  have hP : List.Perm ([0, 1, 2, 3, 4, 5, 6] : List Nat) [1, 2, 3, 0, 4, 5, 6] := by decide
  exact hP.map fun i => ([a, b, c, d, e, f, g][i]?).getD a
set_option maxHeartbeats 4000000 in
theorem getItems_t {w : World} {bf b : Nat} {A : Option Addr} {N C : Nat} {all : List Int} {H : Hd} {q : St} {ra : Option Addr} {rn rc : Nat} (g : GetP w bf b A N C all H ⟨ra, rn, rc, none, 0, 0⟩ q) : Calls Try.prog 92 #[.pointer (some ⟨bf, 0, none⟩), .pointer (some ⟨b, 0, none⟩)] w fun e w' => ∃ a c css G, e = .returned (.tuple #[]) ∧ (∀ k, G k → w.heap.size ≤ k) ∧
    Hp w w' [.blk bf (fO (hIt H (pN all q).2 (pN all (pN all q).1).2) ⟨ra, rn, rc, a, (pF all 64 (p2 all q)).2.toNat, c⟩) true, inE b A N C (pI all (pF all 64 (p2 all q)).1 (pF all 64 (p2 all q)).2.toNat).1, .row w.heap.size (.slice a (pF all 64 (p2 all q)).2.toNat c) 54 3 (pF all 64 (p2 all q)).2.toNat css.flatten, bodE css (pI all (pF all 64 (p2 all q)).1 (pF all 64 (p2 all q)).2.toNat).2 G] := by
  obtain ⟨F, hst⟩ := g.start
  refine enter2 Try.func92 rfl rfl hst ?_
  repeat (first | refine T_seq ?_ | refine T_region ?_ | refine S_pure tabOk rfl ?_)
  refine S_tin 1 rfl Try.call63 rfl (fun w1 h1 h => num_t h (bP_ints (Vp.fact0 (p := bP all) h1 2 rfl)) g.ap g.n) rfl ?_
  repeat (first | refine S_pure tabOk rfl ?_)
  refine S_tin 1 rfl Try.call63 rfl (fun w1 h1 h => num_t h (bP_ints (Vp.fact0 (p := bP all) h1 2 rfl)) g.ap g.n) rfl ?_
  repeat (first | refine T_seq ?_ | refine T_region ?_ | refine S_nil ?_ | refine S_pure tabOk rfl ?_ | refine S_store tabOk 0 rfl rfl rfl rfl rfl rfl ?_)
  refine S_tin 1 rfl Try.call62 rfl (fun w1 h1 h => fewIn_t (by decide) h (bP_ints (Vp.fact0 (p := bP all) h1 2 rfl)) g.ap g.n) rfl ?_
  repeat (first | refine T_block ?_ | refine S_nil ?_ | refine S_pure tabOk rfl ?_)
  obtain ⟨q0, hq0⟩ : ∃ x, x = p2 all q := ⟨_, rfl⟩
  rw [show (pN all (pN all q).1).1 = q0 from hq0.symm] at *
  rw [← hq0]
  have hfb := pF_bd g.a.fits (most := 64) (by decide) q0
  obtain ⟨m, hm⟩ : ∃ m : Nat, (pF all 64 q0).2 = (m : Int) := ⟨(pF all 64 q0).2.toNat, by omega⟩
  have hm32 : m ≤ 64 := by omega
  obtain ⟨q1, hq1⟩ : ∃ x, x = (pF all 64 q0).1 := ⟨_, rfl⟩
  rw [hm, ← hq1, Int.toNat_natCast]
  obtain ⟨G, hG⟩ : ∃ G, G = hIt H (pN all q).2 (pN all (pN all q).1).2 := ⟨_, rfl⟩
  rw [← hG]
  refine T_loop (ι := GiI) (fun i => [(0, .pointer (some ⟨bf, 0, none⟩)), (1, .pointer (some ⟨b, 0, none⟩)), (15, .int .i64 (m : Int)), (16, .int .i64 (i.i : Int))])
    (fun i => [.blk bf (fO G ⟨ra, rn, rc, i.a, i.i, i.c⟩) true, inE b A N C (pI all q1 i.i).1, .row w.heap.size (.slice i.a i.i i.c) 54 3 i.i i.css.flatten, bodE i.css (pI all q1 i.i).2 i.G, .rep (fun w => (bP all).at_ w F (.slice A N C)) F false])
    (fun i => i.i ≤ m ∧ i.css.flatten.length = i.i * 3 ∧ ∀ k, i.G k → w.heap.size ≤ k) (fun i => m - i.i) ⟨0, none, 0, [], fun _ => False⟩ ⟨Nat.zero_le _, rfl, fun k hk => hk.elim⟩ (by repeat (first | exact Sub.nil | refine Sub.cons rfl ?_)) (fun w' hw => by
      rw [hG]
      exact ((hw.nilBod).nilRow 54 3).perm (pm0 ..)) ?_
  rintro ⟨i, a1, c1, css, D⟩ ⟨hi, hcl, hD⟩
  dsimp only at hi hcl hD ⊢
  repeat (first | refine T_seq ?_ | refine T_region ?_ | refine S_nil ?_ | refine S_pure tabOk rfl ?_)
  refine T_cond_dec rfl (fun h => ?_) (fun h => ?_)
  · obtain ⟨σ, hσ⟩ : ∃ σ, σ = (pI all q1 i).1 := ⟨_, rfl⟩
    obtain ⟨rl, hrl⟩ : ∃ rl, rl = (pI all q1 i).2 := ⟨_, rfl⟩
    have hnx : pI all q1 (i + 1) = ((pIt all σ).1, rl ++ [(pIt all σ).2]) := by rw [hσ, hrl]; rfl
    rw [← hσ, ← hrl]
    obtain ⟨hb1, hb2, hb3⟩ := pIt_bd g.a.fits σ
    obtain ⟨x, hx⟩ : ∃ x, x = pIt all σ := ⟨_, rfl⟩
    rw [← hx] at hb1 hb2 hb3 hnx
    repeat (first | refine T_seq ?_ | refine T_block ?_ | refine pthen_normal ?_ | refine T_skip ?_)
    let ci : Option Addr × Nat → List Value := fun y => [.int .u64 x.2.1, .int .i64 x.2.2.1, .slice y.1 x.2.2.2.length y.2]
    let lst : Bool → Bool → Bool → Bool → Value × (Option Addr × Nat) → Value → Value → OL := fun l6 l7 l8 l11 x6 x7 x8 =>
      .blk bf (.cells ⟨[.int .u8 G.kd, .int .i64 G.ag, .int .u64 G.ep, .int .u64 G.inc, .int .u64 G.ba, .int .u64 G.cu, .int .u64 G.li, .slice ra rn rc, cond l11 x8 (.slice a1 i c1)]⟩ 26 (0, 0)) true :: inE b A N C (cond l6 x.1 σ) :: .row w.heap.size (cond l8 x8 (.slice a1 i c1)) 54 3 (cond l8 (i + 1) i) (cond l8 (css.flatten ++ ci x6.2) css.flatten) :: bodE css rl D :: .rep (fun w => (bP all).at_ w F (.slice A N C)) F false :: (cond l6 [.row w.heap.size (.slice x6.2.1 x.2.2.2.length x6.2.2) 5 1 x.2.2.2.length (x.2.2.2.map (.int .u8)), factE (x6.1 = .agg ⟨ci x6.2⟩)] [] ++ cond l7 [.row w.heap.size x7 54 3 1 (ci x6.2)] [])
    refine T_asThen ?_
    refine T_drawF (γ := Option Addr × Nat) (by kernel_rfl) (by kernel_rfl) (none, 0) (fun L f => lst (L 6) (L 7) (L 8) (L 11) (f 6) (f 7).1 (f 8).1) rfl [some (.pointer (some ⟨bf, 0, none⟩)), some (.pointer (some ⟨bf, 0, none⟩)), some (.pointer (some ⟨bf, 0, none⟩)), some (.pointer (some ⟨bf, 8, none⟩)), some (.slice a1 i c1), some (.pointer (some ⟨b, 0, none⟩)), none, none, none, some (.pointer (some ⟨bf, 0, none⟩)), some (.pointer (some ⟨bf, 8, none⟩)), none] ?_ ?_
    · refine ⟨?_, ?_, ?_, ?_, ?_, ?_, ?_, ?_, ?_, ?_, ?_, ?_, trivial⟩
      · exact fun L f hc hl hp => OpA.told (none, 0) rfl (D_pure tabOk rfl D_last) rfl
      · exact fun L f hc hl hp => OpA.told (none, 0) rfl (D_pure tabOk rfl D_last) rfl
      · exact fun L f hc hl hp => OpA.told (none, 0) rfl (D_pure tabOk rfl D_last) rfl
      · exact fun L f hc hl hp => OpA.told (none, 0) rfl (D_pure tabOk rfl D_last) rfl
      · intro L f hc hl hp
        have h11 := closed_no hc (j := 11) rfl ⟨4, .phase⟩ (by simp) rfl hl
        show OpA _ _ _ _ (lst (L 6) (L 7) (L 8) (L 11) (f 6) (f 7).1 (f 8).1) (fun y => lst (L 6) (L 7) (L 8) (L 11) (f 6) (f 7).1 (f 8).1) _ _ _
        rw [h11]
        exact OpA.told (none, 0) rfl (D_load tabOk 0 rfl rfl rfl D_last) rfl
      · exact fun L f hc hl hp => OpA.told (none, 0) rfl (D_pure tabOk rfl D_last) rfl
      · intro L f hc hl hp
        have h7 := closed_no hc (j := 7) rfl ⟨6, .data⟩ (by simp) rfl hl
        have h8 := closed_no hc (j := 8) rfl ⟨7, .data⟩ (by simp) rfl h7
        have h11 := closed_no hc (j := 11) rfl ⟨8, .data⟩ (by simp) rfl h8
        show OpA _ _ _ _ (lst (L 6) (L 7) (L 8) (L 11) (f 6) (f 7).1 (f 8).1) (fun y => lst true (L 7) (L 8) (L 11) y (f 7).1 (f 8).1) _ _ _
        rw [hl, h7, h8, h11]
        refine OpA.call rfl Try.call114 (fun w1 vs hw h => ?_)
        obtain ⟨u1, _, rfl, rfl, rfl⟩ := h
        have hin : inP b A N C σ w1 := (hw.own _ (getE_mem (i := 1) rfl)).1
        refine (item_t hin (bP_ints (Vp.fact0 (p := bP all) hw 4 rfl)) g.ap g.n).mono fun e w2 ⟨ra', rc', e1, h2⟩ => ?_
        rw [← hx] at e1 h2
        refine ⟨_, (ra', rc'), e1, ?_⟩
        have hw3 := hw.perm (o' := inE b A N C σ :: [.blk bf (fO G ⟨ra, rn, rc, a1, i, c1⟩) true, .row w.heap.size (.slice a1 i c1) 54 3 i css.flatten, bodE css rl D, .rep (fun w => (bP all).at_ w F (.slice A N C)) F false]) (List.Perm.swap _ _ _)
        have hw4 := Hp.graftG (A := [inE b A N C σ]) hw3 h2 (fun e he => by rw [List.mem_singleton] at he; subst he; rfl) (fun e he => by
          simp only [List.mem_cons, List.not_mem_nil, or_false] at he
          rcases he with rfl | rfl
          · exact ⟨rfl, fun k hk => .inr (World.ownsRow.lt (h2.own _ List.mem_cons_self) k hk).1⟩
          · exact ⟨rfl, fun k hk => .inl ⟨_, List.mem_cons_self, hk⟩⟩) (fun e he k hk => by
          rw [List.mem_singleton] at he
          subst he
          exact .inr ⟨_, List.mem_cons_of_mem _ List.mem_cons_self, hk⟩)
        have hw5 := Hp.reb (pre := []) (b' := w.heap.size) hw4 hw.size
        exact (hw5.addF (p := (itV x.2.1 x.2.2.1 ra' x.2.2.2.length rc' : Value) = .agg ⟨ci (ra', rc')⟩) rfl).perm (pm1 ..)
      · intro L f hc hl hp
        have h6 : L 6 = true := hp ⟨6, .data⟩ (by simp) rfl
        have h8 := closed_no hc (j := 8) rfl ⟨7, .data⟩ (by simp) rfl hl
        have h11 := closed_no hc (j := 11) rfl ⟨8, .data⟩ (by simp) rfl h8
        show OpA _ _ _ _ (lst (L 6) (L 7) (L 8) (L 11) (f 6) (f 7).1 (f 8).1) (fun y => lst (L 6) true (L 8) (L 11) (f 6) y.1 (f 8).1) _ _ _
        rw [hl, h6, h8, h11]
        refine OpA.pre (X := (f 6).1 = .agg ⟨ci (f 6).2⟩) (fun w hw => hw.fact 6 rfl) (fun d h => by cases h; decide) (fun e6 => ?_)
        refine OpA.swap (dl' := [(24, .ex (f 6).1)]) (List.forall_mem_cons.2 ⟨rfl, fun _ h => nomatch h⟩) ?_
        generalize f 6 = x6 at *
        obtain ⟨x6, g6⟩ := x6
        dsimp only at e6
        subst e6
        exact OpA.bsliceR tabOk rfl rfl rfl rfl rfl rfl rfl rfl rfl rfl rfl rfl rfl rfl (fun w1 v hw1 => ⟨(none, 0), hw1.perm (by repeat (first | exact List.Perm.refl _ | refine (List.Perm.swap _ _ _).trans (List.Perm.cons _ ?_)))⟩)
      · intro L f hc hl hp
        have h7 : L 7 = true := hp ⟨7, .data⟩ (by simp) rfl
        have h6 : L 6 = true := hp ⟨6, .chain⟩ (by simp) rfl
        have h11 := closed_no hc (j := 11) rfl ⟨8, .data⟩ (by simp) rfl hl
        show OpA _ _ _ _ (lst (L 6) (L 7) (L 8) (L 11) (f 6) (f 7).1 (f 8).1) (fun y => lst (L 6) (L 7) true (L 11) (f 6) (f 7).1 y.1) _ _ _
        rw [hl, h6, h7, h11]
        refine OpA.pre (X := ∃ A C, (f 7).1 = .slice A 1 C) (fun w hw => ?_) (fun d h => by cases h; decide) ?_
        · obtain ⟨A, C, e2, _⟩ := hw.rowForm 7 rfl
          exact ⟨A, C, e2⟩
        · rintro ⟨A', C', e2⟩
          rw [e2]
          refine OpA.ofS (l := [(22, .slice a1 i c1), (25, .slice A' 1 C')]) rfl (by decide) (.cons rfl rfl (.cons rfl (by show some (Ent.ex (f 7).1) = _; rw [e2]) .nil)) ?_
          refine S_append (ty := 0) tabOk 2 (m := i) (v := .slice a1 i c1) (xs := css.flatten) (news := ci (f 6).2) rfl rfl rfl rfl rfl rfl rfl rfl rfl (by decide) (fun w' hw => Sl.of_own (hw.own _ (getE_mem (i := 7) rfl))) (by intro u hu; simp only [ci, List.mem_cons, List.not_mem_nil, or_false] at hu; rcases hu with rfl | rfl | rfl <;> rfl) (by simp only [maxLen]; omega) (by show (_ + _) * 40 ≤ _; omega) rfl (fun AS CS hcS hdS => ⟨_, rfl, ?_⟩)
          refine S_nil ?_
          exact ⟨_, (none, 0), rfl, (fun u h => by cases h), fun w hw => hw⟩
      · exact fun L f hc hl hp => OpA.told (none, 0) rfl (D_pure tabOk rfl D_last) rfl
      · exact fun L f hc hl hp => OpA.told (none, 0) rfl (D_pure tabOk rfl D_last) rfl
      · intro L f hc hl hp
        have h8 : L 8 = true := hp ⟨8, .data⟩ (by simp) rfl
        have h7 : L 7 = true := hc 8 _ rfl h8 ⟨7, .data⟩ (by simp) rfl
        have h6 : L 6 = true := hc 7 _ rfl h7 ⟨6, .data⟩ (by simp) rfl
        show OpA _ _ _ _ (lst (L 6) (L 7) (L 8) (L 11) (f 6) (f 7).1 (f 8).1) (fun y => lst (L 6) (L 7) (L 8) true (f 6) (f 7).1 (f 8).1) _ _ _
        rw [hl, h6, h7, h8]
        refine OpA.pre (X := ∃ A C, (f 8).1 = .slice A (i + 1) C) (fun w hw => ?_) (fun d h => by cases h) ?_
        · obtain ⟨A, C, e2, _⟩ := hw.rowForm 2 rfl
          exact ⟨A, C, e2⟩
        · rintro ⟨A', C', e2⟩
          refine OpA.swap (dl' := [(28, .ex (.pointer (some ⟨bf, 8, none⟩))), (26, .ex (f 8).1)]) (List.forall_mem_cons.2 ⟨rfl, List.forall_mem_cons.2 ⟨rfl, fun _ h => nomatch h⟩⟩) ?_
          generalize f 8 = x8 at *
          obtain ⟨x8, g8⟩ := x8
          dsimp only at e2
          subst e2
          exact OpS.toF (none, 0) (fun u h => by cases h) (OpS.store tabOk 0 rfl rfl (fun u h => by rw [List.mem_singleton] at h; subst h; rfl) rfl rfl rfl)
    · intro L f w5 hL hw
      change Hp _ _ (lst (L 6) (L 7) (L 8) (L 11) (f 6) (f 7).1 (f 8).1) at hw
      rw [hL 6 (by decide), hL 7 (by decide), hL 8 (by decide), hL 11 (by decide)] at hw
      obtain ⟨A', C', e2, _⟩ := hw.rowForm 2 rfl
      generalize f 8 = x8 at hw e2 ⊢
      obtain ⟨x8, g8⟩ := x8
      have e3 : x8 = .slice A' (i + 1) C' := e2
      subst e3
      obtain ⟨y, hy⟩ : ∃ y, y = (f 6).2 := ⟨_, rfl⟩
      have hw6 : Hp w w5 [.blk bf (fO G ⟨ra, rn, rc, A', i + 1, C'⟩) true, inE b A N C x.1, .row w.heap.size (.slice A' (i + 1) C') 54 3 (i + 1) (css.flatten ++ ci y), bodE css rl D, .rep (fun w => (bP all).at_ w F (.slice A N C)) F false, .row w.heap.size (.slice y.1 x.2.2.2.length y.2) 5 1 x.2.2.2.length (x.2.2.2.map (.int .u8)), factE ((f 6).1 = .agg ⟨ci y⟩), .row w.heap.size (f 7).1 54 3 1 (ci y)] := by rw [hy]; exact hw
      have hw7 : Hp w w5 (bodE css rl D :: .row w.heap.size (.slice y.1 x.2.2.2.length y.2) 5 1 x.2.2.2.length (x.2.2.2.map (.int .u8)) :: [.blk bf (fO G ⟨ra, rn, rc, A', i + 1, C'⟩) true, inE b A N C x.1, .row w.heap.size (.slice A' (i + 1) C') 54 3 (i + 1) (css.flatten ++ ci y), .rep (fun w => (bP all).at_ w F (.slice A N C)) F false, factE ((f 6).1 = .agg ⟨ci y⟩), .row w.heap.size (f 7).1 54 3 1 (ci y)]) := hw6.perm (pm2 ..)
      have hw8 := hw7.snocBod hb1 hb2 hb3
      refine ⟨[(0, .pointer (some ⟨bf, 0, none⟩)), (1, .pointer (some ⟨b, 0, none⟩)), (15, .int .i64 (m : Int)), (16, .int .i64 (i : Int))], _, ?_, hw8, ?_⟩
      · repeat (first | exact SubD.nil | refine SubD.cons rfl ?_)
      · repeat (first | refine T_region ?_ | refine S_nil ?_ | refine pthen_normal ?_ | refine inb_normal ?_ | refine S_i64 tabOk rfl (by omega) ?_ | refine S_pure tabOk rfl ?_)
        have hrow := (World.ownsRow.lt (hw6.own _ (getE_mem (i := 5) rfl)))
        refine ⟨⟨i + 1, A', C', css ++ [ci y], fun k => D k ∨ (Value.slice y.1 x.2.2.2.length y.2).ownBlock = some k⟩, ⟨by dsimp only; omega, ?_, ?_⟩, by repeat (first | exact Sub.nil | refine Sub.cons rfl ?_), fun w' hw => ?_, by dsimp only; omega⟩
        · dsimp only
          rw [List.flatten_append, List.length_append, hcl]
          show i * 3 + 3 = (i + 1) * 3
          omega
        · exact fun k hk => hk.elim (hD k) fun h => (hrow k h).1
        · dsimp only
          rw [hnx, List.flatten_append, show [ci y].flatten = ci y from by simp]
          exact (hw.perm (pm3 ..)).less (by repeat (first | exact Less.nil | refine Less.keep ?_ | refine Less.dropR ?_ | refine Less.dropW (Nat.le_refl _) ?_))
  · have e : i = m := by omega
    subst e
    repeat (first | refine inb_hit ?_ | refine pthen_exit ?_ | refine T_exit ?_)
    exact ret0n rfl (fun w' hw => ⟨a1, c1, css, D, rfl, hD, hw.less (by repeat (first | exact Less.nil | refine Less.keep ?_ | refine Less.dropR ?_))⟩)
end Go.Proofs.Ytnefhhoijonnaaa
