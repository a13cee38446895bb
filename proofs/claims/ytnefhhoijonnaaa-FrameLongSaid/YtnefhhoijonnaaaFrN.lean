/-
  Frames: how a kind's own parts are read. Conditions: each theorem's own.
-/
import Derived.Test.YtnefhhoijonnaaaFrM
namespace Go.Proofs.Ytnefhhoijonnaaa
open Go Go.RowKit
set_option linter.unusedVariables false

abbrev fO (H : Hd) (s : Fs) : Obj := .cells ⟨frC .u8 H s⟩ 26 (0, 0)
/-- What the methods that read are given. -/
structure GetP (w : World) (bf b : Nat) (A : Option Addr) (N C : Nat) (all : List Int) (H : Hd) (s : Fs) (q : St) : Prop where
  f : w.heap[bf]? = some (fO H s)
  i : inP b A N C q w
  a : Ints .u8 w A N C all
  ne : bf ≠ b
  ap : ∀ b' off, A = some ⟨b', off, none⟩ → b' ≠ b
  apf : ∀ b' off, A = some ⟨b', off, none⟩ → b' ≠ bf
  n : N ≤ 1073741824
theorem GetP.start {w : World} {bf b : Nat} {A : Option Addr} {N C : Nat} {all : List Int} {H : Hd} {s : Fs} {q : St} (g : GetP w bf b A N C all H s q) : ∃ F : Nat → Prop, Hp w w [.blk bf (fO H s) true, inE b A N C q, .rep (fun w => (bP all).at_ w F (.slice A N C)) F false] := by
  obtain ⟨F, hF, h⟩ := Hp.start1V (p := bP all) (A := fun k => k ≠ b ∧ k ≠ bf) (L := [.blk bf (fO H s) true, inE b A N C q]) (fun e he => by
    simp only [List.mem_cons, List.not_mem_nil, or_false] at he
    rcases he with rfl | rfl
    · exact ⟨rfl, g.f, fun k hk hn => hn.2 (Option.some.inj hk).symm⟩
    · exact ⟨rfl, inP.holds g.i, fun k hk hn => hn.1 hk⟩) (List.pairwise_cons.2 ⟨fun e he _ k hk hk' => by
    rw [List.mem_singleton] at he
    subst he
    have h1 : bf = k := Option.some.inj hk
    have h2 : k = b := hk'
    exact g.ne (h1.trans h2), List.pairwise_singleton _ _⟩) (SlR.val (.of_ints g.a fun b' off hn e => ⟨g.ap b' off e, g.apf b' off e⟩))
  exact ⟨F, h⟩
def hBa (H : Hd) (x : Int) : Hd := ⟨H.kd, H.ag, H.ep, H.inc, x, H.cu, H.li⟩
set_option maxHeartbeats 1000000 in
theorem getBase_t {w : World} {bf b : Nat} {A : Option Addr} {N C : Nat} {all : List Int} {H : Hd} {s : Fs} {q : St} (g : GetP w bf b A N C all H s q) : Calls Try.prog 89 #[.pointer (some ⟨bf, 0, none⟩), .pointer (some ⟨b, 0, none⟩)] w fun e w' => e = .returned (.tuple #[]) ∧ Hp w w' [.blk bf (fO (hBa H (pN all q).2) s) true, inE b A N C (pN all q).1] := by
  obtain ⟨F, hst⟩ := g.start
  refine enter2 Try.func89 rfl rfl hst ?_
  repeat (first | refine S_pure tabOk rfl ?_ | refine T_region_any ?_)
  refine S_tin 1 rfl Try.call63 rfl (fun w1 h1 h => num_t h (bP_ints (Vp.fact0 (p := bP all) h1 2 rfl)) g.ap g.n) rfl ?_
  repeat (first | refine S_nil ?_ | refine S_pure tabOk rfl ?_ | refine S_store tabOk 0 rfl rfl rfl rfl rfl rfl ?_)
  exact ret0n rfl (fun w' hw => ⟨rfl, hw.less (by repeat (first | exact Less.nil | refine Less.keep ?_ | refine Less.dropR ?_))⟩)
def hGr (H : Hd) (x y z : Int) : Hd := ⟨H.kd, H.ag, H.ep, x, H.ba, y, z⟩
/-- The three numbers ahead of the runs. -/
def p3 (all : List Int) (q : St) : St := (pN all (pN all (pN all q).1).1).1
structure GgI where
  i : Nat
  a : Option Addr
  c : Nat
set_option maxHeartbeats 4000000 in
theorem getGrant_t {w : World} {bf b : Nat} {A : Option Addr} {N C : Nat} {all : List Int} {H : Hd} {q : St} {ia : Option Addr} {im ic : Nat} (g : GetP w bf b A N C all H ⟨none, 0, 0, ia, im, ic⟩ q) : Calls Try.prog 86 #[.pointer (some ⟨bf, 0, none⟩), .pointer (some ⟨b, 0, none⟩)] w fun e w' => ∃ a c, e = .returned (.tuple #[]) ∧
    Hp w w' [.blk bf (fO (hGr H (pN all q).2 (pN all (pN all q).1).2 (pN all (pN all (pN all q).1).1).2) ⟨a, (pF all 32 (p3 all q)).2.toNat, c, ia, im, ic⟩) true, inE b A N C (pR all (pF all 32 (p3 all q)).1 (pF all 32 (p3 all q)).2.toNat).1, .row w.heap.size (.slice a (pF all 32 (p3 all q)).2.toNat c) 102 2 (pF all 32 (p3 all q)).2.toNat (cellsR (pR all (pF all 32 (p3 all q)).1 (pF all 32 (p3 all q)).2.toNat).2)] := by
  obtain ⟨F, hst⟩ := g.start
  refine enter2 Try.func86 rfl rfl hst ?_
  repeat (first | refine T_seq ?_ | refine T_region ?_ | refine S_pure tabOk rfl ?_)
  refine S_tin 1 rfl Try.call63 rfl (fun w1 h1 h => num_t h (bP_ints (Vp.fact0 (p := bP all) h1 2 rfl)) g.ap g.n) rfl ?_
  repeat (first | refine S_pure tabOk rfl ?_)
  refine S_tin 1 rfl Try.call63 rfl (fun w1 h1 h => num_t h (bP_ints (Vp.fact0 (p := bP all) h1 2 rfl)) g.ap g.n) rfl ?_
  repeat (first | refine S_pure tabOk rfl ?_)
  refine S_tin 1 rfl Try.call63 rfl (fun w1 h1 h => num_t h (bP_ints (Vp.fact0 (p := bP all) h1 2 rfl)) g.ap g.n) rfl ?_
  repeat (first | refine T_seq ?_ | refine T_region ?_ | refine S_nil ?_ | refine S_pure tabOk rfl ?_ | refine S_store tabOk 0 rfl rfl rfl rfl rfl rfl ?_)
  refine S_tin 1 rfl Try.call62 rfl (fun w1 h1 h => fewIn_t (by decide) h (bP_ints (Vp.fact0 (p := bP all) h1 2 rfl)) g.ap g.n) rfl ?_
  repeat (first | refine T_block ?_ | refine S_nil ?_ | refine S_pure tabOk rfl ?_)
  obtain ⟨q0, hq0⟩ : ∃ x, x = p3 all q := ⟨_, rfl⟩
  rw [show (pN all (pN all (pN all q).1).1).1 = q0 from hq0.symm] at *
  rw [← hq0]
  have hfb := pF_bd g.a.fits (most := 32) (by decide) q0
  obtain ⟨m, hm⟩ : ∃ m : Nat, (pF all 32 q0).2 = (m : Int) := ⟨(pF all 32 q0).2.toNat, by omega⟩
  have hm32 : m ≤ 32 := by omega
  obtain ⟨q1, hq1⟩ : ∃ x, x = (pF all 32 q0).1 := ⟨_, rfl⟩
  rw [hm, ← hq1, Int.toNat_natCast]
  obtain ⟨G, hG⟩ : ∃ G, G = hGr H (pN all q).2 (pN all (pN all q).1).2 (pN all (pN all (pN all q).1).1).2 := ⟨_, rfl⟩
  rw [← hG]
  refine T_loop (ι := GgI) (fun i => [(0, .pointer (some ⟨bf, 0, none⟩)), (1, .pointer (some ⟨b, 0, none⟩)), (20, .int .i64 (m : Int)), (21, .int .i64 (i.i : Int))])
    (fun i => [.blk bf (fO G ⟨i.a, i.i, i.c, ia, im, ic⟩) true, inE b A N C (pR all q1 i.i).1, .row w.heap.size (.slice i.a i.i i.c) 102 2 i.i (cellsR (pR all q1 i.i).2), .rep (fun w => (bP all).at_ w F (.slice A N C)) F false])
    (fun i => i.i ≤ m) (fun i => m - i.i) ⟨0, none, 0⟩ (Nat.zero_le _) (by repeat (first | exact Sub.nil | refine Sub.cons rfl ?_)) (fun w' hw => by
      rw [hG]
      exact (hw.nilRow 102 2).perm (by repeat (first | exact List.Perm.refl _ | refine (List.Perm.swap _ _ _).trans (List.Perm.cons _ ?_)))) ?_
  rintro ⟨i, a1, c1⟩ hi
  dsimp only at hi ⊢
  repeat (first | refine T_seq ?_ | refine T_region ?_ | refine S_nil ?_ | refine S_pure tabOk rfl ?_)
  refine T_cond_dec rfl (fun h => ?_) (fun h => ?_)
  · obtain ⟨σ, hσ⟩ : ∃ σ, σ = (pR all q1 i).1 := ⟨_, rfl⟩
    obtain ⟨rl, hrl⟩ : ∃ rl, rl = (pR all q1 i).2 := ⟨_, rfl⟩
    have hnx : pR all q1 (i + 1) = ((pRun all σ).1, rl ++ [(pRun all σ).2]) := by rw [hσ, hrl]; rfl
    rw [← hσ, ← hrl]
    have hN1 := pN_fit g.a.fits σ
    have hN2 := pN_fit g.a.fits (pN all σ).1
    obtain ⟨x1, hx1⟩ : ∃ x, x = pN all σ := ⟨_, rfl⟩
    obtain ⟨x2, hx2⟩ : ∃ x, x = pN all x1.1 := ⟨_, rfl⟩
    have hpr : pRun all σ = (x2.1, (x1.2, x2.2)) := by rw [hx2, hx1]; rfl
    repeat (first | refine T_seq ?_ | refine T_block ?_ | refine pthen_normal ?_ | refine T_skip ?_)
    let lst : Bool → Bool → Bool → Bool → Bool → Value → Value → OL := fun l6 l8 l10 l11 l14 x10 x11 =>
      .blk bf (.cells ⟨[.int .u8 G.kd, .int .i64 G.ag, .int .u64 G.ep, .int .u64 G.inc, .int .u64 G.ba, .int .u64 G.cu, .int .u64 G.li, cond l14 x11 (.slice a1 i c1), .slice ia im ic]⟩ 26 (0, 0)) true :: inE b A N C (cond l8 x2.1 (cond l6 x1.1 σ)) :: .row w.heap.size (cond l11 x11 (.slice a1 i c1)) 102 2 (cond l11 (i + 1) i) (cond l11 (cellsR rl ++ encR (x1.2, x2.2)) (cellsR rl)) :: .rep (fun w => (bP all).at_ w F (.slice A N C)) F false :: cond l10 [.row w.heap.size x10 102 2 1 (encR (x1.2, x2.2))] []
    refine T_asThen ?_
    refine T_drawF (γ := Unit) (by kernel_rfl) (by kernel_rfl) () (fun L f => lst (L 6) (L 8) (L 10) (L 11) (L 14) (f 10).1 (f 11).1) rfl [some (.pointer (some ⟨bf, 0, none⟩)), some (.pointer (some ⟨bf, 0, none⟩)), some (.pointer (some ⟨bf, 0, none⟩)), some (.pointer (some ⟨bf, 7, none⟩)), some (.slice a1 i c1), some (.pointer (some ⟨b, 0, none⟩)), some (.int .u64 x1.2), some (.pointer (some ⟨b, 0, none⟩)), some (.int .u64 x2.2), some (.agg ⟨encR (x1.2, x2.2)⟩), none, none, some (.pointer (some ⟨bf, 0, none⟩)), some (.pointer (some ⟨bf, 7, none⟩)), none] ?_ ?_
    · refine ⟨?_, ?_, ?_, ?_, ?_, ?_, ?_, ?_, ?_, ?_, ?_, ?_, ?_, ?_, ?_, trivial⟩
      · exact fun L f hc hl hp => OpA.told () rfl (D_pure tabOk rfl D_last) rfl
      · exact fun L f hc hl hp => OpA.told () rfl (D_pure tabOk rfl D_last) rfl
      · exact fun L f hc hl hp => OpA.told () rfl (D_pure tabOk rfl D_last) rfl
      · exact fun L f hc hl hp => OpA.told () rfl (D_pure tabOk rfl D_last) rfl
      · intro L f hc hl hp
        have h14 := closed_no hc (j := 14) rfl ⟨4, .phase⟩ (by simp) rfl hl
        show OpA _ _ _ _ (lst (L 6) (L 8) (L 10) (L 11) (L 14) (f 10).1 (f 11).1) (fun y => lst (L 6) (L 8) (L 10) (L 11) (L 14) (f 10).1 (f 11).1) _ _ _
        rw [h14]
        exact OpA.told () rfl (D_load tabOk 0 rfl rfl rfl D_last) rfl
      · exact fun L f hc hl hp => OpA.told () rfl (D_pure tabOk rfl D_last) rfl
      · intro L f hc hl hp
        have h9 := closed_no hc (j := 9) rfl ⟨6, .data⟩ (by simp) rfl hl
        have h10 := closed_no hc (j := 10) rfl ⟨9, .data⟩ (by simp) rfl h9
        have h11 := closed_no hc (j := 11) rfl ⟨10, .data⟩ (by simp) rfl h10
        have h14 := closed_no hc (j := 14) rfl ⟨11, .data⟩ (by simp) rfl h11
        have h8 := closed_no hc (j := 8) rfl ⟨6, .chain⟩ (by simp) rfl hl
        show OpA _ _ _ _ (lst (L 6) (L 8) (L 10) (L 11) (L 14) (f 10).1 (f 11).1) (fun y => lst true (L 8) (L 10) (L 11) (L 14) (f 10).1 (f 11).1) _ _ _
        rw [hl, h8, h10, h11, h14]
        refine OpA.ofS (l := [(28, .pointer (some ⟨b, 0, none⟩))]) rfl (by decide) (.cons rfl rfl .nil) ?_
        refine S_tin 1 (s' := x1.1) (v := .int .u64 x1.2) rfl Try.call63 rfl (fun w1 h1 h => by rw [hx1]; exact num_t h (bP_ints (Vp.fact0 (p := bP all) h1 3 rfl)) g.ap g.n) rfl ?_
        refine S_nil ?_
        exact ⟨_, (), rfl, (fun u h => by cases h; rfl), fun w hw => hw⟩
      · exact fun L f hc hl hp => OpA.told () rfl (D_pure tabOk rfl D_last) rfl
      · intro L f hc hl hp
        have h6 : L 6 = true := hp ⟨6, .chain⟩ (by simp) rfl
        have h9 := closed_no hc (j := 9) rfl ⟨8, .data⟩ (by simp) rfl hl
        have h10 := closed_no hc (j := 10) rfl ⟨9, .data⟩ (by simp) rfl h9
        have h11 := closed_no hc (j := 11) rfl ⟨10, .data⟩ (by simp) rfl h10
        have h14 := closed_no hc (j := 14) rfl ⟨11, .data⟩ (by simp) rfl h11
        show OpA _ _ _ _ (lst (L 6) (L 8) (L 10) (L 11) (L 14) (f 10).1 (f 11).1) (fun y => lst (L 6) true (L 10) (L 11) (L 14) (f 10).1 (f 11).1) _ _ _
        rw [hl, h6, h10, h11, h14]
        refine OpA.ofS (l := [(30, .pointer (some ⟨b, 0, none⟩))]) rfl (by decide) (.cons rfl rfl .nil) ?_
        refine S_tin 1 (s' := x2.1) (v := .int .u64 x2.2) rfl Try.call63 rfl (fun w1 h1 h => by rw [hx2]; exact num_t h (bP_ints (Vp.fact0 (p := bP all) h1 3 rfl)) g.ap g.n) rfl ?_
        refine S_nil ?_
        exact ⟨_, (), rfl, (fun u h => by cases h; rfl), fun w hw => hw⟩
      · exact fun L f hc hl hp => OpA.told () rfl (D_q (Q_build tabOk rfl rfl rfl rfl rfl rfl rfl) D_last) rfl
      · intro L f hc hl hp
        have h9 : L 9 = true := hp ⟨9, .data⟩ (by simp) rfl
        have h6 : L 6 = true := hc 9 _ rfl h9 ⟨6, .data⟩ (by simp) rfl
        have h8 : L 8 = true := hc 9 _ rfl h9 ⟨8, .data⟩ (by simp) rfl
        have h11 := closed_no hc (j := 11) rfl ⟨10, .data⟩ (by simp) rfl hl
        have h14 := closed_no hc (j := 14) rfl ⟨11, .data⟩ (by simp) rfl h11
        show OpA _ _ _ _ (lst (L 6) (L 8) (L 10) (L 11) (L 14) (f 10).1 (f 11).1) (fun y => lst (L 6) (L 8) true (L 11) (L 14) y.1 (f 11).1) _ _ _
        rw [hl, h6, h8, h11, h14]
        exact OpA.bsliceR tabOk rfl rfl rfl rfl rfl rfl rfl rfl rfl rfl rfl rfl rfl rfl (fun w1 v hw1 => ⟨(), hw1.perm (by repeat (first | exact List.Perm.refl _ | refine (List.Perm.swap _ _ _).trans (List.Perm.cons _ ?_)))⟩)
      · intro L f hc hl hp
        have h10 : L 10 = true := hp ⟨10, .data⟩ (by simp) rfl
        have h9 : L 9 = true := hc 10 _ rfl h10 ⟨9, .data⟩ (by simp) rfl
        have h6 : L 6 = true := hc 9 _ rfl h9 ⟨6, .data⟩ (by simp) rfl
        have h8 : L 8 = true := hc 9 _ rfl h9 ⟨8, .data⟩ (by simp) rfl
        have h14 := closed_no hc (j := 14) rfl ⟨11, .data⟩ (by simp) rfl hl
        show OpA _ _ _ _ (lst (L 6) (L 8) (L 10) (L 11) (L 14) (f 10).1 (f 11).1) (fun y => lst (L 6) (L 8) (L 10) true (L 14) (f 10).1 y.1) _ _ _
        rw [hl, h6, h8, h10, h14]
        refine OpA.pre (X := ∃ A C, (f 10).1 = .slice A 1 C) (fun w hw => ?_) (fun d h => by cases h; decide) ?_
        · obtain ⟨A, C, e2, _⟩ := hw.rowForm 4 rfl
          exact ⟨A, C, e2⟩
        · rintro ⟨A', C', e2⟩
          rw [e2]
          refine OpA.ofS (l := [(27, .slice a1 i c1), (33, .slice A' 1 C')]) rfl (by decide) (.cons rfl rfl (.cons rfl (by show some (Ent.ex (f 10).1) = _; rw [e2]) .nil)) ?_
          refine S_append (ty := 0) tabOk 2 (m := i) (v := .slice a1 i c1) (xs := cellsR rl) (news := encR (x1.2, x2.2)) rfl rfl rfl rfl rfl rfl rfl rfl rfl (by decide) (fun w' hw => Sl.of_own (hw.own _ (getE_mem (i := 4) rfl))) (by intro u hu; simp only [encR, List.mem_cons, List.not_mem_nil, or_false] at hu; rcases hu with rfl | rfl <;> rfl) (by simp only [maxLen]; omega) (by show (_ + _) * 16 ≤ _; omega) rfl (fun AS CS hcS hdS => ⟨_, rfl, ?_⟩)
          refine S_nil ?_
          exact ⟨_, (), rfl, (fun u h => by cases h), fun w hw => hw⟩
      · exact fun L f hc hl hp => OpA.told () rfl (D_pure tabOk rfl D_last) rfl
      · exact fun L f hc hl hp => OpA.told () rfl (D_pure tabOk rfl D_last) rfl
      · intro L f hc hl hp
        have h11 : L 11 = true := hp ⟨11, .data⟩ (by simp) rfl
        have h10 : L 10 = true := hc 11 _ rfl h11 ⟨10, .data⟩ (by simp) rfl
        have h9 : L 9 = true := hc 10 _ rfl h10 ⟨9, .data⟩ (by simp) rfl
        have h6 : L 6 = true := hc 9 _ rfl h9 ⟨6, .data⟩ (by simp) rfl
        have h8 : L 8 = true := hc 9 _ rfl h9 ⟨8, .data⟩ (by simp) rfl
        show OpA _ _ _ _ (lst (L 6) (L 8) (L 10) (L 11) (L 14) (f 10).1 (f 11).1) (fun y => lst (L 6) (L 8) (L 10) (L 11) true (f 10).1 (f 11).1) _ _ _
        rw [hl, h6, h8, h10, h11]
        refine OpA.pre (X := ∃ A C, (f 11).1 = .slice A (i + 1) C) (fun w hw => ?_) (fun d h => by cases h) ?_
        · obtain ⟨A, C, e2, _⟩ := hw.rowForm 2 rfl
          exact ⟨A, C, e2⟩
        · rintro ⟨A', C', e2⟩
          refine OpA.swap (dl' := [(36, .ex (.pointer (some ⟨bf, 7, none⟩))), (34, .ex (f 11).1)]) (List.forall_mem_cons.2 ⟨rfl, List.forall_mem_cons.2 ⟨rfl, fun _ h => nomatch h⟩⟩) ?_
          generalize f 11 = x11 at *
          obtain ⟨x11, g11⟩ := x11
          dsimp only at e2
          subst e2
          exact OpS.toF () (fun u h => by cases h) (OpS.store tabOk 0 rfl rfl (fun u h => by rw [List.mem_singleton] at h; subst h; rfl) rfl rfl rfl)
    · intro L f w5 hL hw
      change Hp _ _ (lst (L 6) (L 8) (L 10) (L 11) (L 14) (f 10).1 (f 11).1) at hw
      rw [hL 6 (by decide), hL 8 (by decide), hL 10 (by decide), hL 11 (by decide), hL 14 (by decide)] at hw
      obtain ⟨A', C', e2, _⟩ := hw.rowForm 2 rfl
      generalize f 11 = x11 at hw e2 ⊢
      obtain ⟨x11, g11⟩ := x11
      have e3 : x11 = .slice A' (i + 1) C' := e2
      subst e3
      have hce : cellsR rl ++ encR (x1.2, x2.2) = cellsR (rl ++ [(x1.2, x2.2)]) := by rw [cellsR_append]; congr 1
      refine ⟨[(0, .pointer (some ⟨bf, 0, none⟩)), (1, .pointer (some ⟨b, 0, none⟩)), (20, .int .i64 (m : Int)), (21, .int .i64 (i : Int))], [.blk bf (fO G ⟨A', i + 1, C', ia, im, ic⟩) true, inE b A N C x2.1, .row w.heap.size (.slice A' (i + 1) C') 102 2 (i + 1) (cellsR rl ++ encR (x1.2, x2.2)), .rep (fun w => (bP all).at_ w F (.slice A N C)) F false, .row w.heap.size (f 10).1 102 2 1 (encR (x1.2, x2.2))], ?_, hw, ?_⟩
      · repeat (first | exact SubD.nil | refine SubD.cons rfl ?_)
      · repeat (first | refine T_region ?_ | refine S_nil ?_ | refine pthen_normal ?_ | refine inb_normal ?_ | refine S_i64 tabOk rfl (by omega) ?_ | refine S_pure tabOk rfl ?_)
        refine ⟨⟨i + 1, A', C'⟩, by dsimp only; omega, by repeat (first | exact Sub.nil | refine Sub.cons rfl ?_), fun w' hw => ?_, by dsimp only; omega⟩
        dsimp only
        rw [hnx, hpr, ← hce]
        exact hw.less (by repeat (first | exact Less.nil | refine Less.keep ?_ | refine Less.dropW (Nat.le_refl _) ?_))
  · have e : i = m := by omega
    subst e
    repeat (first | refine inb_hit ?_ | refine pthen_exit ?_ | refine T_exit ?_)
    trace_state
    exact ret0n rfl (fun w' hw => ⟨a1, c1, rfl, hw.less (by repeat (first | exact Less.nil | refine Less.keep ?_ | refine Less.dropR ?_))⟩)
end Go.Proofs.Ytnefhhoijonnaaa
