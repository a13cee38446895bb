/-
  The law QueueKeeps: its walk. Conditions: each theorem's own.
-/
import Derived.Test.YteogkadjambmkaaQuV
import Derived.Test.YteogkadjambmkaaQuW
namespace Go.Proofs.Yteogkadjambmkaa
open Go Go.RowKit
set_option linter.unusedVariables false

theorem spsame_ok (k1 k2 : Int) (a1 a2 : Option Addr) (n1 c1 n2 c2 : Nat) (xs ys : List Int) (w : World) (h1 : Ints .u8 w a1 n1 c1 xs) (h2 : Ints .u8 w a2 n2 c2 ys) :
    Calls Try.prog 32 #[.agg #[.int .i64 k1, .slice a1 n1 c1], .agg #[.int .i64 k2, .slice a2 n2 c2]] w fun e w' => e = .returned (.bool (decide (k1 = k2 ∧ xs = ys))) ∧ Below w.heap.size w w' := by
  refine enter2 Try.func32 rfl rfl (Hp.refl w) ?_
  repeat (first | refine T_seq ?_ | refine T_region ?_)
  refine S_new tabOk rfl (fun b hb => ?_)
  refine S_new tabOk rfl (fun b2 hb2 => ?_)
  repeat (first | refine T_seq ?_ | refine T_region ?_ | refine S_nil ?_ | refine S_pure tabOk rfl ?_ | refine S_load tabOk 0 rfl rfl rfl ?_ | refine S_load tabOk 1 rfl rfl rfl ?_)
  refine S_split rfl rfl (fun h => ?_) (fun h => ?_)
  · repeat (first | refine S_pure tabOk rfl ?_ | refine S_load tabOk 0 rfl rfl rfl ?_ | refine S_load tabOk 1 rfl rfl rfl ?_)
    refine S_callq rfl Try.call56 (fun w1 hw1 => bequal_ok a1 a2 n1 c1 n2 c2 xs ys w1 (h1.ext (hw1.below (new_cons hb2 (new_cons hb new_nil)))) (h2.ext (hw1.below (new_cons hb2 (new_cons hb new_nil))))) ?_
    repeat (first | refine S_nil ?_ | refine T_ret ?_ | refine S_pure tabOk rfl ?_)
    exact ret1 rfl rfl (fun w' hw => ⟨retb (dec_eq ⟨fun hh => ⟨h, hh⟩, fun hh => hh.2⟩), hw.below (new_cons hb2 (new_cons hb new_nil))⟩)
  · repeat (first | refine S_nil ?_ | refine T_ret ?_ | refine S_pure tabOk rfl ?_ | refine S_pass rfl rfl rfl ?_)
    exact ret1 rfl rfl (fun w' hw => ⟨retb (decide_eq_false (fun hh => h hh.1)).symm, hw.below (new_cons hb2 (new_cons hb new_nil))⟩)
theorem rfsame_ok (k1 k2 : Int) (a1 a2 : Option Addr) (n1 c1 n2 c2 : Nat) (xs ys : List Int) (w : World) (h1 : Ints .u8 w a1 n1 c1 xs) (h2 : Ints .u8 w a2 n2 c2 ys) :
    Calls Try.prog 59 #[.agg #[.int .i64 k1, .slice a1 n1 c1], .agg #[.int .i64 k2, .slice a2 n2 c2]] w fun e w' => e = .returned (.bool (decide (k1 = k2 ∧ xs = ys))) ∧ Below w.heap.size w w' := by
  refine enter2 Try.func59 rfl rfl (Hp.refl w) ?_
  repeat (first | refine T_seq ?_ | refine T_region ?_)
  refine S_new tabOk rfl (fun b hb => ?_)
  refine S_new tabOk rfl (fun b2 hb2 => ?_)
  repeat (first | refine T_seq ?_ | refine T_region ?_ | refine S_nil ?_ | refine S_pure tabOk rfl ?_ | refine S_load tabOk 0 rfl rfl rfl ?_ | refine S_load tabOk 1 rfl rfl rfl ?_)
  refine S_split rfl rfl (fun h => ?_) (fun h => ?_)
  · repeat (first | refine S_pure tabOk rfl ?_ | refine S_load tabOk 0 rfl rfl rfl ?_ | refine S_load tabOk 1 rfl rfl rfl ?_)
    refine S_callq rfl Try.call72 (fun w1 hw1 => same_ok a1 a2 n1 c1 n2 c2 xs ys w1 (h1.ext (hw1.below (new_cons hb2 (new_cons hb new_nil)))) (h2.ext (hw1.below (new_cons hb2 (new_cons hb new_nil))))) ?_
    repeat (first | refine S_nil ?_ | refine T_ret ?_ | refine S_pure tabOk rfl ?_)
    exact ret1 rfl rfl (fun w' hw => ⟨retb (dec_eq ⟨fun hh => ⟨h, hh⟩, fun hh => hh.2⟩), hw.below (new_cons hb2 (new_cons hb new_nil))⟩)
  · repeat (first | refine S_nil ?_ | refine T_ret ?_ | refine S_pure tabOk rfl ?_ | refine S_pass rfl rfl rfl ?_)
    exact ret1 rfl rfl (fun w' hw => ⟨retb (decide_eq_false (fun hh => h hh.1)).symm, hw.below (new_cons hb2 (new_cons hb new_nil))⟩)


/-- numbers 1, 2, .. -/
def LK (S : List (Int × List Int)) : List QE := S.zipIdx.map fun p => ((p.2 : Int) + 1, p.1)
theorem LK_len (S : List (Int × List Int)) : (LK S).length = S.length := by simp [LK]
theorem LK_snoc (S : List (Int × List Int)) (x : Int × List Int) : LK (S ++ [x]) = LK S ++ [((S.length : Int) + 1, x)] := by
  unfold LK
  rw [List.zipIdx_append, List.map_append]
  simp
theorem LK_at {S : List (Int × List Int)} {j : Nat} {x : Int × List Int} (h : S[j]? = some x) : (LK S)[j]? = some ((j : Int) + 1, x) := by
  unfold LK
  rw [List.getElem?_map, List.getElem?_zipIdx, h]
  simp
theorem and7 (k : Int) : 0 ≤ bits .and .i64 k 7 ∧ bits .and .i64 k 7 ≤ 7 := by
  have e : bits .and .i64 k 7 = IntKind.i64.wrap ((BitVec.ofInt 64 k &&& BitVec.ofInt 64 7).toNat : Int) := rfl
  have h1 : (BitVec.ofInt 64 k &&& BitVec.ofInt 64 7).toNat ≤ 7 := by
    rw [BitVec.toNat_and]
    exact Nat.and_le_right
  rw [e, IntKind.wrap_i64]
  omega
/-- of a row of our own one cell is set -/
theorem row_set {w0 w : World} {base n c g : Nat} {E : TypeId} {xs : List Value} {ol : OL} {j : Nat} {x : Value} {junk : List Value} (h : Hp w0 w (.blk g (.cells ⟨(xs ++ junk).set j x⟩ E (0, 0)) true :: ol)) (hb : base ≤ g) (hn : xs.length = n) (hj : j < n) (hc : (xs ++ junk).length = c) (hm : c ≤ maxLen) (hnc : n ≤ c) :
    Hp w0 w (.row base (.slice (some ⟨g, 0, none⟩) n c) E 1 n (xs.set j x) :: ol) := by
  have h1 := Hp.closeRow (pre := []) (n := n) (c := c) (sz := 1) (base := base) h hb hnc hm (by rw [List.length_set, hc, Nat.mul_one])
  have e1 : ((xs ++ junk).set j x).take (n * 1) = xs.set j x := by
    rw [Nat.mul_one, List.set_append_left _ _ (by omega), ← hn]
    rw [show xs.length = (xs.set j x).length from (List.length_set ..).symm, List.take_left]
  rw [e1] at h1
  exact h1
theorem qGot_mem {L : List QE} (hn : (L.map (·.1)).Nodup) {e : QE} (he : e ∈ L) : qGot L e.1 = (e.2.1, e.2.2, true) := by
  obtain ⟨i, hi⟩ := List.mem_iff_getElem?.1 he
  unfold qGot
  rw [qFind_at hn hi]
structure KsI where
  S : List (Int × List Int)
  css : List (List Value)
  al : Option Addr
  cl : Nat
  F : Nat → Prop
  G : Nat → Prop
structure KsOk (ws : List Int) (W : World) (i : KsI) : Prop where
  ok : QOk 1073741824 (i.S.length : Int) ws (LK i.S)
  cl : ∀ x ∈ i.S, x.2.length ≤ 60 ∧ ∀ z ∈ x.2, Fits .u8 z
  F : ∀ k, i.F k → W.heap.size ≤ k
  G : ∀ k, i.G k → W.heap.size ≤ k
abbrev ws8 : List Int := [1, 2, 3, 4, 5, 6, 7, 8]
theorem LK_sum {S : List (Int × List Int)} (h : ∀ x ∈ S, x.2.length ≤ 60) : qSum (LK S) ≤ (S.length : Int) * 76 := by
  have h1 : ∀ x ∈ LK S, sizeQ x ≤ 76 := fun x hx => by
    obtain ⟨p, hp, rfl⟩ := List.mem_map.1 hx
    have := h p.1 (List.fst_mem_of_mem_zipIdx hp)
    unfold sizeQ
    show ((p.1.2.length : Int)) + 16 ≤ 76
    omega
  have h2 : ∀ l : List QE, (∀ x ∈ l, sizeQ x ≤ 76) → qSum l ≤ (l.length : Int) * 76 := fun l => by
    induction l with
    | nil => intro _; simp [qSum]
    | cons y l ih =>
      intro h
      have h3 := h y List.mem_cons_self
      have h4 := ih fun x hx => h x (List.mem_cons_of_mem _ hx)
      unfold qSum at h4 ⊢
      rw [List.map_cons, List.sum_cons, List.length_cons]
      omega
  have := h2 _ h1
  rw [LK_len] at this
  exact this
set_option maxHeartbeats 8000000 in
theorem queueKeeps_walk (v1 : Value) (ss : List (Int × List Int)) (by_ : Int) (W : World) (h1 : (Rslice Rspan).val W TT v1 ss) (hby : Fits .u8 by_) :
    Calls Try.prog 9 #[v1, .int .u8 by_] W fun e w' => e = .returned (.bool true) ∧ Below W.heap.size W w' := by
  obtain ⟨a2, n2, c2, rfl, hx2⟩ := SlR.form h1
  obtain rfl := hx2.len
  have hmx2 := hx2.max
  have hcp2 := hx2.cap
  have hby' := fits_u8 hby
  simp only [maxLen] at hmx2
  have hrw : rightW ws8 := by decide
  refine enter2 Try.func9 rfl rfl (Hp.refl W) ?_
  repeat (first | refine T_seq ?_ | refine T_region ?_ | refine S_nil ?_ | refine S_pure tabOk rfl ?_)
  refine S_callq (v := .bool true) rfl Try.call24 (fun w1 h1 => awake9_ok w1) ?_
  repeat (first | refine S_nil ?_ | refine S_pure tabOk rfl ?_)
  refine T_cond_f rfl ?_
  repeat (first | refine T_seq ?_ | refine T_region ?_ | refine pthen_normal ?_ | refine T_skip ?_)
  refine S_bslice tabOk rfl rfl rfl rfl rfl rfl rfl rfl rfl rfl rfl rfl (fun b20 hb20 => ?_)
  refine S_callN rfl Try.call25 (fun w1 h1 => (q_newY (cap := 1073741824) (ws := ws8) (slr_blk (zs := ws8) (h1.own _ (getE_mem (i := 0) rfl)) (by decide) (fun z hz => mk_i64 (by have := hrw.2.2 z hz; omega))).ints (by decide)).mono fun e w' ⟨qb, F, e1, hF, h2⟩ => ⟨_, _, F, e1, h2, hF, fun hFn => ?_⟩)
  repeat (first | refine T_seq ?_ | refine T_region ?_ | refine S_nil ?_ | refine S_pure tabOk rfl ?_)
  let O1 : KsI → OL := fun i => [.rep (fun w => (quA qb 1073741824 (i.S.length : Int) ws8 (LK i.S) i.S.length).at_ w i.F (.bool true)) i.F true, .row W.heap.size (.slice i.al i.S.length i.cl) 52 2 i.S.length i.css.flatten, .rep (fun w => (Bod Rspan i.css i.S).at_ w i.G (.bool true)) i.G false]
  refine T_cut (ι := KsI) (fun i => i.S.length ≤ 30 ∧ KsOk ws8 W i) (fun i => [(1, .int .u8 by_), (5, qptr qb), (7, .slice i.al i.S.length i.cl)]) O1 ?_ ?_
  · refine T_block ?_
    refine T_loop (ι := KsI) (fun i => [(1, .int .u8 by_), (5, qptr qb), (7, .slice i.al i.S.length i.cl), (24, .slice a2 ss.length c2), (25, .int .i64 (ss.length : Int)), (26, .int .i64 (i.S.length : Int))]) O1 (fun i => i.S.length ≤ ss.length ∧ i.S.length ≤ 30 ∧ KsOk ws8 W i) (fun i => ss.length - i.S.length) ⟨[], [], none, 0, F, fun _ => False⟩ ⟨Nat.zero_le _, Nat.zero_le _, QOk.nil _ _, fun x hx => (by cases hx), hFn, fun k hk => hk.elim⟩ (by repeat (first | exact Sub.nil | refine Sub.cons rfl ?_)) (fun w' hw => ?_) ?_
    · have h9 := ((hw.less (o' := [.rep (fun w => (quA qb 1073741824 0 ws8 [] 0).at_ w F (.bool true)) F true]) (by repeat (first | exact Less.nil | refine Less.keep ?_ | refine Less.dropB (by first | assumption | omega) ?_))).addN (v := .bool true) (Bod Rspan [] []) (fun w => Bod.nil_)).nilRow 52 2
      exact h9.pm [2, 0, 1] rfl rfl rfl
    rintro ⟨S, css, al, cl, F1, G1⟩ ⟨hi, hi30, hB⟩
    obtain ⟨hok, hcl, hFn1, hGn1⟩ := hB
    dsimp only [O1] at hi hi30 hok hcl hFn1 hGn1 ⊢
    have hLl := LK_len S
    have hLs := LK_sum (fun x hx => (hcl x hx).1)
    repeat (first | refine T_seq ?_ | refine T_region ?_ | refine S_nil ?_ | refine S_pure tabOk rfl ?_)
    refine T_cond_dec rfl (fun hlt => ?_) (fun hge => ?_)
    rotate_left
    · repeat (first | refine pthen_normal ?_ | refine inb_hit ?_ | refine pthen_exit ?_ | refine T_exit ?_)
      exact ⟨⟨S, css, al, cl, F1, G1⟩, ⟨hi30, hok, hcl, hFn1, hGn1⟩, by repeat (first | exact Sub.nil | refine Sub.cons rfl ?_), fun w' hw => hw⟩
    have hi' : S.length < ss.length := by omega
    obtain ⟨ab, off, cs, rfl, hlt2, hat, hcll, hce, _⟩ := hx2.get_ hi'
    obtain ⟨_, _, rfl, ⟨rfl, hk⟩, a0, n0, c0, rfl, hz⟩ := hat
    generalize ss[S.length] = sp at *
    obtain ⟨k, zs⟩ := sp
    obtain rfl := hz.len
    dsimp only at *
    repeat (first | refine T_seq ?_ | refine T_region ?_ | refine T_block ?_ | refine pthen_normal ?_ | refine T_skip ?_ | refine S_pure tabOk rfl ?_)
    refine S_q (Q_idx (sz := 2) tabOk rfl rfl rfl rfl rfl rfl rfl (j := S.length) rfl (by omega)) ?_
    refine S_loadN tabOk (vs := [.int .i64 k, .slice a0 zs.length c0]) rfl rfl rfl (fun w' hw jj u hu => by
      rw [Addr.add_lit]
      exact (World.cell?_of_block (w := W) (a := ⟨ab, off + S.length * 2 + jj, none⟩) ((hw.below (by repeat (first | exact new_nil | refine new_ro ?_ | refine new_rx (by assumption) ?_ | refine newrow hw 1 rfl (Nat.le_refl _) ?_))).block ab hlt2)).trans (hce jj u hu)) ?_
    refine S_new tabOk rfl (fun b9 hb9 => ?_)
    repeat (first | refine T_seq ?_ | refine T_region ?_ | refine S_nil ?_ | refine S_pure tabOk rfl ?_ | refine S_store tabOk 0 rfl rfl rfl rfl rfl rfl ?_)
    refine T_cond_dec rfl (fun h40 => ?_) (fun h40 => ?_)
    · repeat (first | refine pthen_exit ?_ | refine T_exit ?_)
      refine inb_miss rfl ?_
      repeat (first | refine pthen_normal ?_ | refine inb_hit ?_ | refine pthen_exit ?_)
      exact ⟨⟨S, css, al, cl, F1, G1⟩, ⟨hi30, hok, hcl, hFn1, hGn1⟩, by repeat (first | exact Sub.nil | refine Sub.cons rfl ?_), fun w' hw => hw.less (by repeat (first | exact Less.nil | refine Less.keep ?_ | refine Less.dropB (by first | assumption | omega) ?_))⟩
    repeat (first | refine T_seq ?_ | refine T_region ?_ | refine pthen_normal ?_ | refine T_skip ?_ | refine S_load tabOk 0 rfl rfl rfl ?_)
    refine S_call rfl Try.call28 (fun w1 h1 => (few9_ok k a0 zs.length c0 zs w1 (ints_ext hz.ints (h1.below (by repeat (first | exact new_nil | refine new_ro ?_ | refine new_rx (by assumption) ?_ | refine new_cons (by first | assumption | omega) ?_ | refine newrow h1 2 rfl (Nat.le_refl _) ?_))))).mono fun e w' ⟨a3, c3, e1, hb, hr⟩ => ⟨_, _, e1, h1.fresh hb (x := .row W.heap.size (.slice a3 (zs.take 60).length c3) 5 1 (zs.take 60).length ((zs.take 60).map (.int .u8))) (own_rebase hr h1.size) (fun j hj => (World.ownsRow.lt hr j hj).1), ?_⟩)
    have hzf : ∀ z ∈ zs.take 60, Fits .u8 z := fun z hz' => hz.ints.fits z (List.mem_of_mem_take hz')
    have hzl : (zs.take 60).length ≤ 60 := by rw [List.length_take]; omega
    generalize zs.take 60 = zt at *
    repeat (first | refine T_seq ?_ | refine T_region ?_ | refine S_nil ?_ | refine S_pure tabOk rfl ?_ | refine S_load tabOk 1 rfl rfl rfl ?_ | refine S_store tabOk 1 rfl rfl rfl rfl rfl rfl ?_)
    have hk7 := and7 k
    generalize bits .and .i64 k 7 = kk at *
    refine S_call rfl Try.call28 (fun w1 h1 => (few9_ok kk a3 zt.length c3 zt w1 (ints_own (h1.own _ (getE_mem (i := 0) rfl)) hzf)).mono fun e w' ⟨a4, c4, e1, hb, hr⟩ => ⟨_, _, e1, h1.fresh hb (x := .row W.heap.size (.slice a4 (zt.take 60).length c4) 5 1 (zt.take 60).length ((zt.take 60).map (.int .u8))) (own_rebase hr h1.size) (fun j hj => (World.ownsRow.lt hr j hj).1), ?_⟩)
    rw [List.take_of_length_le hzl]
    skip
    refine S_new tabOk rfl (fun b10 hb10 => ?_)
    repeat (first | refine T_seq ?_ | refine T_region ?_ | refine S_nil ?_ | refine S_u64 tabOk rfl (by omega) ?_ | refine S_pure tabOk rfl ?_ | refine S_load tabOk 0 rfl rfl rfl ?_ | refine S_store tabOk 0 rfl rfl rfl rfl rfl rfl ?_)
    have hq : qPut 1073741824 (S.length : Int) ws8 (LK S) ((S.length : Int) + 1) kk zt = (0, (S.length : Int) + 1, LK (S ++ [(kk, zt)])) := by
      rw [LK_snoc]
      unfold qPut
      rw [if_pos (by unfold sright; rw [decide_eq_true (by omega), decide_eq_true (by show kk < 8; omega)]; rfl), if_neg (by omega), if_neg (by omega)]
    refine S_callT 4 rfl Try.call27 rfl (fun w1 g => ?_)
    have hap := (g.pm [1, 4, 0, 2, 3] rfl rfl rfl).apart
    have hA : ∀ j, (Value.slice a4 zt.length c4).ownBlock = some j → ¬ F1 j := fun j hj hf => (List.pairwise_cons.1 hap).1 _ List.mem_cons_self rfl j hj hf
    have hs1 := g.size
    have h9 := q_put (n := (S.length : Int) + 1) (k := kk) (g.own _ (getE_mem (i := 4) rfl)).1 (g.own _ (getE_mem (i := 4) rfl)).2.2 hok (by omega) (by decide) (by omega) (by decide) (by omega) (by omega) (SlR.of_ints (A := fun j => (Value.slice a4 zt.length c4).ownBlock = some j) (ints_own (g.own _ (getE_mem (i := 1) rfl)) hzf) (fun b off h0 e => by rw [e]; rfl)) hA
    rw [hq] at h9
    refine h9.mono fun e w' ⟨he, F', f1, f2, g2⟩ => ⟨_, _, F', he, g2, f1, f2, _, rfl, ?_⟩
    have hFn' : ∀ k, F' k → W.heap.size ≤ k := fun k hk => (f2 k hk).elim (hFn1 k) (fun h => Nat.le_trans hs1 h)
    clear h9 g hA hap
    repeat (first | refine S_nil ?_ | refine S_pure tabOk rfl ?_)
    refine T_cond_f rfl ?_
    repeat (first | refine T_seq ?_ | refine T_region ?_ | refine S_nil ?_ | refine pthen_normal ?_ | refine T_skip ?_ | refine S_pure tabOk rfl ?_ | refine S_load tabOk 0 rfl rfl rfl ?_)
    refine T_asThen ?_
    refine T_cut (ι := List Int) (fun ys => ys.length = zt.length) (fun _ => [(1, .int .u8 by_), (5, qptr qb), (7, .slice al S.length cl), (9, .pointer (some ⟨b9, 0, none⟩)), (24, .slice (some ⟨ab, off, none⟩) ss.length c2), (25, .int .i64 (ss.length : Int)), (26, .int .i64 (S.length : Int))]) (fun ys => [.row W.heap.size (.slice a4 zt.length c4) 5 1 zt.length (ys.map (.int .u8)), .row W.heap.size (.slice a3 zt.length c3) 5 1 zt.length (zt.map (.int .u8)), .blk b9 (.cells ⟨[.int .i64 kk, .slice a3 zt.length c3]⟩ 52 (0, 0)) true, .rep (fun w => (quA qb 1073741824 ((S.length : Int) + 1) ws8 (LK (S ++ [(kk, zt)])) (S.length + 1)).at_ w F' (.bool true)) F' true, .row W.heap.size (.slice al S.length cl) 52 2 S.length css.flatten, .rep (fun w => (Bod Rspan css S).at_ w G1 (.bool true)) G1 false]) ?_ ?_
    · refine T_block ?_
      refine T_loop (ι := Nat × List Int) (fun y => [(1, .int .u8 by_), (5, qptr qb), (7, .slice al S.length cl), (9, .pointer (some ⟨b9, 0, none⟩)), (24, .slice (some ⟨ab, off, none⟩) ss.length c2), (25, .int .i64 (ss.length : Int)), (26, .int .i64 (S.length : Int)), (10, .pointer (some ⟨b10, 0, none⟩)), (50, .int .i64 (zt.length : Int)), (51, .int .i64 (y.1 : Int))]) (fun y => [.row W.heap.size (.slice a4 zt.length c4) 5 1 zt.length (y.2.map (.int .u8)), .blk b10 (.cells ⟨[.int .i64 kk, .slice a4 zt.length c4]⟩ 52 (0, 0)) true, .row W.heap.size (.slice a3 zt.length c3) 5 1 zt.length (zt.map (.int .u8)), .blk b9 (.cells ⟨[.int .i64 kk, .slice a3 zt.length c3]⟩ 52 (0, 0)) true, .rep (fun w => (quA qb 1073741824 ((S.length : Int) + 1) ws8 (LK (S ++ [(kk, zt)])) (S.length + 1)).at_ w F' (.bool true)) F' true, .row W.heap.size (.slice al S.length cl) 52 2 S.length css.flatten, .rep (fun w => (Bod Rspan css S).at_ w G1 (.bool true)) G1 false]) (fun y => y.1 ≤ zt.length ∧ y.2.length = zt.length) (fun y => zt.length - y.1) (0, zt) ⟨Nat.zero_le _, rfl⟩ (by repeat (first | exact Sub.nil | refine Sub.cons rfl ?_)) (fun w' hw => hw.pm [1, 0, 2, 3, 4, 5, 6] rfl rfl rfl) ?_
      rintro ⟨j, ys⟩ ⟨hj, hys⟩
      dsimp only at hj hys ⊢
      repeat (first | refine T_seq ?_ | refine T_region ?_ | refine S_nil ?_ | refine S_pure tabOk rfl ?_)
      refine T_cond_dec rfl (fun hlt9 => ?_) (fun hge9 => ?_)
      rotate_left
      · repeat (first | refine pthen_normal ?_ | refine inb_hit ?_ | refine pthen_exit ?_ | refine T_exit ?_)
        exact ⟨ys, hys, by repeat (first | exact Sub.nil | refine Sub.cons rfl ?_), fun w' hw => hw.less (by repeat (first | exact Less.nil | refine Less.keep ?_ | refine Less.dropB (by first | assumption | omega) ?_))⟩
      obtain ⟨y9, hy9⟩ : ∃ y, ys[j]? = some y := ⟨_, List.getElem?_eq_getElem (by omega)⟩
      refine T_openRow (by omega) (fun g junk hg hgb hmc hxl hjl hcm => ?_)
      subst hg
      rw [Nat.mul_one] at hjl
      repeat (first | refine T_seq ?_ | refine T_region ?_ | refine T_block ?_ | refine S_nil ?_ | refine pthen_normal ?_ | refine T_skip ?_ | refine S_pure tabOk rfl ?_ | refine T_region_any ?_ | refine S_load tabOk 1 rfl rfl rfl ?_)
      refine S_q (Q_idx1 tabOk rfl rfl rfl rfl rfl rfl rfl (j := j) rfl (by omega)) ?_
      refine S_load1 tabOk (v := .int .u8 y9) rfl rfl (fun w' hw => blkc hw (by rw [List.getElem?_append_left (by rw [List.length_map]; omega), List.getElem?_map, hy9]; rfl)) ?_
      repeat (first | refine S_pure tabOk rfl ?_)
      refine S_q (Q_idx1 tabOk rfl rfl rfl rfl rfl rfl rfl (j := j) rfl (by omega)) ?_
      refine S_store_of tabOk 0 (cs' := (ys.map (Value.int .u8) ++ junk).set j (.int .u8 (IntKind.u8.wrap (y9 + by_)))) rfl rfl (fun u hu => by rw [List.mem_singleton] at hu; subst hu; rfl) rfl (by
        rw [Nat.zero_add]
        exact setMany_1 (by rw [List.length_append, List.length_map]; omega)) rfl ?_
      refine S_toX (ι := Unit) (fun _ => True) (fun _ => [.row W.heap.size (.slice (some ⟨g, 0, none⟩) zt.length c4) 5 1 zt.length ((ys.set j (IntKind.u8.wrap (y9 + by_))).map (.int .u8)), .blk b10 (.cells ⟨[.int .i64 kk, .slice (some ⟨g, 0, none⟩) zt.length c4]⟩ 52 (0, 0)) true, .row W.heap.size (.slice a3 zt.length c3) 5 1 zt.length (zt.map (.int .u8)), .blk b9 (.cells ⟨[.int .i64 kk, .slice a3 zt.length c3]⟩ 52 (0, 0)) true, .rep (fun w => (quA qb 1073741824 ((S.length : Int) + 1) ws8 (LK (S ++ [(kk, zt)])) (S.length + 1)).at_ w F' (.bool true)) F' true, .row W.heap.size (.slice al S.length cl) 52 2 S.length css.flatten, .rep (fun w => (Bod Rspan css S).at_ w G1 (.bool true)) G1 false]) (fun w9 h9 => ⟨(), trivial, by
        have h10 := row_set (base := W.heap.size) (n := zt.length) (xs := ys.map (Value.int .u8)) (j := j) h9 hgb (by rw [List.length_map]; exact hys) (by omega) hjl hcm hmc
        rw [List.map_set]
        exact h10⟩) (fun _ _ => ?_)
      repeat (first | refine T_region ?_ | refine S_nil ?_ | refine pthen_normal ?_ | refine inb_normal ?_ | refine S_i64 tabOk rfl (by omega) ?_ | refine S_pure tabOk rfl ?_)
      exact ⟨(j + 1, ys.set j (IntKind.u8.wrap (y9 + by_))), ⟨by show j + 1 ≤ zt.length; omega, by show (ys.set j _).length = _; rw [List.length_set]; exact hys⟩, by dsimp only; repeat (first | exact Sub.nil | refine Sub.cons rfl ?_), fun w' hw => hw, by dsimp only; omega⟩
    rintro ys hys
    try dsimp only at hys ⊢
    clear hys
    repeat (first | refine pthen_normal ?_ | refine S_pure tabOk rfl ?_ | refine T_region_any ?_ | refine S_load tabOk 2 rfl rfl rfl ?_)
    refine S_bslice tabOk rfl rfl rfl rfl rfl rfl rfl rfl rfl rfl rfl rfl (fun b65 hb65 => ?_)
    refine S_append (ty := 0) tabOk 5 (sz := 2) rfl rfl rfl rfl rfl rfl rfl rfl rfl (by decide) (fun w' hw => Sl.of_blk (xs := [.int .i64 kk, .slice a3 zt.length c3]) (hw.own _ (getE_mem (i := 0) rfl)) rfl (fun j u hu => by rw [Nat.zero_add]; exact hu)) (by intro u hu; simp only [List.mem_cons, List.not_mem_nil, or_false] at hu; rcases hu with rfl | rfl <;> rfl) (by simp only [maxLen]; omega) (by show (_ + _) * 32 ≤ _; omega) rfl (fun AS CS hcS hdS => ⟨_, rfl, ?_⟩)
    refine S_toX (ι := Unit) (fun _ => True) (fun _ => _) (fun w9 h9 => ⟨(), trivial, h9.pm [2, 0, 1] rfl rfl rfl⟩) (fun _ _ => ?_)
    refine S_share ((Rslice (Rint .u8)).vp zt) (fun w hr => SlR.val (SlR.of_ints (ints_own hr hzf) (fun b off hn e => by rw [e]; rfl))) (fun Fz hFz => ?_)
    refine S_addV (Bod Rspan (css ++ [[.int .i64 kk, .slice a3 zt.length c3]]) (S ++ [(kk, zt)])) (fun _ => False) (v := .bool true) (fun w hw => Bod.snoc (Vp.fact (A := fun _ => False) (p := Bod Rspan css S) hw 6 rfl (fun k hk => .inr (hGn1 k hk))) ⟨[.int .i64 kk], [.slice a3 zt.length c3], rfl, ⟨rfl, mk_i64 (by omega)⟩, a3, zt.length, c3, rfl, SlR.of_val (Vp.fact (A := fun _ => False) (p := (Rslice (Rint .u8)).vp zt) hw 0 rfl (fun k hk => .inr (hFz k hk)))⟩) (fun G2 hG2 => ?_)
    have e1 : css.flatten ++ [Value.int .i64 kk, .slice a3 zt.length c3] = (css ++ [[Value.int .i64 kk, .slice a3 zt.length c3]]).flatten := by simp
    have e2 : S.length + 1 = (S ++ [(kk, zt)]).length := by simp
    have e3 : (S.length : Int) + 1 = ((S ++ [(kk, zt)]).length : Int) := by rw [← e2]; omega
    rw [e1]
    have hok2 : QOk 1073741824 ((S.length : Int) + 1) ws8 (LK (S ++ [(kk, zt)])) := by
      rw [LK_snoc]
      exact hok.snoc (by omega) (by omega) (by omega) ⟨by omega, by show kk < 8; omega, by omega, by omega⟩
    rw [e3] at hok2 ⊢
    rw [e2]
    repeat (first | refine T_region ?_ | refine S_nil ?_ | refine pthen_normal ?_ | refine inb_normal ?_ | refine S_i64 tabOk rfl (by omega) ?_ | refine S_pure tabOk rfl ?_)
    exact ⟨⟨S ++ [(kk, zt)], css ++ [[.int .i64 kk, .slice a3 zt.length c3]], AS, CS, F', G2⟩, ⟨by dsimp only; omega, by dsimp only; omega, hok2, fun x hx => by
      rcases List.mem_append.1 hx with hx | hx
      · exact hcl x hx
      · rw [List.mem_singleton] at hx
        subst hx
        exact ⟨hzl, hzf⟩, hFn', fun k hk => (hG2 k hk).elim (fun h => h.elim) id⟩, by dsimp only; repeat (first | exact Sub.nil | refine Sub.cons rfl ?_ | refine Sub.cons_int rfl (by omega) ?_), fun w' hw => by
      have h9 := hw.pm [5, 6, 0, 1, 2, 3, 4, 7] rfl rfl rfl
      exact h9.fewer (by repeat (first | exact new_nil | refine new_ro ?_ | refine new_rx (by assumption) ?_ | refine new_cons (by first | assumption | omega) ?_ | refine newrow h9 1 rfl (Nat.le_refl _) ?_ | refine newrow h9 5 rfl (Nat.le_refl _) ?_)) (by repeat (first | exact List.Sublist.slnil | refine List.Sublist.cons_cons _ ?_ | refine List.Sublist.cons _ ?_)), by dsimp only; omega⟩
  · rintro ⟨S, css, al, cl, F1, G1⟩ ⟨hi30, hok, hcl, hFn1, hGn1⟩
    dsimp only [O1] at hi30 hok hcl hFn1 hGn1 ⊢
    clear O1
    have hLl := LK_len S
    repeat (first | refine T_seq ?_ | refine T_region ?_ | refine S_nil ?_ | refine S_pure tabOk rfl ?_)
    refine T_cut (ι := Unit) (fun _ => True) (fun _ => [(5, qptr qb), (7, .slice al S.length cl)]) (fun _ => [.rep (fun w => (quA qb 1073741824 (S.length : Int) ws8 (LK S) S.length).at_ w F1 (.bool true)) F1 true, .row W.heap.size (.slice al S.length cl) 52 2 S.length css.flatten, .rep (fun w => (Bod Rspan css S).at_ w G1 (.bool true)) G1 false]) ?_ ?_
    · refine T_block ?_
      refine T_loop (ι := Nat) (fun r => [(1, .int .u8 by_), (5, qptr qb), (7, .slice al S.length cl), (68, .int .i64 (r : Int))]) (fun _ => [.rep (fun w => (quA qb 1073741824 (S.length : Int) ws8 (LK S) S.length).at_ w F1 (.bool true)) F1 true, .row W.heap.size (.slice al S.length cl) 52 2 S.length css.flatten, .rep (fun w => (Bod Rspan css S).at_ w G1 (.bool true)) G1 false]) (fun r => r ≤ 2) (fun r => 2 - r) 0 (Nat.zero_le _) (by repeat (first | exact Sub.nil | refine Sub.cons rfl ?_)) (fun w' hw => hw) ?_
      intro r hr
      repeat (first | refine T_seq ?_ | refine T_region ?_ | refine S_nil ?_ | refine S_pure tabOk rfl ?_)
      refine T_cond_dec rfl (fun hlt => ?_) (fun hge => ?_)
      rotate_left
      · repeat (first | refine pthen_normal ?_ | refine inb_hit ?_ | refine pthen_exit ?_ | refine T_exit ?_)
        exact ⟨(), trivial, by repeat (first | exact Sub.nil | refine Sub.cons rfl ?_), fun w' hw => hw⟩
      repeat (first | refine T_seq ?_ | refine pthen_normal ?_ | refine T_skip ?_)
      refine T_block ?_
      repeat (first | refine T_seq ?_ | refine T_region ?_ | refine S_nil ?_ | refine S_pure tabOk rfl ?_)
      refine T_asThen ?_
      refine T_cut (ι := Unit) (fun _ => True) (fun _ => [(1, .int .u8 by_), (5, qptr qb), (7, .slice al S.length cl), (68, .int .i64 (r : Int))]) (fun _ => [.rep (fun w => (quA qb 1073741824 (S.length : Int) ws8 (LK S) S.length).at_ w F1 (.bool true)) F1 true, .row W.heap.size (.slice al S.length cl) 52 2 S.length css.flatten, .rep (fun w => (Bod Rspan css S).at_ w G1 (.bool true)) G1 false]) ?_ ?_
      · refine T_block ?_
        refine T_loop (ι := Nat) (fun i => [(1, .int .u8 by_), (5, qptr qb), (7, .slice al S.length cl), (68, .int .i64 (r : Int)), (70, .slice al S.length cl), (71, .int .i64 (S.length : Int)), (72, .int .i64 (i : Int))]) (fun _ => [.rep (fun w => (quA qb 1073741824 (S.length : Int) ws8 (LK S) S.length).at_ w F1 (.bool true)) F1 true, .row W.heap.size (.slice al S.length cl) 52 2 S.length css.flatten, .rep (fun w => (Bod Rspan css S).at_ w G1 (.bool true)) G1 false]) (fun i => i ≤ S.length) (fun i => S.length - i) 0 (Nat.zero_le _) (by repeat (first | exact Sub.nil | refine Sub.cons rfl ?_)) (fun w' hw => hw) ?_
        intro i hi
        repeat (first | refine T_seq ?_ | refine T_region ?_ | refine S_nil ?_ | refine S_pure tabOk rfl ?_)
        refine T_cond_dec rfl (fun hlt2 => ?_) (fun hge2 => ?_)
        rotate_left
        · repeat (first | refine pthen_normal ?_ | refine inb_hit ?_ | refine pthen_exit ?_ | refine T_exit ?_)
          exact ⟨(), trivial, by repeat (first | exact Sub.nil | refine Sub.cons rfl ?_), fun w' hw => hw⟩
        obtain ⟨x, hx⟩ : ∃ x, S[i]? = some x := ⟨_, List.getElem?_eq_getElem (by omega)⟩
        have hxm := hcl x (List.mem_of_getElem? hx)
        refine T_toX (ι := Option Addr × Nat) (fun y => css[i]? = some [.int .i64 x.1, .slice y.1 x.2.length y.2]) (fun _ => [.rep (fun w => (quA qb 1073741824 (S.length : Int) ws8 (LK S) S.length).at_ w F1 (.bool true)) F1 true, .row W.heap.size (.slice al S.length cl) 52 2 S.length css.flatten, .rep (fun w => (Bod Rspan css S).at_ w G1 (.bool true)) G1 false]) (fun w9 h9 => by
          obtain ⟨cs, hcs, hat⟩ := Bod.get_ (h9.own _ (getE_mem (i := 2) rfl)).1 (i := i) (by omega)
          rw [List.getElem?_eq_getElem (by omega)] at hx
          rw [Option.some.inj hx] at hat
          obtain ⟨_, _, rfl, ⟨rfl, _⟩, a0, n0, c0, rfl, hz⟩ := hat
          obtain rfl := hz.len
          exact ⟨(a0, c0), hcs, h9⟩) ?_
        rintro ⟨a0, c0⟩ hcs
        dsimp only at hcs
        repeat (first | refine T_seq ?_ | refine T_region ?_ | refine T_block ?_ | refine pthen_normal ?_ | refine T_skip ?_ | refine S_pure tabOk rfl ?_)
        refine S_rowA 1 rfl (by omega) (fun gs hgs => ?_)
        subst hgs
        refine S_q (Q_idx (sz := 2) tabOk rfl rfl rfl rfl rfl rfl rfl (j := i) rfl (by omega)) ?_
        refine S_loadN tabOk (vs := [.int .i64 x.1, .slice a0 x.2.length c0]) rfl rfl rfl (fun w' hw jj u hu => by
          rw [Addr.add_lit, Nat.zero_add]
          exact own_cell (hw.own _ (getE_mem (i := 1) rfl)) (by omega) (flat_get (fun c hc => Bod.szs (hw.own _ (getE_mem (i := 2) rfl)).1 c hc) hcs hu)) ?_
        refine S_new tabOk rfl (fun b13 hb13 => ?_)
        repeat (first | refine T_seq ?_ | refine T_region ?_ | refine S_nil ?_ | refine S_u64 tabOk rfl (by omega) ?_ | refine S_pure tabOk rfl ?_ | refine S_store tabOk 0 rfl rfl rfl rfl rfl rfl ?_)
        have hgx := qGot_mem hok.nodup (e := ((i : Int) + 1, x)) (List.mem_of_getElem? (LK_at hx))
        refine S_call rfl Try.call30 (fun w1 g => ?_)
        have hd := q_get (g.own _ (getE_mem (i := 1) rfl)).1 hok ((i : Int) + 1)
        rw [hgx] at hd
        refine hd.mono fun e w' ⟨a6, c6, e1, hb, hr⟩ => ⟨_, _, e1, g.fresh hb (x := .row W.heap.size (.slice a6 x.2.length c6) 5 1 x.2.length (x.2.map (.int .u8))) (own_rebase hr g.size) (fun j hj => (World.ownsRow.lt hr j hj).1), ?_⟩
        clear g hd
        dsimp only
        repeat (first | refine S_pure tabOk rfl ?_)
        refine S_new tabOk rfl (fun b14 hb14 => ?_)
        repeat (first | refine T_seq ?_ | refine T_region ?_ | refine S_nil ?_ | refine S_pure tabOk rfl ?_ | refine S_load tabOk 0 rfl rfl rfl ?_ | refine S_load tabOk 2 rfl rfl rfl ?_ | refine S_store tabOk 0 rfl rfl rfl rfl rfl rfl ?_)
        refine S_callq (v := .bool true) rfl Try.call32 (fun w1 g => ?_) ?_
        · obtain ⟨cs, hcs2, hat⟩ := Bod.get_ (g.own _ (getE_mem (i := 5) rfl)).1 (i := i) (by omega)
          rw [hcs] at hcs2
          cases hcs2
          rw [List.getElem?_eq_getElem (by omega)] at hx
          rw [Option.some.inj hx] at hat
          obtain ⟨l1, l2, e1, ⟨rfl, _⟩, a9, n9, c9, rfl, hz9⟩ := hat
          cases e1
          have h8 := spsame_ok x.1 x.1 a6 a0 x.2.length c6 x.2.length c0 x.2 x.2 w1 (ints_own (g.own _ (getE_mem (i := 1) rfl)) hxm.2) hz9.ints
          rw [decide_eq_true (⟨rfl, rfl⟩ : x.1 = x.1 ∧ x.2 = x.2)] at h8
          exact h8
        repeat (first | refine S_nil ?_ | refine S_pure tabOk rfl ?_)
        refine T_cond_f rfl ?_
        repeat (first | refine T_seq ?_ | refine T_region ?_ | refine S_nil ?_ | refine pthen_normal ?_ | refine T_skip ?_ | refine S_pure tabOk rfl ?_ | refine S_load tabOk 0 rfl rfl rfl ?_)
        refine T_asThen ?_
        refine T_cut (ι := List Int) (fun ys => ys.length = x.2.length) (fun _ => [(1, .int .u8 by_), (5, qptr qb), (7, .slice (some ⟨gs, 0, none⟩) S.length cl), (68, .int .i64 (r : Int)), (70, .slice (some ⟨gs, 0, none⟩) S.length cl), (71, .int .i64 (S.length : Int)), (72, .int .i64 (i : Int))]) (fun ys => [.row W.heap.size (.slice a6 x.2.length c6) 5 1 x.2.length (ys.map (.int .u8)), .blk b13 (.cells ⟨[.int .i64 x.1, .slice a0 x.2.length c0]⟩ 52 (0, 0)) true, .rep (fun w => (quA qb 1073741824 (S.length : Int) ws8 (LK S) S.length).at_ w F1 (.bool true)) F1 true, .row W.heap.size (.slice (some ⟨gs, 0, none⟩) S.length cl) 52 2 S.length css.flatten, .rep (fun w => (Bod Rspan css S).at_ w G1 (.bool true)) G1 false]) ?_ ?_
        · refine T_block ?_
          refine T_loop (ι := Nat × List Int) (fun y => [(1, .int .u8 by_), (5, qptr qb), (7, .slice (some ⟨gs, 0, none⟩) S.length cl), (68, .int .i64 (r : Int)), (70, .slice (some ⟨gs, 0, none⟩) S.length cl), (71, .int .i64 (S.length : Int)), (72, .int .i64 (i : Int)), (14, .pointer (some ⟨b14, 0, none⟩)), (95, .int .i64 (x.2.length : Int)), (96, .int .i64 (y.1 : Int))]) (fun y => [.row W.heap.size (.slice a6 x.2.length c6) 5 1 x.2.length (y.2.map (.int .u8)), .blk b14 (.cells ⟨[.int .i64 x.1, .slice a6 x.2.length c6]⟩ 52 (0, 0)) true, .blk b13 (.cells ⟨[.int .i64 x.1, .slice a0 x.2.length c0]⟩ 52 (0, 0)) true, .rep (fun w => (quA qb 1073741824 (S.length : Int) ws8 (LK S) S.length).at_ w F1 (.bool true)) F1 true, .row W.heap.size (.slice (some ⟨gs, 0, none⟩) S.length cl) 52 2 S.length css.flatten, .rep (fun w => (Bod Rspan css S).at_ w G1 (.bool true)) G1 false]) (fun y => y.1 ≤ x.2.length ∧ y.2.length = x.2.length) (fun y => x.2.length - y.1) (0, x.2) ⟨Nat.zero_le _, rfl⟩ (by repeat (first | exact Sub.nil | refine Sub.cons rfl ?_)) (fun w' hw => hw.pm [1, 0, 2, 3, 4, 5] rfl rfl rfl) ?_
          rintro ⟨j, ys⟩ ⟨hj, hys⟩
          dsimp only at hj hys ⊢
          repeat (first | refine T_seq ?_ | refine T_region ?_ | refine S_nil ?_ | refine S_pure tabOk rfl ?_)
          refine T_cond_dec rfl (fun hlt9 => ?_) (fun hge9 => ?_)
          rotate_left
          · repeat (first | refine pthen_normal ?_ | refine inb_hit ?_ | refine pthen_exit ?_ | refine T_exit ?_)
            exact ⟨ys, hys, by repeat (first | exact Sub.nil | refine Sub.cons rfl ?_), fun w' hw => hw.less (by repeat (first | exact Less.nil | refine Less.keep ?_ | refine Less.dropB (by first | assumption | omega) ?_))⟩
          obtain ⟨y9, hy9⟩ : ∃ y, ys[j]? = some y := ⟨_, List.getElem?_eq_getElem (by omega)⟩
          refine T_openRow (by omega) (fun g junk hg hgb hmc hxl hjl hcm => ?_)
          subst hg
          rw [Nat.mul_one] at hjl
          repeat (first | refine T_seq ?_ | refine T_region ?_ | refine T_block ?_ | refine S_nil ?_ | refine pthen_normal ?_ | refine T_skip ?_ | refine S_pure tabOk rfl ?_ | refine T_region_any ?_ | refine S_load tabOk 1 rfl rfl rfl ?_)
          refine S_q (Q_idx1 tabOk rfl rfl rfl rfl rfl rfl rfl (j := j) rfl (by omega)) ?_
          refine S_load1 tabOk (v := .int .u8 y9) rfl rfl (fun w' hw => blkc hw (by rw [List.getElem?_append_left (by rw [List.length_map]; omega), List.getElem?_map, hy9]; rfl)) ?_
          repeat (first | refine S_pure tabOk rfl ?_)
          refine S_q (Q_idx1 tabOk rfl rfl rfl rfl rfl rfl rfl (j := j) rfl (by omega)) ?_
          refine S_store_of tabOk 0 (cs' := (ys.map (Value.int .u8) ++ junk).set j (.int .u8 (bits .xor .u8 y9 by_))) rfl rfl (fun u hu => by rw [List.mem_singleton] at hu; subst hu; rfl) rfl (by
            rw [Nat.zero_add]
            exact setMany_1 (by rw [List.length_append, List.length_map]; omega)) rfl ?_
          refine S_toX (ι := Unit) (fun _ => True) (fun _ => [.row W.heap.size (.slice (some ⟨g, 0, none⟩) x.2.length c6) 5 1 x.2.length ((ys.set j (bits .xor .u8 y9 by_)).map (.int .u8)), .blk b14 (.cells ⟨[.int .i64 x.1, .slice (some ⟨g, 0, none⟩) x.2.length c6]⟩ 52 (0, 0)) true, .blk b13 (.cells ⟨[.int .i64 x.1, .slice a0 x.2.length c0]⟩ 52 (0, 0)) true, .rep (fun w => (quA qb 1073741824 (S.length : Int) ws8 (LK S) S.length).at_ w F1 (.bool true)) F1 true, .row W.heap.size (.slice (some ⟨gs, 0, none⟩) S.length cl) 52 2 S.length css.flatten, .rep (fun w => (Bod Rspan css S).at_ w G1 (.bool true)) G1 false]) (fun w9 h9 => ⟨(), trivial, by
            have h10 := row_set (base := W.heap.size) (n := x.2.length) (xs := ys.map (Value.int .u8)) (j := j) h9 hgb (by rw [List.length_map]; exact hys) (by omega) hjl hcm hmc
            rw [List.map_set]
            exact h10⟩) (fun _ _ => ?_)
          repeat (first | refine T_region ?_ | refine S_nil ?_ | refine pthen_normal ?_ | refine inb_normal ?_ | refine S_i64 tabOk rfl (by omega) ?_ | refine S_pure tabOk rfl ?_)
          exact ⟨(j + 1, ys.set j (bits .xor .u8 y9 by_)), ⟨by show j + 1 ≤ x.2.length; omega, by show (ys.set j _).length = _; rw [List.length_set]; exact hys⟩, by dsimp only; repeat (first | exact Sub.nil | refine Sub.cons rfl ?_), fun w' hw => hw, by dsimp only; omega⟩
        rintro ys hys
        try dsimp only at hys ⊢
        clear hys
        repeat (first | refine T_region ?_ | refine S_nil ?_ | refine pthen_normal ?_ | refine inb_normal ?_ | refine S_i64 tabOk rfl (by omega) ?_ | refine S_pure tabOk rfl ?_)
        exact ⟨i + 1, by omega, by repeat (first | exact Sub.nil | refine Sub.cons rfl ?_), fun w' hw => hw.less (by repeat (first | exact Less.nil | refine Less.keep ?_ | refine Less.dropB (by first | assumption | omega) ?_ | refine Less.dropW (Nat.le_refl _) ?_)), by omega⟩
      · rintro _ _
        repeat (first | refine T_region ?_ | refine S_nil ?_ | refine pthen_normal ?_ | refine inb_normal ?_ | refine S_i64 tabOk rfl (by omega) ?_ | refine S_pure tabOk rfl ?_)
        exact ⟨r + 1, by omega, by repeat (first | exact Sub.nil | refine Sub.cons rfl ?_), fun w' hw => hw, by omega⟩
    · rintro _ _
      repeat (first | refine T_seq ?_ | refine T_region ?_ | refine S_pure tabOk rfl ?_)
      refine S_callq (v := .int .i64 ((LK S).length : Int)) rfl Try.call33 (fun w1 g => q_len (g.own _ (getE_mem (i := 0) rfl)).1) ?_
      repeat (first | refine S_nil ?_ | refine T_ret ?_ | refine S_pure tabOk rfl ?_)
      exact ret1 rfl rfl (fun w' hw => ⟨by rw [hLl, decide_eq_true rfl], hw.below (by repeat (first | exact new_nil | refine new_ro ?_ | refine new_rx (by assumption) ?_ | refine newrow hw 1 rfl (Nat.le_refl _) ?_))⟩)
end Go.Proofs.Yteogkadjambmkaa
