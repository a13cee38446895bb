/-
  The law QueueBounds: its walk. Conditions: each theorem's own.
-/
import Derived.Test.YteogkadjambmkaaQuV
import Derived.Test.YteogkadjambmkaaQuW
namespace Go.Proofs.Yteogkadjambmkaa
open Go Go.RowKit
set_option linter.unusedVariables false

theorem qGot_mem {L : List QE} (hn : (L.map (·.1)).Nodup) {e : QE} (he : e ∈ L) : qGot L e.1 = (e.2.1, e.2.2, true) := by
  obtain ⟨i, hi⟩ := List.mem_iff_getElem?.1 he
  unfold qGot
  rw [qFind_at hn hi]
theorem qDel_len (L : List QE) (n : Int) : (qDel L n).length ≤ L.length := (qDel_sub L n).length_le
structure BI where
  i : Nat
  L : List QE
  last : Int
  nn : Int
  K : Nat
  F : Nat → Prop
structure BOk (cap : Int) (ws : List Int) (W : World) (i : BI) : Prop where
  ok : QOk cap i.last ws i.L
  l0 : 0 ≤ i.last
  ln : i.last ≤ i.nn
  n0 : i.nn ≤ 3 * (i.i : Int)
  len : i.L.length ≤ i.i
  k : i.K ≤ i.i
  new : ∀ k, i.F k → W.heap.size ≤ k
  sum : qSum i.L ≤ cap
set_option maxHeartbeats 8000000 in
theorem queueBounds_walk (cp : Int) (v1 : Value) (wz : List Int) (v2 : Value) (ss : List (Int × List Int)) (W : World) (hcp : Fits .u16 cp) (h1 : (Rslice (Rint .u8)).val W TT v1 wz) (h2 : (Rslice Rspan).val W TT v2 ss) :
    Calls Try.prog 10 #[.int .u16 cp, v1, v2] W fun e w' => e = .returned (.bool true) ∧ Below W.heap.size W w' := by
  obtain ⟨a1, n1, c1, rfl, hx1⟩ := SlR.form h1
  obtain ⟨a2, n2, c2, rfl, hx2⟩ := SlR.form h2
  obtain rfl := hx1.len
  obtain rfl := hx2.len
  have hcp' := fits_u16 hcp
  have hI := hx1.ints
  have hmx2 := hx2.max
  have hcp2 := hx2.cap
  simp only [maxLen] at hmx2
  have hrw : rightW (wOf wz) := wOf_right fun x hx => by have := fits_u8 (hI.fits x hx); omega
  obtain ⟨ws, hws⟩ : ∃ ws, ws = wOf wz := ⟨_, rfl⟩
  rw [← hws] at hrw
  have hws1 := hrw.1
  have hws8 := hrw.2.1
  obtain ⟨cap, hcap⟩ : ∃ c : Int, c = 1 + cp % 600 := ⟨_, rfl⟩
  have hc0 : 1 ≤ cap ∧ cap ≤ 600 := by omega
  have hqr : qRight cap ws = true := by unfold qRight; rw [decide_eq_true hrw, decide_eq_true (by omega)]; rfl
  refine enter3 Try.func10 rfl rfl (Hp.refl W) ?_
  repeat (first | refine T_seq ?_ | refine T_region ?_ | refine S_nil ?_ | refine S_pure tabOk rfl ?_)
  refine S_callq (v := .bool true) rfl Try.call24 (fun w1 h1 => awake9_ok w1) ?_
  repeat (first | refine S_nil ?_ | refine S_pure tabOk rfl ?_)
  refine T_cond_f rfl ?_
  repeat (first | refine T_seq ?_ | refine T_region ?_ | refine pthen_normal ?_ | refine T_skip ?_ | refine S_pure tabOk rfl ?_)
  refine S_q (Q_rem0 rfl rfl rfl (by decide) hcp'.1) ?_
  repeat (first | refine T_seq ?_ | refine T_region ?_ | refine S_nil ?_ | refine S_i64 tabOk rfl (by omega) ?_ | refine S_pure tabOk rfl ?_)
  rw [← hcap]
  refine S_callrow rfl Try.call26 (fun w1 h1 => weights9_ok a1 wz.length c1 wz w1 (ints_ext hI (h1.below (by repeat (first | exact new_nil))))) (fun aw cw hcw hdw => ?_)
  rw [← hws]
  refine S_callN rfl Try.call25 (fun w1 h1 => (q_newY (ints_own (h1.own _ (getE_mem (i := 0) rfl)) (fun z hz => mk_i64 (by have := hrw.2.2 z hz; omega))) hqr).mono fun e w' ⟨qb, F, e1, hF, h2⟩ => ⟨_, _, F, e1, h2, hF, fun hFn => ?_⟩)
  repeat (first | refine T_seq ?_ | refine T_region ?_ | refine S_nil ?_ | refine S_pure tabOk rfl ?_)
  have hcap40 : (0 : Int) ≤ cap ∧ cap ≤ 1099511627776 := by omega
  let O1 : BI → OL := fun i => [.rep (fun w => (quA qb cap i.last ws i.L i.K).at_ w i.F (.bool true)) i.F true]
  refine T_cut (ι := Unit) (fun _ => True) (fun _ => []) (fun _ => []) ?_ ?_
  · refine T_block ?_
    refine T_loop (ι := BI) (fun i => [(7, .int .i64 cap), (8, qptr qb), (10, .int .u64 i.nn), (33, .slice a2 ss.length c2), (34, .int .i64 (ss.length : Int)), (35, .int .i64 (i.i : Int))]) O1 (fun i => i.i ≤ ss.length ∧ i.i ≤ 40 ∧ BOk cap ws W i) (fun i => ss.length - i.i) ⟨0, [], 0, 0, 0, F⟩ ⟨Nat.zero_le _, Nat.zero_le _, QOk.nil _ _, Int.le_refl _, Int.le_refl _, by show (0 : Int) ≤ 3 * ((0 : Nat) : Int); omega, Nat.le_refl _, Nat.le_refl _, hFn, by show (0 : Int) ≤ cap; omega⟩ (by repeat (first | exact Sub.nil | refine Sub.cons rfl ?_)) (fun w' hw => hw.less (by repeat (first | exact Less.nil | refine Less.keep ?_ | refine Less.dropW (Nat.le_refl _) ?_))) ?_
    rintro ⟨i, L, last, nn, K, F1⟩ ⟨hi, hi40, hB⟩
    obtain ⟨hok, hl0, hln, hn0, hlen, hK, hFn1, hsum⟩ := hB
    dsimp only [O1] at hi hi40 hok hl0 hln hn0 hlen hK hFn1 hsum ⊢
    repeat (first | refine T_seq ?_ | refine T_region ?_ | refine S_nil ?_ | refine S_pure tabOk rfl ?_)
    refine T_cond_dec rfl (fun hlt => ?_) (fun hge => ?_)
    rotate_left
    · repeat (first | refine pthen_normal ?_ | refine inb_hit ?_ | refine pthen_exit ?_ | refine T_exit ?_)
      exact ⟨(), trivial, by repeat (first | exact Sub.nil), fun w' hw => hw.fewer (by repeat (first | exact new_nil | refine new_rx (by assumption) ?_)) (by repeat (first | exact List.Sublist.slnil | refine List.Sublist.cons _ ?_))⟩
    have hi' : i < ss.length := by omega
    obtain ⟨ab, off, cs, rfl, hlt2, hat, hcl, hce, _⟩ := hx2.get_ hi'
    obtain ⟨_, _, rfl, ⟨rfl, hk⟩, a0, n0, c0, rfl, hz⟩ := hat
    generalize ss[i] = sp at *
    obtain ⟨k, zs⟩ := sp
    obtain rfl := hz.len
    dsimp only at *
    repeat (first | refine T_seq ?_ | refine T_region ?_ | refine T_block ?_ | refine pthen_normal ?_ | refine T_skip ?_ | refine S_pure tabOk rfl ?_)
    refine S_q (Q_idx (sz := 2) tabOk rfl rfl rfl rfl rfl rfl rfl (j := i) rfl (by omega)) ?_
    refine S_loadN tabOk (vs := [.int .i64 k, .slice a0 zs.length c0]) rfl rfl rfl (fun w' hw jj u hu => by
      rw [Addr.add_lit]
      exact (World.cell?_of_block (w := W) (a := ⟨ab, off + i * 2 + jj, none⟩) ((hw.below (by repeat (first | exact new_nil | refine new_rx (by assumption) ?_))).block ab hlt2)).trans (hce jj u hu)) ?_
    refine S_new tabOk rfl (fun b12 hb12 => ?_)
    repeat (first | refine T_seq ?_ | refine T_region ?_ | refine S_nil ?_ | refine S_pure tabOk rfl ?_ | refine S_store tabOk 0 rfl rfl rfl rfl rfl rfl ?_)
    refine T_cond_dec rfl (fun h40 => ?_) (fun h40 => ?_)
    · repeat (first | refine pthen_exit ?_ | refine T_exit ?_)
      refine inb_miss rfl ?_
      repeat (first | refine pthen_normal ?_ | refine inb_hit ?_ | refine pthen_exit ?_)
      exact ⟨(), trivial, by repeat (first | exact Sub.nil), fun w' hw => hw.fewer (by repeat (first | exact new_nil | refine new_rx (by assumption) ?_ | refine new_cons (by first | assumption | omega) ?_)) (by repeat (first | exact List.Sublist.slnil | refine List.Sublist.cons _ ?_))⟩
    repeat (first | refine T_seq ?_ | refine T_region ?_ | refine pthen_normal ?_ | refine T_skip ?_ | refine S_load tabOk 0 rfl rfl rfl ?_)
    refine S_call rfl Try.call28 (fun w1 h1 => (few9_ok k a0 zs.length c0 zs w1 (ints_ext hz.ints (h1.below (by repeat (first | exact new_nil | refine new_rx (by assumption) ?_ | refine new_cons (by first | assumption | omega) ?_))))).mono fun e w' ⟨a3, c3, e1, hb, hr⟩ => ⟨_, _, e1, h1.fresh hb (x := .row W.heap.size (.slice a3 (zs.take 60).length c3) 5 1 (zs.take 60).length ((zs.take 60).map (.int .u8))) (own_rebase hr h1.size) (fun j hj => (World.ownsRow.lt hr j hj).1), ?_⟩)
    have hzf : ∀ z ∈ zs.take 60, Fits .u8 z := fun z hz' => hz.ints.fits z (List.mem_of_mem_take hz')
    have hzl : (zs.take 60).length ≤ 60 := by rw [List.length_take]; omega
    generalize zs.take 60 = zt at *
    repeat (first | refine T_seq ?_ | refine T_region ?_ | refine S_nil ?_ | refine S_pure tabOk rfl ?_ | refine S_load tabOk 1 rfl rfl rfl ?_ | refine S_store tabOk 1 rfl rfl rfl rfl rfl rfl ?_)
    have hclsOk : ∀ x ∈ L, 0 ≤ x.2.1 ∧ x.2.1 < (ws.length : Int) := fun x hx => ⟨(hok.cls x hx).1, (hok.cls x hx).2.1⟩
    refine S_call rfl Try.call29 (fun w1 g => (q_victims (k := k) (g.own _ (getE_mem (i := 2) rfl)).1 hok (by omega) hrw hcap40 (SlR.of_ints (A := fun j => (Value.slice a3 zt.length c3).ownBlock = some j) (ints_own (g.own _ (getE_mem (i := 0) rfl)) hzf) (fun b off h0 e => by rw [e]; rfl))).mono fun e w' ⟨o, E, a4, c4, e1, hb, hr, hv⟩ => ⟨_, _, e1, g.fresh hb (x := .row W.heap.size (.slice a4 o.1.length c4) 59 1 o.1.length (o.1.map (.int .u64))) (own_rebase hr g.size) (fun j hj => (World.ownsRow.lt hr j hj).1), ?_⟩)
    obtain ⟨o, own⟩ := o
    unfold VicP at hv
    cases htk : (sright k zt.length && decide (k < (ws.length : Int))) with
    | false =>
      rw [if_neg (by rw [htk]; decide)] at hv
      obtain ⟨e2, rfl⟩ := hv
      cases e2
      dsimp only
      repeat (first | refine T_seq ?_ | refine T_region ?_ | refine S_nil ?_ | refine S_pure tabOk rfl ?_)
      refine T_cond_t rfl ?_
      repeat (first | refine T_seq ?_ | refine T_region ?_ | refine S_pure tabOk rfl ?_ | refine S_load tabOk 2 rfl rfl rfl ?_)
      refine S_callq (v := .bool false) rfl Try.call34 (fun w1 g => (q_takes (K := K) (g.own _ (getE_mem (i := 3) rfl)).1 k a3 zt.length c3).mono fun e w' ⟨e1, e2⟩ => ⟨by rw [e1, htk], e2⟩) ?_
      repeat (first | refine S_pure tabOk rfl ?_ | refine S_pass rfl rfl rfl ?_)
      refine S_q (Q_neb tabOk rfl rfl rfl rfl rfl) ?_
      repeat (first | refine S_nil ?_ | refine S_pure tabOk rfl ?_)
      refine T_cond_f rfl ?_
      repeat (first | refine T_region ?_ | refine S_nil ?_ | refine pthen_normal ?_ | refine inb_hit ?_ | refine pthen_exit ?_ | refine T_skip ?_ | refine T_exit ?_ | refine S_i64 tabOk rfl (by omega) ?_ | refine S_pure tabOk rfl ?_)
      exact ⟨⟨i + 1, L, last, nn, K, F1⟩, ⟨by show i + 1 ≤ ss.length; omega, by show i + 1 ≤ 40; omega, hok, hl0, hln, by show nn ≤ 3 * ((i + 1 : Nat) : Int); omega, by show L.length ≤ i + 1; omega, by show K ≤ i + 1; omega, hFn1, hsum⟩, by repeat (first | exact Sub.nil | refine Sub.cons rfl ?_), fun w' hw => hw.less (by repeat (first | exact Less.nil | refine Less.keep ?_ | refine Less.dropB (by first | assumption | omega) ?_ | refine Less.dropW (Nat.le_refl _) ?_)), by dsimp only; omega⟩
    | true =>
    rw [if_pos htk] at hv
    by_cases hlo : cap < (zt.length : Int) + 16
    · rw [if_pos hlo] at hv
      obtain ⟨e2, rfl⟩ := hv
      cases e2
      dsimp only
      repeat (first | refine T_seq ?_ | refine T_region ?_ | refine S_nil ?_ | refine S_pure tabOk rfl ?_)
      refine T_cond_t rfl ?_
      repeat (first | refine T_seq ?_ | refine T_region ?_ | refine S_pure tabOk rfl ?_ | refine S_load tabOk 2 rfl rfl rfl ?_)
      refine S_callq (v := .bool true) rfl Try.call34 (fun w1 g => (q_takes (K := K) (g.own _ (getE_mem (i := 3) rfl)).1 k a3 zt.length c3).mono fun e w' ⟨e1, e2⟩ => ⟨by rw [e1, htk], e2⟩) ?_
      repeat (first | refine S_pure tabOk rfl ?_ | refine S_load tabOk 2 rfl rfl rfl ?_)
      refine S_callq (v := .int .i64 ((zt.length : Int) + 16)) rfl Try.call35 (fun w1 g => spsize_ok k a3 zt.length c3 w1 (by omega)) ?_
      repeat (first | refine S_pure tabOk rfl ?_)
      refine S_re 70 (v' := .bool true) rfl (congrArg Value.bool (decide_eq_true hlo)) ?_
      skip
      refine S_q (Q_neb tabOk rfl rfl rfl rfl rfl) ?_
      repeat (first | refine S_nil ?_ | refine S_pure tabOk rfl ?_ | refine S_pass rfl rfl rfl ?_)
      refine T_cond_f rfl ?_
      repeat (first | refine T_region ?_ | refine S_nil ?_ | refine pthen_normal ?_ | refine inb_hit ?_ | refine pthen_exit ?_ | refine T_skip ?_ | refine T_exit ?_ | refine S_i64 tabOk rfl (by omega) ?_ | refine S_pure tabOk rfl ?_)
      exact ⟨⟨i + 1, L, last, nn, K, F1⟩, ⟨by show i + 1 ≤ ss.length; omega, by show i + 1 ≤ 40; omega, hok, hl0, hln, by show nn ≤ 3 * ((i + 1 : Nat) : Int); omega, by show L.length ≤ i + 1; omega, by show K ≤ i + 1; omega, hFn1, hsum⟩, by repeat (first | exact Sub.nil | refine Sub.cons rfl ?_), fun w' hw => hw.less (by repeat (first | exact Less.nil | refine Less.keep ?_ | refine Less.dropB (by first | assumption | omega) ?_ | refine Less.dropW (Nat.le_refl _) ?_)), by dsimp only; omega⟩
    rw [if_neg hlo] at hv
    obtain ⟨rfl, hvr⟩ := hv
    dsimp only
    repeat (first | refine T_seq ?_ | refine T_region ?_ | refine S_nil ?_ | refine S_pure tabOk rfl ?_)
    refine T_cond_f rfl ?_
    repeat (first | refine T_seq ?_ | refine T_region ?_ | refine S_nil ?_ | refine pthen_normal ?_ | refine T_skip ?_ | refine S_pure tabOk rfl ?_)
    have htk2 := htk
    unfold sright at htk2
    simp only [Bool.and_eq_true, decide_eq_true_eq] at htk2
    obtain ⟨⟨hk0, hk8, hz4⟩, hkw⟩ := htk2
    obtain ⟨cls, hcls⟩ : ∃ cls : Nat, (cls : Int) = k := ⟨k.toNat, by omega⟩
    have hS0 : VicS cap cls ((zt.length : Int) + 16) L true o own := VicR.vicS (o := (o, own)) (by omega) hok.nodup hclsOk (by rw [hcls]; exact hvr)
    have hol := hS0.len
    let O2 : List QE → OL := fun rem => [.row W.heap.size (.slice a4 o.length c4) 59 1 o.length (o.map (.int .u64)), .row W.heap.size (.slice a3 zt.length c3) 5 1 zt.length (zt.map (.int .u8)), .blk b12 (.cells ⟨[.int .i64 k, .slice a3 zt.length c3]⟩ 52 (0, 0)) true, .rep (fun w => (quA qb cap last ws rem K).at_ w F1 (.bool true)) F1 true]
    refine T_asThen ?_
    refine T_cut (ι := List QE) (fun rem => QOk cap last ws rem ∧ rem.length ≤ i ∧ ∃ inn, VicS cap cls ((zt.length : Int) + 16) rem inn [] own) (fun _ => [(7, .int .i64 cap), (8, qptr qb), (10, .int .u64 nn), (12, .pointer (some ⟨b12, 0, none⟩)), (14, .bool own), (33, .slice (some ⟨ab, off, none⟩) ss.length c2), (34, .int .i64 (ss.length : Int)), (35, .int .i64 (i : Int))]) O2 ?_ ?_
    · refine T_block ?_
      refine T_loop (ι := Nat × List QE) (fun y => [(7, .int .i64 cap), (8, qptr qb), (10, .int .u64 nn), (12, .pointer (some ⟨b12, 0, none⟩)), (14, .bool own), (33, .slice (some ⟨ab, off, none⟩) ss.length c2), (34, .int .i64 (ss.length : Int)), (35, .int .i64 (i : Int)), (81, .slice a4 o.length c4), (82, .int .i64 (o.length : Int)), (83, .int .i64 (y.1 : Int))])
        (fun y => O2 y.2) (fun y => y.1 ≤ o.length ∧ QOk cap last ws y.2 ∧ y.2.length ≤ i ∧ ∃ inn, VicS cap cls ((zt.length : Int) + 16) y.2 inn (o.drop y.1) own) (fun y => o.length - y.1) (0, L) ⟨Nat.zero_le _, hok, hlen, true, hS0⟩ (by repeat (first | exact Sub.nil | refine Sub.cons rfl ?_)) (fun w' hw => hw) ?_
      rintro ⟨j, rem⟩ ⟨hj, hrok, hrl, inn, hvs⟩
      dsimp only [O2] at hj hrok hrl hvs ⊢
      repeat (first | refine T_seq ?_ | refine T_region ?_ | refine S_nil ?_ | refine S_pure tabOk rfl ?_)
      refine T_cond_dec rfl (fun hlt3 => ?_) (fun hge3 => ?_)
      rotate_left
      · repeat (first | refine pthen_normal ?_ | refine inb_hit ?_ | refine pthen_exit ?_ | refine T_exit ?_)
        have hjz : j = o.length := by omega
        subst hjz
        rw [List.drop_length] at hvs
        exact ⟨rem, ⟨hrok, hrl, inn, hvs⟩, by repeat (first | exact Sub.nil | refine Sub.cons rfl ?_), fun w' hw => hw⟩
      obtain ⟨y, hy⟩ : ∃ y, o[j]? = some y := ⟨_, List.getElem?_eq_getElem (by omega)⟩
      have hdr : o.drop j = y :: o.drop (j + 1) := by
        rw [List.drop_eq_getElem_cons (by omega)]
        rw [List.getElem?_eq_getElem (by omega)] at hy
        rw [Option.some.inj hy]
      rw [hdr] at hvs
      obtain ⟨⟨c9, e9, es9, h9, rfl⟩, inn', hvs'⟩ := hvs.next
      have he9 : e9 ∈ rem := (ofC_mem (c := c9) (by rw [h9]; exact List.mem_cons_self)).1
      have hgot := qGot_mem hrok.nodup he9
      repeat (first | refine T_seq ?_ | refine T_region ?_ | refine T_block ?_ | refine pthen_normal ?_ | refine T_skip ?_)
      refine S_rowA 0 rfl (by omega) (fun g4 hg4 => ?_)
      subst hg4
      refine S_q (Q_idx1 tabOk rfl rfl rfl rfl rfl rfl rfl (j := j) rfl (by omega)) ?_
      refine S_load1 tabOk (v := .int .u64 e9.1) rfl rfl (fun w' hw => by
        rw [Nat.zero_add]
        exact own_cell (hw.own _ (getE_mem (i := 0) rfl)) (by omega) (by rw [List.getElem?_map, hy]; rfl)) ?_
      repeat (first | refine T_seq ?_ | refine T_region ?_ | refine S_nil ?_ | refine S_pure tabOk rfl ?_)
      refine S_callTR 3 rfl Try.call36 rfl (fun w1 g => ?_)
      have hd := q_drop (g.own _ (getE_mem (i := 3) rfl)).1 (g.own _ (getE_mem (i := 3) rfl)).2.2 hrok (by omega) e9.1
      rw [hgot] at hd
      dsimp only at hd
      refine hd.mono fun e w' ⟨a5, c5, e1, h5⟩ => ⟨_, _, F1, _, _, _, _, _, e1, h5, fun _ h => h, fun _ h => .inl h, _, rfl, ?_⟩
      clear g hd
      repeat (first | refine S_pure tabOk rfl ?_)
      refine S_new tabOk rfl (fun b18 hb18 => ?_)
      repeat (first | refine T_seq ?_ | refine T_region ?_ | refine S_nil ?_ | refine S_pure tabOk rfl ?_ | refine S_store tabOk 0 rfl rfl rfl rfl rfl rfl ?_)
      refine T_cond_f rfl ?_
      repeat (first | refine T_region ?_ | refine S_nil ?_ | refine pthen_normal ?_ | refine inb_normal ?_ | refine T_skip ?_ | refine S_i64 tabOk rfl (by omega) ?_ | refine S_pure tabOk rfl ?_)
      exact ⟨(j + 1, qDel rem e9.1), ⟨by show j + 1 ≤ o.length; omega, hrok.del _, Nat.le_trans (qDel_len _ _) hrl, inn', hvs'⟩, by dsimp only; repeat (first | exact Sub.nil | refine Sub.cons rfl ?_), fun w' hw => hw.less (by repeat (first | exact Less.nil | refine Less.keep ?_ | refine Less.dropB (by first | assumption | omega) ?_ | refine Less.dropW (Nat.le_refl _) ?_)), by dsimp only; omega⟩
    rintro rem ⟨hrok, hrl, inn, hvs⟩
    dsimp only [O2]
    have hfit := hvs.fits (by omega)
    repeat (first | refine T_seq ?_ | refine T_region ?_ | refine S_nil ?_ | refine pthen_normal ?_ | refine S_u64 tabOk rfl (by omega) ?_ | refine S_pure tabOk rfl ?_)
    have hrs : (rem.map sizeQ).sum = qSum rem := rfl
    cases own with
    | true =>
      rw [if_pos rfl] at hfit
      repeat (first | refine S_pure tabOk rfl ?_ | refine S_pass rfl rfl rfl ?_)
      refine S_callq (v := .int .i64 (qSum rem)) rfl Try.call37 (fun w1 g => q_bytes (K := K) (g.own _ (getE_mem (i := 3) rfl)).1 hrok (by omega) hws8) ?_
      repeat (first | refine S_nil ?_ | refine S_pure tabOk rfl ?_)
      refine T_cond_dec rfl (fun hbad => by omega) (fun _ => ?_)
      repeat (first | refine T_region ?_ | refine S_nil ?_ | refine pthen_normal ?_ | refine inb_normal ?_ | refine T_skip ?_ | refine S_i64 tabOk rfl (by omega) ?_ | refine S_pure tabOk rfl ?_)
      exact ⟨⟨i + 1, rem, last, nn + 3, K, F1⟩, ⟨by show i + 1 ≤ ss.length; omega, by show i + 1 ≤ 40; omega, hrok, hl0, by show last ≤ nn + 3; omega, by show nn + 3 ≤ 3 * ((i + 1 : Nat) : Int); omega, by show rem.length ≤ i + 1; omega, by show K ≤ i + 1; omega, hFn1, by show qSum rem ≤ cap; omega⟩, by dsimp only; repeat (first | exact Sub.nil | refine Sub.cons rfl ?_), fun w' hw => hw.less (by repeat (first | exact Less.nil | refine Less.keep ?_ | refine Less.dropB (by first | assumption | omega) ?_ | refine Less.dropW (Nat.le_refl _) ?_)), by dsimp only; omega⟩
    | false =>
      rw [if_neg (by decide)] at hfit
      repeat (first | refine S_pure tabOk rfl ?_ | refine S_load tabOk 2 rfl rfl rfl ?_)
      refine S_callT 3 rfl Try.call27 rfl (fun w1 g => ?_)
      have hap := (g.pm [1, 3, 0, 2] rfl rfl rfl).apart
      have hA : ∀ j, (Value.slice a3 zt.length c3).ownBlock = some j → ¬ F1 j := fun j hj hf => (List.pairwise_cons.1 hap).1 _ List.mem_cons_self rfl j hj hf
      have hs1 := g.size
      have h9 := q_put (n := nn + 3) (k := k) (g.own _ (getE_mem (i := 3) rfl)).1 (g.own _ (getE_mem (i := 3) rfl)).2.2 hrok (by omega) hws8 (by omega) hcap40 hl0 (by omega) (SlR.of_ints (A := fun j => (Value.slice a3 zt.length c3).ownBlock = some j) (ints_own (g.own _ (getE_mem (i := 1) rfl)) hzf) (fun b off h0 e => by rw [e]; rfl)) hA
      have hq : qPut cap last ws rem (nn + 3) k zt = (0, nn + 3, rem ++ [(nn + 3, k, zt)]) := by unfold qPut; rw [if_pos htk, if_neg (by omega), if_neg (by omega)]
      rw [hq] at h9
      refine h9.mono fun e w' ⟨he, F', f1, f2, g2⟩ => ⟨_, _, F', he, g2, f1, f2, _, rfl, ?_⟩
      have hFn' : ∀ k, F' k → W.heap.size ≤ k := fun k hk => (f2 k hk).elim (hFn1 k) (fun h => Nat.le_trans hs1 h)
      clear h9 g hA hap
      dsimp only
      have hok2 : QOk cap (nn + 3) ws (rem ++ [(nn + 3, k, zt)]) := hrok.snoc (by omega) hl0 (by omega) ⟨hk0, hkw, hk8, by omega⟩
      have hln2 : (rem ++ [(nn + 3, k, zt)]).length ≤ i + 1 := by rw [List.length_append, List.length_singleton]; omega
      have hsum2 : qSum (rem ++ [(nn + 3, k, zt)]) = qSum rem + ((zt.length : Int) + 16) := by unfold qSum; rw [List.map_append, List.sum_append]; simp [sizeQ]
      repeat (first | refine S_pure tabOk rfl ?_)
      refine S_callq (v := .int .i64 (qSum (rem ++ [(nn + 3, k, zt)]))) rfl Try.call37 (fun w1 g => q_bytes (K := K + 1) (g.own _ (getE_mem (i := 3) rfl)).1 hok2 (by omega) hws8) ?_
      repeat (first | refine S_nil ?_ | refine S_pure tabOk rfl ?_)
      refine T_cond_dec rfl (fun hbad => by omega) (fun _ => ?_)
      repeat (first | refine T_region ?_ | refine S_nil ?_ | refine pthen_normal ?_ | refine inb_normal ?_ | refine T_skip ?_ | refine S_i64 tabOk rfl (by omega) ?_ | refine S_pure tabOk rfl ?_)
      exact ⟨⟨i + 1, rem ++ [(nn + 3, k, zt)], nn + 3, nn + 3, K + 1, F'⟩, ⟨by show i + 1 ≤ ss.length; omega, by show i + 1 ≤ 40; omega, hok2, by show 0 ≤ nn + 3; omega, Int.le_refl _, by show nn + 3 ≤ 3 * ((i + 1 : Nat) : Int); omega, hln2, by show K + 1 ≤ i + 1; omega, hFn', by show qSum (rem ++ [(nn + 3, k, zt)]) ≤ cap; omega⟩, by dsimp only; repeat (first | exact Sub.nil | refine Sub.cons rfl ?_), fun w' hw => hw.less (by repeat (first | exact Less.nil | refine Less.keep ?_ | refine Less.dropB (by first | assumption | omega) ?_ | refine Less.dropW (Nat.le_refl _) ?_)), by dsimp only; omega⟩
  · rintro ⟨⟩ _
    repeat (first | refine T_seq ?_ | refine T_region ?_ | refine S_nil ?_ | refine T_ret ?_ | refine S_pure tabOk rfl ?_)
    exact ret1 rfl rfl (fun w' hw => ⟨rfl, hw.below new_nil⟩)
end Go.Proofs.Yteogkadjambmkaa
