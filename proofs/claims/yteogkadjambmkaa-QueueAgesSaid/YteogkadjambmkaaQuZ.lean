/-
  The law QueueAges: its walk. Conditions: each theorem's own.
-/
import Derived.Test.YteogkadjambmkaaQuV
import Derived.Test.YteogkadjambmkaaQuW
namespace Go.Proofs.Yteogkadjambmkaa
open Go Go.RowKit
set_option linter.unusedVariables false

theorem VicS.ages {cap : Int} {cls : Nat} {size : Int} {rem : List QE} {inn own : Bool} {o : List Int} (h : VicS cap cls size rem inn o own) : (rem.map (·.1)).Pairwise (· < ·) → ∀ (j : Nat) (n : Int), o[j]? = some n →
    n ∉ o.take j ∧ ∃ e ∈ rem, e.1 = n ∧ 0 ≤ e.2.1 ∧ ∀ x ∈ rem, x.1 < n → x.2.1 = e.2.1 → x.1 ∈ o.take j := by
  induction h with
  | stop h => intro _ j n hj; simp at hj
  | @num rem inn c e es o own h k ih =>
    intro hs j n hj
    have he : e ∈ ofC rem c := by rw [h]; exact List.mem_cons_self
    obtain ⟨g1, g2⟩ := ofC_mem he
    cases j with
    | zero =>
      cases hj
      refine ⟨fun h => (by cases h), e, g1, rfl, by omega, fun x hx hlt hc => ?_⟩
      have hx2 : x ∈ ofC rem c := mem_ofC hx (hc.trans g2)
      have hs2 : ((ofC rem c).map (·.1)).Pairwise (· < ·) := hs.sublist (List.filter_sublist.map _)
      rw [h] at hx2 hs2
      rcases List.mem_cons.1 hx2 with rfl | hx3
      · omega
      · rw [List.map_cons, List.pairwise_cons] at hs2
        have := hs2.1 x.1 (List.mem_map.2 ⟨x, hx3, rfl⟩)
        omega
    | succ j =>
      obtain ⟨h1, e', h2, h3, h4, h5⟩ := ih (hs.sublist ((qDel_sub rem e.1).map _)) j n (by simpa using hj)
      have hne : n ≠ e.1 := by
        rw [← h3]
        unfold qDel at h2
        rw [List.mem_filter] at h2
        exact of_decide_eq_true h2.2
      refine ⟨?_, e', (qDel_sub rem e.1).subset h2, h3, h4, fun x hx hlt hc => ?_⟩
      · rw [List.take_succ_cons, List.mem_cons, not_or]
        exact ⟨hne, h1⟩
      · rw [List.take_succ_cons, List.mem_cons]
        by_cases hxe : x.1 = e.1
        · exact .inl hxe
        · exact .inr (h5 x (by unfold qDel; rw [List.mem_filter]; exact ⟨hx, decide_eq_true hxe⟩) hlt hc)
  | self h k ih => exact ih
theorem VicS.all {cap : Int} {cls : Nat} {size : Int} {rem : List QE} {inn own : Bool} {o : List Int} (h : VicS cap cls size rem inn o own) : (inn = false → ofC rem cls = []) → own = true → ∀ x ∈ rem, x.2.1 = (cls : Int) → x.1 ∈ o := by
  induction h with
  | @stop rem inn h =>
    intro h1 h2 x hx hc
    have := h1 (by cases inn <;> simp_all)
    have h3 := mem_ofC hx hc
    rw [this] at h3
    cases h3
  | @num rem inn c e es o own h k ih =>
    intro h1 h2 x hx hc
    rw [List.mem_cons]
    by_cases hxe : x.1 = e.1
    · exact .inl hxe
    · refine .inr (ih (fun hi => ?_) h2 x (by unfold qDel; rw [List.mem_filter]; exact ⟨hx, decide_eq_true hxe⟩) hc)
      have h3 := h1 hi
      refine List.eq_nil_iff_forall_not_mem.2 fun y hy => ?_
      have h4 := ofC_mem hy
      have h5 := mem_ofC ((qDel_sub rem e.1).subset h4.1) h4.2
      rw [h3] at h5
      cases h5
  | self h k ih =>
    intro h1 h2 x hx hc
    exact ih (fun _ => h) h2 x hx hc
/-- a map in which are these -/
def NM (M : List ME) (l : List Int) : Prop := ∀ n, mGet M n = if n ∈ l then some (.bool true) else none
theorem NM.nil : NM [] [] := fun n => by rw [if_neg (by simp)]; rfl
theorem NM.put {M : List ME} {l : List Int} (h : NM M l) (n : Int) (c : Nat) : NM (mPut M n (.bool true) c).1 (l ++ [n]) := fun m => by
  rw [mGet_put, h m]
  by_cases e : m = n
  · rw [if_pos e, if_pos (by rw [e]; simp)]
  · rw [if_neg e]
    by_cases hm : m ∈ l
    · rw [if_pos hm, if_pos (List.mem_append_left _ hm)]
    · rw [if_neg hm, if_neg (by rw [List.mem_append, List.mem_singleton]; exact fun h => h.elim hm e)]
theorem NM.val {M : List ME} {l : List Int} (h : NM M l) (n : Int) : (match mIdx n M 0 with | some (_, v) => (v, true) | none => (Value.bool false, false)).1 = Value.bool (decide (n ∈ l)) := by
  have h1 := h n
  unfold mGet at h1
  cases hm : mIdx n M 0 with
  | none =>
    rw [hm] at h1
    by_cases e : n ∈ l
    · rw [if_pos e] at h1; cases h1
    · rw [decide_eq_false e]
  | some p =>
    rw [hm] at h1
    by_cases e : n ∈ l
    · rw [if_pos e] at h1
      rw [decide_eq_true e]
      exact Option.some.inj h1
    · rw [if_neg e] at h1; cases h1
section
variable {qb : Nat} {cap last : Int} {ws : List Int} {L : List QE} {K : Nat} {w : World} {F : Nat → Prop}
theorem q_numbersR (h : (quA qb cap last ws L K).at_ w F (.bool true)) (hL : (L.map (·.1)).Pairwise (· < ·)) (hn : L.length ≤ 65535) : Calls Try.prog 31 #[qptr qb] w fun e w' => ∃ a c, e = .returned (.slice a L.length c) ∧ (0 < L.length → ∃ g, a = some ⟨g, 0, none⟩) ∧ Below w.heap.size w w' ∧ w'.ownsRow w.heap.size 59 1 (.slice a L.length c) L.length (L.map fun x : QE => .int .u64 x.1) := by
  refine (q_numbers h hL hn).mono fun e w' ⟨v, e1, hnil, h2⟩ => ?_
  have h9 : w'.ownsRow w.heap.size 59 1 v (L.map fun x : QE => x.1).length ((L.map fun x : QE => x.1).map (.int .u64)) := h2.own _ List.mem_cons_self
  rw [List.length_map, List.map_map] at h9
  have hb := h2.below (newrow h2 0 rfl (Nat.le_refl _) new_nil)
  rcases hnil with ⟨rfl, h0⟩ | ⟨g, c2, rfl, _⟩
  · have h00 : L.length = 0 := by rw [← List.length_map (f := fun x : QE => x.1), h0]; rfl
    exact ⟨none, 0, by rw [h00]; exact e1, fun h => by omega, hb, by rw [h00] at h9 ⊢; exact h9⟩
  · rw [List.length_map] at e1 h9
    exact ⟨_, _, e1, fun _ => ⟨g, rfl⟩, hb, h9⟩
end
theorem qPut_ok {cap last : Int} {ws : List Int} {L : List QE} (h : QOk cap last ws L) (hl0 : 0 ≤ last) {n k : Int} {zs : List Int} (hn : n ≤ 18446744073709551615) : QOk cap (qPut cap last ws L n k zs).2.1 ws (qPut cap last ws L n k zs).2.2 ∧ 0 ≤ (qPut cap last ws L n k zs).2.1 ∧ (qPut cap last ws L n k zs).2.2.length ≤ L.length + 1 := by
  unfold qPut
  split
  · rename_i ht
    unfold sright at ht
    simp only [Bool.and_eq_true, decide_eq_true_eq] at ht
    obtain ⟨⟨hk0, hk8, hz4⟩, hkw⟩ := ht
    split
    · exact ⟨h, hl0, Nat.le_succ _⟩
    · split
      · exact ⟨h, hl0, Nat.le_succ _⟩
      · have h1 : QOk cap n ws (L ++ [(n, k, zs)]) := h.snoc (by omega) hl0 hn ⟨hk0, hkw, hk8, hz4⟩
        exact ⟨h1, by show 0 ≤ n; omega, by simp⟩
  · exact ⟨h, hl0, Nat.le_succ _⟩
theorem qGot_mem {L : List QE} (hn : (L.map (·.1)).Nodup) {e : QE} (he : e ∈ L) : qGot L e.1 = (e.2.1, e.2.2, true) := by
  obtain ⟨i, hi⟩ := List.mem_iff_getElem?.1 he
  unfold qGot
  rw [qFind_at hn hi]
structure AgI where
  i : Nat
  L : List QE
  last : Int
  K : Nat
  F : Nat → Prop
structure AgOk (cap : Int) (ws : List Int) (W : World) (i : AgI) : Prop where
  ok : QOk cap i.last ws i.L
  l0 : 0 ≤ i.last
  len : i.L.length ≤ 40 ∧ i.L.length ≤ i.i
  k : i.K ≤ 40 ∧ i.K ≤ i.i
  new : ∀ k, i.F k → W.heap.size ≤ k
set_option maxHeartbeats 16000000 in
theorem queueAges_walk (cp : Int) (v1 : Value) (wz : List Int) (v2 : Value) (ss : List (Int × List Int)) (v3 : Value) (sx : Int × List Int) (W : World) (hcp : Fits .u16 cp) (h1 : (Rslice (Rint .u8)).val W TT v1 wz) (h2 : (Rslice Rspan).val W TT v2 ss) (h3 : Rspan.val W TT v3 sx) :
    Calls Try.prog 8 #[.int .u16 cp, v1, v2, v3] W fun e w' => e = .returned (.bool true) ∧ Below W.heap.size W w' := by
  obtain ⟨a1, n1, c1, rfl, hx1⟩ := SlR.form h1
  obtain ⟨a2, n2, c2, rfl, hx2⟩ := SlR.form h2
  obtain ⟨kx, zx⟩ := sx
  obtain ⟨ax, nx, cx, rfl, hkx, hxx⟩ := span_form h3
  obtain rfl := hx1.len
  obtain rfl := hx2.len
  obtain rfl := hxx.len
  dsimp only at *
  have hcp' := fits_u16 hcp
  have hI := hx1.ints
  have hmx2 := hx2.max
  have hcp2 := hx2.cap
  simp only [maxLen] at hmx2
  have hrw : rightW (wOf wz) := wOf_right fun x hx => by have := fits_u8 (hI.fits x hx); omega
  obtain ⟨ws, hws⟩ : ∃ ws, ws = wOf wz := ⟨_, rfl⟩
  rw [← hws] at hrw
  have hws1 := hrw.1
  have hws8 := hrw.2.1
  obtain ⟨cap, hcap⟩ : ∃ c : Int, c = 1 + cp % 600 := ⟨_, rfl⟩
  have hc0 : 1 ≤ cap ∧ cap ≤ 600 := by omega
  have hqr : qRight cap ws = true := by unfold qRight; rw [decide_eq_true hrw, decide_eq_true (by omega)]; rfl
  have hcap40 : (0 : Int) ≤ cap ∧ cap ≤ 1099511627776 := by omega
  refine enter4 Try.func8 rfl rfl (Hp.refl W) ?_
  repeat (first | refine T_seq ?_ | refine T_region ?_)
  refine S_new tabOk rfl (fun b7 hb7 => ?_)
  repeat (first | refine T_seq ?_ | refine T_region ?_ | refine S_nil ?_ | refine S_pure tabOk rfl ?_)
  refine S_callq (v := .bool true) rfl Try.call24 (fun w1 h1 => awake9_ok w1) ?_
  repeat (first | refine S_nil ?_ | refine S_pure tabOk rfl ?_)
  refine T_cond_f rfl ?_
  repeat (first | refine T_seq ?_ | refine T_region ?_ | refine pthen_normal ?_ | refine T_skip ?_ | refine S_pure tabOk rfl ?_)
  refine S_q (Q_rem0 rfl rfl rfl (by decide) hcp'.1) ?_
  repeat (first | refine S_i64 tabOk rfl (by omega) ?_ | refine S_pure tabOk rfl ?_)
  rw [← hcap]
  refine S_callrow rfl Try.call26 (fun w1 h1 => weights9_ok a1 wz.length c1 wz w1 (ints_ext hI (h1.below (by repeat (first | exact new_nil | refine new_cons (by first | assumption | omega) ?_))))) (fun aw cw hcw hdw => ?_)
  rw [← hws]
  refine S_callN rfl Try.call25 (fun w1 h1 => (q_newY (ints_own (h1.own _ (getE_mem (i := 0) rfl)) (fun z hz => mk_i64 (by have := hrw.2.2 z hz; omega))) hqr).mono fun e w' ⟨qb, F, e1, hF, h2⟩ => ⟨_, _, F, e1, h2, hF, fun hFn => ?_⟩)
  repeat (first | refine T_seq ?_ | refine T_region ?_ | refine S_nil ?_ | refine S_pure tabOk rfl ?_)
  let O1 : AgI → OL := fun i => [.rep (fun w => (quA qb cap i.last ws i.L i.K).at_ w i.F (.bool true)) i.F true, .blk b7 (.cells ⟨[.int .i64 kx, .slice ax zx.length cx]⟩ 52 (0, 0)) true]
  refine T_cut (ι := AgI) (fun i => i.L.length ≤ 40 ∧ QOk cap i.last ws i.L ∧ ∀ k, i.F k → W.heap.size ≤ k) (fun _ => [(7, .pointer (some ⟨b7, 0, none⟩)), (9, qptr qb)]) O1 ?_ ?_
  · refine T_block ?_
    refine T_loop (ι := AgI) (fun i => [(7, .pointer (some ⟨b7, 0, none⟩)), (9, qptr qb), (41, .slice a2 ss.length c2), (42, .int .i64 (ss.length : Int)), (43, .int .i64 (i.i : Int))]) O1 (fun i => i.i ≤ ss.length ∧ AgOk cap ws W i) (fun i => ss.length - i.i) ⟨0, [], 0, 0, F⟩ ⟨Nat.zero_le _, QOk.nil _ _, Int.le_refl _, ⟨Nat.zero_le _, Nat.le_refl _⟩, ⟨Nat.zero_le _, Nat.le_refl _⟩, hFn⟩ (by repeat (first | exact Sub.nil | refine Sub.cons rfl ?_)) (fun w' hw => hw.less (by repeat (first | exact Less.nil | refine Less.keep ?_ | refine Less.dropW (Nat.le_refl _) ?_))) ?_
    rintro ⟨i, L, last, K, F1⟩ ⟨hi, hB⟩
    obtain ⟨hok, hl0, hlen, hK, hFn1⟩ := hB
    dsimp only [O1] at hi hok hl0 hlen hK hFn1 ⊢
    repeat (first | refine T_seq ?_ | refine T_region ?_ | refine S_nil ?_ | refine S_pure tabOk rfl ?_)
    refine T_cond_dec rfl (fun hlt => ?_) (fun hge => ?_)
    rotate_left
    · repeat (first | refine pthen_normal ?_ | refine inb_hit ?_ | refine pthen_exit ?_ | refine T_exit ?_)
      exact ⟨⟨i, L, last, K, F1⟩, ⟨hlen.1, hok, hFn1⟩, by repeat (first | exact Sub.nil | refine Sub.cons rfl ?_), fun w' hw => hw⟩
    have hi' : i < ss.length := by omega
    obtain ⟨ab, off, cs, rfl, hlt2, hat, hcl, hce, _⟩ := hx2.get_ hi'
    obtain ⟨_, _, rfl, ⟨rfl, hk⟩, a0, n0, c0, rfl, hz⟩ := hat
    generalize ss[i] = sp at *
    obtain ⟨k, zs⟩ := sp
    obtain rfl := hz.len
    dsimp only at *
    repeat (first | refine T_seq ?_ | refine T_region ?_ | refine T_block ?_ | refine pthen_normal ?_ | refine T_skip ?_ | refine S_pure tabOk rfl ?_)
    refine S_q (Q_idx (sz := 2) tabOk rfl rfl rfl rfl rfl rfl rfl (j := i) rfl (by omega)) ?_
    refine S_loadN tabOk (vs := [.int .i64 k, .slice a0 zs.length c0]) rfl rfl rfl (fun w' hw jj u hu => by
      rw [Addr.add_lit]
      exact (World.cell?_of_block (w := W) (a := ⟨ab, off + i * 2 + jj, none⟩) ((hw.below (by repeat (first | exact new_nil | refine new_rx (by assumption) ?_ | refine new_cons (by first | assumption | omega) ?_))).block ab hlt2)).trans (hce jj u hu)) ?_
    refine S_new tabOk rfl (fun b12 hb12 => ?_)
    repeat (first | refine T_seq ?_ | refine T_region ?_ | refine S_nil ?_ | refine S_pure tabOk rfl ?_ | refine S_store tabOk 0 rfl rfl rfl rfl rfl rfl ?_)
    refine T_cond_dec rfl (fun h40 => ?_) (fun h40 => ?_)
    rotate_left
    · repeat (first | refine T_region ?_ | refine S_nil ?_ | refine pthen_normal ?_ | refine inb_normal ?_ | refine T_skip ?_ | refine S_i64 tabOk rfl (by omega) ?_ | refine S_pure tabOk rfl ?_)
      exact ⟨⟨i + 1, L, last, K, F1⟩, ⟨by show i + 1 ≤ ss.length; omega, hok, hl0, ⟨hlen.1, by show L.length ≤ i + 1; omega⟩, ⟨hK.1, by show K ≤ i + 1; omega⟩, hFn1⟩, by dsimp only; repeat (first | exact Sub.nil | refine Sub.cons rfl ?_), fun w' hw => hw.less (by repeat (first | exact Less.nil | refine Less.keep ?_ | refine Less.dropB (by first | assumption | omega) ?_)), by dsimp only; omega⟩
    repeat (first | refine S_u64 tabOk rfl (by omega) ?_ | refine S_pure tabOk rfl ?_ | refine T_region_any ?_ | refine S_load tabOk 0 rfl rfl rfl ?_)
    refine S_call rfl Try.call28 (fun w1 h1 => (few9_ok k a0 zs.length c0 zs w1 (ints_ext hz.ints (h1.below (by repeat (first | exact new_nil | refine new_rx (by assumption) ?_ | refine new_cons (by first | assumption | omega) ?_))))).mono fun e w' ⟨a3, c3, e1, hb, hr⟩ => ⟨_, _, e1, h1.fresh hb (x := .row W.heap.size (.slice a3 (zs.take 60).length c3) 5 1 (zs.take 60).length ((zs.take 60).map (.int .u8))) (own_rebase hr h1.size) (fun j hj => (World.ownsRow.lt hr j hj).1), ?_⟩)
    have hzf : ∀ z ∈ zs.take 60, Fits .u8 z := fun z hz' => hz.ints.fits z (List.mem_of_mem_take hz')
    have hzl : (zs.take 60).length ≤ 60 := by rw [List.length_take]; omega
    generalize zs.take 60 = zt at *
    refine S_callT 2 rfl Try.call27 rfl (fun w1 g => ?_)
    have hap := (g.pm [0, 2, 1] rfl rfl rfl).apart
    have hA : ∀ j, (Value.slice a3 zt.length c3).ownBlock = some j → ¬ F1 j := fun j hj hf => (List.pairwise_cons.1 hap).1 _ List.mem_cons_self rfl j hj hf
    have hs1 := g.size
    have h9 := q_put (n := (i : Int) + 1) (k := k) (g.own _ (getE_mem (i := 2) rfl)).1 (g.own _ (getE_mem (i := 2) rfl)).2.2 hok (by omega) hws8 (by omega) hcap40 hl0 (by omega) (SlR.of_ints (A := fun j => (Value.slice a3 zt.length c3).ownBlock = some j) (ints_own (g.own _ (getE_mem (i := 0) rfl)) hzf) (fun b off h0 e => by rw [e]; rfl)) hA
    obtain ⟨hok2, hl2, hlen2⟩ := qPut_ok (n := (i : Int) + 1) (k := k) (zs := zt) hok hl0 (by omega)
    generalize qPut cap last ws L ((i : Int) + 1) k zt = qp at *
    obtain ⟨E, last2, L2⟩ := qp
    dsimp only at h9 hok2 hl2 hlen2
    refine h9.mono fun e w' ⟨he, F', f1, f2, g2⟩ => ⟨_, _, F', he, g2, f1, f2, _, rfl, ?_⟩
    have hFn' : ∀ k, F' k → W.heap.size ≤ k := fun k hk => (f2 k hk).elim (hFn1 k) (fun h => Nat.le_trans hs1 h)
    clear h9 g hA hap
    repeat (first | refine T_region ?_ | refine S_nil ?_ | refine pthen_normal ?_ | refine inb_normal ?_ | refine S_i64 tabOk rfl (by omega) ?_ | refine S_pure tabOk rfl ?_)
    exact ⟨⟨i + 1, L2, last2, K + 1, F'⟩, ⟨by show i + 1 ≤ ss.length; omega, hok2, hl2, ⟨by show L2.length ≤ 40; omega, by show L2.length ≤ i + 1; omega⟩, ⟨by show K + 1 ≤ 40; omega, by show K + 1 ≤ i + 1; omega⟩, hFn'⟩, by dsimp only; repeat (first | exact Sub.nil | refine Sub.cons rfl ?_), fun w' hw => hw.less (by repeat (first | exact Less.nil | refine Less.keep ?_ | refine Less.dropB (by first | assumption | omega) ?_ | refine Less.dropW (Nat.le_refl _) ?_)), by dsimp only; omega⟩
  rintro ⟨_, L, last, K, F1⟩ ⟨hlen, hok, hFn1⟩
  dsimp only [O1] at hlen hok hFn1 ⊢
  clear O1
  repeat (first | refine T_seq ?_ | refine T_region ?_ | refine S_load tabOk 1 rfl rfl rfl ?_)
  refine S_call rfl Try.call28 (fun w1 h1 => (few9_ok kx ax zx.length cx zx w1 (ints_ext hxx.ints (h1.below (by repeat (first | exact new_nil | refine new_rx (by assumption) ?_ | refine new_cons (by first | assumption | omega) ?_))))).mono fun e w' ⟨a3, c3, e1, hb, hr⟩ => ⟨_, _, e1, h1.fresh hb (x := .row W.heap.size (.slice a3 (zx.take 60).length c3) 5 1 (zx.take 60).length ((zx.take 60).map (.int .u8))) (own_rebase hr h1.size) (fun j hj => (World.ownsRow.lt hr j hj).1), ?_⟩)
  have hzf : ∀ z ∈ zx.take 60, Fits .u8 z := fun z hz' => hxx.ints.fits z (List.mem_of_mem_take hz')
  have hzl : (zx.take 60).length ≤ 60 := by rw [List.length_take]; omega
  generalize zx.take 60 = zt at *
  have hclsOk : ∀ x ∈ L, 0 ≤ x.2.1 ∧ x.2.1 < (ws.length : Int) := fun x hx => ⟨(hok.cls x hx).1, (hok.cls x hx).2.1⟩
  repeat (first | refine T_seq ?_ | refine T_region ?_ | refine S_nil ?_ | refine S_pure tabOk rfl ?_ | refine S_load tabOk 2 rfl rfl rfl ?_ | refine S_store tabOk 2 rfl rfl rfl rfl rfl rfl ?_)
  refine S_call rfl Try.call29 (fun w1 g => (q_victims (k := kx) (g.own _ (getE_mem (i := 1) rfl)).1 hok (by omega) hrw hcap40 (SlR.of_ints (A := fun j => (Value.slice a3 zt.length c3).ownBlock = some j) (ints_own (g.own _ (getE_mem (i := 0) rfl)) hzf) (fun b off h0 e => by rw [e]; rfl))).mono fun e w' ⟨o, E, a4, c4, e1, hb, hr, hv⟩ => ⟨_, _, e1, g.fresh hb (x := .row W.heap.size (.slice a4 o.1.length c4) 59 1 o.1.length (o.1.map (.int .u64))) (own_rebase hr g.size) (fun j hj => (World.ownsRow.lt hr j hj).1), ?_⟩)
  obtain ⟨o, own⟩ := o
  unfold VicP at hv
  by_cases hE : ¬ ((sright kx zt.length && decide (kx < (ws.length : Int))) = true ∧ ¬ cap < (zt.length : Int) + 16)
  · obtain ⟨e2, hE0⟩ : (o, own) = ([], false) ∧ E ≠ 0 := by
      by_cases htk : (sright kx zt.length && decide (kx < (ws.length : Int))) = true
      · rw [if_pos htk] at hv
        rw [if_pos (Decidable.not_not.1 fun h => hE ⟨htk, h⟩)] at hv
        exact ⟨hv.1, by rw [hv.2]; decide⟩
      · rw [if_neg htk] at hv
        exact ⟨hv.1, by rw [hv.2]; decide⟩
    cases e2
    dsimp only
    repeat (first | refine T_seq ?_ | refine T_region ?_ | refine S_nil ?_ | refine S_pure tabOk rfl ?_)
    refine T_cond_dec rfl (fun _ => ?_) (fun h => absurd hE0 h)
    repeat (first | refine T_seq ?_ | refine T_region ?_ | refine S_nil ?_ | refine pthen_ret ?_ | refine T_ret ?_ | refine S_pure tabOk rfl ?_)
    exact ret1 rfl rfl (fun w' hw => ⟨rfl, hw.below (by repeat (first | exact new_nil | refine new_rx (by assumption) ?_ | refine new_cons (by first | assumption | omega) ?_ | refine newrow hw 0 rfl (Nat.le_refl _) ?_ | refine newrow hw 1 rfl (Nat.le_refl _) ?_))⟩)
  obtain ⟨htk, hlo⟩ := Decidable.not_not.1 hE
  rw [if_pos htk, if_neg hlo] at hv
  obtain ⟨rfl, hvr⟩ := hv
  have htk2 := htk
  unfold sright at htk2
  simp only [Bool.and_eq_true, decide_eq_true_eq] at htk2
  obtain ⟨⟨hk0, hk8, hz4⟩, hkw⟩ := htk2
  obtain ⟨cls, hcls⟩ : ∃ cls : Nat, (cls : Int) = kx := ⟨kx.toNat, by omega⟩
  have hS0 : VicS cap cls ((zt.length : Int) + 16) L true o own := VicR.vicS (o := (o, own)) (by omega) hok.nodup hclsOk (by rw [hcls]; exact hvr)
  have hol := hS0.len
  have hag := hS0.ages hok.srt
  have hal := hS0.all (fun h => by cases h)
  dsimp only
  repeat (first | refine T_seq ?_ | refine T_region ?_ | refine S_nil ?_ | refine S_pure tabOk rfl ?_)
  refine T_cond_f rfl ?_
  repeat (first | refine T_seq ?_ | refine T_region ?_ | refine pthen_normal ?_ | refine T_skip ?_)
  refine S_makemap rfl .u64 (fun bm hbm => ?_)
  repeat (first | refine T_seq ?_ | refine T_region ?_ | refine S_nil ?_ | refine S_pure tabOk rfl ?_)
  let O2 : List ME × Nat → OL := fun y => [.blk bm (mapO .u64 y.1 y.2) true, .row W.heap.size (.slice a4 o.length c4) 59 1 o.length (o.map (.int .u64)), .rep (fun w => (quA qb cap last ws L K).at_ w F1 (.bool true)) F1 true, .blk b7 (.cells ⟨[.int .i64 kx, .slice a3 zt.length c3]⟩ 52 (0, 0)) true]
  refine T_cut (ι := List ME × Nat) (fun y => NM y.1 o) (fun _ => [(7, .pointer (some ⟨b7, 0, none⟩)), (9, qptr qb), (14, .bool own), (16, .map (some bm))]) O2 ?_ ?_
  · refine T_block ?_
    refine T_loop (ι := Nat × List ME × Nat) (fun y => [(7, .pointer (some ⟨b7, 0, none⟩)), (9, qptr qb), (14, .bool own), (16, .map (some bm)), (77, .slice a4 o.length c4), (78, .int .i64 (o.length : Int)), (79, .int .i64 (y.1 : Int))]) (fun y => O2 y.2) (fun y => y.1 ≤ o.length ∧ NM y.2.1 (o.take y.1)) (fun y => o.length - y.1) (0, [], 0) ⟨Nat.zero_le _, NM.nil⟩ (by repeat (first | exact Sub.nil | refine Sub.cons rfl ?_)) (fun w' hw => hw.less (by repeat (first | exact Less.nil | refine Less.keep ?_ | refine Less.dropW (Nat.le_refl _) ?_))) ?_
    rintro ⟨j, M, cM⟩ ⟨hj, hNM⟩
    dsimp only [O2] at hj hNM ⊢
    repeat (first | refine T_seq ?_ | refine T_region ?_ | refine S_nil ?_ | refine S_pure tabOk rfl ?_)
    refine T_cond_dec rfl (fun hlt => ?_) (fun hge => ?_)
    rotate_left
    · repeat (first | refine pthen_normal ?_ | refine inb_hit ?_ | refine pthen_exit ?_ | refine T_exit ?_)
      have hjz : j = o.length := by omega
      subst hjz
      rw [List.take_length] at hNM
      exact ⟨(M, cM), hNM, by repeat (first | exact Sub.nil | refine Sub.cons rfl ?_), fun w' hw => hw⟩
    obtain ⟨n, hn⟩ : ∃ n, o[j]? = some n := ⟨_, List.getElem?_eq_getElem (by omega)⟩
    obtain ⟨hnew, e9, he9, rfl, he0, hel⟩ := hag j n hn
    have hgot := qGot_mem hok.nodup he9
    repeat (first | refine T_seq ?_ | refine T_region ?_ | refine T_block ?_ | refine pthen_normal ?_ | refine T_skip ?_)
    refine S_rowA 1 rfl (by omega) (fun g4 hg4 => ?_)
    subst hg4
    refine S_q (Q_idx1 tabOk rfl rfl rfl rfl rfl rfl rfl (j := j) rfl (by omega)) ?_
    refine S_load1 tabOk (v := .int .u64 e9.1) rfl rfl (fun w' hw => by
      rw [Nat.zero_add]
      exact own_cell (hw.own _ (getE_mem (i := 1) rfl)) (by omega) (by rw [List.getElem?_map, hn]; rfl)) ?_
    repeat (first | refine T_seq ?_ | refine T_region ?_ | refine S_nil ?_ | refine S_pure tabOk rfl ?_)
    refine S_call rfl Try.call30 (fun w1 g => ?_)
    have hd := q_get (g.own _ (getE_mem (i := 2) rfl)).1 hok e9.1
    rw [hgot] at hd
    refine hd.mono fun e w' ⟨a5, c5, e1, hb, hr⟩ => ⟨_, _, e1, g.fresh hb (x := .row W.heap.size (.slice a5 e9.2.2.length c5) 5 1 e9.2.2.length (e9.2.2.map (.int .u8))) (own_rebase hr g.size) (fun j hj => (World.ownsRow.lt hr j hj).1), ?_⟩
    clear g hd
    dsimp only
    repeat (first | refine S_pure tabOk rfl ?_)
    refine S_new tabOk rfl (fun b19 hb19 => ?_)
    repeat (first | refine T_seq ?_ | refine T_region ?_ | refine S_nil ?_ | refine S_pure tabOk rfl ?_ | refine S_store tabOk 0 rfl rfl rfl rfl rfl rfl ?_)
    refine S_q ((Q_lookup (M := M) (c := cM) (b := bm) (κ := .u64) tabOk rfl rfl rfl rfl rfl rfl rfl rfl (fun w' hw => by exact hw.own _ (getE_mem (i := 2) rfl))).eq (v' := .bool false) (by
      have h5 := hNM.val e9.1
      rw [decide_eq_false hnew] at h5
      cases hmi : mIdx e9.1 M 0 with
      | none => rfl
      | some y => rw [hmi] at h5; exact h5)) ?_
    repeat (first | refine S_nil ?_ | refine S_pure tabOk rfl ?_)
    refine T_cond_f rfl ?_
    repeat (first | refine T_seq ?_ | refine T_region ?_ | refine pthen_normal ?_ | refine T_skip ?_ | refine S_pure tabOk rfl ?_)
    refine S_call rfl Try.call31 (fun w1 g => (q_numbersR (g.own _ (getE_mem (i := 4) rfl)).1 hok.srt (by omega)).mono fun e w' ⟨an, cn, e1, hcn, hb, hr⟩ => ⟨_, _, e1, g.fresh hb (x := .row W.heap.size (.slice an L.length cn) 59 1 L.length (L.map fun x : QE => .int .u64 x.1)) (own_rebase hr g.size) (fun j hj => (World.ownsRow.lt hr j hj).1), ?_⟩)
    repeat (first | refine S_nil ?_ | refine S_pure tabOk rfl ?_)
    refine T_asThen ?_
    refine T_cut (ι := Unit) (fun _ => True) (fun _ => [(7, .pointer (some ⟨b7, 0, none⟩)), (9, qptr qb), (14, .bool own), (16, .map (some bm)), (18, .int .u64 e9.1), (19, .pointer (some ⟨b19, 0, none⟩)), (77, .slice (some ⟨g4, 0, none⟩) o.length c4), (78, .int .i64 (o.length : Int)), (79, .int .i64 (j : Int))]) (fun _ => [.blk b19 (.cells ⟨[.int .i64 e9.2.1, .slice a5 e9.2.2.length c5]⟩ 52 (0, 0)) true, .blk bm (mapO .u64 M cM) true, .row W.heap.size (.slice (some ⟨g4, 0, none⟩) o.length c4) 59 1 o.length (o.map (.int .u64)), .rep (fun w => (quA qb cap last ws L K).at_ w F1 (.bool true)) F1 true, .blk b7 (.cells ⟨[.int .i64 kx, .slice a3 zt.length c3]⟩ 52 (0, 0)) true]) ?_ ?_
    · refine T_block ?_
      refine T_loop (ι := Nat) (fun i => [(7, .pointer (some ⟨b7, 0, none⟩)), (9, qptr qb), (14, .bool own), (16, .map (some bm)), (18, .int .u64 e9.1), (19, .pointer (some ⟨b19, 0, none⟩)), (77, .slice (some ⟨g4, 0, none⟩) o.length c4), (78, .int .i64 (o.length : Int)), (79, .int .i64 (j : Int)), (97, .slice an L.length cn), (98, .int .i64 (L.length : Int)), (99, .int .i64 (i : Int))]) (fun _ => [.row W.heap.size (.slice an L.length cn) 59 1 L.length (L.map fun x : QE => .int .u64 x.1), .blk b19 (.cells ⟨[.int .i64 e9.2.1, .slice a5 e9.2.2.length c5]⟩ 52 (0, 0)) true, .blk bm (mapO .u64 M cM) true, .row W.heap.size (.slice (some ⟨g4, 0, none⟩) o.length c4) 59 1 o.length (o.map (.int .u64)), .rep (fun w => (quA qb cap last ws L K).at_ w F1 (.bool true)) F1 true, .blk b7 (.cells ⟨[.int .i64 kx, .slice a3 zt.length c3]⟩ 52 (0, 0)) true]) (fun i => i ≤ L.length) (fun i => L.length - i) 0 (Nat.zero_le _) (by repeat (first | exact Sub.nil | refine Sub.cons rfl ?_)) (fun w' hw => hw.less (by repeat (first | exact Less.nil | refine Less.keep ?_ | refine Less.dropW (Nat.le_refl _) ?_))) ?_
      intro i hi
      repeat (first | refine T_seq ?_ | refine T_region ?_ | refine S_nil ?_ | refine S_pure tabOk rfl ?_)
      refine T_cond_dec rfl (fun hlt2 => ?_) (fun hge2 => ?_)
      rotate_left
      · repeat (first | refine pthen_normal ?_ | refine inb_hit ?_ | refine pthen_exit ?_ | refine T_exit ?_)
        exact ⟨(), trivial, by repeat (first | exact Sub.nil | refine Sub.cons rfl ?_), fun w' hw => hw.less (by repeat (first | exact Less.nil | refine Less.keep ?_ | refine Less.dropW (Nat.le_refl _) ?_))⟩
      obtain ⟨gn, rfl⟩ := hcn (by omega)
      obtain ⟨x, hx⟩ : ∃ x, L[i]? = some x := ⟨_, List.getElem?_eq_getElem (by omega)⟩
      have hxm := List.mem_of_getElem? hx
      have hgx := qGot_mem hok.nodup hxm
      repeat (first | refine T_seq ?_ | refine T_region ?_ | refine T_block ?_ | refine pthen_normal ?_ | refine T_skip ?_)
      refine S_q (Q_idx1 tabOk rfl rfl rfl rfl rfl rfl rfl (j := i) rfl (by omega)) ?_
      refine S_load1 tabOk (v := .int .u64 x.1) rfl rfl (fun w' hw => by
        rw [Nat.zero_add]
        exact own_cell (hw.own _ (getE_mem (i := 0) rfl)) (by omega) (by rw [List.getElem?_map, hx]; rfl)) ?_
      repeat (first | refine T_seq ?_ | refine T_region ?_ | refine S_nil ?_ | refine S_pure tabOk rfl ?_)
      refine S_call rfl Try.call30 (fun w1 g => ?_)
      have hd := q_get (g.own _ (getE_mem (i := 4) rfl)).1 hok x.1
      rw [hgx] at hd
      refine hd.mono fun e w' ⟨a6, c6, e1, hb, hr⟩ => ⟨_, _, e1, g.fresh hb (x := .row W.heap.size (.slice a6 x.2.2.length c6) 5 1 x.2.2.length (x.2.2.map (.int .u8))) (own_rebase hr g.size) (fun j hj => (World.ownsRow.lt hr j hj).1), ?_⟩
      clear g hd
      dsimp only
      repeat (first | refine S_pure tabOk rfl ?_)
      refine S_new tabOk rfl (fun b23 hb23 => ?_)
      repeat (first | refine T_seq ?_ | refine T_region ?_ | refine S_nil ?_ | refine S_pure tabOk rfl ?_ | refine S_store tabOk 0 rfl rfl rfl rfl rfl rfl ?_)
      by_cases h3 : x.1 < e9.1
      · refine S_re 112 (v' := .bool true) rfl (congrArg Value.bool (decide_eq_true h3)) ?_
        repeat (first | refine S_pure tabOk rfl ?_ | refine S_load tabOk 0 rfl rfl rfl ?_ | refine S_load tabOk 3 rfl rfl rfl ?_)
        by_cases h4 : x.2.1 = e9.2.1
        · refine S_re 119 (v' := .bool true) rfl (congrArg Value.bool (decide_eq_true h4)) ?_
          repeat (first | refine S_pure tabOk rfl ?_)
          refine S_q ((Q_lookup (M := M) (c := cM) (b := bm) (κ := .u64) tabOk rfl rfl rfl rfl rfl rfl rfl rfl (fun w' hw => by exact hw.own _ (getE_mem (i := 4) rfl))).eq (v' := .bool true) (by
            have h5 := hNM.val x.1
            rw [decide_eq_true (hel x hxm h3 h4)] at h5
            cases hmi : mIdx x.1 M 0 with
            | none => rw [hmi] at h5; cases h5
            | some y => rw [hmi] at h5; exact h5)) ?_
          repeat (first | refine S_nil ?_ | refine S_pure tabOk rfl ?_)
          refine T_cond_f rfl ?_
          repeat (first | refine T_region ?_ | refine S_nil ?_ | refine pthen_normal ?_ | refine inb_normal ?_ | refine T_skip ?_ | refine S_i64 tabOk rfl (by omega) ?_ | refine S_pure tabOk rfl ?_)
          exact ⟨i + 1, by omega, by repeat (first | exact Sub.nil | refine Sub.cons rfl ?_), fun w' hw => hw.less (by repeat (first | exact Less.nil | refine Less.keep ?_ | refine Less.dropB (by first | assumption | omega) ?_ | refine Less.dropW (Nat.le_refl _) ?_)), by omega⟩
        · refine S_re 119 (v' := .bool false) rfl (congrArg Value.bool (decide_eq_false h4)) ?_
          repeat (first | refine S_nil ?_ | refine S_pure tabOk rfl ?_ | refine S_pass rfl rfl rfl ?_)
          refine T_cond_f rfl ?_
          repeat (first | refine T_region ?_ | refine S_nil ?_ | refine pthen_normal ?_ | refine inb_normal ?_ | refine T_skip ?_ | refine S_i64 tabOk rfl (by omega) ?_ | refine S_pure tabOk rfl ?_)
          exact ⟨i + 1, by omega, by repeat (first | exact Sub.nil | refine Sub.cons rfl ?_), fun w' hw => hw.less (by repeat (first | exact Less.nil | refine Less.keep ?_ | refine Less.dropB (by first | assumption | omega) ?_ | refine Less.dropW (Nat.le_refl _) ?_)), by omega⟩
      · refine S_re 112 (v' := .bool false) rfl (congrArg Value.bool (decide_eq_false h3)) ?_
        repeat (first | refine S_nil ?_ | refine S_pure tabOk rfl ?_ | refine S_pass rfl rfl rfl ?_)
        refine T_cond_f rfl ?_
        repeat (first | refine T_region ?_ | refine S_nil ?_ | refine pthen_normal ?_ | refine inb_normal ?_ | refine T_skip ?_ | refine S_i64 tabOk rfl (by omega) ?_ | refine S_pure tabOk rfl ?_)
        exact ⟨i + 1, by omega, by repeat (first | exact Sub.nil | refine Sub.cons rfl ?_), fun w' hw => hw.less (by repeat (first | exact Less.nil | refine Less.keep ?_ | refine Less.dropB (by first | assumption | omega) ?_ | refine Less.dropW (Nat.le_refl _) ?_)), by omega⟩
    rintro _ _
    repeat (first | refine pthen_normal ?_ | refine S_pure tabOk rfl ?_ | refine T_region_any ?_)
    refine S_mapupd tabOk 1 rfl rfl rfl rfl rfl rfl rfl rfl rfl rfl ?_
    have ht : o.take (j + 1) = o.take j ++ [e9.1] := by
      rw [List.take_succ_eq_append_getElem (by omega)]
      rw [List.getElem?_eq_getElem (by omega)] at hn
      rw [Option.some.inj hn]
    repeat (first | refine T_region ?_ | refine S_nil ?_ | refine pthen_normal ?_ | refine inb_normal ?_ | refine S_i64 tabOk rfl (by omega) ?_ | refine S_pure tabOk rfl ?_)
    exact ⟨(j + 1, (mPut M e9.1 (.bool true) cM).1, (mPut M e9.1 (.bool true) cM).2), ⟨by show j + 1 ≤ o.length; omega, by show NM (mPut M e9.1 (.bool true) cM).1 (o.take (j + 1)); rw [ht]; exact hNM.put e9.1 cM⟩, by dsimp only; repeat (first | exact Sub.nil | refine Sub.cons rfl ?_), fun w' hw => hw.less (by repeat (first | exact Less.nil | refine Less.keep ?_ | refine Less.dropB (by first | assumption | omega) ?_)), by dsimp only; omega⟩
  · rintro ⟨M, cM⟩ hNM
    dsimp only [O2] at hNM ⊢
    clear O2
    repeat (first | refine T_seq ?_ | refine T_region ?_ | refine S_nil ?_ | refine S_pure tabOk rfl ?_)
    cases own with
    | false =>
      refine T_cond_t rfl ?_
      repeat (first | refine T_seq ?_ | refine T_region ?_ | refine S_nil ?_ | refine pthen_ret ?_ | refine T_ret ?_ | refine S_pure tabOk rfl ?_)
      exact ret1 rfl rfl (fun w' hw => ⟨rfl, hw.below (by repeat (first | exact new_nil | refine new_rx (by assumption) ?_ | refine new_cons (by first | assumption | omega) ?_ | refine newrow hw 1 rfl (Nat.le_refl _) ?_))⟩)
    | true =>
    have hal2 := hal rfl
    refine T_cond_f rfl ?_
    repeat (first | refine T_seq ?_ | refine T_region ?_ | refine pthen_normal ?_ | refine T_skip ?_ | refine S_pure tabOk rfl ?_)
    refine S_call rfl Try.call31 (fun w1 g => (q_numbersR (g.own _ (getE_mem (i := 2) rfl)).1 hok.srt (by omega)).mono fun e w' ⟨an, cn, e1, hcn, hb, hr⟩ => ⟨_, _, e1, g.fresh hb (x := .row W.heap.size (.slice an L.length cn) 59 1 L.length (L.map fun x : QE => .int .u64 x.1)) (own_rebase hr g.size) (fun j hj => (World.ownsRow.lt hr j hj).1), ?_⟩)
    repeat (first | refine S_nil ?_ | refine S_pure tabOk rfl ?_)
    refine T_asThen ?_
    refine T_cut (ι := Unit) (fun _ => True) (fun _ => []) (fun _ => []) ?_ ?_
    · refine T_block ?_
      refine T_loop (ι := Nat) (fun i => [(7, .pointer (some ⟨b7, 0, none⟩)), (9, qptr qb), (16, .map (some bm)), (132, .slice an L.length cn), (133, .int .i64 (L.length : Int)), (134, .int .i64 (i : Int))]) (fun _ => .row W.heap.size (.slice an L.length cn) 59 1 L.length (L.map fun x : QE => .int .u64 x.1) :: [.blk bm (mapO .u64 M cM) true, .row W.heap.size (.slice a4 o.length c4) 59 1 o.length (o.map (.int .u64)), .rep (fun w => (quA qb cap last ws L K).at_ w F1 (.bool true)) F1 true, .blk b7 (.cells ⟨[.int .i64 kx, .slice a3 zt.length c3]⟩ 52 (0, 0)) true]) (fun i => i ≤ L.length) (fun i => L.length - i) 0 (Nat.zero_le _) (by repeat (first | exact Sub.nil | refine Sub.cons rfl ?_)) (fun w' hw => hw) ?_
      intro i hi
      repeat (first | refine T_seq ?_ | refine T_region ?_ | refine S_nil ?_ | refine S_pure tabOk rfl ?_)
      refine T_cond_dec rfl (fun hlt2 => ?_) (fun hge2 => ?_)
      rotate_left
      · repeat (first | refine pthen_normal ?_ | refine inb_hit ?_ | refine pthen_exit ?_ | refine T_exit ?_)
        exact ⟨(), trivial, by repeat (first | exact Sub.nil), fun w' hw => hw.fewer (by repeat (first | exact new_nil | refine new_rx (by assumption) ?_ | refine new_cons (by first | assumption | omega) ?_ | refine newrow hw 0 rfl (Nat.le_refl _) ?_ | refine newrow hw 2 rfl (Nat.le_refl _) ?_)) (by repeat (first | exact List.Sublist.slnil | refine List.Sublist.cons _ ?_))⟩
      obtain ⟨gn, rfl⟩ := hcn (by omega)
      obtain ⟨x, hx⟩ : ∃ x, L[i]? = some x := ⟨_, List.getElem?_eq_getElem (by omega)⟩
      have hxm := List.mem_of_getElem? hx
      have hgx := qGot_mem hok.nodup hxm
      repeat (first | refine T_seq ?_ | refine T_region ?_ | refine T_block ?_ | refine pthen_normal ?_ | refine T_skip ?_)
      refine S_q (Q_idx1 tabOk rfl rfl rfl rfl rfl rfl rfl (j := i) rfl (by omega)) ?_
      refine S_load1 tabOk (v := .int .u64 x.1) rfl rfl (fun w' hw => by
        rw [Nat.zero_add]
        exact own_cell (hw.own _ (getE_mem (i := 0) rfl)) (by omega) (by rw [List.getElem?_map, hx]; rfl)) ?_
      repeat (first | refine T_seq ?_ | refine T_region ?_ | refine S_nil ?_ | refine S_pure tabOk rfl ?_)
      refine S_call rfl Try.call30 (fun w1 g => ?_)
      have hd := q_get (g.own _ (getE_mem (i := 3) rfl)).1 hok x.1
      rw [hgx] at hd
      refine hd.mono fun e w' ⟨a6, c6, e1, hb, hr⟩ => ⟨_, _, e1, g.fresh hb (x := .row W.heap.size (.slice a6 x.2.2.length c6) 5 1 x.2.2.length (x.2.2.map (.int .u8))) (own_rebase hr g.size) (fun j hj => (World.ownsRow.lt hr j hj).1), ?_⟩
      clear g hd
      dsimp only
      repeat (first | refine S_pure tabOk rfl ?_)
      refine S_new tabOk rfl (fun b27 hb27 => ?_)
      repeat (first | refine T_seq ?_ | refine T_region ?_ | refine S_nil ?_ | refine S_pure tabOk rfl ?_ | refine S_load tabOk 0 rfl rfl rfl ?_ | refine S_store tabOk 0 rfl rfl rfl rfl rfl rfl ?_)
      refine S_load1 tabOk (v := .int .i64 kx) rfl rfl (fun w' hw => blkc (hw.pm [6, 0, 1, 2, 3, 4, 5] rfl rfl rfl) (j := 0) rfl) ?_
      repeat (first | refine S_pure tabOk rfl ?_)
      by_cases h4 : x.2.1 = kx
      · refine S_re 149 (v' := .bool true) rfl (congrArg Value.bool (decide_eq_true h4)) ?_
        repeat (first | refine S_pure tabOk rfl ?_)
        refine S_q ((Q_lookup (M := M) (c := cM) (b := bm) (κ := .u64) tabOk rfl rfl rfl rfl rfl rfl rfl rfl (fun w' hw => by exact hw.own _ (getE_mem (i := 3) rfl))).eq (v' := .bool true) (by
          have h5 := hNM.val x.1
          rw [decide_eq_true (hal2 x hxm (h4.trans hcls.symm))] at h5
          cases hmi : mIdx x.1 M 0 with
          | none => rw [hmi] at h5; cases h5
          | some y => rw [hmi] at h5; exact h5)) ?_
        repeat (first | refine S_nil ?_ | refine S_pure tabOk rfl ?_)
        refine T_cond_f rfl ?_
        repeat (first | refine T_region ?_ | refine S_nil ?_ | refine pthen_normal ?_ | refine inb_normal ?_ | refine T_skip ?_ | refine S_i64 tabOk rfl (by omega) ?_ | refine S_pure tabOk rfl ?_)
        exact ⟨i + 1, by omega, by repeat (first | exact Sub.nil | refine Sub.cons rfl ?_), fun w' hw => hw.less (by repeat (first | exact Less.nil | refine Less.keep ?_ | refine Less.dropB (by first | assumption | omega) ?_ | refine Less.dropW (Nat.le_refl _) ?_)), by omega⟩
      · refine S_re 149 (v' := .bool false) rfl (congrArg Value.bool (decide_eq_false h4)) ?_
        repeat (first | refine S_nil ?_ | refine S_pure tabOk rfl ?_ | refine S_pass rfl rfl rfl ?_)
        refine T_cond_f rfl ?_
        repeat (first | refine T_region ?_ | refine S_nil ?_ | refine pthen_normal ?_ | refine inb_normal ?_ | refine T_skip ?_ | refine S_i64 tabOk rfl (by omega) ?_ | refine S_pure tabOk rfl ?_)
        exact ⟨i + 1, by omega, by repeat (first | exact Sub.nil | refine Sub.cons rfl ?_), fun w' hw => hw.less (by repeat (first | exact Less.nil | refine Less.keep ?_ | refine Less.dropB (by first | assumption | omega) ?_ | refine Less.dropW (Nat.le_refl _) ?_)), by omega⟩
    rintro _ _
    repeat (first | refine T_seq ?_ | refine T_region ?_ | refine S_nil ?_ | refine pthen_normal ?_ | refine T_ret ?_ | refine S_pure tabOk rfl ?_)
    exact ret1 rfl rfl (fun w' hw => ⟨rfl, hw.below new_nil⟩)
end Go.Proofs.Yteogkadjambmkaa
