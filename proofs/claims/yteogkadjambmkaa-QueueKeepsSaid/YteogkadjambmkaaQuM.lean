/-
  A queue's Put. Conditions: each theorem's own.
-/
import Derived.Test.YteogkadjambmkaaQuO
namespace Go.Proofs.Yteogkadjambmkaa
open Go Go.RowKit
set_option linter.unusedVariables false

section
variable {P : Program} {tb : Tab} {n : Nat} {w0 : World} {all : Array Oper} {os : List Oper} {o : Oper} {dl : DL} {ol : OL} {F : DL → Prop} {d : Nat}
/-- What is said of an answer in which a new row is. -/
def OwnF (w0 : World) (ol : OL) (mk : Option Addr → Nat → Value) (E : TypeId) (sz m : Nat) (xs : List Value) (v : Value) (w : World) : Prop := ∃ a c, v = mk a c ∧ w.ownsRow w0.heap.size E sz (.slice a m c) m xs ∧ ∀ k, (Value.slice a m c).ownBlock = some k → ∀ e ∈ ol, ¬ e.has k
theorem OwnF.stable {mk : Option Addr → Nat → Value} {E : TypeId} {sz m : Nat} {xs : List Value} : ∀ v w w', OwnF w0 ol mk E sz m xs v w → Below w.heap.size w w' → OwnF w0 ol mk E sz m xs v w' := by
  rintro v w w' ⟨a, c, h1, h2, h3⟩ hb
  exact ⟨a, c, h1, own_keep h2 fun k hk => hb.block k (World.ownsRow.lt h2 k hk).2, h3⟩
theorem D_callO {f : FuncId} {Es : List Ent} (mk : Option Addr → Nat → Value) {E : TypeId} {sz m : Nat} {xs : List Value} (hs : callD? n all dl o = some (d, f, Es)) (hcall : ∀ args w, (callFunc f args).run P w = .ok (.enter f args) w)
    (hc : ∀ w vs, Hp w0 w ol → EntsAt Es vs w → Calls P f vs.toArray w (fun e w' => ∃ a c, e = .returned (mk a c) ∧ Below w.heap.size w w' ∧ w'.ownsRow w.heap.size E sz (.slice a m c) m xs)) (k : D P n w0 all os ((d, .pr (OwnF w0 ol mk E sz m xs)) :: dl) ol F) : D P n w0 all (o :: os) dl ol F :=
  D_callp (OwnF w0 ol mk E sz m xs) hs hcall OwnF.stable (fun w vs hw he => (hc w vs hw he).mono fun e w' ⟨a, c, e1, hb, hr⟩ => ⟨_, e1, hb, a, c, rfl, own_rebase hr hw.size, fun k hk e he h => by
    have h1 := hw.lt he h
    have h2 := (World.ownsRow.lt hr k hk).1
    omega⟩) k
theorem D_outO (t : Nat) {mk : Option Addr → Nat → Value} {E : TypeId} {sz m : Nat} {xs : List Value} {ol1 : OL} {G : FL → OL → Prop} (h : lk dl t = some (.pr (OwnF w0 ol1 mk E sz m xs))) (hex : ∀ e ∈ ol, e ∈ ol1)
    (k : ∀ a c, D P n w0 all [] ((t, .ex (mk a c)) :: dl) (.row w0.heap.size (.slice a m c) E sz m xs :: ol) (FEnd n w0 (.row w0.heap.size (.slice a m c) E sz m xs :: ol) G)) : D P n w0 all [] dl ol (FEnd n w0 ol G) :=
  D_end fun w hw f hf => by
    obtain ⟨a, c, h1, h2, h3⟩ := hf t _ h
    have g3 : Hp w0 w (.row w0.heap.size (.slice a m c) E sz m xs :: ol) := hw.more h2 fun e he hr k hk hk' => h3 k hk e (hex e he) hk'
    have hk := (k a c).out _ (fun _ => rfl)
    have hk' : FEnd n w0 (.row w0.heap.size (.slice a m c) E sz m xs :: ol) G ((t, .ex (mk a c)) :: dl) := hk
    obtain ⟨l', ol', e1, e2, e3⟩ := hk' w g3 f (fun t' Φ ht' => by
      by_cases htt : t = t'
      · subst htt; rw [lk_cons_eq] at ht'; cases ht'
      · rw [lk_cons_ne htt] at ht'; exact hf t' Φ ht')
    refine ⟨l', ol', fun t' v hv => ?_, e2, e3⟩
    by_cases htt : t = t'
    · subst htt
      rcases e1 t v hv with e | ⟨Φ, e, _⟩
      · rw [lk_cons_eq] at e; cases e; exact .inr ⟨_, h, h1⟩
      · rw [lk_cons_eq] at e; cases e
    · have := e1 t' v hv
      rwa [lk_cons_ne htt] at this
end
section
variable {A : Nat → Prop} {w0 : World} {ol : OL}
/-- nothing that may change is in A -/
def Far (w0 : World) (A : Nat → Prop) (ol : OL) : Prop := ∀ e ∈ ol, e.ex = true → ∀ k, e.has k → w0.heap.size ≤ k ∨ ¬ A k
theorem far_nil : Far w0 A [] := fun e he => by cases he
theorem far_cons {e : HE} (h1 : e.ex = true → ∀ k, e.has k → w0.heap.size ≤ k ∨ ¬ A k) (h : Far w0 A ol) : Far w0 A (e :: ol) := fun e' he => by
  rcases List.mem_cons.1 he with rfl | he
  · exact h1
  · exact h e' he
theorem far_new {b : Nat} {x : Obj} {r : Bool} (hb : w0.heap.size ≤ b) (h : Far w0 A ol) : Far w0 A (.blk b x r :: ol) := far_cons (fun _ k hk => .inl (by rw [← Option.some.inj hk]; exact hb)) h
theorem far_no {b : Nat} {x : Obj} {r : Bool} (hb : ¬ A b) (h : Far w0 A ol) : Far w0 A (.blk b x r :: ol) := far_cons (fun _ k hk => .inr (by rw [← Option.some.inj hk]; exact hb)) h
theorem far_ro {Φ : World → Prop} {F : Nat → Prop} (h : Far w0 A ol) : Far w0 A (.rep Φ F false :: ol) := far_cons (fun hx => by cases hx) h
theorem far_rep {Φ : World → Prop} {F : Nat → Prop} {r : Bool} (hF : ∀ k, F k → w0.heap.size ≤ k ∨ ¬ A k) (h : Far w0 A ol) : Far w0 A (.rep Φ F r :: ol) := far_cons (fun _ k hk => hF k hk) h
theorem far_row {w : World} {v : Value} {E : TypeId} {sz m : Nat} {xs : List Value} (hr : w.ownsRow w0.heap.size E sz v m xs) (h : Far w0 A ol) : Far w0 A (.row w0.heap.size v E sz m xs :: ol) := far_cons (fun _ k hk => .inl (World.ownsRow.lt hr k hk).1) h
theorem SlR.far {α : Type} {R : Rep α} {w : World} {a : Option Addr} {n c : Nat} {l : List α} (h : SlR R w0 A a n c l) (hw : Hp w0 w ol) (hn : Far w0 A ol) : SlR R w A a n c l :=
  h.keep fun k hk hlt => ⟨hw.old k hlt fun e he hx hh => (hn e he hx k hh).elim (fun h => by omega) fun h => h hk, hk⟩
end
/-- what an object's call leaves -/
def Turns (w : World) (F : Nat → Prop) (p : Vp) (w' : World) : Prop := ∃ F' : Nat → Prop, (∀ k, F k → F' k) ∧ (∀ k, F' k → F k ∨ w.heap.size ≤ k) ∧ Hp w w' [.rep (fun w => p.at_ w F' (.bool true)) F' true]
def qSum (L : List QE) : Int := (L.map sizeQ).sum
/-- Put: its error, the greatest number that came, who is there -/
def qPut (cap last : Int) (ws : List Int) (L : List QE) (n k : Int) (zs : List Int) : Int × Int × List QE :=
  if (sright k zs.length && decide (k < (ws.length : Int))) = true then
    if n ≤ last then (9, last, L) else if cap - qSum L < (zs.length : Int) + 16 then (5, last, L) else (0, n, L ++ [(n, k, zs)])
  else (1, last, L)
section
variable {qb : Nat} {cap last : Int} {ws : List Int} {L : List QE} {K : Nat} {w : World} {F : Nat → Prop}
set_option maxHeartbeats 4000000 in
theorem q_put (h : (quA qb cap last ws L K).at_ w F (.bool true)) (hF : ∀ k, F k → k < w.heap.size) (hok : QOk cap last ws L) (hlen : L.length ≤ 65535) (hws : ws.length ≤ 8) (hK : K ≤ 1000000) (hcap : 0 ≤ cap ∧ cap ≤ 1099511627776) (hl0 : 0 ≤ last) {n k : Int} {a : Option Addr} {m c : Nat} {zs : List Int} (hn : n ≤ 18446744073709551615) {A : Nat → Prop} (hz : SlR (Rint .u8) w A a m c zs) (hA : ∀ k, A k → ¬ F k) :
    Calls Try.prog 27 #[qptr qb, .int .u64 n, .agg #[.int .i64 k, .slice a m c]] w fun e w' => e = .returned (.int .i64 (qPut cap last ws L n k zs).1) ∧ Turns w F (quA qb cap (qPut cap last ws L n k zs).2.1 ws (qPut cap last ws L n k zs).2.2 (K + 1)) w' := by
  obtain ⟨mb, bys, s, M, cc, wv, lv, bv, hS, hN, hbys, hcK, hsc⟩ := h
  obtain rfl := hz.len
  have hst := Hp.startO (p := quV qb mb cap last ws bys s M cc L wv lv bv) (v := .bool true) hS hF
  refine enter3 Try.func27 rfl rfl hst ?_
  repeat (first | refine T_seq ?_ | refine T_region ?_)
  refine S_new tabOk rfl (fun b5 hb5 => ?_)
  repeat (first | refine T_seq ?_ | refine T_region ?_ | refine T_block ?_ | refine S_nil ?_ | refine S_pure tabOk rfl ?_)
  refine S_q (Q_eqptr tabOk rfl rfl rfl rfl rfl) ?_
  repeat (first | refine S_nil ?_ | refine S_pure tabOk rfl ?_)
  refine T_cond_f rfl ?_
  repeat (first | refine T_seq ?_ | refine T_region ?_ | refine S_pure tabOk rfl ?_ | refine S_load tabOk 0 rfl rfl rfl ?_)
  refine S_callq (v := .bool (sright k zs.length && decide (k < (ws.length : Int)))) rfl Try.call34 (fun w1 h1 => q_takes (K := K) ⟨mb, bys, s, M, cc, wv, lv, bv, (h1.own _ (getE_mem (i := 1) rfl)).1, hN, hbys, hcK, hsc⟩ k a zs.length c) ?_
  repeat (first | refine S_nil ?_ | refine S_pure tabOk rfl ?_)
  cases ht : (sright k zs.length && decide (k < (ws.length : Int))) with
  | false =>
    have hq : qPut cap last ws L n k zs = (1, last, L) := by unfold qPut; rw [if_neg (by rw [ht]; decide)]
    rw [hq]
    dsimp only
    refine T_cond_t rfl ?_
    repeat (first | refine T_seq ?_ | refine T_region ?_ | refine S_nil ?_ | refine inb_ret ?_ | refine pthen_ret ?_ | refine T_ret ?_ | refine S_pure tabOk rfl ?_)
    exact ret1 rfl rfl (fun w' hw => ⟨rfl, F, fun k hk => hk, fun k hk => .inl hk, (hw.turnX 1 rfl (Ψ := fun w => (quA qb cap last ws L (K + 1)).at_ w F (.bool true)) (fun h9 => ⟨mb, bys, s, M, cc, wv, lv, bv, h9, hN, hbys, by omega, hsc⟩) Vp.loc rfl).less (by repeat (first | exact Less.nil | refine Less.keep ?_ | refine Less.dropB (by first | assumption | omega) ?_))⟩)
  | true =>
  refine T_cond_f rfl ?_
  repeat (first | refine T_seq ?_ | refine T_region ?_ | refine S_pure tabOk rfl ?_)
  refine S_load1 tabOk (v := .int .u64 last) rfl rfl (fun w' hw => QuS.cell (hw.own _ (getE_mem (i := 1) rfl)).1 (j := 5) rfl) ?_
  repeat (first | refine S_nil ?_ | refine S_pure tabOk rfl ?_)
  refine T_cond_dec rfl (fun hle => ?_) (fun hle => ?_)
  · have hq : qPut cap last ws L n k zs = (9, last, L) := by unfold qPut; rw [if_pos ht, if_pos hle]
    rw [hq]
    dsimp only
    repeat (first | refine T_seq ?_ | refine T_region ?_ | refine S_nil ?_ | refine inb_ret ?_ | refine pthen_ret ?_ | refine T_ret ?_ | refine S_pure tabOk rfl ?_)
    exact ret1 rfl rfl (fun w' hw => ⟨rfl, F, fun k hk => hk, fun k hk => .inl hk, (hw.turnX 1 rfl (Ψ := fun w => (quA qb cap last ws L (K + 1)).at_ w F (.bool true)) (fun h9 => ⟨mb, bys, s, M, cc, wv, lv, bv, h9, hN, hbys, by omega, hsc⟩) Vp.loc rfl).less (by repeat (first | exact Less.nil | refine Less.keep ?_ | refine Less.dropB (by first | assumption | omega) ?_))⟩)
  have hr2 := ht
  unfold sright at hr2
  simp only [Bool.and_eq_true, decide_eq_true_eq] at hr2
  obtain ⟨⟨hk0, hk8, hz4⟩, hkw⟩ := hr2
  have hsz : 0 ≤ qSum L ∧ qSum L ≤ (L.length : Int) * 4112 := size_sum L fun x hx => (hok.cls x hx).2.2.2
  repeat (first | refine T_draw (by kernel_rfl) (by kernel_rfl) ?_ | refine D_load tabOk 0 rfl rfl rfl ?_ | refine T_seq ?_)
  refine D_callx (v := .int .i64 ((zs.length : Int) + 16)) rfl Try.call35 (fun w' vs hw' h => by
    obtain ⟨u1, _, rfl, rfl, rfl⟩ := h
    exact spsize_ok k a zs.length c w' (by omega)) ?_
  repeat (first | refine D_pure tabOk rfl ?_)
  refine D_load1 tabOk (v := .int .i64 cap) rfl rfl (fun w' hw => QuS.cell (hw.own _ (getE_mem (i := 1) rfl)).1 (j := 0) rfl) ?_
  repeat (first | refine D_pure tabOk rfl ?_)
  refine D_callx (v := .int .i64 (qSum L)) rfl Try.call37 (fun w' vs hw' h => by
    obtain ⟨u1, _, rfl, rfl, rfl⟩ := h
    exact q_bytes (K := K) ⟨mb, bys, s, M, cc, wv, lv, bv, (hw'.own _ (getE_mem (i := 1) rfl)).1, hN, hbys, hcK, hsc⟩ hok (by omega) hws) ?_
  repeat (first | refine D_all rfl ?_ | refine D_i64 tabOk rfl (by omega) ?_ | refine D_pure tabOk rfl ?_)
  refine T_cond_dec rfl (fun hfu => ?_) (fun hfu => ?_)
  · have hq : qPut cap last ws L n k zs = (5, last, L) := by unfold qPut; rw [if_pos ht, if_neg hle, if_pos hfu]
    rw [hq]
    dsimp only
    repeat (first | refine pthen_normal ?_ | refine T_skip ?_)
    refine T_cond_t (by
      show some (Value.bool _) = _
      rw [decide_eq_true hfu]) ?_
    repeat (first | refine T_seq ?_ | refine T_region ?_ | refine S_nil ?_ | refine inb_ret ?_ | refine pthen_ret ?_ | refine T_ret ?_ | refine S_pure tabOk rfl ?_)
    exact ret1 rfl rfl (fun w' hw => ⟨rfl, F, fun k hk => hk, fun k hk => .inl hk, (hw.turnX 1 rfl (Ψ := fun w => (quA qb cap last ws L (K + 1)).at_ w F (.bool true)) (fun h9 => ⟨mb, bys, s, M, cc, wv, lv, bv, h9, hN, hbys, by omega, hsc⟩) Vp.loc rfl).less (by repeat (first | exact Less.nil | refine Less.keep ?_ | refine Less.dropB (by first | assumption | omega) ?_))⟩)
  have hq : qPut cap last ws L n k zs = (0, n, L ++ [(n, k, zs)]) := by unfold qPut; rw [if_pos ht, if_neg hle, if_neg hfu]
  rw [hq]
  dsimp only
  repeat (first | refine T_region ?_ | refine S_pure tabOk rfl ?_)
  refine S_load1 tabOk (v := .map (some mb)) rfl rfl (fun w' hw => QuS.cell (hw.own _ (getE_mem (i := 1) rfl)).1 (j := 2) rfl) ?_
  skip
  refine S_q (Q_maplen tabOk rfl rfl rfl rfl (fun w' hw => QuS.m (hw.own _ (getE_mem (i := 1) rfl)).1)) ?_
  repeat (first | refine S_nil ?_ | refine S_pure tabOk rfl ?_)
  have hml := hS.ml.len
  refine T_cond_dec rfl (fun hma => by omega) (fun hma => ?_)
  repeat (first | refine T_seq ?_ | refine pthen_normal ?_ | refine inb_normal ?_ | refine T_skip ?_)
  have hbl : bys.length = ws.length := by rw [hbys]; simp
  refine T_toX (ι := Nat × Nat × List Value) (fun i => bv = .slice (some ⟨i.1, 0, none⟩) bys.length i.2.1 ∧ bys.length ≤ i.2.1 ∧ i.2.1 ≤ maxLen ∧ (bys.map (Value.int .i64) ++ i.2.2).length = i.2.1 ∧ F i.1)
      (fun i => [.blk qb (quC cap wv mb lv bv last) true, .blk mb (mapO .u64 M cc) true, .blk i.1 (.cells ⟨bys.map (Value.int .i64) ++ i.2.2⟩ 3 (0, 0)) true, .blk b5 (.cells ⟨[.int .i64 k, .slice a zs.length c]⟩ 52 (0, 0)) true,
        .rep (fun w => (quR ws s M L wv lv).at_ w (fun k => F k ∧ ¬ (k = qb ∨ k = mb ∨ k = i.1)) (.bool true)) (fun k => F k ∧ ¬ (k = qb ∨ k = mb ∨ k = i.1)) true]) (fun w1 h1 => ?_) ?_
  · obtain ⟨g, cb, junk, e1, e2, e3, e4, e5, e6⟩ := QuS.split (h1.pm [1, 0] rfl rfl rfl) (by omega)
    exact ⟨(g, cb, junk), ⟨e1, e2, e3, e4, e5⟩, e6.pm [0, 1, 2, 4, 3] rfl rfl rfl⟩
  rintro ⟨g, cb, junk⟩ ⟨e1, hcb, hcm, hjl, hFg⟩
  dsimp only at e1 hcb hcm hjl hFg ⊢
  subst e1
  refine T_drawT (by kernel_rfl) 7 rfl (by kernel_rfl) ?_
  repeat (first | refine D_pure tabOk rfl ?_ | refine D_load tabOk 0 rfl rfl rfl ?_ | refine D_load tabOk 3 rfl rfl rfl ?_)
  have nq : ¬ A qb := fun h => hA _ h hS.Fq
  have nm : ¬ A mb := fun h => hA _ h hS.Fm
  have ng : ¬ A g := fun h => hA _ h hFg
  have nF : ∀ k, F k ∧ ¬ (k = qb ∨ k = mb ∨ k = g) → w.heap.size ≤ k ∨ ¬ A k := fun k hk => .inr fun h => hA k h hk.1
  refine D_callO (m := zs.length) (xs := zs.map (.int .u8)) (fun a' c' => .agg ⟨[.int .i64 k, .slice a' zs.length c']⟩) rfl Try.call51 (fun w' vs hw' h => by
    obtain ⟨u1, _, rfl, rfl, rfl⟩ := h
    exact qown_ok (p := ⟨k, zs, a, c⟩) w' (hz.far hw' (by repeat (first | exact far_nil | refine far_new (by first | assumption | omega) ?_ | refine far_no (by assumption) ?_ | refine far_rep (by assumption) ?_))).ints (by show zs.length ≤ _; omega)) ?_
  refine D_outO 45 rfl (fun e he => he) (fun a2 c2 => ?_)
  refine D_allP rfl ?_
  refine S_mapupd tabOk 2 rfl rfl rfl rfl rfl rfl rfl rfl rfl rfl ?_
  repeat (first | refine T_seq ?_ | refine T_region ?_ | refine S_nil ?_ | refine S_pure tabOk rfl ?_ | refine S_store tabOk 1 rfl rfl rfl rfl rfl rfl ?_)
  obtain ⟨j, hj, hjc⟩ : ∃ j : Nat, (j : Int) = k ∧ j < bys.length := ⟨k.toNat, by omega, by omega⟩
  have hbj : bys[j] = bsum L j := by simp [hbys]
  have hbn := bsum_nn L j
  rw [← hbj] at hbn
  have hsz2 : (L.map sizeQ).sum = qSum L := rfl
  refine T_drawT (by kernel_rfl) 12 rfl (by kernel_rfl) ?_
  repeat (first | refine D_pure tabOk rfl ?_ | refine D_load tabOk 1 rfl rfl rfl ?_ | refine D_load tabOk 4 rfl rfl rfl ?_)
  refine D_q (Q_idx1 tabOk rfl rfl rfl rfl rfl rfl rfl (j := j) (by omega) (by omega)) ?_
  refine D_load1 tabOk (v := .int .i64 bys[j]) rfl rfl (fun w' hw => blkc (hw.pm [3, 0, 1, 2] rfl rfl rfl) (by rw [List.getElem?_append_left (by rw [List.length_map]; exact hjc), List.getElem?_map, List.getElem?_eq_getElem hjc]; rfl)) ?_
  repeat (first | refine D_load tabOk 4 rfl rfl rfl ?_)
  refine D_callx (v := .int .i64 ((zs.length : Int) + 16)) rfl Try.call35 (fun w' vs hw' h => by
    obtain ⟨u1, _, rfl, rfl, rfl⟩ := h
    exact spsize_ok k a zs.length c w' (by omega)) ?_
  repeat (first | refine D_i64 tabOk rfl (by omega) ?_)
  refine D_q (Q_idx1 tabOk rfl rfl rfl rfl rfl rfl rfl (j := j) (by omega) (by omega)) ?_
  repeat (first | refine D_all rfl ?_)
  obtain ⟨bys', hb'⟩ : ∃ b', b' = bys.set j (bys[j] + ((zs.length : Int) + 16)) := ⟨_, rfl⟩
  have hl' : bys'.length = bys.length := by rw [hb', List.length_set]
  have hbys' : bys' = (List.range ws.length).map (bsum (L ++ [(n, k, zs)])) := by
    rw [hb', hbj, hbys]
    refine bys_set (by omega) ?_ fun c hc => ?_
    · rw [bsum_snoc, if_pos hj.symm]
      rfl
    · rw [bsum_snoc, if_neg (by show ¬ k = (c : Int); omega)]
      omega
  refine S_store_of tabOk 3 (cs' := bys'.map (Value.int .i64) ++ junk) rfl rfl (fun u hu => by rw [List.mem_singleton] at hu; subst hu; rfl) rfl (by
    rw [Nat.zero_add]
    refine (setMany_1 (by rw [List.length_append, List.length_map]; omega)).trans (congrArg some ?_)
    rw [List.set_append_left _ _ (by rw [List.length_map]; exact hjc), hb', List.map_set]) rfl ?_
  refine S_nil ?_
  have hnM : n ∉ M.map (·.1) := fun hm => by
    rw [hS.ml.keys] at hm
    obtain ⟨y, hy, e⟩ := List.mem_map.1 hm
    have := (hok.pos y hy).2
    have e2 : y.1 = n := e
    omega
  rw [mPut_fresh n _ cc M hnM]
  dsimp only
  have hzf := hz.ints.fits
  refine T_toX (ι := Unit) (fun _ => ∀ k, (Value.slice a2 zs.length c2).ownBlock = some k → w.heap.size ≤ k)
    (fun _ => [.rep (fun w => (quV qb mb cap n ws bys' s (M ++ [(n, .agg #[.int .i64 k, .slice a2 zs.length c2], cc)]) (cc + 1) (L ++ [(n, k, zs)]) wv lv (.slice (some ⟨g, 0, none⟩) bys.length cb)).at_ w (fun k => F k ∨ (Value.slice a2 zs.length c2).ownBlock = some k) (.bool true)) (fun k => F k ∨ (Value.slice a2 zs.length c2).ownBlock = some k) true, .blk b5 (.cells ⟨[.int .i64 k, .slice a zs.length c]⟩ 52 (0, 0)) true]) (fun w1 h1 => ?_) ?_
  · have hrow : w1.ownsRow w.heap.size 5 1 (.slice a2 zs.length c2) zs.length _ := h1.own _ (getE_mem (i := 0) rfl)
    refine ⟨(), fun k hk => (World.ownsRow.lt hrow k hk).1, ?_⟩
    have h2 := (QuR.row (c := cc) n k (h1.pm [0, 5, 1, 2, 3, 4] rfl rfl rfl) hzf).pm [1, 2, 3, 0] rfl rfl rfl
    rw [← hl'] at h2 hcb
    have h3 := QuR.join (F' := fun k => F k ∨ (Value.slice a2 zs.length c2).ownBlock = some k) h2 hcb hcm (by rw [← hjl]; simp only [List.length_append, List.length_map, hl']) (hS.mok.push hnM) hS.sl fun k => ⟨fun hk => ?_, fun hk => ?_⟩
    · rw [hl'] at h3
      exact h3
    · rcases hk with hk | hk
      · by_cases k1 : k = qb ∨ k = mb ∨ k = g
        · exact .inr k1
        · exact .inl (.inl ⟨hk, k1⟩)
      · exact .inl (.inr hk)
    · rcases hk with (hk | hk) | rfl | rfl | rfl
      · exact .inl hk.1
      · exact .inr hk
      · exact .inl hS.Fq
      · exact .inl hS.Fm
      · exact .inl hFg
  rintro _ hnew
  repeat (first | refine T_seq ?_ | refine T_region ?_ | refine S_pure tabOk rfl ?_)
  refine S_q (Q_mkif tabOk rfl rfl rfl rfl) ?_
  repeat (first | refine S_pure tabOk rfl ?_)
  refine S_q (Q_mkif tabOk rfl rfl rfl rfl) ?_
  refine S_callT 0 rfl Try.call52 rfl (fun w1 g1 => (qlow_push (g1.own _ (getE_mem (i := 0) rfl)).1 (g1.own _ (getE_mem (i := 0) rfl)).2.2 (by omega) n).mono fun e w' ⟨he, F', f1, f2, g2⟩ => ⟨_, _, F', he, g2, f1, f2, _, rfl, ?_⟩)
  have hsz1 := g1.size
  repeat (first | refine T_seq ?_ | refine T_region ?_ | refine S_nil ?_ | refine T_ret ?_ | refine S_pure tabOk rfl ?_)
  exact ret1 rfl rfl (fun w' hw => ⟨rfl, F', fun k hk => f1 k (.inl hk), fun k hk => by
    rcases f2 k hk with (h | h) | h
    · exact .inl h
    · exact .inr (hnew k h)
    · exact .inr (Nat.le_trans hsz1 h), (hw.turnX 0 rfl (Ψ := fun w => (quA qb cap n ws (L ++ [(n, k, zs)]) (K + 1)).at_ w F' (.bool true)) (fun ⟨lv', h9⟩ => ⟨mb, bys', _, _, cc + 1, wv, lv', _, h9, hN.push (nuOb_ol qb (.int .i64 cap) wv (.map (some mb)) (.slice (some ⟨g, 0, none⟩) bys.length cb) (.int .u64 n)) (by omega) (k, zs), hbys', by omega, by
      rw [(up_perm (nuOb_ol qb (.int .i64 cap) wv (.map (some mb)) (.slice (some ⟨g, 0, none⟩) bys.length cb) (.int .u64 n)) (s.length + 1) (s ++ [n]) s.length).length_eq, List.length_append, List.length_singleton]
      omega⟩) Vp.loc rfl).less (by repeat (first | exact Less.nil | refine Less.keep ?_ | refine Less.dropB (by first | assumption | omega) ?_))⟩)
end
end Go.Proofs.Yteogkadjambmkaa
