/-
  The document's board: Due. Conditions: each theorem's own.
-/
import Derived.Test.YtidhpofcofknhaaRbF
namespace Go.Proofs.Ytidhpofcofknhaa
open Go Go.RowKit
set_option linter.unusedVariables false

theorem made1 (u : Value) (n : Nat) : (madeCells #[u] n).toList = List.replicate n u := by
  unfold madeCells
  refine List.eq_replicate_iff.2 ⟨by simp, fun b hb => ?_⟩
  simp at hb
  obtain ⟨i, hi, rfl⟩ := hb
  simp [Nat.mod_one]
def bv (b : Option Nat) : Int := match b with
  | some j => (j : Int)
  | none => -1
/-- the loop's index -/
structure RDuI where
  k : Nat
  K : List GX
  ds : List Bool
  a5 : Option Addr
  c5 : Nat
  css : List (List Value)
  Fo : Nat → Prop
structure RDuJ where
  i : Nat
  b : Option Nat
section
variable {xb : Nat} {f m last : Int} {gs : List BG} {w : World} {F : Nat → Prop}
theorem cellsG_set {g' : BG} {x : SX} : ∀ {K : List GX} {j : Nat} {p : GX}, K[j]? = some p → p.x = x → p.g.id = g'.id → cellsG (K.set j ⟨g', x⟩) = ((cellsG K).set (j * 4 + 2) (.int .i64 g'.tm)).set (j * 4 + 3) (.int .i64 g'.tries)
  | [], _, _, h, _, _ => by simp at h
  | q :: K, 0, p, h, hx, hi => by
    rw [List.getElem?_cons_zero] at h
    cases h
    subst hx
    show [Value.int .u64 g'.id, _, _, _] ++ cellsG K = ((cellG q ++ cellsG K).set _ _).set _ _
    rw [← hi]
    rfl
  | q :: K, j + 1, p, h, hx, hi => by
    rw [List.getElem?_cons_succ] at h
    have ih := cellsG_set (K := K) (j := j) h hx hi
    show cellG q ++ cellsG (K.set j ⟨g', x⟩) = ((cellG q ++ cellsG K).set ((j + 1) * 4 + 2) _).set ((j + 1) * 4 + 3) _
    rw [ih, List.set_append_right _ _ (by show 4 ≤ _; omega), List.set_append_right _ _ (by show 4 ≤ _; omega), show (j + 1) * 4 + 2 - (cellG q).length = j * 4 + 2 by show (j + 1) * 4 + 2 - 4 = _; omega, show (j + 1) * 4 + 3 - (cellG q).length = j * 4 + 3 by show (j + 1) * 4 + 3 - 4 = _; omega]
set_option maxHeartbeats 8000000 in
theorem rb_due (h : (rbA xb f m gs last).at_ w F (.bool true)) (hF : ∀ k, F k → k < w.heap.size) {now : Int} (hnow : 0 ≤ now ∧ now ≤ 1152921504606846976) (htr : ∀ g ∈ gs, g.tries < 1099511627776) :
    Calls Try.prog 17 #[bptr xb, .int .i64 now] w fun e w' => ∃ v Fv, e = .returned v ∧ (∀ k, Fv k → w.heap.size ≤ k) ∧ ∃ F' : Nat → Prop, (∀ k, F k → F' k) ∧ (∀ k, F' k → F k ∨ w.heap.size ≤ k) ∧
      Hp w w' [.rep (fun w => (RLL.vp (dueL gs now)).at_ w Fv v) Fv false, .rep (fun w => (rbA xb f m (dueG f m now gs) last).at_ w F' (.bool true)) F' true] := by
  obtain ⟨K0, a, c, G, ⟨rfl, hp, hok, hne⟩, hst, hcov⟩ := rb_open h
  have hcnt := hok.cnt
  have hlen := hok.len
  rw [List.length_map] at hcnt
  have hFx : F xb := hcov _ (getE_mem (i := 0) rfl) xb rfl
  have hFr : ∀ k, (Value.slice a K0.length c).ownBlock = some k → F k := hcov _ (getE_mem (i := 1) rfl)
  have hFG : ∀ k, G k → F k := hcov _ (getE_mem (i := 2) rfl)
  obtain ⟨ids, hids⟩ : ∃ ids, ids = dueI (gsK K0) now := ⟨_, rfl⟩
  have hil : ids.length ≤ K0.length := by
    have := hids ▸ (dueI_len (gs := gsK K0) (now := now))
    rwa [List.length_map] at this
  have hind : ids.Nodup := hids ▸ dueI_nd hok
  refine enter2 Try.func17 rfl rfl hst ?_
  repeat (first | refine T_seq ?_ | refine T_region ?_ | refine S_nil ?_ | refine S_pure tabOk rfl ?_ | refine S_load tabOk 0 rfl rfl rfl ?_)
  refine S_make tabOk (m := K0.length) (c := K0.length) rfl rfl rfl rfl rfl rfl rfl rfl (Nat.le_refl _) (by show 1 * _ ≤ _; omega) (by omega) (fun bd hbd => ?_)
  have hz : (madeCells #[.bool false] (K0.length * 1)).toList = (List.replicate K0.length false).map .bool := by rw [toList_madeCells_one, List.map_replicate, Nat.mul_one]
  refine S_heap (ol' := [.blk bd (.cells ⟨(List.replicate K0.length false).map .bool⟩ 4 (0, 0)) true, .blk xb (rbC f m a K0.length c last) true, .row 0 (.slice a K0.length c) 99 4 K0.length (cellsG K0), .rep (fun w => (okG K0).at_ w G (.bool true)) G false]) (fun w h => by rw [← hz]; exact h) ?_
  have e0 : ∀ g : BG, bumpG f m now (ids.take 0) g = g := fun g => by unfold bumpG; rw [if_neg (by simp)]
  repeat (first | refine S_nil ?_ | refine S_pure tabOk rfl ?_)
  refine T_block ?_
  refine T_loop (ι := RDuI) (fun q => [(0, bptr xb), (1, .int .i64 now), (6, .slice (some ⟨bd, 0, none⟩) K0.length K0.length), (5, .slice q.a5 q.k q.c5)])
    (fun q => [.row w.heap.size (.slice q.a5 q.k q.c5) 37 1 q.k q.css.flatten, .rep (fun w => (Bod (Rslice (Rint .u64)) q.css ((ids.take q.k).map (lOf (gsK K0)))).at_ w q.Fo (.bool true)) q.Fo false, .blk bd (.cells ⟨q.ds.map .bool⟩ 4 (0, 0)) true, .blk xb (rbC f m a K0.length c last) true, .row 0 (.slice a K0.length c) 99 4 K0.length (cellsG q.K), .rep (fun w => (okG K0).at_ w G (.bool true)) G false])
    (fun q => q.k ≤ ids.length ∧ q.K.length = K0.length ∧ (∀ (i : Nat) (p : GX), K0[i]? = some p → q.K[i]? = some ⟨bumpG f m now (ids.take q.k) p.g, p.x⟩ ∧ q.ds[i]? = some (decide (p.g.id ∈ ids.take q.k))) ∧ q.ds.length = K0.length ∧ q.css.flatten.length = q.k ∧ ∀ j, q.Fo j → w.heap.size ≤ j)
    (fun q => ids.length - q.k) ⟨0, K0, List.replicate K0.length false, none, 0, [], fun _ => False⟩ ⟨Nat.zero_le _, rfl, fun i p hpi => ⟨by dsimp only; rw [e0]; exact hpi, by
      have := (List.getElem?_eq_some_iff.1 hpi).1
      dsimp only
      rw [List.getElem?_replicate, if_pos this, List.take_zero]
      rfl⟩, List.length_replicate, rfl, fun j hj => hj.elim⟩ (by repeat (first | exact Sub.nil | refine Sub.cons rfl ?_)) (fun w' hw => ((hw.none (p := Bod (Rslice (Rint .u64)) [] []) (v := .bool true) (fun w => Bod.nil_) false).nilRow 37 1)) ?_
  rintro ⟨k, K, ds, a5, c5, css, Fo⟩ ⟨hk, hKn, hKp, hdn, hcss, hFo⟩
  dsimp only at hk hKn hKp hdn hcss hFo ⊢
  refine T_block ?_
  repeat (first | refine T_seq ?_ | refine T_region ?_ | refine S_nil ?_ | refine S_pure tabOk rfl ?_ | refine S_load tabOk 3 rfl rfl rfl ?_)
  refine T_cut (ι := Option Nat) (fun b => BestS (gsK K0) (ids.take k) now K0.length b) (fun b => [(0, bptr xb), (1, .int .i64 now), (6, .slice (some ⟨bd, 0, none⟩) K0.length K0.length), (5, .slice a5 k c5), (7, .int .i64 (bv b))])
    (fun b => [.row w.heap.size (.slice a5 k c5) 37 1 k css.flatten, .rep (fun w => (Bod (Rslice (Rint .u64)) css ((ids.take k).map (lOf (gsK K0)))).at_ w Fo (.bool true)) Fo false, .blk bd (.cells ⟨ds.map .bool⟩ 4 (0, 0)) true, .blk xb (rbC f m a K0.length c last) true, .row 0 (.slice a K0.length c) 99 4 K0.length (cellsG K), .rep (fun w => (okG K0).at_ w G (.bool true)) G false]) ?_ ?_
  · refine T_block ?_
    refine T_loop (ι := RDuJ) (fun q => [(0, bptr xb), (1, .int .i64 now), (6, .slice (some ⟨bd, 0, none⟩) K0.length K0.length), (5, .slice a5 k c5), (7, .int .i64 (bv q.b)), (20, .slice a K0.length c), (21, .int .i64 (K0.length : Int)), (22, .int .i64 (q.i : Int))])
      (fun q => [.row w.heap.size (.slice a5 k c5) 37 1 k css.flatten, .rep (fun w => (Bod (Rslice (Rint .u64)) css ((ids.take k).map (lOf (gsK K0)))).at_ w Fo (.bool true)) Fo false, .blk bd (.cells ⟨ds.map .bool⟩ 4 (0, 0)) true, .blk xb (rbC f m a K0.length c last) true, .row 0 (.slice a K0.length c) 99 4 K0.length (cellsG K), .rep (fun w => (okG K0).at_ w G (.bool true)) G false])
      (fun q => q.i ≤ K0.length ∧ BestS (gsK K0) (ids.take k) now q.i q.b) (fun q => K0.length - q.i) ⟨0, none⟩ ⟨Nat.zero_le _, BestS.zero⟩ (by repeat (first | exact Sub.nil | refine Sub.cons rfl ?_)) (fun w' hw => hw) ?_
    rintro ⟨i, b⟩ ⟨hi, hb⟩
    dsimp only at hi hb ⊢
    repeat (first | refine T_seq ?_ | refine T_region ?_ | refine S_nil ?_ | refine S_pure tabOk rfl ?_)
    refine T_cond_dec rfl (fun hlt => ?_) (fun hge => ?_)
    rotate_left
    · have hie : i = K0.length := by omega
      subst hie
      repeat (first | refine pthen_normal ?_ | refine inb_hit ?_ | refine pthen_exit ?_ | refine T_exit ?_)
      exact ⟨b, hb, by repeat (first | exact Sub.nil | refine Sub.cons rfl ?_), fun w' hw => hw⟩
    obtain ⟨⟨g, x⟩, hpi⟩ : ∃ p, K0[i]? = some p := ⟨_, List.getElem?_eq_getElem (by omega)⟩
    have hgi : (gsK K0)[i]? = some g := by rw [List.getElem?_map, hpi]; rfl
    obtain ⟨hKi, hdi⟩ := hKp i _ hpi
    dsimp only at hKi hdi
    repeat (first | refine T_seq ?_ | refine T_region ?_ | refine T_block ?_ | refine pthen_normal ?_ | refine T_skip ?_ | refine S_pure tabOk rfl ?_)
    refine S_rowA 4 rfl (by omega) (fun bK hbK => ?_)
    subst hbK
    refine S_q (Q_idx (sz := 4) tabOk rfl rfl rfl rfl rfl rfl rfl (j := i) rfl (by omega)) ?_
    refine S_loadN tabOk (vs := cellG ⟨bumpG f m now (ids.take k) g, x⟩) rfl rfl rfl (fun w' hw jj u hu => by
      rw [Addr.add_lit, Nat.zero_add]
      exact own_cell (hw.own _ (getE_mem (i := 4) rfl)) (by omega) (cellsG_get hKi hu)) ?_
    refine S_new tabOk rfl (fun b9 hb9 => ?_)
    repeat (first | refine T_draw (by kernel_rfl) (by kernel_rfl) ?_ | refine D_pure tabOk rfl ?_ | refine T_seq ?_ | refine S_nil ?_ | refine S_pure tabOk rfl ?_ | refine S_store tabOk 0 rfl rfl rfl rfl rfl rfl ?_)
    refine D_q (Q_idx (sz := 1) tabOk rfl rfl rfl rfl rfl rfl rfl (j := i) rfl (by omega)) ?_
    refine D_load1 tabOk (v := .bool (decide (g.id ∈ ids.take k))) rfl rfl (fun w' hw => by
      rw [Nat.mul_one]
      exact cellH (hw.own _ (getE_mem (i := 3) rfl)) (by rw [List.getElem?_map, hdi]; rfl)) ?_
    by_cases hd : g.id ∈ ids.take k
    · refine D_re 30 (v' := .bool true) rfl (congrArg Value.bool (decide_eq_true hd)) ?_
      repeat (first | refine D_all rfl ?_ | refine D_pure tabOk rfl ?_ | refine D_pass rfl rfl rfl ?_)
      refine T_cond_f rfl ?_
      repeat (first | refine T_region ?_ | refine S_nil ?_ | refine pthen_normal ?_ | refine inb_normal ?_ | refine T_skip ?_ | refine S_i64 tabOk rfl (by omega) ?_ | refine S_pure tabOk rfl ?_)
      exact ⟨⟨i + 1, b⟩, ⟨by show i + 1 ≤ K0.length; omega, hb.skip hgi (.inl hd)⟩, by repeat (first | exact Sub.nil | refine Sub.cons rfl ?_), fun w' hw => hw.less (by repeat (first | exact Less.nil | refine Less.keep ?_ | refine Less.dropB (by first | assumption | omega) ?_)), by show K0.length - (i + 1) < K0.length - i; omega⟩
    have hgb : bumpG f m now (ids.take k) g = g := by unfold bumpG; rw [if_neg hd]
    rw [hgb]
    dsimp only
    refine D_re 30 (v' := .bool false) rfl (congrArg Value.bool (decide_eq_false hd)) ?_
    repeat (first | refine D_pure tabOk rfl ?_ | refine D_load tabOk 0 rfl rfl rfl ?_)
    by_cases ht : g.tm ≤ now
    rotate_left
    · refine D_re 38 (v' := .bool false) rfl (congrArg Value.bool (decide_eq_false ht)) ?_
      repeat (first | refine D_all rfl ?_ | refine D_pure tabOk rfl ?_ | refine D_pass rfl rfl rfl ?_)
      refine T_cond_f rfl ?_
      repeat (first | refine T_region ?_ | refine S_nil ?_ | refine pthen_normal ?_ | refine inb_normal ?_ | refine T_skip ?_ | refine S_i64 tabOk rfl (by omega) ?_ | refine S_pure tabOk rfl ?_)
      exact ⟨⟨i + 1, b⟩, ⟨by show i + 1 ≤ K0.length; omega, hb.skip hgi (.inr ht)⟩, by repeat (first | exact Sub.nil | refine Sub.cons rfl ?_), fun w' hw => hw.less (by repeat (first | exact Less.nil | refine Less.keep ?_ | refine Less.dropB (by first | assumption | omega) ?_)), by show K0.length - (i + 1) < K0.length - i; omega⟩
    refine D_re 38 (v' := .bool true) rfl (congrArg Value.bool (decide_eq_true ht)) ?_
    repeat (first | refine D_pure tabOk rfl ?_)
    cases b with
    | none =>
      refine D_re 41 (v' := .bool true) rfl rfl ?_
      repeat (first | refine D_all rfl ?_ | refine D_pure tabOk rfl ?_ | refine D_pass rfl rfl rfl ?_)
      refine T_cond_t rfl ?_
      repeat (first | refine T_region ?_ | refine S_nil ?_ | refine pthen_normal ?_ | refine inb_normal ?_ | refine S_i64 tabOk rfl (by omega) ?_ | refine S_pure tabOk rfl ?_ | refine T_region_any ?_)
      exact ⟨⟨i + 1, some i⟩, ⟨by show i + 1 ≤ K0.length; omega, hb.first hgi hd ht⟩, by repeat (first | exact Sub.nil | refine Sub.cons rfl ?_), fun w' hw => hw.less (by repeat (first | exact Less.nil | refine Less.keep ?_ | refine Less.dropB (by first | assumption | omega) ?_)), by show K0.length - (i + 1) < K0.length - i; omega⟩
    | some j =>
      have hb2 := hb
      obtain ⟨hji, gj, hgj, hdj, htj, _⟩ := hb2
      obtain ⟨⟨gj', xj⟩, hpj⟩ : ∃ p, K0[j]? = some p := ⟨_, List.getElem?_eq_getElem (by omega)⟩
      obtain rfl : gj' = gj := by
        rw [List.getElem?_map, hpj] at hgj
        exact Option.some.inj hgj
      obtain ⟨hKj, hdsj⟩ := hKp j _ hpj
      dsimp only at hKj hdsj
      rw [show bumpG f m now (ids.take k) gj' = gj' from by unfold bumpG; rw [if_neg hdj]] at hKj
      refine D_re 41 (v' := .bool false) rfl (congrArg Value.bool (decide_eq_false (show ¬ ((j : Nat) : Int) < 0 by omega))) ?_
      repeat (first | refine D_pure tabOk rfl ?_ | refine D_load tabOk 0 rfl rfl rfl ?_ | refine D_load tabOk 4 rfl rfl rfl ?_)
      refine D_q (Q_idx (sz := 4) tabOk rfl rfl rfl rfl rfl rfl rfl (j := j) rfl (by omega)) ?_
      repeat (first | refine D_pure tabOk rfl ?_)
      refine D_load1 tabOk (v := .int .i64 gj'.tm) rfl rfl (fun w' hw => by
        rw [Nat.zero_add]
        exact own_cell (hw.own _ (getE_mem (i := 5) rfl)) (by omega) (cellsG_get (j := 2) hKj rfl)) ?_
      repeat (first | refine D_all rfl ?_ | refine D_pure tabOk rfl ?_)
      by_cases hlt3 : g.tm < gj'.tm
      · refine T_cond_dec rfl (fun _ => ?_) (fun h => absurd hlt3 h)
        repeat (first | refine T_region ?_ | refine S_nil ?_ | refine pthen_normal ?_ | refine inb_normal ?_ | refine S_i64 tabOk rfl (by omega) ?_ | refine S_pure tabOk rfl ?_ | refine T_region_any ?_)
        exact ⟨⟨i + 1, some i⟩, ⟨by show i + 1 ≤ K0.length; omega, hb.better hgj hgi hd ht hlt3⟩, by repeat (first | exact Sub.nil | refine Sub.cons rfl ?_), fun w' hw => hw.less (by repeat (first | exact Less.nil | refine Less.keep ?_ | refine Less.dropB (by first | assumption | omega) ?_)), by show K0.length - (i + 1) < K0.length - i; omega⟩
      · refine T_cond_dec rfl (fun h => absurd h hlt3) (fun _ => ?_)
        repeat (first | refine T_region ?_ | refine S_nil ?_ | refine pthen_normal ?_ | refine inb_normal ?_ | refine T_skip ?_ | refine S_i64 tabOk rfl (by omega) ?_ | refine S_pure tabOk rfl ?_)
        exact ⟨⟨i + 1, some j⟩, ⟨by show i + 1 ≤ K0.length; omega, hb.worse hgj hgi hlt3⟩, by repeat (first | exact Sub.nil | refine Sub.cons rfl ?_), fun w' hw => hw.less (by repeat (first | exact Less.nil | refine Less.keep ?_ | refine Less.dropB (by first | assumption | omega) ?_)), by show K0.length - (i + 1) < K0.length - i; omega⟩
  intro b hb
  have hn0 : (gsK K0).length = K0.length := List.length_map _
  repeat (first | refine T_seq ?_ | refine T_region ?_ | refine S_nil ?_ | refine S_pure tabOk rfl ?_)
  cases b with
  | none =>
    have hke : k = ids.length := by
      rw [hids] at hb hk ⊢
      exact BestS.none_end hok hk (by rw [hn0]; exact hb)
    subst hke
    refine T_cond_t rfl ?_
    repeat (first | refine T_seq ?_ | refine T_region ?_ | refine S_nil ?_ | refine inb_ret ?_ | refine pthen_ret ?_ | refine T_ret ?_ | refine S_pure tabOk rfl ?_)
    refine ret1 rfl rfl (fun w' hw => ?_)
    obtain ⟨Fr, hFr2, h1⟩ := hw.share (p := rowV w.heap.size 37 1 ids.length css.flatten) (fun h => ⟨h, fun k hk => hk⟩)
    have eI : ids.map (lOf (gsK K0)) = dueL (gsK K0) now := by rw [hids]; rfl
    rw [List.take_length] at h1 hKp
    rw [eI] at h1
    have h2 := h1.merge (Ψ := fun w => (RLL.vp (dueL (gsK K0) now)).at_ w (fun k => Fr k ∨ Fo k) (.slice a5 ids.length c5)) (fun q1 q2 => (Bod.slr ((Bod _ _ _).mono q2 fun k hk => .inr hk) (R := Rslice (Rint .u64)) q1.1 (by rw [← eI, List.length_map]) fun k _ hk => .inl (q1.2 k hk)).val) (Vp.loc (p := RLL.vp _))
    have hKg : gsK K = dueG f m now (gsK K0) := by
      rw [← dueG_eq hok, ← hids]
      refine List.ext_getElem? fun i => ?_
      rw [List.getElem?_map, List.getElem?_map, List.getElem?_map]
      cases hpi : K0[i]? with
      | none => rw [List.getElem?_eq_none (by rw [hKn]; exact List.getElem?_eq_none_iff.1 hpi)]; rfl
      | some p => rw [(hKp i p hpi).1]; rfl
    have h3 := h2.mapI 4 rfl (Ψ := fun w => (okG K).at_ w G (.bool true)) (fun h p hp => by
      obtain ⟨i, hpi⟩ := List.mem_iff_getElem?.1 hp
      obtain ⟨p0, hp0⟩ : ∃ p0, K0[i]? = some p0 := ⟨_, List.getElem?_eq_getElem (by rw [← hKn]; exact (List.getElem?_eq_some_iff.1 hpi).1)⟩
      have h8 := (hKp i p0 hp0).1
      rw [hpi] at h8
      cases h8
      have h9 : SlR (Rint .u64) w' G p0.x.a p0.x.n p0.x.c p0.g.L := h p0 (List.mem_of_getElem? hp0)
      show SlR (Rint .u64) w' G p0.x.a p0.x.n p0.x.c (bumpG f m now ids p0.g).L
      rw [(bump_id ids p0.g).2]
      exact h9) (Vp.loc (p := okG _)) rfl
    rw [← hKn] at h3
    have hbk : BOk last (dueG f m now (gsK K0)) := dueG_eq hok ▸ hok.map_ (bump_id _) (fun g hg => by
      have h1 := hok.tr g hg
      have h2 := htr g hg
      unfold bumpG
      split
      · dsimp only; omega
      · exact h1) (fun g hg => by
      have h1 := hok.tm g hg
      have h2 := W_pos hp.1 hp.2.1 g.tries.toNat
      have h3 := hp.2.2
      unfold bumpG
      split
      · dsimp only; omega
      · exact h1)
    have h4 := h3.pm [2, 3, 4, 1, 0] rfl rfl rfl
    obtain ⟨F', g1, g2, g3⟩ := rb_close (base := 0) (F0 := F) (K := K) (a := a) (c := c) (G := G) (gs := dueG f m now (gsK K0)) (ol := [.rep (fun w => (RLL.vp (dueL (gsK K0) now)).at_ w (fun k => Fr k ∨ Fo k) (.slice a5 ids.length c5)) (fun k => Fr k ∨ Fo k) false]) [.blk bd (.cells ⟨ds.map .bool⟩ 4 (0, 0)) true] h4 hKg hp hbk (dueG_eq hok ▸ hne.map_ (bump_id _)) hF (fun e he k hk => by
        rw [List.mem_singleton] at he
        subst he
        exact hk.elim (hFr2 k) (hFo k)) (fun e he => by
        rw [List.mem_singleton] at he
        subst he
        exact .inr fun k hk hk2 => by
          have h5 := hF k (hFG k hk)
          have h6 : w.heap.size ≤ k := hk2.elim (hFr2 k) (hFo k)
          omega) (rb_cov (.inl hFx) (fun k hk => .inl (hFr k (hKn ▸ hk))) fun k hk => .inl (hFG k hk)) (fun e he => by
        rw [List.mem_singleton] at he
        subst he
        exact ⟨rfl, fun k hk => .inr (Option.some.inj hk ▸ hbd)⟩)
    exact ⟨_, _, rfl, fun k hk => hk.elim (hFr2 k) (hFo k), F', g1, g2, g3.pm [1, 0] rfl rfl rfl⟩
  | some j =>
    have hb2 := hb
    obtain ⟨hji, g, hgj, hdj, htj, _⟩ := hb2
    obtain ⟨⟨g', ⟨xa, xn, xc⟩⟩, hpj⟩ : ∃ p, K0[j]? = some p := ⟨_, List.getElem?_eq_getElem (by omega)⟩
    obtain rfl : g' = g := by
      rw [List.getElem?_map, hpj] at hgj
      exact Option.some.inj hgj
    have hpm := List.mem_of_getElem? hpj
    have hgm : g' ∈ gsK K0 := List.mem_of_getElem? hgj
    have hidk : ids[k]? = some g'.id := by
      rw [hids] at hb hk ⊢
      exact BestS.some_end hok hk (by rw [hn0]; exact hb) hgj
    have hkl : k < ids.length := (List.getElem?_eq_some_iff.1 hidk).1
    have htk : ids.take (k + 1) = ids.take k ++ [g'.id] := by rw [List.take_add_one, hidk]; rfl
    obtain ⟨hKj, hdsj⟩ := hKp j _ hpj
    dsimp only at hKj hdsj
    obtain ⟨hb1, hb3, hb4⟩ := bump_step (f := f) (m := m) (now := now) hok hgm rfl hdj
    rw [hb4] at hKj
    have htr' := htr g' hgm
    have htr2 := hok.tr g' hgm
    have hW := W_pos hp.1 hp.2.1 g'.tries.toNat
    have hp3 := hp.2.2
    have hgl := nums_le hgm
    have hlo : lOf (gsK K0) g'.id = g'.L := by unfold lOf; rw [bId_mem hok hgm]
    refine T_kn (fun w1 g1 => ((g1.own _ (getE_mem (i := 5) rfl)).1 _ hpm).len) (fun hpn => ?_)
    dsimp only at hpn
    subst hpn
    refine T_cond_f (by exact congrArg some (congrArg Value.bool (decide_eq_false (show ¬ ((j : Nat) : Int) < 0 by omega)))) ?_
    repeat (first | refine T_seq ?_ | refine T_region ?_ | refine pthen_normal ?_ | refine T_skip ?_ | refine S_pure tabOk rfl ?_)
    refine S_q (Q_idx (sz := 1) tabOk rfl rfl rfl rfl rfl rfl rfl (j := j) rfl (by omega)) ?_
    refine S_store_of tabOk 2 rfl rfl (fun u hu => by rw [List.mem_singleton] at hu; subst hu; rfl) rfl (setMany_one (by rw [List.length_map]; omega)) rfl ?_
    rw [show (ds.map Value.bool).set (0 + j * 1) (.bool true) = (ds.set j true).map .bool from by rw [Nat.zero_add, Nat.mul_one, List.map_set]]
    repeat (first | refine T_seq ?_ | refine T_region ?_ | refine S_nil ?_ | refine S_pure tabOk rfl ?_ | refine S_load tabOk 3 rfl rfl rfl ?_)
    refine S_rowA 4 rfl (by omega) (fun bK hbK => ?_)
    subst hbK
    refine S_q (Q_idx (sz := 4) tabOk rfl rfl rfl rfl rfl rfl rfl (j := j) rfl (by omega)) ?_
    repeat (first | refine T_seq ?_ | refine T_region ?_ | refine S_nil ?_ | refine S_pure tabOk rfl ?_)
    refine S_bslice tabOk rfl rfl rfl rfl rfl rfl rfl rfl rfl rfl rfl rfl (fun b70 hb70 => ?_)
    refine S_heap (fun w' h => Hp.closeRow (pre := []) (n := 0) (c := 0) (sz := 1) (cs := []) h hb70 (by decide) (by decide) rfl) ?_
    repeat (first | refine S_pure tabOk rfl ?_)
    refine S_load1 tabOk (v := .slice xa g'.L.length xc) rfl rfl (fun w' hw => by
      rw [Nat.zero_add]
      exact own_cell (hw.own _ (getE_mem (i := 5) rfl)) (by omega) (cellsG_get (j := 1) hKj rfl)) ?_
    refine S_append (ty := 0) tabOk 0 (k := g'.L.length) (news := u64s g'.L) rfl rfl rfl rfl rfl rfl rfl rfl rfl (by decide) (fun w' hw => ((hw.own _ (getE_mem (i := 6) rfl)).1 _ hpm).ints.sl) (fun u hu => u64s_one hu) (by simp only [maxLen]; omega) (by show (_ + _) * 8 ≤ _; omega) rfl (fun A1 C1 hc3 hd3 => ⟨_, rfl, ?_⟩)
    rw [show List.take (0 * 1) ([] : List Value) ++ u64s g'.L = u64s g'.L from rfl, Nat.zero_add]
    refine S_share ((Rslice (Rint .u64)).vp g'.L) (fun w' h => (row_slr h rfl (fun x hx => hok.fit g' hgm x hx)).val) (fun Fc hFc => ?_)
    refine S_bslice tabOk rfl rfl rfl rfl rfl rfl rfl rfl rfl rfl rfl rfl (fun b76 hb76 => ?_)
    refine S_append (ty := 0) tabOk 2 (k := 1) (news := [.slice A1 g'.L.length C1]) rfl rfl rfl rfl rfl rfl rfl rfl rfl (by decide) (fun w' hw => Sl.of_blk (hw.own _ (getE_mem (i := 0) rfl)) rfl (fun j u hu => by rw [Nat.zero_add]; exact hu)) (fun u hu => by rw [List.mem_singleton] at hu; subst hu; rfl) (by simp only [maxLen]; omega) (by show (_ + _) * 24 ≤ _; omega) rfl (fun A2 C2 hc4 hd4 => ⟨_, rfl, ?_⟩)
    repeat (first | refine T_seq ?_ | refine S_nil ?_ | refine S_pure tabOk rfl ?_)
    have e9 : (css ++ [[Value.slice A1 g'.L.length C1]]).flatten = css.flatten ++ [Value.slice A1 g'.L.length C1] := by rw [List.flatten_append]; rfl
    refine T_heap (ol' := [.row w.heap.size (.slice A2 (k + 1) C2) 37 1 (k + 1) (css ++ [[Value.slice A1 g'.L.length C1]]).flatten, .rep (fun w => (Bod (Rslice (Rint .u64)) (css ++ [[Value.slice A1 g'.L.length C1]]) ((ids.take (k + 1)).map (lOf (gsK K0)))).at_ w (fun k => Fc k ∨ Fo k) (.bool true)) (fun k => Fc k ∨ Fo k) false, .blk bd (.cells ⟨(ds.set j true).map .bool⟩ 4 (0, 0)) true, .blk xb (rbC f m (some ⟨bK, 0, none⟩) K0.length c last) true, .row 0 (.slice (some ⟨bK, 0, none⟩) K0.length c) 99 4 K0.length (cellsG K), .rep (fun w => (okG K0).at_ w G (.bool true)) G false]) (fun w' hw => ?_) ?_
    · rw [e9]
      have h8 := hw.pm [1, 3, 2, 4, 5, 6, 7, 0] rfl rfl rfl
      have h9 := h8.merge (Ψ := fun w => (Bod (Rslice (Rint .u64)) (css ++ [[Value.slice A1 g'.L.length C1]]) ((ids.take (k + 1)).map (lOf (gsK K0)))).at_ w (fun k => Fc k ∨ Fo k) (.bool true)) (fun q1 q2 => by
        rw [htk, List.map_append, List.map_cons, List.map_nil, hlo]
        exact Bod.snoc ((Bod _ _ _).mono q2 fun k hk => .inr hk) ((Rslice (Rint .u64)).at_mono q1 fun k hk => .inl hk)) (Vp.loc (p := Bod _ _ _))
      exact (h9.pm [1, 0, 2, 3, 4, 5, 6] rfl rfl rfl).less (by repeat (first | exact Less.nil | refine Less.keep ?_ | refine Less.dropB (by first | assumption | omega) ?_))
    refine T_drawT (by kernel_rfl) 16 rfl (by kernel_rfl) ?_
    repeat (first | refine D_pure tabOk rfl ?_ | refine D_load tabOk 3 rfl rfl rfl ?_)
    refine D_load1 tabOk (v := .int .i64 g'.tries) rfl rfl (fun w' hw => by
      rw [Nat.zero_add]
      exact own_cell (hw.own _ (getE_mem (i := 4) rfl)) (by omega) (cellsG_get (j := 3) hKj rfl)) ?_
    refine D_callx (v := .int .i64 (W f m g'.tries.toNat)) rfl Try.call38 (fun w' vs hw' h => by
      obtain ⟨u1, _, rfl, rfl, u2, _, rfl, rfl, u3, _, rfl, rfl, rfl⟩ := h
      exact waitr_w f m g'.tries w' hp.1 hp.2.2 hp.2.1 (by omega)) ?_
    repeat (first | refine D_all rfl ?_ | refine D_i64 tabOk rfl (by omega) ?_ | refine S_pure tabOk rfl ?_)
    refine S_storeR tabOk 4 rfl rfl rfl (by rw [cellsG_len]; omega) rfl ?_
    rw [show 0 + j * 4 + 2 = j * 4 + 2 by omega]
    repeat (first | refine S_nil ?_ | refine S_pure tabOk rfl ?_ | refine T_region_any ?_)
    refine S_load1 tabOk (v := .int .i64 g'.tries) rfl rfl (fun w' hw => by
      rw [Nat.zero_add]
      exact own_cell (hw.own _ (getE_mem (i := 4) rfl)) (by omega) (by rw [List.getElem?_set_ne (by omega)]; exact cellsG_get (j := 3) hKj rfl)) ?_
    repeat (first | refine S_i64 tabOk rfl (by omega) ?_ | refine S_pure tabOk rfl ?_)
    refine S_storeR tabOk 4 rfl rfl rfl (by rw [List.length_set, cellsG_len]; omega) rfl ?_
    rw [show 0 + j * 4 + 3 = j * 4 + 3 by omega]
    have hcs := cellsG_set (g' := ⟨g'.id, g'.L, now + W f m g'.tries.toNat, g'.tries + 1⟩) hKj rfl rfl
    dsimp only at hcs
    rw [← hcs]
    repeat (first | refine S_nil ?_ | refine pthen_normal ?_ | refine inb_normal ?_)
    refine ⟨⟨k + 1, K.set j ⟨⟨g'.id, g'.L, now + W f m g'.tries.toNat, g'.tries + 1⟩, ⟨xa, g'.L.length, xc⟩⟩, ds.set j true, A2, C2, css ++ [[Value.slice A1 g'.L.length C1]], fun k => Fc k ∨ Fo k⟩, ⟨hkl, by dsimp only; rw [List.length_set]; exact hKn, fun i p hpi => ?_, by dsimp only; rw [List.length_set]; exact hdn, by dsimp only; rw [e9, List.length_append, hcss]; rfl, fun j hj => hj.elim (hFc j) (hFo j)⟩, by repeat (first | exact Sub.nil | refine Sub.cons rfl ?_), fun w' hw => hw, by show ids.length - (k + 1) < ids.length - k; omega⟩
    obtain ⟨h5, h6⟩ := hKp i p hpi
    dsimp only
    by_cases hij : j = i
    · subst hij
      rw [hpj] at hpi
      cases hpi
      rw [List.getElem?_set_self (by omega), List.getElem?_set_self (by omega), htk]
      dsimp only
      rw [hb3]
      exact ⟨rfl, by rw [decide_eq_true (List.mem_append.2 (.inr (List.mem_singleton.2 rfl)))]⟩
    · have hpg : p.g ∈ gsK K0 := List.mem_map.2 ⟨p, List.mem_of_getElem? hpi, rfl⟩
      have hpi2 : (gsK K0)[i]? = some p.g := by rw [List.getElem?_map, hpi]; rfl
      have hne2 : p.g.id ≠ g'.id := fun e => by
        rcases Nat.lt_trichotomy i j with h | h | h
        · have := ids_lt hok hpi2 hgj h
          omega
        · exact hij h.symm
        · have := ids_lt hok hgj hpi2 h
          omega
      rw [List.getElem?_set_ne hij, List.getElem?_set_ne hij, htk, hb1 p.g hpg hne2]
      refine ⟨h5, ?_⟩
      rw [h6]
      exact congrArg some (decide_eq_decide.2 ⟨fun h => List.mem_append.2 (.inl h), fun h => (List.mem_append.1 h).resolve_right fun h => hne2 (List.mem_singleton.1 h)⟩)
end
end Go.Proofs.Ytidhpofcofknhaa
