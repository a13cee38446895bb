/-
  The walk of RunsNumbers. Conditions: each theorem's own.
-/
import Derived.Test.YtbkljccjbakpmaaItI
import Derived.Test.YtbkljccjbakpmaaRnW
import Derived.Test.YtbkljccjbakpmaaEqu
namespace Go.Proofs.Ytbkljccjbakpmaa
open Go Go.RowKit Go.Shelf
set_option linter.unusedVariables false
attribute [local go_sem] Oper.semAt_some

theorem pre_snoc {pre X : List Int} {x : Int} (h : pre <+: X) (hk : pre.length < X.length) : pre ++ [x] <+: X ↔ x = X[pre.length] := by
  obtain ⟨t, rfl⟩ := h
  cases t with
  | nil => simp at hk
  | cons y t =>
    rw [List.prefix_append_right_inj, List.getElem_append_right (Nat.le_refl _)]
    simp only [Nat.sub_self, List.getElem_cons_zero]
    constructor
    · rintro ⟨s, hs⟩
      rw [List.singleton_append] at hs
      cases hs; rfl
    · rintro rfl
      exact ⟨t, rfl⟩
theorem kr_set {G : Nat → Prop} {W : World} {b : Nat} {t : TypeId} {u v : Value} (hb : Boxed W b t u) (hG : ¬ G b) (ht : t ≠ 42) : KR G W (W.setCell ⟨b, 0, none⟩ v) :=
  ⟨(KeepsOthers.setCell W ⟨b, 0, none⟩ v).size, fun k hk => Go.RowKit.Below.heap_setCell W ⟨b, 0, none⟩ v k (fun e => by rw [show k = b from e] at hk; exact hG hk), fun k cur f hk => Go.RowKit.Below.heap_setCell W ⟨b, 0, none⟩ v k (fun e => by
    rw [show k = b from e, show W.heap[b]? = _ from hb] at hk
    exact ht (by have := Option.some.inj hk; injection this))⟩
theorem finM {tmps : Array Value} {W W1 : World} {D b4 : Nat} {q : Bool} (hq : q = true) (ht : tmps[4]? = some (.pointer (some ⟨b4, 0, none⟩))) (hK : W1.heap[D]? = some (.deferred (some []))) (hb : Boxed W1 b4 4 (.bool false)) (h4 : W.heap.size ≤ b4) (hD : W.heap.size ≤ D) (hB : Below W.heap.size W W1) :
    bodyPostM Fence.wide 4 Try.prog Try.f3 (fun e w' => e = .returned (.bool true) ∧ Below W.heap.size W w') .ret { tmps := tmps, defers := [{ target := .collected D, args := #[] }] } (W1.setCell ⟨b4, 0, none⟩ (.bool q)) := by
  subst hq
  have hb1 : Boxed (W1.setCell ⟨b4, 0, none⟩ (.bool true)) b4 4 (.bool true) := hb.set _
  have hK1 : (W1.setCell ⟨b4, 0, none⟩ (.bool true)).heap[D]? = some (.deferred (some [])) := (KeepsOthers.setCell W1 ⟨b4, 0, none⟩ _).same D _ hK rfl
  have hB1 : Below W.heap.size W (W1.setCell ⟨b4, 0, none⟩ (.bool true)) := hB.grown (grownBy_setCell' _ _ _) hB.size (fun k e => by cases e; exact h4)
  have hDb : D ≠ b4 := fun e => by subst e; have := Option.some.inj (hK1.symm.trans hb1); cases this
  refine ⟨by simp, .inl ⟨D, _, rfl, run_takeDeferred hK1, ?_⟩⟩
  have hb2 : ((W1.setCell ⟨b4, 0, none⟩ (.bool true)).putObj D (.deferred none)).heap[b4]? = some (.cells #[.bool true] 4 (0, 0)) := (World.putObj_heap_other (Ne.symm hDb)).trans hb1
  refine ⟨.bool true, ?_, rfl, hB1.grown (grownBy_putObj' _ _ _) hB1.size (fun k e => by cases e; exact hD)⟩
  have h3 : (loadVar 4 ⟨b4, 0, none⟩).run Try.prog ((W1.setCell ⟨b4, 0, none⟩ (.bool true)).putObj D (.deferred none)) = .ok (.bool true) ((W1.setCell ⟨b4, 0, none⟩ (.bool true)).putObj D (.deferred none)) := loadVar_one tabOk rfl rfl (by simp [World.cell?, hb2])
  rw [results_eq, show Try.f3.results = #[.cell 4 4] from rfl]
  simp [resVal, Array.getD_eq_getD_getElem?, ht, asAddr, h3]
set_option maxRecDepth 100000 in
set_option maxHeartbeats 8000000 in
theorem runsNumbers_walk (v : Value) (l0 : List Int) (stop : Int) (W : World) (h : (Rslice (Rint .u64)).val W TT v l0) (hs : Fits .u8 stop) : Calls Try.prog 3 #[v, .int .u8 stop] W fun e w' => e = .returned (.bool true) ∧ Below W.heap.size W w' := by
  obtain ⟨a, n, c, rfl, h0⟩ := SlR.form h
  have hcap := h0.cap
  have hmax := h0.max
  have hy := h0.take (k := min n 40) (by omega)
  refine enterM2 Try.func3 rfl rfl ?_
  obtain ⟨n', hn'⟩ : ∃ n', n' = min n 40 := ⟨_, rfl⟩
  obtain ⟨l, hl⟩ : ∃ l, l = l0.take (min n 40) := ⟨_, rfl⟩
  rw [← hl, ← hn'] at hy
  have hyl := hy.len
  have hn40 : n' ≤ 40 := by omega
  have hyf := hy.flat (flat_int .u64)
  rw [flat_ints] at hyf
  refine TM_seq ?_
  repeat (first | refine T_region ?_)
  refine S_new tabOk rfl (fun b2 hb2 => ?_)
  skip
  refine S_new tabOk rfl (fun b3 hb3 => ?_)
  skip
  refine S_new tabOk rfl (fun b4 hb4 => ?_)
  repeat (first | refine S_nil ?_)
  refine TM_seq ?_
  repeat (first | refine T_seq ?_ | refine T_region ?_)
  refine S_callq (v := .bool true) rfl Try.call4 (fun w1 h1 => awake_ok w1) ?_
  repeat (first | refine S_nil ?_ | refine S_pure tabOk rfl ?_)
  refine T_cond_f rfl ?_
  repeat (first | refine pthen_normal ?_ | refine T_skip ?_)
  refine TM_seq ?_
  repeat (first | refine T_region ?_ | refine S_pure tabOk rfl ?_ | refine S_load tabOk 2 rfl rfl rfl ?_)
  refine S_q (Q_sliceTo tabOk rfl rfl rfl rfl rfl rfl (H := n') (by omega) (by omega)) ?_
  refine S_callrow rfl Try.call5 (fun w1 h1 => cloneU_ok a n' c l w1 (hyf.1.ext (h1.below (by repeat (first | exact new_nil | refine new_cons (by first | assumption | omega) ?_)))) (fun e => by have := (hy.nil e).1; exact this) (by omega)) (fun a1 c1 hc1 hm1 => ?_)
  repeat (first | refine S_nil ?_ | refine S_store tabOk 3 rfl rfl rfl rfl rfl rfl ?_)
  refine TM_seq ?_
  repeat (first | refine T_region ?_ | refine S_load tabOk 3 rfl rfl rfl ?_)
  refine S_callZ (setP (fun x => x ∈ l) 40) TT rfl Try.call6 (fun w1 h1 => (of_p a1 n' c1 l w1 (.of_row (flat_int .u64) (by rw [flat_ints]; exact h1.own _ (getE_mem (i := 0) rfl)) hyl hyf.2 fun k _ _ => trivial) (by omega)).mono fun e w' ⟨r, e1, e2, e3⟩ => ⟨r, e1, e2, nbb h1 (setP_to (fun x => Iff.rfl) (by omega) e3)⟩) (fun v F w1 hF hv => ⟨_, rfl, ?_⟩)
  obtain ⟨a5, n5, c5, rfl⟩ := setP_val hv
  refine S_new tabOk rfl (fun b5 hb5 => ?_)
  repeat (first | refine S_nil ?_ | refine S_store tabOk 0 rfl rfl rfl rfl rfl rfl ?_)
  refine TM_seq ?_
  repeat (first | refine T_region ?_ | refine S_load tabOk 4 rfl rfl rfl ?_)
  refine S_call rfl Try.call7 (fun w1 h1 => (sortR_ok (h1.pm [1, 0, 2, 3, 4, 5] rfl rfl rfl) hyl (by omega)).mono fun e w' ⟨ts, e1, hp, hso, h2⟩ => ⟨_, _, e1, h2, ?_⟩)
  have htl : ts.length = n' := hp.length_eq.trans hyl
  repeat (first | refine S_nil ?_)
  refine TM_seq ?_
  repeat (first | refine T_region ?_ | refine S_load tabOk 4 rfl rfl rfl ?_)
  refine S_call rfl Try.call8 (fun w1 h1 => (compactR_ok h1 htl (by omega)).mono fun e w' ⟨m, e1, hmn, hml, h2⟩ => ⟨_, _, e1, h2, ?_⟩)
  repeat (first | refine S_nil ?_ | refine S_store tabOk 4 rfl rfl rfl rfl rfl rfl ?_)
  obtain ⟨X, hX⟩ : ∃ X, X = ddL ts := ⟨_, rfl⟩
  obtain ⟨hXs, hXm⟩ := ddL_spec hso
  rw [← hX] at hml hXs hXm ⊢
  have hXl : ∀ x, x ∈ X ↔ x ∈ l := fun x => (hXm x).trans hp.mem_iff
  clear hX
  refine TM_seq ?_
  repeat (first | refine T_draw (by kernel_rfl) (by kernel_rfl) ?_ | refine D_load tabOk 1 rfl rfl rfl ?_ | refine T_seq ?_)
  refine D_callR (allP X) TT rfl Try.call11 (fun w' vs hw' h => by
    obtain ⟨u1, _, rfl, rfl, rfl⟩ := h
    exact (all_p (Vp.fact (A := TT) hw' 5 rfl fun _ _ => .inl trivial) (by omega) hXs hXl).mono fun e w2 ⟨r, e1, e2, e3⟩ => ⟨r, e1, e2, Vp.mono (allP X) e3 fun k hk => hk.elim (fun h => h.1) fun h => BB_new hw' h⟩) ?_
  skip
  refine D_callR ((Rslice (Rint .u64)).vp X) TT rfl Try.call10 (fun w' vs hw' h => by
    obtain ⟨u1, _, rfl, g1, rfl⟩ := h
    exact (collectA_p g1 (by omega)).mono fun e w2 ⟨r, e1, e2, e3⟩ => ⟨r, e1, e2, nbb hw' e3⟩) ?_
  repeat (first | refine D_load tabOk 4 rfl rfl rfl ?_)
  refine D_callx (v := .bool true) rfl Try.call9 (fun w' vs hw' h => by
    obtain ⟨u1, _, rfl, g1, u2, _, rfl, rfl, rfl⟩ := h
    obtain ⟨a2, n2, c2, rfl, h2⟩ := SlR.form g1
    have h3 := (h2.flat (flat_int .u64)).1
    rw [flat_ints] at h3
    exact (equal64_ok a2 a1 n2 c2 m c1 X X w' h3 (Sl.of_own (hw'.own _ (getE_mem (i := 0) rfl))) (by have := h2.len; simp only [maxLen]; omega)).mono fun e w2 ⟨e1, e2⟩ => ⟨by rw [e1, decide_eq_true rfl], e2⟩) ?_
  repeat (first | refine D_pure tabOk rfl ?_ | refine D_load tabOk 1 rfl rfl rfl ?_)
  refine D_callx (v := .int .u64 (X.length : Int)) rfl Try.call12 (fun w' vs hw' h => by
    obtain ⟨u1, _, rfl, rfl, rfl⟩ := h
    exact count_x (Vp.fact0 (p := setP (fun x => x ∈ l) 40) hw' 5 rfl) (by omega) hXs hXl (by omega)) ?_
  repeat (first | refine D_u64 tabOk rfl (by omega) ?_ | refine D_pure tabOk rfl ?_ | refine D_load tabOk 4 rfl rfl rfl ?_)
  refine D_re 35 (v' := .bool false) rfl (congrArg Value.bool (decide_eq_false (by omega))) ?_
  refine D_allP rfl ?_
  skip
  refine T_cond_f rfl ?_
  repeat (first | refine pthen_normal ?_ | refine T_skip ?_)
  refine TM_seq ?_
  repeat (first | refine T_region ?_)
  refine S_new tabOk rfl (fun b6 hb6 => ?_)
  repeat (first | refine S_nil ?_ | refine S_store tabOk 0 rfl rfl rfl rfl rfl rfl ?_)
  refine TM_seq2 ?_
  repeat (first | refine T_region ?_ | refine S_load tabOk 2 rfl rfl rfl ?_)
  refine S_callZ (allP X) TT rfl Try.call11 (fun w' hw' => (all_p (Vp.fact (A := TT) hw' 6 rfl fun _ _ => .inl trivial) (by omega) hXs hXl).mono fun e w2 ⟨r, e1, e2, e3⟩ => ⟨r, e1, e2, Vp.mono (allP X) e3 fun k hk => hk.elim (fun h => h.1) fun h => BB_new hw' h⟩) (fun v F2 w2 hF2 hv2 => ⟨_, rfl, ?_⟩)
  obtain ⟨B7, _, _, _, _, rfl, _⟩ := hv2
  repeat (first | refine S_nil ?_)
  refine TM_sub (l' := [(2, .pointer (some ⟨b2, 0, none⟩)), (3, .pointer (some ⟨b3, 0, none⟩)), (4, .pointer (some ⟨b4, 0, none⟩)), (6, .pointer (some ⟨b6, 0, none⟩)), (37, .func (.func 20) #[] #[.pointer (some ⟨B7, 0, none⟩)])]) (by repeat (first | exact Sub.nil | refine Sub.cons rfl ?_)) ?_
  refine TM.mk fun ac w hf hh => ?_
  obtain ⟨f, rfl, hfg⟩ := hf.fn
  have g2 := hfg 2 _ rfl
  have g3 := hfg 3 _ rfl
  have g4 := hfg 4 _ rfl
  have g6 := hfg 6 _ rfl
  have g37 := hfg 37 _ rfl
  clear hfg hf
  rw [show List.range Try.f3.ntmps = [0, 1, 2, 3, 4, 5, 6, 7, 8, 9, 10, 11, 12, 13, 14, 15, 16, 17, 18, 19, 20, 21, 22, 23, 24, 25, 26, 27, 28, 29, 30, 31, 32, 33, 34, 35, 36, 37, 38, 39, 40, 41, 42, 43, 44, 45, 46, 47, 48, 49, 50, 51, 52, 53, 54, 55, 56, 57, 58, 59, 60] from rfl]
  simp only [List.map_cons, List.map_nil, g2, g3, g4, g6, g37]
  have x6 : Boxed w b6 3 (.int .i64 0) := hh.own _ (getE_mem (i := 0) rfl)
  have x4 : Boxed w b4 4 (.bool false) := hh.own _ (getE_mem (i := 3) rfl)
  have x3 : Boxed w b3 5 (.int .u8 stop) := hh.own _ (getE_mem (i := 4) rfl)
  have x2 : Boxed w b2 22 (.slice a1 m c1) := hh.own _ (getE_mem (i := 5) rfl)
  have xr := hh.own _ (getE_mem (i := 1) rfl)
  have xa := (hh.own _ (getE_mem (i := 7) rfl)).1
  have hd := hh.apart
  obtain ⟨B, eB, hi, _⟩ := allP_itr (X := X) xa (by omega)
  cases eB
  have n62 : b6 ≠ b2 := fun e => by subst e; have := Option.some.inj ((show w.heap[b6]? = some _ from x6).symm.trans x2); cases this
  have n63 : b6 ≠ b3 := fun e => by subst e; have := Option.some.inj ((show w.heap[b6]? = some _ from x6).symm.trans x3); cases this
  have n64 : b6 ≠ b4 := fun e => by subst e; have := Option.some.inj ((show w.heap[b6]? = some _ from x6).symm.trans x4); cases this
  have hF6 : ¬ F2 b6 := fun hF => getE_other hd (i := 7) rfl (getE_mem (i := 0) rfl) rfl rfl (by rfl) b6 hF rfl
  have hbelow : Below W.heap.size W w := hh.below (by repeat (first | exact new_nil | refine new_ro ?_ | refine new_cons (by first | assumption | omega) ?_ | refine newrow hh 1 rfl (Nat.le_refl _) ?_))
  obtain ⟨st, hst⟩ : ∃ st : Nat, (st : Int) = stop % 50 := ⟨(stop % 50).toNat, by omega⟩
  have hs1 := hs.1
  have hs2 := hs.2
  have e8 : IntKind.u8.min = 0 := rfl
  have e9 : IntKind.u8.max = 255 := rfl
  have hst0 : stop.tmod 50 = (st : Int) := by rw [Int.tmod_eq_emod_of_nonneg (by omega)]; exact hst.symm
  clear hh hd
  have y2 : ∀ {W' : World}, w.grownBy W' (some b6) → W'.cell? ⟨b2, 0, none⟩ = some (.slice a1 m c1) := fun hg => (x2.kept hg (fun e => n62 (by cases e; rfl))).cell
  have y3 : ∀ {W' : World}, w.grownBy W' (some b6) → W'.cell? ⟨b3, 0, none⟩ = some (.int .u8 stop) := fun hg => (x3.kept hg (fun e => n63 (by cases e; rfl))).cell
  have y4 : ∀ {W' : World}, w.grownBy W' (some b6) → Boxed W' b4 4 (.bool false) := fun hg => x4.kept hg (fun e => n64 (by cases e; rfl))
  have yr : ∀ {W' : World}, w.grownBy W' (some b6) → ∀ k (hk : k < X.length), ∃ g, a1 = some ⟨g, 0, none⟩ ∧ W'.cell? ⟨g, k, none⟩ = some (.int .u64 X[k]) := fun {W'} hg k hk => by
    have h1 := Sl.of_own xr
    rcases xr.2 with ⟨_, e0⟩ | ⟨g, cap, cur, e1, _, hgg, _⟩
    · omega
    · cases e1
      obtain ⟨b, off, e2, hb, h2⟩ := h1.get (by omega)
      cases e2
      have h3 := h2 k (.int .u64 X[k]) (by rw [List.getElem?_map, List.getElem?_eq_getElem hk]; rfl)
      rw [Nat.zero_add] at h3
      refine ⟨g, rfl, (World.cell?_of_block (hg.block g hb fun e => ?_)).trans h3⟩
      cases e
      have := Option.some.inj (hgg.symm.trans x6)
      cases this
  refine wpIn_block ?_
  refine wpIn_rangeFunc_ownG rfl (by decide) (gf := 20) (lb := #[.pointer (some ⟨B7, 0, none⟩)]) rfl trivial hi.eg (hi.seq _) hi.kp.t hi.kp.b (Go.RowKit.Below.refl _ _) (fun _ => rfl)
    (fun pre W' => ((pre <+: X ∧ pre.length ≤ st) ∧ Boxed W' b6 3 (.int .i64 (pre.length : Int))) ∧ w.grownBy W' (some b6))
    (fun cd pre W' => (((cd = .exit 0 ∧ pre.length = st + 1) ∧ Boxed W' b6 3 (.int .i64 (pre.length : Int))) ∧ w.grownBy W' (some b6)) ∨ ((cd = .ret ∧ ¬ pre <+: X)))
    ?_ ?_ ⟨⟨⟨List.nil_prefix, Nat.zero_le _⟩, x6⟩, ⟨rfl, rfl, rfl, Nat.le_refl _, fun _ _ _ => rfl⟩⟩
    (fun x => { tmps := #[f 0, f 1, .pointer (some ⟨b2, 0, none⟩), .pointer (some ⟨b3, 0, none⟩), .pointer (some ⟨b4, 0, none⟩), f 5, .pointer (some ⟨b6, 0, none⟩), .int .u64 x, f 8, f 9, f 10, f 11, f 12, f 13, f 14, f 15, f 16, f 17, f 18, f 19, f 20, f 21, f 22, f 23, f 24, f 25, f 26, f 27, f 28, f 29, f 30, f 31, f 32, f 33, f 34, f 35, f 36, .func (.func 20) #[] #[.pointer (some ⟨B7, 0, none⟩)], .int .u64 x, f 39, f 40, f 41, f 42, f 43, f 44, f 45, f 46, f 47, f 48, f 49, f 50, f 51, f 52, f 53, f 54, f 55, f 56, f 57, f 58, f 59, f 60], defers := [] }) ?assign ?body ?done ?stop
  · rintro pre A B row ⟨⟨hp, hb⟩, hgr⟩ hg hr
    exact ⟨⟨hp, hb.kept hg (fun e => by have := (hr _ e.symm).1; have := x6.lt; omega)⟩, hgr.andThen hg fun j e => .inl (hr j e).1⟩
  · rintro cd pre A B row (⟨⟨hp, hb⟩, hgr⟩ | hp) hg hr
    · exact .inl ⟨⟨hp, hb.kept hg (fun e => by have := (hr _ e.symm).1; have := x6.lt; omega)⟩, hgr.andThen hg fun j e => .inl (hr j e).1⟩
    · exact .inr hp
  case assign =>
    intro l x W K hK
    gi_wp2
    exact hK
  case body =>
    rintro lp pre x W' ⟨⟨⟨hp1, hp2⟩, hb⟩, hg⟩ hlt
    obtain ⟨g, rfl, hck⟩ := yr hg _ hlt
    have hc2 := y2 hg
    have hc3 := y3 hg
    have hc6 := hb.cell
    have hf6 := hb.frozen
    have hc4 := (y4 hg).cell
    have hf4 := (y4 hg).frozen
    have hml2 : m ≤ 40 := by omega
    have hkm : pre.length < m := by omega
    have hlen1 : ((pre ++ [x]).length : Int) = (pre.length : Int) + 1 := by rw [List.length_append]; rfl
    have hGb : ¬ (F2 b6 ∧ b6 < w.heap.size) := fun h => hF6 h.1
    gi_wp2
    · rename_i hne
      have hx : x ≠ X[pre.length] := by simpa using hne
      exact ⟨(KeepsOthers.setCell _ _ _).from _, .inr ⟨rfl, fun h => hx ((pre_snoc hp1 hlt).1 h)⟩⟩
    · rename_i heq hgt
      exact ⟨(KeepsOthers.setCell _ _ _).from _, .inl ⟨⟨⟨rfl, by omega⟩, by rw [hlen1]; exact hb.set _⟩, hg.andThen (grownBy_setCell' _ _ _) fun j e => .inr (by rw [e])⟩⟩
    · rename_i heq hgt
      have hx : x = X[pre.length] := by simpa using heq
      exact ⟨(KeepsOthers.setCell _ _ _).from _, kr_set hb hGb (by decide), ⟨⟨(pre_snoc hp1 hlt).2 hx, by omega⟩, by rw [hlen1]; exact hb.set _⟩, hg.andThen (grownBy_setCell' _ _ _) fun j e => .inr (by rw [e])⟩
  case done =>
    rintro D ys W' hD rfl ⟨⟨⟨hp1, hp2⟩, hb⟩, hg⟩ hK
    have hc2 := y2 hg
    have hc3 := y3 hg
    have hc6 := hb.cell
    have hc4 := (y4 hg).cell
    have hf4 := (y4 hg).frozen
    have hml2 : m ≤ 40 := by omega
    have hBW : Below W.heap.size W W' := hbelow.grown hg hbelow.size (fun k e => by cases e; exact hb6)
    have hDW : W.heap.size ≤ D := Nat.le_trans hbelow.size hD
    have hy4 := y4 hg
    gi_wp2
    all_goals exact finM (by first | rfl | (exfalso; omega) | (rw [beq_iff_eq]; omega)) rfl hK hy4 hb4 hDW hBW
  case stop =>
    rintro D cd pre W' hD hpre (⟨⟨⟨rfl, hl1⟩, hb⟩, hg⟩ | ⟨_, hno⟩) hK
    · have hc2 := y2 hg
      have hc3 := y3 hg
      have hc6 := hb.cell
      have hc4 := (y4 hg).cell
      have hf4 := (y4 hg).frozen
      have hml2 : m ≤ 40 := by omega
      have hple := hpre.length_le
      have hBW : Below W.heap.size W W' := hbelow.grown hg hbelow.size (fun k e => by cases e; exact hb6)
      have hDW : W.heap.size ≤ D := Nat.le_trans hbelow.size hD
      have hy4 := y4 hg
      gi_wp2
      all_goals exact finM (by first | rfl | (exfalso; omega) | (rw [beq_iff_eq]; omega)) rfl hK hy4 hb4 hDW hBW
    · exact absurd hpre hno
end Go.Proofs.Ytbkljccjbakpmaa
