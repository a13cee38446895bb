/-
  Frames: the document's Bytes, Encode. Conditions: each theorem's own.
-/
import Derived.Test.YtnefhhoijonnaaaFrR
namespace Go.Proofs.Ytnefhhoijonnaaa
open Go Go.RowKit
set_option linter.unusedVariables false

/-! ### Slices that are built of slices of bytes -/
theorem zip_mk {α β γ : Type} (f : α → β) (g : α → γ) : ∀ ps : List α, ps.map (fun p => (f p, g p)) = (ps.map f).zip (ps.map g)
  | [] => rfl
  | p :: ps => by rw [List.map_cons, List.map_cons, List.map_cons, List.zip_cons_cons, zip_mk f g ps]
theorem zrow_one (z : Value) : ∀ (k i : Nat), zrow [z] 1 k i = some (List.replicate k z)
  | 0, _ => rfl
  | k + 1, i => by
    unfold zrow
    rw [Nat.mod_one, zrow_one z k]
    rfl
theorem allLt_zip {m : Nat} : ∀ (k : Nat) (vs : List Value), k + vs.length ≤ m → allLt m ((List.range' k vs.length).zip vs) = true
  | _, [], _ => rfl
  | k, v :: vs, h => by
    rw [List.length_cons] at h
    rw [List.length_cons, List.range'_succ, List.zip_cons_cons]
    unfold allLt
    rw [Bool.and_eq_true]
    exact ⟨by rw [Nat.blt_eq]; omega, allLt_zip (k + 1) vs (by omega)⟩
theorem buildL_sl {m : Nat} : ∀ (qs : List Bp) (pre suf : List Value), suf.length = qs.length → pre.length + qs.length ≤ m → buildL (placesS 1 m 0) (pre ++ suf) ((List.range' pre.length qs.length).zip (qs.map Bp.v)) = some (pre ++ qs.map Bp.v)
  | [], pre, suf, h, _ => by
    have : suf = [] := List.eq_nil_of_length_eq_zero h
    subst this
    rfl
  | q :: qs, pre, [], h, _ => by cases h
  | q :: qs, pre, s :: suf, h, hm => by
    rw [List.length_cons] at hm
    rw [List.length_cons, List.length_cons] at h
    rw [List.length_cons, List.range'_succ, List.map_cons, List.zip_cons_cons]
    unfold buildL
    rw [placesS_get 1 m 0 pre.length (by omega)]
    have e0 : valCells q.v = some [q.v] := rfl
    have e1 : setMany (pre ++ s :: suf) ((0 + pre.length) * 1) [q.v] = some ((pre ++ [q.v]) ++ suf) := by
      rw [Nat.zero_add, Nat.mul_one, setMany_one (off := pre.length) (by rw [List.length_append]; exact Nat.lt_add_of_pos_right (Nat.succ_pos _)), List.set_append_right _ _ (Nat.le_refl _), Nat.sub_self, List.append_assoc]
      rfl
    have e2 := buildL_sl (m := m) qs (pre ++ [q.v]) suf (by omega) (by rw [List.length_append, List.length_singleton]; omega)
    rw [List.length_append, List.length_singleton] at e2
    simp only [e0, e1, show Nat.beq [q.v].length 1 = true from rfl]
    rw [e2, List.append_assoc]
    rfl
def Lays (Zs : List (List Int)) (v : Value) (w : World) : Prop := ∃ b e, ∃ qs : List Bp, v = .slice (some ⟨b, 0, none⟩) qs.length qs.length ∧ w.heap[b]? = some (.cells ⟨qs.map Bp.v⟩ e (0, 0)) ∧ qs.map Bp.zs = Zs ∧ ∀ p ∈ qs, Ints .u8 w p.a p.n p.c p.zs
theorem Lays.stable {Zs : List (List Int)} : ∀ v w w', Lays Zs v w → Below w.heap.size w w' → Lays Zs v w' := by
  rintro v w w' ⟨b, e, qs, h1, h2, h3, h4⟩ hb
  exact ⟨b, e, qs, h1, (hb.block b (heap_lt h2)).trans h2, h3, fun p hp => (h4 p hp).ext hb⟩
section
variable {P : Program} {tb : Tab} {n : Nat} {w0 : World} {all : Array Oper} {os : List Oper} {o : Oper} {dl : DL} {ol : OL} {F : DL → Prop} {d : Nat}
theorem D_lays (ht : TabOk P tb) (Zs : List (List Int)) {t e : TypeId} {m : Nat} {ti te : TI} {ps : List (Nat × Operand)} {Es : List Ent} (hs : opAt? n all (rs all o dl) o = some (d, .buildSlice t m ps.toArray)) (hti : tl tb t = some ti) (hd : ti.desc = .slice e) (hte : tl tb e = some te) (hsz : te.size = 1) (hz : te.zero = .slice none 0 0)
    (hE : argsD dl (ps.map Prod.snd) = some Es) (hix : ps.map Prod.fst = List.range' 0 m) (hm : Nat.ble m 1000 = true)
    (hP : ∀ w vs, Hp w0 w ol → EntsAt Es vs w → ∃ qs : List Bp, vs = qs.map Bp.v ∧ qs.map Bp.zs = Zs ∧ ∀ p ∈ qs, Ints .u8 w p.a p.n p.c p.zs)
    (k : D P n w0 all os ((d, .pr (Lays Zs)) :: dl) ol F) : D P n w0 all (o :: os) dl ol F := by
  obtain ⟨hdst, hlt', hg, hop⟩ := opAt_spec hs
  have hm' := Nat.le_of_ble_eq_true hm
  refine D_fresh (Lays Zs) hdst hlt' hg Lays.stable (fun a w hrd hsat hh => ?_) k
  have hent : EntsAt Es ((ps.map Prod.snd).map a.eval) w := argsD_at hE fun t ht => hsat t (by
    unfold Oper.looksAt
    refine List.mem_append_left _ (List.mem_filterMap.2 ⟨.tmp t, ?_, rfl⟩)
    rw [hop]
    simpa [Op.operands] using ht)
  obtain ⟨qs, e1, e2, e3⟩ := hP w _ hh hent
  have hql : qs.length = m := by
    have h1 := congrArg List.length e1
    have h2 := congrArg List.length hix
    simp only [List.length_map, List.length_range'] at h1 h2
    omega
  have h7 : (ps.toArray.map fun (p : Nat × Operand) => (p.1, a.eval p.2)) = ((List.range' 0 qs.length).zip (qs.map Bp.v)).toArray := by
    apply Array.ext'
    rw [hql, ← hix, ← e1, List.map_map, ← zip_mk]
    simp
  have hrun := buildSlice_run ht (w := w) (m := m) (zs := [.slice none 0 0]) (z0 := List.replicate m (.slice none 0 0)) (cs := qs.map Bp.v) (vs := (List.range' 0 qs.length).zip (qs.map Bp.v)) hti hd hte hsz (by rw [hz]; rfl) rfl (by rw [Nat.mul_one]; exact zrow_one _ _ _)
    (buildL_sl qs [] (List.replicate m (.slice none 0 0)) (by rw [List.length_replicate, hql]) (by rw [List.length_nil]; omega))
    (by have := allLt_zip (m := m) 0 (qs.map Bp.v) (by rw [List.length_map]; omega); rw [List.length_map] at this; exact this) (by omega)
  have hbel : Below w.heap.size w (w.alloc (.cells ⟨qs.map Bp.v⟩ e)) := (Below.refl _ _).alloc (Nat.le_refl _) _
  refine ⟨_, w.alloc (.cells ⟨qs.map Bp.v⟩ e), ?_, hbel, w.heap.size, e, qs, by rw [hql], heap_alloc_new w _, e2, fun p hp => (e3 p hp).ext hbel⟩
  unfold execOp
  simp only [hop, h7, Sem.run_bind, hrun, Result.andThen_ok, Sem.run_pure]
end
theorem rnum_p (x : Int) (hx : Fits .u64 x) (w : World) : Calls Try.prog 104 #[.int .u64 x] w fun e w' => ∃ r, e = .returned r ∧ Below w.heap.size w w' ∧ (bP (encU x)).at_ w' (fun k => w.heap.size ≤ k) r := by
  have h1 := fits_u64 hx
  have e : x = ((x.toNat : Nat) : Int) := by omega
  have hk := refnum_ok (x.toNat + 1) x.toNat w (by omega) (by omega)
  rw [← e] at hk
  exact hk.mono fun e w' ⟨a', c', e1, e2, e3⟩ => ⟨_, e1, e2, bP_row e3 (enc_fits _) fun k hk => hk⟩
theorem lays_join {Zs : List (List Int)} {v : Value} (w : World) (h : Lays Zs v w) (hl : Zs.flatten.length ≤ 2147483648) (hz : Zs.length ≤ 1000) : Calls Try.prog 30 #[v] w fun e w' => ∃ r, e = .returned r ∧ Below w.heap.size w w' ∧ (bP Zs.flatten).at_ w' (fun k => w.heap.size ≤ k) r := by
  obtain ⟨b, e, qs, rfl, h2, rfl, h4⟩ := h
  rw [List.length_map] at hz
  have hs : Sl w 1 (some ⟨b, 0, none⟩) qs.length (qs.map Bp.v) := Sl.of_blk h2 (by rw [List.length_map, Nat.mul_one]) fun j u hu => by rw [Nat.zero_add]; exact hu
  refine (join_ok _ qs.length qs.length qs w (by omega) hs h4 hl).mono fun e w' ⟨a', c', e1, e2, e3⟩ => ⟨_, e1, e2, bP_row e3 (fun z hz => ?_) fun k hk => hk⟩
  obtain ⟨l, hl, hzl⟩ := List.mem_flatten.1 hz
  obtain ⟨p, hp, rfl⟩ := List.mem_map.1 hl
  exact (h4 p hp).fits z hzl
theorem bP_bp {w : World} {A : Nat → Prop} {v : Value} {zs : List Int} (h : (bP zs).at_ w A v) : ∃ q : Bp, v = q.v ∧ q.zs = zs ∧ Ints .u8 w q.a q.n q.c q.zs := by
  obtain ⟨a, n, c, rfl, hs⟩ := SlR.form h
  exact ⟨⟨a, n, c, zs⟩, rfl, rfl, hs.ints⟩
theorem rputitem_p {zs : List Int} {x k : Int} {a : Option Addr} {n c : Nat} (hx : Fits .u64 x) (w : World) (hw : Ints .u8 w a n c zs) (hz : zs.length ≤ 134217728) : Calls Try.prog 105 #[itV x k a n c] w fun e w' => ∃ r, e = .returned r ∧ Below w.heap.size w w' ∧ (bP (encU x ++ spB k zs)).at_ w' (fun k => w.heap.size ≤ k) r := by
  have h1 := fits_u64 hx
  have e : x = ((x.toNat : Nat) : Int) := by omega
  have hk := rputitem_ok x.toNat k a n c zs w hw hz (by omega)
  rw [← e] at hk
  exact hk.mono fun e w' ⟨a', c', e1, e2, e3⟩ => ⟨_, e1, e2, bP_row e3 (fits8s_app (enc_fits _) (spB_fits hw.fits)) fun k hk => hk⟩
theorem bp1 {w : World} {A1 : Nat → Prop} {v1 : Value} {z1 : List Int} (h1 : (bP z1).at_ w A1 v1) {qs : List Bp} {vs : List Value} {Zs : List (List Int)} (h : vs = qs.map Bp.v ∧ qs.map Bp.zs = Zs ∧ ∀ p ∈ qs, Ints .u8 w p.a p.n p.c p.zs) : ∃ qs : List Bp, v1 :: vs = qs.map Bp.v ∧ qs.map Bp.zs = z1 :: Zs ∧ ∀ p ∈ qs, Ints .u8 w p.a p.n p.c p.zs := by
  obtain ⟨q, rfl, rfl, hi⟩ := bP_bp h1
  obtain ⟨rfl, rfl, h3⟩ := h
  exact ⟨q :: qs, rfl, rfl, fun p hp => (List.mem_cons.1 hp).elim (fun e => by rw [e]; exact hi) (h3 p)⟩
theorem bpE {w : World} {vs : List Value} {Zs : List (List Int)} (h : ∃ qs : List Bp, vs = qs.map Bp.v ∧ qs.map Bp.zs = Zs ∧ ∀ p ∈ qs, Ints .u8 w p.a p.n p.c p.zs) {A1 : Nat → Prop} {v1 : Value} {z1 : List Int} (h1 : (bP z1).at_ w A1 v1) : ∃ qs : List Bp, v1 :: vs = qs.map Bp.v ∧ qs.map Bp.zs = z1 :: Zs ∧ ∀ p ∈ qs, Ints .u8 w p.a p.n p.c p.zs := h.elim fun _ h => bp1 h1 h
theorem bp0 (w : World) : ∃ qs : List Bp, ([] : List Value) = qs.map Bp.v ∧ qs.map Bp.zs = [] ∧ ∀ p ∈ qs, Ints .u8 w p.a p.n p.c p.zs := ⟨[], rfl, rfl, fun p hp => by cases hp⟩
theorem Lays.of_blk {w : World} {b : Nat} {vs : List Value} {e : TypeId} {Zs : List (List Int)} {m : Nat} (h : w.heap[b]? = some (.cells ⟨vs⟩ e (0, 0))) (hq : ∃ qs : List Bp, vs = qs.map Bp.v ∧ qs.map Bp.zs = Zs ∧ ∀ p ∈ qs, Ints .u8 w p.a p.n p.c p.zs) (hm : vs.length = m := by rfl) : Lays Zs (.slice (some ⟨b, 0, none⟩) m m) w := by
  obtain ⟨qs, rfl, h2, h3⟩ := hq
  subst hm
  rw [List.length_map]
  exact ⟨b, e, qs, rfl, h, h2, h3⟩
theorem rclose_p {v : Value} {zs : List Int} {A : Nat → Prop} (w : World) (h : (bP zs).at_ w A v) (hn : zs.length ≤ 1000000) : Calls Try.prog 23 #[v] w fun e w' => ∃ r, e = .returned r ∧ Below w.heap.size w w' ∧ (bP (closeB zs)).at_ w' (fun k => w.heap.size ≤ k) r := by
  obtain ⟨a, n, c, rfl, hs⟩ := SlR.form h
  exact (refclose_ok a n c zs w hs.ints (by omega)).mono fun e w' ⟨a', c', e1, e2, e3⟩ => ⟨_, e1, e2, bP_row e3 (closeB_fits hs.ints.fits) fun k hk => hk⟩
/-- The document's, of one that may be. -/
structure PsI where
  i : Nat
  a : Option Addr
  n : Nat
  c : Nat
  F : Nat → Prop
set_option maxHeartbeats 4000000 in
theorem rbytes_ok (H : Hd) (s : Fs) (hf : H.Fit) {A : Nat → Prop} {rs : List Run} {its : List ItemI} (w : World) (hx : FsR w A s rs its) (hR : frR H rs its) : Calls Try.prog 71 #[refV H s] w fun e w' => ∃ r, e = .returned r ∧ Below w.heap.size w w' ∧ (bP (frB H rs its)).at_ w' (fun k => w.heap.size ≤ k) r := by
  have hl := hx.r.len
  have hil := hx.i.len
  have hkd := fits_u8 hf.kd
  have hag := hR.1
  have hag2 := hR.2.1
  have wkd : IntKind.u8.wrap H.kd = H.kd := by rw [IntKind.wrap_u8]; omega
  have hfag : Fits .u64 H.ag := mk_u64 (by omega)
  have wag : IntKind.u64.wrap H.ag = H.ag := by simp [IntKind.wrap, IntKind.bits, IntKind.signed]; omega
  obtain ⟨hi1, hi2⟩ := kindR_i hR.2.2.2
  have hr1 := kindR_r hR.2.2.2
  have hfr := (hx.r.flat flat_run).2
  have lag := encU_len hfag
  have lep := encU_len hf.ep
  refine enter1 Try.func71 rfl rfl (Hp.refl w) ?_
  repeat (first | refine T_seq ?_ | refine T_region ?_)
  refine S_new tabOk rfl (fun b hb => ?_)
  repeat (first | refine T_seq ?_ | refine S_nil ?_ | refine S_pure tabOk rfl ?_)
  refine T_asThen ?_
  refine T_drawT (by kernel_rfl) 13 rfl (by kernel_rfl) ?_
  repeat (first | refine D_pure tabOk rfl ?_ | refine D_load tabOk 0 rfl rfl rfl ?_)
  refine D_bsliceF tabOk rfl rfl rfl rfl rfl rfl rfl rfl rfl rfl rfl rfl ?_
  repeat (first | refine D_u64 tabOk rfl (by omega) ?_ | refine D_pure tabOk rfl ?_ | refine D_load tabOk 0 rfl rfl rfl ?_)
  refine D_callR (bP (encU H.ag)) (fun _ => False) rfl Try.call104 (fun w' vs hw' h7 => by
    obtain ⟨u1, _, rfl, rfl, u2, _, rfl, rfl, rfl⟩ := h7
    exact (rnum_p H.ag hfag w').mono fun e w2 ⟨r, e1, e2, e3⟩ => ⟨r, e1, e2, nbb' hw' e3⟩) ?_
  repeat (first | refine D_pure tabOk rfl ?_ | refine D_load tabOk 0 rfl rfl rfl ?_)
  refine D_callR (bP (encU H.ep)) (fun _ => False) rfl Try.call104 (fun w' vs hw' h7 => by
    obtain ⟨u1, _, rfl, rfl, u2, _, rfl, rfl, rfl⟩ := h7
    exact (rnum_p H.ep hf.ep w').mono fun e w2 ⟨r, e1, e2, e3⟩ => ⟨r, e1, e2, nbb' hw' e3⟩) ?_
  skip
  refine D_lays tabOk [[H.kd], encU H.ag, encU H.ep] rfl rfl rfl rfl rfl rfl rfl rfl rfl (fun w' vs hw' h7 => by
    obtain ⟨u1, _, rfl, g1, u2, _, rfl, g2, u3, _, rfl, g3, rfl⟩ := h7
    obtain ⟨b7, rfl, h8, _⟩ := g1
    rw [wkd] at h8
    exact bpE (bpE (bpE (bp0 w') g3) g2) (bP_blk (zs := [H.kd]) h8 (fun z hz => by rw [List.mem_singleton] at hz; subst hz; exact hf.kd) (Nat.le_of_ble_eq_true rfl))) ?_
  skip
  refine D_callR (bP ([H.kd] ++ encU H.ag ++ encU H.ep)) (fun _ => False) rfl Try.call30 (fun w' vs hw' h7 => by
    obtain ⟨u1, _, rfl, g1, u2, _, rfl, rfl, rfl⟩ := h7
    have := lays_join w' g1 (by simp only [List.flatten_cons, List.flatten_nil, List.length_append, List.length_singleton, List.length_nil]; omega) (Nat.le_of_ble_eq_true rfl)
    simp only [List.flatten_cons, List.flatten_nil, List.append_nil, ← List.append_assoc] at this
    exact this.mono fun e w2 ⟨r, e1, e2, e3⟩ => ⟨r, e1, e2, nbb' hw' e3⟩) ?_
  skip
  refine D_outW 20 rfl (fun w' v hw' h1 => h1) (fun v2 F2 w2 hF2 hv2 => ⟨_, rfl, ?_⟩)
  refine D_allP rfl ?_
  obtain ⟨a2, n2, c2, rfl, hs2⟩ := SlR.form hv2
  clear hv2 hs2
  repeat (first | refine T_seq ?_ | refine T_region ?_ | refine T_block ?_ | refine S_nil ?_ | refine pthen_normal ?_ | refine S_pure tabOk rfl ?_ | refine S_load tabOk 0 rfl rfl rfl ?_)
  have hbl := inB_len hf hR hx
  have hz0 : ([H.kd] ++ encU H.ag ++ encU H.ep).length ≤ 21 := by rw [List.length_append, List.length_append, List.length_singleton]; omega
  have lba := encU_len hf.ba
  have linc := encU_len hf.inc
  have lcu := encU_len hf.cu
  have lli := encU_len hf.li
  by_cases k1 : H.kd = 1
  · refine T_cond_dt rfl k1 ?_
    repeat (first | refine S_pure tabOk rfl ?_ | refine T_region_any ?_ | refine S_load tabOk 0 rfl rfl rfl ?_)
    refine S_callZ (bP (encU H.ba)) (fun _ => False) rfl Try.call104 (fun w1 h1 => (rnum_p _ hf.ba w1).mono fun e w2 ⟨r, e1, e2, e3⟩ => ⟨r, e1, e2, nbb' h1 e3⟩) (fun v3 F3 w3 hF3 hv3 => ⟨_, rfl, ?_⟩)
    obtain ⟨a3, n3, c3, rfl, hs3⟩ := SlR.form hv3
    clear hv3 hs3
    skip
    refine S_bslice tabOk rfl rfl rfl rfl rfl rfl rfl rfl rfl rfl rfl rfl (fun b63 hb63 => ?_)
    skip
    refine S_callZ (bP (inB H rs its)) (fun _ => False) rfl Try.call30 (fun w1 h1 => by
      have := lays_join w1 (Lays.of_blk (h1.own _ (getE_mem (i := 0) rfl)) (bpE (bpE (bp0 w1) (Vp.fact0 (p := bP (encU H.ba)) h1 3 rfl)) (Vp.fact0 (p := bP ([H.kd] ++ encU H.ag ++ encU H.ep)) h1 2 rfl))) (by simp only [List.flatten_cons, List.flatten_nil, List.length_append, List.length_singleton, List.length_nil]; omega) (Nat.le_of_ble_eq_true rfl)
      simp only [List.flatten_cons, List.flatten_nil, List.append_nil] at this
      rw [show ([H.kd] ++ encU H.ag ++ encU H.ep) ++ encU H.ba = inB H rs its from by unfold inB partB; rw [if_pos k1]] at this
      exact this.mono fun e w2 ⟨r, e1, e2, e3⟩ => ⟨r, e1, e2, nbb' h1 e3⟩) (fun v4 F4 w4 hF4 hv4 => ⟨_, rfl, ?_⟩)
    repeat (first | refine T_seq ?_ | refine T_region ?_ | refine S_nil ?_ | refine pthen_normal ?_ | refine inb_normal ?_ | refine S_pure tabOk rfl ?_)
    refine S_callZ (bP (frB H rs its)) (fun _ => False) rfl Try.call23 (fun w1 h1 => (rclose_p w1 (Vp.fact0 (p := bP (inB H rs its)) h1 4 rfl) (by omega)).mono fun e w2 ⟨r, e1, e2, e3⟩ => ⟨r, e1, e2, nbb' h1 e3⟩) (fun v9 F9 w9 hF9 hv9 => ⟨_, rfl, ?_⟩)
    repeat (first | refine S_nil ?_ | refine T_ret ?_ | refine S_pure tabOk rfl ?_)
    exact ret1 rfl rfl (fun w' hw => ⟨_, rfl, hw.below (by repeat (first | exact new_nil | refine new_ro ?_ | refine new_cons (by first | assumption | omega) ?_)), Vp.mono _ (Vp.fact0 (p := bP (frB H rs its)) hw 5 rfl) (fun k hk => (hF9 k hk).elim False.elim id)⟩)
  refine T_cond_df rfl k1 ?_
  repeat (first | refine T_seq ?_ | refine T_region ?_ | refine S_nil ?_ | refine S_pure tabOk rfl ?_)
  by_cases k3 : H.kd = 3
  · refine T_cond_dt rfl k3 ?_
    have fim : Fits .u64 ((s.im : Nat) : Int) := mk_u64 (by omega)
    have lim := encU_len fim
    repeat (first | refine T_seq ?_)
    refine T_asThen ?_
    refine T_drawT (by kernel_rfl) 14 rfl (by kernel_rfl) ?_
    repeat (first | refine D_pure tabOk rfl ?_ | refine D_load tabOk 0 rfl rfl rfl ?_)
    refine D_callR (bP (encU H.inc)) (fun _ => False) rfl Try.call104 (fun w' vs hw' h7 => by
      obtain ⟨u1, _, rfl, rfl, u2, _, rfl, rfl, rfl⟩ := h7
      exact (rnum_p H.inc hf.inc w').mono fun e w2 ⟨r, e1, e2, e3⟩ => ⟨r, e1, e2, nbb' hw' e3⟩) ?_
    repeat (first | refine D_pure tabOk rfl ?_ | refine D_load tabOk 0 rfl rfl rfl ?_)
    refine D_callR (bP (encU H.ba)) (fun _ => False) rfl Try.call104 (fun w' vs hw' h7 => by
      obtain ⟨u1, _, rfl, rfl, u2, _, rfl, rfl, rfl⟩ := h7
      exact (rnum_p H.ba hf.ba w').mono fun e w2 ⟨r, e1, e2, e3⟩ => ⟨r, e1, e2, nbb' hw' e3⟩) ?_
    repeat (first | refine D_u64 tabOk rfl (by omega) ?_ | refine D_pure tabOk rfl ?_ | refine D_load tabOk 0 rfl rfl rfl ?_)
    refine D_callR (bP (encU ((s.im : Nat) : Int))) (fun _ => False) rfl Try.call104 (fun w' vs hw' h7 => by
      obtain ⟨u1, _, rfl, rfl, u2, _, rfl, rfl, rfl⟩ := h7
      exact (rnum_p ((s.im : Nat) : Int) fim w').mono fun e w2 ⟨r, e1, e2, e3⟩ => ⟨r, e1, e2, nbb' hw' e3⟩) ?_
    skip
    refine D_lays tabOk [[H.kd] ++ encU H.ag ++ encU H.ep, encU H.inc, encU H.ba, encU ((s.im : Nat) : Int)] rfl rfl rfl rfl rfl rfl rfl rfl rfl (fun w' vs hw' h7 => by
      obtain ⟨u0, _, rfl, rfl, u1, _, rfl, g1, u2, _, rfl, g2, u3, _, rfl, g3, rfl⟩ := h7
      exact bpE (bpE (bpE (bpE (bp0 w') g3) g2) g1) (Vp.fact0 (p := bP ([H.kd] ++ encU H.ag ++ encU H.ep)) hw' 1 rfl)) ?_
    skip
    refine D_callR (bP ([H.kd] ++ encU H.ag ++ encU H.ep ++ encN (batN H its.length))) (fun _ => False) rfl Try.call30 (fun w' vs hw' h7 => by
      obtain ⟨u1, _, rfl, g1, u2, _, rfl, rfl, rfl⟩ := h7
      have := lays_join w' g1 (by simp only [List.flatten_cons, List.flatten_nil, List.length_append, List.length_singleton, List.length_nil] at *; omega) (Nat.le_of_ble_eq_true rfl)
      simp only [List.flatten_cons, List.flatten_nil, List.append_nil] at this
      refine Calls.mono (this) fun e w2 ⟨r, e1, e2, e3⟩ => ⟨r, e1, e2, nbb' hw' ?_⟩
      first | exact e3 | (simpa only [encN, batN, graN, List.map_cons, List.map_nil, List.flatten_cons, List.flatten_nil, List.append_nil, List.append_assoc, hil, hl] using e3)) ?_
    skip
    refine D_outW 80 rfl (fun w' v hw' h1 => h1) (fun v4 F4 w4 hF4 hv4 => ⟨_, rfl, ?_⟩)
    refine D_allP rfl ?_
    obtain ⟨a4, n4, c4, rfl, hs4⟩ := SlR.form hv4
    clear hv4 hs4
    repeat (first | refine T_seq ?_ | refine T_region ?_ | refine T_block ?_ | refine S_nil ?_ | refine pthen_normal ?_ | refine S_pure tabOk rfl ?_ | refine S_load tabOk 0 rfl rfl rfl ?_)
    have hb0 : ([H.kd] ++ encU H.ag ++ encU H.ep ++ encN (batN H its.length)).length ≤ 51 := by
      have : (encN (batN H its.length)).length ≤ 30 := encN_len (l := batN H its.length) fun x hx => by
        simp only [batN, List.mem_cons, List.not_mem_nil, or_false] at hx
        rcases hx with rfl | rfl | rfl
        · exact hf.inc
        · exact hf.ba
        · exact mk_u64 (by omega)
      rw [List.length_append]
      omega
    refine T_loop (ι := PsI) (fun i => [(1, .pointer (some ⟨b, 0, none⟩)), (3, .slice i.a i.n i.c), (82, .slice s.ia s.im s.ic), (83, .int .i64 (s.im : Int)), (84, .int .i64 (i.i : Int))])
      (fun i => [.blk b (.cells ⟨frC .i64 H s⟩ 33 (0, 0)) true, .rep (fun w => (bP ([H.kd] ++ encU H.ag ++ encU H.ep ++ encN (batN H its.length) ++ itsN (its.take i.i))).at_ w i.F (.slice i.a i.n i.c)) i.F false])
      (fun i => i.i ≤ s.im) (fun i => s.im - i.i) ⟨0, a4, n4, c4, F4⟩ (Nat.zero_le _) (by repeat (first | exact Sub.nil | refine Sub.cons rfl ?_)) (fun w' hw => by
        rw [show its.take 0 = [] from rfl, show itsN [] = [] from rfl, List.append_nil]
        exact hw.less (by repeat (first | exact Less.nil | refine Less.keep ?_ | refine Less.dropR ?_))) ?_
    rintro ⟨i, ai, ni, ci, Fi⟩ hi
    dsimp only at hi ⊢
    have hitf : ∀ x ∈ its, Fits .u64 x.1 ∧ x.2.2.length ≤ 4096 := fun x hx' => by
      obtain ⟨j, hj, rfl⟩ := List.getElem_of_mem hx'
      obtain ⟨_, _, _, _, _, _, h1, _, _⟩ := item_read hx.i.tt hj
      exact ⟨h1, hi2 _ hx'⟩
    have htl : (itsN (its.take i)).length ≤ 4120 * i := by
      have h1 := itsN_len (l := its.take i) fun x hx => hitf x (List.mem_of_mem_take hx)
      rw [List.length_take] at h1
      omega
    repeat (first | refine T_seq ?_ | refine T_region ?_ | refine S_nil ?_ | refine S_pure tabOk rfl ?_)
    refine T_cond_dec rfl (fun h => ?_) (fun h => ?_)
    · have hi' : i < its.length := by omega
      obtain ⟨ab, off, a0, n0, c0, hia, hN, hk, hrd⟩ := item_read hx.i.tt hi'
      have hbl0 := (hitf _ (List.getElem_mem hi')).2
      rw [hia]
      repeat (first | refine T_seq ?_ | refine T_region ?_ | refine T_block ?_ | refine pthen_normal ?_ | refine T_skip ?_)
      refine S_q (Q_idx (sz := 3) tabOk rfl rfl rfl rfl rfl rfl rfl rfl (j := i) (by omega)) ?_
      refine S_loadN tabOk (vs := [.int .u64 its[i].1, .int .i64 its[i].2.1, .slice a0 n0 c0]) rfl rfl rfl (fun w' hw => (hrd w' (hw.below (by repeat (first | exact new_nil | refine new_ro ?_ | refine new_cons (by first | assumption | omega) ?_)))).1) ?_
      refine S_new tabOk rfl (fun b8 hb8 => ?_)
      repeat (first | refine S_nil ?_ | refine S_pure tabOk rfl ?_ | refine T_region_any ?_ | refine S_load tabOk 0 rfl rfl rfl ?_ | refine S_store tabOk 0 rfl rfl rfl rfl rfl rfl ?_)
      have hzl : ([H.kd] ++ encU H.ag ++ encU H.ep ++ encN (batN H its.length) ++ itsN (its.take i)).length ≤ 1300000 := by
        rw [List.length_append]
        omega
      have hsl : (encU its[i].1 ++ spB its[i].2.1 its[i].2.2).length ≤ 4140 := by
        have h1 := encU_len hN
        have h2 := spB_len its[i].2.1 its[i].2.2 (by omega)
        rw [List.length_append]
        omega
      refine S_callZ (bP (encU its[i].1 ++ spB its[i].2.1 its[i].2.2)) (fun _ => False) rfl Try.call105 (fun w1 h1 => (rputitem_p hN w1 (hrd w1 (h1.below (by repeat (first | exact new_nil | refine new_ro ?_ | refine new_cons (by first | assumption | omega) ?_)))).2 (by omega)).mono fun e w2 ⟨r, e1, e2, e3⟩ => ⟨r, e1, e2, nbb' h1 e3⟩) (fun v3 F3 w3 hF3 hv3 => ⟨_, rfl, ?_⟩)
      obtain ⟨a3, n3, c3, rfl, hs3⟩ := SlR.form hv3
      clear hv3 hs3
      skip
      refine S_bslice tabOk rfl rfl rfl rfl rfl rfl rfl rfl rfl rfl rfl rfl (fun b91 hb91 => ?_)
      skip
      refine S_callZ (bP ([H.kd] ++ encU H.ag ++ encU H.ep ++ encN (batN H its.length) ++ itsN (its.take (i + 1)))) (fun _ => False) rfl Try.call30 (fun w1 h1 => by
        have := lays_join w1 (Lays.of_blk (h1.own _ (getE_mem (i := 0) rfl)) (bpE (bpE (bp0 w1) (Vp.fact0 (p := bP (encU its[i].1 ++ spB its[i].2.1 its[i].2.2)) h1 4 rfl)) (Vp.fact0 (p := bP ([H.kd] ++ encU H.ag ++ encU H.ep ++ encN (batN H its.length) ++ itsN (its.take i))) h1 3 rfl))) (by rw [List.flatten_cons, List.flatten_cons, List.flatten_nil, List.append_nil, List.length_append]; omega) (Nat.le_of_ble_eq_true rfl)
        rw [List.flatten_cons, List.flatten_cons, List.flatten_nil, List.append_nil, List.append_assoc (_ ++ _ ++ _ ++ _), ← itsN_take hi'] at this
        exact this.mono fun e w2 ⟨r, e1, e2, e3⟩ => ⟨r, e1, e2, nbb' h1 e3⟩) (fun v5 F5 w5 hF5 hv5 => ⟨_, rfl, ?_⟩)
      obtain ⟨a5, n5, c5, rfl, hs5⟩ := SlR.form hv5
      clear hv5 hs5
      repeat (first | refine T_region ?_ | refine S_nil ?_ | refine pthen_normal ?_ | refine inb_normal ?_ | refine S_i64 tabOk rfl (by omega) ?_ | refine S_pure tabOk rfl ?_)
      exact ⟨⟨i + 1, a5, n5, c5, F5⟩, by dsimp only; omega, by repeat (first | exact Sub.nil | refine Sub.cons rfl ?_), fun w' hw => hw.less (by repeat (first | exact Less.nil | refine Less.keep ?_ | refine Less.dropR ?_ | refine Less.dropB (by first | assumption | omega) ?_)), by dsimp only; omega⟩
    · have e : i = s.im := by omega
      subst e
      rw [List.take_of_length_le (by omega), show [H.kd] ++ encU H.ag ++ encU H.ep ++ encN (batN H its.length) ++ itsN its = inB H rs its from by unfold inB partB; rw [if_neg k1, if_pos k3, List.append_assoc]]
      repeat (first | refine T_seq ?_ | refine T_region ?_ | refine pthen_normal ?_ | refine inb_normal ?_ | refine inb_hit ?_ | refine pthen_exit ?_ | refine T_exit ?_ | refine S_pure tabOk rfl ?_)
      refine S_callZ (bP (frB H rs its)) (fun _ => False) rfl Try.call23 (fun w1 h1 => (rclose_p w1 (Vp.fact0 (p := bP (inB H rs its)) h1 1 rfl) (by omega)).mono fun e w2 ⟨r, e1, e2, e3⟩ => ⟨r, e1, e2, nbb' h1 e3⟩) (fun v9 F9 w9 hF9 hv9 => ⟨_, rfl, ?_⟩)
      repeat (first | refine S_nil ?_ | refine T_ret ?_ | refine S_pure tabOk rfl ?_)
      exact ret1 rfl rfl (fun w' hw => ⟨_, rfl, hw.below (by repeat (first | exact new_nil | refine new_ro ?_ | refine new_cons (by first | assumption | omega) ?_)), Vp.mono _ (Vp.fact0 (p := bP (frB H rs its)) hw 2 rfl) (fun k hk => (hF9 k hk).elim False.elim id)⟩)
  refine T_cond_df rfl k3 ?_
  have frn : Fits .u64 ((s.rn : Nat) : Int) := mk_u64 (by omega)
  have lrn := encU_len frn
  repeat (first | refine T_seq ?_)
  refine T_asThen ?_
  refine T_drawT (by kernel_rfl) 17 rfl (by kernel_rfl) ?_
  repeat (first | refine D_pure tabOk rfl ?_ | refine D_load tabOk 0 rfl rfl rfl ?_)
  refine D_callR (bP (encU H.inc)) (fun _ => False) rfl Try.call104 (fun w' vs hw' h7 => by
    obtain ⟨u1, _, rfl, rfl, u2, _, rfl, rfl, rfl⟩ := h7
    exact (rnum_p H.inc hf.inc w').mono fun e w2 ⟨r, e1, e2, e3⟩ => ⟨r, e1, e2, nbb' hw' e3⟩) ?_
  repeat (first | refine D_pure tabOk rfl ?_ | refine D_load tabOk 0 rfl rfl rfl ?_)
  refine D_callR (bP (encU H.cu)) (fun _ => False) rfl Try.call104 (fun w' vs hw' h7 => by
    obtain ⟨u1, _, rfl, rfl, u2, _, rfl, rfl, rfl⟩ := h7
    exact (rnum_p H.cu hf.cu w').mono fun e w2 ⟨r, e1, e2, e3⟩ => ⟨r, e1, e2, nbb' hw' e3⟩) ?_
  repeat (first | refine D_pure tabOk rfl ?_ | refine D_load tabOk 0 rfl rfl rfl ?_)
  refine D_callR (bP (encU H.li)) (fun _ => False) rfl Try.call104 (fun w' vs hw' h7 => by
    obtain ⟨u1, _, rfl, rfl, u2, _, rfl, rfl, rfl⟩ := h7
    exact (rnum_p H.li hf.li w').mono fun e w2 ⟨r, e1, e2, e3⟩ => ⟨r, e1, e2, nbb' hw' e3⟩) ?_
  repeat (first | refine D_u64 tabOk rfl (by omega) ?_ | refine D_pure tabOk rfl ?_ | refine D_load tabOk 0 rfl rfl rfl ?_)
  refine D_callR (bP (encU ((s.rn : Nat) : Int))) (fun _ => False) rfl Try.call104 (fun w' vs hw' h7 => by
    obtain ⟨u1, _, rfl, rfl, u2, _, rfl, rfl, rfl⟩ := h7
    exact (rnum_p ((s.rn : Nat) : Int) frn w').mono fun e w2 ⟨r, e1, e2, e3⟩ => ⟨r, e1, e2, nbb' hw' e3⟩) ?_
  skip
  refine D_lays tabOk [[H.kd] ++ encU H.ag ++ encU H.ep, encU H.inc, encU H.cu, encU H.li, encU ((s.rn : Nat) : Int)] rfl rfl rfl rfl rfl rfl rfl rfl rfl (fun w' vs hw' h7 => by
    obtain ⟨u0, _, rfl, rfl, u1, _, rfl, g1, u2, _, rfl, g2, u3, _, rfl, g3, u4, _, rfl, g4, rfl⟩ := h7
    exact bpE (bpE (bpE (bpE (bpE (bp0 w') g4) g3) g2) g1) (Vp.fact0 (p := bP ([H.kd] ++ encU H.ag ++ encU H.ep)) hw' 1 rfl)) ?_
  skip
  refine D_callR (bP ([H.kd] ++ encU H.ag ++ encU H.ep ++ encN (graN H rs.length))) (fun _ => False) rfl Try.call30 (fun w' vs hw' h7 => by
    obtain ⟨u1, _, rfl, g1, u2, _, rfl, rfl, rfl⟩ := h7
    have := lays_join w' g1 (by simp only [List.flatten_cons, List.flatten_nil, List.length_append, List.length_singleton, List.length_nil] at *; omega) (Nat.le_of_ble_eq_true rfl)
    simp only [List.flatten_cons, List.flatten_nil, List.append_nil] at this
    refine Calls.mono (this) fun e w2 ⟨r, e1, e2, e3⟩ => ⟨r, e1, e2, nbb' hw' ?_⟩
    first | exact e3 | (simpa only [encN, batN, graN, List.map_cons, List.map_nil, List.flatten_cons, List.flatten_nil, List.append_nil, List.append_assoc, hil, hl] using e3)) ?_
  skip
  refine D_outW 39 rfl (fun w' v hw' h1 => h1) (fun v4 F4 w4 hF4 hv4 => ⟨_, rfl, ?_⟩)
  refine D_allP rfl ?_
  obtain ⟨a4, n4, c4, rfl, hs4⟩ := SlR.form hv4
  clear hv4 hs4
  repeat (first | refine T_seq ?_ | refine T_region ?_ | refine T_block ?_ | refine S_nil ?_ | refine pthen_normal ?_ | refine S_pure tabOk rfl ?_ | refine S_load tabOk 0 rfl rfl rfl ?_)
  have hb0 : ([H.kd] ++ encU H.ag ++ encU H.ep ++ encN (graN H rs.length)).length ≤ 61 := by
    have : (encN (graN H rs.length)).length ≤ 40 := encN_len (l := graN H rs.length) fun x hx => by
      simp only [graN, List.mem_cons, List.not_mem_nil, or_false] at hx
      rcases hx with rfl | rfl | rfl | rfl
      · exact hf.inc
      · exact hf.cu
      · exact hf.li
      · exact mk_u64 (by omega)
    rw [List.length_append]
    omega
  refine T_loop (ι := PsI) (fun i => [(1, .pointer (some ⟨b, 0, none⟩)), (3, .slice i.a i.n i.c), (41, .slice s.ra s.rn s.rc), (42, .int .i64 (s.rn : Int)), (43, .int .i64 (i.i : Int))])
    (fun i => [.blk b (.cells ⟨frC .i64 H s⟩ 33 (0, 0)) true, .rep (fun w => (bP ([H.kd] ++ encU H.ag ++ encU H.ep ++ encN (graN H rs.length) ++ encN (runN (rs.take i.i)))).at_ w i.F (.slice i.a i.n i.c)) i.F false])
    (fun i => i.i ≤ s.rn) (fun i => s.rn - i.i) ⟨0, a4, n4, c4, F4⟩ (Nat.zero_le _) (by repeat (first | exact Sub.nil | refine Sub.cons rfl ?_)) (fun w' hw => by
      rw [show rs.take 0 = [] from rfl, show encN (runN []) = [] from rfl, List.append_nil]
      exact hw.less (by repeat (first | exact Less.nil | refine Less.keep ?_ | refine Less.dropR ?_))) ?_
  rintro ⟨i, ai, ni, ci, Fi⟩ hi
  dsimp only at hi ⊢
  have htl : (encN (runN (rs.take i))).length ≤ 20 * i := by
    have := u64n_len (l := rs.take i) fun r hr => hfr r (List.mem_of_mem_take hr)
    rw [List.length_take] at this
    omega
  have hzl : ([H.kd] ++ encU H.ag ++ encU H.ep ++ encN (graN H rs.length) ++ encN (runN (rs.take i))).length ≤ 100000 := by
    rw [List.length_append]
    omega
  repeat (first | refine T_seq ?_ | refine T_region ?_ | refine S_nil ?_ | refine S_pure tabOk rfl ?_)
  refine T_cond_dec rfl (fun h => ?_) (fun h => ?_)
  · have hi' : i < rs.length := by omega
    have hri := hfr _ (List.getElem_mem hi')
    have l1 := encU_len hri.1
    have l2 := encU_len hri.2
    have hsl : (encU rs[i].1 ++ encU rs[i].2).length ≤ 20 := by rw [List.length_append]; omega
    obtain ⟨ab, off, _, hra, hlt, _⟩ := hx.r.get_ hi'
    have hcell := run_cells (b := ab) (off := off) (by rw [← hra]; exact hx.r) hi'
    rw [hra]
    repeat (first | refine T_seq ?_ | refine T_region ?_ | refine T_block ?_ | refine pthen_normal ?_ | refine T_skip ?_)
    refine S_q (Q_idx (sz := 2) tabOk rfl rfl rfl rfl rfl rfl rfl rfl (j := i) (by omega)) ?_
    refine S_loadN tabOk (vs := encR rs[i]) rfl rfl rfl (fun w' hw j u hu => by
      have h3 := hcell j u hu
      rw [Addr.add_lit] at h3 ⊢
      exact ((hw.below (by repeat (first | exact new_nil | refine new_ro ?_ | refine new_cons (by first | assumption | omega) ?_))).cell (p := ⟨ab, off + i * 2 + j, none⟩) hlt).trans h3) ?_
    refine S_new tabOk rfl (fun b8 hb8 => ?_)
    repeat (first | refine S_nil ?_ | refine S_store tabOk 0 rfl rfl rfl rfl rfl rfl ?_)
    refine T_asThen ?_
    refine T_drawT (by kernel_rfl) 9 rfl (by kernel_rfl) ?_
    repeat (first | refine D_pure tabOk rfl ?_ | refine D_load tabOk 0 rfl rfl rfl ?_)
    refine D_callR (bP (encU rs[i].1)) (fun _ => False) rfl Try.call104 (fun w' vs hw' h7 => by
      obtain ⟨u1, _, rfl, rfl, u2, _, rfl, rfl, rfl⟩ := h7
      exact (rnum_p rs[i].1 hri.1 w').mono fun e w2 ⟨r, e1, e2, e3⟩ => ⟨r, e1, e2, nbb' hw' e3⟩) ?_
    repeat (first | refine D_pure tabOk rfl ?_ | refine D_load tabOk 0 rfl rfl rfl ?_)
    refine D_callR (bP (encU rs[i].2)) (fun _ => False) rfl Try.call104 (fun w' vs hw' h7 => by
      obtain ⟨u1, _, rfl, rfl, u2, _, rfl, rfl, rfl⟩ := h7
      exact (rnum_p rs[i].2 hri.2 w').mono fun e w2 ⟨r, e1, e2, e3⟩ => ⟨r, e1, e2, nbb' hw' e3⟩) ?_
    skip
    refine D_lays tabOk [[H.kd] ++ encU H.ag ++ encU H.ep ++ encN (graN H rs.length) ++ encN (runN (rs.take i)), encU rs[i].1, encU rs[i].2] rfl rfl rfl rfl rfl rfl rfl rfl rfl (fun w' vs hw' h7 => by
      obtain ⟨u0, _, rfl, rfl, u1, _, rfl, g1, u2, _, rfl, g2, rfl⟩ := h7
      exact bpE (bpE (bpE (bp0 w') g2) g1) (Vp.fact0 (p := bP ([H.kd] ++ encU H.ag ++ encU H.ep ++ encN (graN H rs.length) ++ encN (runN (rs.take i)))) hw' 2 rfl)) ?_
    skip
    refine D_callR (bP ([H.kd] ++ encU H.ag ++ encU H.ep ++ encN (graN H rs.length) ++ encN (runN (rs.take (i + 1))))) (fun _ => False) rfl Try.call30 (fun w' vs hw' h7 => by
      obtain ⟨u1, _, rfl, g1, u2, _, rfl, rfl, rfl⟩ := h7
      have := lays_join w' g1 (by rw [List.flatten_cons, List.flatten_cons, List.flatten_cons, List.flatten_nil, List.append_nil, List.length_append]; omega) (Nat.le_of_ble_eq_true rfl)
      rw [List.flatten_cons, List.flatten_cons, List.flatten_cons, List.flatten_nil, List.append_nil, List.append_assoc (_ ++ _ ++ _ ++ _), ← List.append_assoc _ (encU _) (encU _), ← runN_take hi'] at this
      exact Calls.mono this fun e w2 ⟨r, e1, e2, e3⟩ => ⟨r, e1, e2, nbb' hw' e3⟩) ?_
    skip
    refine D_outW 55 rfl (fun w' v hw' h1 => h1) (fun v5 F5 w5 hF5 hv5 => ⟨_, rfl, ?_⟩)
    refine D_allP rfl ?_
    obtain ⟨a5, n5, c5, rfl, hs5⟩ := SlR.form hv5
    clear hv5 hs5
    repeat (first | refine T_region ?_ | refine S_nil ?_ | refine pthen_normal ?_ | refine inb_normal ?_ | refine S_i64 tabOk rfl (by omega) ?_ | refine S_pure tabOk rfl ?_)
    exact ⟨⟨i + 1, a5, n5, c5, F5⟩, by dsimp only; omega, by repeat (first | exact Sub.nil | refine Sub.cons rfl ?_), fun w' hw => hw.less (by repeat (first | exact Less.nil | refine Less.keep ?_ | refine Less.dropR ?_ | refine Less.dropB (by first | assumption | omega) ?_)), by dsimp only; omega⟩
  · have e : i = s.rn := by omega
    subst e
    rw [List.take_of_length_le (by omega), show [H.kd] ++ encU H.ag ++ encU H.ep ++ encN (graN H rs.length) ++ encN (runN rs) = inB H rs its from by unfold inB partB; rw [if_neg k1, if_neg k3, List.append_assoc]]
    repeat (first | refine T_seq ?_ | refine T_region ?_ | refine pthen_normal ?_ | refine inb_normal ?_ | refine inb_hit ?_ | refine pthen_exit ?_ | refine T_exit ?_ | refine S_pure tabOk rfl ?_)
    refine S_callZ (bP (frB H rs its)) (fun _ => False) rfl Try.call23 (fun w1 h1 => (rclose_p w1 (Vp.fact0 (p := bP (inB H rs its)) h1 1 rfl) (by omega)).mono fun e w2 ⟨r, e1, e2, e3⟩ => ⟨r, e1, e2, nbb' h1 e3⟩) (fun v9 F9 w9 hF9 hv9 => ⟨_, rfl, ?_⟩)
    repeat (first | refine S_nil ?_ | refine T_ret ?_ | refine S_pure tabOk rfl ?_)
    exact ret1 rfl rfl (fun w' hw => ⟨_, rfl, hw.below (by repeat (first | exact new_nil | refine new_ro ?_ | refine new_cons (by first | assumption | omega) ?_)), Vp.mono _ (Vp.fact0 (p := bP (frB H rs its)) hw 2 rfl) (fun k hk => (hF9 k hk).elim False.elim id)⟩)
end Go.Proofs.Ytnefhhoijonnaaa
