/-
  The walk of NetPlays. Conditions: each theorem's own. What an act does to a net's list: the plain law of NetCounts. Conditions: each theorem's own. The walk of NetCounts. Conditions: each theorem's own. What is on the wire is no frame that nobody sent: the plain law of NetHonest. Conditions: each theorem's own. The walk of NetHonest. Conditions: each theorem's own.
  Conditions: each theorem's own.
-/
import Derived.Test.YtnefhhoijonnaaaNw
namespace Go.Proofs.Ytnefhhoijonnaaa
open Go Go.RowKit
set_option linter.unusedVariables false


abbrev ActT := Int × (PVal × (Int × (Int × Int)))
abbrev Ra18 : Rep ActT := Rpair (Rint .u8) (Rpair Rpk (Rpair (Rint .i64) (Rpair (Rint .i64) (Rint .u8))))
theorem act18_form {w : World} {A : Nat → Prop} {cs : List Value} {x : ActT} (h : Ra18.at_ w A cs x) : ∃ a c, cs = [.int .u8 x.1, .int .i64 x.2.1.1, .slice a x.2.1.2.length c, .int .i64 x.2.2.1, .int .i64 x.2.2.2.1, .int .u8 x.2.2.2.2] ∧ Fits .u8 x.1 ∧ Fits .i64 x.2.1.1 ∧ SlR (Rint .u8) w A a x.2.1.2.length c x.2.1.2 ∧ Fits .i64 x.2.2.1 ∧ Fits .i64 x.2.2.2.1 ∧ Fits .u8 x.2.2.2.2 := by
  obtain ⟨c1, c2, rfl, ⟨rfl, h1⟩, c3, c4, rfl, h3, c5, c6, rfl, ⟨rfl, h5⟩, c7, c8, rfl, ⟨rfl, h7⟩, rfl, h8⟩ := h
  obtain ⟨a, n, c, rfl, h9, h10⟩ := pk_form h3
  have hl := h10.len
  subst hl
  exact ⟨a, c, rfl, h1, h9, h10, h5, h7, h8⟩

noncomputable def codV (x : V2) (d : Int) (p : PVal) (i at_ by_ : Int) : Int :=
  if d = 2 ∨ d = 3 then (if atV i x.1.length then 0 else 4) else if d = 4 then (if atV i x.1.length then 0 else 4) else if d = 5 then turE x i at_ by_ else if d = 6 then forE x p else if d = 7 then (if atV i x.2.length then 0 else 4) else errV p
def chgV (d : Int) : Int := if d = 2 ∨ d = 3 then -1 else if d = 5 then 0 else 1
noncomputable def chV (x : V2) (d : Int) (p : PVal) (i at_ by_ : Int) : Int := if codV x d p i at_ by_ ≠ 0 then 0 else chgV d
def frV_ (ch i : Int) (j : Nat) : Nat := if ch < 0 ∧ i ≤ j then j + 1 else j
theorem app_keep {x y : List PVal} (h : ∃ v, y = x ++ [v]) : (y.length : Int) = x.length + 1 ∧ ∀ (j : Nat) (v w : PVal), y[j]? = some v → x[j]? = some w → v = w := by
  obtain ⟨v, rfl⟩ := h
  refine ⟨by rw [List.length_append]; rfl, fun j v w h1 h2 => ?_⟩
  rw [List.getElem?_append_left (List.getElem?_eq_some_iff.1 h2).1, h2] at h1
  exact (Option.some.inj h1).symm
theorem step_ok (x : V2) (d : Int) (p : PVal) (i at_ by_ : Int) : ((opV x d p i at_ by_).1.length : Int) = x.1.length + chV x d p i at_ by_ ∧
    ∀ (j : Nat) (v w : PVal), (opV x d p i at_ by_).1[j]? = some v → ¬ (d = 5 ∧ (j : Int) = i) → x.1[frV_ (chV x d p i at_ by_) i j]? = some w → v = w := by
  have hsame : ∀ {y : List PVal} {ch : Int}, y = x.1 → ch = 0 → (y.length : Int) = x.1.length + ch ∧ ∀ (j : Nat) (v w : PVal), y[j]? = some v → ¬ (d = 5 ∧ (j : Int) = i) → x.1[frV_ ch i j]? = some w → v = w := fun h1 h2 => by
    subst h1 h2
    refine ⟨by omega, fun j v w h1 _ h2 => ?_⟩
    unfold frV_ at h2
    rw [if_neg (by omega), h1] at h2
    exact Option.some.inj h2
  have happ : ∀ {y : List PVal} {ch : Int}, (∃ v, y = x.1 ++ [v]) → ch = 1 → (y.length : Int) = x.1.length + ch ∧ ∀ (j : Nat) (v w : PVal), y[j]? = some v → ¬ (d = 5 ∧ (j : Int) = i) → x.1[frV_ ch i j]? = some w → v = w := fun h1 h2 => by
    subst h2
    obtain ⟨g1, g2⟩ := app_keep h1
    refine ⟨g1, fun j v w h1 _ h2 => ?_⟩
    unfold frV_ at h2
    rw [if_neg (by omega)] at h2
    exact g2 j v w h1 h2
  unfold chV codV opV chgV
  by_cases h23 : d = 2 ∨ d = 3
  · simp only [if_pos h23]
    unfold delV
    cases he : atV i x.1.length with
    | false =>
      rw [if_neg (by decide)]
      exact hsame rfl (by simp)
    | true =>
      rw [if_pos rfl]
      obtain ⟨k, rfl, hk⟩ := at_j he
      simp only [if_pos, Int.toNat_natCast]
      rw [if_neg (by simp)]
      refine ⟨by rw [List.length_eraseIdx_of_lt hk]; omega, fun j v w h1 _ h2 => ?_⟩
      unfold frV_ at h2
      rw [List.getElem?_eraseIdx] at h1
      split at h1
      · rw [if_neg (by omega), h1] at h2
        exact Option.some.inj h2
      · rw [if_pos (by omega), h1] at h2
        exact Option.some.inj h2
  simp only [if_neg h23]
  by_cases h4 : d = 4
  · simp only [if_pos h4, if_neg (show ¬ d = 5 by omega)]
    unfold dblV
    cases he : atV i x.1.length with
    | false => rw [if_neg (by decide)]; exact hsame rfl (by simp)
    | true => rw [if_pos rfl]; exact happ ⟨_, rfl⟩ (by simp)
  simp only [if_neg h4]
  by_cases h5 : d = 5
  · simp only [if_pos h5, ite_self]
    by_cases hc : atV i x.1.length = true ∧ (x.1.getD i.toNat (0, [])).2 ≠ [] ∧ honV x.2 (turB (x.1.getD i.toNat (0, [])).2 at_ by_) = true
    · obtain ⟨k, rfl, hk⟩ := at_j hc.1
      unfold turV
      rw [if_pos hc]
      refine ⟨by dsimp only; rw [List.length_set]; omega, fun j v w h1 hn h2 => ?_⟩
      unfold frV_ at h2
      rw [if_neg (by omega)] at h2
      dsimp only at h1
      rw [Int.toNat_natCast, List.getElem?_set_ne (fun e => hn ⟨h5, by omega⟩), h2] at h1
      exact (Option.some.inj h1).symm
    · exact hsame (by rw [turV_same hc]) rfl
  simp only [if_neg h5]
  by_cases h6 : d = 6
  · simp only [if_pos h6]
    unfold forV forE
    by_cases he : errV p = 0
    · by_cases hh : honV x.2 p.2 = true
      · rw [if_pos ⟨he, hh⟩]
        exact happ ⟨_, rfl⟩ (by simp [he, hh])
      · rw [if_neg (fun h => hh h.2)]
        exact hsame rfl (by simp [he, hh])
    · rw [if_neg (fun h => he h.1)]
      exact hsame rfl (by simp [he])
  simp only [if_neg h6]
  by_cases h7 : d = 7
  · simp only [if_pos h7]
    unfold repV
    cases he : atV i x.2.length with
    | false => rw [if_neg (by decide)]; exact hsame rfl (by simp)
    | true => rw [if_pos rfl]; exact happ ⟨_, rfl⟩ (by simp)
  simp only [if_neg h7]
  unfold sendV
  by_cases he : errV p = 0
  · rw [if_pos he]
    exact happ ⟨_, rfl⟩ (by simp [he])
  · rw [if_neg he]
    exact hsame rfl (by simp [he])

theorem fewK_ok {w0 w : World} {K : List Pk} {G : Nat → Prop} {rest : OL} {to : Int} {zs : List Int} {a : Option Addr} {c : Nat} (h : Hp w0 w (knE w0 K G :: rest)) (hto : Fits .i64 to) (hz : Ints .u8 w a zs.length c zs) : Calls Try.prog 38 #[.agg ⟨[.int .i64 to, .slice a zs.length c]⟩] w fun e w' => ∃ q G', e = .returned (.agg ⟨cellP q⟩) ∧ Hp w0 w' (knE w0 (K ++ [q]) G' :: rest) ∧ q.v = (to, zs.take 200) :=
  (few18_ok (p := ⟨to, zs, a, c⟩) w hz).mono fun e w' ⟨ra, rc, e1, hb2, hr⟩ => by
    have h3 := h.fresh hb2 (x := .row w0.heap.size (.slice ra (zs.take 200).length rc) 5 1 (zs.take 200).length ((zs.take 200).map (.int .u8))) (own_rebase hr h.size) (fun j hj => (World.ownsRow.lt hr j hj).1)
    have hzf : ∀ z ∈ zs.take 200, Fits .u8 z := fun z hx => hz.fits z (List.mem_of_mem_take hx)
    obtain ⟨G', h4⟩ := Hp.snocK (p := ⟨to, zs.take 200, ra, rc⟩) (h3.perm (List.Perm.swap _ _ _)) hto (by show (zs.take 200).length ≤ 70000; rw [List.length_take]; omega) hzf
    exact ⟨⟨to, zs.take 200, ra, rc⟩, G', e1, h4, rfl⟩

theorem decT_open {p : List Int} (h : (decT p).1 = 0) : p.length ≤ 65507 ∧ openE p = 0 := by
  unfold decT at h
  by_cases h1 : 65507 < p.length
  · rw [if_pos h1] at h
    exact absurd h (by decide)
  · refine ⟨by omega, ?_⟩
    rw [if_neg h1] at h
    by_cases h2 : openE p = 0
    · exact h2
    · rw [if_pos h2] at h
      exact h
theorem decT_3 {p : List Int} (h : openE p = 3) : (decT p).1 ≠ 0 := by
  unfold decT
  by_cases h1 : 65507 < p.length
  · rw [if_pos h1]
    decide
  · rw [if_neg h1, if_pos (by rw [h]; decide), h]
    decide
theorem decT_nil : (decT []).1 ≠ 0 := fun h => by
  have := (decT_open h).2
  revert this
  decide
theorem turned_not {p : List Int} (h : (decT p).1 = 0) (hf : ∀ z ∈ p, Fits .u8 z) (at_ : Int) {by_ : Int} (hb : Fits .u8 by_) (hn : by_ ≠ 0) : (decT (turB p at_ by_)).1 ≠ 0 := by
  obtain ⟨h1, h2⟩ := decT_open h
  have h4 : 4 ≤ p.length := by
    unfold openE at h2
    by_cases h3 : p.length < 4
    · rw [if_pos h3] at h2
      exact absurd h2 (by decide)
    · omega
  have hc : p = closeB (p.take (p.length - 4)) := by
    unfold openE at h2
    rw [if_neg (by omega)] at h2
    by_cases h3 : closeB (p.take (p.length - 4)) = p
    · exact h3.symm
    · rw [if_neg h3] at h2
      exact absurd h2 (by decide)
  have hk : (at_ % (p.length : Int)).toNat < p.length := by
    have a1 := Int.emod_nonneg at_ (by omega : (p.length : Int) ≠ 0)
    have a2 := Int.emod_lt_of_pos at_ (by omega : 0 < (p.length : Int))
    omega
  refine decT_3 ?_
  unfold turB
  rw [List.getD_eq_getElem?_getD, List.getElem?_eq_getElem hk, Option.getD_some]
  exact openE_turned hc hf hk (bx_fits' _ _) (fun e => hn (bx_ne (hf _ (List.getElem_mem hk)) hb e.symm))
def honI (x : V2) : Prop := ∀ v ∈ x.1, (decT v.2).1 = 0 → ∃ q ∈ x.2, q.2 = v.2
theorem honI_of {S : List PVal} {bs : List Int} (h : honV S bs = true) (h0 : (decT bs).1 = 0) : ∃ q ∈ S, q.2 = bs := by
  have := of_decide_eq_true h
  exact this.resolve_left (fun h => h h0)
theorem getD_mem {l : List PVal} {i : Int} (h : atV i l.length = true) : l.getD i.toNat (0, []) ∈ l := by
  obtain ⟨j, rfl, hj⟩ := at_j h
  rw [Int.toNat_natCast, List.getD_eq_getElem?_getD, List.getElem?_eq_getElem hj]
  exact List.getElem_mem hj
theorem honI_app {x : V2} {v : PVal} (h : honI x) (hv : (decT v.2).1 = 0 → ∃ q ∈ x.2, q.2 = v.2) : honI (x.1 ++ [v], x.2) := fun u hu h0 => by
  rcases List.mem_append.1 hu with h1 | h1
  · exact h u h1 h0
  · rw [List.mem_singleton] at h1
    subst h1
    exact hv h0
theorem honI_op {x : V2} (h : honI x) (d : Int) (p : PVal) (i at_ by_ : Int) : honI (opV x d p i at_ by_) := by
  unfold opV
  split
  · unfold delV
    split
    · exact fun v hv h0 => h v (List.mem_of_mem_eraseIdx hv) h0
    · exact h
  split
  · unfold dblV
    split
    · rename_i hc
      exact honI_app h (h _ (getD_mem hc))
    · exact h
  split
  · unfold turV
    split
    · rename_i hc
      intro v hv h0
      rcases List.mem_or_eq_of_mem_set hv with h1 | h1
      · exact h v h1 h0
      · subst h1
        exact honI_of hc.2.2 h0
    · exact h
  split
  · unfold forV
    split
    · rename_i hc
      exact honI_app h (honI_of hc.2)
    · exact h
  split
  · unfold repV
    split
    · rename_i hc
      exact honI_app h (fun _ => ⟨_, getD_mem hc, rfl⟩)
    · exact h
  · unfold sendV
    split
    · intro v hv h0
      rcases List.mem_append.1 hv with h1 | h1
      · obtain ⟨q, hq, e⟩ := h v h1 h0
        exact ⟨q, List.mem_append_left _ hq, e⟩
      · exact ⟨v, List.mem_append_right _ h1, rfl⟩
    · exact h
theorem opV_sent (x : V2) (d : Int) (p : PVal) (i at_ by_ : Int) : (opV x d p i at_ by_).2 = x.2 ∨ (opV x d p i at_ by_).2 = x.2 ++ [p] := by
  unfold opV
  split
  · unfold delV; split <;> exact .inl rfl
  split
  · unfold dblV; split <;> exact .inl rfl
  split
  · unfold turV; split <;> exact .inl rfl
  split
  · unfold forV; split <;> exact .inl rfl
  split
  · unfold repV; split <;> exact .inl rfl
  · unfold sendV
    split
    · exact .inr rfl
    · exact .inl rfl
theorem turn_not {x : V2} {p : PVal} {j : Nat} {at_ by_ : Int} (hj : j < x.1.length) (hf : ∀ z ∈ (x.1[j]).2, Fits .u8 z) (hb : Fits .u8 by_) (hn : by_ ≠ 0) {v : PVal} (hv : (opV x 5 p (j : Int) at_ by_).1[j]? = some v) (h0 : (decT (x.1[j]).2).1 = 0) : (decT v.2).1 ≠ 0 := by
  have e1 : opV x 5 p (j : Int) at_ by_ = turV x (j : Int) at_ by_ := rfl
  have hg : x.1.getD (Int.toNat (j : Int)) (0, []) = x.1[j] := by rw [Int.toNat_natCast, List.getD_eq_getElem?_getD, List.getElem?_eq_getElem hj]; rfl
  have ht := turned_not h0 hf at_ hb hn
  rw [e1] at hv
  unfold turV at hv
  rw [hg] at hv
  split at hv
  · dsimp only at hv
    rw [Int.toNat_natCast, List.getElem?_set_self hj] at hv
    cases hv
    exact ht
  · rename_i hc
    refine absurd ⟨decide_eq_true ⟨by omega, by omega⟩, fun e => ?_, decide_eq_true (.inl ht)⟩ hc
    rw [e] at h0
    exact decT_nil h0

theorem pmV0 {α : Type} (x0 x1 x2 x3 : α) (r : List α) : List.Perm (x0 :: x1 :: x2 :: x3 :: r) (x1 :: x2 :: x3 :: x0 :: r) := by
  have hP : List.Perm ([0, 1, 2, 3] : List Nat) [1, 2, 3, 0] := by decide
  exact (hP.map fun i => ([x0, x1, x2, x3][i]?).getD x0).append_right r
theorem pmV1 {α : Type} (x0 x1 x2 x3 x4 x5 x6 : α) (r : List α) : List.Perm (x0 :: x1 :: x2 :: x3 :: x4 :: x5 :: x6 :: r) (x2 :: x3 :: x4 :: x5 :: x1 :: x6 :: x0 :: r) := by
  have hP : List.Perm ([0, 1, 2, 3, 4, 5, 6] : List Nat) [2, 3, 4, 5, 1, 6, 0] := by decide
  exact (hP.map fun i => ([x0, x1, x2, x3, x4, x5, x6][i]?).getD x0).append_right r
theorem pmV2 {α : Type} (x0 x1 x2 x3 x4 x5 x6 x7 x8 x9 x10 : α) (r : List α) : List.Perm (x0 :: x1 :: x2 :: x3 :: x4 :: x5 :: x6 :: x7 :: x8 :: x9 :: x10 :: r) (x3 :: x4 :: x5 :: x6 :: x0 :: x1 :: x2 :: x10 :: x7 :: x8 :: x9 :: r) := by
  have hP : List.Perm ([0, 1, 2, 3, 4, 5, 6, 7, 8, 9, 10] : List Nat) [3, 4, 5, 6, 0, 1, 2, 10, 7, 8, 9] := by decide
  exact (hP.map fun i => ([x0, x1, x2, x3, x4, x5, x6, x7, x8, x9, x10][i]?).getD x0).append_right r
theorem pmV3 {α : Type} (x0 x1 x2 x3 x4 x5 x6 x7 x8 x9 x10 : α) (r : List α) : List.Perm (x0 :: x1 :: x2 :: x3 :: x4 :: x5 :: x6 :: x7 :: x8 :: x9 :: x10 :: r) (x0 :: x1 :: x2 :: x3 :: x8 :: x9 :: x10 :: x7 :: x4 :: x5 :: x6 :: r) := by
  have hP : List.Perm ([0, 1, 2, 3, 4, 5, 6, 7, 8, 9, 10] : List Nat) [0, 1, 2, 3, 8, 9, 10, 7, 4, 5, 6] := by decide
  exact (hP.map fun i => ([x0, x1, x2, x3, x4, x5, x6, x7, x8, x9, x10][i]?).getD x0).append_right r
theorem pmV4 {α : Type} (x0 x1 x2 x3 x4 x5 x6 x7 : α) (r : List α) : List.Perm (x0 :: x1 :: x2 :: x3 :: x4 :: x5 :: x6 :: x7 :: r) (x1 :: x2 :: x3 :: x4 :: x6 :: x0 :: x5 :: x7 :: r) := by
  have hP : List.Perm ([0, 1, 2, 3, 4, 5, 6, 7] : List Nat) [1, 2, 3, 4, 6, 0, 5, 7] := by decide
  exact (hP.map fun i => ([x0, x1, x2, x3, x4, x5, x6, x7][i]?).getD x0).append_right r
def cellsQ (l : List Pk) : List Value := l.map fun p => .slice p.a p.bs.length p.c
abbrev rowQ (w0 : World) (a : Option Addr) (c : Nat) (Q : List Pk) : HE := .row w0.heap.size (.slice a Q.length c) 37 1 Q.length (cellsQ Q)
theorem row_cellQ {w0 w : World} {o : OL} {g c : Nat} {Q : List Pk} (h : Hp w0 w o) (k : Nat) (hk : getE o k = some (rowQ w0 (some ⟨g, 0, none⟩) c Q)) {i : Nat} (hi : i < Q.length) : w.cell? ⟨g, i, none⟩ = some (.slice Q[i].a Q[i].bs.length Q[i].c) :=
  own_cell (h.own _ (getE_mem hk)) (by omega) (by unfold cellsQ; rw [List.getElem?_map, List.getElem?_eq_getElem hi]; rfl)
def fndQ (Q : List Pk) (t : Nat) (bs : List Int) : Bool := (Q.take t).any fun p => decide (p.bs = bs)
theorem fndQ_succ {Q : List Pk} {t : Nat} (h : t < Q.length) (bs : List Int) : fndQ Q (t + 1) bs = (fndQ Q t bs || decide (bs = Q[t].bs)) := by
  unfold fndQ
  rw [← List.take_append_getElem h, List.any_append, List.any_cons, List.any_nil, Bool.or_false, show decide (Q[t].bs = bs) = decide (bs = Q[t].bs) from decide_eq_decide.2 eq_comm]
theorem fndQ_all {Q : List Pk} {t : Nat} (ht : Q.length ≤ t) {bs : List Int} (h : ∃ p ∈ Q, p.bs = bs) : fndQ Q t bs = true := by
  unfold fndQ
  rw [List.take_of_length_le ht, List.any_eq_true]
  obtain ⟨p, h1, h2⟩ := h
  exact ⟨p, h1, decide_eq_true h2⟩
structure NhI where
  i : Nat
  K : List Pk
  G : Nat → Prop
  N : Nt
  qa : Option Addr
  qc : Nat
  Q : List Pk
structure NhJ where
  K : List Pk
  G : Nat → Prop
  qa : Option Addr
  qc : Nat
  Q : List Pk
set_option maxHeartbeats 16000000 in
theorem netHonest_walk (v : Value) (x : List ActT) (W : World) (h : (Rslice Ra18).val W TT v x) : Calls Try.prog 11 #[v] W fun e w' => e = .returned (.bool true) ∧ Below W.heap.size W w' := by
  obtain ⟨a, n, c, rfl, hx⟩ := SlR.form h
  have hl := hx.len
  have hcap := hx.cap
  have hmax := hx.max
  simp only [maxLen] at hmax
  refine enter1 Try.func11 rfl rfl (Hp.refl W) ?_
  repeat (first | refine T_seq ?_ | refine T_region ?_ | refine S_nil ?_ | refine S_pure tabOk rfl ?_)
  refine S_callq (v := .bool true) rfl Try.call31 (fun w1 h1 => awake18_ok w1) ?_
  repeat (first | refine T_seq ?_ | refine T_region ?_ | refine S_nil ?_ | refine pthen_normal ?_ | refine T_skip ?_ | refine T_cond_f rfl ?_ | refine S_pure tabOk rfl ?_)
  refine S_call rfl Try.call32 (fun w1 h1 => (nnew_ok h1).mono fun e w' ⟨b1, e1, hb, h2⟩ => ⟨_, _, e1, h2, ?_⟩)
  repeat (first | refine T_seq ?_ | refine T_region ?_ | refine T_block ?_ | refine S_nil ?_ | refine S_pure tabOk rfl ?_)
  refine T_loop (ι := NhI) (fun i => [(3, .pointer (some ⟨b1, 0, none⟩)), (4, .slice i.qa i.Q.length i.qc), (24, .slice a n c), (25, .int .i64 (n : Int)), (26, .int .i64 (i.i : Int))])
    (fun i => knE W i.K i.G :: nbE 131 b1 i.N.la i.N.L.length i.N.lc i.N.sa i.N.S.length i.N.sc :: rowP W 71 i.N.la i.N.lc i.N.L :: rowP W 71 i.N.sa i.N.sc i.N.S :: rowQ W i.qa i.qc i.Q :: []) (fun i => i.i ≤ n ∧ i.i ≤ 40 ∧ i.N.ok i.K i.i ∧ (∀ p ∈ i.Q, p ∈ i.K) ∧ i.Q.map Pk.bs = i.N.v.2.map Prod.snd ∧ honI i.N.v) (fun i => n - i.i) ⟨0, [], fun _ => False, ⟨none, 0, none, 0, [], []⟩, none, 0, []⟩ ⟨Nat.zero_le _, Nat.zero_le _, nt_ok0 _ _, (fun _ h => nomatch h), rfl, fun _ h => nomatch h⟩ (by repeat (first | exact Sub.nil | refine Sub.cons rfl ?_)) (fun w' hw => ((((Hp.netN (E := 71) hw).nilRow 37 1).perm (pmV0 ..)).nilK)) ?_
  rintro ⟨i, K, G, N, qa, qc, Q⟩ ⟨hi, hi40, hN, hQK, hQ, hhon⟩
  dsimp only at hi hi40 hN hQK hQ hhon ⊢
  refine T_kn (X := ∀ k, G k → W.heap.size ≤ k) (fun w hw => hw.newK 0 rfl) (fun hG => ?_)
  have hQl : Q.length = N.S.length := by
    have e1 := congrArg List.length hQ
    have e2 : N.v.2.length = N.S.length := List.length_map _
    rw [List.length_map, List.length_map, e2] at e1
    exact e1
  have hsn := hN.sn
  repeat (first | refine T_seq ?_ | refine T_region ?_ | refine S_nil ?_ | refine S_pure tabOk rfl ?_)
  refine T_cond_dec rfl (fun h => ?_) (fun h => ?_)
  rotate_left
  · repeat (first | refine T_seq ?_ | refine T_region ?_ | refine S_nil ?_ | refine pthen_normal ?_ | refine inb_hit ?_ | refine pthen_exit ?_ | refine T_ret ?_ | refine T_exit ?_ | refine S_pure tabOk rfl ?_)
    exact ret1 rfl rfl (fun w' hw => ⟨rfl, hw.below (by repeat (first | exact new_nil | refine new_rx (by assumption) ?_ | refine new_cons (by first | assumption | omega) ?_ | refine newrow hw 2 rfl (Nat.le_refl _) ?_ | refine newrow hw 3 rfl (Nat.le_refl _) ?_ | refine newrow hw 4 rfl (Nat.le_refl _) ?_))⟩)
  have hi' : i < x.length := by omega
  obtain ⟨gb, off, cs, rfl, hlt, hat, hcl, hcell, _⟩ := hx.get_ hi'
  obtain ⟨ua, uc, rfl, f1, f2, hu, f3, f4, f5⟩ := act18_form hat
  repeat (first | refine T_seq ?_ | refine T_region ?_ | refine T_block ?_ | refine pthen_normal ?_ | refine T_skip ?_ | refine S_pure tabOk rfl ?_)
  refine S_q (Q_idx (sz := 6) tabOk rfl rfl rfl rfl rfl rfl rfl rfl (j := i) (by omega)) ?_
  refine S_loadN tabOk (vs := [.int .u8 x[i].1, .int .i64 x[i].2.1.1, .slice ua x[i].2.1.2.length uc, .int .i64 x[i].2.2.1, .int .i64 x[i].2.2.2.1, .int .u8 x[i].2.2.2.2]) rfl rfl rfl (fun w' hw j u hj => by
    rw [Addr.add_lit]
    exact (World.cell?_of_block ((hw.below (by repeat (first | exact new_nil | refine new_rx (by assumption) ?_ | refine new_cons (by first | assumption | omega) ?_ | refine newrow hw 2 rfl (Nat.le_refl _) ?_ | refine newrow hw 3 rfl (Nat.le_refl _) ?_ | refine newrow hw 4 rfl (Nat.le_refl _) ?_))).block gb hlt)).trans (hcell j u hj)) ?_
  skip
  refine S_new tabOk rfl (fun b6 hb6 => ?_)
  repeat (first | refine T_seq ?_ | refine T_region ?_ | refine S_nil ?_ | refine S_pure tabOk rfl ?_ | refine S_store tabOk 0 rfl rfl rfl rfl rfl rfl ?_)
  refine T_cond_dec rfl (fun h40 => ?_) (fun h40 => ?_)
  · repeat (first | refine pthen_exit ?_ | refine T_exit ?_)
    refine inb_miss rfl ?_
    repeat (first | refine T_seq ?_ | refine T_region ?_ | refine S_nil ?_ | refine pthen_normal ?_ | refine inb_hit ?_ | refine pthen_exit ?_ | refine T_ret ?_ | refine S_pure tabOk rfl ?_)
    exact ret1 rfl rfl (fun w' hw => ⟨rfl, hw.below (by repeat (first | exact new_nil | refine new_rx (by assumption) ?_ | refine new_cons (by first | assumption | omega) ?_ | refine newrow hw 3 rfl (Nat.le_refl _) ?_ | refine newrow hw 4 rfl (Nat.le_refl _) ?_ | refine newrow hw 5 rfl (Nat.le_refl _) ?_))⟩)
  obtain ⟨y, hy⟩ : ∃ y, y = x[i] := ⟨_, rfl⟩
  rw [← hy] at f1 f2 hu f3 f4 f5 ⊢
  obtain ⟨a, ha⟩ : ∃ a, a = (some (⟨gb, off, none⟩ : Addr)) := ⟨_, rfl⟩
  rw [← ha]
  have hd' := fits_u8 f1
  have hi3 := fits_i64 f3
  have hl1 := hN.ln
  repeat (first | refine T_seq ?_ | refine T_region ?_ | refine pthen_normal ?_ | refine T_skip ?_ | refine S_pure tabOk rfl ?_)
  refine S_addV (bP y.2.1.2) TT (v := .slice ua y.2.1.2.length uc) (fun w' hw => Vp.old (SlR.val hu) hw (by repeat (first | exact new_nil | refine new_rx (by assumption) ?_ | refine new_cons (by first | assumption | omega) ?_ | refine newrow hw 3 rfl (Nat.le_refl _) ?_ | refine newrow hw 4 rfl (Nat.le_refl _) ?_ | refine newrow hw 5 rfl (Nat.le_refl _) ?_))) (fun F0 hF0 => ?_)
  refine S_heap (fun w hw => hw.perm (pmV1 ..)) ?_
  refine S_callq rfl Try.call35 (fun w1 h1 => nsent_ok w1 (h1.own _ (getE_mem (i := 1) rfl))) ?_
  repeat (first | refine T_seq ?_ | refine T_region ?_ | refine S_nil ?_ | refine S_pure tabOk rfl ?_)
  refine S_call rfl Try.call36 (fun w1 h1 => (nlist_ok h1 hN (by omega)).mono fun e w' ⟨K1, G1, aB, cB, LB, e1, h2, hvB, hLB, hK1⟩ => ⟨_, _, e1, h2, ?_⟩)
  clear e1
  have hlB : LB.length = N.L.length := by
    have := congrArg List.length hvB
    rw [List.length_map, List.length_map] at this
    exact this
  replace hN := hN.up hK1 (Nat.le_refl i)
  replace hQK : ∀ p ∈ Q, p ∈ K1 := fun p hp => hK1 p (hQK p hp)
  obtain ⟨m, hm⟩ : ∃ m, m = doI y.2.2.1 N.L.length := ⟨_, rfl⟩
  repeat (first | refine T_seq ?_ | refine T_region ?_ | refine S_nil ?_ | refine S_pure tabOk rfl ?_ | refine S_load tabOk 5 rfl rfl rfl ?_)
  refine T_cut (ι := Unit) (fun _ => True) (fun _ => [(3, .pointer (some ⟨b1, 0, none⟩)), (4, .slice qa Q.length qc), (6, .pointer (some ⟨b6, 0, none⟩)), (7, .int .i64 (N.S.length : Int)), (8, .slice aB LB.length cB), (9, .int .i64 m), (24, .slice a n c), (25, .int .i64 (n : Int)), (26, .int .i64 (i : Int))])
    (fun _ => knE W K1 G1 :: nbE 131 b1 N.la N.L.length N.lc N.sa N.S.length N.sc :: rowP W 71 N.la N.lc N.L :: rowP W 71 N.sa N.sc N.S :: rowP W 71 aB cB LB :: .blk b6 (.cells ⟨[.int .u8 y.1, .int .i64 y.2.1.1, .slice ua y.2.1.2.length uc, .int .i64 y.2.2.1, .int .i64 y.2.2.2.1, .int .u8 y.2.2.2.2]⟩ 73 (0, 0)) true :: rowQ W qa qc Q :: .rep (fun w => (bP y.2.1.2).at_ w F0 (.slice ua y.2.1.2.length uc)) F0 false :: []) ?_ ?_
  · refine T_cond_dec rfl (fun h3 => ?_) (fun h3 => ?_)
    · have em : m = y.2.2.1 % ((N.L.length : Int) + 2) := by rw [hm]; unfold doI; rw [if_pos h3]
      repeat (first | refine T_region ?_ | refine S_pure tabOk rfl ?_)
      refine S_callq rfl Try.call37 (fun w1 h1 => nlen_ok w1 (h1.own _ (getE_mem (i := 1) rfl))) ?_
      repeat (first | refine S_i64 tabOk rfl (by omega) ?_)
      refine S_q (Q_rem0 rfl rfl rfl (by omega) (by omega)) ?_
      repeat (first | refine S_nil ?_ | refine S_pure tabOk rfl ?_)
      refine ⟨(), trivial, ?_, fun w' hw => hw⟩
      rw [em]
      repeat (first | exact Sub.nil | refine Sub.cons rfl ?_)
    · have em : m = y.2.2.1 := by rw [hm]; unfold doI; rw [if_neg h3]
      repeat (first | refine pthen_normal ?_ | refine T_skip ?_)
      refine ⟨(), trivial, ?_, fun w' hw => hw⟩
      rw [em]
      repeat (first | exact Sub.nil | refine Sub.cons rfl ?_)
  rintro _ _
  have hmf : Fits .i64 m := by
    rw [hm]
    unfold doI
    split
    · have h1 := Int.emod_nonneg y.2.2.1 (by omega : ((N.L.length : Int) + 2) ≠ 0)
      have h2 := Int.emod_lt_of_pos y.2.2.1 (by omega : 0 < ((N.L.length : Int) + 2))
      exact mk_i64 (by omega)
    · exact f3
  obtain ⟨e8, he8⟩ : ∃ x, x = y.1 % 8 := ⟨_, rfl⟩
  obtain ⟨pv, hpv⟩ : ∃ x : PVal, x = (y.2.1.1, y.2.1.2.take 200) := ⟨_, rfl⟩
  repeat (first | refine T_seq ?_ | refine T_region ?_ | refine S_pure tabOk rfl ?_ | refine S_q (Q_build tabOk rfl rfl rfl rfl rfl rfl rfl) ?_)
  refine S_new tabOk rfl (fun b2 hb2 => ?_)
  skip
  refine S_load tabOk 6 rfl rfl rfl ?_
  refine S_call rfl Try.call33 (fun w1 h1 => (do_ok (N2 := ⟨none, 0, none, 0, [], []⟩) y.1 y.2.1.1 y.2.2.1 y.2.2.2.1 y.2.2.2.2 f1 f2 f3 f4 f5 ((Hp.netN (E := 133) h1).perm (pmV2 ..)) hN (nt_ok0 _ _) (by omega)).mono fun e w' ⟨K2, G2, M, M2, r, e1, h2, g1, g2, g3, g4, g5, g6⟩ => ⟨_, knE W K2 G2 :: nbE 131 b1 M.la M.L.length M.lc M.sa M.S.length M.sc :: rowP W 71 M.la M.lc M.L :: rowP W 71 M.sa M.sc M.S :: rowP W 71 aB cB LB :: .blk b6 (.cells ⟨[.int .u8 y.1, .int .i64 y.2.1.1, .slice ua y.2.1.2.length uc, .int .i64 y.2.2.1, .int .i64 y.2.2.2.1, .int .u8 y.2.2.2.2]⟩ 73 (0, 0)) true :: rowQ W qa qc Q :: .rep (fun w => (bP y.2.1.2).at_ w F0 (.slice ua y.2.1.2.length uc)) F0 false :: [], e1, (h2.perm (pmV3 ..)).less (by repeat (first | exact Less.nil | refine Less.keep ?_ | refine Less.dropB (by first | assumption | omega) ?_ | refine Less.dropW (Nat.le_refl _) ?_)), ?_⟩)
  rw [← hm, ← he8, ← hpv] at g4
  clear e1 g2 g5 g6 hm
  replace hQK : ∀ p ∈ Q, p ∈ K2 := fun p hp => g3 p (hQK p hp)
  replace hLB : ∀ p ∈ LB, p ∈ K2 := fun p hp => g3 p (hLB p hp)
  have hhon2 : honI M.v := by rw [g4]; exact honI_op hhon e8 pv m y.2.2.2.1 y.2.2.2.2
  have hMn := g1.ln
  have hMs := g1.sn
  repeat (first | refine T_seq ?_ | refine T_region ?_ | refine S_nil ?_ | refine S_pure tabOk rfl ?_ | refine S_load tabOk 5 rfl rfl rfl ?_)
  refine S_q (Q_rem0 rfl rfl rfl (by decide) hd'.1) ?_
  rw [← he8]
  obtain ⟨X, hX⟩ : ∃ X, X = (e8 = 5 ∧ y.2.2.2.2 ≠ 0 ∧ 0 ≤ m ∧ m < (LB.length : Int)) := ⟨_, rfl⟩
  haveI : Decidable X := by rw [hX]; exact inferInstance
  refine S_cut (ι := Unit) (fun _ => True) (fun _ => [(3, .pointer (some ⟨b1, 0, none⟩)), (4, .slice qa Q.length qc), (6, .pointer (some ⟨b6, 0, none⟩)), (7, .int .i64 (N.S.length : Int)), (8, .slice aB LB.length cB), (9, .int .i64 m), (24, .slice a n c), (25, .int .i64 (n : Int)), (26, .int .i64 (i : Int)), (69, .bool (decide X))]) (fun _ => knE W K2 G2 :: nbE 131 b1 M.la M.L.length M.lc M.sa M.S.length M.sc :: rowP W 71 M.la M.lc M.L :: rowP W 71 M.sa M.sc M.S :: rowP W 71 aB cB LB :: .blk b6 (.cells ⟨[.int .u8 y.1, .int .i64 y.2.1.1, .slice ua y.2.1.2.length uc, .int .i64 y.2.2.1, .int .i64 y.2.2.2.1, .int .u8 y.2.2.2.2]⟩ 73 (0, 0)) true :: rowQ W qa qc Q :: .rep (fun w => (bP y.2.1.2).at_ w F0 (.slice ua y.2.1.2.length uc)) F0 false :: []) ?_ ?_
  · repeat (first | refine S_pure tabOk rfl ?_)
    refine S_splitb (d := 55) rfl rfl (fun h1 => ?_) (fun h1 => ?_)
    rotate_left
    · have h1 := of_decide_eq_false h1
      repeat (first | refine S_nil ?_ | refine S_pure tabOk rfl ?_ | refine S_pass rfl rfl rfl ?_)
      refine ⟨(), trivial, ?_, fun w' hw => hw⟩
      rw [decide_eq_false (fun h => h1 (by rw [hX] at h; exact h.1) : ¬ X)]
      repeat (first | exact Sub.nil | refine Sub.cons rfl ?_)
    have h1 := of_decide_eq_true h1
    repeat (first | refine S_pure tabOk rfl ?_ | refine S_load tabOk 5 rfl rfl rfl ?_)
    refine S_splitb (d := 60) rfl rfl (fun h2 => ?_) (fun h2 => ?_)
    rotate_left
    · have h2 := of_decide_eq_false h2
      repeat (first | refine S_nil ?_ | refine S_pure tabOk rfl ?_ | refine S_pass rfl rfl rfl ?_)
      refine ⟨(), trivial, ?_, fun w' hw => hw⟩
      rw [decide_eq_false (fun h => h2 (by rw [hX] at h; exact h.2.1) : ¬ X)]
      repeat (first | exact Sub.nil | refine Sub.cons rfl ?_)
    have h2 := of_decide_eq_true h2
    repeat (first | refine S_pure tabOk rfl ?_)
    refine S_splitb (d := 64) rfl rfl (fun h3 => ?_) (fun h3 => ?_)
    rotate_left
    · have h3 := of_decide_eq_false h3
      repeat (first | refine S_nil ?_ | refine S_pure tabOk rfl ?_ | refine S_pass rfl rfl rfl ?_)
      refine ⟨(), trivial, ?_, fun w' hw => hw⟩
      rw [decide_eq_false (fun h => h3 (by rw [hX] at h; exact h.2.2.1) : ¬ X)]
      repeat (first | exact Sub.nil | refine Sub.cons rfl ?_)
    have h3 := of_decide_eq_true h3
    repeat (first | refine S_nil ?_ | refine S_pure tabOk rfl ?_)
    refine ⟨(), trivial, ?_, fun w' hw => hw⟩
    rw [show decide X = decide (m < (LB.length : Int)) from decide_eq_decide.2 (by rw [hX]; exact ⟨fun h => h.2.2.2, fun h => ⟨h1, h2, h3, h⟩⟩)]
    repeat (first | exact Sub.nil | refine Sub.cons rfl ?_)
  rintro _ _
  refine T_cut (ι := List Pk × (Nat → Prop)) (fun j => ∀ p ∈ K2, p ∈ j.1) (fun _ => [(3, .pointer (some ⟨b1, 0, none⟩)), (4, .slice qa Q.length qc), (6, .pointer (some ⟨b6, 0, none⟩)), (7, .int .i64 (N.S.length : Int)), (24, .slice a n c), (25, .int .i64 (n : Int)), (26, .int .i64 (i : Int))]) (fun j => knE W j.1 j.2 :: nbE 131 b1 M.la M.L.length M.lc M.sa M.S.length M.sc :: rowP W 71 M.la M.lc M.L :: rowP W 71 M.sa M.sc M.S :: .blk b6 (.cells ⟨[.int .u8 y.1, .int .i64 y.2.1.1, .slice ua y.2.1.2.length uc, .int .i64 y.2.2.1, .int .i64 y.2.2.2.1, .int .u8 y.2.2.2.2]⟩ 73 (0, 0)) true :: rowQ W qa qc Q :: .rep (fun w => (bP y.2.1.2).at_ w F0 (.slice ua y.2.1.2.length uc)) F0 false :: []) ?_ ?_
  · refine T_cond_dec rfl (fun hc => ?_) (fun hc => ?_)
    rotate_left
    · repeat (first | refine pthen_normal ?_ | refine T_skip ?_)
      exact ⟨(K2, G2), fun p hp => hp, by repeat (first | exact Sub.nil | refine Sub.cons rfl ?_), fun w' hw => hw.less (by repeat (first | exact Less.nil | refine Less.keep ?_ | refine Less.dropW (Nat.le_refl _) ?_))⟩
    rw [hX] at hc
    obtain ⟨h5, hby, hm0, hmB⟩ := hc
    obtain ⟨j, rfl⟩ : ∃ j : Nat, m = (j : Int) := ⟨m.toNat, by omega⟩
    have hjB : j < LB.length := by omega
    obtain ⟨r, hr0⟩ : ∃ r, r = LB[j] := ⟨_, rfl⟩
    have hrK : r ∈ K2 := by rw [hr0]; exact hLB _ (List.getElem_mem hjB)
    refine T_kn (X := (∃ g, aB = some ⟨g, 0, none⟩) ∧ ∀ z ∈ r.bs, Fits .u8 z) (fun w hw => ⟨hw.rowA 4 (m := LB.length) rfl (by omega), (okP.fit (hw.okP 0 rfl) r hrK).2.2⟩) (fun ⟨⟨g, hg⟩, hrf⟩ => ?_)
    subst hg
    repeat (first | refine T_seq ?_ | refine T_region ?_ | refine S_pure tabOk rfl ?_)
    refine S_q (Q_idx (sz := 2) tabOk rfl rfl rfl rfl rfl rfl rfl rfl (j := j) hjB) ?_
    repeat (first | refine S_pure tabOk rfl ?_)
    refine S_load1 tabOk rfl rfl (v := .slice r.a r.bs.length r.c) (fun w' hw => by
      have h1 := row_cellP hw 4 rfl hjB 1 (.slice r.a r.bs.length r.c) (by rw [hr0]; rfl)
      rw [Addr.add_lit] at h1
      exact h1) ?_
    refine S_callE (fun v => ∃ s, v = .tuple #[frV (decT r.bs).2.1 s, .int .i64 (decT r.bs).1]) rfl Try.call25 (fun w1 h1 => (decode_ok w1 (okP.ints (h1.okP 0 rfl) hrK)).mono fun e w' ⟨s, e1, e2, e3⟩ => ⟨_, e1, e2, s, rfl⟩) (fun v hv => ?_)
    obtain ⟨s1, rfl⟩ := hv
    obtain ⟨D1, hD1⟩ : ∃ d, d = decT r.bs := ⟨_, rfl⟩
    rw [← hD1]
    repeat (first | refine S_pure tabOk rfl ?_)
    refine S_new tabOk rfl (fun b10 hb10 => ?_)
    repeat (first | refine T_seq ?_ | refine T_region ?_ | refine S_nil ?_ | refine S_pure tabOk rfl ?_ | refine S_store tabOk 0 rfl rfl rfl rfl rfl rfl ?_)
    refine S_heap (fun w hw => hw.dropn hb10) ?_
    refine S_call rfl Try.call36 (fun w1 h1 => (nlist_ok h1 g1 (by omega)).mono fun e w' ⟨K3, G3, aC, cC, LC, e1, h2, hvC, hLC, hK3⟩ => ⟨_, _, e1, h2, ?_⟩)
    have hlC : LC.length = M.L.length := by
      have := congrArg List.length hvC
      rw [List.length_map, List.length_map] at this
      exact this
    have hjM : j < LC.length := by
      have e1 : M.v.1.length = M.L.length := List.length_map _
      have e2 : N.v.1.length = N.L.length := List.length_map _
      have e3 := (step_ok N.v e8 pv (j : Int) y.2.2.2.1 y.2.2.2.2).1
      have e4 : chV N.v e8 pv (j : Int) y.2.2.2.1 y.2.2.2.2 = 0 := by
        unfold chV chgV
        rw [if_neg (by omega : ¬ (e8 = 2 ∨ e8 = 3)), if_pos h5, ite_self]
      rw [← g4, e1, e2, e4] at e3
      omega
    obtain ⟨q, hq0⟩ : ∃ q, q = LC[j] := ⟨_, rfl⟩
    have hqK : q ∈ K3 := by rw [hq0]; exact hLC _ (List.getElem_mem hjM)
    have hlaw : D1.1 = 0 → (decT q.bs).1 = 0 → False := fun a1 a2 => by
      have hjN : j < N.v.1.length := by have e2 : N.v.1.length = N.L.length := List.length_map _; omega
      have e5 : N.v.1[j] = r.v := by
        have e1 : (LB.map Pk.v)[j]? = N.v.1[j]? := congrArg (fun l : List PVal => l[j]?) hvB
        rw [List.getElem?_map, List.getElem?_eq_getElem hjB, List.getElem?_eq_getElem hjN, ← hr0] at e1
        exact (Option.some.inj e1).symm
      have e6 : M.v.1[j]? = some q.v := by
        have e1 : (LC.map Pk.v)[j]? = M.v.1[j]? := congrArg (fun l : List PVal => l[j]?) hvC
        rw [← e1, List.getElem?_map, List.getElem?_eq_getElem hjM, ← hq0]
        rfl
      rw [g4, h5] at e6
      refine turn_not (p := pv) (at_ := y.2.2.2.1) hjN ?_ f5 hby e6 ?_ a2
      · rw [e5]; exact hrf
      · rw [e5]; show (decT r.bs).1 = 0; rw [← hD1]; exact a1
    refine S_kn (p := ∃ g, aC = some ⟨g, 0, none⟩) (fun w hw => hw.rowA 4 (m := LC.length) rfl (by omega)) (fun ⟨g2, hg2⟩ => ?_)
    subst hg2
    clear e1
    repeat (first | refine S_pure tabOk rfl ?_)
    refine S_q (Q_idx (sz := 2) tabOk rfl rfl rfl rfl rfl rfl rfl rfl (j := j) hjM) ?_
    repeat (first | refine S_pure tabOk rfl ?_)
    refine S_load1 tabOk rfl rfl (v := .slice q.a q.bs.length q.c) (fun w' hw => by
      have h1 := row_cellP hw 4 rfl hjM 1 (.slice q.a q.bs.length q.c) (by rw [hq0]; rfl)
      rw [Addr.add_lit] at h1
      exact h1) ?_
    refine S_callE (fun v => ∃ s, v = .tuple #[frV (decT q.bs).2.1 s, .int .i64 (decT q.bs).1]) rfl Try.call25 (fun w1 h1 => (decode_ok w1 (okP.ints (h1.okP 0 rfl) hqK)).mono fun e w' ⟨s, e1, e2, e3⟩ => ⟨_, e1, e2, s, rfl⟩) (fun v hv => ?_)
    obtain ⟨s2, rfl⟩ := hv
    obtain ⟨D2, hD2⟩ : ∃ d, d = decT q.bs := ⟨_, rfl⟩
    rw [← hD2] at hlaw ⊢
    repeat (first | refine S_pure tabOk rfl ?_)
    refine S_new tabOk rfl (fun b12 hb12 => ?_)
    repeat (first | refine T_seq ?_ | refine T_region ?_ | refine S_nil ?_ | refine S_pure tabOk rfl ?_ | refine S_store tabOk 0 rfl rfl rfl rfl rfl rfl ?_)
    refine S_splitb (d := 91) rfl rfl (fun h1 => ?_) (fun h1 => ?_)
    · have h1 := of_decide_eq_true h1
      repeat (first | refine S_nil ?_ | refine S_pure tabOk rfl ?_)
      refine T_cond_dec rfl (fun h2 => (hlaw h1 h2).elim) (fun h2 => ?_)
      repeat (first | refine pthen_normal ?_ | refine T_skip ?_)
      exact ⟨(K3, G3), hK3, by repeat (first | exact Sub.nil | refine Sub.cons rfl ?_), fun w' hw => hw.less (by repeat (first | exact Less.nil | refine Less.keep ?_ | refine Less.dropB (by first | assumption | omega) ?_ | refine Less.dropW (Nat.le_refl _) ?_))⟩
    · repeat (first | refine S_nil ?_ | refine S_pure tabOk rfl ?_ | refine S_pass rfl rfl rfl ?_)
      refine T_cond_f rfl ?_
      repeat (first | refine pthen_normal ?_ | refine T_skip ?_)
      exact ⟨(K3, G3), hK3, by repeat (first | exact Sub.nil | refine Sub.cons rfl ?_), fun w' hw => hw.less (by repeat (first | exact Less.nil | refine Less.keep ?_ | refine Less.dropB (by first | assumption | omega) ?_ | refine Less.dropW (Nat.le_refl _) ?_))⟩
  rintro ⟨K3, G3⟩ hK3
  dsimp only at hK3 ⊢
  clear hlB hvB hLB hX
  replace g1 := g1.up hK3 (Nat.le_refl _)
  replace hQK : ∀ p ∈ Q, p ∈ K3 := fun p hp => hK3 p (hQK p hp)
  repeat (first | refine T_seq ?_ | refine T_region ?_ | refine S_pure tabOk rfl ?_)
  refine S_callq rfl Try.call35 (fun w1 h1 => nsent_ok w1 (h1.own _ (getE_mem (i := 1) rfl))) ?_
  repeat (first | refine S_nil ?_ | refine S_pure tabOk rfl ?_)
  have hsent := opV_sent N.v e8 pv m y.2.2.2.1 y.2.2.2.2
  rw [← g4] at hsent
  have eN : N.v.2.length = N.S.length := List.length_map _
  have eM : M.v.2.length = M.S.length := List.length_map _
  refine T_cut (ι := NhJ) (fun j => (∀ p ∈ K3, p ∈ j.K) ∧ (∀ p ∈ j.Q, p ∈ j.K) ∧ j.Q.map Pk.bs = M.v.2.map Prod.snd) (fun j => [(3, .pointer (some ⟨b1, 0, none⟩)), (4, .slice j.qa j.Q.length j.qc), (24, .slice a n c), (25, .int .i64 (n : Int)), (26, .int .i64 (i : Int))]) (fun j => knE W j.K j.G :: nbE 131 b1 M.la M.L.length M.lc M.sa M.S.length M.sc :: rowP W 71 M.la M.lc M.L :: rowP W 71 M.sa M.sc M.S :: rowQ W j.qa j.qc j.Q :: []) ?_ ?_
  · refine T_cond_dec rfl (fun hc => ?_) (fun hc => ?_)
    rotate_left
    · have e2 : M.v.2 = N.v.2 := by
        rcases hsent with h1 | h1
        · exact h1
        · have e3 := congrArg List.length h1
          rw [List.length_append, eN, eM] at e3
          simp only [List.length_cons, List.length_nil] at e3
          omega
      repeat (first | refine pthen_normal ?_ | refine T_skip ?_)
      exact ⟨⟨K3, G3, qa, qc, Q⟩, ⟨fun p hp => hp, hQK, by rw [e2]; exact hQ⟩, by repeat (first | exact Sub.nil | refine Sub.cons rfl ?_), fun w' hw => hw.less (by repeat (first | exact Less.nil | refine Less.keep ?_ | refine Less.dropR ?_ | refine Less.dropB (by first | assumption | omega) ?_))⟩
    have e2 : M.v.2 = N.v.2 ++ [pv] := by
      rcases hsent with h1 | h1
      · have e3 := congrArg List.length h1
        rw [eN, eM] at e3
        omega
      · exact h1
    repeat (first | refine T_region ?_ | refine S_pure tabOk rfl ?_ | refine S_load tabOk 4 rfl rfl rfl ?_)
    refine S_call rfl Try.call38 (fun w1 h1 => (fewK_ok (to := y.2.1.1) (zs := y.2.1.2) (a := ua) (c := uc) h1 f2 (bP_ints (Vp.fact0 (p := bP y.2.1.2) h1 6 rfl))).mono fun e w' ⟨q, G', e1, h2, hqv⟩ => ⟨_, _, e1, h2, ?_⟩)
    repeat (first | refine S_pure tabOk rfl ?_)
    refine S_bslice tabOk rfl rfl rfl rfl rfl rfl rfl rfl rfl rfl rfl rfl (fun b5 hb5 => ?_)
    refine S_append (ty := 0) tabOk 6 (m := Q.length) (v := .slice qa Q.length qc) (xs := cellsQ Q) (news := [.slice q.a q.bs.length q.c]) rfl rfl rfl rfl rfl rfl rfl rfl rfl (by decide) (fun w' hw => Sl.of_blk (hw.own _ (getE_mem (i := 0) rfl)) rfl fun j u hu => by rw [Nat.zero_add]; exact hu) (by intro u hu; simp only [List.mem_cons, List.not_mem_nil, or_false] at hu; subst hu; rfl) (by simp only [maxLen]; omega) (by show (_ + _) * 24 ≤ _; omega) rfl (fun A' C' hc' hm' => ⟨_, rfl, ?_⟩)
    repeat (first | refine S_nil ?_ | refine S_pure tabOk rfl ?_)
    have hlen : Q.length + 1 = (Q ++ [q]).length := by rw [List.length_append]; rfl
    have hcel : cellsQ Q ++ [.slice q.a q.bs.length q.c] = cellsQ (Q ++ [q]) := by unfold cellsQ; rw [List.map_append]; rfl
    rw [hlen, hcel]
    refine ⟨⟨K3 ++ [q], G', A', C', Q ++ [q]⟩, ⟨fun p hp => List.mem_append_left _ hp, fun p hp => ?_, ?_⟩, by repeat (first | exact Sub.nil | refine Sub.cons rfl ?_), fun w' hw => (hw.perm (pmV4 ..)).less (by repeat (first | exact Less.nil | refine Less.keep ?_ | refine Less.dropR ?_ | refine Less.dropB (by first | assumption | omega) ?_))⟩
    · rcases List.mem_append.1 hp with h1 | h1
      · exact List.mem_append_left _ (hQK p h1)
      · exact List.mem_append_right _ h1
    · dsimp only
      rw [e2, List.map_append, List.map_append, hQ]
      have e9 : q.bs = pv.2 := by rw [hpv]; exact congrArg Prod.snd hqv
      rw [List.map_cons, List.map_cons, e9]
      rfl
  clear hQ hQK hQl hN hhon hsn hl1 hsent eN
  rintro ⟨K4, G4, qa', qc', Q'⟩ ⟨hK4, hQK, hQ⟩
  dsimp only at hK4 hQK hQ ⊢
  replace g1 := g1.up hK4 (Nat.le_refl _)
  have hQl : Q'.length = M.S.length := by
    have e1 := congrArg List.length hQ
    rw [List.length_map, List.length_map, eM] at e1
    exact e1
  repeat (first | refine T_seq ?_ | refine T_region ?_ | refine S_pure tabOk rfl ?_)
  refine S_call rfl Try.call36 (fun w1 h1 => (nlist_ok h1 g1 (by omega)).mono fun e w' ⟨K5, G5, aD, cD, LD, e1, h2, hvD, hLD, hK5⟩ => ⟨_, _, e1, h2, ?_⟩)
  clear e1
  replace g1 := g1.up hK5 (Nat.le_refl _)
  replace hQK : ∀ p ∈ Q', p ∈ K5 := fun p hp => hK5 p (hQK p hp)
  have hlD : LD.length = M.L.length := by
    have := congrArg List.length hvD
    rw [List.length_map, List.length_map] at this
    exact this
  repeat (first | refine T_block ?_ | refine S_nil ?_ | refine S_pure tabOk rfl ?_)
  refine T_loop (ι := Nat) (fun j => [(3, .pointer (some ⟨b1, 0, none⟩)), (4, .slice qa' Q'.length qc'), (24, .slice a n c), (25, .int .i64 (n : Int)), (26, .int .i64 (i : Int)), (107, .slice aD LD.length cD), (108, .int .i64 (LD.length : Int)), (109, .int .i64 (j : Int))])
    (fun _ => knE W K5 G5 :: nbE 131 b1 M.la M.L.length M.lc M.sa M.S.length M.sc :: rowP W 71 M.la M.lc M.L :: rowP W 71 M.sa M.sc M.S :: rowP W 71 aD cD LD :: rowQ W qa' qc' Q' :: []) (fun j => j ≤ LD.length) (fun j => LD.length - j) 0 (Nat.zero_le _) (by repeat (first | exact Sub.nil | refine Sub.cons rfl ?_)) (fun w' hw => hw) ?_
  intro j hj
  repeat (first | refine T_seq ?_ | refine T_region ?_ | refine S_nil ?_ | refine S_pure tabOk rfl ?_)
  refine T_cond_dec rfl (fun h => ?_) (fun h => ?_)
  rotate_left
  · repeat (first | refine T_region ?_ | refine S_nil ?_ | refine pthen_normal ?_ | refine inb_normal ?_ | refine inb_hit ?_ | refine pthen_exit ?_ | refine T_exit ?_ | refine S_i64 tabOk rfl (by omega) ?_ | refine S_pure tabOk rfl ?_)
    exact ⟨⟨i + 1, K5, G5, M, qa', qc', Q'⟩, ⟨by dsimp only; omega, by dsimp only; omega, g1, hQK, hQ, hhon2⟩, by repeat (first | exact Sub.nil | refine Sub.cons rfl ?_), fun w' hw => hw.less (by repeat (first | exact Less.nil | refine Less.keep ?_ | refine Less.dropW (Nat.le_refl _) ?_)), by dsimp only; omega⟩
  have hj' : j < LD.length := by omega
  obtain ⟨q, hq0⟩ : ∃ q, q = LD[j] := ⟨_, rfl⟩
  have hqK : q ∈ K5 := by rw [hq0]; exact hLD _ (List.getElem_mem hj')
  have hqM : q.v ∈ M.v.1 := by
    have e1 : LD.map Pk.v = M.v.1 := hvD
    rw [← e1, hq0]
    exact List.mem_map_of_mem (List.getElem_mem hj')
  have hlaw : (decT q.bs).1 = 0 → ∃ p ∈ Q', p.bs = q.bs := fun h0 => by
    obtain ⟨p, hp, hpe⟩ := hhon2 q.v hqM h0
    have h1 : q.bs ∈ Q'.map Pk.bs := by
      rw [hQ]
      exact List.mem_map.2 ⟨p, hp, hpe⟩
    obtain ⟨p2, h2, h3⟩ := List.mem_map.1 h1
    exact ⟨p2, h2, h3⟩
  refine T_kn (X := ∃ g, aD = some ⟨g, 0, none⟩) (fun w hw => hw.rowA 4 (m := LD.length) rfl (by omega)) (fun ⟨g, hg⟩ => ?_)
  subst hg
  repeat (first | refine T_seq ?_ | refine T_region ?_ | refine T_block ?_ | refine pthen_normal ?_ | refine T_skip ?_)
  refine S_q (Q_idx (sz := 2) tabOk rfl rfl rfl rfl rfl rfl rfl rfl (j := j) hj') ?_
  refine S_loadN tabOk (vs := cellP q) rfl rfl rfl (fun w' hw => by rw [hq0]; exact row_cellP hw 4 rfl hj') ?_
  skip
  refine S_new tabOk rfl (fun b15 hb15 => ?_)
  repeat (first | refine T_seq ?_ | refine T_region ?_ | refine S_nil ?_ | refine S_pure tabOk rfl ?_ | refine S_load tabOk 0 rfl rfl rfl ?_ | refine S_store tabOk 0 rfl rfl rfl rfl rfl rfl ?_)
  refine S_callE (fun v => ∃ s, v = .tuple #[frV (decT q.bs).2.1 s, .int .i64 (decT q.bs).1]) rfl Try.call25 (fun w1 h1 => (decode_ok w1 (okP.ints (h1.okP 1 rfl) hqK)).mono fun e w' ⟨s, e1, e2, e3⟩ => ⟨_, e1, e2, s, rfl⟩) (fun v hv => ?_)
  obtain ⟨s1, rfl⟩ := hv
  obtain ⟨D1, hD1⟩ : ∃ d, d = decT q.bs := ⟨_, rfl⟩
  rw [← hD1] at hlaw ⊢
  repeat (first | refine S_pure tabOk rfl ?_)
  refine S_new tabOk rfl (fun b16 hb16 => ?_)
  repeat (first | refine T_seq ?_ | refine T_region ?_ | refine S_nil ?_ | refine S_pure tabOk rfl ?_ | refine S_store tabOk 0 rfl rfl rfl rfl rfl rfl ?_)
  refine T_cond_dec rfl (fun h1 => ?_) (fun h1 => ?_)
  · repeat (first | refine T_region ?_ | refine S_nil ?_ | refine pthen_normal ?_ | refine inb_hit ?_ | refine pthen_exit ?_ | refine T_exit ?_ | refine S_i64 tabOk rfl (by omega) ?_ | refine S_pure tabOk rfl ?_)
    exact ⟨j + 1, by omega, by repeat (first | exact Sub.nil | refine Sub.cons rfl ?_), fun w' hw => hw.less (by repeat (first | exact Less.nil | refine Less.keep ?_ | refine Less.dropB (by first | assumption | omega) ?_)), by omega⟩
  have hfound := hlaw (Decidable.not_not.1 h1)
  repeat (first | refine T_seq ?_ | refine T_region ?_ | refine T_block ?_ | refine S_nil ?_ | refine pthen_normal ?_ | refine T_skip ?_ | refine S_pure tabOk rfl ?_)
  refine T_loop (ι := Nat) (fun t => [(3, .pointer (some ⟨b1, 0, none⟩)), (4, .slice qa' Q'.length qc'), (24, .slice a n c), (25, .int .i64 (n : Int)), (26, .int .i64 (i : Int)), (107, .slice (some ⟨g, 0, none⟩) LD.length cD), (108, .int .i64 (LD.length : Int)), (109, .int .i64 (j : Int)), (15, .pointer (some ⟨b15, 0, none⟩)), (18, .bool (fndQ Q' t q.bs)), (121, .slice qa' Q'.length qc'), (122, .int .i64 (Q'.length : Int)), (123, .int .i64 (t : Int))])
    (fun _ => .blk b15 (.cells ⟨cellP q⟩ 71 (0, 0)) true :: knE W K5 G5 :: nbE 131 b1 M.la M.L.length M.lc M.sa M.S.length M.sc :: rowP W 71 M.la M.lc M.L :: rowP W 71 M.sa M.sc M.S :: rowP W 71 (some ⟨g, 0, none⟩) cD LD :: rowQ W qa' qc' Q' :: []) (fun t => t ≤ Q'.length) (fun t => Q'.length - t) 0 (Nat.zero_le _) (by repeat (first | exact Sub.nil | refine Sub.cons rfl ?_)) (fun w' hw => hw.less (by repeat (first | exact Less.nil | refine Less.keep ?_ | refine Less.dropB (by first | assumption | omega) ?_))) ?_
  intro t ht
  repeat (first | refine T_seq ?_ | refine T_region ?_ | refine S_nil ?_ | refine S_pure tabOk rfl ?_)
  refine T_cond_dec rfl (fun h => ?_) (fun h => ?_)
  rotate_left
  · have e1 : fndQ Q' t q.bs = true := fndQ_all (by omega) hfound
    rw [e1]
    repeat (first | refine T_seq ?_ | refine T_region ?_ | refine S_nil ?_ | refine pthen_normal ?_ | refine inb_hit ?_ | refine pthen_exit ?_ | refine T_exit ?_ | refine S_pure tabOk rfl ?_)
    refine T_cond_f rfl ?_
    repeat (first | refine T_region ?_ | refine S_nil ?_ | refine pthen_normal ?_ | refine inb_normal ?_ | refine T_skip ?_ | refine S_i64 tabOk rfl (by omega) ?_ | refine S_pure tabOk rfl ?_)
    exact ⟨j + 1, by omega, by repeat (first | exact Sub.nil | refine Sub.cons rfl ?_), fun w' hw => hw.less (by repeat (first | exact Less.nil | refine Less.keep ?_ | refine Less.dropB (by first | assumption | omega) ?_)), by omega⟩
  have ht' : t < Q'.length := by omega
  obtain ⟨p, hp0⟩ : ∃ p, p = Q'[t] := ⟨_, rfl⟩
  have hpK : p ∈ K5 := by rw [hp0]; exact hQK _ (List.getElem_mem ht')
  refine T_kn (X := ∃ g, qa' = some ⟨g, 0, none⟩) (fun w hw => hw.rowA 6 (m := Q'.length) rfl (by omega)) (fun ⟨g2, hg2⟩ => ?_)
  subst hg2
  repeat (first | refine T_seq ?_ | refine T_region ?_ | refine T_block ?_ | refine pthen_normal ?_ | refine T_skip ?_)
  refine S_q (Q_idx1 tabOk rfl rfl rfl rfl rfl rfl rfl rfl (j := t) ht') ?_
  refine S_load1 tabOk rfl rfl (v := .slice p.a p.bs.length p.c) (fun w' hw => by
    rw [Nat.zero_add, hp0]
    exact row_cellQ hw 6 rfl ht') ?_
  repeat (first | refine S_nil ?_ | refine S_pure tabOk rfl ?_ | refine T_region_any ?_)
  refine S_splitb (d := 128) rfl rfl (fun h2 => ?_) (fun h2 => ?_)
  · repeat (first | refine T_region ?_ | refine S_nil ?_ | refine pthen_normal ?_ | refine inb_normal ?_ | refine S_i64 tabOk rfl (by omega) ?_ | refine S_pure tabOk rfl ?_ | refine S_pass rfl rfl rfl ?_)
    refine ⟨t + 1, by omega, ?_, fun w' hw => hw, by omega⟩
    rw [show fndQ Q' (t + 1) q.bs = true by rw [fndQ_succ ht', h2]; rfl]
    repeat (first | exact Sub.nil | refine Sub.cons rfl ?_)
  · repeat (first | refine S_pure tabOk rfl ?_ | refine S_load tabOk 0 rfl rfl rfl ?_)
    refine S_callq rfl Try.call21 (fun w1 h1 => same_ok q.a p.a _ q.c _ p.c q.bs p.bs w1 (okP.ints (h1.okP 1 rfl) hqK) (okP.ints (h1.okP 1 rfl) hpK)) ?_
    repeat (first | refine T_region ?_ | refine S_nil ?_ | refine pthen_normal ?_ | refine inb_normal ?_ | refine S_i64 tabOk rfl (by omega) ?_ | refine S_pure tabOk rfl ?_)
    refine ⟨t + 1, by omega, ?_, fun w' hw => hw, by omega⟩
    rw [show fndQ Q' (t + 1) q.bs = decide (q.bs = p.bs) by rw [fndQ_succ ht', h2, hp0]; rfl]
    repeat (first | exact Sub.nil | refine Sub.cons rfl ?_)

end Go.Proofs.Ytnefhhoijonnaaa
