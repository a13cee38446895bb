/-
  Alarms: contracts of the document's Set and Due. Conditions: each theorem's own.
-/
import Derived.Test.YtggnhcgmeibihaaAlM
namespace Go.Proofs.Ytggnhcgmeibihaa
open Go Go.RowKit
set_option linter.unusedVariables false

theorem rIns_at {x : DE} {l : List DE} {k : Nat} (h1 : ∀ p ∈ l.take k, dBef p x) (h2 : ∀ p, l[k]? = some p → ¬ dBef p x) (h : k ≤ l.length) : dIns x l = l.take k ++ x :: l.drop k :=
  (dIns_at x l k h (fun j p hj hp => h1 p (by
    have := (List.getElem?_eq_some_iff.1 hp)
    obtain ⟨hlt, rfl⟩ := this
    exact List.mem_take_iff_getElem.2 ⟨j, by omega, rfl⟩)) h2).symm
theorem cellsE_at {l : List DE} {i : Nat} (h : i < l.length) : (cellsE l)[i * 2]? = some (.int .u64 l[i].1) ∧ (cellsE l)[i * 2 + 1]? = some (.int .i64 l[i].2) := by
  have e : cellsE l = cellsE (l.take i) ++ (encE l[i] ++ cellsE (l.drop (i + 1))) := by
    conv => lhs; rw [← List.take_append_drop i l]
    rw [← cellsE_app]
    congr 1
    unfold cellsE
    rw [List.drop_eq_getElem_cons h, List.map_cons, List.flatten_cons]
  have hl : (cellsE (l.take i)).length = i * 2 := by rw [cellsE_len, List.length_take]; omega
  rw [e]
  constructor
  · rw [List.getElem?_append_right (by omega), hl, show i * 2 - i * 2 = 0 by omega]
    rfl
  · rw [List.getElem?_append_right (by omega), hl, show i * 2 + 1 - i * 2 = 1 by omega]
    rfl
theorem cellsE_one {l : List DE} {u : Value} (hu : u ∈ cellsE l) : u.oneCell' = true := by
  unfold cellsE at hu
  obtain ⟨c, hc, huc⟩ := List.mem_flatten.1 hu
  obtain ⟨p, _, rfl⟩ := List.mem_map.1 hc
  simp only [encE, List.mem_cons, List.not_mem_nil, or_false] at huc
  rcases huc with rfl | rfl <;> rfl
set_option maxHeartbeats 2000000 in
theorem rset12_ok {a : Option Addr} {n c : Nat} {l : List DE} (id tm : Int) {A : Nat → Prop} (w : World) (hx : SlR Rde w A a n c l) (hn : n ≤ 1000000) : Calls Try.prog 23 #[.slice a n c, .int .u64 id, .int .i64 tm] w fun e w' => ∃ a' c', e = .returned (.slice a' (dSet l id tm).length c') ∧ Below w.heap.size w w' ∧ w'.ownsRow w.heap.size 48 2 (.slice a' (dSet l id tm).length c') (dSet l id tm).length (cellsE (dSet l id tm)) := by
  have hl := hx.len
  have hcl := dClear_len l id
  refine enter3 Try.func23 rfl rfl (Hp.refl w) ?_
  repeat (first | refine T_seq ?_ | refine T_region ?_ | refine S_nil ?_ | refine S_pure tabOk rfl ?_)
  refine S_callrow rfl Try.call20 (fun w1 h1 => rclear_ok id w1 (hx.ext (h1.below (by repeat (first | exact new_nil)))) hn) (fun a1 c1 hc1 hd1 => ?_)
  obtain ⟨m, hm⟩ : ∃ m, m = dClear l id := ⟨_, rfl⟩
  have hS : dSet l id tm = dIns (id, tm) m := by rw [hm]; rfl
  rw [← hm] at hcl hc1 ⊢
  rw [hS]
  clear hm hS
  simp only [maxLen] at hd1
  repeat (first | refine T_seq ?_ | refine T_region ?_ | refine S_nil ?_ | refine S_pure tabOk rfl ?_)
  refine T_cut (ι := Nat) (fun i => i ≤ m.length ∧ dIns (id, tm) m = m.take i ++ (id, tm) :: m.drop i) (fun i => [(0, .slice a1 m.length c1), (1, .int .u64 id), (2, .int .i64 tm), (7, .int .i64 (i : Int))])
    (fun i => [.row w.heap.size (.slice a1 m.length c1) 48 2 m.length (cellsE m)]) ?_ ?_
  · refine T_block ?_
    refine T_loop (ι := Nat) (fun i => [(0, .slice a1 m.length c1), (1, .int .u64 id), (2, .int .i64 tm), (7, .int .i64 (i : Int))])
      (fun i => [.row w.heap.size (.slice a1 m.length c1) 48 2 m.length (cellsE m)]) (fun i => i ≤ m.length ∧ ∀ p ∈ m.take i, dBef p (id, tm)) (fun i => m.length - i) 0 ⟨Nat.zero_le _, by simp⟩ (by repeat (first | exact Sub.nil | refine Sub.cons rfl ?_)) (fun w' hw => hw) ?_
    rintro i ⟨hi, hb⟩
    repeat (first | refine T_seq ?_ | refine T_region ?_ | refine S_pure tabOk rfl ?_)
    refine S_split rfl rfl (fun h0 => ?_) (fun h0 => ?_)
    · have hi' : i < m.length := by omega
      obtain ⟨e1, e2⟩ := cellsE_at hi'
      have hstep : dBef m[i] (id, tm) → ∀ p ∈ m.take (i + 1), dBef p (id, tm) := fun hh p hp => by
        rw [List.take_succ_eq_append_getElem hi', List.mem_append, List.mem_singleton] at hp
        rcases hp with hp | rfl
        · exact hb p hp
        · exact hh
      have hstop : ¬ dBef m[i] (id, tm) → dIns (id, tm) m = m.take i ++ (id, tm) :: m.drop i := fun hh => rIns_at hb (fun p hp => by
        rw [List.getElem?_eq_getElem hi'] at hp
        cases hp
        exact hh) hi
      refine S_rowA 0 rfl (by omega) (fun bS hbS => ?_)
      subst hbS
      repeat (first | refine S_pure tabOk rfl ?_)
      refine S_q (Q_idx (sz := 2) tabOk rfl rfl rfl rfl rfl rfl rfl rfl (j := i) (by omega)) ?_
      repeat (first | refine S_pure tabOk rfl ?_)
      refine S_load1 tabOk (v := .int .i64 m[i].2) rfl rfl (fun w' hw => by rw [Nat.zero_add]; exact own_cell (hw.own _ (getE_mem (i := 0) rfl)) (by omega) e2) ?_
      repeat (first | refine S_pure tabOk rfl ?_)
      refine S_split rfl rfl (fun h1 => ?_) (fun h1 => ?_)
      · repeat (first | refine S_nil ?_ | refine S_pure tabOk rfl ?_ | refine S_pass rfl rfl rfl ?_)
        refine T_cond_t rfl ?_
        repeat (first | refine T_block ?_ | refine S_nil ?_ | refine pthen_normal ?_ | refine inb_normal ?_ | refine T_skip ?_ | refine S_i64 tabOk rfl (by omega) ?_ | refine S_pure tabOk rfl ?_ | refine T_region_any ?_)
        exact ⟨i + 1, ⟨by omega, hstep (by unfold dBef; dsimp only; omega)⟩, by repeat (first | exact Sub.nil | refine Sub.cons rfl ?_), fun w' hw => hw, by omega⟩
      · repeat (first | refine S_pure tabOk rfl ?_)
        refine S_q (Q_idx (sz := 2) tabOk rfl rfl rfl rfl rfl rfl rfl rfl (j := i) (by omega)) ?_
        repeat (first | refine S_pure tabOk rfl ?_)
        refine S_load1 tabOk (v := .int .i64 m[i].2) rfl rfl (fun w' hw => by rw [Nat.zero_add]; exact own_cell (hw.own _ (getE_mem (i := 0) rfl)) (by omega) e2) ?_
        repeat (first | refine S_pure tabOk rfl ?_)
        refine S_split rfl rfl (fun h2 => ?_) (fun h2 => ?_)
        · repeat (first | refine S_pure tabOk rfl ?_)
          refine S_q (Q_idx (sz := 2) tabOk rfl rfl rfl rfl rfl rfl rfl rfl (j := i) (by omega)) ?_
          repeat (first | refine S_pure tabOk rfl ?_)
          refine S_load1 tabOk (v := .int .u64 m[i].1) rfl rfl (fun w' hw => by rw [Nat.zero_add]; exact own_cell (hw.own _ (getE_mem (i := 0) rfl)) (by omega) e1) ?_
          repeat (first | refine S_nil ?_ | refine S_pure tabOk rfl ?_)
          refine T_cond_dec rfl (fun h3 => ?_) (fun h3 => ?_)
          · repeat (first | refine T_block ?_ | refine S_nil ?_ | refine pthen_normal ?_ | refine inb_normal ?_ | refine T_skip ?_ | refine S_i64 tabOk rfl (by omega) ?_ | refine S_pure tabOk rfl ?_ | refine T_region_any ?_)
            exact ⟨i + 1, ⟨by omega, hstep (by unfold dBef; dsimp only; omega)⟩, by repeat (first | exact Sub.nil | refine Sub.cons rfl ?_), fun w' hw => hw, by omega⟩
          · repeat (first | refine pthen_normal ?_ | refine inb_hit ?_ | refine pthen_exit ?_ | refine T_exit ?_)
            exact ⟨i, ⟨hi, hstop (by unfold dBef; dsimp only; omega)⟩, by repeat (first | exact Sub.nil | refine Sub.cons rfl ?_), fun w' hw => hw⟩
        · repeat (first | refine S_nil ?_ | refine S_pure tabOk rfl ?_ | refine S_pass rfl rfl rfl ?_)
          refine T_cond_f rfl ?_
          repeat (first | refine pthen_normal ?_ | refine inb_hit ?_ | refine pthen_exit ?_ | refine T_exit ?_)
          exact ⟨i, ⟨hi, hstop (by unfold dBef; dsimp only; omega)⟩, by repeat (first | exact Sub.nil | refine Sub.cons rfl ?_), fun w' hw => hw⟩
    · have e : i = m.length := by omega
      subst e
      repeat (first | refine S_nil ?_ | refine S_pure tabOk rfl ?_ | refine S_pass rfl rfl rfl ?_)
      refine T_cond_f rfl ?_
      repeat (first | refine pthen_normal ?_ | refine inb_hit ?_ | refine pthen_exit ?_ | refine T_exit ?_)
      exact ⟨m.length, ⟨Nat.le_refl _, rIns_at hb (fun p hp => by rw [List.getElem?_eq_none (Nat.le_refl _)] at hp; cases hp) (Nat.le_refl _)⟩, by repeat (first | exact Sub.nil | refine Sub.cons rfl ?_), fun w' hw => hw⟩
  rintro i ⟨hi, hI⟩
  rw [hI]
  have htl : (m.take i).length = i := by rw [List.length_take]; omega
  have hdl : (m.drop i).length = m.length - i := List.length_drop
  have hall : (m.take i ++ (id, tm) :: m.drop i).length = m.length + 1 := by simp [htl, hdl]; omega
  repeat (first | refine T_seq ?_ | refine T_region ?_)
  refine S_bslice tabOk rfl rfl rfl rfl rfl rfl rfl rfl rfl rfl rfl rfl (fun b45 hb45 => ?_)
  refine S_heap (fun w' h => Hp.closeRow (pre := []) (n := 0) (c := 0) (sz := 2) (cs := []) h hb45 (by decide) (by decide) rfl) ?_
  repeat (first | refine S_pure tabOk rfl ?_)
  refine S_q (Q_sliceTo tabOk rfl rfl rfl rfl rfl rfl (H := i) rfl (by omega)) ?_
  skip
  refine S_append (ty := 0) tabOk 0 (news := cellsE (m.take i)) rfl rfl rfl rfl rfl rfl rfl rfl rfl (by decide) (fun w' hw => by
    have := (Sl.of_own (hw.own _ (getE_mem (i := 1) rfl))).take (k := i) hi
    rwa [cellsE_take] at this) (fun u hu => cellsE_one hu) (by simp only [maxLen]; omega) (by show (_ + _) * 16 ≤ _; omega) rfl (fun A1 C1 hc2 hd2 => ⟨_, rfl, ?_⟩)
  rw [show List.take (0 * 2) ([] : List Value) ++ cellsE (m.take i) = cellsE (m.take i) from rfl, Nat.zero_add]
  repeat (first | refine T_seq ?_ | refine T_region ?_ | refine S_nil ?_ | refine S_pure tabOk rfl ?_ | refine S_q (Q_build tabOk rfl rfl rfl rfl rfl rfl rfl) ?_)
  refine S_bslice tabOk rfl rfl rfl rfl rfl rfl rfl rfl rfl rfl rfl rfl (fun b54 hb54 => ?_)
  refine S_append (ty := 0) tabOk 1 (news := cellsE [(id, tm)]) rfl rfl rfl rfl rfl rfl rfl rfl rfl (by decide) (fun w' hw => Sl.of_blk (hw.own _ (getE_mem (i := 0) rfl)) rfl (fun j u hu => by rw [Nat.zero_add]; exact hu)) (fun u hu => cellsE_one hu) (by simp only [maxLen]; omega) (by show (_ + _) * 16 ≤ _; omega) rfl (fun A2 C2 hc3 hd3 => ⟨_, rfl, ?_⟩)
  rw [cellsE_app]
  repeat (first | refine T_seq ?_ | refine T_region ?_ | refine S_nil ?_ | refine S_pure tabOk rfl ?_)
  refine S_q (Q_sliceFrom tabOk rfl rfl rfl rfl rfl rfl rfl (L := i) rfl hi hc1) ?_
  skip
  refine S_append (ty := 0) tabOk 1 (news := cellsE (m.drop i)) rfl rfl rfl rfl rfl rfl rfl rfl rfl (by decide) (fun w' hw => by
    have := (Sl.of_own (hw.own _ (getE_mem (i := 2) rfl))).drop (k := i) hi hc1
    rwa [cellsE_drop] at this) (fun u hu => cellsE_one hu) (by simp only [maxLen]; omega) (by show (_ + _) * 16 ≤ _; omega) rfl (fun A3 C3 hc4 hd4 => ⟨_, rfl, ?_⟩)
  rw [cellsE_app, show i + 1 + (m.length - i) = m.length + 1 by omega, List.append_assoc, show [(id, tm)] ++ m.drop i = (id, tm) :: m.drop i from rfl]
  repeat (first | refine S_nil ?_ | refine T_ret ?_ | refine S_pure tabOk rfl ?_)
  refine ret1 rfl rfl (fun w' hw => ?_)
  rw [hall]
  exact ⟨_, _, rfl, hw.below (by repeat (first | exact new_nil | refine new_cons (by first | assumption | omega) ?_ | refine newrow hw 1 rfl (Nat.le_refl _) ?_ | refine newrow hw 2 rfl (Nat.le_refl _) ?_)), hw.own _ (getE_mem (i := 1) rfl)⟩
structure RDu where
  k : Nat
  a : Option Addr
  c : Nat
  A : Option Addr
  C : Nat
set_option maxHeartbeats 2000000 in
theorem rdue12_ok {a : Option Addr} {n c : Nat} {l : List DE} (now : Int) {A : Nat → Prop} (w : World) (hx : SlR Rde w A a n c l) (hn : n ≤ 1000000) : Calls Try.prog 22 #[.slice a n c, .int .i64 now] w fun e w' => ∃ r, e = .returned r ∧ Below w.heap.size w w' ∧ (Vtup2 ((Rslice (Rint .u64)).vp (dOut l now)) ((Rslice Rde).vp (dRest l now))).at_ w' (fun k => A k ∨ w.heap.size ≤ k) r := by
  have hl := hx.len
  refine enter2 Try.func22 rfl rfl (Hp.refl w) ?_
  repeat (first | refine T_seq ?_ | refine T_region ?_ | refine T_block ?_ | refine S_nil ?_ | refine S_pure tabOk rfl ?_)
  refine T_loop (ι := RDu) (fun i => [(0, .slice i.a (n - i.k) i.c), (1, .int .i64 now), (6, .slice i.A i.k i.C)])
    (fun i => [.row w.heap.size (.slice i.A i.k i.C) 27 1 i.k (u64s ((l.take i.k).map (·.1)))])
    (fun i => i.k ≤ n ∧ (∀ p ∈ l.take i.k, p.2 ≤ now) ∧ SlR Rde w A i.a (n - i.k) i.c (l.drop i.k)) (fun i => n - i.k) ⟨0, a, c, none, 0⟩ ⟨Nat.zero_le _, fun p hp => (by simp at hp), hx⟩ (by repeat (first | exact Sub.nil | refine Sub.cons rfl ?_)) (fun w' hw => hw.nilRow _ _) ?_
  rintro ⟨k, a1, c1, A1, C1⟩ ⟨hk, hle, hR⟩
  dsimp only at hk hle hR ⊢
  have hR1 := hR.len
  have hR2 := hR.cap
  have hR3 := hR.max
  simp only [maxLen] at hR3
  have hfin : ∀ w', (∀ p, l[k]? = some p → now < p.2) → Hp w w' [.row w.heap.size (.slice A1 k C1) 27 1 k (u64s ((l.take k).map (·.1)))] → ∃ r, Ending.returned (.tuple #[.slice A1 k C1, .slice a1 (n - k) c1]) = .returned r ∧ Below w.heap.size w w' ∧ (Vtup2 ((Rslice (Rint .u64)).vp (dOut l now)) ((Rslice Rde).vp (dRest l now))).at_ w' (fun k => A k ∨ w.heap.size ≤ k) r := fun w' h2 hw => by
    obtain ⟨e1, e2⟩ := due_at hle h2 (by omega)
    have hb : Below w.heap.size w w' := hw.below (by repeat (first | exact new_nil | refine newrow hw 0 rfl (Nat.le_refl _) ?_))
    have hlen : ((l.take k).map (·.1)).length = k := by rw [List.length_map, List.length_take]; omega
    refine ⟨_, rfl, hb, _, _, rfl, ?_, ?_⟩
    · rw [e1]
      have h9 := hw.own _ (getE_mem (i := 0) rfl)
      refine SlR.val (.of_row (flat_int .u64) (by rw [map_one]; exact h9) hlen (fun z hz => ?_) fun k hk _ => .inr hk)
      obtain ⟨p, hp, rfl⟩ := List.mem_map.1 hz
      exact ((hx.flat flat_de).2 p (List.mem_of_mem_take hp)).1
    · rw [e2]
      exact SlR.val ((hR.ext hb).mono fun k hk => .inl hk)
  repeat (first | refine T_seq ?_ | refine T_region ?_ | refine S_pure tabOk rfl ?_)
  refine S_split rfl rfl (fun h0 => ?_) (fun h0 => ?_)
  · have hi' : 0 < (l.drop k).length := by omega
    have hkl : k < l.length := by omega
    have hkl' : k + 1 ≤ n := by omega
    obtain ⟨ab, off, cs, rfl, hlt, _⟩ := hR.get_ hi'
    have hcell := de_cells hR hi'
    have e0 : (l.drop k)[0] = l[k] := by rw [List.getElem_drop]; rfl
    rw [e0] at hcell
    have hld : ∀ {w' : World} (hb : Below w.heap.size w w') (j : Nat) (u : Value), (encE l[k])[j]? = some u → w'.cell? ⟨ab, off + j, none⟩ = some u := fun hb j u hu => by
      have := hcell j u hu
      rw [Addr.add_lit, Nat.zero_mul, Nat.add_zero] at this
      exact (hb.cell (p := ⟨ab, off + j, none⟩) hlt).trans this
    repeat (first | refine S_pure tabOk rfl ?_)
    refine S_q (Q_idx (sz := 2) tabOk rfl rfl rfl rfl rfl rfl rfl rfl (j := 0) (by omega)) ?_
    repeat (first | refine S_pure tabOk rfl ?_)
    refine S_load1 tabOk (v := .int .i64 l[k].2) rfl rfl (fun w' hw => hld (hw.below (by repeat (first | exact new_nil | refine newrow hw 0 rfl (Nat.le_refl _) ?_))) 1 _ rfl) ?_
    repeat (first | refine S_nil ?_ | refine S_pure tabOk rfl ?_)
    refine T_cond_dec rfl (fun h4 => ?_) (fun h4 => ?_)
    · repeat (first | refine T_seq ?_ | refine T_region ?_ | refine T_block ?_ | refine pthen_normal ?_ | refine T_skip ?_ | refine S_pure tabOk rfl ?_)
      refine S_q (Q_idx (sz := 2) tabOk rfl rfl rfl rfl rfl rfl rfl rfl (j := 0) (by omega)) ?_
      repeat (first | refine S_pure tabOk rfl ?_)
      refine S_load1 tabOk (v := .int .u64 l[k].1) rfl rfl (fun w' hw => hld (hw.below (by repeat (first | exact new_nil | refine newrow hw 0 rfl (Nat.le_refl _) ?_))) 0 _ rfl) ?_
      skip
      refine S_bslice tabOk rfl rfl rfl rfl rfl rfl rfl rfl rfl rfl rfl rfl (fun b23 hb23 => ?_)
      refine S_append (ty := 0) tabOk 1 (news := u64s [l[k].1]) rfl rfl rfl rfl rfl rfl rfl rfl rfl (by decide) (fun w' hw => Sl.of_blk (hw.own _ (getE_mem (i := 0) rfl)) rfl (fun j u hu => by rw [Nat.zero_add]; exact hu)) (fun u hu => by obtain ⟨z, _, rfl⟩ := List.mem_map.1 hu; rfl) (by simp only [maxLen]; omega) (by show (_ + _) * 8 ≤ _; omega) rfl (fun A2 C2 h1 h2 => ⟨_, rfl, ?_⟩)
      have htk : u64s ((l.take k).map (·.1)) ++ u64s [l[k].1] = u64s ((l.take (k + 1)).map (·.1)) := by
        rw [List.take_succ_eq_append_getElem hkl, List.map_append]
        unfold u64s
        rw [List.map_append]
        rfl
      rw [htk]
      repeat (first | refine S_nil ?_ | refine S_pure tabOk rfl ?_ | refine T_region_any ?_)
      refine S_q (Q_sliceFrom tabOk rfl rfl rfl rfl rfl rfl rfl (L := 1) rfl (by omega) hR2) ?_
      repeat (first | refine S_nil ?_ | refine pthen_normal ?_ | refine inb_normal ?_ | refine S_pure tabOk rfl ?_)
      have hd := hR.drop (k := 1) (by omega)
      rw [List.drop_drop, show n - k - 1 = n - (k + 1) by omega] at hd
      refine ⟨⟨k + 1, _, _, A2, C2⟩, ⟨hkl', fun p hp => ?_, hd⟩, by rw [show n - (k + 1) = n - k - 1 by omega]; repeat (first | exact Sub.nil | refine Sub.cons rfl ?_), fun w' hw => hw.less (by repeat (first | exact Less.nil | refine Less.keep ?_ | refine Less.dropB (by first | assumption | omega) ?_)), by dsimp only; omega⟩
      rw [List.take_succ_eq_append_getElem hkl, List.mem_append, List.mem_singleton] at hp
      rcases hp with hp | rfl
      · exact hle p hp
      · exact h4
    · repeat (first | refine T_seq ?_ | refine T_region ?_ | refine S_nil ?_ | refine pthen_normal ?_ | refine inb_hit ?_ | refine pthen_exit ?_ | refine T_ret ?_ | refine T_exit ?_ | refine S_pure tabOk rfl ?_)
      exact ret2 rfl rfl rfl (fun w' hw => hfin w' (fun p hp => by
        rw [List.getElem?_eq_getElem hkl] at hp
        cases hp
        omega) hw)
  · have e : k = n := by omega
    subst e
    repeat (first | refine S_nil ?_ | refine S_pure tabOk rfl ?_ | refine S_pass rfl rfl rfl ?_)
    refine T_cond_f rfl ?_
    repeat (first | refine T_seq ?_ | refine T_region ?_ | refine S_nil ?_ | refine pthen_normal ?_ | refine inb_hit ?_ | refine pthen_exit ?_ | refine T_ret ?_ | refine T_exit ?_ | refine S_pure tabOk rfl ?_)
    exact ret2 rfl rfl rfl (fun w' hw => hfin w' (fun p hp => by rw [List.getElem?_eq_none (by omega)] at hp; cases hp) hw)
end Go.Proofs.Ytggnhcgmeibihaa
