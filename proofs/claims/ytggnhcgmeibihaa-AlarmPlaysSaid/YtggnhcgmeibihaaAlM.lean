/-
  Alarms: contracts of the document's functions. Conditions: each theorem's own.
-/
import Derived.Test.YtggnhcgmeibihaaAlJ
namespace Go.Proofs.Ytggnhcgmeibihaa
open Go Go.RowKit
set_option linter.unusedVariables false

abbrev Rde : Rep (Int × Int) := Rpair (Rint .u64) (Rint .i64)
def encE (p : Int × Int) : List Value := [.int .u64 p.1, .int .i64 p.2]
def okE (p : Int × Int) : Prop := Fits .u64 p.1 ∧ Fits .i64 p.2
theorem flat_de : Flat Rde encE okE := ⟨fun w A cs x => ⟨by
  rintro ⟨c1, c2, rfl, ⟨rfl, h1⟩, rfl, h2⟩
  exact ⟨rfl, h1, h2⟩, by
  rintro ⟨rfl, h1, h2⟩
  exact ⟨[.int .u64 x.1], [.int .i64 x.2], rfl, ⟨rfl, h1⟩, rfl, h2⟩⟩⟩
def cellsE (l : List DE) : List Value := (l.map encE).flatten
theorem cellsE_snoc (l : List DE) (x : DE) : cellsE l ++ encE x = cellsE (l ++ [x]) := by
  unfold cellsE
  rw [List.map_append, List.flatten_append]
  rfl
theorem cellsE_app (l m : List DE) : cellsE l ++ cellsE m = cellsE (l ++ m) := by
  unfold cellsE
  rw [List.map_append, List.flatten_append]
theorem cellsE_len (l : List DE) : (cellsE l).length = l.length * 2 := by
  induction l with
  | nil => rfl
  | cons p l ih =>
    unfold cellsE at ih ⊢
    rw [List.map_cons, List.flatten_cons, List.length_append, ih]
    simp only [encE, List.length_cons, List.length_nil]
    omega
theorem cellsE_take (l : List DE) (k : Nat) : (cellsE l).take (k * 2) = cellsE (l.take k) := by
  induction l generalizing k with
  | nil => simp [cellsE]
  | cons p l ih =>
    cases k with
    | zero => simp [cellsE]
    | succ k =>
      have h := ih k
      unfold cellsE at h ⊢
      rw [List.take_succ_cons, List.map_cons, List.map_cons, List.flatten_cons, List.flatten_cons, ← h, show (k + 1) * 2 = k * 2 + 1 + 1 by omega]
      rfl
theorem cellsE_drop (l : List DE) (k : Nat) : (cellsE l).drop (k * 2) = cellsE (l.drop k) := by
  induction l generalizing k with
  | nil => simp [cellsE]
  | cons p l ih =>
    cases k with
    | zero => simp [cellsE]
    | succ k =>
      have h := ih k
      unfold cellsE at h ⊢
      rw [List.drop_succ_cons, List.map_cons, List.flatten_cons, ← h, show (k + 1) * 2 = k * 2 + 1 + 1 by omega]
      rfl
theorem de_cells {w : World} {A : Nat → Prop} {b off n c : Nat} {l : List DE} (h : SlR Rde w A (some ⟨b, off, none⟩) n c l) {i : Nat} (hi : i < l.length) : ∀ j u, (encE l[i])[j]? = some u → w.cell? ((⟨b, off + i * 2, none⟩ : Addr).add j) = some u := by
  obtain ⟨cs, _, h2, _, h3, _⟩ := h.at_ hi
  have h4 := ((flat_de.iff _ _ _ _).1 h2).1
  subst h4
  intro j u hu
  rw [Addr.add_lit]
  exact h3 j u hu
theorem de_ok {w : World} {A : Nat → Prop} {a : Option Addr} {n c : Nat} {l : List DE} (h : SlR Rde w A a n c l) {i : Nat} (hi : i < l.length) : okE l[i] := (h.flat flat_de).2 _ (List.getElem_mem hi)
theorem de_row {w w0 : World} {A : Nat → Prop} {e : TypeId} {a : Option Addr} {c : Nat} {L : List DE} (h : w.ownsRow w0.heap.size e 2 (.slice a L.length c) L.length (cellsE L)) (hf : ∀ z ∈ L, okE z) (hA : ∀ k, w0.heap.size ≤ k → A k) : SlR Rde w A a L.length c L :=
  .of_row flat_de h rfl hf fun k hk _ => hA k hk

/-- What the document's Find answers. -/
def FindI (l : List DE) (id k : Int) : Prop := (k = -1 ∧ ∀ p ∈ l, p.1 ≠ id) ∨ ∃ j : Nat, ∃ hj : j < l.length, k = j ∧ l[j].1 = id
set_option maxHeartbeats 1000000 in
theorem rfind_ok {a : Option Addr} {n c : Nat} {l : List DE} (id : Int) {A : Nat → Prop} (w : World) (hx : SlR Rde w A a n c l) : Calls Try.prog 19 #[.slice a n c, .int .u64 id] w fun e w' => ∃ v, e = .returned v ∧ Below w.heap.size w w' ∧ ∃ k, v = .int .i64 k ∧ FindI l id k := by
  have hl := hx.len
  have hmx := hx.max
  have hcp := hx.cap
  simp only [maxLen] at hmx
  refine enter2 Try.func19 rfl rfl (Hp.refl w) ?_
  repeat (first | refine T_seq ?_ | refine T_region ?_ | refine T_block ?_ | refine S_nil ?_ | refine S_pure tabOk rfl ?_)
  refine T_loop (ι := Nat) (fun i => [(1, .int .u64 id), (7, .slice a n c), (8, .int .i64 (n : Int)), (9, .int .i64 (i : Int))])
    (fun i => []) (fun i => i ≤ n ∧ ∀ p ∈ l.take i, p.1 ≠ id) (fun i => n - i) 0 ⟨Nat.zero_le _, by simp⟩ (by repeat (first | exact Sub.nil | refine Sub.cons rfl ?_)) (fun w' hw => hw) ?_
  rintro i ⟨hi, hno⟩
  repeat (first | refine T_seq ?_ | refine T_region ?_ | refine S_nil ?_ | refine S_pure tabOk rfl ?_)
  refine T_cond_dec rfl (fun h => ?_) (fun h => ?_)
  · have hi' : i < l.length := by omega
    obtain ⟨ab, off, cs, rfl, hlt, _⟩ := hx.get_ hi'
    repeat (first | refine T_seq ?_ | refine T_region ?_ | refine T_block ?_ | refine pthen_normal ?_ | refine T_skip ?_ | refine S_pure tabOk rfl ?_)
    refine S_q (Q_idx (sz := 2) tabOk rfl rfl rfl rfl rfl rfl rfl rfl (j := i) (by omega)) ?_
    refine S_loadN tabOk (vs := encE l[i]) rfl rfl rfl (fun w' hw => de_cells (hx.ext (hw.below (by repeat (first | exact new_nil)))) hi') ?_
    refine S_new tabOk rfl (fun b9 hb9 => ?_)
    repeat (first | refine T_seq ?_ | refine T_region ?_ | refine S_nil ?_ | refine S_pure tabOk rfl ?_ | refine S_load tabOk 0 rfl rfl rfl ?_ | refine S_store tabOk 0 rfl rfl rfl rfl rfl rfl ?_)
    refine T_cond_dec rfl (fun h4 => ?_) (fun h4 => ?_)
    · repeat (first | refine T_seq ?_ | refine T_region ?_ | refine S_nil ?_ | refine inb_ret ?_ | refine pthen_ret ?_ | refine T_ret ?_ | refine S_pure tabOk rfl ?_)
      exact ret1 rfl rfl (fun w' hw => ⟨_, rfl, hw.below (by repeat (first | exact new_nil | refine new_cons (by first | assumption | omega) ?_)), _, rfl, .inr ⟨i, hi', rfl, h4⟩⟩)
    · repeat (first | refine T_region ?_ | refine S_nil ?_ | refine pthen_normal ?_ | refine inb_normal ?_ | refine T_skip ?_ | refine S_i64 tabOk rfl (by omega) ?_ | refine S_pure tabOk rfl ?_)
      exact ⟨i + 1, ⟨by omega, fun p hp => by
        rw [List.take_succ_eq_append_getElem hi', List.mem_append, List.mem_singleton] at hp
        rcases hp with hp | rfl
        · exact hno p hp
        · exact h4⟩, by repeat (first | exact Sub.nil | refine Sub.cons rfl ?_), fun w' hw => hw.less (by repeat (first | exact Less.nil | refine Less.dropB (by first | assumption | omega) ?_)), by omega⟩
  · have e : i = n := by omega
    subst e
    rw [List.take_of_length_le (by omega)] at hno
    repeat (first | refine T_seq ?_ | refine T_region ?_ | refine S_nil ?_ | refine pthen_normal ?_ | refine inb_hit ?_ | refine pthen_exit ?_ | refine T_ret ?_ | refine T_exit ?_ | refine S_pure tabOk rfl ?_)
    exact ret1 rfl rfl (fun w' hw => ⟨_, rfl, hw.below (by repeat (first | exact new_nil)), _, rfl, .inl ⟨rfl, hno⟩⟩)
theorem dClear_take {l : List DE} {i : Nat} (h : i < l.length) (id : Int) : dClear (l.take (i + 1)) id = if l[i].1 = id then dClear (l.take i) id else dClear (l.take i) id ++ [l[i]] := by
  unfold dClear
  rw [List.take_succ_eq_append_getElem h, List.filter_append]
  by_cases e : l[i].1 = id
  · rw [if_pos e, List.filter_cons_of_neg (by simpa using e)]
    simp
  · rw [if_neg e, List.filter_cons_of_pos (by simpa using e)]
    rfl
set_option maxHeartbeats 1000000 in
theorem rclear_ok {a : Option Addr} {n c : Nat} {l : List DE} (id : Int) {A : Nat → Prop} (w : World) (hx : SlR Rde w A a n c l) (hn : n ≤ 1000000) : Calls Try.prog 20 #[.slice a n c, .int .u64 id] w fun e w' => ∃ a' c', e = .returned (.slice a' (dClear l id).length c') ∧ Below w.heap.size w w' ∧ w'.ownsRow w.heap.size 48 2 (.slice a' (dClear l id).length c') (dClear l id).length (cellsE (dClear l id)) := by
  have hl := hx.len
  have hmx := hx.max
  have hcp := hx.cap
  simp only [maxLen] at hmx
  refine enter2 Try.func20 rfl rfl (Hp.refl w) ?_
  repeat (first | refine T_seq ?_ | refine T_region ?_ | refine T_block ?_ | refine S_nil ?_ | refine S_pure tabOk rfl ?_)
  refine T_loop (ι := Nat × List DE × Option Addr × Nat) (fun i => [(1, .int .u64 id), (5, .slice i.2.2.1 i.2.1.length i.2.2.2), (8, .slice a n c), (9, .int .i64 (n : Int)), (10, .int .i64 (i.1 : Int))])
    (fun i => [.row w.heap.size (.slice i.2.2.1 i.2.1.length i.2.2.2) 48 2 i.2.1.length (cellsE i.2.1)]) (fun i => i.1 ≤ n ∧ i.2.1 = dClear (l.take i.1) id) (fun i => n - i.1) (0, [], none, 0) ⟨Nat.zero_le _, rfl⟩ (by repeat (first | exact Sub.nil | refine Sub.cons rfl ?_)) (fun w' hw => hw.nilRow _ _) ?_
  rintro ⟨i, out, a1, c1⟩ ⟨hi, ho⟩
  dsimp only at hi ho ⊢
  have hol : out.length ≤ n := by
    rw [ho]
    refine Nat.le_trans (dClear_len _ _) ?_
    rw [List.length_take]
    omega
  repeat (first | refine T_seq ?_ | refine T_region ?_ | refine S_nil ?_ | refine S_pure tabOk rfl ?_)
  refine T_cond_dec rfl (fun h => ?_) (fun h => ?_)
  · have hi' : i < l.length := by omega
    obtain ⟨ab, off, cs, rfl, hlt, _⟩ := hx.get_ hi'
    repeat (first | refine T_seq ?_ | refine T_region ?_ | refine T_block ?_ | refine pthen_normal ?_ | refine T_skip ?_)
    refine S_q (Q_idx (sz := 2) tabOk rfl rfl rfl rfl rfl rfl rfl rfl (j := i) (by omega)) ?_
    refine S_loadN tabOk (vs := encE l[i]) rfl rfl rfl (fun w' hw => de_cells (hx.ext (hw.below (by repeat (first | exact new_nil | refine newrow hw 0 rfl (Nat.le_refl _) ?_)))) hi') ?_
    refine S_new tabOk rfl (fun b9 hb9 => ?_)
    repeat (first | refine T_seq ?_ | refine T_region ?_ | refine S_nil ?_ | refine S_pure tabOk rfl ?_ | refine S_load tabOk 0 rfl rfl rfl ?_ | refine S_store tabOk 0 rfl rfl rfl rfl rfl rfl ?_)
    refine T_cond_dec rfl (fun h4 => ?_) (fun h4 => ?_)
    · repeat (first | refine S_pure tabOk rfl ?_ | refine T_region_any ?_ | refine S_load tabOk 0 rfl rfl rfl ?_)
      refine S_bslice tabOk rfl rfl rfl rfl rfl rfl rfl rfl rfl rfl rfl rfl (fun b8 hb8 => ?_)
      refine S_append (ty := 0) tabOk 2 (news := encE l[i]) rfl rfl rfl rfl rfl rfl rfl rfl rfl (by decide) (fun w' hw => Sl.of_blk (hw.own _ (getE_mem (i := 0) rfl)) rfl (fun j u hu => by rw [Nat.zero_add]; exact hu)) (by intro u hu; simp only [encE, List.mem_cons, List.not_mem_nil, or_false] at hu; rcases hu with rfl | rfl <;> rfl) (by simp only [maxLen]; omega) (by show (_ + _) * 16 ≤ _; omega) rfl (fun A' c' h1 h2 => ⟨_, rfl, ?_⟩)
      rw [cellsE_snoc, show out.length + 1 = (out ++ [l[i]]).length by simp]
      repeat (first | refine T_region ?_ | refine S_nil ?_ | refine pthen_normal ?_ | refine inb_normal ?_ | refine S_i64 tabOk rfl (by omega) ?_ | refine S_pure tabOk rfl ?_)
      exact ⟨(i + 1, out ++ [l[i]], A', c'), ⟨by dsimp only; omega, by
        dsimp only
        rw [dClear_take hi', if_neg h4, ho]⟩, by repeat (first | exact Sub.nil | refine Sub.cons rfl ?_), fun w' hw => hw.less (by repeat (first | exact Less.nil | refine Less.keep ?_ | refine Less.dropB (by first | assumption | omega) ?_)), by dsimp only; omega⟩
    · repeat (first | refine T_region ?_ | refine S_nil ?_ | refine pthen_normal ?_ | refine inb_normal ?_ | refine T_skip ?_ | refine S_i64 tabOk rfl (by omega) ?_ | refine S_pure tabOk rfl ?_)
      exact ⟨(i + 1, out, a1, c1), ⟨by dsimp only; omega, by
        dsimp only
        rw [dClear_take hi', if_pos (Decidable.not_not.1 h4), ho]⟩, by repeat (first | exact Sub.nil | refine Sub.cons rfl ?_), fun w' hw => hw.less (by repeat (first | exact Less.nil | refine Less.keep ?_ | refine Less.dropB (by first | assumption | omega) ?_)), by dsimp only; omega⟩
  · have e : i = n := by omega
    subst e
    rw [List.take_of_length_le (by omega)] at ho
    subst ho
    repeat (first | refine T_seq ?_ | refine T_region ?_ | refine S_nil ?_ | refine pthen_normal ?_ | refine inb_hit ?_ | refine pthen_exit ?_ | refine T_ret ?_ | refine T_exit ?_ | refine S_pure tabOk rfl ?_)
    exact ret1 rfl rfl (fun w' hw => ⟨_, _, rfl, hw.below (by repeat (first | exact new_nil | refine newrow hw 0 rfl (Nat.le_refl _) ?_)), hw.own _ (getE_mem (i := 0) rfl)⟩)
end Go.Proofs.Ytggnhcgmeibihaa
