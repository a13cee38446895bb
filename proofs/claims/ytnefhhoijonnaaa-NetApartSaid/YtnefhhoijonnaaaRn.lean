/-
  Runs: contracts of few, own, Clone, Equal, Same. Conditions: each theorem's own. Runs: contracts of Equal and Same, of Runs. Conditions: each theorem's own. Runs: contracts of Search and find. Conditions: each theorem's own. Runs: contracts of Grow and Concat. Conditions: each theorem's own. Runs: the mathematics of runs of numbers. No program; conditions: each theorem's own. Runs: contracts of Span, Add. Conditions: each theorem's own. Runs: contracts of Add, Of, set, Has, Gap, Make. Conditions: each theorem's own. Runs: contracts of Of, Has, Gap, Make. Conditions: each theorem's own. Runs: sets told by who is in them; contracts in these words. Conditions: each theorem's own. Runs: contracts of without and of all that is made of it. Conditions: each theorem's own. Runs: contracts of Less, Union, Below, From. Conditions: each theorem's own. Runs: how many are in a set; small things. Cond
  Conditions: each theorem's own.
-/
import Derived.Test.YtnefhhoijonnaaaSp
namespace Go.Proofs.Ytnefhhoijonnaaa
open Go Go.RowKit
set_option linter.unusedVariables false


/-! ### Runs as data -/
abbrev Rrun : Rep (Int × Int) := Rpair (Rint .u64) (Rint .u64)
abbrev Rset : Rep (List (Int × Int)) := Rone (Rslice Rrun)
def encR (p : Int × Int) : List Value := [.int .u64 p.1, .int .u64 p.2]
def okR (p : Int × Int) : Prop := Fits .u64 p.1 ∧ Fits .u64 p.2
theorem flat_run : Flat Rrun encR okR := ⟨fun w A cs x => ⟨by
  rintro ⟨c1, c2, rfl, ⟨rfl, h1⟩, rfl, h2⟩
  exact ⟨rfl, h1, h2⟩, by
  rintro ⟨rfl, h1, h2⟩
  exact ⟨[.int .u64 x.1], [.int .u64 x.2], rfl, ⟨rfl, h1⟩, rfl, h2⟩⟩⟩
abbrev cellsR (l : List (Int × Int)) : List Value := (l.map encR).flatten
theorem cellsR_len (l : List (Int × Int)) : (cellsR l).length = l.length * 2 := by
  have : ∀ c ∈ l.map encR, c.length = 2 := fun c hc => by
    obtain ⟨p, _, rfl⟩ := List.mem_map.1 hc
    rfl
  rw [flat_len this, List.length_map]
theorem cellsR_one (l : List (Int × Int)) : ∀ u ∈ cellsR l, u.oneCell' = true := by
  intro u hu
  obtain ⟨c, hc, hu⟩ := List.mem_flatten.1 hu
  obtain ⟨p, _, rfl⟩ := List.mem_map.1 hc
  simp only [encR, List.mem_cons, List.not_mem_nil, or_false] at hu
  rcases hu with rfl | rfl <;> rfl
theorem cellsR_append (l m : List (Int × Int)) : cellsR (l ++ m) = cellsR l ++ cellsR m := by
  simp [cellsR]
section
variable {w : World} {A : Nat → Prop} {a : Option Addr} {b off n c : Nat} {l : List (Int × Int)}
theorem run_ok (h : SlR Rrun w A a n c l) {i : Nat} (hi : i < l.length) : okR l[i] := (h.flat flat_run).2 _ (List.getElem_mem hi)
theorem run_cells (h : SlR Rrun w A (some ⟨b, off, none⟩) n c l) {i : Nat} (hi : i < l.length) : ∀ j u, (encR l[i])[j]? = some u → w.cell? ((⟨b, off + i * 2, none⟩ : Addr).add j) = some u := by
  obtain ⟨cs, _, h2, _, h3, _⟩ := h.at_ hi
  have h4 := ((flat_run.iff _ _ _ _).1 h2).1
  subst h4
  intro j u hu
  rw [Addr.add_lit]
  exact h3 j u hu
theorem run_from (h : SlR Rrun w A (some ⟨b, off, none⟩) n c l) {i : Nat} (hi : i < l.length) : w.cell? ⟨b, off + i * 2, none⟩ = some (.int .u64 l[i].1) := by
  have := run_cells h hi 0 _ rfl
  simpa [Addr.add_lit] using this
theorem run_to (h : SlR Rrun w A (some ⟨b, off, none⟩) n c l) {i : Nat} (hi : i < l.length) : w.cell? ⟨b, off + i * 2 + 1, none⟩ = some (.int .u64 l[i].2) := by
  have := run_cells h hi 1 _ rfl
  simpa [Addr.add_lit] using this
theorem slr_row {base : Nat} {e : TypeId} (h : w.ownsRow base e 2 (.slice a l.length c) l.length (cellsR l)) (hok : ∀ p ∈ l, okR p) (hA : ∀ k, base ≤ k → A k) : SlR Rrun w A a l.length c l :=
  .of_row flat_run h rfl hok fun k hk _ => hA k hk
end
/-! ### few, own -/
/-! ### Clone -/
theorem clone_ok_Rn (a : Option Addr) (n c : Nat) (l : List (Int × Int)) (A : Nat → Prop) (w : World) (h : SlR Rrun w A a n c l) (hn : n ≤ 1000000) :
    Calls Try.prog 119 #[.slice a n c] w fun e w' => ∃ a c, e = .returned (.slice a n c) ∧ Below w.heap.size w w' ∧ w'.ownsRow w.heap.size 102 2 (.slice a n c) n (cellsR l) := by
  refine enter1 Try.func119 rfl rfl (Hp.refl w) ?_
  repeat (first | refine T_seq ?_ | refine T_region ?_ | refine S_nil ?_ | refine S_pure tabOk rfl ?_)
  refine S_q (Q_eqnil tabOk rfl rfl rfl rfl rfl) ?_
  cases a with
  | none =>
    have h0 := (h.nil rfl).1
    subst h0
    have hl0 : l = [] := List.eq_nil_of_length_eq_zero h.len
    subst hl0
    repeat (first | refine T_seq ?_ | refine T_region ?_ | refine S_nil ?_ | refine pthen_ret ?_ | refine T_ret ?_ | refine T_cond_t rfl ?_ | refine S_pure tabOk rfl ?_)
    exact ret1 rfl rfl (fun w' hw => ⟨none, 0, rfl, hw.below new_nil, World.ownsRow_nil w' _ _ _⟩)
  | some ad =>
    repeat (first | refine T_seq ?_ | refine T_region ?_ | refine S_nil ?_ | refine pthen_normal ?_ | refine T_skip ?_ | refine T_cond_f rfl ?_)
    refine S_bslice tabOk rfl rfl rfl rfl rfl rfl rfl rfl rfl rfl rfl rfl (fun b2 hb2 => ?_)
    repeat (first | refine S_pure tabOk rfl ?_)
    refine S_heap (ol' := [.row w.heap.size (.slice (some ⟨b2, 0, none⟩) 0 0) 102 2 0 []]) (fun w' h => Hp.closeRow (pre := []) (n := 0) (c := 0) h hb2 (by decide) (by decide) rfl) ?_
    refine S_append (ty := 0) tabOk 0 rfl rfl rfl rfl rfl rfl rfl rfl rfl (by decide) (fun w' hw => ((h.ext (hw.below (newrow hw 0 rfl (Nat.le_refl _) new_nil))).flat flat_run).1) (cellsR_one l) (by simp only [maxLen]; omega) (by show (_ + _) * 16 ≤ _; omega) rfl (fun A' c' h1 h2 => ⟨_, rfl, ?_⟩)
    repeat (first | refine S_nil ?_ | refine T_ret ?_ | refine S_pure tabOk rfl ?_)
    rw [List.nil_append, Nat.zero_add]
    exact ret1 rfl rfl (fun w' hw => ⟨A', c', rfl, hw.below (newrow hw 0 rfl (Nat.le_refl _) new_nil), hw.own _ (getE_mem (i := 0) rfl)⟩)

theorem take_ext {α : Type} {l m : List α} {k : Nat} (h : l.take k = m.take k) (hl : k < l.length) (hm : k < m.length) (he : l[k] = m[k]) : l.take (k + 1) = m.take (k + 1) := by
  rw [List.take_succ_eq_append_getElem hl, List.take_succ_eq_append_getElem hm, h, he]
theorem take_ne {α : Type} {l m : List α} {k : Nat} (hl : k < l.length) (hm : k < m.length) (he : ¬ l[k] = m[k]) : ¬ l = m := by
  rintro rfl
  exact he rfl
theorem equalr_ok (a a' : Option Addr) (n c n' c' : Nat) (l m : List (Int × Int)) (A B : Nat → Prop) (w : World) (hx : SlR Rrun w A a n c l) (hy : SlR Rrun w B a' n' c' m) :
    Calls Try.prog 52 #[.slice a n c, .slice a' n' c'] w fun e w' => e = .returned (.bool (decide (l = m))) ∧ Below w.heap.size w w' := by
  have hl := hx.len
  have hl' := hy.len
  have hmx := hx.max
  have hcx := hx.cap
  simp only [maxLen] at hmx
  refine enter2 Try.func52 rfl rfl (Hp.refl w) ?_
  repeat (first | refine T_seq ?_ | refine T_region ?_ | refine S_nil ?_ | refine S_pure tabOk rfl ?_)
  refine T_cond_dec rfl (fun h => ?_) (fun h => ?_)
  · repeat (first | refine T_seq ?_ | refine T_region ?_ | refine S_nil ?_ | refine pthen_ret ?_ | refine T_ret ?_ | refine S_pure tabOk rfl ?_)
    exact ret1 rfl rfl (fun w' hw => ⟨retb (decide_eq_false fun e => h (by rw [← hl, ← hl', e])).symm, hw.below new_nil⟩)
  have hnn : n = n' := by omega
  subst hnn
  repeat (first | refine T_seq ?_ | refine T_region ?_ | refine T_block ?_ | refine S_nil ?_ | refine pthen_normal ?_ | refine T_skip ?_ | refine S_pure tabOk rfl ?_)
  refine T_loop (ι := Nat) (fun i => [(0, .slice a n c), (1, .slice a' n c'), (12, .int .i64 (n : Int)), (13, .int .i64 (i : Int))])
    (fun i => []) (fun i => i ≤ n ∧ l.take i = m.take i) (fun i => n - i) 0 ⟨Nat.zero_le _, rfl⟩ (by repeat (first | exact Sub.nil | refine Sub.cons rfl ?_)) (fun _ hw => hw) ?_
  rintro k ⟨hk, hkt⟩
  try dsimp only at hk ⊢
  repeat (first | refine T_seq ?_ | refine T_region ?_ | refine S_nil ?_ | refine S_pure tabOk rfl ?_)
  refine T_cond_dec rfl (fun h => ?_) (fun h => ?_)
  · have hk1 : k < l.length := by omega
    have hk2 : k < m.length := by omega
    obtain ⟨b, off, cs, rfl, hlt, _⟩ := hx.get_ hk1
    obtain ⟨b2, off2, cs2, rfl, hlt2, _⟩ := hy.get_ hk2
    repeat (first | refine T_draw (by kernel_rfl) (by kernel_rfl) ?_ | refine D_pure tabOk rfl ?_ | refine T_seq ?_ | refine T_region ?_ | refine T_block ?_ | refine S_nil ?_ | refine pthen_normal ?_ | refine T_skip ?_ | refine S_pure tabOk rfl ?_)
    refine D_q (Q_idx (sz := 2) tabOk rfl rfl rfl rfl rfl rfl rfl rfl (j := k) (by omega)) ?_
    refine D_loadN tabOk (vs := encR l[k]) rfl rfl rfl (fun w' hw => run_cells (hx.ext (hw.below new_nil)) hk1) ?_
    repeat (first | refine D_pure tabOk rfl ?_)
    refine D_q (Q_idx (sz := 2) tabOk rfl rfl rfl rfl rfl rfl rfl rfl (j := k) (by omega)) ?_
    refine D_loadN tabOk (vs := encR m[k]) rfl rfl rfl (fun w' hw => run_cells (hy.ext (hw.below new_nil)) hk2) ?_
    refine D_q (Q_neq2 tabOk rfl rfl rfl rfl rfl rfl rfl rfl rfl rfl rfl (by decide) (by decide) (by kernel_rfl) (by kernel_rfl)) ?_
    repeat (first | refine D_all rfl ?_)
    refine T_cond_ndec rfl (fun h1 => ?_) (fun h1 => ?_)
    · repeat (first | refine T_seq ?_ | refine T_region ?_ | refine S_nil ?_ | refine inb_ret ?_ | refine pthen_ret ?_ | refine T_ret ?_ | refine S_pure tabOk rfl ?_)
      exact ret1 rfl rfl (fun w' hw => ⟨retb (decide_eq_false (take_ne hk1 hk2 fun e => h1 (by rw [e]; exact ⟨rfl, rfl⟩))).symm, hw.below new_nil⟩)
    · repeat (first | refine T_region ?_ | refine S_nil ?_ | refine pthen_normal ?_ | refine inb_normal ?_ | refine T_skip ?_ | refine S_i64 tabOk rfl (by omega) ?_ | refine S_pure tabOk rfl ?_)
      exact ⟨k + 1, ⟨by omega, take_ext hkt hk1 hk2 (Prod.ext h1.1 h1.2)⟩, by repeat (first | exact Sub.nil | refine Sub.cons rfl ?_), fun _ h => h, by omega⟩
  · repeat (first | refine T_seq ?_ | refine T_region ?_ | refine S_nil ?_ | refine pthen_normal ?_ | refine inb_hit ?_ | refine pthen_exit ?_ | refine T_ret ?_ | refine T_exit ?_ | refine S_pure tabOk rfl ?_)
    have e : k = n := by omega
    subst e
    rw [List.take_of_length_le (by omega), List.take_of_length_le (by omega)] at hkt
    exact ret1 rfl rfl (fun w' hw => ⟨retb (decide_eq_true hkt).symm, hw.below new_nil⟩)
theorem rsame_ok (a a' : Option Addr) (n c n' c' : Nat) (l m : List (Int × Int)) (A B : Nat → Prop) (w : World) (hx : SlR Rrun w A a n c l) (hy : SlR Rrun w B a' n' c' m) :
    Calls Try.prog 47 #[.slice a n c, .slice a' n' c'] w fun e w' => e = .returned (.bool (decide (l = m))) ∧ Below w.heap.size w w' := by
  have hl := hx.len
  have hl' := hy.len
  have hmx := hx.max
  have hcx := hx.cap
  simp only [maxLen] at hmx
  refine enter2 Try.func47 rfl rfl (Hp.refl w) ?_
  repeat (first | refine T_seq ?_ | refine T_region ?_ | refine S_nil ?_ | refine S_pure tabOk rfl ?_)
  refine T_cond_dec rfl (fun h => ?_) (fun h => ?_)
  · repeat (first | refine T_seq ?_ | refine T_region ?_ | refine S_nil ?_ | refine pthen_ret ?_ | refine T_ret ?_ | refine S_pure tabOk rfl ?_)
    exact ret1 rfl rfl (fun w' hw => ⟨retb (decide_eq_false fun e => h (by rw [← hl, ← hl', e])).symm, hw.below new_nil⟩)
  have hnn : n = n' := by omega
  subst hnn
  repeat (first | refine T_seq ?_ | refine T_region ?_ | refine T_block ?_ | refine S_nil ?_ | refine pthen_normal ?_ | refine T_skip ?_ | refine S_pure tabOk rfl ?_)
  refine T_loop (ι := Nat) (fun i => [(0, .slice a n c), (1, .slice a' n c'), (12, .int .i64 (n : Int)), (13, .int .i64 (i : Int))])
    (fun i => []) (fun i => i ≤ n ∧ l.take i = m.take i) (fun i => n - i) 0 ⟨Nat.zero_le _, rfl⟩ (by repeat (first | exact Sub.nil | refine Sub.cons rfl ?_)) (fun _ hw => hw) ?_
  rintro k ⟨hk, hkt⟩
  try dsimp only at hk ⊢
  repeat (first | refine T_seq ?_ | refine T_region ?_ | refine S_nil ?_ | refine S_pure tabOk rfl ?_)
  refine T_cond_dec rfl (fun h => ?_) (fun h => ?_)
  · have hk1 : k < l.length := by omega
    have hk2 : k < m.length := by omega
    obtain ⟨b, off, cs, rfl, hlt, _⟩ := hx.get_ hk1
    obtain ⟨b2, off2, cs2, rfl, hlt2, _⟩ := hy.get_ hk2
    repeat (first | refine T_draw (by kernel_rfl) (by kernel_rfl) ?_ | refine D_pure tabOk rfl ?_ | refine T_seq ?_ | refine T_region ?_ | refine T_block ?_ | refine S_nil ?_ | refine pthen_normal ?_ | refine T_skip ?_ | refine S_pure tabOk rfl ?_)
    refine D_q (Q_idx (sz := 2) tabOk rfl rfl rfl rfl rfl rfl rfl rfl (j := k) (by omega)) ?_
    refine D_loadN tabOk (vs := encR l[k]) rfl rfl rfl (fun w' hw => run_cells (hx.ext (hw.below new_nil)) hk1) ?_
    repeat (first | refine D_pure tabOk rfl ?_)
    refine D_q (Q_idx (sz := 2) tabOk rfl rfl rfl rfl rfl rfl rfl rfl (j := k) (by omega)) ?_
    refine D_loadN tabOk (vs := encR m[k]) rfl rfl rfl (fun w' hw => run_cells (hy.ext (hw.below new_nil)) hk2) ?_
    refine D_q (Q_neq2 tabOk rfl rfl rfl rfl rfl rfl rfl rfl rfl rfl rfl (by decide) (by decide) (by kernel_rfl) (by kernel_rfl)) ?_
    repeat (first | refine D_all rfl ?_)
    refine T_cond_ndec rfl (fun h1 => ?_) (fun h1 => ?_)
    · repeat (first | refine T_seq ?_ | refine T_region ?_ | refine S_nil ?_ | refine inb_ret ?_ | refine pthen_ret ?_ | refine T_ret ?_ | refine S_pure tabOk rfl ?_)
      exact ret1 rfl rfl (fun w' hw => ⟨retb (decide_eq_false (take_ne hk1 hk2 fun e => h1 (by rw [e]; exact ⟨rfl, rfl⟩))).symm, hw.below new_nil⟩)
    · repeat (first | refine T_region ?_ | refine S_nil ?_ | refine pthen_normal ?_ | refine inb_normal ?_ | refine T_skip ?_ | refine S_i64 tabOk rfl (by omega) ?_ | refine S_pure tabOk rfl ?_)
      exact ⟨k + 1, ⟨by omega, take_ext hkt hk1 hk2 (Prod.ext h1.1 h1.2)⟩, by repeat (first | exact Sub.nil | refine Sub.cons rfl ?_), fun _ h => h, by omega⟩
  · repeat (first | refine T_seq ?_ | refine T_region ?_ | refine S_nil ?_ | refine pthen_normal ?_ | refine inb_hit ?_ | refine pthen_exit ?_ | refine T_ret ?_ | refine T_exit ?_ | refine S_pure tabOk rfl ?_)
    have e : k = n := by omega
    subst e
    rw [List.take_of_length_le (by omega), List.take_of_length_le (by omega)] at hkt
    exact ret1 rfl rfl (fun w' hw => ⟨retb (decide_eq_true hkt).symm, hw.below new_nil⟩)
/-! ### Sets -/
abbrev setV (a : Option Addr) (n c : Nat) : Value := .agg #[.slice a n c]
theorem runs_ok (a : Option Addr) (n c : Nat) (l : List (Int × Int)) (A : Nat → Prop) (w : World) (h : SlR Rrun w A a n c l) (hn : n ≤ 1000000) :
    Calls Try.prog 111 #[setV a n c] w fun e w' => ∃ a c, e = .returned (.slice a n c) ∧ Below w.heap.size w w' ∧ w'.ownsRow w.heap.size 102 2 (.slice a n c) n (cellsR l) := by
  refine enter1 Try.func111 rfl rfl (Hp.refl w) ?_
  repeat (first | refine T_seq ?_ | refine T_region ?_)
  refine S_new tabOk rfl (fun b hb => ?_)
  repeat (first | refine T_seq ?_ | refine T_region ?_ | refine S_nil ?_ | refine S_pure tabOk rfl ?_ | refine S_load tabOk 0 rfl rfl rfl ?_)
  refine S_callrow rfl Try.call119 (fun w1 h1 => clone_ok_Rn a n c l A w1 (h.ext (h1.below (new_cons hb new_nil))) hn) (fun a1 c1 hc1 hd1 => ?_)
  repeat (first | refine S_nil ?_ | refine T_ret ?_ | refine S_pure tabOk rfl ?_)
  exact ret1 rfl rfl (fun w' hw => ⟨a1, c1, rfl, hw.below (newrow hw 0 rfl (Nat.le_refl _) (new_cons hb new_nil)), hw.own _ (getE_mem (i := 0) rfl)⟩)

/-- The first run that ends at x or behind it. -/
structure Thr (l : List (Int × Int)) (x : Int) (i : Nat) : Prop where
  le : i ≤ l.length
  iff : ∀ j (hj : j < l.length), x ≤ l[j].2 ↔ i ≤ j

structure Rq where
  a : Option Addr
  n : Nat
  c : Nat
  l : List (Int × Int)
def Rq.v (p : Rq) : Value := .slice p.a p.n p.c
def catR (ps : List Rq) : List (Int × Int) := (ps.map (·.l)).flatten
theorem catR_snoc (ps : List Rq) (k : Nat) (h : k < ps.length) : catR (ps.take (k + 1)) = catR (ps.take k) ++ ps[k].l := by
  unfold catR
  rw [List.take_succ_eq_append_getElem h, List.map_append, List.flatten_append]
  simp
theorem catR_take_le (ps : List Rq) (k : Nat) : (catR (ps.take k)).length ≤ (catR ps).length := by
  have : catR ps = catR (ps.take k) ++ catR (ps.drop k) := by
    unfold catR
    rw [← List.flatten_append, ← List.map_append, List.take_append_drop]
  rw [this, List.length_append]
  omega

abbrev Run := Int × Int
def Mem (l : List Run) (x : Int) : Prop := ∃ r ∈ l, r.1 ≤ x ∧ x ≤ r.2
structure Can (l : List Run) : Prop where
  le : ∀ r ∈ l, r.1 ≤ r.2
  gap : l.Pairwise (fun r s => r.2 + 1 < s.1)
def okL (l : List Run) : Prop := ∀ r ∈ l, okR r
theorem mem_nil (x : Int) : ¬ Mem [] x := by rintro ⟨r, hr, _⟩; cases hr
theorem mem_cons (r : Run) (l : List Run) (x : Int) : Mem (r :: l) x ↔ (r.1 ≤ x ∧ x ≤ r.2) ∨ Mem l x := by
  constructor
  · rintro ⟨s, hs, h⟩
    rcases List.mem_cons.1 hs with rfl | hs
    · exact .inl h
    · exact .inr ⟨s, hs, h⟩
  · rintro (h | ⟨s, hs, h⟩)
    · exact ⟨r, by simp, h⟩
    · exact ⟨s, List.mem_cons_of_mem _ hs, h⟩
theorem mem_append (l m : List Run) (x : Int) : Mem (l ++ m) x ↔ Mem l x ∨ Mem m x := by
  induction l with
  | nil => simp [mem_nil]
  | cons r l ih => rw [List.cons_append, mem_cons, mem_cons, ih, or_assoc]
theorem mem_one (r : Run) (x : Int) : Mem [r] x ↔ r.1 ≤ x ∧ x ≤ r.2 := by
  rw [mem_cons]
  exact ⟨fun h => h.resolve_right (mem_nil x), .inl⟩
theorem can_nil : Can [] := ⟨fun r h => (by cases h), List.Pairwise.nil⟩
theorem can_cons {r : Run} {l : List Run} : Can (r :: l) ↔ r.1 ≤ r.2 ∧ (∀ s ∈ l, r.2 + 1 < s.1) ∧ Can l := by
  constructor
  · rintro ⟨h1, h2⟩
    rw [List.pairwise_cons] at h2
    exact ⟨h1 r (by simp), h2.1, fun s hs => h1 s (List.mem_cons_of_mem _ hs), h2.2⟩
  · rintro ⟨h1, h2, h3⟩
    refine ⟨fun s hs => ?_, List.pairwise_cons.2 ⟨h2, h3.gap⟩⟩
    rcases List.mem_cons.1 hs with rfl | hs
    · exact h1
    · exact h3.le s hs
theorem can_append {l m : List Run} : Can (l ++ m) ↔ Can l ∧ Can m ∧ ∀ r ∈ l, ∀ s ∈ m, r.2 + 1 < s.1 := by
  constructor
  · rintro ⟨h1, h2⟩
    rw [List.pairwise_append] at h2
    exact ⟨⟨fun r hr => h1 r (List.mem_append.2 (.inl hr)), h2.1⟩, ⟨fun r hr => h1 r (List.mem_append.2 (.inr hr)), h2.2.1⟩, h2.2.2⟩
  · rintro ⟨h1, h2, h3⟩
    refine ⟨fun r hr => ?_, List.pairwise_append.2 ⟨h1.gap, h2.gap, h3⟩⟩
    rcases List.mem_append.1 hr with hr | hr
    · exact h1.le r hr
    · exact h2.le r hr
theorem can_head_le {r : Run} {l : List Run} (h : Can (r :: l)) {x : Int} (hx : Mem (r :: l) x) : r.1 ≤ x := by
  rw [mem_cons] at hx
  rcases hx with h1 | ⟨s, hs, h1⟩
  · exact h1.1
  · have := (can_cons.1 h).2.1 s hs
    have := (can_cons.1 h).1
    omega
/-- As few runs asx there can be are told by who is in them. -/
theorem can_ext : ∀ {l m : List Run}, Can l → Can m → (∀ x, Mem l x ↔ Mem m x) → l = m
  | [], [], _, _, _ => rfl
  | [], s :: m, _, hm, h => by
    have := (h s.1).2 ⟨s, by simp, Int.le_refl _, (can_cons.1 hm).1⟩
    exact absurd this (mem_nil _)
  | r :: l, [], hl, _, h => by
    have := (h r.1).1 ⟨r, by simp, Int.le_refl _, (can_cons.1 hl).1⟩
    exact absurd this (mem_nil _)
  | r :: l, s :: m, hl, hm, h => by
    obtain ⟨l1, l2, l3⟩ := can_cons.1 hl
    obtain ⟨m1, m2, m3⟩ := can_cons.1 hm
    have a1 : s.1 ≤ r.1 := can_head_le hm ((h r.1).1 ⟨r, by simp, Int.le_refl _, l1⟩)
    have a2 : r.1 ≤ s.1 := can_head_le hl ((h s.1).2 ⟨s, by simp, Int.le_refl _, m1⟩)
    have b1 : ¬ r.2 < s.2 := fun hlt => by
      have h1 : Mem (r :: l) (r.2 + 1) := (h _).2 ⟨s, by simp, by omega, by omega⟩
      rw [mem_cons] at h1
      rcases h1 with h1 | ⟨q, hq, h1⟩
      · omega
      · have := l2 q hq; omega
    have b2 : ¬ s.2 < r.2 := fun hlt => by
      have h1 : Mem (s :: m) (s.2 + 1) := (h _).1 ⟨r, by simp, by omega, by omega⟩
      rw [mem_cons] at h1
      rcases h1 with h1 | ⟨q, hq, h1⟩
      · omega
      · have := m2 q hq; omega
    have e : r = s := Prod.ext (by omega) (by omega)
    subst e
    have htail : ∀ x, Mem l x ↔ Mem m x := by
      intro x
      have hx := h x
      rw [mem_cons, mem_cons] at hx
      constructor
      · intro h1
        rcases hx.1 (.inr h1) with h2 | h2
        · obtain ⟨q, hq, h3⟩ := h1
          have := l2 q hq; omega
        · exact h2
      · intro h1
        rcases hx.2 (.inr h1) with h2 | h2
        · obtain ⟨q, hq, h3⟩ := h1
          have := m2 q hq; omega
        · exact h2
    rw [can_ext l3 m3 htail]
theorem can_lt {l : List Run} (h : Can l) {i j : Nat} (hij : i < j) (hj : j < l.length) : (l[i]'(by omega)).2 + 1 < l[j].1 :=
  List.pairwise_iff_getElem.1 h.gap i j (by omega) hj hij
theorem can_le {l : List Run} (h : Can l) {i : Nat} (hi : i < l.length) : l[i].1 ≤ l[i].2 := h.le _ (List.getElem_mem hi)
theorem mem_at {l : List Run} {x : Int} : Mem l x ↔ ∃ (i : Nat) (hi : i < l.length), l[i].1 ≤ x ∧ x ≤ l[i].2 := by
  constructor
  · rintro ⟨r, hr, h⟩
    obtain ⟨i, hi, rfl⟩ := List.getElem_of_mem hr
    exact ⟨i, hi, h⟩
  · rintro ⟨i, hi, h⟩
    exact ⟨_, List.getElem_mem hi, h⟩
theorem thr_exists {l : List Run} (h : Can l) (x : Int) : ∃ i, Thr l x i := by
  have key : ∀ k, k ≤ l.length → (∃ i, Thr l x i) ∨ ∀ j (hj : j < l.length), j < k → l[j].2 < x := by
    intro k
    induction k with
    | zero => exact fun _ => .inr fun j hj hjk => by omega
    | succ k ih =>
      intro hk
      rcases ih (by omega) with h1 | h1
      · exact .inl h1
      · by_cases h2 : x ≤ (l[k]'(by omega)).2
        · refine .inl ⟨k, by omega, fun j hj => ⟨fun h3 => ?_, fun h3 => ?_⟩⟩
          · rcases Nat.lt_or_ge j k with h4 | h4
            · have := h1 j hj h4; omega
            · exact h4
          · rcases Nat.lt_or_ge k j with h4 | h4
            · have := can_lt h h4 hj
              have := can_le h hj
              omega
            · have : j = k := by omega
              subst this
              exact h2
        · refine .inr fun j hj hjk => ?_
          by_cases h4 : j = k
          · subst h4; omega
          · exact h1 j hj (by omega)
  rcases key l.length (Nat.le_refl _) with h1 | h1
  · exact h1
  · exact ⟨l.length, Nat.le_refl _, fun j hj => ⟨fun h2 => by have := h1 j hj hj; omega, fun h2 => by omega⟩⟩
/-! ### A run more -/
structure SpI (l : List Run) (f t : Int) (i k : Nat) (a b : Int) : Prop where
  ik : i ≤ k
  kn : k ≤ l.length
  af : a ≤ f
  tb : t ≤ b
  a' : a = f ∨ ∃ (j : Nat) (hj : j < l.length), i ≤ j ∧ a = l[j].1
  b' : b = t ∨ ∃ (j : Nat) (hj : j < l.length), i ≤ j ∧ b = l[j].2
  mem : ∀ x, (a ≤ x ∧ x ≤ b) ↔ (f ≤ x ∧ x ≤ t) ∨ ∃ (j : Nat) (hj : j < l.length), i ≤ j ∧ j < k ∧ l[j].1 ≤ x ∧ x ≤ l[j].2
theorem spi_start {l : List Run} {f t : Int} {i : Nat} (hi : i ≤ l.length) : SpI l f t i i f t :=
  ⟨Nat.le_refl _, hi, Int.le_refl _, Int.le_refl _, .inl rfl, .inl rfl, fun x => ⟨.inl, fun h => by
    rcases h with h | ⟨j, hj, h1, h2, _⟩
    · exact h
    · omega⟩⟩
theorem spi_step {l : List Run} {f t : Int} {i k : Nat} {a b : Int} (hc : Can l) (hok : okL l) (h : SpI l f t i k a b) (hft : f ≤ t) (hf : 0 ≤ f) (ht : Thr l (f - min f 1) i) (hk : k < l.length) (hle : l[k].1 - min l[k].1 1 ≤ b) : SpI l f t i (k + 1) (min a l[k].1) (max b l[k].2) := by
  have h1 := h.ik
  have h2 := h.af
  have h3 := h.tb
  have h4 := (ht.iff k hk).2 h1
  have h5 := can_le hc hk
  have h6 := (fits_u64 (hok _ (List.getElem_mem hk)).1)
  refine ⟨by omega, by omega, by omega, by omega, ?_, ?_, fun x => ?_⟩
  · rcases Int.le_total a l[k].1 with e | e
    · rw [Int.min_eq_left e]; exact h.a'
    · rw [Int.min_eq_right e]; exact .inr ⟨k, hk, h1, rfl⟩
  · rcases Int.le_total b l[k].2 with e | e
    · rw [Int.max_eq_right e]; exact .inr ⟨k, hk, h1, rfl⟩
    · rw [Int.max_eq_left e]; exact h.b'
  · have hm := h.mem x
    constructor
    · intro hx
      by_cases h7 : a ≤ x ∧ x ≤ b
      · rcases hm.1 h7 with h8 | ⟨j, hj, g1, g2, g3⟩
        · exact .inl h8
        · exact .inr ⟨j, hj, g1, by omega, g3⟩
      · exact .inr ⟨k, hk, h1, by omega, by omega, by omega⟩
    · rintro (h8 | ⟨j, hj, g1, g2, g3, g4⟩)
      · have := hm.2 (.inl h8); omega
      · by_cases e : j = k
        · subst e; omega
        · have := hm.2 (.inr ⟨j, hj, g1, by omega, g3, g4⟩); omega
theorem spi_end {l : List Run} {f t : Int} {i k : Nat} {a b : Int} (hc : Can l) (hok : okL l) (h : SpI l f t i k a b) (hft : f ≤ t) (hf : 0 ≤ f) (ht : Thr l (f - min f 1) i) (hend : ∀ hk : k < l.length, b < l[k].1 - min l[k].1 1) (hf' : Fits .u64 f) (ht' : Fits .u64 t) :
    Can (l.take i ++ ([(a, b)] ++ l.drop k)) ∧ okL (l.take i ++ ([(a, b)] ++ l.drop k)) ∧ (∀ x, Mem (l.take i ++ ([(a, b)] ++ l.drop k)) x ↔ Mem l x ∨ (f ≤ x ∧ x ≤ t)) ∧ (l.take i ++ ([(a, b)] ++ l.drop k)).length ≤ l.length + 1 := by
  have h1 := h.ik
  have h2 := h.af
  have h3 := h.tb
  have hkn := h.kn
  have hleft : ∀ (j : Nat) (hj : j < l.length), j < i → l[j].2 + 1 < a := by
    intro j hj hji
    have h5 : ¬ (f - min f 1 ≤ l[j].2) := fun hh => by have := (ht.iff j hj).1 hh; omega
    have h6 := (fits_u64 (hok _ (List.getElem_mem hj)).2)
    rcases h.a' with e | ⟨j', hj', g1, e⟩
    · omega
    · have := can_lt hc (show j < j' by omega) hj'; omega
  have hright : ∀ (j : Nat) (hj : j < l.length), k ≤ j → b + 1 < l[j].1 := by
    intro j hj hkj
    have h5 := hend (by omega)
    have h6 := (fits_u64 (hok _ (List.getElem_mem (show k < l.length by omega))).1)
    by_cases e : j = k
    · subst e; omega
    · have := can_lt hc (show k < j by omega) hj
      have := can_le hc (show k < l.length by omega)
      omega
  have hct : Can (l.take i) := ⟨fun r hr => hc.le r (List.mem_of_mem_take hr), hc.gap.sublist (List.take_sublist _ _)⟩
  have hcd : Can (l.drop k) := ⟨fun r hr => hc.le r (List.mem_of_mem_drop hr), hc.gap.sublist (List.drop_sublist _ _)⟩
  refine ⟨can_append.2 ⟨hct, can_append.2 ⟨can_cons.2 ⟨by show a ≤ b; omega, fun s hs => (by cases hs), can_nil⟩, hcd, fun r hr s hs => ?_⟩, fun r hr s hs => ?_⟩, fun r hr => ?_, fun x => ?_, ?_⟩
  · rw [List.mem_singleton] at hr
    subst hr
    obtain ⟨j, hj, rfl⟩ := List.getElem_of_mem hs
    rw [List.getElem_drop]
    rw [List.length_drop] at hj
    exact hright (k + j) (by omega) (by omega)
  · obtain ⟨j, hj, rfl⟩ := List.getElem_of_mem hr
    rw [List.getElem_take]
    rw [List.length_take] at hj
    rcases List.mem_append.1 hs with hs | hs
    · rw [List.mem_singleton] at hs
      subst hs
      exact hleft j (by omega) (by omega)
    · obtain ⟨j', hj', rfl⟩ := List.getElem_of_mem hs
      rw [List.getElem_drop]
      rw [List.length_drop] at hj'
      exact can_lt hc (by omega) (by omega)
  · rcases List.mem_append.1 hr with hr | hr
    · exact hok r (List.mem_of_mem_take hr)
    · rcases List.mem_append.1 hr with hr | hr
      · rw [List.mem_singleton] at hr
        subst hr
        refine ⟨?_, ?_⟩
        · show Fits .u64 a
          rcases h.a' with e | ⟨j, hj, _, e⟩
          · rw [e]; exact hf'
          · rw [e]; exact (hok _ (List.getElem_mem hj)).1
        · show Fits .u64 b
          rcases h.b' with e | ⟨j, hj, _, e⟩
          · rw [e]; exact ht'
          · rw [e]; exact (hok _ (List.getElem_mem hj)).2
      · exact hok r (List.mem_of_mem_drop hr)
  · rw [mem_append, mem_append, mem_one]
    have hm := h.mem x
    constructor
    · rintro (⟨r, hr, g⟩ | g | ⟨r, hr, g⟩)
      · exact .inl ⟨r, List.mem_of_mem_take hr, g⟩
      · rcases hm.1 g with g1 | ⟨j, hj, _, _, g1⟩
        · exact .inr g1
        · exact .inl ⟨_, List.getElem_mem hj, g1⟩
      · exact .inl ⟨r, List.mem_of_mem_drop hr, g⟩
    · rintro (g | g)
      · obtain ⟨j, hj, g1⟩ := mem_at.1 g
        rcases Nat.lt_or_ge j i with g2 | g2
        · exact .inl (mem_at.2 ⟨j, by rw [List.length_take]; omega, by rw [List.getElem_take]; exact g1⟩)
        · rcases Nat.lt_or_ge j k with g3 | g3
          · exact .inr (.inl (hm.2 (.inr ⟨j, hj, g2, g3, g1⟩)))
          · refine .inr (.inr (mem_at.2 ⟨j - k, by rw [List.length_drop]; omega, ?_⟩))
            rw [List.getElem_drop]
            have e : k + (j - k) = j := by omega
            simp only [e]
            exact g1
      · exact .inr (.inl (hm.2 (.inl g)))
  · simp only [List.length_append, List.length_take, List.length_drop, List.length_cons, List.length_nil]
    omega

theorem slr_okL {w : World} {A : Nat → Prop} {a : Option Addr} {n c : Nat} {l : List Run} (h : SlR Rrun w A a n c l) : okL l := (h.flat flat_run).2
theorem set_val {w : World} {A : Nat → Prop} {a : Option Addr} {n c : Nat} {l : List Run} (h : SlR Rrun w A a n c l) : Rset.val w A (setV a n c) l := ⟨_, rfl, a, n, c, rfl, h⟩
theorem set_form {w : World} {A : Nat → Prop} {v : Value} {l : List Run} (h : Rset.val w A v l) : ∃ a n c, v = setV a n c ∧ SlR Rrun w A a n c l := by
  obtain ⟨cs, rfl, a, n, c, rfl, h⟩ := h
  exact ⟨a, n, c, rfl, h⟩
theorem set_of {w : World} {A : Nat → Prop} {a : Option Addr} {n c : Nat} {l : List Run} (h : Rset.val w A (setV a n c) l) : SlR Rrun w A a n c l := by
  obtain ⟨a', n', c', e, h⟩ := set_form h
  cases e
  exact h
structure SpanOf (l : List Run) (f t : Int) (m : List Run) : Prop where
  can : Can m
  mem : ∀ x, Mem m x ↔ Mem l x ∨ (f ≤ x ∧ x ≤ t)
  len : m.length ≤ l.length + 1

/-- A set of runs that lie asx they like. -/
structure SetOf (l m : List Run) : Prop where
  can : Can m
  mem : ∀ x, Mem m x ↔ Mem l x
  len : m.length ≤ l.length
theorem setOf_nil : SetOf [] [] := ⟨can_nil, fun x => Iff.rfl, Nat.le_refl _⟩
theorem mem_take_succ {l : List Run} {k : Nat} (hk : k < l.length) (x : Int) : Mem (l.take (k + 1)) x ↔ Mem (l.take k) x ∨ (l[k].1 ≤ x ∧ x ≤ l[k].2) := by
  rw [List.take_succ_eq_append_getElem hk, mem_append, mem_one]
theorem setOf_step {l m m' : List Run} {k : Nat} (hk : k < l.length) (h : SetOf (l.take k) m) (h' : SpanOf m l[k].1 l[k].2 m') : SetOf (l.take (k + 1)) m' :=
  ⟨h'.can, fun x => by rw [h'.mem, h.mem, mem_take_succ hk], by
    have := h.len
    have := h'.len
    rw [List.length_take] at *
    omega⟩

structure OfN (l : List Int) (m : List Run) : Prop where
  can : Can m
  mem : ∀ x, Mem m x ↔ x ∈ l
  len : m.length ≤ l.length
theorem ofn_step {l : List Int} {m m' : List Run} {k : Nat} (hk : k < l.length) (h : OfN (l.take k) m) (h' : SpanOf m l[k] l[k] m') : OfN (l.take (k + 1)) m' :=
  ⟨h'.can, fun x => by
    rw [h'.mem, h.mem, List.take_succ_eq_append_getElem hk, List.mem_append, List.mem_singleton]
    exact ⟨fun h => h.imp id fun h => by omega, fun h => h.imp id fun h => by omega⟩, by
    have := h.len
    have := h'.len
    rw [List.length_take] at *
    omega⟩
theorem thr_mem {l : List Run} {x : Int} {i : Nat} (hc : Can l) (hi : Thr l x i) : Mem l x ↔ ∃ h : i < l.length, l[i].1 ≤ x := by
  rw [mem_at]
  constructor
  · rintro ⟨j, hj, h1, h2⟩
    have h3 := (hi.iff j hj).1 h2
    refine ⟨by omega, ?_⟩
    rcases Nat.lt_or_ge i j with h4 | h4
    · have := can_lt hc h4 hj
      have := can_le hc (show i < l.length by omega)
      omega
    · have : i = j := by omega
      subst this
      exact h1
  · rintro ⟨h, h1⟩
    exact ⟨i, h, h1, (hi.iff i h).2 (Nat.le_refl _)⟩
abbrev lastN : Int := 18446744073709551615
def GapOf (l : List Run) (x g : Int) (q : Bool) : Prop :=
  (¬ Mem l x ∧ g = x ∧ q = true) ∨ ∃ r ∈ l, r.1 ≤ x ∧ x ≤ r.2 ∧ ((r.2 = lastN ∧ g = 0 ∧ q = false) ∨ (r.2 < lastN ∧ g = r.2 + 1 ∧ q = true))

theorem Vtup2_fst {p q : Vp} {w : World} {A : Nat → Prop} {a b : Value} (h : (Vtup2 p q).at_ w A (.tuple #[a, b])) : p.at_ w A a := by
  obtain ⟨a', b', e, h1, h2⟩ := h
  cases e
  exact h1
theorem ow_bb {w0 w w' : World} {A : Nat → Prop} {ol : OL} {R : Rep (List Run)} {v : Value} {m : List Run} (h : R.val w' (fun k => w.heap.size ≤ k) v m) (hh : Hp w0 w ol) : (R.vp m).at_ w' (BB w0 A ol) v :=
  Vp.mono (R.vp m) h fun k hk => BB_new hh hk
/-- A set's value: who is in it, and at most so many runs. -/
def setP (S : Int → Prop) (B : Nat) : Vp :=
  ⟨fun w A v => ∃ m, Can m ∧ (∀ x, Mem m x ↔ S x) ∧ m.length ≤ B ∧ Rset.val w A v m, fun ⟨m, h1, h2, h3, h4⟩ hk => ⟨m, h1, h2, h3, Rep.val_keep _ h4 hk⟩⟩
/-- A slice of runs that are asx few asx there can be. -/
def sliP (S : Int → Prop) (B : Nat) : Vp :=
  ⟨fun w A v => ∃ m, Can m ∧ (∀ x, Mem m x ↔ S x) ∧ m.length ≤ B ∧ (Rslice Rrun).val w A v m, fun ⟨m, h1, h2, h3, h4⟩ hk => ⟨m, h1, h2, h3, Rep.val_keep _ h4 hk⟩⟩
section
variable {S T : Int → Prop} {B C : Nat} {w : World} {A : Nat → Prop} {v u : Value}
theorem setP_form (h : (setP S B).at_ w A v) : ∃ a n c m, v = setV a n c ∧ Can m ∧ (∀ x, Mem m x ↔ S x) ∧ m.length ≤ B ∧ SlR Rrun w A a n c m := by
  obtain ⟨m, h1, h2, h3, h4⟩ := h
  obtain ⟨a, n, c, rfl, h5⟩ := set_form h4
  exact ⟨a, n, c, m, rfl, h1, h2, h3, h5⟩
theorem setP_val (h : (setP S B).at_ w A v) : ∃ a n c, v = setV a n c := by
  obtain ⟨a, n, c, _, e, _⟩ := setP_form h
  exact ⟨a, n, c, e⟩
theorem sliP_form (h : (sliP S B).at_ w A v) : ∃ a n c m, v = .slice a n c ∧ Can m ∧ (∀ x, Mem m x ↔ S x) ∧ m.length ≤ B ∧ SlR Rrun w A a n c m := by
  obtain ⟨m, h1, h2, h3, h4⟩ := h
  obtain ⟨a, n, c, rfl, h5⟩ := SlR.form h4
  exact ⟨a, n, c, m, rfl, h1, h2, h3, h5⟩
theorem sliP_val (h : (sliP S B).at_ w A v) : ∃ a n c, v = .slice a n c := by
  obtain ⟨a, n, c, _, e, _⟩ := sliP_form h
  exact ⟨a, n, c, e⟩
theorem setP_mk {a : Option Addr} {n c : Nat} {m : List Run} (h1 : Can m) (h2 : ∀ x, Mem m x ↔ S x) (h3 : m.length ≤ B) (h4 : SlR Rrun w A a n c m) : (setP S B).at_ w A (setV a n c) := ⟨m, h1, h2, h3, set_val h4⟩
theorem setP_of {m : List Run} (h1 : Can m) (h2 : ∀ x, Mem m x ↔ S x) (h3 : m.length ≤ B) (h4 : Rset.val w A v m) : (setP S B).at_ w A v := ⟨m, h1, h2, h3, h4⟩
theorem sliP_mk {a : Option Addr} {n c : Nat} {m : List Run} (h1 : Can m) (h2 : ∀ x, Mem m x ↔ S x) (h3 : m.length ≤ B) (h4 : SlR Rrun w A a n c m) : (sliP S B).at_ w A (.slice a n c) := ⟨m, h1, h2, h3, h4.val⟩
theorem setP_nil : (setP (fun _ => False) 0).at_ w A (setV none 0 0) := setP_mk can_nil (fun x => ⟨fun h => mem_nil x h, fun h => h.elim⟩) (Nat.zero_le _) SlR.nil_
theorem can_eq {l m : List Run} (h1 : Can l) (h2 : Can m) (hS : ∀ x, Mem l x ↔ S x) (hT : ∀ x, Mem m x ↔ T x) : l = m ↔ ∀ x, S x ↔ T x :=
  ⟨fun e x => by rw [← hS, ← hT, e], fun h => can_ext h1 h2 fun x => by rw [hS, hT, h]⟩
end
section
variable {S T : Int → Prop} {B C : Nat} {v u : Value} {A D : Nat → Prop}
/-- The least from x on that isn't in S. -/
def GapS (S : Int → Prop) (x g : Int) (q : Bool) : Prop :=
  (q = true → x ≤ g ∧ g ≤ lastN ∧ ¬ S g ∧ ∀ y, x ≤ y → y < g → S y) ∧ (q = false → g = 0 ∧ ∀ y, x ≤ y → y ≤ lastN → S y)
theorem gapOf_S {m : List Run} {x g : Int} {q : Bool} (hc : Can m) (hx : x ≤ lastN) (h2 : ∀ x, Mem m x ↔ S x) (h : GapOf m x g q) : GapS S x g q := by
  rcases h with ⟨h1, rfl, rfl⟩ | ⟨r, hr, h1, h3, h4⟩
  · exact ⟨fun _ => ⟨Int.le_refl _, hx, fun h => h1 ((h2 _).2 h), fun y e1 e2 => by omega⟩, fun h => by cases h⟩
  · rcases h4 with ⟨h4, rfl, rfl⟩ | ⟨h4, rfl, rfl⟩
    · exact ⟨fun h => (by cases h), fun _ => ⟨rfl, fun y e1 e2 => (h2 y).1 ⟨r, hr, by omega, by omega⟩⟩⟩
    · refine ⟨fun _ => ⟨by omega, by omega, fun hs => ?_, fun y e1 e2 => (h2 y).1 ⟨r, hr, by omega, by omega⟩⟩, fun h => by cases h⟩
      obtain ⟨s, hsm, g1, g2⟩ := (h2 _).2 hs
      obtain ⟨i, hi, rfl⟩ := List.getElem_of_mem hr
      obtain ⟨j, hj, rfl⟩ := List.getElem_of_mem hsm
      rcases Nat.lt_trichotomy i j with e | e | e
      · have := can_lt hc e hj; omega
      · subst e; omega
      · have := can_lt hc e hi
        have := can_le hc hi
        omega
theorem runs_p (w : World) (h : (setP S B).at_ w A v) (hB : B ≤ 900000) :
    Calls Try.prog 111 #[v] w fun e w' => ∃ r, e = .returned r ∧ Below w.heap.size w w' ∧ (sliP S B).at_ w' (fun k => w.heap.size ≤ k) r := by
  obtain ⟨a, n, c, m, rfl, h1, h2, h3, h4⟩ := setP_form h
  have hl := h4.len
  have hok := slr_okL h4
  subst hl
  exact (runs_ok a _ c m A w h4 (by omega)).mono fun e w' ⟨a', c', e1, e2, e3⟩ => ⟨_, e1, e2, sliP_mk h1 h2 h3 (slr_row e3 hok fun k hk => hk)⟩
theorem rsame_p (w : World) (h : (sliP S B).at_ w A v) (k : (sliP T C).at_ w D u) :
    Calls Try.prog 47 #[v, u] w fun e w' => ∃ v, e = .returned v ∧ Below w.heap.size w w' ∧ ∃ q, v = .bool q ∧ (q = true ↔ ∀ x, S x ↔ T x) := by
  obtain ⟨a, n, c, m, rfl, h1, h2, h3, h4⟩ := sliP_form h
  obtain ⟨a', n', c', m', rfl, k1, k2, k3, k4⟩ := sliP_form k
  exact (rsame_ok a a' n c n' c' m m' A D w h4 k4).mono fun e w' ⟨e1, e2⟩ => ⟨_, e1, e2, _, rfl, by rw [decide_eq_true_iff]; exact can_eq h1 k1 h2 k2⟩
end
theorem nbb {p : Vp} {w0 w w' : World} {A : Nat → Prop} {ol : OL} {v : Value} (hh : Hp w0 w ol) (h : p.at_ w' (fun k => w.heap.size ≤ k) v) : p.at_ w' (BB w0 A ol) v := p.mono h fun k hk => BB_new hh hk

structure WoI (l : List Run) (f t : Int) (k : Nat) (out : List Run) : Prop where
  can : Can out
  ok : okL out
  mem : ∀ y, Mem out y ↔ Mem (l.take k) y ∧ ¬ (f ≤ y ∧ y ≤ t)
  up : ∀ s ∈ out, ∃ (j : Nat) (hj : j < l.length), j < k ∧ s.2 ≤ l[j].2
  len : out.length ≤ k ∨ (out.length ≤ k + 1 ∧ ∀ (j : Nat) (hj : j < l.length), k ≤ j → t < l[j].1)
theorem wo_start {l : List Run} {f t : Int} : WoI l f t 0 [] := ⟨can_nil, fun r h => (by cases h), fun y => by simp [mem_nil], fun s h => (by cases h), .inl (Nat.le_refl _)⟩
section
variable {l out : List Run} {f t : Int} {k : Nat}
theorem wo_gap (hc : Can l) (hk : k < l.length) (h : WoI l f t k out) : ∀ s ∈ out, s.2 + 1 < l[k].1 := fun s hs => by
  obtain ⟨j, hj, hjk, h1⟩ := h.up s hs
  have := can_lt hc hjk hk
  omega
theorem can_snoc1 {p : Run} (h : Can out) (hp : p.1 ≤ p.2) (hg : ∀ s ∈ out, s.2 + 1 < p.1) : Can (out ++ [p]) :=
  can_append.2 ⟨h, can_cons.2 ⟨hp, fun s hs => (by cases hs), can_nil⟩, fun r hr s hs => by
    rw [List.mem_singleton] at hs
    subst hs
    exact hg r hr⟩
theorem ok_snoc {p : Run} (h : okL out) (hp : okR p) : okL (out ++ [p]) := fun r hr => by
  rcases List.mem_append.1 hr with hr | hr
  · exact h r hr
  · rw [List.mem_singleton] at hr
    subst hr
    exact hp
theorem mem_snoc {p : Run} (y : Int) : Mem (out ++ [p]) y ↔ Mem out y ∨ (p.1 ≤ y ∧ y ≤ p.2) := by rw [mem_append, mem_one]
/-- all of the run stays -/
theorem wo_whole (hc : Can l) (hok : okL l) (hk : k < l.length) (h : WoI l f t k out) (ho : l[k].2 < f ∨ t < l[k].1) : WoI l f t (k + 1) (out ++ [l[k]]) := by
  have hle := can_le hc hk
  refine ⟨can_snoc1 h.can hle (wo_gap hc hk h), ok_snoc h.ok (hok _ (List.getElem_mem hk)), fun y => ?_, fun s hs => ?_, ?_⟩
  · rw [mem_snoc, h.mem, mem_take_succ hk]
    constructor
    · rintro (⟨h1, h2⟩ | h1)
      · exact ⟨.inl h1, h2⟩
      · exact ⟨.inr h1, by omega⟩
    · rintro ⟨h1 | h1, h2⟩
      · exact .inl ⟨h1, h2⟩
      · exact .inr h1
  · rcases List.mem_append.1 hs with hs | hs
    · obtain ⟨j, hj, h1, h2⟩ := h.up s hs
      exact ⟨j, hj, by omega, h2⟩
    · rw [List.mem_singleton] at hs
      subst hs
      exact ⟨k, hk, by omega, Int.le_refl _⟩
  · simp only [List.length_append, List.length_cons, List.length_nil]
    rcases h.len with h1 | ⟨h1, h2⟩
    · exact .inl (by omega)
    · exact .inr ⟨by omega, fun j hj hkj => h2 j hj (by omega)⟩
/-- what is left and right of what goes -/
def cutR (r : Run) (f t : Int) : List Run := (if r.1 < f then [(r.1, f - 1)] else []) ++ (if t < r.2 then [(t + 1, r.2)] else [])
theorem wo_cut (hc : Can l) (hok : okL l) (hk : k < l.length) (hft : f ≤ t) (hf : Fits .u64 f) (ht : Fits .u64 t) (h : WoI l f t k out) (ho : ¬ (l[k].2 < f ∨ t < l[k].1)) : WoI l f t (k + 1) (out ++ cutR l[k] f t) := by
  have hle := can_le hc hk
  have hg := wo_gap hc hk h
  have hokk := hok _ (List.getElem_mem hk)
  have u1 := fits_u64 hokk.1
  have u2 := fits_u64 hokk.2
  have hfit : ∀ z : Int, 0 ≤ z → z ≤ 18446744073709551615 → Fits .u64 z := fun z e1 e2 => by simpa [Fits, IntKind.min, IntKind.max, IntKind.signed, IntKind.bits] using And.intro e1 e2
  have hmem : ∀ y, Mem (cutR l[k] f t) y ↔ (l[k].1 ≤ y ∧ y ≤ l[k].2) ∧ ¬ (f ≤ y ∧ y ≤ t) := by
    intro y
    unfold cutR
    rw [mem_append]
    have e1 : Mem (if l[k].1 < f then [(l[k].1, f - 1)] else []) y ↔ l[k].1 < f ∧ l[k].1 ≤ y ∧ y ≤ f - 1 := by
      by_cases h1 : l[k].1 < f
      · rw [if_pos h1, mem_one]
        exact ⟨fun h => ⟨h1, h⟩, fun h => h.2⟩
      · rw [if_neg h1]
        exact ⟨fun h => absurd h (mem_nil y), fun h => absurd h.1 h1⟩
    have e2 : Mem (if t < l[k].2 then [(t + 1, l[k].2)] else []) y ↔ t < l[k].2 ∧ t + 1 ≤ y ∧ y ≤ l[k].2 := by
      by_cases h1 : t < l[k].2
      · rw [if_pos h1, mem_one]
        exact ⟨fun h => ⟨h1, h⟩, fun h => h.2⟩
      · rw [if_neg h1]
        exact ⟨fun h => absurd h (mem_nil y), fun h => absurd h.1 h1⟩
    rw [e1, e2]
    omega
  have hcan : Can (cutR l[k] f t) := by
    unfold cutR
    refine can_append.2 ⟨?_, ?_, fun r hr s hs => ?_⟩
    · split
      · exact can_cons.2 ⟨by show l[k].1 ≤ f - 1; omega, fun s hs => (by cases hs), can_nil⟩
      · exact can_nil
    · split
      · exact can_cons.2 ⟨by show t + 1 ≤ l[k].2; omega, fun s hs => (by cases hs), can_nil⟩
      · exact can_nil
    · split at hr
      · split at hs
        · rw [List.mem_singleton] at hr hs
          subst hr; subst hs
          show f - 1 + 1 < t + 1
          omega
        · cases hs
      · cases hr
  have hsub : ∀ s ∈ cutR l[k] f t, l[k].1 ≤ s.1 ∧ s.2 ≤ l[k].2 ∧ okR s := by
    intro s hs
    unfold cutR at hs
    rcases List.mem_append.1 hs with hs | hs
    · split at hs
      · rw [List.mem_singleton] at hs
        subst hs
        have := fits_u64 hf
        refine ⟨Int.le_refl _, by show f - 1 ≤ l[k].2; omega, hfit _ u1.1 u1.2, hfit _ (by show 0 ≤ f - 1; omega) (by show f - 1 ≤ _; omega)⟩
      · cases hs
    · split at hs
      · rw [List.mem_singleton] at hs
        subst hs
        have := fits_u64 ht
        refine ⟨by show l[k].1 ≤ t + 1; omega, Int.le_refl _, hfit _ (by show 0 ≤ t + 1; omega) (by show t + 1 ≤ _; omega), hfit _ u2.1 u2.2⟩
      · cases hs
  refine ⟨can_append.2 ⟨h.can, hcan, fun r hr s hs => ?_⟩, fun r hr => ?_, fun y => ?_, fun s hs => ?_, ?_⟩
  · have := hg r hr
    have := (hsub s hs).1
    omega
  · rcases List.mem_append.1 hr with hr | hr
    · exact h.ok r hr
    · exact (hsub r hr).2.2
  · rw [mem_append, h.mem, mem_take_succ hk, hmem]
    constructor
    · rintro (⟨h1, h2⟩ | ⟨h1, h2⟩)
      · exact ⟨.inl h1, h2⟩
      · exact ⟨.inr h1, h2⟩
    · rintro ⟨h1 | h1, h2⟩
      · exact .inl ⟨h1, h2⟩
      · exact .inr ⟨h1, h2⟩
  · rcases List.mem_append.1 hs with hs | hs
    · obtain ⟨j, hj, h1, h2⟩ := h.up s hs
      exact ⟨j, hj, by omega, h2⟩
    · exact ⟨k, hk, by omega, (hsub s hs).2.1⟩
  · rw [List.length_append]
    have hlen : (cutR l[k] f t).length ≤ 1 ∨ ((cutR l[k] f t).length ≤ 2 ∧ t < l[k].2) := by
      unfold cutR
      rw [List.length_append]
      by_cases h1 : l[k].1 < f <;> by_cases h2 : t < l[k].2 <;> simp [h1, h2]
    have hnext : t < l[k].2 → ∀ (j : Nat) (hj : j < l.length), k + 1 ≤ j → t < l[j].1 := fun h2 j hj hkj => by
      have := can_lt hc (show k < j by omega) hj
      omega
    rcases h.len with h1 | ⟨h1, h2⟩
    · rcases hlen with h3 | ⟨h3, h4⟩
      · exact .inl (by omega)
      · exact .inr ⟨by omega, hnext h4⟩
    · exact absurd (Or.inr (h2 k hk (Nat.le_refl _))) ho
theorem wo_end (h : WoI l f t l.length out) : out.length ≤ l.length + 1 := by
  rcases h.len with h1 | ⟨h1, _⟩ <;> omega
end
theorem encR_one (p : Run) : ∀ u ∈ encR p, u.oneCell' = true := by
  intro u hu
  exact cellsR_one [p] u (by simpa [cellsR] using hu)
theorem cells_snoc (l : List Run) (p : Run) : cellsR l ++ encR p = cellsR (l ++ [p]) := by rw [cellsR_append]; simp [cellsR]
theorem len_snoc (l : List Run) (p : Run) : l.length + 1 = (l ++ [p]).length := by rw [List.length_append]; rfl

section
variable {S T : Int → Prop} {B C : Nat} {v u : Value} {A D : Nat → Prop}
theorem setP_to {w : World} (hS : ∀ x, S x ↔ T x) (hB : B ≤ C) (h : (setP S B).at_ w A v) : (setP T C).at_ w A v := by
  obtain ⟨m, h1, h2, h3, h4⟩ := h
  exact ⟨m, h1, fun x => by rw [h2, hS], Nat.le_trans h3 hB, h4⟩
theorem sliP_to {w : World} (hS : ∀ x, S x ↔ T x) (hB : B ≤ C) (h : (sliP S B).at_ w A v) : (sliP T C).at_ w A v := by
  obtain ⟨m, h1, h2, h3, h4⟩ := h
  exact ⟨m, h1, fun x => by rw [h2, hS], Nat.le_trans h3 hB, h4⟩
end

theorem can_take {l : List Run} (h : Can l) (k : Nat) : Can (l.take k) := ⟨fun r hr => h.le r (List.mem_of_mem_take hr), h.gap.sublist (List.take_sublist _ _)⟩
theorem can_snoc {l : List Run} {k : Nat} (hk : k < l.length) (h : Can (l.take k)) : Can (l.take (k + 1)) ↔ l[k].1 ≤ l[k].2 ∧ ∀ h0 : 0 < k, (l[k - 1]'(by omega)).2 + 1 < l[k].1 := by
  constructor
  · intro h1
    have hl : (l.take (k + 1)).length = k + 1 := by rw [List.length_take]; omega
    have h2 := can_le h1 (show k < (l.take (k + 1)).length by omega)
    rw [List.getElem_take] at h2
    refine ⟨h2, fun h0 => ?_⟩
    have h3 := can_lt h1 (show k - 1 < k by omega) (show k < (l.take (k + 1)).length by omega)
    rw [List.getElem_take, List.getElem_take] at h3
    exact h3
  · rintro ⟨h1, h2⟩
    rw [List.take_succ_eq_append_getElem hk]
    refine can_append.2 ⟨h, can_cons.2 ⟨h1, fun s hs => (by cases hs), can_nil⟩, fun r hr s hs => ?_⟩
    rw [List.mem_singleton] at hs
    subst hs
    obtain ⟨j, hj, rfl⟩ := List.getElem_of_mem hr
    have hl : (l.take k).length = k := by rw [List.length_take]; omega
    have h3 := h2 (by omega)
    by_cases e : j = k - 1
    · subst e
      rw [List.getElem_take]
      exact h3
    · have h4 := can_lt h (show j < k - 1 by omega) (by omega)
      have h5 := can_le h (show k - 1 < (l.take k).length by omega)
      rw [List.getElem_take] at h4 h5 ⊢
      rw [List.getElem_take] at h4
      omega
theorem can_not {l : List Run} {k : Nat} (hk : k < l.length) (h : ¬ Can (l.take (k + 1))) : ¬ Can l := fun hc => h (can_take hc _)
theorem mem_bd {l : List Run} (h : okL l) {y : Int} (hy : Mem l y) : 0 ≤ y ∧ y ≤ lastN := by
  obtain ⟨r, hr, h1, h2⟩ := hy
  have := fits_u64 (h r hr).1
  have := fits_u64 (h r hr).2
  unfold lastN
  omega
theorem fits_of {x : Int} (h0 : 0 ≤ x) (h1 : x ≤ 18446744073709551615) : Fits .u64 x := by simpa [Fits, IntKind.min, IntKind.max, IntKind.signed, IntKind.bits] using And.intro h0 h1
theorem bool_t {q : Bool} {p : Prop} (h : q = true ↔ p) (hp : p) : q = true := h.2 hp
theorem bool_f {q : Bool} {p : Prop} (h : q = true ↔ p) (hp : ¬ p) : q = false := by
  cases q
  · rfl
  · exact absurd (h.1 rfl) hp
/-! ### How many -/
def tot : List Run → Int
  | [] => 0
  | r :: l => (r.2 - r.1 + 1) + tot l
theorem tot_append (l m : List Run) : tot (l ++ m) = tot l + tot m := by
  induction l with
  | nil => simp [tot]
  | cons r l ih => rw [List.cons_append, tot, tot, ih]; omega
theorem tot_snoc {l : List Run} {k : Nat} (hk : k < l.length) : tot (l.take (k + 1)) = tot (l.take k) + (l[k].2 - l[k].1 + 1) := by
  rw [List.take_succ_eq_append_getElem hk, tot_append]
  simp [tot]
theorem tot_nn {l : List Run} (h : Can l) : 0 ≤ tot l := by
  induction l with
  | nil => exact Int.le_refl _
  | cons r l ih =>
    have := ih (can_cons.1 h).2.2
    have := (can_cons.1 h).1
    rw [tot]
    omega
theorem tot_take_le {l : List Run} (h : Can l) (k : Nat) : tot (l.take k) ≤ tot l := by
  have e : tot l = tot (l.take k) + tot (l.drop k) := by rw [← tot_append, List.take_append_drop]
  have : 0 ≤ tot (l.drop k) := tot_nn ⟨fun r hr => h.le r (List.mem_of_mem_drop hr), h.gap.sublist (List.drop_sublist _ _)⟩
  omega
def CountS (S : Int → Prop) (c : Int) : Prop := ∃ m, Can m ∧ (∀ x, Mem m x ↔ S x) ∧ c = min (tot m) lastN
theorem countS_eq {S : Int → Prop} {c d : Int} (h : CountS S c) (k : CountS S d) : c = d := by
  obtain ⟨m, h1, h2, rfl⟩ := h
  obtain ⟨m', k1, k2, rfl⟩ := k
  rw [can_ext h1 k1 fun x => by rw [h2, k2]]
/-! ### Sums -/
open Classical in
noncomputable def card (P : Int → Prop) : Nat → Int
  | 0 => 0
  | N + 1 => card P N + (if P (N : Int) then 1 else 0)
theorem card_or {P Q : Int → Prop} (h : ∀ x, P x → ¬ Q x) : ∀ N, card (fun x => P x ∨ Q x) N = card P N + card Q N
  | 0 => rfl
  | N + 1 => by
    have ih := card_or h N
    unfold card
    by_cases h1 : P (N : Int)
    · have h2 := h _ h1
      simp only [h1, h2, true_or, if_true, if_false]
      omega
    · by_cases h2 : Q (N : Int)
      · simp only [h1, h2, or_true, if_true, if_false]
        omega
      · simp only [h1, h2, or_self, if_false]
        omega
theorem card_iv {a b : Int} (ha : 0 ≤ a) : ∀ N : Nat, card (fun x => a ≤ x ∧ x ≤ b) N = max 0 (min b ((N : Int) - 1) - a + 1)
  | 0 => by
    show (0 : Int) = _
    omega
  | N + 1 => by
    have ih := card_iv (b := b) ha N
    unfold card
    by_cases h1 : a ≤ (N : Int) ∧ (N : Int) ≤ b
    · rw [if_pos h1]
      omega
    · rw [if_neg h1]
      omega
theorem card_congr {P Q : Int → Prop} (h : ∀ x, P x ↔ Q x) (N : Nat) : card P N = card Q N := by
  have : P = Q := funext fun x => propext (h x)
  rw [this]
theorem card_none : ∀ N, card (fun _ => False) N = 0
  | 0 => rfl
  | N + 1 => by unfold card; rw [card_none N]; simp
theorem tot_card {m : List Run} (hc : Can m) (hb : ∀ r ∈ m, 0 ≤ r.1 ∧ r.2 < 18446744073709551616) : tot m = card (Mem m) 18446744073709551616 := by
  induction m with
  | nil =>
    rw [card_congr (Q := fun _ => False) (fun x => ⟨fun h => mem_nil x h, fun h => h.elim⟩), card_none]
    rfl
  | cons r l ih =>
    obtain ⟨h1, h2, h3⟩ := can_cons.1 hc
    rw [card_congr (Q := fun x => (r.1 ≤ x ∧ x ≤ r.2) ∨ Mem l x) (mem_cons r l), card_or (fun x hx ⟨s, hs, hs2⟩ => by have := h2 s hs; omega), card_iv (hb r (by simp)).1, ← ih h3 fun s hs => hb s (List.mem_cons_of_mem _ hs)]
    have := (hb r (by simp)).2
    rw [tot]
    omega
theorem okL_bd {m : List Run} (h : okL m) : ∀ r ∈ m, 0 ≤ r.1 ∧ r.2 < 18446744073709551616 := fun r hr => by
  have := fits_u64 (h r hr).1
  have := fits_u64 (h r hr).2
  omega
/-- Runs within bounds that are asx few asx there can be have ends within them. -/
theorem mem_okb {m : List Run} (hc : Can m) (h : ∀ x, Mem m x → 0 ≤ x ∧ x ≤ lastN) : ∀ r ∈ m, 0 ≤ r.1 ∧ r.2 < 18446744073709551616 := fun r hr => by
  have h1 := hc.le r hr
  have h2 := h r.1 ⟨r, hr, Int.le_refl _, h1⟩
  have h3 := h r.2 ⟨r, hr, h1, Int.le_refl _⟩
  unfold lastN at h2 h3
  omega
theorem countS_add {S T U : Int → Prop} {a b c : Int} (hbd : ∀ x, S x → 0 ≤ x ∧ x ≤ lastN) (h1 : CountS S c) (h2 : CountS T a) (h3 : CountS U b) (hS : ∀ x, S x ↔ T x ∨ U x) (hd : ∀ x, T x → ¬ U x) :
    0 ≤ a ∧ a ≤ lastN ∧ 0 ≤ b ∧ b ≤ lastN ∧ (a + b ≤ lastN → c = a + b) := by
  obtain ⟨m, c1, e1, rfl⟩ := h1
  obtain ⟨p, c2, e2, rfl⟩ := h2
  obtain ⟨q, c3, e3, rfl⟩ := h3
  have t1 := tot_card c1 (mem_okb c1 fun x h => hbd x ((e1 x).1 h))
  have t2 := tot_card c2 (mem_okb c2 fun x h => hbd x ((hS x).2 (.inl ((e2 x).1 h))))
  have t3 := tot_card c3 (mem_okb c3 fun x h => hbd x ((hS x).2 (.inr ((e3 x).1 h))))
  rw [card_congr (Q := fun x => Mem p x ∨ Mem q x) (fun x => by rw [e1, e2, e3, hS]), card_or (fun x h h' => hd x ((e2 x).1 h) ((e3 x).1 h')), ← t2, ← t3] at t1
  have n2 := tot_nn c2
  have n3 := tot_nn c3
  unfold lastN
  omega
theorem T_openRow_Rn {P : Program} {n : Nat} {w0 : World} {l : FL} {ol : OL} {Q : Post} {code : Code} {a : Option Addr} {m c base sz : Nat} {e : TypeId} {xs : List Value} (hm : 0 < m)
    (k : ∀ b junk, a = some ⟨b, 0, none⟩ → base ≤ b → m ≤ c → xs.length = m * sz → (xs ++ junk).length = c * sz → c ≤ maxLen → T P n w0 code l (.blk b (.cells ⟨xs ++ junk⟩ e (0, 0)) true :: ol) Q) : T P n w0 code l (.row base (.slice a m c) e sz m xs :: ol) Q :=
  ⟨fun ac w hf hh => by
    obtain ⟨b, junk, ha, hb, h1, h2, h3, h4, h5⟩ := Hp.openRow (pre := []) hh hm
    exact (k b junk ha hb h1 h2 h3 h4).out ac w hf h5⟩
theorem setMany_ex : ∀ (vs cs : List Value) (off : Nat), off + vs.length ≤ cs.length → ∃ r, setMany cs off vs = some r ∧ r.length = cs.length
  | [], cs, 0, h => ⟨cs, by cases cs <;> rfl, rfl⟩
  | [], [], k + 1, h => by simp at h
  | [], c :: cs, k + 1, h => by
    obtain ⟨r, h1, h2⟩ := setMany_ex [] cs k (by simp at h ⊢; omega)
    exact ⟨c :: r, by simp only [setMany, h1], by simp [h2]⟩
  | v :: vs, [], off, h => by simp at h
  | v :: vs, c :: cs, 0, h => by
    obtain ⟨r, h1, h2⟩ := setMany_ex vs cs 0 (by simp at h ⊢; omega)
    exact ⟨v :: r, by simp only [setMany, h1], by simp [h2]⟩
  | v :: vs, c :: cs, k + 1, h => by
    obtain ⟨r, h1, h2⟩ := setMany_ex (v :: vs) cs k (by simp at h ⊢; omega)
    exact ⟨c :: r, by simp only [setMany, h1], by simp [h2]⟩

theorem make_ok (a : Option Addr) (n c : Nat) (l : List Run) (A : Nat → Prop) (w : World) (hx : SlR Rrun w A a n c l) (hn : n ≤ 1000000) :
    Calls Try.prog 110 #[.slice a n c] w fun e w' => ∃ v i, e = .returned v ∧ Below w.heap.size w w' ∧ ((i : List Run × Bool).2 = true ↔ Can l) ∧ i.1 = (if i.2 = true then l else []) ∧ (Vtup2 (Rset.vp i.1) (Rbool.vp i.2)).at_ w' (fun k => w.heap.size ≤ k) v := by
  have hl := hx.len
  have hok := slr_okL hx
  refine enter1 Try.func110 rfl rfl (Hp.refl w) ?_
  repeat (first | refine T_seq ?_ | refine T_region ?_)
  refine S_new tabOk rfl (fun b hb => ?_)
  repeat (first | refine T_seq ?_ | refine T_region ?_ | refine T_block ?_ | refine S_nil ?_ | refine S_pure tabOk rfl ?_)
  refine T_loop (ι := Nat) (fun i => [(0, .slice a n c), (2, .pointer (some ⟨b, 0, none⟩)), (6, .slice a n c), (7, .int .i64 (n : Int)), (8, .int .i64 (i : Int))])
    (fun i => [.blk b (.cells ⟨[.slice none 0 0]⟩ 161 (0, 0)) true])
    (fun i => i ≤ n ∧ Can (l.take i)) (fun i => n - i) 0 ⟨Nat.zero_le _, can_nil⟩ (by repeat (first | exact Sub.nil | refine Sub.cons rfl ?_)) (fun w' hw => hw) ?_
  rintro k ⟨hk, hc⟩
  repeat (first | refine T_seq ?_ | refine T_region ?_ | refine S_nil ?_ | refine S_pure tabOk rfl ?_)
  refine T_cond_dec rfl (fun h => ?_) (fun h => ?_)
  · have hk' : k < l.length := by omega
    have hokk := hok _ (List.getElem_mem hk')
    have hu1 := fits_u64 hokk.1
    have hu2 := fits_u64 hokk.2
    obtain ⟨ab, off, cs, rfl, hlt, _⟩ := hx.get_ hk'
    repeat (first | refine T_seq ?_ | refine pthen_normal ?_ | refine T_skip ?_)
    refine T_block ?_
    repeat (first | refine T_seq ?_ | refine T_region ?_ | refine S_pure tabOk rfl ?_)
    refine S_q (Q_idx (sz := 2) tabOk rfl rfl rfl rfl rfl rfl rfl rfl (j := k) (by omega)) ?_
    refine S_loadN tabOk (vs := encR l[k]) rfl rfl rfl (fun w' hw => run_cells (hx.ext (hw.below (by repeat (first | exact new_nil | refine new_cons (by first | assumption | omega) ?_)))) hk') ?_
    refine S_new tabOk rfl (fun b5 hb5 => ?_)
    repeat (first | refine T_seq ?_ | refine S_nil ?_ | refine S_pure tabOk rfl ?_ | refine S_store tabOk 0 rfl rfl rfl rfl rfl rfl ?_)
    refine T_cut (ι := Bool) (fun q => q = true ↔ ¬ Can (l.take (k + 1))) (fun q => [(0, .slice (some ⟨ab, off, none⟩) n c), (2, .pointer (some ⟨b, 0, none⟩)), (6, .slice (some ⟨ab, off, none⟩) n c), (7, .int .i64 (n : Int)), (8, .int .i64 (k : Int)), (38, .bool q)]) (fun _ => [.blk b5 (.cells ⟨encR l[k]⟩ 102 (0, 0)) true, .blk b (.cells ⟨[.slice none 0 0]⟩ 161 (0, 0)) true]) ?_ ?_
    · rw [can_snoc hk' hc]
      repeat (first | refine T_draw (by kernel_rfl) (by kernel_rfl) ?_ | refine D_pure tabOk rfl ?_ | refine D_load tabOk 0 rfl rfl rfl ?_)
      refine D_split rfl rfl (fun h1 => ?_) (fun h1 => ?_)
      · repeat (first | refine D_all rfl ?_ | refine D_pure tabOk rfl ?_ | refine D_pass rfl rfl rfl ?_)
        exact ⟨true, ⟨fun _ h => by omega, fun _ => rfl⟩, by repeat (first | exact Sub.nil | refine Sub.cons rfl ?_), fun _ h => h⟩
      · repeat (first | refine D_pure tabOk rfl ?_)
        refine D_split rfl rfl (fun h2 => ?_) (fun h2 => ?_)
        · repeat (first | refine D_pure tabOk rfl ?_ | refine D_load tabOk 0 rfl rfl rfl ?_)
          refine D_split rfl rfl (fun h3 => ?_) (fun h3 => ?_)
          · repeat (first | refine D_all rfl ?_ | refine D_pure tabOk rfl ?_ | refine D_pass rfl rfl rfl ?_)
            exact ⟨true, ⟨fun _ h => by have := h.2 (by omega); have := fits_u64 (hok _ (List.getElem_mem (show k - 1 < l.length by omega))).2; omega, fun _ => rfl⟩, by repeat (first | exact Sub.nil | refine Sub.cons rfl ?_), fun _ h => h⟩
          · repeat (first | refine D_i64 tabOk rfl (by omega) ?_ | refine D_u64 tabOk rfl (by omega) ?_ | refine D_pure tabOk rfl ?_ | refine D_load tabOk 0 rfl rfl rfl ?_)
            refine D_q (Q_idx (sz := 2) tabOk rfl rfl rfl rfl rfl rfl rfl (j := k - 1) (by omega) (by omega)) ?_
            repeat (first | refine D_pure tabOk rfl ?_)
            refine D_load1 tabOk (v := .int .u64 (l[k - 1]'(by omega)).2) rfl rfl (fun w' hw => run_to (hx.ext (hw.below (by repeat (first | exact new_nil | refine new_cons (by first | assumption | omega) ?_)))) (by omega)) ?_
            repeat (first | refine D_all rfl ?_ | refine D_pure tabOk rfl ?_)
            refine ⟨_, ?_, by repeat (first | exact Sub.nil | refine Sub.cons rfl ?_), fun _ h => h⟩
            rw [decide_eq_true_iff]
            exact ⟨fun h h' => by have := h'.2 (by omega); omega, fun h => Classical.byContradiction fun h' => h ⟨by omega, fun _ => by omega⟩⟩
        · repeat (first | refine D_all rfl ?_ | refine D_pure tabOk rfl ?_ | refine D_pass rfl rfl rfl ?_)
          exact ⟨false, ⟨fun h => (by cases h), fun h => absurd ⟨by omega, fun h0 => by omega⟩ h⟩, by repeat (first | exact Sub.nil | refine Sub.cons rfl ?_), fun _ h => h⟩
    · intro q hq
      skip
      refine T_cond rfl (fun h1 => ?_) (fun h1 => ?_)
      · repeat (first | refine T_seq ?_ | refine T_region ?_ | refine S_nil ?_ | refine inb_ret ?_ | refine pthen_ret ?_ | refine T_ret ?_ | refine S_pure tabOk rfl ?_ | refine S_store tabOk 1 rfl rfl rfl rfl rfl rfl ?_ | refine S_q (Q_build tabOk rfl rfl rfl rfl rfl rfl rfl) ?_)
        refine ret2 rfl (res_cell tabOk 1 rfl rfl rfl rfl) rfl (fun w' hw => ⟨_, ([], false), rfl, hw.below (by repeat (first | exact new_nil | refine new_cons (by first | assumption | omega) ?_)), ⟨fun h => (by cases h), fun h => absurd h (can_not hk' (hq.1 h1))⟩, rfl, _, _, rfl, set_val SlR.nil_, rfl⟩)
      · repeat (first | refine T_region ?_ | refine S_nil ?_ | refine pthen_normal ?_ | refine inb_normal ?_ | refine T_skip ?_ | refine S_i64 tabOk rfl (by omega) ?_ | refine S_pure tabOk rfl ?_)
        exact ⟨k + 1, ⟨by omega, Classical.byContradiction fun h => by rw [h1] at hq; exact absurd (hq.2 h) (by decide)⟩, by repeat (first | exact Sub.nil | refine Sub.cons rfl ?_), fun w' hw => hw.dropn hb5, by omega⟩
  · have e : k = n := by omega
    subst e
    rw [List.take_of_length_le (by omega)] at hc
    repeat (first | refine T_seq ?_ | refine T_region ?_ | refine pthen_normal ?_ | refine inb_hit ?_ | refine pthen_exit ?_ | refine T_exit ?_ | refine S_pure tabOk rfl ?_)
    refine S_callrow rfl Try.call119 (fun w1 h1 => clone_ok_Rn a k c l A w1 (hx.ext (h1.below (by repeat (first | exact new_nil | refine new_cons (by first | assumption | omega) ?_)))) hn) (fun a1 c1 hc1 hd1 => ?_)
    repeat (first | refine S_nil ?_ | refine T_ret ?_ | refine S_pure tabOk rfl ?_ | refine S_store tabOk 1 rfl rfl rfl rfl rfl rfl ?_ | refine S_q (Q_build tabOk rfl rfl rfl rfl rfl rfl rfl) ?_)
    refine ret2 rfl (res_cell tabOk 1 rfl rfl rfl rfl) rfl (fun w' hw => ⟨_, (l, true), rfl, hw.below (by repeat (first | exact new_nil | refine new_cons (by first | assumption | omega) ?_ | refine newrow hw 0 rfl (Nat.le_refl _) ?_)), ⟨fun _ => hc, fun _ => rfl⟩, rfl, _, _, rfl, set_val ?_, rfl⟩)
    subst hl
    exact slr_row (hw.own _ (getE_mem (i := 0) rfl)) hok fun k hk => hk
/-! ### The document's helper -/
def LowOf (l : List Run) (x k : Int) : Prop :=
  (k = -1 ∧ ∀ r ∈ l, r.1 ≤ r.2 → r.2 < x) ∨ ∃ (j : Nat) (hj : j < l.length), k = j ∧ l[j].1 ≤ l[j].2 ∧ x ≤ l[j].2 ∧ ∀ r ∈ l, r.1 ≤ r.2 → x ≤ r.2 → l[j].1 ≤ r.1
theorem low_keep {l : List Run} {x k : Int} {i : Nat} (hi : i < l.length) (h : LowOf (l.take i) x k) (hno : ¬ (l[i].1 ≤ l[i].2 ∧ x ≤ l[i].2 ∧ (k < 0 ∨ ∀ (j : Nat) (hj : j < l.length), k = j → l[i].1 < l[j].1))) : LowOf (l.take (i + 1)) x k := by
  have hmem : ∀ r ∈ l.take (i + 1), r ∈ l.take i ∨ r = l[i] := fun r hr => by
    rw [List.take_succ_eq_append_getElem hi, List.mem_append, List.mem_singleton] at hr
    exact hr
  rcases h with ⟨rfl, h⟩ | ⟨j, hj, rfl, h1, h2, h3⟩
  · refine .inl ⟨rfl, fun r hr hv => ?_⟩
    rcases hmem r hr with hr | rfl
    · exact h r hr hv
    · have : ¬ x ≤ l[i].2 := fun hx => hno ⟨hv, hx, .inl (by omega)⟩
      omega
  · have hj' : j < i := by rw [List.length_take] at hj; omega
    rw [List.getElem_take] at h1 h2
    refine .inr ⟨j, by rw [List.length_take]; omega, rfl, by rw [List.getElem_take]; exact h1, by rw [List.getElem_take]; exact h2, fun r hr hv hx => ?_⟩
    rw [List.getElem_take]
    rcases hmem r hr with hr | rfl
    · have := h3 r hr hv hx
      rw [List.getElem_take] at this
      exact this
    · have : ¬ (l[i].1 < l[j].1) := fun hlt => hno ⟨hv, hx, .inr fun j' hj' e => (by obtain rfl : j = j' := (by omega); exact hlt)⟩
      omega
theorem low_take {l : List Run} {x k : Int} {i : Nat} (hi : i < l.length) (h : LowOf (l.take i) x k) (h1 : l[i].1 ≤ l[i].2) (h2 : x ≤ l[i].2) (h3 : k < 0 ∨ ∀ (j : Nat) (hj : j < l.length), k = j → l[i].1 < l[j].1) : LowOf (l.take (i + 1)) x i := by
  refine .inr ⟨i, by rw [List.length_take]; omega, rfl, by rw [List.getElem_take]; exact h1, by rw [List.getElem_take]; exact h2, fun r hr hv hx => ?_⟩
  rw [List.getElem_take]
  rw [List.take_succ_eq_append_getElem hi, List.mem_append, List.mem_singleton] at hr
  rcases hr with hr | rfl
  · rcases h with ⟨rfl, h⟩ | ⟨j, hj, rfl, g1, g2, g3⟩
    · have := h r hr hv
      omega
    · have hj' : j < l.length := by rw [List.length_take] at hj; omega
      have := g3 r hr hv hx
      rw [List.getElem_take] at this
      rcases h3 with h3 | h3
      · omega
      · have := h3 j hj' rfl
        omega
  · exact Int.le_refl _
theorem lower_ok (a : Option Addr) (n c : Nat) (l : List Run) (x : Int) (A : Nat → Prop) (w : World) (hx : SlR Rrun w A a n c l) (hn : n ≤ 1000000) :
    Calls Try.prog 93 #[.slice a n c, .int .u64 x] w fun e w' => ∃ v, e = .returned v ∧ Below w.heap.size w w' ∧ ∃ k, v = .int .i64 k ∧ LowOf l x k := by
  have hl := hx.len
  have hok := slr_okL hx
  refine enter2 Try.func93 rfl rfl (Hp.refl w) ?_
  repeat (first | refine T_seq ?_ | refine T_region ?_ | refine T_block ?_ | refine S_nil ?_ | refine S_pure tabOk rfl ?_)
  refine T_loop (ι := Nat × Int) (fun i => [(0, .slice a n c), (1, .int .u64 x), (5, .int .i64 i.2), (8, .slice a n c), (9, .int .i64 (n : Int)), (10, .int .i64 (i.1 : Int))])
    (fun i => []) (fun i => i.1 ≤ n ∧ LowOf (l.take i.1) x i.2) (fun i => n - i.1) (0, -1) ⟨Nat.zero_le _, .inl ⟨rfl, fun r hr => by cases hr⟩⟩ (by repeat (first | exact Sub.nil | refine Sub.cons rfl ?_)) (fun w' hw => hw) ?_
  rintro ⟨k, best⟩ ⟨hk, hb⟩
  dsimp only at hk hb ⊢
  repeat (first | refine T_seq ?_ | refine T_region ?_ | refine S_nil ?_ | refine S_pure tabOk rfl ?_)
  refine T_cond_dec rfl (fun h => ?_) (fun h => ?_)
  · have hk' : k < l.length := by omega
    obtain ⟨ab, off, cs, rfl, hlt, _⟩ := hx.get_ hk'
    repeat (first | refine T_seq ?_ | refine pthen_normal ?_ | refine T_skip ?_)
    refine T_block ?_
    repeat (first | refine T_seq ?_ | refine T_region ?_ | refine S_pure tabOk rfl ?_)
    refine S_q (Q_idx (sz := 2) tabOk rfl rfl rfl rfl rfl rfl rfl rfl (j := k) (by omega)) ?_
    refine S_loadN tabOk (vs := encR l[k]) rfl rfl rfl (fun w' hw => run_cells (hx.ext (hw.below (by repeat (first | exact new_nil)))) hk') ?_
    refine S_new tabOk rfl (fun b7 hb7 => ?_)
    repeat (first | refine T_seq ?_ | refine S_nil ?_ | refine S_pure tabOk rfl ?_ | refine S_store tabOk 0 rfl rfl rfl rfl rfl rfl ?_)
    refine T_cut (ι := Bool) (fun q => q = true ↔ (l[k].1 ≤ l[k].2 ∧ x ≤ l[k].2 ∧ (best < 0 ∨ ∀ (j : Nat) (hj : j < l.length), best = j → l[k].1 < l[j].1))) (fun q => [(0, .slice (some ⟨ab, off, none⟩) n c), (1, .int .u64 x), (5, .int .i64 best), (6, .int .i64 (k : Int)), (8, .slice (some ⟨ab, off, none⟩) n c), (9, .int .i64 (n : Int)), (10, .int .i64 (k : Int)), (39, .bool q)]) (fun _ => [.blk b7 (.cells ⟨encR l[k]⟩ 101 (0, 0)) true]) ?_ ?_
    · rcases hb with ⟨rfl, hb⟩ | ⟨j, hj, rfl, g1, g2, g3⟩
      · repeat (first | refine T_draw (by kernel_rfl) (by kernel_rfl) ?_ | refine D_pure tabOk rfl ?_ | refine D_load tabOk 0 rfl rfl rfl ?_)
        refine D_split rfl rfl (fun h1 => ?_) (fun h1 => ?_)
        · repeat (first | refine D_pure tabOk rfl ?_ | refine D_load tabOk 0 rfl rfl rfl ?_)
          refine D_split rfl rfl (fun h2 => ?_) (fun h2 => ?_)
          · repeat (first | refine D_all rfl ?_ | refine D_pure tabOk rfl ?_ | refine D_pass rfl rfl rfl ?_)
            exact ⟨true, ⟨fun _ => ⟨h1, by omega, .inl (by omega)⟩, fun _ => rfl⟩, by repeat (first | exact Sub.nil | refine Sub.cons rfl ?_), fun _ h => h⟩
          · repeat (first | refine D_all rfl ?_ | refine D_pure tabOk rfl ?_ | refine D_pass rfl rfl rfl ?_)
            exact ⟨false, ⟨fun h => (by cases h), fun h => by omega⟩, by repeat (first | exact Sub.nil | refine Sub.cons rfl ?_), fun _ h => h⟩
        · repeat (first | refine D_all rfl ?_ | refine D_pure tabOk rfl ?_ | refine D_pass rfl rfl rfl ?_)
          exact ⟨false, ⟨fun h => (by cases h), fun h => by omega⟩, by repeat (first | exact Sub.nil | refine Sub.cons rfl ?_), fun _ h => h⟩
      · have hj' : j < l.length := by rw [List.length_take] at hj; omega
        repeat (first | refine T_draw (by kernel_rfl) (by kernel_rfl) ?_ | refine D_pure tabOk rfl ?_ | refine D_load tabOk 0 rfl rfl rfl ?_)
        refine D_split rfl rfl (fun h1 => ?_) (fun h1 => ?_)
        · repeat (first | refine D_pure tabOk rfl ?_ | refine D_load tabOk 0 rfl rfl rfl ?_)
          refine D_split rfl rfl (fun h2 => ?_) (fun h2 => ?_)
          · repeat (first | refine D_pure tabOk rfl ?_ | refine D_load tabOk 0 rfl rfl rfl ?_)
            refine D_q (Q_idx (sz := 2) tabOk rfl rfl rfl rfl rfl rfl rfl (j := j) rfl (by omega)) ?_
            repeat (first | refine D_pure tabOk rfl ?_)
            refine D_load1 tabOk (v := .int .u64 l[j].1) rfl rfl (fun w' hw => run_from (hx.ext (hw.below (by repeat (first | exact new_nil | refine new_cons (by first | assumption | omega) ?_)))) hj') ?_
            repeat (first | refine D_all rfl ?_ | refine D_pure tabOk rfl ?_)
            refine ⟨_, ?_, by repeat (first | exact Sub.nil | refine Sub.cons rfl ?_), fun _ h => h⟩
            rw [decide_eq_true_iff]
            exact ⟨fun h => ⟨h1, by omega, .inr fun j' _ e => (by obtain rfl : j = j' := (by omega); exact h)⟩, fun h => h.2.2.resolve_left (by omega) j hj' rfl⟩
          · repeat (first | refine D_all rfl ?_ | refine D_pure tabOk rfl ?_ | refine D_pass rfl rfl rfl ?_)
            exact ⟨false, ⟨fun h => (by cases h), fun h => by omega⟩, by repeat (first | exact Sub.nil | refine Sub.cons rfl ?_), fun _ h => h⟩
        · repeat (first | refine D_all rfl ?_ | refine D_pure tabOk rfl ?_ | refine D_pass rfl rfl rfl ?_)
          exact ⟨false, ⟨fun h => (by cases h), fun h => by omega⟩, by repeat (first | exact Sub.nil | refine Sub.cons rfl ?_), fun _ h => h⟩
    · intro q hq
      refine T_cond rfl (fun h1 => ?_) (fun h1 => ?_)
      · obtain ⟨g1, g2, g3⟩ := hq.1 h1
        repeat (first | refine T_region ?_ | refine S_nil ?_ | refine pthen_normal ?_ | refine inb_normal ?_ | refine S_i64 tabOk rfl (by omega) ?_ | refine S_pure tabOk rfl ?_ | refine T_region_any ?_)
        exact ⟨(k + 1, (k : Int)), ⟨by dsimp only; omega, low_take hk' hb g1 g2 g3⟩, by repeat (first | exact Sub.nil | refine Sub.cons rfl ?_), fun w' hw => hw.dropn hb7, by dsimp only; omega⟩
      · repeat (first | refine T_region ?_ | refine S_nil ?_ | refine pthen_normal ?_ | refine inb_normal ?_ | refine T_skip ?_ | refine S_i64 tabOk rfl (by omega) ?_ | refine S_pure tabOk rfl ?_)
        exact ⟨(k + 1, best), ⟨by dsimp only; omega, low_keep hk' hb fun h => by rw [h1] at hq; exact absurd (hq.2 h) (by decide)⟩, by repeat (first | exact Sub.nil | refine Sub.cons rfl ?_), fun w' hw => hw.dropn hb7, by dsimp only; omega⟩
  · have e : k = n := by omega
    subst e
    rw [List.take_of_length_le (by omega)] at hb
    repeat (first | refine T_seq ?_ | refine T_region ?_ | refine S_nil ?_ | refine pthen_normal ?_ | refine inb_hit ?_ | refine pthen_exit ?_ | refine T_ret ?_ | refine T_exit ?_ | refine S_pure tabOk rfl ?_)
    exact ret1 rfl rfl (fun w' hw => ⟨_, rfl, hw.below (by repeat (first | exact new_nil)), _, rfl, hb⟩)

def cnt (l : List Run) (b : Int) : Nat := (l.filter (fun r => decide (b < r.2))).length
theorem cnt_le (l : List Run) {b b' : Int} (h : b ≤ b') : cnt l b' ≤ cnt l b := by
  induction l with
  | nil => exact Nat.le_refl _
  | cons r l ih =>
    unfold cnt at ih ⊢
    rw [List.filter_cons, List.filter_cons]
    by_cases h1 : b' < r.2
    · rw [if_pos (by simpa using h1), if_pos (by simp; omega)]
      simp only [List.length_cons]
      omega
    · rw [if_neg (by simpa using h1)]
      split
      · simp only [List.length_cons]; omega
      · exact ih
theorem cnt_lt : ∀ {l : List Run} {b b' : Int}, b ≤ b' → (∃ r ∈ l, b < r.2 ∧ r.2 ≤ b') → cnt l b' < cnt l b
  | [], _, _, _, ⟨r, hr, _⟩ => by cases hr
  | s :: l, b, b', h, ⟨r, hr, h1, h2⟩ => by
    have hle := cnt_le l h
    unfold cnt at hle ⊢
    rw [List.filter_cons, List.filter_cons]
    rcases List.mem_cons.1 hr with rfl | hr
    · rw [if_neg (by simp; omega), if_pos (by simpa using h1)]
      simp only [List.length_cons]
      omega
    · have ih := cnt_lt h ⟨r, hr, h1, h2⟩
      unfold cnt at ih
      by_cases h3 : b' < s.2
      · rw [if_pos (by simpa using h3), if_pos (by simp; omega)]
        simp only [List.length_cons]
        omega
      · rw [if_neg (by simpa using h3)]
        split
        · simp only [List.length_cons]; omega
        · exact ih
theorem cnt_all (l : List Run) (b : Int) : cnt l b ≤ l.length := List.length_filter_le _ _
def Extd (r : Run) (b : Int) : Prop := r.1 ≤ r.2 ∧ b < r.2 ∧ r.1 ≤ b + 1
structure PlI (l out : List Run) (x : Int) : Prop where
  can : Can out
  ok : okL out
  lt : ∀ s ∈ out, s.2 < x
  mem : ∀ y, y < x → (Mem out y ↔ Mem l y)
  at0 : (x = 0 ∧ out = []) ∨ ¬ Mem l x
  len : out.length + cnt l (x - 1) ≤ l.length
  bd : 0 ≤ x ∧ x ≤ lastN
structure GrI (l : List Run) (r0 b : Int) : Prop where
  le : r0 ≤ b
  mem : ∀ y, r0 ≤ y → y ≤ b → Mem l y
  bd : 0 ≤ b ∧ b ≤ lastN
structure PlO (l m : List Run) : Prop where
  can : Can m
  ok : okL m
  mem : ∀ x, Mem m x ↔ Mem l x
  len : m.length ≤ l.length
theorem pl_start {l : List Run} (hok : okL l) : PlI l [] 0 :=
  ⟨can_nil, fun r hr => (by cases hr), fun s hs => (by cases hs), fun y hy => ⟨fun h => absurd h (mem_nil y), fun ⟨r, hr, h1, h2⟩ => by
    have := fits_u64 (hok r hr).1
    omega⟩, .inl ⟨rfl, rfl⟩, by have := cnt_all l (0 - 1); simpa using this, by unfold lastN; omega⟩
theorem pl_none {l out : List Run} {x : Int} (h : PlI l out x) (hn : ∀ r ∈ l, r.1 ≤ r.2 → r.2 < x) : PlO l out :=
  ⟨h.can, h.ok, fun y => by
    rcases Int.lt_or_le y x with h1 | h1
    · exact h.mem y h1
    · constructor
      · rintro ⟨s, hs, h2, h3⟩
        have := h.lt s hs
        omega
      · rintro ⟨r, hr, h2, h3⟩
        have := hn r hr (by omega)
        omega, by have := h.len; omega⟩
theorem gr_start {l : List Run} {x : Int} {j : Nat} (hok : okL l) (hj : j < l.length) (h1 : l[j].1 ≤ l[j].2) (h2 : x ≤ l[j].2) : GrI l (max l[j].1 x) l[j].2 :=
  ⟨by omega, fun y h3 h4 => ⟨_, List.getElem_mem hj, by omega, h4⟩, by have := fits_u64 (hok _ (List.getElem_mem hj)).2; unfold lastN; omega⟩
theorem gr_step {l : List Run} {r0 b : Int} {i : Nat} (hok : okL l) (hi : i < l.length) (h : GrI l r0 b) (he : Extd l[i] b) : GrI l r0 l[i].2 :=
  ⟨by have := h.le; have := he.2.1; omega, fun y h3 h4 => by
    rcases Int.lt_or_le b y with h5 | h5
    · have := he.2.2
      exact ⟨_, List.getElem_mem hi, by omega, h4⟩
    · exact h.mem y h3 h5, by have := fits_u64 (hok _ (List.getElem_mem hi)).2; unfold lastN; omega⟩
theorem pl_step {l out : List Run} {x b : Int} {j : Nat} (hok : okL l) (h : PlI l out x) (hj : j < l.length) (h1 : l[j].1 ≤ l[j].2) (h2 : x ≤ l[j].2) (h3 : ∀ r ∈ l, r.1 ≤ r.2 → x ≤ r.2 → l[j].1 ≤ r.1) (hg : GrI l (max l[j].1 x) b) (hb : l[j].2 ≤ b) (hne : ∀ r ∈ l, ¬ Extd r b) :
    (b = lastN → PlO l (out ++ [(max l[j].1 x, b)])) ∧ (b < lastN → PlI l (out ++ [(max l[j].1 x, b)]) (b + 1) ∧ cnt l (b + 1 - 1) < cnt l (x - 1)) := by
  have hc0 : cnt l b < cnt l (x - 1) := cnt_lt (by omega) ⟨_, List.getElem_mem hj, by omega, hb⟩
  have hgap : ∀ s ∈ out, s.2 + 1 < max l[j].1 x := by
    intro s hs
    have e1 := h.lt s hs
    rcases h.at0 with ⟨_, e⟩ | e
    · subst e; cases hs
    · have : ¬ l[j].1 ≤ x := fun hh => e ⟨_, List.getElem_mem hj, hh, h2⟩
      omega
  have hcan : Can (out ++ [(max l[j].1 x, b)]) := can_append.2 ⟨h.can, can_cons.2 ⟨hg.le, fun s hs => (by cases hs), can_nil⟩, fun r hr s hs => by
    rw [List.mem_singleton] at hs
    subst hs
    exact hgap r hr⟩
  have hfit : ∀ z : Int, 0 ≤ z → z ≤ lastN → Fits .u64 z := fun z e1 e2 => by unfold lastN at e2; simpa [Fits, IntKind.min, IntKind.max, IntKind.signed, IntKind.bits] using And.intro e1 e2
  have hokk : okL (out ++ [(max l[j].1 x, b)]) := fun r hr => by
    rcases List.mem_append.1 hr with hr | hr
    · exact h.ok r hr
    · rw [List.mem_singleton] at hr
      subst hr
      have e1 := h.bd
      have e2 := hg.bd
      have e3 := hg.le
      exact ⟨hfit _ (by show 0 ≤ max l[j].1 x; omega) (by show max l[j].1 x ≤ lastN; omega), hfit _ e2.1 e2.2⟩
  have hmem : ∀ y, y ≤ b → (Mem (out ++ [(max l[j].1 x, b)]) y ↔ Mem l y) := by
    intro y hy
    rw [mem_append, mem_one]
    rcases Int.lt_or_le y x with h4 | h4
    · rw [h.mem y h4]
      exact ⟨fun h5 => h5.elim id fun h6 => by have := h6.1; omega, .inl⟩
    · constructor
      · rintro (⟨s, hs, g1, g2⟩ | ⟨g1, g2⟩)
        · have := h.lt s hs; omega
        · exact hg.mem y g1 hy
      · rintro ⟨r, hr, g1, g2⟩
        have := h3 r hr (by omega) (by omega)
        exact .inr ⟨by show max l[j].1 x ≤ y; omega, hy⟩
  have hlen := h.len
  refine ⟨fun e => ⟨hcan, hokk, fun y => ?_, by simp only [List.length_append, List.length_cons, List.length_nil]; omega⟩, fun e => ⟨⟨hcan, hokk, fun s hs => ?_, fun y hy => hmem y (by omega), .inr ?_, ?_, by have := hg.bd; omega⟩, ?_⟩⟩
  · rcases Int.lt_or_le b y with h4 | h4
    · constructor
      · rintro ⟨s, hs, g1, g2⟩
        have := fits_u64 (hokk s hs).2
        unfold lastN at e
        omega
      · rintro ⟨s, hs, g1, g2⟩
        have := fits_u64 (hok s hs).2
        unfold lastN at e
        omega
    · exact hmem y h4
  · rcases List.mem_append.1 hs with hs | hs
    · have := h.lt s hs; omega
    · rw [List.mem_singleton] at hs
      subst hs
      show b < b + 1
      omega
  · rintro ⟨r, hr, g1, g2⟩
    exact hne r hr ⟨by omega, by omega, g1⟩
  · simp only [List.length_append, List.length_cons, List.length_nil]
    have e1 : b + 1 - 1 = b := by omega
    rw [e1]
    omega
  · have e1 : b + 1 - 1 = b := by omega
    rw [e1]
    exact hc0
set_option maxHeartbeats 1000000 in
theorem plain_ok (a : Option Addr) (n c : Nat) (l : List Run) (A : Nat → Prop) (w : World) (hx : SlR Rrun w A a n c l) (hn : n ≤ 1000000) :
    Calls Try.prog 48 #[.slice a n c] w fun e w' => ∃ v m, e = .returned v ∧ Below w.heap.size w w' ∧ PlO l m ∧ (Rslice Rrun).val w' (fun k => w.heap.size ≤ k) v m := by
  have hl := hx.len
  have hok := slr_okL hx
  refine enter1 Try.func48 rfl rfl (Hp.refl w) ?_
  repeat (first | refine T_seq ?_ | refine T_region ?_ | refine T_block ?_ | refine S_nil ?_ | refine S_pure tabOk rfl ?_)
  refine T_loop (ι := List Run × Int × Option Addr × Nat) (fun i => [(0, .slice a n c), (3, .slice i.2.2.1 i.1.length i.2.2.2), (4, .int .u64 i.2.1)])
    (fun i => [.row w.heap.size (.slice i.2.2.1 i.1.length i.2.2.2) 101 2 i.1.length (cellsR i.1)]) (fun i => PlI l i.1 i.2.1) (fun i => cnt l (i.2.1 - 1)) ([], 0, none, 0) (pl_start hok) (by repeat (first | exact Sub.nil | refine Sub.cons rfl ?_)) (fun w' hw => hw.nilRow _ _) ?_
  rintro ⟨out, x, a1, c1⟩ hI
  dsimp only at hI ⊢
  have hbd := hI.bd
  have hlen := hI.len
  unfold lastN at hbd
  repeat (first | refine T_seq ?_ | refine T_region ?_ | refine T_block ?_ | refine S_pure tabOk rfl ?_)
  refine S_callE (fun v => ∃ k, v = .int .i64 k ∧ LowOf l x k) rfl Try.call93 (fun w1 h1 => lower_ok a n c l x A w1 (hx.ext (h1.below (by repeat (first | exact new_nil | refine newrow h1 0 rfl (Nat.le_refl _) ?_)))) hn) (fun v hv => ?_)
  obtain ⟨k, rfl, ⟨rfl, hno⟩ | ⟨j, hj, rfl, g1, g2, g3⟩⟩ := hv
  · have ho := pl_none hI hno
    repeat (first | refine T_seq ?_ | refine T_region ?_ | refine S_nil ?_ | refine inb_ret ?_ | refine pthen_ret ?_ | refine T_ret ?_ | refine T_cond_t rfl ?_ | refine S_pure tabOk rfl ?_)
    exact ret1 rfl rfl (fun w' hw => ⟨_, out, rfl, hw.below (by repeat (first | exact new_nil | refine newrow hw 0 rfl (Nat.le_refl _) ?_)), ho, SlR.val (.of_row flat_run (hw.own _ (getE_mem (i := 0) rfl)) rfl ho.ok fun k hk _ => hk)⟩)
  · obtain ⟨ab, off, cs, rfl, hlt, _⟩ := hx.get_ hj
    repeat (first | refine T_seq ?_ | refine T_region ?_ | refine S_nil ?_ | refine S_pure tabOk rfl ?_)
    refine T_cond_f rfl ?_
    repeat (first | refine T_seq ?_ | refine pthen_normal ?_ | refine T_skip ?_)
    refine T_drawT (by kernel_rfl) 14 rfl (by kernel_rfl) ?_
    repeat (first | refine D_pure tabOk rfl ?_)
    refine D_q (Q_idx (sz := 2) tabOk rfl rfl rfl rfl rfl rfl rfl (j := j) rfl (by omega)) ?_
    repeat (first | refine D_pure tabOk rfl ?_)
    refine D_load1 tabOk (v := .int .u64 l[j].1) rfl rfl (fun w' hw => run_from (hx.ext (hw.below (by repeat (first | exact new_nil | refine newrow hw 0 rfl (Nat.le_refl _) ?_)))) hj) ?_
    repeat (first | refine D_pure tabOk rfl ?_)
    refine D_q (Q_idx (sz := 2) tabOk rfl rfl rfl rfl rfl rfl rfl (j := j) rfl (by omega)) ?_
    repeat (first | refine D_pure tabOk rfl ?_)
    refine D_load1 tabOk (v := .int .u64 l[j].2) rfl rfl (fun w' hw => run_to (hx.ext (hw.below (by repeat (first | exact new_nil | refine newrow hw 0 rfl (Nat.le_refl _) ?_)))) hj) ?_
    repeat (first | refine D_q (Q_build tabOk rfl rfl rfl rfl rfl rfl rfl) ?_)
    refine D_new tabOk rfl ?_
    refine D_outA 6 rfl (fun b6 hb6 => ?_)
    refine D_allP rfl ?_
    repeat (first | refine T_seq ?_ | refine T_region ?_ | refine S_nil ?_ | refine S_pure tabOk rfl ?_ | refine S_store tabOk 0 rfl rfl rfl rfl rfl rfl ?_)
    refine T_block ?_
    obtain ⟨r0, hr0⟩ : ∃ r0, r0 = max l[j].1 x := ⟨_, rfl⟩
    rw [← hr0]
    refine T_loop (ι := Int × Bool) (fun i => [(0, .slice (some ⟨ab, off, none⟩) n c), (3, .slice a1 out.length c1), (4, .int .u64 x), (6, .pointer (some ⟨b6, 0, none⟩)), (7, .bool i.2)])
      (fun i => [.blk b6 (.cells ⟨[.int .u64 r0, .int .u64 i.1]⟩ 101 (0, 0)) true, .row w.heap.size (.slice a1 out.length c1) 101 2 out.length (cellsR out)]) (fun i => GrI l r0 i.1 ∧ l[j].2 ≤ i.1 ∧ (i.2 = false → ∀ r ∈ l, ¬ Extd r i.1)) (fun i => 2 * cnt l i.1 + (if i.2 = true then 1 else 0)) (l[j].2, true) ⟨by rw [hr0]; exact gr_start hok hj g1 g2, Int.le_refl _, fun h => by cases h⟩ (by repeat (first | exact Sub.nil | refine Sub.cons rfl ?_)) (fun w' hw => hw) ?_
    rintro ⟨b, g⟩ ⟨hG, hjb, hno⟩
    dsimp only at hG hjb hno ⊢
    repeat (first | refine T_seq ?_ | refine T_region ?_ | refine S_nil ?_ | refine S_pure tabOk rfl ?_)
    refine T_cond rfl (fun h1 => ?_) (fun h1 => ?_)
    · subst h1
      repeat (first | refine T_seq ?_ | refine T_region ?_ | refine T_block ?_ | refine S_nil ?_ | refine pthen_normal ?_ | refine T_skip ?_ | refine S_pure tabOk rfl ?_)
      refine T_loop (ι := Nat × Int × Bool) (fun i => [(0, .slice (some ⟨ab, off, none⟩) n c), (3, .slice a1 out.length c1), (4, .int .u64 x), (6, .pointer (some ⟨b6, 0, none⟩)), (7, .bool i.2.2), (30, .slice (some ⟨ab, off, none⟩) n c), (31, .int .i64 (n : Int)), (32, .int .i64 (i.1 : Int))])
        (fun i => [.blk b6 (.cells ⟨[.int .u64 r0, .int .u64 i.2.1]⟩ 101 (0, 0)) true, .row w.heap.size (.slice a1 out.length c1) 101 2 out.length (cellsR out)]) (fun i => i.1 ≤ n ∧ GrI l r0 i.2.1 ∧ b ≤ i.2.1 ∧ (i.2.2 = false → i.2.1 = b ∧ ∀ (j : Nat) (hj : j < l.length), j < i.1 → ¬ Extd l[j] b) ∧ (i.2.2 = true → cnt l i.2.1 < cnt l b)) (fun i => n - i.1) (0, b, false) ⟨Nat.zero_le _, hG, Int.le_refl _, fun _ => ⟨rfl, fun j hj h => by omega⟩, fun h => by cases h⟩ (by repeat (first | exact Sub.nil | refine Sub.cons rfl ?_)) (fun w' hw => hw) ?_
      rintro ⟨i, b', g'⟩ ⟨hi, hG', hbb, hf, ht⟩
      dsimp only at hi hG' hbb hf ht ⊢
      have hGb := hG'.bd
      unfold lastN at hGb
      repeat (first | refine T_seq ?_ | refine T_region ?_ | refine S_nil ?_ | refine S_pure tabOk rfl ?_)
      refine T_cond_dec rfl (fun h => ?_) (fun h => ?_)
      · have hi' : i < l.length := by omega
        have hu1 := fits_u64 (hok _ (List.getElem_mem hi')).1
        repeat (first | refine T_seq ?_ | refine pthen_normal ?_ | refine T_skip ?_)
        refine T_block ?_
        repeat (first | refine T_seq ?_ | refine T_region ?_)
        refine S_q (Q_idx (sz := 2) tabOk rfl rfl rfl rfl rfl rfl rfl rfl (j := i) (by omega)) ?_
        refine S_loadN tabOk (vs := encR l[i]) rfl rfl rfl (fun w' hw => run_cells (hx.ext (hw.below (by repeat (first | exact new_nil | refine new_cons (by first | assumption | omega) ?_ | refine newrow hw 1 rfl (Nat.le_refl _) ?_)))) hi') ?_
        refine S_new tabOk rfl (fun b9 hb9 => ?_)
        refine S_store tabOk 0 rfl rfl rfl rfl rfl rfl ?_
        refine S_nil ?_
        refine T_seq ?_
        refine T_cut (ι := Bool) (fun q => q = true ↔ Extd l[i] b') (fun q => [(0, .slice (some ⟨ab, off, none⟩) n c), (3, .slice a1 out.length c1), (4, .int .u64 x), (6, .pointer (some ⟨b6, 0, none⟩)), (7, .bool g'), (9, .pointer (some ⟨b9, 0, none⟩)), (30, .slice (some ⟨ab, off, none⟩) n c), (31, .int .i64 (n : Int)), (32, .int .i64 (i : Int)), (62, .bool q)])
          (fun q => [.blk b9 (.cells ⟨encR l[i]⟩ 101 (0, 0)) true, .blk b6 (.cells ⟨[.int .u64 r0, .int .u64 b']⟩ 101 (0, 0)) true, .row w.heap.size (.slice a1 out.length c1) 101 2 out.length (cellsR out)]) ?_ ?_
        · unfold Extd
          repeat (first | refine T_region ?_ | refine S_pure tabOk rfl ?_ | refine S_load tabOk 0 rfl rfl rfl ?_)
          refine S_split rfl rfl (fun h2 => ?_) (fun h2 => ?_)
          · repeat (first | refine S_pure tabOk rfl ?_ | refine S_load tabOk 0 rfl rfl rfl ?_ | refine S_load tabOk 1 rfl rfl rfl ?_)
            refine S_split rfl rfl (fun h3 => ?_) (fun h3 => ?_)
            · repeat (first | refine S_pure tabOk rfl ?_ | refine S_load tabOk 0 rfl rfl rfl ?_ | refine S_load tabOk 1 rfl rfl rfl ?_)
              refine S_split rfl rfl (fun h4 => ?_) (fun h4 => ?_)
              · repeat (first | refine S_nil ?_ | refine S_pure tabOk rfl ?_ | refine S_pass rfl rfl rfl ?_)
                exact ⟨true, ⟨fun _ => ⟨h2, h3, by omega⟩, fun _ => rfl⟩, by repeat (first | exact Sub.nil | refine Sub.cons rfl ?_), fun _ h => h⟩
              · repeat (first | refine S_nil ?_ | refine S_u64 tabOk rfl (by omega) ?_ | refine S_pure tabOk rfl ?_ | refine S_load tabOk 0 rfl rfl rfl ?_ | refine S_load tabOk 1 rfl rfl rfl ?_)
                refine ⟨_, ?_, by repeat (first | exact Sub.nil | refine Sub.cons rfl ?_), fun _ h => h⟩
                rw [decide_eq_true_iff]
                exact ⟨fun h => ⟨h2, h3, by omega⟩, fun h => by omega⟩
            · repeat (first | refine S_nil ?_ | refine S_pure tabOk rfl ?_ | refine S_pass rfl rfl rfl ?_)
              exact ⟨false, ⟨fun h => (by cases h), fun h => by omega⟩, by repeat (first | exact Sub.nil | refine Sub.cons rfl ?_), fun _ h => h⟩
          · repeat (first | refine S_nil ?_ | refine S_pure tabOk rfl ?_ | refine S_pass rfl rfl rfl ?_)
            exact ⟨false, ⟨fun h => (by cases h), fun h => by omega⟩, by repeat (first | exact Sub.nil | refine Sub.cons rfl ?_), fun _ h => h⟩
        · intro q hq
          refine T_cond rfl (fun h2 => ?_) (fun h2 => ?_)
          · have he := hq.1 h2
            repeat (first | refine T_region ?_ | refine S_nil ?_ | refine pthen_normal ?_ | refine inb_normal ?_ | refine S_i64 tabOk rfl (by omega) ?_ | refine S_pure tabOk rfl ?_ | refine T_region_any ?_ | refine S_load tabOk 0 rfl rfl rfl ?_ | refine S_store tabOk 1 rfl rfl rfl rfl rfl rfl ?_)
            exact ⟨(i + 1, l[i].2, true), ⟨by dsimp only; omega, gr_step hok hi' hG' he, by have := he.2.1; dsimp only; omega, fun h => (by cases h), fun _ => by
              have h5 : cnt l l[i].2 < cnt l b' := cnt_lt (by have := he.2.1; omega) ⟨_, List.getElem_mem hi', he.2.1, Int.le_refl _⟩
              have h6 := cnt_le l hbb
              dsimp only
              omega⟩, by repeat (first | exact Sub.nil | refine Sub.cons rfl ?_), fun w' hw => hw.dropn hb9, by dsimp only; omega⟩
          · have hne : ¬ Extd l[i] b' := fun h => by rw [h2] at hq; exact absurd (hq.2 h) (by decide)
            repeat (first | refine T_region ?_ | refine S_nil ?_ | refine pthen_normal ?_ | refine inb_normal ?_ | refine T_skip ?_ | refine S_i64 tabOk rfl (by omega) ?_ | refine S_pure tabOk rfl ?_)
            refine ⟨(i + 1, b', g'), ⟨by dsimp only; omega, hG', hbb, fun h => ⟨(hf h).1, fun j hj hji => ?_⟩, ht⟩, by repeat (first | exact Sub.nil | refine Sub.cons rfl ?_), fun w' hw => hw.dropn hb9, by dsimp only; omega⟩
            by_cases e : j = i
            · subst e
              rw [← (hf h).1]
              exact hne
            · exact (hf h).2 j hj (by dsimp only at hji; omega)
      · have e : i = n := by omega
        subst e
        repeat (first | refine pthen_normal ?_ | refine inb_normal ?_ | refine inb_hit ?_ | refine pthen_exit ?_ | refine T_exit ?_)
        refine ⟨(b', g'), ⟨hG', by dsimp only; omega, fun h r hr => ?_⟩, by repeat (first | exact Sub.nil | refine Sub.cons rfl ?_), fun w' hw => hw, ?_⟩
        · obtain ⟨j', hj', rfl⟩ := List.getElem_of_mem hr
          dsimp only at h ⊢
          rw [(hf h).1]
          exact (hf h).2 j' hj' (by omega)
        · dsimp only
          cases g' with
          | false => have e1 := (hf rfl).1; subst e1; simp
          | true => have e1 := ht rfl; simp; omega
    · subst h1
      have hGb := hG.bd
      unfold lastN at hGb
      obtain ⟨p1, p2⟩ := pl_step hok hI hj g1 g2 g3 (hr0 ▸ hG) hjb (hno rfl)
      rw [← hr0] at p1 p2
      repeat (first | refine T_seq ?_ | refine T_region ?_ | refine pthen_normal ?_ | refine inb_hit ?_ | refine pthen_exit ?_ | refine T_exit ?_ | refine S_pure tabOk rfl ?_ | refine S_load tabOk 0 rfl rfl rfl ?_)
      refine S_bslice tabOk rfl rfl rfl rfl rfl rfl rfl rfl rfl rfl rfl rfl (fun b8 hb8 => ?_)
      refine S_append (ty := 0) tabOk 2 rfl rfl rfl rfl rfl rfl rfl rfl rfl (by decide) (fun w' hw => Sl.of_blk (xs := encR (r0, b)) (hw.own _ (getE_mem (i := 0) rfl)) rfl (fun j u hu => by rw [Nat.zero_add]; exact hu)) (by intro u hu; exact cellsR_one [(r0, b)] u (by simpa [cellsR] using hu)) (by simp only [maxLen]; omega) (by show (_ + _) * 16 ≤ _; omega) rfl (fun A' c' h1 h2 => ⟨_, rfl, ?_⟩)
      have ec : cellsR out ++ encR (r0, b) = cellsR (out ++ [(r0, b)]) := by rw [cellsR_append]; simp [cellsR]
      have el : out.length + 1 = (out ++ [(r0, b)]).length := by rw [List.length_append]; rfl
      rw [ec, el]
      repeat (first | refine T_seq ?_ | refine T_region ?_ | refine S_nil ?_ | refine S_pure tabOk rfl ?_ | refine S_load tabOk 1 rfl rfl rfl ?_)
      refine T_cond_dec rfl (fun h2 => ?_) (fun h2 => ?_)
      · have ho := p1 h2
        repeat (first | refine T_seq ?_ | refine T_region ?_ | refine S_nil ?_ | refine inb_ret ?_ | refine pthen_ret ?_ | refine T_ret ?_ | refine S_pure tabOk rfl ?_)
        refine ret1 rfl rfl (fun w' hw => ⟨_, _, rfl, hw.below (by repeat (first | exact new_nil | refine new_cons (by first | assumption | omega) ?_ | refine newrow hw 2 rfl (Nat.le_refl _) ?_)), ho, SlR.val (.of_row flat_run (hw.own _ (getE_mem (i := 2) rfl)) rfl ho.ok fun k hk _ => hk)⟩)
      · obtain ⟨q1, q2⟩ := p2 (by unfold lastN; omega)
        repeat (first | refine S_nil ?_ | refine pthen_normal ?_ | refine inb_normal ?_ | refine T_skip ?_ | refine S_u64 tabOk rfl (by omega) ?_ | refine S_pure tabOk rfl ?_ | refine T_region_any ?_ | refine S_load tabOk 1 rfl rfl rfl ?_)
        exact ⟨(out ++ [(r0, b)], b + 1, A', c'), q1, by repeat (first | exact Sub.nil | refine Sub.cons rfl ?_), fun w' hw => (hw.dropn hb8).dropn hb6, q2⟩


section
variable {S T : Int → Prop} {B C : Nat} {v u : Value} {A D : Nat → Prop}
theorem plain_l (l : List Run) (w : World) (h : (Rslice Rrun).val w A v l) (hB : l.length ≤ 900000) :
    Calls Try.prog 48 #[v] w fun e w' => ∃ r, e = .returned r ∧ Below w.heap.size w w' ∧ (sliP (Mem l) l.length).at_ w' (fun k => w.heap.size ≤ k) r := by
  obtain ⟨a, n, c, rfl, h4⟩ := SlR.form h
  have hl := h4.len
  exact (plain_ok a n c l A w h4 (by omega)).mono fun e w' ⟨v, m, e1, e2, e3, e4⟩ => ⟨v, e1, e2, m, e3.can, e3.mem, e3.len, e4⟩
end
theorem plo_can {l m : List Run} (h : PlO l m) : Can l ↔ l = m :=
  ⟨fun hc => can_ext hc h.can fun x => (h.mem x).symm, fun e => e ▸ h.can⟩

end Go.Proofs.Ytnefhhoijonnaaa
