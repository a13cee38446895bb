/-
  Runs: contracts of few, own, Clone, Equal, Same. Conditions: each theorem's own. Runs: contracts of Equal and Same, of Runs. Conditions: each theorem's own. Runs: contracts of Search and find. Conditions: each theorem's own. Runs: contracts of Grow and Concat. Conditions: each theorem's own. Runs: the mathematics of runs of numbers. No program; conditions: each theorem's own. Runs: contracts of Span, Add. Conditions: each theorem's own. Runs: contracts of Add, Of, set, Has, Gap, Make. Conditions: each theorem's own. Runs: contracts of Of, Has, Gap, Make. Conditions: each theorem's own. Runs: sets told by who is in them; contracts in these words. Conditions: each theorem's own. Runs: contracts of without and of all that is made of it. Conditions: each theorem's own. Runs: contracts of Less, Union, Below, From. Conditions: each theorem's own. Runs: how many are in a set; small things. Cond
  Conditions: each theorem's own.
-/
import Derived.Test.YtidhpofcofknhaaAl
namespace Go.Proofs.Ytidhpofcofknhaa
open Go Go.RowKit
set_option linter.unusedVariables false


/-! ### Runs as data -/
abbrev Rrun : Rep (Int × Int) := Rpair (Rint .u64) (Rint .u64)
abbrev Rset : Rep (List (Int × Int)) := Rone (Rslice Rrun)
def encR (p : Int × Int) : List Value := [.int .u64 p.1, .int .u64 p.2]
def okR (p : Int × Int) : Prop := Fits .u64 p.1 ∧ Fits .u64 p.2
theorem flat_run : Flat Rrun encR okR := ⟨fun w A cs x => ⟨by
  rintro ⟨c1, c2, rfl, ⟨rfl, h1⟩, rfl, h2⟩
  exact ⟨rfl, h1, h2⟩, by
  rintro ⟨rfl, h1, h2⟩
  exact ⟨[.int .u64 x.1], [.int .u64 x.2], rfl, ⟨rfl, h1⟩, rfl, h2⟩⟩⟩
abbrev cellsR (l : List (Int × Int)) : List Value := (l.map encR).flatten
theorem cellsR_len (l : List (Int × Int)) : (cellsR l).length = l.length * 2 := by
  have : ∀ c ∈ l.map encR, c.length = 2 := fun c hc => by
    obtain ⟨p, _, rfl⟩ := List.mem_map.1 hc
    rfl
  rw [flat_len this, List.length_map]
theorem cellsR_one (l : List (Int × Int)) : ∀ u ∈ cellsR l, u.oneCell' = true := by
  intro u hu
  obtain ⟨c, hc, hu⟩ := List.mem_flatten.1 hu
  obtain ⟨p, _, rfl⟩ := List.mem_map.1 hc
  simp only [encR, List.mem_cons, List.not_mem_nil, or_false] at hu
  rcases hu with rfl | rfl <;> rfl
theorem cellsR_append (l m : List (Int × Int)) : cellsR (l ++ m) = cellsR l ++ cellsR m := by
  simp [cellsR]
section
variable {w : World} {A : Nat → Prop} {a : Option Addr} {b off n c : Nat} {l : List (Int × Int)}
theorem run_ok (h : SlR Rrun w A a n c l) {i : Nat} (hi : i < l.length) : okR l[i] := (h.flat flat_run).2 _ (List.getElem_mem hi)
theorem run_cells (h : SlR Rrun w A (some ⟨b, off, none⟩) n c l) {i : Nat} (hi : i < l.length) : ∀ j u, (encR l[i])[j]? = some u → w.cell? ((⟨b, off + i * 2, none⟩ : Addr).add j) = some u := by
  obtain ⟨cs, _, h2, _, h3, _⟩ := h.at_ hi
  have h4 := ((flat_run.iff _ _ _ _).1 h2).1
  subst h4
  intro j u hu
  rw [Addr.add_lit]
  exact h3 j u hu
theorem run_from (h : SlR Rrun w A (some ⟨b, off, none⟩) n c l) {i : Nat} (hi : i < l.length) : w.cell? ⟨b, off + i * 2, none⟩ = some (.int .u64 l[i].1) := by
  have := run_cells h hi 0 _ rfl
  simpa [Addr.add_lit] using this
theorem run_to (h : SlR Rrun w A (some ⟨b, off, none⟩) n c l) {i : Nat} (hi : i < l.length) : w.cell? ⟨b, off + i * 2 + 1, none⟩ = some (.int .u64 l[i].2) := by
  have := run_cells h hi 1 _ rfl
  simpa [Addr.add_lit] using this
theorem slr_row {base : Nat} {e : TypeId} (h : w.ownsRow base e 2 (.slice a l.length c) l.length (cellsR l)) (hok : ∀ p ∈ l, okR p) (hA : ∀ k, base ≤ k → A k) : SlR Rrun w A a l.length c l :=
  .of_row flat_run h rfl hok fun k hk _ => hA k hk
end
/-! ### few, own -/
/-! ### Clone -/

theorem equalr_ok (a a' : Option Addr) (n c n' c' : Nat) (l m : List (Int × Int)) (A B : Nat → Prop) (w : World) (hx : SlR Rrun w A a n c l) (hy : SlR Rrun w B a' n' c' m) :
    Calls Try.prog 77 #[.slice a n c, .slice a' n' c'] w fun e w' => e = .returned (.bool (decide (l = m))) ∧ Below w.heap.size w w' := by
  have hl := hx.len
  have hl' := hy.len
  have hmx := hx.max
  have hcx := hx.cap
  simp only [maxLen] at hmx
  refine enter2 Try.func77 rfl rfl (Hp.refl w) ?_
  repeat (first | refine T_seq ?_ | refine T_region ?_ | refine S_nil ?_ | refine S_pure tabOk rfl ?_)
  refine T_cond_dec rfl (fun h => ?_) (fun h => ?_)
  · repeat (first | refine T_seq ?_ | refine T_region ?_ | refine S_nil ?_ | refine pthen_ret ?_ | refine T_ret ?_ | refine S_pure tabOk rfl ?_)
    exact ret1 rfl rfl (fun w' hw => ⟨retb (decide_eq_false fun e => h (by rw [← hl, ← hl', e])).symm, hw.below new_nil⟩)
  have hnn : n = n' := by omega
  subst hnn
  repeat (first | refine T_seq ?_ | refine T_region ?_ | refine T_block ?_ | refine S_nil ?_ | refine pthen_normal ?_ | refine T_skip ?_ | refine S_pure tabOk rfl ?_)
  refine T_loop (ι := Nat) (fun i => [(0, .slice a n c), (1, .slice a' n c'), (12, .int .i64 (n : Int)), (13, .int .i64 (i : Int))])
    (fun i => []) (fun i => i ≤ n ∧ l.take i = m.take i) (fun i => n - i) 0 ⟨Nat.zero_le _, rfl⟩ (by repeat (first | exact Sub.nil | refine Sub.cons rfl ?_)) (fun _ hw => hw) ?_
  rintro k ⟨hk, hkt⟩
  try dsimp only at hk ⊢
  repeat (first | refine T_seq ?_ | refine T_region ?_ | refine S_nil ?_ | refine S_pure tabOk rfl ?_)
  refine T_cond_dec rfl (fun h => ?_) (fun h => ?_)
  · have hk1 : k < l.length := by omega
    have hk2 : k < m.length := by omega
    obtain ⟨b, off, cs, rfl, hlt, _⟩ := hx.get_ hk1
    obtain ⟨b2, off2, cs2, rfl, hlt2, _⟩ := hy.get_ hk2
    repeat (first | refine T_draw (by kernel_rfl) (by kernel_rfl) ?_ | refine D_pure tabOk rfl ?_ | refine T_seq ?_ | refine T_region ?_ | refine T_block ?_ | refine S_nil ?_ | refine pthen_normal ?_ | refine T_skip ?_ | refine S_pure tabOk rfl ?_)
    refine D_q (Q_idx (sz := 2) tabOk rfl rfl rfl rfl rfl rfl rfl rfl (j := k) (by omega)) ?_
    refine D_loadN tabOk (vs := encR l[k]) rfl rfl rfl (fun w' hw => run_cells (hx.ext (hw.below new_nil)) hk1) ?_
    repeat (first | refine D_pure tabOk rfl ?_)
    refine D_q (Q_idx (sz := 2) tabOk rfl rfl rfl rfl rfl rfl rfl rfl (j := k) (by omega)) ?_
    refine D_loadN tabOk (vs := encR m[k]) rfl rfl rfl (fun w' hw => run_cells (hy.ext (hw.below new_nil)) hk2) ?_
    refine D_q (Q_neq2 tabOk rfl rfl rfl rfl rfl rfl rfl rfl rfl rfl rfl (by decide) (by decide) (by kernel_rfl) (by kernel_rfl)) ?_
    repeat (first | refine D_all rfl ?_)
    refine T_cond_ndec rfl (fun h1 => ?_) (fun h1 => ?_)
    · repeat (first | refine T_seq ?_ | refine T_region ?_ | refine S_nil ?_ | refine inb_ret ?_ | refine pthen_ret ?_ | refine T_ret ?_ | refine S_pure tabOk rfl ?_)
      exact ret1 rfl rfl (fun w' hw => ⟨retb (decide_eq_false (take_ne hk1 hk2 fun e => h1 (by rw [e]; exact ⟨rfl, rfl⟩))).symm, hw.below new_nil⟩)
    · repeat (first | refine T_region ?_ | refine S_nil ?_ | refine pthen_normal ?_ | refine inb_normal ?_ | refine T_skip ?_ | refine S_i64 tabOk rfl (by omega) ?_ | refine S_pure tabOk rfl ?_)
      exact ⟨k + 1, ⟨by omega, take_ext hkt hk1 hk2 (Prod.ext h1.1 h1.2)⟩, by repeat (first | exact Sub.nil | refine Sub.cons rfl ?_), fun _ h => h, by omega⟩
  · repeat (first | refine T_seq ?_ | refine T_region ?_ | refine S_nil ?_ | refine pthen_normal ?_ | refine inb_hit ?_ | refine pthen_exit ?_ | refine T_ret ?_ | refine T_exit ?_ | refine S_pure tabOk rfl ?_)
    have e : k = n := by omega
    subst e
    rw [List.take_of_length_le (by omega), List.take_of_length_le (by omega)] at hkt
    exact ret1 rfl rfl (fun w' hw => ⟨retb (decide_eq_true hkt).symm, hw.below new_nil⟩)
/-! ### Sets -/
abbrev setV (a : Option Addr) (n c : Nat) : Value := .agg #[.slice a n c]
theorem same_ok (a a' : Option Addr) (n c n' c' : Nat) (l m : List (Int × Int)) (A B : Nat → Prop) (w : World) (hx : SlR Rrun w A a n c l) (hy : SlR Rrun w B a' n' c' m) :
    Calls Try.prog 52 #[setV a n c, setV a' n' c'] w fun e w' => e = .returned (.bool (decide (l = m))) ∧ Below w.heap.size w w' := by
  refine enter2 Try.func52 rfl rfl (Hp.refl w) ?_
  repeat (first | refine T_seq ?_ | refine T_region ?_)
  refine S_new tabOk rfl (fun b hb => ?_)
  refine S_new tabOk rfl (fun b2 hb2 => ?_)
  repeat (first | refine T_seq ?_ | refine T_region ?_ | refine S_nil ?_ | refine S_pure tabOk rfl ?_ | refine S_load tabOk 0 rfl rfl rfl ?_ | refine S_load tabOk 1 rfl rfl rfl ?_)
  refine S_callq rfl Try.call77 (fun w1 h1 => equalr_ok a a' n c n' c' l m A B w1 (hx.ext (h1.below (new_cons hb2 (new_cons hb new_nil)))) (hy.ext (h1.below (new_cons hb2 (new_cons hb new_nil))))) ?_
  repeat (first | refine S_nil ?_ | refine T_ret ?_ | refine S_pure tabOk rfl ?_)
  exact ret1 rfl rfl (fun w' hw => ⟨rfl, hw.below (new_cons hb2 (new_cons hb new_nil))⟩)

theorem search_ok (m i0 : Nat) (g : FuncId) (caps : Array Value) (hm : m ≤ 4611686018427387904) (hi : i0 ≤ m) (w : World) (hcall : ∀ args w, (callFunc g args).run Try.prog w = .ok (.enter g args) w)
    (hp : ∀ w' (j : Nat), Below w.heap.size w w' → j < m → Calls Try.prog g (#[.int .i64 (j : Int)] ++ caps) w' (fun e w'' => e = .returned (.bool (decide (i0 ≤ j))) ∧ Below w'.heap.size w' w'')) :
    Calls Try.prog 67 #[.int .i64 (m : Int), .func (.func g) #[] caps] w fun e w' => e = .returned (.int .i64 (i0 : Int)) ∧ Below w.heap.size w w' := by
  refine enter2 Try.func67 rfl rfl (Hp.refl w) ?_
  repeat (first | refine T_seq ?_ | refine T_region ?_ | refine T_block ?_ | refine S_nil ?_ | refine S_pure tabOk rfl ?_)
  refine T_loop (ι := Nat × Nat) (fun i => [(1, .func (.func g) #[] caps), (5, .int .i64 (i.1 : Int)), (6, .int .i64 (i.2 : Int))])
    (fun i => []) (fun i => i.1 ≤ i0 ∧ i0 ≤ i.2 ∧ i.2 ≤ m) (fun i => i.2 - i.1) (0, m) ⟨Nat.zero_le _, hi, Nat.le_refl _⟩ (by repeat (first | exact Sub.nil | refine Sub.cons rfl ?_)) (fun _ hw => hw) ?_
  rintro ⟨lo, hh⟩ ⟨h1, h2, h3⟩
  dsimp only at h1 h2 h3 ⊢
  repeat (first | refine T_seq ?_ | refine T_region ?_ | refine S_nil ?_ | refine S_pure tabOk rfl ?_)
  refine T_cond_dec rfl (fun h => ?_) (fun h => ?_)
  · repeat (first | refine T_seq ?_ | refine T_region ?_ | refine T_block ?_ | refine pthen_normal ?_ | refine T_skip ?_ | refine S_i64 tabOk rfl (by omega) ?_ | refine S_u64 tabOk rfl (by omega) ?_ | refine S_pure tabOk rfl ?_)
    refine S_q ((Q_shr rfl rfl rfl (by decide)).eq (v' := .int .u64 (((lo + hh) / 2 : Nat) : Int)) (by
      have : (1 : Int).toNat = 1 := rfl
      rw [this, Int.pow_one]
      congr 1
      )) ?_
    repeat (first | refine T_seq ?_ | refine T_region ?_ | refine S_nil ?_ | refine S_i64 tabOk rfl (by omega) ?_ | refine S_pure tabOk rfl ?_)
    refine S_callvq (v := .bool (decide (i0 ≤ (lo + hh) / 2))) rfl rfl rfl hcall (fun w1 hw1 => hp w1 _ (hw1.below new_nil) (by omega)) ?_
    repeat (first | refine S_nil ?_ | refine S_pure tabOk rfl ?_)
    refine T_cond_ndec rfl (fun h4 => ?_) (fun h4 => ?_)
    · repeat (first | refine S_nil ?_ | refine pthen_normal ?_ | refine inb_normal ?_ | refine S_i64 tabOk rfl (by omega) ?_ | refine S_pure tabOk rfl ?_ | refine T_region_any ?_)
      exact ⟨((lo + hh) / 2 + 1, hh), ⟨by dsimp only; omega, h2, h3⟩, by repeat (first | exact Sub.nil | refine Sub.cons rfl ?_), fun _ h => h, by dsimp only; omega⟩
    · repeat (first | refine S_nil ?_ | refine pthen_normal ?_ | refine inb_normal ?_ | refine S_pure tabOk rfl ?_ | refine T_region_any ?_)
      exact ⟨(lo, (lo + hh) / 2), ⟨h1, h4, by dsimp only; omega⟩, by repeat (first | exact Sub.nil | refine Sub.cons rfl ?_), fun _ h => h, by dsimp only; omega⟩
  · repeat (first | refine T_seq ?_ | refine T_region ?_ | refine S_nil ?_ | refine pthen_normal ?_ | refine inb_hit ?_ | refine pthen_exit ?_ | refine T_ret ?_ | refine T_exit ?_ | refine S_pure tabOk rfl ?_)
    have e : lo = i0 := by omega
    subst e
    exact ret1 rfl rfl (fun w' hw => ⟨rfl, hw.below new_nil⟩)
/-- The first run that ends at x or behind it. -/
structure Thr (l : List (Int × Int)) (x : Int) (i : Nat) : Prop where
  le : i ≤ l.length
  iff : ∀ j (hj : j < l.length), x ≤ l[j].2 ↔ i ≤ j
theorem find1_ok (b b2 : Nat) (a : Option Addr) (n c j i0 : Nat) (e1 e2 : TypeId) (l : List (Int × Int)) (x : Int) (A : Nat → Prop) (w : World) (hx : SlR Rrun w A a n c l) (hb : w.heap[b]? = some (.cells ⟨[.slice a n c]⟩ e1 (0, 0))) (hb2 : w.heap[b2]? = some (.cells ⟨[.int .u64 x]⟩ e2 (0, 0))) (hj : j < n) (ht : Thr l x i0) :
    Calls Try.prog 68 #[.int .i64 (j : Int), .pointer (some ⟨b, 0, none⟩), .pointer (some ⟨b2, 0, none⟩)] w fun e w' => e = .returned (.bool (decide (i0 ≤ j))) ∧ Below w.heap.size w w' := by
  have hl := hx.len
  have hj' : j < l.length := by omega
  have hbe : b = b2 → False := by
    rintro rfl
    rw [hb] at hb2
    cases hb2
  obtain ⟨ab, off, cs, rfl, hlt, _⟩ := hx.get_ hj'
  refine enter3 Try.func68 rfl rfl ((Hp.start false hb).more (x := .blk b2 (.cells ⟨[.int .u64 x]⟩ e2 (0, 0)) false) hb2 (fun e he h => by rw [List.mem_singleton] at he; subst he; cases h)) ?_
  have hn : ∀ e ∈ [HE.blk b2 (.cells ⟨[.int .u64 x]⟩ e2 (0, 0)) false, HE.blk b (.cells ⟨[.slice (some ⟨ab, off, none⟩) n c]⟩ e1 (0, 0)) false], e.ex = true → ∀ k, e.has k → w.heap.size ≤ k := fun e he h => by
    simp only [List.mem_cons, List.not_mem_nil, or_false] at he
    rcases he with rfl | rfl <;> cases h
  repeat (first | refine T_draw (by kernel_rfl) (by kernel_rfl) ?_ | refine D_pure tabOk rfl ?_ | refine D_load tabOk 1 rfl rfl rfl ?_ | refine T_seq ?_ | refine T_region ?_ | refine S_nil ?_ | refine S_pure tabOk rfl ?_)
  refine D_q (Q_idx (sz := 2) tabOk rfl rfl rfl rfl rfl rfl rfl rfl (j := j) hj) ?_
  repeat (first | refine D_pure tabOk rfl ?_)
  refine D_load1 tabOk (v := .int .u64 l[j].2) rfl rfl (fun w' hw => run_to (hx.ext (hw.below hn)) hj') ?_
  repeat (first | refine D_all rfl ?_ | refine D_pure tabOk rfl ?_ | refine D_load tabOk 0 rfl rfl rfl ?_ | refine T_ret ?_)
  exact ret1 rfl rfl (fun w' hw => ⟨retb (dec_eq (ht.iff j hj')), hw.below hn⟩)
theorem find_ok (a : Option Addr) (n c i0 : Nat) (l : List (Int × Int)) (x : Int) (A : Nat → Prop) (w : World) (hx : SlR Rrun w A a n c l) (hn : n ≤ 1000000) (ht : Thr l x i0) :
    Calls Try.prog 39 #[setV a n c, .int .u64 x] w fun e w' => e = .returned (.int .i64 (i0 : Int)) ∧ Below w.heap.size w w' := by
  have hl := hx.len
  refine enter2 Try.func39 rfl rfl (Hp.refl w) ?_
  repeat (first | refine T_seq ?_ | refine T_region ?_)
  refine S_new tabOk rfl (fun b hb => ?_)
  refine S_new tabOk rfl (fun b2 hb2 => ?_)
  repeat (first | refine T_seq ?_ | refine T_region ?_ | refine S_nil ?_ | refine S_pure tabOk rfl ?_ | refine S_load tabOk 1 rfl rfl rfl ?_)
  refine S_q (Q_mkfn rfl rfl) ?_
  refine S_callq (v := .int .i64 (i0 : Int)) rfl Try.call67 (fun w1 h1 => search_ok n i0 _ _ (by omega) (by have := ht.le; omega) w1 Try.call68 (fun w2 j h2 hj => ?_)) ?_
  · have g1 := h1.ext h2
    exact find1_ok b b2 a n c j i0 _ _ l x A w2 (hx.ext (g1.below (new_cons hb2 (new_cons hb new_nil)))) (g1.own _ (getE_mem (i := 1) rfl)) (g1.own _ (getE_mem (i := 0) rfl)) hj ht
  repeat (first | refine S_nil ?_ | refine T_ret ?_ | refine S_pure tabOk rfl ?_)
  exact ret1 rfl rfl (fun w' hw => ⟨rfl, hw.below (new_cons hb2 (new_cons hb new_nil))⟩)

theorem grow_ok (m : Nat) (hm : m ≤ 1000000) (w : World) :
    Calls Try.prog 69 #[.slice none 0 0, .int .i64 (m : Int)] w fun e w' => ∃ a c, e = .returned (.slice a 0 c) ∧ Below w.heap.size w w' ∧ w'.ownsRow w.heap.size 47 2 (.slice a 0 c) 0 [] := by
  refine enter2 Try.func69 rfl rfl (Hp.refl w) ?_
  repeat (first | refine T_seq ?_ | refine T_region ?_ | refine S_nil ?_ | refine pthen_normal ?_ | refine T_skip ?_ | refine T_cond_f rfl ?_ | refine S_i64 tabOk rfl (by omega) ?_ | refine S_pure tabOk rfl ?_)
  refine T_cond_dec rfl (fun h => ?_) (fun h => ?_)
  · repeat (first | refine T_region ?_ | refine S_pure tabOk rfl ?_)
    refine S_q (Q_sliceTo tabOk rfl rfl rfl rfl rfl rfl (H := 0) rfl (Nat.le_refl _)) ?_
    repeat (first | refine S_pure tabOk rfl ?_)
    refine S_appz (m := m) (sz := 2) tabOk rfl rfl rfl (by omega) (by omega) rfl rfl rfl rfl rfl rfl (by decide) rfl (by simp only [maxLen]; omega) (by show _ * 16 ≤ _; omega) (fun b c cs hb h1 h2 h3 => ?_)
    repeat (first | refine S_pure tabOk rfl ?_)
    refine S_q (Q_sliceTo tabOk rfl rfl rfl rfl rfl rfl (H := 0) rfl (Nat.zero_le _)) ?_
    repeat (first | refine T_seq ?_ | refine T_region ?_ | refine S_nil ?_ | refine T_ret ?_ | refine S_pure tabOk rfl ?_)
    refine ret1 rfl rfl (fun w' hw => ⟨some ⟨b, 0, none⟩, c, rfl, hw.below (new_cons hb new_nil), ?_⟩)
    have g := Hp.closeRow (pre := []) (n := 0) (sz := 2) hw hb (Nat.zero_le _) h2 h3
    exact g.own _ (getE_mem (i := 0) rfl)
  · repeat (first | refine T_seq ?_ | refine T_region ?_ | refine S_nil ?_ | refine pthen_normal ?_ | refine T_skip ?_ | refine T_ret ?_ | refine S_pure tabOk rfl ?_)
    exact ret1 rfl rfl (fun w' hw => ⟨none, 0, rfl, hw.below new_nil, World.ownsRow_nil w' _ _ _⟩)
structure Rq where
  a : Option Addr
  n : Nat
  c : Nat
  l : List (Int × Int)
def Rq.v (p : Rq) : Value := .slice p.a p.n p.c
def catR (ps : List Rq) : List (Int × Int) := (ps.map (·.l)).flatten
theorem catR_snoc (ps : List Rq) (k : Nat) (h : k < ps.length) : catR (ps.take (k + 1)) = catR (ps.take k) ++ ps[k].l := by
  unfold catR
  rw [List.take_succ_eq_append_getElem h, List.map_append, List.flatten_append]
  simp
theorem catR_take_le (ps : List Rq) (k : Nat) : (catR (ps.take k)).length ≤ (catR ps).length := by
  have : catR ps = catR (ps.take k) ++ catR (ps.drop k) := by
    unfold catR
    rw [← List.flatten_append, ← List.map_append, List.take_append_drop]
  rw [this, List.length_append]
  omega
theorem concat_ok (h : Option Addr) (m mc : Nat) (ps : List Rq) (A : Nat → Prop) (w : World) (hm : m ≤ 1000000) (hh : Sl w 1 h m (ps.map Rq.v)) (hp : ∀ p ∈ ps, SlR Rrun w A p.a p.n p.c p.l) (hlen : (catR ps).length ≤ 1000000) :
    Calls Try.prog 40 #[.slice h m mc] w fun e w' => ∃ a c, e = .returned (.slice a (catR ps).length c) ∧ Below w.heap.size w w' ∧ w'.ownsRow w.heap.size 47 2 (.slice a (catR ps).length c) (catR ps).length (cellsR (catR ps)) := by
  have hpl : ps.length = m := by have := hh.len; simpa using this
  refine enter1 Try.func40 rfl rfl (Hp.refl w) ?_
  repeat (first | refine T_seq ?_ | refine T_region ?_ | refine S_nil ?_ | refine S_pure tabOk rfl ?_)
  refine T_cut (ι := Unit) (fun _ => True) (fun _ => [(0, .slice h m mc), (3, .int .i64 (((catR ps).length : Nat) : Int))]) (fun _ => []) ?_ ?_
  · repeat (first | refine T_block ?_)
    refine T_loop (ι := Nat) (fun i => [(0, .slice h m mc), (9, .slice h m mc), (10, .int .i64 (m : Int)), (3, .int .i64 (((catR (ps.take i)).length : Nat) : Int)), (11, .int .i64 (i : Int))])
      (fun i => []) (fun i => i ≤ m) (fun i => m - i) 0 (Nat.zero_le _) (by repeat (first | exact Sub.nil | refine Sub.cons rfl ?_)) (fun _ hw => hw) ?_
    intro k hk
    try dsimp only at hk ⊢
    repeat (first | refine T_seq ?_ | refine T_region ?_ | refine S_nil ?_ | refine S_pure tabOk rfl ?_)
    refine T_cond_dec rfl (fun h => ?_) (fun h => ?_)
    · repeat (first | refine T_seq ?_ | refine T_region ?_ | refine T_block ?_ | refine pthen_normal ?_ | refine T_skip ?_)
      have hk' : k < ps.length := by omega
      obtain ⟨b, off, rfl, hlt, hc⟩ := hh.get (by omega)
      refine S_q (Q_idx1 tabOk rfl rfl rfl rfl rfl rfl rfl rfl (j := k) (by omega)) ?_
      refine S_load1 tabOk rfl rfl (v := ps[k].v) (fun w' hw => Sl.at_ (hh.ext (hw.below new_nil)) (by omega) (by simp [hk'])) ?_
      have hpk := hp ps[k] (List.getElem_mem hk')
      have e1 := catR_snoc ps k hk'
      have hle := catR_take_le ps (k + 1)
      rw [e1, List.length_append, hpk.len] at hle
      unfold Rq.v
      repeat (first | refine T_seq ?_ | refine T_region ?_ | refine S_nil ?_ | refine pthen_normal ?_ | refine inb_normal ?_ | refine T_skip ?_ | refine T_cond_f rfl ?_ | refine S_i64 tabOk rfl (by omega) ?_ | refine S_pure tabOk rfl ?_)
      refine ⟨k + 1, by omega, ?_, fun _ h => h, by omega⟩
      simp only [e1, List.length_append, hpk.len]
      repeat (first | exact Sub.nil | refine Sub.cons rfl ?_)
    · have e : k = m := by omega
      subst e
      repeat (first | refine pthen_normal ?_ | refine inb_hit ?_ | refine pthen_exit ?_ | refine T_exit ?_)
      rw [List.take_of_length_le (by omega)]
      exact ⟨(), trivial, by repeat (first | exact Sub.nil | refine Sub.cons rfl ?_), fun _ h => h⟩
  rintro ⟨⟩ -
  repeat (first | refine T_seq ?_ | refine T_region ?_ | refine S_pure tabOk rfl ?_)
  refine S_callrow rfl Try.call69 (fun w1 h1 => grow_ok _ hlen w1) (fun a0 c0 hc0 hd0 => ?_)
  repeat (first | refine T_seq ?_ | refine T_region ?_ | refine T_block ?_ | refine S_nil ?_ | refine S_pure tabOk rfl ?_)
  refine T_loop (ι := Nat × Option Addr × Nat) (fun i => [(0, .slice h m mc), (25, .slice h m mc), (26, .int .i64 (m : Int)), (6, .slice i.2.1 (catR (ps.take i.1)).length i.2.2), (27, .int .i64 (i.1 : Int))])
    (fun i => [.row w.heap.size (.slice i.2.1 (catR (ps.take i.1)).length i.2.2) 47 2 (catR (ps.take i.1)).length (cellsR (catR (ps.take i.1)))]) (fun i => i.1 ≤ m) (fun i => m - i.1) (0, a0, c0) (Nat.zero_le _) (by repeat (first | exact Sub.nil | refine Sub.cons rfl ?_)) (fun _ hw => hw) ?_
  rintro ⟨k, a, c⟩ hk
  dsimp only at hk ⊢
  repeat (first | refine T_seq ?_ | refine T_region ?_ | refine S_nil ?_ | refine S_pure tabOk rfl ?_)
  refine T_cond_dec rfl (fun h => ?_) (fun h => ?_)
  · repeat (first | refine T_seq ?_ | refine T_region ?_ | refine T_block ?_ | refine pthen_normal ?_ | refine T_skip ?_)
    have hk' : k < ps.length := by omega
    obtain ⟨b, off, rfl, hlt, hc⟩ := hh.get (by omega)
    refine S_q (Q_idx1 tabOk rfl rfl rfl rfl rfl rfl rfl rfl (j := k) (by omega)) ?_
    refine S_load1 tabOk rfl rfl (v := ps[k].v) (fun w' hw => Sl.at_ (hh.ext (hw.below (newrow hw 0 rfl (Nat.le_refl _) new_nil))) (by omega) (by simp [hk'])) ?_
    repeat (first | refine S_nil ?_ | refine S_pure tabOk rfl ?_ | refine T_region_any ?_)
    have hpk := hp ps[k] (List.getElem_mem hk')
    have e1 := catR_snoc ps k hk'
    have hle := catR_take_le ps (k + 1)
    rw [e1, List.length_append, hpk.len] at hle
    refine S_append (ty := 0) tabOk 0 rfl rfl rfl rfl rfl rfl rfl rfl rfl (by decide) (fun w' hw => ((hpk.ext (hw.below (newrow hw 0 rfl (Nat.le_refl _) new_nil))).flat flat_run).1) (cellsR_one _) (by simp only [maxLen]; omega) (by show (_ + _) * 16 ≤ _; omega) rfl (fun A' c' h1 h2 => ⟨_, rfl, ?_⟩)
    repeat (first | refine T_region ?_ | refine S_nil ?_ | refine pthen_normal ?_ | refine inb_normal ?_ | refine S_i64 tabOk rfl (by omega) ?_ | refine S_pure tabOk rfl ?_)
    refine ⟨(k + 1, A', c'), by dsimp only; omega, ?_, ?_, by dsimp only; omega⟩
    · simp only [e1, List.length_append, hpk.len]
      repeat (first | exact Sub.nil | refine Sub.cons rfl ?_)
    · simp only [e1, List.length_append, hpk.len, cellsR_append]
      exact fun _ hw => hw
  · have e : k = m := by omega
    subst e
    repeat (first | refine T_seq ?_ | refine T_region ?_ | refine S_nil ?_ | refine pthen_normal ?_ | refine inb_hit ?_ | refine pthen_exit ?_ | refine T_ret ?_ | refine T_exit ?_ | refine S_pure tabOk rfl ?_)
    rw [List.take_of_length_le (by omega)]
    exact ret1 rfl rfl (fun w' hw => ⟨a, c, rfl, hw.below (newrow hw 0 rfl (Nat.le_refl _) new_nil), hw.own _ (getE_mem (i := 0) rfl)⟩)

abbrev Run := Int × Int
def Mem (l : List Run) (x : Int) : Prop := ∃ r ∈ l, r.1 ≤ x ∧ x ≤ r.2
structure Can (l : List Run) : Prop where
  le : ∀ r ∈ l, r.1 ≤ r.2
  gap : l.Pairwise (fun r s => r.2 + 1 < s.1)
def okL (l : List Run) : Prop := ∀ r ∈ l, okR r
theorem mem_nil (x : Int) : ¬ Mem [] x := by rintro ⟨r, hr, _⟩; cases hr
theorem mem_cons (r : Run) (l : List Run) (x : Int) : Mem (r :: l) x ↔ (r.1 ≤ x ∧ x ≤ r.2) ∨ Mem l x := by
  constructor
  · rintro ⟨s, hs, h⟩
    rcases List.mem_cons.1 hs with rfl | hs
    · exact .inl h
    · exact .inr ⟨s, hs, h⟩
  · rintro (h | ⟨s, hs, h⟩)
    · exact ⟨r, by simp, h⟩
    · exact ⟨s, List.mem_cons_of_mem _ hs, h⟩
theorem mem_append (l m : List Run) (x : Int) : Mem (l ++ m) x ↔ Mem l x ∨ Mem m x := by
  induction l with
  | nil => simp [mem_nil]
  | cons r l ih => rw [List.cons_append, mem_cons, mem_cons, ih, or_assoc]
theorem mem_one (r : Run) (x : Int) : Mem [r] x ↔ r.1 ≤ x ∧ x ≤ r.2 := by
  rw [mem_cons]
  exact ⟨fun h => h.resolve_right (mem_nil x), .inl⟩
theorem can_nil : Can [] := ⟨fun r h => (by cases h), List.Pairwise.nil⟩
theorem can_cons {r : Run} {l : List Run} : Can (r :: l) ↔ r.1 ≤ r.2 ∧ (∀ s ∈ l, r.2 + 1 < s.1) ∧ Can l := by
  constructor
  · rintro ⟨h1, h2⟩
    rw [List.pairwise_cons] at h2
    exact ⟨h1 r (by simp), h2.1, fun s hs => h1 s (List.mem_cons_of_mem _ hs), h2.2⟩
  · rintro ⟨h1, h2, h3⟩
    refine ⟨fun s hs => ?_, List.pairwise_cons.2 ⟨h2, h3.gap⟩⟩
    rcases List.mem_cons.1 hs with rfl | hs
    · exact h1
    · exact h3.le s hs
theorem can_append {l m : List Run} : Can (l ++ m) ↔ Can l ∧ Can m ∧ ∀ r ∈ l, ∀ s ∈ m, r.2 + 1 < s.1 := by
  constructor
  · rintro ⟨h1, h2⟩
    rw [List.pairwise_append] at h2
    exact ⟨⟨fun r hr => h1 r (List.mem_append.2 (.inl hr)), h2.1⟩, ⟨fun r hr => h1 r (List.mem_append.2 (.inr hr)), h2.2.1⟩, h2.2.2⟩
  · rintro ⟨h1, h2, h3⟩
    refine ⟨fun r hr => ?_, List.pairwise_append.2 ⟨h1.gap, h2.gap, h3⟩⟩
    rcases List.mem_append.1 hr with hr | hr
    · exact h1.le r hr
    · exact h2.le r hr
theorem can_head_le {r : Run} {l : List Run} (h : Can (r :: l)) {x : Int} (hx : Mem (r :: l) x) : r.1 ≤ x := by
  rw [mem_cons] at hx
  rcases hx with h1 | ⟨s, hs, h1⟩
  · exact h1.1
  · have := (can_cons.1 h).2.1 s hs
    have := (can_cons.1 h).1
    omega
/-- As few runs asx there can be are told by who is in them. -/
theorem can_ext : ∀ {l m : List Run}, Can l → Can m → (∀ x, Mem l x ↔ Mem m x) → l = m
  | [], [], _, _, _ => rfl
  | [], s :: m, _, hm, h => by
    have := (h s.1).2 ⟨s, by simp, Int.le_refl _, (can_cons.1 hm).1⟩
    exact absurd this (mem_nil _)
  | r :: l, [], hl, _, h => by
    have := (h r.1).1 ⟨r, by simp, Int.le_refl _, (can_cons.1 hl).1⟩
    exact absurd this (mem_nil _)
  | r :: l, s :: m, hl, hm, h => by
    obtain ⟨l1, l2, l3⟩ := can_cons.1 hl
    obtain ⟨m1, m2, m3⟩ := can_cons.1 hm
    have a1 : s.1 ≤ r.1 := can_head_le hm ((h r.1).1 ⟨r, by simp, Int.le_refl _, l1⟩)
    have a2 : r.1 ≤ s.1 := can_head_le hl ((h s.1).2 ⟨s, by simp, Int.le_refl _, m1⟩)
    have b1 : ¬ r.2 < s.2 := fun hlt => by
      have h1 : Mem (r :: l) (r.2 + 1) := (h _).2 ⟨s, by simp, by omega, by omega⟩
      rw [mem_cons] at h1
      rcases h1 with h1 | ⟨q, hq, h1⟩
      · omega
      · have := l2 q hq; omega
    have b2 : ¬ s.2 < r.2 := fun hlt => by
      have h1 : Mem (s :: m) (s.2 + 1) := (h _).1 ⟨r, by simp, by omega, by omega⟩
      rw [mem_cons] at h1
      rcases h1 with h1 | ⟨q, hq, h1⟩
      · omega
      · have := m2 q hq; omega
    have e : r = s := Prod.ext (by omega) (by omega)
    subst e
    have htail : ∀ x, Mem l x ↔ Mem m x := by
      intro x
      have hx := h x
      rw [mem_cons, mem_cons] at hx
      constructor
      · intro h1
        rcases hx.1 (.inr h1) with h2 | h2
        · obtain ⟨q, hq, h3⟩ := h1
          have := l2 q hq; omega
        · exact h2
      · intro h1
        rcases hx.2 (.inr h1) with h2 | h2
        · obtain ⟨q, hq, h3⟩ := h1
          have := m2 q hq; omega
        · exact h2
    rw [can_ext l3 m3 htail]
theorem can_lt {l : List Run} (h : Can l) {i j : Nat} (hij : i < j) (hj : j < l.length) : (l[i]'(by omega)).2 + 1 < l[j].1 :=
  List.pairwise_iff_getElem.1 h.gap i j (by omega) hj hij
theorem can_le {l : List Run} (h : Can l) {i : Nat} (hi : i < l.length) : l[i].1 ≤ l[i].2 := h.le _ (List.getElem_mem hi)
theorem mem_at {l : List Run} {x : Int} : Mem l x ↔ ∃ (i : Nat) (hi : i < l.length), l[i].1 ≤ x ∧ x ≤ l[i].2 := by
  constructor
  · rintro ⟨r, hr, h⟩
    obtain ⟨i, hi, rfl⟩ := List.getElem_of_mem hr
    exact ⟨i, hi, h⟩
  · rintro ⟨i, hi, h⟩
    exact ⟨_, List.getElem_mem hi, h⟩
theorem thr_exists {l : List Run} (h : Can l) (x : Int) : ∃ i, Thr l x i := by
  have key : ∀ k, k ≤ l.length → (∃ i, Thr l x i) ∨ ∀ j (hj : j < l.length), j < k → l[j].2 < x := by
    intro k
    induction k with
    | zero => exact fun _ => .inr fun j hj hjk => by omega
    | succ k ih =>
      intro hk
      rcases ih (by omega) with h1 | h1
      · exact .inl h1
      · by_cases h2 : x ≤ (l[k]'(by omega)).2
        · refine .inl ⟨k, by omega, fun j hj => ⟨fun h3 => ?_, fun h3 => ?_⟩⟩
          · rcases Nat.lt_or_ge j k with h4 | h4
            · have := h1 j hj h4; omega
            · exact h4
          · rcases Nat.lt_or_ge k j with h4 | h4
            · have := can_lt h h4 hj
              have := can_le h hj
              omega
            · have : j = k := by omega
              subst this
              exact h2
        · refine .inr fun j hj hjk => ?_
          by_cases h4 : j = k
          · subst h4; omega
          · exact h1 j hj (by omega)
  rcases key l.length (Nat.le_refl _) with h1 | h1
  · exact h1
  · exact ⟨l.length, Nat.le_refl _, fun j hj => ⟨fun h2 => by have := h1 j hj hj; omega, fun h2 => by omega⟩⟩
/-! ### A run more -/
structure SpI (l : List Run) (f t : Int) (i k : Nat) (a b : Int) : Prop where
  ik : i ≤ k
  kn : k ≤ l.length
  af : a ≤ f
  tb : t ≤ b
  a' : a = f ∨ ∃ (j : Nat) (hj : j < l.length), i ≤ j ∧ a = l[j].1
  b' : b = t ∨ ∃ (j : Nat) (hj : j < l.length), i ≤ j ∧ b = l[j].2
  mem : ∀ x, (a ≤ x ∧ x ≤ b) ↔ (f ≤ x ∧ x ≤ t) ∨ ∃ (j : Nat) (hj : j < l.length), i ≤ j ∧ j < k ∧ l[j].1 ≤ x ∧ x ≤ l[j].2
theorem spi_start {l : List Run} {f t : Int} {i : Nat} (hi : i ≤ l.length) : SpI l f t i i f t :=
  ⟨Nat.le_refl _, hi, Int.le_refl _, Int.le_refl _, .inl rfl, .inl rfl, fun x => ⟨.inl, fun h => by
    rcases h with h | ⟨j, hj, h1, h2, _⟩
    · exact h
    · omega⟩⟩
theorem spi_step {l : List Run} {f t : Int} {i k : Nat} {a b : Int} (hc : Can l) (hok : okL l) (h : SpI l f t i k a b) (hft : f ≤ t) (hf : 0 ≤ f) (ht : Thr l (f - min f 1) i) (hk : k < l.length) (hle : l[k].1 - min l[k].1 1 ≤ b) : SpI l f t i (k + 1) (min a l[k].1) (max b l[k].2) := by
  have h1 := h.ik
  have h2 := h.af
  have h3 := h.tb
  have h4 := (ht.iff k hk).2 h1
  have h5 := can_le hc hk
  have h6 := (fits_u64 (hok _ (List.getElem_mem hk)).1)
  refine ⟨by omega, by omega, by omega, by omega, ?_, ?_, fun x => ?_⟩
  · rcases Int.le_total a l[k].1 with e | e
    · rw [Int.min_eq_left e]; exact h.a'
    · rw [Int.min_eq_right e]; exact .inr ⟨k, hk, h1, rfl⟩
  · rcases Int.le_total b l[k].2 with e | e
    · rw [Int.max_eq_right e]; exact .inr ⟨k, hk, h1, rfl⟩
    · rw [Int.max_eq_left e]; exact h.b'
  · have hm := h.mem x
    constructor
    · intro hx
      by_cases h7 : a ≤ x ∧ x ≤ b
      · rcases hm.1 h7 with h8 | ⟨j, hj, g1, g2, g3⟩
        · exact .inl h8
        · exact .inr ⟨j, hj, g1, by omega, g3⟩
      · exact .inr ⟨k, hk, h1, by omega, by omega, by omega⟩
    · rintro (h8 | ⟨j, hj, g1, g2, g3, g4⟩)
      · have := hm.2 (.inl h8); omega
      · by_cases e : j = k
        · subst e; omega
        · have := hm.2 (.inr ⟨j, hj, g1, by omega, g3, g4⟩); omega
theorem spi_end {l : List Run} {f t : Int} {i k : Nat} {a b : Int} (hc : Can l) (hok : okL l) (h : SpI l f t i k a b) (hft : f ≤ t) (hf : 0 ≤ f) (ht : Thr l (f - min f 1) i) (hend : ∀ hk : k < l.length, b < l[k].1 - min l[k].1 1) (hf' : Fits .u64 f) (ht' : Fits .u64 t) :
    Can (l.take i ++ ([(a, b)] ++ l.drop k)) ∧ okL (l.take i ++ ([(a, b)] ++ l.drop k)) ∧ (∀ x, Mem (l.take i ++ ([(a, b)] ++ l.drop k)) x ↔ Mem l x ∨ (f ≤ x ∧ x ≤ t)) ∧ (l.take i ++ ([(a, b)] ++ l.drop k)).length ≤ l.length + 1 := by
  have h1 := h.ik
  have h2 := h.af
  have h3 := h.tb
  have hkn := h.kn
  have hleft : ∀ (j : Nat) (hj : j < l.length), j < i → l[j].2 + 1 < a := by
    intro j hj hji
    have h5 : ¬ (f - min f 1 ≤ l[j].2) := fun hh => by have := (ht.iff j hj).1 hh; omega
    have h6 := (fits_u64 (hok _ (List.getElem_mem hj)).2)
    rcases h.a' with e | ⟨j', hj', g1, e⟩
    · omega
    · have := can_lt hc (show j < j' by omega) hj'; omega
  have hright : ∀ (j : Nat) (hj : j < l.length), k ≤ j → b + 1 < l[j].1 := by
    intro j hj hkj
    have h5 := hend (by omega)
    have h6 := (fits_u64 (hok _ (List.getElem_mem (show k < l.length by omega))).1)
    by_cases e : j = k
    · subst e; omega
    · have := can_lt hc (show k < j by omega) hj
      have := can_le hc (show k < l.length by omega)
      omega
  have hct : Can (l.take i) := ⟨fun r hr => hc.le r (List.mem_of_mem_take hr), hc.gap.sublist (List.take_sublist _ _)⟩
  have hcd : Can (l.drop k) := ⟨fun r hr => hc.le r (List.mem_of_mem_drop hr), hc.gap.sublist (List.drop_sublist _ _)⟩
  refine ⟨can_append.2 ⟨hct, can_append.2 ⟨can_cons.2 ⟨by show a ≤ b; omega, fun s hs => (by cases hs), can_nil⟩, hcd, fun r hr s hs => ?_⟩, fun r hr s hs => ?_⟩, fun r hr => ?_, fun x => ?_, ?_⟩
  · rw [List.mem_singleton] at hr
    subst hr
    obtain ⟨j, hj, rfl⟩ := List.getElem_of_mem hs
    rw [List.getElem_drop]
    rw [List.length_drop] at hj
    exact hright (k + j) (by omega) (by omega)
  · obtain ⟨j, hj, rfl⟩ := List.getElem_of_mem hr
    rw [List.getElem_take]
    rw [List.length_take] at hj
    rcases List.mem_append.1 hs with hs | hs
    · rw [List.mem_singleton] at hs
      subst hs
      exact hleft j (by omega) (by omega)
    · obtain ⟨j', hj', rfl⟩ := List.getElem_of_mem hs
      rw [List.getElem_drop]
      rw [List.length_drop] at hj'
      exact can_lt hc (by omega) (by omega)
  · rcases List.mem_append.1 hr with hr | hr
    · exact hok r (List.mem_of_mem_take hr)
    · rcases List.mem_append.1 hr with hr | hr
      · rw [List.mem_singleton] at hr
        subst hr
        refine ⟨?_, ?_⟩
        · show Fits .u64 a
          rcases h.a' with e | ⟨j, hj, _, e⟩
          · rw [e]; exact hf'
          · rw [e]; exact (hok _ (List.getElem_mem hj)).1
        · show Fits .u64 b
          rcases h.b' with e | ⟨j, hj, _, e⟩
          · rw [e]; exact ht'
          · rw [e]; exact (hok _ (List.getElem_mem hj)).2
      · exact hok r (List.mem_of_mem_drop hr)
  · rw [mem_append, mem_append, mem_one]
    have hm := h.mem x
    constructor
    · rintro (⟨r, hr, g⟩ | g | ⟨r, hr, g⟩)
      · exact .inl ⟨r, List.mem_of_mem_take hr, g⟩
      · rcases hm.1 g with g1 | ⟨j, hj, _, _, g1⟩
        · exact .inr g1
        · exact .inl ⟨_, List.getElem_mem hj, g1⟩
      · exact .inl ⟨r, List.mem_of_mem_drop hr, g⟩
    · rintro (g | g)
      · obtain ⟨j, hj, g1⟩ := mem_at.1 g
        rcases Nat.lt_or_ge j i with g2 | g2
        · exact .inl (mem_at.2 ⟨j, by rw [List.length_take]; omega, by rw [List.getElem_take]; exact g1⟩)
        · rcases Nat.lt_or_ge j k with g3 | g3
          · exact .inr (.inl (hm.2 (.inr ⟨j, hj, g2, g3, g1⟩)))
          · refine .inr (.inr (mem_at.2 ⟨j - k, by rw [List.length_drop]; omega, ?_⟩))
            rw [List.getElem_drop]
            have e : k + (j - k) = j := by omega
            simp only [e]
            exact g1
      · exact .inr (.inl (hm.2 (.inl g)))
  · simp only [List.length_append, List.length_take, List.length_drop, List.length_cons, List.length_nil]
    omega

theorem slr_okL {w : World} {A : Nat → Prop} {a : Option Addr} {n c : Nat} {l : List Run} (h : SlR Rrun w A a n c l) : okL l := (h.flat flat_run).2
theorem set_val {w : World} {A : Nat → Prop} {a : Option Addr} {n c : Nat} {l : List Run} (h : SlR Rrun w A a n c l) : Rset.val w A (setV a n c) l := ⟨_, rfl, a, n, c, rfl, h⟩
theorem set_form {w : World} {A : Nat → Prop} {v : Value} {l : List Run} (h : Rset.val w A v l) : ∃ a n c, v = setV a n c ∧ SlR Rrun w A a n c l := by
  obtain ⟨cs, rfl, a, n, c, rfl, h⟩ := h
  exact ⟨a, n, c, rfl, h⟩
theorem set_of {w : World} {A : Nat → Prop} {a : Option Addr} {n c : Nat} {l : List Run} (h : Rset.val w A (setV a n c) l) : SlR Rrun w A a n c l := by
  obtain ⟨a', n', c', e, h⟩ := set_form h
  cases e
  exact h
structure SpanOf (l : List Run) (f t : Int) (m : List Run) : Prop where
  can : Can m
  mem : ∀ x, Mem m x ↔ Mem l x ∨ (f ≤ x ∧ x ≤ t)
  len : m.length ≤ l.length + 1
theorem span_ok (a : Option Addr) (n c : Nat) (l : List Run) (f t : Int) (A : Nat → Prop) (w : World) (hA : ∀ k, w.heap.size ≤ k → A k) (hx : SlR Rrun w A a n c l) (hc : Can l) (hn : n ≤ 900000) (hf : Fits .u64 f) (ht : Fits .u64 t) :
    Calls Try.prog 11 #[setV a n c, .int .u64 f, .int .u64 t] w fun e w' => ∃ v m, e = .returned v ∧ Below w.heap.size w w' ∧ SpanOf l f t m ∧ Rset.val w' A v m := by
  have hl := hx.len
  have hcap := hx.cap
  have hmx := hx.max
  have hok := slr_okL hx
  have hf' := fits_u64 hf
  have ht' := fits_u64 ht
  simp only [maxLen] at hmx
  refine enter3 Try.func11 rfl rfl (Hp.refl w) ?_
  repeat (first | refine T_seq ?_ | refine T_region ?_)
  refine S_new tabOk rfl (fun b hb => ?_)
  refine S_new tabOk rfl (fun b6 hb6 => ?_)
  repeat (first | refine T_seq ?_ | refine T_region ?_ | refine S_nil ?_ | refine S_pure tabOk rfl ?_)
  refine T_cond_dec rfl (fun h => ?_) (fun h => ?_)
  · repeat (first | refine T_seq ?_ | refine T_region ?_ | refine S_nil ?_ | refine pthen_ret ?_ | refine T_ret ?_ | refine S_load tabOk 1 rfl rfl rfl ?_ | refine S_store tabOk 0 rfl rfl rfl rfl rfl rfl ?_)
    exact ret1 rfl (res_cell tabOk 0 rfl rfl rfl rfl) (fun w' hw => ⟨_, l, rfl, hw.below (new_cons hb6 (new_cons hb new_nil)), ⟨hc, fun x => ⟨.inl, fun h1 => h1.resolve_right (by omega)⟩, by omega⟩, set_val (hx.ext (hw.below (new_cons hb6 (new_cons hb new_nil))))⟩)
  have hft : f ≤ t := by omega
  obtain ⟨i, hi⟩ := thr_exists hc (f - min f 1)
  have hil := hi.le
  repeat (first | refine T_seq ?_ | refine T_region ?_ | refine pthen_normal ?_ | refine T_skip ?_ | refine S_u64 tabOk rfl (by omega) ?_ | refine S_pure tabOk rfl ?_ | refine S_load tabOk 1 rfl rfl rfl ?_)
  refine S_callq (v := .int .i64 (i : Int)) rfl Try.call39 (fun w1 h1 => find_ok a n c i l _ A w1 (hx.ext (h1.below (new_cons hb6 (new_cons hb new_nil)))) (by omega) hi) ?_
  repeat (first | refine T_seq ?_ | refine T_region ?_ | refine S_nil ?_ | refine S_pure tabOk rfl ?_)
  refine T_cut (ι := Nat × Int × Int) (fun i' => SpI l f t i i'.1 i'.2.1 i'.2.2 ∧ ∀ hk : i'.1 < l.length, i'.2.2 < l[i'.1].1 - min l[i'.1].1 1) (fun i' => [(1, .int .u64 i'.2.1), (2, .int .u64 i'.2.2), (3, .pointer (some ⟨b, 0, none⟩)), (6, .pointer (some ⟨b6, 0, none⟩)), (7, .int .i64 (i : Int)), (8, .int .i64 (i'.1 : Int))]) (fun _ => [.blk b6 (.cells ⟨[.slice none 0 0]⟩ 44 (0, 0)) true, .blk b (.cells ⟨[.slice a n c]⟩ 44 (0, 0)) true]) ?_ ?_
  · repeat (first | refine T_block ?_)
    refine T_loop (ι := Nat × Int × Int) (fun i' => [(1, .int .u64 i'.2.1), (2, .int .u64 i'.2.2), (3, .pointer (some ⟨b, 0, none⟩)), (6, .pointer (some ⟨b6, 0, none⟩)), (7, .int .i64 (i : Int)), (8, .int .i64 (i'.1 : Int))])
      (fun _ => [.blk b6 (.cells ⟨[.slice none 0 0]⟩ 44 (0, 0)) true, .blk b (.cells ⟨[.slice a n c]⟩ 44 (0, 0)) true]) (fun i' => SpI l f t i i'.1 i'.2.1 i'.2.2) (fun i' => n - i'.1) (i, f, t) (spi_start hil) (by repeat (first | exact Sub.nil | refine Sub.cons rfl ?_)) (fun _ hw => hw) ?_
    rintro ⟨k, fr, to⟩ hI
    dsimp only at hI ⊢
    have hkn := hI.kn
    have haf := hI.af
    have htb := hI.tb
    repeat (first | refine T_draw (by kernel_rfl) (by kernel_rfl) ?_ | refine D_pure tabOk rfl ?_ | refine D_load tabOk 1 rfl rfl rfl ?_ | refine T_seq ?_)
    refine D_split rfl rfl (fun h1 => ?_) (fun h1 => ?_)
    · have hk : k < l.length := by omega
      have hokk := hok _ (List.getElem_mem hk)
      have hu1 := fits_u64 hokk.1
      have hu2 := fits_u64 hokk.2
      obtain ⟨ab, off, cs, rfl, hlt, _⟩ := hx.get_ hk
      repeat (first | refine D_pure tabOk rfl ?_ | refine D_load tabOk 1 rfl rfl rfl ?_)
      refine D_q (Q_idx (sz := 2) tabOk rfl rfl rfl rfl rfl rfl rfl rfl (j := k) (by omega)) ?_
      repeat (first | refine D_pure tabOk rfl ?_)
      refine D_load1 tabOk (v := .int .u64 l[k].1) rfl rfl (fun w' hw => run_from (hx.ext (hw.below (new_cons hb6 (new_cons hb new_nil)))) hk) ?_
      repeat (first | refine D_pure tabOk rfl ?_ | refine D_load tabOk 1 rfl rfl rfl ?_)
      refine D_q (Q_idx (sz := 2) tabOk rfl rfl rfl rfl rfl rfl rfl rfl (j := k) (by omega)) ?_
      repeat (first | refine D_pure tabOk rfl ?_)
      refine D_load1 tabOk (v := .int .u64 l[k].1) rfl rfl (fun w' hw => run_from (hx.ext (hw.below (new_cons hb6 (new_cons hb new_nil)))) hk) ?_
      repeat (first | refine D_all rfl ?_ | refine D_u64 tabOk rfl (by omega) ?_ | refine D_pure tabOk rfl ?_)
      refine T_cond_dec rfl (fun h2 => ?_) (fun h2 => ?_)
      · repeat (first | refine T_draw (by kernel_rfl) (by kernel_rfl) ?_ | refine D_pure tabOk rfl ?_ | refine D_load tabOk 1 rfl rfl rfl ?_ | refine T_seq ?_ | refine T_block ?_ | refine pthen_normal ?_ | refine T_skip ?_)
        refine D_q (Q_idx (sz := 2) tabOk rfl rfl rfl rfl rfl rfl rfl rfl (j := k) (by omega)) ?_
        repeat (first | refine D_pure tabOk rfl ?_)
        refine D_load1 tabOk (v := .int .u64 l[k].1) rfl rfl (fun w' hw => run_from (hx.ext (hw.below (new_cons hb6 (new_cons hb new_nil)))) hk) ?_
        repeat (first | refine D_pure tabOk rfl ?_ | refine D_load tabOk 1 rfl rfl rfl ?_)
        refine D_q (Q_idx (sz := 2) tabOk rfl rfl rfl rfl rfl rfl rfl rfl (j := k) (by omega)) ?_
        repeat (first | refine D_pure tabOk rfl ?_)
        refine D_load1 tabOk (v := .int .u64 l[k].2) rfl rfl (fun w' hw => run_to (hx.ext (hw.below (new_cons hb6 (new_cons hb new_nil)))) hk) ?_
        repeat (first | refine D_all rfl ?_ | refine D_pure tabOk rfl ?_ | refine S_nil ?_ | refine pthen_normal ?_ | refine inb_normal ?_ | refine S_i64 tabOk rfl (by omega) ?_ | refine S_pure tabOk rfl ?_ | refine T_region_any ?_)
        exact ⟨(k + 1, min fr l[k].1, max to l[k].2), spi_step hc hok hI hft hf'.1 hi hk (by omega), by repeat (first | exact Sub.nil | refine Sub.cons rfl ?_), fun _ h => h, by dsimp only; omega⟩
      · repeat (first | refine pthen_normal ?_ | refine inb_hit ?_ | refine pthen_exit ?_ | refine T_exit ?_)
        exact ⟨(k, fr, to), ⟨hI, fun hk => by dsimp only at hk ⊢; omega⟩, by repeat (first | exact Sub.nil | refine Sub.cons rfl ?_), fun _ h => h⟩
    · repeat (first | refine D_all rfl ?_ | refine D_pure tabOk rfl ?_ | refine D_pass rfl rfl rfl ?_ | refine pthen_normal ?_ | refine inb_hit ?_ | refine pthen_exit ?_ | refine T_exit ?_ | refine T_cond_f rfl ?_)
      exact ⟨(k, fr, to), ⟨hI, fun hk => absurd hk (by dsimp only; omega)⟩, by repeat (first | exact Sub.nil | refine Sub.cons rfl ?_), fun _ h => h⟩
  rintro ⟨k, fr, to⟩ ⟨hI, hend⟩
  dsimp only at hI hend ⊢
  obtain ⟨e1, e2, e3, e4⟩ := spi_end hc hok hI hft hf'.1 hi hend hf ht
  have hkn := hI.kn
  have hik := hI.ik
  repeat (first | refine T_seq ?_)
  refine T_drawT (by kernel_rfl) 12 rfl (by kernel_rfl) ?_
  repeat (first | refine D_pure tabOk rfl ?_ | refine D_load tabOk 1 rfl rfl rfl ?_)
  refine D_q (Q_sliceTo tabOk rfl rfl rfl rfl rfl rfl (H := i) rfl (by omega)) ?_
  repeat (first | refine D_pure tabOk rfl ?_ | refine D_q (Q_build tabOk rfl rfl rfl rfl rfl rfl rfl) ?_)
  refine D_bsliceF tabOk rfl rfl rfl rfl rfl rfl rfl rfl rfl rfl rfl rfl ?_
  repeat (first | refine D_pure tabOk rfl ?_ | refine D_load tabOk 1 rfl rfl rfl ?_)
  refine D_q (Q_sliceFrom (sz := 2) tabOk rfl rfl rfl rfl rfl rfl rfl (L := k) rfl (by omega) (by omega)) ?_
  refine D_outB 68 rfl (by repeat (first | exact exs_refl)) (fun b2 hb2 => ?_)
  refine D_allP rfl ?_
  refine S_bslice tabOk rfl rfl rfl rfl rfl rfl rfl rfl rfl rfl rfl rfl (fun b3 hb3 => ?_)
  obtain ⟨ps, hps⟩ : ∃ ps : List Rq, ps = [⟨a, i, c, l.take i⟩, ⟨some ⟨b2, 0, none⟩, 1, 1, [(fr, to)]⟩, ⟨if c = k then a else a.map (·.add (k * 2)), n - k, c - k, l.drop k⟩] := ⟨_, rfl⟩
  have ecat : catR ps = l.take i ++ ([(fr, to)] ++ l.drop k) := by
    rw [hps]
    simp only [catR, List.map_cons, List.map_nil, List.flatten_cons, List.flatten_nil, List.append_nil]
  refine S_callrow rfl Try.call40 (fun w1 h1 => concat_ok (some ⟨b3, 0, none⟩) 3 3 ps TT w1 (by decide) (Sl.of_blk (h1.own _ (getE_mem (i := 0) rfl)) (by rw [hps]; rfl) (fun j u hu => by rw [Nat.zero_add, ← hu, hps]; rfl)) (fun p hp => ?_) (by rw [ecat]; omega)) (fun a1 c1 hc1 hd1 => ?_)
  · have hx1 := hx.ext (h1.below (new_cons hb3 (new_cons hb2 (new_cons hb6 (new_cons hb new_nil)))))
    rw [hps] at hp
    simp only [List.mem_cons, List.not_mem_nil, or_false] at hp
    rcases hp with rfl | rfl | rfl
    · exact (hx1.take (show i ≤ n by omega)).tt
    · exact .of_flat flat_run rfl (Nat.le_refl _) (show 1 ≤ maxLen by decide) (fun h => by cases h) (Sl.of_blk (xs := encR (fr, to)) (h1.own _ (getE_mem (i := 1) rfl)) rfl (fun j u hu => by rw [Nat.zero_add]; exact hu)) (fun p hp => e2 p (by rw [List.mem_singleton] at hp; subst hp; simp)) (fun _ => ⟨_, _, rfl, trivial⟩)
    · exact (hx1.drop (show k ≤ n by omega)).tt
  rw [ecat]
  repeat (first | refine S_nil ?_ | refine T_ret ?_ | refine S_store tabOk 3 rfl rfl rfl rfl rfl rfl ?_ | refine S_q (Q_build tabOk rfl rfl rfl rfl rfl rfl rfl) ?_)
  refine ret1 rfl (res_cell tabOk 3 rfl rfl rfl rfl) (fun w' hw => ⟨_, _, rfl, hw.below ?_, ⟨e1, e3, e4⟩, set_val (slr_row (hw.own _ (getE_mem (i := 0) rfl)) e2 hA)⟩)
  exact newrow hw 0 rfl (Nat.le_refl _) (new_cons hb3 (new_cons hb2 (new_cons hb6 (new_cons hb new_nil))))

theorem add_ok (a : Option Addr) (n c : Nat) (l : List Run) (f : Int) (A : Nat → Prop) (w : World) (hA : ∀ k, w.heap.size ≤ k → A k) (hx : SlR Rrun w A a n c l) (hc : Can l) (hn : n ≤ 900000) (hf : Fits .u64 f) :
    Calls Try.prog 59 #[setV a n c, .int .u64 f] w fun e w' => ∃ v m, e = .returned v ∧ Below w.heap.size w w' ∧ SpanOf l f f m ∧ Rset.val w' A v m := by
  refine enter2 Try.func59 rfl rfl (Hp.refl w) ?_
  repeat (first | refine T_seq ?_ | refine T_region ?_)
  refine S_new tabOk rfl (fun b hb => ?_)
  refine S_new tabOk rfl (fun b4 hb4 => ?_)
  repeat (first | refine T_seq ?_ | refine T_region ?_ | refine S_nil ?_ | refine S_pure tabOk rfl ?_ | refine S_load tabOk 1 rfl rfl rfl ?_)
  refine S_callX (SpanOf l f f) (fun m => Rset.vp m) A rfl Try.call11 (fun w1 h1 => (span_ok a n c l f f (BB w A _) w1 (fun k hk => BB_new h1 hk) (hx.old h1 (by repeat (first | exact new_nil | refine new_cons (by first | assumption | omega) ?_))) hc hn hf hf).mono fun e w' ⟨v, m, e1, e2, e3, e4⟩ => ⟨v, m, e1, e2, e3, e4⟩) (fun m v F w1 hm hF hv => ?_)
  obtain ⟨a1, n1, c1, rfl, hv1⟩ := set_form hv
  repeat (first | refine S_nil ?_ | refine T_ret ?_ | refine S_store tabOk 1 rfl rfl rfl rfl rfl rfl ?_)
  refine ret1 rfl (res_cell tabOk 1 rfl rfl rfl rfl) (fun w' hw => ⟨_, m, rfl, hw.below (by repeat (first | exact new_nil | refine new_ro ?_ | refine new_cons (by first | assumption | omega) ?_)), hm, ?_⟩)
  exact Vp.mono (Rset.vp m) (Vp.fact0 hw 0 rfl) fun k hk => (hF k hk).elim id fun h => hA k h
/-- A set of runs that lie asx they like. -/
structure SetOf (l m : List Run) : Prop where
  can : Can m
  mem : ∀ x, Mem m x ↔ Mem l x
  len : m.length ≤ l.length
theorem setOf_nil : SetOf [] [] := ⟨can_nil, fun x => Iff.rfl, Nat.le_refl _⟩
theorem mem_take_succ {l : List Run} {k : Nat} (hk : k < l.length) (x : Int) : Mem (l.take (k + 1)) x ↔ Mem (l.take k) x ∨ (l[k].1 ≤ x ∧ x ≤ l[k].2) := by
  rw [List.take_succ_eq_append_getElem hk, mem_append, mem_one]
theorem setOf_step {l m m' : List Run} {k : Nat} (hk : k < l.length) (h : SetOf (l.take k) m) (h' : SpanOf m l[k].1 l[k].2 m') : SetOf (l.take (k + 1)) m' :=
  ⟨h'.can, fun x => by rw [h'.mem, h.mem, mem_take_succ hk], by
    have := h.len
    have := h'.len
    rw [List.length_take] at *
    omega⟩

structure OfN (l : List Int) (m : List Run) : Prop where
  can : Can m
  mem : ∀ x, Mem m x ↔ x ∈ l
  len : m.length ≤ l.length
theorem ofn_step {l : List Int} {m m' : List Run} {k : Nat} (hk : k < l.length) (h : OfN (l.take k) m) (h' : SpanOf m l[k] l[k] m') : OfN (l.take (k + 1)) m' :=
  ⟨h'.can, fun x => by
    rw [h'.mem, h.mem, List.take_succ_eq_append_getElem hk, List.mem_append, List.mem_singleton]
    exact ⟨fun h => h.imp id fun h => by omega, fun h => h.imp id fun h => by omega⟩, by
    have := h.len
    have := h'.len
    rw [List.length_take] at *
    omega⟩
theorem of_ok (a : Option Addr) (n c : Nat) (l : List Int) (A : Nat → Prop) (w : World) (hx : SlR (Rint .u64) w A a n c l) (hn : n ≤ 800000) :
    Calls Try.prog 32 #[.slice a n c] w fun e w' => ∃ v m, e = .returned v ∧ Below w.heap.size w w' ∧ OfN l m ∧ Rset.val w' (fun k => w.heap.size ≤ k) v m := by
  have hl := hx.len
  have hok := hx.ints.fits
  have hxi := hx.ints.sl
  refine enter1 Try.func32 rfl rfl (Hp.refl w) ?_
  repeat (first | refine T_seq ?_ | refine T_region ?_)
  refine S_new tabOk rfl (fun b hb => ?_)
  repeat (first | refine T_seq ?_ | refine T_region ?_ | refine S_nil ?_)
  refine S_new tabOk rfl (fun b3 hb3 => ?_)
  repeat (first | refine T_seq ?_ | refine T_region ?_ | refine T_block ?_ | refine S_nil ?_ | refine S_pure tabOk rfl ?_)
  refine T_loop (ι := Nat × List Run × Option Addr × Nat × Nat × (Nat → Prop)) (fun i => [(0, .slice a n c), (2, .pointer (some ⟨b, 0, none⟩)), (3, .pointer (some ⟨b3, 0, none⟩)), (6, .slice a n c), (7, .int .i64 (n : Int)), (8, .int .i64 (i.1 : Int))])
    (fun i => [.rep (fun w => (Rset.vp i.2.1).at_ w i.2.2.2.2.2 (setV i.2.2.1 i.2.2.2.1 i.2.2.2.2.1)) i.2.2.2.2.2 false, .blk b3 (.cells ⟨[.slice i.2.2.1 i.2.2.2.1 i.2.2.2.2.1]⟩ 44 (0, 0)) true, .blk b (.cells ⟨[.slice none 0 0]⟩ 44 (0, 0)) true])
    (fun i => i.1 ≤ n ∧ OfN (l.take i.1) i.2.1 ∧ ∀ k, i.2.2.2.2.2 k → w.heap.size ≤ k) (fun i => n - i.1) (0, [], none, 0, 0, fun _ => False) ⟨Nat.zero_le _, ⟨can_nil, fun x => ⟨fun h => absurd h (mem_nil x), fun h => by cases h⟩, Nat.zero_le _⟩, fun k hk => hk.elim⟩ (by repeat (first | exact Sub.nil | refine Sub.cons rfl ?_)) (fun w' hw => hw.addN (Rset.vp []) fun w1 => set_val SlR.nil_) ?_
  rintro ⟨k, m, a1, n1, c1, F1⟩ ⟨hk, hm, hF1⟩
  dsimp only at hk hm hF1 ⊢
  repeat (first | refine T_seq ?_ | refine T_region ?_ | refine S_nil ?_ | refine S_pure tabOk rfl ?_)
  refine T_cond_dec rfl (fun h => ?_) (fun h => ?_)
  · have hk' : k < l.length := by omega
    obtain ⟨ab, off, cs, rfl, hlt, _⟩ := hx.get_ hk'
    repeat (first | refine T_seq ?_ | refine T_region ?_ | refine T_block ?_ | refine pthen_normal ?_ | refine T_skip ?_)
    refine S_q (Q_idx1 tabOk rfl rfl rfl rfl rfl rfl rfl rfl (j := k) (by omega)) ?_
    refine S_load1 tabOk (v := .int .u64 l[k]) rfl rfl (fun w' hw => (hxi.ext (hw.below (by repeat (first | exact new_nil | refine new_ro ?_ | refine new_cons (by first | assumption | omega) ?_)))).at_ (by omega) (by rw [List.getElem?_map, List.getElem?_eq_getElem hk']; rfl)) ?_
    repeat (first | refine S_nil ?_ | refine S_pure tabOk rfl ?_ | refine T_region_any ?_ | refine S_load tabOk 1 rfl rfl rfl ?_)
    have hlen := hm.len
    rw [List.length_take] at hlen
    refine S_callX (SpanOf m l[k] l[k]) (fun m => Rset.vp m) (fun k => w.heap.size ≤ k) rfl Try.call59 (fun w1 h1 => ?_) (fun m2 v F w1 hm2 hF hv => ?_)
    · have hv1 := set_of (Vp.fact (p := Rset.vp m) (A := fun k => w.heap.size ≤ k) h1 0 rfl fun k hk => .inl (hF1 k hk))
      have hln := hv1.len
      exact add_ok a1 n1 c1 m _ _ w1 (fun k hk => BB_new h1 hk) hv1 hm.can (by omega) (hok _ (List.getElem_mem hk'))
    obtain ⟨a2, n2, c2, rfl, hv2⟩ := set_form hv
    repeat (first | refine T_region ?_ | refine S_nil ?_ | refine pthen_normal ?_ | refine inb_normal ?_ | refine S_i64 tabOk rfl (by omega) ?_ | refine S_pure tabOk rfl ?_ | refine S_store tabOk 2 rfl rfl rfl rfl rfl rfl ?_)
    exact ⟨(k + 1, m2, a2, n2, c2, F), ⟨by dsimp only; omega, ofn_step hk' hm hm2, fun k hk => (hF k hk).elim id id⟩, by repeat (first | exact Sub.nil | refine Sub.cons rfl ?_), fun w' hw => hw.fewer (by repeat (first | exact new_nil | refine new_ro ?_ | refine new_cons (by first | assumption | omega) ?_)) (by repeat (first | exact List.Sublist.slnil | refine List.Sublist.cons_cons _ ?_ | refine List.Sublist.cons _ ?_)), by dsimp only; omega⟩
  · have e : k = n := by omega
    subst e
    rw [List.take_of_length_le (by omega)] at hm
    repeat (first | refine T_seq ?_ | refine T_region ?_ | refine S_nil ?_ | refine pthen_normal ?_ | refine inb_hit ?_ | refine pthen_exit ?_ | refine T_ret ?_ | refine T_exit ?_ | refine S_load tabOk 1 rfl rfl rfl ?_ | refine S_store tabOk 2 rfl rfl rfl rfl rfl rfl ?_)
    refine ret1 rfl (res_cell tabOk 2 rfl rfl rfl rfl) (fun w' hw => ⟨_, m, rfl, hw.below (by repeat (first | exact new_nil | refine new_ro ?_ | refine new_cons (by first | assumption | omega) ?_)), hm, ?_⟩)
    exact Vp.mono (Rset.vp m) (Vp.fact0 hw 0 rfl) hF1
theorem thr_mem {l : List Run} {x : Int} {i : Nat} (hc : Can l) (hi : Thr l x i) : Mem l x ↔ ∃ h : i < l.length, l[i].1 ≤ x := by
  rw [mem_at]
  constructor
  · rintro ⟨j, hj, h1, h2⟩
    have h3 := (hi.iff j hj).1 h2
    refine ⟨by omega, ?_⟩
    rcases Nat.lt_or_ge i j with h4 | h4
    · have := can_lt hc h4 hj
      have := can_le hc (show i < l.length by omega)
      omega
    · have : i = j := by omega
      subst this
      exact h1
  · rintro ⟨h, h1⟩
    exact ⟨i, h, h1, (hi.iff i h).2 (Nat.le_refl _)⟩
theorem has_ok (a : Option Addr) (n c : Nat) (l : List Run) (x : Int) (A : Nat → Prop) (w : World) (hx : SlR Rrun w A a n c l) (hc : Can l) (hn : n ≤ 1000000) :
    Calls Try.prog 43 #[setV a n c, .int .u64 x] w fun e w' => ∃ v, e = .returned v ∧ Below w.heap.size w w' ∧ ∃ q, v = .bool q ∧ (q = true ↔ Mem l x) := by
  have hl := hx.len
  obtain ⟨i, hi⟩ := thr_exists hc x
  have hil := hi.le
  refine enter2 Try.func43 rfl rfl (Hp.refl w) ?_
  repeat (first | refine T_seq ?_ | refine T_region ?_)
  refine S_new tabOk rfl (fun b hb => ?_)
  repeat (first | refine T_seq ?_ | refine T_region ?_ | refine S_nil ?_ | refine S_pure tabOk rfl ?_ | refine S_load tabOk 0 rfl rfl rfl ?_)
  refine S_callq (v := .int .i64 (i : Int)) rfl Try.call39 (fun w1 h1 => find_ok a n c i l _ A w1 (hx.ext (h1.below (by repeat (first | exact new_nil | refine new_cons (by first | assumption | omega) ?_)))) (by omega) hi) ?_
  repeat (first | refine T_seq ?_ | refine T_region ?_ | refine S_nil ?_ | refine S_pure tabOk rfl ?_ | refine S_load tabOk 0 rfl rfl rfl ?_)
  refine S_split rfl rfl (fun h1 => ?_) (fun h1 => ?_)
  · have hk : i < l.length := by omega
    obtain ⟨ab, off, cs, rfl, hlt, _⟩ := hx.get_ hk
    repeat (first | refine S_pure tabOk rfl ?_ | refine S_load tabOk 0 rfl rfl rfl ?_)
    refine S_q (Q_idx (sz := 2) tabOk rfl rfl rfl rfl rfl rfl rfl rfl (j := i) (by omega)) ?_
    repeat (first | refine S_pure tabOk rfl ?_)
    refine S_load1 tabOk (v := .int .u64 l[i].1) rfl rfl (fun w' hw => run_from (hx.ext (hw.below (by repeat (first | exact new_nil | refine new_cons (by first | assumption | omega) ?_)))) hk) ?_
    repeat (first | refine S_nil ?_ | refine T_ret ?_ | refine S_pure tabOk rfl ?_)
    refine ret1 rfl rfl (fun w' hw => ⟨_, rfl, hw.below (by repeat (first | exact new_nil | refine new_cons (by first | assumption | omega) ?_)), _, rfl, ?_⟩)
    rw [thr_mem hc hi, decide_eq_true_iff]
    exact ⟨fun h => ⟨hk, h⟩, fun ⟨_, h⟩ => h⟩
  · repeat (first | refine S_nil ?_ | refine T_ret ?_ | refine S_pure tabOk rfl ?_ | refine S_pass rfl rfl rfl ?_)
    refine ret1 rfl rfl (fun w' hw => ⟨_, rfl, hw.below (by repeat (first | exact new_nil | refine new_cons (by first | assumption | omega) ?_)), _, rfl, ?_⟩)
    rw [thr_mem hc hi]
    exact ⟨fun h => (by cases h), fun ⟨h, _⟩ => by omega⟩
abbrev lastN : Int := 18446744073709551615
def GapOf (l : List Run) (x g : Int) (q : Bool) : Prop :=
  (¬ Mem l x ∧ g = x ∧ q = true) ∨ ∃ r ∈ l, r.1 ≤ x ∧ x ≤ r.2 ∧ ((r.2 = lastN ∧ g = 0 ∧ q = false) ∨ (r.2 < lastN ∧ g = r.2 + 1 ∧ q = true))

theorem Vtup2_fst {p q : Vp} {w : World} {A : Nat → Prop} {a b : Value} (h : (Vtup2 p q).at_ w A (.tuple #[a, b])) : p.at_ w A a := by
  obtain ⟨a', b', e, h1, h2⟩ := h
  cases e
  exact h1
theorem ow_bb {w0 w w' : World} {A : Nat → Prop} {ol : OL} {R : Rep (List Run)} {v : Value} {m : List Run} (h : R.val w' (fun k => w.heap.size ≤ k) v m) (hh : Hp w0 w ol) : (R.vp m).at_ w' (BB w0 A ol) v :=
  Vp.mono (R.vp m) h fun k hk => BB_new hh hk
/-- A set's value: who is in it, and at most so many runs. -/
def setP (S : Int → Prop) (B : Nat) : Vp :=
  ⟨fun w A v => ∃ m, Can m ∧ (∀ x, Mem m x ↔ S x) ∧ m.length ≤ B ∧ Rset.val w A v m, fun ⟨m, h1, h2, h3, h4⟩ hk => ⟨m, h1, h2, h3, Rep.val_keep _ h4 hk⟩⟩
/-- A slice of runs that are asx few asx there can be. -/
def sliP (S : Int → Prop) (B : Nat) : Vp :=
  ⟨fun w A v => ∃ m, Can m ∧ (∀ x, Mem m x ↔ S x) ∧ m.length ≤ B ∧ (Rslice Rrun).val w A v m, fun ⟨m, h1, h2, h3, h4⟩ hk => ⟨m, h1, h2, h3, Rep.val_keep _ h4 hk⟩⟩
section
variable {S T : Int → Prop} {B C : Nat} {w : World} {A : Nat → Prop} {v u : Value}
theorem setP_form (h : (setP S B).at_ w A v) : ∃ a n c m, v = setV a n c ∧ Can m ∧ (∀ x, Mem m x ↔ S x) ∧ m.length ≤ B ∧ SlR Rrun w A a n c m := by
  obtain ⟨m, h1, h2, h3, h4⟩ := h
  obtain ⟨a, n, c, rfl, h5⟩ := set_form h4
  exact ⟨a, n, c, m, rfl, h1, h2, h3, h5⟩
theorem setP_val (h : (setP S B).at_ w A v) : ∃ a n c, v = setV a n c := by
  obtain ⟨a, n, c, _, e, _⟩ := setP_form h
  exact ⟨a, n, c, e⟩
theorem sliP_form (h : (sliP S B).at_ w A v) : ∃ a n c m, v = .slice a n c ∧ Can m ∧ (∀ x, Mem m x ↔ S x) ∧ m.length ≤ B ∧ SlR Rrun w A a n c m := by
  obtain ⟨m, h1, h2, h3, h4⟩ := h
  obtain ⟨a, n, c, rfl, h5⟩ := SlR.form h4
  exact ⟨a, n, c, m, rfl, h1, h2, h3, h5⟩
theorem sliP_val (h : (sliP S B).at_ w A v) : ∃ a n c, v = .slice a n c := by
  obtain ⟨a, n, c, _, e, _⟩ := sliP_form h
  exact ⟨a, n, c, e⟩
theorem setP_mk {a : Option Addr} {n c : Nat} {m : List Run} (h1 : Can m) (h2 : ∀ x, Mem m x ↔ S x) (h3 : m.length ≤ B) (h4 : SlR Rrun w A a n c m) : (setP S B).at_ w A (setV a n c) := ⟨m, h1, h2, h3, set_val h4⟩
theorem setP_of {m : List Run} (h1 : Can m) (h2 : ∀ x, Mem m x ↔ S x) (h3 : m.length ≤ B) (h4 : Rset.val w A v m) : (setP S B).at_ w A v := ⟨m, h1, h2, h3, h4⟩
theorem sliP_mk {a : Option Addr} {n c : Nat} {m : List Run} (h1 : Can m) (h2 : ∀ x, Mem m x ↔ S x) (h3 : m.length ≤ B) (h4 : SlR Rrun w A a n c m) : (sliP S B).at_ w A (.slice a n c) := ⟨m, h1, h2, h3, h4.val⟩
theorem setP_nil : (setP (fun _ => False) 0).at_ w A (setV none 0 0) := setP_mk can_nil (fun x => ⟨fun h => mem_nil x h, fun h => h.elim⟩) (Nat.zero_le _) SlR.nil_
theorem can_eq {l m : List Run} (h1 : Can l) (h2 : Can m) (hS : ∀ x, Mem l x ↔ S x) (hT : ∀ x, Mem m x ↔ T x) : l = m ↔ ∀ x, S x ↔ T x :=
  ⟨fun e x => by rw [← hS, ← hT, e], fun h => can_ext h1 h2 fun x => by rw [hS, hT, h]⟩
end
section
variable {S T : Int → Prop} {B C : Nat} {v u : Value} {A D : Nat → Prop}
theorem span_p (f t : Int) (w : World) (hA : ∀ k, w.heap.size ≤ k → A k) (h : (setP S B).at_ w A v) (hB : B ≤ 900000) (hf : Fits .u64 f) (ht : Fits .u64 t) :
    Calls Try.prog 11 #[v, .int .u64 f, .int .u64 t] w fun e w' => ∃ r, e = .returned r ∧ Below w.heap.size w w' ∧ (setP (fun x => S x ∨ (f ≤ x ∧ x ≤ t)) (B + 1)).at_ w' A r := by
  obtain ⟨a, n, c, m, rfl, h1, h2, h3, h4⟩ := setP_form h
  have := h4.len
  exact (span_ok a n c m f t A w hA h4 h1 (by omega) hf ht).mono fun e w' ⟨v, m', e1, e2, e3, e4⟩ => ⟨v, e1, e2, setP_of e3.can (fun x => by rw [e3.mem, h2]) (by have := e3.len; omega) e4⟩
theorem add_p (f : Int) (w : World) (hA : ∀ k, w.heap.size ≤ k → A k) (h : (setP S B).at_ w A v) (hB : B ≤ 900000) (hf : Fits .u64 f) :
    Calls Try.prog 59 #[v, .int .u64 f] w fun e w' => ∃ r, e = .returned r ∧ Below w.heap.size w w' ∧ (setP (fun x => S x ∨ x = f) (B + 1)).at_ w' A r := by
  obtain ⟨a, n, c, m, rfl, h1, h2, h3, h4⟩ := setP_form h
  have := h4.len
  exact (add_ok a n c m f A w hA h4 h1 (by omega) hf).mono fun e w' ⟨v, m', e1, e2, e3, e4⟩ => ⟨v, e1, e2, setP_of e3.can (fun x => by rw [e3.mem, h2]; exact ⟨fun h => h.imp id fun h => by omega, fun h => h.imp id fun h => by omega⟩) (by have := e3.len; omega) e4⟩
theorem of_p (a : Option Addr) (n c : Nat) (l : List Int) (w : World) (hx : SlR (Rint .u64) w A a n c l) (hn : n ≤ 800000) :
    Calls Try.prog 32 #[.slice a n c] w fun e w' => ∃ r, e = .returned r ∧ Below w.heap.size w w' ∧ (setP (fun x => x ∈ l) l.length).at_ w' (fun k => w.heap.size ≤ k) r :=
  (of_ok a n c l A w hx hn).mono fun e w' ⟨v, m', e1, e2, e3, e4⟩ => ⟨v, e1, e2, setP_of e3.can e3.mem e3.len e4⟩
theorem has_p (x : Int) (w : World) (h : (setP S B).at_ w A v) (hB : B ≤ 900000) :
    Calls Try.prog 43 #[v, .int .u64 x] w fun e w' => ∃ v, e = .returned v ∧ Below w.heap.size w w' ∧ ∃ q, v = .bool q ∧ (q = true ↔ S x) := by
  obtain ⟨a, n, c, m, rfl, h1, h2, h3, h4⟩ := setP_form h
  have := h4.len
  exact (has_ok a n c m x A w h4 h1 (by omega)).mono fun e w' ⟨v, e1, e2, q, e3, e4⟩ => ⟨v, e1, e2, q, e3, by rw [e4, h2]⟩
/-- The least from x on that isn't in S. -/
def GapS (S : Int → Prop) (x g : Int) (q : Bool) : Prop :=
  (q = true → x ≤ g ∧ g ≤ lastN ∧ ¬ S g ∧ ∀ y, x ≤ y → y < g → S y) ∧ (q = false → g = 0 ∧ ∀ y, x ≤ y → y ≤ lastN → S y)
theorem gapOf_S {m : List Run} {x g : Int} {q : Bool} (hc : Can m) (hx : x ≤ lastN) (h2 : ∀ x, Mem m x ↔ S x) (h : GapOf m x g q) : GapS S x g q := by
  rcases h with ⟨h1, rfl, rfl⟩ | ⟨r, hr, h1, h3, h4⟩
  · exact ⟨fun _ => ⟨Int.le_refl _, hx, fun h => h1 ((h2 _).2 h), fun y e1 e2 => by omega⟩, fun h => by cases h⟩
  · rcases h4 with ⟨h4, rfl, rfl⟩ | ⟨h4, rfl, rfl⟩
    · exact ⟨fun h => (by cases h), fun _ => ⟨rfl, fun y e1 e2 => (h2 y).1 ⟨r, hr, by omega, by omega⟩⟩⟩
    · refine ⟨fun _ => ⟨by omega, by omega, fun hs => ?_, fun y e1 e2 => (h2 y).1 ⟨r, hr, by omega, by omega⟩⟩, fun h => by cases h⟩
      obtain ⟨s, hsm, g1, g2⟩ := (h2 _).2 hs
      obtain ⟨i, hi, rfl⟩ := List.getElem_of_mem hr
      obtain ⟨j, hj, rfl⟩ := List.getElem_of_mem hsm
      rcases Nat.lt_trichotomy i j with e | e | e
      · have := can_lt hc e hj; omega
      · subst e; omega
      · have := can_lt hc e hi
        have := can_le hc hi
        omega
theorem same_p (w : World) (h : (setP S B).at_ w A v) (k : (setP T C).at_ w D u) :
    Calls Try.prog 52 #[v, u] w fun e w' => ∃ v, e = .returned v ∧ Below w.heap.size w w' ∧ ∃ q, v = .bool q ∧ (q = true ↔ ∀ x, S x ↔ T x) := by
  obtain ⟨a, n, c, m, rfl, h1, h2, h3, h4⟩ := setP_form h
  obtain ⟨a', n', c', m', rfl, k1, k2, k3, k4⟩ := setP_form k
  exact (same_ok a a' n c n' c' m m' A D w h4 k4).mono fun e w' ⟨e1, e2⟩ => ⟨_, e1, e2, _, rfl, by rw [decide_eq_true_iff]; exact can_eq h1 k1 h2 k2⟩
end
theorem nbb {p : Vp} {w0 w w' : World} {A : Nat → Prop} {ol : OL} {v : Value} (hh : Hp w0 w ol) (h : p.at_ w' (fun k => w.heap.size ≤ k) v) : p.at_ w' (BB w0 A ol) v := p.mono h fun k hk => BB_new hh hk

structure WoI (l : List Run) (f t : Int) (k : Nat) (out : List Run) : Prop where
  can : Can out
  ok : okL out
  mem : ∀ y, Mem out y ↔ Mem (l.take k) y ∧ ¬ (f ≤ y ∧ y ≤ t)
  up : ∀ s ∈ out, ∃ (j : Nat) (hj : j < l.length), j < k ∧ s.2 ≤ l[j].2
  len : out.length ≤ k ∨ (out.length ≤ k + 1 ∧ ∀ (j : Nat) (hj : j < l.length), k ≤ j → t < l[j].1)
theorem wo_start {l : List Run} {f t : Int} : WoI l f t 0 [] := ⟨can_nil, fun r h => (by cases h), fun y => by simp [mem_nil], fun s h => (by cases h), .inl (Nat.le_refl _)⟩
section
variable {l out : List Run} {f t : Int} {k : Nat}
theorem wo_gap (hc : Can l) (hk : k < l.length) (h : WoI l f t k out) : ∀ s ∈ out, s.2 + 1 < l[k].1 := fun s hs => by
  obtain ⟨j, hj, hjk, h1⟩ := h.up s hs
  have := can_lt hc hjk hk
  omega
theorem can_snoc1 {p : Run} (h : Can out) (hp : p.1 ≤ p.2) (hg : ∀ s ∈ out, s.2 + 1 < p.1) : Can (out ++ [p]) :=
  can_append.2 ⟨h, can_cons.2 ⟨hp, fun s hs => (by cases hs), can_nil⟩, fun r hr s hs => by
    rw [List.mem_singleton] at hs
    subst hs
    exact hg r hr⟩
theorem ok_snoc {p : Run} (h : okL out) (hp : okR p) : okL (out ++ [p]) := fun r hr => by
  rcases List.mem_append.1 hr with hr | hr
  · exact h r hr
  · rw [List.mem_singleton] at hr
    subst hr
    exact hp
theorem mem_snoc {p : Run} (y : Int) : Mem (out ++ [p]) y ↔ Mem out y ∨ (p.1 ≤ y ∧ y ≤ p.2) := by rw [mem_append, mem_one]
/-- all of the run stays -/
theorem wo_whole (hc : Can l) (hok : okL l) (hk : k < l.length) (h : WoI l f t k out) (ho : l[k].2 < f ∨ t < l[k].1) : WoI l f t (k + 1) (out ++ [l[k]]) := by
  have hle := can_le hc hk
  refine ⟨can_snoc1 h.can hle (wo_gap hc hk h), ok_snoc h.ok (hok _ (List.getElem_mem hk)), fun y => ?_, fun s hs => ?_, ?_⟩
  · rw [mem_snoc, h.mem, mem_take_succ hk]
    constructor
    · rintro (⟨h1, h2⟩ | h1)
      · exact ⟨.inl h1, h2⟩
      · exact ⟨.inr h1, by omega⟩
    · rintro ⟨h1 | h1, h2⟩
      · exact .inl ⟨h1, h2⟩
      · exact .inr h1
  · rcases List.mem_append.1 hs with hs | hs
    · obtain ⟨j, hj, h1, h2⟩ := h.up s hs
      exact ⟨j, hj, by omega, h2⟩
    · rw [List.mem_singleton] at hs
      subst hs
      exact ⟨k, hk, by omega, Int.le_refl _⟩
  · simp only [List.length_append, List.length_cons, List.length_nil]
    rcases h.len with h1 | ⟨h1, h2⟩
    · exact .inl (by omega)
    · exact .inr ⟨by omega, fun j hj hkj => h2 j hj (by omega)⟩
/-- what is left and right of what goes -/
def cutR (r : Run) (f t : Int) : List Run := (if r.1 < f then [(r.1, f - 1)] else []) ++ (if t < r.2 then [(t + 1, r.2)] else [])
theorem wo_cut (hc : Can l) (hok : okL l) (hk : k < l.length) (hft : f ≤ t) (hf : Fits .u64 f) (ht : Fits .u64 t) (h : WoI l f t k out) (ho : ¬ (l[k].2 < f ∨ t < l[k].1)) : WoI l f t (k + 1) (out ++ cutR l[k] f t) := by
  have hle := can_le hc hk
  have hg := wo_gap hc hk h
  have hokk := hok _ (List.getElem_mem hk)
  have u1 := fits_u64 hokk.1
  have u2 := fits_u64 hokk.2
  have hfit : ∀ z : Int, 0 ≤ z → z ≤ 18446744073709551615 → Fits .u64 z := fun z e1 e2 => by simpa [Fits, IntKind.min, IntKind.max, IntKind.signed, IntKind.bits] using And.intro e1 e2
  have hmem : ∀ y, Mem (cutR l[k] f t) y ↔ (l[k].1 ≤ y ∧ y ≤ l[k].2) ∧ ¬ (f ≤ y ∧ y ≤ t) := by
    intro y
    unfold cutR
    rw [mem_append]
    have e1 : Mem (if l[k].1 < f then [(l[k].1, f - 1)] else []) y ↔ l[k].1 < f ∧ l[k].1 ≤ y ∧ y ≤ f - 1 := by
      by_cases h1 : l[k].1 < f
      · rw [if_pos h1, mem_one]
        exact ⟨fun h => ⟨h1, h⟩, fun h => h.2⟩
      · rw [if_neg h1]
        exact ⟨fun h => absurd h (mem_nil y), fun h => absurd h.1 h1⟩
    have e2 : Mem (if t < l[k].2 then [(t + 1, l[k].2)] else []) y ↔ t < l[k].2 ∧ t + 1 ≤ y ∧ y ≤ l[k].2 := by
      by_cases h1 : t < l[k].2
      · rw [if_pos h1, mem_one]
        exact ⟨fun h => ⟨h1, h⟩, fun h => h.2⟩
      · rw [if_neg h1]
        exact ⟨fun h => absurd h (mem_nil y), fun h => absurd h.1 h1⟩
    rw [e1, e2]
    omega
  have hcan : Can (cutR l[k] f t) := by
    unfold cutR
    refine can_append.2 ⟨?_, ?_, fun r hr s hs => ?_⟩
    · split
      · exact can_cons.2 ⟨by show l[k].1 ≤ f - 1; omega, fun s hs => (by cases hs), can_nil⟩
      · exact can_nil
    · split
      · exact can_cons.2 ⟨by show t + 1 ≤ l[k].2; omega, fun s hs => (by cases hs), can_nil⟩
      · exact can_nil
    · split at hr
      · split at hs
        · rw [List.mem_singleton] at hr hs
          subst hr; subst hs
          show f - 1 + 1 < t + 1
          omega
        · cases hs
      · cases hr
  have hsub : ∀ s ∈ cutR l[k] f t, l[k].1 ≤ s.1 ∧ s.2 ≤ l[k].2 ∧ okR s := by
    intro s hs
    unfold cutR at hs
    rcases List.mem_append.1 hs with hs | hs
    · split at hs
      · rw [List.mem_singleton] at hs
        subst hs
        have := fits_u64 hf
        refine ⟨Int.le_refl _, by show f - 1 ≤ l[k].2; omega, hfit _ u1.1 u1.2, hfit _ (by show 0 ≤ f - 1; omega) (by show f - 1 ≤ _; omega)⟩
      · cases hs
    · split at hs
      · rw [List.mem_singleton] at hs
        subst hs
        have := fits_u64 ht
        refine ⟨by show l[k].1 ≤ t + 1; omega, Int.le_refl _, hfit _ (by show 0 ≤ t + 1; omega) (by show t + 1 ≤ _; omega), hfit _ u2.1 u2.2⟩
      · cases hs
  refine ⟨can_append.2 ⟨h.can, hcan, fun r hr s hs => ?_⟩, fun r hr => ?_, fun y => ?_, fun s hs => ?_, ?_⟩
  · have := hg r hr
    have := (hsub s hs).1
    omega
  · rcases List.mem_append.1 hr with hr | hr
    · exact h.ok r hr
    · exact (hsub r hr).2.2
  · rw [mem_append, h.mem, mem_take_succ hk, hmem]
    constructor
    · rintro (⟨h1, h2⟩ | ⟨h1, h2⟩)
      · exact ⟨.inl h1, h2⟩
      · exact ⟨.inr h1, h2⟩
    · rintro ⟨h1 | h1, h2⟩
      · exact .inl ⟨h1, h2⟩
      · exact .inr ⟨h1, h2⟩
  · rcases List.mem_append.1 hs with hs | hs
    · obtain ⟨j, hj, h1, h2⟩ := h.up s hs
      exact ⟨j, hj, by omega, h2⟩
    · exact ⟨k, hk, by omega, (hsub s hs).2.1⟩
  · rw [List.length_append]
    have hlen : (cutR l[k] f t).length ≤ 1 ∨ ((cutR l[k] f t).length ≤ 2 ∧ t < l[k].2) := by
      unfold cutR
      rw [List.length_append]
      by_cases h1 : l[k].1 < f <;> by_cases h2 : t < l[k].2 <;> simp [h1, h2]
    have hnext : t < l[k].2 → ∀ (j : Nat) (hj : j < l.length), k + 1 ≤ j → t < l[j].1 := fun h2 j hj hkj => by
      have := can_lt hc (show k < j by omega) hj
      omega
    rcases h.len with h1 | ⟨h1, h2⟩
    · rcases hlen with h3 | ⟨h3, h4⟩
      · exact .inl (by omega)
      · exact .inr ⟨by omega, hnext h4⟩
    · exact absurd (Or.inr (h2 k hk (Nat.le_refl _))) ho
theorem wo_end (h : WoI l f t l.length out) : out.length ≤ l.length + 1 := by
  rcases h.len with h1 | ⟨h1, _⟩ <;> omega
end
theorem encR_one (p : Run) : ∀ u ∈ encR p, u.oneCell' = true := by
  intro u hu
  exact cellsR_one [p] u (by simpa [cellsR] using hu)
theorem cells_snoc (l : List Run) (p : Run) : cellsR l ++ encR p = cellsR (l ++ [p]) := by rw [cellsR_append]; simp [cellsR]
theorem len_snoc (l : List Run) (p : Run) : l.length + 1 = (l ++ [p]).length := by rw [List.length_append]; rfl
set_option maxHeartbeats 1000000 in
theorem without_ok (a : Option Addr) (n c : Nat) (l : List Run) (f t : Int) (A : Nat → Prop) (w : World) (hx : SlR Rrun w A a n c l) (hc : Can l) (hn : n ≤ 900000) (hft : f ≤ t) (hf : Fits .u64 f) (ht : Fits .u64 t) :
    Calls Try.prog 72 #[setV a n c, .agg ⟨encR (f, t)⟩] w fun e w' => ∃ v m, e = .returned v ∧ Below w.heap.size w w' ∧ WoI l f t l.length m ∧ Rset.val w' (fun k => w.heap.size ≤ k) v m := by
  have hl := hx.len
  have hok := slr_okL hx
  have hf' := fits_u64 hf
  have ht' := fits_u64 ht
  refine enter2 Try.func72 rfl rfl (Hp.refl w) ?_
  repeat (first | refine T_seq ?_ | refine T_region ?_)
  refine S_new tabOk rfl (fun b hb => ?_)
  refine S_new tabOk rfl (fun b3 hb3 => ?_)
  refine S_new tabOk rfl (fun b4 hb4 => ?_)
  repeat (first | refine T_seq ?_ | refine T_region ?_ | refine T_block ?_ | refine S_nil ?_ | refine S_pure tabOk rfl ?_ | refine S_load tabOk 2 rfl rfl rfl ?_)
  refine T_loop (ι := List Run × Nat × Option Addr × Nat) (fun i => [(3, .pointer (some ⟨b3, 0, none⟩)), (4, .pointer (some ⟨b4, 0, none⟩)), (5, .slice i.2.2.1 i.1.length i.2.2.2), (9, .slice a n c), (10, .int .i64 (n : Int)), (11, .int .i64 (i.2.1 : Int))])
    (fun i => [.row w.heap.size (.slice i.2.2.1 i.1.length i.2.2.2) 47 2 i.1.length (cellsR i.1), .blk b4 (.cells ⟨[.slice none 0 0]⟩ 44 (0, 0)) true, .blk b3 (.cells ⟨encR (f, t)⟩ 47 (0, 0)) true]) (fun i => i.2.1 ≤ n ∧ WoI l f t i.2.1 i.1) (fun i => n - i.2.1) ([], 0, none, 0) ⟨Nat.zero_le _, wo_start⟩ (by repeat (first | exact Sub.nil | refine Sub.cons rfl ?_)) (fun w' hw => (hw.fewer (by repeat (first | exact new_nil | refine new_cons (by first | assumption | omega) ?_)) (by repeat (first | exact List.Sublist.slnil | refine List.Sublist.cons_cons _ ?_ | refine List.Sublist.cons _ ?_))).nilRow _ _) ?_
  rintro ⟨out, k, a1, c1⟩ ⟨hk, hI⟩
  dsimp only at hk hI ⊢
  repeat (first | refine T_seq ?_ | refine T_region ?_ | refine S_nil ?_ | refine S_pure tabOk rfl ?_)
  refine T_cond_dec rfl (fun h => ?_) (fun h => ?_)
  · have hk' : k < l.length := by omega
    have hokk := hok _ (List.getElem_mem hk')
    have u1 := fits_u64 hokk.1
    have u2 := fits_u64 hokk.2
    have hln : out.length ≤ k + 1 := by rcases hI.len with h1 | ⟨h1, _⟩ <;> omega
    obtain ⟨ab, off, cs, rfl, hlt, _⟩ := hx.get_ hk'
    repeat (first | refine T_seq ?_ | refine pthen_normal ?_ | refine T_skip ?_)
    refine T_cut (ι := List Run × Option Addr × Nat) (fun i => WoI l f t (k + 1) i.1) (fun i => [(3, .pointer (some ⟨b3, 0, none⟩)), (4, .pointer (some ⟨b4, 0, none⟩)), (5, .slice i.2.1 i.1.length i.2.2), (9, .slice (some ⟨ab, off, none⟩) n c), (10, .int .i64 (n : Int)), (11, .int .i64 (k : Int))])
      (fun i => [.row w.heap.size (.slice i.2.1 i.1.length i.2.2) 47 2 i.1.length (cellsR i.1), .blk b4 (.cells ⟨[.slice none 0 0]⟩ 44 (0, 0)) true, .blk b3 (.cells ⟨encR (f, t)⟩ 47 (0, 0)) true]) ?_ ?_
    · refine T_block ?_
      repeat (first | refine T_seq ?_ | refine T_region ?_)
      refine S_q (Q_idx (sz := 2) tabOk rfl rfl rfl rfl rfl rfl rfl rfl (j := k) (by omega)) ?_
      refine S_loadN tabOk (vs := encR l[k]) rfl rfl rfl (fun w' hw => run_cells (hx.ext (hw.below (by repeat (first | exact new_nil | refine new_cons (by first | assumption | omega) ?_ | refine newrow hw 0 rfl (Nat.le_refl _) ?_)))) hk') ?_
      refine S_new tabOk rfl (fun b7 hb7 => ?_)
      refine S_store tabOk 0 rfl rfl rfl rfl rfl rfl ?_
      refine S_nil ?_
      repeat (refine T_seq ?_)
      refine T_cut (ι := Bool) (fun q => q = true ↔ (l[k].2 < f ∨ t < l[k].1)) (fun q => [(3, .pointer (some ⟨b3, 0, none⟩)), (4, .pointer (some ⟨b4, 0, none⟩)), (5, .slice a1 out.length c1), (7, .pointer (some ⟨b7, 0, none⟩)), (9, .slice (some ⟨ab, off, none⟩) n c), (10, .int .i64 (n : Int)), (11, .int .i64 (k : Int)), (26, .bool q)])
        (fun q => [.blk b7 (.cells ⟨encR l[k]⟩ 47 (0, 0)) true, .row w.heap.size (.slice a1 out.length c1) 47 2 out.length (cellsR out), .blk b4 (.cells ⟨[.slice none 0 0]⟩ 44 (0, 0)) true, .blk b3 (.cells ⟨encR (f, t)⟩ 47 (0, 0)) true]) ?_ ?_
      · repeat (first | refine T_region ?_ | refine S_pure tabOk rfl ?_ | refine S_load tabOk 0 rfl rfl rfl ?_ | refine S_load tabOk 3 rfl rfl rfl ?_)
        refine S_split rfl rfl (fun h2 => ?_) (fun h2 => ?_)
        · repeat (first | refine S_nil ?_ | refine S_pure tabOk rfl ?_ | refine S_pass rfl rfl rfl ?_)
          exact ⟨true, ⟨fun _ => .inl h2, fun _ => rfl⟩, by repeat (first | exact Sub.nil | refine Sub.cons rfl ?_), fun _ h => h⟩
        · repeat (first | refine S_nil ?_ | refine S_pure tabOk rfl ?_ | refine S_load tabOk 0 rfl rfl rfl ?_ | refine S_load tabOk 3 rfl rfl rfl ?_)
          refine ⟨_, ?_, by repeat (first | exact Sub.nil | refine Sub.cons rfl ?_), fun _ h => h⟩
          rw [decide_eq_true_iff]
          exact ⟨fun h => .inr h, fun h => h.resolve_left (by omega)⟩
      · intro q hq
        refine T_cond rfl (fun h2 => ?_) (fun h2 => ?_)
        · have hI2 := wo_whole hc hok hk' hI (hq.1 h2)
          repeat (first | refine T_seq ?_ | refine T_region ?_ | refine S_pure tabOk rfl ?_ | refine S_load tabOk 0 rfl rfl rfl ?_)
          refine S_bslice tabOk rfl rfl rfl rfl rfl rfl rfl rfl rfl rfl rfl rfl (fun b8 hb8 => ?_)
          refine S_append (ty := 0) tabOk 2 rfl rfl rfl rfl rfl rfl rfl rfl rfl (by decide) (fun w' hw => Sl.of_blk (xs := encR l[k]) (hw.own _ (getE_mem (i := 0) rfl)) rfl (fun j u hu => by rw [Nat.zero_add]; exact hu)) (encR_one _) (by simp only [maxLen]; omega) (by show (_ + _) * 16 ≤ _; omega) rfl (fun A' c' h1 h2 => ⟨_, rfl, ?_⟩)
          rw [cells_snoc, len_snoc]
          repeat (first | refine S_nil ?_ | refine pthen_normal ?_ | refine inb_hit ?_ | refine pthen_exit ?_ | refine T_exit ?_ | refine S_pure tabOk rfl ?_)
          exact ⟨(out ++ [l[k]], A', c'), hI2, by repeat (first | exact Sub.nil | refine Sub.cons rfl ?_), fun w' hw => (hw.dropn hb8).dropn hb7⟩
        · have hno : ¬ (l[k].2 < f ∨ t < l[k].1) := fun h => by rw [h2] at hq; exact absurd (hq.2 h) (by decide)
          have hI2 := wo_cut hc hok hk' hft hf ht hI hno
          repeat (first | refine T_seq ?_ | refine T_region ?_ | refine S_nil ?_ | refine pthen_normal ?_ | refine T_skip ?_ | refine S_pure tabOk rfl ?_ | refine S_load tabOk 0 rfl rfl rfl ?_ | refine S_load tabOk 3 rfl rfl rfl ?_)
          refine T_cut (ι := List Run × Option Addr × Nat) (fun i => i.1 = out ++ (if l[k].1 < f then [(l[k].1, f - 1)] else [])) (fun i => [(3, .pointer (some ⟨b3, 0, none⟩)), (4, .pointer (some ⟨b4, 0, none⟩)), (5, .slice i.2.1 i.1.length i.2.2), (7, .pointer (some ⟨b7, 0, none⟩)), (9, .slice (some ⟨ab, off, none⟩) n c), (10, .int .i64 (n : Int)), (11, .int .i64 (k : Int))])
            (fun i => [.blk b7 (.cells ⟨encR l[k]⟩ 47 (0, 0)) true, .row w.heap.size (.slice i.2.1 i.1.length i.2.2) 47 2 i.1.length (cellsR i.1), .blk b4 (.cells ⟨[.slice none 0 0]⟩ 44 (0, 0)) true, .blk b3 (.cells ⟨encR (f, t)⟩ 47 (0, 0)) true]) ?_ ?_
          · refine T_cond_dec rfl (fun h3 => ?_) (fun h3 => ?_)
            · repeat (first | refine T_region ?_ | refine S_u64 tabOk rfl (by omega) ?_ | refine S_pure tabOk rfl ?_ | refine S_load tabOk 0 rfl rfl rfl ?_ | refine S_load tabOk 3 rfl rfl rfl ?_ | refine S_q (Q_build tabOk rfl rfl rfl rfl rfl rfl rfl) ?_)
              refine S_bslice tabOk rfl rfl rfl rfl rfl rfl rfl rfl rfl rfl rfl rfl (fun b8 hb8 => ?_)
              refine S_append (ty := 0) tabOk 2 rfl rfl rfl rfl rfl rfl rfl rfl rfl (by decide) (fun w' hw => Sl.of_blk (xs := encR (l[k].1, f - 1)) (hw.own _ (getE_mem (i := 0) rfl)) rfl (fun j u hu => by rw [Nat.zero_add]; exact hu)) (encR_one _) (by simp only [maxLen]; omega) (by show (_ + _) * 16 ≤ _; omega) rfl (fun A' c' h1 h2 => ⟨_, rfl, ?_⟩)
              rw [cells_snoc, len_snoc]
              repeat (first | refine S_nil ?_ | refine S_pure tabOk rfl ?_)
              exact ⟨(out ++ [(l[k].1, f - 1)], A', c'), by rw [if_pos h3], by repeat (first | exact Sub.nil | refine Sub.cons rfl ?_), fun w' hw => hw.dropn hb8⟩
            · repeat (first | refine pthen_normal ?_ | refine T_skip ?_)
              exact ⟨(out, a1, c1), by rw [if_neg h3, List.append_nil], by repeat (first | exact Sub.nil | refine Sub.cons rfl ?_), fun w' hw => hw⟩
          rintro ⟨out1, a2, c2⟩ ho1
          dsimp only at ho1 ⊢
          have hln1 : out1.length ≤ k + 2 := by
            rw [ho1, List.length_append]
            split <;> simp <;> omega
          repeat (first | refine T_seq ?_ | refine T_region ?_ | refine S_nil ?_ | refine S_pure tabOk rfl ?_ | refine S_load tabOk 0 rfl rfl rfl ?_ | refine S_load tabOk 3 rfl rfl rfl ?_)
          refine T_cond_dec rfl (fun h3 => ?_) (fun h3 => ?_)
          · have e3 : out ++ cutR l[k] f t = out1 ++ [(t + 1, l[k].2)] := by rw [ho1, cutR, if_pos h3, List.append_assoc]
            rw [e3] at hI2
            repeat (first | refine S_u64 tabOk rfl (by omega) ?_ | refine S_pure tabOk rfl ?_ | refine T_region_any ?_ | refine S_load tabOk 0 rfl rfl rfl ?_ | refine S_load tabOk 3 rfl rfl rfl ?_ | refine S_q (Q_build tabOk rfl rfl rfl rfl rfl rfl rfl) ?_)
            refine S_bslice tabOk rfl rfl rfl rfl rfl rfl rfl rfl rfl rfl rfl rfl (fun b8 hb8 => ?_)
            refine S_append (ty := 0) tabOk 2 rfl rfl rfl rfl rfl rfl rfl rfl rfl (by decide) (fun w' hw => Sl.of_blk (xs := encR (t + 1, l[k].2)) (hw.own _ (getE_mem (i := 0) rfl)) rfl (fun j u hu => by rw [Nat.zero_add]; exact hu)) (encR_one _) (by simp only [maxLen]; omega) (by show (_ + _) * 16 ≤ _; omega) rfl (fun A' c' h1 h2 => ⟨_, rfl, ?_⟩)
            rw [cells_snoc, len_snoc]
            repeat (first | refine S_nil ?_ | refine pthen_normal ?_ | refine inb_normal ?_ | refine S_pure tabOk rfl ?_)
            exact ⟨(out1 ++ [(t + 1, l[k].2)], A', c'), hI2, by repeat (first | exact Sub.nil | refine Sub.cons rfl ?_), fun w' hw => (hw.dropn hb8).dropn hb7⟩
          · have e3 : out ++ cutR l[k] f t = out1 := by rw [ho1, cutR, if_neg h3, List.append_nil]
            rw [e3] at hI2
            repeat (first | refine pthen_normal ?_ | refine inb_normal ?_ | refine T_skip ?_)
            exact ⟨(out1, a2, c2), hI2, by repeat (first | exact Sub.nil | refine Sub.cons rfl ?_), fun w' hw => hw.dropn hb7⟩
    · rintro ⟨out1, a2, c2⟩ hI2
      dsimp only at hI2 ⊢
      repeat (first | refine T_region ?_ | refine S_nil ?_ | refine S_i64 tabOk rfl (by omega) ?_ | refine S_pure tabOk rfl ?_)
      exact ⟨(out1, k + 1, a2, c2), ⟨by dsimp only; omega, hI2⟩, by repeat (first | exact Sub.nil | refine Sub.cons rfl ?_), fun w' hw => hw, by dsimp only; omega⟩
  · have e : k = l.length := by omega
    subst e
    repeat (first | refine T_seq ?_ | refine T_region ?_ | refine S_nil ?_ | refine pthen_normal ?_ | refine inb_hit ?_ | refine pthen_exit ?_ | refine T_ret ?_ | refine T_exit ?_ | refine S_pure tabOk rfl ?_ | refine S_store tabOk 1 rfl rfl rfl rfl rfl rfl ?_ | refine S_q (Q_build tabOk rfl rfl rfl rfl rfl rfl rfl) ?_)
    refine ret1 rfl (res_cell tabOk 1 rfl rfl rfl rfl) (fun w' hw => ⟨_, out, rfl, hw.below (by repeat (first | exact new_nil | refine new_cons (by first | assumption | omega) ?_ | refine newrow hw 0 rfl (Nat.le_refl _) ?_)), hI, set_val (slr_row (hw.own _ (getE_mem (i := 0) rfl)) hI.ok fun k hk => hk)⟩)

section
variable {S T : Int → Prop} {B C : Nat} {v u : Value} {A D : Nat → Prop}
theorem setP_to {w : World} (hS : ∀ x, S x ↔ T x) (hB : B ≤ C) (h : (setP S B).at_ w A v) : (setP T C).at_ w A v := by
  obtain ⟨m, h1, h2, h3, h4⟩ := h
  exact ⟨m, h1, fun x => by rw [h2, hS], Nat.le_trans h3 hB, h4⟩
theorem sliP_to {w : World} (hS : ∀ x, S x ↔ T x) (hB : B ≤ C) (h : (sliP S B).at_ w A v) : (sliP T C).at_ w A v := by
  obtain ⟨m, h1, h2, h3, h4⟩ := h
  exact ⟨m, h1, fun x => by rw [h2, hS], Nat.le_trans h3 hB, h4⟩
theorem without_p (f t : Int) (w : World) (h : (setP S B).at_ w A v) (hB : B ≤ 900000) (hft : f ≤ t) (hf : Fits .u64 f) (ht : Fits .u64 t) :
    Calls Try.prog 72 #[v, .agg ⟨encR (f, t)⟩] w fun e w' => ∃ r, e = .returned r ∧ Below w.heap.size w w' ∧ (setP (fun x => S x ∧ ¬ (f ≤ x ∧ x ≤ t)) (B + 1)).at_ w' (fun k => w.heap.size ≤ k) r := by
  obtain ⟨a, n, c, m, rfl, h1, h2, h3, h4⟩ := setP_form h
  have := h4.len
  exact (without_ok a n c m f t A w h4 h1 (by omega) hft hf ht).mono fun e w' ⟨v, m', e1, e2, e3, e4⟩ => ⟨v, e1, e2, setP_of e3.can (fun x => by rw [e3.mem, List.take_length, h2]) (by have := wo_end e3; omega) e4⟩
theorem less_p (w : World) (hA : ∀ k, w.heap.size ≤ k → A k) (h : (setP S B).at_ w A v) (k : (setP T C).at_ w D u) (hB : B + C ≤ 900000) :
    Calls Try.prog 44 #[v, u] w fun e w' => ∃ r, e = .returned r ∧ Below w.heap.size w w' ∧ (setP (fun x => S x ∧ ¬ T x) (B + C)).at_ w' A r := by
  obtain ⟨a, n, c, rfl⟩ := setP_val h
  obtain ⟨a', n', c', m, rfl, k1, k2, k3, hy⟩ := setP_form k
  have hl := hy.len
  have hok := slr_okL hy
  refine enter2 Try.func44 rfl rfl (Hp.refl w) ?_
  repeat (first | refine T_seq ?_ | refine T_region ?_)
  refine S_new tabOk rfl (fun b2 hb2 => ?_)
  refine S_new tabOk rfl (fun b3 hb3 => ?_)
  refine S_new tabOk rfl (fun b4 hb4 => ?_)
  repeat (first | refine T_seq ?_ | refine T_region ?_ | refine T_block ?_ | refine S_nil ?_ | refine S_pure tabOk rfl ?_ | refine S_load tabOk 1 rfl rfl rfl ?_)
  refine T_addV (setP S B) A (fun w' hw => Vp.old h hw (by repeat (first | exact new_nil | refine new_cons (by first | assumption | omega) ?_))) (fun F0 hF0 => ?_)
  refine T_loop (ι := Nat × Option Addr × Nat × Nat × (Nat → Prop)) (fun i => [(2, .pointer (some ⟨b2, 0, none⟩)), (3, .pointer (some ⟨b3, 0, none⟩)), (4, .pointer (some ⟨b4, 0, none⟩)), (8, .slice a' n' c'), (9, .int .i64 (n' : Int)), (10, .int .i64 (i.1 : Int))])
    (fun i => [.rep (fun w => (setP (fun x => S x ∧ ¬ Mem (m.take i.1) x) (B + i.1)).at_ w i.2.2.2.2 (setV i.2.1 i.2.2.1 i.2.2.2.1)) i.2.2.2.2 false, .blk b4 (.cells ⟨[.slice none 0 0]⟩ 44 (0, 0)) true, .blk b3 (.cells ⟨[.slice a' n' c']⟩ 44 (0, 0)) true, .blk b2 (.cells ⟨[.slice i.2.1 i.2.2.1 i.2.2.2.1]⟩ 44 (0, 0)) true])
    (fun i => i.1 ≤ n' ∧ ∀ k, i.2.2.2.2 k → A k ∨ w.heap.size ≤ k) (fun i => n' - i.1) (0, a, n, c, F0) ⟨Nat.zero_le _, hF0⟩ (by repeat (first | exact Sub.nil | refine Sub.cons rfl ?_)) (fun w' hw => ?_) ?_
  · have e : (fun x => S x ∧ ¬ Mem [] x) = S := by
      funext x
      simp [mem_nil]
    simp only [List.take_zero, e, Nat.add_zero]
    exact hw
  rintro ⟨i, a1, n1, c1, F⟩ ⟨hi, hF⟩
  dsimp only at hi hF ⊢
  repeat (first | refine T_seq ?_ | refine T_region ?_ | refine S_nil ?_ | refine S_pure tabOk rfl ?_)
  refine T_cond_dec rfl (fun h => ?_) (fun h => ?_)
  · have hi' : i < m.length := by omega
    have hokk := hok _ (List.getElem_mem hi')
    obtain ⟨ab, off, cs, rfl, hlt, _⟩ := hy.get_ hi'
    repeat (first | refine T_seq ?_ | refine T_region ?_ | refine T_block ?_ | refine pthen_normal ?_ | refine T_skip ?_)
    refine S_q (Q_idx (sz := 2) tabOk rfl rfl rfl rfl rfl rfl rfl rfl (j := i) (by omega)) ?_
    refine S_loadN tabOk (vs := encR m[i]) rfl rfl rfl (fun w' hw => run_cells (hy.ext (hw.below (by repeat (first | exact new_nil | refine new_ro ?_ | refine new_cons (by first | assumption | omega) ?_)))) hi') ?_
    refine S_new tabOk rfl (fun b6 hb6 => ?_)
    repeat (first | refine S_nil ?_ | refine T_region_any ?_ | refine S_load tabOk 0 rfl rfl rfl ?_ | refine S_load tabOk 4 rfl rfl rfl ?_ | refine S_store tabOk 0 rfl rfl rfl rfl rfl rfl ?_)
    refine S_callR (setP (fun x => (S x ∧ ¬ Mem (m.take i) x) ∧ ¬ (m[i].1 ≤ x ∧ x ≤ m[i].2)) (B + i + 1)) A rfl Try.call72 (fun w1 h1 => (without_p m[i].1 m[i].2 w1 (Vp.fact0 (p := setP (fun x => S x ∧ ¬ Mem (m.take i) x) (B + i)) h1 1 rfl) (by omega) (can_le k1 hi') hokk.1 hokk.2).mono fun e w' ⟨r, e1, e2, e3⟩ => ⟨r, e1, e2, nbb h1 e3⟩) (fun v F2 w1 hF2 hv => ?_)
    obtain ⟨a2, n2, c2, rfl⟩ := setP_val hv
    repeat (first | refine T_region ?_ | refine S_nil ?_ | refine pthen_normal ?_ | refine inb_normal ?_ | refine S_i64 tabOk rfl (by omega) ?_ | refine S_pure tabOk rfl ?_ | refine S_store tabOk 5 rfl rfl rfl rfl rfl rfl ?_)
    refine ⟨(i + 1, a2, n2, c2, F2), ⟨by dsimp only; omega, hF2⟩, by repeat (first | exact Sub.nil | refine Sub.cons rfl ?_), fun w' hw => ?_, by dsimp only; omega⟩
    have e : (fun x => S x ∧ ¬ Mem (m.take (i + 1)) x) = (fun x => (S x ∧ ¬ Mem (m.take i) x) ∧ ¬ (m[i].1 ≤ x ∧ x ≤ m[i].2)) := by
      funext x
      rw [mem_take_succ hi']
      rw [not_or, and_assoc]
    dsimp only
    rw [e, ← Nat.add_assoc]
    exact hw.fewer (by repeat (first | exact new_nil | refine new_ro ?_ | refine new_cons (by first | assumption | omega) ?_)) (by repeat (first | exact List.Sublist.slnil | refine List.Sublist.cons_cons _ ?_ | refine List.Sublist.cons _ ?_))
  · have e : i = n' := by omega
    subst e
    rw [List.take_of_length_le (show m.length ≤ i by omega)]
    repeat (first | refine T_seq ?_ | refine T_region ?_ | refine S_nil ?_ | refine pthen_normal ?_ | refine inb_hit ?_ | refine pthen_exit ?_ | refine T_ret ?_ | refine T_exit ?_ | refine S_load tabOk 3 rfl rfl rfl ?_ | refine S_store tabOk 1 rfl rfl rfl rfl rfl rfl ?_)
    exact ret1 rfl (res_cell tabOk 1 rfl rfl rfl rfl) (fun w' hw => ⟨_, rfl, hw.below (by repeat (first | exact new_nil | refine new_ro ?_ | refine new_cons (by first | assumption | omega) ?_)), setP_to (fun x => by rw [k2]) (by omega) (Vp.mono _ (Vp.fact0 hw 0 rfl) fun k hk => (hF k hk).elim id (hA k))⟩)
end

theorem can_take {l : List Run} (h : Can l) (k : Nat) : Can (l.take k) := ⟨fun r hr => h.le r (List.mem_of_mem_take hr), h.gap.sublist (List.take_sublist _ _)⟩
theorem can_snoc {l : List Run} {k : Nat} (hk : k < l.length) (h : Can (l.take k)) : Can (l.take (k + 1)) ↔ l[k].1 ≤ l[k].2 ∧ ∀ h0 : 0 < k, (l[k - 1]'(by omega)).2 + 1 < l[k].1 := by
  constructor
  · intro h1
    have hl : (l.take (k + 1)).length = k + 1 := by rw [List.length_take]; omega
    have h2 := can_le h1 (show k < (l.take (k + 1)).length by omega)
    rw [List.getElem_take] at h2
    refine ⟨h2, fun h0 => ?_⟩
    have h3 := can_lt h1 (show k - 1 < k by omega) (show k < (l.take (k + 1)).length by omega)
    rw [List.getElem_take, List.getElem_take] at h3
    exact h3
  · rintro ⟨h1, h2⟩
    rw [List.take_succ_eq_append_getElem hk]
    refine can_append.2 ⟨h, can_cons.2 ⟨h1, fun s hs => (by cases hs), can_nil⟩, fun r hr s hs => ?_⟩
    rw [List.mem_singleton] at hs
    subst hs
    obtain ⟨j, hj, rfl⟩ := List.getElem_of_mem hr
    have hl : (l.take k).length = k := by rw [List.length_take]; omega
    have h3 := h2 (by omega)
    by_cases e : j = k - 1
    · subst e
      rw [List.getElem_take]
      exact h3
    · have h4 := can_lt h (show j < k - 1 by omega) (by omega)
      have h5 := can_le h (show k - 1 < (l.take k).length by omega)
      rw [List.getElem_take] at h4 h5 ⊢
      rw [List.getElem_take] at h4
      omega
theorem can_not {l : List Run} {k : Nat} (hk : k < l.length) (h : ¬ Can (l.take (k + 1))) : ¬ Can l := fun hc => h (can_take hc _)
theorem mem_bd {l : List Run} (h : okL l) {y : Int} (hy : Mem l y) : 0 ≤ y ∧ y ≤ lastN := by
  obtain ⟨r, hr, h1, h2⟩ := hy
  have := fits_u64 (h r hr).1
  have := fits_u64 (h r hr).2
  unfold lastN
  omega
theorem fits_of {x : Int} (h0 : 0 ≤ x) (h1 : x ≤ 18446744073709551615) : Fits .u64 x := by simpa [Fits, IntKind.min, IntKind.max, IntKind.signed, IntKind.bits] using And.intro h0 h1
theorem bool_t {q : Bool} {p : Prop} (h : q = true ↔ p) (hp : p) : q = true := h.2 hp
theorem bool_f {q : Bool} {p : Prop} (h : q = true ↔ p) (hp : ¬ p) : q = false := by
  cases q
  · rfl
  · exact absurd (h.1 rfl) hp
/-! ### How many -/
def tot : List Run → Int
  | [] => 0
  | r :: l => (r.2 - r.1 + 1) + tot l
theorem tot_append (l m : List Run) : tot (l ++ m) = tot l + tot m := by
  induction l with
  | nil => simp [tot]
  | cons r l ih => rw [List.cons_append, tot, tot, ih]; omega
theorem tot_snoc {l : List Run} {k : Nat} (hk : k < l.length) : tot (l.take (k + 1)) = tot (l.take k) + (l[k].2 - l[k].1 + 1) := by
  rw [List.take_succ_eq_append_getElem hk, tot_append]
  simp [tot]
theorem tot_nn {l : List Run} (h : Can l) : 0 ≤ tot l := by
  induction l with
  | nil => exact Int.le_refl _
  | cons r l ih =>
    have := ih (can_cons.1 h).2.2
    have := (can_cons.1 h).1
    rw [tot]
    omega
theorem tot_take_le {l : List Run} (h : Can l) (k : Nat) : tot (l.take k) ≤ tot l := by
  have e : tot l = tot (l.take k) + tot (l.drop k) := by rw [← tot_append, List.take_append_drop]
  have : 0 ≤ tot (l.drop k) := tot_nn ⟨fun r hr => h.le r (List.mem_of_mem_drop hr), h.gap.sublist (List.drop_sublist _ _)⟩
  omega
def CountS (S : Int → Prop) (c : Int) : Prop := ∃ m, Can m ∧ (∀ x, Mem m x ↔ S x) ∧ c = min (tot m) lastN
theorem countS_eq {S : Int → Prop} {c d : Int} (h : CountS S c) (k : CountS S d) : c = d := by
  obtain ⟨m, h1, h2, rfl⟩ := h
  obtain ⟨m', k1, k2, rfl⟩ := k
  rw [can_ext h1 k1 fun x => by rw [h2, k2]]
theorem add64_ok {x y : Int} (hx : 0 ≤ x) (hy : 0 ≤ y) (w : World) : (callFunc 63 #[.int .u64 x, .int .u64 y, .int .u64 0]).run Try.prog w = .ok (.value (.tuple #[.int .u64 ((x + y) % 18446744073709551616), .int .u64 ((x + y) / 18446744073709551616)])) w :=
  run_add64c Try.func63 (by kernel_rfl) (by kernel_rfl) (by kernel_rfl) (by kernel_rfl) hx hy w
theorem count_ok (a : Option Addr) (n c : Nat) (l : List Run) (A : Nat → Prop) (w : World) (hx : SlR Rrun w A a n c l) (hc : Can l) (hn : n ≤ 1000000) :
    Calls Try.prog 28 #[setV a n c] w fun e w' => e = .returned (.int .u64 (min (tot l) lastN)) ∧ Below w.heap.size w w' := by
  have hl := hx.len
  have hok := slr_okL hx
  refine enter1 Try.func28 rfl rfl (Hp.refl w) ?_
  repeat (first | refine T_seq ?_ | refine T_region ?_)
  refine S_new tabOk rfl (fun b hb => ?_)
  repeat (first | refine T_seq ?_ | refine T_region ?_ | refine T_block ?_ | refine S_nil ?_ | refine S_pure tabOk rfl ?_ | refine S_load tabOk 0 rfl rfl rfl ?_)
  refine T_loop (ι := Nat) (fun i => [(3, .int .u64 (tot (l.take i))), (11, .slice a n c), (12, .int .i64 (n : Int)), (13, .int .i64 (i : Int))])
    (fun i => []) (fun i => i ≤ n ∧ tot (l.take i) ≤ lastN) (fun i => n - i) 0 ⟨Nat.zero_le _, by unfold lastN; simp [tot]⟩ (by repeat (first | exact Sub.nil | refine Sub.cons rfl ?_)) (fun w' hw => hw.dropn hb) ?_
  rintro k ⟨hk, hT⟩
  have h0 := tot_nn (can_take hc k)
  unfold lastN at hT
  repeat (first | refine T_seq ?_ | refine T_region ?_ | refine S_nil ?_ | refine S_pure tabOk rfl ?_)
  refine T_cond_dec rfl (fun h => ?_) (fun h => ?_)
  · have hk' : k < l.length := by omega
    have hokk := hok _ (List.getElem_mem hk')
    have u1 := fits_u64 hokk.1
    have u2 := fits_u64 hokk.2
    have hle := can_le hc hk'
    have hs := tot_snoc hk'
    have hT1 := tot_take_le hc (k + 1)
    obtain ⟨ab, off, cs, rfl, hlt, _⟩ := hx.get_ hk'
    repeat (first | refine T_seq ?_ | refine T_region ?_ | refine T_block ?_ | refine pthen_normal ?_ | refine T_skip ?_)
    refine S_q (Q_idx (sz := 2) tabOk rfl rfl rfl rfl rfl rfl rfl rfl (j := k) (by omega)) ?_
    refine S_loadN tabOk (vs := encR l[k]) rfl rfl rfl (fun w' hw => run_cells (hx.ext (hw.below (by repeat (first | exact new_nil)))) hk') ?_
    refine S_new tabOk rfl (fun b5 hb5 => ?_)
    repeat (first | refine T_seq ?_ | refine T_region ?_ | refine S_nil ?_ | refine S_u64 tabOk rfl (by omega) ?_ | refine S_pure tabOk rfl ?_ | refine S_load tabOk 0 rfl rfl rfl ?_ | refine S_store tabOk 0 rfl rfl rfl rfl rfl rfl ?_)
    refine S_ext rfl (fun w' => add64_ok (x := l[k].2 - l[k].1) (y := 1) (by omega) (by decide) w') ?_
    repeat (first | refine T_seq ?_ | refine T_region ?_ | refine S_nil ?_ | refine S_pure tabOk rfl ?_)
    refine S_ext rfl (fun w' => add64_ok (x := tot (l.take k)) (y := (l[k].2 - l[k].1 + 1) % 18446744073709551616) h0 (by omega) w') ?_
    repeat (first | refine T_seq ?_ | refine T_region ?_ | refine S_nil ?_ | refine S_u64 tabOk rfl (by omega) ?_ | refine S_pure tabOk rfl ?_)
    refine T_cond_dec rfl (fun h1 => ?_) (fun h1 => ?_)
    · have e : min (tot l) lastN = 18446744073709551615 := by unfold lastN; omega
      rw [e]
      repeat (first | refine T_seq ?_ | refine T_region ?_ | refine S_nil ?_ | refine inb_ret ?_ | refine pthen_ret ?_ | refine T_ret ?_ | refine S_pure tabOk rfl ?_)
      exact ret1 rfl rfl (fun w' hw => ⟨rfl, hw.below (by repeat (first | exact new_nil | refine new_cons (by first | assumption | omega) ?_))⟩)
    · have e : (tot (l.take k) + (l[k].2 - l[k].1 + 1) % 18446744073709551616) % 18446744073709551616 = tot (l.take (k + 1)) := by omega
      rw [e]
      repeat (first | refine T_region ?_ | refine S_nil ?_ | refine pthen_normal ?_ | refine inb_normal ?_ | refine T_skip ?_ | refine S_i64 tabOk rfl (by omega) ?_ | refine S_pure tabOk rfl ?_ | refine T_region_any ?_)
      exact ⟨k + 1, ⟨by omega, by unfold lastN; omega⟩, by repeat (first | exact Sub.nil | refine Sub.cons rfl ?_), fun w' hw => hw.dropn hb5, by omega⟩
  · have e : k = n := by omega
    subst e
    rw [List.take_of_length_le (by omega)] at hT ⊢
    have e : min (tot l) lastN = tot l := by unfold lastN; omega
    rw [e]
    repeat (first | refine T_seq ?_ | refine T_region ?_ | refine S_nil ?_ | refine pthen_normal ?_ | refine inb_hit ?_ | refine pthen_exit ?_ | refine T_ret ?_ | refine T_exit ?_ | refine S_pure tabOk rfl ?_)
    exact ret1 rfl rfl (fun w' hw => ⟨rfl, hw.below (by repeat (first | exact new_nil))⟩)
/-! ### Sums -/
open Classical in
noncomputable def card (P : Int → Prop) : Nat → Int
  | 0 => 0
  | N + 1 => card P N + (if P (N : Int) then 1 else 0)
theorem card_or {P Q : Int → Prop} (h : ∀ x, P x → ¬ Q x) : ∀ N, card (fun x => P x ∨ Q x) N = card P N + card Q N
  | 0 => rfl
  | N + 1 => by
    have ih := card_or h N
    unfold card
    by_cases h1 : P (N : Int)
    · have h2 := h _ h1
      simp only [h1, h2, true_or, if_true, if_false]
      omega
    · by_cases h2 : Q (N : Int)
      · simp only [h1, h2, or_true, if_true, if_false]
        omega
      · simp only [h1, h2, or_self, if_false]
        omega
theorem card_iv {a b : Int} (ha : 0 ≤ a) : ∀ N : Nat, card (fun x => a ≤ x ∧ x ≤ b) N = max 0 (min b ((N : Int) - 1) - a + 1)
  | 0 => by
    show (0 : Int) = _
    omega
  | N + 1 => by
    have ih := card_iv (b := b) ha N
    unfold card
    by_cases h1 : a ≤ (N : Int) ∧ (N : Int) ≤ b
    · rw [if_pos h1]
      omega
    · rw [if_neg h1]
      omega
theorem card_congr {P Q : Int → Prop} (h : ∀ x, P x ↔ Q x) (N : Nat) : card P N = card Q N := by
  have : P = Q := funext fun x => propext (h x)
  rw [this]
theorem card_none : ∀ N, card (fun _ => False) N = 0
  | 0 => rfl
  | N + 1 => by unfold card; rw [card_none N]; simp
theorem tot_card {m : List Run} (hc : Can m) (hb : ∀ r ∈ m, 0 ≤ r.1 ∧ r.2 < 18446744073709551616) : tot m = card (Mem m) 18446744073709551616 := by
  induction m with
  | nil =>
    rw [card_congr (Q := fun _ => False) (fun x => ⟨fun h => mem_nil x h, fun h => h.elim⟩), card_none]
    rfl
  | cons r l ih =>
    obtain ⟨h1, h2, h3⟩ := can_cons.1 hc
    rw [card_congr (Q := fun x => (r.1 ≤ x ∧ x ≤ r.2) ∨ Mem l x) (mem_cons r l), card_or (fun x hx ⟨s, hs, hs2⟩ => by have := h2 s hs; omega), card_iv (hb r (by simp)).1, ← ih h3 fun s hs => hb s (List.mem_cons_of_mem _ hs)]
    have := (hb r (by simp)).2
    rw [tot]
    omega
theorem okL_bd {m : List Run} (h : okL m) : ∀ r ∈ m, 0 ≤ r.1 ∧ r.2 < 18446744073709551616 := fun r hr => by
  have := fits_u64 (h r hr).1
  have := fits_u64 (h r hr).2
  omega
/-- Runs within bounds that are asx few asx there can be have ends within them. -/
theorem mem_okb {m : List Run} (hc : Can m) (h : ∀ x, Mem m x → 0 ≤ x ∧ x ≤ lastN) : ∀ r ∈ m, 0 ≤ r.1 ∧ r.2 < 18446744073709551616 := fun r hr => by
  have h1 := hc.le r hr
  have h2 := h r.1 ⟨r, hr, Int.le_refl _, h1⟩
  have h3 := h r.2 ⟨r, hr, h1, Int.le_refl _⟩
  unfold lastN at h2 h3
  omega
theorem countS_add {S T U : Int → Prop} {a b c : Int} (hbd : ∀ x, S x → 0 ≤ x ∧ x ≤ lastN) (h1 : CountS S c) (h2 : CountS T a) (h3 : CountS U b) (hS : ∀ x, S x ↔ T x ∨ U x) (hd : ∀ x, T x → ¬ U x) :
    0 ≤ a ∧ a ≤ lastN ∧ 0 ≤ b ∧ b ≤ lastN ∧ (a + b ≤ lastN → c = a + b) := by
  obtain ⟨m, c1, e1, rfl⟩ := h1
  obtain ⟨p, c2, e2, rfl⟩ := h2
  obtain ⟨q, c3, e3, rfl⟩ := h3
  have t1 := tot_card c1 (mem_okb c1 fun x h => hbd x ((e1 x).1 h))
  have t2 := tot_card c2 (mem_okb c2 fun x h => hbd x ((hS x).2 (.inl ((e2 x).1 h))))
  have t3 := tot_card c3 (mem_okb c3 fun x h => hbd x ((hS x).2 (.inr ((e3 x).1 h))))
  rw [card_congr (Q := fun x => Mem p x ∨ Mem q x) (fun x => by rw [e1, e2, e3, hS]), card_or (fun x h h' => hd x ((e2 x).1 h) ((e3 x).1 h')), ← t2, ← t3] at t1
  have n2 := tot_nn c2
  have n3 := tot_nn c3
  unfold lastN
  omega
theorem T_openRow {P : Program} {n : Nat} {w0 : World} {l : FL} {ol : OL} {Q : Post} {code : Code} {a : Option Addr} {m c base sz : Nat} {e : TypeId} {xs : List Value} (hm : 0 < m)
    (k : ∀ b junk, a = some ⟨b, 0, none⟩ → base ≤ b → m ≤ c → xs.length = m * sz → (xs ++ junk).length = c * sz → c ≤ maxLen → T P n w0 code l (.blk b (.cells ⟨xs ++ junk⟩ e (0, 0)) true :: ol) Q) : T P n w0 code l (.row base (.slice a m c) e sz m xs :: ol) Q :=
  ⟨fun ac w hf hh => by
    obtain ⟨b, junk, ha, hb, h1, h2, h3, h4, h5⟩ := Hp.openRow (pre := []) hh hm
    exact (k b junk ha hb h1 h2 h3 h4).out ac w hf h5⟩
theorem setMany_ex : ∀ (vs cs : List Value) (off : Nat), off + vs.length ≤ cs.length → ∃ r, setMany cs off vs = some r ∧ r.length = cs.length
  | [], cs, 0, h => ⟨cs, by cases cs <;> rfl, rfl⟩
  | [], [], k + 1, h => by simp at h
  | [], c :: cs, k + 1, h => by
    obtain ⟨r, h1, h2⟩ := setMany_ex [] cs k (by simp at h ⊢; omega)
    exact ⟨c :: r, by simp only [setMany, h1], by simp [h2]⟩
  | v :: vs, [], off, h => by simp at h
  | v :: vs, c :: cs, 0, h => by
    obtain ⟨r, h1, h2⟩ := setMany_ex vs cs 0 (by simp at h ⊢; omega)
    exact ⟨v :: r, by simp only [setMany, h1], by simp [h2]⟩
  | v :: vs, c :: cs, k + 1, h => by
    obtain ⟨r, h1, h2⟩ := setMany_ex (v :: vs) cs k (by simp at h ⊢; omega)
    exact ⟨c :: r, by simp only [setMany, h1], by simp [h2]⟩
section
variable {S T : Int → Prop} {B C : Nat} {v u : Value} {A D : Nat → Prop}
theorem count_p (w : World) (h : (setP S B).at_ w A v) (hB : B ≤ 900000) :
    Calls Try.prog 28 #[v] w fun e w' => ∃ v, e = .returned v ∧ Below w.heap.size w w' ∧ ∃ k, v = .int .u64 k ∧ CountS S k := by
  obtain ⟨a, n, c, m, rfl, h1, h2, h3, h4⟩ := setP_form h
  have := h4.len
  exact (count_ok a n c m A w h4 h1 (by omega)).mono fun e w' ⟨e1, e2⟩ => ⟨_, e1, e2, _, rfl, m, h1, h2, rfl⟩
theorem same_t (w : World) (h : (setP S B).at_ w A v) (k : (setP T C).at_ w D u) (hST : ∀ x, S x ↔ T x) : Calls Try.prog 52 #[v, u] w fun e w' => e = .returned (.bool true) ∧ Below w.heap.size w w' :=
  (same_p w h k).mono fun e w' ⟨v, e1, e2, q, e3, e4⟩ => by
    obtain rfl := bool_t e4 hST
    exact ⟨by rw [e1, e3], e2⟩
theorem has_v (x : Int) (q : Bool) (w : World) (h : (setP S B).at_ w A v) (hB : B ≤ 900000) (hq : q = true ↔ S x) :
    Calls Try.prog 43 #[v, .int .u64 x] w fun e w' => e = .returned (.bool q) ∧ Below w.heap.size w w' :=
  (has_p x w h hB).mono fun e w' ⟨v, e1, e2, q', e3, e4⟩ => by
    have : q' = q := by cases q <;> cases q' <;> simp_all
    subst this
    exact ⟨by rw [e1, e3], e2⟩
end

end Go.Proofs.Ytidhpofcofknhaa
