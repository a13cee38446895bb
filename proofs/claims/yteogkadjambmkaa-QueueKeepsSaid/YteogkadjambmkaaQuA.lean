/-
  queue.numbers as a heap's object. Conditions: each theorem's own. (Made by genQuA.py.)
-/
import Derived.Test.YteogkadjambmkaaItF
import Derived.Test.YteogkadjambmkaaEz
import Derived.Test.YteogkadjambmkaaRowO
namespace Go.Proofs.Yteogkadjambmkaa
open Go Go.RowKit Go.Sort
set_option linter.unusedVariables false

def nuR (x y : Int) : Bool := decide (x < y)
theorem nuR_sw : SW nuR := by
  constructor
  · intro a b h
    simp only [nuR, decide_eq_true_eq, decide_eq_false_iff_not] at h ⊢
    omega
  · intro a b c h1 h2
    simp only [nuR, decide_eq_false_iff_not] at h1 h2 ⊢
    omega
theorem qlen_ok (a : Option Addr) (n c : Nat) (w : World) : Calls Try.prog 117 #[.slice a n c] w fun e w' => e = .returned (.int .i64 (n : Int)) ∧ Below w.heap.size w w' := by
  refine enter1 Try.func117 rfl rfl (Hp.refl w) ?_
  repeat (first | refine T_draw (by kernel_rfl) (by kernel_rfl) ?_ | refine D_all rfl ?_ | refine D_i64 tabOk rfl (by omega) ?_ | refine D_u64 tabOk rfl (by omega) ?_ | refine D_pure tabOk rfl ?_ | refine D_pass rfl rfl rfl ?_ | refine D_load tabOk 0 rfl rfl rfl ?_ | refine D_load tabOk 1 rfl rfl rfl ?_ | refine D_load tabOk 2 rfl rfl rfl ?_ | refine D_load tabOk 3 rfl rfl rfl ?_ | refine D_load tabOk 4 rfl rfl rfl ?_ | refine T_seq ?_ | refine T_region ?_ | refine T_block ?_ | refine S_nil ?_ | refine pthen_normal ?_ | refine inb_normal ?_ | refine inb_ret ?_ | refine pthen_ret ?_ | refine inb_hit ?_ | refine pthen_exit ?_ | refine T_skip ?_ | refine T_ret ?_ | refine T_exit ?_  | refine S_i64 tabOk rfl (by omega) ?_ | refine S_u64 tabOk rfl (by omega) ?_ | refine S_pure tabOk rfl ?_ | refine S_pass rfl rfl rfl ?_ | refine S_pass0 rfl rfl ?_ | refine T_region_any ?_  | refine S_load tabOk 0 rfl rfl rfl ?_ | refine S_load tabOk 1 rfl rfl rfl ?_ | refine S_load tabOk 2 rfl rfl rfl ?_ | refine S_load tabOk 3 rfl rfl rfl ?_ | refine S_load tabOk 4 rfl rfl rfl ?_ | refine S_load tabOk 5 rfl rfl rfl ?_ | refine S_store tabOk 0 rfl rfl rfl rfl rfl rfl ?_ | refine S_store tabOk 1 rfl rfl rfl rfl rfl rfl ?_ | refine S_store tabOk 2 rfl rfl rfl rfl rfl rfl ?_ | refine S_store tabOk 3 rfl rfl rfl rfl rfl rfl ?_ | refine S_store tabOk 4 rfl rfl rfl rfl rfl rfl ?_ | refine S_store tabOk 5 rfl rfl rfl rfl rfl rfl ?_ | refine S_q (Q_build tabOk rfl rfl rfl rfl rfl rfl rfl) ?_ | refine D_q (Q_build tabOk rfl rfl rfl rfl rfl rfl rfl) ?_)
  exact ret1 rfl rfl (fun w' hw => ⟨rfl, hw.below new_nil⟩)
set_option maxHeartbeats 1000000 in
theorem qless_ok (a : Option Addr) (c : Nat) (s : List Int) (i j : Nat) (w : World) (hx : Sl w 1 a s.length (s.map (.int .u64))) (hi : i < s.length) (hj : j < s.length) :
    Calls Try.prog 118 #[.slice a s.length c, .int .i64 (i : Int), .int .i64 (j : Int)] w fun e w' => e = .returned (.bool (ltL nuR s i j)) ∧ Below w.heap.size w w' := by
  have e1 : (s.map (Value.int .u64))[i]? = some (.int .u64 s[i]) := by rw [List.getElem?_map, List.getElem?_eq_getElem hi]; rfl
  have e2 : (s.map (Value.int .u64))[j]? = some (.int .u64 s[j]) := by rw [List.getElem?_map, List.getElem?_eq_getElem hj]; rfl
  have hlt : ltL nuR s i j = decide (s[i] < s[j]) := by unfold ltL; rw [List.getElem?_eq_getElem hi, List.getElem?_eq_getElem hj]; rfl
  obtain ⟨b, off, rfl, hlt1, _⟩ := hx.get (by omega)
  refine enter3 Try.func118 rfl rfl (Hp.refl w) ?_
  repeat (first | refine T_draw (by kernel_rfl) (by kernel_rfl) ?_ | refine D_all rfl ?_ | refine D_i64 tabOk rfl (by omega) ?_ | refine D_u64 tabOk rfl (by omega) ?_ | refine D_pure tabOk rfl ?_ | refine D_pass rfl rfl rfl ?_ | refine D_load tabOk 0 rfl rfl rfl ?_ | refine D_load tabOk 1 rfl rfl rfl ?_ | refine D_load tabOk 2 rfl rfl rfl ?_ | refine D_load tabOk 3 rfl rfl rfl ?_ | refine D_load tabOk 4 rfl rfl rfl ?_ | refine T_seq ?_ | refine T_region ?_ | refine T_block ?_ | refine S_nil ?_ | refine pthen_normal ?_ | refine inb_normal ?_ | refine inb_ret ?_ | refine pthen_ret ?_ | refine inb_hit ?_ | refine pthen_exit ?_ | refine T_skip ?_ | refine T_ret ?_ | refine T_exit ?_  | refine S_i64 tabOk rfl (by omega) ?_ | refine S_u64 tabOk rfl (by omega) ?_ | refine S_pure tabOk rfl ?_ | refine S_pass rfl rfl rfl ?_ | refine S_pass0 rfl rfl ?_ | refine T_region_any ?_  | refine S_load tabOk 0 rfl rfl rfl ?_ | refine S_load tabOk 1 rfl rfl rfl ?_ | refine S_load tabOk 2 rfl rfl rfl ?_ | refine S_load tabOk 3 rfl rfl rfl ?_ | refine S_load tabOk 4 rfl rfl rfl ?_ | refine S_load tabOk 5 rfl rfl rfl ?_ | refine S_store tabOk 0 rfl rfl rfl rfl rfl rfl ?_ | refine S_store tabOk 1 rfl rfl rfl rfl rfl rfl ?_ | refine S_store tabOk 2 rfl rfl rfl rfl rfl rfl ?_ | refine S_store tabOk 3 rfl rfl rfl rfl rfl rfl ?_ | refine S_store tabOk 4 rfl rfl rfl rfl rfl rfl ?_ | refine S_store tabOk 5 rfl rfl rfl rfl rfl rfl ?_ | refine S_q (Q_build tabOk rfl rfl rfl rfl rfl rfl rfl) ?_ | refine D_q (Q_build tabOk rfl rfl rfl rfl rfl rfl rfl) ?_)
  refine D_q (Q_idx1 tabOk rfl rfl rfl rfl rfl rfl rfl (j := i) rfl (by omega)) ?_
  refine D_load1 tabOk (v := .int .u64 s[i]) rfl rfl (fun w' hw => (hx.ext (hw.below new_nil)).at_ (by omega) e1) ?_
  repeat (first | refine T_draw (by kernel_rfl) (by kernel_rfl) ?_ | refine D_all rfl ?_ | refine D_i64 tabOk rfl (by omega) ?_ | refine D_u64 tabOk rfl (by omega) ?_ | refine D_pure tabOk rfl ?_ | refine D_pass rfl rfl rfl ?_ | refine D_load tabOk 0 rfl rfl rfl ?_ | refine D_load tabOk 1 rfl rfl rfl ?_ | refine D_load tabOk 2 rfl rfl rfl ?_ | refine D_load tabOk 3 rfl rfl rfl ?_ | refine D_load tabOk 4 rfl rfl rfl ?_ | refine T_seq ?_ | refine T_region ?_ | refine T_block ?_ | refine S_nil ?_ | refine pthen_normal ?_ | refine inb_normal ?_ | refine inb_ret ?_ | refine pthen_ret ?_ | refine inb_hit ?_ | refine pthen_exit ?_ | refine T_skip ?_ | refine T_ret ?_ | refine T_exit ?_  | refine S_i64 tabOk rfl (by omega) ?_ | refine S_u64 tabOk rfl (by omega) ?_ | refine S_pure tabOk rfl ?_ | refine S_pass rfl rfl rfl ?_ | refine S_pass0 rfl rfl ?_ | refine T_region_any ?_  | refine S_load tabOk 0 rfl rfl rfl ?_ | refine S_load tabOk 1 rfl rfl rfl ?_ | refine S_load tabOk 2 rfl rfl rfl ?_ | refine S_load tabOk 3 rfl rfl rfl ?_ | refine S_load tabOk 4 rfl rfl rfl ?_ | refine S_load tabOk 5 rfl rfl rfl ?_ | refine S_store tabOk 0 rfl rfl rfl rfl rfl rfl ?_ | refine S_store tabOk 1 rfl rfl rfl rfl rfl rfl ?_ | refine S_store tabOk 2 rfl rfl rfl rfl rfl rfl ?_ | refine S_store tabOk 3 rfl rfl rfl rfl rfl rfl ?_ | refine S_store tabOk 4 rfl rfl rfl rfl rfl rfl ?_ | refine S_store tabOk 5 rfl rfl rfl rfl rfl rfl ?_ | refine S_q (Q_build tabOk rfl rfl rfl rfl rfl rfl rfl) ?_ | refine D_q (Q_build tabOk rfl rfl rfl rfl rfl rfl rfl) ?_)
  refine D_q (Q_idx1 tabOk rfl rfl rfl rfl rfl rfl rfl (j := j) rfl (by omega)) ?_
  refine D_load1 tabOk (v := .int .u64 s[j]) rfl rfl (fun w' hw => (hx.ext (hw.below new_nil)).at_ (by omega) e2) ?_
  repeat (first | refine T_draw (by kernel_rfl) (by kernel_rfl) ?_ | refine D_all rfl ?_ | refine D_i64 tabOk rfl (by omega) ?_ | refine D_u64 tabOk rfl (by omega) ?_ | refine D_pure tabOk rfl ?_ | refine D_pass rfl rfl rfl ?_ | refine D_load tabOk 0 rfl rfl rfl ?_ | refine D_load tabOk 1 rfl rfl rfl ?_ | refine D_load tabOk 2 rfl rfl rfl ?_ | refine D_load tabOk 3 rfl rfl rfl ?_ | refine D_load tabOk 4 rfl rfl rfl ?_ | refine T_seq ?_ | refine T_region ?_ | refine T_block ?_ | refine S_nil ?_ | refine pthen_normal ?_ | refine inb_normal ?_ | refine inb_ret ?_ | refine pthen_ret ?_ | refine inb_hit ?_ | refine pthen_exit ?_ | refine T_skip ?_ | refine T_ret ?_ | refine T_exit ?_  | refine S_i64 tabOk rfl (by omega) ?_ | refine S_u64 tabOk rfl (by omega) ?_ | refine S_pure tabOk rfl ?_ | refine S_pass rfl rfl rfl ?_ | refine S_pass0 rfl rfl ?_ | refine T_region_any ?_  | refine S_load tabOk 0 rfl rfl rfl ?_ | refine S_load tabOk 1 rfl rfl rfl ?_ | refine S_load tabOk 2 rfl rfl rfl ?_ | refine S_load tabOk 3 rfl rfl rfl ?_ | refine S_load tabOk 4 rfl rfl rfl ?_ | refine S_load tabOk 5 rfl rfl rfl ?_ | refine S_store tabOk 0 rfl rfl rfl rfl rfl rfl ?_ | refine S_store tabOk 1 rfl rfl rfl rfl rfl rfl ?_ | refine S_store tabOk 2 rfl rfl rfl rfl rfl rfl ?_ | refine S_store tabOk 3 rfl rfl rfl rfl rfl rfl ?_ | refine S_store tabOk 4 rfl rfl rfl rfl rfl rfl ?_ | refine S_store tabOk 5 rfl rfl rfl rfl rfl rfl ?_ | refine S_q (Q_build tabOk rfl rfl rfl rfl rfl rfl rfl) ?_ | refine D_q (Q_build tabOk rfl rfl rfl rfl rfl rfl rfl) ?_)
  exact ret1 rfl rfl (fun w' hw => ⟨by rw [hlt], hw.below new_nil⟩)
set_option maxHeartbeats 4000000 in
theorem qswap_ok {w0 w : World} {g c n : Nat} {d : Array Int} {junk : List Value} {rest : OL} (i j : Nat) (h : Hp w0 w (uE g 59 d junk :: rest)) (hn : d.size = n) (hi : i < n) (hj : j < n) :
    Calls Try.prog 119 #[.slice (some ⟨g, 0, none⟩) n c, .int .i64 (i : Int), .int .i64 (j : Int)] w fun e w' => e = .returned (.tuple #[]) ∧ Hp w0 w' (uE g 59 (swp d i j) junk :: rest) := by
  refine enterW3 Try.func119 rfl rfl h ?_
  let ol0 : OL := uE g 59 d junk :: rest
  let ol1 : OL := .blk g (.cells ⟨(uA d junk).set i (.int .u64 d[j]!)⟩ 59 (0, 0)) true :: rest
  let ol2 : OL := uE g 59 (swp d i j) junk :: rest
  let olf : (Nat → Bool) → OL := fun L => match L 15 with
    | true => ol2
    | false => match L 13 with
      | true => ol1
      | false => ol0
  refine T_asThen ?_
  refine T_drawS (by kernel_rfl) (by kernel_rfl) [.slice (some ⟨g, 0, none⟩) n c, .int .i64 (i : Int), .slice (some ⟨g, 0, none⟩) n c, .int .i64 (j : Int), .slice (some ⟨g, 0, none⟩) n c, .int .i64 (j : Int), .pointer (some ⟨g, 0 + j, none⟩), .int .u64 d[j]!, .slice (some ⟨g, 0, none⟩) n c, .int .i64 (i : Int), .pointer (some ⟨g, 0 + i, none⟩), .int .u64 d[i]!, .pointer (some ⟨g, 0 + i, none⟩), undef, .pointer (some ⟨g, 0 + j, none⟩), undef] rfl olf rfl ?_ (l' := [(1, .int .i64 (i : Int))]) (ol' := ol2) (fun L h => by simp only [olf, h 15 (by decide)]) (by repeat (first | exact SubD.nil | refine SubD.cons rfl ?_)) ?_
  · refine ⟨?_, ?_, ?_, ?_, ?_, ?_, ?_, ?_, ?_, ?_, ?_, ?_, ?_, ?_, ?_, ?_, trivial⟩
    · exact fun L hc hl hp => OpS.ofD rfl (D_pure tabOk rfl D_last)
    · exact fun L hc hl hp => OpS.ofD rfl (D_pure tabOk rfl D_last)
    · exact fun L hc hl hp => OpS.ofD rfl (D_pure tabOk rfl D_last)
    · exact fun L hc hl hp => OpS.ofD rfl (D_pure tabOk rfl D_last)
    · exact fun L hc hl hp => OpS.ofD rfl (D_pure tabOk rfl D_last)
    · exact fun L hc hl hp => OpS.ofD rfl (D_pure tabOk rfl D_last)
    · exact fun L hc hl hp => OpS.ofD rfl (D_q (Q_idx1 tabOk rfl rfl rfl rfl rfl rfl rfl (j := j) (by omega) (by omega)) D_last)
    · intro L hc hl hp
      have h13 := closed_no hc (j := 13) rfl ⟨7, .data⟩ (by simp) rfl hl
      have h15 := closed_no hc (j := 15) rfl ⟨7, .phase⟩ (by simp) rfl hl
      have e1 : olf L = ol0 := by simp only [olf, h13, h15]
      have e2 : olf (add L 7) = ol0 := by simp [olf, add, h13, h15]
      rw [e1, e2]
      exact OpS.ofD rfl (D_load1 tabOk (v := .int .u64 d[j]!) rfl rfl (fun w' hw => blkc hw (uA_get (by omega))) D_last)
    · exact fun L hc hl hp => OpS.ofD rfl (D_pure tabOk rfl D_last)
    · exact fun L hc hl hp => OpS.ofD rfl (D_pure tabOk rfl D_last)
    · exact fun L hc hl hp => OpS.ofD rfl (D_q (Q_idx1 tabOk rfl rfl rfl rfl rfl rfl rfl (j := i) (by omega) (by omega)) D_last)
    · intro L hc hl hp
      have h13 := closed_no hc (j := 13) rfl ⟨11, .phase⟩ (by simp) rfl hl
      have h15 := closed_no hc (j := 15) rfl ⟨11, .data⟩ (by simp) rfl hl
      have e1 : olf L = ol0 := by simp only [olf, h13, h15]
      have e2 : olf (add L 11) = ol0 := by simp [olf, add, h13, h15]
      rw [e1, e2]
      exact OpS.ofD rfl (D_load1 tabOk (v := .int .u64 d[i]!) rfl rfl (fun w' hw => blkc hw (uA_get (by omega))) D_last)
    · exact fun L hc hl hp => OpS.ofD rfl (D_q (Q_idx1 tabOk rfl rfl rfl rfl rfl rfl rfl (j := i) (by omega) (by omega)) D_last)
    · intro L hc hl hp
      have h15 := closed_no hc (j := 15) rfl ⟨13, .chain⟩ (by simp) rfl hl
      have e1 : olf L = ol0 := by simp only [olf, hl, h15]
      have e2 : olf (add L 13) = ol1 := by simp [olf, add, h15]
      rw [e1, e2]
      exact OpS.store tabOk 0 rfl rfl (by intro x hx; rw [List.mem_singleton] at hx; subst hx; rfl) rfl (by rw [Nat.zero_add]; exact setMany_1 (by rw [uA_len]; omega)) rfl
    · exact fun L hc hl hp => OpS.ofD rfl (D_q (Q_idx1 tabOk rfl rfl rfl rfl rfl rfl rfl (j := j) (by omega) (by omega)) D_last)
    · intro L hc hl hp
      have h13 : L 13 = true := hp ⟨13, .chain⟩ (by simp) rfl
      have e1 : olf L = ol1 := by simp only [olf, h13, hl]
      have e2 : olf (add L 15) = ol2 := by simp [olf, add]
      rw [e1, e2]
      exact OpS.store tabOk 0 rfl rfl (by intro x hx; rw [List.mem_singleton] at hx; subst hx; rfl) rfl (by rw [Nat.zero_add]; exact (setMany_1 (by rw [List.length_set, uA_len]; omega)).trans (congrArg some (uA_swp (by omega) (by omega)))) rfl
  clear olf ol0 ol1
  dsimp only [ol2]
  clear ol2
  exact ret0n rfl (fun w' hw => ⟨rfl, hw⟩)
theorem swp_list {s : List Int} {i j : Nat} (hi : i < s.length) (hj : j < s.length) : (swp s.toArray i j).toList = swL s i j := by
  unfold swL
  rw [List.getElem?_eq_getElem hi, List.getElem?_eq_getElem hj]
  have b1 : s.toArray[i]! = s[i] := by rw [Array.getElem!_eq_getD, Array.getD_eq_getD_getElem?, List.getElem?_toArray, List.getElem?_eq_getElem hi]; rfl
  have b2 : s.toArray[j]! = s[j] := by rw [Array.getElem!_eq_getD, Array.getD_eq_getD_getElem?, List.getElem?_toArray, List.getElem?_eq_getElem hj]; rfl
  simp [swp, b1, b2]
/-- The queue's block, in it the numbers' row. -/
def nuV (qb : Nat) (k0 k1 k2 k4 k5 : Value) (s : List Int) : Vp :=
  ⟨fun w F v => w.heap[qb]? = some (.cells ⟨[k0, k1, k2, v, k4, k5]⟩ 105 (0, 0)) ∧ F qb ∧ w.ownsRow 0 59 1 v s.length (s.map (.int .u64)) ∧ (∀ k, v.ownBlock = some k → F k) ∧ s.length ≤ 1073741824,
   fun {w w' A B v} ⟨h1, h2, h3, h4, h6⟩ hk => ⟨((hk qb h2 (heap_lt h1)).1).trans h1, (hk qb h2 (heap_lt h1)).2, own_keep h3 (fun k hv => (hk k (h4 k hv) (World.ownsRow.lt h3 k hv).2).1), fun k hv => (hk k (h4 k hv) (World.ownsRow.lt h3 k hv).2).2, h6⟩⟩
def nuP (qb : Nat) (k0 k1 k2 k4 k5 : Value) (s : List Int) : Vp :=
  ⟨fun w F _ => ∃ v, (nuV qb k0 k1 k2 k4 k5 s).at_ w F v, fun ⟨v, h⟩ hk => ⟨v, (nuV qb k0 k1 k2 k4 k5 s).keep h hk⟩⟩
section
variable {qb : Nat} {k0 k1 k2 k4 k5 : Value} {s : List Int} {w : World} {F : Nat → Prop} {v : Value}
theorem nuV_form (h : (nuV qb k0 k1 k2 k4 k5 s).at_ w F v) : ∃ a c, v = .slice a s.length c ∧ s.length ≤ c := by
  obtain ⟨a, c, h1, h2, _⟩ := form_of_own h.2.2.1
  exact ⟨a, c, h1, h2⟩
theorem nuV_cell (h : (nuV qb k0 k1 k2 k4 k5 s).at_ w F v) : w.cell? ⟨qb, 3, none⟩ = some v := by
  have h1 := Sl.of_blk (n := 6) (sz := 1) (off := 0) (xs := [k0, k1, k2, v, k4, k5]) h.1 rfl (fun j u hu => by rw [Nat.zero_add]; exact hu)
  exact h1.at_ (j := 3) (by decide) rfl
abbrev nuI (qb : Nat) : Value := .iface 107 (.pointer (some ⟨qb, 3, none⟩))
theorem nuV_load (h : (nuV qb k0 k1 k2 k4 k5 s).at_ w F v) : (loadVar 103 ⟨qb, 3, none⟩).run Try.prog w = .ok v w :=
  loadVar_one tabOk (t := 103) rfl rfl (nuV_cell h)
theorem nuM_len (h : (nuP qb k0 k1 k2 k4 k5 s).at_ w F (.bool true)) : Meth Try.prog (nuI qb) "Len" [] w fun e w' => e = .returned (.int .i64 (s.length : Int)) ∧ Below w.heap.size w w' := by
  obtain ⟨v, hv⟩ := h
  obtain ⟨a, c, rfl, _⟩ := nuV_form hv
  exact meth_val' (f := 117) (by kernel_rfl) (by kernel_rfl) Try.call117 (nuV_load hv) (qlen_ok a s.length c w)
theorem nuM_less {i j : Nat} (h : (nuP qb k0 k1 k2 k4 k5 s).at_ w F (.bool true)) (hi : i < s.length) (hj : j < s.length) : Meth Try.prog (nuI qb) "Less" [.int .i64 (i : Int), .int .i64 (j : Int)] w fun e w' => e = .returned (.bool (ltL nuR s i j)) ∧ Below w.heap.size w w' := by
  obtain ⟨v, hv⟩ := h
  obtain ⟨a, c, rfl, _⟩ := nuV_form hv
  exact meth_val' (f := 118) (by kernel_rfl) (by kernel_rfl) Try.call118 (nuV_load hv) (qless_ok a c s i j w (Sl.of_own hv.2.2.1) hi hj)
theorem own_open {base n c : Nat} {a : Option Addr} {E : TypeId} {xs : List Value} (h : w.ownsRow base E 1 (.slice a n c) n xs) (hn : 0 < n) : ∃ g junk, a = some ⟨g, 0, none⟩ ∧ base ≤ g ∧ n ≤ c ∧ xs.length = n ∧ (xs ++ junk).length = c ∧ c ≤ maxLen ∧ w.heap[g]? = some (.cells ⟨xs ++ junk⟩ E (0, 0)) := by
  obtain ⟨h1, h2⟩ := h
  rcases h2 with ⟨_, h2⟩ | ⟨g, cap, cur, hv, hb, hg, hnc, hcm, hcs, htake⟩
  · omega
  · cases hv
    rw [Nat.mul_one] at h1 hcs htake
    have hcur : cur.toList = xs ++ cur.toList.drop n := by rw [← htake, List.take_append_drop]
    refine ⟨g, cur.toList.drop n, rfl, hb, hnc, h1, by rw [← hcur]; simpa using hcs, hcm, ?_⟩
    rw [← hcur]
    exact hg
theorem own_close {base n c g : Nat} {E : TypeId} {xs junk : List Value} (hg : w.heap[g]? = some (.cells ⟨xs ++ junk⟩ E (0, 0))) (hb : base ≤ g) (hnc : n ≤ c) (hm : c ≤ maxLen) (hl : xs.length = n) (hj : (xs ++ junk).length = c) : w.ownsRow base E 1 (.slice (some ⟨g, 0, none⟩) n c) n xs :=
  ⟨by rw [hl, Nat.mul_one], .inr ⟨g, c, _, rfl, hb, hg, hnc, hm, by rw [Nat.mul_one]; exact hj, by rw [Nat.mul_one]; show List.take n (xs ++ junk) = xs; rw [← hl, List.take_left]⟩⟩
theorem nuM_swap {i j : Nat} (h : (nuP qb k0 k1 k2 k4 k5 s).at_ w F (.bool true)) (hF : ∀ k, F k → k < w.heap.size) (hi : i < s.length) (hj : j < s.length) :
    Meth Try.prog (nuI qb) "Swap" [.int .i64 (i : Int), .int .i64 (j : Int)] w fun e w' => e = .returned (.tuple #[]) ∧ Hp w w' [.rep (fun w => (nuP qb k0 k1 k2 k4 k5 (swL s i j)).at_ w F (.bool true)) F true] := by
  obtain ⟨v, hv⟩ := h
  obtain ⟨a, c, rfl, _⟩ := nuV_form hv
  obtain ⟨h1, h2, h3, h4, h6⟩ := id hv
  obtain ⟨g, junk, rfl, hb, hnc, hxl, hjl, hcm, hg⟩ := own_open h3 (by omega)
  have hgq : g ≠ qb := fun e => by
    subst e
    rw [hg] at h1
    exact absurd (Obj.cells.inj (Option.some.inj h1)).2.1 (by decide)
  refine meth_val' (f := 119) (by kernel_rfl) (by kernel_rfl) Try.call119 (nuV_load hv) ?_
  refine (qswap_ok (d := s.toArray) (junk := junk) (rest := []) i j (Hp.start true hg) (by simp) hi hj).mono fun e w' ⟨he, h8⟩ => ⟨he, ?_⟩
  have hg2 : w'.heap[g]? = _ := h8.own _ List.mem_cons_self
  have hsl : (swL s i j).length = s.length := swL_len s i j
  refine h8.widenL (fun e he k hk => ?_) ⟨.slice (some ⟨g, 0, none⟩) s.length c, ?_, h2, ?_, h4, by rw [hsl]; exact h6⟩ (Vp.loc (p := nuP qb k0 k1 k2 k4 k5 (swL s i j))) hF
  · rw [List.mem_singleton] at he
    subst he
    have := Option.some.inj hk
    rw [← this]
    exact h4 g rfl
  · exact (h8.old qb (heap_lt h1) fun e he _ hh => by
      rw [List.mem_singleton] at he
      subst he
      exact hgq (Option.some.inj hh)).trans h1
  · rw [hsl]
    rw [uA, swp_list hi hj] at hg2
    exact own_close hg2 hb hnc hcm (by rw [List.length_map, hsl]) (by simp only [List.length_append, List.length_map, hsl] at hjl ⊢; exact hjl)
end
/-- The numbers are an object. -/
noncomputable def nuOb (qb : Nat) (k0 k1 k2 k4 k5 : Value) : HOb Try.prog (nuI qb) (List Int) where
  p := nuP qb k0 k1 k2 k4 k5
  len := List.length
  lt := ltL nuR
  sw := swL
  lenSw := swL_len
  hle := fun ⟨v, h⟩ => h.2.2.2.2
  hlen := nuM_len
  hlt := nuM_less
  hsw := nuM_swap
theorem nuOb_ol (qb : Nat) (k0 k1 k2 k4 k5 : Value) : OL_ (nuOb qb k0 k1 k2 k4 k5) nuR := ⟨fun _ => rfl, fun _ _ _ => rfl, fun _ _ _ => rfl⟩
end Go.Proofs.Yteogkadjambmkaa
