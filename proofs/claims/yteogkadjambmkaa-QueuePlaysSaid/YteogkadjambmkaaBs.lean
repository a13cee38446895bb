/-
  Contracts of the document's helpers for bytes (Join, Cut, Same) and of both sums. Conditions: each theorem's own. Contracts of Cut, Same, both sums, the table, awake. Conditions: each theorem's own. Bytes, further: parts of slices, one slice joined, bytes.Clone, bytes.Equal, rows that are turned. Conditions: each theorem's own. Slices that are made. Conditions: each theorem's own. Contracts of package span's small functions and of cmp's. Conditions: each theorem's own.
  Conditions: each theorem's own.
-/
import Derived.Laws.BytesArg
import Derived.Laws.MakeOwn
import Derived.Test.YteogkadjambmkaaEz
namespace Go.Proofs.Yteogkadjambmkaa
open Go Go.RowKit
set_option linter.unusedVariables false


theorem Ints.ext {k : IntKind} {w w' : World} {a : Option Addr} {n c : Nat} {zs : List Int} (h : Ints k w a n c zs) (hb : Below w.heap.size w w') : Ints k w' a n c zs := ⟨h.len, h.cap, h.max, h.nil, h.fits, h.sl.ext hb⟩
/-! ### Join, Cut, Same -/
structure Bp where
  a : Option Addr
  n : Nat
  c : Nat
  zs : List Int
def Bp.v (p : Bp) : Value := .slice p.a p.n p.c
def cat (ps : List Bp) : List Int := (ps.map (·.zs)).flatten
theorem cat_snoc (ps : List Bp) (k : Nat) (h : k < ps.length) : cat (ps.take (k + 1)) = cat (ps.take k) ++ ps[k].zs := by
  unfold cat
  rw [List.take_succ_eq_append_getElem h, List.map_append, List.flatten_append]
  simp
theorem cat_take_le (ps : List Bp) (k : Nat) : (cat (ps.take k)).length ≤ (cat ps).length := by
  have : cat ps = cat (ps.take k) ++ cat (ps.drop k) := by
    unfold cat
    rw [← List.flatten_append, ← List.map_append, List.take_append_drop]
  rw [this, List.length_append]
  omega
theorem join_ok (h : Option Addr) (m mc : Nat) (ps : List Bp) (w : World) (hm : m ≤ 9223372036854775807) (hh : Sl w 1 h m (ps.map Bp.v)) (hp : ∀ p ∈ ps, Ints .u8 w p.a p.n p.c p.zs) (hlen : (cat ps).length ≤ 2147483648) :
    Calls Try.prog 67 #[.slice h m mc] w fun e w' => ∃ a c, e = .returned (.slice a (cat ps).length c) ∧ Below w.heap.size w w' ∧ w'.ownsRow w.heap.size 5 1 (.slice a (cat ps).length c) (cat ps).length ((cat ps).map (.int .u8)) := by
  have hpl : ps.length = m := by have := hh.len; simpa using this
  refine enter1 Try.func67 rfl rfl (Hp.refl w) ?_
  repeat (first | refine T_seq ?_ | refine T_region ?_ | refine T_block ?_ | refine S_nil ?_ | refine S_pure tabOk rfl ?_)
  refine T_loop (ι := Nat × Option Addr × Nat) (fun i => [(0, .slice h m mc), (6, .slice h m mc), (7, .int .i64 (m : Int)), (3, .slice i.2.1 (cat (ps.take i.1)).length i.2.2), (8, .int .i64 (i.1 : Int))])
    (fun i => [.row w.heap.size (.slice i.2.1 (cat (ps.take i.1)).length i.2.2) 5 1 (cat (ps.take i.1)).length ((cat (ps.take i.1)).map (.int .u8))]) (fun i => i.1 ≤ m) (fun i => m - i.1) (0, none, 0) (Nat.zero_le _) (by repeat (first | exact Sub.nil | refine Sub.cons rfl ?_)) (fun _ hw => hw.nilRow _ _) ?_
  rintro ⟨k, a, c⟩ hk
  dsimp only at hk ⊢
  repeat (first | refine T_seq ?_ | refine T_region ?_ | refine S_nil ?_ | refine S_pure tabOk rfl ?_)
  refine T_cond_dec rfl (fun h => ?_) (fun h => ?_)
  · repeat (first | refine T_seq ?_ | refine T_region ?_ | refine T_block ?_ | refine pthen_normal ?_ | refine T_skip ?_)
    have hk' : k < ps.length := by omega
    obtain ⟨b, off, rfl, hlt, hc⟩ := hh.get (by omega)
    refine S_q (Q_idx1 tabOk rfl rfl rfl rfl rfl rfl rfl rfl (j := k) (by omega)) ?_
    refine S_load1 tabOk rfl rfl (v := ps[k].v) (fun w' hw => ?_) ?_
    · exact (Sl.at_ (hh.ext (hw.below (newrow hw 0 rfl (Nat.le_refl _) new_nil))) (by omega) (by simp [hk']))
    repeat (first | refine S_nil ?_ | refine S_pure tabOk rfl ?_ | refine T_region_any ?_)
    have hpk := hp ps[k] (List.getElem_mem hk')
    have e1 := cat_snoc ps k hk'
    have hle := cat_take_le ps (k + 1)
    rw [e1, List.length_append, hpk.len] at hle
    refine S_append (ty := 0) tabOk 0 rfl rfl rfl rfl rfl rfl rfl rfl rfl (by decide) (fun w' hw => hpk.sl.ext (hw.below (newrow hw 0 rfl (Nat.le_refl _) new_nil))) (allOne_map _ (fun _ => rfl) _) (by simp only [maxLen]; omega) (by show (_ + _) * 1 ≤ _; omega) rfl (fun A' c' h1 h2 => ⟨_, rfl, ?_⟩)
    repeat (first | refine T_region ?_ | refine S_nil ?_ | refine pthen_normal ?_ | refine inb_normal ?_ | refine S_i64 tabOk rfl (by omega) ?_ | refine S_pure tabOk rfl ?_)
    refine ⟨(k + 1, A', c'), by dsimp only; omega, ?_, ?_, by dsimp only; omega⟩
    · simp only [e1, List.length_append, hpk.len]
      repeat (first | exact Sub.nil | refine Sub.cons rfl ?_)
    · simp only [e1, List.length_append, hpk.len, List.map_append]
      exact fun _ hw => hw
  · have e : k = m := by omega
    subst e
    repeat (first | refine T_seq ?_ | refine T_region ?_ | refine S_nil ?_ | refine pthen_normal ?_ | refine inb_hit ?_ | refine pthen_exit ?_ | refine T_ret ?_ | refine T_exit ?_ | refine S_pure tabOk rfl ?_)
    have et : ps.take k = ps := List.take_of_length_le (by omega)
    rw [et]
    refine ret1 rfl rfl (fun w' hw => ⟨a, c, rfl, hw.below (newrow hw 0 rfl (Nat.le_refl _) new_nil), ?_⟩)
    exact hw.own _ (getE_mem (i := 0) rfl)

section
variable {P : Program} {tb : Tab} {n : Nat} {w0 : World} {all : Array Oper} {os : List Oper} {o : Oper} {l : FL} {ol ol' : OL} {K : FL → OL → Prop} {Q : Post}
/-- A row of bytes that a constant string becomes: the run-time's mark lies behind its last cell. -/
theorem S_mark (ht : TabOk P tb) (i : Nat) {d b m c : Nat} {t e e' : TypeId} {x : Operand} {cs : List Value} {ti te : TI} (hs : opAt? n all (look l) o = some (d, .convert t t x)) (hx : ev (look l) x = some (.slice (some ⟨b, 0, none⟩) m c)) (hti : tl tb t = some ti) (hd : ti.desc = .slice e) (hte : tl tb e = some te) (hed : te.desc = .int .u8)
    (hi : getE ol i = some (.blk b (.cells ⟨cs⟩ e' (0, 0)) true)) (ho : putE ol i (.blk b (.cells ⟨cs⟩ e' (cs.length, cs.length + 1)) true) = some ol') (k : S P n w0 all os ((d, .slice (some ⟨b, 0, none⟩) m c) :: l) ol' K Q) : S P n w0 all (o :: os) l ol K Q := by
  obtain ⟨hdst, hlt, hg, hop⟩ := opAt_spec hs
  refine ⟨fun a w hf hh => ?_⟩
  have hown : w.heap[b]? = some (.cells ⟨cs⟩ e' (0, 0)) := hh.own _ (getE_mem hi)
  have u1 := ht.under' hti
  rw [hd] at u1
  have u2 := ht.under' hte
  rw [hed] at u2
  have hsh : w.shape? b = some (e', cs.length) := by unfold World.shape?; rw [hown]; rfl
  have hrun : (convert t t (.slice (some ⟨b, 0, none⟩) m c)).run P w = .ok (.slice (some ⟨b, 0, none⟩) m c) (w.freeze ⟨b, cs.length, none⟩ 1) := by
    simp [convert, run_underlying u1, run_underlying u2, markStringish, hsh]
  refine wpList_run (v := .slice (some ⟨b, 0, none⟩) m c) (gd_wanted hf.rd hg) ?_ ?_ (w' := w.freeze ⟨b, cs.length, none⟩ 1)
  · unfold execOp
    simp only [hop, hf.rd.ev hx, Sem.run_bind, hrun, Result.andThen_ok, Sem.run_pure]
  · rw [hdst]
    refine k.out _ _ (hf.put hlt _) ?_
    obtain ⟨pre, post, e1, e2⟩ := putE_eq hi ho
    rw [e1] at hh
    rw [e2]
    have hfz : (w.freeze ⟨b, cs.length, none⟩ 1).heap = w.heap.modify b fun
        | .cells c elem (lo, hi) => .cells c elem (if lo == hi then (cs.length, cs.length + 1) else (min lo cs.length, max hi (cs.length + 1)))
        | o => o := by unfold World.freeze; rw [if_neg (by decide)]; rfl
    refine hh.turn rfl ?_ ?_ ?_ ?_ (fun j hj hne => ?_) ?_ (fun j hj => .inl hj) (fun j hj => .inr hj)
    · unfold World.freeze; rw [if_neg (by decide)]
    · unfold World.freeze; rw [if_neg (by decide)]
    · unfold World.freeze; rw [if_neg (by decide)]
    · rw [hfz, Array.size_modify]; exact Nat.le_refl _
    · rw [hfz, Array.getElem?_modify, if_neg (fun e => hne (by rw [← e]; rfl))]
    · show (w.freeze ⟨b, cs.length, none⟩ 1).heap[b]? = _
      rw [hfz, Array.getElem?_modify, if_pos rfl, hown]
      rfl
end
theorem cut_ok (a : Option Addr) (n c : Nat) (zs : List Int) (most : Nat) (w : World) (hw : Ints .u8 w a n c zs) (hmost : most ≤ 2147483648) :
    Calls Try.prog 53 #[.slice a n c, .int .i64 (most : Int)] w fun e w' => ∃ a c, e = .returned (.slice a (zs.take most).length c) ∧ Below w.heap.size w w' ∧ w'.ownsRow w.heap.size 5 1 (.slice a (zs.take most).length c) (zs.take most).length ((zs.take most).map (.int .u8)) := by
  have key : ∀ m ys, Ints .u8 w a m c ys → ys = zs.take most → ∀ w1 b, Hp w w1 [.blk b (.cells ⟨[.slice a m c]⟩ 49 (0, 0)) true] → w.heap.size ≤ b →
      Calls Try.prog 67 #[.slice (some ⟨b, 0, none⟩) 1 1] w1 fun e w' => ∃ a c, e = .returned (.slice a (zs.take most).length c) ∧ Below w1.heap.size w1 w' ∧ w'.ownsRow w1.heap.size 5 1 (.slice a (zs.take most).length c) (zs.take most).length ((zs.take most).map (.int .u8)) := by
    intro m ys hy e w1 b h1 hb
    have hc : cat [⟨a, m, c, ys⟩] = zs.take most := by rw [← e]; simp [cat]
    rw [← hc]
    refine join_ok _ 1 1 [⟨a, m, c, ys⟩] w1 (by decide) (Sl.of_blk (h1.own _ (getE_mem (i := 0) rfl)) rfl fun j u hu => ?_) (fun p hp => ?_) (by rw [hc, List.length_take]; omega)
    · simpa [Bp.v] using hu
    · rw [List.mem_singleton] at hp
      subst hp
      exact hy.ext (h1.below (new_cons hb new_nil))
  refine enter2 Try.func53 rfl rfl (Hp.refl w) ?_
  repeat (first | refine T_seq ?_ | refine T_region ?_ | refine S_nil ?_ | refine S_pure tabOk rfl ?_)
  refine T_cond_dec rfl (fun h => ?_) (fun h => ?_)
  · repeat (first | refine T_region ?_ | refine S_pure tabOk rfl ?_)
    have h : most < n := by omega
    have hin : Ints .u8 w a most c (zs.take most) := ⟨by rw [List.length_take, hw.len]; omega, by have := hw.cap; omega, hw.max, fun e => by have := hw.nil e; omega, fun z hz => hw.fits z (List.mem_of_mem_take hz), by
      have := hw.sl.take (k := most) (by omega)
      rw [Nat.mul_one] at this
      rw [List.map_take]
      exact this⟩
    refine S_q (Q_sliceTo tabOk rfl rfl rfl rfl rfl rfl (H := most) rfl (by have := hw.cap; omega)) ?_
    repeat (first | refine T_seq ?_ | refine T_region ?_ | refine S_nil ?_ | refine S_pure tabOk rfl ?_)
    refine S_bslice tabOk rfl rfl rfl rfl rfl rfl rfl rfl rfl rfl rfl rfl (fun b hb => ?_)
    refine S_callrow rfl Try.call67 (fun w1 h1 => key _ _ hin rfl w1 b h1 hb) (fun a' c' hc1 hc2 => ?_)
    repeat (first | refine S_nil ?_ | refine T_ret ?_ | refine S_pure tabOk rfl ?_)
    exact ret1 rfl rfl (fun w' hw' => ⟨a', c', rfl, hw'.below (newrow hw' 0 rfl (Nat.le_refl _) (new_cons hb new_nil)), hw'.own _ (getE_mem (i := 0) rfl)⟩)
  · repeat (first | refine T_seq ?_ | refine T_region ?_ | refine pthen_normal ?_ | refine T_skip ?_ | refine S_pure tabOk rfl ?_)
    have h : n ≤ most := by omega
    refine S_bslice tabOk rfl rfl rfl rfl rfl rfl rfl rfl rfl rfl rfl rfl (fun b hb => ?_)
    refine S_callrow rfl Try.call67 (fun w1 h1 => key _ _ hw (List.take_of_length_le (by rw [hw.len]; exact h)).symm w1 b h1 hb) (fun a' c' hc1 hc2 => ?_)
    repeat (first | refine S_nil ?_ | refine T_ret ?_ | refine S_pure tabOk rfl ?_)
    exact ret1 rfl rfl (fun w' hw' => ⟨a', c', rfl, hw'.below (newrow hw' 0 rfl (Nat.le_refl _) (new_cons hb new_nil)), hw'.own _ (getE_mem (i := 0) rfl)⟩)
theorem same_ok (a1 a2 : Option Addr) (n1 c1 n2 c2 : Nat) (xs ys : List Int) (w : World) (h1 : Ints .u8 w a1 n1 c1 xs) (h2 : Ints .u8 w a2 n2 c2 ys) :
    Calls Try.prog 72 #[.slice a1 n1 c1, .slice a2 n2 c2] w fun e w' => e = .returned (.bool (decide (xs = ys))) ∧ Below w.heap.size w w' := by
  have l1 := h1.len
  have l2 := h2.len
  have m1 : n1 ≤ 9223372036854775807 := by have := h1.cap; have := h1.max; simp only [maxLen] at this; omega
  refine enter2 Try.func72 rfl rfl (Hp.refl w) ?_
  repeat (first | refine T_seq ?_ | refine T_region ?_ | refine S_nil ?_ | refine S_pure tabOk rfl ?_)
  refine T_cond_dec rfl (fun h => ?_) (fun h => ?_)
  · repeat (first | refine T_seq ?_ | refine T_region ?_ | refine S_nil ?_ | refine pthen_ret ?_ | refine T_ret ?_ | refine S_pure tabOk rfl ?_)
    exact ret1 rfl rfl (fun w' hw => ⟨retb (by rw [eq_comm, decide_eq_false]; rintro rfl; omega), hw.below new_nil⟩)
  · repeat (first | refine T_seq ?_ | refine T_region ?_ | refine T_block ?_ | refine S_nil ?_ | refine pthen_normal ?_ | refine T_skip ?_ | refine S_pure tabOk rfl ?_)
    have hn : n1 = n2 := by omega
    subst hn
    refine T_loop (ι := Nat) (fun k => [(0, .slice a1 n1 c1), (1, .slice a2 n1 c2), (12, .int .i64 (n1 : Int)), (13, .int .i64 (k : Int))]) (fun _ => []) (fun k => k ≤ n1 ∧ xs.take k = ys.take k) (fun k => n1 - k) 0 ⟨Nat.zero_le _, rfl⟩ (by repeat (first | exact Sub.nil | refine Sub.cons rfl ?_)) (fun _ hw => hw) ?_
    rintro k ⟨hk, hpre⟩
    repeat (first | refine T_seq ?_ | refine T_region ?_ | refine S_nil ?_ | refine S_pure tabOk rfl ?_)
    refine T_cond_dec rfl (fun h => ?_) (fun h => ?_)
    · have hk' : k < n1 := by omega
      obtain ⟨b1, o1, rfl, lt1, g1⟩ := h1.sl.get (by omega)
      obtain ⟨b2, o2, rfl, lt2, g2⟩ := h2.sl.get (by omega)
      repeat (first | refine T_draw (by kernel_rfl) (by kernel_rfl) ?_ | refine D_pure tabOk rfl ?_ | refine T_seq ?_ | refine T_region ?_ | refine T_block ?_ | refine S_nil ?_ | refine pthen_normal ?_ | refine T_skip ?_ | refine S_pure tabOk rfl ?_)
      refine D_q (Q_idx1 tabOk rfl rfl rfl rfl rfl rfl rfl rfl (j := k) hk') ?_
      refine D_load1 tabOk rfl rfl (v := .int .u8 (xs[k]'(by omega))) (fun w' hw => Sl.at_ (h1.sl.ext (hw.below new_nil)) (by omega) (by simp [l1, hk'])) ?_
      repeat (first | refine D_pure tabOk rfl ?_)
      refine D_q (Q_idx1 tabOk rfl rfl rfl rfl rfl rfl rfl rfl (j := k) hk') ?_
      refine D_load1 tabOk rfl rfl (v := .int .u8 (ys[k]'(by omega))) (fun w' hw => Sl.at_ (h2.sl.ext (hw.below new_nil)) (by omega) (by simp [l2, hk'])) ?_
      repeat (first | refine D_all rfl ?_ | refine D_pure tabOk rfl ?_)
      refine T_cond_dec rfl (fun he => ?_) (fun he => ?_)
      · repeat (first | refine T_seq ?_ | refine T_region ?_ | refine S_nil ?_ | refine inb_ret ?_ | refine pthen_ret ?_ | refine T_ret ?_ | refine S_pure tabOk rfl ?_)
        exact ret1 rfl rfl (fun w' hw => ⟨retb (by rw [eq_comm, decide_eq_false]; rintro rfl; exact he rfl), hw.below new_nil⟩)
      · repeat (first | refine T_region ?_ | refine S_nil ?_ | refine pthen_normal ?_ | refine inb_normal ?_ | refine T_skip ?_ | refine S_i64 tabOk rfl (by omega) ?_ | refine S_pure tabOk rfl ?_)
        refine ⟨k + 1, ⟨by omega, ?_⟩, by repeat (first | exact Sub.nil | refine Sub.cons rfl ?_), fun _ hw => hw, by omega⟩
        rw [List.take_succ_eq_append_getElem (by omega), List.take_succ_eq_append_getElem (by omega), hpre]
        rw [Classical.byContradiction he]
    · have : k = n1 := by omega
      subst this
      rw [List.take_of_length_le (by omega), List.take_of_length_le (by omega)] at hpre
      repeat (first | refine T_seq ?_ | refine T_region ?_ | refine S_nil ?_ | refine pthen_normal ?_ | refine inb_hit ?_ | refine pthen_exit ?_ | refine T_ret ?_ | refine T_exit ?_ | refine S_pure tabOk rfl ?_)
      exact ret1 rfl rfl (fun w' hw => ⟨retb (by rw [eq_comm, decide_eq_true hpre]), hw.below new_nil⟩)

theorem join1_ok (a : Option Addr) (n c : Nat) (zs : List Int) (b : Nat) (e : TypeId) (fz : Nat × Nat) (w : World) (hw : Ints .u8 w a n c zs) (hb : w.heap[b]? = some (.cells ⟨[.slice a n c]⟩ e fz)) (hn : zs.length ≤ 2147483648) :
    Calls Try.prog 67 #[.slice (some ⟨b, 0, none⟩) 1 1] w fun e w' => ∃ a c, e = .returned (.slice a zs.length c) ∧ Below w.heap.size w w' ∧ w'.ownsRow w.heap.size 5 1 (.slice a zs.length c) zs.length (zs.map (.int .u8)) := by
  have hc : cat [⟨a, n, c, zs⟩] = zs := by simp [cat]
  have := join_ok (some ⟨b, 0, none⟩) 1 1 [⟨a, n, c, zs⟩] w (by decide) (Sl.of_blk hb rfl fun j u hu => by simpa [Bp.v] using hu) (fun p hp => by
    rw [List.mem_singleton] at hp
    subst hp
    exact hw) (by rw [hc]; exact hn)
  rw [hc] at this
  exact this
theorem clone_ok (a : Option Addr) (n c : Nat) (zs : List Int) (w : World) (hw : Ints .u8 w a n c zs) (hn : zs.length ≤ 2147483648) :
    Calls Try.prog 66 #[.slice a n c] w fun e w' => ∃ a c, e = .returned (.slice a zs.length c) ∧ Below w.heap.size w w' ∧ w'.ownsRow w.heap.size 5 1 (.slice a zs.length c) zs.length (zs.map (.int .u8)) := by
  have hl := hw.len
  refine enter1 Try.func66 rfl rfl (Hp.refl w) ?_
  repeat (first | refine T_seq ?_ | refine T_region ?_ | refine S_nil ?_ | refine S_pure tabOk rfl ?_)
  refine S_q (Q_eqnil tabOk rfl rfl rfl rfl rfl) ?_
  cases a with
  | none =>
    have h0 := (hw.nil rfl).1
    subst h0
    obtain rfl : zs = [] := List.eq_nil_of_length_eq_zero hl
    repeat (first | refine T_seq ?_ | refine T_region ?_ | refine S_nil ?_ | refine pthen_ret ?_ | refine T_ret ?_ | refine T_cond_t rfl ?_ | refine S_pure tabOk rfl ?_)
    exact ret1 rfl rfl (fun w' hw => ⟨none, 0, rfl, hw.below new_nil, World.ownsRow_nil _ _ _ _⟩)
  | some ad =>
    repeat (first | refine T_seq ?_ | refine T_region ?_ | refine S_nil ?_ | refine pthen_normal ?_ | refine T_skip ?_ | refine T_cond_f rfl ?_)
    refine S_bslice tabOk rfl rfl rfl rfl rfl rfl rfl rfl rfl rfl rfl rfl (fun b hb => ?_)
    refine S_heap (ol' := [.row w.heap.size (.slice (some ⟨b, 0, none⟩) 0 0) 5 1 0 []]) (fun w' h => Hp.closeRow (pre := []) (n := 0) (c := 0) h hb (by decide) (by decide) rfl) ?_
    repeat (first | refine S_pure tabOk rfl ?_)
    refine S_append (ty := 0) tabOk 0 rfl rfl rfl rfl rfl rfl rfl rfl rfl (by decide) (fun w' h => hw.sl.ext (h.below (newrow h 0 rfl (Nat.le_refl _) new_nil))) (allOne_map _ (fun _ => rfl) _) (by simp only [maxLen]; omega) (by show (_ + _) * 1 ≤ _; omega) rfl (fun A' c' h1 h2 => ⟨_, rfl, ?_⟩)
    repeat (first | refine S_nil ?_ | refine T_ret ?_ | refine S_pure tabOk rfl ?_)
    rw [Nat.zero_add, List.nil_append]
    subst hl
    exact ret1 rfl rfl (fun w' hw => ⟨A', c', rfl, hw.below (newrow hw 0 rfl (Nat.le_refl _) new_nil), hw.own _ (getE_mem (i := 0) rfl)⟩)
section
variable {P : Program} {tb : Tab} {n : Nat} {w0 : World} {all : Array Oper} {os : List Oper} {o : Oper} {l : FL} {ol : OL} {K : FL → OL → Prop} {Q : Post} {r : Nat → Option Value} {d : Nat}
end


def sright (k : Int) (n : Nat) : Bool := decide (0 ≤ k ∧ k < 8 ∧ n ≤ 4096)
theorem spright_ok (k : Int) (a : Option Addr) (n c : Nat) (w : World) : Calls Try.prog 57 #[.agg #[.int .i64 k, .slice a n c]] w fun e w' => e = .returned (.bool (sright k n)) ∧ Below w.heap.size w w' := by
  refine enter1 Try.func57 rfl rfl (Hp.refl w) ?_
  repeat (first | refine T_seq ?_ | refine T_region ?_)
  refine S_new tabOk rfl (fun b hb => ?_)
  repeat (first | refine T_seq ?_ | refine T_region ?_ | refine S_nil ?_ | refine S_pure tabOk rfl ?_ | refine S_load tabOk 0 rfl rfl rfl ?_)
  refine S_split rfl rfl (fun h1 => ?_) (fun h1 => ?_)
  · repeat (first | refine S_pure tabOk rfl ?_ | refine S_load tabOk 0 rfl rfl rfl ?_)
    refine S_split rfl rfl (fun h2 => ?_) (fun h2 => ?_)
    · repeat (first | refine S_nil ?_ | refine T_ret ?_ | refine S_pure tabOk rfl ?_ | refine S_load tabOk 0 rfl rfl rfl ?_)
      exact ret1 rfl rfl (fun w' hw => ⟨retb (dec_eq (by omega)), hw.below (new_cons hb new_nil)⟩)
    · repeat (first | refine S_nil ?_ | refine T_ret ?_ | refine S_pure tabOk rfl ?_ | refine S_pass rfl rfl rfl ?_)
      exact ret1 rfl rfl (fun w' hw => ⟨retb (false_dec (by omega)), hw.below (new_cons hb new_nil)⟩)
  · repeat (first | refine S_nil ?_ | refine T_ret ?_ | refine S_pure tabOk rfl ?_ | refine S_pass rfl rfl rfl ?_)
    exact ret1 rfl rfl (fun w' hw => ⟨retb (false_dec (by omega)), hw.below (new_cons hb new_nil)⟩)
theorem rfright_ok (k : Int) (a : Option Addr) (n c : Nat) (w : World) : Calls Try.prog 74 #[.agg #[.int .i64 k, .slice a n c]] w fun e w' => e = .returned (.bool (sright k n)) ∧ Below w.heap.size w w' := by
  refine enter1 Try.func74 rfl rfl (Hp.refl w) ?_
  repeat (first | refine T_seq ?_ | refine T_region ?_)
  refine S_new tabOk rfl (fun b hb => ?_)
  repeat (first | refine T_seq ?_ | refine T_region ?_ | refine S_nil ?_ | refine S_pure tabOk rfl ?_ | refine S_load tabOk 0 rfl rfl rfl ?_)
  refine S_split rfl rfl (fun h1 => ?_) (fun h1 => ?_)
  · repeat (first | refine S_pure tabOk rfl ?_ | refine S_load tabOk 0 rfl rfl rfl ?_)
    refine S_split rfl rfl (fun h2 => ?_) (fun h2 => ?_)
    · repeat (first | refine S_nil ?_ | refine T_ret ?_ | refine S_pure tabOk rfl ?_ | refine S_load tabOk 0 rfl rfl rfl ?_)
      exact ret1 rfl rfl (fun w' hw => ⟨retb (dec_eq (by omega)), hw.below (new_cons hb new_nil)⟩)
    · repeat (first | refine S_nil ?_ | refine T_ret ?_ | refine S_pure tabOk rfl ?_ | refine S_pass rfl rfl rfl ?_)
      exact ret1 rfl rfl (fun w' hw => ⟨retb (false_dec (by omega)), hw.below (new_cons hb new_nil)⟩)
  · repeat (first | refine S_nil ?_ | refine T_ret ?_ | refine S_pure tabOk rfl ?_ | refine S_pass rfl rfl rfl ?_)
    exact ret1 rfl rfl (fun w' hw => ⟨retb (false_dec (by omega)), hw.below (new_cons hb new_nil)⟩)
theorem spsize_ok (k : Int) (a : Option Addr) (n c : Nat) (w : World) (hn : n ≤ 1073741824) : Calls Try.prog 35 #[.agg #[.int .i64 k, .slice a n c]] w fun e w' => e = .returned (.int .i64 ((n : Int) + 16)) ∧ Below w.heap.size w w' := by
  refine enter1 Try.func35 rfl rfl (Hp.refl w) ?_
  repeat (first | refine T_draw (by kernel_rfl) (by kernel_rfl) ?_ | refine D_all rfl ?_ | refine D_i64 tabOk rfl (by omega) ?_ | refine D_pure tabOk rfl ?_ | refine D_pass rfl rfl rfl ?_ | refine D_load tabOk 0 rfl rfl rfl ?_ | refine D_load tabOk 1 rfl rfl rfl ?_ | refine D_load tabOk 2 rfl rfl rfl ?_ | refine T_seq ?_ | refine T_region ?_ | refine T_block ?_ | refine S_nil ?_ | refine pthen_normal ?_ | refine inb_normal ?_ | refine inb_ret ?_ | refine pthen_ret ?_ | refine inb_hit ?_ | refine pthen_exit ?_ | refine T_skip ?_ | refine T_ret ?_ | refine T_exit ?_  | refine S_i64 tabOk rfl (by omega) ?_ | refine S_pure tabOk rfl ?_ | refine S_pass rfl rfl rfl ?_ | refine S_pass0 rfl rfl ?_ | refine T_region_any ?_  | refine S_load tabOk 0 rfl rfl rfl ?_ | refine S_load tabOk 1 rfl rfl rfl ?_ | refine S_load tabOk 2 rfl rfl rfl ?_ | refine S_load tabOk 3 rfl rfl rfl ?_ | refine S_store tabOk 0 rfl rfl rfl rfl rfl rfl ?_ | refine S_store tabOk 1 rfl rfl rfl rfl rfl rfl ?_ | refine S_store tabOk 2 rfl rfl rfl rfl rfl rfl ?_ | refine S_store tabOk 3 rfl rfl rfl rfl rfl rfl ?_ | refine S_q (Q_build tabOk rfl rfl rfl rfl rfl rfl rfl) ?_)
  refine S_new tabOk rfl (fun b hb => ?_)
  repeat (first | refine T_draw (by kernel_rfl) (by kernel_rfl) ?_ | refine D_all rfl ?_ | refine D_i64 tabOk rfl (by omega) ?_ | refine D_pure tabOk rfl ?_ | refine D_pass rfl rfl rfl ?_ | refine D_load tabOk 0 rfl rfl rfl ?_ | refine D_load tabOk 1 rfl rfl rfl ?_ | refine D_load tabOk 2 rfl rfl rfl ?_ | refine T_seq ?_ | refine T_region ?_ | refine T_block ?_ | refine S_nil ?_ | refine pthen_normal ?_ | refine inb_normal ?_ | refine inb_ret ?_ | refine pthen_ret ?_ | refine inb_hit ?_ | refine pthen_exit ?_ | refine T_skip ?_ | refine T_ret ?_ | refine T_exit ?_  | refine S_i64 tabOk rfl (by omega) ?_ | refine S_pure tabOk rfl ?_ | refine S_pass rfl rfl rfl ?_ | refine S_pass0 rfl rfl ?_ | refine T_region_any ?_  | refine S_load tabOk 0 rfl rfl rfl ?_ | refine S_load tabOk 1 rfl rfl rfl ?_ | refine S_load tabOk 2 rfl rfl rfl ?_ | refine S_load tabOk 3 rfl rfl rfl ?_ | refine S_store tabOk 0 rfl rfl rfl rfl rfl rfl ?_ | refine S_store tabOk 1 rfl rfl rfl rfl rfl rfl ?_ | refine S_store tabOk 2 rfl rfl rfl rfl rfl rfl ?_ | refine S_store tabOk 3 rfl rfl rfl rfl rfl rfl ?_ | refine S_q (Q_build tabOk rfl rfl rfl rfl rfl rfl rfl) ?_)
  exact ret1 rfl rfl (fun w' hw => ⟨rfl, hw.below (new_cons hb new_nil)⟩)

end Go.Proofs.Yteogkadjambmkaa
