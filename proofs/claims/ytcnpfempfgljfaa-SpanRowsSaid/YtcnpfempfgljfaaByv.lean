/-
  Bytes, further: parts of slices, one slice joined, bytes.Clone, bytes.Equal, rows that are turned. Conditions: each theorem's own.
-/
import Derived.Test.YtcnpfempfgljfaaByu
import Derived.Laws.BytesArg
namespace Go.Proofs.Ytcnpfempfgljfaa
open Go Go.RowKit
set_option linter.unusedVariables false

theorem Ints.take {k : IntKind} {w : World} {a : Option Addr} {n c : Nat} {zs : List Int} (h : Ints k w a n c zs) {j : Nat} (hj : j ≤ n) : Ints k w a j c (zs.take j) :=
  ⟨by rw [List.length_take, h.len]; omega, by have := h.cap; omega, h.max, fun e => by have := h.nil e; omega, fun z hz => h.fits z (List.mem_of_mem_take hz), by
    have := h.sl.take hj
    rw [Nat.mul_one] at this
    rw [List.map_take]
    exact this⟩
theorem Ints.drop {k : IntKind} {w : World} {a : Option Addr} {n c : Nat} {zs : List Int} (h : Ints k w a n c zs) {j : Nat} (hj : j ≤ n) : Ints k w (if c = j then a else a.map (·.add (j * 1))) (n - j) (c - j) (zs.drop j) :=
  ⟨by rw [List.length_drop, h.len], by have := h.cap; omega, by have := h.max; omega, fun e => by
    have hc := h.cap
    by_cases hcj : c = j
    · omega
    · rw [if_neg hcj] at e
      have := h.nil (by simpa using e)
      omega, fun z hz => h.fits z (List.mem_of_mem_drop hz), by
    have := h.sl.drop hj h.cap
    rw [List.map_drop]
    rw [Nat.mul_one] at this ⊢
    exact this⟩

theorem join1_ok (a : Option Addr) (n c : Nat) (zs : List Int) (b : Nat) (e : TypeId) (fz : Nat × Nat) (w : World) (hw : Ints .u8 w a n c zs) (hb : w.heap[b]? = some (.cells ⟨[.slice a n c]⟩ e fz)) (hn : zs.length ≤ 2147483648) :
    Calls Try.prog 15 #[.slice (some ⟨b, 0, none⟩) 1 1] w fun e w' => ∃ a c, e = .returned (.slice a zs.length c) ∧ Below w.heap.size w w' ∧ w'.ownsRow w.heap.size 5 1 (.slice a zs.length c) zs.length (zs.map (.int .u8)) := by
  have hc : cat [⟨a, n, c, zs⟩] = zs := by simp [cat]
  have := join_ok (some ⟨b, 0, none⟩) 1 1 [⟨a, n, c, zs⟩] w (by decide) (Sl.of_blk hb rfl fun j u hu => by simpa [Bp.v] using hu) (fun p hp => by
    rw [List.mem_singleton] at hp
    subst hp
    exact hw) (by rw [hc]; exact hn)
  rw [hc] at this
  exact this

theorem fits_take {zs : List Int} (h : ∀ z ∈ zs, Fits .u8 z) (k : Nat) : ∀ z ∈ zs.take k, Fits .u8 z := fun z hz => h z (List.mem_of_mem_take hz)

theorem str_eq {xs ys : List Int} (hx : ∀ z ∈ xs, Fits .u8 z) (hy : ∀ z ∈ ys, Fits .u8 z) : ((strOfNums xs).toList == (strOfNums ys).toList) = decide (xs = ys) := by
  have key : ∀ {xs ys : List Int}, (∀ z ∈ xs, Fits .u8 z) → (∀ z ∈ ys, Fits .u8 z) → (xs.map fun n => UInt8.ofNat n.toNat) = (ys.map fun n => UInt8.ofNat n.toNat) → xs = ys := by
    intro xs
    induction xs with
    | nil => intro ys _ _ h; cases ys with
      | nil => rfl
      | cons y ys => cases h
    | cons x xs ih => intro ys hx hy h; cases ys with
      | nil => cases h
      | cons y ys =>
        simp only [List.map_cons, List.cons.injEq] at h
        have h1 := fits_u8 (hx x List.mem_cons_self)
        have h2 := fits_u8 (hy y List.mem_cons_self)
        have e := congrArg UInt8.toNat h.1
        simp only [UInt8.toNat_ofNat'] at e
        rw [ih (fun z hz => hx z (List.mem_cons_of_mem _ hz)) (fun z hz => hy z (List.mem_cons_of_mem _ hz)) h.2]
        congr 1
        omega
  rw [ByteArray.toList_eq, ByteArray.toList_eq, strOfNums_data, strOfNums_data]
  by_cases h : xs = ys
  · subst h; simp
  · rw [decide_eq_false h]
    simp only [beq_eq_false_iff_ne, ne_eq]
    exact fun hh => h (key hx hy hh)

section
variable {P : Program} {tb : Tab} {n : Nat} {w0 : World} {all : Array Oper} {r : Nat → Option Value} {o : Oper} {d : Nat} {ol : OL}
theorem Q_b2s (ht : TabOk P tb) {t t' e : TypeId} {x : Operand} {a : Option Addr} {m c : Nat} {zs : List Int} {ti td te : TI} (hs : opAt? n all r o = some (d, .convert t t' x)) (hx : ev r x = some (.slice a m c)) (hti : tl tb t = some ti) (hd : ti.desc = .slice e) (hte : tl tb e = some te) (hed : te.desc = .int .u8) (htd : tl tb t' = some td) (hdd : td.desc = .string)
    (hr : ∀ w, Hp w0 w ol → Ints .u8 w a m c zs) : QOp P n w0 all r ol o d (.string (strOfNums zs)) :=
  Q_of hs fun ac w hrd hh hop => by
    have u1 := ht.under' hti
    rw [hd] at u1
    have u2 := ht.under' hte
    rw [hed] at u2
    have u3 := ht.under' htd
    rw [hdd] at u3
    have hi := hr w hh
    have hrun : (convert t t' (.slice a m c)).run P w = .ok (.string (strOfNums zs)) w := by
      cases a with
      | none =>
        have h0 := (hi.nil rfl).1
        subst h0
        obtain rfl : zs = [] := List.eq_nil_of_length_eq_zero hi.len
        exact run_convert_bytes_nil w t e u1 u2 0 c t' u3
      | some ad =>
        have hl : (loadCells ad m).run P w = .ok (zs.map (Value.int .u8)).toArray w := by
          have := run_loadCells_list (P := P) w ad (zs.map (Value.int .u8)) (fun j v hj => by
            rcases Nat.eq_zero_or_pos m with h0 | h0
            · subst h0
              obtain rfl : zs = [] := List.eq_nil_of_length_eq_zero hi.len
              simp at hj
            · obtain ⟨b, off, e1, _, hc⟩ := hi.sl.get h0
              cases e1
              rw [Addr.add_lit]
              exact hc j v hj)
          simpa [hi.len] using this
        rw [run_convert_bytes_string w t t' e _ m c u1 u2 u3, run_bytesToString w _ m c zs hl, foldl_push_bytes]
        simp [strOfNums, ByteArray.empty, ByteArray.emptyWithCapacity]
        rfl
    unfold execOp
    simp only [hop, hrd.ev hx, Sem.run_bind, hrun, Result.andThen_ok, Sem.run_pure]
theorem Q_streq {t t' : TypeId} {x y : Operand} {a b : ByteArray} (hs : opAt? n all r o = some (d, .binOp .eql t x y t')) (hx : ev r x = some (.string a)) (hy : ev r y = some (.string b)) : QOp P n w0 all r ol o d (.bool (a.toList == b.toList)) :=
  Q_of hs fun ac w hrd hh hop => by
    unfold execOp
    simp [hop, hrd.ev hx, hrd.ev hy, eqGuard, binOp, Op.stringOp]
end

theorem bequal_ok (a1 a2 : Option Addr) (n1 c1 n2 c2 : Nat) (xs ys : List Int) (w : World) (h1 : Ints .u8 w a1 n1 c1 xs) (h2 : Ints .u8 w a2 n2 c2 ys) :
    Calls Try.prog 51 #[.slice a1 n1 c1, .slice a2 n2 c2] w fun e w' => e = .returned (.bool (decide (xs = ys))) ∧ Below w.heap.size w w' := by
  refine enter2 Try.func51 rfl rfl (Hp.refl w) ?_
  repeat (first | refine T_draw (by kernel_rfl) (by kernel_rfl) ?_ | refine D_all rfl ?_ | refine D_i64 tabOk rfl (by omega) ?_ | refine D_pure tabOk rfl ?_ | refine D_pass rfl rfl rfl ?_ | refine D_load tabOk 0 rfl rfl rfl ?_ | refine D_load tabOk 1 rfl rfl rfl ?_ | refine D_load tabOk 2 rfl rfl rfl ?_ | refine T_seq ?_ | refine T_region ?_ | refine T_block ?_ | refine S_nil ?_ | refine pthen_normal ?_ | refine inb_normal ?_ | refine inb_ret ?_ | refine pthen_ret ?_ | refine inb_hit ?_ | refine pthen_exit ?_ | refine T_skip ?_ | refine T_ret ?_ | refine T_exit ?_ | refine T_cond_t rfl ?_ | refine T_cond_f rfl ?_ | refine S_i64 tabOk rfl (by omega) ?_ | refine S_pure tabOk rfl ?_ | refine S_pass rfl rfl rfl ?_ | refine S_pass0 rfl rfl ?_ | refine T_region_any ?_ | refine S_load tabOk 0 rfl rfl rfl ?_ | refine S_load tabOk 1 rfl rfl rfl ?_ | refine S_load tabOk 2 rfl rfl rfl ?_ | refine S_load tabOk 3 rfl rfl rfl ?_ | refine S_store tabOk 0 rfl rfl rfl rfl rfl rfl ?_ | refine S_store tabOk 1 rfl rfl rfl rfl rfl rfl ?_ | refine S_store tabOk 2 rfl rfl rfl rfl rfl rfl ?_ | refine S_store tabOk 3 rfl rfl rfl rfl rfl rfl ?_ | refine S_q (Q_build tabOk rfl rfl rfl rfl rfl rfl rfl) ?_)
  refine S_q (Q_b2s tabOk rfl rfl rfl rfl rfl rfl rfl rfl (zs := xs) (fun w' hw => h1.ext (hw.below new_nil))) ?_
  repeat (first | refine T_draw (by kernel_rfl) (by kernel_rfl) ?_ | refine D_all rfl ?_ | refine D_i64 tabOk rfl (by omega) ?_ | refine D_pure tabOk rfl ?_ | refine D_pass rfl rfl rfl ?_ | refine D_load tabOk 0 rfl rfl rfl ?_ | refine D_load tabOk 1 rfl rfl rfl ?_ | refine D_load tabOk 2 rfl rfl rfl ?_ | refine T_seq ?_ | refine T_region ?_ | refine T_block ?_ | refine S_nil ?_ | refine pthen_normal ?_ | refine inb_normal ?_ | refine inb_ret ?_ | refine pthen_ret ?_ | refine inb_hit ?_ | refine pthen_exit ?_ | refine T_skip ?_ | refine T_ret ?_ | refine T_exit ?_ | refine T_cond_t rfl ?_ | refine T_cond_f rfl ?_ | refine S_i64 tabOk rfl (by omega) ?_ | refine S_pure tabOk rfl ?_ | refine S_pass rfl rfl rfl ?_ | refine S_pass0 rfl rfl ?_ | refine T_region_any ?_ | refine S_load tabOk 0 rfl rfl rfl ?_ | refine S_load tabOk 1 rfl rfl rfl ?_ | refine S_load tabOk 2 rfl rfl rfl ?_ | refine S_load tabOk 3 rfl rfl rfl ?_ | refine S_store tabOk 0 rfl rfl rfl rfl rfl rfl ?_ | refine S_store tabOk 1 rfl rfl rfl rfl rfl rfl ?_ | refine S_store tabOk 2 rfl rfl rfl rfl rfl rfl ?_ | refine S_store tabOk 3 rfl rfl rfl rfl rfl rfl ?_ | refine S_q (Q_build tabOk rfl rfl rfl rfl rfl rfl rfl) ?_)
  refine S_q (Q_b2s tabOk rfl rfl rfl rfl rfl rfl rfl rfl (zs := ys) (fun w' hw => h2.ext (hw.below new_nil))) ?_
  refine S_q ((Q_streq rfl rfl rfl).eq (congrArg Value.bool (str_eq h1.fits h2.fits))) ?_
  repeat (first | refine T_draw (by kernel_rfl) (by kernel_rfl) ?_ | refine D_all rfl ?_ | refine D_i64 tabOk rfl (by omega) ?_ | refine D_pure tabOk rfl ?_ | refine D_pass rfl rfl rfl ?_ | refine D_load tabOk 0 rfl rfl rfl ?_ | refine D_load tabOk 1 rfl rfl rfl ?_ | refine D_load tabOk 2 rfl rfl rfl ?_ | refine T_seq ?_ | refine T_region ?_ | refine T_block ?_ | refine S_nil ?_ | refine pthen_normal ?_ | refine inb_normal ?_ | refine inb_ret ?_ | refine pthen_ret ?_ | refine inb_hit ?_ | refine pthen_exit ?_ | refine T_skip ?_ | refine T_ret ?_ | refine T_exit ?_ | refine T_cond_t rfl ?_ | refine T_cond_f rfl ?_ | refine S_i64 tabOk rfl (by omega) ?_ | refine S_pure tabOk rfl ?_ | refine S_pass rfl rfl rfl ?_ | refine S_pass0 rfl rfl ?_ | refine T_region_any ?_ | refine S_load tabOk 0 rfl rfl rfl ?_ | refine S_load tabOk 1 rfl rfl rfl ?_ | refine S_load tabOk 2 rfl rfl rfl ?_ | refine S_load tabOk 3 rfl rfl rfl ?_ | refine S_store tabOk 0 rfl rfl rfl rfl rfl rfl ?_ | refine S_store tabOk 1 rfl rfl rfl rfl rfl rfl ?_ | refine S_store tabOk 2 rfl rfl rfl rfl rfl rfl ?_ | refine S_store tabOk 3 rfl rfl rfl rfl rfl rfl ?_ | refine S_q (Q_build tabOk rfl rfl rfl rfl rfl rfl rfl) ?_)
  exact ret1 rfl rfl (fun w' hw => ⟨rfl, hw.below new_nil⟩)

theorem clone_ok (a : Option Addr) (n c : Nat) (zs : List Int) (w : World) (hw : Ints .u8 w a n c zs) (hn : zs.length ≤ 2147483648) :
    Calls Try.prog 50 #[.slice a n c] w fun e w' => ∃ a c, e = .returned (.slice a zs.length c) ∧ Below w.heap.size w w' ∧ w'.ownsRow w.heap.size 5 1 (.slice a zs.length c) zs.length (zs.map (.int .u8)) := by
  have hl := hw.len
  refine enter1 Try.func50 rfl rfl (Hp.refl w) ?_
  repeat (first | refine T_draw (by kernel_rfl) (by kernel_rfl) ?_ | refine D_all rfl ?_ | refine D_i64 tabOk rfl (by omega) ?_ | refine D_pure tabOk rfl ?_ | refine D_pass rfl rfl rfl ?_ | refine D_load tabOk 0 rfl rfl rfl ?_ | refine D_load tabOk 1 rfl rfl rfl ?_ | refine D_load tabOk 2 rfl rfl rfl ?_ | refine T_seq ?_ | refine T_region ?_ | refine T_block ?_ | refine S_nil ?_ | refine pthen_normal ?_ | refine inb_normal ?_ | refine inb_ret ?_ | refine pthen_ret ?_ | refine inb_hit ?_ | refine pthen_exit ?_ | refine T_skip ?_ | refine T_ret ?_ | refine T_exit ?_ | refine T_cond_t rfl ?_ | refine T_cond_f rfl ?_ | refine S_i64 tabOk rfl (by omega) ?_ | refine S_pure tabOk rfl ?_ | refine S_pass rfl rfl rfl ?_ | refine S_pass0 rfl rfl ?_ | refine T_region_any ?_ | refine S_load tabOk 0 rfl rfl rfl ?_ | refine S_load tabOk 1 rfl rfl rfl ?_ | refine S_load tabOk 2 rfl rfl rfl ?_ | refine S_load tabOk 3 rfl rfl rfl ?_ | refine S_store tabOk 0 rfl rfl rfl rfl rfl rfl ?_ | refine S_store tabOk 1 rfl rfl rfl rfl rfl rfl ?_ | refine S_store tabOk 2 rfl rfl rfl rfl rfl rfl ?_ | refine S_store tabOk 3 rfl rfl rfl rfl rfl rfl ?_ | refine S_q (Q_build tabOk rfl rfl rfl rfl rfl rfl rfl) ?_)
  refine S_q (Q_eqnil tabOk rfl rfl rfl rfl rfl) ?_
  cases a with
  | none =>
    have h0 := (hw.nil rfl).1
    subst h0
    obtain rfl : zs = [] := List.eq_nil_of_length_eq_zero hl
    repeat (first | refine T_draw (by kernel_rfl) (by kernel_rfl) ?_ | refine D_all rfl ?_ | refine D_i64 tabOk rfl (by omega) ?_ | refine D_pure tabOk rfl ?_ | refine D_pass rfl rfl rfl ?_ | refine D_load tabOk 0 rfl rfl rfl ?_ | refine D_load tabOk 1 rfl rfl rfl ?_ | refine D_load tabOk 2 rfl rfl rfl ?_ | refine T_seq ?_ | refine T_region ?_ | refine T_block ?_ | refine S_nil ?_ | refine pthen_normal ?_ | refine inb_normal ?_ | refine inb_ret ?_ | refine pthen_ret ?_ | refine inb_hit ?_ | refine pthen_exit ?_ | refine T_skip ?_ | refine T_ret ?_ | refine T_exit ?_ | refine T_cond_t rfl ?_ | refine T_cond_f rfl ?_ | refine S_i64 tabOk rfl (by omega) ?_ | refine S_pure tabOk rfl ?_ | refine S_pass rfl rfl rfl ?_ | refine S_pass0 rfl rfl ?_ | refine T_region_any ?_ | refine S_load tabOk 0 rfl rfl rfl ?_ | refine S_load tabOk 1 rfl rfl rfl ?_ | refine S_load tabOk 2 rfl rfl rfl ?_ | refine S_load tabOk 3 rfl rfl rfl ?_ | refine S_store tabOk 0 rfl rfl rfl rfl rfl rfl ?_ | refine S_store tabOk 1 rfl rfl rfl rfl rfl rfl ?_ | refine S_store tabOk 2 rfl rfl rfl rfl rfl rfl ?_ | refine S_store tabOk 3 rfl rfl rfl rfl rfl rfl ?_ | refine S_q (Q_build tabOk rfl rfl rfl rfl rfl rfl rfl) ?_)
    exact ret1 rfl rfl (fun w' hw => ⟨none, 0, rfl, hw.below new_nil, World.ownsRow_nil _ _ _ _⟩)
  | some ad =>
    repeat (first | refine T_draw (by kernel_rfl) (by kernel_rfl) ?_ | refine D_all rfl ?_ | refine D_i64 tabOk rfl (by omega) ?_ | refine D_pure tabOk rfl ?_ | refine D_pass rfl rfl rfl ?_ | refine D_load tabOk 0 rfl rfl rfl ?_ | refine D_load tabOk 1 rfl rfl rfl ?_ | refine D_load tabOk 2 rfl rfl rfl ?_ | refine T_seq ?_ | refine T_region ?_ | refine T_block ?_ | refine S_nil ?_ | refine pthen_normal ?_ | refine inb_normal ?_ | refine inb_ret ?_ | refine pthen_ret ?_ | refine inb_hit ?_ | refine pthen_exit ?_ | refine T_skip ?_ | refine T_ret ?_ | refine T_exit ?_ | refine T_cond_t rfl ?_ | refine T_cond_f rfl ?_ | refine S_i64 tabOk rfl (by omega) ?_ | refine S_pure tabOk rfl ?_ | refine S_pass rfl rfl rfl ?_ | refine S_pass0 rfl rfl ?_ | refine T_region_any ?_ | refine S_load tabOk 0 rfl rfl rfl ?_ | refine S_load tabOk 1 rfl rfl rfl ?_ | refine S_load tabOk 2 rfl rfl rfl ?_ | refine S_load tabOk 3 rfl rfl rfl ?_ | refine S_store tabOk 0 rfl rfl rfl rfl rfl rfl ?_ | refine S_store tabOk 1 rfl rfl rfl rfl rfl rfl ?_ | refine S_store tabOk 2 rfl rfl rfl rfl rfl rfl ?_ | refine S_store tabOk 3 rfl rfl rfl rfl rfl rfl ?_ | refine S_q (Q_build tabOk rfl rfl rfl rfl rfl rfl rfl) ?_)
    refine S_bslice tabOk rfl rfl rfl rfl rfl rfl rfl rfl rfl rfl rfl rfl (fun b hb => ?_)
    refine S_heap (ol' := [.row w.heap.size (.slice (some ⟨b, 0, none⟩) 0 0) 5 1 0 []]) (fun w' h => Hp.closeRow (pre := []) (n := 0) (c := 0) h hb (by decide) (by decide) rfl) ?_
    repeat (first | refine T_draw (by kernel_rfl) (by kernel_rfl) ?_ | refine D_all rfl ?_ | refine D_i64 tabOk rfl (by omega) ?_ | refine D_pure tabOk rfl ?_ | refine D_pass rfl rfl rfl ?_ | refine D_load tabOk 0 rfl rfl rfl ?_ | refine D_load tabOk 1 rfl rfl rfl ?_ | refine D_load tabOk 2 rfl rfl rfl ?_ | refine T_seq ?_ | refine T_region ?_ | refine T_block ?_ | refine S_nil ?_ | refine pthen_normal ?_ | refine inb_normal ?_ | refine inb_ret ?_ | refine pthen_ret ?_ | refine inb_hit ?_ | refine pthen_exit ?_ | refine T_skip ?_ | refine T_ret ?_ | refine T_exit ?_ | refine T_cond_t rfl ?_ | refine T_cond_f rfl ?_ | refine S_i64 tabOk rfl (by omega) ?_ | refine S_pure tabOk rfl ?_ | refine S_pass rfl rfl rfl ?_ | refine S_pass0 rfl rfl ?_ | refine T_region_any ?_ | refine S_load tabOk 0 rfl rfl rfl ?_ | refine S_load tabOk 1 rfl rfl rfl ?_ | refine S_load tabOk 2 rfl rfl rfl ?_ | refine S_load tabOk 3 rfl rfl rfl ?_ | refine S_store tabOk 0 rfl rfl rfl rfl rfl rfl ?_ | refine S_store tabOk 1 rfl rfl rfl rfl rfl rfl ?_ | refine S_store tabOk 2 rfl rfl rfl rfl rfl rfl ?_ | refine S_store tabOk 3 rfl rfl rfl rfl rfl rfl ?_ | refine S_q (Q_build tabOk rfl rfl rfl rfl rfl rfl rfl) ?_)
    refine S_append (ty := 0) tabOk 0 rfl rfl rfl rfl rfl rfl rfl rfl rfl (by decide) (fun w' h => hw.sl.ext (h.below (newrow h 0 rfl (Nat.le_refl _) new_nil))) (allOne_map _ (fun _ => rfl) _) (by simp only [maxLen]; omega) (by show (_ + _) * 1 ≤ _; omega) rfl (fun A' c' h1 h2 => ⟨_, rfl, ?_⟩)
    repeat (first | refine T_draw (by kernel_rfl) (by kernel_rfl) ?_ | refine D_all rfl ?_ | refine D_i64 tabOk rfl (by omega) ?_ | refine D_pure tabOk rfl ?_ | refine D_pass rfl rfl rfl ?_ | refine D_load tabOk 0 rfl rfl rfl ?_ | refine D_load tabOk 1 rfl rfl rfl ?_ | refine D_load tabOk 2 rfl rfl rfl ?_ | refine T_seq ?_ | refine T_region ?_ | refine T_block ?_ | refine S_nil ?_ | refine pthen_normal ?_ | refine inb_normal ?_ | refine inb_ret ?_ | refine pthen_ret ?_ | refine inb_hit ?_ | refine pthen_exit ?_ | refine T_skip ?_ | refine T_ret ?_ | refine T_exit ?_ | refine T_cond_t rfl ?_ | refine T_cond_f rfl ?_ | refine S_i64 tabOk rfl (by omega) ?_ | refine S_pure tabOk rfl ?_ | refine S_pass rfl rfl rfl ?_ | refine S_pass0 rfl rfl ?_ | refine T_region_any ?_ | refine S_load tabOk 0 rfl rfl rfl ?_ | refine S_load tabOk 1 rfl rfl rfl ?_ | refine S_load tabOk 2 rfl rfl rfl ?_ | refine S_load tabOk 3 rfl rfl rfl ?_ | refine S_store tabOk 0 rfl rfl rfl rfl rfl rfl ?_ | refine S_store tabOk 1 rfl rfl rfl rfl rfl rfl ?_ | refine S_store tabOk 2 rfl rfl rfl rfl rfl rfl ?_ | refine S_store tabOk 3 rfl rfl rfl rfl rfl rfl ?_ | refine S_q (Q_build tabOk rfl rfl rfl rfl rfl rfl rfl) ?_)
    rw [Nat.zero_add, List.nil_append]
    subst hl
    exact ret1 rfl rfl (fun w' hw => ⟨A', c', rfl, hw.below (newrow hw 0 rfl (Nat.le_refl _) new_nil), hw.own _ (getE_mem (i := 0) rfl)⟩)
theorem fits8 {z : Int} (h : 0 ≤ z ∧ z ≤ 255) : Fits .u8 z := by simpa [Fits, IntKind.min, IntKind.max, IntKind.signed, IntKind.bits] using h
theorem wrap8 (m : Nat) : IntKind.u8.wrap (m : Int) = ((m % 256 : Nat) : Int) := by rw [IntKind.wrap_u8]; omega
section
variable {P : Program} {n : Nat} {w0 : World} {all : Array Oper} {os : List Oper} {o : Oper} {l : FL} {ol : OL} {K : FL → OL → Prop} {Q : Post}
/-- A call that answers a slice with memory of its own, and something. -/
theorem S_callrow2 {d m sz : Nat} {f : FuncId} {vs xs : List Value} {E : TypeId} {v2 : Value} (hs : callAt? n all (look l) o = some (d, f, vs)) (hcall : ∀ args w, (callFunc f args).run P w = .ok (.enter f args) w)
    (hc : ∀ w, Hp w0 w ol → Calls P f vs.toArray w (fun e w' => ∃ a c, e = .returned (.tuple #[.slice a m c, v2]) ∧ Below w.heap.size w w' ∧ w'.ownsRow w.heap.size E sz (.slice a m c) m xs))
    (k : ∀ a c, m ≤ c → c ≤ maxLen → S P n w0 all os ((d, .tuple #[.slice a m c, v2]) :: l) (.row w0.heap.size (.slice a m c) E sz m xs :: ol) K Q) : S P n w0 all (o :: os) l ol K Q :=
  S_call hs hcall fun w hh => (hc w hh).mono fun e w' ⟨a, c, he, hb, hr⟩ => ⟨_, _, he, hh.fresh hb (x := .row w0.heap.size (.slice a m c) E sz m xs) (own_rebase hr hh.size) (fun j hj => (World.ownsRow.lt hr j hj).1), (by obtain ⟨A, C, e1, h1, h2⟩ := form_of_own hr; cases e1; exact k a c h1 h2)⟩
end

theorem same1_ok (a1 a2 : Option Addr) (n1 c1 n2 c2 : Nat) (xs : List Int) (w : World) (h1 : Ints .u8 w a1 n1 c1 xs) (h2 : Ints .u8 w a2 n2 c2 xs) :
    Calls Try.prog 17 #[.slice a1 n1 c1, .slice a2 n2 c2] w fun e w' => e = .returned (.bool true) ∧ Below w.heap.size w w' := by
  have := same_ok a1 a2 n1 c1 n2 c2 xs xs w h1 h2
  rw [decide_eq_true rfl] at this
  exact this

section
variable {P : Program} {tb : Tab} {n : Nat} {w0 : World} {all : Array Oper} {os : List Oper} {o : Oper} {l : FL} {ol : OL} {K : FL → OL → Prop} {Q : Post} {r : Nat → Option Value} {d : Nat}

/-- The newest row is not empty: it is a block. -/
theorem T_openRow {code : Code} {a : Option Addr} {m c base sz : Nat} {e : TypeId} {xs : List Value} (hm : 0 < m)
    (k : ∀ b junk, a = some ⟨b, 0, none⟩ → base ≤ b → m ≤ c → xs.length = m * sz → (xs ++ junk).length = c * sz → c ≤ maxLen → T P n w0 code l (.blk b (.cells ⟨xs ++ junk⟩ e (0, 0)) true :: ol) Q) : T P n w0 code l (.row base (.slice a m c) e sz m xs :: ol) Q :=
  ⟨fun ac w hf hh => by
    obtain ⟨b, junk, ha, hb, h1, h2, h3, h4, h5⟩ := Hp.openRow (pre := []) hh hm
    exact (k b junk ha hb h1 h2 h3 h4).out ac w hf h5⟩
theorem S_openRow {a : Option Addr} {m c base sz : Nat} {e : TypeId} {xs : List Value} (hm : 0 < m)
    (k : ∀ b junk, a = some ⟨b, 0, none⟩ → base ≤ b → m ≤ c → xs.length = m * sz → (xs ++ junk).length = c * sz → c ≤ maxLen → S P n w0 all os l (.blk b (.cells ⟨xs ++ junk⟩ e (0, 0)) true :: ol) K Q) : S P n w0 all os l (.row base (.slice a m c) e sz m xs :: ol) K Q :=
  ⟨fun ac w hf hh => by
    obtain ⟨b, junk, ha, hb, h1, h2, h3, h4, h5⟩ := Hp.openRow (pre := []) hh hm
    exact (k b junk ha hb h1 h2 h3 h4).out ac w hf h5⟩
theorem setMany_one : ∀ {cs : List Value} {off : Nat} {v : Value}, off < cs.length → setMany cs off [v] = some (cs.set off v)
  | c :: cs, 0, v, h => by cases cs <;> rfl
  | c :: cs, k + 1, v, h => by
    simp only [setMany, setMany_one (cs := cs) (off := k) (by simpa using h), List.set_cons_succ]

end

theorem mid_get {pre u post : List Int} {i : Nat} {x : Int} (h : u[i]? = some x) : (pre ++ (u ++ post))[pre.length + i]? = some x := by
  have hi : i < u.length := (List.getElem?_eq_some_iff.1 h).1
  rw [List.getElem?_append_right (by omega), show pre.length + i - pre.length = i from by omega, List.getElem?_append_left hi, h]
theorem mid_set {pre u post : List Int} {i : Nat} {x : Int} (h : i < u.length) : (pre ++ (u ++ post)).set (pre.length + i) x = pre ++ (u.set i x ++ post) := by
  rw [List.set_append_right _ _ (by omega), show pre.length + i - pre.length = i from by omega, List.set_append_left _ _ h]
theorem cells_set {zs : List Int} {junk : List Value} {j : Nat} {x : Int} (h : j < zs.length) : (zs.map (Value.int .u8) ++ junk).set j (.int .u8 x) = (zs.set j x).map (Value.int .u8) ++ junk := by
  rw [List.set_append_left _ _ (by rw [List.length_map]; exact h), List.map_set]
theorem cells_get {zs : List Int} {junk : List Value} {j : Nat} {x : Int} (h : zs[j]? = some x) : (zs.map (Value.int .u8) ++ junk)[j]? = some (.int .u8 x) := by
  have hj : j < zs.length := (List.getElem?_eq_some_iff.1 h).1
  rw [List.getElem?_append_left (by rw [List.length_map]; exact hj), List.getElem?_map, h]
  rfl
end Go.Proofs.Ytcnpfempfgljfaa
