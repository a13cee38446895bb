/-
  Contracts of package mark's Close and Open, of the document's, of bytes.Clone and bytes.Equal. Conditions: each theorem's own.
-/
import Derived.Test.YtdoclecibanaoaaMkA
import Derived.Laws.BytesArg
namespace Go.Proofs.Ytdoclecibanaoaa
open Go Go.RowKit
set_option linter.unusedVariables false

theorem str_eq {xs ys : List Int} (hx : ∀ z ∈ xs, Fits .u8 z) (hy : ∀ z ∈ ys, Fits .u8 z) : ((strOfNums xs).toList == (strOfNums ys).toList) = decide (xs = ys) := by
  have key : ∀ {xs ys : List Int}, (∀ z ∈ xs, Fits .u8 z) → (∀ z ∈ ys, Fits .u8 z) → (xs.map fun n => UInt8.ofNat n.toNat) = (ys.map fun n => UInt8.ofNat n.toNat) → xs = ys := by
    intro xs
    induction xs with
    | nil => intro ys _ _ h; cases ys with
      | nil => rfl
      | cons y ys => cases h
    | cons x xs ih => intro ys hx hy h; cases ys with
      | nil => cases h
      | cons y ys =>
        simp only [List.map_cons, List.cons.injEq] at h
        have h1 := fits_u8 (hx x List.mem_cons_self)
        have h2 := fits_u8 (hy y List.mem_cons_self)
        have e := congrArg UInt8.toNat h.1
        simp only [UInt8.toNat_ofNat'] at e
        rw [ih (fun z hz => hx z (List.mem_cons_of_mem _ hz)) (fun z hz => hy z (List.mem_cons_of_mem _ hz)) h.2]
        congr 1
        omega
  rw [ByteArray.toList_eq, ByteArray.toList_eq, strOfNums_data, strOfNums_data]
  by_cases h : xs = ys
  · subst h; simp
  · rw [decide_eq_false h]
    simp only [beq_eq_false_iff_ne, ne_eq]
    exact fun hh => h (key hx hy hh)

section
variable {P : Program} {tb : Tab} {n : Nat} {w0 : World} {all : Array Oper} {r : Nat → Option Value} {o : Oper} {d : Nat} {ol : OL}
theorem Q_b2s (ht : TabOk P tb) {t t' e : TypeId} {x : Operand} {a : Option Addr} {m c : Nat} {zs : List Int} {ti td te : TI} (hs : opAt? n all r o = some (d, .convert t t' x)) (hx : ev r x = some (.slice a m c)) (hti : tl tb t = some ti) (hd : ti.desc = .slice e) (hte : tl tb e = some te) (hed : te.desc = .int .u8) (htd : tl tb t' = some td) (hdd : td.desc = .string)
    (hr : ∀ w, Hp w0 w ol → Ints .u8 w a m c zs) : QOp P n w0 all r ol o d (.string (strOfNums zs)) :=
  Q_of hs fun ac w hrd hh hop => by
    have u1 := ht.under' hti
    rw [hd] at u1
    have u2 := ht.under' hte
    rw [hed] at u2
    have u3 := ht.under' htd
    rw [hdd] at u3
    have hi := hr w hh
    have hrun : (convert t t' (.slice a m c)).run P w = .ok (.string (strOfNums zs)) w := by
      cases a with
      | none =>
        have h0 := (hi.nil rfl).1
        subst h0
        obtain rfl : zs = [] := List.eq_nil_of_length_eq_zero hi.len
        exact run_convert_bytes_nil w t e u1 u2 0 c t' u3
      | some ad =>
        have hl : (loadCells ad m).run P w = .ok (zs.map (Value.int .u8)).toArray w := by
          have := run_loadCells_list (P := P) w ad (zs.map (Value.int .u8)) (fun j v hj => by
            rcases Nat.eq_zero_or_pos m with h0 | h0
            · subst h0
              obtain rfl : zs = [] := List.eq_nil_of_length_eq_zero hi.len
              simp at hj
            · obtain ⟨b, off, e1, _, hc⟩ := hi.sl.get h0
              cases e1
              rw [Addr.add_lit]
              exact hc j v hj)
          simpa [hi.len] using this
        rw [run_convert_bytes_string w t t' e _ m c u1 u2 u3, run_bytesToString w _ m c zs hl, foldl_push_bytes]
        simp [strOfNums, ByteArray.empty, ByteArray.emptyWithCapacity]
        rfl
    unfold execOp
    simp only [hop, hrd.ev hx, Sem.run_bind, hrun, Result.andThen_ok, Sem.run_pure]
theorem Q_streq {t t' : TypeId} {x y : Operand} {a b : ByteArray} (hs : opAt? n all r o = some (d, .binOp .eql t x y t')) (hx : ev r x = some (.string a)) (hy : ev r y = some (.string b)) : QOp P n w0 all r ol o d (.bool (a.toList == b.toList)) :=
  Q_of hs fun ac w hrd hh hop => by
    unfold execOp
    simp [hop, hrd.ev hx, hrd.ev hy, eqGuard, binOp, Op.stringOp]
end

theorem bequal_ok (a1 a2 : Option Addr) (n1 c1 n2 c2 : Nat) (xs ys : List Int) (w : World) (h1 : Ints .u8 w a1 n1 c1 xs) (h2 : Ints .u8 w a2 n2 c2 ys) :
    Calls Try.prog 32 #[.slice a1 n1 c1, .slice a2 n2 c2] w fun e w' => e = .returned (.bool (decide (xs = ys))) ∧ Below w.heap.size w w' := by
  refine enter2 Try.func32 rfl rfl (Hp.refl w) ?_
  repeat (first | refine T_draw (by kernel_rfl) (by kernel_rfl) ?_ | refine D_all rfl ?_ | refine D_i64 tabOk rfl (by omega) ?_ | refine D_pure tabOk rfl ?_ | refine D_pass rfl rfl rfl ?_ | refine D_load tabOk 0 rfl rfl rfl ?_ | refine D_load tabOk 1 rfl rfl rfl ?_ | refine D_load tabOk 2 rfl rfl rfl ?_ | refine T_seq ?_ | refine T_region ?_ | refine T_block ?_ | refine S_nil ?_ | refine pthen_normal ?_ | refine inb_normal ?_ | refine inb_ret ?_ | refine pthen_ret ?_ | refine inb_hit ?_ | refine pthen_exit ?_ | refine T_skip ?_ | refine T_ret ?_ | refine T_exit ?_ | refine T_cond_t rfl ?_ | refine T_cond_f rfl ?_ | refine S_i64 tabOk rfl (by omega) ?_ | refine S_pure tabOk rfl ?_ | refine S_pass rfl rfl rfl ?_ | refine S_pass0 rfl rfl ?_ | refine T_region_any ?_ | refine S_load tabOk 0 rfl rfl rfl ?_ | refine S_load tabOk 1 rfl rfl rfl ?_ | refine S_load tabOk 2 rfl rfl rfl ?_ | refine S_load tabOk 3 rfl rfl rfl ?_ | refine S_store tabOk 0 rfl rfl rfl rfl rfl rfl ?_ | refine S_store tabOk 1 rfl rfl rfl rfl rfl rfl ?_ | refine S_store tabOk 2 rfl rfl rfl rfl rfl rfl ?_ | refine S_store tabOk 3 rfl rfl rfl rfl rfl rfl ?_ | refine S_q (Q_build tabOk rfl rfl rfl rfl rfl rfl rfl) ?_)
  refine S_q (Q_b2s tabOk rfl rfl rfl rfl rfl rfl rfl rfl (zs := xs) (fun w' hw => h1.ext (hw.below new_nil))) ?_
  repeat (first | refine T_draw (by kernel_rfl) (by kernel_rfl) ?_ | refine D_all rfl ?_ | refine D_i64 tabOk rfl (by omega) ?_ | refine D_pure tabOk rfl ?_ | refine D_pass rfl rfl rfl ?_ | refine D_load tabOk 0 rfl rfl rfl ?_ | refine D_load tabOk 1 rfl rfl rfl ?_ | refine D_load tabOk 2 rfl rfl rfl ?_ | refine T_seq ?_ | refine T_region ?_ | refine T_block ?_ | refine S_nil ?_ | refine pthen_normal ?_ | refine inb_normal ?_ | refine inb_ret ?_ | refine pthen_ret ?_ | refine inb_hit ?_ | refine pthen_exit ?_ | refine T_skip ?_ | refine T_ret ?_ | refine T_exit ?_ | refine T_cond_t rfl ?_ | refine T_cond_f rfl ?_ | refine S_i64 tabOk rfl (by omega) ?_ | refine S_pure tabOk rfl ?_ | refine S_pass rfl rfl rfl ?_ | refine S_pass0 rfl rfl ?_ | refine T_region_any ?_ | refine S_load tabOk 0 rfl rfl rfl ?_ | refine S_load tabOk 1 rfl rfl rfl ?_ | refine S_load tabOk 2 rfl rfl rfl ?_ | refine S_load tabOk 3 rfl rfl rfl ?_ | refine S_store tabOk 0 rfl rfl rfl rfl rfl rfl ?_ | refine S_store tabOk 1 rfl rfl rfl rfl rfl rfl ?_ | refine S_store tabOk 2 rfl rfl rfl rfl rfl rfl ?_ | refine S_store tabOk 3 rfl rfl rfl rfl rfl rfl ?_ | refine S_q (Q_build tabOk rfl rfl rfl rfl rfl rfl rfl) ?_)
  refine S_q (Q_b2s tabOk rfl rfl rfl rfl rfl rfl rfl rfl (zs := ys) (fun w' hw => h2.ext (hw.below new_nil))) ?_
  refine S_q ((Q_streq rfl rfl rfl).eq (congrArg Value.bool (str_eq h1.fits h2.fits))) ?_
  repeat (first | refine T_draw (by kernel_rfl) (by kernel_rfl) ?_ | refine D_all rfl ?_ | refine D_i64 tabOk rfl (by omega) ?_ | refine D_pure tabOk rfl ?_ | refine D_pass rfl rfl rfl ?_ | refine D_load tabOk 0 rfl rfl rfl ?_ | refine D_load tabOk 1 rfl rfl rfl ?_ | refine D_load tabOk 2 rfl rfl rfl ?_ | refine T_seq ?_ | refine T_region ?_ | refine T_block ?_ | refine S_nil ?_ | refine pthen_normal ?_ | refine inb_normal ?_ | refine inb_ret ?_ | refine pthen_ret ?_ | refine inb_hit ?_ | refine pthen_exit ?_ | refine T_skip ?_ | refine T_ret ?_ | refine T_exit ?_ | refine T_cond_t rfl ?_ | refine T_cond_f rfl ?_ | refine S_i64 tabOk rfl (by omega) ?_ | refine S_pure tabOk rfl ?_ | refine S_pass rfl rfl rfl ?_ | refine S_pass0 rfl rfl ?_ | refine T_region_any ?_ | refine S_load tabOk 0 rfl rfl rfl ?_ | refine S_load tabOk 1 rfl rfl rfl ?_ | refine S_load tabOk 2 rfl rfl rfl ?_ | refine S_load tabOk 3 rfl rfl rfl ?_ | refine S_store tabOk 0 rfl rfl rfl rfl rfl rfl ?_ | refine S_store tabOk 1 rfl rfl rfl rfl rfl rfl ?_ | refine S_store tabOk 2 rfl rfl rfl rfl rfl rfl ?_ | refine S_store tabOk 3 rfl rfl rfl rfl rfl rfl ?_ | refine S_q (Q_build tabOk rfl rfl rfl rfl rfl rfl rfl) ?_)
  exact ret1 rfl rfl (fun w' hw => ⟨rfl, hw.below new_nil⟩)

theorem clone_ok (a : Option Addr) (n c : Nat) (zs : List Int) (w : World) (hw : Ints .u8 w a n c zs) (hn : zs.length ≤ 2147483648) :
    Calls Try.prog 31 #[.slice a n c] w fun e w' => ∃ a c, e = .returned (.slice a zs.length c) ∧ Below w.heap.size w w' ∧ w'.ownsRow w.heap.size 5 1 (.slice a zs.length c) zs.length (zs.map (.int .u8)) := by
  have hl := hw.len
  refine enter1 Try.func31 rfl rfl (Hp.refl w) ?_
  repeat (first | refine T_draw (by kernel_rfl) (by kernel_rfl) ?_ | refine D_all rfl ?_ | refine D_i64 tabOk rfl (by omega) ?_ | refine D_pure tabOk rfl ?_ | refine D_pass rfl rfl rfl ?_ | refine D_load tabOk 0 rfl rfl rfl ?_ | refine D_load tabOk 1 rfl rfl rfl ?_ | refine D_load tabOk 2 rfl rfl rfl ?_ | refine T_seq ?_ | refine T_region ?_ | refine T_block ?_ | refine S_nil ?_ | refine pthen_normal ?_ | refine inb_normal ?_ | refine inb_ret ?_ | refine pthen_ret ?_ | refine inb_hit ?_ | refine pthen_exit ?_ | refine T_skip ?_ | refine T_ret ?_ | refine T_exit ?_ | refine T_cond_t rfl ?_ | refine T_cond_f rfl ?_ | refine S_i64 tabOk rfl (by omega) ?_ | refine S_pure tabOk rfl ?_ | refine S_pass rfl rfl rfl ?_ | refine S_pass0 rfl rfl ?_ | refine T_region_any ?_ | refine S_load tabOk 0 rfl rfl rfl ?_ | refine S_load tabOk 1 rfl rfl rfl ?_ | refine S_load tabOk 2 rfl rfl rfl ?_ | refine S_load tabOk 3 rfl rfl rfl ?_ | refine S_store tabOk 0 rfl rfl rfl rfl rfl rfl ?_ | refine S_store tabOk 1 rfl rfl rfl rfl rfl rfl ?_ | refine S_store tabOk 2 rfl rfl rfl rfl rfl rfl ?_ | refine S_store tabOk 3 rfl rfl rfl rfl rfl rfl ?_ | refine S_q (Q_build tabOk rfl rfl rfl rfl rfl rfl rfl) ?_)
  refine S_q (Q_eqnil tabOk rfl rfl rfl rfl rfl) ?_
  cases a with
  | none =>
    have h0 := (hw.nil rfl).1
    subst h0
    obtain rfl : zs = [] := List.eq_nil_of_length_eq_zero hl
    repeat (first | refine T_draw (by kernel_rfl) (by kernel_rfl) ?_ | refine D_all rfl ?_ | refine D_i64 tabOk rfl (by omega) ?_ | refine D_pure tabOk rfl ?_ | refine D_pass rfl rfl rfl ?_ | refine D_load tabOk 0 rfl rfl rfl ?_ | refine D_load tabOk 1 rfl rfl rfl ?_ | refine D_load tabOk 2 rfl rfl rfl ?_ | refine T_seq ?_ | refine T_region ?_ | refine T_block ?_ | refine S_nil ?_ | refine pthen_normal ?_ | refine inb_normal ?_ | refine inb_ret ?_ | refine pthen_ret ?_ | refine inb_hit ?_ | refine pthen_exit ?_ | refine T_skip ?_ | refine T_ret ?_ | refine T_exit ?_ | refine T_cond_t rfl ?_ | refine T_cond_f rfl ?_ | refine S_i64 tabOk rfl (by omega) ?_ | refine S_pure tabOk rfl ?_ | refine S_pass rfl rfl rfl ?_ | refine S_pass0 rfl rfl ?_ | refine T_region_any ?_ | refine S_load tabOk 0 rfl rfl rfl ?_ | refine S_load tabOk 1 rfl rfl rfl ?_ | refine S_load tabOk 2 rfl rfl rfl ?_ | refine S_load tabOk 3 rfl rfl rfl ?_ | refine S_store tabOk 0 rfl rfl rfl rfl rfl rfl ?_ | refine S_store tabOk 1 rfl rfl rfl rfl rfl rfl ?_ | refine S_store tabOk 2 rfl rfl rfl rfl rfl rfl ?_ | refine S_store tabOk 3 rfl rfl rfl rfl rfl rfl ?_ | refine S_q (Q_build tabOk rfl rfl rfl rfl rfl rfl rfl) ?_)
    exact ret1 rfl rfl (fun w' hw => ⟨none, 0, rfl, hw.below new_nil, World.ownsRow_nil _ _ _ _⟩)
  | some ad =>
    repeat (first | refine T_draw (by kernel_rfl) (by kernel_rfl) ?_ | refine D_all rfl ?_ | refine D_i64 tabOk rfl (by omega) ?_ | refine D_pure tabOk rfl ?_ | refine D_pass rfl rfl rfl ?_ | refine D_load tabOk 0 rfl rfl rfl ?_ | refine D_load tabOk 1 rfl rfl rfl ?_ | refine D_load tabOk 2 rfl rfl rfl ?_ | refine T_seq ?_ | refine T_region ?_ | refine T_block ?_ | refine S_nil ?_ | refine pthen_normal ?_ | refine inb_normal ?_ | refine inb_ret ?_ | refine pthen_ret ?_ | refine inb_hit ?_ | refine pthen_exit ?_ | refine T_skip ?_ | refine T_ret ?_ | refine T_exit ?_ | refine T_cond_t rfl ?_ | refine T_cond_f rfl ?_ | refine S_i64 tabOk rfl (by omega) ?_ | refine S_pure tabOk rfl ?_ | refine S_pass rfl rfl rfl ?_ | refine S_pass0 rfl rfl ?_ | refine T_region_any ?_ | refine S_load tabOk 0 rfl rfl rfl ?_ | refine S_load tabOk 1 rfl rfl rfl ?_ | refine S_load tabOk 2 rfl rfl rfl ?_ | refine S_load tabOk 3 rfl rfl rfl ?_ | refine S_store tabOk 0 rfl rfl rfl rfl rfl rfl ?_ | refine S_store tabOk 1 rfl rfl rfl rfl rfl rfl ?_ | refine S_store tabOk 2 rfl rfl rfl rfl rfl rfl ?_ | refine S_store tabOk 3 rfl rfl rfl rfl rfl rfl ?_ | refine S_q (Q_build tabOk rfl rfl rfl rfl rfl rfl rfl) ?_)
    refine S_bslice tabOk rfl rfl rfl rfl rfl rfl rfl rfl rfl rfl rfl rfl (fun b hb => ?_)
    refine S_heap (ol' := [.row w.heap.size (.slice (some ⟨b, 0, none⟩) 0 0) 5 1 0 []]) (fun w' h => Hp.closeRow (pre := []) (n := 0) (c := 0) h hb (by decide) (by decide) rfl) ?_
    repeat (first | refine T_draw (by kernel_rfl) (by kernel_rfl) ?_ | refine D_all rfl ?_ | refine D_i64 tabOk rfl (by omega) ?_ | refine D_pure tabOk rfl ?_ | refine D_pass rfl rfl rfl ?_ | refine D_load tabOk 0 rfl rfl rfl ?_ | refine D_load tabOk 1 rfl rfl rfl ?_ | refine D_load tabOk 2 rfl rfl rfl ?_ | refine T_seq ?_ | refine T_region ?_ | refine T_block ?_ | refine S_nil ?_ | refine pthen_normal ?_ | refine inb_normal ?_ | refine inb_ret ?_ | refine pthen_ret ?_ | refine inb_hit ?_ | refine pthen_exit ?_ | refine T_skip ?_ | refine T_ret ?_ | refine T_exit ?_ | refine T_cond_t rfl ?_ | refine T_cond_f rfl ?_ | refine S_i64 tabOk rfl (by omega) ?_ | refine S_pure tabOk rfl ?_ | refine S_pass rfl rfl rfl ?_ | refine S_pass0 rfl rfl ?_ | refine T_region_any ?_ | refine S_load tabOk 0 rfl rfl rfl ?_ | refine S_load tabOk 1 rfl rfl rfl ?_ | refine S_load tabOk 2 rfl rfl rfl ?_ | refine S_load tabOk 3 rfl rfl rfl ?_ | refine S_store tabOk 0 rfl rfl rfl rfl rfl rfl ?_ | refine S_store tabOk 1 rfl rfl rfl rfl rfl rfl ?_ | refine S_store tabOk 2 rfl rfl rfl rfl rfl rfl ?_ | refine S_store tabOk 3 rfl rfl rfl rfl rfl rfl ?_ | refine S_q (Q_build tabOk rfl rfl rfl rfl rfl rfl rfl) ?_)
    refine S_append (ty := 0) tabOk 0 rfl rfl rfl rfl rfl rfl rfl rfl rfl (by decide) (fun w' h => hw.sl.ext (h.below (newrow h 0 rfl (Nat.le_refl _) new_nil))) (allOne_map _ (fun _ => rfl) _) (by simp only [maxLen]; omega) (by show (_ + _) * 1 ≤ _; omega) rfl (fun A' c' h1 h2 => ⟨_, rfl, ?_⟩)
    repeat (first | refine T_draw (by kernel_rfl) (by kernel_rfl) ?_ | refine D_all rfl ?_ | refine D_i64 tabOk rfl (by omega) ?_ | refine D_pure tabOk rfl ?_ | refine D_pass rfl rfl rfl ?_ | refine D_load tabOk 0 rfl rfl rfl ?_ | refine D_load tabOk 1 rfl rfl rfl ?_ | refine D_load tabOk 2 rfl rfl rfl ?_ | refine T_seq ?_ | refine T_region ?_ | refine T_block ?_ | refine S_nil ?_ | refine pthen_normal ?_ | refine inb_normal ?_ | refine inb_ret ?_ | refine pthen_ret ?_ | refine inb_hit ?_ | refine pthen_exit ?_ | refine T_skip ?_ | refine T_ret ?_ | refine T_exit ?_ | refine T_cond_t rfl ?_ | refine T_cond_f rfl ?_ | refine S_i64 tabOk rfl (by omega) ?_ | refine S_pure tabOk rfl ?_ | refine S_pass rfl rfl rfl ?_ | refine S_pass0 rfl rfl ?_ | refine T_region_any ?_ | refine S_load tabOk 0 rfl rfl rfl ?_ | refine S_load tabOk 1 rfl rfl rfl ?_ | refine S_load tabOk 2 rfl rfl rfl ?_ | refine S_load tabOk 3 rfl rfl rfl ?_ | refine S_store tabOk 0 rfl rfl rfl rfl rfl rfl ?_ | refine S_store tabOk 1 rfl rfl rfl rfl rfl rfl ?_ | refine S_store tabOk 2 rfl rfl rfl rfl rfl rfl ?_ | refine S_store tabOk 3 rfl rfl rfl rfl rfl rfl ?_ | refine S_q (Q_build tabOk rfl rfl rfl rfl rfl rfl rfl) ?_)
    rw [Nat.zero_add, List.nil_append]
    subst hl
    exact ret1 rfl rfl (fun w' hw => ⟨A', c', rfl, hw.below (newrow hw 0 rfl (Nat.le_refl _) new_nil), hw.own _ (getE_mem (i := 0) rfl)⟩)
end Go.Proofs.Ytdoclecibanaoaa
