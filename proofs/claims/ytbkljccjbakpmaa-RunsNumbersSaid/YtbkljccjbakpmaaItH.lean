/-
  Rising lists of numbers: plain. slices.Sort and Compact on a row. Conditions: each theorem's own.
-/
import Derived.Test.YtbkljccjbakpmaaItE
import Derived.Test.YtbkljccjbakpmaaItG
namespace Go.Proofs.Ytbkljccjbakpmaa
open Go Go.RowKit Go.Sort
set_option linter.unusedVariables false

theorem lt_ext {l m : List Int} (hl : l.Pairwise (· < ·)) (hm : m.Pairwise (· < ·)) (h : ∀ x, x ∈ l ↔ x ∈ m) : l = m := by
  have n1 : l.Nodup := hl.imp (fun h => by omega)
  have n2 : m.Nodup := hm.imp (fun h => by omega)
  exact List.Perm.eq_of_pairwise (le := fun a b : Int => a < b) (fun a b _ _ h1 h2 => by omega) hl hm ((List.perm_ext_iff_of_nodup n1 n2).2 h)
theorem upI_mem {f x : Int} {k : Nat} : x ∈ upI f k ↔ f ≤ x ∧ x < f + k := by
  unfold upI
  rw [List.mem_map]
  constructor
  · rintro ⟨i, hi, rfl⟩
    rw [List.mem_range] at hi
    omega
  · rintro ⟨h1, h2⟩
    exact ⟨(x - f).toNat, List.mem_range.2 (by omega), by omega⟩
theorem upI_pw (f : Int) : ∀ k, (upI f k).Pairwise (· < ·)
  | 0 => List.Pairwise.nil
  | k + 1 => by
    rw [upI_succ, List.pairwise_append]
    refine ⟨upI_pw f k, List.pairwise_singleton _ _, fun a ha b hb => ?_⟩
    rw [List.mem_singleton] at hb
    have := (upI_mem.1 ha).2
    omega
theorem flatR_cons (r : Run) (L : List Run) : flatR (r :: L) = upI r.1 (r.2 - r.1 + 1).toNat ++ flatR L := rfl
theorem flatR_mem {x : Int} : ∀ {L : List Run}, x ∈ flatR L ↔ Mem L x
  | [] => ⟨fun h => (by cases h), fun h => absurd h (mem_nil x)⟩
  | r :: L => by
    rw [flatR_cons, List.mem_append, upI_mem, flatR_mem (L := L)]
    constructor
    · rintro (⟨h1, h2⟩ | ⟨s, hs, h⟩)
      · exact ⟨r, List.mem_cons_self, h1, by omega⟩
      · exact ⟨s, List.mem_cons_of_mem _ hs, h⟩
    · rintro ⟨s, hs, h1, h2⟩
      rcases List.mem_cons.1 hs with rfl | hs
      · exact .inl ⟨h1, by omega⟩
      · exact .inr ⟨s, hs, h1, h2⟩
theorem flatR_pw : ∀ {L : List Run}, Can L → (flatR L).Pairwise (· < ·)
  | [], _ => List.Pairwise.nil
  | r :: L, h => by
    rw [flatR_cons, List.pairwise_append]
    have hg := List.pairwise_cons.1 h.gap
    refine ⟨upI_pw _ _, flatR_pw ⟨fun s hs => h.le s (List.mem_cons_of_mem _ hs), hg.2⟩, fun a ha b hb => ?_⟩
    have h1 := upI_mem.1 ha
    obtain ⟨s, hs, h2, h3⟩ := flatR_mem.1 hb
    have := hg.1 s hs
    have := h.le r List.mem_cons_self
    omega
theorem flatR_tot : ∀ {L : List Run}, (∀ r ∈ L, r.1 ≤ r.2) → tot L = ((flatR L).length : Int)
  | [], _ => rfl
  | r :: L, h => by
    have h1 := h r List.mem_cons_self
    rw [flatR_cons, List.length_append, upI_len, tot, flatR_tot fun s hs => h s (List.mem_cons_of_mem _ hs)]
    omega
theorem ddA_spec {d : Array Int} : ∀ {k : Nat}, (∀ i j, i < j → j ≤ k → d[i]! ≤ d[j]!) → (ddA d k).Pairwise (· < ·) ∧ (∀ x, x ∈ ddA d k ↔ ∃ j, j ≤ k ∧ d[j]! = x) ∧ ∀ x ∈ ddA d k, x ≤ d[k]!
  | 0, _ => ⟨List.pairwise_singleton _ _, fun x => by
      rw [ddA, List.mem_singleton]
      exact ⟨fun h => ⟨0, Nat.le_refl _, h.symm⟩, fun ⟨j, h1, h2⟩ => by rw [← h2, show j = 0 by omega]⟩, fun x hx => by rw [ddA, List.mem_singleton] at hx; omega⟩
  | k + 1, h => by
    obtain ⟨p1, p2, p3⟩ := ddA_spec (d := d) (k := k) fun i j h1 h2 => h i j h1 (by omega)
    have h0 := h k (k + 1) (by omega) (Nat.le_refl _)
    unfold ddA
    split
    · rename_i he
      rw [List.append_nil]
      refine ⟨p1, fun x => (p2 x).trans ⟨fun ⟨j, h1, h2⟩ => ⟨j, by omega, h2⟩, fun ⟨j, h1, h2⟩ => ?_⟩, fun x hx => by rw [he]; exact p3 x hx⟩
      rcases Nat.lt_or_ge k j with h3 | h3
      · exact ⟨k, Nat.le_refl _, by rw [← h2, show j = k + 1 by omega, he]⟩
      · exact ⟨j, h3, h2⟩
    · rename_i he
      refine ⟨List.pairwise_append.2 ⟨p1, List.pairwise_singleton _ _, fun a ha b hb => ?_⟩, fun x => ?_, fun x hx => ?_⟩
      · rw [List.mem_singleton] at hb
        have := p3 a ha
        omega
      · rw [List.mem_append, p2, List.mem_singleton]
        constructor
        · rintro (⟨j, h1, h2⟩ | rfl)
          · exact ⟨j, by omega, h2⟩
          · exact ⟨k + 1, Nat.le_refl _, rfl⟩
        · rintro ⟨j, h1, rfl⟩
          rcases Nat.lt_or_ge k j with h3 | h3
          · exact .inr (by rw [show j = k + 1 by omega])
          · exact .inl ⟨j, h3, rfl⟩
      · rcases List.mem_append.1 hx with hx | hx
        · have := p3 x hx
          omega
        · rw [List.mem_singleton] at hx
          omega
/-- A list without those that are like the one ahead. -/
def ddL (l : List Int) : List Int := if l = [] then [] else ddA l.toArray (l.length - 1)
theorem bang_list {l : List Int} {i : Nat} (h : i < l.length) : l.toArray[i]! = l[i] := by
  rw [Array.getElem!_eq_getD, Array.getD_eq_getD_getElem?, List.getElem?_toArray, List.getElem?_eq_getElem h]; rfl
theorem ddL_spec {l : List Int} (h : l.Pairwise (· ≤ ·)) : (ddL l).Pairwise (· < ·) ∧ ∀ x, x ∈ ddL l ↔ x ∈ l := by
  unfold ddL
  split
  · rename_i h0
    subst h0
    exact ⟨List.Pairwise.nil, fun x => Iff.rfl⟩
  · rename_i h0
    have hp : 0 < l.length := Nat.pos_of_ne_zero fun e => h0 (List.eq_nil_of_length_eq_zero e)
    obtain ⟨p1, p2, _⟩ := ddA_spec (d := l.toArray) (k := l.length - 1) fun i j h1 h2 => by
      rw [bang_list (by omega), bang_list (by omega)]
      exact List.pairwise_iff_getElem.1 h i j (by omega) (by omega) h1
    refine ⟨p1, fun x => (p2 x).trans ⟨fun ⟨j, h1, h2⟩ => ?_, fun hx => ?_⟩⟩
    · rw [bang_list (by omega)] at h2
      rw [← h2]
      exact List.getElem_mem _
    · obtain ⟨j, hj, e⟩ := List.getElem_of_mem hx
      exact ⟨j, by omega, by rw [bang_list hj]; exact e⟩

set_option maxHeartbeats 2000000 in
theorem sortR_ok {w0 w : World} {base c n : Nat} {a : Option Addr} {l : List Int} {rest : OL} (h : Hp w0 w (.row base (.slice a n c) 25 1 n (l.map (.int .u64)) :: rest)) (hl : l.length = n) (hm : n ≤ 65535) :
    Calls Try.prog 7 #[.slice a n c] w fun e w' => ∃ ts : List Int, e = .returned (.tuple #[]) ∧ ts.Perm l ∧ ts.Pairwise (· ≤ ·) ∧ Hp w0 w' (.row base (.slice a n c) 25 1 n (ts.map (.int .u64)) :: rest) := by
  rcases Nat.eq_zero_or_pos n with h0 | h0
  · subst h0
    exact (sort0_ok a c w).mono fun e w' ⟨e1, hb⟩ => ⟨l, e1, List.Perm.refl _, by rw [List.eq_nil_of_length_eq_zero hl]; exact List.Pairwise.nil, h.ext hb⟩
  obtain ⟨g, junk, rfl, hb, hnc, hxl, hjl, hcm, h2⟩ := h.openRow (pre := []) h0
  refine (sort_ok (d0 := l.toArray) (junk := junk) (n := n) (c := c) h2 (by simpa using hl) hm).mono fun e w' ⟨d, e1, hp, hs, hd, h3⟩ => ?_
  have hp' := perm_list (d := l.toArray) (d' := d) (by simpa [hl] using hp)
  have hs' := sorted_list (d := d) (by rw [hd]; exact hs)
  refine ⟨d.toList, e1, by simpa using hp', hs', ?_⟩
  have h4 := Hp.closeRow (pre := []) (post := rest) (n := n) (c := c) (sz := 1) h3 hb hnc hcm (by rw [uA_len]; simp at hjl; omega)
  have e4 : List.take (n * 1) (uA d junk) = d.toList.map (Value.int .u64) := by rw [Nat.mul_one, List.take_append_of_le_length (by simp [hd]), List.take_of_length_le (by simp [hd])]
  rw [e4] at h4
  exact h4
theorem compact_small (a : Option Addr) (n c : Nat) (hn : n < 2) (w : World) : Calls Try.prog 8 #[.slice a n c] w fun e w' => e = .returned (.slice a n c) ∧ Below w.heap.size w w' := by
  refine enter1 Try.func8 rfl rfl (Hp.refl w) ?_
  repeat (first | refine T_draw (by kernel_rfl) (by kernel_rfl) ?_ | refine D_all rfl ?_ | refine D_i64 tabOk rfl (by omega) ?_ | refine D_u64 tabOk rfl (by omega) ?_ | refine D_pure tabOk rfl ?_ | refine D_pass rfl rfl rfl ?_ | refine D_load tabOk 0 rfl rfl rfl ?_ | refine D_load tabOk 1 rfl rfl rfl ?_ | refine D_load tabOk 2 rfl rfl rfl ?_ | refine D_load tabOk 3 rfl rfl rfl ?_ | refine D_load tabOk 4 rfl rfl rfl ?_ | refine T_seq ?_ | refine T_region ?_ | refine T_block ?_ | refine S_nil ?_ | refine pthen_normal ?_ | refine inb_normal ?_ | refine inb_ret ?_ | refine pthen_ret ?_ | refine inb_hit ?_ | refine pthen_exit ?_ | refine T_skip ?_ | refine T_ret ?_ | refine T_exit ?_  | refine S_i64 tabOk rfl (by omega) ?_ | refine S_u64 tabOk rfl (by omega) ?_ | refine S_pure tabOk rfl ?_ | refine S_pass rfl rfl rfl ?_ | refine S_pass0 rfl rfl ?_ | refine T_region_any ?_  | refine S_load tabOk 0 rfl rfl rfl ?_ | refine S_load tabOk 1 rfl rfl rfl ?_ | refine S_load tabOk 2 rfl rfl rfl ?_ | refine S_load tabOk 3 rfl rfl rfl ?_ | refine S_load tabOk 4 rfl rfl rfl ?_ | refine S_load tabOk 5 rfl rfl rfl ?_ | refine S_store tabOk 0 rfl rfl rfl rfl rfl rfl ?_ | refine S_store tabOk 1 rfl rfl rfl rfl rfl rfl ?_ | refine S_store tabOk 2 rfl rfl rfl rfl rfl rfl ?_ | refine S_store tabOk 3 rfl rfl rfl rfl rfl rfl ?_ | refine S_store tabOk 4 rfl rfl rfl rfl rfl rfl ?_ | refine S_store tabOk 5 rfl rfl rfl rfl rfl rfl ?_ | refine S_q (Q_build tabOk rfl rfl rfl rfl rfl rfl rfl) ?_ | refine D_q (Q_build tabOk rfl rfl rfl rfl rfl rfl rfl) ?_)
  refine T_cond_dec rfl (fun _ => ?_) (fun h => absurd (by omega) h)
  repeat (first | refine T_draw (by kernel_rfl) (by kernel_rfl) ?_ | refine D_all rfl ?_ | refine D_i64 tabOk rfl (by omega) ?_ | refine D_u64 tabOk rfl (by omega) ?_ | refine D_pure tabOk rfl ?_ | refine D_pass rfl rfl rfl ?_ | refine D_load tabOk 0 rfl rfl rfl ?_ | refine D_load tabOk 1 rfl rfl rfl ?_ | refine D_load tabOk 2 rfl rfl rfl ?_ | refine D_load tabOk 3 rfl rfl rfl ?_ | refine D_load tabOk 4 rfl rfl rfl ?_ | refine T_seq ?_ | refine T_region ?_ | refine T_block ?_ | refine S_nil ?_ | refine pthen_normal ?_ | refine inb_normal ?_ | refine inb_ret ?_ | refine pthen_ret ?_ | refine inb_hit ?_ | refine pthen_exit ?_ | refine T_skip ?_ | refine T_ret ?_ | refine T_exit ?_  | refine S_i64 tabOk rfl (by omega) ?_ | refine S_u64 tabOk rfl (by omega) ?_ | refine S_pure tabOk rfl ?_ | refine S_pass rfl rfl rfl ?_ | refine S_pass0 rfl rfl ?_ | refine T_region_any ?_  | refine S_load tabOk 0 rfl rfl rfl ?_ | refine S_load tabOk 1 rfl rfl rfl ?_ | refine S_load tabOk 2 rfl rfl rfl ?_ | refine S_load tabOk 3 rfl rfl rfl ?_ | refine S_load tabOk 4 rfl rfl rfl ?_ | refine S_load tabOk 5 rfl rfl rfl ?_ | refine S_store tabOk 0 rfl rfl rfl rfl rfl rfl ?_ | refine S_store tabOk 1 rfl rfl rfl rfl rfl rfl ?_ | refine S_store tabOk 2 rfl rfl rfl rfl rfl rfl ?_ | refine S_store tabOk 3 rfl rfl rfl rfl rfl rfl ?_ | refine S_store tabOk 4 rfl rfl rfl rfl rfl rfl ?_ | refine S_store tabOk 5 rfl rfl rfl rfl rfl rfl ?_ | refine S_q (Q_build tabOk rfl rfl rfl rfl rfl rfl rfl) ?_ | refine D_q (Q_build tabOk rfl rfl rfl rfl rfl rfl rfl) ?_)
  exact ret1 rfl rfl (fun w' hw => ⟨rfl, hw.below new_nil⟩)
set_option maxHeartbeats 2000000 in
theorem compactR_ok {w0 w : World} {base c n : Nat} {a : Option Addr} {l : List Int} {rest : OL} (h : Hp w0 w (.row base (.slice a n c) 25 1 n (l.map (.int .u64)) :: rest)) (hl : l.length = n) (hm : n ≤ 65535) :
    Calls Try.prog 8 #[.slice a n c] w fun e w' => ∃ m, e = .returned (.slice a m c) ∧ m ≤ n ∧ (ddL l).length = m ∧ Hp w0 w' (.row base (.slice a m c) 25 1 m ((ddL l).map (.int .u64)) :: rest) := by
  rcases Nat.lt_or_ge n 2 with h0 | h0
  · have hd : ddL l = l := by
      cases l with
      | nil => rfl
      | cons x l =>
        cases l with
        | nil => rfl
        | cons y l => simp at hl; omega
    refine (compact_small a n c h0 w).mono fun e w' ⟨e1, hb⟩ => ⟨n, e1, Nat.le_refl _, by rw [hd]; exact hl, by rw [hd]; exact h.ext hb⟩
  obtain ⟨g, junk, rfl, hb, hnc, hxl, hjl, hcm, h2⟩ := h.openRow (pre := []) (by omega)
  have hdd : ddL l = ddA l.toArray (n - 1) := by
    unfold ddL
    rw [if_neg (fun e => by subst e; simp at hl; omega), hl]
  refine (compact_ok (d0 := l.toArray) (junk := junk) (n := n) (c := c) h2 (by simpa using hl) hm h0 hnc).mono fun e w' ⟨m, d, e1, hmn, hd, ht, hlm, h3⟩ => ?_
  rw [← hdd] at ht hlm
  refine ⟨m, e1, hmn, hlm, ?_⟩
  have h4 := Hp.closeRow (pre := []) (post := rest) (n := m) (c := c) (sz := 1) h3 hb (by omega) hcm (by rw [uA_len]; simp at hjl; omega)
  have e4 : List.take (m * 1) (uA d junk) = (ddL l).map (Value.int .u64) := by rw [Nat.mul_one, List.take_append_of_le_length (by simp [hd]; omega), ← List.map_take, ht]
  rw [e4] at h4
  exact h4
end Go.Proofs.Ytbkljccjbakpmaa
