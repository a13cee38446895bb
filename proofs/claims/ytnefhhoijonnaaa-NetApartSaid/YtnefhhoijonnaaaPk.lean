/-
  Numbers as bytes: the mathematics; the contracts of both Num and both Bytes. Conditions: each theorem's own. Bytes of both; what is read: In's small methods; the mathematics of reading. Conditions: each theorem's own. What is read of bytes: the mathematics; In's methods. Conditions: each theorem's own. In's Num. Conditions: each theorem's own. An In in the caller's hands; awake; the walk of PackNumbers. Conditions: each theorem's own. The walk of PackNumbers. Conditions: each theorem's own. In's Bytes. Conditions: each theorem's own. The walk of PackBytes. Conditions: each theorem's own. The walk of PackCanons. Conditions: each theorem's own. The document's reading of a number. Conditions: each theorem's own. The contract of the document's Read. Conditions: each theorem's own. Contracts of Byte and End of both, of the document's Fail and Number. Conditions: each theorem's own. Contracts 
  Conditions: each theorem's own.
-/
import Derived.Test.YtnefhhoijonnaaaMk
namespace Go.Proofs.Ytnefhhoijonnaaa
open Go Go.RowKit
set_option linter.unusedVariables false


def enc (n : Nat) : List Int := if n < 128 then [(n : Int)] else ((n % 128 + 128 : Nat) : Int) :: enc (n / 128)
termination_by n
decreasing_by omega
theorem enc_small {n : Nat} (h : n < 128) : enc n = [(n : Int)] := by rw [enc, if_pos h]
theorem enc_big {n : Nat} (h : ¬ n < 128) : enc n = ((n % 128 + 128 : Nat) : Int) :: enc (n / 128) := by rw [enc, if_neg h]
theorem enc_fits : ∀ n : Nat, ∀ z ∈ enc n, Fits .u8 z := by
  intro n
  induction n using Nat.strongRecOn with
  | ind n ih =>
    intro z hz
    by_cases h : n < 128
    · rw [enc_small h, List.mem_singleton] at hz
      subst hz
      exact fits8 (by omega)
    · rw [enc_big h] at hz
      rcases List.mem_cons.1 hz with rfl | hz
      · exact fits8 (by omega)
      · exact ih _ (by omega) z hz
theorem enc_pos (n : Nat) : 0 < (enc n).length := by
  by_cases h : n < 128
  · rw [enc_small h]; exact Nat.one_pos
  · rw [enc_big h]; exact Nat.succ_pos _
theorem enc_len : ∀ (k n : Nat), n < 128 ^ (k + 1) → (enc n).length ≤ k + 1
  | 0, n, h => by rw [enc_small (by simpa using h)]; exact Nat.le_refl _
  | k + 1, n, h => by
    by_cases h1 : n < 128
    · rw [enc_small h1]; simp
    · rw [enc_big h1, List.length_cons]
      have : n / 128 < 128 ^ (k + 1) := by rw [Nat.pow_succ] at h; omega
      have := enc_len k (n / 128) this
      omega
theorem enc_len10 {n : Nat} (h : n < 18446744073709551616) : (enc n).length ≤ 10 := enc_len 9 n (Nat.lt_of_lt_of_le h (by decide))
theorem or8 (m : Nat) : bits .or .u8 ((m % 256 : Nat) : Int) 128 = ((m % 128 + 128 : Nat) : Int) := by
  have e : bits .or .u8 ((m % 256 : Nat) : Int) 128 = IntKind.u8.wrap ((BitVec.ofInt 8 ((m % 256 : Nat) : Int) ||| 128#8).toNat : Int) := rfl
  have key : ((List.range 256).all fun i => Nat.beq (BitVec.ofNat 8 i ||| 128#8).toNat (i % 128 + 128)) = true := by kernel_rfl
  have h := Nat.eq_of_beq_eq_true (List.all_eq_true.1 key (m % 256) (List.mem_range.2 (Nat.mod_lt _ (by decide))))
  rw [e, BitVec.ofInt_natCast, h, wrap8]
  omega
theorem own_len {zs : List Int} {a : Option Addr} {c : Nat} {w w' : World} {m : Nat} (h : w'.ownsRow w.heap.size 5 1 (.slice a zs.length c) zs.length (zs.map (.int .u8))) (hm : zs.length = m) : w'.ownsRow w.heap.size 5 1 (.slice a m c) m (zs.map (.int .u8)) := by
  subst hm
  exact h
theorem refnum_ok : ∀ (f N : Nat) (w : World), N < f → N < 18446744073709551616 →
    Calls Try.prog 104 #[.int .u64 (N : Int)] w fun e w' => ∃ a c, e = .returned (.slice a (enc N).length c) ∧ Below w.heap.size w w' ∧ w'.ownsRow w.heap.size 5 1 (.slice a (enc N).length c) (enc N).length ((enc N).map (.int .u8))
  | 0, N, w, h, _ => absurd h (by omega)
  | f + 1, N, w, h, hN => by
    refine enter1 Try.func104 rfl rfl (Hp.refl w) ?_
    repeat (first | refine T_seq ?_ | refine T_region ?_ | refine S_nil ?_ | refine S_pure tabOk rfl ?_)
    refine T_cond_dec rfl (fun h1 => ?_) (fun h1 => ?_)
    · have h1' : N < 128 := by omega
      repeat (first | refine T_seq ?_ | refine T_region ?_ | refine S_pure tabOk rfl ?_)
      refine S_re 6 rfl (congrArg (Value.int .u8) (IntWalk.u8_in _ (by omega))) ?_
      refine S_bslice tabOk rfl rfl rfl rfl rfl rfl rfl rfl rfl rfl rfl rfl (fun b hb => ?_)
      repeat (first | refine S_nil ?_ | refine pthen_ret ?_ | refine T_ret ?_ | refine S_pure tabOk rfl ?_)
      rw [enc_small h1']
      refine ret1 rfl rfl (fun w' hw' => ⟨some ⟨b, 0, none⟩, 1, rfl, hw'.below (new_cons hb new_nil), rfl, .inr ⟨b, 1, _, rfl, hb, hw'.own _ (getE_mem (i := 0) rfl), Nat.le_refl _, by simp only [maxLen]; omega, rfl, rfl⟩⟩)
    · have h1' : ¬ N < 128 := by omega
      repeat (first | refine T_seq ?_ | refine T_region ?_ | refine pthen_normal ?_ | refine T_skip ?_ | refine S_pure tabOk rfl ?_)
      refine S_q (Q_rem0 rfl rfl rfl (by decide) (by omega)) ?_
      refine S_u64 tabOk rfl (by omega) ?_
      refine S_pure_eq tabOk rfl (v' := .int .u8 ((N % 128 + 128 : Nat) : Int)) (congrArg (Value.int .u8) ((IntWalk.u8_in _ (by omega)).trans (by omega))) ?_
      refine S_bslice tabOk rfl rfl rfl rfl rfl rfl rfl rfl rfl rfl rfl rfl (fun b hb => ?_)
      repeat (first | refine S_pure tabOk rfl ?_)
      refine S_q ((Q_quo0 rfl rfl rfl (by decide) (by omega) (fun e h1 h2 => IntWalk.u64_in _ (by omega))).eq (v' := .int .u64 ((N / 128 : Nat) : Int)) (congrArg (Value.int .u64) (by omega))) ?_
      refine S_callrow rfl Try.call104 (fun w1 hw1 => refnum_ok f (N / 128) w1 (by omega) (by omega)) (fun a1 c1 hc1 hd1 => ?_)
      refine S_heap (ol' := [.row w.heap.size (.slice (some ⟨b, 0, none⟩) 1 1) 5 1 1 [.int .u8 ((N % 128 + 128 : Nat) : Int)], .row w.heap.size (.slice a1 (enc (N / 128)).length c1) 5 1 (enc (N / 128)).length ((enc (N / 128)).map (.int .u8))]) (fun w' h => ?_) ?_
      · exact (Hp.closeRow (pre := [.row w.heap.size (.slice a1 (enc (N / 128)).length c1) 5 1 (enc (N / 128)).length ((enc (N / 128)).map (.int .u8))]) (n := 1) (c := 1) h hb (by decide) (by simp only [maxLen]; omega) rfl).perm (List.Perm.swap _ _ _)
      have hle := enc_len10 (n := N / 128) (by omega)
      refine S_append (ty := 0) tabOk 0 rfl rfl rfl rfl rfl rfl rfl rfl rfl (by decide) (fun w' h => (h.ints 1 rfl (enc_fits _)).sl) (allOne_map _ (fun _ => rfl) _) (by simp only [maxLen]; omega) (by show (_ + _) * 1 ≤ _; omega) rfl (fun A' c' h1 h2 => ⟨_, rfl, ?_⟩)
      repeat (first | refine S_nil ?_ | refine T_ret ?_ | refine S_pure tabOk rfl ?_)
      have e1 : enc N = [((N % 128 + 128 : Nat) : Int)] ++ enc (N / 128) := by rw [enc_big h1']; rfl
      have e2 : (enc N).length = 1 + (enc (N / 128)).length := by rw [e1, List.length_append]; rfl
      rw [e2]
      rw [e1, List.map_append]
      exact ret1 rfl rfl (fun w' hw' => ⟨A', c', rfl, hw'.below (newrow hw' 0 rfl (Nat.le_refl _) (newrow hw' 1 rfl (Nat.le_refl _) new_nil)), hw'.own _ (getE_mem (i := 0) rfl)⟩)
theorem num_ok (a : Option Addr) (n c : Nat) (zs : List Int) (N : Nat) (w : World) (hw : Ints .u8 w a n c zs) (hn : zs.length ≤ 1073741824) (hN : N < 18446744073709551616) :
    Calls Try.prog 55 #[.slice a n c, .int .u64 (N : Int)] w fun e w' => ∃ a c, e = .returned (.slice a (zs ++ enc N).length c) ∧ Below w.heap.size w w' ∧ w'.ownsRow w.heap.size 5 1 (.slice a (zs ++ enc N).length c) (zs ++ enc N).length ((zs ++ enc N).map (.int .u8)) := by
  have hl := hw.len
  have hcap := hw.cap
  have h10 := enc_len10 hN
  refine enter2 Try.func55 rfl rfl (Hp.refl w) ?_
  repeat (first | refine T_seq ?_ | refine T_region ?_ | refine S_nil ?_ | refine S_pure tabOk rfl ?_)
  refine S_q (Q_slice3 tabOk rfl rfl rfl rfl rfl rfl rfl (H := n) (M := n) rfl rfl (Nat.le_refl _) hcap) ?_
  repeat (first | refine T_seq ?_ | refine T_block ?_ | refine S_nil ?_ | refine S_pure tabOk rfl ?_)
  refine T_loop (ι := Bool × List Int × Nat × Option Addr × Nat) (fun i => [(0, .slice i.2.2.2.1 (n + i.2.1.length) i.2.2.2.2), (1, .int .u64 (i.2.2.1 : Int))])
    (fun i => match i.1 with
      | true => []
      | false => [.row w.heap.size (.slice i.2.2.2.1 (n + i.2.1.length) i.2.2.2.2) 5 1 (n + i.2.1.length) ((zs ++ i.2.1).map (.int .u8))])
    (fun i => i.2.1 ++ enc i.2.2.1 = enc N ∧ i.2.2.1 ≤ N ∧ (i.1 = true → i.2.1 = [] ∧ i.2.2.2.1 = a ∧ i.2.2.2.2 = n)) (fun i => i.2.2.1) (true, [], N, a, n) ⟨rfl, Nat.le_refl _, fun _ => ⟨rfl, rfl, rfl⟩⟩ (by repeat (first | exact Sub.nil | refine Sub.cons rfl ?_)) (fun _ h => h) ?_
  rintro ⟨fr, out, m, a2, c2⟩ ⟨hi, hle, hfr⟩
  dsimp only at hi hle hfr ⊢
  have hol : out.length + (enc m).length = (enc N).length := by rw [← hi, List.length_append]
  repeat (first | refine T_seq ?_ | refine T_region ?_ | refine S_nil ?_ | refine S_pure tabOk rfl ?_)
  refine T_cond_dec rfl (fun h1 => ?_) (fun h1 => ?_)
  · have h1' : ¬ m < 128 := by omega
    have hm1 := enc_pos m
    repeat (first | refine T_seq ?_ | refine T_block ?_ | refine pthen_normal ?_ | refine T_skip ?_ | refine S_pure tabOk rfl ?_ | refine T_region_any ?_)
    refine S_re 17 rfl (congrArg (Value.int .u8) (wrap8 m)) ?_
    refine S_re 18 rfl (congrArg (Value.int .u8) ((congrArg (fun z => bits .or .u8 z 128) (wrap8 m)).trans (or8 m))) ?_
    refine S_bslice tabOk rfl rfl rfl rfl rfl rfl rfl rfl rfl rfl rfl rfl (fun b hb => ?_)
    have e1 : enc m = ((m % 128 + 128 : Nat) : Int) :: enc (m / 128) := enc_big h1'
    have hq : ∀ A' C', Sub [(0, .slice A' (n + (out ++ [((m % 128 + 128 : Nat) : Int)]).length) C'), (1, .int .u64 ((m / 128 : Nat) : Int))] [(1, .int .u64 ((m / 128 : Nat) : Int)), (0, .slice A' (n + out.length + 1) C')] := by
      intro A' C'
      rw [List.length_append, List.length_singleton, ← Nat.add_assoc]
      repeat (first | exact Sub.nil | refine Sub.cons rfl ?_)
    have hrow : (zs ++ (out ++ [((m % 128 + 128 : Nat) : Int)])).map (Value.int .u8) = (zs ++ out).map (Value.int .u8) ++ [.int .u8 ((m % 128 + 128 : Nat) : Int)] := by rw [← List.append_assoc, List.map_append]; rfl
    have hi' : (out ++ [((m % 128 + 128 : Nat) : Int)]) ++ enc (m / 128) = enc N := by rw [← hi, e1, List.append_assoc]; rfl
    cases fr with
    | true =>
      obtain ⟨rfl, rfl, rfl⟩ := hfr rfl
      refine S_appendF (sz := 1) tabOk (news := [.int .u8 ((m % 128 + 128 : Nat) : Int)]) (xs := zs.map (.int .u8)) rfl rfl rfl rfl rfl rfl rfl rfl (fun w' h => (hw.ext (h.below (new_cons hb new_nil))).sl) (fun w' h => Sl.of_blk (h.own _ (getE_mem (i := 0) rfl)) rfl fun j u hu => by rw [Nat.zero_add]; exact hu) (by simp only [maxLen]; omega) (by show (_ + _) * 1 ≤ _; omega) (fun e => (hw.nil e).1) (by decide) (fun A' c' h1 h2 => ?_)
      repeat (first | refine T_region ?_ | refine S_nil ?_ | refine pthen_normal ?_ | refine inb_normal ?_ | refine S_pure tabOk rfl ?_)
      refine S_q ((Q_shr rfl rfl rfl (by decide)).eq (v' := .int .u64 ((m / 128 : Nat) : Int)) (congrArg (Value.int .u64) (by simp))) ?_
      repeat (first | refine S_nil ?_ | refine S_pure tabOk rfl ?_)
      refine ⟨(false, [((m % 128 + 128 : Nat) : Int)], m / 128, A', c'), ⟨hi', by dsimp only; omega, fun h => by cases h⟩, ?_, ?_, by dsimp only; omega⟩
      · repeat (first | exact Sub.nil | refine Sub.cons rfl ?_)
      · intro w' h
        have h2 := (h.perm (List.Perm.swap _ _ _)).drop (fun _ k hk => by simp only [HE.has, Option.some.injEq] at hk; omega)
        simpa using h2
    | false =>
      refine S_append (ty := 0) tabOk 1 (news := [.int .u8 ((m % 128 + 128 : Nat) : Int)]) rfl rfl rfl rfl rfl rfl rfl rfl rfl (by decide) (fun w' h => Sl.of_blk (h.own _ (getE_mem (i := 0) rfl)) rfl fun j u hu => by rw [Nat.zero_add]; exact hu) (fun u hu => by rw [List.mem_singleton] at hu; subst hu; rfl) (by simp only [maxLen]; omega) (by show (_ + _) * 1 ≤ _; omega) rfl (fun A' c' h1 h2 => ⟨_, rfl, ?_⟩)
      repeat (first | refine T_region ?_ | refine S_nil ?_ | refine pthen_normal ?_ | refine inb_normal ?_ | refine S_pure tabOk rfl ?_)
      refine S_q ((Q_shr rfl rfl rfl (by decide)).eq (v' := .int .u64 ((m / 128 : Nat) : Int)) (congrArg (Value.int .u64) (by simp))) ?_
      repeat (first | refine S_nil ?_ | refine S_pure tabOk rfl ?_)
      refine ⟨(false, out ++ [((m % 128 + 128 : Nat) : Int)], m / 128, A', c'), ⟨hi', by dsimp only; omega, fun h => by cases h⟩, ?_, ?_, by dsimp only; omega⟩
      · refine Sub.trans (hq A' c') ?_
        repeat (first | exact Sub.nil | refine Sub.cons rfl ?_)
      · dsimp only
        rw [hrow, List.length_append, List.length_singleton, ← Nat.add_assoc]
        exact fun _ h => h.drop (fun _ k hk => by simp only [HE.has, Option.some.injEq] at hk; omega)
  · have h1' : m < 128 := by omega
    rw [enc_small h1'] at hi
    have hlen : (zs ++ enc N).length = n + out.length + 1 := by rw [← hi, List.length_append, List.length_append, hl]; rfl
    have hmap : (zs ++ enc N).map (Value.int .u8) = (zs ++ out).map (Value.int .u8) ++ [.int .u8 (m : Int)] := by rw [← hi, ← List.append_assoc, List.map_append]; rfl
    rw [hlen, hmap]
    repeat (first | refine T_seq ?_ | refine T_region ?_ | refine pthen_normal ?_ | refine inb_hit ?_ | refine pthen_exit ?_ | refine T_exit ?_ | refine S_pure tabOk rfl ?_)
    refine S_re 23 rfl (congrArg (Value.int .u8) (IntWalk.u8_in _ (by omega))) ?_
    refine S_bslice tabOk rfl rfl rfl rfl rfl rfl rfl rfl rfl rfl rfl rfl (fun b hb => ?_)
    cases fr with
    | true =>
      obtain ⟨rfl, rfl, rfl⟩ := hfr rfl
      refine S_appendF (sz := 1) tabOk (news := [.int .u8 (m : Int)]) (xs := zs.map (.int .u8)) rfl rfl rfl rfl rfl rfl rfl rfl (fun w' h => (hw.ext (h.below (new_cons hb new_nil))).sl) (fun w' h => Sl.of_blk (h.own _ (getE_mem (i := 0) rfl)) rfl fun j u hu => by rw [Nat.zero_add]; exact hu) (by simp only [maxLen]; omega) (by show (_ + _) * 1 ≤ _; omega) (fun e => (hw.nil e).1) (by decide) (fun A' c' h1 h2 => ?_)
      repeat (first | refine S_nil ?_ | refine T_ret ?_ | refine S_pure tabOk rfl ?_)
      rw [List.append_nil]
      exact ret1 rfl rfl (fun w' hw' => ⟨A', c', rfl, hw'.below (newrow hw' 0 rfl (Nat.le_refl _) (new_cons hb new_nil)), hw'.own _ (getE_mem (i := 0) rfl)⟩)
    | false =>
      refine S_append (ty := 0) tabOk 1 (news := [.int .u8 (m : Int)]) rfl rfl rfl rfl rfl rfl rfl rfl rfl (by decide) (fun w' h => Sl.of_blk (h.own _ (getE_mem (i := 0) rfl)) rfl fun j u hu => by rw [Nat.zero_add]; exact hu) (fun u hu => by rw [List.mem_singleton] at hu; subst hu; rfl) (by simp only [maxLen]; omega) (by show (_ + _) * 1 ≤ _; omega) rfl (fun A' c' h1 h2 => ⟨_, rfl, ?_⟩)
      repeat (first | refine S_nil ?_ | refine T_ret ?_ | refine S_pure tabOk rfl ?_)
      exact ret1 rfl rfl (fun w' hw' => ⟨A', c', rfl, hw'.below (new_cons hb (newrow hw' 1 rfl (Nat.le_refl _) new_nil)), hw'.own _ (getE_mem (i := 1) rfl)⟩)

theorem join2_ok (a a' : Option Addr) (n n' c c' : Nat) (zs ys : List Int) (b : Nat) (e : TypeId) (fz : Nat × Nat) (w : World) (hw : Ints .u8 w a n c zs) (hw' : Ints .u8 w a' n' c' ys) (hb : w.heap[b]? = some (.cells ⟨[.slice a n c, .slice a' n' c']⟩ e fz)) (hn : (zs ++ ys).length ≤ 2147483648) :
    Calls Try.prog 30 #[.slice (some ⟨b, 0, none⟩) 2 2] w fun e w' => ∃ a c, e = .returned (.slice a (zs ++ ys).length c) ∧ Below w.heap.size w w' ∧ w'.ownsRow w.heap.size 5 1 (.slice a (zs ++ ys).length c) (zs ++ ys).length ((zs ++ ys).map (.int .u8)) := by
  have hc : cat [⟨a, n, c, zs⟩, ⟨a', n', c', ys⟩] = zs ++ ys := by simp [cat]
  have := join_ok (some ⟨b, 0, none⟩) 2 2 [⟨a, n, c, zs⟩, ⟨a', n', c', ys⟩] w (by decide) (Sl.of_blk hb rfl fun j u hu => by rw [Nat.zero_add]; exact hu) (fun p hp => by
    simp only [List.mem_cons, List.not_mem_nil, or_false] at hp
    rcases hp with rfl | rfl
    · exact hw
    · exact hw') (by rw [hc]; exact hn)
  rw [hc] at this
  exact this
theorem app_fits {xs ys : List Int} (h1 : ∀ z ∈ xs, Fits .u8 z) (h2 : ∀ z ∈ ys, Fits .u8 z) : ∀ z ∈ xs ++ ys, Fits .u8 z := fun z hz => by
  rcases List.mem_append.1 hz with h | h
  · exact h1 z h
  · exact h2 z h
def encB (zs : List Int) : List Int := enc zs.length ++ zs
theorem encB_fits {zs : List Int} (h : ∀ z ∈ zs, Fits .u8 z) : ∀ z ∈ encB zs, Fits .u8 z := app_fits (enc_fits _) h
theorem refbytes_ok (a : Option Addr) (n c : Nat) (zs : List Int) (w : World) (hw : Ints .u8 w a n c zs) (hn : zs.length ≤ 1073741824) :
    Calls Try.prog 123 #[.slice a n c] w fun e w' => ∃ a c, e = .returned (.slice a (encB zs).length c) ∧ Below w.heap.size w w' ∧ w'.ownsRow w.heap.size 5 1 (.slice a (encB zs).length c) (encB zs).length ((encB zs).map (.int .u8)) := by
  have hl := hw.len
  have h10 := enc_len10 (n := zs.length) (by omega)
  refine enter1 Try.func123 rfl rfl (Hp.refl w) ?_
  repeat (first | refine T_seq ?_ | refine T_region ?_ | refine S_nil ?_ | refine S_pure tabOk rfl ?_)
  refine S_re 5 rfl (congrArg (Value.int .u64) ((IntWalk.u64_in _ (by omega)).trans (by rw [← hl]))) ?_
  refine S_callrow rfl Try.call104 (fun w1 hw1 => refnum_ok (zs.length + 1) zs.length w1 (by omega) (by omega)) (fun a1 c1 hc1 hd1 => ?_)
  repeat (first | refine S_pure tabOk rfl ?_)
  refine S_bslice tabOk rfl rfl rfl rfl rfl rfl rfl rfl rfl rfl rfl rfl (fun b hb => ?_)
  refine S_callrow rfl Try.call30 (fun w1 h1 => join2_ok a1 a (enc zs.length).length n c1 c (enc zs.length) zs b _ _ w1 (h1.ints 1 rfl (enc_fits _)) (hw.ext (h1.below (new_cons hb (newrow h1 1 rfl (Nat.le_refl _) new_nil)))) (h1.own _ (getE_mem (i := 0) rfl)) (by rw [List.length_append]; omega)) (fun a2 c2 hc2 hd2 => ?_)
  repeat (first | refine S_nil ?_ | refine T_ret ?_ | refine S_pure tabOk rfl ?_)
  exact ret1 rfl rfl (fun w' hw' => ⟨a2, c2, rfl, hw'.below (newrow hw' 0 rfl (Nat.le_refl _) (new_cons hb (newrow hw' 2 rfl (Nat.le_refl _) new_nil))), hw'.own _ (getE_mem (i := 0) rfl)⟩)
theorem pbytes_ok (a a' : Option Addr) (n c n' c' : Nat) (zs ys : List Int) (w : World) (hw : Ints .u8 w a n c zs) (hw' : Ints .u8 w a' n' c' ys) (hn : zs.length ≤ 536870912) (hn' : ys.length ≤ 536870912) :
    Calls Try.prog 124 #[.slice a n c, .slice a' n' c'] w fun e w' => ∃ a c, e = .returned (.slice a (zs ++ encB ys).length c) ∧ Below w.heap.size w w' ∧ w'.ownsRow w.heap.size 5 1 (.slice a (zs ++ encB ys).length c) (zs ++ encB ys).length ((zs ++ encB ys).map (.int .u8)) := by
  have hl := hw'.len
  have h10 := enc_len10 (n := ys.length) (by omega)
  have hla : (zs ++ enc ys.length).length = zs.length + (enc ys.length).length := List.length_append
  refine enter2 Try.func124 rfl rfl (Hp.refl w) ?_
  repeat (first | refine T_seq ?_ | refine T_region ?_ | refine S_nil ?_ | refine S_pure tabOk rfl ?_)
  refine S_re 8 rfl (congrArg (Value.int .u64) ((IntWalk.u64_in _ (by omega)).trans (by rw [← hl]))) ?_
  refine S_callrow rfl Try.call55 (fun w1 hw1 => num_ok a n c zs ys.length w1 (hw.ext (hw1.below new_nil)) (by omega) (by omega)) (fun a1 c1 hc1 hd1 => ?_)
  repeat (first | refine S_pure tabOk rfl ?_)
  refine S_append (ty := 0) tabOk 0 rfl rfl rfl rfl rfl rfl rfl rfl rfl (by decide) (fun w1 h => (hw'.ext (h.below (newrow h 0 rfl (Nat.le_refl _) new_nil))).sl) (allOne_map _ (fun _ => rfl) _) (by simp only [maxLen]; omega) (by show (_ + _) * 1 ≤ _; omega) rfl (fun A' C' h1 h2 => ⟨_, rfl, ?_⟩)
  repeat (first | refine S_nil ?_ | refine T_ret ?_ | refine S_pure tabOk rfl ?_)
  have e : zs ++ encB ys = (zs ++ enc ys.length) ++ ys := by unfold encB; rw [List.append_assoc]
  have e2 : (zs ++ encB ys).length = (zs ++ enc ys.length).length + n' := by rw [e, List.length_append, hl]
  rw [e2]
  rw [e, List.map_append (l₁ := zs ++ enc ys.length)]
  exact ret1 rfl rfl (fun w1 hw1 => ⟨A', C', rfl, hw1.below (newrow hw1 0 rfl (Nat.le_refl _) new_nil), hw1.own _ (getE_mem (i := 0) rfl)⟩)
/-! ### Calls that turn one block of the caller's -/
theorem Hp.graft {w0 w w' : World} {pre post : OL} {b : Nat} {x y : Obj} (h : Hp w0 w (pre ++ .blk b x true :: post)) (h2 : Hp w w' [.blk b y true]) : Hp w0 w' (pre ++ .blk b y true :: post) :=
  h.turn (x' := .blk b y true) rfl h2.os h2.tape h2.output h2.size (fun j hj hne => h2.old j hj (fun e he => by rw [List.mem_singleton] at he; subst he; exact fun _ => hne)) (h2.own _ List.mem_cons_self) (fun k hk => .inl hk) (fun k hk => .inr hk)
section
variable {P : Program} {n : Nat} {w0 : World} {all : Array Oper} {os : List Oper} {o : Oper} {l : FL} {ol : OL} {K : FL → OL → Prop} {Q : Post}
theorem S_callobj (i : Nat) {d b : Nat} {f : FuncId} {vs : List Value} {x : Obj} (hs : callAt? n all (look l) o = some (d, f, vs)) (hcall : ∀ args w, (callFunc f args).run P w = .ok (.enter f args) w) (hi : getE ol i = some (.blk b x true))
    (hc : ∀ w, Hp w0 w ol → Calls P f vs.toArray w (fun e w' => ∃ v y, e = .returned v ∧ Hp w w' [.blk b y true] ∧ ∃ ol', putE ol i (.blk b y true) = some ol' ∧ S P n w0 all os ((d, v) :: l) ol' K Q)) : S P n w0 all (o :: os) l ol K Q :=
  S_call hs hcall fun w hh => (hc w hh).mono fun e w' ⟨v, y, he, h2, ol', hput, k⟩ => ⟨v, ol', he, by
    obtain ⟨pre, post, e1, e2⟩ := putE_eq hi hput
    rw [e1] at hh
    rw [e2]
    exact hh.graft h2, k⟩
end

/-- the error, the number, how many bytes it has -/
def dec : Nat → List Int → Int × Nat × Nat
  | _, [] => (2, 0, 0)
  | i, z :: zs => if i = 9 ∧ 1 < z then (7, 0, 0) else if z = 0 ∧ 0 < i then (2, 0, 0) else if z < 128 then (0, z.toNat, 1) else
    match dec (i + 1) zs with
    | (e, v, u) => if e = 0 then (0, z.toNat % 128 + 128 * v, u + 1) else (e, 0, 0)
/-- .. behind some that are read already -/
def fin (acc k : Nat) (d : Int × Nat × Nat) : Int × Nat × Nat := if d.1 = 0 then (0, acc + 128 ^ k * d.2.1, k + d.2.2) else (d.1, 0, 0)
theorem dec_err : ∀ (zs : List Int) (i : Nat), (dec i zs).1 ≠ 0 → (dec i zs).2 = (0, 0)
  | [], i, h => rfl
  | z :: zs, i, h => by
    unfold dec at h ⊢
    split
    · rfl
    · split
      · rfl
      · split
        · rename_i h1 h2 h3
          simp [h1, h2, h3] at h
        · rename_i h1 h2 h3
          rw [if_neg h1, if_neg h2, if_neg h3] at h
          generalize dec (i + 1) zs = q at h ⊢
          obtain ⟨e, v, u⟩ := q
          dsimp only at h ⊢
          split
          · rename_i h4
            simp [h4] at h
          · rfl
theorem fin_zero (zs : List Int) : fin 0 0 (dec 0 zs) = dec 0 zs := by
  unfold fin
  split
  · rename_i h
    rw [Nat.zero_add, Nat.pow_zero, Nat.one_mul, Nat.zero_add, ← h]
  · rename_i h
    rw [← dec_err zs 0 h]
theorem fin_step {acc k : Nat} {z : Int} {zs : List Int} (h1 : ¬ (k = 9 ∧ 1 < z)) (h2 : ¬ (z = 0 ∧ 0 < k)) (h3 : ¬ z < 128) : fin acc k (dec k (z :: zs)) = fin (acc + 128 ^ k * (z.toNat % 128)) (k + 1) (dec (k + 1) zs) := by
  rw [dec, if_neg h1, if_neg h2, if_neg h3]
  generalize dec (k + 1) zs = q
  obtain ⟨e, v, u⟩ := q
  dsimp only
  unfold fin
  by_cases he : e = 0
  · simp only [he, if_true]
    congr 2
    · rw [Nat.mul_add, Nat.pow_succ, Nat.mul_assoc, Nat.add_assoc]
    · omega
  · simp only [he, if_false]
/-- What one writes one reads. -/
theorem dec_enc : ∀ (N i : Nat) (rest : List Int), i ≤ 9 → (i = 0 ∨ 0 < N) → N < 2 ^ (64 - 7 * i) → dec i (enc N ++ rest) = (0, N, (enc N).length) := by
  intro N
  induction N using Nat.strongRecOn with
  | ind N ih =>
    intro i rest hi h0 hN
    by_cases h : N < 128
    · rw [enc_small h, List.singleton_append, dec, if_neg, if_neg (by omega), if_pos (by omega)]
      · simp
      · rintro ⟨rfl, h1⟩
        have : (2 : Nat) ^ (64 - 7 * 9) = 2 := rfl
        omega
    · have hi9 : i ≠ 9 := by
        rintro rfl
        have : (2 : Nat) ^ (64 - 7 * 9) = 2 := rfl
        omega
      have e : (2 : Nat) ^ (64 - 7 * i) = 2 ^ (64 - 7 * (i + 1)) * 128 := by rw [show 64 - 7 * i = (64 - 7 * (i + 1)) + 7 from by omega, Nat.pow_add]
      rw [enc_big h, List.cons_append, dec, if_neg (by omega), if_neg (by omega), if_neg (by omega), ih (N / 128) (by omega) (i + 1) rest (by omega) (.inr (by omega)) (by omega)]
      simp only [if_true, List.length_cons]
      congr 2
      omega
/-! ### Slices that are what is left of another one -/
structure Suf (A : Option Addr) (N C k : Nat) (a : Option Addr) (n c : Nat) : Prop where
  kn : k + n = N
  cap : n ≤ c
  le : c ≤ C
  nil : a = none → n = 0 ∧ c = 0
  blk : 0 < n → ∃ b off, A = some ⟨b, off, none⟩ ∧ a = some ⟨b, off + k, none⟩
section
variable {w : World} {A a : Option Addr} {N C k n c : Nat} {zs : List Int}
theorem Suf.refl (h : Ints .u8 w A N C zs) : Suf A N C 0 A N C := ⟨Nat.zero_add _, h.cap, Nat.le_refl _, h.nil, fun hn => by
  obtain ⟨b, off, e, _⟩ := h.sl.get hn
  exact ⟨b, off, e, e⟩⟩
theorem Suf.ints (s : Suf A N C k a n c) (h : Ints .u8 w A N C zs) : Ints .u8 w a n c (zs.drop k) := by
  have hkn := s.kn
  have hl := h.len
  refine ⟨by rw [List.length_drop]; omega, s.cap, Nat.le_trans s.le h.max, s.nil, fun z hz => h.fits z (List.mem_of_mem_drop hz), ⟨by rw [List.length_map, List.length_drop]; omega, fun hn => ?_⟩⟩
  obtain ⟨b, off, e1, e2⟩ := s.blk hn
  obtain ⟨b', off', e3, hlt, hc⟩ := h.sl.get (by omega)
  rw [e1] at e3
  cases e3
  refine ⟨b, off + k, e2, hlt, fun j u hu => ?_⟩
  rw [Nat.add_assoc]
  exact hc (k + j) u (by rw [List.map_drop, List.getElem?_drop] at hu; exact hu)
theorem Suf.drop (s : Suf A N C k a n c) {j : Nat} (hj : j ≤ n) : Suf A N C (k + j) (if c = j then a else a.map (·.add (j * 1))) (n - j) (c - j) := by
  have h1 := s.kn
  have h2 := s.cap
  have h3 := s.le
  refine ⟨by omega, by omega, by omega, fun e => ?_, fun hn => ?_⟩
  · by_cases hc : c = j
    · omega
    · rw [if_neg hc] at e
      have := s.nil (by simpa using e)
      omega
  · obtain ⟨b, off, e1, e2⟩ := s.blk (by omega)
    refine ⟨b, off, e1, ?_⟩
    rw [if_neg (by omega), e2, Option.map_some, Addr.add_lit, Nat.mul_one, Nat.add_assoc]
theorem Ints.old {ki : IntKind} {w0 : World} {ol : OL} (h : Ints ki w0 a n c zs) (ha : ∀ b off, a = some ⟨b, off, none⟩ → b < w0.heap.size → Apart ol b) {w : World} (hw : Hp w0 w ol) : Ints ki w a n c zs := ⟨h.len, h.cap, h.max, h.nil, h.fits, h.sl.old' ha hw⟩
theorem Hp.below_ro {w w' : World} {b : Nat} {x : Obj} {r : Bool} (hb : w.heap[b]? = some x) (h : Hp w w' [.blk b x r]) : Below w.heap.size w w' := ⟨h.os, h.tape, h.output, h.size, fun j hj => by
  by_cases hjb : j = b
  · subst hjb
    rw [hb]
    exact h.own _ List.mem_cons_self
  · exact h.old j hj fun e he => by
      rw [List.mem_singleton] at he
      subst he
      intro _ hh
      exact hjb (Option.some.inj hh).symm⟩
end
/-- An In at a block. -/
abbrev inO (a : Option Addr) (n c : Nat) (e : Int) : Obj := .cells ⟨[.slice a n c, .int .i64 e]⟩ 147 (0, 0)
theorem of_ok (a : Option Addr) (n c : Nat) (zs : List Int) (w : World) (hw : Ints .u8 w a n c zs) (hn : zs.length ≤ 1073741824) :
    Calls Try.prog 60 #[.slice a n c] w fun e w' => ∃ b a c, e = .returned (.pointer (some ⟨b, 0, none⟩)) ∧ Hp w w' [.blk b (inO a zs.length c 0) true, .row w.heap.size (.slice a zs.length c) 5 1 zs.length (zs.map (.int .u8))] ∧ w.heap.size ≤ b := by
  refine enter1 Try.func60 rfl rfl (Hp.refl w) ?_
  repeat (first | refine T_seq ?_ | refine T_region ?_ | refine S_nil ?_ | refine S_pure tabOk rfl ?_)
  refine S_callrow rfl Try.call96 (fun w1 h1 => clone_ok a n c zs w1 (hw.ext (h1.below new_nil)) (by omega)) (fun a1 c1 hc1 hd1 => ?_)
  refine S_q (Q_build tabOk rfl rfl rfl rfl rfl rfl rfl) ?_
  refine S_new tabOk rfl (fun b hb => ?_)
  repeat (first | refine S_nil ?_ | refine T_ret ?_ | refine S_pure tabOk rfl ?_)
  exact ret1 rfl rfl (fun w' hw' => ⟨b, a1, c1, rfl, hw', hb⟩)
theorem err_ok (b : Nat) (a : Option Addr) (n c : Nat) (e : Int) (w : World) (hb : w.heap[b]? = some (inO a n c e)) :
    Calls Try.prog 97 #[.pointer (some ⟨b, 0, none⟩)] w fun en w' => en = .returned (.int .i64 e) ∧ Below w.heap.size w w' := by
  refine enter1 Try.func97 rfl rfl (Hp.start false hb) ?_
  repeat (first | refine T_seq ?_ | refine T_region ?_ | refine S_nil ?_ | refine S_pure tabOk rfl ?_)
  refine S_q (Q_eqptr tabOk rfl rfl rfl rfl rfl) ?_
  repeat (first | refine T_seq ?_ | refine T_region ?_ | refine S_nil ?_ | refine pthen_normal ?_ | refine T_skip ?_ | refine T_ret ?_ | refine T_cond_f rfl ?_ | refine S_pure tabOk rfl ?_ | refine S_load tabOk 0 rfl rfl rfl ?_)
  exact ret1 rfl rfl (fun w' hw' => ⟨rfl, hw'.below_ro hb⟩)
theorem left_ok (b : Nat) (a : Option Addr) (n c : Nat) (e : Int) (w : World) (hb : w.heap[b]? = some (inO a n c e)) :
    Calls Try.prog 99 #[.pointer (some ⟨b, 0, none⟩)] w fun en w' => en = .returned (.int .i64 (n : Int)) ∧ Below w.heap.size w w' := by
  refine enter1 Try.func99 rfl rfl (Hp.start false hb) ?_
  repeat (first | refine T_seq ?_ | refine T_region ?_ | refine S_nil ?_ | refine S_pure tabOk rfl ?_)
  refine S_q (Q_eqptr tabOk rfl rfl rfl rfl rfl) ?_
  repeat (first | refine T_seq ?_ | refine T_region ?_ | refine S_nil ?_ | refine pthen_normal ?_ | refine T_skip ?_ | refine T_ret ?_ | refine T_cond_f rfl ?_ | refine S_pure tabOk rfl ?_ | refine S_load tabOk 0 rfl rfl rfl ?_)
  exact ret1 rfl rfl (fun w' hw' => ⟨rfl, hw'.below_ro hb⟩)
theorem fail_ok (b : Nat) (a : Option Addr) (n c : Nat) (e x : Int) (w : World) (hb : w.heap[b]? = some (inO a n c e)) :
    Calls Try.prog 98 #[.pointer (some ⟨b, 0, none⟩), .int .i64 x] w fun en w' => en = .returned (.tuple #[]) ∧ Hp w w' [.blk b (inO a n c (if e = 0 then x else e)) true] := by
  refine enter2 Try.func98 rfl rfl (Hp.start true hb) ?_
  repeat (first | refine T_seq ?_ | refine T_region ?_ | refine S_pure tabOk rfl ?_)
  refine S_q (Q_neptr tabOk rfl rfl rfl rfl rfl) ?_
  repeat (first | refine S_nil ?_ | refine S_pure tabOk rfl ?_ | refine S_load tabOk 0 rfl rfl rfl ?_)
  refine T_cond_dec rfl (fun h => ?_) (fun h => ?_)
  · rw [if_pos h]
    repeat (first | refine S_nil ?_ | refine S_pure tabOk rfl ?_ | refine T_region_any ?_ | refine S_store tabOk 0 rfl rfl rfl rfl rfl rfl ?_)
    exact ret0n rfl (fun w' hw' => ⟨rfl, hw'⟩)
  · rw [if_neg h]
    repeat (first | refine T_skip ?_)
    exact ret0n rfl (fun w' hw' => ⟨rfl, hw'⟩)

theorem Ints.oldS {ki : IntKind} {w0 w : World} {ol : OL} {a : Option Addr} {n c : Nat} {zs : List Int} (h : Ints ki w0 a n c zs) (ha : 0 < n → ∀ b off, a = some ⟨b, off, none⟩ → Apart ol b) (hw : Hp w0 w ol) : Ints ki w a n c zs := by
  rcases Nat.eq_zero_or_pos n with h0 | h0
  · subst h0
    exact ⟨h.len, h.cap, h.max, h.nil, h.fits, ⟨by rw [List.length_map, h.len], fun hn => absurd hn (by omega)⟩⟩
  · exact h.old (fun b off e _ => ha h0 b off e) hw
/-- the error, the number, how many bytes -/
def rd (e : Int) (zs : List Int) : Int × Nat × Nat := if e = 0 then dec 0 zs else (e, 0, 0)
theorem andnot8 {z : Int} (h : 0 ≤ z ∧ z ≤ 255) : bits .andNot .u8 z 128 = ((z.toNat % 128 : Nat) : Int) := by
  have e : bits .andNot .u8 z 128 = IntKind.u8.wrap ((BitVec.ofInt 8 z &&& ~~~ 128#8).toNat : Int) := rfl
  have key : ((List.range 256).all fun i => Nat.beq (BitVec.ofNat 8 i &&& ~~~ 128#8).toNat (i % 128)) = true := by kernel_rfl
  have h2 := Nat.eq_of_beq_eq_true (List.all_eq_true.1 key z.toNat (List.mem_range.2 (by omega)))
  have e3 : BitVec.ofInt 8 z = BitVec.ofNat 8 z.toNat := by
    conv => lhs; rw [← Int.toNat_of_nonneg h.1]
    rw [BitVec.ofInt_natCast]
  rw [e, e3, h2, wrap8]
  omega
theorem or64 {x y j : Nat} (hx : x < 2 ^ j) (hs : 2 ^ j * y + x < 18446744073709551616) : bits .or .u64 (x : Int) ((2 ^ j * y : Nat) : Int) = ((x + 2 ^ j * y : Nat) : Int) := by
  have e : bits .or .u64 (x : Int) ((2 ^ j * y : Nat) : Int) = IntKind.u64.wrap ((BitVec.ofInt 64 (x : Int) ||| BitVec.ofInt 64 ((2 ^ j * y : Nat) : Int)).toNat : Int) := rfl
  have h1 : (BitVec.ofInt 64 (x : Int) ||| BitVec.ofInt 64 ((2 ^ j * y : Nat) : Int)).toNat = x + 2 ^ j * y := by
    rw [BitVec.ofInt_natCast, BitVec.ofInt_natCast, BitVec.toNat_or, BitVec.toNat_ofNat, BitVec.toNat_ofNat, Nat.mod_eq_of_lt (by omega), Nat.mod_eq_of_lt (by omega), Nat.or_comm, ← Nat.two_pow_add_eq_or_of_lt hx, Nat.add_comm]
  rw [e, h1, IntWalk.u64_in _ (by omega)]
theorem pow128 (i : Nat) : (128 : Nat) ^ i = 2 ^ (7 * i) := by rw [Nat.pow_mul]
theorem acc_bound {acc i v : Nat} (ha : acc < 128 ^ i) (hv : v < 128) : acc + 128 ^ i * v < 128 ^ (i + 1) := by
  have h1 : 128 ^ i * v ≤ 128 ^ i * 127 := Nat.mul_le_mul_left _ (by omega)
  rw [Nat.pow_succ]
  omega
theorem acc_64 {acc i v : Nat} (ha : acc < 128 ^ i) (hv : v < 128) (hi : i ≤ 9) (h9 : i = 9 → v ≤ 1) : 128 ^ i * v + acc < 18446744073709551616 := by
  by_cases h : i = 9
  · subst h
    have e : (128 : Nat) ^ 9 = 9223372036854775808 := rfl
    have := h9 rfl
    rw [e] at ha ⊢
    omega
  · have h1 := acc_bound ha hv
    have h2 : (128 : Nat) ^ (i + 1) ≤ 128 ^ 9 := Nat.pow_le_pow_right (by decide) (by omega)
    have e : (128 : Nat) ^ 9 = 9223372036854775808 := rfl
    omega
theorem shl64 {i v : Nat} (h : 128 ^ i * v < 18446744073709551616) : IntKind.u64.wrap ((v : Int) * 2 ^ ((7 : Int) * (i : Int)).toNat) = ((128 ^ i * v : Nat) : Int) := by
  have e : ((v : Int) * 2 ^ ((7 : Int) * (i : Int)).toNat) = ((128 ^ i * v : Nat) : Int) := by
    rw [show ((7 : Int) * (i : Int)).toNat = 7 * i from by omega, Int.natCast_mul, pow128, Int.natCast_pow, Int.mul_comm]
    rfl
  rw [e, IntWalk.u64_in _ (by omega)]
theorem innum_ok (b : Nat) (a : Option Addr) (n c : Nat) (A : Option Addr) (N C k : Nat) (all : List Int) (e : Int) (w : World) (hb : w.heap[b]? = some (inO a n c e)) (hs : Suf A N C k a n c) (hA : Ints .u8 w A N C all) (hap : ∀ b' off, A = some ⟨b', off, none⟩ → b' ≠ b) (hN : N ≤ 1073741824) :
    Calls Try.prog 63 #[.pointer (some ⟨b, 0, none⟩)] w fun en w' => ∃ a' n' c', en = .returned (.int .u64 ((rd e (all.drop k)).2.1 : Int)) ∧ Suf A N C (k + (rd e (all.drop k)).2.2) a' n' c' ∧ Hp w w' [.blk b (inO a' n' c' (rd e (all.drop k)).1) true] := by
  have hi0 := hs.ints hA
  have hkn := hs.kn
  generalize all.drop k = zs at hi0 ⊢
  have hl := hi0.len
  refine enter1 Try.func63 rfl rfl (Hp.start true hb) ?_
  repeat (first | refine T_seq ?_ | refine T_region ?_ | refine S_nil ?_ | refine S_pure tabOk rfl ?_)
  refine S_callq rfl Try.call97 (fun w1 h1 => err_ok b a n c e w1 (h1.own _ (getE_mem (i := 0) rfl))) ?_
  repeat (first | refine S_nil ?_ | refine S_pure tabOk rfl ?_)
  refine T_cond_dec rfl (fun h => ?_) (fun h => ?_)
  · have e1 : rd e zs = (e, 0, 0) := by unfold rd; rw [if_neg h]
    rw [e1]
    repeat (first | refine T_seq ?_ | refine T_region ?_ | refine S_nil ?_ | refine pthen_ret ?_ | refine T_ret ?_ | refine S_pure tabOk rfl ?_)
    exact ret1 rfl rfl (fun w' hw' => ⟨a, n, c, rfl, hs, hw'⟩)
  · obtain rfl : e = 0 := Classical.byContradiction h
    have e1 : rd 0 zs = dec 0 zs := rfl
    rw [e1]
    repeat (first | refine T_seq ?_ | refine T_region ?_ | refine T_block ?_ | refine S_nil ?_ | refine pthen_normal ?_ | refine T_skip ?_ | refine S_pure tabOk rfl ?_ | refine S_load tabOk 0 rfl rfl rfl ?_)
    have hin : ∀ w', Hp w w' [.blk b (inO a n c 0) true] → Ints .u8 w' a n c zs := fun w' hw' => hi0.oldS (fun hn b' off e => by
      obtain ⟨b2, off2, e2, e3⟩ := hs.blk hn
      rw [e] at e3
      cases e3
      exact Apart.cons (fun hh => hap _ _ e2 hh.symm) Apart.nil) hw'
    refine T_loop (ι := Nat × Nat) (fun i => [(0, .pointer (some ⟨b, 0, none⟩)), (3, .int .u64 (i.2 : Int)), (12, .slice a n c), (13, .int .i64 (n : Int)), (14, .int .i64 (i.1 : Int))]) (fun _ => [.blk b (inO a n c 0) true])
      (fun i => i.1 ≤ n ∧ i.1 ≤ 9 ∧ i.2 < 128 ^ i.1 ∧ fin i.2 i.1 (dec i.1 (zs.drop i.1)) = dec 0 zs) (fun i => n - i.1) (0, 0) ⟨Nat.zero_le _, by decide, Nat.one_pos, fin_zero zs⟩ (by repeat (first | exact Sub.nil | refine Sub.cons rfl ?_)) (fun _ h => h) ?_
    rintro ⟨i, acc⟩ ⟨hin1, hi9, hacc, hfin⟩
    dsimp only at hin1 hi9 hacc hfin ⊢
    repeat (first | refine T_seq ?_ | refine T_region ?_ | refine S_nil ?_ | refine S_pure tabOk rfl ?_)
    refine T_cond_dec rfl (fun hlt => ?_) (fun hlt => ?_)
    · have hik : i < n := by omega
      have hiz : i < zs.length := by omega
      obtain ⟨b1, o1, rfl, lt1, g1⟩ := hi0.sl.get (by omega)
      have hz := fits_u8 (hi0.fits (zs[i]'hiz) (List.getElem_mem _))
      have hd := List.drop_eq_getElem_cons hiz
      repeat (first | refine T_seq ?_ | refine T_region ?_ | refine T_block ?_ | refine pthen_normal ?_ | refine T_skip ?_ | refine S_pure tabOk rfl ?_)
      refine S_q (Q_idx1 tabOk rfl rfl rfl rfl rfl rfl rfl rfl (j := i) hik) ?_
      refine S_load1 tabOk rfl rfl (v := .int .u8 (zs[i]'hiz)) (fun w' hw' => Sl.at_ (hin w' hw').sl (by omega) (by rw [List.getElem?_map, List.getElem?_eq_getElem hiz]; rfl)) ?_
      rw [hd] at hfin
      generalize zs[i]'hiz = z at hfin hz ⊢
      repeat (first | refine T_seq ?_ | refine S_nil ?_ | refine S_pure tabOk rfl ?_)
      refine T_cut (ι := Unit) (fun _ => ¬ (i = 9 ∧ 1 < z) ∧ ¬ (z = 0 ∧ 0 < i)) (fun _ => [(0, .pointer (some ⟨b, 0, none⟩)), (3, .int .u64 (acc : Int)), (4, .int .i64 (i : Int)), (5, .int .u8 z), (12, .slice (some ⟨b1, o1, none⟩) n c), (13, .int .i64 (n : Int)), (14, .int .i64 (i : Int))]) (fun _ => [.blk b (inO (some ⟨b1, o1, none⟩) n c 0) true]) ?_ ?_
      · repeat (first | refine T_seq ?_ | refine T_region ?_ | refine T_block ?_ | refine S_pure tabOk rfl ?_)
        refine S_split rfl rfl (fun h9 => ?_) (fun h9 => ?_)
        · have h9' : i = 9 := by omega
          repeat (first | refine S_nil ?_ | refine S_pure tabOk rfl ?_)
          refine T_cond_dec rfl (fun h1 => ?_) (fun h1 => ?_)
          · have hd0 : dec i (z :: zs.drop (i + 1)) = (7, 0, 0) := by rw [dec, if_pos ⟨h9', h1⟩]
            rw [hd0] at hfin
            have hd1 : dec 0 zs = (7, 0, 0) := by rw [← hfin]; rfl
            rw [hd1]
            repeat (first | refine T_seq ?_ | refine T_region ?_ | refine S_pure tabOk rfl ?_)
            refine S_callobj 0 rfl Try.call98 rfl (fun w1 h1 => (fail_ok b (some ⟨b1, o1, none⟩) n c 0 7 w1 (h1.own _ (getE_mem (i := 0) rfl))).mono fun en w' ⟨h2, h3⟩ => ⟨_, _, h2, h3, _, rfl, ?_⟩)
            repeat (first | refine T_seq ?_ | refine T_region ?_ | refine S_nil ?_ | refine inb_ret ?_ | refine pthen_ret ?_ | refine T_ret ?_ | refine S_pure tabOk rfl ?_)
            exact ret1 rfl rfl (fun w' hw' => ⟨some ⟨b1, o1, none⟩, n, c, rfl, hs, hw'⟩)
          · have hn9 : ¬ (i = 9 ∧ 1 < z) := fun hc => h1 hc.2
            repeat (first | refine T_seq ?_ | refine T_region ?_ | refine S_pure tabOk rfl ?_)
            refine S_split rfl rfl (fun hz0 => ?_) (fun hz0 => ?_)
            · repeat (first | refine S_nil ?_ | refine S_pure tabOk rfl ?_)
              refine T_cond_dec rfl (fun h3 => ?_) (fun h3 => ?_)
              · have hc : z = 0 ∧ 0 < i := ⟨hz0, by omega⟩
                have hd0 : dec i (z :: zs.drop (i + 1)) = (2, 0, 0) := by rw [dec, if_neg hn9, if_pos hc]
                rw [hd0] at hfin
                have hd1 : dec 0 zs = (2, 0, 0) := by rw [← hfin]; rfl
                rw [hd1]
                repeat (first | refine T_seq ?_ | refine T_region ?_ | refine S_pure tabOk rfl ?_)
                refine S_callobj 0 rfl Try.call98 rfl (fun w1 h1 => (fail_ok b (some ⟨b1, o1, none⟩) n c 0 2 w1 (h1.own _ (getE_mem (i := 0) rfl))).mono fun en w' ⟨h2, h3⟩ => ⟨_, _, h2, h3, _, rfl, ?_⟩)
                repeat (first | refine T_seq ?_ | refine T_region ?_ | refine S_nil ?_ | refine inb_ret ?_ | refine pthen_ret ?_ | refine T_ret ?_ | refine S_pure tabOk rfl ?_)
                exact ret1 rfl rfl (fun w' hw' => ⟨some ⟨b1, o1, none⟩, n, c, rfl, hs, hw'⟩)
              · repeat (first | refine pthen_normal ?_ | refine inb_normal ?_ | refine T_skip ?_)
                exact ⟨(), ⟨hn9, fun hc => h3 (by omega)⟩, by repeat (first | exact Sub.nil | refine Sub.cons rfl ?_), fun _ h => h⟩
            · repeat (first | refine S_nil ?_ | refine S_pure tabOk rfl ?_ | refine S_pass rfl rfl rfl ?_)
              refine T_cond_f rfl ?_
              repeat (first | refine pthen_normal ?_ | refine inb_normal ?_ | refine T_skip ?_)
              exact ⟨(), ⟨hn9, fun hc => hz0 hc.1⟩, by repeat (first | exact Sub.nil | refine Sub.cons rfl ?_), fun _ h => h⟩
        · have hn9 : ¬ (i = 9 ∧ 1 < z) := fun hc => h9 (by omega)
          repeat (first | refine S_nil ?_ | refine S_pure tabOk rfl ?_ | refine S_pass rfl rfl rfl ?_)
          refine T_cond_f rfl ?_
          repeat (first | refine T_seq ?_ | refine T_region ?_ | refine S_pure tabOk rfl ?_)
          refine S_split rfl rfl (fun hz0 => ?_) (fun hz0 => ?_)
          · repeat (first | refine S_nil ?_ | refine S_pure tabOk rfl ?_)
            refine T_cond_dec rfl (fun h3 => ?_) (fun h3 => ?_)
            · have hc : z = 0 ∧ 0 < i := ⟨hz0, by omega⟩
              have hd0 : dec i (z :: zs.drop (i + 1)) = (2, 0, 0) := by rw [dec, if_neg hn9, if_pos hc]
              rw [hd0] at hfin
              have hd1 : dec 0 zs = (2, 0, 0) := by rw [← hfin]; rfl
              rw [hd1]
              repeat (first | refine T_seq ?_ | refine T_region ?_ | refine S_pure tabOk rfl ?_)
              refine S_callobj 0 rfl Try.call98 rfl (fun w1 h1 => (fail_ok b (some ⟨b1, o1, none⟩) n c 0 2 w1 (h1.own _ (getE_mem (i := 0) rfl))).mono fun en w' ⟨h2, h3⟩ => ⟨_, _, h2, h3, _, rfl, ?_⟩)
              repeat (first | refine T_seq ?_ | refine T_region ?_ | refine S_nil ?_ | refine inb_ret ?_ | refine pthen_ret ?_ | refine T_ret ?_ | refine S_pure tabOk rfl ?_)
              exact ret1 rfl rfl (fun w' hw' => ⟨some ⟨b1, o1, none⟩, n, c, rfl, hs, hw'⟩)
            · repeat (first | refine pthen_normal ?_ | refine inb_normal ?_ | refine T_skip ?_)
              exact ⟨(), ⟨hn9, fun hc => h3 (by omega)⟩, by repeat (first | exact Sub.nil | refine Sub.cons rfl ?_), fun _ h => h⟩
          · repeat (first | refine S_nil ?_ | refine S_pure tabOk rfl ?_ | refine S_pass rfl rfl rfl ?_)
            refine T_cond_f rfl ?_
            repeat (first | refine pthen_normal ?_ | refine inb_normal ?_ | refine T_skip ?_)
            exact ⟨(), ⟨hn9, fun hc => hz0 hc.1⟩, by repeat (first | exact Sub.nil | refine Sub.cons rfl ?_), fun _ h => h⟩
      · rintro - ⟨hc1, hc2⟩
        have hv : z.toNat % 128 < 128 := Nat.mod_lt _ (by decide)
        have hv9 : i = 9 → z.toNat % 128 ≤ 1 := fun h9 => by omega
        have h64 := acc_64 hacc hv hi9 hv9
        have hab := acc_bound hacc hv
        repeat (first | refine T_seq ?_ | refine T_region ?_ | refine S_i64 tabOk rfl (by omega) ?_ | refine S_pure tabOk rfl ?_)
        refine S_re 39 rfl (congrArg (Value.int .u8) (andnot8 hz)) ?_
        refine S_re 40 rfl (congrArg (Value.int .u64) ((congrArg IntKind.u64.wrap (andnot8 hz)).trans (IntWalk.u64_in _ (by omega)))) ?_
        refine S_q ((Q_shl rfl rfl rfl (by simp only [IntKind.bits]; omega)).eq (congrArg (Value.int .u64) (shl64 (i := i) (v := z.toNat % 128) (by omega)))) ?_
        refine S_pure_eq tabOk rfl (v' := .int .u64 ((acc + 128 ^ i * (z.toNat % 128) : Nat) : Int)) (congrArg (Value.int .u64) (by rw [pow128] at hacc h64 ⊢; exact or64 hacc h64)) ?_
        repeat (first | refine T_seq ?_ | refine T_region ?_ | refine S_nil ?_ | refine S_pure tabOk rfl ?_)
        refine T_cond_dec rfl (fun h128 => ?_) (fun h128 => ?_)
        · have hd0 : dec i (z :: zs.drop (i + 1)) = (0, z.toNat, 1) := by rw [dec, if_neg hc1, if_neg hc2, if_pos h128]
          rw [hd0] at hfin
          have hd1 : dec 0 zs = (0, acc + 128 ^ i * (z.toNat % 128), i + 1) := by
            rw [← hfin, show z.toNat % 128 = z.toNat from by omega]
            rfl
          rw [hd1]
          repeat (first | refine T_seq ?_ | refine T_region ?_ | refine S_i64 tabOk rfl (by omega) ?_ | refine S_pure tabOk rfl ?_ | refine S_load tabOk 0 rfl rfl rfl ?_)
          refine S_q (Q_sliceFrom (sz := 1) tabOk rfl rfl rfl rfl rfl rfl rfl (L := i + 1) (by omega) (by omega) hs.cap) ?_
          repeat (first | refine T_seq ?_ | refine T_region ?_ | refine S_nil ?_ | refine inb_ret ?_ | refine pthen_ret ?_ | refine T_ret ?_ | refine S_pure tabOk rfl ?_ | refine S_store tabOk 0 rfl rfl rfl rfl rfl rfl ?_)
          exact ret1 rfl rfl (fun w' hw' => ⟨_, _, _, rfl, hs.drop (j := i + 1) (by omega), hw'⟩)
        · have hs1 := fin_step (acc := acc) (zs := zs.drop (i + 1)) hc1 hc2 h128
          repeat (first | refine T_region ?_ | refine S_nil ?_ | refine pthen_normal ?_ | refine inb_normal ?_ | refine T_skip ?_ | refine S_i64 tabOk rfl (by omega) ?_ | refine S_pure tabOk rfl ?_)
          refine ⟨(i + 1, acc + 128 ^ i * (z.toNat % 128)), ⟨by dsimp only; omega, ?_, hab, ?_⟩, by repeat (first | exact Sub.nil | refine Sub.cons rfl ?_), fun _ h => h, by dsimp only; omega⟩
          · dsimp only
            rcases Nat.lt_or_ge i 9 with h9 | h9
            · omega
            · exact absurd ⟨by omega, by omega⟩ hc1
          · dsimp only
            rw [← hs1]
            exact hfin
    · have hii : i = n := by omega
      subst hii
      rw [List.drop_of_length_le (by omega)] at hfin
      have hd : dec 0 zs = (2, 0, 0) := by rw [← hfin]; rfl
      rw [hd]
      repeat (first | refine T_seq ?_ | refine T_region ?_ | refine pthen_normal ?_ | refine inb_hit ?_ | refine pthen_exit ?_ | refine T_exit ?_ | refine S_pure tabOk rfl ?_)
      refine S_callobj 0 rfl Try.call98 rfl (fun w1 h1 => (fail_ok b a i c 0 2 w1 (h1.own _ (getE_mem (i := 0) rfl))).mono fun en w' ⟨h2, h3⟩ => ⟨_, _, h2, h3, _, rfl, ?_⟩)
      repeat (first | refine T_seq ?_ | refine T_region ?_ | refine S_nil ?_ | refine T_ret ?_ | refine S_pure tabOk rfl ?_)
      exact ret1 rfl rfl (fun w' hw' => ⟨a, i, c, rfl, hs, hw'⟩)

theorem pw_mem {α : Type} {R : α → α → Prop} (hsym : ∀ x y, R x y → R y x) : ∀ {l : List α} {x y : α}, l.Pairwise R → x ∈ l → y ∈ l → x ≠ y → R x y
  | [], _, _, _, h, _, _ => by cases h
  | z :: l, x, y, hp, hx, hy, hne => by
    rw [List.pairwise_cons] at hp
    rcases List.mem_cons.1 hx with e1 | hx1
    · subst e1
      rcases List.mem_cons.1 hy with e2 | hy1
      · exact absurd e2.symm hne
      · exact hp.1 y hy1
    · rcases List.mem_cons.1 hy with e2 | hy1
      · subst e2
        exact hsym _ _ (hp.1 x hx1)
      · exact pw_mem hsym hp.2 hx1 hy1 hne
theorem Hp.append_new {w0 w w' : World} {ol new : OL} (h : Hp w0 w ol) (h2 : Hp w w' new) (hn : ∀ e ∈ new, e.ex = true → ∀ k, e.has k → w.heap.size ≤ k) (hxx : ∀ e ∈ new, e.ex = true) : Hp w0 w' (new ++ ol) := by
  have hb := h2.below hn
  have h3 := h.ext hb
  refine ⟨h3.os, h3.tape, h3.output, h3.size, fun k hk he => h3.old k hk fun e hm => he e (List.mem_append.2 (.inr hm)), fun e he => ?_, ?_⟩
  · rcases List.mem_append.1 he with he | he
    · exact h2.own e he
    · exact h3.own e he
  · rw [List.pairwise_append]
    exact ⟨h2.apart, h3.apart, fun x hx y hy _ k hk hk' => by
      have e1 := hn x hx (hxx x hx) k hk
      have e2 := h.lt hy hk'
      omega⟩
theorem Hp.reb {w0 w : World} {pre post : OL} {b b' : Nat} {v : Value} {e : TypeId} {sz m : Nat} {xs : List Value} (h : Hp w0 w (pre ++ .row b v e sz m xs :: post)) (hb : b' ≤ b) : Hp w0 w (pre ++ .row b' v e sz m xs :: post) :=
  h.turn (x' := .row b' v e sz m xs) rfl rfl rfl rfl (Nat.le_refl _) (fun _ _ _ => rfl) (own_rebase (h.own _ (List.mem_append.2 (.inr List.mem_cons_self))) hb) (fun k hk => .inl hk) (fun k hk => .inr hk)
/-- A block and a row are not in one another. -/
theorem Hp.dis {w0 w : World} {o : OL} (h : Hp w0 w o) (i j : Nat) {b base : Nat} {x : Obj} {e : TypeId} {sz m c : Nat} {A : Option Addr} {xs : List Value} (hi : getE o i = some (.blk b x true)) (hj : getE o j = some (.row base (.slice A m c) e sz m xs)) : ∀ b' off, A = some ⟨b', off, none⟩ → b' ≠ b := by
  rintro b' off rfl rfl
  have := pw_mem (fun _ _ => Dis.symm) h.apart (getE_mem hi) (getE_mem hj) (by intro hh; cases hh)
  exact this rfl b' rfl rfl
section
variable {P : Program} {n : Nat} {w0 : World} {all : Array Oper} {os : List Oper} {o : Oper} {l : FL} {ol : OL} {K : FL → OL → Prop} {Q : Post}
theorem S_callof {d m : Nat} {f : FuncId} {vs xs : List Value} (hs : callAt? n all (look l) o = some (d, f, vs)) (hcall : ∀ args w, (callFunc f args).run P w = .ok (.enter f args) w)
    (hc : ∀ w, Hp w0 w ol → Calls P f vs.toArray w (fun e w' => ∃ b a c, e = .returned (.pointer (some ⟨b, 0, none⟩)) ∧ Hp w w' [.blk b (inO a m c 0) true, .row w.heap.size (.slice a m c) 5 1 m xs] ∧ w.heap.size ≤ b))
    (k : ∀ b a c, w0.heap.size ≤ b → S P n w0 all os ((d, .pointer (some ⟨b, 0, none⟩)) :: l) (.blk b (inO a m c 0) true :: .row w0.heap.size (.slice a m c) 5 1 m xs :: ol) K Q) : S P n w0 all (o :: os) l ol K Q :=
  S_call hs hcall fun w hh => (hc w hh).mono fun e w' ⟨b, a, c, he, h2, hb⟩ => ⟨_, _, he, by
    have h3 := hh.append_new h2 (new_cons hb (newrow h2 1 rfl (Nat.le_refl _) new_nil)) (fun e he => by
      simp only [List.mem_cons, List.not_mem_nil, or_false] at he
      rcases he with rfl | rfl <;> rfl)
    exact Hp.reb (pre := [.blk b (inO a m c 0) true]) h3 hh.size, k b a c (Nat.le_trans hh.size hb)⟩
end
theorem nilInts {k : IntKind} (w : World) : Ints k w none 0 0 [] := ⟨rfl, Nat.le_refl _, Nat.zero_le _, fun _ => ⟨rfl, rfl⟩, fun z hz => (by cases hz), Sl.nil_⟩
theorem enc300 : enc 300 = [172, 2] := by
  rw [enc_big (by decide), enc_small (by decide)]
  rfl
theorem fits_lit2 {x y : Int} (hx : 0 ≤ x ∧ x ≤ 255) (hy : 0 ≤ y ∧ y ≤ 255) : ∀ z ∈ [x, y], Fits .u8 z := by
  intro z hz
  simp only [List.mem_cons, List.not_mem_nil, or_false] at hz
  rcases hz with rfl | rfl
  · exact fits8 hx
  · exact fits8 hy
theorem ints_lit {w : World} {b : Nat} {e : TypeId} {fz : Nat × Nat} {n : Nat} {zs : List Int} (hb : w.heap[b]? = some (.cells ⟨zs.map (.int .u8)⟩ e fz)) (hl : zs.length = n) (hf : ∀ z ∈ zs, Fits .u8 z) (hn : n ≤ maxLen) : Ints .u8 w (some ⟨b, 0, none⟩) n n zs :=
  ⟨hl, Nat.le_refl _, hn, fun e => (by cases e), hf, Sl.of_blk hb (by rw [List.length_map, hl, Nat.mul_one]) fun j u hu => by rw [Nat.zero_add]; exact hu⟩

/-- A row that is not empty has an address. -/
theorem S_rowaddr {P : Program} {n : Nat} {w0 : World} {all : Array Oper} {os : List Oper} {l : FL} {ol : OL} {K : FL → OL → Prop} {Q : Post} (i : Nat) {a : Option Addr} {m c base sz : Nat} {e : TypeId} {xs : List Value} (hi : getE ol i = some (.row base (.slice a m c) e sz m xs)) (hm : 0 < m)
    (k : ∀ b, a = some ⟨b, 0, none⟩ → S P n w0 all os l ol K Q) : S P n w0 all os l ol K Q :=
  ⟨fun ac w hf hh => by
    obtain ⟨_, h2⟩ : w.ownsRow base e sz (.slice a m c) m xs := hh.own _ (getE_mem hi)
    rcases h2 with ⟨h2, h3⟩ | ⟨g, cap, cur, h2, _⟩
    · omega
    · cases h2
      exact (k g rfl).out ac w hf hh⟩

/-- the error, the bytes, how many were read -/
def rdB (e : Int) (zs : List Int) (most : Int) : Int × List Int × Nat :=
  if e ≠ 0 then (e, [], 0) else
    if (dec 0 zs).1 ≠ 0 then ((dec 0 zs).1, [], 0)
    else if most < 0 ∨ most < ((dec 0 zs).2.1 : Int) then (6, [], 0)
    else if zs.length < (dec 0 zs).2.2 + (dec 0 zs).2.1 then (2, [], 0)
    else (0, (zs.drop (dec 0 zs).2.2).take (dec 0 zs).2.1, (dec 0 zs).2.2 + (dec 0 zs).2.1)
theorem dec_lt0 : ∀ (zs : List Int) (i : Nat), i ≤ 9 → (∀ z ∈ zs, Fits .u8 z) → (dec i zs).2.1 < 2 ^ (64 - 7 * i)
  | [], i, _, _ => by show 0 < _; exact Nat.pow_pos (by decide)
  | z :: zs, i, hi, hf => by
    have hz := fits_u8 (hf z List.mem_cons_self)
    unfold dec
    split
    · exact Nat.pow_pos (by decide)
    · rename_i h1
      split
      · exact Nat.pow_pos (by decide)
      · have h7 : i ≤ 8 → (2 : Nat) ^ (64 - 7 * i) = 2 ^ (64 - 7 * (i + 1)) * 128 := fun h => by rw [show 64 - 7 * i = (64 - 7 * (i + 1)) + 7 from by omega, Nat.pow_add]
        have hp : 0 < (2 : Nat) ^ (64 - 7 * (i + 1)) := Nat.pow_pos (by decide)
        split
        · show z.toNat < _
          rcases Nat.lt_or_ge i 9 with h9 | h9
          · rw [h7 (by omega)]
            omega
          · obtain rfl : i = 9 := by omega
            show z.toNat < 2
            omega
        · rcases Nat.lt_or_ge i 9 with h9 | h9
          · have ih := dec_lt0 zs (i + 1) (by omega) (fun y hy => hf y (List.mem_cons_of_mem _ hy))
            generalize dec (i + 1) zs = q at ih ⊢
            obtain ⟨e, v, u⟩ := q
            dsimp only at ih ⊢
            rw [h7 (by omega)]
            split
            · show z.toNat % 128 + 128 * v < _
              omega
            · show 0 < _
              omega
          · omega
theorem inbytes_ok (b : Nat) (a : Option Addr) (n c : Nat) (A : Option Addr) (N C k : Nat) (all : List Int) (e most : Int) (w : World) (hb : w.heap[b]? = some (inO a n c e)) (hs : Suf A N C k a n c) (hA : Ints .u8 w A N C all) (hap : ∀ b' off, A = some ⟨b', off, none⟩ → b' ≠ b) (hN : N ≤ 1073741824) (hm : -9223372036854775808 ≤ most ∧ most ≤ 9223372036854775807) :
    Calls Try.prog 125 #[.pointer (some ⟨b, 0, none⟩), .int .i64 most] w fun en w' => ∃ a' n' c' ra rc, en = .returned (.slice ra (rdB e (all.drop k) most).2.1.length rc) ∧ Suf A N C (k + (rdB e (all.drop k) most).2.2) a' n' c' ∧
      Hp w w' [.row w.heap.size (.slice ra (rdB e (all.drop k) most).2.1.length rc) 5 1 (rdB e (all.drop k) most).2.1.length ((rdB e (all.drop k) most).2.1.map (.int .u8)), .blk b (inO a' n' c' (rdB e (all.drop k) most).1) true] := by
  have hkn := hs.kn
  have hal := hA.len
  have hzf : ∀ z ∈ all.drop k, Fits .u8 z := fun z hz => hA.fits z (List.mem_of_mem_drop hz)
  have hzl : (all.drop k).length = n := by rw [List.length_drop]; omega
  have hold : ∀ (a1 : Option Addr) (n1 c1 k1 : Nat) (x : Obj), Suf A N C k1 a1 n1 c1 → ∀ w', Hp w w' [.blk b x true] → Ints .u8 w' a1 n1 c1 (all.drop k1) := fun a1 n1 c1 k1 x hs1 w' hw' => (hs1.ints hA).oldS (fun hn b' off e => by
    obtain ⟨b2, off2, e2, e3⟩ := hs1.blk hn
    rw [e] at e3
    cases e3
    exact Apart.cons (fun hh => hap _ _ e2 hh.symm) Apart.nil) hw'
  have hdd : ∀ j, (all.drop k).drop j = all.drop (k + j) := fun j => by rw [List.drop_drop]
  generalize hzs : all.drop k = zs at hzf hzl hdd ⊢
  refine enter2 Try.func125 rfl rfl (Hp.start true hb) ?_
  repeat (first | refine T_seq ?_ | refine T_region ?_ | refine S_nil ?_ | refine S_pure tabOk rfl ?_)
  refine S_callq rfl Try.call97 (fun w1 h1 => err_ok b a n c e w1 (h1.own _ (getE_mem (i := 0) rfl))) ?_
  repeat (first | refine S_nil ?_ | refine S_pure tabOk rfl ?_)
  refine T_cond_dec rfl (fun h => ?_) (fun h => ?_)
  · have hr : rdB e zs most = (e, [], 0) := by unfold rdB; rw [if_pos h]
    rw [hr]
    repeat (first | refine T_seq ?_ | refine T_region ?_ | refine S_nil ?_ | refine pthen_ret ?_ | refine T_ret ?_ | refine S_pure tabOk rfl ?_)
    exact ret1 rfl rfl (fun w' hw' => ⟨a, n, c, none, 0, rfl, hs, hw'.nilRow _ _⟩)
  · obtain rfl : e = 0 := Classical.byContradiction h
    repeat (first | refine T_seq ?_ | refine T_region ?_ | refine S_nil ?_ | refine pthen_normal ?_ | refine T_skip ?_ | refine S_pure tabOk rfl ?_ | refine S_load tabOk 0 rfl rfl rfl ?_)
    have hAw : ∀ x w', Hp w w' [.blk b x true] → Ints .u8 w' A N C all := fun x w' hw' => hA.oldS (fun hn b' off e => Apart.cons (fun hh => hap _ _ e hh.symm) Apart.nil) hw'
    have hnum := fun w1 (h1 : Hp w w1 [.blk b (inO a n c 0) true]) => innum_ok b a n c A N C k all 0 w1 (h1.own _ (getE_mem (i := 0) rfl)) hs (hAw _ w1 h1) hap hN
    rw [hzs] at hnum
    have hrd : rd 0 zs = dec 0 zs := rfl
    rw [hrd] at hnum
    refine S_callobj 0 rfl Try.call63 rfl (fun w1 h1 => (hnum w1 h1).mono fun en w' ⟨a1, n1, c1, h2, h3, h4⟩ => ⟨_, _, h2, h4, _, rfl, ?_⟩)
    have herr := dec_err zs 0
    have hkn1 := h3.kn
    obtain ⟨⟨e1, v, u⟩, hdec⟩ : ∃ q, dec 0 zs = q := ⟨_, rfl⟩
    rw [hdec] at h3 hkn1 herr ⊢
    dsimp only at h3 hkn1 herr ⊢
    have hv64 : v < 18446744073709551616 := by have := dec_lt0 zs 0 (by decide) hzf; rw [hdec] at this; exact this
    repeat (first | refine T_seq ?_ | refine T_region ?_ | refine T_block ?_ | refine S_nil ?_ | refine S_pure tabOk rfl ?_ | refine S_load tabOk 0 rfl rfl rfl ?_)
    refine T_cond_dec rfl (fun he => ?_) (fun he => ?_)
    · have hr : rdB 0 zs most = (e1, [], 0) := by unfold rdB; rw [if_neg (by decide), hdec]; dsimp only; rw [if_pos he]
      rw [hr]
      repeat (first | refine T_seq ?_ | refine T_region ?_ | refine S_nil ?_ | refine pthen_normal ?_ | refine inb_normal ?_ | refine T_skip ?_ | refine S_pure tabOk rfl ?_ | refine S_load tabOk 0 rfl rfl rfl ?_)
      refine T_cond_dt rfl he ?_
      repeat (first | refine T_seq ?_ | refine T_region ?_ | refine S_nil ?_ | refine pthen_ret ?_ | refine T_ret ?_ | refine S_pure tabOk rfl ?_ | refine S_store tabOk 0 rfl rfl rfl rfl rfl rfl ?_)
      exact ret1 rfl rfl (fun w' hw' => ⟨a, n, c, none, 0, rfl, hs, hw'.nilRow _ _⟩)
    · obtain rfl : e1 = 0 := Classical.byContradiction he
      repeat (first | refine T_seq ?_ | refine T_region ?_ | refine S_pure tabOk rfl ?_)
      refine S_split rfl rfl (fun hm0 => ?_) (fun hm0 => ?_)
      · repeat (first | refine S_nil ?_ | refine S_pure tabOk rfl ?_ | refine S_pass rfl rfl rfl ?_)
        refine T_cond_t rfl ?_
        have hr : rdB 0 zs most = (6, [], 0) := by unfold rdB; rw [if_neg (by decide), hdec]; dsimp only; rw [if_neg (by decide), if_pos (.inl hm0)]
        rw [hr]
        repeat (first | refine S_pure tabOk rfl ?_ | refine T_region_any ?_)
        refine S_callobj 0 rfl Try.call98 rfl (fun w1 h1 => (fail_ok b a1 n1 c1 0 6 w1 (h1.own _ (getE_mem (i := 0) rfl))).mono fun en w' ⟨h2, h3⟩ => ⟨_, _, h2, h3, _, rfl, ?_⟩)
        repeat (first | refine T_seq ?_ | refine T_region ?_ | refine S_nil ?_ | refine pthen_normal ?_ | refine inb_normal ?_ | refine S_pure tabOk rfl ?_ | refine S_load tabOk 0 rfl rfl rfl ?_)
        refine T_cond_t rfl ?_
        repeat (first | refine T_seq ?_ | refine T_region ?_ | refine S_nil ?_ | refine pthen_ret ?_ | refine T_ret ?_ | refine S_pure tabOk rfl ?_ | refine S_store tabOk 0 rfl rfl rfl rfl rfl rfl ?_)
        exact ret1 rfl rfl (fun w' hw' => ⟨a, n, c, none, 0, rfl, hs, hw'.nilRow _ _⟩)
      · have hmw : IntKind.u64.wrap most = most := IntWalk.u64_in _ (by omega)
        repeat (first | refine S_nil ?_ | refine S_pure tabOk rfl ?_)
        refine T_re (d := 23) (v' := .bool (decide (most < (v : Int)))) rfl (by rw [hmw]) ?_
        refine T_cond_dec rfl (fun hgt => ?_) (fun hgt => ?_)
        · have hr : rdB 0 zs most = (6, [], 0) := by unfold rdB; rw [if_neg (by decide), hdec]; dsimp only; rw [if_neg (by decide), if_pos (.inr hgt)]
          rw [hr]
          repeat (first | refine S_pure tabOk rfl ?_ | refine T_region_any ?_)
          refine S_callobj 0 rfl Try.call98 rfl (fun w1 h1 => (fail_ok b a1 n1 c1 0 6 w1 (h1.own _ (getE_mem (i := 0) rfl))).mono fun en w' ⟨h2, h3⟩ => ⟨_, _, h2, h3, _, rfl, ?_⟩)
          repeat (first | refine T_seq ?_ | refine T_region ?_ | refine S_nil ?_ | refine pthen_normal ?_ | refine inb_normal ?_ | refine S_pure tabOk rfl ?_ | refine S_load tabOk 0 rfl rfl rfl ?_)
          refine T_cond_t rfl ?_
          repeat (first | refine T_seq ?_ | refine T_region ?_ | refine S_nil ?_ | refine pthen_ret ?_ | refine T_ret ?_ | refine S_pure tabOk rfl ?_ | refine S_store tabOk 0 rfl rfl rfl rfl rfl rfl ?_)
          exact ret1 rfl rfl (fun w' hw' => ⟨a, n, c, none, 0, rfl, hs, hw'.nilRow _ _⟩)
        · repeat (first | refine T_seq ?_ | refine T_region ?_ | refine S_nil ?_ | refine S_pure tabOk rfl ?_ | refine S_load tabOk 0 rfl rfl rfl ?_)
          refine T_re (d := 34) (v' := .bool (decide ((n1 : Int) < (v : Int)))) rfl (by rw [IntWalk.u64_in (n1 : Int) (by omega)]) ?_
          refine T_cond_dec rfl (fun hlt => ?_) (fun hlt => ?_)
          · have hr : rdB 0 zs most = (2, [], 0) := by unfold rdB; rw [if_neg (by decide), hdec]; dsimp only; rw [if_neg (by decide), if_neg (by omega), if_pos (by omega)]
            rw [hr]
            repeat (first | refine S_pure tabOk rfl ?_ | refine T_region_any ?_)
            refine S_callobj 0 rfl Try.call98 rfl (fun w1 h1 => (fail_ok b a1 n1 c1 0 2 w1 (h1.own _ (getE_mem (i := 0) rfl))).mono fun en w' ⟨h2, h3⟩ => ⟨_, _, h2, h3, _, rfl, ?_⟩)
            repeat (first | refine T_seq ?_ | refine T_region ?_ | refine S_nil ?_ | refine pthen_normal ?_ | refine inb_normal ?_ | refine S_pure tabOk rfl ?_ | refine S_load tabOk 0 rfl rfl rfl ?_)
            refine T_cond_t rfl ?_
            repeat (first | refine T_seq ?_ | refine T_region ?_ | refine S_nil ?_ | refine pthen_ret ?_ | refine T_ret ?_ | refine S_pure tabOk rfl ?_ | refine S_store tabOk 0 rfl rfl rfl rfl rfl rfl ?_)
            exact ret1 rfl rfl (fun w' hw' => ⟨a, n, c, none, 0, rfl, hs, hw'.nilRow _ _⟩)
          · have hr : rdB 0 zs most = (0, (zs.drop u).take v, u + v) := by
              unfold rdB
              rw [if_neg (by decide), hdec]
              dsimp only
              rw [if_neg (by decide), if_neg (by omega), if_neg (by omega)]
            rw [hr]
            dsimp only
            have hvn : v ≤ n1 := by omega
            have hcap1 := h3.cap
            have hrl : ((zs.drop u).take v).length = v := by rw [List.length_take, List.length_drop]; omega
            have hq : ∀ w', Hp w w' [.blk b (inO a1 n1 c1 0) true] → Ints .u8 w' a1 v c1 ((zs.drop u).take v) := fun w' hw' => by
              have := (hold a1 n1 c1 (k + u) _ h3 w' hw').take hvn
              rw [← hdd] at this
              exact this
            repeat (first | refine T_seq ?_ | refine T_region ?_ | refine S_nil ?_ | refine pthen_normal ?_ | refine inb_normal ?_ | refine T_skip ?_ | refine S_pure tabOk rfl ?_ | refine S_load tabOk 0 rfl rfl rfl ?_)
            refine T_cond_f rfl ?_
            repeat (first | refine T_seq ?_ | refine T_region ?_ | refine pthen_normal ?_ | refine T_skip ?_ | refine S_pure tabOk rfl ?_ | refine S_load tabOk 0 rfl rfl rfl ?_)
            refine S_q (Q_sliceTo tabOk rfl rfl rfl rfl rfl rfl (H := v) rfl (by omega)) ?_
            refine S_callrow rfl Try.call96 (fun w1 h1 => clone_ok a1 v c1 ((zs.drop u).take v) w1 (hq w1 h1) (by omega)) (fun a5 c5 hc5 hd5 => ?_)
            repeat (first | refine T_seq ?_ | refine T_region ?_ | refine S_nil ?_ | refine S_pure tabOk rfl ?_ | refine S_load tabOk 1 rfl rfl rfl ?_)
            refine S_q (Q_sliceFrom (sz := 1) tabOk rfl rfl rfl rfl rfl rfl rfl (L := v) rfl hvn hcap1) ?_
            repeat (first | refine T_seq ?_ | refine T_region ?_ | refine S_nil ?_ | refine T_ret ?_ | refine S_pure tabOk rfl ?_ | refine S_store tabOk 1 rfl rfl rfl rfl rfl rfl ?_)
            exact ret1 rfl rfl (fun w' hw' => ⟨_, _, _, a5, c5, rfl, by rw [← Nat.add_assoc]; exact h3.drop hvn, hw'⟩)

section
variable {P : Program} {n : Nat} {w0 : World} {all : Array Oper} {os : List Oper} {o : Oper} {l : FL} {ol : OL} {K : FL → OL → Prop} {Q : Post}
/-- A call that turns one block of the caller's and answers a slice with memory of its own. -/
theorem S_callobjrow (i : Nat) {d b : Nat} {f : FuncId} {vs : List Value} {x : Obj} (hs : callAt? n all (look l) o = some (d, f, vs)) (hcall : ∀ args w, (callFunc f args).run P w = .ok (.enter f args) w) (hi : getE ol i = some (.blk b x true))
    (hc : ∀ w, Hp w0 w ol → Calls P f vs.toArray w (fun e w' => ∃ v y E sz m xs, e = .returned v ∧ Hp w w' [.row w.heap.size v E sz m xs, .blk b y true] ∧ ∃ ol', putE ol i (.blk b y true) = some ol' ∧ S P n w0 all os ((d, v) :: l) (.row w0.heap.size v E sz m xs :: ol') K Q)) : S P n w0 all (o :: os) l ol K Q :=
  S_call hs hcall fun w hh => (hc w hh).mono fun e w' ⟨v, y, E, sz, m, xs, he, h2, ol', hput, k⟩ => ⟨v, _, he, by
    obtain ⟨pre, post, e1, e2⟩ := putE_eq hi hput
    rw [e1] at hh
    rw [e2]
    have hrow : w'.ownsRow w.heap.size E sz v m xs := h2.own _ List.mem_cons_self
    have hid : ∀ k, (HE.row w.heap.size v E sz m xs).has k → w.heap.size ≤ k := fun k hk => (World.ownsRow.lt hrow k hk).1
    have h3 := hh.graft (h2.drop fun _ => hid)
    refine h3.more (x := .row w0.heap.size v E sz m xs) (own_rebase hrow hh.size) fun e he _ k hk hk' => ?_
    have h4 := hid k hk
    have h5 : k < w.heap.size := by
      rcases List.mem_append.1 he with he | he
      · exact hh.lt (List.mem_append.2 (.inl he)) hk'
      · rcases List.mem_cons.1 he with rfl | he
        · exact hh.lt (e := .blk b x true) (List.mem_append.2 (.inr List.mem_cons_self)) hk'
        · exact hh.lt (List.mem_append.2 (.inr (List.mem_cons_of_mem _ he))) hk'
    omega, k⟩
end
theorem dec_encB (zs bs : List Int) (h : zs.length < 18446744073709551616) : dec 0 (encB zs ++ bs) = (0, zs.length, (enc zs.length).length) := by
  unfold encB
  rw [List.append_assoc]
  exact dec_enc zs.length 0 (zs ++ bs) (by decide) (.inl rfl) h
theorem rdB_encB (zs bs : List Int) (most : Int) (h : zs.length < 18446744073709551616) : rdB 0 (encB zs ++ bs) most = if most < (zs.length : Int) then (6, [], 0) else (0, zs, (encB zs).length) := by
  have hl : (encB zs).length = (enc zs.length).length + zs.length := by unfold encB; rw [List.length_append]
  unfold rdB
  rw [if_neg (by decide), dec_encB zs bs h]
  dsimp only
  rw [if_neg (by decide)]
  by_cases hm : most < (zs.length : Int)
  · rw [if_pos (.inr hm), if_pos hm]
  · rw [if_neg (by omega), if_neg hm, if_neg (by rw [List.length_append]; omega), hl]
    have e : encB zs ++ bs = enc zs.length ++ (zs ++ bs) := by unfold encB; rw [List.append_assoc]
    rw [e, List.drop_left, List.take_left]

/-- What one reads is asx one writes it. -/
theorem enc_dec : ∀ (zs : List Int) (i : Nat), (∀ z ∈ zs, Fits .u8 z) → (dec i zs).1 = 0 → enc (dec i zs).2.1 = zs.take (dec i zs).2.2 ∧ (0 < i → 0 < (dec i zs).2.1) ∧ (dec i zs).2.2 ≤ zs.length
  | [], i, _, h => by simp [dec] at h
  | z :: zs, i, hf, h => by
    have hz := fits_u8 (hf z List.mem_cons_self)
    unfold dec at h ⊢
    split at h
    · simp at h
    · rename_i h1
      rw [if_neg h1]
      split at h
      · simp at h
      · rename_i h2
        rw [if_neg h2]
        split at h
        · rename_i h3
          rw [if_pos h3]
          refine ⟨?_, fun hi => ?_, by simp⟩
          · show enc z.toNat = _
            rw [enc_small (by omega), Int.toNat_of_nonneg hz.1]
            simp
          · show 0 < z.toNat
            omega
        · rename_i h3
          rw [if_neg h3]
          have ih := enc_dec zs (i + 1) (fun y hy => hf y (List.mem_cons_of_mem _ hy))
          generalize dec (i + 1) zs = q at h ih ⊢
          obtain ⟨e, v, u⟩ := q
          dsimp only at h ih ⊢
          by_cases he : e = 0
          · rw [if_pos he]
            obtain ⟨i1, i2, i3⟩ := ih he
            have hv := i2 (Nat.succ_pos _)
            refine ⟨?_, fun _ => ?_, ?_⟩
            · show enc (z.toNat % 128 + 128 * v) = List.take (u + 1) (z :: zs)
              rw [enc_big (by omega), List.take_succ_cons, show (z.toNat % 128 + 128 * v) / 128 = v from by omega, i1]
              congr 1
              omega
            · show 0 < z.toNat % 128 + 128 * v
              omega
            · show u + 1 ≤ (z :: zs).length
              rw [List.length_cons]
              omega
          · rw [if_neg he] at h
            exact absurd h he
theorem dec_used {zs : List Int} : (dec 0 zs).1 ≠ 0 → (dec 0 zs).2.2 = 0 := fun h => by rw [dec_err zs 0 h]
theorem rdB_ok {zs : List Int} {most : Int} (hf : ∀ z ∈ zs, Fits .u8 z) (h : (rdB 0 zs most).1 = 0) : encB (rdB 0 zs most).2.1 = zs.take (rdB 0 zs most).2.2 ∧ (rdB 0 zs most).2.2 ≤ zs.length := by
  have he := enc_dec zs 0 hf
  unfold rdB at h ⊢
  rw [if_neg (by decide)] at h ⊢
  generalize dec 0 zs = q at h he ⊢
  obtain ⟨e, v, u⟩ := q
  dsimp only at h he ⊢
  split at h
  · exact absurd h (by assumption)
  · rename_i h1
    rw [if_neg h1]
    split at h
    · simp at h
    · rename_i h2
      rw [if_neg h2]
      split at h
      · simp at h
      · rename_i h3
        rw [if_neg h3]
        obtain ⟨i1, _, i3⟩ := he (Classical.byContradiction h1)
        dsimp only
        refine ⟨?_, by omega⟩
        have hl : ((zs.drop u).take v).length = v := by rw [List.length_take, List.length_drop]; omega
        unfold encB
        rw [hl, i1, List.take_add]
theorem rdB_len {zs : List Int} {most : Int} : (rdB 0 zs most).2.1.length ≤ zs.length ∧ ∀ z ∈ (rdB 0 zs most).2.1, z ∈ zs := by
  unfold rdB
  rw [if_neg (by decide)]
  split
  · exact ⟨Nat.zero_le _, fun z hz => by cases hz⟩
  · split
    · exact ⟨Nat.zero_le _, fun z hz => by cases hz⟩
    · split
      · exact ⟨Nat.zero_le _, fun z hz => by cases hz⟩
      · refine ⟨by rw [List.length_take, List.length_drop]; omega, fun z hz => List.mem_of_mem_drop (List.mem_of_mem_take hz)⟩

/-- how many bytes stand ahead of the number's last one: at most 9 - i, each with the mark -/
def run : Nat → List Int → Nat
  | _, [] => 0
  | 0, _ => 0
  | k + 1, z :: zs => if 128 ≤ z then run k zs + 1 else 0
/-- the number of so many bytes -/
def val : List Int → Nat
  | [] => 0
  | z :: zs => z.toNat % 128 + 128 * val zs
theorem run_le : ∀ (k : Nat) (zs : List Int), run k zs ≤ k ∧ run k zs ≤ zs.length
  | _, [] => by simp [run]
  | 0, z :: zs => by simp [run]
  | k + 1, z :: zs => by
    have := run_le k zs
    unfold run
    split
    · rw [List.length_cons]; omega
    · exact ⟨Nat.zero_le _, Nat.zero_le _⟩
/-- .. in these words it is what 'dec' says -/
theorem dec_run : ∀ (zs : List Int) (i : Nat), i ≤ 9 → (∀ z ∈ zs, Fits .u8 z) → dec i zs =
    match zs[run (9 - i) zs]? with
    | none => (2, 0, 0)
    | some z => if i + run (9 - i) zs = 9 ∧ 1 < z then (7, 0, 0) else if 0 < i + run (9 - i) zs ∧ z = 0 then (2, 0, 0) else (0, val (zs.take (run (9 - i) zs + 1)), run (9 - i) zs + 1)
  | [], i, hi, _ => by simp [dec, run]
  | z :: zs, i, hi, hf => by
    have hz := fits_u8 (hf z List.mem_cons_self)
    have ih := dec_run zs (i + 1)
    unfold dec
    by_cases h9 : i = 9
    · subst h9
      have hr : run (9 - 9) (z :: zs) = 0 := rfl
      rw [hr]
      simp only [List.getElem?_cons_zero, Nat.add_zero, true_and]
      by_cases h1 : 1 < z
      · rw [if_pos h1, if_pos h1]
      · rw [if_neg h1, if_neg h1]
        by_cases h2 : z = 0
        · rw [if_pos ⟨h2, by decide⟩, if_pos ⟨by decide, h2⟩]
        · rw [if_neg (fun hc => h2 hc.1), if_pos (by omega : z < 128), if_neg (fun hc => h2 hc.2)]
          simp only [List.take_succ_cons, List.take_zero, val, Nat.zero_add, Nat.mul_zero, Nat.add_zero]
          rw [show z.toNat % 128 = z.toNat from by omega]
    · rw [if_neg (fun hc => h9 hc.1)]
      obtain ⟨k, hk⟩ : ∃ k, 9 - i = k + 1 := ⟨8 - i, by omega⟩
      have hk' : 9 - (i + 1) = k := by omega
      by_cases h2 : z = 0 ∧ 0 < i
      · obtain ⟨rfl, h0⟩ := h2
        rw [if_pos ⟨rfl, h0⟩, hk]
        simp [run, h0]
      · rw [if_neg h2]
        by_cases h3 : z < 128
        · have hr : run (9 - i) (z :: zs) = 0 := by rw [hk]; unfold run; rw [if_neg (by omega)]
          rw [if_pos h3, hr]
          simp only [List.getElem?_cons_zero, Nat.add_zero]
          rw [if_neg (fun hc => h9 hc.1), if_neg (fun hc => h2 ⟨hc.2, hc.1⟩)]
          simp only [List.take_succ_cons, List.take_zero, val, Nat.zero_add, Nat.mul_zero, Nat.add_zero]
          rw [show z.toNat % 128 = z.toNat from by omega]
        · have hr : run (9 - i) (z :: zs) = run k zs + 1 := by rw [hk]; conv => lhs; unfold run; rw [if_pos (by omega)]
          rw [if_neg h3, ih (by omega) (fun y hy => hf y (List.mem_cons_of_mem _ hy)), hk', hr]
          simp only [List.getElem?_cons_succ]
          cases hzr : zs[run k zs]? with
          | none => rfl
          | some y =>
            dsimp only
            rw [show i + (run k zs + 1) = i + 1 + run k zs from by omega]
            by_cases c1 : i + 1 + run k zs = 9 ∧ 1 < y
            · simp only [if_pos c1]
              rfl
            · simp only [if_neg c1]
              by_cases c2 : 0 < i + 1 + run k zs ∧ y = 0
              · simp only [if_pos c2]
                rfl
              · simp only [if_neg c2]
                rfl

theorem val_drop_le : ∀ (zs : List Int) (k : Nat), val (zs.drop k) ≤ val zs
  | [], k => by simp
  | z :: zs, 0 => Nat.le_refl _
  | z :: zs, k + 1 => by
    have := val_drop_le zs k
    show val (zs.drop k) ≤ z.toNat % 128 + 128 * val zs
    omega
theorem val_step {zs : List Int} {k : Nat} (h : k < zs.length) : val (zs.drop k) = zs[k].toNat % 128 + 128 * val (zs.drop (k + 1)) := by
  rw [List.drop_eq_getElem_cons h, val]
theorem run_step {k : Nat} {zs : List Int} (h : 0 < zs.length) (hz : 128 ≤ zs[0]) : run (k + 1) zs = run k (zs.drop 1) + 1 := by
  match zs, h with
  | z :: zs, _ =>
    have hz' : 128 ≤ z := hz
    conv => lhs; unfold run
    rw [if_pos hz']
    rfl
theorem run_stop {k : Nat} {zs : List Int} (h : ∀ h : 0 < zs.length, ¬ 128 ≤ zs[0]) : run k zs = 0 := by
  match k, zs, h with
  | 0, [], _ => rfl
  | 0, _ :: _, _ => rfl
  | _ + 1, [], _ => rfl
  | k + 1, z :: zs, h =>
    have hz' : ¬ 128 ≤ z := h (Nat.succ_pos _)
    unfold run
    rw [if_neg hz']
theorem read_ok (a : Option Addr) (n c j : Nat) (zs : List Int) (w : World) (hw : Ints .u8 w a n c zs) (hj : j ≤ n) (hn : n ≤ 1073741824) :
    Calls Try.prog 101 #[.slice a n c, .int .i64 (j : Int)] w fun e w' => e = .returned (.tuple #[.int .u64 ((dec 0 (zs.drop j)).2.1 : Int), .int .i64 ((dec 0 (zs.drop j)).2.2 : Int), .int .i64 (dec 0 (zs.drop j)).1]) ∧ Below w.heap.size w w' := by
  have hl := hw.len
  have hdf : ∀ z ∈ zs.drop j, Fits .u8 z := fun z hz => hw.fits z (List.mem_of_mem_drop hz)
  have hdl : (zs.drop j).length = n - j := by rw [List.length_drop, hl]
  have hdr := dec_run (zs.drop j) 0 (by decide) hdf
  have hlt := dec_lt0 (zs.drop j) 0 (by decide) hdf
  have hget : ∀ i (h : i < (zs.drop j).length), (zs.drop j)[i] = zs[j + i]'(by omega) := fun i h => List.getElem_drop
  rw [show 9 - 0 = 9 from rfl] at hdr
  simp only [Nat.zero_add] at hdr
  obtain ⟨R, hR⟩ : ∃ R, R = run 9 (zs.drop j) := ⟨_, rfl⟩
  have hRl := run_le 9 (zs.drop j)
  rw [← hR] at hRl hdr
  refine enter2 Try.func101 rfl rfl (Hp.refl w) ?_
  repeat (first | refine T_seq ?_ | refine T_region ?_ | refine S_nil ?_ | refine S_pure tabOk rfl ?_)
  refine T_cut (ι := Unit) (fun _ => True) (fun _ => [(0, .slice a n c), (1, .int .i64 (j : Int)), (7, .int .i64 ((j : Int) + (R : Int)))]) (fun _ => []) ?_ ?_
  · repeat (first | refine T_block ?_)
    refine T_loop (ι := Nat) (fun r => [(0, .slice a n c), (1, .int .i64 (j : Int)), (7, .int .i64 ((j : Int) + (r : Int)))]) (fun _ => []) (fun r => j + r ≤ n ∧ r ≤ 9 ∧ R = r + run (9 - r) ((zs.drop j).drop r)) (fun r => n - r) 0 ⟨hj, by decide, by rw [List.drop_zero, Nat.zero_add]; exact hR⟩ (by repeat (first | exact Sub.nil | refine Sub.cons rfl ?_)) (fun _ h => h) ?_
    rintro r ⟨hrn, hr9, hrun⟩
    have done : (∀ h : 0 < ((zs.drop j).drop r).length, ¬ 128 ≤ ((zs.drop j).drop r)[0]) ∨ r = 9 → R = r := fun h => by
      rcases h with h | rfl
      · rw [run_stop h] at hrun
        exact hrun
      · have : run (9 - 9) ((zs.drop j).drop 9) = 0 := by have := run_le 0 ((zs.drop j).drop 9); exact Nat.le_zero.1 this.1
        omega
    have hdl2 : ((zs.drop j).drop r).length = n - j - r := by rw [List.length_drop, hdl]
    repeat (first | refine T_seq ?_ | refine T_region ?_ | refine S_pure tabOk rfl ?_)
    refine S_split rfl rfl (fun h1 => ?_) (fun h1 => ?_)
    · repeat (first | refine S_i64 tabOk rfl (by omega) ?_ | refine S_pure tabOk rfl ?_)
      refine S_split rfl rfl (fun h2 => ?_) (fun h2 => ?_)
      · have hjr : j + r < n := by omega
        have hz0 : ∀ h : 0 < ((zs.drop j).drop r).length, ((zs.drop j).drop r)[0] = zs[j + r]'(by omega) := fun h => by rw [List.getElem_drop, List.getElem_drop]; rfl
        obtain ⟨b1, o1, rfl, lt1, g1⟩ := hw.sl.get (by omega)
        repeat (first | refine S_pure tabOk rfl ?_)
        refine S_q (Q_idx1 tabOk rfl rfl rfl rfl rfl rfl rfl (by omega) (j := j + r) hjr) ?_
        refine S_load1 tabOk rfl rfl (v := .int .u8 (zs[j + r]'(by omega))) (fun w' h => Sl.at_ (hw.sl.ext (h.below new_nil)) (by omega) (by rw [List.getElem?_map, List.getElem?_eq_getElem (by omega)]; rfl)) ?_
        repeat (first | refine S_nil ?_ | refine S_pure tabOk rfl ?_)
        refine T_cond_dec rfl (fun h3 => ?_) (fun h3 => ?_)
        · repeat (first | refine T_block ?_ | refine S_nil ?_ | refine pthen_normal ?_ | refine inb_normal ?_ | refine T_skip ?_ | refine S_i64 tabOk rfl (by omega) ?_ | refine S_pure tabOk rfl ?_ | refine T_region_any ?_)
          refine ⟨r + 1, ⟨by omega, by omega, ?_⟩, by repeat (first | exact Sub.nil | refine Sub.cons rfl ?_), fun _ h => h, by omega⟩
          have hst := run_step (k := 9 - (r + 1)) (zs := (zs.drop j).drop r) (by omega) (by rw [hz0 (by omega)]; exact h3)
          have e7 : ((zs.drop j).drop r).drop 1 = (zs.drop j).drop (r + 1) := by rw [List.drop_drop]
          rw [show 9 - (r + 1) + 1 = 9 - r from by omega, e7] at hst
          rw [hrun, hst]
          omega
        · have hRr := done (.inl fun h => by rw [hz0 h]; exact h3)
          repeat (first | refine pthen_normal ?_ | refine inb_hit ?_ | refine pthen_exit ?_ | refine T_exit ?_)
          exact ⟨(), trivial, by rw [hRr]; repeat (first | exact Sub.nil | refine Sub.cons rfl ?_), fun _ h => h⟩
      · have hRr := done (.inr (by omega))
        repeat (first | refine S_nil ?_ | refine S_pure tabOk rfl ?_ | refine S_pass rfl rfl rfl ?_)
        refine T_cond_f rfl ?_
        repeat (first | refine pthen_normal ?_ | refine inb_hit ?_ | refine pthen_exit ?_ | refine T_exit ?_)
        exact ⟨(), trivial, by rw [hRr]; repeat (first | exact Sub.nil | refine Sub.cons rfl ?_), fun _ h => h⟩
    · have hRr := done (.inl fun h => by omega)
      repeat (first | refine S_nil ?_ | refine S_pure tabOk rfl ?_ | refine S_pass rfl rfl rfl ?_)
      refine T_cond_f rfl ?_
      repeat (first | refine pthen_normal ?_ | refine inb_hit ?_ | refine pthen_exit ?_ | refine T_exit ?_)
      exact ⟨(), trivial, by rw [hRr]; repeat (first | exact Sub.nil | refine Sub.cons rfl ?_), fun _ h => h⟩
  rintro - -
  repeat (first | refine T_seq ?_ | refine T_region ?_ | refine S_nil ?_ | refine S_pure tabOk rfl ?_)
  refine T_cond_dec rfl (fun h1 => ?_) (fun h1 => ?_)
  · have hdn : dec 0 (zs.drop j) = (2, 0, 0) := by rw [hdr, List.getElem?_eq_none (by omega)]
    rw [hdn]
    repeat (first | refine T_seq ?_ | refine T_region ?_ | refine S_nil ?_ | refine pthen_ret ?_ | refine T_ret ?_ | refine S_pure tabOk rfl ?_)
    exact ret3 rfl rfl rfl rfl (fun w' h => ⟨rfl, h.below new_nil⟩)
  have hjr : j + R < n := by omega
  have hgz : (zs.drop j)[R]? = some (zs[j + R]'(by omega)) := by rw [List.getElem?_drop, List.getElem?_eq_getElem (by omega)]
  have hz := fits_u8 (hw.fits (zs[j + R]'(by omega)) (List.getElem_mem _))
  have hld : ∀ w', Hp w w' [] → Sl w' 1 a n (zs.map (.int .u8)) := fun w' h => hw.sl.ext (h.below new_nil)
  have hcz : (zs.map (Value.int .u8))[j + R]? = some (.int .u8 (zs[j + R]'(by omega))) := by rw [List.getElem?_map, List.getElem?_eq_getElem (by omega)]; rfl
  rw [hgz] at hdr
  generalize zs[j + R]'(by omega) = z at hdr hz hcz
  dsimp only at hdr
  obtain ⟨b1, o1, rfl, lt1, g1⟩ := hw.sl.get (by omega)
  repeat (first | refine T_seq ?_ | refine T_region ?_ | refine pthen_normal ?_ | refine T_skip ?_ | refine S_i64 tabOk rfl (by omega) ?_ | refine S_pure tabOk rfl ?_)
  refine S_cut (ι := Unit) (fun _ => True) (fun _ => [(0, .slice (some ⟨b1, o1, none⟩) n c), (1, .int .i64 (j : Int)), (7, .int .i64 ((j : Int) + (R : Int))), (44, .bool (decide (R = 9 ∧ 1 < z)))]) (fun _ => []) ?_ ?_
  · refine S_split rfl rfl (fun h2 => ?_) (fun h2 => ?_)
    · repeat (first | refine S_pure tabOk rfl ?_)
      refine S_q (Q_idx1 tabOk rfl rfl rfl rfl rfl rfl rfl (by omega) (j := j + R) hjr) ?_
      refine S_load1 tabOk rfl rfl (v := .int .u8 z) (fun w' h => Sl.at_ (hld w' h) (by omega) hcz) ?_
      repeat (first | refine S_nil ?_ | refine S_pure tabOk rfl ?_)
      exact ⟨(), trivial, Sub.cons rfl (Sub.cons rfl (Sub.cons rfl (Sub.cons_eq rfl (congrArg Value.bool (dec_eq ⟨fun h => ⟨by omega, h⟩, fun h => h.2⟩)) Sub.nil))), fun _ h => h⟩
    · repeat (first | refine S_nil ?_ | refine S_pure tabOk rfl ?_ | refine S_pass rfl rfl rfl ?_)
      exact ⟨(), trivial, Sub.cons rfl (Sub.cons rfl (Sub.cons rfl (Sub.cons_eq rfl (congrArg Value.bool (decide_eq_false (fun h => h2 (by omega))).symm) Sub.nil))), fun _ h => h⟩
  rintro - -
  refine T_cond_dec rfl (fun h2 => ?_) (fun h2 => ?_)
  · rw [if_pos h2] at hdr
    rw [hdr]
    repeat (first | refine T_seq ?_ | refine T_region ?_ | refine S_nil ?_ | refine pthen_ret ?_ | refine T_ret ?_ | refine S_pure tabOk rfl ?_)
    exact ret3 rfl rfl rfl rfl (fun w' h => ⟨rfl, h.below new_nil⟩)
  rw [if_neg h2] at hdr
  repeat (first | refine T_seq ?_ | refine T_region ?_ | refine pthen_normal ?_ | refine T_skip ?_ | refine S_pure tabOk rfl ?_)
  refine S_cut (ι := Unit) (fun _ => True) (fun _ => [(0, .slice (some ⟨b1, o1, none⟩) n c), (1, .int .i64 (j : Int)), (7, .int .i64 ((j : Int) + (R : Int))), (54, .bool (decide (0 < R ∧ z = 0)))]) (fun _ => []) ?_ ?_
  · refine S_split rfl rfl (fun h3 => ?_) (fun h3 => ?_)
    · repeat (first | refine S_pure tabOk rfl ?_)
      refine S_q (Q_idx1 tabOk rfl rfl rfl rfl rfl rfl rfl (by omega) (j := j + R) hjr) ?_
      refine S_load1 tabOk rfl rfl (v := .int .u8 z) (fun w' h => Sl.at_ (hld w' h) (by omega) hcz) ?_
      repeat (first | refine S_nil ?_ | refine S_pure tabOk rfl ?_)
      exact ⟨(), trivial, Sub.cons rfl (Sub.cons rfl (Sub.cons rfl (Sub.cons_eq rfl (congrArg Value.bool (dec_eq ⟨fun h => ⟨by omega, h⟩, fun h => h.2⟩)) Sub.nil))), fun _ h => h⟩
    · repeat (first | refine S_nil ?_ | refine S_pure tabOk rfl ?_ | refine S_pass rfl rfl rfl ?_)
      exact ⟨(), trivial, Sub.cons rfl (Sub.cons rfl (Sub.cons rfl (Sub.cons_eq rfl (congrArg Value.bool (decide_eq_false (fun h => h3 (by omega))).symm) Sub.nil))), fun _ h => h⟩
  rintro - -
  refine T_cond_dec rfl (fun h3 => ?_) (fun h3 => ?_)
  · rw [if_pos h3] at hdr
    rw [hdr]
    repeat (first | refine T_seq ?_ | refine T_region ?_ | refine S_nil ?_ | refine pthen_ret ?_ | refine T_ret ?_ | refine S_pure tabOk rfl ?_)
    exact ret3 rfl rfl rfl rfl (fun w' h => ⟨rfl, h.below new_nil⟩)
  rw [if_neg h3] at hdr
  rw [hdr] at hlt ⊢
  dsimp only at hlt ⊢
  have hDl : ((zs.drop j).take (R + 1)).length = R + 1 := by rw [List.length_take]; omega
  have hDg : ∀ s, s < R + 1 → ((zs.drop j).take (R + 1))[s]? = zs[j + s]? := fun s h => by rw [List.getElem?_take, if_pos h, List.getElem?_drop]
  generalize (zs.drop j).take (R + 1) = D at hlt hDl hDg ⊢
  have hlt : val D < 18446744073709551616 := hlt
  repeat (first | refine T_seq ?_ | refine T_region ?_ | refine T_block ?_ | refine S_nil ?_ | refine pthen_normal ?_ | refine T_skip ?_ | refine S_pure tabOk rfl ?_)
  refine T_loop (ι := Nat) (fun s => [(0, .slice (some ⟨b1, o1, none⟩) n c), (1, .int .i64 (j : Int)), (7, .int .i64 ((j : Int) + (R : Int))), (8, .int .u64 (val (D.drop s) : Int)), (9, .int .i64 ((j : Int) + (s : Int) - 1))]) (fun _ => []) (fun s => s ≤ R + 1) (fun s => s) (R + 1) (Nat.le_refl _) ?_ (fun _ h => h) ?_
  · rw [List.drop_of_length_le (by omega)]
    repeat (first | exact Sub.nil | refine Sub.cons rfl ?_ | refine Sub.cons_int rfl (by omega) ?_)
  intro s hs
  repeat (first | refine T_seq ?_ | refine T_region ?_ | refine S_nil ?_ | refine S_pure tabOk rfl ?_)
  refine T_cond_dec rfl (fun h4 => ?_) (fun h4 => ?_)
  · obtain ⟨k, rfl⟩ : ∃ k, s = k + 1 := ⟨s - 1, by omega⟩
    have hk : k < D.length := by omega
    have hv := val_step hk
    have hvl := val_drop_le D k
    have hyk : D[k] = zs[j + k]'(by omega) := by
      have := hDg k (by omega)
      rw [List.getElem?_eq_getElem hk, List.getElem?_eq_getElem (by omega)] at this
      exact Option.some.inj this
    rw [hyk] at hv
    clear hyk
    have hzk := fits_u8 (hw.fits (zs[j + k]'(by omega)) (List.getElem_mem _))
    have hck : (zs.map (Value.int .u8))[j + k]? = some (.int .u8 (zs[j + k]'(by omega))) := by rw [List.getElem?_map, List.getElem?_eq_getElem (by omega)]; rfl
    generalize zs[j + k]'(by omega) = y at hv hzk hck
    repeat (first | refine T_seq ?_ | refine T_block ?_ | refine pthen_normal ?_ | refine T_skip ?_ | refine S_pure tabOk rfl ?_ | refine T_region_any ?_)
    refine S_re 62 rfl (congrArg (Value.int .u64) (IntWalk.u64_in _ (by omega))) ?_
    refine S_q (Q_idx1 tabOk rfl rfl rfl rfl rfl rfl rfl (by omega) (j := j + k) (by omega)) ?_
    refine S_load1 tabOk rfl rfl (v := .int .u8 y) (fun w' h => Sl.at_ (hld w' h) (by omega) hck) ?_
    refine S_q (Q_rem0 rfl rfl rfl (by decide) hzk.1) ?_
    refine S_u64 tabOk rfl (by omega) ?_
    refine S_u64 tabOk rfl (by omega) ?_
    repeat (first | refine T_region ?_ | refine S_nil ?_ | refine pthen_normal ?_ | refine inb_normal ?_ | refine S_i64 tabOk rfl (by omega) ?_ | refine S_pure tabOk rfl ?_)
    refine ⟨k, by omega, ?_, fun _ h => h, by omega⟩
    rw [hv]
    repeat (first | exact Sub.nil | refine Sub.cons rfl ?_ | refine Sub.cons_int rfl (by omega) ?_)
  · have hs0 : s = 0 := by omega
    subst hs0
    repeat (first | refine T_seq ?_ | refine T_region ?_ | refine S_nil ?_ | refine pthen_normal ?_ | refine inb_hit ?_ | refine pthen_exit ?_ | refine T_ret ?_ | refine T_exit ?_ | refine S_i64 tabOk rfl (by omega) ?_ | refine S_pure tabOk rfl ?_)
    refine ret3 rfl rfl rfl rfl (fun w' h => ⟨?_, h.below new_nil⟩)
    have e1 : (j : Int) + (R : Int) - (j : Int) + 1 = ((R + 1 : Nat) : Int) := by omega
    rw [e1]
    rfl

/-- the error, the byte, how many were read -/
def by1 (e : Int) (zs : List Int) : Int × Int × Nat := if e ≠ 0 then (e, 0, 0) else match zs with
  | [] => (2, 0, 0)
  | z :: _ => (0, z, 1)
/-- the error at the end -/
def enE (e : Int) (n : Nat) : Int := if 0 < n ∧ e = 0 then 2 else e
theorem inbyte_ok (b : Nat) (a : Option Addr) (n c : Nat) (A : Option Addr) (N C k : Nat) (all : List Int) (e : Int) (w : World) (hb : w.heap[b]? = some (inO a n c e)) (hs : Suf A N C k a n c) (hA : Ints .u8 w A N C all) (hap : ∀ b' off, A = some ⟨b', off, none⟩ → b' ≠ b) (hN : N ≤ 1073741824) :
    Calls Try.prog 61 #[.pointer (some ⟨b, 0, none⟩)] w fun en w' => ∃ a' n' c', en = .returned (.int .u8 (by1 e (all.drop k)).2.1) ∧ Suf A N C (k + (by1 e (all.drop k)).2.2) a' n' c' ∧ Hp w w' [.blk b (inO a' n' c' (by1 e (all.drop k)).1) true] := by
  have hkn := hs.kn
  have hal := hA.len
  refine enter1 Try.func61 rfl rfl (Hp.start true hb) ?_
  repeat (first | refine T_seq ?_ | refine T_region ?_ | refine S_nil ?_ | refine S_pure tabOk rfl ?_)
  refine S_callq rfl Try.call97 (fun w1 h1 => err_ok b a n c e w1 (h1.own _ (getE_mem (i := 0) rfl))) ?_
  repeat (first | refine S_nil ?_ | refine S_pure tabOk rfl ?_)
  refine T_cond_dec rfl (fun h => ?_) (fun h => ?_)
  · have hr : by1 e (all.drop k) = (e, 0, 0) := by unfold by1; rw [if_pos h]
    rw [hr]
    repeat (first | refine T_seq ?_ | refine T_region ?_ | refine S_nil ?_ | refine pthen_ret ?_ | refine T_ret ?_ | refine S_pure tabOk rfl ?_)
    exact ret1 rfl rfl (fun w' hw' => ⟨a, n, c, rfl, hs, hw'⟩)
  obtain rfl : e = 0 := Classical.byContradiction h
  repeat (first | refine T_seq ?_ | refine T_region ?_ | refine S_nil ?_ | refine pthen_normal ?_ | refine T_skip ?_ | refine S_pure tabOk rfl ?_ | refine S_load tabOk 0 rfl rfl rfl ?_)
  refine T_cond_dec rfl (fun h1 => ?_) (fun h1 => ?_)
  · have hr : by1 0 (all.drop k) = (2, 0, 0) := by unfold by1; rw [if_neg (by decide), List.drop_of_length_le (by omega)]
    rw [hr]
    repeat (first | refine T_seq ?_ | refine T_region ?_ | refine S_pure tabOk rfl ?_)
    refine S_callobj 0 rfl Try.call98 rfl (fun w1 h1 => (fail_ok b a n c 0 2 w1 (h1.own _ (getE_mem (i := 0) rfl))).mono fun en w' ⟨h2, h3⟩ => ⟨_, _, h2, h3, _, rfl, ?_⟩)
    repeat (first | refine T_seq ?_ | refine T_region ?_ | refine S_nil ?_ | refine pthen_ret ?_ | refine T_ret ?_ | refine S_pure tabOk rfl ?_)
    exact ret1 rfl rfl (fun w' hw' => ⟨a, n, c, rfl, hs, hw'⟩)
  have hkl : k < all.length := by omega
  have hr : by1 0 (all.drop k) = (0, all[k], 1) := by unfold by1; rw [if_neg (by decide), List.drop_eq_getElem_cons hkl]
  rw [hr]
  obtain ⟨b1, o1, rfl, rfl⟩ := hs.blk (by omega)
  have hAw : ∀ x w', Hp w w' [.blk b x true] → Ints .u8 w' (some ⟨b1, o1, none⟩) N C all := fun x w' hw' => hA.oldS (fun hn b' off e => Apart.cons (fun hh => hap _ _ e hh.symm) Apart.nil) hw'
  repeat (first | refine T_seq ?_ | refine T_region ?_ | refine pthen_normal ?_ | refine T_skip ?_ | refine S_pure tabOk rfl ?_ | refine S_load tabOk 0 rfl rfl rfl ?_)
  refine S_q (Q_idx1 tabOk rfl rfl rfl rfl rfl rfl rfl rfl (j := 0) (by omega)) ?_
  refine S_load1 tabOk rfl rfl (v := .int .u8 all[k]) (fun w' h => ?_) ?_
  · have := Sl.at_ (hAw _ w' h).sl (by omega) (j := k) (u := .int .u8 all[k]) (by rw [List.getElem?_map, List.getElem?_eq_getElem hkl]; rfl)
    exact this
  repeat (first | refine T_seq ?_ | refine T_region ?_ | refine S_nil ?_ | refine S_pure tabOk rfl ?_ | refine S_load tabOk 0 rfl rfl rfl ?_)
  refine S_q (Q_sliceFrom (sz := 1) tabOk rfl rfl rfl rfl rfl rfl rfl (L := 1) rfl (by omega) hs.cap) ?_
  repeat (first | refine T_seq ?_ | refine T_region ?_ | refine S_nil ?_ | refine T_ret ?_ | refine S_pure tabOk rfl ?_ | refine S_store tabOk 0 rfl rfl rfl rfl rfl rfl ?_)
  exact ret1 rfl rfl (fun w' hw' => ⟨_, _, _, rfl, hs.drop (j := 1) (by omega), hw'⟩)
theorem inend_ok (b : Nat) (a : Option Addr) (n c : Nat) (e : Int) (w : World) (hb : w.heap[b]? = some (inO a n c e)) :
    Calls Try.prog 64 #[.pointer (some ⟨b, 0, none⟩)] w fun en w' => en = .returned (.int .i64 (enE e n)) ∧ Hp w w' [.blk b (inO a n c (enE e n)) true] := by
  refine enter1 Try.func64 rfl rfl (Hp.start true hb) ?_
  repeat (first | refine T_seq ?_ | refine T_region ?_ | refine S_nil ?_ | refine S_pure tabOk rfl ?_)
  refine S_callq rfl Try.call99 (fun w1 h1 => left_ok b a n c e w1 (h1.own _ (getE_mem (i := 0) rfl))) ?_
  repeat (first | refine S_nil ?_ | refine S_pure tabOk rfl ?_)
  refine T_cond_dec rfl (fun h => ?_) (fun h => ?_)
  · have hr : enE e n = if e = 0 then 2 else e := by
      unfold enE
      by_cases he : e = 0
      · rw [if_pos ⟨by omega, he⟩, if_pos he]
      · rw [if_neg (fun hc => he hc.2), if_neg he]
    rw [hr]
    repeat (first | refine T_region ?_ | refine S_pure tabOk rfl ?_)
    refine S_callobj 0 rfl Try.call98 rfl (fun w1 h1 => (fail_ok b a n c e 2 w1 (h1.own _ (getE_mem (i := 0) rfl))).mono fun en w' ⟨h2, h3⟩ => ⟨_, _, h2, h3, _, rfl, ?_⟩)
    repeat (first | refine T_seq ?_ | refine T_region ?_ | refine S_nil ?_ | refine S_pure tabOk rfl ?_)
    refine S_callq rfl Try.call97 (fun w1 h1 => err_ok b a n c _ w1 (h1.own _ (getE_mem (i := 0) rfl))) ?_
    repeat (first | refine S_nil ?_ | refine T_ret ?_ | refine S_pure tabOk rfl ?_)
    exact ret1 rfl rfl (fun w' hw' => ⟨rfl, hw'⟩)
  · have hr : enE e n = e := by unfold enE; rw [if_neg (fun hc => h (by omega))]
    rw [hr]
    repeat (first | refine T_seq ?_ | refine T_region ?_ | refine pthen_normal ?_ | refine T_skip ?_ | refine S_pure tabOk rfl ?_)
    refine S_callq rfl Try.call97 (fun w1 h1 => err_ok b a n c e w1 (h1.own _ (getE_mem (i := 0) rfl))) ?_
    repeat (first | refine S_nil ?_ | refine T_ret ?_ | refine S_pure tabOk rfl ?_)
    exact ret1 rfl rfl (fun w' hw' => ⟨rfl, hw'⟩)
/-! ### The document's In -/
abbrev rfO (a : Option Addr) (n c : Nat) (at_ : Nat) (e : Int) : Obj := .cells ⟨[.slice a n c, .int .i64 (at_ : Int), .int .i64 e]⟩ 123 (0, 0)
theorem rfail_ok (b : Nat) (a : Option Addr) (n c j : Nat) (e x : Int) (w : World) (hb : w.heap[b]? = some (rfO a n c j e)) :
    Calls Try.prog 103 #[.pointer (some ⟨b, 0, none⟩), .int .i64 x] w fun en w' => en = .returned (.tuple #[]) ∧ Hp w w' [.blk b (rfO a n c j (if e = 0 then x else e)) true] := by
  refine enter2 Try.func103 rfl rfl (Hp.start true hb) ?_
  repeat (first | refine T_seq ?_ | refine T_region ?_ | refine S_nil ?_ | refine S_pure tabOk rfl ?_ | refine S_load tabOk 0 rfl rfl rfl ?_)
  refine T_cond_dec rfl (fun h => ?_) (fun h => ?_)
  · rw [if_pos h]
    repeat (first | refine S_nil ?_ | refine S_pure tabOk rfl ?_ | refine T_region_any ?_ | refine S_store tabOk 0 rfl rfl rfl rfl rfl rfl ?_)
    exact ret0n rfl (fun w' hw' => ⟨rfl, hw'⟩)
  · rw [if_neg h]
    repeat (first | refine T_skip ?_)
    exact ret0n rfl (fun w' hw' => ⟨rfl, hw'⟩)
theorem rend_ok (b : Nat) (a : Option Addr) (n c j : Nat) (e : Int) (w : World) (hb : w.heap[b]? = some (rfO a n c j e)) :
    Calls Try.prog 70 #[.pointer (some ⟨b, 0, none⟩)] w fun en w' => en = .returned (.int .i64 (enE e (n - j))) ∧ Hp w w' [.blk b (rfO a n c j (enE e (n - j))) true] := by
  refine enter1 Try.func70 rfl rfl (Hp.start true hb) ?_
  repeat (first | refine T_draw (by kernel_rfl) (by kernel_rfl) ?_ | refine D_all rfl ?_ | refine D_pure tabOk rfl ?_ | refine D_load tabOk 0 rfl rfl rfl ?_ | refine T_seq ?_ | refine T_region ?_ | refine S_nil ?_ | refine S_pure tabOk rfl ?_)
  refine T_cond_dec rfl (fun h => ?_) (fun h => ?_)
  · have hr : enE e (n - j) = if e = 0 then 2 else e := by
      unfold enE
      by_cases he : e = 0
      · rw [if_pos ⟨by omega, he⟩, if_pos he]
      · rw [if_neg (fun hc => he hc.2), if_neg he]
    rw [hr]
    repeat (first | refine T_region ?_ | refine S_pure tabOk rfl ?_)
    refine S_callobj 0 rfl Try.call103 rfl (fun w1 h1 => (rfail_ok b a n c j e 2 w1 (h1.own _ (getE_mem (i := 0) rfl))).mono fun en w' ⟨h2, h3⟩ => ⟨_, _, h2, h3, _, rfl, ?_⟩)
    repeat (first | refine T_seq ?_ | refine T_region ?_ | refine S_nil ?_ | refine T_ret ?_ | refine S_pure tabOk rfl ?_ | refine S_load tabOk 0 rfl rfl rfl ?_)
    exact ret1 rfl rfl (fun w' hw' => ⟨rfl, hw'⟩)
  · have hr : enE e (n - j) = e := by unfold enE; rw [if_neg (fun hc => h (by omega))]
    rw [hr]
    repeat (first | refine T_seq ?_ | refine T_region ?_ | refine S_nil ?_ | refine pthen_normal ?_ | refine T_skip ?_ | refine T_ret ?_ | refine S_pure tabOk rfl ?_ | refine S_load tabOk 0 rfl rfl rfl ?_)
    exact ret1 rfl rfl (fun w' hw' => ⟨rfl, hw'⟩)

section
variable {b : Nat} {a : Option Addr} {n c j : Nat} {e : Int} {zs : List Int} {w : World}
theorem rin (hw : Ints .u8 w a n c zs) (hap : 0 < n → ∀ b' off, a = some ⟨b', off, none⟩ → b' ≠ b) {x : Obj} {w' : World} (h : Hp w w' [.blk b x true]) : Ints .u8 w' a n c zs :=
  hw.oldS (fun hn b' off e => Apart.cons (fun hh => hap hn _ _ e hh.symm) Apart.nil) h
end
theorem rbyte_ok (b : Nat) (a : Option Addr) (n c j : Nat) (e : Int) (zs : List Int) (w : World) (hb : w.heap[b]? = some (rfO a n c j e)) (hw : Ints .u8 w a n c zs) (hap : 0 < n → ∀ b' off, a = some ⟨b', off, none⟩ → b' ≠ b) (hj : j ≤ n) (hn : n ≤ 1073741824) :
    Calls Try.prog 66 #[.pointer (some ⟨b, 0, none⟩)] w fun en w' => en = .returned (.int .u8 (by1 e (zs.drop j)).2.1) ∧ Hp w w' [.blk b (rfO a n c (j + (by1 e (zs.drop j)).2.2) (by1 e (zs.drop j)).1) true] := by
  have hl := hw.len
  refine enter1 Try.func66 rfl rfl (Hp.start true hb) ?_
  repeat (first | refine T_seq ?_ | refine T_region ?_ | refine S_nil ?_ | refine S_pure tabOk rfl ?_ | refine S_load tabOk 0 rfl rfl rfl ?_)
  refine T_cond_dec rfl (fun h => ?_) (fun h => ?_)
  · have hr : by1 e (zs.drop j) = (e, 0, 0) := by unfold by1; rw [if_pos h]
    rw [hr]
    repeat (first | refine T_seq ?_ | refine T_region ?_ | refine S_nil ?_ | refine pthen_ret ?_ | refine T_ret ?_ | refine S_pure tabOk rfl ?_)
    exact ret1 rfl rfl (fun w' hw' => ⟨rfl, hw'⟩)
  obtain rfl : e = 0 := Classical.byContradiction h
  repeat (first | refine T_draw (by kernel_rfl) (by kernel_rfl) ?_ | refine D_all rfl ?_ | refine D_pure tabOk rfl ?_ | refine D_load tabOk 0 rfl rfl rfl ?_ | refine T_seq ?_ | refine pthen_normal ?_ | refine T_skip ?_)
  refine T_cond_dec rfl (fun h1 => ?_) (fun h1 => ?_)
  · have hr : by1 0 (zs.drop j) = (2, 0, 0) := by unfold by1; rw [if_neg (by decide), List.drop_of_length_le (by omega)]
    rw [hr]
    repeat (first | refine T_seq ?_ | refine T_region ?_ | refine S_nil ?_ | refine pthen_ret ?_ | refine T_ret ?_ | refine S_pure tabOk rfl ?_ | refine S_store tabOk 0 rfl rfl rfl rfl rfl rfl ?_)
    exact ret1 rfl rfl (fun w' hw' => ⟨rfl, hw'⟩)
  have hjl : j < zs.length := by omega
  have hr : by1 0 (zs.drop j) = (0, zs[j], 1) := by unfold by1; rw [if_neg (by decide), List.drop_eq_getElem_cons hjl]
  rw [hr]
  obtain ⟨b1, o1, rfl, lt1, g1⟩ := hw.sl.get (by omega)
  repeat (first | refine T_draw (by kernel_rfl) (by kernel_rfl) ?_ | refine D_i64 tabOk rfl (by omega) ?_ | refine D_pure tabOk rfl ?_ | refine D_load tabOk 0 rfl rfl rfl ?_ | refine T_seq ?_ | refine T_region ?_ | refine S_nil ?_ | refine pthen_normal ?_ | refine T_skip ?_ | refine S_i64 tabOk rfl (by omega) ?_ | refine S_pure tabOk rfl ?_ | refine S_load tabOk 0 rfl rfl rfl ?_ | refine S_store tabOk 0 rfl rfl rfl rfl rfl rfl ?_)
  refine D_q (Q_idx1 tabOk rfl rfl rfl rfl rfl rfl rfl (by omega) (j := j) (by omega)) ?_
  refine D_load1 tabOk rfl rfl (v := .int .u8 zs[j]) (fun w' h => Sl.at_ (rin hw hap h).sl (by omega) (by rw [List.getElem?_map, List.getElem?_eq_getElem hjl]; rfl)) ?_
  repeat (first | refine D_all rfl ?_ | refine D_pure tabOk rfl ?_ | refine T_ret ?_)
  exact ret1 rfl rfl (fun w' hw' => ⟨rfl, hw'⟩)
theorem dec_bounds {zs : List Int} (hf : ∀ z ∈ zs, Fits .u8 z) : (dec 0 zs).2.1 < 18446744073709551616 ∧ (dec 0 zs).2.2 ≤ zs.length := by
  refine ⟨dec_lt0 zs 0 (by decide) hf, ?_⟩
  by_cases h : (dec 0 zs).1 = 0
  · exact (enc_dec zs 0 hf h).2.2
  · rw [dec_used h]; exact Nat.zero_le _
theorem rnumber_ok (b : Nat) (a : Option Addr) (n c j : Nat) (e : Int) (zs : List Int) (w : World) (hb : w.heap[b]? = some (rfO a n c j e)) (hw : Ints .u8 w a n c zs) (hap : 0 < n → ∀ b' off, a = some ⟨b', off, none⟩ → b' ≠ b) (hj : j ≤ n) (hn : n ≤ 1073741824) :
    Calls Try.prog 68 #[.pointer (some ⟨b, 0, none⟩)] w fun en w' => en = .returned (.int .u64 ((rd e (zs.drop j)).2.1 : Int)) ∧ Hp w w' [.blk b (rfO a n c (j + (rd e (zs.drop j)).2.2) (rd e (zs.drop j)).1) true] := by
  have hl := hw.len
  have hdb := dec_bounds (zs := zs.drop j) (fun z hz => hw.fits z (List.mem_of_mem_drop hz))
  rw [List.length_drop] at hdb
  refine enter1 Try.func68 rfl rfl (Hp.start true hb) ?_
  repeat (first | refine T_seq ?_ | refine T_region ?_ | refine S_nil ?_ | refine S_pure tabOk rfl ?_ | refine S_load tabOk 0 rfl rfl rfl ?_)
  refine T_cond_dec rfl (fun h => ?_) (fun h => ?_)
  · have hr : rd e (zs.drop j) = (e, 0, 0) := by unfold rd; rw [if_neg h]
    rw [hr]
    repeat (first | refine T_seq ?_ | refine T_region ?_ | refine S_nil ?_ | refine pthen_ret ?_ | refine T_ret ?_ | refine S_pure tabOk rfl ?_)
    exact ret1 rfl rfl (fun w' hw' => ⟨rfl, hw'⟩)
  obtain rfl : e = 0 := Classical.byContradiction h
  rw [show rd 0 (zs.drop j) = dec 0 (zs.drop j) from rfl]
  repeat (first | refine T_draw (by kernel_rfl) (by kernel_rfl) ?_ | refine D_pure tabOk rfl ?_ | refine D_load tabOk 0 rfl rfl rfl ?_ | refine T_seq ?_ | refine pthen_normal ?_ | refine T_skip ?_)
  refine D_callx rfl Try.call101 (fun w' vs hw' h => by obtain ⟨_, _, rfl, rfl, _, _, rfl, rfl, rfl⟩ := h; exact read_ok a n c j zs w' (rin hw hap hw') hj hn) ?_
  generalize dec 0 (zs.drop j) = q at hdb ⊢
  obtain ⟨e1, v, u⟩ := q
  dsimp only at hdb ⊢
  repeat (first | refine D_all rfl ?_ | refine D_pure tabOk rfl ?_ | refine T_seq ?_ | refine T_region ?_ | refine S_nil ?_ | refine T_ret ?_ | refine S_i64 tabOk rfl (by omega) ?_ | refine S_pure tabOk rfl ?_ | refine S_load tabOk 0 rfl rfl rfl ?_ | refine S_store tabOk 0 rfl rfl rfl rfl rfl rfl ?_)
  exact ret1 rfl rfl (fun w' hw' => ⟨rfl, hw'⟩)

theorem rsome_ok (b : Nat) (a : Option Addr) (n c j : Nat) (e most : Int) (zs : List Int) (w : World) (hb : w.heap[b]? = some (rfO a n c j e)) (hw : Ints .u8 w a n c zs) (hap : 0 < n → ∀ b' off, a = some ⟨b', off, none⟩ → b' ≠ b) (hj : j ≤ n) (hn : n ≤ 1073741824) (hm : -9223372036854775808 ≤ most ∧ most ≤ 9223372036854775807) :
    Calls Try.prog 116 #[.pointer (some ⟨b, 0, none⟩), .int .i64 most] w fun en w' => ∃ ra rc, en = .returned (.slice ra (rdB e (zs.drop j) most).2.1.length rc) ∧
      Hp w w' [.row w.heap.size (.slice ra (rdB e (zs.drop j) most).2.1.length rc) 5 1 (rdB e (zs.drop j) most).2.1.length ((rdB e (zs.drop j) most).2.1.map (.int .u8)), .blk b (rfO a n c (j + (rdB e (zs.drop j) most).2.2) (rdB e (zs.drop j) most).1) true] := by
  have hl := hw.len
  have hdf : ∀ z ∈ zs.drop j, Fits .u8 z := fun z hz => hw.fits z (List.mem_of_mem_drop hz)
  have hdb := dec_bounds hdf
  have hdl : (zs.drop j).length = n - j := by rw [List.length_drop, hl]
  refine enter2 Try.func116 rfl rfl (Hp.start true hb) ?_
  repeat (first | refine T_seq ?_ | refine T_region ?_ | refine S_nil ?_ | refine S_pure tabOk rfl ?_ | refine S_load tabOk 0 rfl rfl rfl ?_)
  refine T_cond_dec rfl (fun h => ?_) (fun h => ?_)
  · have hr : rdB e (zs.drop j) most = (e, [], 0) := by unfold rdB; rw [if_pos h]
    rw [hr]
    repeat (first | refine T_seq ?_ | refine T_region ?_ | refine S_nil ?_ | refine pthen_ret ?_ | refine T_ret ?_ | refine S_pure tabOk rfl ?_)
    exact ret1 rfl rfl (fun w' hw' => ⟨none, 0, rfl, hw'.nilRow _ _⟩)
  obtain rfl : e = 0 := Classical.byContradiction h
  repeat (first | refine T_draw (by kernel_rfl) (by kernel_rfl) ?_ | refine D_pure tabOk rfl ?_ | refine D_load tabOk 0 rfl rfl rfl ?_ | refine T_seq ?_ | refine pthen_normal ?_ | refine T_skip ?_)
  refine D_callx rfl Try.call101 (fun w' vs hw' h => by obtain ⟨_, _, rfl, rfl, _, _, rfl, rfl, rfl⟩ := h; exact read_ok a n c j zs w' (rin hw hap hw') hj hn) ?_
  obtain ⟨⟨e1, v, u⟩, hdec⟩ : ∃ q, dec 0 (zs.drop j) = q := ⟨_, rfl⟩
  have hused := dec_err (zs.drop j) 0
  rw [hdec] at hdb hused ⊢
  rw [hdl] at hdb
  dsimp only at hdb hused ⊢
  repeat (first | refine D_all rfl ?_ | refine D_pure tabOk rfl ?_ | refine T_seq ?_ | refine T_region ?_ | refine S_pure tabOk rfl ?_)
  refine S_cut (ι := Unit) (fun _ => True) (fun _ => [(0, .pointer (some ⟨b, 0, none⟩)), (1, .int .i64 most), (5, .int .u64 (v : Int)), (6, .int .i64 (u : Int)), (7, .int .i64 e1), (38, .bool (decide (e1 = 0 ∧ (most < 0 ∨ most < (v : Int)))))]) (fun _ => [.blk b (rfO a n c j 0) true]) ?_ ?_
  · refine S_split rfl rfl (fun h1 => ?_) (fun h1 => ?_)
    · repeat (first | refine S_pure tabOk rfl ?_)
      refine S_split rfl rfl (fun h2 => ?_) (fun h2 => ?_)
      · repeat (first | refine S_nil ?_ | refine S_pure tabOk rfl ?_ | refine S_pass rfl rfl rfl ?_)
        exact ⟨(), trivial, Sub.cons rfl (Sub.cons rfl (Sub.cons rfl (Sub.cons rfl (Sub.cons rfl (Sub.cons_eq rfl (congrArg Value.bool (decide_eq_true ⟨h1, .inl h2⟩).symm) Sub.nil))))), fun _ h => h⟩
      · have hmw : IntKind.u64.wrap most = most := IntWalk.u64_in _ (by omega)
        repeat (first | refine S_nil ?_ | refine S_pure tabOk rfl ?_)
        exact ⟨(), trivial, Sub.cons rfl (Sub.cons rfl (Sub.cons rfl (Sub.cons rfl (Sub.cons rfl (Sub.cons_eq rfl (congrArg Value.bool (dec_eq (by rw [hmw]; exact ⟨fun h => ⟨h1, .inr h⟩, fun h => h.2.resolve_left h2⟩))) Sub.nil))))), fun _ h => h⟩
    · repeat (first | refine S_nil ?_ | refine S_pure tabOk rfl ?_ | refine S_pass rfl rfl rfl ?_)
      exact ⟨(), trivial, Sub.cons rfl (Sub.cons rfl (Sub.cons rfl (Sub.cons rfl (Sub.cons rfl (Sub.cons_eq rfl (congrArg Value.bool (decide_eq_false (fun h => h1 h.1)).symm) Sub.nil))))), fun _ h => h⟩
  rintro - -
  refine T_cond_dec rfl (fun h1 => ?_) (fun h1 => ?_)
  · have hr : rdB 0 (zs.drop j) most = (6, [], 0) := by
      unfold rdB
      rw [if_neg (by decide), hdec]
      dsimp only
      rw [if_neg (fun h => h h1.1), if_pos h1.2]
    rw [hr]
    repeat (first | refine T_draw (by kernel_rfl) (by kernel_rfl) ?_ | refine D_all rfl ?_ | refine D_pure tabOk rfl ?_ | refine D_pass rfl rfl rfl ?_ | refine T_seq ?_ | refine T_region ?_ | refine S_nil ?_ | refine S_pure tabOk rfl ?_)
    refine T_cond_f rfl ?_
    repeat (first | refine T_seq ?_ | refine T_region ?_ | refine S_nil ?_ | refine pthen_normal ?_ | refine T_skip ?_ | refine S_pure tabOk rfl ?_)
    refine T_cond_t rfl ?_
    repeat (first | refine T_seq ?_ | refine T_region ?_ | refine S_nil ?_ | refine pthen_ret ?_ | refine T_ret ?_ | refine S_pure tabOk rfl ?_ | refine S_store tabOk 0 rfl rfl rfl rfl rfl rfl ?_)
    exact ret1 rfl rfl (fun w' hw' => ⟨none, 0, rfl, hw'.nilRow _ _⟩)
  by_cases he : e1 = 0
  · subst he
    have h1' : ¬ (most < 0 ∨ most < (v : Int)) := fun hh => h1 ⟨rfl, hh⟩
    repeat (first | refine T_draw (by kernel_rfl) (by kernel_rfl) ?_ | refine D_all rfl ?_ | refine D_i64 tabOk rfl (by omega) ?_ | refine D_pure tabOk rfl ?_ | refine D_load tabOk 0 rfl rfl rfl ?_ | refine T_seq ?_ | refine pthen_normal ?_ | refine T_skip ?_)
    refine T_cond_dec rfl (fun h2 => ?_) (fun h2 => ?_)
    · rw [IntWalk.u64_in _ (by omega)] at h2
      have hr : rdB 0 (zs.drop j) most = (2, [], 0) := by
        unfold rdB
        rw [if_neg (by decide), hdec]
        dsimp only
        rw [if_neg (by decide), if_neg h1', if_pos (by omega)]
      rw [hr]
      repeat (first | refine T_seq ?_ | refine T_region ?_ | refine S_nil ?_ | refine S_pure tabOk rfl ?_)
      refine T_cond_t rfl ?_
      repeat (first | refine T_seq ?_ | refine T_region ?_ | refine S_nil ?_ | refine pthen_ret ?_ | refine T_ret ?_ | refine S_pure tabOk rfl ?_ | refine S_store tabOk 0 rfl rfl rfl rfl rfl rfl ?_)
      exact ret1 rfl rfl (fun w' hw' => ⟨none, 0, rfl, hw'.nilRow _ _⟩)
    · rw [IntWalk.u64_in _ (by omega)] at h2
      have hr : rdB 0 (zs.drop j) most = (0, ((zs.drop j).drop u).take v, u + v) := by
        unfold rdB
        rw [if_neg (by decide), hdec]
        dsimp only
        rw [if_neg (by decide), if_neg h1', if_neg (by omega)]
      rw [hr]
      dsimp only
      rw [List.drop_drop]
      have hcap := hw.cap
      have hrl : ((zs.drop (j + u)).take v).length = v := by rw [List.length_take, List.length_drop]; omega
      repeat (first | refine T_seq ?_ | refine T_region ?_ | refine S_nil ?_ | refine pthen_normal ?_ | refine T_skip ?_ | refine S_pure tabOk rfl ?_)
      refine T_cond_f rfl ?_
      repeat (first | refine T_seq ?_ | refine pthen_normal ?_ | refine T_skip ?_)
      refine T_drawT (by kernel_rfl) 20 rfl (by kernel_rfl) ?_
      repeat (first | refine D_i64 tabOk rfl (by omega) ?_ | refine D_pure tabOk rfl ?_ | refine D_load tabOk 0 rfl rfl rfl ?_)
      refine D_q ((Q_slice (sz := 1) tabOk (L := j + u) (H := j + u + v) (M := c) rfl rfl rfl rfl rfl (by simp) rfl rfl rfl rfl (by omega) (by omega) rfl (by omega) (by omega) (Nat.le_refl _) (by simp)).eq (v' := .slice (if c = j + u then a else a.map (·.add ((j + u) * 1))) v (c - (j + u))) (by rw [Nat.add_sub_cancel_left])) ?_
      repeat (first | refine D_all rfl ?_)
      refine S_bslice tabOk rfl rfl rfl rfl rfl rfl rfl rfl rfl rfl rfl rfl (fun b2 hb2 => ?_)
      refine S_callrow rfl Try.call30 (fun w1 h1 => join1_ok _ v _ ((zs.drop (j + u)).take v) b2 _ _ w1 ?_ (h1.own _ (getE_mem (i := 0) rfl)) (by omega)) (fun a3 c3 hc3 hd3 => ?_)
      · have g1 := h1.drop (fun _ k hk => by simp only [HE.has, Option.some.injEq] at hk; omega)
        exact ((rin hw hap g1).drop (j := j + u) (by omega)).take (j := v) (by omega)
      repeat (first | refine T_seq ?_ | refine T_region ?_ | refine S_nil ?_ | refine T_ret ?_ | refine S_i64 tabOk rfl (by omega) ?_ | refine S_pure tabOk rfl ?_ | refine S_load tabOk 2 rfl rfl rfl ?_ | refine S_store tabOk 2 rfl rfl rfl rfl rfl rfl ?_)
      exact ret1 rfl rfl (fun w' hw' => ⟨a3, c3, rfl, (hw'.perm (List.Perm.swap _ _ _)).drop (fun _ k hk => by simp only [HE.has, Option.some.injEq] at hk; omega)⟩)
  · have hr : rdB 0 (zs.drop j) most = (e1, [], 0) := by
      unfold rdB
      rw [if_neg (by decide), hdec]
      dsimp only
      rw [if_pos he]
    rw [hr]
    repeat (first | refine T_draw (by kernel_rfl) (by kernel_rfl) ?_ | refine D_pure tabOk rfl ?_ | refine T_seq ?_ | refine pthen_normal ?_ | refine T_skip ?_)
    refine D_re 41 rfl (congrArg Value.bool (decide_eq_false he)) ?_
    repeat (first | refine D_all rfl ?_ | refine D_pure tabOk rfl ?_ | refine D_pass rfl rfl rfl ?_)
    refine T_cond_f rfl ?_
    repeat (first | refine T_seq ?_ | refine T_region ?_ | refine S_nil ?_ | refine pthen_normal ?_ | refine T_skip ?_ | refine S_pure tabOk rfl ?_)
    refine T_cond_dt rfl he ?_
    repeat (first | refine T_seq ?_ | refine T_region ?_ | refine S_nil ?_ | refine pthen_ret ?_ | refine T_ret ?_ | refine S_pure tabOk rfl ?_ | refine S_store tabOk 0 rfl rfl rfl rfl rfl rfl ?_)
    exact ret1 rfl rfl (fun w' hw' => ⟨none, 0, rfl, hw'.nilRow _ _⟩)

end Go.Proofs.Ytnefhhoijonnaaa
