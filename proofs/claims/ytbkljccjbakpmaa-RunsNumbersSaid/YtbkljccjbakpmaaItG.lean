/-
  slices.Clone, slices.Compact at uint64. Conditions: each theorem's own.
-/
import Derived.Test.YtbkljccjbakpmaaSrG
namespace Go.Proofs.Ytbkljccjbakpmaa
open Go Go.RowKit Go.Sort
set_option linter.unusedVariables false

theorem cloneU_ok (a : Option Addr) (n c : Nat) (l : List Int) (w : World) (h : Sl w 1 a n (l.map (.int .u64))) (hnil : a = none → n = 0) (hn : n ≤ 1000000) :
    Calls Try.prog 5 #[.slice a n c] w fun e w' => ∃ a c, e = .returned (.slice a n c) ∧ Below w.heap.size w w' ∧ w'.ownsRow w.heap.size 25 1 (.slice a n c) n (l.map (.int .u64)) := by
  refine enter1 Try.func5 rfl rfl (Hp.refl w) ?_
  repeat (first | refine T_seq ?_ | refine T_region ?_ | refine S_nil ?_ | refine S_pure tabOk rfl ?_)
  refine S_q (Q_eqnil tabOk rfl rfl rfl rfl rfl) ?_
  cases a with
  | none =>
    have h0 := hnil rfl
    subst h0
    have hl0 : l = [] := by
      have := h.len
      rw [List.length_map, Nat.zero_mul] at this
      exact List.eq_nil_of_length_eq_zero this
    subst hl0
    repeat (first | refine T_seq ?_ | refine T_region ?_ | refine S_nil ?_ | refine pthen_ret ?_ | refine T_ret ?_ | refine T_cond_t rfl ?_ | refine S_pure tabOk rfl ?_)
    exact ret1 rfl rfl (fun w' hw => ⟨none, 0, rfl, hw.below new_nil, World.ownsRow_nil w' _ _ _⟩)
  | some ad =>
    repeat (first | refine T_seq ?_ | refine T_region ?_ | refine S_nil ?_ | refine pthen_normal ?_ | refine T_skip ?_ | refine T_cond_f rfl ?_)
    refine S_bslice tabOk rfl rfl rfl rfl rfl rfl rfl rfl rfl rfl rfl rfl (fun b2 hb2 => ?_)
    repeat (first | refine S_pure tabOk rfl ?_)
    refine S_heap (ol' := [.row w.heap.size (.slice (some ⟨b2, 0, none⟩) 0 0) 25 1 0 []]) (fun w' h => Hp.closeRow (pre := []) (n := 0) (c := 0) h hb2 (by decide) (by decide) rfl) ?_
    refine S_append (ty := 0) tabOk 0 rfl rfl rfl rfl rfl rfl rfl rfl rfl (by decide) (fun w' hw => h.ext (hw.below (newrow hw 0 rfl (Nat.le_refl _) new_nil))) (fun u hu => by obtain ⟨x, _, rfl⟩ := List.mem_map.1 hu; rfl) (by simp only [maxLen]; omega) (by show (_ + _) * 8 ≤ _; omega) rfl (fun A' c' h1 h2 => ⟨_, rfl, ?_⟩)
    repeat (first | refine S_nil ?_ | refine T_ret ?_ | refine S_pure tabOk rfl ?_)
    rw [List.nil_append, Nat.zero_add]
    exact ret1 rfl rfl (fun w' hw => ⟨A', c', rfl, hw.below (newrow hw 0 rfl (Nat.le_refl _) new_nil), hw.own _ (getE_mem (i := 0) rfl)⟩)

section
variable {P : Program} {tb : Tab} {n : Nat} {w0 : World} {all : Array Oper} {os : List Oper} {o : Oper} {l : FL} {ol : OL} {K : FL → OL → Prop} {Q : Post} {d : Nat}
/-- clear of m elements -/
theorem S_clearN (ht : TabOk P tb) (j : Nat) {t e E : TypeId} {x : Operand} {g off c m : Nat} {cs cs' zs : List Value} {ti te : TI} {ol' : OL}
    (hdst : o.dst = none) (hg : gd all (look l) o.guard = some true) (hop : o.op = .call ⟨.builtin .clear, #[x], #[t]⟩) (hx : ev (look l) x = some (.slice (some ⟨g, off, none⟩) m c))
    (hi : getE ol j = some (.blk g (.cells ⟨cs⟩ E (0, 0)) true)) (hti : tl tb t = some ti) (hd : ti.desc = .slice e) (hte : tl tb e = some te) (hzs : (Builtin.zeroCells te.zero.cells m).toList = zs) (h1 : ∀ u ∈ zs, u.oneCell' = true)
    (hm : setMany cs off zs = some cs') (hpos : 0 < m) (hput : putE ol j (.blk g (.cells ⟨cs'⟩ E (0, 0)) true) = some ol') (kk : S P n w0 all os l ol' K Q) : S P n w0 all (o :: os) l ol K Q := by
  obtain ⟨m, rfl⟩ : ∃ m', m = m' + 1 := ⟨m - 1, by omega⟩
  refine ⟨fun ac w hf hh => ?_⟩
  obtain ⟨inf, hinf, hz, hs1, hs2⟩ := (ht e te hte).2
  have hu := ht.under' hti
  rw [hd] at hu
  have hb : w.heap[g]? = some (.cells ⟨cs⟩ E (0, 0)) := hh.own _ (getE_mem hi)
  obtain ⟨hle, hcs⟩ := setMany_eq hm
  have h3 := run_storeCells_at P g off E zs 0 ⟨cs⟩ w hb (by simpa using hle) h1
  simp only [Nat.add_zero] at h3
  have hc2 : (cs.take off ++ (zs ++ cs.drop (off + zs.length))).toArray = (⟨cs'⟩ : Array Value) := by rw [hcs, List.append_assoc]
  obtain ⟨pre, post, e1, e2⟩ := putE_eq hi hput
  have hzv : (zeroValue e).run P w = .ok te.zero w := by simp [zeroValue, typeInfo, hinf, hz]
  refine wpList_run (v := .tuple #[]) (gd_wanted hf.rd hg) ?_ ?_ (w' := w.setRow g ⟨cs'⟩)
  · unfold execOp
    simp [hop, resolve, invoke, builtin, hf.rd.ev hx, Builtin.clear_, run_underlying hu, hzv, hzs, h3, hc2]
  · rw [hdst]
    refine kk.out _ _ hf ?_
    rw [e1] at hh
    rw [e2]
    exact hh.setRow rfl
end
theorem zeroU (m : Nat) : (Builtin.zeroCells (Value.int .u64 0).cells m).toList = List.replicate m (.int .u64 0) := by
  have e : (Value.int .u64 0).cells = #[.int .u64 0] := rfl
  rw [e]
  unfold Builtin.zeroCells
  apply List.ext_getElem
  · simp
  · intro i h1 h2
    simp [Nat.mod_one]
theorem setMany_some : ∀ {cs : List Value} {off : Nat} {vs : List Value}, off + vs.length ≤ cs.length → setMany cs off vs = some (cs.take off ++ vs ++ cs.drop (off + vs.length))
  | cs, 0, [], h => by cases cs <;> simp [setMany]
  | c :: cs, 0, v :: vs, h => by
    have h2 : 0 + vs.length ≤ cs.length := by simp at h ⊢; omega
    simp only [setMany, setMany_some h2]
    simp
  | c :: cs, k + 1, vs, h => by
    have h2 : k + vs.length ≤ cs.length := by simp at h ⊢; omega
    simp only [setMany, setMany_some h2]
    simp [show k + 1 + vs.length = k + vs.length + 1 by omega]
  | [], 0, v :: vs, h => by simp at h
  | [], k + 1, vs, h => by simp at h

/-- Of the first k + 1 those that differ from the one ahead. -/
def ddA (d : Array Int) : Nat → List Int
  | 0 => [d[0]!]
  | k + 1 => ddA d k ++ if d[k + 1]! = d[k]! then [] else [d[k + 1]!]
theorem ddA_take {d : Array Int} : ∀ {k : Nat}, k < d.size → (∀ j, 1 ≤ j → j ≤ k → d[j]! ≠ d[j - 1]!) → ddA d k = d.toList.take (k + 1)
  | 0, hk, _ => by
    rw [List.take_succ_eq_append_getElem (by simpa using hk)]
    simp [ddA, Array.getElem!_eq_getD, Array.getD_eq_getD_getElem?, Array.getElem?_eq_getElem hk]
  | k + 1, hk, h => by
    rw [ddA, ddA_take (k := k) (by omega) (fun j h1 h2 => h j h1 (by omega)), if_neg (show d[k + 1]! ≠ d[k]! from h (k + 1) (by omega) (Nat.le_refl _)), List.take_succ_eq_append_getElem (i := k + 1) (by simpa using hk)]
    simp [Array.getElem!_eq_getD, Array.getD_eq_getD_getElem?, Array.getElem?_eq_getElem hk]
theorem ddA_len {d : Array Int} : ∀ {k : Nat}, (ddA d k).length ≤ k + 1
  | 0 => by simp [ddA]
  | k + 1 => by
    have := ddA_len (d := d) (k := k)
    unfold ddA
    split <;> simp <;> omega
theorem take_setBang {d : Array Int} {k : Nat} {x : Int} {l : List Int} (h : d.toList.take k = l) (hk : k < d.size) : (d.setIfInBounds k x).toList.take (k + 1) = l ++ [x] := by
  rw [Array.toList_setIfInBounds, List.take_succ_eq_append_getElem (by simpa using hk), List.take_set_of_le (Nat.le_refl _), h, List.getElem_set_self]
theorem set_get {d : Array Int} {k j : Nat} {x : Int} (h : j ≠ k) : (d.setIfInBounds k x)[j]! = d[j]! := by
  rw [Array.getElem!_eq_getD, Array.getElem!_eq_getD, Array.getD_eq_getD_getElem?, Array.getD_eq_getD_getElem?, Array.getElem?_setIfInBounds_ne (Ne.symm h)]
theorem uA_set {d : Array Int} {junk : List Value} {k : Nat} {x : Int} (h : k < d.size) : (uA d junk).set k (.int .u64 x) = uA (d.setIfInBounds k x) junk := by
  rw [List.set_append_left _ _ (by simpa using h), ← List.map_set, uA, Array.toList_setIfInBounds]
structure CpI where
  k : Nat
  j : Nat
  d : Array Int
set_option maxHeartbeats 4000000 in
theorem compact_ok {w0 w : World} {g c n : Nat} {d0 : Array Int} {junk : List Value} {rest : OL} (h : Hp w0 w (uE g 25 d0 junk :: rest)) (hn : d0.size = n) (hm : n ≤ 65535) (h2 : 2 ≤ n) (hcap : n ≤ c) :
    Calls Try.prog 8 #[.slice (some ⟨g, 0, none⟩) n c] w fun e w' => ∃ m d, e = .returned (.slice (some ⟨g, 0, none⟩) m c) ∧ m ≤ n ∧ d.size = n ∧ d.toList.take m = ddA d0 (n - 1) ∧ (ddA d0 (n - 1)).length = m ∧ Hp w0 w' (uE g 25 d junk :: rest) := by
  refine enterW1 Try.func8 rfl rfl h ?_
  repeat (first | refine T_seq ?_ | refine T_region ?_ | refine S_nil ?_ | refine S_pure tabOk rfl ?_)
  refine T_cond_dec rfl (fun h => absurd h (by omega)) (fun _ => ?_)
  repeat (first | refine T_seq ?_ | refine T_region ?_ | refine T_block ?_ | refine S_nil ?_ | refine pthen_normal ?_ | refine T_skip ?_ | refine S_pure tabOk rfl ?_)
  refine T_loop (ι := Nat) (fun i => [(0, .slice (some ⟨g, 0, none⟩) n c), (3, .int .i64 (i : Int))]) (fun _ => uE g 25 d0 junk :: rest) (fun i => 1 ≤ i ∧ i ≤ n ∧ ∀ j, 1 ≤ j → j < i → d0[j]! ≠ d0[j - 1]!) (fun i => n - i) 1 ⟨Nat.le_refl _, by omega, fun j h1 h2 => by omega⟩ (by repeat (first | exact Sub.nil | refine Sub.cons rfl ?_)) (fun _ hw => hw) ?_
  rintro k ⟨hk1, hk, hne⟩
  try dsimp only at hk1 hk hne ⊢
  repeat (first | refine T_seq ?_ | refine T_region ?_ | refine S_nil ?_ | refine S_pure tabOk rfl ?_)
  refine T_cond_dec rfl (fun hlt => ?_) (fun hlt => ?_)
  rotate_left
  · repeat (first | refine T_seq ?_ | refine T_region ?_ | refine S_nil ?_ | refine pthen_normal ?_ | refine inb_hit ?_ | refine pthen_exit ?_ | refine T_ret ?_ | refine T_exit ?_ | refine S_pure tabOk rfl ?_)
    have hkn : k = n := by omega
    subst hkn
    have e1 : ddA d0 (k - 1) = d0.toList := by
      rw [ddA_take (by omega) (fun j h3 h4 => hne j h3 (by omega)), show k - 1 + 1 = k by omega, List.take_of_length_le (by simp [hn])]
    exact ret1 rfl rfl (fun w' hw => ⟨k, d0, rfl, Nat.le_refl _, hn, by rw [e1, List.take_of_length_le (by simp [hn])], by rw [e1]; simpa using hn, hw⟩)
  repeat (first | refine T_draw (by kernel_rfl) (by kernel_rfl) ?_ | refine D_pure tabOk rfl ?_ | refine T_seq ?_ | refine T_block ?_ | refine pthen_normal ?_ | refine T_skip ?_)
  refine D_q (Q_idx1 tabOk rfl rfl rfl rfl rfl rfl rfl (j := k) (by omega) (by omega)) ?_
  refine D_load1 tabOk rfl rfl (v := .int .u64 d0[k]!) (fun w' hw => blkc hw (uA_get (by omega))) ?_
  repeat (first | refine D_i64 tabOk rfl (by omega) ?_ | refine D_pure tabOk rfl ?_)
  refine D_q (Q_idx1 tabOk rfl rfl rfl rfl rfl rfl rfl (j := (k - 1)) (by omega) (by omega)) ?_
  refine D_load1 tabOk rfl rfl (v := .int .u64 d0[k - 1]!) (fun w' hw => blkc hw (uA_get (by omega))) ?_
  repeat (first | refine D_all rfl ?_ | refine D_pure tabOk rfl ?_)
  refine T_cond_dec rfl (fun heq => ?_) (fun heq => ?_)
  rotate_left
  · repeat (first | refine T_region ?_ | refine S_nil ?_ | refine pthen_normal ?_ | refine inb_normal ?_ | refine T_skip ?_ | refine S_i64 tabOk rfl (by omega) ?_ | refine S_pure tabOk rfl ?_)
    exact ⟨k + 1, ⟨by omega, by omega, fun j h3 h4 => by
      rcases Nat.lt_or_ge j k with h5 | h5
      · exact hne j h3 h5
      · have : j = k := by omega
        subst this; exact heq⟩, by repeat (first | exact Sub.nil | refine Sub.cons rfl ?_), fun _ h => h, by omega⟩
  have hkc : ¬ c = k := by omega
  repeat (first | refine T_seq ?_ | refine T_region ?_ | refine S_pure tabOk rfl ?_)
  refine S_q ((Q_sliceFrom tabOk rfl rfl rfl rfl rfl rfl rfl (L := k) (sz := 1) rfl (by omega) (by omega)).eq (v' := .slice (some ⟨g, k, none⟩) (n - k) (c - k)) (by rw [if_neg hkc]; simp [Addr.add_lit])) ?_
  repeat (first | refine T_seq ?_ | refine T_region ?_ | refine T_block ?_ | refine S_nil ?_ | refine S_pure tabOk rfl ?_)
  have hd1 : ddA d0 k = ddA d0 (k - 1) := by
    obtain ⟨j, rfl⟩ : ∃ j, k = j + 1 := ⟨k - 1, by omega⟩
    rw [Nat.add_sub_cancel] at heq ⊢
    rw [ddA, if_pos heq, List.append_nil]
  have ht1 : d0.toList.take k = ddA d0 k := by
    rw [hd1, ddA_take (by omega) (fun j h3 h4 => hne j h3 (by omega)), show k - 1 + 1 = k by omega]
  refine T_loop (ι := CpI) (fun i => [(0, .slice (some ⟨g, 0, none⟩) n c), (3, .int .i64 (i.k : Int)), (4, .slice (some ⟨g, k, none⟩) (n - k) (c - k)), (5, .int .i64 (i.j : Int))]) (fun i => uE g 25 i.d junk :: rest)
    (fun i => 1 ≤ i.j ∧ i.j ≤ n - k ∧ i.k ≤ k + i.j - 1 ∧ k ≤ i.k ∧ i.d.size = n ∧ i.d.toList.take i.k = ddA d0 (k + i.j - 1) ∧ (ddA d0 (k + i.j - 1)).length = i.k ∧ ∀ x, k + i.j - 1 ≤ x → i.d[x]! = d0[x]!) (fun i => n - k - i.j)
    ⟨k, 1, d0⟩ ⟨Nat.le_refl _, by dsimp only; omega, by dsimp only; omega, Nat.le_refl _, hn, by simpa using ht1, by dsimp only; rw [show k + 1 - 1 = k by omega, ← ht1]; simp [hn]; omega, fun x _ => rfl⟩ (by repeat (first | exact Sub.nil | refine Sub.cons rfl ?_)) (fun _ hw => hw) ?_
  rintro ⟨q, j, d⟩ ⟨hj1, hj, hqj, hkq, hd, htk, hlk, hsame⟩
  dsimp only at hj1 hj hqj hkq hd htk hlk hsame ⊢
  repeat (first | refine T_seq ?_ | refine T_region ?_ | refine S_nil ?_ | refine S_pure tabOk rfl ?_)
  refine T_cond_dec rfl (fun hjl => ?_) (fun hjl => ?_)
  · repeat (first | refine T_draw (by kernel_rfl) (by kernel_rfl) ?_ | refine D_pure tabOk rfl ?_ | refine T_seq ?_ | refine T_block ?_ | refine pthen_normal ?_ | refine T_skip ?_)
    refine D_q (Q_idx1 tabOk rfl rfl rfl rfl rfl rfl rfl (j := j) (by omega) (by omega)) ?_
    refine D_load1 tabOk rfl rfl (v := .int .u64 d0[k + j]!) (fun w' hw => by rw [← hsame (k + j) (by omega)]; have := blkc hw (uA_get (d := d) (junk := junk) (i := k + j) (by omega)); rwa [Nat.zero_add] at this) ?_
    repeat (first | refine D_i64 tabOk rfl (by omega) ?_ | refine D_pure tabOk rfl ?_)
    refine D_q (Q_idx1 tabOk rfl rfl rfl rfl rfl rfl rfl (j := (j - 1)) (by omega) (by omega)) ?_
    refine D_load1 tabOk rfl rfl (v := .int .u64 d0[k + (j - 1)]!) (fun w' hw => by rw [← hsame (k + (j - 1)) (by omega)]; have := blkc hw (uA_get (d := d) (junk := junk) (i := k + (j - 1)) (by omega)); rwa [Nat.zero_add] at this) ?_
    repeat (first | refine D_all rfl ?_ | refine D_pure tabOk rfl ?_)
    have e1 : k + (j + 1) - 1 = k + j - 1 + 1 := by omega
    have e2 : k + j - 1 + 1 = k + j := by omega
    have e3 : k + (j - 1) = k + j - 1 := by omega
    rw [e3]
    refine T_cond_dec rfl (fun hdf => ?_) (fun hdf => ?_)
    · have hdd : ddA d0 (k + (j + 1) - 1) = ddA d0 (k + j - 1) ++ [d0[k + j]!] := by
        rw [e1, ddA, e2, if_neg hdf]
      repeat (first | refine T_seq ?_ | refine T_region ?_ | refine S_pure tabOk rfl ?_)
      refine S_q (Q_idx1 tabOk rfl rfl rfl rfl rfl rfl rfl (j := j) (by omega) (by omega)) ?_
      refine S_load1 tabOk rfl rfl (v := .int .u64 d0[k + j]!) (fun w' hw => by rw [← hsame (k + j) (by omega)]; have := blkc hw (uA_get (d := d) (junk := junk) (i := k + j) (by omega)); rwa [Nat.zero_add] at this) ?_
      refine S_q (Q_idx1 tabOk rfl rfl rfl rfl rfl rfl rfl (j := q) (by omega) (by omega)) ?_
      refine S_store tabOk 0 rfl rfl rfl rfl (by rw [Nat.zero_add]; exact setMany_one (by simp; omega)) rfl ?_
      repeat (first | refine T_region ?_ | refine S_nil ?_ | refine pthen_normal ?_ | refine inb_normal ?_ | refine S_i64 tabOk rfl (by omega) ?_ | refine S_pure tabOk rfl ?_ | refine T_region_any ?_)
      refine ⟨⟨q + 1, j + 1, d.setIfInBounds q d0[k + j]!⟩, ⟨by dsimp only; omega, by dsimp only; omega, by dsimp only; omega, by dsimp only; omega, by simpa using hd, ?_, ?_, fun x hx => ?_⟩, by repeat (first | exact Sub.nil | refine Sub.cons rfl ?_), fun w' hw => by dsimp only at hw ⊢; rw [uA_set (by omega)] at hw; exact hw, by dsimp only; omega⟩
      · dsimp only
        rw [hdd]
        exact take_setBang htk (by omega)
      · dsimp only
        rw [hdd, List.length_append, hlk]
        rfl
      · dsimp only at hx ⊢
        rw [set_get (by omega)]
        exact hsame x (by omega)
    · have hdd : ddA d0 (k + (j + 1) - 1) = ddA d0 (k + j - 1) := by
        rw [e1, ddA, e2, if_pos (Decidable.not_not.1 hdf), List.append_nil]
      repeat (first | refine T_region ?_ | refine S_nil ?_ | refine pthen_normal ?_ | refine inb_normal ?_ | refine T_skip ?_ | refine S_i64 tabOk rfl (by omega) ?_ | refine S_pure tabOk rfl ?_)
      exact ⟨⟨q, j + 1, d⟩, ⟨by dsimp only; omega, by dsimp only; omega, by dsimp only; omega, hkq, hd, by dsimp only; rw [hdd]; exact htk, by dsimp only; rw [hdd]; exact hlk, fun x hx => hsame x (by dsimp only at hx; omega)⟩, by repeat (first | exact Sub.nil | refine Sub.cons rfl ?_), fun w' hw => hw, by dsimp only; omega⟩
  · have hjn : j = n - k := by omega
    subst hjn
    have hqc : ¬ c = q := by omega
    rw [show k + (n - k) - 1 = n - 1 by omega] at htk hlk
    repeat (first | refine T_seq ?_ | refine T_region ?_ | refine pthen_normal ?_ | refine inb_hit ?_ | refine pthen_exit ?_ | refine T_exit ?_ | refine S_pure tabOk rfl ?_)
    refine S_q ((Q_sliceFrom tabOk rfl rfl rfl rfl rfl rfl rfl (L := q) (sz := 1) rfl (by omega) (by omega)).eq (v' := .slice (some ⟨g, q, none⟩) (n - q) (c - q)) (by rw [if_neg hqc]; simp [Addr.add_lit])) ?_
    have hsm : setMany (uA d junk) q (List.replicate (n - q) (.int .u64 0)) = some (uA ⟨d.toList.take q ++ List.replicate (n - q) 0⟩ junk) := by
      rw [setMany_some (by simp; omega)]
      congr 1
      have e4 : (uA d junk).take q = (d.toList.take q).map (Value.int .u64) := by rw [List.take_append_of_le_length (by simp; omega), List.map_take]
      have e5 : (uA d junk).drop (q + (List.replicate (n - q) (Value.int .u64 0)).length) = junk := by rw [List.length_replicate, show q + (n - q) = n by omega, List.drop_append_of_le_length (by simp [hd]), List.drop_of_length_le (by simp [hd]), List.nil_append]
      rw [e4, e5]
      simp [uA]
    refine S_clearN tabOk 0 rfl rfl rfl rfl rfl rfl rfl rfl (zeroU (n - q)) (fun u hu => by rw [(List.mem_replicate.1 hu).2]; rfl) hsm (by omega) rfl ?_
    repeat (first | refine T_seq ?_ | refine T_region ?_ | refine S_nil ?_ | refine S_pure tabOk rfl ?_)
    refine S_q (Q_sliceTo tabOk rfl rfl rfl rfl rfl rfl (H := q) rfl (by omega)) ?_
    repeat (first | refine S_nil ?_ | refine inb_ret ?_ | refine pthen_ret ?_ | refine T_ret ?_ | refine S_pure tabOk rfl ?_)
    exact ret1 rfl rfl (fun w' hw => ⟨q, _, rfl, by omega, by simp; omega, by
      show (d.toList.take q ++ List.replicate (n - q) 0).take q = _
      rw [List.take_append_of_le_length (by simp; omega), List.take_take, Nat.min_self, htk], hlk, hw⟩)
end Go.Proofs.Ytbkljccjbakpmaa
