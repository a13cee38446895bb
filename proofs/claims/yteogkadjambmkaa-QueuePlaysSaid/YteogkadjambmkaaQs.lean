/-
  The document's queue: Takes, size, Bytes, Find. Conditions: each theorem's own. The document's queue: Put. Conditions: each theorem's own. (Made by genQrB.py.) The document's queue: Drop. Conditions: each theorem's own. (Made by genQrC.py.) The document's queue: Victims. Conditions: each theorem's own. (Made by genQrD.py.) The law's like: a queue reads as the document's. Conditions: each theorem's own. The law's do. Conditions: each theorem's own. (Made by genQrF.py.) The law QueuePlays: its walk. Conditions: each theorem's own.
  Conditions: each theorem's own.
-/
import Derived.Test.YteogkadjambmkaaQb
namespace Go.Proofs.Yteogkadjambmkaa
open Go Go.RowKit
set_option linter.unusedVariables false


abbrev RItem : Rep QE := Rpair (Rint .u64) Rspan
abbrev rqC (cap : Int) (aw : Option Addr) (nw cw : Nat) (al : Option Addr) (nl cl : Nat) (last : Int) : Obj := .cells ⟨[.int .i64 cap, .slice aw nw cw, .slice al nl cl, .int .u64 last]⟩ 80 (0, 0)
structure RqS (xb : Nat) (cap last : Int) (ws : List Int) (L : List QE) (aw : Option Addr) (cw : Nat) (al : Option Addr) (cl : Nat) (w : World) (A : Nat → Prop) : Prop where
  x : w.heap[xb]? = some (rqC cap aw ws.length cw al L.length cl last)
  ws : SlR (Rint .i64) w A aw ws.length cw ws
  L : SlR RItem w A al L.length cl L
  n : ¬ A xb
def rqA (xb : Nat) (cap last : Int) (ws : List Int) (L : List QE) : Vp :=
  ⟨fun w F _ => ∃ aw cw al cl, RqS xb cap last ws L aw cw al cl w (fun k => F k ∧ k ≠ xb) ∧ F xb,
   fun {w w' F G v} ⟨aw, cw, al, cl, h, h1⟩ hk => ⟨aw, cw, al, cl, ⟨((hk xb h1 (heap_lt h.x)).1).trans h.x, h.ws.keep fun k hA hlt => ⟨(hk k hA.1 hlt).1, (hk k hA.1 hlt).2, hA.2⟩, h.L.keep fun k hA hlt => ⟨(hk k hA.1 hlt).1, (hk k hA.1 hlt).2, hA.2⟩, fun h => h.2 rfl⟩, (hk xb h1 (heap_lt h.x)).2⟩⟩
section
variable {xb : Nat} {cap last : Int} {ws : List Int} {L : List QE} {aw : Option Addr} {cw : Nat} {al : Option Addr} {cl : Nat} {w : World} {A F : Nat → Prop}
theorem RqS.cell (h : RqS xb cap last ws L aw cw al cl w A) {w' : World} (hb : Below w.heap.size w w') {j : Nat} {u : Value} (hu : [Value.int .i64 cap, .slice aw ws.length cw, .slice al L.length cl, .int .u64 last][j]? = some u) : w'.cell? ⟨xb, j, none⟩ = some u := by
  have hj := (List.getElem?_eq_some_iff.1 hu).1
  have h1 : w'.heap[xb]? = _ := (hb.block xb (heap_lt h.x)).trans h.x
  exact (Sl.of_blk (n := 4) (sz := 1) (off := 0) (xs := [.int .i64 cap, .slice aw ws.length cw, .slice al L.length cl, .int .u64 last]) h1 rfl (fun j u hu => by rw [Nat.zero_add]; exact hu)).at_ (j := j) (by simp at hj; omega) hu |> fun h => by rwa [Nat.zero_add] at h
theorem rsize9_ok (k : Int) (a : Option Addr) (n c : Nat) (w : World) (hn : n ≤ 1073741824) : Calls Try.prog 73 #[.agg #[.int .i64 k, .slice a n c]] w fun e w' => e = .returned (.int .i64 ((n : Int) + 16)) ∧ Below w.heap.size w w' := by
  refine enter1 Try.func73 rfl rfl (Hp.refl w) ?_
  repeat (first | refine T_seq ?_ | refine T_region ?_)
  refine S_new tabOk rfl (fun b1 hb1 => ?_)
  repeat (first | refine T_seq ?_ | refine T_region ?_ | refine S_nil ?_ | refine T_ret ?_ | refine S_i64 tabOk rfl (by omega) ?_ | refine S_pure tabOk rfl ?_ | refine S_load tabOk 0 rfl rfl rfl ?_)
  exact ret1 rfl rfl (fun w' hw => ⟨rfl, hw.below (by repeat (first | exact new_nil | refine new_cons (by first | assumption | omega) ?_))⟩)
theorem rtakes9_ok (h : RqS xb cap last ws L aw cw al cl w A) (k : Int) (a : Option Addr) (n c : Nat) : Calls Try.prog 62 #[.pointer (some ⟨xb, 0, none⟩), .agg #[.int .i64 k, .slice a n c]] w fun e w' => e = .returned (.bool (sright k n && decide (k < (ws.length : Int)))) ∧ Below w.heap.size w w' := by
  refine enter2 Try.func62 rfl rfl (Hp.refl w) ?_
  repeat (first | refine T_seq ?_ | refine T_region ?_)
  refine S_new tabOk rfl (fun b3 hb3 => ?_)
  repeat (first | refine T_draw (by kernel_rfl) (by kernel_rfl) ?_ | refine D_load tabOk 0 rfl rfl rfl ?_ | refine T_seq ?_ | refine S_nil ?_ | refine S_pure tabOk rfl ?_)
  cases hr : sright k n with
  | true =>
    refine D_callx (v := .bool true) rfl Try.call74 (fun w' vs hw' h => by
      obtain ⟨u1, _, rfl, rfl, rfl⟩ := h
      exact (rfright_ok k a n c w').mono fun e w2 ⟨e1, e2⟩ => ⟨by rw [e1, hr], e2⟩) ?_
    repeat (first | refine D_pure tabOk rfl ?_ | refine D_load tabOk 0 rfl rfl rfl ?_)
    refine D_load1 tabOk (v := .slice aw ws.length cw) rfl rfl (fun w' hw => h.cell (hw.below (by repeat (first | exact new_nil | refine new_cons (by first | assumption | omega) ?_))) (j := 1) rfl) ?_
    repeat (first | refine D_all rfl ?_ | refine D_pure tabOk rfl ?_ | refine T_ret ?_)
    exact ret1 rfl rfl (fun w' hw => ⟨by rw [Bool.true_and], hw.below (by repeat (first | exact new_nil | refine new_cons (by first | assumption | omega) ?_))⟩)
  | false =>
    refine D_callx (v := .bool false) rfl Try.call74 (fun w' vs hw' h => by
      obtain ⟨u1, _, rfl, rfl, rfl⟩ := h
      exact (rfright_ok k a n c w').mono fun e w2 ⟨e1, e2⟩ => ⟨by rw [e1, hr], e2⟩) ?_
    repeat (first | refine D_all rfl ?_ | refine D_pure tabOk rfl ?_ | refine D_pass rfl rfl rfl ?_ | refine T_ret ?_)
    exact ret1 rfl rfl (fun w' hw => ⟨by rw [Bool.false_and], hw.below (by repeat (first | exact new_nil | refine new_cons (by first | assumption | omega) ?_))⟩)
/-- an item's cells -/
theorem item_at (h : SlR RItem w A al L.length cl L) {i : Nat} {x : QE} (hx : L[i]? = some x) : ∃ ab off a c, al = some ⟨ab, off, none⟩ ∧ ab < w.heap.size ∧ SlR (Rint .u8) w A a x.2.2.length c x.2.2 ∧ (∀ w', Below w.heap.size w w' → ∀ j u, [Value.int .u64 x.1, .int .i64 x.2.1, .slice a x.2.2.length c][j]? = some u → w'.cell? ⟨ab, off + i * 3 + j, none⟩ = some u) := by
  have hi := (List.getElem?_eq_some_iff.1 hx).1
  obtain ⟨ab, off, cs, e, hlt, hat, _, hce, _⟩ := h.get_ hi
  rw [List.getElem?_eq_getElem hi] at hx
  rw [Option.some.inj hx] at hat
  obtain ⟨_, _, rfl, ⟨rfl, _⟩, _, _, rfl, ⟨rfl, _⟩, a, n, c, rfl, hz⟩ := hat
  obtain rfl := hz.len
  exact ⟨ab, off, a, c, e, hlt, hz, fun w' hb j u hu => (World.cell?_of_block (w := w) (a := ⟨ab, off + i * 3 + j, none⟩) (hb.block ab hlt)).trans (hce j u hu)⟩
def rBy (L : List QE) (c : Int) : Int := if c < 0 then qSum L else ((L.filter fun x => decide (x.2.1 = c)).map sizeQ).sum
theorem rBy_snoc (L : List QE) (x : QE) (c : Int) : rBy (L ++ [x]) c = rBy L c + (if c < 0 ∨ x.2.1 = c then sizeQ x else 0) := by
  unfold rBy qSum
  by_cases h : c < 0
  · rw [if_pos h, if_pos h, if_pos (.inl h), List.map_append, List.sum_append]; simp
  · rw [if_neg h, if_neg h, List.filter_append, List.map_append, List.sum_append]
    by_cases h2 : x.2.1 = c
    · rw [if_pos (.inr h2), List.filter_cons_of_pos (by simp [h2])]; simp
    · rw [if_neg (by simp [h, h2]), List.filter_cons_of_neg (by simp [h2])]; simp
theorem rBy_nn (L : List QE) (c : Int) (h : ∀ x ∈ L, x.2.2.length ≤ 4096) : 0 ≤ rBy L c ∧ rBy L c ≤ (L.length : Int) * 4112 := by
  unfold rBy
  split
  · exact size_sum L h
  · have h1 := size_sum (L.filter fun x => decide (x.2.1 = c)) fun x hx => h x (List.mem_filter.1 hx).1
    have h2 := List.length_filter_le (fun x : QE => decide (x.2.1 = c)) L
    refine ⟨h1.1, Int.le_trans h1.2 ?_⟩
    omega
set_option maxHeartbeats 2000000 in
theorem rbytes9_ok (h : RqS xb cap last ws L aw cw al cl w A) (hl : ∀ x ∈ L, x.2.2.length ≤ 4096) (hn : L.length ≤ 1048576) (c : Int) : Calls Try.prog 63 #[.pointer (some ⟨xb, 0, none⟩), .int .i64 c] w fun e w' => e = .returned (.int .i64 (rBy L c)) ∧ Below w.heap.size w w' := by
  refine enter2 Try.func63 rfl rfl (Hp.refl w) ?_
  repeat (first | refine T_seq ?_ | refine T_region ?_ | refine S_nil ?_ | refine S_pure tabOk rfl ?_)
  refine S_load1 tabOk (v := .slice al L.length cl) rfl rfl (fun w' hw => h.cell (hw.below (by repeat (first | exact new_nil))) (j := 2) rfl) ?_
  repeat (first | refine T_block ?_ | refine S_nil ?_ | refine S_pure tabOk rfl ?_)
  refine T_loop (ι := Nat) (fun i => [(1, .int .i64 c), (11, .slice al L.length cl), (12, .int .i64 (L.length : Int)), (13, .int .i64 (i : Int)), (5, .int .i64 (rBy (L.take i) c))]) (fun _ => []) (fun i => i ≤ L.length) (fun i => L.length - i) 0 (Nat.zero_le _) (by
    rw [show rBy (L.take 0) c = 0 by unfold rBy qSum; split <;> rfl]
    repeat (first | exact Sub.nil | refine Sub.cons rfl ?_)) (fun _ hw => hw) ?_
  intro i hi
  have hb := rBy_nn (L.take i) c fun x hx => hl x (List.mem_of_mem_take hx)
  rw [List.length_take] at hb
  repeat (first | refine T_seq ?_ | refine T_region ?_ | refine S_nil ?_ | refine S_pure tabOk rfl ?_)
  refine T_cond_dec rfl (fun hlt => ?_) (fun hge => ?_)
  rotate_left
  · repeat (first | refine T_seq ?_ | refine T_region ?_ | refine S_nil ?_ | refine pthen_normal ?_ | refine inb_hit ?_ | refine pthen_exit ?_ | refine T_ret ?_ | refine T_exit ?_ | refine S_pure tabOk rfl ?_)
    have hie : i = L.length := by omega
    exact ret1 rfl rfl (fun w' hw => ⟨by rw [hie, List.take_length], hw.below (by repeat (first | exact new_nil))⟩)
  obtain ⟨x, hx⟩ : ∃ x, L[i]? = some x := ⟨_, List.getElem?_eq_getElem (by omega)⟩
  obtain ⟨ab, off, a0, c0, rfl, hlt2, hz, hce⟩ := item_at h.L hx
  have hx4 := hl x (List.mem_of_getElem? hx)
  have ht : L.take (i + 1) = L.take i ++ [x] := by
    rw [List.take_succ_eq_append_getElem (by omega)]
    rw [List.getElem?_eq_getElem (by omega)] at hx
    rw [Option.some.inj hx]
  have hsn := rBy_snoc (L.take i) x c
  rw [← ht] at hsn
  have hsx : sizeQ x = (x.2.2.length : Int) + 16 := rfl
  repeat (first | refine T_seq ?_ | refine T_region ?_ | refine T_block ?_ | refine pthen_normal ?_ | refine T_skip ?_)
  refine S_q (Q_idx (sz := 3) tabOk rfl rfl rfl rfl rfl rfl rfl (j := i) rfl (by omega)) ?_
  refine S_loadN tabOk (vs := [.int .u64 x.1, .int .i64 x.2.1, .slice a0 x.2.2.length c0]) rfl rfl rfl (fun w' hw jj u hu => by
    rw [Addr.add_lit]
    exact hce w' (hw.below (by repeat (first | exact new_nil))) jj u hu) ?_
  refine S_new tabOk rfl (fun b7 hb7 => ?_)
  repeat (first | refine T_seq ?_ | refine T_region ?_ | refine S_nil ?_ | refine S_pure tabOk rfl ?_ | refine S_store tabOk 0 rfl rfl rfl rfl rfl rfl ?_)
  by_cases hc1 : c < 0
  · refine S_re 19 (v' := .bool true) rfl (congrArg Value.bool (decide_eq_true hc1)) ?_
    rw [if_pos (.inl hc1)] at hsn
    repeat (first | refine S_nil ?_ | refine S_pure tabOk rfl ?_ | refine S_pass rfl rfl rfl ?_)
    refine T_cond_t rfl ?_
    repeat (first | refine S_pure tabOk rfl ?_ | refine T_region_any ?_ | refine S_load tabOk 0 rfl rfl rfl ?_)
    refine S_callq (v := .int .i64 ((x.2.2.length : Int) + 16)) rfl Try.call73 (fun w1 h1 => rsize9_ok x.2.1 a0 x.2.2.length c0 w1 (by omega)) ?_
    repeat (first | refine T_region ?_ | refine S_nil ?_ | refine pthen_normal ?_ | refine inb_normal ?_ | refine S_i64 tabOk rfl (by omega) ?_ | refine S_pure tabOk rfl ?_)
    exact ⟨i + 1, by omega, by rw [hsn, hsx]; repeat (first | exact Sub.nil | refine Sub.cons rfl ?_), fun w' hw => hw.less (by repeat (first | exact Less.nil | refine Less.dropB (by first | assumption | omega) ?_)), by omega⟩
  · refine S_re 19 (v' := .bool false) rfl (congrArg Value.bool (decide_eq_false hc1)) ?_
    repeat (first | refine S_nil ?_ | refine S_pure tabOk rfl ?_ | refine S_load tabOk 0 rfl rfl rfl ?_)
    refine T_cond_dec rfl (fun hc2 => ?_) (fun hc2 => ?_)
    · rw [if_pos (.inr hc2)] at hsn
      repeat (first | refine S_pure tabOk rfl ?_ | refine T_region_any ?_ | refine S_load tabOk 0 rfl rfl rfl ?_)
      refine S_callq (v := .int .i64 ((x.2.2.length : Int) + 16)) rfl Try.call73 (fun w1 h1 => rsize9_ok x.2.1 a0 x.2.2.length c0 w1 (by omega)) ?_
      repeat (first | refine T_region ?_ | refine S_nil ?_ | refine pthen_normal ?_ | refine inb_normal ?_ | refine S_i64 tabOk rfl (by omega) ?_ | refine S_pure tabOk rfl ?_)
      exact ⟨i + 1, by omega, by rw [hsn, hsx]; repeat (first | exact Sub.nil | refine Sub.cons rfl ?_), fun w' hw => hw.less (by repeat (first | exact Less.nil | refine Less.dropB (by first | assumption | omega) ?_)), by omega⟩
    · rw [if_neg (fun h => h.elim hc1 hc2)] at hsn
      repeat (first | refine T_region ?_ | refine S_nil ?_ | refine pthen_normal ?_ | refine inb_normal ?_ | refine T_skip ?_ | refine S_i64 tabOk rfl (by omega) ?_ | refine S_pure tabOk rfl ?_)
      exact ⟨i + 1, by omega, by rw [hsn, Int.add_zero]; repeat (first | exact Sub.nil | refine Sub.cons rfl ?_), fun w' hw => hw.less (by repeat (first | exact Less.nil | refine Less.dropB (by first | assumption | omega) ?_)), by omega⟩
/-- a number's place -/
def rPl (L : List QE) (n : Int) : Int := match L.findIdx? fun x => decide (x.1 = n) with
  | some i => (i : Int)
  | none => -1
set_option maxHeartbeats 2000000 in
theorem rfind9_ok (h : RqS xb cap last ws L aw cw al cl w A) (n : Int) : Calls Try.prog 71 #[.pointer (some ⟨xb, 0, none⟩), .int .u64 n] w fun e w' => e = .returned (.int .i64 (rPl L n)) ∧ Below w.heap.size w w' := by
  have hmx := h.L.max
  have hcp := h.L.cap
  simp only [maxLen] at hmx
  refine enter2 Try.func71 rfl rfl (Hp.refl w) ?_
  repeat (first | refine T_seq ?_ | refine T_region ?_ | refine S_nil ?_ | refine S_pure tabOk rfl ?_)
  refine S_load1 tabOk (v := .slice al L.length cl) rfl rfl (fun w' hw => h.cell (hw.below (by repeat (first | exact new_nil))) (j := 2) rfl) ?_
  repeat (first | refine T_block ?_ | refine S_nil ?_ | refine S_pure tabOk rfl ?_)
  refine T_loop (ι := Nat) (fun i => [(1, .int .u64 n), (10, .slice al L.length cl), (11, .int .i64 (L.length : Int)), (12, .int .i64 (i : Int))]) (fun _ => []) (fun i => i ≤ L.length ∧ ∀ j x, j < i → L[j]? = some x → x.1 ≠ n) (fun i => L.length - i) 0 ⟨Nat.zero_le _, fun j x h => absurd h (Nat.not_lt_zero _)⟩ (by repeat (first | exact Sub.nil | refine Sub.cons rfl ?_)) (fun _ hw => hw) ?_
  rintro i ⟨hi, hno⟩
  repeat (first | refine T_seq ?_ | refine T_region ?_ | refine S_nil ?_ | refine S_pure tabOk rfl ?_)
  refine T_cond_dec rfl (fun hlt => ?_) (fun hge => ?_)
  rotate_left
  · repeat (first | refine T_seq ?_ | refine T_region ?_ | refine S_nil ?_ | refine pthen_normal ?_ | refine inb_hit ?_ | refine pthen_exit ?_ | refine T_ret ?_ | refine T_exit ?_ | refine S_pure tabOk rfl ?_)
    have hie : i = L.length := by omega
    have hp : rPl L n = -1 := by
      unfold rPl
      rw [List.findIdx?_eq_none_iff.2 fun x hx => by
        obtain ⟨j, hj⟩ := List.mem_iff_getElem?.1 hx
        have := hno j x (by rw [hie]; exact (List.getElem?_eq_some_iff.1 hj).1) hj
        simpa using this]
    exact ret1 rfl rfl (fun w' hw => ⟨by rw [hp], hw.below (by repeat (first | exact new_nil))⟩)
  obtain ⟨x, hx⟩ : ∃ x, L[i]? = some x := ⟨_, List.getElem?_eq_getElem (by omega)⟩
  obtain ⟨ab, off, a0, c0, rfl, hlt2, hz, hce⟩ := item_at h.L hx
  repeat (first | refine T_seq ?_ | refine T_region ?_ | refine T_block ?_ | refine pthen_normal ?_ | refine T_skip ?_ | refine S_pure tabOk rfl ?_)
  refine S_q (Q_idx (sz := 3) tabOk rfl rfl rfl rfl rfl rfl rfl (j := i) rfl (by omega)) ?_
  refine S_loadN tabOk (vs := [.int .u64 x.1, .int .i64 x.2.1, .slice a0 x.2.2.length c0]) rfl rfl rfl (fun w' hw jj u hu => by
    rw [Addr.add_lit]
    exact hce w' (hw.below (by repeat (first | exact new_nil))) jj u hu) ?_
  refine S_new tabOk rfl (fun b6 hb6 => ?_)
  repeat (first | refine T_seq ?_ | refine T_region ?_ | refine S_nil ?_ | refine S_pure tabOk rfl ?_ | refine S_load tabOk 0 rfl rfl rfl ?_ | refine S_store tabOk 0 rfl rfl rfl rfl rfl rfl ?_)
  refine T_cond_dec rfl (fun heq => ?_) (fun hne => ?_)
  · repeat (first | refine T_seq ?_ | refine T_region ?_ | refine S_nil ?_ | refine inb_ret ?_ | refine pthen_ret ?_ | refine T_ret ?_ | refine S_pure tabOk rfl ?_)
    have hp : rPl L n = (i : Int) := by
      unfold rPl
      have : L.findIdx? (fun x => decide (x.1 = n)) = some i := by
        rw [List.findIdx?_eq_some_iff_getElem]
        refine ⟨by omega, ?_, fun j hj => ?_⟩
        · rw [List.getElem?_eq_getElem (by omega)] at hx
          rw [Option.some.inj hx]
          simpa using heq
        · have := hno j _ hj (List.getElem?_eq_getElem (by omega))
          simpa using this
      rw [this]
    exact ret1 rfl rfl (fun w' hw => ⟨by rw [hp], hw.below (by repeat (first | exact new_nil | refine new_cons (by first | assumption | omega) ?_))⟩)
  · repeat (first | refine T_region ?_ | refine S_nil ?_ | refine pthen_normal ?_ | refine inb_normal ?_ | refine T_skip ?_ | refine S_i64 tabOk rfl (by omega) ?_ | refine S_pure tabOk rfl ?_)
    refine ⟨i + 1, ⟨by omega, fun j y hj hy => ?_⟩, by repeat (first | exact Sub.nil | refine Sub.cons rfl ?_), fun w' hw => hw.less (by repeat (first | exact Less.nil | refine Less.dropB (by first | assumption | omega) ?_)), by omega⟩
    by_cases e : j = i
    · subst e
      rw [hx] at hy
      cases hy
      exact hne
    · exact hno j y (by omega) hy
end

theorem Sl.far {w0 w : World} {sz n : Nat} {a : Option Addr} {xs : List Value} (h : Sl w0 sz a n xs) (hk : ∀ b off, 0 < n → a = some ⟨b, off, none⟩ → w.heap[b]? = w0.heap[b]?) : Sl w sz a n xs :=
  ⟨h.len, fun hn => by
    obtain ⟨b, off, e, hlt, hc⟩ := h.get hn
    have h1 := hk b off hn e
    obtain ⟨o, ho⟩ : ∃ o, w0.heap[b]? = some o := ⟨_, Array.getElem?_eq_getElem hlt⟩
    exact ⟨b, off, e, heap_lt (h1.trans ho), fun j u hu => (World.cell?_of_block (w := w0) (a := ⟨b, off + j, none⟩) h1).trans (hc j u hu)⟩⟩
theorem far_of_new {w0 : World} {A : Nat → Prop} {ol : OL} (h : ∀ e ∈ ol, e.ex = true → ∀ k, e.has k → w0.heap.size ≤ k) : Far w0 A ol := fun e he hx k hk => .inl (h e he hx k hk)
section
variable {xb : Nat} {cap last : Int} {ws : List Int} {L : List QE} {aw : Option Addr} {cw : Nat} {al : Option Addr} {cl : Nat} {w w1 : World} {A F : Nat → Prop} {ol : OL}
theorem RqS.at1 (h : RqS xb cap last ws L aw cw al cl w A) {last2 : Int} (hw : Hp w w1 (.blk xb (rqC cap aw ws.length cw al L.length cl last2) true :: ol)) (hn : ∀ e ∈ ol, e.ex = true → ∀ k, e.has k → w.heap.size ≤ k) : RqS xb cap last2 ws L aw cw al cl w1 A :=
  ⟨hw.own _ List.mem_cons_self, h.ws.far hw (far_no h.n (far_of_new hn)), h.L.far hw (far_no h.n (far_of_new hn)), h.n⟩
theorem rq_same (h : (rqA xb cap last ws L).at_ w F (.bool true)) (hF : ∀ k, F k → k < w.heap.size) {o : Obj} (hw : Hp w w1 (.blk xb o true :: ol)) (ho : w.heap[xb]? = some o) (hn : ∀ e ∈ ol, e.ex = true → ∀ k, e.has k → w.heap.size ≤ k) : Turns w F (rqA xb cap last ws L) w1 := by
  have hsame : ∀ k, k < w.heap.size → w1.heap[k]? = w.heap[k]? := fun k hk => by
    by_cases e : k = xb
    · subst e
      have h1 : w1.heap[k]? = some o := hw.own _ List.mem_cons_self
      rw [h1, ho]
    · refine hw.old k hk fun e' he' hx hh => ?_
      rcases List.mem_cons.1 he' with rfl | he'
      · exact e (Option.some.inj hh).symm
      · have := hn e' he' hx k hh
        omega
  refine ⟨F, fun k hk => hk, fun k hk => .inl hk, ⟨hw.os, hw.tape, hw.output, hw.size, fun k hk _ => hsame k hk, fun e he => ?_, List.pairwise_singleton _ _⟩⟩
  rw [List.mem_singleton] at he
  subst he
  exact ⟨(rqA xb cap last ws L).keep h fun k hk hlt => ⟨hsame k hlt, hk⟩, Vp.loc (p := rqA xb cap last ws L), fun k hk => Nat.lt_of_lt_of_le (hF k hk) hw.size⟩
theorem rq_put (hS : RqS xb cap last ws L aw cw al cl w (fun k => F k ∧ k ≠ xb)) (hFx : F xb) (hF : ∀ k, F k → k < w.heap.size) {css : List (List Value)} (hcl : css.length = L.length) (hat : ∀ (i : Nat) (cs : List Value) (x : QE), css[i]? = some cs → L[i]? = some x → RItem.at_ w (fun k => F k ∧ k ≠ xb) cs x)
    (hold : ∀ {o : Obj} {w' : World} {ol' : OL}, Hp w w' (.blk xb o true :: ol') → (∀ e ∈ ol', e.ex = true → ∀ k, e.has k → w.heap.size ≤ k) → ∀ {b : Nat}, (F b ∧ b ≠ xb) → w'.heap[b]? = w.heap[b]?) {n k : Int} {zs : List Int} (hz : ∀ z ∈ zs, Fits .u8 z) (hn : 0 ≤ n ∧ n ≤ 18446744073709551615) (hk : 0 ≤ k ∧ k < 8) {a1 a2 : Option Addr} {c1 c2 : Nat}
    (hw : Hp w w1 [.blk xb (rqC cap aw ws.length cw a1 (L.length + 1) c1 n) true, .row w.heap.size (.slice a1 (L.length + 1) c1) 125 3 (L.length + 1) (css.flatten ++ [.int .u64 n, .int .i64 k, .slice a2 zs.length c2]), .row w.heap.size (.slice a2 zs.length c2) 5 1 zs.length (zs.map (.int .u8))]) : Turns w F (rqA xb cap n ws (L ++ [(n, k, zs)])) w1 := by
  have o0 : w1.heap[xb]? = _ := hw.own _ (getE_mem (i := 0) rfl)
  have o1 : w1.ownsRow w.heap.size 125 3 (.slice a1 (L.length + 1) c1) (L.length + 1) _ := hw.own _ (getE_mem (i := 1) rfl)
  have o2 : w1.ownsRow w.heap.size 5 1 (.slice a2 zs.length c2) zs.length (zs.map (.int .u8)) := hw.own _ (getE_mem (i := 2) rfl)
  have hxl := heap_lt hS.x
  have hold' : ∀ {b : Nat}, (F b ∧ b ≠ xb) → w1.heap[b]? = w.heap[b]? := hold hw (newrow hw 1 rfl (Nat.le_refl _) (newrow hw 2 rfl (Nat.le_refl _) new_nil))
  let F' : Nat → Prop := fun j => F j ∨ (Value.slice a1 (L.length + 1) c1).ownBlock = some j ∨ (Value.slice a2 zs.length c2).ownBlock = some j
  have hkeep : ∀ j, (F j ∧ j ≠ xb) → j < w.heap.size → w1.heap[j]? = w.heap[j]? ∧ (F' j ∧ j ≠ xb) := fun j hj _ => ⟨hold' hj, .inl hj.1, hj.2⟩
  have e1 : css.flatten ++ [Value.int .u64 n, .int .i64 k, .slice a2 zs.length c2] = (css ++ [[Value.int .u64 n, .int .i64 k, .slice a2 zs.length c2]]).flatten := by simp
  rw [e1] at o1
  have hlen : (L ++ [(n, k, zs)]).length = L.length + 1 := by simp
  have hbod : (Bod RItem (css ++ [[Value.int .u64 n, .int .i64 k, .slice a2 zs.length c2]]) (L ++ [(n, k, zs)])).at_ w1 (fun j => F' j ∧ j ≠ xb) (.bool true) := by
    refine Bod.snoc (v := .bool true) (⟨hcl, fun i cs x hi hx => RItem.keep (hat i cs x hi hx) hkeep⟩) ⟨[.int .u64 n], [.int .i64 k, .slice a2 zs.length c2], rfl, ⟨rfl, mk_u64 hn⟩, [.int .i64 k], [.slice a2 zs.length c2], rfl, ⟨rfl, mk_i64 (n := k) (by omega)⟩, a2, zs.length, c2, rfl, SlR.of_ints (ints_own o2 hz) fun b off h0 e => ?_⟩
    have hb : (Value.slice a2 zs.length c2).ownBlock = some b := by rw [e]; rfl
    have := (World.ownsRow.lt o2 b hb).1
    exact ⟨.inr (.inr hb), by omega⟩
  refine ⟨F', fun j hj => .inl hj, fun j hj => ?_, hw.widenM (fun e he j hj => ?_) ⟨aw, cw, a1, c1, ⟨by rw [hlen]; exact o0, hS.ws.keep hkeep, by
    rw [hlen]
    exact Bod.slr hbod o1 hlen fun j h1 h2 => ⟨.inr (.inl h2), by omega⟩, fun h => h.2 rfl⟩, .inl hFx⟩ (Vp.loc (p := rqA xb cap n ws (L ++ [(n, k, zs)]))) fun j hj => ?_⟩
  · rcases hj with h | h | h
    · exact .inl h
    · exact .inr (World.ownsRow.lt o1 j h).1
    · exact .inr (World.ownsRow.lt o2 j h).1
  · simp only [List.mem_cons, List.not_mem_nil, or_false] at he
    rcases he with rfl | rfl | rfl
    · rw [← Option.some.inj hj]; exact .inl hFx
    · exact .inr (.inl hj)
    · exact .inr (.inr hj)
  · rcases hj with h | h | h
    · exact Nat.lt_of_lt_of_le (hF j h) hw.size
    · exact (World.ownsRow.lt o1 j h).2
    · exact (World.ownsRow.lt o2 j h).2
set_option maxHeartbeats 8000000 in
theorem rput9_ok (h : (rqA xb cap last ws L).at_ w F (.bool true)) (hF : ∀ k, F k → k < w.heap.size) (hok : QOk cap last ws L) (hlen : L.length ≤ 65535) (hcap : 0 ≤ cap ∧ cap ≤ 1099511627776) {n k : Int} {a : Option Addr} {m c : Nat} {zs : List Int} (hn : 0 ≤ n ∧ n ≤ 18446744073709551615) {B : Nat → Prop} (hz : SlR (Rint .u8) w B a m c zs) (hB : ¬ B xb) :
    Calls Try.prog 61 #[.pointer (some ⟨xb, 0, none⟩), .int .u64 n, .agg #[.int .i64 k, .slice a m c]] w fun e w' => e = .returned (.int .i64 (qPut cap last ws L n k zs).1) ∧ Turns w F (rqA xb cap (qPut cap last ws L n k zs).2.1 ws (qPut cap last ws L n k zs).2.2) w' := by
  obtain ⟨aw, cw, al, cl, hS, hFx⟩ := h
  obtain rfl := hz.len
  have hl : ∀ x ∈ L, x.2.2.length ≤ 4096 := fun x hx => (hok.cls x hx).2.2.2
  have hsz := size_sum L hl
  have hqs : qSum L = (L.map sizeQ).sum := rfl
  have hlt := heap_lt hS.x
  refine enter3 Try.func61 rfl rfl (Hp.start true hS.x) ?_
  repeat (first | refine T_seq ?_ | refine T_region ?_)
  refine S_new tabOk rfl (fun b5 hb5 => ?_)
  repeat (first | refine T_seq ?_ | refine T_region ?_ | refine S_nil ?_ | refine S_pure tabOk rfl ?_ | refine S_load tabOk 0 rfl rfl rfl ?_)
  refine S_callq (v := .bool (sright k zs.length && decide (k < (ws.length : Int)))) rfl Try.call62 (fun w1 h1 => by
    have h9 := h1.pm [1, 0] rfl rfl rfl
    exact rtakes9_ok (hS.at1 h9 (new_cons hb5 new_nil)) k a zs.length c) ?_
  repeat (first | refine S_nil ?_ | refine S_pure tabOk rfl ?_)
  cases ht : (sright k zs.length && decide (k < (ws.length : Int))) with
  | false =>
    have hq : qPut cap last ws L n k zs = (1, last, L) := by unfold qPut; rw [if_neg (by rw [ht]; decide)]
    rw [hq]
    dsimp only
    refine T_cond_t rfl ?_
    repeat (first | refine T_seq ?_ | refine T_region ?_ | refine S_nil ?_ | refine pthen_ret ?_ | refine T_ret ?_ | refine S_pure tabOk rfl ?_)
    exact ret1 rfl rfl (fun w' hw => ⟨rfl, rq_same ⟨aw, cw, al, cl, hS, hFx⟩ hF (hw.pm [1, 0] rfl rfl rfl) hS.x (new_cons hb5 new_nil)⟩)
  | true =>
  refine T_cond_f rfl ?_
  repeat (first | refine T_seq ?_ | refine T_region ?_ | refine S_nil ?_ | refine pthen_normal ?_ | refine T_skip ?_ | refine S_pure tabOk rfl ?_ | refine S_load tabOk 1 rfl rfl rfl ?_)
  refine T_cond_dec rfl (fun hle => ?_) (fun hle => ?_)
  · have hq : qPut cap last ws L n k zs = (9, last, L) := by unfold qPut; rw [if_pos ht, if_pos hle]
    rw [hq]
    dsimp only
    repeat (first | refine T_seq ?_ | refine T_region ?_ | refine S_nil ?_ | refine pthen_ret ?_ | refine T_ret ?_ | refine S_pure tabOk rfl ?_)
    exact ret1 rfl rfl (fun w' hw => ⟨rfl, rq_same ⟨aw, cw, al, cl, hS, hFx⟩ hF (hw.pm [1, 0] rfl rfl rfl) hS.x (new_cons hb5 new_nil)⟩)
  have hr2 := ht
  unfold sright at hr2
  simp only [Bool.and_eq_true, decide_eq_true_eq] at hr2
  obtain ⟨⟨hk0, hk8, hz4⟩, hkw⟩ := hr2
  repeat (first | refine T_draw (by kernel_rfl) (by kernel_rfl) ?_ | refine D_pure tabOk rfl ?_ | refine T_seq ?_ | refine pthen_normal ?_ | refine T_skip ?_)
  refine D_callx (v := .int .i64 (qSum L)) rfl Try.call63 (fun w' vs hw' h => by
    obtain ⟨u1, _, rfl, rfl, u2, _, rfl, rfl, rfl⟩ := h
    have h9 := hw'.pm [1, 0] rfl rfl rfl
    have h8 := rbytes9_ok (hS.at1 h9 (new_cons hb5 new_nil)) hl (by omega) (-1)
    rw [show rBy L (-1) = qSum L from rfl] at h8
    exact h8) ?_
  repeat (first | refine D_load tabOk 0 rfl rfl rfl ?_)
  refine D_callx (v := .int .i64 ((zs.length : Int) + 16)) rfl Try.call73 (fun w' vs hw' h => by
    obtain ⟨u1, _, rfl, rfl, rfl⟩ := h
    exact rsize9_ok k a zs.length c w' (by omega)) ?_
  repeat (first | refine D_all rfl ?_ | refine D_i64 tabOk rfl (by omega) ?_ | refine D_pure tabOk rfl ?_ | refine D_load tabOk 1 rfl rfl rfl ?_)
  refine T_cond_dec rfl (fun hfu => ?_) (fun hfu => ?_)
  · have hq : qPut cap last ws L n k zs = (5, last, L) := by unfold qPut; rw [if_pos ht, if_neg hle, if_pos (by omega)]
    rw [hq]
    dsimp only
    repeat (first | refine T_seq ?_ | refine T_region ?_ | refine S_nil ?_ | refine pthen_ret ?_ | refine T_ret ?_ | refine S_pure tabOk rfl ?_)
    exact ret1 rfl rfl (fun w' hw => ⟨rfl, rq_same ⟨aw, cw, al, cl, hS, hFx⟩ hF (hw.pm [1, 0] rfl rfl rfl) hS.x (new_cons hb5 new_nil)⟩)
  have hq : qPut cap last ws L n k zs = (0, n, L ++ [(n, k, zs)]) := by unfold qPut; rw [if_pos ht, if_neg hle, if_neg (by omega)]
  rw [hq]
  dsimp only
  obtain ⟨css, hcl, hat, hsl⟩ := hS.L.each
  have hlb := hS.L.blk
  have hcone : ∀ u ∈ css.flatten, u.oneCell' = true := fun u hu => by
    obtain ⟨cs, hcs, hu2⟩ := List.mem_flatten.1 hu
    obtain ⟨i, hi⟩ := List.mem_iff_getElem?.1 hcs
    obtain ⟨x, hx⟩ : ∃ x, L[i]? = some x := ⟨_, List.getElem?_eq_getElem (by rw [← hcl]; exact (List.getElem?_eq_some_iff.1 hi).1)⟩
    obtain ⟨_, _, rfl, ⟨rfl, _⟩, _, _, rfl, ⟨rfl, _⟩, a9, n9, c9, rfl, _⟩ := hat i cs x hi hx
    simp only [List.cons_append, List.nil_append, List.mem_cons, List.not_mem_nil, or_false] at hu2
    rcases hu2 with rfl | rfl | rfl <;> rfl
  have hold : ∀ {o : Obj} {w' : World} {ol' : OL}, Hp w w' (.blk xb o true :: ol') → (∀ e ∈ ol', e.ex = true → ∀ k, e.has k → w.heap.size ≤ k) → ∀ {b : Nat}, (F b ∧ b ≠ xb) → w'.heap[b]? = w.heap[b]? := fun {o w' ol'} hw hn {b} hb => hw.old b (hF b hb.1) fun e he hx hh => by
    rcases List.mem_cons.1 he with rfl | he
    · exact hb.2 (Option.some.inj hh).symm
    · have := hn e he hx b hh
      have := hF b hb.1
      omega
  have hlb : ∀ b off, 0 < L.length → al = some ⟨b, off, none⟩ → F b ∧ b ≠ xb := fun b off h0 e => by
    obtain ⟨b', off', e', h9⟩ := hlb h0
    rw [e] at e'
    cases e'
    exact h9
  repeat (first | refine T_seq ?_ | refine T_region ?_ | refine S_nil ?_ | refine pthen_normal ?_ | refine T_skip ?_ | refine S_pure tabOk rfl ?_ | refine S_store tabOk 1 rfl rfl rfl rfl rfl rfl ?_)
  let lst : Bool → Bool → Bool → Bool → Bool → Bool → Bool → Bool → Bool → Value → Value → Value → (Nat) → Value → Value → Value → Value → Value → OL := fun l1 l6 l12 l13 l14 l15 l16 l17 l20 v1 v6 v12 g12 v13 v14 v15 v16 v17 =>
    .blk b5 (.cells ⟨[.int .i64 k, .slice a zs.length c]⟩ 115 (0, 0)) true :: .blk xb (.cells ⟨[.int .i64 cap, .slice aw ws.length cw, cond l20 v17 (.slice al L.length cl), .int .u64 n]⟩ 80 (0, 0)) true :: (cond l1 [.row w.heap.size (cond l17 v17 (cond l6 v6 v1)) 125 3 (cond l17 (L.length + 1) (cond l6 L.length 0)) (cond l17 (css.flatten ++ [.int .u64 n, .int .i64 k, v13]) (cond l6 css.flatten []))] [] ++ (cond l6 [factE (∃ A C, v6 = .slice A L.length C)] [] ++ (cond l12 [.blk g12 (.cells ⟨[.slice a zs.length c]⟩ 49 (0, 0)) true, factE (v12 = .slice (some ⟨g12, 0, none⟩) 1 1 ∧ w.heap.size ≤ g12)] [] ++ (cond l13 [.row w.heap.size v13 5 1 zs.length (zs.map (.int .u8))] [] ++ (cond l14 [factE (v14 = .agg ⟨[.int .i64 k, v13]⟩)] [] ++ (cond l15 [factE (v15 = .agg ⟨[.int .u64 n, .int .i64 k, v13]⟩)] [] ++ (cond l16 [.row w.heap.size v16 125 3 1 [.int .u64 n, .int .i64 k, v13]] [] ++ (cond l17 [factE (∃ A C, v17 = .slice A (L.length + 1) C)] []))))))))
  refine T_asThen ?_
  refine T_drawF (γ := Nat) (by kernel_rfl) (by kernel_rfl) 0 (fun Ld f => lst (Ld 1) (Ld 6) (Ld 12) (Ld 13) (Ld 14) (Ld 15) (Ld 16) (Ld 17) (Ld 20) (f 1).1 (f 6).1 (f 12).1 (f 12).2 (f 13).1 (f 14).1 (f 15).1 (f 16).1 (f 17).1) rfl [some (.pointer (some ⟨xb, 0, none⟩)), none, some (.pointer (some ⟨xb, 0, none⟩)), some (.pointer (some ⟨xb, 0, none⟩)), some (.pointer (some ⟨xb, 2, none⟩)), some (.slice al L.length cl), none, some (.int .u64 n), some (.pointer (some ⟨b5, 0, none⟩)), some (.int .i64 k), some (.pointer (some ⟨b5, 1, none⟩)), some (.slice a zs.length c), none, none, none, none, none, none, some (.pointer (some ⟨xb, 0, none⟩)), some (.pointer (some ⟨xb, 2, none⟩)), some (undef)] ?_ ?_
  · refine ⟨?_, ?_, ?_, ?_, ?_, ?_, ?_, ?_, ?_, ?_, ?_, ?_, ?_, ?_, ?_, ?_, ?_, ?_, ?_, ?_, ?_, trivial⟩
    · exact fun Ld f hc hl hp => OpA.told 0 rfl (D_pure tabOk rfl D_last) rfl
    · intro Ld f hc hl hp
      have h6 := closed_no hc (j := 6) rfl ⟨1, .data⟩ (by simp) rfl hl
      have h13 := closed_no hc (j := 13) rfl ⟨6, .chain⟩ (by simp) rfl h6
      have h14 := closed_no hc (j := 14) rfl ⟨13, .data⟩ (by simp) rfl h13
      have h15 := closed_no hc (j := 15) rfl ⟨14, .data⟩ (by simp) rfl h14
      have h16 := closed_no hc (j := 16) rfl ⟨15, .data⟩ (by simp) rfl h15
      have h17 := closed_no hc (j := 17) rfl ⟨6, .data⟩ (by simp) rfl h6
      have h20 := closed_no hc (j := 20) rfl ⟨1, .phase⟩ (by simp) rfl hl
      show OpA _ _ _ _ (lst (Ld 1) (Ld 6) (Ld 12) (Ld 13) (Ld 14) (Ld 15) (Ld 16) (Ld 17) (Ld 20) (f 1).1 (f 6).1 (f 12).1 (f 12).2 (f 13).1 (f 14).1 (f 15).1 (f 16).1 (f 17).1) (fun y => lst true (Ld 6) (Ld 12) (Ld 13) (Ld 14) (Ld 15) (Ld 16) (Ld 17) (Ld 20) y.1 (f 6).1 (f 12).1 (f 12).2 (f 13).1 (f 14).1 (f 15).1 (f 16).1 (f 17).1) _ _ _
      rw [hl, h6, h13, h14, h15, h16, h17, h20]
      cases hu12 : Ld 12 with
      | false =>
        refine OpA.ofS (l := []) rfl (by decide) .nil ?_
        refine S_bslice tabOk rfl rfl rfl rfl rfl rfl rfl rfl rfl rfl rfl rfl (fun nb hnb => ?_)
        refine S_heap (fun w' h => Hp.closeRow (pre := []) (n := 0) (c := 0) (sz := 3) h hnb (by decide) (by decide) rfl) ?_
        refine S_nil ?_
        exact ⟨_, 0, rfl, (fun u h => by cases h), fun w' hw => by have h9 := hw.pm [1, 2, 0] rfl rfl rfl; exact h9⟩
      | true =>
        refine OpA.ofS (l := []) rfl (by decide) .nil ?_
        refine S_bslice tabOk rfl rfl rfl rfl rfl rfl rfl rfl rfl rfl rfl rfl (fun nb hnb => ?_)
        refine S_heap (fun w' h => Hp.closeRow (pre := []) (n := 0) (c := 0) (sz := 3) h hnb (by decide) (by decide) rfl) ?_
        refine S_nil ?_
        exact ⟨_, 0, rfl, (fun u h => by cases h), fun w' hw => by have h9 := hw.pm [1, 2, 0, 3, 4] rfl rfl rfl; exact h9⟩
    · exact fun Ld f hc hl hp => OpA.told 0 rfl (D_pure tabOk rfl D_last) rfl
    · exact fun Ld f hc hl hp => OpA.told 0 rfl (D_pure tabOk rfl D_last) rfl
    · exact fun Ld f hc hl hp => OpA.told 0 rfl (D_pure tabOk rfl D_last) rfl
    · intro Ld f hc hl hp
      have h6 := closed_no hc (j := 6) rfl ⟨5, .data⟩ (by simp) rfl hl
      have h13 := closed_no hc (j := 13) rfl ⟨6, .chain⟩ (by simp) rfl h6
      have h14 := closed_no hc (j := 14) rfl ⟨13, .data⟩ (by simp) rfl h13
      have h15 := closed_no hc (j := 15) rfl ⟨14, .data⟩ (by simp) rfl h14
      have h16 := closed_no hc (j := 16) rfl ⟨15, .data⟩ (by simp) rfl h15
      have h17 := closed_no hc (j := 17) rfl ⟨6, .data⟩ (by simp) rfl h6
      have h20 := closed_no hc (j := 20) rfl ⟨5, .phase⟩ (by simp) rfl hl
      show OpA _ _ _ _ (lst (Ld 1) (Ld 6) (Ld 12) (Ld 13) (Ld 14) (Ld 15) (Ld 16) (Ld 17) (Ld 20) (f 1).1 (f 6).1 (f 12).1 (f 12).2 (f 13).1 (f 14).1 (f 15).1 (f 16).1 (f 17).1) (fun y => lst (Ld 1) (Ld 6) (Ld 12) (Ld 13) (Ld 14) (Ld 15) (Ld 16) (Ld 17) (Ld 20) (f 1).1 (f 6).1 (f 12).1 (f 12).2 (f 13).1 (f 14).1 (f 15).1 (f 16).1 (f 17).1) _ _ _
      rw [h6, h13, h14, h15, h16, h17, h20]
      exact OpA.told 0 rfl (D_load tabOk 1 rfl rfl rfl D_last) rfl
    · intro Ld f hc hl hp
      have h1 : Ld 1 = true := hp ⟨1, .data⟩ (by simp) rfl
      have h13 := closed_no hc (j := 13) rfl ⟨6, .chain⟩ (by simp) rfl hl
      have h14 := closed_no hc (j := 14) rfl ⟨13, .data⟩ (by simp) rfl h13
      have h15 := closed_no hc (j := 15) rfl ⟨14, .data⟩ (by simp) rfl h14
      have h16 := closed_no hc (j := 16) rfl ⟨15, .data⟩ (by simp) rfl h15
      have h17 := closed_no hc (j := 17) rfl ⟨6, .data⟩ (by simp) rfl hl
      have h20 := closed_no hc (j := 20) rfl ⟨6, .phase⟩ (by simp) rfl hl
      show OpA _ _ _ _ (lst (Ld 1) (Ld 6) (Ld 12) (Ld 13) (Ld 14) (Ld 15) (Ld 16) (Ld 17) (Ld 20) (f 1).1 (f 6).1 (f 12).1 (f 12).2 (f 13).1 (f 14).1 (f 15).1 (f 16).1 (f 17).1) (fun y => lst (Ld 1) true (Ld 12) (Ld 13) (Ld 14) (Ld 15) (Ld 16) (Ld 17) (Ld 20) (f 1).1 y.1 (f 12).1 (f 12).2 (f 13).1 (f 14).1 (f 15).1 (f 16).1 (f 17).1) _ _ _
      rw [hl, h1, h13, h14, h15, h16, h17, h20]
      cases hu12 : Ld 12 with
      | false =>
        refine OpA.pre (X := ∃ A C, (f 1).1 = .slice A 0 C) (fun w hw => ?_) (fun d h => by cases h; decide) ?_
        · obtain ⟨A, C, e2, _⟩ := hw.rowForm 2 rfl
          exact ⟨A, C, e2⟩
        · rintro ⟨A, C, e2⟩
          rw [e2]
          refine OpA.ofS (l := [(32, .slice A 0 C), (36, .slice al L.length cl)]) rfl (by decide) (.cons rfl (by show some (Ent.ex (f 1).1) = _; rw [e2]) (.cons rfl rfl .nil)) ?_
          refine S_append (ty := 0) (m := 0) (k := L.length) (xs := []) tabOk 2 (sz := 3) rfl rfl rfl rfl rfl rfl rfl rfl rfl (by decide) (fun w' h => hsl.far fun b off h0 e => ?_) hcone (by simp only [maxLen]; omega) (by show (_ + _) * 40 ≤ _; omega) rfl (fun A' c' h1 h2 => ⟨_, rfl, ?_⟩)
          · have h9 := h.pm [1, 0] rfl rfl rfl
            try have hg12 := (h.fact 4 rfl).2
            exact hold h9 (by repeat (first | exact new_nil | refine new_cons (by first | assumption | omega) ?_ | refine newrow h9 2 rfl (Nat.le_refl _) ?_)) (hlb b off h0 e)
          · rw [List.nil_append, Nat.zero_add]
            refine S_nil ?_
            exact ⟨_, 0, rfl, (fun u h => by cases h), fun w' hw => by
              have h9 := (hw.addF (p := ∃ A C, Value.slice A' L.length c' = .slice A L.length C) ⟨A', c', rfl⟩).pm [1, 2, 3, 0] rfl rfl rfl
              exact h9⟩
      | true =>
        refine OpA.pre (X := ∃ A C, (f 1).1 = .slice A 0 C) (fun w hw => ?_) (fun d h => by cases h; decide) ?_
        · obtain ⟨A, C, e2, _⟩ := hw.rowForm 2 rfl
          exact ⟨A, C, e2⟩
        · rintro ⟨A, C, e2⟩
          rw [e2]
          refine OpA.ofS (l := [(32, .slice A 0 C), (36, .slice al L.length cl)]) rfl (by decide) (.cons rfl (by show some (Ent.ex (f 1).1) = _; rw [e2]) (.cons rfl rfl .nil)) ?_
          refine S_append (ty := 0) (m := 0) (k := L.length) (xs := []) tabOk 2 (sz := 3) rfl rfl rfl rfl rfl rfl rfl rfl rfl (by decide) (fun w' h => hsl.far fun b off h0 e => ?_) hcone (by simp only [maxLen]; omega) (by show (_ + _) * 40 ≤ _; omega) rfl (fun A' c' h1 h2 => ⟨_, rfl, ?_⟩)
          · have h9 := h.pm [1, 0] rfl rfl rfl
            try have hg12 := (h.fact 4 rfl).2
            exact hold h9 (by repeat (first | exact new_nil | refine new_ro ?_ | refine new_cons (by first | assumption | omega) ?_ | refine newrow h9 2 rfl (Nat.le_refl _) ?_)) (hlb b off h0 e)
          · rw [List.nil_append, Nat.zero_add]
            refine S_nil ?_
            exact ⟨_, 0, rfl, (fun u h => by cases h), fun w' hw => by
              have h9 := (hw.addF (p := ∃ A C, Value.slice A' L.length c' = .slice A L.length C) ⟨A', c', rfl⟩).pm [1, 2, 3, 0, 4, 5] rfl rfl rfl
              exact h9⟩
    · exact fun Ld f hc hl hp => OpA.told 0 rfl (D_pure tabOk rfl D_last) rfl
    · exact fun Ld f hc hl hp => OpA.told 0 rfl (D_pure tabOk rfl D_last) rfl
    · exact fun Ld f hc hl hp => OpA.told 0 rfl (D_load tabOk 0 rfl rfl rfl D_last) rfl
    · exact fun Ld f hc hl hp => OpA.told 0 rfl (D_pure tabOk rfl D_last) rfl
    · exact fun Ld f hc hl hp => OpA.told 0 rfl (D_load tabOk 0 rfl rfl rfl D_last) rfl
    · intro Ld f hc hl hp
      have h13 := closed_no hc (j := 13) rfl ⟨12, .data⟩ (by simp) rfl hl
      have h14 := closed_no hc (j := 14) rfl ⟨13, .data⟩ (by simp) rfl h13
      have h15 := closed_no hc (j := 15) rfl ⟨14, .data⟩ (by simp) rfl h14
      have h16 := closed_no hc (j := 16) rfl ⟨15, .data⟩ (by simp) rfl h15
      have h17 := closed_no hc (j := 17) rfl ⟨13, .chain⟩ (by simp) rfl h13
      have h20 := closed_no hc (j := 20) rfl ⟨12, .phase⟩ (by simp) rfl hl
      show OpA _ _ _ _ (lst (Ld 1) (Ld 6) (Ld 12) (Ld 13) (Ld 14) (Ld 15) (Ld 16) (Ld 17) (Ld 20) (f 1).1 (f 6).1 (f 12).1 (f 12).2 (f 13).1 (f 14).1 (f 15).1 (f 16).1 (f 17).1) (fun y => lst (Ld 1) (Ld 6) true (Ld 13) (Ld 14) (Ld 15) (Ld 16) (Ld 17) (Ld 20) (f 1).1 (f 6).1 y.1 y.2 (f 13).1 (f 14).1 (f 15).1 (f 16).1 (f 17).1) _ _ _
      rw [hl, h13, h14, h15, h16, h17, h20]
      cases hu1 : Ld 1 with
      | false =>
        cases hu6 : Ld 6 with
        | false =>
          refine OpA.ofS (l := [(42, .slice a zs.length c)]) rfl (by decide) (.cons rfl rfl .nil) ?_
          refine S_bslice tabOk rfl rfl rfl rfl rfl rfl rfl rfl rfl rfl rfl rfl (fun nb hnb => ?_)
          refine S_nil ?_
          exact ⟨_, nb, rfl, (fun u h => by cases h), fun w' hw => by
            have h9 := (hw.addF (p := Value.slice (some ⟨nb, 0, none⟩) 1 1 = .slice (some ⟨nb, 0, none⟩) 1 1 ∧ w.heap.size ≤ nb) ⟨rfl, hnb⟩).pm [2, 3, 1, 0] rfl rfl rfl
            exact h9⟩
        | true =>
          refine OpA.ofS (l := [(42, .slice a zs.length c)]) rfl (by decide) (.cons rfl rfl .nil) ?_
          refine S_bslice tabOk rfl rfl rfl rfl rfl rfl rfl rfl rfl rfl rfl rfl (fun nb hnb => ?_)
          refine S_nil ?_
          exact ⟨_, nb, rfl, (fun u h => by cases h), fun w' hw => by
            have h9 := (hw.addF (p := Value.slice (some ⟨nb, 0, none⟩) 1 1 = .slice (some ⟨nb, 0, none⟩) 1 1 ∧ w.heap.size ≤ nb) ⟨rfl, hnb⟩).pm [2, 3, 4, 1, 0] rfl rfl rfl
            exact h9⟩
      | true =>
        cases hu6 : Ld 6 with
        | false =>
          refine OpA.ofS (l := [(42, .slice a zs.length c)]) rfl (by decide) (.cons rfl rfl .nil) ?_
          refine S_bslice tabOk rfl rfl rfl rfl rfl rfl rfl rfl rfl rfl rfl rfl (fun nb hnb => ?_)
          refine S_nil ?_
          exact ⟨_, nb, rfl, (fun u h => by cases h), fun w' hw => by
            have h9 := (hw.addF (p := Value.slice (some ⟨nb, 0, none⟩) 1 1 = .slice (some ⟨nb, 0, none⟩) 1 1 ∧ w.heap.size ≤ nb) ⟨rfl, hnb⟩).pm [2, 3, 4, 1, 0] rfl rfl rfl
            exact h9⟩
        | true =>
          refine OpA.ofS (l := [(42, .slice a zs.length c)]) rfl (by decide) (.cons rfl rfl .nil) ?_
          refine S_bslice tabOk rfl rfl rfl rfl rfl rfl rfl rfl rfl rfl rfl rfl (fun nb hnb => ?_)
          refine S_nil ?_
          exact ⟨_, nb, rfl, (fun u h => by cases h), fun w' hw => by
            have h9 := (hw.addF (p := Value.slice (some ⟨nb, 0, none⟩) 1 1 = .slice (some ⟨nb, 0, none⟩) 1 1 ∧ w.heap.size ≤ nb) ⟨rfl, hnb⟩).pm [2, 3, 4, 5, 1, 0] rfl rfl rfl
            exact h9⟩
    · intro Ld f hc hl hp
      have h6 : Ld 6 = true := hp ⟨6, .chain⟩ (by simp) rfl
      have h1 : Ld 1 = true := hc 6 _ rfl h6 ⟨1, .data⟩ (by simp) rfl
      have h12 : Ld 12 = true := hp ⟨12, .data⟩ (by simp) rfl
      have h14 := closed_no hc (j := 14) rfl ⟨13, .data⟩ (by simp) rfl hl
      have h15 := closed_no hc (j := 15) rfl ⟨14, .data⟩ (by simp) rfl h14
      have h16 := closed_no hc (j := 16) rfl ⟨15, .data⟩ (by simp) rfl h15
      have h17 := closed_no hc (j := 17) rfl ⟨13, .chain⟩ (by simp) rfl hl
      have h20 := closed_no hc (j := 20) rfl ⟨13, .phase⟩ (by simp) rfl hl
      show OpA _ _ _ _ (lst (Ld 1) (Ld 6) (Ld 12) (Ld 13) (Ld 14) (Ld 15) (Ld 16) (Ld 17) (Ld 20) (f 1).1 (f 6).1 (f 12).1 (f 12).2 (f 13).1 (f 14).1 (f 15).1 (f 16).1 (f 17).1) (fun y => lst (Ld 1) (Ld 6) (Ld 12) true (Ld 14) (Ld 15) (Ld 16) (Ld 17) (Ld 20) (f 1).1 (f 6).1 (f 12).1 (f 12).2 y.1 (f 14).1 (f 15).1 (f 16).1 (f 17).1) _ _ _
      rw [hl, h1, h6, h12, h14, h15, h16, h17, h20]
      refine OpA.pre (X := (f 12).1 = .slice (some ⟨(f 12).2, 0, none⟩) 1 1) (fun w hw => (hw.fact 5 rfl).1) (fun d h => by cases h; decide) (fun e2 => ?_)
      refine OpA.swap (dl' := [(43, .ex (.slice (some ⟨(f 12).2, 0, none⟩) 1 1))]) (List.forall_mem_cons.2 ⟨congrArg (fun v => some (Ent.ex v)) e2, fun _ h => nomatch h⟩) ?_
      refine OpA.callrow rfl Try.call67 (fun w1 vs hw1 h => ?_) (fun w1 v hw1 => ⟨0, by
        have h9 := hw1.pm [1, 2, 3, 4, 5, 6, 0] rfl rfl rfl
        exact h9⟩)
      obtain ⟨u1, _, rfl, rfl, rfl⟩ := h
      have h9 := hw1.pm [1, 0] rfl rfl rfl
      have hg12 := (hw1.fact 5 rfl).2
      exact join1_ok a zs.length c zs (f 12).2 _ _ w1 (hz.far h9 (far_no hB (far_of_new (by repeat (first | exact new_nil | refine new_ro ?_ | refine new_cons (by first | assumption | omega) ?_ | refine newrow h9 2 rfl (Nat.le_refl _) ?_))))).ints (hw1.own _ (getE_mem (i := 4) rfl)) (by omega)
    · intro Ld f hc hl hp
      have h13 : Ld 13 = true := hp ⟨13, .data⟩ (by simp) rfl
      have h6 : Ld 6 = true := hc 13 _ rfl h13 ⟨6, .chain⟩ (by simp) rfl
      have h1 : Ld 1 = true := hc 6 _ rfl h6 ⟨1, .data⟩ (by simp) rfl
      have h12 : Ld 12 = true := hc 13 _ rfl h13 ⟨12, .data⟩ (by simp) rfl
      have h15 := closed_no hc (j := 15) rfl ⟨14, .data⟩ (by simp) rfl hl
      have h16 := closed_no hc (j := 16) rfl ⟨15, .data⟩ (by simp) rfl h15
      have h17 := closed_no hc (j := 17) rfl ⟨16, .data⟩ (by simp) rfl h16
      have h20 := closed_no hc (j := 20) rfl ⟨14, .phase⟩ (by simp) rfl hl
      show OpA _ _ _ _ (lst (Ld 1) (Ld 6) (Ld 12) (Ld 13) (Ld 14) (Ld 15) (Ld 16) (Ld 17) (Ld 20) (f 1).1 (f 6).1 (f 12).1 (f 12).2 (f 13).1 (f 14).1 (f 15).1 (f 16).1 (f 17).1) (fun y => lst (Ld 1) (Ld 6) (Ld 12) (Ld 13) true (Ld 15) (Ld 16) (Ld 17) (Ld 20) (f 1).1 (f 6).1 (f 12).1 (f 12).2 (f 13).1 y.1 (f 15).1 (f 16).1 (f 17).1) _ _ _
      rw [hl, h1, h6, h12, h13, h15, h16, h17, h20]
      refine OpA.pre (X := ∃ A C, (f 13).1 = .slice A zs.length C) (fun w hw => ?_) (fun d h => by cases h; decide) ?_
      · obtain ⟨A, C, e2, _⟩ := hw.rowForm 6 rfl
        exact ⟨A, C, e2⟩
      rintro ⟨A, C, e2⟩
      refine OpA.swap (dl' := [(40, .ex (.int .i64 k)), (44, .ex (.slice A zs.length C))]) (List.forall_mem_cons.2 ⟨rfl, List.forall_mem_cons.2 ⟨congrArg (fun v => some (Ent.ex v)) e2, fun _ h => nomatch h⟩⟩) ?_
      rw [e2]
      exact OpA.known 0 rfl (D_q (Q_build tabOk rfl rfl rfl rfl rfl rfl rfl) D_last) (fun w1 hw => by
        have h9 := (hw.addF (p := (Value.agg ⟨[.int .i64 k, .slice A zs.length C]⟩ = .agg ⟨[.int .i64 k, .slice A zs.length C]⟩)) rfl).pm [1, 2, 3, 4, 5, 6, 7, 0] rfl rfl rfl
        exact h9)
    · intro Ld f hc hl hp
      have h14 : Ld 14 = true := hp ⟨14, .data⟩ (by simp) rfl
      have h13 : Ld 13 = true := hc 14 _ rfl h14 ⟨13, .data⟩ (by simp) rfl
      have h6 : Ld 6 = true := hc 13 _ rfl h13 ⟨6, .chain⟩ (by simp) rfl
      have h1 : Ld 1 = true := hc 6 _ rfl h6 ⟨1, .data⟩ (by simp) rfl
      have h12 : Ld 12 = true := hc 13 _ rfl h13 ⟨12, .data⟩ (by simp) rfl
      have h16 := closed_no hc (j := 16) rfl ⟨15, .data⟩ (by simp) rfl hl
      have h17 := closed_no hc (j := 17) rfl ⟨16, .data⟩ (by simp) rfl h16
      have h20 := closed_no hc (j := 20) rfl ⟨15, .phase⟩ (by simp) rfl hl
      show OpA _ _ _ _ (lst (Ld 1) (Ld 6) (Ld 12) (Ld 13) (Ld 14) (Ld 15) (Ld 16) (Ld 17) (Ld 20) (f 1).1 (f 6).1 (f 12).1 (f 12).2 (f 13).1 (f 14).1 (f 15).1 (f 16).1 (f 17).1) (fun y => lst (Ld 1) (Ld 6) (Ld 12) (Ld 13) (Ld 14) true (Ld 16) (Ld 17) (Ld 20) (f 1).1 (f 6).1 (f 12).1 (f 12).2 (f 13).1 (f 14).1 y.1 (f 16).1 (f 17).1) _ _ _
      rw [hl, h1, h6, h12, h13, h14, h16, h17, h20]
      refine OpA.pre (X := (∃ A C, (f 13).1 = .slice A zs.length C) ∧ (f 14).1 = .agg ⟨[.int .i64 k, (f 13).1]⟩) (fun w hw => ?_) (fun d h => by cases h; decide) ?_
      · obtain ⟨A, C, e2, _⟩ := hw.rowForm 6 rfl
        exact ⟨⟨A, C, e2⟩, hw.fact 7 rfl⟩
      rintro ⟨⟨A, C, e2⟩, e3⟩
      rw [e2] at e3
      refine OpA.swap (dl' := [(38, .ex (.int .u64 n)), (45, .ex (.agg ⟨[.int .i64 k, .slice A zs.length C]⟩))]) (List.forall_mem_cons.2 ⟨rfl, List.forall_mem_cons.2 ⟨congrArg (fun v => some (Ent.ex v)) e3, fun _ h => nomatch h⟩⟩) ?_
      rw [e2]
      exact OpA.known 0 rfl (D_q (Q_build tabOk rfl rfl rfl rfl rfl rfl rfl) D_last) (fun w1 hw => by
        have h9 := (hw.addF (p := (Value.agg ⟨[.int .u64 n, .int .i64 k, .slice A zs.length C]⟩ = .agg ⟨[.int .u64 n, .int .i64 k, .slice A zs.length C]⟩)) rfl).pm [1, 2, 3, 4, 5, 6, 7, 8, 0] rfl rfl rfl
        exact h9)
    · intro Ld f hc hl hp
      have h15 : Ld 15 = true := hp ⟨15, .data⟩ (by simp) rfl
      have h14 : Ld 14 = true := hc 15 _ rfl h15 ⟨14, .data⟩ (by simp) rfl
      have h13 : Ld 13 = true := hc 14 _ rfl h14 ⟨13, .data⟩ (by simp) rfl
      have h6 : Ld 6 = true := hc 13 _ rfl h13 ⟨6, .chain⟩ (by simp) rfl
      have h1 : Ld 1 = true := hc 6 _ rfl h6 ⟨1, .data⟩ (by simp) rfl
      have h12 : Ld 12 = true := hc 13 _ rfl h13 ⟨12, .data⟩ (by simp) rfl
      have h17 := closed_no hc (j := 17) rfl ⟨16, .data⟩ (by simp) rfl hl
      have h20 := closed_no hc (j := 20) rfl ⟨16, .phase⟩ (by simp) rfl hl
      show OpA _ _ _ _ (lst (Ld 1) (Ld 6) (Ld 12) (Ld 13) (Ld 14) (Ld 15) (Ld 16) (Ld 17) (Ld 20) (f 1).1 (f 6).1 (f 12).1 (f 12).2 (f 13).1 (f 14).1 (f 15).1 (f 16).1 (f 17).1) (fun y => lst (Ld 1) (Ld 6) (Ld 12) (Ld 13) (Ld 14) (Ld 15) true (Ld 17) (Ld 20) (f 1).1 (f 6).1 (f 12).1 (f 12).2 (f 13).1 (f 14).1 (f 15).1 y.1 (f 17).1) _ _ _
      rw [hl, h1, h6, h12, h13, h14, h15, h17, h20]
      refine OpA.pre (X := (∃ A C, (f 13).1 = .slice A zs.length C) ∧ (f 15).1 = .agg ⟨[.int .u64 n, .int .i64 k, (f 13).1]⟩) (fun w hw => ?_) (fun d h => by cases h; decide) ?_
      · obtain ⟨A, C, e2, _⟩ := hw.rowForm 6 rfl
        exact ⟨⟨A, C, e2⟩, hw.fact 8 rfl⟩
      rintro ⟨⟨A, C, e2⟩, e3⟩
      rw [e2] at e3
      rw [e2]
      refine OpA.ofS (l := [(46, .agg ⟨[.int .u64 n, .int .i64 k, .slice A zs.length C]⟩)]) rfl (by decide) (.cons rfl (by show some (Ent.ex (f 15).1) = _; rw [e3]) .nil) ?_
      refine S_bslice tabOk rfl rfl rfl rfl rfl rfl rfl rfl rfl rfl rfl rfl (fun nb hnb => ?_)
      refine S_heap (fun w' h => Hp.closeRow (pre := []) (n := 1) (c := 1) (sz := 3) h hnb (by decide) (by decide) rfl) ?_
      refine S_nil ?_
      exact ⟨_, 0, rfl, (fun u h => by cases h), fun w' hw => by
        have h9 := hw.pm [1, 2, 3, 4, 5, 6, 7, 8, 9, 0] rfl rfl rfl
        exact h9⟩
    · intro Ld f hc hl hp
      have h6 : Ld 6 = true := hp ⟨6, .data⟩ (by simp) rfl
      have h1 : Ld 1 = true := hc 6 _ rfl h6 ⟨1, .data⟩ (by simp) rfl
      have h13 : Ld 13 = true := hp ⟨13, .chain⟩ (by simp) rfl
      have h12 : Ld 12 = true := hc 13 _ rfl h13 ⟨12, .data⟩ (by simp) rfl
      have h16 : Ld 16 = true := hp ⟨16, .data⟩ (by simp) rfl
      have h15 : Ld 15 = true := hc 16 _ rfl h16 ⟨15, .data⟩ (by simp) rfl
      have h14 : Ld 14 = true := hc 15 _ rfl h15 ⟨14, .data⟩ (by simp) rfl
      have h20 := closed_no hc (j := 20) rfl ⟨17, .data⟩ (by simp) rfl hl
      show OpA _ _ _ _ (lst (Ld 1) (Ld 6) (Ld 12) (Ld 13) (Ld 14) (Ld 15) (Ld 16) (Ld 17) (Ld 20) (f 1).1 (f 6).1 (f 12).1 (f 12).2 (f 13).1 (f 14).1 (f 15).1 (f 16).1 (f 17).1) (fun y => lst (Ld 1) (Ld 6) (Ld 12) (Ld 13) (Ld 14) (Ld 15) (Ld 16) true (Ld 20) (f 1).1 (f 6).1 (f 12).1 (f 12).2 (f 13).1 (f 14).1 (f 15).1 (f 16).1 y.1) _ _ _
      rw [hl, h1, h6, h12, h13, h14, h15, h16, h20]
      refine OpA.pre (X := (∃ A C, (f 13).1 = .slice A zs.length C) ∧ (∃ A C, (f 6).1 = .slice A L.length C) ∧ ∃ A C, (f 16).1 = .slice A 1 C) (fun w hw => ?_) (fun d h => by cases h; decide) ?_
      · obtain ⟨A, C, e2, _⟩ := hw.rowForm 6 rfl
        obtain ⟨A', C', e3, _⟩ := hw.rowForm 9 rfl
        exact ⟨⟨A, C, e2⟩, hw.fact 3 rfl, A', C', e3⟩
      rintro ⟨⟨A, C, e2⟩, ⟨A6, C6, e6⟩, A', C', e3⟩
      rw [e2, e6, e3]
      refine OpA.ofS (l := [(37, .slice A6 L.length C6), (47, .slice A' 1 C')]) rfl (by decide) (.cons rfl (by show some (Ent.ex (f 6).1) = _; rw [e6]) (.cons rfl (by show some (Ent.ex (f 16).1) = _; rw [e3]) .nil)) ?_
      refine S_append (ty := 0) (m := L.length) (k := 1) (xs := css.flatten) (news := [.int .u64 n, .int .i64 k, .slice A zs.length C]) tabOk 2 (sz := 3) rfl rfl rfl rfl rfl rfl rfl rfl rfl (by decide) (fun w' h => Sl.of_own (h.own _ (getE_mem (i := 9) rfl))) (fun u hu => by simp only [List.mem_cons, List.not_mem_nil, or_false] at hu; rcases hu with rfl | rfl | rfl <;> rfl) (by simp only [maxLen]; omega) (by show (_ + _) * 40 ≤ _; omega) rfl (fun A'' c'' h1 h2 => ⟨_, rfl, ?_⟩)
      refine S_nil ?_
      exact ⟨_, 0, rfl, (fun u h => by cases h), fun w' hw => by
        have h9 := (hw.addF (p := ∃ A C, Value.slice A'' (L.length + 1) c'' = .slice A (L.length + 1) C) ⟨A'', c'', rfl⟩).pm [1, 2, 3, 4, 5, 6, 7, 8, 9, 10, 0] rfl rfl rfl
        exact h9⟩
    · exact fun Ld f hc hl hp => OpA.told 0 rfl (D_pure tabOk rfl D_last) rfl
    · exact fun Ld f hc hl hp => OpA.told 0 rfl (D_pure tabOk rfl D_last) rfl
    · intro Ld f hc hl hp
      have h1 : Ld 1 = true := hp ⟨1, .phase⟩ (by simp) rfl
      have h6 : Ld 6 = true := hp ⟨6, .phase⟩ (by simp) rfl
      have h12 : Ld 12 = true := hp ⟨12, .phase⟩ (by simp) rfl
      have h13 : Ld 13 = true := hp ⟨13, .phase⟩ (by simp) rfl
      have h14 : Ld 14 = true := hp ⟨14, .phase⟩ (by simp) rfl
      have h15 : Ld 15 = true := hp ⟨15, .phase⟩ (by simp) rfl
      have h16 : Ld 16 = true := hp ⟨16, .phase⟩ (by simp) rfl
      have h17 : Ld 17 = true := hp ⟨17, .data⟩ (by simp) rfl
      show OpA _ _ _ _ (lst (Ld 1) (Ld 6) (Ld 12) (Ld 13) (Ld 14) (Ld 15) (Ld 16) (Ld 17) (Ld 20) (f 1).1 (f 6).1 (f 12).1 (f 12).2 (f 13).1 (f 14).1 (f 15).1 (f 16).1 (f 17).1) (fun y => lst (Ld 1) (Ld 6) (Ld 12) (Ld 13) (Ld 14) (Ld 15) (Ld 16) (Ld 17) true (f 1).1 (f 6).1 (f 12).1 (f 12).2 (f 13).1 (f 14).1 (f 15).1 (f 16).1 (f 17).1) _ _ _
      rw [hl, h1, h6, h12, h13, h14, h15, h16, h17]
      refine OpA.pre (X := ∃ A C, (f 17).1 = .slice A (L.length + 1) C) (fun w hw => hw.fact 10 rfl) (fun d h => by cases h) ?_
      rintro ⟨A, C, e2⟩
      refine OpA.swap (dl' := [(50, .ex (.pointer (some ⟨xb, 2, none⟩))), (48, .ex (.slice A (L.length + 1) C))]) (List.forall_mem_cons.2 ⟨rfl, List.forall_mem_cons.2 ⟨congrArg (fun v => some (Ent.ex v)) e2, fun _ h => nomatch h⟩⟩) ?_
      rw [e2]
      exact OpS.toF 0 (fun u h => by cases h; rfl) (OpS.store tabOk 1 rfl rfl (fun u h => by rw [List.mem_singleton] at h; subst h; rfl) rfl rfl rfl)
  · intro Lf f w6 hL6 hw6
    change Hp _ _ (lst (Lf 1) (Lf 6) (Lf 12) (Lf 13) (Lf 14) (Lf 15) (Lf 16) (Lf 17) (Lf 20) (f 1).1 (f 6).1 (f 12).1 (f 12).2 (f 13).1 (f 14).1 (f 15).1 (f 16).1 (f 17).1) at hw6
    rw [hL6 1 (by decide), hL6 6 (by decide), hL6 12 (by decide), hL6 13 (by decide), hL6 14 (by decide), hL6 15 (by decide), hL6 16 (by decide), hL6 17 (by decide), hL6 20 (by decide)] at hw6
    obtain ⟨A13, C13, e13, _⟩ := hw6.rowForm 6 rfl
    obtain ⟨A17, C17, e17⟩ := hw6.fact 10 rfl
    rw [e13, e17] at hw6
    have h9 := hw6.pm [1, 2, 6, 0, 3, 4, 5, 7, 8, 9, 10] rfl rfl rfl
    have hb12 := (hw6.fact 5 rfl).2
    refine ⟨[], [.blk xb (rqC cap aw ws.length cw A17 (L.length + 1) C17 n) true, .row w.heap.size (.slice A17 (L.length + 1) C17) 125 3 (L.length + 1) (css.flatten ++ [.int .u64 n, .int .i64 k, .slice A13 zs.length C13]), .row w.heap.size (.slice A13 zs.length C13) 5 1 zs.length (zs.map (.int .u8))], SubD.nil, h9.less (by repeat (first | exact Less.nil | refine Less.keep ?_ | refine Less.dropR ?_ | refine Less.dropB (by first | assumption | omega) ?_ | refine Less.dropW (Nat.le_refl _) ?_)), ?_⟩
    clear h9 hw6 hL6 lst
    repeat (first | refine T_seq ?_ | refine T_region ?_ | refine S_nil ?_ | refine pthen_normal ?_ | refine T_ret ?_ | refine S_pure tabOk rfl ?_)
    exact ret1 rfl rfl (fun w' hw => ⟨rfl, rq_put hS hFx hF hcl hat hold hz.ints.fits hn ⟨hk0, hk8⟩ hw⟩)
end

/-- .. and bytes that lie in it -/
def rqB (xb : Nat) (cap last : Int) (ws : List Int) (L : List QE) (a : Option Addr) (c : Nat) (zs : List Int) : Vp :=
  ⟨fun w F v => (rqA xb cap last ws L).at_ w F v ∧ SlR (Rint .u8) w (fun k => F k ∧ k ≠ xb) a zs.length c zs,
   fun {w w' F G v} ⟨h1, h2⟩ hk => ⟨(rqA xb cap last ws L).keep h1 hk, h2.keep fun k hA hlt => ⟨(hk k hA.1 hlt).1, (hk k hA.1 hlt).2, hA.2⟩⟩⟩
theorem items_one {w : World} {A : Nat → Prop} {css : List (List Value)} {L : List QE} {n : Nat} (hcl : css.length = n) (hln : L.length = n) (hat : ∀ (i : Nat) (cs : List Value) (x : QE), css[i]? = some cs → L[i]? = some x → RItem.at_ w A cs x) : ∀ u ∈ css.flatten, u.oneCell' = true := fun u hu => by
  obtain ⟨cs, hcs, hu2⟩ := List.mem_flatten.1 hu
  obtain ⟨i, hi⟩ := List.mem_iff_getElem?.1 hcs
  obtain ⟨x, hx⟩ : ∃ x, L[i]? = some x := ⟨_, List.getElem?_eq_getElem (by rw [hln, ← hcl]; exact (List.getElem?_eq_some_iff.1 hi).1)⟩
  obtain ⟨_, _, rfl, ⟨rfl, _⟩, _, _, rfl, ⟨rfl, _⟩, a9, n9, c9, rfl, _⟩ := hat i cs x hi hx
  simp only [List.cons_append, List.nil_append, List.mem_cons, List.not_mem_nil, or_false] at hu2
  rcases hu2 with rfl | rfl | rfl <;> rfl
theorem qDel_cut : ∀ {L : List QE} {i : Nat} {x : QE}, (L.map (·.1)).Nodup → L[i]? = some x → L.take i ++ L.drop (i + 1) = qDel L x.1
  | y :: L, 0, x, hn, h => by
    cases h
    rw [List.map_cons, List.nodup_cons] at hn
    have : qDel (y :: L) y.1 = qDel L y.1 := by unfold qDel; rw [List.filter_cons_of_neg (by simp)]
    rw [this, qDel_none hn.1]
    rfl
  | y :: L, i + 1, x, hn, h => by
    rw [List.map_cons, List.nodup_cons] at hn
    have h' : L[i]? = some x := by simpa using h
    have hne : y.1 ≠ x.1 := fun e => hn.1 (show y.1 ∈ L.map (·.1) from List.mem_map.2 ⟨x, List.mem_of_getElem? h', e.symm⟩)
    have : qDel (y :: L) x.1 = y :: qDel L x.1 := by unfold qDel; rw [List.filter_cons_of_pos (by simpa using hne)]
    rw [this, ← qDel_cut hn.2 h']
    rfl
section
variable {xb : Nat} {cap last : Int} {ws : List Int} {L : List QE} {aw : Option Addr} {cw : Nat} {al : Option Addr} {cl : Nat} {w w1 : World} {A F : Nat → Prop} {ol : OL}
theorem rq_del {i : Nat} {x : QE} {a0 : Option Addr} {c0 : Nat} {css1 css2 : List (List Value)} {ad : Option Addr} {cd : Nat} (hS : RqS xb cap last ws L aw cw al cl w (fun k => F k ∧ k ≠ xb)) (hFx : F xb) (hF : ∀ k, F k → k < w.heap.size) (hT : SlR RItem w (fun k => F k ∧ k ≠ xb) al i cl (L.take i)) (hD : SlR RItem w (fun k => F k ∧ k ≠ xb) ad (L.length - (i + 1)) cd (L.drop (i + 1)))
    (hcl1 : css1.length = i) (hat1 : ∀ (j : Nat) (cs : List Value) (y : QE), css1[j]? = some cs → (L.take i)[j]? = some y → RItem.at_ w (fun k => F k ∧ k ≠ xb) cs y) (hcl2 : css2.length = L.length - (i + 1)) (hat2 : ∀ (j : Nat) (cs : List Value) (y : QE), css2[j]? = some cs → (L.drop (i + 1))[j]? = some y → RItem.at_ w (fun k => F k ∧ k ≠ xb) cs y)
    (hold : ∀ {o : Obj} {w' : World} {ol' : OL}, Hp w w' (.blk xb o true :: ol') → (∀ e ∈ ol', e.ex = true → ∀ k, e.has k → w.heap.size ≤ k) → ∀ {b : Nat}, (F b ∧ b ≠ xb) → w'.heap[b]? = w.heap[b]?) (hz : SlR (Rint .u8) w (fun k => F k ∧ k ≠ xb) a0 x.2.2.length c0 x.2.2) (hxe : L.take i ++ L.drop (i + 1) = qDel L x.1) {a1 : Option Addr} {c1 : Nat}
    (hw : Hp w w1 [.blk xb (rqC cap aw ws.length cw a1 (i + (L.length - (i + 1))) c1 last) true, .row w.heap.size (.slice a1 (i + (L.length - (i + 1))) c1) 125 3 (i + (L.length - (i + 1))) (css1.flatten ++ css2.flatten)]) : Turns w F (rqB xb cap last ws (qDel L x.1) a0 c0 x.2.2) w1 := by
  have o0 : w1.heap[xb]? = _ := hw.own _ (getE_mem (i := 0) rfl)
  have o1 : w1.ownsRow w.heap.size 125 3 (.slice a1 (i + (L.length - (i + 1))) c1) (i + (L.length - (i + 1))) _ := hw.own _ (getE_mem (i := 1) rfl)
  have hxl := heap_lt hS.x
  have hold' : ∀ {b : Nat}, (F b ∧ b ≠ xb) → w1.heap[b]? = w.heap[b]? := hold hw (newrow hw 1 rfl (Nat.le_refl _) new_nil)
  let F' : Nat → Prop := fun j => F j ∨ (Value.slice a1 (i + (L.length - (i + 1))) c1).ownBlock = some j
  have hkeep : ∀ j, (F j ∧ j ≠ xb) → j < w.heap.size → w1.heap[j]? = w.heap[j]? ∧ (F' j ∧ j ≠ xb) := fun j hj _ => ⟨hold' hj, .inl hj.1, hj.2⟩
  rw [← List.flatten_append] at o1
  have hl1 := hT.len
  have hl2 := hD.len
  have hlen : (qDel L x.1).length = i + (L.length - (i + 1)) := by rw [← hxe, List.length_append, hl1, hl2]
  have hbod : (Bod RItem (css1 ++ css2) (qDel L x.1)).at_ w1 (fun j => F' j ∧ j ≠ xb) (.bool true) := by
    rw [← hxe]
    refine ⟨by rw [List.length_append, List.length_append, hcl1, hcl2, hl1, hl2], fun j cs y hj hy => ?_⟩
    rcases Nat.lt_or_ge j i with hji | hji
    · rw [List.getElem?_append_left (by omega)] at hj hy
      exact RItem.keep (hat1 j cs y hj hy) hkeep
    · rw [List.getElem?_append_right (by omega)] at hj hy
      rw [hcl1] at hj
      rw [hl1] at hy
      exact RItem.keep (hat2 (j - i) cs y hj hy) hkeep
  refine ⟨F', fun j hj => .inl hj, fun j hj => ?_, hw.widenM (fun e he j hj => ?_) ⟨⟨aw, cw, a1, c1, ⟨by rw [hlen]; exact o0, hS.ws.keep hkeep, by
    rw [hlen]
    exact Bod.slr hbod o1 hlen fun j h1 h2 => ⟨.inr h2, by omega⟩, fun h => h.2 rfl⟩, .inl hFx⟩, hz.keep hkeep⟩ (Vp.loc (p := rqB xb cap last ws (qDel L x.1) a0 c0 x.2.2)) fun j hj => ?_⟩
  · rcases hj with h | h
    · exact .inl h
    · exact .inr (World.ownsRow.lt o1 j h).1
  · simp only [List.mem_cons, List.not_mem_nil, or_false] at he
    rcases he with rfl | rfl
    · rw [← Option.some.inj hj]; exact .inl hFx
    · exact .inr hj
  · rcases hj with h | h
    · exact Nat.lt_of_lt_of_le (hF j h) hw.size
    · exact (World.ownsRow.lt o1 j h).2
set_option maxHeartbeats 8000000 in
theorem rdrop9_ok (h : (rqA xb cap last ws L).at_ w F (.bool true)) (hF : ∀ k, F k → k < w.heap.size) (hok : QOk cap last ws L) (hlen : L.length ≤ 65536) (n : Int) :
    Calls Try.prog 58 #[.pointer (some ⟨xb, 0, none⟩), .int .u64 n] w fun e w' => ∃ a c, e = .returned (.tuple #[.agg #[.int .i64 (qGot L n).1, .slice a (qGot L n).2.1.length c], .int .i64 (if (qGot L n).2.2 = true then 0 else 4)]) ∧ Turns w F (rqB xb cap last ws (qDel L n) a c (qGot L n).2.1) w' := by
  obtain ⟨aw, cw, al, cl, hS, hFx⟩ := h
  have hmx := hS.L.max
  have hcp := hS.L.cap
  simp only [maxLen] at hmx
  have hlt := heap_lt hS.x
  refine enter2 Try.func58 rfl rfl (Hp.start true hS.x) ?_
  repeat (first | refine T_seq ?_ | refine T_region ?_)
  refine S_new tabOk rfl (fun b4 hb4 => ?_)
  repeat (first | refine T_seq ?_ | refine T_region ?_ | refine S_nil ?_ | refine S_pure tabOk rfl ?_)
  refine S_callq (v := .int .i64 (rPl L n)) rfl Try.call71 (fun w1 h1 => by
    have h9 := h1.pm [1, 0] rfl rfl rfl
    exact rfind9_ok (hS.at1 h9 (new_cons hb4 new_nil)) n) ?_
  repeat (first | refine T_seq ?_ | refine T_region ?_ | refine S_nil ?_ | refine S_pure tabOk rfl ?_)
  cases hf : L.findIdx? fun x => decide (x.1 = n) with
  | none =>
    have hno : n ∉ L.map (·.1) := fun hm => by
      obtain ⟨y, hy, e⟩ := List.mem_map.1 hm
      have := List.findIdx?_eq_none_iff.1 hf y hy
      exact of_decide_eq_false this e
    have hp : rPl L n = -1 := by unfold rPl; rw [hf]
    have hgot : qGot L n = (0, [], false) := by unfold qGot; rw [qFind_none hno]
    rw [hgot, qDel_none hno]
    dsimp only
    refine T_cond_dec rfl (fun _ => ?_) (fun h => absurd (by rw [hp]; decide) h)
    repeat (first | refine T_seq ?_ | refine T_region ?_ | refine S_nil ?_ | refine pthen_ret ?_ | refine T_ret ?_ | refine S_pure tabOk rfl ?_ | refine S_store tabOk 0 rfl rfl rfl rfl rfl rfl ?_ | refine S_q (Q_build tabOk rfl rfl rfl rfl rfl rfl rfl) ?_)
    refine ret2 rfl (ResIs.cellO tabOk 0 rfl rfl rfl rfl) rfl (fun w' hw => ⟨none, 0, rfl, ?_⟩)
    obtain ⟨F', f1, f2, h9⟩ := rq_same ⟨aw, cw, al, cl, hS, hFx⟩ hF (hw.pm [1, 0] rfl rfl rfl) hS.x (new_cons hb4 new_nil)
    exact ⟨F', f1, f2, h9.turnX 0 rfl (Ψ := fun w => (rqB xb cap last ws L none 0 []).at_ w F' (.bool true)) (fun h => ⟨h, SlR.nil_⟩) (Vp.loc (p := rqB xb cap last ws L none 0 [])) rfl⟩
  | some i =>
  have hp : rPl L n = (i : Int) := by unfold rPl; rw [hf]
  obtain ⟨hi, hxn, _⟩ := List.findIdx?_eq_some_iff_getElem.1 hf
  obtain ⟨x, hx⟩ : ∃ x, L[i]? = some x := ⟨_, List.getElem?_eq_getElem hi⟩
  have hxe0 : x.1 = n := by
    rw [List.getElem?_eq_getElem hi] at hx
    rw [Option.some.inj hx] at hxn
    exact of_decide_eq_true hxn
  subst hxe0
  have hgot : qGot L x.1 = (x.2.1, x.2.2, true) := by unfold qGot; rw [qFind_at hok.nodup hx]
  have hxe := qDel_cut hok.nodup hx
  rw [hgot]
  dsimp only
  rw [hp]
  refine T_cond_dec rfl (fun h => by omega) (fun _ => ?_)
  obtain ⟨ab, off, a0, c0, ea, hlt2, hz, hce⟩ := item_at hS.L hx
  have hT := hS.L.take (k := i) (by omega)
  have hD := hS.L.drop (k := i + 1) (by omega)
  obtain ⟨css1, hcl1, hat1, hsl1⟩ := hT.each
  obtain ⟨css2, hcl2, hat2, hsl2⟩ := hD.each
  have hcone1 := items_one hcl1 hT.len hat1
  have hcone2 := items_one hcl2 hD.len hat2
  have hold : ∀ {o : Obj} {w' : World} {ol' : OL}, Hp w w' (.blk xb o true :: ol') → (∀ e ∈ ol', e.ex = true → ∀ k, e.has k → w.heap.size ≤ k) → ∀ {b : Nat}, (F b ∧ b ≠ xb) → w'.heap[b]? = w.heap[b]? := fun {o w' ol'} hw hn {b} hb => hw.old b (hF b hb.1) fun e he hx hh => by
    rcases List.mem_cons.1 he with rfl | he
    · exact hb.2 (Option.some.inj hh).symm
    · have := hn e he hx b hh
      have := hF b hb.1
      omega
  have hlb1 : ∀ b off, 0 < i → al = some ⟨b, off, none⟩ → F b ∧ b ≠ xb := fun b off h0 e => by
    obtain ⟨b', off', e', h9⟩ := hT.blk h0
    rw [e] at e'
    cases e'
    exact h9
  have hlb2 : ∀ b off, 0 < L.length - (i + 1) → (if cl = i + 1 then al else al.map (·.add ((i + 1) * 3))) = some ⟨b, off, none⟩ → F b ∧ b ≠ xb := fun b off h0 e => by
    obtain ⟨b', off', e', h9⟩ := hD.blk h0
    have e'' : (if cl = i + 1 then al else al.map (·.add ((i + 1) * 3))) = some ⟨b', off', none⟩ := e'
    rw [e] at e''
    cases e''
    exact h9
  have hab : F ab ∧ ab ≠ xb := by
    obtain ⟨b', off', e', h9⟩ := hS.L.blk (by omega)
    rw [ea] at e'
    cases e'
    exact h9
  repeat (first | refine T_seq ?_ | refine T_region ?_ | refine pthen_normal ?_ | refine T_skip ?_ | refine S_pure tabOk rfl ?_ | refine S_load tabOk 1 rfl rfl rfl ?_)
  refine S_re 17 (v' := .slice (some ⟨ab, off, none⟩) L.length cl) rfl (by rw [ea]) ?_
  refine S_q (Q_idx (sz := 3) tabOk rfl rfl rfl rfl rfl rfl rfl (j := i) rfl hi) ?_
  repeat (first | refine S_pure tabOk rfl ?_)
  refine S_loadN tabOk (vs := [.int .i64 x.2.1, .slice a0 x.2.2.length c0]) rfl rfl rfl (fun w' hw jj u hu => by
    have h9 := hw.pm [1, 0] rfl rfl rfl
    rw [Addr.add_lit, show off + i * 3 + 1 + jj = off + i * 3 + (jj + 1) by omega]
    exact (World.cell?_of_block (w := w) (a := ⟨ab, off + i * 3 + (jj + 1), none⟩) (hold h9 (new_cons hb4 new_nil) hab)).trans (hce w (Below.refl _ _) (jj + 1) u (by rw [List.getElem?_cons_succ]; exact hu))) ?_
  refine S_new tabOk rfl (fun b7 hb7 => ?_)
  repeat (first | refine T_seq ?_ | refine S_nil ?_ | refine S_store tabOk 0 rfl rfl rfl rfl rfl rfl ?_)
  let lst : Bool → Bool → Bool → Bool → Value → Value → Value → OL := fun l1 l8 l16 l19 v1 v8 v16 =>
    .blk b7 (.cells ⟨[.int .i64 x.2.1, .slice a0 x.2.2.length c0]⟩ 115 (0, 0)) true :: .blk b4 (.cells ⟨[.int .i64 0, .slice none 0 0]⟩ 115 (0, 0)) true :: .blk xb (.cells ⟨[.int .i64 cap, .slice aw ws.length cw, cond l19 v16 (.slice al L.length cl), .int .u64 last]⟩ 80 (0, 0)) true :: (cond l1 [.row w.heap.size (cond l16 v16 (cond l8 v8 v1)) 125 3 (cond l16 (i + (L.length - (i + 1))) (cond l8 i 0)) (cond l16 (css1.flatten ++ css2.flatten) (cond l8 css1.flatten []))] [] ++ (cond l8 [factE (∃ A C, v8 = .slice A i C)] [] ++ (cond l16 [factE (∃ A C, v16 = .slice A (i + (L.length - (i + 1))) C)] [])))
  refine T_asThen ?_
  refine T_drawF (γ := Unit) (by kernel_rfl) (by kernel_rfl) () (fun Ld f => lst (Ld 1) (Ld 8) (Ld 16) (Ld 19) (f 1).1 (f 8).1 (f 16).1) rfl [some (.pointer (some ⟨xb, 0, none⟩)), none, some (.pointer (some ⟨xb, 0, none⟩)), some (.pointer (some ⟨xb, 0, none⟩)), some (.pointer (some ⟨xb, 2, none⟩)), some (.slice al L.length cl), some (.int .i64 (i : Int)), some (.slice al i cl), none, some (.pointer (some ⟨xb, 0, none⟩)), some (.pointer (some ⟨xb, 0, none⟩)), some (.pointer (some ⟨xb, 2, none⟩)), some (.slice al L.length cl), some (.int .i64 (i : Int)), some (.int .i64 ((i : Int) + 1)), some (.slice (if cl = i + 1 then al else al.map (·.add ((i + 1) * 3))) (L.length - (i + 1)) (cl - (i + 1))), none, some (.pointer (some ⟨xb, 0, none⟩)), some (.pointer (some ⟨xb, 2, none⟩)), some (undef)] ?_ ?_
  · refine ⟨?_, ?_, ?_, ?_, ?_, ?_, ?_, ?_, ?_, ?_, ?_, ?_, ?_, ?_, ?_, ?_, ?_, ?_, ?_, ?_, trivial⟩
    · exact fun Ld f hc hl hp => OpA.told () rfl (D_pure tabOk rfl D_last) rfl
    · intro Ld f hc hl hp
      have h8 := closed_no hc (j := 8) rfl ⟨1, .data⟩ (by simp) rfl hl
      have h16 := closed_no hc (j := 16) rfl ⟨8, .data⟩ (by simp) rfl h8
      have h19 := closed_no hc (j := 19) rfl ⟨1, .phase⟩ (by simp) rfl hl
      show OpA _ _ _ _ (lst (Ld 1) (Ld 8) (Ld 16) (Ld 19) (f 1).1 (f 8).1 (f 16).1) (fun y => lst true (Ld 8) (Ld 16) (Ld 19) y.1 (f 8).1 (f 16).1) _ _ _
      rw [hl, h8, h16, h19]
      refine OpA.ofS (l := []) rfl (by decide) .nil ?_
      refine S_bslice tabOk rfl rfl rfl rfl rfl rfl rfl rfl rfl rfl rfl rfl (fun nb hnb => ?_)
      refine S_heap (fun w' h => Hp.closeRow (pre := []) (n := 0) (c := 0) (sz := 3) h hnb (by decide) (by decide) rfl) ?_
      refine S_nil ?_
      exact ⟨_, (), rfl, (fun u h => by cases h), fun w' hw => by have h9 := hw.pm [1, 2, 3, 0] rfl rfl rfl; exact h9⟩
    · exact fun Ld f hc hl hp => OpA.told () rfl (D_pure tabOk rfl D_last) rfl
    · exact fun Ld f hc hl hp => OpA.told () rfl (D_pure tabOk rfl D_last) rfl
    · exact fun Ld f hc hl hp => OpA.told () rfl (D_pure tabOk rfl D_last) rfl
    · intro Ld f hc hl hp
      have h7 := closed_no hc (j := 7) rfl ⟨5, .data⟩ (by simp) rfl hl
      have h8 := closed_no hc (j := 8) rfl ⟨7, .data⟩ (by simp) rfl h7
      have h16 := closed_no hc (j := 16) rfl ⟨8, .data⟩ (by simp) rfl h8
      have h19 := closed_no hc (j := 19) rfl ⟨5, .phase⟩ (by simp) rfl hl
      show OpA _ _ _ _ (lst (Ld 1) (Ld 8) (Ld 16) (Ld 19) (f 1).1 (f 8).1 (f 16).1) (fun y => lst (Ld 1) (Ld 8) (Ld 16) (Ld 19) (f 1).1 (f 8).1 (f 16).1) _ _ _
      rw [h8, h16, h19]
      exact OpA.told () rfl (D_load tabOk 2 rfl rfl rfl D_last) rfl
    · exact fun Ld f hc hl hp => OpA.told () rfl (D_pure tabOk rfl D_last) rfl
    · exact fun Ld f hc hl hp => OpA.told () rfl (D_q (Q_sliceTo tabOk rfl rfl rfl rfl rfl rfl (H := i) rfl (by omega)) D_last) rfl
    · intro Ld f hc hl hp
      have h1 : Ld 1 = true := hp ⟨1, .data⟩ (by simp) rfl
      have h16 := closed_no hc (j := 16) rfl ⟨8, .data⟩ (by simp) rfl hl
      have h19 := closed_no hc (j := 19) rfl ⟨8, .phase⟩ (by simp) rfl hl
      show OpA _ _ _ _ (lst (Ld 1) (Ld 8) (Ld 16) (Ld 19) (f 1).1 (f 8).1 (f 16).1) (fun y => lst (Ld 1) true (Ld 16) (Ld 19) (f 1).1 y.1 (f 16).1) _ _ _
      rw [hl, h1, h16, h19]
      refine OpA.pre (X := ∃ A C, (f 1).1 = .slice A 0 C) (fun w hw => ?_) (fun d h => by cases h; decide) ?_
      · obtain ⟨A, C, e2, _⟩ := hw.rowForm 3 rfl
        exact ⟨A, C, e2⟩
      · rintro ⟨A, C, e2⟩
        rw [e2]
        refine OpA.ofS (l := [(23, .slice A 0 C), (29, .slice al i cl)]) rfl (by decide) (.cons rfl (by show some (Ent.ex (f 1).1) = _; rw [e2]) (.cons rfl rfl .nil)) ?_
        refine S_append (ty := 0) (m := 0) (k := i) (xs := []) tabOk 3 (sz := 3) rfl rfl rfl rfl rfl rfl rfl rfl rfl (by decide) (fun w' h => hsl1.far fun b off h0 e => ?_) hcone1 (by simp only [maxLen]; omega) (by show (_ + _) * 40 ≤ _; omega) rfl (fun A' c' h1 h2 => ⟨_, rfl, ?_⟩)
        · have h9 := h.pm [2, 0, 1] rfl rfl rfl
          exact hold h9 (by repeat (first | exact new_nil | refine new_cons (by first | assumption | omega) ?_ | refine newrow h9 3 rfl (Nat.le_refl _) ?_)) (hlb1 b off h0 e)
        · rw [List.nil_append, Nat.zero_add]
          refine S_nil ?_
          exact ⟨_, (), rfl, (fun u h => by cases h), fun w' hw => by
            have h9 := (hw.addF (p := ∃ A C, Value.slice A' i c' = .slice A i C) ⟨A', c', rfl⟩).pm [1, 2, 3, 4, 0] rfl rfl rfl
            exact h9⟩
    · exact fun Ld f hc hl hp => OpA.told () rfl (D_pure tabOk rfl D_last) rfl
    · exact fun Ld f hc hl hp => OpA.told () rfl (D_pure tabOk rfl D_last) rfl
    · exact fun Ld f hc hl hp => OpA.told () rfl (D_pure tabOk rfl D_last) rfl
    · intro Ld f hc hl hp
      have h15 := closed_no hc (j := 15) rfl ⟨12, .data⟩ (by simp) rfl hl
      have h16 := closed_no hc (j := 16) rfl ⟨15, .data⟩ (by simp) rfl h15
      have h19 := closed_no hc (j := 19) rfl ⟨12, .phase⟩ (by simp) rfl hl
      show OpA _ _ _ _ (lst (Ld 1) (Ld 8) (Ld 16) (Ld 19) (f 1).1 (f 8).1 (f 16).1) (fun y => lst (Ld 1) (Ld 8) (Ld 16) (Ld 19) (f 1).1 (f 8).1 (f 16).1) _ _ _
      rw [h16, h19]
      exact OpA.told () rfl (D_load tabOk 2 rfl rfl rfl D_last) rfl
    · exact fun Ld f hc hl hp => OpA.told () rfl (D_pure tabOk rfl D_last) rfl
    · exact fun Ld f hc hl hp => OpA.told () rfl (D_i64 tabOk rfl (by omega) D_last) rfl
    · exact fun Ld f hc hl hp => OpA.told () rfl (D_q (Q_sliceFrom tabOk rfl rfl rfl rfl rfl rfl rfl (L := i + 1) (sz := 3) (by omega) (by omega) (by omega)) D_last) rfl
    · intro Ld f hc hl hp
      have h8 : Ld 8 = true := hp ⟨8, .data⟩ (by simp) rfl
      have h1 : Ld 1 = true := hc 8 _ rfl h8 ⟨1, .data⟩ (by simp) rfl
      have h19 := closed_no hc (j := 19) rfl ⟨16, .data⟩ (by simp) rfl hl
      show OpA _ _ _ _ (lst (Ld 1) (Ld 8) (Ld 16) (Ld 19) (f 1).1 (f 8).1 (f 16).1) (fun y => lst (Ld 1) (Ld 8) true (Ld 19) (f 1).1 (f 8).1 y.1) _ _ _
      rw [hl, h1, h8, h19]
      refine OpA.pre (X := ∃ A C, (f 8).1 = .slice A i C) (fun w hw => hw.fact 4 rfl) (fun d h => by cases h; decide) ?_
      rintro ⟨A, C, e2⟩
      rw [e2]
      refine OpA.ofS (l := [(30, .slice A i C), (37, .slice (if cl = i + 1 then al else al.map (·.add ((i + 1) * 3))) (L.length - (i + 1)) (cl - (i + 1)))]) rfl (by decide) (.cons rfl (by show some (Ent.ex (f 8).1) = _; rw [e2]) (.cons rfl rfl .nil)) ?_
      refine S_append (ty := 0) (m := i) (k := L.length - (i + 1)) (xs := css1.flatten) tabOk 3 (sz := 3) rfl rfl rfl rfl rfl rfl rfl rfl rfl (by decide) (fun w' h => hsl2.far fun b off h0 e => ?_) hcone2 (by simp only [maxLen]; omega) (by show (_ + _) * 40 ≤ _; omega) rfl (fun A' c' h1 h2 => ⟨_, rfl, ?_⟩)
      · have h9 := h.pm [2, 0, 1] rfl rfl rfl
        exact hold h9 (by repeat (first | exact new_nil | refine new_ro ?_ | refine new_cons (by first | assumption | omega) ?_ | refine newrow h9 3 rfl (Nat.le_refl _) ?_)) (hlb2 b off h0 e)
      · refine S_nil ?_
        exact ⟨_, (), rfl, (fun u h => by cases h), fun w' hw => by
          have h9 := (hw.addF (p := ∃ A C, Value.slice A' (i + (L.length - (i + 1))) c' = .slice A (i + (L.length - (i + 1))) C) ⟨A', c', rfl⟩).pm [1, 2, 3, 4, 5, 0] rfl rfl rfl
          exact h9⟩
    · exact fun Ld f hc hl hp => OpA.told () rfl (D_pure tabOk rfl D_last) rfl
    · exact fun Ld f hc hl hp => OpA.told () rfl (D_pure tabOk rfl D_last) rfl
    · intro Ld f hc hl hp
      have h1 : Ld 1 = true := hp ⟨1, .phase⟩ (by simp) rfl
      have h8 : Ld 8 = true := hp ⟨8, .phase⟩ (by simp) rfl
      have h16 : Ld 16 = true := hp ⟨16, .data⟩ (by simp) rfl
      show OpA _ _ _ _ (lst (Ld 1) (Ld 8) (Ld 16) (Ld 19) (f 1).1 (f 8).1 (f 16).1) (fun y => lst (Ld 1) (Ld 8) (Ld 16) true (f 1).1 (f 8).1 (f 16).1) _ _ _
      rw [hl, h1, h8, h16]
      refine OpA.pre (X := ∃ A C, (f 16).1 = .slice A (i + (L.length - (i + 1))) C) (fun w hw => hw.fact 5 rfl) (fun d h => by cases h) ?_
      rintro ⟨A, C, e2⟩
      refine OpA.swap (dl' := [(40, .ex (.pointer (some ⟨xb, 2, none⟩))), (38, .ex (.slice A (i + (L.length - (i + 1))) C))]) (List.forall_mem_cons.2 ⟨rfl, List.forall_mem_cons.2 ⟨congrArg (fun v => some (Ent.ex v)) e2, fun _ h => nomatch h⟩⟩) ?_
      rw [e2]
      exact OpS.toF () (fun u h => by cases h; rfl) (OpS.store tabOk 2 rfl rfl (fun u h => by rw [List.mem_singleton] at h; subst h; rfl) rfl rfl rfl)
  · intro Lf f w6 hL6 hw6
    change Hp _ _ (lst (Lf 1) (Lf 8) (Lf 16) (Lf 19) (f 1).1 (f 8).1 (f 16).1) at hw6
    rw [hL6 1 (by decide), hL6 8 (by decide), hL6 16 (by decide), hL6 19 (by decide)] at hw6
    obtain ⟨A17, C17, e17⟩ := hw6.fact 5 rfl
    rw [e17] at hw6
    have h9 := hw6.pm [0, 1, 2, 3, 4, 5] rfl rfl rfl
    refine ⟨[(4, .pointer (some ⟨b4, 0, none⟩)), (7, .pointer (some ⟨b7, 0, none⟩))], [.blk b7 (.cells ⟨[.int .i64 x.2.1, .slice a0 x.2.2.length c0]⟩ 115 (0, 0)) true, .blk b4 (.cells ⟨[.int .i64 0, .slice none 0 0]⟩ 115 (0, 0)) true, .blk xb (rqC cap aw ws.length cw A17 (i + (L.length - (i + 1))) C17 last) true, .row w.heap.size (.slice A17 (i + (L.length - (i + 1))) C17) 125 3 (i + (L.length - (i + 1))) (css1.flatten ++ css2.flatten)], (by repeat (first | exact SubD.nil | refine SubD.cons rfl ?_)), h9.less (by repeat (first | exact Less.nil | refine Less.keep ?_ | refine Less.dropR ?_)), ?_⟩
    clear h9 hw6 hL6 lst
    repeat (first | refine T_seq ?_ | refine T_region ?_ | refine S_nil ?_ | refine pthen_normal ?_ | refine T_ret ?_ | refine S_pure tabOk rfl ?_ | refine S_load tabOk 0 rfl rfl rfl ?_ | refine S_store tabOk 1 rfl rfl rfl rfl rfl rfl ?_)
    exact ret2 rfl (ResIs.cellO tabOk 1 rfl rfl rfl rfl) rfl (fun w' hw => ⟨a0, c0, rfl, rq_del hS hFx hF hT hD hcl1 hat1 hcl2 hat2 hold hz hxe (hw.pm [2, 3, 0, 1] rfl rfl rfl |>.less (by repeat (first | exact Less.nil | refine Less.keep ?_ | refine Less.dropB (by first | assumption | omega) ?_)))⟩)
end

abbrev Rlu : Rep (List Int) := Rslice (Rint .u64)
theorem flatOne : ∀ vs : List Value, (vs.map fun v => [v]).flatten = vs
  | [] => rfl
  | v :: vs => by rw [List.map_cons, List.flatten_cons, flatOne vs]; rfl
structure RI where
  i : Nat
  vs : List Value
  us : List Value
  sa : Option Addr
  sc : Nat
  ua : Option Addr
  uc : Nat
  F : Nat → Prop
  G : Nat → Prop
section
variable {xb : Nat} {cap last : Int} {ws : List Int} {L : List QE} {aw : Option Addr} {cw : Nat} {al : Option Addr} {cl : Nat} {w : World} {A : Nat → Prop}
theorem RqS.ext (h : RqS xb cap last ws L aw cw al cl w A) {w' : World} (hb : Below w.heap.size w w') : RqS xb cap last ws L aw cw al cl w' A :=
  ⟨(hb.block xb (heap_lt h.x)).trans h.x, h.ws.ext hb, h.L.ext hb, h.n⟩
set_option maxHeartbeats 16000000 in
theorem rvictims9_ok (hS : RqS xb cap last ws L aw cw al cl w A) (hok : QOk cap last ws L) (hlen : L.length ≤ 65535) (hrw : rightW ws) (hcap : 0 ≤ cap ∧ cap ≤ 1099511627776) {k : Int} {a : Option Addr} {m c : Nat} {zs : List Int} (hzl : zs.length = m) :
    Calls Try.prog 60 #[.pointer (some ⟨xb, 0, none⟩), .agg #[.int .i64 k, .slice a m c]] w fun e w' => ∃ o E a2 c2, e = .returned (.tuple #[.slice a2 o.1.length c2, .bool o.2, .int .i64 E]) ∧ Below w.heap.size w w' ∧ w'.ownsRow w.heap.size 59 1 (.slice a2 o.1.length c2) o.1.length (o.1.map (.int .u64)) ∧ VicP cap ws L k m o E := by
  have hws := hrw.2.1
  have hws1 := hrw.1
  subst hzl
  refine enter2 Try.func60 rfl rfl (Hp.refl w) ?_
  repeat (first | refine T_seq ?_ | refine T_region ?_)
  refine S_new tabOk rfl (fun b3 hb3 => ?_)
  repeat (first | refine T_seq ?_ | refine T_region ?_ | refine S_nil ?_ | refine S_pure tabOk rfl ?_ | refine S_load tabOk 0 rfl rfl rfl ?_)
  refine S_callq (v := .bool (sright k zs.length && decide (k < (ws.length : Int)))) rfl Try.call62 (fun w1 h1 => rtakes9_ok (hS.ext (h1.below (by repeat (first | exact new_nil | refine new_cons (by first | assumption | omega) ?_)))) k a zs.length c) ?_
  repeat (first | refine S_nil ?_ | refine S_pure tabOk rfl ?_)
  cases ht : (sright k zs.length && decide (k < (ws.length : Int))) with
  | false =>
    refine T_cond_t rfl ?_
    repeat (first | refine T_seq ?_ | refine T_region ?_ | refine S_nil ?_ | refine pthen_ret ?_ | refine T_ret ?_ | refine S_pure tabOk rfl ?_)
    exact ret3 rfl rfl rfl rfl (fun w' hw => ⟨([], false), 1, none, 0, rfl, hw.below (by repeat (first | exact new_nil | refine new_cons (by first | assumption | omega) ?_)), World.ownsRow_nil w' _ _ _, by unfold VicP; rw [if_neg (by rw [ht]; decide)]; exact ⟨rfl, rfl⟩⟩)
  | true =>
  refine T_cond_f rfl ?_
  have hr2 := ht
  unfold sright at hr2
  simp only [Bool.and_eq_true, decide_eq_true_eq] at hr2
  obtain ⟨⟨hk0, hk8, hz4⟩, hkw⟩ := hr2
  repeat (first | refine T_draw (by kernel_rfl) (by kernel_rfl) ?_ | refine D_load tabOk 0 rfl rfl rfl ?_ | refine T_seq ?_ | refine pthen_normal ?_ | refine T_skip ?_)
  refine D_callx (v := .int .i64 ((zs.length : Int) + 16)) rfl Try.call73 (fun w' vs hw' h => by
    obtain ⟨u1, _, rfl, rfl, rfl⟩ := h
    exact rsize9_ok k a zs.length c w' (by omega)) ?_
  repeat (first | refine D_pure tabOk rfl ?_)
  refine D_load1 tabOk (v := .int .i64 cap) rfl rfl (fun w' hw => hS.cell (hw.below (by repeat (first | exact new_nil | refine new_cons (by first | assumption | omega) ?_))) (j := 0) rfl) ?_
  repeat (first | refine D_all rfl ?_ | refine D_pure tabOk rfl ?_)
  refine T_cond_dec rfl (fun hlo => ?_) (fun hlo => ?_)
  · repeat (first | refine T_seq ?_ | refine T_region ?_ | refine S_nil ?_ | refine pthen_ret ?_ | refine T_ret ?_ | refine S_pure tabOk rfl ?_)
    exact ret3 rfl rfl rfl rfl (fun w' hw => ⟨([], false), 6, none, 0, rfl, hw.below (by repeat (first | exact new_nil | refine new_cons (by first | assumption | omega) ?_)), World.ownsRow_nil w' _ _ _, by unfold VicP; rw [if_pos ht, if_pos hlo]; exact ⟨rfl, rfl⟩⟩)
  repeat (first | refine T_seq ?_ | refine T_region ?_ | refine S_nil ?_ | refine pthen_normal ?_ | refine T_skip ?_ | refine S_pure tabOk rfl ?_)
  refine S_load1 tabOk (v := .slice aw ws.length cw) rfl rfl (fun w' hw => hS.cell (hw.below (by repeat (first | exact new_nil | refine new_cons (by first | assumption | omega) ?_))) (j := 1) rfl) ?_
  repeat (first | refine S_nil ?_ | refine S_pure tabOk rfl ?_)
  let O1 : RI → OL := fun y => [.row w.heap.size (.slice y.sa y.i y.sc) 22 1 y.i y.vs, .row w.heap.size (.slice y.ua y.i y.uc) 61 1 y.i y.us, .rep (fun w => (Bod Rll (y.vs.map fun v => [v]) ((szs L ws.length).take y.i)).at_ w y.F (.bool true)) y.F false, .rep (fun w => (Bod Rlu (y.us.map fun v => [v]) ((nms L ws.length).take y.i)).at_ w y.G (.bool true)) y.G false, .blk b3 (.cells ⟨[.int .i64 k, .slice a zs.length c]⟩ 115 (0, 0)) true]
  refine T_cut (ι := RI) (fun y => y.i = ws.length ∧ y.vs.length = y.i ∧ y.us.length = y.i ∧ (∀ k, y.F k → w.heap.size ≤ k) ∧ ∀ k, y.G k → w.heap.size ≤ k) (fun y => [(0, .pointer (some ⟨xb, 0, none⟩)), (3, .pointer (some ⟨b3, 0, none⟩)), (4, .slice none 0 0), (5, .bool false), (6, .int .i64 0), (7, .slice y.sa y.i y.sc), (8, .slice y.ua y.i y.uc)]) O1 ?_ ?_
  · refine T_block ?_
    refine T_loop (ι := RI) (fun y => [(0, .pointer (some ⟨xb, 0, none⟩)), (3, .pointer (some ⟨b3, 0, none⟩)), (4, .slice none 0 0), (5, .bool false), (6, .int .i64 0), (7, .slice y.sa y.i y.sc), (8, .slice y.ua y.i y.uc), (34, .slice aw ws.length cw), (35, .int .i64 (ws.length : Int)), (36, .int .i64 (y.i : Int))]) O1 (fun y => y.i ≤ ws.length ∧ y.vs.length = y.i ∧ y.us.length = y.i ∧ (∀ k, y.F k → w.heap.size ≤ k) ∧ ∀ k, y.G k → w.heap.size ≤ k) (fun y => ws.length - y.i) ⟨0, [], [], none, 0, none, 0, fun _ => False, fun _ => False⟩ ⟨Nat.zero_le _, rfl, rfl, fun k hk => hk.elim, fun k hk => hk.elim⟩ (by repeat (first | exact Sub.nil | refine Sub.cons rfl ?_)) (fun w' hw => ?_) ?_
    · have h9 := ((((hw.addN (v := .bool true) (Bod Rlu [] []) (fun w => Bod.nil_)).addN (v := .bool true) (Bod Rll [] []) (fun w => Bod.nil_)).nilRow 61 1).nilRow 22 1)
      exact h9
    rintro ⟨i, vs, us, sa, sc, ua, uc, F, G⟩ ⟨hi, hvl, hul, hFn, hGn⟩
    dsimp only [O1] at hi hvl hul hFn hGn ⊢
    repeat (first | refine T_seq ?_ | refine T_region ?_ | refine S_nil ?_ | refine S_pure tabOk rfl ?_)
    refine T_cond_dec rfl (fun hlt => ?_) (fun hge => ?_)
    rotate_left
    · repeat (first | refine pthen_normal ?_ | refine inb_hit ?_ | refine pthen_exit ?_ | refine T_exit ?_)
      exact ⟨⟨i, vs, us, sa, sc, ua, uc, F, G⟩, ⟨by show i = ws.length; omega, hvl, hul, hFn, hGn⟩, by repeat (first | exact Sub.nil | refine Sub.cons rfl ?_), fun w' hw => hw⟩
    have hlt' : i < ws.length := by omega
    repeat (first | refine T_seq ?_ | refine pthen_normal ?_ | refine T_skip ?_)
    refine T_block ?_
    repeat (first | refine T_seq ?_ | refine T_region ?_ | refine S_nil ?_ | refine S_pure tabOk rfl ?_)
    refine S_load1 tabOk (v := .slice al L.length cl) rfl rfl (fun w' hw => hS.cell (hw.below (by repeat (first | exact new_nil | refine new_ro ?_ | refine new_cons (by first | assumption | omega) ?_ | refine newrow hw 0 rfl (Nat.le_refl _) ?_ | refine newrow hw 1 rfl (Nat.le_refl _) ?_))) (j := 2) rfl) ?_
    repeat (first | refine S_nil ?_ | refine S_pure tabOk rfl ?_)
    let OI : Nat → Option Addr → Nat → Option Addr → Nat → OL := fun j aa ac ba bc => [.row w.heap.size (.slice aa (ofC (L.take j) i).length ac) 3 1 (ofC (L.take j) i).length (((ofC (L.take j) i).map sizeQ).map (.int .i64)), .row w.heap.size (.slice ba (ofC (L.take j) i).length bc) 59 1 (ofC (L.take j) i).length (((ofC (L.take j) i).map fun x : QE => x.1).map (.int .u64)), .row w.heap.size (.slice sa i sc) 22 1 i vs, .row w.heap.size (.slice ua i uc) 61 1 i us, .rep (fun w => (Bod Rll (vs.map fun v => [v]) ((szs L ws.length).take i)).at_ w F (.bool true)) F false, .rep (fun w => (Bod Rlu (us.map fun v => [v]) ((nms L ws.length).take i)).at_ w G (.bool true)) G false, .blk b3 (.cells ⟨[.int .i64 k, .slice a zs.length c]⟩ 115 (0, 0)) true]
    refine T_asThen ?_
    refine T_cut (ι := Option Addr × Nat × Option Addr × Nat) (fun _ => True) (fun y => [(0, .pointer (some ⟨xb, 0, none⟩)), (3, .pointer (some ⟨b3, 0, none⟩)), (4, .slice none 0 0), (5, .bool false), (6, .int .i64 0), (7, .slice sa i sc), (8, .slice ua i uc), (34, .slice aw ws.length cw), (35, .int .i64 (ws.length : Int)), (36, .int .i64 (i : Int)), (10, .slice y.1 (ofC L i).length y.2.1), (11, .slice y.2.2.1 (ofC L i).length y.2.2.2)]) (fun y => OI L.length y.1 y.2.1 y.2.2.1 y.2.2.2) ?_ ?_
    · refine T_block ?_
      refine T_loop (ι := Nat × Option Addr × Nat × Option Addr × Nat) (fun y => [(0, .pointer (some ⟨xb, 0, none⟩)), (3, .pointer (some ⟨b3, 0, none⟩)), (4, .slice none 0 0), (5, .bool false), (6, .int .i64 0), (7, .slice sa i sc), (8, .slice ua i uc), (34, .slice aw ws.length cw), (35, .int .i64 (ws.length : Int)), (36, .int .i64 (i : Int)), (9, .int .i64 (i : Int)), (10, .slice y.2.1 (ofC (L.take y.1) i).length y.2.2.1), (11, .slice y.2.2.2.1 (ofC (L.take y.1) i).length y.2.2.2.2), (42, .slice al L.length cl), (43, .int .i64 (L.length : Int)), (44, .int .i64 (y.1 : Int))]) (fun y => OI y.1 y.2.1 y.2.2.1 y.2.2.2.1 y.2.2.2.2) (fun y => y.1 ≤ L.length) (fun y => L.length - y.1) (0, none, 0, none, 0) (Nat.zero_le _) (by repeat (first | exact Sub.nil | refine Sub.cons rfl ?_)) (fun w' hw => ?_) ?_
      · have h9 := (hw.nilRow 59 1).nilRow 3 1
        exact h9
      rintro ⟨j, aa, ac, ba, bc⟩ hj
      dsimp only [OI] at hj ⊢
      repeat (first | refine T_seq ?_ | refine T_region ?_ | refine S_nil ?_ | refine S_pure tabOk rfl ?_)
      refine T_cond_dec rfl (fun hlt2 => ?_) (fun hge2 => ?_)
      rotate_left
      · repeat (first | refine pthen_normal ?_ | refine inb_hit ?_ | refine pthen_exit ?_ | refine T_exit ?_)
        have hjz : j = L.length := by omega
        subst hjz
        refine ⟨(aa, ac, ba, bc), trivial, ?_, fun w' hw => hw⟩
        rw [List.take_length]
        repeat (first | exact Sub.nil | refine Sub.cons rfl ?_)
      obtain ⟨x, hx⟩ : ∃ x, L[j]? = some x := ⟨_, List.getElem?_eq_getElem (by omega)⟩
      obtain ⟨ab, off, xa, xc, rfl, hlt3, hz3, hce⟩ := item_at hS.L hx
      have hxc := (hok.cls x (List.mem_of_getElem? hx)).2.2.2
      have hPx : L.take (j + 1) = L.take j ++ [x] := by
        rw [List.take_succ_eq_append_getElem (by omega)]
        rw [List.getElem?_eq_getElem (by omega)] at hx
        rw [Option.some.inj hx]
      have hmj : (ofC (L.take j) i).length ≤ 65535 := by
        have e1 : (ofC (L.take j) i).length ≤ (L.take j).length := List.length_filter_le _ _
        rw [List.length_take] at e1
        omega
      repeat (first | refine T_seq ?_ | refine T_region ?_ | refine T_block ?_ | refine pthen_normal ?_ | refine T_skip ?_)
      refine S_q (Q_idx (sz := 3) tabOk rfl rfl rfl rfl rfl rfl rfl (j := j) rfl (by omega)) ?_
      refine S_loadN tabOk (vs := [.int .u64 x.1, .int .i64 x.2.1, .slice xa x.2.2.length xc]) rfl rfl rfl (fun w' hw jj u hu => by
        rw [Addr.add_lit]
        exact hce w' (hw.below (by repeat (first | exact new_nil | refine new_ro ?_ | refine new_cons (by first | assumption | omega) ?_ | refine newrow hw 0 rfl (Nat.le_refl _) ?_ | refine newrow hw 1 rfl (Nat.le_refl _) ?_ | refine newrow hw 2 rfl (Nat.le_refl _) ?_ | refine newrow hw 3 rfl (Nat.le_refl _) ?_))) jj u hu) ?_
      refine S_new tabOk rfl (fun b13 hb13 => ?_)
      repeat (first | refine T_seq ?_ | refine T_region ?_ | refine S_nil ?_ | refine S_pure tabOk rfl ?_ | refine S_load tabOk 0 rfl rfl rfl ?_ | refine S_store tabOk 0 rfl rfl rfl rfl rfl rfl ?_)
      refine T_cond_dec rfl (fun hcx => ?_) (fun hcx => ?_)
      rotate_left
      · have e1 : ofC (L.take (j + 1)) i = ofC (L.take j) i := by rw [hPx, ofC_snoc, if_neg hcx, List.append_nil]
        repeat (first | refine T_region ?_ | refine S_nil ?_ | refine pthen_normal ?_ | refine inb_normal ?_ | refine T_skip ?_ | refine S_i64 tabOk rfl (by omega) ?_ | refine S_pure tabOk rfl ?_)
        refine ⟨(j + 1, aa, ac, ba, bc), by show j + 1 ≤ L.length; omega, ?_, fun w' hw => ?_, by dsimp only; omega⟩
        · dsimp only
          rw [e1]
          repeat (first | exact Sub.nil | refine Sub.cons rfl ?_)
        · dsimp only
          rw [e1]
          exact hw.less (by repeat (first | exact Less.nil | refine Less.keep ?_ | refine Less.dropB (by first | assumption | omega) ?_))
      skip
      obtain ⟨m, hm1⟩ : ∃ m, m = (ofC (L.take j) i).length := ⟨_, rfl⟩
      obtain ⟨xs1, hxs1⟩ : ∃ y, y = ((ofC (L.take j) i).map sizeQ).map (Value.int .i64) := ⟨_, rfl⟩
      obtain ⟨xs8, hxs8⟩ : ∃ y, y = ((ofC (L.take j) i).map fun x : QE => x.1).map (Value.int .u64) := ⟨_, rfl⟩
      have e1 : ofC (L.take (j + 1)) i = ofC (L.take j) i ++ [x] := by rw [hPx, ofC_snoc, if_pos hcx]
      have hm1' : m + 1 = (ofC (L.take (j + 1)) i).length := by rw [e1, hm1]; simp
      have hx1' : xs1 ++ [.int .i64 (sizeQ x)] = ((ofC (L.take (j + 1)) i).map sizeQ).map (Value.int .i64) := by rw [e1, hxs1]; simp
      have hx8' : xs8 ++ [.int .u64 x.1] = ((ofC (L.take (j + 1)) i).map fun x : QE => x.1).map (Value.int .u64) := by rw [e1, hxs8]; simp
      rw [← hm1, ← hxs1, ← hxs8]
      rw [← hm1] at hmj
      let lst : Bool → Bool → Bool → Bool → Bool → Bool → Value → Value → Value → Value → Value → Value → OL := fun l4 l5 l9 l10 l11 l12 v4 v5 v9 v10 v11 v12 =>
        .blk b13 (.cells ⟨[.int .u64 x.1, .int .i64 x.2.1, .slice xa x.2.2.length xc]⟩ 125 (0, 0)) true :: .row w.heap.size (cond l5 v5 (.slice aa m ac)) 3 1 (cond l5 (m + 1) m) (cond l5 (xs1 ++ [.int .i64 (sizeQ x)]) xs1) :: .row w.heap.size (cond l10 v10 (.slice ba m bc)) 59 1 (cond l10 (m + 1) m) (cond l10 (xs8 ++ [.int .u64 x.1]) xs8) :: .row w.heap.size (.slice sa i sc) 22 1 i vs :: .row w.heap.size (.slice ua i uc) 61 1 i us :: .rep (fun w => (Bod Rll (vs.map fun v => [v]) ((szs L ws.length).take i)).at_ w F (.bool true)) F false :: .rep (fun w => (Bod Rlu (us.map fun v => [v]) ((nms L ws.length).take i)).at_ w G (.bool true)) G false :: .blk b3 (.cells ⟨[.int .i64 k, .slice a zs.length c]⟩ 115 (0, 0)) true :: (cond l4 [.row w.heap.size v4 3 1 1 [.int .i64 (sizeQ x)]] [] ++ (cond l5 [factE (∃ A C, v5 = .slice A (m + 1) C)] [] ++ (cond l9 [.row w.heap.size v9 59 1 1 [.int .u64 x.1]] [] ++ (cond l10 [factE (∃ A C, v10 = .slice A (m + 1) C)] [] ++ (cond l11 [factE (v11 = v5)] [] ++ (cond l12 [factE (v12 = v10)] []))))))
      refine T_asThen ?_
      refine T_drawF (γ := Unit) (by kernel_rfl) (by kernel_rfl) () (fun Ld f => lst (Ld 4) (Ld 5) (Ld 9) (Ld 10) (Ld 11) (Ld 12) (f 4).1 (f 5).1 (f 9).1 (f 10).1 (f 11).1 (f 12).1) rfl [some (.slice aa m ac), some (.pointer (some ⟨b13, 1, none⟩)), some (.agg ⟨[.int .i64 x.2.1, .slice xa x.2.2.length xc]⟩), some (.int .i64 (sizeQ x)), none, none, some (.slice ba m bc), some (.pointer (some ⟨b13, 0, none⟩)), some (.int .u64 x.1), none, none, none, none] ?_ ?_
      · refine ⟨?_, ?_, ?_, ?_, ?_, ?_, ?_, ?_, ?_, ?_, ?_, ?_, ?_, trivial⟩
        · exact fun Ld f hc hl hp => OpA.told () rfl (D_pure tabOk rfl D_last) rfl
        · exact fun Ld f hc hl hp => OpA.told () rfl (D_pure tabOk rfl D_last) rfl
        · exact fun Ld f hc hl hp => OpA.told () rfl (D_load tabOk 0 rfl rfl rfl D_last) rfl
        · exact fun Ld f hc hl hp => OpA.told () rfl (D_callx (v := .int .i64 (sizeQ x)) rfl Try.call73 (fun w' vs hw' h => by
        obtain ⟨u1, _, rfl, rfl, rfl⟩ := h
        exact rsize9_ok x.2.1 xa x.2.2.length xc w' (by omega)) D_last) rfl
        · intro Ld f hc hl hp
          have h5 := closed_no hc (j := 5) rfl ⟨4, .data⟩ (by simp) rfl hl
          have h10 := closed_no hc (j := 10) rfl ⟨5, .chain⟩ (by simp) rfl h5
          have h11 := closed_no hc (j := 11) rfl ⟨4, .phase⟩ (by simp) rfl hl
          have h12 := closed_no hc (j := 12) rfl ⟨4, .phase⟩ (by simp) rfl hl
          show OpA _ _ _ _ (lst (Ld 4) (Ld 5) (Ld 9) (Ld 10) (Ld 11) (Ld 12) (f 4).1 (f 5).1 (f 9).1 (f 10).1 (f 11).1 (f 12).1) (fun y => lst true (Ld 5) (Ld 9) (Ld 10) (Ld 11) (Ld 12) y.1 (f 5).1 (f 9).1 (f 10).1 (f 11).1 (f 12).1) _ _ _
          rw [hl, h5, h10, h11, h12]
          cases hu9 : Ld 9 with
          | false =>
            refine OpA.ofS (l := [(56, .int .i64 (sizeQ x))]) rfl (by decide) (.cons rfl rfl .nil) ?_
            refine S_bslice tabOk rfl rfl rfl rfl rfl rfl rfl rfl rfl rfl rfl rfl (fun nb hnb => ?_)
            refine S_heap (fun w' h => Hp.closeRow (pre := []) (n := 1) (c := 1) (sz := 1) h hnb (by decide) (by decide) rfl) ?_
            refine S_nil ?_
            exact ⟨_, (), rfl, (fun u h => by cases h), fun w' hw => by
              have h9 := hw.pm [1, 2, 3, 4, 5, 6, 7, 8, 0] rfl rfl rfl
              exact h9⟩
          | true =>
            refine OpA.ofS (l := [(56, .int .i64 (sizeQ x))]) rfl (by decide) (.cons rfl rfl .nil) ?_
            refine S_bslice tabOk rfl rfl rfl rfl rfl rfl rfl rfl rfl rfl rfl rfl (fun nb hnb => ?_)
            refine S_heap (fun w' h => Hp.closeRow (pre := []) (n := 1) (c := 1) (sz := 1) h hnb (by decide) (by decide) rfl) ?_
            refine S_nil ?_
            exact ⟨_, (), rfl, (fun u h => by cases h), fun w' hw => by
              have h9 := hw.pm [1, 2, 3, 4, 5, 6, 7, 8, 0, 9] rfl rfl rfl
              exact h9⟩
        · intro Ld f hc hl hp
          have h4 : Ld 4 = true := hp ⟨4, .data⟩ (by simp) rfl
          have h10 := closed_no hc (j := 10) rfl ⟨5, .chain⟩ (by simp) rfl hl
          have h11 := closed_no hc (j := 11) rfl ⟨5, .data⟩ (by simp) rfl hl
          have h12 := closed_no hc (j := 12) rfl ⟨5, .phase⟩ (by simp) rfl hl
          show OpA _ _ _ _ (lst (Ld 4) (Ld 5) (Ld 9) (Ld 10) (Ld 11) (Ld 12) (f 4).1 (f 5).1 (f 9).1 (f 10).1 (f 11).1 (f 12).1) (fun y => lst (Ld 4) true (Ld 9) (Ld 10) (Ld 11) (Ld 12) (f 4).1 y.1 (f 9).1 (f 10).1 (f 11).1 (f 12).1) _ _ _
          rw [hl, h4, h10, h11, h12]
          cases hu9 : Ld 9 with
          | false =>
            refine OpA.pre (X := ∃ A C, (f 4).1 = .slice A 1 C) (fun w hw => ?_) (fun d h => by cases h; decide) ?_
            · obtain ⟨A, C, e2, _⟩ := hw.rowForm 8 rfl
              exact ⟨A, C, e2⟩
            rintro ⟨A, C, e2⟩
            rw [e2]
            refine OpA.ofS (l := [(53, .slice aa m ac), (57, .slice A 1 C)]) rfl (by decide) (.cons rfl rfl (.cons rfl (by show some (Ent.ex (f 4).1) = _; rw [e2]) .nil)) ?_
            refine S_append (ty := 0) (m := m) (k := 1) (xs := xs1) (news := [.int .i64 (sizeQ x)]) tabOk 1 (sz := 1) rfl rfl rfl rfl rfl rfl rfl rfl rfl (by decide) (fun w' h => Sl.of_own (h.own _ (getE_mem (i := 8) rfl))) (fun u hu => by rw [List.mem_singleton] at hu; subst hu; rfl) (by simp only [maxLen]; omega) (by show (_ + _) * 8 ≤ _; omega) rfl (fun A'' c'' h1 h2 => ⟨_, rfl, ?_⟩)
            refine S_nil ?_
            exact ⟨_, (), rfl, (fun u h => by cases h), fun w' hw => by
              have h9 := (hw.addF (p := ∃ A C, Value.slice A'' (m + 1) c'' = .slice A (m + 1) C) ⟨A'', c'', rfl⟩).pm [1, 2, 3, 4, 5, 6, 7, 8, 9, 0] rfl rfl rfl
              exact h9⟩
          | true =>
            refine OpA.pre (X := ∃ A C, (f 4).1 = .slice A 1 C) (fun w hw => ?_) (fun d h => by cases h; decide) ?_
            · obtain ⟨A, C, e2, _⟩ := hw.rowForm 8 rfl
              exact ⟨A, C, e2⟩
            rintro ⟨A, C, e2⟩
            rw [e2]
            refine OpA.ofS (l := [(53, .slice aa m ac), (57, .slice A 1 C)]) rfl (by decide) (.cons rfl rfl (.cons rfl (by show some (Ent.ex (f 4).1) = _; rw [e2]) .nil)) ?_
            refine S_append (ty := 0) (m := m) (k := 1) (xs := xs1) (news := [.int .i64 (sizeQ x)]) tabOk 1 (sz := 1) rfl rfl rfl rfl rfl rfl rfl rfl rfl (by decide) (fun w' h => Sl.of_own (h.own _ (getE_mem (i := 8) rfl))) (fun u hu => by rw [List.mem_singleton] at hu; subst hu; rfl) (by simp only [maxLen]; omega) (by show (_ + _) * 8 ≤ _; omega) rfl (fun A'' c'' h1 h2 => ⟨_, rfl, ?_⟩)
            refine S_nil ?_
            exact ⟨_, (), rfl, (fun u h => by cases h), fun w' hw => by
              have h9 := (hw.addF (p := ∃ A C, Value.slice A'' (m + 1) c'' = .slice A (m + 1) C) ⟨A'', c'', rfl⟩).pm [1, 2, 3, 4, 5, 6, 7, 8, 9, 0, 10] rfl rfl rfl
              exact h9⟩
        · exact fun Ld f hc hl hp => OpA.told () rfl (D_pure tabOk rfl D_last) rfl
        · exact fun Ld f hc hl hp => OpA.told () rfl (D_pure tabOk rfl D_last) rfl
        · exact fun Ld f hc hl hp => OpA.told () rfl (D_load tabOk 0 rfl rfl rfl D_last) rfl
        · intro Ld f hc hl hp
          have h10 := closed_no hc (j := 10) rfl ⟨9, .data⟩ (by simp) rfl hl
          have h11 := closed_no hc (j := 11) rfl ⟨10, .chain⟩ (by simp) rfl h10
          have h12 := closed_no hc (j := 12) rfl ⟨9, .phase⟩ (by simp) rfl hl
          show OpA _ _ _ _ (lst (Ld 4) (Ld 5) (Ld 9) (Ld 10) (Ld 11) (Ld 12) (f 4).1 (f 5).1 (f 9).1 (f 10).1 (f 11).1 (f 12).1) (fun y => lst (Ld 4) (Ld 5) true (Ld 10) (Ld 11) (Ld 12) (f 4).1 (f 5).1 y.1 (f 10).1 (f 11).1 (f 12).1) _ _ _
          rw [hl, h10, h11, h12]
          cases hu4 : Ld 4 with
          | false =>
            cases hu5 : Ld 5 with
            | false =>
              refine OpA.ofS (l := [(61, .int .u64 x.1)]) rfl (by decide) (.cons rfl rfl .nil) ?_
              refine S_bslice tabOk rfl rfl rfl rfl rfl rfl rfl rfl rfl rfl rfl rfl (fun nb hnb => ?_)
              refine S_heap (fun w' h => Hp.closeRow (pre := []) (n := 1) (c := 1) (sz := 1) h hnb (by decide) (by decide) rfl) ?_
              refine S_nil ?_
              exact ⟨_, (), rfl, (fun u h => by cases h), fun w' hw => by
                have h9 := hw.pm [1, 2, 3, 4, 5, 6, 7, 8, 0] rfl rfl rfl
                exact h9⟩
            | true =>
              refine OpA.ofS (l := [(61, .int .u64 x.1)]) rfl (by decide) (.cons rfl rfl .nil) ?_
              refine S_bslice tabOk rfl rfl rfl rfl rfl rfl rfl rfl rfl rfl rfl rfl (fun nb hnb => ?_)
              refine S_heap (fun w' h => Hp.closeRow (pre := []) (n := 1) (c := 1) (sz := 1) h hnb (by decide) (by decide) rfl) ?_
              refine S_nil ?_
              exact ⟨_, (), rfl, (fun u h => by cases h), fun w' hw => by
                have h9 := hw.pm [1, 2, 3, 4, 5, 6, 7, 8, 9, 0] rfl rfl rfl
                exact h9⟩
          | true =>
            cases hu5 : Ld 5 with
            | false =>
              refine OpA.ofS (l := [(61, .int .u64 x.1)]) rfl (by decide) (.cons rfl rfl .nil) ?_
              refine S_bslice tabOk rfl rfl rfl rfl rfl rfl rfl rfl rfl rfl rfl rfl (fun nb hnb => ?_)
              refine S_heap (fun w' h => Hp.closeRow (pre := []) (n := 1) (c := 1) (sz := 1) h hnb (by decide) (by decide) rfl) ?_
              refine S_nil ?_
              exact ⟨_, (), rfl, (fun u h => by cases h), fun w' hw => by
                have h9 := hw.pm [1, 2, 3, 4, 5, 6, 7, 8, 9, 0] rfl rfl rfl
                exact h9⟩
            | true =>
              refine OpA.ofS (l := [(61, .int .u64 x.1)]) rfl (by decide) (.cons rfl rfl .nil) ?_
              refine S_bslice tabOk rfl rfl rfl rfl rfl rfl rfl rfl rfl rfl rfl rfl (fun nb hnb => ?_)
              refine S_heap (fun w' h => Hp.closeRow (pre := []) (n := 1) (c := 1) (sz := 1) h hnb (by decide) (by decide) rfl) ?_
              refine S_nil ?_
              exact ⟨_, (), rfl, (fun u h => by cases h), fun w' hw => by
                have h9 := hw.pm [1, 2, 3, 4, 5, 6, 7, 8, 9, 10, 0] rfl rfl rfl
                exact h9⟩
        · intro Ld f hc hl hp
          have h5 : Ld 5 = true := hp ⟨5, .chain⟩ (by simp) rfl
          have h4 : Ld 4 = true := hc 5 _ rfl h5 ⟨4, .data⟩ (by simp) rfl
          have h9 : Ld 9 = true := hp ⟨9, .data⟩ (by simp) rfl
          have h11 := closed_no hc (j := 11) rfl ⟨10, .chain⟩ (by simp) rfl hl
          have h12 := closed_no hc (j := 12) rfl ⟨10, .data⟩ (by simp) rfl hl
          show OpA _ _ _ _ (lst (Ld 4) (Ld 5) (Ld 9) (Ld 10) (Ld 11) (Ld 12) (f 4).1 (f 5).1 (f 9).1 (f 10).1 (f 11).1 (f 12).1) (fun y => lst (Ld 4) (Ld 5) (Ld 9) true (Ld 11) (Ld 12) (f 4).1 (f 5).1 (f 9).1 y.1 (f 11).1 (f 12).1) _ _ _
          rw [hl, h4, h5, h9, h11, h12]
          refine OpA.pre (X := ∃ A C, (f 9).1 = .slice A 1 C) (fun w hw => ?_) (fun d h => by cases h; decide) ?_
          · obtain ⟨A, C, e2, _⟩ := hw.rowForm 10 rfl
            exact ⟨A, C, e2⟩
          rintro ⟨A, C, e2⟩
          rw [e2]
          refine OpA.ofS (l := [(59, .slice ba m bc), (62, .slice A 1 C)]) rfl (by decide) (.cons rfl rfl (.cons rfl (by show some (Ent.ex (f 9).1) = _; rw [e2]) .nil)) ?_
          refine S_append (ty := 0) (m := m) (k := 1) (xs := xs8) (news := [.int .u64 (x.1)]) tabOk 2 (sz := 1) rfl rfl rfl rfl rfl rfl rfl rfl rfl (by decide) (fun w' h => Sl.of_own (h.own _ (getE_mem (i := 10) rfl))) (fun u hu => by rw [List.mem_singleton] at hu; subst hu; rfl) (by simp only [maxLen]; omega) (by show (_ + _) * 8 ≤ _; omega) rfl (fun A'' c'' h1 h2 => ⟨_, rfl, ?_⟩)
          refine S_nil ?_
          exact ⟨_, (), rfl, (fun u h => by cases h), fun w' hw => by
            have h9 := (hw.addF (p := ∃ A C, Value.slice A'' (m + 1) c'' = .slice A (m + 1) C) ⟨A'', c'', rfl⟩).pm [1, 2, 3, 4, 5, 6, 7, 8, 9, 10, 11, 0] rfl rfl rfl
            exact h9⟩
        · intro Ld f hc hl hp
          have h4 : Ld 4 = true := hp ⟨4, .phase⟩ (by simp) rfl
          have h5 : Ld 5 = true := hp ⟨5, .data⟩ (by simp) rfl
          have h10 : Ld 10 = true := hp ⟨10, .chain⟩ (by simp) rfl
          have h9 : Ld 9 = true := hc 10 _ rfl h10 ⟨9, .data⟩ (by simp) rfl
          have h12 := closed_no hc (j := 12) rfl ⟨11, .chain⟩ (by simp) rfl hl
          show OpA _ _ _ _ (lst (Ld 4) (Ld 5) (Ld 9) (Ld 10) (Ld 11) (Ld 12) (f 4).1 (f 5).1 (f 9).1 (f 10).1 (f 11).1 (f 12).1) (fun y => lst (Ld 4) (Ld 5) (Ld 9) (Ld 10) true (Ld 12) (f 4).1 (f 5).1 (f 9).1 (f 10).1 y.1 (f 12).1) _ _ _
          rw [hl, h4, h5, h9, h10, h12]
          refine OpA.swap (dl' := [(58, .ex (f 5).1)]) (List.forall_mem_cons.2 ⟨rfl, fun _ h => nomatch h⟩) ?_
          exact OpA.known () rfl (D_pure tabOk rfl D_last) (fun w1 hw => by
            have h9 := (hw.addF (p := ((f 5).1 = (f 5).1)) rfl).pm [1, 2, 3, 4, 5, 6, 7, 8, 9, 10, 11, 12, 0] rfl rfl rfl
            exact h9)
        · intro Ld f hc hl hp
          have h4 : Ld 4 = true := hp ⟨4, .phase⟩ (by simp) rfl
          have h5 : Ld 5 = true := hp ⟨5, .phase⟩ (by simp) rfl
          have h9 : Ld 9 = true := hp ⟨9, .phase⟩ (by simp) rfl
          have h10 : Ld 10 = true := hp ⟨10, .data⟩ (by simp) rfl
          have h11 : Ld 11 = true := hp ⟨11, .chain⟩ (by simp) rfl
          show OpA _ _ _ _ (lst (Ld 4) (Ld 5) (Ld 9) (Ld 10) (Ld 11) (Ld 12) (f 4).1 (f 5).1 (f 9).1 (f 10).1 (f 11).1 (f 12).1) (fun y => lst (Ld 4) (Ld 5) (Ld 9) (Ld 10) (Ld 11) true (f 4).1 (f 5).1 (f 9).1 (f 10).1 (f 11).1 y.1) _ _ _
          rw [hl, h4, h5, h9, h10, h11]
          refine OpA.swap (dl' := [(63, .ex (f 10).1)]) (List.forall_mem_cons.2 ⟨rfl, fun _ h => nomatch h⟩) ?_
          exact OpA.known () rfl (D_pure tabOk rfl D_last) (fun w1 hw => by
            have h9 := (hw.addF (p := ((f 10).1 = (f 10).1)) rfl).pm [1, 2, 3, 4, 5, 6, 7, 8, 9, 10, 11, 12, 13, 0] rfl rfl rfl
            exact h9)
      · intro Lf f w6 hL6 hw6
        change Hp _ _ (lst (Lf 4) (Lf 5) (Lf 9) (Lf 10) (Lf 11) (Lf 12) (f 4).1 (f 5).1 (f 9).1 (f 10).1 (f 11).1 (f 12).1) at hw6
        rw [hL6 4 (by decide), hL6 5 (by decide), hL6 9 (by decide), hL6 10 (by decide), hL6 11 (by decide), hL6 12 (by decide)] at hw6
        obtain ⟨A5, C5, e5⟩ := hw6.fact 9 rfl
        obtain ⟨A10, C10, e10⟩ := hw6.fact 11 rfl
        have e11 := (hw6.fact 12 rfl).trans e5
        have e12 := (hw6.fact 13 rfl).trans e10
        rw [e5, e10] at hw6
        have h9 := hw6.pm [1, 2, 3, 4, 5, 6, 7, 0, 8, 9, 10, 11, 12, 13] rfl rfl rfl
        dsimp only [cond] at h9
        rw [hx1', hx8', hm1'] at h9
        refine ⟨[(0, .pointer (some ⟨xb, 0, none⟩)), (3, .pointer (some ⟨b3, 0, none⟩)), (4, .slice none 0 0), (5, .bool false), (6, .int .i64 0), (7, .slice sa i sc), (8, .slice ua i uc), (34, .slice aw ws.length cw), (35, .int .i64 (ws.length : Int)), (36, .int .i64 (i : Int)), (9, .int .i64 (i : Int)), (10, (f 11).1), (11, (f 12).1), (42, .slice (some ⟨ab, off, none⟩) L.length cl), (43, .int .i64 (L.length : Int)), (44, .int .i64 (j : Int))], OI (j + 1) A5 C5 A10 C10, (by repeat (first | exact SubD.nil | refine SubD.cons rfl ?_)), h9.less (by repeat (first | exact Less.nil | refine Less.keep ?_ | refine Less.dropR ?_ | refine Less.dropB (by first | assumption | omega) ?_ | refine Less.dropW (Nat.le_refl _) ?_)), ?_⟩
        rw [e11, e12, hm1']
        clear hw6 h9 hL6 lst e5 e10 e11 e12
        dsimp only [OI]
        repeat (first | refine T_region ?_ | refine S_nil ?_ | refine pthen_normal ?_ | refine inb_normal ?_ | refine S_i64 tabOk rfl (by omega) ?_ | refine S_pure tabOk rfl ?_)
        exact ⟨(j + 1, A5, C5, A10, C10), by show j + 1 ≤ L.length; omega, by dsimp only; repeat (first | exact Sub.nil | refine Sub.cons rfl ?_), fun w' hw => hw, by dsimp only; omega⟩
    rintro ⟨aa, ac, ba, bc⟩ _
    dsimp only [OI]
    clear OI
    rw [List.take_length]
    have hml : (ofC L i).length ≤ 65535 := by
      have e1 : (ofC L i).length ≤ L.length := List.length_filter_le _ _
      omega
    repeat (first | refine pthen_normal ?_ | refine S_pure tabOk rfl ?_ | refine T_region_any ?_)
    refine S_bslice tabOk rfl rfl rfl rfl rfl rfl rfl rfl rfl rfl rfl rfl (fun b67 hb67 => ?_)
    refine S_append (ty := 0) tabOk 3 (sz := 1) rfl rfl rfl rfl rfl rfl rfl rfl rfl (by decide) (fun w' hw => Sl.of_blk (xs := [.slice aa (ofC L i).length ac]) (hw.own _ (getE_mem (i := 0) rfl)) rfl (fun j u hu => by rw [Nat.zero_add]; exact hu)) (by intro u hu; rw [List.mem_singleton] at hu; subst hu; rfl) (by simp only [maxLen]; omega) (by show (_ + _) * 24 ≤ _; omega) rfl (fun sa2 sc2 hcS hdS => ⟨_, rfl, ?_⟩)
    repeat (first | refine S_pure tabOk rfl ?_)
    refine S_bslice tabOk rfl rfl rfl rfl rfl rfl rfl rfl rfl rfl rfl rfl (fun b71 hb71 => ?_)
    refine S_append (ty := 0) tabOk 5 (sz := 1) rfl rfl rfl rfl rfl rfl rfl rfl rfl (by decide) (fun w' hw => Sl.of_blk (xs := [.slice ba (ofC L i).length bc]) (hw.own _ (getE_mem (i := 0) rfl)) rfl (fun j u hu => by rw [Nat.zero_add]; exact hu)) (by intro u hu; rw [List.mem_singleton] at hu; subst hu; rfl) (by simp only [maxLen]; omega) (by show (_ + _) * 24 ≤ _; omega) rfl (fun ua2 uc2 hcU hdU => ⟨_, rfl, ?_⟩)
    have hszc : ∀ z ∈ (ofC L i).map sizeQ, Fits .i64 z := fun z hz => by
      obtain ⟨x, hx, rfl⟩ := List.mem_map.1 hz
      have := (hok.cls x (ofC_mem hx).1).2.2.2
      exact mk_i64 (by unfold sizeQ; omega)
    have hnmc : ∀ z ∈ (ofC L i).map (fun x : QE => x.1), Fits .u64 z := fun z hz => by
      obtain ⟨x, hx, rfl⟩ := List.mem_map.1 hz
      have := hok.pos x (ofC_mem hx).1
      have := hok.fit
      exact mk_u64 (by omega)
    refine S_toX (ι := Unit) (fun _ => True) (fun _ => _) (fun w9 h9 => ⟨(), trivial, h9.pm [2, 0, 1] rfl rfl rfl⟩) (fun _ _ => ?_)
    try dsimp only [List.append]
    refine S_share ((Rslice (Rint .i64)).vp ((ofC L i).map sizeQ)) (fun w hr => by
      have hr' := hr
      rw [← List.length_map (f := sizeQ)] at hr'
      have h9 := SlR.of_ints (A := fun k => (Value.slice aa (ofC L i).length ac).ownBlock = some k) (ints_own hr' hszc) (fun b off hn e => by rw [e]; rfl)
      rw [List.length_map] at h9
      exact SlR.val h9) (fun Fz hFz => ?_)
    refine S_addV (Bod Rll ((vs ++ [Value.slice aa (ofC L i).length ac]).map fun v => [v]) ((szs L ws.length).take (i + 1))) (fun _ => False) (v := .bool true) (fun w hw => by
      rw [List.take_succ_eq_append_getElem (by rw [szs_len]; exact hlt'), List.map_append]
      have hgi : (szs L ws.length)[i]'(by rw [szs_len]; exact hlt') = (ofC L i).map sizeQ := by
        have := szs_at (L := L) hlt'
        rw [List.getElem?_eq_getElem (by rw [szs_len]; exact hlt')] at this
        exact Option.some.inj this
      rw [hgi]
      exact Bod.snoc (Vp.fact (A := fun _ => False) (p := Bod Rll (vs.map fun v => [v]) ((szs L ws.length).take i)) hw 6 rfl (fun k hk => .inr (hFn k hk))) ⟨aa, (ofC L i).length, ac, rfl, SlR.of_val (Vp.fact (A := fun _ => False) (p := (Rslice (Rint .i64)).vp ((ofC L i).map sizeQ)) hw 0 rfl (fun k hk => .inr (hFz k hk)))⟩) (fun F2 hF2 => ?_)
    refine S_toX (ι := Unit) (fun _ => True) (fun _ => _) (fun w9 h9 => ⟨(), trivial, h9.pm [4, 0, 1, 2, 3] rfl rfl rfl⟩) (fun _ _ => ?_)
    try dsimp only [List.append]
    refine S_share ((Rslice (Rint .u64)).vp ((ofC L i).map fun x : QE => x.1)) (fun w hr => by
      have hr' := hr
      rw [← List.length_map (f := fun x : QE => x.1)] at hr'
      have h9 := SlR.of_ints (A := fun k => (Value.slice ba (ofC L i).length bc).ownBlock = some k) (ints_own hr' hnmc) (fun b off hn e => by rw [e]; rfl)
      rw [List.length_map] at h9
      exact SlR.val h9) (fun Fy hFy => ?_)
    refine S_addV (Bod Rlu ((us ++ [Value.slice ba (ofC L i).length bc]).map fun v => [v]) ((nms L ws.length).take (i + 1))) (fun _ => False) (v := .bool true) (fun w hw => by
      rw [List.take_succ_eq_append_getElem (by rw [nms_len]; exact hlt'), List.map_append]
      have hgi : (nms L ws.length)[i]'(by rw [nms_len]; exact hlt') = (ofC L i).map (fun x : QE => x.1) := by
        have := nms_at (L := L) hlt'
        rw [List.getElem?_eq_getElem (by rw [nms_len]; exact hlt')] at this
        exact Option.some.inj this
      rw [hgi]
      exact Bod.snoc (Vp.fact (A := fun _ => False) (p := Bod Rlu (us.map fun v => [v]) ((nms L ws.length).take i)) hw 8 rfl (fun k hk => .inr (hGn k hk))) ⟨ba, (ofC L i).length, bc, rfl, SlR.of_val (Vp.fact (A := fun _ => False) (p := (Rslice (Rint .u64)).vp ((ofC L i).map fun x : QE => x.1)) hw 0 rfl (fun k hk => .inr (hFy k hk)))⟩) (fun G2 hG2 => ?_)
    repeat (first | refine T_region ?_ | refine S_nil ?_ | refine pthen_normal ?_ | refine inb_normal ?_ | refine S_i64 tabOk rfl (by omega) ?_ | refine S_pure tabOk rfl ?_)
    exact ⟨⟨i + 1, vs ++ [Value.slice aa (ofC L i).length ac], us ++ [Value.slice ba (ofC L i).length bc], sa2, sc2, ua2, uc2, F2, G2⟩, ⟨hlt', by show (vs ++ [_]).length = i + 1; rw [List.length_append, hvl]; rfl, by show (us ++ [_]).length = i + 1; rw [List.length_append, hul]; rfl, fun k hk => (hF2 k hk).elim (fun h => h.elim) id, fun k hk => (hG2 k hk).elim (fun h => h.elim) id⟩, by dsimp only; repeat (first | exact Sub.nil | refine Sub.cons rfl ?_), fun w' hw => (hw.pm [6, 7, 2, 0, 10, 1, 3, 4, 5, 8, 9] rfl rfl rfl).less (by repeat (first | exact Less.nil | refine Less.keep ?_ | refine Less.dropR ?_ | refine Less.dropB (by first | assumption | omega) ?_)), by dsimp only; omega⟩
  · rintro ⟨i, vs, us, sa, sc, ua, uc, F, G⟩ ⟨hi, hvl, hul, hFn, hGn⟩
    dsimp only [O1] at hi hvl hul hFn hGn ⊢
    subst hi
    rw [show (szs L ws.length).take ws.length = szs L ws.length from List.take_of_length_le (by rw [szs_len]; exact Nat.le_refl _), show (nms L ws.length).take ws.length = nms L ws.length from List.take_of_length_le (by rw [nms_len]; exact Nat.le_refl _)]
    clear O1
    repeat (first | refine T_seq ?_)
    have hfp : fitsP cap ws (szs L ws.length) k ((zs.length : Int) + 16) := ⟨hrw, szs_len _ _, hk0, by omega, by omega, by omega, by omega, by omega, fun y hy => by
      obtain ⟨x, hx, rfl⟩ := szs_mem hy
      have := (hok.cls x hx).2.2.2
      unfold sizeQ
      omega, by have := szs_flat L ws.length; omega⟩
    have hszl : ∀ l ∈ szs L ws.length, l.length ≤ 1048576 := fun l hl => by
      obtain ⟨d, _, rfl⟩ := List.mem_map.1 hl
      rw [List.length_map]
      have : (ofC L d).length ≤ L.length := List.length_filter_le _ _
      omega
    let lst : Bool → Bool → Bool → Bool → Value → (List (Nat × Nat) × Option Addr × Nat) → Value → Value → Value → OL := fun l13 l14 l15 l17 v13 g13 v14 v15 v17 =>
      .row w.heap.size (.slice sa ws.length sc) 22 1 ws.length vs :: .row w.heap.size (.slice ua ws.length uc) 61 1 ws.length us :: .rep (fun w => (Bod Rll (vs.map fun v => [v]) (szs L ws.length)).at_ w F (.bool true)) F false :: .rep (fun w => (Bod Rlu (us.map fun v => [v]) (nms L ws.length)).at_ w G (.bool true)) G false :: .blk b3 (.cells ⟨[.int .i64 k, .slice a zs.length c]⟩ 115 (0, 0)) true :: (cond l13 [.row w.heap.size (.slice g13.2.1 g13.1.length g13.2.2) 33 2 g13.1.length (vcells g13.1), factE (PlanR cap ws (left0 (szs L ws.length) k ((zs.length : Int) + 16)) (List.replicate ws.length 0) ((szs L ws.length).flatten.sum + ((zs.length : Int) + 16)) g13.1 ∧ v13 = .tuple #[.slice g13.2.1 g13.1.length g13.2.2, .bool true])] [] ++ (cond l14 [factE (v14 = v13)] [] ++ (cond l15 [factE (v15 = .slice g13.2.1 g13.1.length g13.2.2)] [] ++ (cond l17 [factE (v17 = v15)] []))))
    refine T_asThen ?_
    refine T_drawF (γ := List (Nat × Nat) × Option Addr × Nat) (by kernel_rfl) (by kernel_rfl) ([], none, 0) (fun Ld f => lst (Ld 13) (Ld 14) (Ld 15) (Ld 17) (f 13).1 (f 13).2 (f 14).1 (f 15).1 (f 17).1) rfl [some (.pointer (some ⟨xb, 0, none⟩)), some (.pointer (some ⟨xb, 0, none⟩)), some (.pointer (some ⟨xb, 0, none⟩)), some (.int .i64 cap), some (.pointer (some ⟨xb, 0, none⟩)), some (.pointer (some ⟨xb, 0, none⟩)), some (.pointer (some ⟨xb, 1, none⟩)), some (.slice aw ws.length cw), some (.slice sa ws.length sc), some (.pointer (some ⟨b3, 0, none⟩)), some (.int .i64 k), some (.agg ⟨[.int .i64 k, .slice a zs.length c]⟩), some (.int .i64 ((zs.length : Int) + 16)), none, none, none, none, none, none] ?_ ?_
    · refine ⟨?_, ?_, ?_, ?_, ?_, ?_, ?_, ?_, ?_, ?_, ?_, ?_, ?_, ?_, ?_, ?_, ?_, ?_, ?_, trivial⟩
      · exact fun Ld f hc hl hp => OpA.told ([], none, 0) rfl (D_pure tabOk rfl D_last) rfl
      · exact fun Ld f hc hl hp => OpA.told ([], none, 0) rfl (D_pure tabOk rfl D_last) rfl
      · exact fun Ld f hc hl hp => OpA.told ([], none, 0) rfl (D_pure tabOk rfl D_last) rfl
      · intro Ld f hc hl hp
        have h13 := closed_no hc (j := 13) rfl ⟨3, .data⟩ (by simp) rfl hl
        have h14 := closed_no hc (j := 14) rfl ⟨13, .data⟩ (by simp) rfl h13
        have h15 := closed_no hc (j := 15) rfl ⟨14, .data⟩ (by simp) rfl h14
        have h17 := closed_no hc (j := 17) rfl ⟨3, .phase⟩ (by simp) rfl hl
        show OpA _ _ _ _ (lst (Ld 13) (Ld 14) (Ld 15) (Ld 17) (f 13).1 (f 13).2 (f 14).1 (f 15).1 (f 17).1) (fun y => lst (Ld 13) (Ld 14) (Ld 15) (Ld 17) (f 13).1 (f 13).2 (f 14).1 (f 15).1 (f 17).1) _ _ _
        rw [h13, h14, h15, h17]
        exact OpA.told ([], none, 0) rfl (D_load1 tabOk (v := .int .i64 cap) rfl rfl (fun w' hw => hS.cell (hw.below (by repeat (first | exact new_nil | refine new_ro ?_ | refine new_cons (by first | assumption | omega) ?_ | refine newrow hw 0 rfl (Nat.le_refl _) ?_ | refine newrow hw 1 rfl (Nat.le_refl _) ?_))) (j := 0) rfl) D_last) rfl
      · exact fun Ld f hc hl hp => OpA.told ([], none, 0) rfl (D_pure tabOk rfl D_last) rfl
      · exact fun Ld f hc hl hp => OpA.told ([], none, 0) rfl (D_pure tabOk rfl D_last) rfl
      · exact fun Ld f hc hl hp => OpA.told ([], none, 0) rfl (D_pure tabOk rfl D_last) rfl
      · intro Ld f hc hl hp
        have h13 := closed_no hc (j := 13) rfl ⟨7, .data⟩ (by simp) rfl hl
        have h14 := closed_no hc (j := 14) rfl ⟨13, .data⟩ (by simp) rfl h13
        have h15 := closed_no hc (j := 15) rfl ⟨14, .data⟩ (by simp) rfl h14
        have h17 := closed_no hc (j := 17) rfl ⟨7, .phase⟩ (by simp) rfl hl
        show OpA _ _ _ _ (lst (Ld 13) (Ld 14) (Ld 15) (Ld 17) (f 13).1 (f 13).2 (f 14).1 (f 15).1 (f 17).1) (fun y => lst (Ld 13) (Ld 14) (Ld 15) (Ld 17) (f 13).1 (f 13).2 (f 14).1 (f 15).1 (f 17).1) _ _ _
        rw [h13, h14, h15, h17]
        exact OpA.told ([], none, 0) rfl (D_load1 tabOk (v := .slice aw ws.length cw) rfl rfl (fun w' hw => hS.cell (hw.below (by repeat (first | exact new_nil | refine new_ro ?_ | refine new_cons (by first | assumption | omega) ?_ | refine newrow hw 0 rfl (Nat.le_refl _) ?_ | refine newrow hw 1 rfl (Nat.le_refl _) ?_))) (j := 1) rfl) D_last) rfl
      · exact fun Ld f hc hl hp => OpA.told ([], none, 0) rfl (D_pure tabOk rfl D_last) rfl
      · exact fun Ld f hc hl hp => OpA.told ([], none, 0) rfl (D_pure tabOk rfl D_last) rfl
      · exact fun Ld f hc hl hp => OpA.told ([], none, 0) rfl (D_load tabOk 4 rfl rfl rfl D_last) rfl
      · exact fun Ld f hc hl hp => OpA.told ([], none, 0) rfl (D_load tabOk 4 rfl rfl rfl D_last) rfl
      · exact fun Ld f hc hl hp => OpA.told ([], none, 0) rfl (D_callx (v := .int .i64 ((zs.length : Int) + 16)) rfl Try.call73 (fun w' vs hw' h => by
        obtain ⟨u1, _, rfl, rfl, rfl⟩ := h
        exact rsize9_ok k a zs.length c w' (by omega)) D_last) rfl
      · intro Ld f hc hl hp
        have h14 := closed_no hc (j := 14) rfl ⟨13, .data⟩ (by simp) rfl hl
        have h15 := closed_no hc (j := 15) rfl ⟨14, .data⟩ (by simp) rfl h14
        have h17 := closed_no hc (j := 17) rfl ⟨13, .chain⟩ (by simp) rfl hl
        show OpA _ _ _ _ (lst (Ld 13) (Ld 14) (Ld 15) (Ld 17) (f 13).1 (f 13).2 (f 14).1 (f 15).1 (f 17).1) (fun y => lst true (Ld 14) (Ld 15) (Ld 17) y.1 y.2 (f 14).1 (f 15).1 (f 17).1) _ _ _
        rw [hl, h14, h15, h17]
        refine OpA.call rfl Try.call16 (fun w1 vs1 hw1 h => ?_)
        obtain ⟨u1, _, rfl, rfl, u2, _, rfl, rfl, u3, _, rfl, rfl, u4, _, rfl, rfl, u5, _, rfl, rfl, rfl⟩ := h
        have hx7 : SlR Rll w1 TT sa ws.length sc (szs L ws.length) := (Bod.slr (hw1.own _ (getE_mem (i := 2) rfl) |>.1 |> fun h => (Bod Rll _ _).keep (B := TT) h fun k _ _ => ⟨rfl, trivial⟩) (by have h9 : w1.ownsRow w.heap.size 22 1 (.slice sa ws.length sc) ws.length vs := hw1.own _ (getE_mem (i := 0) rfl); rw [flatOne]; exact h9) (szs_len _ _) (fun _ _ _ => trivial))
        refine (rplan_ok aw ws.length cw ws sa ws.length sc (szs L ws.length) cap k ((zs.length : Int) + 16) w1 (hS.ws.ext (hw1.below (by repeat (first | exact new_nil | refine new_ro ?_ | refine new_cons (by first | assumption | omega) ?_ | refine newrow hw1 0 rfl (Nat.le_refl _) ?_ | refine newrow hw1 1 rfl (Nat.le_refl _) ?_)))).ints hx7 (by rw [szs_len]; omega) hszl).mono fun e w' ⟨out, av, cv, hp1, hp2, e1, hb, hr⟩ => ⟨_, (out, av, cv), e1, ?_⟩
        have h9 := ((hw1.fresh hb (x := .row w.heap.size (.slice av out.length cv) 33 2 out.length (vcells out)) (own_rebase hr hw1.size) (fun j hj => (World.ownsRow.lt hr j hj).1)).addF (p := PlanR cap ws (left0 (szs L ws.length) k ((zs.length : Int) + 16)) (List.replicate ws.length 0) ((szs L ws.length).flatten.sum + ((zs.length : Int) + 16)) out ∧ Value.tuple #[.slice av out.length cv, .bool (decide (fitsP cap ws (szs L ws.length) k ((zs.length : Int) + 16)))] = .tuple #[.slice av out.length cv, .bool true]) ⟨hp1 hfp, by rw [decide_eq_true hfp]⟩).pm [2, 3, 4, 5, 6, 1, 0] rfl rfl rfl
        exact h9
      · intro Ld f hc hl hp
        have h13 : Ld 13 = true := hp ⟨13, .data⟩ (by simp) rfl
        have h15 := closed_no hc (j := 15) rfl ⟨14, .data⟩ (by simp) rfl hl
        have h17 := closed_no hc (j := 17) rfl ⟨14, .phase⟩ (by simp) rfl hl
        show OpA _ _ _ _ (lst (Ld 13) (Ld 14) (Ld 15) (Ld 17) (f 13).1 (f 13).2 (f 14).1 (f 15).1 (f 17).1) (fun y => lst (Ld 13) true (Ld 15) (Ld 17) (f 13).1 (f 13).2 y.1 (f 15).1 (f 17).1) _ _ _
        rw [hl, h13, h15, h17]
        refine OpA.swap (dl' := [(88, .ex (f 13).1)]) (List.forall_mem_cons.2 ⟨rfl, fun _ h => nomatch h⟩) ?_
        exact OpA.known ([], none, 0) rfl (D_pure tabOk rfl D_last) (fun w1 hw => by
          have h9 := (hw.addF (p := ((f 13).1 = (f 13).1)) rfl).pm [1, 2, 3, 4, 5, 6, 7, 0] rfl rfl rfl
          exact h9)
      · intro Ld f hc hl hp
        have h14 : Ld 14 = true := hp ⟨14, .data⟩ (by simp) rfl
        have h13 : Ld 13 = true := hc 14 _ rfl h14 ⟨13, .data⟩ (by simp) rfl
        have h17 := closed_no hc (j := 17) rfl ⟨15, .data⟩ (by simp) rfl hl
        show OpA _ _ _ _ (lst (Ld 13) (Ld 14) (Ld 15) (Ld 17) (f 13).1 (f 13).2 (f 14).1 (f 15).1 (f 17).1) (fun y => lst (Ld 13) (Ld 14) true (Ld 17) (f 13).1 (f 13).2 (f 14).1 y.1 (f 17).1) _ _ _
        rw [hl, h13, h14, h17]
        refine OpA.pre (X := (f 14).1 = .tuple #[.slice (f 13).2.2.1 (f 13).2.1.length (f 13).2.2.2, .bool true]) (fun w hw => (hw.fact 7 rfl).trans (hw.fact 6 rfl).2) (fun d h => by cases h; decide) (fun e14 => ?_)
        refine OpA.swap (dl' := [(74, .ex (.tuple #[.slice (f 13).2.2.1 (f 13).2.1.length (f 13).2.2.2, .bool true]))]) (List.forall_mem_cons.2 ⟨congrArg (fun v => some (Ent.ex v)) e14, fun _ h => nomatch h⟩) ?_
        exact OpA.known ([], none, 0) rfl (D_pure tabOk rfl D_last) (fun w1 hw => by
          have h9 := (hw.addF (p := (Value.slice (f 13).2.2.1 (f 13).2.1.length (f 13).2.2.2 = .slice (f 13).2.2.1 (f 13).2.1.length (f 13).2.2.2)) rfl).pm [1, 2, 3, 4, 5, 6, 7, 8, 0] rfl rfl rfl
          exact h9)
      · intro Ld f hc hl hp
        have h14 : Ld 14 = true := hp ⟨14, .data⟩ (by simp) rfl
        have h13 : Ld 13 = true := hc 14 _ rfl h14 ⟨13, .data⟩ (by simp) rfl
        show OpA _ _ _ _ (lst (Ld 13) (Ld 14) (Ld 15) (Ld 17) (f 13).1 (f 13).2 (f 14).1 (f 15).1 (f 17).1) (fun y => lst (Ld 13) (Ld 14) (Ld 15) (Ld 17) (f 13).1 (f 13).2 (f 14).1 (f 15).1 (f 17).1) _ _ _
        rw [h13, h14]
        cases hu15 : Ld 15 with
        | false =>
          cases hu17 : Ld 17 with
          | false =>
            refine OpA.pre (X := (f 14).1 = .tuple #[.slice (f 13).2.2.1 (f 13).2.1.length (f 13).2.2.2, .bool true]) (fun w hw => (hw.fact 7 rfl).trans (hw.fact 6 rfl).2) (fun d h => by cases h; decide) (fun e14 => ?_)
            refine OpA.swap (dl' := [(74, .ex (.tuple #[.slice (f 13).2.2.1 (f 13).2.1.length (f 13).2.2.2, .bool true]))]) (List.forall_mem_cons.2 ⟨congrArg (fun v => some (Ent.ex v)) e14, fun _ h => nomatch h⟩) ?_
            exact OpA.known ([], none, 0) rfl (D_pure tabOk rfl D_last) (fun w1 hw => hw)
          | true =>
            refine OpA.pre (X := (f 14).1 = .tuple #[.slice (f 13).2.2.1 (f 13).2.1.length (f 13).2.2.2, .bool true]) (fun w hw => (hw.fact 7 rfl).trans (hw.fact 6 rfl).2) (fun d h => by cases h; decide) (fun e14 => ?_)
            refine OpA.swap (dl' := [(74, .ex (.tuple #[.slice (f 13).2.2.1 (f 13).2.1.length (f 13).2.2.2, .bool true]))]) (List.forall_mem_cons.2 ⟨congrArg (fun v => some (Ent.ex v)) e14, fun _ h => nomatch h⟩) ?_
            exact OpA.known ([], none, 0) rfl (D_pure tabOk rfl D_last) (fun w1 hw => hw)
        | true =>
          cases hu17 : Ld 17 with
          | false =>
            refine OpA.pre (X := (f 14).1 = .tuple #[.slice (f 13).2.2.1 (f 13).2.1.length (f 13).2.2.2, .bool true]) (fun w hw => (hw.fact 7 rfl).trans (hw.fact 6 rfl).2) (fun d h => by cases h; decide) (fun e14 => ?_)
            refine OpA.swap (dl' := [(74, .ex (.tuple #[.slice (f 13).2.2.1 (f 13).2.1.length (f 13).2.2.2, .bool true]))]) (List.forall_mem_cons.2 ⟨congrArg (fun v => some (Ent.ex v)) e14, fun _ h => nomatch h⟩) ?_
            exact OpA.known ([], none, 0) rfl (D_pure tabOk rfl D_last) (fun w1 hw => hw)
          | true =>
            refine OpA.pre (X := (f 14).1 = .tuple #[.slice (f 13).2.2.1 (f 13).2.1.length (f 13).2.2.2, .bool true]) (fun w hw => (hw.fact 7 rfl).trans (hw.fact 6 rfl).2) (fun d h => by cases h; decide) (fun e14 => ?_)
            refine OpA.swap (dl' := [(74, .ex (.tuple #[.slice (f 13).2.2.1 (f 13).2.1.length (f 13).2.2.2, .bool true]))]) (List.forall_mem_cons.2 ⟨congrArg (fun v => some (Ent.ex v)) e14, fun _ h => nomatch h⟩) ?_
            exact OpA.known ([], none, 0) rfl (D_pure tabOk rfl D_last) (fun w1 hw => hw)
      · intro Ld f hc hl hp
        have h13 : Ld 13 = true := hp ⟨13, .chain⟩ (by simp) rfl
        have h14 : Ld 14 = true := hp ⟨14, .phase⟩ (by simp) rfl
        have h15 : Ld 15 = true := hp ⟨15, .data⟩ (by simp) rfl
        show OpA _ _ _ _ (lst (Ld 13) (Ld 14) (Ld 15) (Ld 17) (f 13).1 (f 13).2 (f 14).1 (f 15).1 (f 17).1) (fun y => lst (Ld 13) (Ld 14) (Ld 15) true (f 13).1 (f 13).2 (f 14).1 (f 15).1 y.1) _ _ _
        rw [hl, h13, h14, h15]
        refine OpA.swap (dl' := [(89, .ex (f 15).1)]) (List.forall_mem_cons.2 ⟨rfl, fun _ h => nomatch h⟩) ?_
        exact OpA.known ([], none, 0) rfl (D_pure tabOk rfl D_last) (fun w1 hw => by
          have h9 := (hw.addF (p := ((f 15).1 = (f 15).1)) rfl).pm [1, 2, 3, 4, 5, 6, 7, 8, 9, 0] rfl rfl rfl
          exact h9)
      · intro Ld f hc hl hp
        have h13 : Ld 13 = true := hp ⟨13, .phase⟩ (by simp) rfl
        have h14 : Ld 14 = true := hp ⟨14, .phase⟩ (by simp) rfl
        have h15 : Ld 15 = true := hp ⟨15, .phase⟩ (by simp) rfl
        have h17 : Ld 17 = true := hp ⟨17, .chain⟩ (by simp) rfl
        show OpA _ _ _ _ (lst (Ld 13) (Ld 14) (Ld 15) (Ld 17) (f 13).1 (f 13).2 (f 14).1 (f 15).1 (f 17).1) (fun y => lst (Ld 13) (Ld 14) (Ld 15) (Ld 17) (f 13).1 (f 13).2 (f 14).1 (f 15).1 (f 17).1) _ _ _
        rw [h13, h14, h15, h17]
        refine OpA.swap (dl' := [(90, .ex (f 16).1)]) (List.forall_mem_cons.2 ⟨rfl, fun _ h => nomatch h⟩) ?_
        exact OpA.known ([], none, 0) rfl (D_pure tabOk rfl D_last) (fun w1 hw => hw)
    · intro Lf f w6 hL6 hw6
      change Hp _ _ (lst (Lf 13) (Lf 14) (Lf 15) (Lf 17) (f 13).1 (f 13).2 (f 14).1 (f 15).1 (f 17).1) at hw6
      rw [hL6 13 (by decide), hL6 14 (by decide), hL6 15 (by decide), hL6 17 (by decide)] at hw6
      obtain ⟨hpl, _⟩ := hw6.fact 6 rfl
      have e17 := (hw6.fact 9 rfl).trans (hw6.fact 8 rfl)
      obtain ⟨⟨pl, ap, cp⟩, hg⟩ : ∃ y : List (Nat × Nat) × Option Addr × Nat, y = (f 13).2 := ⟨_, rfl⟩
      have h9 := hw6.pm [5, 1, 3, 4, 0, 2, 6, 7, 8, 9] rfl rfl rfl
      rw [← hg] at hpl e17 h9
      dsimp only at hpl e17 h9
      refine ⟨[(3, .pointer (some ⟨b3, 0, none⟩)), (6, .int .i64 0), (8, .slice ua ws.length uc), (14, (f 17).1)], [.row w.heap.size (.slice ap pl.length cp) 33 2 pl.length (vcells pl), .row w.heap.size (.slice ua ws.length uc) 61 1 ws.length us, .rep (fun w => (Bod Rlu (us.map fun v => [v]) (nms L ws.length)).at_ w G (.bool true)) G false, .blk b3 (.cells ⟨[.int .i64 k, .slice a zs.length c]⟩ 115 (0, 0)) true], (by repeat (first | exact SubD.nil | refine SubD.cons rfl ?_)), h9.less (by repeat (first | exact Less.nil | refine Less.keep ?_ | refine Less.dropR ?_ | refine Less.dropW (Nat.le_refl _) ?_)), ?_⟩
      rw [e17]
      clear hw6 h9 hL6 hg e17 lst
      have hplc := hpl.place (by unfold left0; rw [List.length_set, szs_len, List.length_replicate])
      have hpll : pl.length ≤ 65536 := by
        have h1 := hpl.len_le
        obtain ⟨kn, hkn⟩ : ∃ kn : Nat, (kn : Int) = k := ⟨k.toNat, by omega⟩
        have h2 := (left0_facts (q := szs L ws.length) (k := kn) (size := (zs.length : Int) + 16) (by rw [szs_len]; omega)).2.2.2.1
        rw [hkn] at h2
        have := szs_flat L ws.length
        omega
      have hsame : ∀ d, ((nms L ws.length).getD d []).length = ((szs L ws.length).getD d []).length := fun d => by
        simp only [List.getD_eq_getElem?_getD]
        rcases Nat.lt_or_ge d ws.length with h1 | h1
        · rw [nms_at h1, szs_at h1]; simp
        · rw [List.getElem?_eq_none (by rw [nms_len]; exact h1), List.getElem?_eq_none (by rw [szs_len]; exact h1)]
      have hplace : ∀ v ∈ pl, v.1 < ws.length ∧ v.2 ≤ ((nms L ws.length).getD v.1 []).length ∧ ((v.1 : Int) ≠ k → v.2 < ((nms L ws.length).getD v.1 []).length) := fun v hv => by
        obtain ⟨h1, h2⟩ := hplc v hv
        unfold left0 at h1 h2
        rw [List.length_set, szs_len] at h1
        have e0 : (List.replicate ws.length 0).getD v.1 0 = 0 := by
          rw [List.getD_eq_getElem?_getD, List.getElem?_replicate]; split <;> rfl
        rw [e0] at h2
        rw [hsame]
        simp only [List.getD_eq_getElem?_getD] at h2 ⊢
        by_cases e : k.toNat = v.1
        · rw [e, List.getElem?_set_self (by rw [szs_len]; exact h1)] at h2
          simp only [Option.getD_some, List.length_append, List.length_cons, List.length_nil] at h2
          exact ⟨h1, by omega, fun hne => absurd (by omega) hne⟩
        · rw [List.getElem?_set_ne e] at h2
          exact ⟨h1, by omega, fun _ => by omega⟩
      repeat (first | refine T_seq ?_ | refine T_region ?_ | refine S_nil ?_ | refine pthen_normal ?_ | refine S_pure tabOk rfl ?_)
      let O2 : WI → OL := fun y => [.row w.heap.size (.slice y.ao y.o.1.length y.co) 59 1 y.o.1.length (y.o.1.map (.int .u64)), .row w.heap.size (.slice ap pl.length cp) 33 2 pl.length (vcells pl), .row w.heap.size (.slice ua ws.length uc) 61 1 ws.length us, .rep (fun w => (Bod Rlu (us.map fun v => [v]) (nms L ws.length)).at_ w G (.bool true)) G false, .blk b3 (.cells ⟨[.int .i64 k, .slice a zs.length c]⟩ 115 (0, 0)) true]
      refine T_cut (ι := WI) (fun y => y.i = pl.length ∧ y.o = vOut (nms L ws.length) (pl.take y.i)) (fun y => [(6, .int .i64 0), (16, .slice y.ao y.o.1.length y.co), (17, .bool y.o.2)]) O2 ?_ ?_
      · refine T_block ?_
        refine T_loop (ι := WI) (fun y => [(3, .pointer (some ⟨b3, 0, none⟩)), (6, .int .i64 0), (8, .slice ua ws.length uc), (16, .slice y.ao y.o.1.length y.co), (17, .bool y.o.2), (91, .slice ap pl.length cp), (92, .int .i64 (pl.length : Int)), (93, .int .i64 (y.i : Int))]) O2 (fun y => y.i ≤ pl.length ∧ y.o = vOut (nms L ws.length) (pl.take y.i)) (fun y => pl.length - y.i) ⟨0, ([], false), none, 0⟩ ⟨Nat.zero_le _, rfl⟩ (by repeat (first | exact Sub.nil | refine Sub.cons rfl ?_)) (fun w' hw => hw.nilRow _ _) ?_
        rintro ⟨i, ⟨o, own⟩, ao, co⟩ ⟨hi, ho⟩
        dsimp only [O2] at hi ho ⊢
        repeat (first | refine T_seq ?_ | refine T_region ?_ | refine S_nil ?_ | refine S_pure tabOk rfl ?_)
        refine T_cond_dec rfl (fun hlt => ?_) (fun hge => ?_)
        rotate_left
        · repeat (first | refine pthen_normal ?_ | refine inb_hit ?_ | refine pthen_exit ?_ | refine T_exit ?_)
          exact ⟨⟨i, (o, own), ao, co⟩, ⟨by show i = pl.length; omega, ho⟩, by repeat (first | exact Sub.nil | refine Sub.cons rfl ?_), fun w' hw => hw⟩
        obtain ⟨v, hv⟩ : ∃ v, pl[i]? = some v := ⟨_, List.getElem?_eq_getElem (by omega)⟩
        obtain ⟨hv1, hv2, hv4⟩ := hplace v (List.mem_of_getElem? hv)
        obtain ⟨lv, hlv⟩ : ∃ l, (nms L ws.length)[v.1]? = some l := ⟨_, nms_at hv1⟩
        have hgd : (nms L ws.length).getD v.1 [] = lv := by rw [List.getD_eq_getElem?_getD, hlv]; rfl
        rw [hgd] at hv2 hv4
        have hlvl : lv.length ≤ 65535 := by
          rw [nms_at hv1] at hlv
          rw [← Option.some.inj hlv, List.length_map]
          have : (ofC L v.1).length ≤ L.length := List.length_filter_le _ _
          omega
        have hpt : o.length ≤ 65536 := by
          have h1 := vOut_len (nms L ws.length) (pl.take i)
          rw [← ho, List.length_take] at h1
          show (o, own).1.length ≤ _
          omega
        obtain ⟨uv, huv⟩ : ∃ u, us[v.1]? = some u := ⟨_, List.getElem?_eq_getElem (by omega)⟩
        refine T_toX (ι := Option Addr × Nat) (fun y => uv = .slice y.1 lv.length y.2 ∧ (0 < lv.length → ∃ g off, y.1 = some ⟨g, off, none⟩)) (fun _ => _) (fun w9 hh => by
          obtain ⟨cs, hcs, hat⟩ := Bod.get_ (hh.own _ (getE_mem (i := 3) rfl)).1 (i := v.1) (by rw [nms_len]; exact hv1)
          rw [List.getElem?_map, huv] at hcs
          cases hcs
          have hgi : (nms L ws.length)[v.1]'(by rw [nms_len]; exact hv1) = lv := by
            rw [List.getElem?_eq_getElem (by rw [nms_len]; exact hv1)] at hlv
            exact Option.some.inj hlv
          rw [hgi] at hat
          obtain ⟨a9, n9, c9, e9, h9⟩ := hat
          obtain rfl := h9.len
          cases e9
          exact ⟨(a9, c9), ⟨rfl, fun h0 => by
            obtain ⟨g, off, e, _⟩ := h9.blk h0
            exact ⟨g, off, e⟩⟩, hh⟩) ?_
        rintro ⟨ub, ucc⟩ ⟨rfl, hub⟩
        dsimp only at hub
        have hua := huv
        repeat (first | refine T_seq ?_ | refine T_region ?_ | refine T_block ?_ | refine pthen_normal ?_ | refine T_skip ?_)
        refine S_rowA 1 rfl (by omega) (fun bv9 hbv => ?_)
        subst hbv
        refine S_q (Q_idx (sz := 2) tabOk rfl rfl rfl rfl rfl rfl rfl (j := i) rfl (by omega)) ?_
        refine S_loadN tabOk (vs := [.int .i64 (v.1 : Int), .int .i64 (v.2 : Int)]) rfl rfl rfl (fun w' hw jj u hu => by
          rw [Addr.add_lit, Nat.zero_add]
          exact own_cell (hw.own _ (getE_mem (i := 1) rfl)) (by omega) (vcells_get hv hu)) ?_
        refine S_new tabOk rfl (fun b19 hb19 => ?_)
        refine S_rowA 3 rfl (by omega) (fun bu9 hbu => ?_)
        subst hbu
        repeat (first | refine T_draw (by kernel_rfl) (by kernel_rfl) ?_ | refine D_pure tabOk rfl ?_ | refine D_load tabOk 0 rfl rfl rfl ?_ | refine T_seq ?_ | refine S_nil ?_ | refine S_store tabOk 0 rfl rfl rfl rfl rfl rfl ?_)
        refine D_load tabOk 5 rfl rfl rfl ?_
        repeat (first | refine D_pure tabOk rfl ?_)
        by_cases hkv : (v.1 : Int) = k
        · refine D_re 102 (v' := .bool true) rfl (congrArg Value.bool (decide_eq_true hkv)) ?_
          repeat (first | refine D_pure tabOk rfl ?_ | refine D_load tabOk 0 rfl rfl rfl ?_)
          refine D_q (Q_idx1 tabOk rfl rfl rfl rfl rfl rfl rfl (j := v.1) rfl hv1) ?_
          refine D_load1 tabOk (v := .slice ub lv.length ucc) rfl rfl (fun w' hw => by
            rw [Nat.zero_add]
            exact own_cell (hw.own _ (getE_mem (i := 3) rfl)) (by omega) hua) ?_
          repeat (first | refine D_all rfl ?_ | refine D_pure tabOk rfl ?_)
          refine T_cond_dec rfl (fun heq => ?_) (fun hne => ?_)
          · repeat (first | refine T_region ?_ | refine S_nil ?_ | refine pthen_normal ?_ | refine inb_normal ?_ | refine S_i64 tabOk rfl (by omega) ?_ | refine S_pure tabOk rfl ?_ | refine T_region_any ?_)
            refine ⟨⟨i + 1, (o, true), ao, co⟩, ⟨by show i + 1 ≤ pl.length; omega, ?_⟩, by repeat (first | exact Sub.nil | refine Sub.cons rfl ?_), fun w' hw => hw.less (by repeat (first | exact Less.nil | refine Less.keep ?_ | refine Less.dropB (by first | assumption | omega) ?_)), by dsimp only; omega⟩
            show (o, true) = vOut (nms L ws.length) (pl.take (i + 1))
            rw [vOut_step hv, ← ho]
            unfold vStep
            rw [hgd, if_pos (by omega)]
          have hv3 : v.2 < lv.length := by omega
          obtain ⟨gb, offb, rfl⟩ := hub (by omega)
          obtain ⟨num, hnum⟩ : ∃ num, lv[v.2]? = some num := ⟨_, List.getElem?_eq_getElem hv3⟩
          have hrd : ∀ w' : World, (Bod Rlu (us.map fun v => [v]) (nms L ws.length)).at_ w' G (.bool true) → w'.cell? ⟨gb, offb + v.2, none⟩ = some (.int .u64 num) := fun w' hB => by
            obtain ⟨cs, hcs, hat⟩ := Bod.get_ hB (i := v.1) (by rw [nms_len]; exact hv1)
            rw [List.getElem?_map, huv] at hcs
            cases hcs
            have hgi : (nms L ws.length)[v.1]'(by rw [nms_len]; exact hv1) = lv := by
              rw [List.getElem?_eq_getElem (by rw [nms_len]; exact hv1)] at hlv
              exact Option.some.inj hlv
            rw [hgi] at hat
            obtain ⟨a9, n9, c9, e9, h9⟩ := hat
            cases e9
            exact h9.ints.sl.at_ (by omega) (by rw [List.getElem?_map, hnum]; rfl)
          skip
          let lst : Bool → Bool → Bool → Value → Value → Value → OL := fun l10 l11 l12 v10 v11 v12 =>
            .blk b19 (.cells ⟨[.int .i64 (v.1 : Int), .int .i64 (v.2 : Int)]⟩ 33 (0, 0)) true :: .row w.heap.size (cond l11 v11 (.slice ao o.length co)) 59 1 (cond l11 (o.length + 1) o.length) (cond l11 (o.map (.int .u64) ++ [.int .u64 num]) (o.map (.int .u64))) :: .row w.heap.size (.slice (some ⟨bv9, 0, none⟩) pl.length cp) 33 2 pl.length (vcells pl) :: .row w.heap.size (.slice (some ⟨bu9, 0, none⟩) ws.length uc) 61 1 ws.length us :: .rep (fun w => (Bod Rlu (us.map fun v => [v]) (nms L ws.length)).at_ w G (.bool true)) G false :: .blk b3 (.cells ⟨[.int .i64 k, .slice a zs.length c]⟩ 115 (0, 0)) true :: (cond l10 [.row w.heap.size v10 59 1 1 [.int .u64 num]] [] ++ (cond l11 [factE (∃ A C, v11 = .slice A (o.length + 1) C)] [] ++ (cond l12 [factE (v12 = v11)] [])))
          refine T_asThen ?_
          refine T_drawF (γ := Unit) (by kernel_rfl) (by kernel_rfl) () (fun Ld f => lst (Ld 10) (Ld 11) (Ld 12) (f 10).1 (f 11).1 (f 12).1) rfl [some (.slice ao o.length co), some (.slice (some ⟨bu9, 0, none⟩) ws.length uc), some (.pointer (some ⟨b19, 0, none⟩)), some (.int .i64 (v.1 : Int)), some (.pointer (some ⟨bu9, 0 + v.1, none⟩)), some (.slice (some ⟨gb, offb, none⟩) lv.length ucc), some (.pointer (some ⟨b19, 1, none⟩)), some (.int .i64 (v.2 : Int)), some (.pointer (some ⟨gb, offb + v.2, none⟩)), some (.int .u64 num), none, none, none] ?_ ?_
          · refine ⟨?_, ?_, ?_, ?_, ?_, ?_, ?_, ?_, ?_, ?_, ?_, ?_, ?_, trivial⟩
            · exact fun Ld f hc hl hp => OpA.told () rfl (D_pure tabOk rfl D_last) rfl
            · exact fun Ld f hc hl hp => OpA.told () rfl (D_pure tabOk rfl D_last) rfl
            · exact fun Ld f hc hl hp => OpA.told () rfl (D_pure tabOk rfl D_last) rfl
            · exact fun Ld f hc hl hp => OpA.told () rfl (D_load tabOk 0 rfl rfl rfl D_last) rfl
            · exact fun Ld f hc hl hp => OpA.told () rfl (D_q (Q_idx1 tabOk rfl rfl rfl rfl rfl rfl rfl (j := v.1) rfl hv1) D_last) rfl
            · exact fun Ld f hc hl hp => OpA.told () rfl (D_load1 tabOk (v := .slice (some ⟨gb, offb, none⟩) lv.length ucc) rfl rfl (fun w' hw => by
        rw [Nat.zero_add]
        exact own_cell (hw.own _ (getE_mem (i := 3) rfl)) (by omega) hua) D_last) rfl
            · exact fun Ld f hc hl hp => OpA.told () rfl (D_pure tabOk rfl D_last) rfl
            · exact fun Ld f hc hl hp => OpA.told () rfl (D_load tabOk 0 rfl rfl rfl D_last) rfl
            · exact fun Ld f hc hl hp => OpA.told () rfl (D_q (Q_idx1 tabOk rfl rfl rfl rfl rfl rfl rfl (j := v.2) rfl hv3) D_last) rfl
            · exact fun Ld f hc hl hp => OpA.told () rfl (D_load1 tabOk (v := .int .u64 num) rfl rfl (fun w' hw => hrd w' (hw.own _ (getE_mem (i := 4) rfl)).1) D_last) rfl
            · intro Ld f hc hl hp
              have h11 := closed_no hc (j := 11) rfl ⟨10, .data⟩ (by simp) rfl hl
              have h12 := closed_no hc (j := 12) rfl ⟨10, .phase⟩ (by simp) rfl hl
              show OpA _ _ _ _ (lst (Ld 10) (Ld 11) (Ld 12) (f 10).1 (f 11).1 (f 12).1) (fun y => lst true (Ld 11) (Ld 12) y.1 (f 11).1 (f 12).1) _ _ _
              rw [hl, h11, h12]
              refine OpA.ofS (l := [(122, .int .u64 num)]) rfl (by decide) (.cons rfl rfl .nil) ?_
              refine S_bslice tabOk rfl rfl rfl rfl rfl rfl rfl rfl rfl rfl rfl rfl (fun nb hnb => ?_)
              refine S_heap (fun w' h => Hp.closeRow (pre := []) (n := 1) (c := 1) (sz := 1) h hnb (by decide) (by decide) rfl) ?_
              refine S_nil ?_
              exact ⟨_, (), rfl, (fun u h => by cases h), fun w' hw => by
                have h9 := hw.pm [1, 2, 3, 4, 5, 6, 0] rfl rfl rfl
                exact h9⟩
            · intro Ld f hc hl hp
              have h10 : Ld 10 = true := hp ⟨10, .data⟩ (by simp) rfl
              have h12 := closed_no hc (j := 12) rfl ⟨11, .data⟩ (by simp) rfl hl
              show OpA _ _ _ _ (lst (Ld 10) (Ld 11) (Ld 12) (f 10).1 (f 11).1 (f 12).1) (fun y => lst (Ld 10) true (Ld 12) (f 10).1 y.1 (f 12).1) _ _ _
              rw [hl, h10, h12]
              refine OpA.pre (X := ∃ A C, (f 10).1 = .slice A 1 C) (fun w hw => ?_) (fun d h => by cases h; decide) ?_
              · obtain ⟨A, C, e2, _⟩ := hw.rowForm 6 rfl
                exact ⟨A, C, e2⟩
              rintro ⟨A, C, e2⟩
              rw [e2]
              refine OpA.ofS (l := [(113, .slice ao o.length co), (123, .slice A 1 C)]) rfl (by decide) (.cons rfl rfl (.cons rfl (by show some (Ent.ex (f 10).1) = _; rw [e2]) .nil)) ?_
              refine S_append (ty := 0) (m := o.length) (k := 1) (xs := o.map (.int .u64)) (news := [.int .u64 (num)]) tabOk 1 (sz := 1) rfl rfl rfl rfl rfl rfl rfl rfl rfl (by decide) (fun w' h => Sl.of_own (h.own _ (getE_mem (i := 6) rfl))) (fun u hu => by rw [List.mem_singleton] at hu; subst hu; rfl) (by simp only [maxLen]; omega) (by show (_ + _) * 8 ≤ _; omega) rfl (fun A'' c'' h1 h2 => ⟨_, rfl, ?_⟩)
              refine S_nil ?_
              exact ⟨_, (), rfl, (fun u h => by cases h), fun w' hw => by
                have h9 := (hw.addF (p := ∃ A C, Value.slice A'' (o.length + 1) c'' = .slice A (o.length + 1) C) ⟨A'', c'', rfl⟩).pm [1, 2, 3, 4, 5, 6, 7, 0] rfl rfl rfl
                exact h9⟩
            · intro Ld f hc hl hp
              have h10 : Ld 10 = true := hp ⟨10, .phase⟩ (by simp) rfl
              have h11 : Ld 11 = true := hp ⟨11, .data⟩ (by simp) rfl
              show OpA _ _ _ _ (lst (Ld 10) (Ld 11) (Ld 12) (f 10).1 (f 11).1 (f 12).1) (fun y => lst (Ld 10) (Ld 11) true (f 10).1 (f 11).1 y.1) _ _ _
              rw [hl, h10, h11]
              refine OpA.swap (dl' := [(124, .ex (f 11).1)]) (List.forall_mem_cons.2 ⟨rfl, fun _ h => nomatch h⟩) ?_
              exact OpA.known () rfl (D_pure tabOk rfl D_last) (fun w1 hw => by
                have h9 := (hw.addF (p := ((f 11).1 = (f 11).1)) rfl).pm [1, 2, 3, 4, 5, 6, 7, 8, 0] rfl rfl rfl
                exact h9)
          · intro Lf f w6 hL6 hw6
            change Hp _ _ (lst (Lf 10) (Lf 11) (Lf 12) (f 10).1 (f 11).1 (f 12).1) at hw6
            rw [hL6 10 (by decide), hL6 11 (by decide), hL6 12 (by decide)] at hw6
            obtain ⟨A, C, e11⟩ := hw6.fact 7 rfl
            have e12 := (hw6.fact 8 rfl).trans e11
            obtain ⟨o', ho'⟩ : ∃ o', o' = o ++ [num] := ⟨_, rfl⟩
            have hl' : o.length + 1 = o'.length := by rw [ho']; simp
            have hx' : o.map (Value.int .u64) ++ [.int .u64 num] = o'.map (Value.int .u64) := by rw [ho', List.map_append]; rfl
            rw [e11] at hw6
            have h9 := hw6.pm [1, 2, 3, 4, 5, 0, 6, 7, 8] rfl rfl rfl
            dsimp only [cond] at h9
            rw [hl', hx'] at h9
            refine ⟨[(3, .pointer (some ⟨b3, 0, none⟩)), (6, .int .i64 0), (8, .slice (some ⟨bu9, 0, none⟩) ws.length uc), (16, (f 12).1), (17, .bool own), (91, .slice (some ⟨bv9, 0, none⟩) pl.length cp), (92, .int .i64 (pl.length : Int)), (93, .int .i64 (i : Int))], O2 ⟨i, (o', own), A, C⟩, (by repeat (first | exact SubD.nil | refine SubD.cons rfl ?_)), h9.less (by repeat (first | exact Less.nil | refine Less.keep ?_ | refine Less.dropR ?_ | refine Less.dropB (by first | assumption | omega) ?_ | refine Less.dropW (Nat.le_refl _) ?_)), ?_⟩
            rw [e12, hl']
            clear hw6 h9 hL6 e11 e12 lst
            dsimp only [O2]
            repeat (first | refine T_region ?_ | refine S_nil ?_ | refine pthen_normal ?_ | refine inb_normal ?_ | refine S_i64 tabOk rfl (by omega) ?_ | refine S_pure tabOk rfl ?_)
            refine ⟨⟨i + 1, (o', own), A, C⟩, ⟨by show i + 1 ≤ pl.length; omega, ?_⟩, by repeat (first | exact Sub.nil | refine Sub.cons rfl ?_), fun w' hw => hw, by dsimp only; omega⟩
            show (o', own) = vOut (nms L ws.length) (pl.take (i + 1))
            rw [vOut_step hv, ← ho]
            unfold vStep
            rw [hgd, if_neg (by omega), ho', List.getD_eq_getElem?_getD, hnum]
            rfl
        · refine D_re 102 (v' := .bool false) rfl (congrArg Value.bool (decide_eq_false hkv)) ?_
          repeat (first | refine D_all rfl ?_ | refine D_pure tabOk rfl ?_ | refine D_pass rfl rfl rfl ?_)
          refine T_cond_f rfl ?_
          have hv3 : v.2 < lv.length := hv4 hkv
          obtain ⟨gb, offb, rfl⟩ := hub (by omega)
          obtain ⟨num, hnum⟩ : ∃ num, lv[v.2]? = some num := ⟨_, List.getElem?_eq_getElem hv3⟩
          have hrd : ∀ w' : World, (Bod Rlu (us.map fun v => [v]) (nms L ws.length)).at_ w' G (.bool true) → w'.cell? ⟨gb, offb + v.2, none⟩ = some (.int .u64 num) := fun w' hB => by
            obtain ⟨cs, hcs, hat⟩ := Bod.get_ hB (i := v.1) (by rw [nms_len]; exact hv1)
            rw [List.getElem?_map, huv] at hcs
            cases hcs
            have hgi : (nms L ws.length)[v.1]'(by rw [nms_len]; exact hv1) = lv := by
              rw [List.getElem?_eq_getElem (by rw [nms_len]; exact hv1)] at hlv
              exact Option.some.inj hlv
            rw [hgi] at hat
            obtain ⟨a9, n9, c9, e9, h9⟩ := hat
            cases e9
            exact h9.ints.sl.at_ (by omega) (by rw [List.getElem?_map, hnum]; rfl)
          skip
          let lst : Bool → Bool → Bool → Value → Value → Value → OL := fun l10 l11 l12 v10 v11 v12 =>
            .blk b19 (.cells ⟨[.int .i64 (v.1 : Int), .int .i64 (v.2 : Int)]⟩ 33 (0, 0)) true :: .row w.heap.size (cond l11 v11 (.slice ao o.length co)) 59 1 (cond l11 (o.length + 1) o.length) (cond l11 (o.map (.int .u64) ++ [.int .u64 num]) (o.map (.int .u64))) :: .row w.heap.size (.slice (some ⟨bv9, 0, none⟩) pl.length cp) 33 2 pl.length (vcells pl) :: .row w.heap.size (.slice (some ⟨bu9, 0, none⟩) ws.length uc) 61 1 ws.length us :: .rep (fun w => (Bod Rlu (us.map fun v => [v]) (nms L ws.length)).at_ w G (.bool true)) G false :: .blk b3 (.cells ⟨[.int .i64 k, .slice a zs.length c]⟩ 115 (0, 0)) true :: (cond l10 [.row w.heap.size v10 59 1 1 [.int .u64 num]] [] ++ (cond l11 [factE (∃ A C, v11 = .slice A (o.length + 1) C)] [] ++ (cond l12 [factE (v12 = v11)] [])))
          refine T_asThen ?_
          refine T_drawF (γ := Unit) (by kernel_rfl) (by kernel_rfl) () (fun Ld f => lst (Ld 10) (Ld 11) (Ld 12) (f 10).1 (f 11).1 (f 12).1) rfl [some (.slice ao o.length co), some (.slice (some ⟨bu9, 0, none⟩) ws.length uc), some (.pointer (some ⟨b19, 0, none⟩)), some (.int .i64 (v.1 : Int)), some (.pointer (some ⟨bu9, 0 + v.1, none⟩)), some (.slice (some ⟨gb, offb, none⟩) lv.length ucc), some (.pointer (some ⟨b19, 1, none⟩)), some (.int .i64 (v.2 : Int)), some (.pointer (some ⟨gb, offb + v.2, none⟩)), some (.int .u64 num), none, none, none] ?_ ?_
          · refine ⟨?_, ?_, ?_, ?_, ?_, ?_, ?_, ?_, ?_, ?_, ?_, ?_, ?_, trivial⟩
            · exact fun Ld f hc hl hp => OpA.told () rfl (D_pure tabOk rfl D_last) rfl
            · exact fun Ld f hc hl hp => OpA.told () rfl (D_pure tabOk rfl D_last) rfl
            · exact fun Ld f hc hl hp => OpA.told () rfl (D_pure tabOk rfl D_last) rfl
            · exact fun Ld f hc hl hp => OpA.told () rfl (D_load tabOk 0 rfl rfl rfl D_last) rfl
            · exact fun Ld f hc hl hp => OpA.told () rfl (D_q (Q_idx1 tabOk rfl rfl rfl rfl rfl rfl rfl (j := v.1) rfl hv1) D_last) rfl
            · exact fun Ld f hc hl hp => OpA.told () rfl (D_load1 tabOk (v := .slice (some ⟨gb, offb, none⟩) lv.length ucc) rfl rfl (fun w' hw => by
        rw [Nat.zero_add]
        exact own_cell (hw.own _ (getE_mem (i := 3) rfl)) (by omega) hua) D_last) rfl
            · exact fun Ld f hc hl hp => OpA.told () rfl (D_pure tabOk rfl D_last) rfl
            · exact fun Ld f hc hl hp => OpA.told () rfl (D_load tabOk 0 rfl rfl rfl D_last) rfl
            · exact fun Ld f hc hl hp => OpA.told () rfl (D_q (Q_idx1 tabOk rfl rfl rfl rfl rfl rfl rfl (j := v.2) rfl hv3) D_last) rfl
            · exact fun Ld f hc hl hp => OpA.told () rfl (D_load1 tabOk (v := .int .u64 num) rfl rfl (fun w' hw => hrd w' (hw.own _ (getE_mem (i := 4) rfl)).1) D_last) rfl
            · intro Ld f hc hl hp
              have h11 := closed_no hc (j := 11) rfl ⟨10, .data⟩ (by simp) rfl hl
              have h12 := closed_no hc (j := 12) rfl ⟨10, .phase⟩ (by simp) rfl hl
              show OpA _ _ _ _ (lst (Ld 10) (Ld 11) (Ld 12) (f 10).1 (f 11).1 (f 12).1) (fun y => lst true (Ld 11) (Ld 12) y.1 (f 11).1 (f 12).1) _ _ _
              rw [hl, h11, h12]
              refine OpA.ofS (l := [(122, .int .u64 num)]) rfl (by decide) (.cons rfl rfl .nil) ?_
              refine S_bslice tabOk rfl rfl rfl rfl rfl rfl rfl rfl rfl rfl rfl rfl (fun nb hnb => ?_)
              refine S_heap (fun w' h => Hp.closeRow (pre := []) (n := 1) (c := 1) (sz := 1) h hnb (by decide) (by decide) rfl) ?_
              refine S_nil ?_
              exact ⟨_, (), rfl, (fun u h => by cases h), fun w' hw => by
                have h9 := hw.pm [1, 2, 3, 4, 5, 6, 0] rfl rfl rfl
                exact h9⟩
            · intro Ld f hc hl hp
              have h10 : Ld 10 = true := hp ⟨10, .data⟩ (by simp) rfl
              have h12 := closed_no hc (j := 12) rfl ⟨11, .data⟩ (by simp) rfl hl
              show OpA _ _ _ _ (lst (Ld 10) (Ld 11) (Ld 12) (f 10).1 (f 11).1 (f 12).1) (fun y => lst (Ld 10) true (Ld 12) (f 10).1 y.1 (f 12).1) _ _ _
              rw [hl, h10, h12]
              refine OpA.pre (X := ∃ A C, (f 10).1 = .slice A 1 C) (fun w hw => ?_) (fun d h => by cases h; decide) ?_
              · obtain ⟨A, C, e2, _⟩ := hw.rowForm 6 rfl
                exact ⟨A, C, e2⟩
              rintro ⟨A, C, e2⟩
              rw [e2]
              refine OpA.ofS (l := [(113, .slice ao o.length co), (123, .slice A 1 C)]) rfl (by decide) (.cons rfl rfl (.cons rfl (by show some (Ent.ex (f 10).1) = _; rw [e2]) .nil)) ?_
              refine S_append (ty := 0) (m := o.length) (k := 1) (xs := o.map (.int .u64)) (news := [.int .u64 (num)]) tabOk 1 (sz := 1) rfl rfl rfl rfl rfl rfl rfl rfl rfl (by decide) (fun w' h => Sl.of_own (h.own _ (getE_mem (i := 6) rfl))) (fun u hu => by rw [List.mem_singleton] at hu; subst hu; rfl) (by simp only [maxLen]; omega) (by show (_ + _) * 8 ≤ _; omega) rfl (fun A'' c'' h1 h2 => ⟨_, rfl, ?_⟩)
              refine S_nil ?_
              exact ⟨_, (), rfl, (fun u h => by cases h), fun w' hw => by
                have h9 := (hw.addF (p := ∃ A C, Value.slice A'' (o.length + 1) c'' = .slice A (o.length + 1) C) ⟨A'', c'', rfl⟩).pm [1, 2, 3, 4, 5, 6, 7, 0] rfl rfl rfl
                exact h9⟩
            · intro Ld f hc hl hp
              have h10 : Ld 10 = true := hp ⟨10, .phase⟩ (by simp) rfl
              have h11 : Ld 11 = true := hp ⟨11, .data⟩ (by simp) rfl
              show OpA _ _ _ _ (lst (Ld 10) (Ld 11) (Ld 12) (f 10).1 (f 11).1 (f 12).1) (fun y => lst (Ld 10) (Ld 11) true (f 10).1 (f 11).1 y.1) _ _ _
              rw [hl, h10, h11]
              refine OpA.swap (dl' := [(124, .ex (f 11).1)]) (List.forall_mem_cons.2 ⟨rfl, fun _ h => nomatch h⟩) ?_
              exact OpA.known () rfl (D_pure tabOk rfl D_last) (fun w1 hw => by
                have h9 := (hw.addF (p := ((f 11).1 = (f 11).1)) rfl).pm [1, 2, 3, 4, 5, 6, 7, 8, 0] rfl rfl rfl
                exact h9)
          · intro Lf f w6 hL6 hw6
            change Hp _ _ (lst (Lf 10) (Lf 11) (Lf 12) (f 10).1 (f 11).1 (f 12).1) at hw6
            rw [hL6 10 (by decide), hL6 11 (by decide), hL6 12 (by decide)] at hw6
            obtain ⟨A, C, e11⟩ := hw6.fact 7 rfl
            have e12 := (hw6.fact 8 rfl).trans e11
            obtain ⟨o', ho'⟩ : ∃ o', o' = o ++ [num] := ⟨_, rfl⟩
            have hl' : o.length + 1 = o'.length := by rw [ho']; simp
            have hx' : o.map (Value.int .u64) ++ [.int .u64 num] = o'.map (Value.int .u64) := by rw [ho', List.map_append]; rfl
            rw [e11] at hw6
            have h9 := hw6.pm [1, 2, 3, 4, 5, 0, 6, 7, 8] rfl rfl rfl
            dsimp only [cond] at h9
            rw [hl', hx'] at h9
            refine ⟨[(3, .pointer (some ⟨b3, 0, none⟩)), (6, .int .i64 0), (8, .slice (some ⟨bu9, 0, none⟩) ws.length uc), (16, (f 12).1), (17, .bool own), (91, .slice (some ⟨bv9, 0, none⟩) pl.length cp), (92, .int .i64 (pl.length : Int)), (93, .int .i64 (i : Int))], O2 ⟨i, (o', own), A, C⟩, (by repeat (first | exact SubD.nil | refine SubD.cons rfl ?_)), h9.less (by repeat (first | exact Less.nil | refine Less.keep ?_ | refine Less.dropR ?_ | refine Less.dropB (by first | assumption | omega) ?_ | refine Less.dropW (Nat.le_refl _) ?_)), ?_⟩
            rw [e12, hl']
            clear hw6 h9 hL6 e11 e12 lst
            dsimp only [O2]
            repeat (first | refine T_region ?_ | refine S_nil ?_ | refine pthen_normal ?_ | refine inb_normal ?_ | refine S_i64 tabOk rfl (by omega) ?_ | refine S_pure tabOk rfl ?_)
            refine ⟨⟨i + 1, (o', own), A, C⟩, ⟨by show i + 1 ≤ pl.length; omega, ?_⟩, by repeat (first | exact Sub.nil | refine Sub.cons rfl ?_), fun w' hw => hw, by dsimp only; omega⟩
            show (o', own) = vOut (nms L ws.length) (pl.take (i + 1))
            rw [vOut_step hv, ← ho]
            unfold vStep
            rw [hgd, if_neg (by omega), ho', List.getD_eq_getElem?_getD, hnum]
            rfl
      · rintro ⟨i, ⟨o, own⟩, ao, co⟩ ⟨hi, ho⟩
        dsimp only [O2] at hi ho ⊢
        subst hi
        rw [List.take_length] at ho
        have hfin : VicP cap ws L k zs.length (o, own) 0 := by
          unfold VicP
          rw [if_pos ht, if_neg hlo]
          exact ⟨rfl, pl, hpl, ho⟩
        repeat (first | refine T_seq ?_ | refine T_region ?_ | refine S_nil ?_ | refine T_ret ?_ | refine S_pure tabOk rfl ?_)
        exact ret3 rfl rfl rfl rfl (fun w' hw => ⟨(o, own), 0, ao, co, rfl, hw.below (by repeat (first | exact new_nil | refine new_ro ?_ | refine new_cons (by first | assumption | omega) ?_ | refine newrow hw 0 rfl (Nat.le_refl _) ?_ | refine newrow hw 1 rfl (Nat.le_refl _) ?_ | refine newrow hw 2 rfl (Nat.le_refl _) ?_)), hw.own _ (getE_mem (i := 0) rfl), hfin⟩)
end

theorem rfsame_ok (k1 k2 : Int) (a1 a2 : Option Addr) (n1 c1 n2 c2 : Nat) (xs ys : List Int) (w : World) (h1 : Ints .u8 w a1 n1 c1 xs) (h2 : Ints .u8 w a2 n2 c2 ys) :
    Calls Try.prog 59 #[.agg #[.int .i64 k1, .slice a1 n1 c1], .agg #[.int .i64 k2, .slice a2 n2 c2]] w fun e w' => e = .returned (.bool (decide (k1 = k2 ∧ xs = ys))) ∧ Below w.heap.size w w' := by
  refine enter2 Try.func59 rfl rfl (Hp.refl w) ?_
  repeat (first | refine T_seq ?_ | refine T_region ?_)
  refine S_new tabOk rfl (fun b hb => ?_)
  refine S_new tabOk rfl (fun b2 hb2 => ?_)
  repeat (first | refine T_seq ?_ | refine T_region ?_ | refine S_nil ?_ | refine S_pure tabOk rfl ?_ | refine S_load tabOk 0 rfl rfl rfl ?_ | refine S_load tabOk 1 rfl rfl rfl ?_)
  refine S_split rfl rfl (fun h => ?_) (fun h => ?_)
  · repeat (first | refine S_pure tabOk rfl ?_ | refine S_load tabOk 0 rfl rfl rfl ?_ | refine S_load tabOk 1 rfl rfl rfl ?_)
    refine S_callq rfl Try.call72 (fun w1 hw1 => same_ok a1 a2 n1 c1 n2 c2 xs ys w1 (h1.ext (hw1.below (new_cons hb2 (new_cons hb new_nil)))) (h2.ext (hw1.below (new_cons hb2 (new_cons hb new_nil))))) ?_
    repeat (first | refine S_nil ?_ | refine T_ret ?_ | refine S_pure tabOk rfl ?_)
    exact ret1 rfl rfl (fun w' hw => ⟨retb (dec_eq ⟨fun hh => ⟨h, hh⟩, fun hh => hh.2⟩), hw.below (new_cons hb2 (new_cons hb new_nil))⟩)
  · repeat (first | refine S_nil ?_ | refine T_ret ?_ | refine S_pure tabOk rfl ?_ | refine S_pass rfl rfl rfl ?_)
    exact ret1 rfl rfl (fun w' hw => ⟨retb (decide_eq_false (fun hh => h hh.1)).symm, hw.below (new_cons hb2 (new_cons hb new_nil))⟩)
theorem qGot_mem {L : List QE} (hn : (L.map (·.1)).Nodup) {e : QE} (he : e ∈ L) : qGot L e.1 = (e.2.1, e.2.2, true) := by
  obtain ⟨i, hi⟩ := List.mem_iff_getElem?.1 he
  unfold qGot
  rw [qFind_at hn hi]
theorem far_rowH {w0 w : World} {A : Nat → Prop} {o ol : OL} {v : Value} {E : TypeId} {sz m : Nat} {xs : List Value} (hw : Hp w0 w o) (i : Nat) (hi : getE o i = some (.row w0.heap.size v E sz m xs)) (h : Far w0 A ol) : Far w0 A (.row w0.heap.size v E sz m xs :: ol) := far_row (hw.own _ (getE_mem hi)) h
section
variable {xb : Nat} {cap last last2 : Int} {ws : List Int} {L : List QE} {aw : Option Addr} {cw : Nat} {al : Option Addr} {cl : Nat} {w w1 : World} {A F : Nat → Prop} {ol : OL} {qb K : Nat}
theorem far_imp {B : Nat → Prop} (h : Far w (fun k => A k ∨ B k) ol) : Far w A ol := fun e he hx k hk => (h e he hx k hk).imp id fun h hA => h (.inl hA)
theorem RqS.far (h : RqS xb cap last ws L aw cw al cl w A) (hw : Hp w w1 ol) (hn : Far w (fun k => A k ∨ k = xb) ol) : RqS xb cap last ws L aw cw al cl w1 A :=
  ⟨(hw.old xb (heap_lt h.x) fun e he hx hh => (hn e he hx xb hh).elim (fun h9 => by have := heap_lt h.x; omega) fun h => h (.inr rfl)).trans h.x, h.ws.far hw fun e he hx k hk => (hn e he hx k hk).imp id fun h hA => h (.inl hA), h.L.far hw fun e he hx k hk => (hn e he hx k hk).imp id fun h hA => h (.inl hA), h.n⟩
theorem RqS.cell0 (h : RqS xb cap last ws L aw cw al cl w A) {j : Nat} {u : Value} (hu : [Value.int .i64 cap, .slice aw ws.length cw, .slice al L.length cl, .int .u64 last][j]? = some u) : w.cell? ⟨xb, j, none⟩ = some u := h.cell (Below.refl _ _) hu
theorem rBy_class (hok : QOk cap last ws L) {c : Nat} : (if (0 : Int) ≤ (c : Int) ∧ (c : Int) < (ws.length : Int) then bsum L (c : Int).toNat else 0) = rBy L (c : Int) := by
  have e : rBy L (c : Int) = ((L.filter fun x => decide (x.2.1 = (c : Int))).map sizeQ).sum := by unfold rBy; rw [if_neg (by omega)]
  rw [e]
  by_cases h : (c : Int) < (ws.length : Int)
  · rw [if_pos ⟨by omega, h⟩]
    rfl
  · rw [if_neg (fun h9 => h h9.2)]
    have : (L.filter fun x => decide (x.2.1 = (c : Int))) = [] := by
      rw [List.filter_eq_nil_iff]
      intro x hx
      have := (hok.cls x hx).2.1
      simp only [decide_eq_true_eq]
      omega
    rw [this]; rfl
theorem item_far (h : RqS xb cap last ws L aw cw al cl w A) {i : Nat} {x : QE} (hx : L[i]? = some x) : ∃ ab off a c, al = some ⟨ab, off, none⟩ ∧ SlR (Rint .u8) w A a x.2.2.length c x.2.2 ∧ (∀ w' ol', Hp w w' ol' → Far w (fun k => A k ∨ k = xb) ol' → ∀ j u, [Value.int .u64 x.1, .int .i64 x.2.1, .slice a x.2.2.length c][j]? = some u → w'.cell? ⟨ab, off + i * 3 + j, none⟩ = some u) := by
  obtain ⟨ab, off, a, c, e, hlt, hz, hce⟩ := item_at h.L hx
  refine ⟨ab, off, a, c, e, hz, fun w' ol' hw hn j u hu => ?_⟩
  obtain ⟨b', off', e', hA⟩ := h.L.blk (by have := (List.getElem?_eq_some_iff.1 hx).1; omega)
  rw [e] at e'
  cases e'
  exact (World.cell?_of_block (w := w) (a := ⟨ab, off + i * 3 + j, none⟩) (hw.old ab hlt fun e he hx hh => (hn e he hx ab hh).elim (fun h9 => by omega) fun h => h (.inl hA))).trans (hce w (Below.refl _ _) j u hu)
end
section
variable {qb : Nat} {cap last : Int} {ws : List Int} {L : List QE} {K : Nat} {w : World} {F : Nat → Prop}
theorem q_numbersR' (h : (quA qb cap last ws L K).at_ w F (.bool true)) (hL : (L.map (·.1)).Pairwise (· < ·)) (hn : L.length ≤ 65535) : Calls Try.prog 31 #[qptr qb] w fun e w' => ∃ a c, e = .returned (.slice a L.length c) ∧ (0 < L.length → ∃ g, a = some ⟨g, 0, none⟩) ∧ Below w.heap.size w w' ∧ w'.ownsRow w.heap.size 59 1 (.slice a L.length c) L.length (L.map fun x : QE => .int .u64 x.1) := by
  refine (q_numbers h hL hn).mono fun e w' ⟨v, e1, hnil, h2⟩ => ?_
  have h9 : w'.ownsRow w.heap.size 59 1 v (L.map fun x : QE => x.1).length ((L.map fun x : QE => x.1).map (.int .u64)) := h2.own _ List.mem_cons_self
  rw [List.length_map, List.map_map] at h9
  have hb := h2.below (newrow h2 0 rfl (Nat.le_refl _) new_nil)
  rcases hnil with ⟨rfl, h0⟩ | ⟨g, c2, rfl, _⟩
  · have h00 : L.length = 0 := by rw [← List.length_map (f := fun x : QE => x.1), h0]; rfl
    exact ⟨none, 0, by rw [h00]; exact e1, fun h => by omega, hb, by rw [h00] at h9 ⊢; exact h9⟩
  · rw [List.length_map] at e1 h9
    exact ⟨_, _, e1, fun _ => ⟨g, rfl⟩, hb, h9⟩
end
section
variable {xb : Nat} {cap last last2 : Int} {ws : List Int} {L : List QE} {aw : Option Addr} {cw : Nat} {al : Option Addr} {cl : Nat} {w w1 : World} {A F : Nat → Prop} {ol : OL} {qb K : Nat}
set_option maxHeartbeats 16000000 in
theorem like9_ok (hq : (quA qb cap last ws L K).at_ w F (.bool true)) (hF : ∀ k, F k → k < w.heap.size) (hx : RqS xb cap last2 ws L aw cw al cl w A) (hA : ∀ k, F k → w.heap.size ≤ k ∨ ¬ (A k ∨ k = xb)) (hok : QOk cap last ws L) (hlen : L.length ≤ 1000) (hws : ws.length ≤ 8) :
    Calls Try.prog 39 #[qptr qb, .pointer (some ⟨xb, 0, none⟩)] w fun e w' => e = .returned (.bool true) ∧ Hp w w' [.rep (fun w => (quA qb cap last ws L K).at_ w F (.bool true)) F true] := by
  have hl4 : ∀ x ∈ L, x.2.2.length ≤ 4096 := fun x hx => (hok.cls x hx).2.2.2
  have hq0 := hq
  refine enter2 Try.func39 rfl rfl (Hp.startO (p := quA qb cap last ws L K) hq hF) ?_
  repeat (first | refine T_seq ?_ | refine T_region ?_ | refine S_nil ?_ | refine S_pure tabOk rfl ?_)
  refine S_call rfl Try.call31 (fun w1 g => (q_numbersR' (g.own _ (getE_mem (i := 0) rfl)).1 hok.srt (by omega)).mono fun e w' ⟨an, cn, e1, hcn, hb, hr⟩ => ⟨_, _, e1, g.fresh hb (x := .row w.heap.size (.slice an L.length cn) 59 1 L.length (L.map fun x : QE => .int .u64 x.1)) (own_rebase hr g.size) (fun j hj => (World.ownsRow.lt hr j hj).1), ?_⟩)
  repeat (first | refine T_seq ?_ | refine T_region ?_ | refine S_nil ?_ | refine S_pure tabOk rfl ?_)
  refine S_callT 1 rfl Try.call40 rfl (fun w1 g => (q_lowest (g.own _ (getE_mem (i := 1) rfl)).1 (g.own _ (getE_mem (i := 1) rfl)).2.2 hok).mono fun e w' ⟨he, g2⟩ => ⟨_, _, F, he, g2, fun _ h => h, fun _ h => .inl h, _, rfl, ?_⟩)
  obtain ⟨lo, ok, hlo, hlok⟩ : ∃ lo ok, qLow L = .tuple #[.int .u64 lo, .bool ok] ∧ ((L = [] ∧ lo = 0 ∧ ok = false) ∨ ∃ e rest, L = e :: rest ∧ lo = e.1 ∧ ok = true) := by
    cases L with
    | nil => exact ⟨0, false, rfl, .inl ⟨rfl, rfl, rfl⟩⟩
    | cons e rest => exact ⟨e.1, true, rfl, .inr ⟨e, rest, rfl, rfl, rfl⟩⟩
  rw [hlo]
  repeat (first | refine T_seq ?_ | refine T_region ?_ | refine S_nil ?_ | refine S_pure tabOk rfl ?_)
  have hqs : (L.map sizeQ).sum = qSum L := rfl
  refine S_load1 tabOk (v := .slice al L.length cl) rfl rfl (fun w' hw => (hx.far hw (by repeat (first | exact far_nil | refine far_rep (by assumption) ?_ | refine far_rowH hw 0 rfl ?_))).cell0 (j := 2) rfl) ?_
  repeat (first | refine S_pure tabOk rfl ?_)
  refine S_re 28 (v' := .bool false) rfl (congrArg Value.bool (decide_eq_false (fun h => h rfl))) ?_
  repeat (first | refine S_pure tabOk rfl ?_)
  refine S_callq (v := .int .i64 (L.length : Int)) rfl Try.call33 (fun w1 g => q_len (g.own _ (getE_mem (i := 1) rfl)).1) ?_
  repeat (first | refine S_pure tabOk rfl ?_)
  refine S_re 35 (v' := .bool false) rfl (congrArg Value.bool (decide_eq_false (fun h => h rfl))) ?_
  repeat (first | refine S_pure tabOk rfl ?_)
  refine S_callq (v := .int .i64 (qSum L)) rfl Try.call37 (fun w1 g => q_bytes (g.own _ (getE_mem (i := 1) rfl)).1 hok (by omega) hws) ?_
  repeat (first | refine S_pure tabOk rfl ?_)
  refine S_callq (v := .int .i64 (qSum L)) rfl Try.call63 (fun w1 g => rbytes9_ok (hx.far g (by repeat (first | exact far_nil | refine far_rep (by assumption) ?_ | refine far_rowH g 0 rfl ?_))) hl4 (by omega) (-1)) ?_
  repeat (first | refine S_pure tabOk rfl ?_)
  refine S_re 42 (v' := .bool false) rfl (congrArg Value.bool (decide_eq_false (fun h => h rfl))) ?_
  repeat (first | refine S_pure tabOk rfl ?_)
  refine S_q (Q_neb tabOk rfl rfl rfl rfl rfl) ?_
  repeat (first | refine S_pure tabOk rfl ?_)
  refine S_re 49 (v' := .bool false) rfl (congrArg Value.bool (by
    rcases hlok with ⟨rfl, rfl, rfl⟩ | ⟨e, rest, rfl, rfl, rfl⟩
    · rfl
    · rw [decide_eq_true (by rw [List.length_cons]; omega)]; rfl)) ?_
  refine S_cut (ι := Unit) (fun _ => True) (fun _ => [(70, .bool false), (0, qptr qb), (1, .pointer (some ⟨xb, 0, none⟩)), (5, .slice an L.length cn)]) (fun _ => [.row w.heap.size (.slice an L.length cn) 59 1 L.length (L.map fun x : QE => .int .u64 x.1), .rep (fun w => (quA qb cap last ws L K).at_ w F (.bool true)) F true]) ?_ ?_
  · rcases hlok with ⟨rfl, rfl, rfl⟩ | ⟨e0, rest, hLe, rfl, rfl⟩
    · repeat (first | refine S_nil ?_ | refine S_pure tabOk rfl ?_ | refine S_pass rfl rfl rfl ?_)
      exact ⟨(), trivial, by repeat (first | exact Sub.nil | refine Sub.cons rfl ?_), fun w' hw => hw⟩
    · have h0 : L[0]? = some e0 := by rw [hLe]; rfl
      have hpos : 0 < L.length := by rw [hLe]; simp
      obtain ⟨ab, off, a0, c0, ea, hz, hce⟩ := item_far hx h0
      repeat (first | refine S_pure tabOk rfl ?_)
      refine S_load1 tabOk (v := .slice (some ⟨ab, off, none⟩) L.length cl) rfl rfl (fun w' hw => by
        rw [← ea]
        exact (hx.far hw (by repeat (first | exact far_nil | refine far_rep (by assumption) ?_ | refine far_rowH hw 0 rfl ?_))).cell0 (j := 2) rfl) ?_
      skip
      refine S_q (Q_idx (sz := 3) tabOk rfl rfl rfl rfl rfl rfl rfl (j := 0) rfl hpos) ?_
      repeat (first | refine S_pure tabOk rfl ?_)
      refine S_load1 tabOk (v := .int .u64 e0.1) rfl rfl (fun w' hw => by
        have h9 := hce w' _ hw (by repeat (first | exact far_nil | refine far_rep (by assumption) ?_ | refine far_rowH hw 0 rfl ?_)) 0 _ rfl
        exact h9) ?_
      repeat (first | refine S_pure tabOk rfl ?_)
      refine S_re 63 (v' := .bool false) rfl (congrArg Value.bool (decide_eq_false (fun h => h rfl))) ?_
      repeat (first | refine S_nil ?_ | refine S_pure tabOk rfl ?_ | refine S_pass rfl rfl rfl ?_)
      exact ⟨(), trivial, by repeat (first | exact Sub.nil | refine Sub.cons rfl ?_), fun w' hw => hw⟩
  rintro _ _
  refine T_cond_f rfl ?_
  repeat (first | refine T_seq ?_ | refine T_region ?_ | refine S_nil ?_ | refine pthen_normal ?_ | refine T_skip ?_ | refine S_pure tabOk rfl ?_)
  let O1 : OL := [.row w.heap.size (.slice an L.length cn) 59 1 L.length (L.map fun x : QE => .int .u64 x.1), .rep (fun w => (quA qb cap last ws L K).at_ w F (.bool true)) F true]
  refine T_cut (ι := Unit) (fun _ => True) (fun _ => [(0, qptr qb), (1, .pointer (some ⟨xb, 0, none⟩))]) (fun _ => O1) ?_ ?_
  · refine T_block ?_
    refine T_loop (ι := Nat) (fun i => [(0, qptr qb), (1, .pointer (some ⟨xb, 0, none⟩)), (71, .slice an L.length cn), (72, .int .i64 (L.length : Int)), (73, .int .i64 (i : Int))]) (fun _ => O1) (fun i => i ≤ L.length) (fun i => L.length - i) 0 (Nat.zero_le _) (by repeat (first | exact Sub.nil | refine Sub.cons rfl ?_)) (fun w' hw => hw) ?_
    intro i hi
    dsimp only [O1]
    repeat (first | refine T_seq ?_ | refine T_region ?_ | refine S_nil ?_ | refine S_pure tabOk rfl ?_)
    refine T_cond_dec rfl (fun hlt => ?_) (fun hge => ?_)
    rotate_left
    · repeat (first | refine pthen_normal ?_ | refine inb_hit ?_ | refine pthen_exit ?_ | refine T_exit ?_)
      exact ⟨(), trivial, by repeat (first | exact Sub.nil | refine Sub.cons rfl ?_), fun w' hw => hw⟩
    obtain ⟨gn, rfl⟩ := hcn (by omega)
    obtain ⟨x, hxi⟩ : ∃ x, L[i]? = some x := ⟨_, List.getElem?_eq_getElem (by omega)⟩
    have hgx := qGot_mem hok.nodup (List.mem_of_getElem? hxi)
    obtain ⟨ab, off, a0, c0, ea, hz, hce⟩ := item_far hx hxi
    have hfit : ∀ z ∈ x.2.2, Fits .u8 z := hz.ints.fits
    repeat (first | refine T_seq ?_ | refine T_region ?_ | refine T_block ?_ | refine pthen_normal ?_ | refine T_skip ?_ | refine S_pure tabOk rfl ?_)
    refine S_q (Q_idx1 tabOk rfl rfl rfl rfl rfl rfl rfl (j := i) rfl (by omega)) ?_
    refine S_load1 tabOk (v := .int .u64 x.1) rfl rfl (fun w' hw => by
      rw [Nat.zero_add]
      exact own_cell (hw.own _ (getE_mem (i := 0) rfl)) (by omega) (by rw [List.getElem?_map, hxi]; rfl)) ?_
    repeat (first | refine T_seq ?_ | refine T_region ?_ | refine S_nil ?_ | refine S_pure tabOk rfl ?_)
    refine S_call rfl Try.call30 (fun w1 g => ?_)
    have hd := q_get (g.own _ (getE_mem (i := 1) rfl)).1 hok x.1
    rw [hgx] at hd
    refine hd.mono fun e w' ⟨a6, c6, e1, hb, hr⟩ => ⟨_, _, e1, g.fresh hb (x := .row w.heap.size (.slice a6 x.2.2.length c6) 5 1 x.2.2.length (x.2.2.map (.int .u8))) (own_rebase hr g.size) (fun j hj => (World.ownsRow.lt hr j hj).1), ?_⟩
    clear g hd
    dsimp only
    repeat (first | refine S_pure tabOk rfl ?_)
    refine S_new tabOk rfl (fun b10 hb10 => ?_)
    repeat (first | refine T_draw (by kernel_rfl) (by kernel_rfl) ?_ | refine D_pure tabOk rfl ?_ | refine T_seq ?_ | refine S_nil ?_ | refine S_pure tabOk rfl ?_ | refine S_store tabOk 0 rfl rfl rfl rfl rfl rfl ?_)
    refine D_load1 tabOk (v := .slice (some ⟨ab, off, none⟩) L.length cl) rfl rfl (fun w' hw => by
      rw [← ea]
      exact (hx.far hw (by repeat (first | exact far_nil | refine far_new (by first | assumption | omega) ?_ | refine far_rep (by assumption) ?_ | refine far_rowH hw 1 rfl ?_ | refine far_rowH hw 2 rfl ?_))).cell0 (j := 2) rfl) ?_
    repeat (first | refine D_pure tabOk rfl ?_)
    refine D_q (Q_idx (sz := 3) tabOk rfl rfl rfl rfl rfl rfl rfl (j := i) rfl (by omega)) ?_
    repeat (first | refine D_pure tabOk rfl ?_)
    refine D_load1 tabOk (v := .int .u64 x.1) rfl rfl (fun w' hw => by
      have h9 := hce w' _ hw (by repeat (first | exact far_nil | refine far_new (by first | assumption | omega) ?_ | refine far_rep (by assumption) ?_ | refine far_rowH hw 1 rfl ?_ | refine far_rowH hw 2 rfl ?_)) 0 _ rfl
      exact h9) ?_
    repeat (first | refine D_pure tabOk rfl ?_)
    refine D_re 94 (v' := .bool false) rfl (congrArg Value.bool (decide_eq_false (fun h => h rfl))) ?_
    repeat (first | refine D_pure tabOk rfl ?_ | refine D_load tabOk 0 rfl rfl rfl ?_)
    refine D_load1 tabOk (v := .slice (some ⟨ab, off, none⟩) L.length cl) rfl rfl (fun w' hw => by
      rw [← ea]
      exact (hx.far hw (by repeat (first | exact far_nil | refine far_new (by first | assumption | omega) ?_ | refine far_rep (by assumption) ?_ | refine far_rowH hw 1 rfl ?_ | refine far_rowH hw 2 rfl ?_))).cell0 (j := 2) rfl) ?_
    repeat (first | refine D_pure tabOk rfl ?_)
    refine D_q (Q_idx (sz := 3) tabOk rfl rfl rfl rfl rfl rfl rfl (j := i) rfl (by omega)) ?_
    repeat (first | refine D_pure tabOk rfl ?_)
    refine D_loadN tabOk (vs := [.int .i64 x.2.1, .slice a0 x.2.2.length c0]) rfl rfl rfl (fun w' hw jj u hu => by
      rw [Addr.add_lit, show off + i * 3 + 1 + jj = off + i * 3 + (jj + 1) by omega]
      exact hce w' _ hw (by repeat (first | exact far_nil | refine far_new (by first | assumption | omega) ?_ | refine far_rep (by assumption) ?_ | refine far_rowH hw 1 rfl ?_ | refine far_rowH hw 2 rfl ?_)) (jj + 1) u (by rw [List.getElem?_cons_succ]; exact hu)) ?_
    skip
    refine D_callx (v := .bool true) rfl Try.call59 (fun w' vs hw' h => by
      obtain ⟨u1, _, rfl, rfl, u2, _, rfl, rfl, rfl⟩ := h
      have h8 := rfsame_ok x.2.1 x.2.1 a6 a0 x.2.2.length c6 x.2.2.length c0 x.2.2 x.2.2 w' (ints_own (hw'.own _ (getE_mem (i := 1) rfl)) hfit) (hz.far hw' (far_imp (by repeat (first | exact far_nil | refine far_new (by first | assumption | omega) ?_ | refine far_rep (by assumption) ?_ | refine far_rowH hw' 1 rfl ?_ | refine far_rowH hw' 2 rfl ?_)))).ints
      rw [decide_eq_true (⟨rfl, rfl⟩ : x.2.1 = x.2.1 ∧ x.2.2 = x.2.2)] at h8
      exact h8) ?_
    repeat (first | refine D_all rfl ?_ | refine D_pure tabOk rfl ?_)
    refine T_cond_f rfl ?_
    repeat (first | refine T_region ?_ | refine S_nil ?_ | refine pthen_normal ?_ | refine inb_normal ?_ | refine T_skip ?_ | refine S_i64 tabOk rfl (by omega) ?_ | refine S_pure tabOk rfl ?_)
    exact ⟨i + 1, by omega, by repeat (first | exact Sub.nil | refine Sub.cons rfl ?_), fun w' hw => hw.less (by repeat (first | exact Less.nil | refine Less.keep ?_ | refine Less.dropB (by first | assumption | omega) ?_ | refine Less.dropW (Nat.le_refl _) ?_)), by omega⟩
  rintro _ _
  dsimp only [O1]
  clear O1
  repeat (first | refine T_seq ?_ | refine T_region ?_ | refine S_nil ?_ | refine S_pure tabOk rfl ?_)
  refine T_cut (ι := Unit) (fun _ => True) (fun _ => []) (fun _ => [.rep (fun w => (quA qb cap last ws L K).at_ w F (.bool true)) F true]) ?_ ?_
  · refine T_block ?_
    refine T_loop (ι := Nat) (fun i => [(0, qptr qb), (1, .pointer (some ⟨xb, 0, none⟩)), (112, .int .i64 (i : Int))]) (fun _ => [.rep (fun w => (quA qb cap last ws L K).at_ w F (.bool true)) F true]) (fun i => i ≤ 9) (fun i => 9 - i) 0 (Nat.zero_le _) (by repeat (first | exact Sub.nil | refine Sub.cons rfl ?_)) (fun w' hw => hw.less (by repeat (first | exact Less.nil | refine Less.keep ?_ | refine Less.dropW (Nat.le_refl _) ?_))) ?_
    intro i hi
    repeat (first | refine T_seq ?_ | refine T_region ?_ | refine S_nil ?_ | refine S_pure tabOk rfl ?_)
    refine T_cond_dec rfl (fun hlt => ?_) (fun hge => ?_)
    rotate_left
    · repeat (first | refine pthen_normal ?_ | refine inb_hit ?_ | refine pthen_exit ?_ | refine T_exit ?_)
      exact ⟨(), trivial, by repeat (first | exact Sub.nil), fun w' hw => hw⟩
    repeat (first | refine T_seq ?_ | refine T_region ?_ | refine T_block ?_ | refine S_nil ?_ | refine pthen_normal ?_ | refine T_skip ?_ | refine S_pure tabOk rfl ?_)
    refine S_callq (v := .int .i64 (rBy L (i : Int))) rfl Try.call42 (fun w1 g => by
      have h8 := q_class (g.own _ (getE_mem (i := 0) rfl)).1 (i : Int)
      rw [rBy_class hok] at h8
      exact h8) ?_
    repeat (first | refine S_pure tabOk rfl ?_)
    refine S_callq (v := .int .i64 (rBy L (i : Int))) rfl Try.call63 (fun w1 g => rbytes9_ok (hx.far g (by repeat (first | exact far_nil | refine far_rep (by assumption) ?_))) hl4 (by omega) (i : Int)) ?_
    repeat (first | refine S_nil ?_ | refine S_pure tabOk rfl ?_)
    refine T_cond_dec rfl (fun h => absurd rfl h) (fun _ => ?_)
    repeat (first | refine T_region ?_ | refine S_nil ?_ | refine pthen_normal ?_ | refine inb_normal ?_ | refine T_skip ?_ | refine S_i64 tabOk rfl (by omega) ?_ | refine S_pure tabOk rfl ?_)
    exact ⟨i + 1, by omega, by repeat (first | exact Sub.nil | refine Sub.cons rfl ?_), fun w' hw => hw, by omega⟩
  rintro _ _
  repeat (first | refine T_seq ?_ | refine T_region ?_ | refine S_nil ?_ | refine T_ret ?_ | refine S_pure tabOk rfl ?_)
  exact ret1 rfl rfl (fun w' hw => ⟨rfl, hw⟩)
end

section
variable {γ : Type} {P : Program} {n : Nat} {w0 : World} {all : Array Oper} {o : Oper} {dl : DL} {ol : OL} {o2 : Value × γ → OL}
/-- A call whose answer is known. -/
theorem OpA.callK {d : Nat} {f : FuncId} {Es : List Ent} {v0 : Value} (hs : callD? n all dl o = some (d, f, Es)) (hcall : ∀ args w, (callFunc f args).run P w = .ok (.enter f args) w)
    (hc : ∀ w vs, Hp w0 w ol → EntsAt Es vs w → Calls P f vs.toArray w (fun e w' => ∃ g, e = .returned v0 ∧ Hp w0 w' (o2 (v0, g)))) : OpA P n w0 all ol o2 dl o (some v0) := by
  unfold callD? at hs
  split at hs
  · rename_i hg
    split at hs
    · rename_i d' hd
      split at hs
      · rename_i hb
        split at hs
        · rename_i f' as_ ts hop
          split at hs
          · rename_i Es' hEs
            simp at hs
            obtain ⟨rfl, rfl, rfl⟩ := hs
            refine ⟨fun a w h1 h2 h3 h4 => ?_, fun d hd' => ?_⟩
            · have hw := gd_wanted (rs_rd h4) hg
              refine ⟨fun _ => ?_, (fun hn => by rw [hw] at hn; cases hn)⟩
              have hent : EntsAt Es' (as_.toList.map a.eval) w := argsD_at hEs fun t ht => h4 t (by
                unfold Oper.looksAt
                refine List.mem_append_left _ (List.mem_filterMap.2 ⟨.tmp t, ?_, rfl⟩)
                rw [hop]
                simp [Op.operands, Call.operands]
                simpa using ht)
              have hm : as_.map a.eval = (as_.toList.map a.eval).toArray := by
                apply Array.ext'
                simp
              have hr : (execOp a.eval o).run P w = .ok (.enter f' (as_.toList.map a.eval).toArray) w := by
                unfold execOp
                simp [hop, resolve, Act.eval, Deferred.ofValue, invoke, hcall, hm]
              simp only [Oper.wp, hr, Oper.upon]
              refine (hc w _ h3 hent).mono ?_
              rintro e w' ⟨g, rfl, hv⟩
              exact ⟨(v0, g), (fun u h => by cases h; rfl), rfl, hv⟩
            · rw [hd] at hd'; cases hd'; simpa [Nat.blt_eq] using hb
          · cases hs
        · cases hs
      · cases hs
    · cases hs
  · cases hs
end
theorem rq_last {xb : Nat} {cap last : Int} {ws : List Int} {L : List QE} {w : World} {F : Nat → Prop} (h : (rqA xb cap last ws L).at_ w F (.bool true)) : w.cell? ⟨xb, 3, none⟩ = some (.int .u64 last) := by
  obtain ⟨_, _, _, _, hS, _⟩ := h
  unfold World.cell?
  rw [hS.x]
  rfl
theorem qPut_ok2 {cap last : Int} {ws : List Int} {L : List QE} (h : QOk cap last ws L) (hl0 : 0 ≤ last) {n k : Int} {zs : List Int} (hn : n ≤ 18446744073709551615) : QOk cap (qPut cap last ws L n k zs).2.1 ws (qPut cap last ws L n k zs).2.2 ∧ 0 ≤ (qPut cap last ws L n k zs).2.1 ∧ (qPut cap last ws L n k zs).2.2.length ≤ L.length + 1 ∧ ((qPut cap last ws L n k zs).2.1 = last ∨ (qPut cap last ws L n k zs).2.1 = n) := by
  unfold qPut
  split
  · rename_i ht
    unfold sright at ht
    simp only [Bool.and_eq_true, decide_eq_true_eq] at ht
    obtain ⟨⟨hk0, hk8, hz4⟩, hkw⟩ := ht
    split
    · exact ⟨h, hl0, Nat.le_succ _, .inl rfl⟩
    · split
      · exact ⟨h, hl0, Nat.le_succ _, .inl rfl⟩
      · have h1 : QOk cap n ws (L ++ [(n, k, zs)]) := h.snoc (by omega) hl0 hn ⟨hk0, hkw, hk8, hz4⟩
        exact ⟨h1, by show 0 ≤ n; omega, by simp, .inr rfl⟩
  · exact ⟨h, hl0, Nat.le_succ _, .inl rfl⟩
theorem VicP.uniq {cap : Int} {ws : List Int} {L : List QE} {k : Int} {n : Nat} {o o2 : List Int × Bool} {E E2 : Int} (h : VicP cap ws L k n o E) (h2 : VicP cap ws L k n o2 E2) : o = o2 ∧ E = E2 := by
  unfold VicP at h h2
  split at h
  · rw [if_pos (by assumption)] at h2
    split at h
    · rw [if_pos (by assumption)] at h2
      exact ⟨h.1.trans h2.1.symm, h.2.trans h2.2.symm⟩
    · rw [if_neg (by assumption)] at h2
      obtain ⟨e1, pl, hp, e2⟩ := h
      obtain ⟨e3, pl2, hp2, e4⟩ := h2
      exact ⟨by rw [e2, e4, hp.uniq hp2], e1.trans e3.symm⟩
  · rw [if_neg (by assumption)] at h2
    exact ⟨h.1.trans h2.1.symm, h.2.trans h2.2.symm⟩
/-- what an act leaves -/
def DoT (qb xb : Nat) (cap last : Int) (ws : List Int) (L : List QE) (K : Nat) (F G : Nat → Prop) (w w' : World) : Prop :=
  ∃ last' L' K' F' G', QOk cap last' ws L' ∧ 0 ≤ last' ∧ K' ≤ K + 1 ∧ (last' ≤ last + 1 ∨ last' < 1099511627776) ∧ L'.length ≤ L.length + 1 ∧ (∀ k, F' k → F k ∨ w.heap.size ≤ k) ∧ (∀ k, G' k → G k ∨ w.heap.size ≤ k) ∧
    Hp w w' [.rep (fun w => (quA qb cap last' ws L' K').at_ w F' (.bool true)) F' true, .rep (fun w => (rqA xb cap last' ws L').at_ w G' (.bool true)) G' true]
section
variable {qb xb : Nat} {cap last : Int} {ws : List Int} {L : List QE} {K : Nat} {w : World} {F G : Nat → Prop}
set_option maxHeartbeats 16000000 in
theorem do9_ok (hq : (quA qb cap last ws L K).at_ w F (.bool true)) (hF : ∀ k, F k → k < w.heap.size) (hx : (rqA xb cap last ws L).at_ w G (.bool true)) (hG : ∀ k, G k → k < w.heap.size) (hd : ∀ k, F k → ¬ G k) (hok : QOk cap last ws L) (hl0 : 0 ≤ last) (hlast : last ≤ 2199023255552) (hlen : L.length ≤ 1000) (hK : K ≤ 1000) (hrw : rightW ws) (hcap : 0 ≤ cap ∧ cap ≤ 1099511627776)
    {d n k : Int} {a : Option Addr} {m c : Nat} {zs : List Int} {B : Nat → Prop} (hd8 : 0 ≤ d ∧ d ≤ 255) (hn : 0 ≤ n ∧ n ≤ 18446744073709551615) (hz : SlR (Rint .u8) w B a m c zs) (hBF : ∀ k, F k → w.heap.size ≤ k ∨ ¬ B k) (hBG : ∀ k, G k → w.heap.size ≤ k ∨ ¬ B k) :
    Calls Try.prog 38 #[qptr qb, .pointer (some ⟨xb, 0, none⟩), .agg #[.int .u8 d, .int .u64 n, .int .i64 k, .slice a m c]] w fun e w' => e = .returned (.bool true) ∧ DoT qb xb cap last ws L K F G w w' := by
  obtain rfl := hz.len
  have hws := hrw.2.1
  have hz0 := hz.ints.fits
  obtain ⟨zt, hzt⟩ : ∃ z, z = zs.take 60 := ⟨_, rfl⟩
  have hzl : zt.length ≤ 60 := by rw [hzt, List.length_take]; omega
  have hzf : ∀ z ∈ zt, Fits .u8 z := fun z hz' => hz0 z (by rw [hzt] at hz'; exact List.mem_of_mem_take hz')
  have st1 := (Hp.refl w).more (x := .rep (fun w => (rqA xb cap last ws L).at_ w G (.bool true)) G true) ⟨hx, Vp.loc (p := rqA xb cap last ws L), hG⟩ (fun e he => by cases he)
  have st2 := st1.more (x := .rep (fun w => (quA qb cap last ws L K).at_ w F (.bool true)) F true) ⟨hq, Vp.loc (p := quA qb cap last ws L K), hF⟩ (fun e he hr k hk hk2 => by
    rw [List.mem_singleton] at he
    subst he
    exact hd k hk hk2)
  refine enter3 Try.func38 rfl rfl st2 ?_
  clear st1 st2
  repeat (first | refine T_seq ?_ | refine T_region ?_)
  refine S_new tabOk rfl (fun b5 hb5 => ?_)
  repeat (first | refine T_seq ?_ | refine S_nil ?_ | refine S_pure tabOk rfl ?_)
  let lst : Bool → Bool → Bool → Value → (Option Addr × Nat) → OL := fun l2 l7 l9 v2 g2 =>
    .blk b5 (.cells ⟨[.int .u8 d, .int .u64 (cond l9 (n % 1099511627776) n), .int .i64 k, cond l7 (.slice g2.1 zt.length g2.2) (.slice a zs.length c)]⟩ 82 (0, 0)) true :: .rep (fun w => (quA qb cap last ws L K).at_ w F (.bool true)) F true :: .rep (fun w => (rqA xb cap last ws L).at_ w G (.bool true)) G true :: (cond l2 [.row w.heap.size (.slice g2.1 zt.length g2.2) 5 1 zt.length (zt.map (.int .u8)), factE (v2 = .agg ⟨[.int .i64 k, .slice g2.1 zt.length g2.2]⟩)] [])
  refine T_asThen ?_
  refine T_drawF (γ := Option Addr × Nat) (by kernel_rfl) (by kernel_rfl) (none, 0) (fun Ld f => lst (Ld 2) (Ld 7) (Ld 9) (f 2).1 (f 2).2) rfl [some (.pointer (some ⟨b5, 2, none⟩)), some (.agg ⟨[.int .i64 k, .slice a zs.length c]⟩), none, some (.pointer (some ⟨b5, 1, none⟩)), some (.int .u64 n), some (.int .u64 (n % 1099511627776)), some (.pointer (some ⟨b5, 2, none⟩)), some (undef), some (.pointer (some ⟨b5, 1, none⟩)), some (undef)] ?_ ?_
  · refine ⟨?_, ?_, ?_, ?_, ?_, ?_, ?_, ?_, ?_, ?_, trivial⟩
    · exact fun Ld f hc hl hp => OpA.told (none, 0) rfl (D_pure tabOk rfl D_last) rfl
    · intro Ld f hc hl hp
      have h2 := closed_no hc (j := 2) rfl ⟨1, .data⟩ (by simp) rfl hl
      have h7 := closed_no hc (j := 7) rfl ⟨1, .phase⟩ (by simp) rfl hl
      have h9 := closed_no hc (j := 9) rfl ⟨1, .phase⟩ (by simp) rfl hl
      show OpA _ _ _ _ (lst (Ld 2) (Ld 7) (Ld 9) (f 2).1 (f 2).2) (fun y => lst (Ld 2) (Ld 7) (Ld 9) (f 2).1 (f 2).2) _ _ _
      rw [h2, h7, h9]
      exact OpA.told (none, 0) rfl (D_load tabOk 0 rfl rfl rfl D_last) rfl
    · intro Ld f hc hl hp
      have h7 := closed_no hc (j := 7) rfl ⟨2, .data⟩ (by simp) rfl hl
      have h9 := closed_no hc (j := 9) rfl ⟨2, .phase⟩ (by simp) rfl hl
      show OpA _ _ _ _ (lst (Ld 2) (Ld 7) (Ld 9) (f 2).1 (f 2).2) (fun y => lst true (Ld 7) (Ld 9) y.1 y.2) _ _ _
      rw [hl, h7, h9]
      refine OpA.call rfl Try.call28 (fun w1 vs1 hw1 h => ?_)
      obtain ⟨u1, _, rfl, rfl, rfl⟩ := h
      refine (few9_ok k a zs.length c zs w1 (hz.far hw1 (by repeat (first | exact far_nil | refine far_new (by first | assumption | omega) ?_ | refine far_rep (by assumption) ?_))).ints).mono fun e w' ⟨a3, c3, e1, hb, hr⟩ => ?_
      rw [← hzt] at e1 hr
      have h9 := ((hw1.fresh hb (x := .row w.heap.size (.slice a3 zt.length c3) 5 1 zt.length (zt.map (.int .u8))) (own_rebase hr hw1.size) (fun j hj => (World.ownsRow.lt hr j hj).1)).addF (p := (Value.agg ⟨[.int .i64 k, .slice a3 zt.length c3]⟩ = .agg ⟨[.int .i64 k, .slice a3 zt.length c3]⟩)) rfl).pm [2, 3, 4, 1, 0] rfl rfl rfl
      exact ⟨_, (a3, c3), e1, h9⟩
    · exact fun Ld f hc hl hp => OpA.told (none, 0) rfl (D_pure tabOk rfl D_last) rfl
    · intro Ld f hc hl hp
      have h7 := closed_no hc (j := 7) rfl ⟨4, .phase⟩ (by simp) rfl hl
      have h9 := closed_no hc (j := 9) rfl ⟨4, .phase⟩ (by simp) rfl hl
      show OpA _ _ _ _ (lst (Ld 2) (Ld 7) (Ld 9) (f 2).1 (f 2).2) (fun y => lst (Ld 2) (Ld 7) (Ld 9) (f 2).1 (f 2).2) _ _ _
      rw [h7, h9]
      exact OpA.told (none, 0) rfl (D_load tabOk 0 rfl rfl rfl D_last) rfl
    · exact fun Ld f hc hl hp => OpA.told (none, 0) rfl (D_q (Q_rem0 rfl rfl rfl (by decide) hn.1) D_last) rfl
    · exact fun Ld f hc hl hp => OpA.told (none, 0) rfl (D_pure tabOk rfl D_last) rfl
    · intro Ld f hc hl hp
      have h2 : Ld 2 = true := hp ⟨2, .data⟩ (by simp) rfl
      have h9 := closed_no hc (j := 9) rfl ⟨7, .chain⟩ (by simp) rfl hl
      show OpA _ _ _ _ (lst (Ld 2) (Ld 7) (Ld 9) (f 2).1 (f 2).2) (fun y => lst (Ld 2) true (Ld 9) (f 2).1 (f 2).2) _ _ _
      rw [hl, h2, h9]
      refine OpA.pre (X := (f 2).1 = .agg ⟨[.int .i64 k, .slice (f 2).2.1 zt.length (f 2).2.2]⟩) (fun w hw => hw.fact 4 rfl) (fun d h => by cases h) (fun e2 => ?_)
      refine OpA.swap (dl' := [(27, .ex (.pointer (some ⟨b5, 2, none⟩))), (23, .ex (.agg ⟨[.int .i64 k, .slice (f 2).2.1 zt.length (f 2).2.2]⟩))]) (List.forall_mem_cons.2 ⟨rfl, List.forall_mem_cons.2 ⟨congrArg (fun v => some (Ent.ex v)) e2, fun _ h => nomatch h⟩⟩) ?_
      exact OpS.toF (none, 0) (fun u h => by cases h; rfl) (OpS.store tabOk 0 rfl rfl (fun u h => by simp only [List.mem_cons, List.not_mem_nil, or_false] at h; rcases h with rfl | rfl <;> rfl) rfl rfl rfl)
    · exact fun Ld f hc hl hp => OpA.told (none, 0) rfl (D_pure tabOk rfl D_last) rfl
    · intro Ld f hc hl hp
      have h2 : Ld 2 = true := hp ⟨2, .phase⟩ (by simp) rfl
      have h7 : Ld 7 = true := hp ⟨7, .chain⟩ (by simp) rfl
      show OpA _ _ _ _ (lst (Ld 2) (Ld 7) (Ld 9) (f 2).1 (f 2).2) (fun y => lst (Ld 2) (Ld 7) true (f 2).1 (f 2).2) _ _ _
      rw [hl, h2, h7]
      exact OpS.toF (none, 0) (fun u h => by cases h; rfl) (OpS.store tabOk 0 rfl rfl (fun u h => by rw [List.mem_singleton] at h; subst h; rfl) rfl rfl rfl)
  · intro Lf f w6 hL6 hw6
    change Hp _ _ (lst (Lf 2) (Lf 7) (Lf 9) (f 2).1 (f 2).2) at hw6
    rw [hL6 2 (by decide), hL6 7 (by decide), hL6 9 (by decide)] at hw6
    obtain ⟨⟨a3, c3⟩, hg⟩ : ∃ y : Option Addr × Nat, y = (f 2).2 := ⟨_, rfl⟩
    have h9 := hw6.pm [0, 1, 2, 3, 4] rfl rfl rfl
    rw [← hg] at h9
    dsimp only at h9
    refine ⟨[(0, qptr qb), (1, .pointer (some ⟨xb, 0, none⟩)), (5, .pointer (some ⟨b5, 0, none⟩))], [.blk b5 (.cells ⟨[.int .u8 d, .int .u64 (n % 1099511627776), .int .i64 k, .slice a3 zt.length c3]⟩ 82 (0, 0)) true, .rep (fun w => (quA qb cap last ws L K).at_ w F (.bool true)) F true, .rep (fun w => (rqA xb cap last ws L).at_ w G (.bool true)) G true, .row w.heap.size (.slice a3 zt.length c3) 5 1 zt.length (zt.map (.int .u8))], (by repeat (first | exact SubD.nil | refine SubD.cons rfl ?_)), h9.less (by repeat (first | exact Less.nil | refine Less.keep ?_ | refine Less.dropR ?_)), ?_⟩
    clear h9 hw6 hL6 hg lst
    have hn2 : 0 ≤ n % 1099511627776 ∧ n % 1099511627776 < 1099511627776 := by omega
    clear hn
    generalize n % 1099511627776 = n at *
    repeat (first | refine T_seq ?_ | refine T_region ?_ | refine pthen_normal ?_ | refine S_pure tabOk rfl ?_ | refine S_load tabOk 0 rfl rfl rfl ?_)
    refine S_q (Q_rem0 rfl rfl rfl (by decide) hd8.1) ?_
    repeat (first | refine T_seq ?_ | refine T_region ?_ | refine T_block ?_ | refine S_nil ?_ | refine S_pure tabOk rfl ?_)
    refine T_cond_dec rfl (fun h3 => ?_) (fun h3 => ?_)
    · repeat (first | refine T_seq ?_ | refine T_region ?_ | refine S_pure tabOk rfl ?_ | refine S_load tabOk 0 rfl rfl rfl ?_)
      refine S_callTR 1 rfl Try.call36 rfl (fun w1 g => ?_)
      refine (q_drop (g.own _ (getE_mem (i := 1) rfl)).1 (g.own _ (getE_mem (i := 1) rfl)).2.2 hok (by omega) n).mono fun e w' ⟨a5, c5, e1, h5⟩ => ⟨_, _, F, _, _, _, _, _, e1, h5, fun _ h => h, fun _ h => .inl h, _, rfl, ?_⟩
      clear g
      repeat (first | refine S_pure tabOk rfl ?_)
      refine S_new tabOk rfl (fun b7 hb7 => ?_)
      repeat (first | refine T_seq ?_ | refine T_region ?_ | refine S_nil ?_ | refine S_pure tabOk rfl ?_ | refine S_load tabOk 2 rfl rfl rfl ?_ | refine S_store tabOk 0 rfl rfl rfl rfl rfl rfl ?_)
      refine S_callT 4 rfl Try.call58 rfl (fun w1 g => ?_)
      have hs1 := g.size
      refine (rdrop9_ok (g.own _ (getE_mem (i := 4) rfl)).1 (g.own _ (getE_mem (i := 4) rfl)).2.2 hok (by omega) n).mono fun e w' ⟨a6, c6, e1, G1, g1, g2, h5⟩ => ⟨_, _, G1, e1, h5, g1, g2, _, rfl, ?_⟩
      clear g
      repeat (first | refine S_pure tabOk rfl ?_)
      refine S_new tabOk rfl (fun b9 hb9 => ?_)
      repeat (first | refine T_seq ?_ | refine T_region ?_ | refine S_nil ?_ | refine S_pure tabOk rfl ?_ | refine S_store tabOk 0 rfl rfl rfl rfl rfl rfl ?_)
      refine S_re 51 (v' := .bool true) rfl (congrArg Value.bool (decide_eq_true rfl)) ?_
      repeat (first | refine S_load tabOk 0 rfl rfl rfl ?_ | refine S_load tabOk 1 rfl rfl rfl ?_)
      refine S_callq (v := .bool true) rfl Try.call59 (fun w1 g => ?_) ?_
      · have hB := (g.own _ (getE_mem (i := 5) rfl)).1.2.ints
        exact (rfsame_ok _ _ _ _ _ _ _ _ _ _ w1 (ints_own (g.own _ (getE_mem (i := 2) rfl)) hB.fits) hB).mono fun e w' ⟨e1, hb⟩ => ⟨by rw [e1, decide_eq_true ⟨rfl, rfl⟩], hb⟩
      repeat (first | refine S_nil ?_ | refine inb_ret ?_ | refine pthen_ret ?_ | refine T_ret ?_ | refine S_pure tabOk rfl ?_)
      exact ret1 rfl rfl (fun w' hw => ⟨rfl, last, qDel L n, K, F, G1, hok.del n, hl0, by omega, .inl (by omega), Nat.le_succ_of_le (qDel_sub L n).length_le, fun k hk => .inl hk, fun k hk => (g2 k hk).imp id (Nat.le_trans hs1),
        ((hw.turnX 5 rfl (Ψ := fun w => (rqA xb cap last ws (qDel L n)).at_ w G1 (.bool true)) (fun h9 => h9.1) Vp.loc rfl).pm [4, 5, 0, 1, 2, 3, 6] rfl rfl rfl).less (by repeat (first | exact Less.nil | refine Less.keep ?_ | refine Less.dropB (by first | assumption | omega) ?_ | refine Less.dropW (Nat.le_refl _) ?_))⟩)
    repeat (first | refine T_seq ?_ | refine T_region ?_ | refine S_nil ?_ | refine S_pure tabOk rfl ?_)
    let O3 : OL := [.blk b5 (.cells ⟨[.int .u8 d, .int .u64 n, .int .i64 k, .slice a3 zt.length c3]⟩ 82 (0, 0)) true, .row w.heap.size (.slice a3 zt.length c3) 5 1 zt.length (zt.map (.int .u8)), .rep (fun w => (quA qb cap last ws L K).at_ w F (.bool true)) F true, .rep (fun w => (rqA xb cap last ws L).at_ w G (.bool true)) G true]
    refine T_cut (ι := Bool) (fun b => b = (decide (d % 6 = 4) || decide (d % 6 = 5))) (fun b => [(56, .bool b), (0, qptr qb), (1, .pointer (some ⟨xb, 0, none⟩)), (5, .pointer (some ⟨b5, 0, none⟩))]) (fun _ => O3) ?_ ?_
    · refine T_cond_dec rfl (fun h4 => ?_) (fun h4 => ?_)
      · repeat (first | refine pthen_normal ?_ | refine T_skip ?_)
        exact ⟨true, by rw [decide_eq_true h4]; rfl, by rw [decide_eq_true h4]; repeat (first | exact Sub.nil | refine Sub.cons rfl ?_), fun w' hw => hw.pm [0, 3, 1, 2] rfl rfl rfl⟩
      · repeat (first | refine T_region ?_ | refine S_nil ?_ | refine S_pure tabOk rfl ?_)
        exact ⟨decide (d % 6 = 5), by rw [decide_eq_false h4]; rfl, by repeat (first | exact Sub.nil | refine Sub.cons rfl ?_), fun w' hw => hw.pm [0, 3, 1, 2] rfl rfl rfl⟩
    intro b hb
    dsimp only [O3]
    obtain ⟨tk, htk⟩ : ∃ tk, tk = (sright k zt.length && decide (k < (ws.length : Int))) := ⟨_, rfl⟩
    cases b with
    | false =>
      refine T_cond_f rfl ?_
      repeat (first | refine T_seq ?_ | refine pthen_normal ?_ | refine inb_normal ?_ | refine T_skip ?_)
      obtain ⟨⟨E, last2, L2⟩, hqp⟩ : ∃ y, y = qPut cap last ws L n k zt := ⟨_, rfl⟩
      have hqp := hqp.symm
      have htk := htk.symm
      let lst : Bool → Bool → (Nat → Prop) → (Nat → Prop) → OL := fun l5 l11 g5 g11 =>
        .blk b5 (.cells ⟨[.int .u8 d, .int .u64 n, .int .i64 k, .slice a3 zt.length c3]⟩ 82 (0, 0)) true :: .row w.heap.size (.slice a3 zt.length c3) 5 1 zt.length (zt.map (.int .u8)) :: .rep (fun w => (quA qb cap (cond l5 last2 last) ws (cond l5 L2 L) (cond l5 (K + 1) K)).at_ w (cond l5 g5 F) (.bool true)) (cond l5 g5 F) true :: .rep (fun w => (rqA xb cap (cond l11 last2 last) ws (cond l11 L2 L)).at_ w (cond l11 g11 G) (.bool true)) (cond l11 g11 G) true :: (cond l5 [factE ((∀ k, F k → g5 k) ∧ ∀ k, g5 k → F k ∨ w.heap.size ≤ k)] [] ++ (cond l11 [factE ((∀ k, G k → g11 k) ∧ ∀ k, g11 k → G k ∨ w.heap.size ≤ k)] []))
      refine T_asThen ?_
      refine T_drawF (γ := Nat → Prop) (by kernel_rfl) (by kernel_rfl) F (fun Ld f => lst (Ld 5) (Ld 11) (f 5).2 (f 11).2) rfl [some (qptr qb), some (.pointer (some ⟨b5, 1, none⟩)), some (.int .u64 n), some (.pointer (some ⟨b5, 2, none⟩)), some (.agg ⟨[.int .i64 k, .slice a3 zt.length c3]⟩), some (.int .i64 E), some (.pointer (some ⟨xb, 0, none⟩)), some (.pointer (some ⟨b5, 1, none⟩)), some (.int .u64 n), some (.pointer (some ⟨b5, 2, none⟩)), some (.agg ⟨[.int .i64 k, .slice a3 zt.length c3]⟩), some (.int .i64 E), some (.bool true), some (.bool true), some (qptr qb), some (.pointer (some ⟨b5, 2, none⟩)), some (.agg ⟨[.int .i64 k, .slice a3 zt.length c3]⟩), some (.bool tk), some (.pointer (some ⟨xb, 0, none⟩)), some (.pointer (some ⟨b5, 2, none⟩)), some (.agg ⟨[.int .i64 k, .slice a3 zt.length c3]⟩), some (.bool tk), some (.bool (tk == tk)), some (.bool (tk == tk)), some (.bool (tk == tk))] ?_ ?_
      · refine ⟨?_, ?_, ?_, ?_, ?_, ?_, ?_, ?_, ?_, ?_, ?_, ?_, ?_, ?_, ?_, ?_, ?_, ?_, ?_, ?_, ?_, ?_, ?_, ?_, ?_, trivial⟩
        · exact fun Ld f hc hl hp => OpA.told F rfl (D_pure tabOk rfl D_last) rfl
        · exact fun Ld f hc hl hp => OpA.told F rfl (D_pure tabOk rfl D_last) rfl
        · exact fun Ld f hc hl hp => OpA.told F rfl (D_load tabOk 0 rfl rfl rfl D_last) rfl
        · exact fun Ld f hc hl hp => OpA.told F rfl (D_pure tabOk rfl D_last) rfl
        · exact fun Ld f hc hl hp => OpA.told F rfl (D_load tabOk 0 rfl rfl rfl D_last) rfl
        · intro Ld f hc hl hp
          have h11 := closed_no hc (j := 11) rfl ⟨5, .chain⟩ (by simp) rfl hl
          show OpA _ _ _ _ (lst (Ld 5) (Ld 11) (f 5).2 (f 11).2) (fun y => lst true (Ld 11) y.2 (f 11).2) _ _ _
          rw [hl, h11]
          refine OpA.callK rfl Try.call27 (fun w1 vs1 hw1 h => ?_)
          obtain ⟨u1, _, rfl, rfl, u2, _, rfl, rfl, u3, _, rfl, rfl, rfl⟩ := h
          have hap := (hw1.pm [1, 2, 0, 3] rfl rfl rfl).apart
          have hA : ∀ j, (Value.slice a3 zt.length c3).ownBlock = some j → ¬ F j := fun j hj hf => (List.pairwise_cons.1 hap).1 _ List.mem_cons_self rfl j hj hf
          have h8 := q_put (n := n) (k := k) (last := last) (L := L) (K := K) (F := F) (hw1.own _ (getE_mem (i := 2) rfl)).1 (hw1.own _ (getE_mem (i := 2) rfl)).2.2 hok (by omega) hws (by omega) hcap hl0 (by omega) (SlR.of_ints (A := fun j => (Value.slice a3 zt.length c3).ownBlock = some j) (ints_own (hw1.own _ (getE_mem (i := 1) rfl)) hzf) (fun b off h0 e => by rw [e]; rfl)) hA
          rw [hqp] at h8
          refine h8.mono fun e w' ⟨he, F', f1, f2, g2⟩ => ⟨F', he, ?_⟩
          have h9 := ((hw1.graftT 2 rfl g2 f1 f2 rfl).addF (p := (∀ k, F k → F' k) ∧ ∀ k, F' k → F k ∨ w.heap.size ≤ k) ⟨f1, fun k hk => (f2 k hk).imp id (Nat.le_trans hw1.size)⟩).pm [1, 2, 3, 4, 0] rfl rfl rfl
          exact h9
        · exact fun Ld f hc hl hp => OpA.told F rfl (D_pure tabOk rfl D_last) rfl
        · exact fun Ld f hc hl hp => OpA.told F rfl (D_pure tabOk rfl D_last) rfl
        · exact fun Ld f hc hl hp => OpA.told F rfl (D_load tabOk 0 rfl rfl rfl D_last) rfl
        · exact fun Ld f hc hl hp => OpA.told F rfl (D_pure tabOk rfl D_last) rfl
        · exact fun Ld f hc hl hp => OpA.told F rfl (D_load tabOk 0 rfl rfl rfl D_last) rfl
        · intro Ld f hc hl hp
          have h5 : Ld 5 = true := hp ⟨5, .chain⟩ (by simp) rfl
          show OpA _ _ _ _ (lst (Ld 5) (Ld 11) (f 5).2 (f 11).2) (fun y => lst (Ld 5) true (f 5).2 y.2) _ _ _
          rw [hl, h5]
          refine OpA.callK rfl Try.call61 (fun w1 vs1 hw1 h => ?_)
          obtain ⟨u1, _, rfl, rfl, u2, _, rfl, rfl, u3, _, rfl, rfl, rfl⟩ := h
          have hap := (hw1.pm [1, 3, 0, 2] rfl rfl rfl).apart
          have hxG : G xb := (hw1.own _ (getE_mem (i := 3) rfl)).1.choose_spec.choose_spec.choose_spec.choose_spec.2
          have hA : ¬ (Value.slice a3 zt.length c3).ownBlock = some xb := fun hj => (List.pairwise_cons.1 hap).1 _ List.mem_cons_self rfl xb hj hxG
          have h8 := rput9_ok (n := n) (k := k) (last := last) (L := L) (F := G) (hw1.own _ (getE_mem (i := 3) rfl)).1 (hw1.own _ (getE_mem (i := 3) rfl)).2.2 hok (by omega) hcap (by omega) (B := fun j => (Value.slice a3 zt.length c3).ownBlock = some j) (SlR.of_ints (ints_own (hw1.own _ (getE_mem (i := 1) rfl)) hzf) (fun b off h0 e => by rw [e]; rfl)) hA
          rw [hqp] at h8
          refine h8.mono fun e w' ⟨he, F', f1, f2, g2⟩ => ⟨F', he, ?_⟩
          have h9 := ((hw1.graftT 3 rfl g2 f1 f2 rfl).addF (p := (∀ k, G k → F' k) ∧ ∀ k, F' k → G k ∨ w.heap.size ≤ k) ⟨f1, fun k hk => (f2 k hk).imp id (Nat.le_trans hw1.size)⟩).pm [1, 2, 3, 4, 5, 0] rfl rfl rfl
          exact h9
        · exact fun Ld f hc hl hp => OpA.told F rfl (D_pure tabOk rfl (D_re 152 (v' := .bool true) rfl (congrArg Value.bool (decide_eq_true rfl)) D_last)) rfl
        · exact fun Ld f hc hl hp => OpA.told F rfl (D_pure tabOk rfl D_last) rfl
        · exact fun Ld f hc hl hp => OpA.told F rfl (D_pure tabOk rfl D_last) rfl
        · exact fun Ld f hc hl hp => OpA.told F rfl (D_pure tabOk rfl D_last) rfl
        · exact fun Ld f hc hl hp => OpA.told F rfl (D_load tabOk 0 rfl rfl rfl D_last) rfl
        · intro Ld f hc hl hp
          have h13 : Ld 13 = true := hp ⟨13, .chain⟩ (by simp) rfl
          have h12 : Ld 12 = true := hc 13 _ rfl h13 ⟨12, .data⟩ (by simp) rfl
          have h5 : Ld 5 = true := hc 12 _ rfl h12 ⟨5, .data⟩ (by simp) rfl
          have h11 : Ld 11 = true := hc 13 _ rfl h13 ⟨11, .chain⟩ (by simp) rfl
          show OpA _ _ _ _ (lst (Ld 5) (Ld 11) (f 5).2 (f 11).2) (fun y => lst (Ld 5) (Ld 11) (f 5).2 (f 11).2) _ _ _
          rw [h5, h11]
          exact OpA.told F rfl (D_callx (v := .bool tk) rfl Try.call34 (fun w' vs hw' h => by
              obtain ⟨u1, _, rfl, rfl, u2, _, rfl, rfl, rfl⟩ := h
              exact (q_takes (hw'.own _ (getE_mem (i := 2) rfl)).1 k a3 zt.length c3).mono fun e w2 ⟨e1, e2⟩ => ⟨by rw [e1, htk], e2⟩) D_last) rfl
        · exact fun Ld f hc hl hp => OpA.told F rfl (D_pure tabOk rfl D_last) rfl
        · exact fun Ld f hc hl hp => OpA.told F rfl (D_pure tabOk rfl D_last) rfl
        · exact fun Ld f hc hl hp => OpA.told F rfl (D_load tabOk 0 rfl rfl rfl D_last) rfl
        · intro Ld f hc hl hp
          have h13 : Ld 13 = true := hp ⟨13, .guard⟩ (by simp) rfl
          have h12 : Ld 12 = true := hc 13 _ rfl h13 ⟨12, .data⟩ (by simp) rfl
          have h5 : Ld 5 = true := hc 12 _ rfl h12 ⟨5, .data⟩ (by simp) rfl
          have h11 : Ld 11 = true := hc 13 _ rfl h13 ⟨11, .chain⟩ (by simp) rfl
          show OpA _ _ _ _ (lst (Ld 5) (Ld 11) (f 5).2 (f 11).2) (fun y => lst (Ld 5) (Ld 11) (f 5).2 (f 11).2) _ _ _
          rw [h5, h11]
          exact OpA.told F rfl (D_callx (v := .bool tk) rfl Try.call62 (fun w' vs hw' h => by
              obtain ⟨u1, _, rfl, rfl, u2, _, rfl, rfl, rfl⟩ := h
              obtain ⟨_, _, _, _, hS9, _⟩ := (hw'.own _ (getE_mem (i := 3) rfl)).1
              exact (rtakes9_ok hS9 k a3 zt.length c3).mono fun e w2 ⟨e1, e2⟩ => ⟨by rw [e1, htk], e2⟩) D_last) rfl
        · exact fun Ld f hc hl hp => OpA.told F rfl (D_q (Q_eqb tabOk rfl rfl rfl rfl rfl) D_last) rfl
        · exact fun Ld f hc hl hp => OpA.told F rfl (D_pure tabOk rfl D_last) rfl
        · exact fun Ld f hc hl hp => OpA.told F rfl (D_pure tabOk rfl D_last) rfl
      · intro Lf f w6 hL6 hw6
        change Hp _ _ (lst (Lf 5) (Lf 11) (f 5).2 (f 11).2) at hw6
        rw [hL6 5 (by decide), hL6 11 (by decide)] at hw6
        obtain ⟨F2, hF2⟩ : ∃ y : Nat → Prop, y = (f 5).2 := ⟨_, rfl⟩
        obtain ⟨G2, hG2⟩ : ∃ y : Nat → Prop, y = (f 11).2 := ⟨_, rfl⟩
        rw [← hF2, ← hG2] at hw6
        have h9 : Hp w w6 [.blk b5 (.cells ⟨[.int .u8 d, .int .u64 n, .int .i64 k, .slice a3 zt.length c3]⟩ 82 (0, 0)) true, .row w.heap.size (.slice a3 zt.length c3) 5 1 zt.length (zt.map (.int .u8)), .rep (fun w => (quA qb cap last2 ws L2 (K + 1)).at_ w F2 (.bool true)) F2 true, .rep (fun w => (rqA xb cap last2 ws L2).at_ w G2 (.bool true)) G2 true, factE ((∀ k, F k → F2 k) ∧ ∀ k, F2 k → F k ∨ w.heap.size ≤ k), factE ((∀ k, G k → G2 k) ∧ ∀ k, G2 k → G k ∨ w.heap.size ≤ k)] := hw6
        refine ⟨[(6, .bool (tk == tk))], _, (by repeat (first | exact SubD.nil | refine SubD.cons rfl ?_)), h9, ?_⟩
        clear h9 hw6 hL6 hF2 hG2 lst
        repeat (first | refine pthen_normal ?_ | refine T_ret ?_)
        have hp9 := qPut_ok2 (cap := cap) (ws := ws) (n := n) (k := k) (zs := zt) hok hl0 (by omega)
        rw [hqp] at hp9
        obtain ⟨hok2, hl2, hln2, hla2⟩ := hp9
        dsimp only at hok2 hl2 hln2 hla2
        exact ret1 rfl rfl (fun w' hw => ⟨by cases tk <;> rfl, last2, L2, K + 1, F2, G2, hok2, hl2, Nat.le_refl _, by omega, hln2, fun k hk => (hw.fact 4 rfl).2 k hk, fun k hk => (hw.fact 5 rfl).2 k hk, (hw.pm [2, 3, 0, 1, 4, 5] rfl rfl rfl).less (by repeat (first | exact Less.nil | refine Less.keep ?_ | refine Less.dropR ?_ | refine Less.dropB (by first | assumption | omega) ?_ | refine Less.dropW (Nat.le_refl _) ?_))⟩)
    | true =>
    refine T_cond_t rfl ?_
    repeat (first | refine T_seq ?_ | refine T_region ?_ | refine S_pure tabOk rfl ?_ | refine S_load tabOk 0 rfl rfl rfl ?_)
    refine S_call rfl Try.call29 (fun w1 g => (q_victims (k := k) (g.own _ (getE_mem (i := 2) rfl)).1 hok (by omega) hrw hcap (SlR.of_ints (A := fun j => (Value.slice a3 zt.length c3).ownBlock = some j) (ints_own (g.own _ (getE_mem (i := 1) rfl)) hzf) (fun b off h0 e => by rw [e]; rfl))).mono fun e w' ⟨o, E, a4, c4, e1, hb, hr, hv⟩ => ⟨_, _, e1, g.fresh hb (x := .row w.heap.size (.slice a4 o.1.length c4) 59 1 o.1.length (o.1.map (.int .u64))) (own_rebase hr g.size) (fun j hj => (World.ownsRow.lt hr j hj).1), ?_⟩)
    repeat (first | refine T_seq ?_ | refine T_region ?_ | refine S_nil ?_ | refine S_pure tabOk rfl ?_ | refine S_load tabOk 1 rfl rfl rfl ?_)
    refine S_call rfl Try.call60 (fun w1 g => ?_)
    obtain ⟨_, _, _, _, hS9, _⟩ := (g.own _ (getE_mem (i := 4) rfl)).1
    refine (rvictims9_ok (k := k) (a := a3) (c := c3) hS9 hok (by omega) hrw hcap (zs := zt) rfl).mono fun e w' ⟨o2, E2, a5, c5, e2, hb2, hr2, hv2⟩ => ?_
    obtain ⟨rfl, rfl⟩ := hv.uniq hv2
    refine ⟨_, _, e2, g.fresh hb2 (x := .row w.heap.size (.slice a5 o.1.length c5) 59 1 o.1.length (o.1.map (.int .u64))) (own_rebase hr2 g.size) (fun j hj => (World.ownsRow.lt hr2 j hj).1), ?_⟩
    clear g hS9 hv2
    obtain ⟨o, own⟩ := o
    have hclsOk : ∀ x ∈ L, 0 ≤ x.2.1 ∧ x.2.1 < (ws.length : Int) := fun x hx => ⟨(hok.cls x hx).1, (hok.cls x hx).2.1⟩
    have hkey : (E ≠ 0 ∧ o = []) ∨ (E = 0 ∧ tk = true ∧ ¬ cap < (zt.length : Int) + 16 ∧ ∃ cls : Nat, VicS cap cls ((zt.length : Int) + 16) L true o own) := by
      unfold VicP at hv
      rw [← htk] at hv
      cases tk with
      | false =>
        rw [if_neg (by decide)] at hv
        exact .inl ⟨by rw [hv.2]; decide, congrArg Prod.fst hv.1⟩
      | true =>
        rw [if_pos rfl] at hv
        by_cases hlo : cap < (zt.length : Int) + 16
        · rw [if_pos hlo] at hv
          exact .inl ⟨by rw [hv.2]; decide, congrArg Prod.fst hv.1⟩
        · rw [if_neg hlo] at hv
          have htk2 := htk.symm
          unfold sright at htk2
          simp only [Bool.and_eq_true, decide_eq_true_eq] at htk2
          obtain ⟨⟨hk0, hk8, hz4⟩, hkw⟩ := htk2
          exact .inr ⟨hv.1, rfl, hlo, k.toNat, VicR.vicS (o := (o, own)) (by omega) hok.nodup hclsOk (by rw [Int.toNat_of_nonneg hk0]; exact hv.2)⟩
    clear hv
    have hol : o.length ≤ 1000 := by
      rcases hkey with ⟨_, h⟩ | ⟨_, _, _, cls, h⟩
      · rw [h]; exact Nat.zero_le _
      · exact Nat.le_trans h.len hlen
    dsimp only at *
    repeat (first | refine T_seq ?_ | refine T_region ?_ | refine S_nil ?_ | refine S_pure tabOk rfl ?_)
    refine S_re 78 (v' := .bool false) rfl (congrArg Value.bool (decide_eq_false (fun h => h rfl))) ?_
    repeat (first | refine S_pure tabOk rfl ?_)
    refine S_q (Q_neb tabOk rfl rfl rfl rfl rfl) ?_
    repeat (first | refine S_pure tabOk rfl ?_)
    refine S_re 83 (v' := .bool false) rfl (by cases own <;> rfl) ?_
    repeat (first | refine S_pure tabOk rfl ?_)
    refine S_callq (v := .bool true) rfl Try.call49 (fun w1 h1 => (equal64_ok a4 a5 o.length c4 o.length c5 o o w1 (Sl.of_own (h1.own _ (getE_mem (i := 1) rfl))) (Sl.of_own (h1.own _ (getE_mem (i := 0) rfl))) (by simp only [maxLen]; omega)).mono fun e w' ⟨he, hb⟩ => ⟨by rw [he, decide_eq_true rfl], hb⟩) ?_
    repeat (first | refine S_nil ?_ | refine S_pure tabOk rfl ?_)
    refine T_cond_f rfl ?_
    repeat (first | refine T_seq ?_ | refine T_region ?_ | refine pthen_normal ?_ | refine T_skip ?_ | refine S_pure tabOk rfl ?_ | refine S_load tabOk 2 rfl rfl rfl ?_)
    refine S_q (Q_rem0 rfl rfl rfl (by decide) hd8.1) ?_
    repeat (first | refine S_pure tabOk rfl ?_)
    by_cases h4 : d % 6 = 4
    · refine S_re 93 (v' := .bool true) rfl (congrArg Value.bool (decide_eq_true h4)) ?_
      repeat (first | refine S_nil ?_ | refine S_pure tabOk rfl ?_ | refine S_pass rfl rfl rfl ?_)
      refine T_cond_t rfl ?_
      repeat (first | refine T_seq ?_ | refine T_region ?_ | refine S_nil ?_ | refine inb_ret ?_ | refine pthen_ret ?_ | refine T_ret ?_ | refine S_pure tabOk rfl ?_)
      exact ret1 rfl rfl (fun w' hw => ⟨rfl, last, L, K, F, G, hok, hl0, by omega, .inl (by omega), Nat.le_succ _, fun k hk => .inl hk, fun k hk => .inl hk, (hw.pm [4, 5, 0, 1, 2, 3] rfl rfl rfl).less (by repeat (first | exact Less.nil | refine Less.keep ?_ | refine Less.dropB (by first | assumption | omega) ?_ | refine Less.dropW (Nat.le_refl _) ?_))⟩)
    refine S_re 93 (v' := .bool false) rfl (congrArg Value.bool (decide_eq_false h4)) ?_
    repeat (first | refine S_nil ?_ | refine S_pure tabOk rfl ?_)
    refine T_cond_dec rfl (fun hE => ?_) (fun hE => ?_)
    · repeat (first | refine T_seq ?_ | refine T_region ?_ | refine S_nil ?_ | refine inb_ret ?_ | refine pthen_ret ?_ | refine T_ret ?_ | refine S_pure tabOk rfl ?_)
      exact ret1 rfl rfl (fun w' hw => ⟨rfl, last, L, K, F, G, hok, hl0, by omega, .inl (by omega), Nat.le_succ _, fun k hk => .inl hk, fun k hk => .inl hk, (hw.pm [4, 5, 0, 1, 2, 3] rfl rfl rfl).less (by repeat (first | exact Less.nil | refine Less.keep ?_ | refine Less.dropB (by first | assumption | omega) ?_ | refine Less.dropW (Nat.le_refl _) ?_))⟩)
    have hE0 : E = 0 := by omega
    obtain ⟨-, htk1, hlo, cls, hS0⟩ := hkey.resolve_left (fun h => h.1 hE0)
    subst hE0
    clear hE hkey
    repeat (first | refine T_seq ?_ | refine T_region ?_ | refine S_nil ?_ | refine pthen_normal ?_ | refine T_skip ?_ | refine S_pure tabOk rfl ?_)
    let O2 : List QE × (Nat → Prop) → OL := fun y => [.row w.heap.size (.slice a4 o.length c4) 59 1 o.length (o.map (.int .u64)), .blk b5 (.cells ⟨[.int .u8 d, .int .u64 n, .int .i64 k, .slice a3 zt.length c3]⟩ 82 (0, 0)) true, .row w.heap.size (.slice a3 zt.length c3) 5 1 zt.length (zt.map (.int .u8)), .rep (fun w => (quA qb cap last ws y.1 K).at_ w F (.bool true)) F true, .rep (fun w => (rqA xb cap last ws y.1).at_ w y.2 (.bool true)) y.2 true]
    let O4 : List QE × (Nat → Prop) → OL := fun y => [.blk b5 (.cells ⟨[.int .u8 d, .int .u64 n, .int .i64 k, .slice a3 zt.length c3]⟩ 82 (0, 0)) true, .row w.heap.size (.slice a3 zt.length c3) 5 1 zt.length (zt.map (.int .u8)), .rep (fun w => (quA qb cap last ws y.1 K).at_ w F (.bool true)) F true, .rep (fun w => (rqA xb cap last ws y.1).at_ w y.2 (.bool true)) y.2 true]
    refine T_asThen ?_
    refine T_cut (ι := List QE × (Nat → Prop)) (fun y => QOk cap last ws y.1 ∧ y.1.length ≤ L.length ∧ (∀ k, y.2 k → G k ∨ w.heap.size ≤ k) ∧ ∃ inn, VicS cap cls ((zt.length : Int) + 16) y.1 inn [] own) (fun _ => [(0, qptr qb), (1, .pointer (some ⟨xb, 0, none⟩)), (5, .pointer (some ⟨b5, 0, none⟩)), (12, .bool own)]) O4 ?_ ?_
    · refine T_block ?_
      refine T_loop (ι := Nat × List QE × (Nat → Prop)) (fun y => [(0, qptr qb), (1, .pointer (some ⟨xb, 0, none⟩)), (5, .pointer (some ⟨b5, 0, none⟩)), (12, .bool own), (97, .slice a4 o.length c4), (98, .int .i64 (o.length : Int)), (99, .int .i64 (y.1 : Int))])
        (fun y => O2 y.2) (fun y => y.1 ≤ o.length ∧ QOk cap last ws y.2.1 ∧ y.2.1.length ≤ L.length ∧ (∀ k, y.2.2 k → G k ∨ w.heap.size ≤ k) ∧ ∃ inn, VicS cap cls ((zt.length : Int) + 16) y.2.1 inn (o.drop y.1) own) (fun y => o.length - y.1) (0, L, G) ⟨Nat.zero_le _, hok, Nat.le_refl _, fun k hk => .inl hk, true, hS0⟩ (by repeat (first | exact Sub.nil | refine Sub.cons rfl ?_)) (fun w' hw => hw.less (by repeat (first | exact Less.nil | refine Less.keep ?_ | refine Less.dropW (Nat.le_refl _) ?_))) ?_
      rintro ⟨j, rem, G1⟩ ⟨hj, hrok, hrl, hGn, inn, hvs⟩
      dsimp only [O2] at hj hrok hrl hGn hvs ⊢
      repeat (first | refine T_seq ?_ | refine T_region ?_ | refine S_nil ?_ | refine S_pure tabOk rfl ?_)
      refine T_cond_dec rfl (fun hlt3 => ?_) (fun hge3 => ?_)
      rotate_left
      · repeat (first | refine pthen_normal ?_ | refine inb_hit ?_ | refine pthen_exit ?_ | refine T_exit ?_)
        have hjz : j = o.length := by omega
        subst hjz
        rw [List.drop_length] at hvs
        exact ⟨(rem, G1), ⟨hrok, hrl, hGn, inn, hvs⟩, by repeat (first | exact Sub.nil | refine Sub.cons rfl ?_), fun w' hw => hw.less (by repeat (first | exact Less.nil | refine Less.keep ?_ | refine Less.dropW (Nat.le_refl _) ?_))⟩
      obtain ⟨y, hy⟩ : ∃ y, o[j]? = some y := ⟨_, List.getElem?_eq_getElem (by omega)⟩
      have hdr : o.drop j = y :: o.drop (j + 1) := by
        rw [List.drop_eq_getElem_cons (by omega)]
        rw [List.getElem?_eq_getElem (by omega)] at hy
        rw [Option.some.inj hy]
      rw [hdr] at hvs
      obtain ⟨⟨c9, e9, es9, h9, rfl⟩, inn', hvs'⟩ := hvs.next
      have he9 : e9 ∈ rem := (ofC_mem (c := c9) (by rw [h9]; exact List.mem_cons_self)).1
      have hgot := qGot_mem hrok.nodup he9
      repeat (first | refine T_seq ?_ | refine T_region ?_ | refine T_block ?_ | refine pthen_normal ?_ | refine T_skip ?_)
      refine S_rowA 0 rfl (by omega) (fun g4 hg4 => ?_)
      subst hg4
      refine S_q (Q_idx1 tabOk rfl rfl rfl rfl rfl rfl rfl (j := j) rfl (by omega)) ?_
      refine S_load1 tabOk (v := .int .u64 e9.1) rfl rfl (fun w' hw => by
        rw [Nat.zero_add]
        exact own_cell (hw.own _ (getE_mem (i := 0) rfl)) (by omega) (by rw [List.getElem?_map, hy]; rfl)) ?_
      repeat (first | refine T_seq ?_ | refine T_region ?_ | refine S_nil ?_ | refine S_pure tabOk rfl ?_)
      refine S_callTR 3 rfl Try.call36 rfl (fun w1 g => ?_)
      have hd9 := q_drop (g.own _ (getE_mem (i := 3) rfl)).1 (g.own _ (getE_mem (i := 3) rfl)).2.2 hrok (by omega) e9.1
      rw [hgot] at hd9
      dsimp only at hd9
      refine hd9.mono fun e w' ⟨a5, c5, e1, h5⟩ => ⟨_, _, F, _, _, _, _, _, e1, h5, fun _ h => h, fun _ h => .inl h, _, rfl, ?_⟩
      clear g hd9
      repeat (first | refine S_pure tabOk rfl ?_)
      refine S_new tabOk rfl (fun b19 hb19 => ?_)
      repeat (first | refine T_seq ?_ | refine T_region ?_ | refine S_nil ?_ | refine S_pure tabOk rfl ?_ | refine S_store tabOk 0 rfl rfl rfl rfl rfl rfl ?_)
      refine T_cond_f rfl ?_
      repeat (first | refine pthen_normal ?_ | refine T_skip ?_ | refine S_pure tabOk rfl ?_ | refine T_region_any ?_)
      refine S_callT 6 rfl Try.call58 rfl (fun w1 g => ?_)
      have hs1 := g.size
      have hd9 := rdrop9_ok (g.own _ (getE_mem (i := 6) rfl)).1 (g.own _ (getE_mem (i := 6) rfl)).2.2 hrok (by omega) e9.1
      rw [hgot] at hd9
      dsimp only at hd9
      refine hd9.mono fun e w' ⟨a6, c6, e1, G2, g1, g2, h5⟩ => ⟨_, _, G2, e1, h5, g1, g2, _, rfl, ?_⟩
      clear g hd9
      repeat (first | refine T_region ?_ | refine S_nil ?_ | refine pthen_normal ?_ | refine inb_normal ?_ | refine S_i64 tabOk rfl (by omega) ?_ | refine S_pure tabOk rfl ?_)
      exact ⟨(j + 1, qDel rem e9.1, G2), ⟨by show j + 1 ≤ o.length; omega, hrok.del _, Nat.le_trans (qDel_sub rem e9.1).length_le hrl, fun k hk => (g2 k hk).elim (hGn k) (fun h => .inr (Nat.le_trans hs1 h)), inn', hvs'⟩, by dsimp only; repeat (first | exact Sub.nil | refine Sub.cons rfl ?_), fun w' hw => (hw.turnX 6 rfl (Ψ := fun w => (rqA xb cap last ws (qDel rem e9.1)).at_ w G2 (.bool true)) (fun h9 => h9.1) Vp.loc rfl).less (by repeat (first | exact Less.nil | refine Less.keep ?_ | refine Less.dropB (by first | assumption | omega) ?_ | refine Less.dropW (Nat.le_refl _) ?_)), by dsimp only; omega⟩
    rintro ⟨rem, G1⟩ ⟨hrok, hrl, hGn, inn, hvs⟩
    dsimp only [O4] at hrok hrl hGn hvs ⊢
    have hfit := hvs.fits (by omega)
    cases own with
    | true =>
      repeat (first | refine T_draw (by kernel_rfl) (by kernel_rfl) ?_ | refine D_all rfl ?_ | refine D_pure tabOk rfl ?_ | refine D_pass rfl rfl rfl ?_ | refine T_seq ?_ | refine pthen_normal ?_ | refine inb_ret ?_ | refine pthen_ret ?_ | refine T_ret ?_)
      exact ret1 rfl rfl (fun w' hw => ⟨rfl, last, rem, K, F, G1, hrok, hl0, by omega, .inl (by omega), Nat.le_succ_of_le hrl, fun k hk => .inl hk, hGn, (hw.pm [2, 3, 0, 1] rfl rfl rfl).less (by repeat (first | exact Less.nil | refine Less.keep ?_ | refine Less.dropB (by first | assumption | omega) ?_ | refine Less.dropW (Nat.le_refl _) ?_))⟩)
    | false =>
    rw [if_neg (by decide)] at hfit
    have htk2 := htk.symm.trans htk1
    have htk3 := htk2
    unfold sright at htk3
    simp only [Bool.and_eq_true, decide_eq_true_eq] at htk3
    obtain ⟨⟨hk0, hk8, hz4⟩, hkw⟩ := htk3
    obtain ⟨last2, hlast2⟩ : ∃ y, y = last + 1 := ⟨_, rfl⟩
    obtain ⟨L2, hL2⟩ : ∃ y, y = rem ++ [(last + 1, k, zt)] := ⟨_, rfl⟩
    have hqp : qPut cap last ws rem (last + 1) k zt = (0, last2, L2) := by unfold qPut; rw [if_pos htk2, if_neg (by omega), if_neg (by omega), hlast2, hL2]
    have hok2 : QOk cap last2 ws L2 := by rw [hlast2, hL2]; exact hrok.snoc (by omega) hl0 (by omega) ⟨hk0, hkw, hk8, by omega⟩
    have hln2 : L2.length ≤ L.length + 1 := by rw [hL2, List.length_append, List.length_singleton]; omega
    clear hL2
    repeat (first | refine T_seq ?_ | refine pthen_normal ?_)
    let lst : Bool → Bool → (Nat → Prop) → (Nat → Prop) → OL := fun l10 l21 g10 g21 =>
      .blk b5 (.cells ⟨[.int .u8 d, .int .u64 n, .int .i64 k, .slice a3 zt.length c3]⟩ 82 (0, 0)) true :: .row w.heap.size (.slice a3 zt.length c3) 5 1 zt.length (zt.map (.int .u8)) :: .rep (fun w => (quA qb cap (cond l10 last2 last) ws (cond l10 L2 rem) (cond l10 (K + 1) K)).at_ w (cond l10 g10 F) (.bool true)) (cond l10 g10 F) true :: .rep (fun w => (rqA xb cap (cond l21 last2 last) ws (cond l21 L2 rem)).at_ w (cond l21 g21 G1) (.bool true)) (cond l21 g21 G1) true :: (cond l10 [factE ((∀ k, F k → g10 k) ∧ ∀ k, g10 k → F k ∨ w.heap.size ≤ k)] [] ++ (cond l21 [factE ((∀ k, G1 k → g21 k) ∧ ∀ k, g21 k → G1 k ∨ w.heap.size ≤ k)] []))
    refine T_asThen ?_
    refine T_drawF (γ := Nat → Prop) (by kernel_rfl) (by kernel_rfl) F (fun Ld f => lst (Ld 10) (Ld 21) (f 10).2 (f 21).2) rfl [some (.bool false), some (.bool false), some (qptr qb), some (.pointer (some ⟨xb, 0, none⟩)), some (.pointer (some ⟨xb, 0, none⟩)), some (.pointer (some ⟨xb, 3, none⟩)), some (.int .u64 last), some (.int .u64 (last + 1)), some (.pointer (some ⟨b5, 2, none⟩)), some (.agg ⟨[.int .i64 k, .slice a3 zt.length c3]⟩), some (.int .i64 0), some (.bool true), some (.bool true), some (.pointer (some ⟨xb, 0, none⟩)), some (.pointer (some ⟨xb, 0, none⟩)), some (.pointer (some ⟨xb, 0, none⟩)), some (.pointer (some ⟨xb, 3, none⟩)), some (.int .u64 last), some (.int .u64 (last + 1)), some (.pointer (some ⟨b5, 2, none⟩)), some (.agg ⟨[.int .i64 k, .slice a3 zt.length c3]⟩), some (.int .i64 0), some (.bool true), some (.bool true), some (.bool true), some (.bool true)] ?_ ?_
    · refine ⟨?_, ?_, ?_, ?_, ?_, ?_, ?_, ?_, ?_, ?_, ?_, ?_, ?_, ?_, ?_, ?_, ?_, ?_, ?_, ?_, ?_, ?_, ?_, ?_, ?_, ?_, trivial⟩
      · exact fun Ld f hc hl hp => OpA.told F rfl (D_pure tabOk rfl D_last) rfl
      · exact fun Ld f hc hl hp => OpA.told F rfl (D_pure tabOk rfl D_last) rfl
      · exact fun Ld f hc hl hp => OpA.told F rfl (D_pure tabOk rfl D_last) rfl
      · exact fun Ld f hc hl hp => OpA.told F rfl (D_pure tabOk rfl D_last) rfl
      · exact fun Ld f hc hl hp => OpA.told F rfl (D_pure tabOk rfl D_last) rfl
      · exact fun Ld f hc hl hp => OpA.told F rfl (D_pure tabOk rfl D_last) rfl
      · intro Ld f hc hl hp
        have h7 := closed_no hc (j := 7) rfl ⟨6, .data⟩ (by simp) rfl hl
        have h10 := closed_no hc (j := 10) rfl ⟨7, .data⟩ (by simp) rfl h7
        have h12 := closed_no hc (j := 12) rfl ⟨10, .chain⟩ (by simp) rfl h10
        have h21 := closed_no hc (j := 21) rfl ⟨12, .chain⟩ (by simp) rfl h12
        show OpA _ _ _ _ (lst (Ld 10) (Ld 21) (f 10).2 (f 21).2) (fun y => lst (Ld 10) (Ld 21) (f 10).2 (f 21).2) _ _ _
        rw [h10, h21]
        exact OpA.told F rfl (D_load1 tabOk (v := .int .u64 last) rfl rfl (fun w1 hw1 => rq_last (hw1.own _ (getE_mem (i := 3) rfl)).1) D_last) rfl
      · exact fun Ld f hc hl hp => OpA.told F rfl (D_u64 tabOk rfl (by omega) D_last) rfl
      · exact fun Ld f hc hl hp => OpA.told F rfl (D_pure tabOk rfl D_last) rfl
      · exact fun Ld f hc hl hp => OpA.told F rfl (D_load tabOk 0 rfl rfl rfl D_last) rfl
      · intro Ld f hc hl hp
        have h12 := closed_no hc (j := 12) rfl ⟨10, .chain⟩ (by simp) rfl hl
        have h21 := closed_no hc (j := 21) rfl ⟨12, .chain⟩ (by simp) rfl h12
        show OpA _ _ _ _ (lst (Ld 10) (Ld 21) (f 10).2 (f 21).2) (fun y => lst true (Ld 21) y.2 (f 21).2) _ _ _
        rw [hl, h21]
        refine OpA.callK rfl Try.call27 (fun w1 vs1 hw1 h => ?_)
        obtain ⟨u1, _, rfl, rfl, u2, _, rfl, rfl, u3, _, rfl, rfl, rfl⟩ := h
        have hap := (hw1.pm [1, 2, 0, 3] rfl rfl rfl).apart
        have hA : ∀ j, (Value.slice a3 zt.length c3).ownBlock = some j → ¬ F j := fun j hj hf => (List.pairwise_cons.1 hap).1 _ List.mem_cons_self rfl j hj hf
        have h8 := q_put (n := last + 1) (k := k) (last := last) (L := rem) (K := K) (F := F) (hw1.own _ (getE_mem (i := 2) rfl)).1 (hw1.own _ (getE_mem (i := 2) rfl)).2.2 hrok (by omega) hws (by omega) hcap hl0 (by omega) (SlR.of_ints (A := fun j => (Value.slice a3 zt.length c3).ownBlock = some j) (ints_own (hw1.own _ (getE_mem (i := 1) rfl)) hzf) (fun b off h0 e => by rw [e]; rfl)) hA
        rw [hqp] at h8
        refine h8.mono fun e w' ⟨he, F', f1, f2, g2⟩ => ⟨F', he, ?_⟩
        have h9 := ((hw1.graftT 2 rfl g2 f1 f2 rfl).addF (p := (∀ k, F k → F' k) ∧ ∀ k, F' k → F k ∨ w.heap.size ≤ k) ⟨f1, fun k hk => (f2 k hk).imp id (Nat.le_trans hw1.size)⟩).pm [1, 2, 3, 4, 0] rfl rfl rfl
        exact h9
      · exact fun Ld f hc hl hp => OpA.told F rfl (D_pure tabOk rfl D_last) rfl
      · exact fun Ld f hc hl hp => OpA.told F rfl (D_pure tabOk rfl D_last) rfl
      · exact fun Ld f hc hl hp => OpA.told F rfl (D_pure tabOk rfl D_last) rfl
      · exact fun Ld f hc hl hp => OpA.told F rfl (D_pure tabOk rfl D_last) rfl
      · exact fun Ld f hc hl hp => OpA.told F rfl (D_pure tabOk rfl D_last) rfl
      · exact fun Ld f hc hl hp => OpA.told F rfl (D_pure tabOk rfl D_last) rfl
      · intro Ld f hc hl hp
        have h12 : Ld 12 = true := hp ⟨12, .guard⟩ (by simp) rfl
        have h10 : Ld 10 = true := hc 12 _ rfl h12 ⟨10, .chain⟩ (by simp) rfl
        have h18 := closed_no hc (j := 18) rfl ⟨17, .data⟩ (by simp) rfl hl
        have h21 := closed_no hc (j := 21) rfl ⟨18, .data⟩ (by simp) rfl h18
        show OpA _ _ _ _ (lst (Ld 10) (Ld 21) (f 10).2 (f 21).2) (fun y => lst (Ld 10) (Ld 21) (f 10).2 (f 21).2) _ _ _
        rw [h10, h21]
        exact OpA.told F rfl (D_load1 tabOk (v := .int .u64 last) rfl rfl (fun w1 hw1 => rq_last (hw1.own _ (getE_mem (i := 3) rfl)).1) D_last) rfl
      · exact fun Ld f hc hl hp => OpA.told F rfl (D_u64 tabOk rfl (by omega) D_last) rfl
      · exact fun Ld f hc hl hp => OpA.told F rfl (D_pure tabOk rfl D_last) rfl
      · exact fun Ld f hc hl hp => OpA.told F rfl (D_load tabOk 0 rfl rfl rfl D_last) rfl
      · intro Ld f hc hl hp
        have h12 : Ld 12 = true := hp ⟨12, .chain⟩ (by simp) rfl
        have h10 : Ld 10 = true := hc 12 _ rfl h12 ⟨10, .chain⟩ (by simp) rfl
        show OpA _ _ _ _ (lst (Ld 10) (Ld 21) (f 10).2 (f 21).2) (fun y => lst (Ld 10) true (f 10).2 y.2) _ _ _
        rw [hl, h10]
        refine OpA.callK rfl Try.call61 (fun w1 vs1 hw1 h => ?_)
        obtain ⟨u1, _, rfl, rfl, u2, _, rfl, rfl, u3, _, rfl, rfl, rfl⟩ := h
        have hap := (hw1.pm [1, 3, 0, 2] rfl rfl rfl).apart
        have hxG : G1 xb := (hw1.own _ (getE_mem (i := 3) rfl)).1.choose_spec.choose_spec.choose_spec.choose_spec.2
        have hA : ¬ (Value.slice a3 zt.length c3).ownBlock = some xb := fun hj => (List.pairwise_cons.1 hap).1 _ List.mem_cons_self rfl xb hj hxG
        have h8 := rput9_ok (n := last + 1) (k := k) (last := last) (L := rem) (F := G1) (hw1.own _ (getE_mem (i := 3) rfl)).1 (hw1.own _ (getE_mem (i := 3) rfl)).2.2 hrok (by omega) hcap (by omega) (B := fun j => (Value.slice a3 zt.length c3).ownBlock = some j) (SlR.of_ints (ints_own (hw1.own _ (getE_mem (i := 1) rfl)) hzf) (fun b off h0 e => by rw [e]; rfl)) hA
        rw [hqp] at h8
        refine h8.mono fun e w' ⟨he, F', f1, f2, g2⟩ => ⟨F', he, ?_⟩
        have h9 := ((hw1.graftT 3 rfl g2 f1 f2 rfl).addF (p := (∀ k, G1 k → F' k) ∧ ∀ k, F' k → G1 k ∨ w.heap.size ≤ k) ⟨f1, fun k hk => (f2 k hk).imp id (Nat.le_trans hw1.size)⟩).pm [1, 2, 3, 4, 5, 0] rfl rfl rfl
        exact h9
      · exact fun Ld f hc hl hp => OpA.told F rfl (D_pure tabOk rfl D_last) rfl
      · exact fun Ld f hc hl hp => OpA.told F rfl (D_pure tabOk rfl D_last) rfl
      · exact fun Ld f hc hl hp => OpA.told F rfl (D_pure tabOk rfl D_last) rfl
      · exact fun Ld f hc hl hp => OpA.told F rfl (D_pure tabOk rfl D_last) rfl
    · intro Lf f w6 hL6 hw6
      change Hp _ _ (lst (Lf 10) (Lf 21) (f 10).2 (f 21).2) at hw6
      rw [hL6 10 (by decide), hL6 21 (by decide)] at hw6
      obtain ⟨F2, hF2⟩ : ∃ y : Nat → Prop, y = (f 10).2 := ⟨_, rfl⟩
      obtain ⟨G2, hG2⟩ : ∃ y : Nat → Prop, y = (f 21).2 := ⟨_, rfl⟩
      rw [← hF2, ← hG2] at hw6
      have h9 : Hp w w6 [.blk b5 (.cells ⟨[.int .u8 d, .int .u64 n, .int .i64 k, .slice a3 zt.length c3]⟩ 82 (0, 0)) true, .row w.heap.size (.slice a3 zt.length c3) 5 1 zt.length (zt.map (.int .u8)), .rep (fun w => (quA qb cap last2 ws L2 (K + 1)).at_ w F2 (.bool true)) F2 true, .rep (fun w => (rqA xb cap last2 ws L2).at_ w G2 (.bool true)) G2 true, factE ((∀ k, F k → F2 k) ∧ ∀ k, F2 k → F k ∨ w.heap.size ≤ k), factE ((∀ k, G1 k → G2 k) ∧ ∀ k, G2 k → G1 k ∨ w.heap.size ≤ k)] := hw6
      refine ⟨[(6, .bool true)], _, (by repeat (first | exact SubD.nil | refine SubD.cons rfl ?_)), h9, ?_⟩
      clear h9 hw6 hL6 hF2 hG2 lst
      repeat (first | refine pthen_normal ?_ | refine inb_ret ?_ | refine pthen_ret ?_ | refine T_ret ?_)
      exact ret1 rfl rfl (fun w' hw => ⟨rfl, last2, L2, K + 1, F2, G2, hok2, by omega, by omega, .inl (by omega), hln2, fun k hk => (hw.fact 4 rfl).2 k hk, fun k hk => ((hw.fact 5 rfl).2 k hk).elim (hGn k) .inr, (hw.pm [2, 3, 0, 1, 4, 5] rfl rfl rfl).less (by repeat (first | exact Less.nil | refine Less.keep ?_ | refine Less.dropR ?_ | refine Less.dropB (by first | assumption | omega) ?_ | refine Less.dropW (Nat.le_refl _) ?_))⟩)
end

theorem Hp.after {w0 w1 w2 : World} {ol : OL} (hb : Below w0.heap.size w0 w1) (h : Hp w1 w2 ol) : Hp w0 w2 ol :=
  ⟨h.os.trans hb.os, h.tape.trans hb.tape, h.output.trans hb.output, Nat.le_trans hb.size h.size, fun k hk ho => (h.old k (Nat.lt_of_lt_of_le hk hb.size) ho).trans (hb.block k hk), h.own, h.apart⟩
/-- the document's queue, new -/
def G09 (W : World) (xb : Nat) (v : Value) : Nat → Prop := fun k => (k = xb ∨ v.ownBlock = some k) ∧ W.heap.size ≤ k
theorem rq_start {W w : World} {xb : Nat} {cap : Int} {ws : List Int} {a : Option Addr} {c : Nat} {E : TypeId} {ol : OL} (hxb : W.heap.size ≤ xb) (h : Hp W w (.blk xb (rqC cap a ws.length c none 0 0 0) true :: .row W.heap.size (.slice a ws.length c) E 1 ws.length (ws.map (.int .i64)) :: ol)) (hf : ∀ z ∈ ws, Fits .i64 z) :
    Hp W w (.rep (fun w => (rqA xb cap 0 ws []).at_ w (G09 W xb (.slice a ws.length c)) (.bool true)) (G09 W xb (.slice a ws.length c)) true :: ol) := by
  have o0 : w.heap[xb]? = _ := h.own _ (getE_mem (i := 0) rfl)
  have o1 : w.ownsRow W.heap.size E 1 (.slice a ws.length c) ws.length (ws.map (.int .i64)) := h.own _ (getE_mem (i := 1) rfl)
  have hap := (List.pairwise_cons.1 h.apart).1 _ List.mem_cons_self rfl
  refine Hp.regroup [_, _] [_] h (fun e he => ?_) (fun e he => ?_) (List.pairwise_singleton _ _) (fun e he k hk => ?_) (fun e he k hk => ?_)
  · rcases List.mem_cons.1 he with rfl | he
    · rfl
    · rw [List.mem_singleton] at he; subst he; rfl
  · rw [List.mem_singleton] at he
    subst he
    refine ⟨rfl, ⟨a, c, none, 0, ⟨o0, SlR.of_ints (ints_own o1 hf) (fun b off h0 e => ?_), SlR.nil_, fun h => h.2 rfl⟩, .inl rfl, hxb⟩, Vp.loc (p := rqA xb cap 0 ws []), fun k hk => ?_⟩
    · have : (Value.slice a ws.length c).ownBlock = some b := by rw [e]; rfl
      exact ⟨⟨.inr this, (World.ownsRow.lt o1 b this).1⟩, fun e2 => hap xb rfl (by rw [e2] at this; exact this)⟩
    · rcases hk.1 with rfl | hk
      · exact heap_lt o0
      · exact (World.ownsRow.lt o1 k hk).2
  · rw [List.mem_singleton] at he
    subst he
    rcases hk.1 with rfl | hk
    · exact ⟨_, List.mem_cons_self, rfl⟩
    · exact ⟨_, List.mem_cons_of_mem _ List.mem_cons_self, hk⟩
  · rcases List.mem_cons.1 he with rfl | he
    · exact .inl (by rw [← Option.some.inj hk]; exact hxb)
    · rw [List.mem_singleton] at he
      subst he
      exact .inl (World.ownsRow.lt o1 k hk).1
abbrev Ract9 : Rep (Int × Int × Int × List Int) := Rpair (Rint .u8) (Rpair (Rint .u64) Rspan)
structure PlI where
  i : Nat
  L : List QE
  last : Int
  K : Nat
  F : Nat → Prop
  G : Nat → Prop
structure PlOk (cap : Int) (ws : List Int) (W : World) (i : PlI) : Prop where
  ok : QOk cap i.last ws i.L
  l0 : 0 ≤ i.last
  ln : i.last ≤ 1099511627776 + (i.i : Int)
  len : i.L.length ≤ i.i
  k : i.K ≤ i.i
  newF : ∀ k, i.F k → W.heap.size ≤ k
  newG : ∀ k, i.G k → W.heap.size ≤ k
set_option maxHeartbeats 8000000 in
theorem queuePlays_walk (cp : Int) (v1 : Value) (wz : List Int) (v2 : Value) (acts : List (Int × Int × Int × List Int)) (W : World) (hcp : Fits .u16 cp) (h1 : (Rslice (Rint .u8)).val W TT v1 wz) (h2 : (Rslice Ract9).val W TT v2 acts) :
    Calls Try.prog 11 #[.int .u16 cp, v1, v2] W fun e w' => e = .returned (.bool true) ∧ Below W.heap.size W w' := by
  obtain ⟨a1, n1, c1, rfl, hx1⟩ := SlR.form h1
  obtain ⟨a2, n2, c2, rfl, hx2⟩ := SlR.form h2
  obtain rfl := hx1.len
  obtain rfl := hx2.len
  have hcp' := fits_u16 hcp
  have hI := hx1.ints
  have hmx2 := hx2.max
  have hcp2 := hx2.cap
  simp only [maxLen] at hmx2
  have hrw : rightW (wOf wz) := wOf_right fun x hx => by have := fits_u8 (hI.fits x hx); omega
  obtain ⟨ws, hws⟩ : ∃ ws, ws = wOf wz := ⟨_, rfl⟩
  rw [← hws] at hrw
  have hws1 := hrw.1
  have hws8 := hrw.2.1
  have hwf : ∀ z ∈ ws, Fits .i64 z := fun z hz => mk_i64 (by have := hrw.2.2 z hz; omega)
  obtain ⟨cap, hcap⟩ : ∃ c : Int, c = 1 + cp % 600 := ⟨_, rfl⟩
  have hc0 : 1 ≤ cap ∧ cap ≤ 600 := by omega
  have hqr : qRight cap ws = true := by unfold qRight; rw [decide_eq_true hrw, decide_eq_true (by omega)]; rfl
  refine enter3 Try.func11 rfl rfl (Hp.refl W) ?_
  repeat (first | refine T_seq ?_ | refine T_region ?_ | refine S_nil ?_ | refine S_pure tabOk rfl ?_)
  refine S_callq (v := .bool true) rfl Try.call24 (fun w1 h1 => awake9_ok w1) ?_
  repeat (first | refine S_nil ?_ | refine S_pure tabOk rfl ?_)
  refine T_cond_f rfl ?_
  repeat (first | refine T_seq ?_ | refine T_region ?_ | refine pthen_normal ?_ | refine T_skip ?_ | refine S_pure tabOk rfl ?_)
  refine S_q (Q_rem0 rfl rfl rfl (by decide) hcp'.1) ?_
  repeat (first | refine S_i64 tabOk rfl (by omega) ?_ | refine S_pure tabOk rfl ?_)
  rw [← hcap]
  refine S_callrow rfl Try.call26 (fun w1 h1 => weights9_ok a1 wz.length c1 wz w1 (ints_ext hI (h1.below (by repeat (first | exact new_nil))))) (fun aw cw hcw hdw => ?_)
  rw [← hws]
  refine S_callN rfl Try.call25 (fun w1 h1 => (q_newY (ints_own (h1.own _ (getE_mem (i := 0) rfl)) hwf) hqr).mono fun e w' ⟨qb, F, e1, hF, h2⟩ => ⟨_, _, F, e1, h2, hF, fun hFn => ?_⟩)
  repeat (first | refine T_seq ?_ | refine T_region ?_ | refine S_nil ?_ | refine S_pure tabOk rfl ?_)
  refine S_q (Q_rem0 rfl rfl rfl (by decide) hcp'.1) ?_
  repeat (first | refine S_i64 tabOk rfl (by omega) ?_ | refine S_pure tabOk rfl ?_)
  rw [← hcap]
  refine S_callrow rfl Try.call26 (fun w1 h1 => weights9_ok a1 wz.length c1 wz w1 (ints_ext hI (h1.below (by repeat (first | exact new_nil | refine new_rx (by assumption) ?_ | refine newrow h1 1 rfl (Nat.le_refl _) ?_))))) (fun aw2 cw2 hcw2 hdw2 => ?_)
  rw [← hws]
  repeat (first | refine S_q (Q_build tabOk rfl rfl rfl rfl rfl rfl rfl) ?_)
  refine S_new tabOk rfl (fun xb hxb => ?_)
  repeat (first | refine T_seq ?_ | refine T_region ?_ | refine S_nil ?_ | refine S_pure tabOk rfl ?_)
  refine T_cond_f rfl ?_
  repeat (first | refine T_seq ?_ | refine T_region ?_ | refine S_nil ?_ | refine pthen_normal ?_ | refine T_skip ?_ | refine S_pure tabOk rfl ?_)
  have hcap40 : (0 : Int) ≤ cap ∧ cap ≤ 1099511627776 := by omega
  let O1 : PlI → OL := fun i => [.rep (fun w => (quA qb cap i.last ws i.L i.K).at_ w i.F (.bool true)) i.F true, .rep (fun w => (rqA xb cap i.last ws i.L).at_ w i.G (.bool true)) i.G true]
  refine T_cut (ι := Unit) (fun _ => True) (fun _ => []) (fun _ => []) ?_ ?_
  · refine T_block ?_
    refine T_loop (ι := PlI) (fun i => [(7, qptr qb), (9, .pointer (some ⟨xb, 0, none⟩)), (34, .slice a2 acts.length c2), (35, .int .i64 (acts.length : Int)), (36, .int .i64 (i.i : Int))]) O1 (fun i => i.i ≤ acts.length ∧ i.i ≤ 50 ∧ PlOk cap ws W i) (fun i => acts.length - i.i) ⟨0, [], 0, 0, F, G09 W xb (.slice aw2 ws.length cw2)⟩ ⟨Nat.zero_le _, Nat.zero_le _, QOk.nil _ _, Int.le_refl _, by show (0 : Int) ≤ 1099511627776 + ((0 : Nat) : Int); omega, Nat.le_refl _, Nat.le_refl _, hFn, fun k hk => hk.2⟩ (by repeat (first | exact Sub.nil | refine Sub.cons rfl ?_)) (fun w' hw => ((rq_start hxb hw hwf).pm [1, 0, 2] rfl rfl rfl).less (by repeat (first | exact Less.nil | refine Less.keep ?_ | refine Less.dropW (Nat.le_refl _) ?_))) ?_
    rintro ⟨i, L, last, K, F1, G1⟩ ⟨hi, hi50, hB⟩
    obtain ⟨hok, hl0, hln, hlen, hK, hFn1, hGn1⟩ := hB
    dsimp only [O1] at hi hi50 hok hl0 hln hlen hK hFn1 hGn1 ⊢
    repeat (first | refine T_seq ?_ | refine T_region ?_ | refine S_nil ?_ | refine S_pure tabOk rfl ?_)
    refine T_cond_dec rfl (fun hlt => ?_) (fun hge => ?_)
    rotate_left
    · repeat (first | refine pthen_normal ?_ | refine inb_hit ?_ | refine pthen_exit ?_ | refine T_exit ?_)
      exact ⟨(), trivial, by repeat (first | exact Sub.nil), fun w' hw => hw.fewer (by repeat (first | exact new_nil | refine new_rx (by assumption) ?_)) (by repeat (first | exact List.Sublist.slnil | refine List.Sublist.cons _ ?_))⟩
    have hi' : i < acts.length := by omega
    obtain ⟨ab, off, cs, rfl, hlt2, hat, hcl, hce, _⟩ := hx2.get_ hi'
    obtain ⟨_, _, rfl, ⟨rfl, hd⟩, _, _, rfl, ⟨rfl, hn⟩, _, _, rfl, ⟨rfl, hk⟩, a0, n0, c0, rfl, hz⟩ := hat
    generalize acts[i] = sp at *
    obtain ⟨d, n, k, zs⟩ := sp
    obtain rfl := hz.len
    dsimp only at *
    have hd8 := fits_u8 hd
    have hn64 := fits_u64 hn
    repeat (first | refine T_seq ?_ | refine T_region ?_ | refine T_block ?_ | refine pthen_normal ?_ | refine T_skip ?_ | refine S_pure tabOk rfl ?_)
    refine S_q (Q_idx (sz := 4) tabOk rfl rfl rfl rfl rfl rfl rfl (j := i) rfl (by omega)) ?_
    refine S_loadN tabOk (vs := [.int .u8 d, .int .u64 n, .int .i64 k, .slice a0 zs.length c0]) rfl rfl rfl (fun w' hw jj u hu => by
      rw [Addr.add_lit]
      exact (World.cell?_of_block (w := W) (a := ⟨ab, off + i * 4 + jj, none⟩) ((hw.below (by repeat (first | exact new_nil | refine new_rx (by assumption) ?_))).block ab hlt2)).trans (hce jj u hu)) ?_
    refine S_new tabOk rfl (fun b11 hb11 => ?_)
    repeat (first | refine T_seq ?_ | refine T_region ?_ | refine S_nil ?_ | refine S_pure tabOk rfl ?_ | refine S_store tabOk 0 rfl rfl rfl rfl rfl rfl ?_)
    refine T_cond_dec rfl (fun h50 => ?_) (fun h50 => ?_)
    · repeat (first | refine pthen_exit ?_ | refine T_exit ?_)
      refine inb_miss rfl ?_
      repeat (first | refine pthen_normal ?_ | refine inb_hit ?_ | refine pthen_exit ?_)
      exact ⟨(), trivial, by repeat (first | exact Sub.nil), fun w' hw => hw.fewer (by repeat (first | exact new_nil | refine new_rx (by assumption) ?_ | refine new_cons (by first | assumption | omega) ?_)) (by repeat (first | exact List.Sublist.slnil | refine List.Sublist.cons _ ?_))⟩
    repeat (first | refine T_seq ?_ | refine T_region ?_ | refine pthen_normal ?_ | refine T_skip ?_ | refine S_pure tabOk rfl ?_ | refine S_load tabOk 0 rfl rfl rfl ?_)
    refine S_call rfl Try.call38 (fun w1 g => ?_)
    have hb1 := g.below (by repeat (first | exact new_nil | refine new_rx (by assumption) ?_ | refine new_cons (by first | assumption | omega) ?_))
    have hap := (g.pm [1, 2, 0] rfl rfl rfl).apart
    have hdis : ∀ k, F1 k → ¬ G1 k := fun k hk hg => (List.pairwise_cons.1 hap).1 _ List.mem_cons_self rfl k hk hg
    have hB : SlR (Rint .u8) w1 (fun k => k < W.heap.size) a0 zs.length c0 zs := SlR.of_ints (ints_ext hz.ints hb1) (fun b off h0 e => by
      obtain ⟨b', _, _, e', h', _⟩ := hz.get_ (i := 0) h0
      rw [e] at e'
      cases e'
      exact h')
    refine (do9_ok (g.own _ (getE_mem (i := 1) rfl)).1 (g.own _ (getE_mem (i := 1) rfl)).2.2 (g.own _ (getE_mem (i := 2) rfl)).1 (g.own _ (getE_mem (i := 2) rfl)).2.2 hdis hok hl0 (by omega) (by omega) (by omega) hrw hcap40 hd8 hn64 hB (fun k hk => .inr (fun h => by have := hFn1 k hk; omega)) (fun k hk => .inr (fun h => by have := hGn1 k hk; omega))).mono fun e w' ⟨he, last', L', K', F', G', ok', l0', k', ll, len', f', g', h'⟩ => ⟨_, _, he, Hp.after hb1 h', ?_⟩
    have hFn' : ∀ k, F' k → W.heap.size ≤ k := fun k hk => (f' k hk).elim (hFn1 k) (Nat.le_trans hb1.size)
    have hGn' : ∀ k, G' k → W.heap.size ≤ k := fun k hk => (g' k hk).elim (hGn1 k) (Nat.le_trans hb1.size)
    clear h' g hap hB
    repeat (first | refine S_pure tabOk rfl ?_)
    refine S_callT 0 rfl Try.call39 rfl (fun w1 g => ?_)
    obtain ⟨_, _, _, _, hS9, hg9⟩ := (g.own _ (getE_mem (i := 1) rfl)).1
    have hap := g.apart
    refine (like9_ok (g.own _ (getE_mem (i := 0) rfl)).1 (g.own _ (getE_mem (i := 0) rfl)).2.2 hS9 (fun k hk => .inr fun h => (List.pairwise_cons.1 hap).1 _ List.mem_cons_self rfl k hk ?_) ok' (by omega) hws8).mono fun e w' ⟨he, h'⟩ => ⟨_, _, F', he, h', fun _ h => h, fun _ h => .inl h, _, rfl, ?_⟩
    · rcases h with h | rfl
      · exact h.1
      · exact hg9
    clear g hap hS9
    repeat (first | refine S_nil ?_ | refine S_pure tabOk rfl ?_)
    refine T_cond_f rfl ?_
    repeat (first | refine T_region ?_ | refine S_nil ?_ | refine pthen_normal ?_ | refine inb_normal ?_ | refine T_skip ?_ | refine S_i64 tabOk rfl (by omega) ?_ | refine S_pure tabOk rfl ?_)
    exact ⟨⟨i + 1, L', last', K', F', G'⟩, ⟨by show i + 1 ≤ acts.length; omega, by show i + 1 ≤ 50; omega, ok', l0', by show last' ≤ 1099511627776 + ((i + 1 : Nat) : Int); omega, by show L'.length ≤ i + 1; omega, by show K' ≤ i + 1; omega, hFn', hGn'⟩, by dsimp only; repeat (first | exact Sub.nil | refine Sub.cons rfl ?_), fun w' hw => hw.less (by repeat (first | exact Less.nil | refine Less.keep ?_)), by dsimp only; omega⟩
  intro _ _
  repeat (first | refine T_seq ?_ | refine T_region ?_ | refine S_nil ?_ | refine T_ret ?_ | refine S_pure tabOk rfl ?_)
  exact ret1 rfl rfl (fun w' hw => ⟨rfl, hw.below (by repeat (first | exact new_nil))⟩)

end Go.Proofs.Yteogkadjambmkaa
