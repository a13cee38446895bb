/-
  Contracts of package span's small functions and of cmp's. Conditions: each theorem's own. Contracts of both Same, of Or and Less. Conditions: each theorem's own. The contract of a span's Put. Conditions: each theorem's own. The statements' awake. Conditions: each theorem's own. Contracts of both Gets of a span. Conditions: each theorem's own. Contracts of both GetItems. Conditions: each theorem's own. Contracts of an item's Put, and of the document's Puts. Conditions: each theorem's own. The walk of SpanPuts. Conditions: each theorem's own. The plain law of SpanRows: items one behind the other, cut off anywhere. Conditions: each theorem's own. The walk of SpanRows. Conditions: each theorem's own.
  Conditions: each theorem's own.
-/
import Derived.Test.YtnefhhoijonnaaaPk
namespace Go.Proofs.Ytnefhhoijonnaaa
open Go Go.RowKit
set_option linter.unusedVariables false


def sright (k : Int) (n : Nat) : Bool := decide (0 ≤ k ∧ k < 8 ∧ n ≤ 4096)
theorem spright_ok (k : Int) (a : Option Addr) (n c : Nat) (w : World) : Calls Try.prog 112 #[.agg #[.int .i64 k, .slice a n c]] w fun e w' => e = .returned (.bool (sright k n)) ∧ Below w.heap.size w w' := by
  refine enter1 Try.func112 rfl rfl (Hp.refl w) ?_
  repeat (first | refine T_seq ?_ | refine T_region ?_)
  refine S_new tabOk rfl (fun b hb => ?_)
  repeat (first | refine T_seq ?_ | refine T_region ?_ | refine S_nil ?_ | refine S_pure tabOk rfl ?_ | refine S_load tabOk 0 rfl rfl rfl ?_)
  refine S_split rfl rfl (fun h1 => ?_) (fun h1 => ?_)
  · repeat (first | refine S_pure tabOk rfl ?_ | refine S_load tabOk 0 rfl rfl rfl ?_)
    refine S_split rfl rfl (fun h2 => ?_) (fun h2 => ?_)
    · repeat (first | refine S_nil ?_ | refine T_ret ?_ | refine S_pure tabOk rfl ?_ | refine S_load tabOk 0 rfl rfl rfl ?_)
      exact ret1 rfl rfl (fun w' hw => ⟨retb (dec_eq (by omega)), hw.below (new_cons hb new_nil)⟩)
    · repeat (first | refine S_nil ?_ | refine T_ret ?_ | refine S_pure tabOk rfl ?_ | refine S_pass rfl rfl rfl ?_)
      exact ret1 rfl rfl (fun w' hw => ⟨retb (false_dec (by omega)), hw.below (new_cons hb new_nil)⟩)
  · repeat (first | refine S_nil ?_ | refine T_ret ?_ | refine S_pure tabOk rfl ?_ | refine S_pass rfl rfl rfl ?_)
    exact ret1 rfl rfl (fun w' hw => ⟨retb (false_dec (by omega)), hw.below (new_cons hb new_nil)⟩)
theorem rfright_ok (k : Int) (a : Option Addr) (n c : Nat) (w : World) : Calls Try.prog 49 #[.agg #[.int .i64 k, .slice a n c]] w fun e w' => e = .returned (.bool (sright k n)) ∧ Below w.heap.size w w' := by
  refine enter1 Try.func49 rfl rfl (Hp.refl w) ?_
  repeat (first | refine T_seq ?_ | refine T_region ?_)
  refine S_new tabOk rfl (fun b hb => ?_)
  repeat (first | refine T_seq ?_ | refine T_region ?_ | refine S_nil ?_ | refine S_pure tabOk rfl ?_ | refine S_load tabOk 0 rfl rfl rfl ?_)
  refine S_split rfl rfl (fun h1 => ?_) (fun h1 => ?_)
  · repeat (first | refine S_pure tabOk rfl ?_ | refine S_load tabOk 0 rfl rfl rfl ?_)
    refine S_split rfl rfl (fun h2 => ?_) (fun h2 => ?_)
    · repeat (first | refine S_nil ?_ | refine T_ret ?_ | refine S_pure tabOk rfl ?_ | refine S_load tabOk 0 rfl rfl rfl ?_)
      exact ret1 rfl rfl (fun w' hw => ⟨retb (dec_eq (by omega)), hw.below (new_cons hb new_nil)⟩)
    · repeat (first | refine S_nil ?_ | refine T_ret ?_ | refine S_pure tabOk rfl ?_ | refine S_pass rfl rfl rfl ?_)
      exact ret1 rfl rfl (fun w' hw => ⟨retb (false_dec (by omega)), hw.below (new_cons hb new_nil)⟩)
  · repeat (first | refine S_nil ?_ | refine T_ret ?_ | refine S_pure tabOk rfl ?_ | refine S_pass rfl rfl rfl ?_)
    exact ret1 rfl rfl (fun w' hw => ⟨retb (false_dec (by omega)), hw.below (new_cons hb new_nil)⟩)
def cmpI (x y : Int) : Int := if x < y then -1 else if y < x then 1 else 0

theorem spsame_ok (k1 k2 : Int) (a1 a2 : Option Addr) (n1 c1 n2 c2 : Nat) (xs ys : List Int) (w : World) (h1 : Ints .u8 w a1 n1 c1 xs) (h2 : Ints .u8 w a2 n2 c2 ys) :
    Calls Try.prog 51 #[.agg #[.int .i64 k1, .slice a1 n1 c1], .agg #[.int .i64 k2, .slice a2 n2 c2]] w fun e w' => e = .returned (.bool (decide (k1 = k2 ∧ xs = ys))) ∧ Below w.heap.size w w' := by
  refine enter2 Try.func51 rfl rfl (Hp.refl w) ?_
  repeat (first | refine T_seq ?_ | refine T_region ?_)
  refine S_new tabOk rfl (fun b hb => ?_)
  refine S_new tabOk rfl (fun b2 hb2 => ?_)
  repeat (first | refine T_seq ?_ | refine T_region ?_ | refine S_nil ?_ | refine S_pure tabOk rfl ?_ | refine S_load tabOk 0 rfl rfl rfl ?_ | refine S_load tabOk 1 rfl rfl rfl ?_)
  refine S_split rfl rfl (fun h => ?_) (fun h => ?_)
  · repeat (first | refine S_pure tabOk rfl ?_ | refine S_load tabOk 0 rfl rfl rfl ?_ | refine S_load tabOk 1 rfl rfl rfl ?_)
    refine S_callq rfl Try.call94 (fun w1 hw1 => bequal_ok a1 a2 n1 c1 n2 c2 xs ys w1 (h1.ext (hw1.below (new_cons hb2 (new_cons hb new_nil)))) (h2.ext (hw1.below (new_cons hb2 (new_cons hb new_nil))))) ?_
    repeat (first | refine S_nil ?_ | refine T_ret ?_ | refine S_pure tabOk rfl ?_)
    exact ret1 rfl rfl (fun w' hw => ⟨retb (dec_eq ⟨fun hh => ⟨h, hh⟩, fun hh => hh.2⟩), hw.below (new_cons hb2 (new_cons hb new_nil))⟩)
  · repeat (first | refine S_nil ?_ | refine T_ret ?_ | refine S_pure tabOk rfl ?_ | refine S_pass rfl rfl rfl ?_)
    exact ret1 rfl rfl (fun w' hw => ⟨retb (decide_eq_false (fun hh => h hh.1)).symm, hw.below (new_cons hb2 (new_cons hb new_nil))⟩)
theorem rfsame_ok (k1 k2 : Int) (a1 a2 : Option Addr) (n1 c1 n2 c2 : Nat) (xs ys : List Int) (w : World) (h1 : Ints .u8 w a1 n1 c1 xs) (h2 : Ints .u8 w a2 n2 c2 ys) :
    Calls Try.prog 56 #[.agg #[.int .i64 k1, .slice a1 n1 c1], .agg #[.int .i64 k2, .slice a2 n2 c2]] w fun e w' => e = .returned (.bool (decide (k1 = k2 ∧ xs = ys))) ∧ Below w.heap.size w w' := by
  refine enter2 Try.func56 rfl rfl (Hp.refl w) ?_
  repeat (first | refine T_seq ?_ | refine T_region ?_)
  refine S_new tabOk rfl (fun b hb => ?_)
  refine S_new tabOk rfl (fun b2 hb2 => ?_)
  repeat (first | refine T_seq ?_ | refine T_region ?_ | refine S_nil ?_ | refine S_pure tabOk rfl ?_ | refine S_load tabOk 0 rfl rfl rfl ?_ | refine S_load tabOk 1 rfl rfl rfl ?_)
  refine S_split rfl rfl (fun h => ?_) (fun h => ?_)
  · repeat (first | refine S_pure tabOk rfl ?_ | refine S_load tabOk 0 rfl rfl rfl ?_ | refine S_load tabOk 1 rfl rfl rfl ?_)
    refine S_callq rfl Try.call21 (fun w1 hw1 => same_ok a1 a2 n1 c1 n2 c2 xs ys w1 (h1.ext (hw1.below (new_cons hb2 (new_cons hb new_nil)))) (h2.ext (hw1.below (new_cons hb2 (new_cons hb new_nil))))) ?_
    repeat (first | refine S_nil ?_ | refine T_ret ?_ | refine S_pure tabOk rfl ?_)
    exact ret1 rfl rfl (fun w' hw => ⟨retb (dec_eq ⟨fun hh => ⟨h, hh⟩, fun hh => hh.2⟩), hw.below (new_cons hb2 (new_cons hb new_nil))⟩)
  · repeat (first | refine S_nil ?_ | refine T_ret ?_ | refine S_pure tabOk rfl ?_ | refine S_pass rfl rfl rfl ?_)
    exact ret1 rfl rfl (fun w' hw => ⟨retb (decide_eq_false (fun hh => h hh.1)).symm, hw.below (new_cons hb2 (new_cons hb new_nil))⟩)

def spB (k : Int) (zs : List Int) : List Int := IntKind.u8.wrap k :: encB zs
theorem spput_ok (k : Int) (a a' : Option Addr) (n c n' c' : Nat) (zs ys : List Int) (w : World) (hw : Ints .u8 w a n c zs) (hw' : Ints .u8 w a' n' c' ys) (hn : zs.length ≤ 268435456) (hn' : ys.length ≤ 268435456) :
    Calls Try.prog 120 #[.agg #[.int .i64 k, .slice a n c], .slice a' n' c'] w fun e w' => ∃ a c, e = .returned (.slice a (ys ++ spB k zs).length c) ∧ Below w.heap.size w w' ∧ w'.ownsRow w.heap.size 5 1 (.slice a (ys ++ spB k zs).length c) (ys ++ spB k zs).length ((ys ++ spB k zs).map (.int .u8)) := by
  have hl := hw.len
  have hl' := hw'.len
  have hcap' := hw'.cap
  refine enter2 Try.func120 rfl rfl (Hp.refl w) ?_
  repeat (first | refine T_seq ?_ | refine T_region ?_)
  refine S_new tabOk rfl (fun b hb => ?_)
  repeat (first | refine T_draw (by kernel_rfl) (by kernel_rfl) ?_ | refine D_pure tabOk rfl ?_ | refine T_seq ?_ | refine S_nil ?_ | refine S_pure tabOk rfl ?_)
  refine D_q (Q_slice3 tabOk rfl rfl rfl rfl rfl rfl rfl (H := n') (M := n') rfl rfl (Nat.le_refl _) hcap') ?_
  repeat (first | refine D_pure tabOk rfl ?_ | refine D_load tabOk 0 rfl rfl rfl ?_)
  refine D_bslice tabOk rfl rfl rfl rfl rfl rfl rfl rfl rfl rfl rfl rfl ?_
  refine D_appendB (sz := 1) tabOk (xs := ys.map (.int .u8)) rfl rfl rfl rfl rfl rfl rfl rfl rfl (fun w' h => (hw'.ext (h.below (new_cons hb new_nil))).sl) (by simp only [maxLen]; omega) (by show (_ + _) * 1 ≤ _; omega) (fun e => (hw'.nil e).1) (by decide) ?_
  repeat (first | refine D_pure tabOk rfl ?_ | refine D_load tabOk 0 rfl rfl rfl ?_)
  have hkf : Fits .u8 (IntKind.u8.wrap k) := by rw [IntKind.wrap_u8]; exact fits8 (by omega)
  have hpf : ∀ z ∈ ys ++ [IntKind.u8.wrap k], Fits .u8 z := app_fits hw'.fits (fun z hz => by rw [List.mem_singleton] at hz; subst hz; exact hkf)
  have hpl : (ys ++ [IntKind.u8.wrap k]).length = n' + 1 := by rw [List.length_append, hl']; rfl
  have hcat : (ys ++ [IntKind.u8.wrap k]) ++ encB zs = ys ++ spB k zs := by rw [List.append_assoc]; rfl
  refine D_callp (Rowed w.heap.size 5 1 (ys ++ spB k zs).length ((ys ++ spB k zs).map (.int .u8))) rfl Try.call124 Rowed.stable (fun w1 vs hw1 h => ?_) ?_
  · obtain ⟨_, _, rfl, ⟨A, c1, rfl, g1, g2, g3⟩, _, _, rfl, rfl, rfl⟩ := h
    have g4 : w1.ownsRow w.heap.size 5 1 (.slice A (n' + 1) c1) (n' + 1) ((ys ++ [IntKind.u8.wrap k]).map (.int .u8)) := by rw [List.map_append]; exact g3
    have hb1 := pbytes_ok A a (n' + 1) c1 n c (ys ++ [IntKind.u8.wrap k]) zs w1 (ints_of_own g4 hpf) (hw.ext (hw1.below (new_cons hb new_nil))) (by omega) (by omega)
    rw [hcat] at hb1
    exact hb1.mono fun e w' ⟨A2, C2, e1, e2, e3⟩ => ⟨_, e1, e2, A2, C2, rfl, by obtain ⟨_, _, q1, q2, q3⟩ := form_of_own e3; cases q1; exact q2, by obtain ⟨_, _, q1, q2, q3⟩ := form_of_own e3; cases q1; exact q3, own_rebase e3 hw1.size⟩
  refine D_mvp rfl (.inr rfl) rfl Rowed.stable ?_
  refine D_fin (fun w1 hw1 f hf => ?_)
  obtain ⟨A, C, e1, e2, e3, e4⟩ := hf 4 _ rfl
  refine ⟨_, [.row w.heap.size (.slice A (ys ++ spB k zs).length C) 5 1 (ys ++ spB k zs).length ((ys ++ spB k zs).map (.int .u8))], rfl, ?_, ?_⟩
  · have g1 := hw1.drop (fun _ k hk => by simp only [HE.has, Option.some.injEq] at hk; omega)
    exact g1.more (x := .row w.heap.size (.slice A (ys ++ spB k zs).length C) 5 1 (ys ++ spB k zs).length ((ys ++ spB k zs).map (.int .u8))) e4 (fun e he => by cases he)
  rw [e1]
  repeat (first | refine T_ret ?_)
  exact ret1 rfl rfl (fun w' h => ⟨A, C, rfl, h.below (newrow h 0 rfl (Nat.le_refl _) new_nil), h.own _ (getE_mem (i := 0) rfl)⟩)

abbrev Rspan : Rep (Int × List Int) := Rpair (Rint .i64) (Rslice (Rint .u8))
abbrev Rid : Rep (Int × Int) := Rpair (Rint .i64) (Rint .u64)
abbrev spV (k : Int) (a : Option Addr) (n c : Nat) : Value := .agg #[.int .i64 k, .slice a n c]
theorem span_form {w : World} {A : Nat → Prop} {v : Value} {x : Int × List Int} (h : Rspan.val w A v x) : ∃ a n c, v = spV x.1 a n c ∧ Fits .i64 x.1 ∧ SlR (Rint .u8) w A a n c x.2 := by
  obtain ⟨cs, rfl, c1, c2, rfl, ⟨rfl, hk⟩, a, n, c, rfl, hx⟩ := h
  exact ⟨a, n, c, rfl, hk, hx⟩
theorem id_form {w : World} {A : Nat → Prop} {v : Value} {x : Int × Int} (h : Rid.val w A v x) : v = .agg #[.int .i64 x.1, .int .u64 x.2] ∧ Fits .i64 x.1 ∧ Fits .u64 x.2 := by
  obtain ⟨cs, rfl, c1, c2, rfl, ⟨rfl, hk⟩, rfl, hx⟩ := h
  exact ⟨rfl, hk, hx⟩
theorem spB_hi : spB 2 [104, 105] = [2, 2, 104, 105] := by
  unfold spB encB
  rw [enc_small (by decide)]
  rfl

/-- the error, the span, how many were read -/
def getS (e : Int) (zs : List Int) : Int × (Int × List Int) × Nat :=
  let b := by1 e zs
  let r := rdB (if 8 ≤ b.2.1 then (if b.1 = 0 then 2 else b.1) else b.1) (zs.drop b.2.2) 4096
  (r.1, (if r.1 = 0 then (b.2.1, r.2.1) else (0, [])), b.2.2 + r.2.2)
theorem by1_bd {e : Int} {zs : List Int} (h : ∀ z ∈ zs, Fits .u8 z) : 0 ≤ (by1 e zs).2.1 ∧ (by1 e zs).2.1 ≤ 255 ∧ (by1 e zs).2.2 ≤ zs.length := by
  unfold by1
  split
  · exact ⟨Int.le_refl (0 : Int), (by show (0 : Int) ≤ 255; decide), Nat.zero_le _⟩
  · cases zs with
    | nil => exact ⟨Int.le_refl (0 : Int), (by show (0 : Int) ≤ 255; decide), Nat.zero_le _⟩
    | cons z zs => have := fits_u8 (h z List.mem_cons_self); exact ⟨this.1, this.2, by simp⟩
theorem SlR.noBlk {w : World} {N C : Nat} {A : Option Addr} {all : List Int} (hA : Ints .u8 w A N C all) {b : Nat} (hap : 0 < N → ∀ b' off, A = some ⟨b', off, none⟩ → b' ≠ b) : ((Rslice (Rint .u8)).vp all).at_ w (fun k => k ≠ b) (.slice A N C) :=
  SlR.val (.of_ints hA fun b' off hn e => hap hn b' off e)
set_option maxHeartbeats 1000000 in
theorem get_ok (b : Nat) (a : Option Addr) (n c : Nat) (A : Option Addr) (N C k : Nat) (all : List Int) (e : Int) (w : World) (hb : w.heap[b]? = some (inO a n c e)) (hs : Suf A N C k a n c) (hA : Ints .u8 w A N C all) (hap : ∀ b' off, A = some ⟨b', off, none⟩ → b' ≠ b) (hN : N ≤ 1073741824) :
    Calls Try.prog 121 #[.pointer (some ⟨b, 0, none⟩)] w fun en w' => ∃ a' n' c' ra rc, en = .returned (spV (getS e (all.drop k)).2.1.1 ra (getS e (all.drop k)).2.1.2.length rc) ∧ Suf A N C (k + (getS e (all.drop k)).2.2) a' n' c' ∧
      Hp w w' [.row w.heap.size (.slice ra (getS e (all.drop k)).2.1.2.length rc) 5 1 (getS e (all.drop k)).2.1.2.length ((getS e (all.drop k)).2.1.2.map (.int .u8)), .blk b (inO a' n' c' (getS e (all.drop k)).1) true] := by
  have hzf : ∀ z ∈ all.drop k, Fits .u8 z := fun z hz => hA.fits z (List.mem_of_mem_drop hz)
  obtain ⟨q, hq⟩ : ∃ q, q = getS e (all.drop k) := ⟨_, rfl⟩
  rw [← hq]
  unfold getS at hq
  have hbd := by1_bd (e := e) hzf
  obtain ⟨⟨e1, z, u1⟩, h1⟩ : ∃ q, by1 e (all.drop k) = q := ⟨_, rfl⟩
  rw [h1] at hq hbd
  dsimp only at hq hbd
  rw [List.drop_drop] at hq
  obtain ⟨F, hF, hst⟩ := Hp.startV hb (SlR.noBlk hA (fun _ => hap)) (fun h => h rfl)
  refine enter1 Try.func121 rfl rfl hst ?_
  repeat (first | refine T_seq ?_ | refine T_region ?_)
  refine S_new tabOk rfl (fun b2 hb2 => ?_)
  repeat (first | refine T_seq ?_ | refine T_region ?_ | refine S_nil ?_ | refine S_pure tabOk rfl ?_)
  refine S_callobj 1 rfl Try.call61 rfl (fun w1 g => (inbyte_ok b a n c A N C k all e w1 (g.own _ (getE_mem (i := 1) rfl)) hs (SlR.of_val (Vp.fact0 (p := (Rslice (Rint .u8)).vp all) g 2 rfl)).ints hap hN).mono fun en w' ⟨a1, n1, c1, g2, g3, g4⟩ => ⟨_, _, g2, g4, _, rfl, ?_⟩)
  rw [h1] at g3 ⊢
  dsimp only at g3 ⊢
  repeat (first | refine S_i64 tabOk rfl (by omega) ?_ | refine S_q (Q_build tabOk rfl rfl rfl rfl rfl rfl rfl) ?_)
  refine S_new tabOk rfl (fun b3 hb3 => ?_)
  repeat (first | refine T_seq ?_ | refine T_region ?_ | refine S_nil ?_ | refine S_pure tabOk rfl ?_ | refine S_load tabOk 0 rfl rfl rfl ?_ | refine S_store tabOk 0 rfl rfl rfl rfl rfl rfl ?_)
  refine T_cut (ι := Int) (fun e' => e' = if 8 ≤ z then (if e1 = 0 then 2 else e1) else e1) (fun _ => [(0, .pointer (some ⟨b, 0, none⟩)), (2, .pointer (some ⟨b2, 0, none⟩)), (3, .pointer (some ⟨b3, 0, none⟩))])
    (fun e' => [.blk b3 (.cells ⟨[.int .i64 z, .slice none 0 0]⟩ 52 (0, 0)) true, .blk b2 (.cells ⟨[.int .i64 0, .slice none 0 0]⟩ 52 (0, 0)) true, .blk b (inO a1 n1 c1 e') true, .rep (fun w => ((Rslice (Rint .u8)).vp all).at_ w F (.slice A N C)) F false]) ?_ ?_
  · refine T_cond_dec rfl (fun h8 => ?_) (fun h8 => ?_)
    · repeat (first | refine T_region ?_ | refine S_pure tabOk rfl ?_)
      refine S_callobj 2 rfl Try.call98 rfl (fun w1 g => (fail_ok b a1 n1 c1 e1 2 w1 (g.own _ (getE_mem (i := 2) rfl))).mono fun en w' ⟨g5, g6⟩ => ⟨_, _, g5, g6, _, rfl, ?_⟩)
      repeat (first | refine S_nil ?_)
      exact ⟨_, (if_pos h8).symm, by repeat (first | exact Sub.nil | refine Sub.cons rfl ?_), fun w' hw => hw⟩
    · repeat (first | refine pthen_normal ?_ | refine T_skip ?_)
      exact ⟨_, (if_neg h8).symm, by repeat (first | exact Sub.nil | refine Sub.cons rfl ?_), fun w' hw => hw⟩
  rintro e' he'
  rw [← he'] at hq
  have hkn1 := g3.kn
  repeat (first | refine T_seq ?_ | refine T_region ?_ | refine S_pure tabOk rfl ?_)
  refine S_callobjR 2 rfl Try.call125 rfl (fun w1 g => (inbytes_ok b a1 n1 c1 A N C (k + u1) all e' 4096 w1 (g.own _ (getE_mem (i := 2) rfl)) g3 (SlR.of_val (Vp.fact0 (p := (Rslice (Rint .u8)).vp all) g 3 rfl)).ints hap hN (by decide)).mono fun en w' ⟨a2, n2, c2, ra, rc, g5, g6, g7⟩ => ⟨_, _, _, _, _, _, _, g5, g7, _, rfl, ?_⟩)
  obtain ⟨⟨e2, bs, u2⟩, h2⟩ : ∃ r, rdB e' (all.drop (k + u1)) 4096 = r := ⟨_, rfl⟩
  rw [h2] at g6 hq ⊢
  dsimp only at g6 hq ⊢
  rw [Nat.add_assoc] at g6
  subst hq
  dsimp only
  repeat (first | refine T_seq ?_ | refine T_region ?_ | refine S_nil ?_ | refine S_pure tabOk rfl ?_ | refine S_store tabOk 1 rfl rfl rfl rfl rfl rfl ?_)
  refine S_callq rfl Try.call97 (fun w1 g => err_ok b a2 n2 c2 e2 w1 (g.own _ (getE_mem (i := 3) rfl))) ?_
  repeat (first | refine S_nil ?_ | refine S_pure tabOk rfl ?_)
  refine T_cond_dec rfl (fun he => ?_) (fun he => ?_)
  · rw [if_neg he]
    repeat (first | refine T_seq ?_ | refine T_region ?_ | refine S_nil ?_ | refine pthen_ret ?_ | refine T_ret ?_ | refine S_store tabOk 2 rfl rfl rfl rfl rfl rfl ?_ | refine S_q (Q_build tabOk rfl rfl rfl rfl rfl rfl rfl) ?_)
    exact ret1 rfl (res_cell tabOk 2 rfl rfl rfl rfl) (fun w' hw => ⟨a2, n2, c2, none, 0, rfl, g6, Hp.nilRow (hw.less (by repeat (first | exact Less.nil | refine Less.keep ?_ | refine Less.dropR ?_ | refine Less.dropB (by first | assumption | omega) ?_ | refine Less.dropW (Nat.le_refl _) ?_))) _ _⟩)
  · have he0 : e2 = 0 := Classical.byContradiction he
    rw [if_pos he0]
    repeat (first | refine T_seq ?_ | refine T_region ?_ | refine S_nil ?_ | refine pthen_normal ?_ | refine T_skip ?_ | refine T_ret ?_ | refine S_load tabOk 1 rfl rfl rfl ?_ | refine S_store tabOk 2 rfl rfl rfl rfl rfl rfl ?_)
    exact ret1 rfl (res_cell tabOk 2 rfl rfl rfl rfl) (fun w' hw => ⟨a2, n2, c2, ra, rc, rfl, g6, hw.less (by repeat (first | exact Less.nil | refine Less.keep ?_ | refine Less.dropR ?_ | refine Less.dropB (by first | assumption | omega) ?_))⟩)
set_option maxHeartbeats 1000000 in
theorem rget_ok (b : Nat) (a : Option Addr) (n c j : Nat) (e : Int) (zs : List Int) (w : World) (hb : w.heap[b]? = some (rfO a n c j e)) (hw : Ints .u8 w a n c zs) (hap : 0 < n → ∀ b' off, a = some ⟨b', off, none⟩ → b' ≠ b) (hj : j ≤ n) (hn : n ≤ 1073741824) :
    Calls Try.prog 102 #[.pointer (some ⟨b, 0, none⟩)] w fun en w' => ∃ ra rc, en = .returned (spV (getS e (zs.drop j)).2.1.1 ra (getS e (zs.drop j)).2.1.2.length rc) ∧
      Hp w w' [.row w.heap.size (.slice ra (getS e (zs.drop j)).2.1.2.length rc) 5 1 (getS e (zs.drop j)).2.1.2.length ((getS e (zs.drop j)).2.1.2.map (.int .u8)), .blk b (rfO a n c (j + (getS e (zs.drop j)).2.2) (getS e (zs.drop j)).1) true] := by
  have hzl := hw.len
  have hzf : ∀ z ∈ zs.drop j, Fits .u8 z := fun z hz => hw.fits z (List.mem_of_mem_drop hz)
  obtain ⟨q, hq⟩ : ∃ q, q = getS e (zs.drop j) := ⟨_, rfl⟩
  rw [← hq]
  unfold getS at hq
  have hbd := by1_bd (e := e) hzf
  obtain ⟨⟨e1, z, u1⟩, h1⟩ : ∃ q, by1 e (zs.drop j) = q := ⟨_, rfl⟩
  rw [h1] at hq hbd
  dsimp only at hq hbd
  rw [List.drop_drop] at hq
  rw [List.length_drop] at hbd
  obtain ⟨F, hF, hst⟩ := Hp.startV hb (SlR.noBlk hw hap) (fun h => h rfl)
  refine enter1 Try.func102 rfl rfl hst ?_
  repeat (first | refine T_seq ?_ | refine T_region ?_)
  refine S_new tabOk rfl (fun b2 hb2 => ?_)
  repeat (first | refine T_seq ?_ | refine T_region ?_ | refine S_nil ?_ | refine S_pure tabOk rfl ?_)
  refine S_callobj 1 rfl Try.call66 rfl (fun w1 g => (rbyte_ok b a n c j e zs w1 (g.own _ (getE_mem (i := 1) rfl)) (SlR.of_val (Vp.fact0 (p := (Rslice (Rint .u8)).vp zs) g 2 rfl)).ints hap hj hn).mono fun en w' ⟨g2, g4⟩ => ⟨_, _, g2, g4, _, rfl, ?_⟩)
  rw [h1]
  dsimp only
  repeat (first | refine T_seq ?_ | refine T_region ?_ | refine S_nil ?_ | refine S_pure tabOk rfl ?_)
  refine T_cut (ι := Int) (fun e' => e' = if 8 ≤ z then (if e1 = 0 then 2 else e1) else e1) (fun _ => [(0, .pointer (some ⟨b, 0, none⟩)), (2, .pointer (some ⟨b2, 0, none⟩)), (3, .int .u8 z)])
    (fun e' => [.blk b2 (.cells ⟨[.int .i64 0, .slice none 0 0]⟩ 96 (0, 0)) true, .blk b (rfO a n c (j + u1) e') true, .rep (fun w => ((Rslice (Rint .u8)).vp zs).at_ w F (.slice a n c)) F false]) ?_ ?_
  · refine T_cond_dec rfl (fun h8 => ?_) (fun h8 => ?_)
    · repeat (first | refine T_region ?_ | refine S_pure tabOk rfl ?_)
      refine S_callobj 1 rfl Try.call103 rfl (fun w1 g => (rfail_ok b a n c (j + u1) e1 2 w1 (g.own _ (getE_mem (i := 1) rfl))).mono fun en w' ⟨g5, g6⟩ => ⟨_, _, g5, g6, _, rfl, ?_⟩)
      repeat (first | refine S_nil ?_)
      exact ⟨_, (if_pos (by omega)).symm, by repeat (first | exact Sub.nil | refine Sub.cons rfl ?_), fun w' hw => hw⟩
    · repeat (first | refine pthen_normal ?_ | refine T_skip ?_)
      exact ⟨_, (if_neg (by omega)).symm, by repeat (first | exact Sub.nil | refine Sub.cons rfl ?_), fun w' hw => hw⟩
  rintro e' he'
  rw [← he'] at hq
  repeat (first | refine T_seq ?_ | refine T_region ?_ | refine S_pure tabOk rfl ?_)
  refine S_callobjR 1 rfl Try.call116 rfl (fun w1 g => (rsome_ok b a n c (j + u1) e' 4096 zs w1 (g.own _ (getE_mem (i := 1) rfl)) (SlR.of_val (Vp.fact0 (p := (Rslice (Rint .u8)).vp zs) g 2 rfl)).ints hap (by omega) hn (by decide)).mono fun en w' ⟨ra, rc, g5, g7⟩ => ⟨_, _, _, _, _, _, _, g5, g7, _, rfl, ?_⟩)
  obtain ⟨⟨e2, bs, u2⟩, h2⟩ : ∃ r, rdB e' (zs.drop (j + u1)) 4096 = r := ⟨_, rfl⟩
  rw [h2] at hq ⊢
  dsimp only at hq ⊢
  rw [Nat.add_assoc]
  subst hq
  dsimp only
  repeat (first | refine T_seq ?_ | refine T_region ?_ | refine S_nil ?_ | refine S_pure tabOk rfl ?_ | refine S_load tabOk 2 rfl rfl rfl ?_)
  refine T_cond_dec rfl (fun he => ?_) (fun he => ?_)
  · rw [if_neg he]
    repeat (first | refine T_seq ?_ | refine T_region ?_ | refine S_nil ?_ | refine pthen_ret ?_ | refine T_ret ?_ | refine S_store tabOk 1 rfl rfl rfl rfl rfl rfl ?_ | refine S_q (Q_build tabOk rfl rfl rfl rfl rfl rfl rfl) ?_)
    exact ret1 rfl (res_cell tabOk 1 rfl rfl rfl rfl) (fun w' hw => ⟨none, 0, rfl, Hp.nilRow (hw.less (by repeat (first | exact Less.nil | refine Less.keep ?_ | refine Less.dropR ?_ | refine Less.dropB (by first | assumption | omega) ?_ | refine Less.dropW (Nat.le_refl _) ?_))) _ _⟩)
  · have he0 : e2 = 0 := Classical.byContradiction he
    rw [if_pos he0]
    repeat (first | refine T_seq ?_ | refine T_region ?_ | refine S_nil ?_ | refine pthen_normal ?_ | refine T_skip ?_ | refine T_ret ?_ | refine S_i64 tabOk rfl (by omega) ?_ | refine S_pure tabOk rfl ?_ | refine S_store tabOk 1 rfl rfl rfl rfl rfl rfl ?_ | refine S_q (Q_build tabOk rfl rfl rfl rfl rfl rfl rfl) ?_)
    exact ret1 rfl (res_cell tabOk 1 rfl rfl rfl rfl) (fun w' hw => ⟨ra, rc, rfl, hw.less (by repeat (first | exact Less.nil | refine Less.keep ?_ | refine Less.dropR ?_ | refine Less.dropB (by first | assumption | omega) ?_))⟩)

abbrev itV (N : Int) (k : Int) (a : Option Addr) (n c : Nat) : Value := .agg #[.int .u64 N, .int .i64 k, .slice a n c]
/-- the error, the item, how many were read -/
def getI (e : Int) (zs : List Int) : Int × (Nat × (Int × List Int)) × Nat :=
  let r := rd e zs
  let s := getS r.1 (zs.drop r.2.2)
  (s.1, (if s.1 = 0 then (r.2.1, s.2.1) else (0, (0, []))), r.2.2 + s.2.2)
theorem rd_bd {e : Int} {zs : List Int} (h : ∀ z ∈ zs, Fits .u8 z) : (rd e zs).2.1 < 18446744073709551616 ∧ (rd e zs).2.2 ≤ zs.length := by
  unfold rd
  split
  · exact dec_bounds h
  · exact ⟨by show 0 < _; decide, Nat.zero_le _⟩
set_option maxHeartbeats 1000000 in
theorem getitem_ok (b : Nat) (a : Option Addr) (n c : Nat) (A : Option Addr) (N C k : Nat) (all : List Int) (e : Int) (w : World) (hb : w.heap[b]? = some (inO a n c e)) (hs : Suf A N C k a n c) (hA : Ints .u8 w A N C all) (hap : ∀ b' off, A = some ⟨b', off, none⟩ → b' ≠ b) (hN : N ≤ 1073741824) :
    Calls Try.prog 114 #[.pointer (some ⟨b, 0, none⟩)] w fun en w' => ∃ a' n' c' ra rc, en = .returned (itV (getI e (all.drop k)).2.1.1 (getI e (all.drop k)).2.1.2.1 ra (getI e (all.drop k)).2.1.2.2.length rc) ∧ Suf A N C (k + (getI e (all.drop k)).2.2) a' n' c' ∧
      Hp w w' [.row w.heap.size (.slice ra (getI e (all.drop k)).2.1.2.2.length rc) 5 1 (getI e (all.drop k)).2.1.2.2.length ((getI e (all.drop k)).2.1.2.2.map (.int .u8)), .blk b (inO a' n' c' (getI e (all.drop k)).1) true] := by
  have hzf : ∀ z ∈ all.drop k, Fits .u8 z := fun z hz => hA.fits z (List.mem_of_mem_drop hz)
  obtain ⟨q, hq⟩ : ∃ q, q = getI e (all.drop k) := ⟨_, rfl⟩
  rw [← hq]
  unfold getI at hq
  have hbd := rd_bd (e := e) hzf
  obtain ⟨⟨e1, v, u1⟩, h1⟩ : ∃ q, rd e (all.drop k) = q := ⟨_, rfl⟩
  rw [h1] at hq hbd
  dsimp only at hq hbd
  rw [List.drop_drop] at hq
  obtain ⟨F, hF, hst⟩ := Hp.startV hb (SlR.noBlk hA (fun _ => hap)) (fun h => h rfl)
  refine enter1 Try.func114 rfl rfl hst ?_
  repeat (first | refine T_seq ?_ | refine T_region ?_)
  refine S_new tabOk rfl (fun b2 hb2 => ?_)
  repeat (first | refine T_seq ?_ | refine T_region ?_ | refine S_nil ?_ | refine S_pure tabOk rfl ?_)
  refine S_callobj 1 rfl Try.call63 rfl (fun w1 g => (innum_ok b a n c A N C k all e w1 (g.own _ (getE_mem (i := 1) rfl)) hs (SlR.of_val (Vp.fact0 (p := (Rslice (Rint .u8)).vp all) g 2 rfl)).ints hap hN).mono fun en w' ⟨a1, n1, c1, g2, g3, g4⟩ => ⟨_, _, g2, g4, _, rfl, ?_⟩)
  rw [h1] at g3 ⊢
  dsimp only at g3 ⊢
  repeat (first | refine S_q (Q_build tabOk rfl rfl rfl rfl rfl rfl rfl) ?_)
  refine S_new tabOk rfl (fun b3 hb3 => ?_)
  repeat (first | refine T_seq ?_ | refine T_region ?_ | refine S_nil ?_ | refine S_pure tabOk rfl ?_ | refine S_store tabOk 0 rfl rfl rfl rfl rfl rfl ?_)
  refine S_callobjR 2 rfl Try.call121 rfl (fun w1 g => (get_ok b a1 n1 c1 A N C (k + u1) all e1 w1 (g.own _ (getE_mem (i := 2) rfl)) g3 (SlR.of_val (Vp.fact0 (p := (Rslice (Rint .u8)).vp all) g 3 rfl)).ints hap hN).mono fun en w' ⟨a2, n2, c2, ra, rc, g5, g6, g7⟩ => ⟨_, _, _, _, _, _, _, g5, g7, _, rfl, ?_⟩)
  obtain ⟨⟨e2, ⟨kk, bs⟩, u2⟩, h2⟩ : ∃ r, getS e1 (all.drop (k + u1)) = r := ⟨_, rfl⟩
  rw [h2] at g6 hq ⊢
  dsimp only at g6 hq ⊢
  rw [Nat.add_assoc] at g6
  subst hq
  dsimp only
  repeat (first | refine T_seq ?_ | refine T_region ?_ | refine S_nil ?_ | refine S_pure tabOk rfl ?_ | refine S_store tabOk 1 rfl rfl rfl rfl rfl rfl ?_)
  refine S_callq rfl Try.call97 (fun w1 g => err_ok b a2 n2 c2 e2 w1 (g.own _ (getE_mem (i := 3) rfl))) ?_
  repeat (first | refine S_nil ?_ | refine S_pure tabOk rfl ?_)
  refine T_cond_dec rfl (fun he => ?_) (fun he => ?_)
  · rw [if_neg he]
    repeat (first | refine T_seq ?_ | refine T_region ?_ | refine S_nil ?_ | refine pthen_ret ?_ | refine T_ret ?_ | refine S_store tabOk 2 rfl rfl rfl rfl rfl rfl ?_ | refine S_q (Q_build tabOk rfl rfl rfl rfl rfl rfl rfl) ?_)
    exact ret1 rfl (res_cell tabOk 2 rfl rfl rfl rfl) (fun w' hw => ⟨a2, n2, c2, none, 0, rfl, g6, Hp.nilRow (hw.less (by repeat (first | exact Less.nil | refine Less.keep ?_ | refine Less.dropR ?_ | refine Less.dropB (by first | assumption | omega) ?_ | refine Less.dropW (Nat.le_refl _) ?_))) _ _⟩)
  · have he0 : e2 = 0 := Classical.byContradiction he
    rw [if_pos he0]
    repeat (first | refine T_seq ?_ | refine T_region ?_ | refine S_nil ?_ | refine pthen_normal ?_ | refine T_skip ?_ | refine T_ret ?_ | refine S_load tabOk 1 rfl rfl rfl ?_ | refine S_store tabOk 2 rfl rfl rfl rfl rfl rfl ?_)
    exact ret1 rfl (res_cell tabOk 2 rfl rfl rfl rfl) (fun w' hw => ⟨a2, n2, c2, ra, rc, rfl, g6, hw.less (by repeat (first | exact Less.nil | refine Less.keep ?_ | refine Less.dropR ?_ | refine Less.dropB (by first | assumption | omega) ?_))⟩)
set_option maxHeartbeats 1000000 in
theorem rgetitem_ok (b : Nat) (a : Option Addr) (n c j : Nat) (e : Int) (zs : List Int) (w : World) (hb : w.heap[b]? = some (rfO a n c j e)) (hw : Ints .u8 w a n c zs) (hap : 0 < n → ∀ b' off, a = some ⟨b', off, none⟩ → b' ≠ b) (hj : j ≤ n) (hn : n ≤ 1073741824) :
    Calls Try.prog 69 #[.pointer (some ⟨b, 0, none⟩)] w fun en w' => ∃ ra rc, en = .returned (itV (getI e (zs.drop j)).2.1.1 (getI e (zs.drop j)).2.1.2.1 ra (getI e (zs.drop j)).2.1.2.2.length rc) ∧
      Hp w w' [.row w.heap.size (.slice ra (getI e (zs.drop j)).2.1.2.2.length rc) 5 1 (getI e (zs.drop j)).2.1.2.2.length ((getI e (zs.drop j)).2.1.2.2.map (.int .u8)), .blk b (rfO a n c (j + (getI e (zs.drop j)).2.2) (getI e (zs.drop j)).1) true] := by
  have hzl := hw.len
  have hzf : ∀ z ∈ zs.drop j, Fits .u8 z := fun z hz => hw.fits z (List.mem_of_mem_drop hz)
  obtain ⟨q, hq⟩ : ∃ q, q = getI e (zs.drop j) := ⟨_, rfl⟩
  rw [← hq]
  unfold getI at hq
  have hbd := rd_bd (e := e) hzf
  obtain ⟨⟨e1, v, u1⟩, h1⟩ : ∃ q, rd e (zs.drop j) = q := ⟨_, rfl⟩
  rw [h1] at hq hbd
  dsimp only at hq hbd
  rw [List.drop_drop] at hq
  rw [List.length_drop] at hbd
  obtain ⟨F, hF, hst⟩ := Hp.startV hb (SlR.noBlk hw hap) (fun h => h rfl)
  refine enter1 Try.func69 rfl rfl hst ?_
  repeat (first | refine T_seq ?_ | refine T_region ?_)
  refine S_new tabOk rfl (fun b2 hb2 => ?_)
  repeat (first | refine T_seq ?_ | refine T_region ?_ | refine S_nil ?_ | refine S_pure tabOk rfl ?_)
  refine S_callobj 1 rfl Try.call68 rfl (fun w1 g => (rnumber_ok b a n c j e zs w1 (g.own _ (getE_mem (i := 1) rfl)) (SlR.of_val (Vp.fact0 (p := (Rslice (Rint .u8)).vp zs) g 2 rfl)).ints hap hj hn).mono fun en w' ⟨g2, g4⟩ => ⟨_, _, g2, g4, _, rfl, ?_⟩)
  rw [h1]
  dsimp only
  repeat (first | refine T_seq ?_ | refine T_region ?_ | refine S_nil ?_ | refine S_pure tabOk rfl ?_)
  refine S_callobjR 1 rfl Try.call102 rfl (fun w1 g => (rget_ok b a n c (j + u1) e1 zs w1 (g.own _ (getE_mem (i := 1) rfl)) (SlR.of_val (Vp.fact0 (p := (Rslice (Rint .u8)).vp zs) g 2 rfl)).ints hap (by omega) hn).mono fun en w' ⟨ra, rc, g5, g7⟩ => ⟨_, _, _, _, _, _, _, g5, g7, _, rfl, ?_⟩)
  obtain ⟨⟨e2, ⟨kk, bs⟩, u2⟩, h2⟩ : ∃ r, getS e1 (zs.drop (j + u1)) = r := ⟨_, rfl⟩
  rw [h2] at hq ⊢
  dsimp only at hq ⊢
  rw [Nat.add_assoc]
  subst hq
  dsimp only
  skip
  refine S_new tabOk rfl (fun b4 hb4 => ?_)
  repeat (first | refine T_seq ?_ | refine T_region ?_ | refine S_nil ?_ | refine S_pure tabOk rfl ?_ | refine S_load tabOk 3 rfl rfl rfl ?_ | refine S_store tabOk 0 rfl rfl rfl rfl rfl rfl ?_)
  refine T_cond_dec rfl (fun he => ?_) (fun he => ?_)
  · rw [if_neg he]
    repeat (first | refine T_seq ?_ | refine T_region ?_ | refine S_nil ?_ | refine pthen_ret ?_ | refine T_ret ?_ | refine S_store tabOk 2 rfl rfl rfl rfl rfl rfl ?_ | refine S_q (Q_build tabOk rfl rfl rfl rfl rfl rfl rfl) ?_)
    exact ret1 rfl (res_cell tabOk 2 rfl rfl rfl rfl) (fun w' hw => ⟨none, 0, rfl, Hp.nilRow (hw.less (by repeat (first | exact Less.nil | refine Less.keep ?_ | refine Less.dropR ?_ | refine Less.dropB (by first | assumption | omega) ?_ | refine Less.dropW (Nat.le_refl _) ?_))) _ _⟩)
  · have he0 : e2 = 0 := Classical.byContradiction he
    rw [if_pos he0]
    repeat (first | refine T_seq ?_ | refine T_region ?_ | refine S_nil ?_ | refine pthen_normal ?_ | refine T_skip ?_ | refine T_ret ?_ | refine S_pure tabOk rfl ?_ | refine S_load tabOk 0 rfl rfl rfl ?_ | refine S_store tabOk 2 rfl rfl rfl rfl rfl rfl ?_ | refine S_q (Q_build tabOk rfl rfl rfl rfl rfl rfl rfl) ?_)
    exact ret1 rfl (res_cell tabOk 2 rfl rfl rfl rfl) (fun w' hw => ⟨ra, rc, rfl, hw.less (by repeat (first | exact Less.nil | refine Less.keep ?_ | refine Less.dropR ?_ | refine Less.dropB (by first | assumption | omega) ?_))⟩)

theorem closed_no {ops : List Oper} {L : Nat → Bool} (hc : Closed ops L) {j : Nat} {p : Oper} (hj : ops[j]? = some p) (e : Edge) (he : e ∈ p.after.toList) (hb : Region.binds .any e = true) (hl : L e.on = false) : L j = false := by
  cases h : L j with
  | false => rfl
  | true => rw [hc j p hj h e he hb] at hl; cases hl
theorem spB_fits {k : Int} {zs : List Int} (h : ∀ z ∈ zs, Fits .u8 z) : ∀ z ∈ spB k zs, Fits .u8 z := fun z hz => by
  rcases List.mem_cons.1 hz with rfl | hz
  · rw [IntKind.wrap_u8]; exact fits8 (by omega)
  · exact encB_fits h z hz
theorem spB_len (k : Int) (zs : List Int) (h : zs.length < 18446744073709551616) : (spB k zs).length ≤ zs.length + 11 := by
  have := enc_len10 h
  unfold spB encB
  simp only [List.length_cons, List.length_append]
  omega
theorem itput_ok (N : Nat) (k : Int) (a a' : Option Addr) (n c n' c' : Nat) (zs ys : List Int) (w : World) (hw : Ints .u8 w a n c zs) (hw' : Ints .u8 w a' n' c' ys) (hn : zs.length ≤ 268435456) (hn' : ys.length ≤ 134217728) (hN : N < 18446744073709551616) :
    Calls Try.prog 113 #[itV N k a n c, .slice a' n' c'] w fun e w' => ∃ a c, e = .returned (.slice a (ys ++ enc N ++ spB k zs).length c) ∧ Below w.heap.size w w' ∧ w'.ownsRow w.heap.size 5 1 (.slice a (ys ++ enc N ++ spB k zs).length c) (ys ++ enc N ++ spB k zs).length ((ys ++ enc N ++ spB k zs).map (.int .u8)) := by
  have hel := enc_len10 hN
  have hyf : ∀ z ∈ ys ++ enc N, Fits .u8 z := app_fits hw'.fits (enc_fits N)
  have hyl : (ys ++ enc N).length ≤ 268435456 := by rw [List.length_append]; omega
  refine enter2 Try.func113 rfl rfl (Hp.refl w) ?_
  repeat (first | refine T_seq ?_ | refine T_region ?_)
  refine S_new tabOk rfl (fun b2 hb2 => ?_)
  repeat (first | refine T_seq ?_ | refine S_nil ?_ | refine S_pure tabOk rfl ?_)
  obtain ⟨L1, hL1⟩ : ∃ L, L = ys ++ enc N := ⟨_, rfl⟩
  obtain ⟨L2, hL2⟩ : ∃ L, L = L1 ++ spB k zs := ⟨_, rfl⟩
  rw [← hL1, ← hL2]
  rw [← hL1] at hyf hyl
  let lst : Bool → Bool → Bool → Value × Unit → Value × Unit → Value × Unit → OL := fun l5 l6 l7 x5 x6 x7 =>
    .blk b2 (.cells ⟨[.int .u64 (N : Int), .int .i64 k, .slice a n c]⟩ 54 (0, 0)) true :: (cond l5 [.row w.heap.size x5.1 5 1 L1.length (L1.map (.int .u8))] [] ++ (cond l6 [.row w.heap.size x6.1 5 1 L2.length (L2.map (.int .u8))] [] ++ cond l7 [factE (x7.1 = x6.1)] []))
  refine T_drawF (γ := Unit) (by kernel_rfl) (by kernel_rfl) () (fun L f => lst (L 5) (L 6) (L 7) (f 5) (f 6) (f 7)) rfl [some (.pointer (some ⟨b2, 1, none⟩)), some (spV k a n c), some (.slice a' n' c'), some (.pointer (some ⟨b2, 0, none⟩)), some (.int .u64 (N : Int)), none, none, none] ?_ ?_
  · refine ⟨?_, ?_, ?_, ?_, ?_, ?_, ?_, ?_, trivial⟩
    · exact fun L f hc hl hp => OpA.told () rfl (D_pure tabOk rfl D_last) rfl
    · exact fun L f hc hl hp => OpA.told () rfl (D_load tabOk 0 rfl rfl rfl D_last) rfl
    · exact fun L f hc hl hp => OpA.told () rfl (D_pure tabOk rfl D_last) rfl
    · exact fun L f hc hl hp => OpA.told () rfl (D_pure tabOk rfl D_last) rfl
    · exact fun L f hc hl hp => OpA.told () rfl (D_load tabOk 0 rfl rfl rfl D_last) rfl
    · intro L f hc hl hp
      have h6 := closed_no hc (j := 6) rfl ⟨5, .chain⟩ (by simp) rfl hl
      have h7 := closed_no hc (j := 7) rfl ⟨5, .phase⟩ (by simp) rfl hl
      show OpA _ _ _ _ (lst (L 5) (L 6) (L 7) (f 5) (f 6) (f 7)) (fun y => lst true (L 6) (L 7) y (f 6) (f 7)) _ _ _
      rw [hl, h6, h7]
      refine OpA.callrow rfl Try.call55 (fun w1 vs hw1 h => by
        obtain ⟨u1, _, rfl, rfl, u2, _, rfl, rfl, rfl⟩ := h
        have := num_ok a' n' c' ys N w1 (hw'.ext (hw1.below (by repeat (first | exact new_nil | refine new_cons (by first | assumption | omega) ?_)))) (by omega) hN
        rw [← hL1] at this
        exact this) (fun w1 v hw1 => ⟨(), hw1.perm (by repeat (first | exact List.Perm.refl _ | refine (List.Perm.swap _ _ _).trans (List.Perm.cons _ ?_)))⟩)
    · intro L f hc hl hp
      have h5 : L 5 = true := hp ⟨5, .chain⟩ (by simp) rfl
      have h7 := closed_no hc (j := 7) rfl ⟨6, .chain⟩ (by simp) rfl hl
      show OpA _ _ _ _ (lst (L 5) (L 6) (L 7) (f 5) (f 6) (f 7)) (fun y => lst (L 5) true (L 7) (f 5) y (f 7)) _ _ _
      rw [hl, h5, h7]
      refine OpA.callrow rfl Try.call120 (fun w1 vs hw1 h => by
        obtain ⟨u1, _, rfl, rfl, u2, _, rfl, e2, rfl⟩ := h
        obtain ⟨A1, C1, q1, r1⟩ := hw1.rowForm 1 rfl
        have e3 : u2 = .slice A1 L1.length C1 := by first | exact e2.trans q1 | exact e2.symm.trans q1
        rw [e3]
        have := spput_ok k a A1 n c L1.length C1 zs L1 w1 (hw.ext (hw1.below (by repeat (first | exact new_nil | refine new_cons (by first | assumption | omega) ?_ | refine newrow hw1 1 rfl (Nat.le_refl _) ?_)))) (ints_of_own r1 hyf) hn hyl
        rw [← hL2] at this
        exact this) (fun w1 v hw1 => ⟨(), hw1.perm (by repeat (first | exact List.Perm.refl _ | refine (List.Perm.swap _ _ _).trans (List.Perm.cons _ ?_)))⟩)
    · intro L f hc hl hp
      have h5 : L 5 = true := hp ⟨5, .phase⟩ (by simp) rfl
      have h6 : L 6 = true := hp ⟨6, .phase⟩ (by simp) rfl
      show OpA _ _ _ _ (lst (L 5) (L 6) (L 7) (f 5) (f 6) (f 7)) (fun y => lst (L 5) (L 6) true (f 5) (f 6) y) _ _ _
      rw [hl, h5, h6]
      exact OpA.known () rfl (D_pure tabOk rfl D_last) (fun w1 hw1 => (hw1.addF rfl).perm (by repeat (first | exact List.Perm.refl _ | refine (List.Perm.swap _ _ _).trans (List.Perm.cons _ ?_))))
  intro L f w1 hL hw1
  change Hp _ _ (lst (L 5) (L 6) (L 7) (f 5) (f 6) (f 7)) at hw1
  rw [hL 5 (by decide), hL 6 (by decide), hL 7 (by decide)] at hw1
  have e7 : (f 7).1 = (f 6).1 := hw1.fact 3 rfl
  obtain ⟨A2, C2, q2, _⟩ := hw1.rowForm 2 rfl
  rw [q2] at e7
  refine ⟨[(4, (f 7).1)], [.row w.heap.size (.slice A2 L2.length C2) 5 1 L2.length (L2.map (.int .u8))], (by repeat (first | exact SubD.nil | refine SubD.cons rfl ?_)), ?_, ?_⟩
  · have h9 := hw1.fewer (by repeat (first | exact new_nil | refine new_ro ?_ | refine new_cons (by first | assumption | omega) ?_ | refine newrow hw1 1 rfl (Nat.le_refl _) ?_ | refine newrow hw1 2 rfl (Nat.le_refl _) ?_)) (o' := [.row w.heap.size (f 6).1 5 1 L2.length (L2.map (.int .u8))]) (by repeat (first | exact List.Sublist.slnil | refine List.Sublist.cons_cons _ ?_ | refine List.Sublist.cons _ ?_))
    rw [q2] at h9
    exact h9
  rw [e7]
  repeat (first | refine T_ret ?_)
  exact ret1 rfl rfl (fun w' hw => ⟨A2, C2, rfl, hw.below (by repeat (first | exact new_nil | refine newrow hw 0 rfl (Nat.le_refl _) ?_)), hw.own _ (getE_mem (i := 0) rfl)⟩)
theorem rput_ok (k : Int) (a : Option Addr) (n c : Nat) (zs : List Int) (w : World) (hw : Ints .u8 w a n c zs) (hn : zs.length ≤ 268435456) :
    Calls Try.prog 117 #[spV k a n c] w fun e w' => ∃ a c, e = .returned (.slice a (spB k zs).length c) ∧ Below w.heap.size w w' ∧ w'.ownsRow w.heap.size 5 1 (.slice a (spB k zs).length c) (spB k zs).length ((spB k zs).map (.int .u8)) := by
  have hsl := spB_len k zs (by omega)
  have hkf : Fits .u8 (IntKind.u8.wrap k) := by rw [IntKind.wrap_u8]; exact fits8 (by omega)
  refine enter1 Try.func117 rfl rfl (Hp.refl w) ?_
  repeat (first | refine T_seq ?_ | refine T_region ?_)
  refine S_new tabOk rfl (fun b1 hb1 => ?_)
  repeat (first | refine T_seq ?_ | refine S_nil ?_ | refine S_pure tabOk rfl ?_)
  let R : Value → List Int → HE := fun v L => .row w.heap.size v 5 1 L.length (L.map (.int .u8))
  let lst : Bool → Bool → Bool → Bool → Bool → Value × Unit → Value × Unit → Value × Unit → Value × Unit → Value × Unit → OL := fun l3 l6 l7 l8 l9 x3 x6 x7 x8 x9 =>
    .blk b1 (.cells ⟨[.int .i64 k, .slice a n c]⟩ 96 (0, 0)) true :: (cond l3 [R x3.1 [IntKind.u8.wrap k]] [] ++ (cond l6 [R x6.1 (encB zs)] [] ++ (cond l7 [.row w.heap.size x7.1 37 1 2 [x3.1, x6.1]] [] ++ (cond l8 [R x8.1 (spB k zs)] [] ++ cond l9 [factE (x9.1 = x8.1)] []))))
  refine T_drawF (γ := Unit) (by kernel_rfl) (by kernel_rfl) () (fun L f => lst (L 3) (L 6) (L 7) (L 8) (L 9) (f 3) (f 6) (f 7) (f 8) (f 9)) rfl [some (.pointer (some ⟨b1, 0, none⟩)), some (.int .i64 k), some (.int .u8 (IntKind.u8.wrap k)), none, some (.pointer (some ⟨b1, 1, none⟩)), some (.slice a n c), none, none, none, none] ?_ ?_
  · refine ⟨?_, ?_, ?_, ?_, ?_, ?_, ?_, ?_, ?_, ?_, trivial⟩
    · exact fun L f hc hl hp => OpA.told () rfl (D_pure tabOk rfl D_last) rfl
    · exact fun L f hc hl hp => OpA.told () rfl (D_load tabOk 0 rfl rfl rfl D_last) rfl
    · exact fun L f hc hl hp => OpA.told () rfl (D_pure tabOk rfl D_last) rfl
    · intro L f hc hl hp
      have h7 := closed_no hc (j := 7) rfl ⟨3, .data⟩ (by simp) rfl hl
      have h8 := closed_no hc (j := 8) rfl ⟨7, .data⟩ (by simp) rfl h7
      have h9 := closed_no hc (j := 9) rfl ⟨8, .data⟩ (by simp) rfl h8
      show OpA _ _ _ _ (lst (L 3) (L 6) (L 7) (L 8) (L 9) (f 3) (f 6) (f 7) (f 8) (f 9)) (fun y => lst true (L 6) (L 7) (L 8) (L 9) y (f 6) (f 7) (f 8) (f 9)) _ _ _
      rw [hl, h7, h8, h9]
      generalize L 6 = l6
      exact OpA.bsliceR tabOk rfl rfl rfl rfl rfl rfl rfl rfl rfl rfl rfl rfl rfl rfl (fun w1 v hw1 => ⟨(), hw1.perm (by cases l6 <;> (repeat (first | exact List.Perm.refl _ | refine (List.Perm.swap _ _ _).trans (List.Perm.cons _ ?_))))⟩)
    · exact fun L f hc hl hp => OpA.told () rfl (D_pure tabOk rfl D_last) rfl
    · exact fun L f hc hl hp => OpA.told () rfl (D_load tabOk 0 rfl rfl rfl D_last) rfl
    · intro L f hc hl hp
      have h7 := closed_no hc (j := 7) rfl ⟨6, .data⟩ (by simp) rfl hl
      have h8 := closed_no hc (j := 8) rfl ⟨7, .data⟩ (by simp) rfl h7
      have h9 := closed_no hc (j := 9) rfl ⟨8, .data⟩ (by simp) rfl h8
      show OpA _ _ _ _ (lst (L 3) (L 6) (L 7) (L 8) (L 9) (f 3) (f 6) (f 7) (f 8) (f 9)) (fun y => lst (L 3) true (L 7) (L 8) (L 9) (f 3) y (f 7) (f 8) (f 9)) _ _ _
      rw [hl, h7, h8, h9]
      have hnw : ∀ l3 : Bool, ∀ w1, Hp w w1 (lst l3 false false false false (f 3) (f 6) (f 7) (f 8) (f 9)) → Below w.heap.size w w1 := fun l3 w1 hw1 => by cases l3 <;> exact hw1.below (by repeat (first | exact new_nil | refine new_cons (by first | assumption | omega) ?_ | refine newrow hw1 1 rfl (Nat.le_refl _) ?_))
      generalize L 3 = l3
      refine OpA.callrow rfl Try.call123 (fun w1 vs hw1 h => by
        obtain ⟨u1, _, rfl, rfl, rfl⟩ := h
        exact refbytes_ok a n c zs w1 (hw.ext (hnw l3 w1 hw1)) (by omega)) (fun w1 v hw1 => ⟨(), hw1.perm (by cases l3 <;> (repeat (first | exact List.Perm.refl _ | refine (List.Perm.swap _ _ _).trans (List.Perm.cons _ ?_))))⟩)
    · intro L f hc hl hp
      have h3 : L 3 = true := hp ⟨3, .data⟩ (by simp) rfl
      have h6 : L 6 = true := hp ⟨6, .data⟩ (by simp) rfl
      have h8 := closed_no hc (j := 8) rfl ⟨7, .data⟩ (by simp) rfl hl
      have h9 := closed_no hc (j := 9) rfl ⟨8, .data⟩ (by simp) rfl h8
      show OpA _ _ _ _ (lst (L 3) (L 6) (L 7) (L 8) (L 9) (f 3) (f 6) (f 7) (f 8) (f 9)) (fun y => lst (L 3) (L 6) true (L 8) (L 9) (f 3) (f 6) y (f 8) (f 9)) _ _ _
      rw [hl, h3, h6, h8, h9]
      refine OpA.pre (X := ∃ A3 C3 A6 C6, (f 3).1 = .slice A3 1 C3 ∧ (f 6).1 = .slice A6 (encB zs).length C6) (fun w1 hw1 => ?_) (fun d h => by cases h; decide) ?_
      · obtain ⟨A3, C3, q3, _⟩ := hw1.rowForm 1 rfl
        obtain ⟨A6, C6, q6, _⟩ := hw1.rowForm 2 rfl
        exact ⟨A3, C3, A6, C6, q3, q6⟩
      · rintro ⟨A3, C3, A6, C6, q3, q6⟩
        refine OpA.swap (dl' := [(6, .ex (f 3).1), (9, .ex (f 6).1)]) (List.forall_mem_cons.2 ⟨rfl, List.forall_mem_cons.2 ⟨rfl, fun _ h => nomatch h⟩⟩) ?_
        generalize f 3 = x3 at *
        generalize f 6 = x6 at *
        obtain ⟨x3, ⟨⟩⟩ := x3
        obtain ⟨x6, ⟨⟩⟩ := x6
        dsimp only at q3 q6
        subst q3
        subst q6
        exact OpA.bsliceR tabOk rfl rfl rfl rfl rfl rfl rfl rfl rfl rfl rfl rfl rfl rfl (fun w1 v hw1 => ⟨(), hw1.perm (by repeat (first | exact List.Perm.refl _ | refine (List.Perm.swap _ _ _).trans (List.Perm.cons _ ?_)))⟩)
    · intro L f hc hl hp
      have h7 : L 7 = true := hp ⟨7, .data⟩ (by simp) rfl
      have h6 : L 6 = true := hp ⟨6, .chain⟩ (by simp) rfl
      have h3 : L 3 = true := hc 7 _ rfl h7 ⟨3, .data⟩ (by simp) rfl
      have h9 := closed_no hc (j := 9) rfl ⟨8, .data⟩ (by simp) rfl hl
      show OpA _ _ _ _ (lst (L 3) (L 6) (L 7) (L 8) (L 9) (f 3) (f 6) (f 7) (f 8) (f 9)) (fun y => lst (L 3) (L 6) (L 7) true (L 9) (f 3) (f 6) (f 7) y (f 9)) _ _ _
      rw [hl, h3, h6, h7, h9]
      refine OpA.callrow rfl Try.call30 (fun w1 vs hw1 h => by
        obtain ⟨u1, _, rfl, e1, rfl⟩ := h
        obtain ⟨A3, C3, q3, r3⟩ := hw1.rowForm 1 rfl
        obtain ⟨A6, C6, q6, r6⟩ := hw1.rowForm 2 rfl
        obtain ⟨A7, C7, q7, r7⟩ := hw1.rowForm 3 rfl
        have e3 : u1 = .slice A7 2 C7 := by first | exact e1.trans q7 | exact e1.symm.trans q7
        rw [e3]
        rw [q3, q6] at r7
        have := join_ok A7 2 C7 [⟨A3, 1, C3, [IntKind.u8.wrap k]⟩, ⟨A6, (encB zs).length, C6, encB zs⟩] w1 (by decide) (Sl.of_own r7) (fun p hp => by
          simp only [List.mem_cons, List.not_mem_nil, or_false] at hp
          rcases hp with rfl | rfl
          · exact ints_of_own r3 (fun z hz => by rw [List.mem_singleton] at hz; subst hz; exact hkf)
          · exact ints_of_own r6 (encB_fits hw.fits)) (by simp only [cat, List.map_cons, List.map_nil, List.flatten_cons, List.flatten_nil, List.append_nil]; show (spB k zs).length ≤ _; omega)
        rw [show cat [⟨A3, 1, C3, [IntKind.u8.wrap k]⟩, ⟨A6, (encB zs).length, C6, encB zs⟩] = spB k zs by simp [cat, spB]] at this
        exact this) (fun w1 v hw1 => ⟨(), hw1.perm (by repeat (first | exact List.Perm.refl _ | refine (List.Perm.swap _ _ _).trans (List.Perm.cons _ ?_)))⟩)
    · intro L f hc hl hp
      have h8 : L 8 = true := hp ⟨8, .data⟩ (by simp) rfl
      have h7 : L 7 = true := hp ⟨7, .phase⟩ (by simp) rfl
      have h6 : L 6 = true := hp ⟨6, .phase⟩ (by simp) rfl
      have h3 : L 3 = true := hp ⟨3, .phase⟩ (by simp) rfl
      show OpA _ _ _ _ (lst (L 3) (L 6) (L 7) (L 8) (L 9) (f 3) (f 6) (f 7) (f 8) (f 9)) (fun y => lst (L 3) (L 6) (L 7) (L 8) true (f 3) (f 6) (f 7) (f 8) y) _ _ _
      rw [hl, h3, h6, h7, h8]
      exact OpA.known () rfl (D_pure tabOk rfl D_last) (fun w1 hw1 => (hw1.addF rfl).perm (by repeat (first | exact List.Perm.refl _ | refine (List.Perm.swap _ _ _).trans (List.Perm.cons _ ?_))))
  intro L f w1 hL hw1
  change Hp _ _ (lst (L 3) (L 6) (L 7) (L 8) (L 9) (f 3) (f 6) (f 7) (f 8) (f 9)) at hw1
  rw [hL 3 (by decide), hL 6 (by decide), hL 7 (by decide), hL 8 (by decide), hL 9 (by decide)] at hw1
  have e9 : (f 9).1 = (f 8).1 := hw1.fact 5 rfl
  obtain ⟨A2, C2, q2, _⟩ := hw1.rowForm 4 rfl
  rw [q2] at e9
  refine ⟨[(2, (f 9).1)], [R (.slice A2 (spB k zs).length C2) (spB k zs)], (by repeat (first | exact SubD.nil | refine SubD.cons rfl ?_)), ?_, ?_⟩
  · have h9 := hw1.fewer (by repeat (first | exact new_nil | refine new_ro ?_ | refine new_cons (by first | assumption | omega) ?_ | refine newrow hw1 1 rfl (Nat.le_refl _) ?_ | refine newrow hw1 2 rfl (Nat.le_refl _) ?_ | refine newrow hw1 3 rfl (Nat.le_refl _) ?_ | refine newrow hw1 4 rfl (Nat.le_refl _) ?_)) (o' := [R (f 8).1 (spB k zs)]) (by repeat (first | exact List.Sublist.slnil | refine List.Sublist.cons_cons _ ?_ | refine List.Sublist.cons _ ?_))
    rw [q2] at h9
    exact h9
  rw [e9]
  repeat (first | refine T_ret ?_)
  exact ret1 rfl rfl (fun w' hw => ⟨A2, C2, rfl, hw.below (by repeat (first | exact new_nil | refine newrow hw 0 rfl (Nat.le_refl _) ?_)), hw.own _ (getE_mem (i := 0) rfl)⟩)
theorem rputitem_ok (N : Nat) (k : Int) (a : Option Addr) (n c : Nat) (zs : List Int) (w : World) (hw : Ints .u8 w a n c zs) (hn : zs.length ≤ 134217728) (hN : N < 18446744073709551616) :
    Calls Try.prog 105 #[itV N k a n c] w fun e w' => ∃ a c, e = .returned (.slice a (enc N ++ spB k zs).length c) ∧ Below w.heap.size w w' ∧ w'.ownsRow w.heap.size 5 1 (.slice a (enc N ++ spB k zs).length c) (enc N ++ spB k zs).length ((enc N ++ spB k zs).map (.int .u8)) := by
  have hsl := spB_len k zs (by omega)
  have hel := enc_len10 hN
  have hll : (enc N ++ spB k zs).length ≤ 2147483648 := by rw [List.length_append]; omega
  refine enter1 Try.func105 rfl rfl (Hp.refl w) ?_
  repeat (first | refine T_seq ?_ | refine T_region ?_)
  refine S_new tabOk rfl (fun b1 hb1 => ?_)
  repeat (first | refine T_seq ?_ | refine S_nil ?_ | refine S_pure tabOk rfl ?_)
  let R : Value → List Int → HE := fun v L => .row w.heap.size v 5 1 L.length (L.map (.int .u8))
  let lst : Bool → Bool → Bool → Bool → Bool → Value × Unit → Value × Unit → Value × Unit → Value × Unit → Value × Unit → OL := fun l2 l5 l6 l7 l8 x2 x5 x6 x7 x8 =>
    .blk b1 (.cells ⟨[.int .u64 (N : Int), .int .i64 k, .slice a n c]⟩ 98 (0, 0)) true :: (cond l2 [R x2.1 (enc N)] [] ++ (cond l5 [R x5.1 (spB k zs)] [] ++ (cond l6 [.row w.heap.size x6.1 37 1 2 [x2.1, x5.1]] [] ++ (cond l7 [R x7.1 (enc N ++ spB k zs)] [] ++ cond l8 [factE (x8.1 = x7.1)] []))))
  refine T_drawF (γ := Unit) (by kernel_rfl) (by kernel_rfl) () (fun L f => lst (L 2) (L 5) (L 6) (L 7) (L 8) (f 2) (f 5) (f 6) (f 7) (f 8)) rfl [some (.pointer (some ⟨b1, 0, none⟩)), some (.int .u64 (N : Int)), none, some (.pointer (some ⟨b1, 1, none⟩)), some (spV k a n c), none, none, none, none] ?_ ?_
  · refine ⟨?_, ?_, ?_, ?_, ?_, ?_, ?_, ?_, ?_, trivial⟩
    · exact fun L f hc hl hp => OpA.told () rfl (D_pure tabOk rfl D_last) rfl
    · exact fun L f hc hl hp => OpA.told () rfl (D_load tabOk 0 rfl rfl rfl D_last) rfl
    · intro L f hc hl hp
      have h5 := closed_no hc (j := 5) rfl ⟨2, .chain⟩ (by simp) rfl hl
      have h6 := closed_no hc (j := 6) rfl ⟨2, .data⟩ (by simp) rfl hl
      have h7 := closed_no hc (j := 7) rfl ⟨6, .data⟩ (by simp) rfl h6
      have h8 := closed_no hc (j := 8) rfl ⟨7, .data⟩ (by simp) rfl h7
      show OpA _ _ _ _ (lst (L 2) (L 5) (L 6) (L 7) (L 8) (f 2) (f 5) (f 6) (f 7) (f 8)) (fun y => lst true (L 5) (L 6) (L 7) (L 8) y (f 5) (f 6) (f 7) (f 8)) _ _ _
      rw [hl, h5, h6, h7, h8]
      refine OpA.callrow rfl Try.call104 (fun w1 vs hw1 h => by
        obtain ⟨u1, _, rfl, rfl, rfl⟩ := h
        exact refnum_ok (N + 1) N w1 (by omega) hN) (fun w1 v hw1 => ⟨(), hw1.perm (by repeat (first | exact List.Perm.refl _ | refine (List.Perm.swap _ _ _).trans (List.Perm.cons _ ?_)))⟩)
    · exact fun L f hc hl hp => OpA.told () rfl (D_pure tabOk rfl D_last) rfl
    · exact fun L f hc hl hp => OpA.told () rfl (D_load tabOk 0 rfl rfl rfl D_last) rfl
    · intro L f hc hl hp
      have h2 : L 2 = true := hp ⟨2, .chain⟩ (by simp) rfl
      have h6 := closed_no hc (j := 6) rfl ⟨5, .data⟩ (by simp) rfl hl
      have h7 := closed_no hc (j := 7) rfl ⟨6, .data⟩ (by simp) rfl h6
      have h8 := closed_no hc (j := 8) rfl ⟨7, .data⟩ (by simp) rfl h7
      show OpA _ _ _ _ (lst (L 2) (L 5) (L 6) (L 7) (L 8) (f 2) (f 5) (f 6) (f 7) (f 8)) (fun y => lst (L 2) true (L 6) (L 7) (L 8) (f 2) y (f 6) (f 7) (f 8)) _ _ _
      rw [hl, h2, h6, h7, h8]
      refine OpA.callrow rfl Try.call117 (fun w1 vs hw1 h => by
        obtain ⟨u1, _, rfl, rfl, rfl⟩ := h
        exact rput_ok k a n c zs w1 (hw.ext (hw1.below (by repeat (first | exact new_nil | refine new_cons (by first | assumption | omega) ?_ | refine newrow hw1 1 rfl (Nat.le_refl _) ?_)))) (by omega)) (fun w1 v hw1 => ⟨(), hw1.perm (by repeat (first | exact List.Perm.refl _ | refine (List.Perm.swap _ _ _).trans (List.Perm.cons _ ?_)))⟩)
    · intro L f hc hl hp
      have h2 : L 2 = true := hp ⟨2, .data⟩ (by simp) rfl
      have h5 : L 5 = true := hp ⟨5, .data⟩ (by simp) rfl
      have h7 := closed_no hc (j := 7) rfl ⟨6, .data⟩ (by simp) rfl hl
      have h8 := closed_no hc (j := 8) rfl ⟨7, .data⟩ (by simp) rfl h7
      show OpA _ _ _ _ (lst (L 2) (L 5) (L 6) (L 7) (L 8) (f 2) (f 5) (f 6) (f 7) (f 8)) (fun y => lst (L 2) (L 5) true (L 7) (L 8) (f 2) (f 5) y (f 7) (f 8)) _ _ _
      rw [hl, h2, h5, h7, h8]
      refine OpA.pre (X := ∃ A3 C3 A6 C6, (f 2).1 = .slice A3 (enc N).length C3 ∧ (f 5).1 = .slice A6 (spB k zs).length C6) (fun w1 hw1 => ?_) (fun d h => by cases h; decide) ?_
      · obtain ⟨A3, C3, q3, _⟩ := hw1.rowForm 1 rfl
        obtain ⟨A6, C6, q6, _⟩ := hw1.rowForm 2 rfl
        exact ⟨A3, C3, A6, C6, q3, q6⟩
      · rintro ⟨A3, C3, A6, C6, q3, q6⟩
        refine OpA.swap (dl' := [(5, .ex (f 2).1), (8, .ex (f 5).1)]) (List.forall_mem_cons.2 ⟨rfl, List.forall_mem_cons.2 ⟨rfl, fun _ h => nomatch h⟩⟩) ?_
        generalize f 2 = x3 at *
        generalize f 5 = x6 at *
        obtain ⟨x3, ⟨⟩⟩ := x3
        obtain ⟨x6, ⟨⟩⟩ := x6
        dsimp only at q3 q6
        subst q3
        subst q6
        exact OpA.bsliceR tabOk rfl rfl rfl rfl rfl rfl rfl rfl rfl rfl rfl rfl rfl rfl (fun w1 v hw1 => ⟨(), hw1.perm (by repeat (first | exact List.Perm.refl _ | refine (List.Perm.swap _ _ _).trans (List.Perm.cons _ ?_)))⟩)
    · intro L f hc hl hp
      have h6 : L 6 = true := hp ⟨6, .data⟩ (by simp) rfl
      have h5 : L 5 = true := hp ⟨5, .chain⟩ (by simp) rfl
      have h2 : L 2 = true := hc 6 _ rfl h6 ⟨2, .data⟩ (by simp) rfl
      have h8 := closed_no hc (j := 8) rfl ⟨7, .data⟩ (by simp) rfl hl
      show OpA _ _ _ _ (lst (L 2) (L 5) (L 6) (L 7) (L 8) (f 2) (f 5) (f 6) (f 7) (f 8)) (fun y => lst (L 2) (L 5) (L 6) true (L 8) (f 2) (f 5) (f 6) y (f 8)) _ _ _
      rw [hl, h2, h5, h6, h8]
      refine OpA.callrow rfl Try.call30 (fun w1 vs hw1 h => by
        obtain ⟨u1, _, rfl, e1, rfl⟩ := h
        obtain ⟨A3, C3, q3, r3⟩ := hw1.rowForm 1 rfl
        obtain ⟨A6, C6, q6, r6⟩ := hw1.rowForm 2 rfl
        obtain ⟨A7, C7, q7, r7⟩ := hw1.rowForm 3 rfl
        have e3 : u1 = .slice A7 2 C7 := by first | exact e1.trans q7 | exact e1.symm.trans q7
        rw [e3]
        rw [q3, q6] at r7
        have := join_ok A7 2 C7 [⟨A3, (enc N).length, C3, enc N⟩, ⟨A6, (spB k zs).length, C6, spB k zs⟩] w1 (by decide) (Sl.of_own r7) (fun p hp => by
          simp only [List.mem_cons, List.not_mem_nil, or_false] at hp
          rcases hp with rfl | rfl
          · exact ints_of_own r3 (enc_fits N)
          · exact ints_of_own r6 (spB_fits hw.fits)) (by simp only [cat, List.map_cons, List.map_nil, List.flatten_cons, List.flatten_nil, List.append_nil]; exact hll)
        rw [show cat [⟨A3, (enc N).length, C3, enc N⟩, ⟨A6, (spB k zs).length, C6, spB k zs⟩] = enc N ++ spB k zs by simp [cat]] at this
        exact this) (fun w1 v hw1 => ⟨(), hw1.perm (by repeat (first | exact List.Perm.refl _ | refine (List.Perm.swap _ _ _).trans (List.Perm.cons _ ?_)))⟩)
    · intro L f hc hl hp
      have h7 : L 7 = true := hp ⟨7, .data⟩ (by simp) rfl
      have h6 : L 6 = true := hp ⟨6, .phase⟩ (by simp) rfl
      have h5 : L 5 = true := hp ⟨5, .phase⟩ (by simp) rfl
      have h2 : L 2 = true := hp ⟨2, .phase⟩ (by simp) rfl
      show OpA _ _ _ _ (lst (L 2) (L 5) (L 6) (L 7) (L 8) (f 2) (f 5) (f 6) (f 7) (f 8)) (fun y => lst (L 2) (L 5) (L 6) (L 7) true (f 2) (f 5) (f 6) (f 7) y) _ _ _
      rw [hl, h2, h5, h6, h7]
      exact OpA.known () rfl (D_pure tabOk rfl D_last) (fun w1 hw1 => (hw1.addF rfl).perm (by repeat (first | exact List.Perm.refl _ | refine (List.Perm.swap _ _ _).trans (List.Perm.cons _ ?_))))
  intro L f w1 hL hw1
  change Hp _ _ (lst (L 2) (L 5) (L 6) (L 7) (L 8) (f 2) (f 5) (f 6) (f 7) (f 8)) at hw1
  rw [hL 2 (by decide), hL 5 (by decide), hL 6 (by decide), hL 7 (by decide), hL 8 (by decide)] at hw1
  have e9 : (f 8).1 = (f 7).1 := hw1.fact 5 rfl
  obtain ⟨A2, C2, q2, _⟩ := hw1.rowForm 4 rfl
  rw [q2] at e9
  refine ⟨[(2, (f 8).1)], [R (.slice A2 (enc N ++ spB k zs).length C2) (enc N ++ spB k zs)], (by repeat (first | exact SubD.nil | refine SubD.cons rfl ?_)), ?_, ?_⟩
  · have h9 := hw1.fewer (by repeat (first | exact new_nil | refine new_ro ?_ | refine new_cons (by first | assumption | omega) ?_ | refine newrow hw1 1 rfl (Nat.le_refl _) ?_ | refine newrow hw1 2 rfl (Nat.le_refl _) ?_ | refine newrow hw1 3 rfl (Nat.le_refl _) ?_ | refine newrow hw1 4 rfl (Nat.le_refl _) ?_)) (o' := [R (f 7).1 (enc N ++ spB k zs)]) (by repeat (first | exact List.Sublist.slnil | refine List.Sublist.cons_cons _ ?_ | refine List.Sublist.cons _ ?_))
    rw [q2] at h9
    exact h9
  rw [e9]
  repeat (first | refine T_ret ?_)
  exact ret1 rfl rfl (fun w' hw => ⟨A2, C2, rfl, hw.below (by repeat (first | exact new_nil | refine newrow hw 0 rfl (Nat.le_refl _) ?_)), hw.own _ (getE_mem (i := 0) rfl)⟩)

theorem wrap_small {k : Int} (h0 : 0 ≤ k) (h1 : k ≤ 255) : IntKind.u8.wrap k = k := by rw [IntKind.wrap_u8]; omega
theorem getS_spB {k : Int} {zs bh : List Int} (h0 : 0 ≤ k) (h1 : k < 8) (hz : zs.length ≤ 4096) : getS 0 (spB k zs ++ bh) = (0, (k, zs), (spB k zs).length) := by
  have e1 : by1 0 (spB k zs ++ bh) = (0, k, 1) := by
    unfold spB
    rw [List.cons_append]
    unfold by1
    rw [if_neg (by decide), wrap_small h0 (by omega)]
  have e2 : (spB k zs ++ bh).drop 1 = encB zs ++ bh := by unfold spB; rfl
  unfold getS
  rw [e1]
  dsimp only
  rw [if_neg (by omega), e2, rdB_encB zs bh 4096 (by omega), if_neg (by omega)]
  dsimp only
  rw [if_pos rfl]
  congr 2
  unfold spB
  rw [List.length_cons]
  omega
theorem getI_put {N : Nat} {k : Int} {zs bh : List Int} (hN : N < 18446744073709551616) (h0 : 0 ≤ k) (h1 : k < 8) (hz : zs.length ≤ 4096) : getI 0 (enc N ++ spB k zs ++ bh) = (0, (N, (k, zs)), (enc N ++ spB k zs).length) := by
  have e1 : rd 0 (enc N ++ spB k zs ++ bh) = (0, N, (enc N).length) := by
    rw [List.append_assoc]
    exact dec_enc N 0 _ (by decide) (.inl rfl) hN
  unfold getI
  rw [e1]
  dsimp only
  rw [List.append_assoc, List.drop_left, getS_spB h0 h1 hz]
  dsimp only
  rw [if_pos rfl, List.length_append]

abbrev It := Nat × (Int × List Int)
abbrev encI (x : It) : List Int := enc x.1 ++ spB x.2.1 x.2.2
def okI (x : It) : Prop := x.1 < 18446744073709551616 ∧ (0 ≤ x.2.1 ∧ x.2.1 < 8) ∧ x.2.2.length ≤ 40 ∧ ∀ z ∈ x.2.2, Fits .u8 z
def encL (l : List It) : List Int := (l.map encI).flatten
theorem encL_snoc (l : List It) (x : It) : encL (l ++ [x]) = encL l ++ encI x := by simp [encL]
theorem encL_cons (l : List It) (x : It) : encL (x :: l) = encI x ++ encL l := by simp [encL]
theorem encI_fits {x : It} (h : okI x) : ∀ z ∈ encI x, Fits .u8 z := app_fits (enc_fits _) (spB_fits h.2.2.2)
theorem encI_len {x : It} (h : okI x) : (encI x).length ≤ 70 := by
  have h1 := enc_len10 h.1
  have h2 := spB_len x.2.1 x.2.2 (by have := h.2.2.1; omega)
  have := h.2.2.1
  simp only [encI, List.length_append]
  omega
theorem encL_fits : ∀ {l : List It}, (∀ x ∈ l, okI x) → ∀ z ∈ encL l, Fits .u8 z
  | [], _, z, hz => by cases hz
  | x :: l, h, z, hz => by
    rw [encL_cons] at hz
    exact app_fits (encI_fits (h x List.mem_cons_self)) (encL_fits fun y hy => h y (List.mem_cons_of_mem _ hy)) z hz
theorem encL_len : ∀ {l : List It}, (∀ x ∈ l, okI x) → (encL l).length ≤ 70 * l.length
  | [], _ => Nat.zero_le _
  | x :: l, h => by
    have h1 := encI_len (h x List.mem_cons_self)
    have h2 := encL_len (l := l) fun y hy => h y (List.mem_cons_of_mem _ hy)
    rw [encL_cons, List.length_append, List.length_cons]
    omega
/-! what is cut off -/
theorem dec_cut : ∀ (N i m : Nat), i ≤ 9 → (i = 0 ∨ 0 < N) → N < 2 ^ (64 - 7 * i) → m < (enc N).length → dec i ((enc N).take m) = (2, 0, 0) := by
  intro N
  induction N using Nat.strongRecOn with
  | ind N ih =>
    intro i m hi h0 hN hm
    cases m with
    | zero => rfl
    | succ m =>
      by_cases hs : N < 128
      · rw [enc_small hs] at hm
        simp at hm
      · rw [enc_big hs] at hm ⊢
        rw [List.length_cons] at hm
        have hi9 : i ≤ 8 := by
          rcases Nat.lt_or_ge i 9 with h | h
          · omega
          · have : i = 9 := by omega
            subst this
            have h2 : (2 : Nat) ^ (64 - 7 * 9) = 2 := rfl
            omega
        have hN2 : N / 128 < 2 ^ (64 - 7 * (i + 1)) := by
          have h3 : 2 ^ (64 - 7 * i) = 2 ^ (64 - 7 * (i + 1)) * 128 := by
            rw [show 64 - 7 * i = (64 - 7 * (i + 1)) + 7 by omega, Nat.pow_add]
          rw [h3] at hN
          exact Nat.div_lt_of_lt_mul (by rw [Nat.mul_comm]; exact hN)
        have hr := ih (N / 128) (by omega) (i + 1) m (by omega) (.inr (by omega)) hN2 (by omega)
        rw [List.take_succ_cons, dec, if_neg (by omega), if_neg (by omega), if_neg (by omega), hr]
        rfl
theorem dec_cut0 {N m : Nat} (hN : N < 18446744073709551616) (hm : m < (enc N).length) : dec 0 ((enc N).take m) = (2, 0, 0) := dec_cut N 0 m (by decide) (.inl rfl) hN hm
theorem rdB_cut {zs : List Int} {m : Nat} (hz : zs.length ≤ 4096) (hm : m < (encB zs).length) : rdB 0 ((encB zs).take m) 4096 = (2, [], 0) := by
  have hl : (encB zs).length = (enc zs.length).length + zs.length := by unfold encB; rw [List.length_append]
  unfold rdB
  rw [if_neg (by decide)]
  by_cases h : m < (enc zs.length).length
  · have e1 : (encB zs).take m = (enc zs.length).take m := by unfold encB; rw [List.take_append_of_le_length (Nat.le_of_lt h)]
    rw [e1, dec_cut0 (by omega) h, if_pos (by decide)]
  · have e1 : (encB zs).take m = enc zs.length ++ zs.take (m - (enc zs.length).length) := by unfold encB; rw [List.take_append, List.take_of_length_le (by omega)]
    have e2 : dec 0 ((encB zs).take m) = (0, zs.length, (enc zs.length).length) := by rw [e1]; exact dec_enc zs.length 0 _ (by decide) (.inl rfl) (by omega)
    rw [e2, if_neg (fun h => h rfl), if_neg (by show ¬ ((4096 : Int) < 0 ∨ (4096 : Int) < (zs.length : Int)); omega), if_pos (by show _ < (enc zs.length).length + zs.length; rw [List.length_take]; omega)]
theorem rdB_err {e : Int} (he : e ≠ 0) (zs : List Int) (m : Int) : rdB e zs m = (e, [], 0) := by unfold rdB; rw [if_pos he]
theorem getS_err (zs : List Int) : ∃ u, getS 2 zs = (2, (0, []), u) := by
  have e1 : by1 2 zs = (2, 0, 0) := by unfold by1; rw [if_pos (by decide)]
  refine ⟨0, ?_⟩
  unfold getS
  rw [e1]
  dsimp only
  rw [if_neg (by decide), rdB_err (by decide)]
  rfl
theorem getS_cut {k : Int} {zs : List Int} {m : Nat} (h0 : 0 ≤ k) (h1 : k < 8) (hz : zs.length ≤ 4096) (hm : m < (spB k zs).length) : ∃ u, getS 0 ((spB k zs).take m) = (2, (0, []), u) := by
  cases m with
  | zero =>
    refine ⟨0, ?_⟩
    unfold getS
    rw [List.take_zero]
    rfl
  | succ m =>
    have e0 : spB k zs = IntKind.u8.wrap k :: encB zs := rfl
    rw [e0, List.length_cons] at hm
    rw [e0, List.take_succ_cons, wrap_small h0 (by omega)]
    have e1 : by1 0 (k :: (encB zs).take m) = (0, k, 1) := by unfold by1; rw [if_neg (by decide)]
    refine ⟨1, ?_⟩
    unfold getS
    rw [e1]
    dsimp only
    rw [if_neg (by omega), List.drop_one, List.tail_cons, rdB_cut hz (by omega)]
    rfl
theorem getI_cut {x : It} {m : Nat} (h : okI x) (hm : m < (encI x).length) : ∃ u, getI 0 ((encI x).take m) = (2, (0, (0, [])), u) := by
  obtain ⟨N, k, zs⟩ := x
  obtain ⟨hN, ⟨h0, h1⟩, hz, _⟩ := h
  dsimp only at hN h0 h1 hz
  simp only [encI, List.length_append] at hm ⊢
  by_cases hc : m < (enc N).length
  · rw [List.take_append_of_le_length (Nat.le_of_lt hc)]
    have e1 : rd 0 ((enc N).take m) = (2, 0, 0) := dec_cut0 hN hc
    obtain ⟨u, hu⟩ := getS_err (((enc N).take m).drop 0)
    refine ⟨0 + u, ?_⟩
    unfold getI
    rw [e1]
    dsimp only
    rw [hu]
    rfl
  · have e0 : (enc N ++ spB k zs).take m = enc N ++ (spB k zs).take (m - (enc N).length) := by rw [List.take_append, List.take_of_length_le (by omega)]
    have e1 : rd 0 (enc N ++ (spB k zs).take (m - (enc N).length)) = (0, N, (enc N).length) := dec_enc N 0 _ (by decide) (.inl rfl) hN
    obtain ⟨u, hu⟩ := getS_cut (k := k) (zs := zs) (m := m - (enc N).length) h0 h1 (by omega) (by omega)
    refine ⟨(enc N).length + u, ?_⟩
    rw [e0]
    unfold getI
    rw [e1]
    dsimp only
    rw [List.drop_left, hu]
    rfl
theorem getI_put' {x : It} (h : okI x) (bh : List Int) : getI 0 (encI x ++ bh) = (0, x, (encI x).length) :=
  getI_put h.1 h.2.1.1 h.2.1.2 (by have := h.2.2.1; omega)
/-- where item j begins -/
def offL (l : List It) (j : Nat) : Nat := (encL (l.take j)).length
theorem offL_succ {l : List It} {j : Nat} (hj : j < l.length) : offL l (j + 1) = offL l j + (encI l[j]).length := by
  unfold offL
  rw [List.take_succ_eq_append_getElem hj, encL_snoc, List.length_append]
theorem offL_all {l : List It} : offL l l.length = (encL l).length := by unfold offL; rw [List.take_length]
theorem encL_drop {l : List It} {j : Nat} (hj : j < l.length) : (encL l).drop (offL l j) = encI l[j] ++ encL (l.drop (j + 1)) := by
  have e : encL l = encL (l.take j) ++ encL (l.drop j) := by
    conv => lhs; rw [← List.take_append_drop j l]
    unfold encL
    rw [List.map_append, List.flatten_append]
  unfold offL
  rw [e, List.drop_left, List.drop_eq_getElem_cons hj, encL_cons]
theorem read_whole {l : List It} {j k : Nat} (hl : ∀ x ∈ l, okI x) (hj : j < l.length) (hk : offL l (j + 1) ≤ k) : getI 0 (((encL l).take k).drop (offL l j)) = (0, l[j], (encI l[j]).length) := by
  rw [offL_succ hj] at hk
  rw [List.drop_take, encL_drop hj, List.take_append, List.take_of_length_le (by omega)]
  exact getI_put' (hl _ (List.getElem_mem hj)) _
theorem read_cut {l : List It} {j k : Nat} (hl : ∀ x ∈ l, okI x) (hj : j < l.length) (hk0 : offL l j ≤ k) (hk : k < offL l (j + 1)) : ∃ u, getI 0 (((encL l).take k).drop (offL l j)) = (2, (0, (0, [])), u) := by
  rw [offL_succ hj] at hk
  rw [List.drop_take, encL_drop hj, List.take_append_of_le_length (by omega)]
  exact getI_cut (hl _ (List.getElem_mem hj)) (by omega)

abbrev Ritem : Rep (Int × (Int × List Int)) := Rpair (Rint .u64) Rspan
abbrev itI (x : It) : Int × (Int × List Int) := ((x.1 : Int), x.2)
theorem item_cells {w : World} {A : Nat → Prop} {cs : List Value} {x : Int × (Int × List Int)} (h : Ritem.at_ w A cs x) : ∃ a n c, cs = [.int .u64 x.1, .int .i64 x.2.1, .slice a n c] ∧ Fits .u64 x.1 ∧ Fits .i64 x.2.1 ∧ SlR (Rint .u8) w A a n c x.2.2 := by
  obtain ⟨c1, c2, rfl, ⟨rfl, h1⟩, c3, c4, rfl, ⟨rfl, h2⟩, a, n, c, rfl, h3⟩ := h
  exact ⟨a, n, c, rfl, h1, h2, h3⟩
theorem item_of {w : World} {A : Nat → Prop} {x : Int × (Int × List Int)} {a : Option Addr} {n c : Nat} (h1 : Fits .u64 x.1) (h2 : Fits .i64 x.2.1) (h3 : SlR (Rint .u8) w A a n c x.2.2) : Ritem.at_ w A [.int .u64 x.1, .int .i64 x.2.1, .slice a n c] x :=
  ⟨[_], [_, _], rfl, ⟨rfl, h1⟩, [_], [_], rfl, ⟨rfl, h2⟩, a, n, c, rfl, h3⟩
theorem and7 (z : Int) : 0 ≤ bits .and .i64 z 7 ∧ bits .and .i64 z 7 < 8 := by
  have e : bits .and .i64 z 7 = IntKind.i64.wrap ((BitVec.ofInt 64 z &&& 7#64).toNat : Int) := rfl
  have h : (BitVec.ofInt 64 z &&& 7#64).toNat < 8 := by
    rw [BitVec.toNat_and]
    exact Nat.lt_of_le_of_lt Nat.and_le_right (by decide)
  rw [e, IntWalk.i64_in _ (by omega)]
  omega
theorem item_read {w : World} {a : Option Addr} {n c : Nat} {l : List (Int × (Int × List Int))} (hx : SlR Ritem w TT a n c l) {i : Nat} (hi : i < l.length) : ∃ ab off a0 n0 c0, a = some ⟨ab, off, none⟩ ∧ Fits .u64 l[i].1 ∧ Fits .i64 l[i].2.1 ∧
    ∀ w', Below w.heap.size w w' → (∀ j u, ([.int .u64 l[i].1, .int .i64 l[i].2.1, .slice a0 n0 c0] : List Value)[j]? = some u → w'.cell? ((⟨ab, off + i * 3, none⟩ : Addr).add j) = some u) ∧ Ints .u8 w' a0 n0 c0 l[i].2.2 := by
  obtain ⟨ab, off, cs, e, hlt, hat, _, hce, _⟩ := hx.get_ hi
  obtain ⟨a0, n0, c0, rfl, h1, h2, h3⟩ := item_cells hat
  exact ⟨ab, off, a0, n0, c0, e, h1, h2, fun w' hb => ⟨fun j u hu => by rw [Addr.add_lit]; exact (World.cell?_of_block (w := w) (a := ⟨ab, off + i * 3 + j, none⟩) (hb.block ab hlt)).trans (hce j u hu), (h3.ext hb).ints⟩⟩
def endsL (l : List It) : List Int := (List.range l.length).map fun j => (offL l (j + 1) : Int)
theorem endsL_len (l : List It) : (endsL l).length = l.length := by simp [endsL]
theorem endsL_get {l : List It} {j : Nat} (hj : j < l.length) : (endsL l)[j]? = some (offL l (j + 1) : Int) := by
  simp [endsL, hj]
theorem endsL_snoc (l : List It) (x : It) : endsL (l ++ [x]) = endsL l ++ [((encL (l ++ [x])).length : Int)] := by
  unfold endsL
  rw [List.length_append, List.length_singleton, List.range_succ, List.map_append]
  congr 1
  · apply List.map_congr_left
    intro j hj
    rw [List.mem_range] at hj
    unfold offL
    rw [List.take_append_of_le_length (by omega)]
  · have := offL_all (l := l ++ [x])
    rw [List.length_append, List.length_singleton] at this
    simp [this]
theorem endsL_fits {l : List It} (h : ∀ x ∈ l, okI x) (hl : l.length ≤ 10) : ∀ z ∈ endsL l, Fits .i64 z := by
  intro z hz
  simp only [endsL, List.mem_map, List.mem_range] at hz
  obtain ⟨j, hj, rfl⟩ := hz
  have h1 : offL l (j + 1) ≤ 70 * (l.take (j + 1)).length := encL_len fun x hx => h x (List.mem_of_mem_take hx)
  rw [List.length_take] at h1
  exact mk_i64 (by omega)
structure RI where
  xs : List It
  css : List (List Value)
  ap : Option Addr
  cp : Nat
  ae : Option Addr
  ce : Nat
  aS : Option Addr
  cS : Nat
  F : Nat → Prop

end Go.Proofs.Ytnefhhoijonnaaa
