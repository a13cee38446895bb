/-
  Windows: acts; what Put and Skip do to what is done; the walk of WindowRuns. Conditions: each theorem's own.
-/
import Derived.Test.YtgjibkocpmajdaaWnB
namespace Go.Proofs.Ytgjibkocpmajdaa
open Go Go.RowKit
set_option linter.unusedVariables false

structure WinI (lo wd : Int) (S : Int → Prop) : Prop where
  lo0 : 0 ≤ lo
  s : ∀ y, S y → lo + 1 < y ∧ y ≤ lo + wd
theorem winI_new (wd : Int) : WinI 0 wd (fun _ => False) := ⟨Int.le_refl _, fun y h => h.elim⟩
theorem win_put {lo wd x : Int} {S : Int → Prop} {i : Int × (Int → Prop)} (h : WinI lo wd S) (hwd : 0 ≤ wd) (hi : PutI lo wd S x i) : WinI i.1 wd i.2 ∧ lo ≤ i.1 ∧ i.1 ≤ lo + wd ∧ ∀ y, Done i.1 i.2 y ↔ Done lo S y ∨ ((¬ Done lo S x ∧ x ≤ lo + wd) ∧ y = x) := by
  obtain ⟨lo', S'⟩ := i
  have h0 := h.lo0
  by_cases ht : ¬ Done lo S x ∧ x ≤ lo + wd
  · obtain ⟨g1, g2⟩ := hi.2 ht
    dsimp only at g1 g2 ⊢
    have hle := g1.le
    have hb : ∀ y, S y ∨ y = x → y ≤ lo + wd := fun y hy => hy.elim (fun hy => (h.s y hy).2) fun e => by omega
    refine ⟨⟨by omega, fun y hy => ?_⟩, hle, ?_, fun y => ?_⟩
    · obtain ⟨k1, k2⟩ := (g2 y).1 hy
      have h1 := hb y k1
      have h2 : y ≠ lo' + 1 := fun e => g1.no (e ▸ k1)
      omega
    · rcases Int.lt_or_le lo lo' with e | e
      · exact hb lo' (g1.mem lo' e (Int.le_refl _))
      · omega
    · unfold Done
      rw [g2]
      constructor
      · rintro (e | ⟨e, _⟩)
        · rcases Int.lt_or_le lo y with e' | e'
          · exact (g1.mem y e' e).elim (fun k => .inl (.inr k)) fun k => .inr ⟨ht, k⟩
          · exact .inl (.inl e')
        · exact e.elim (fun k => .inl (.inr k)) fun k => .inr ⟨ht, k⟩
      · rintro ((e | e) | ⟨_, e⟩)
        · exact .inl (by omega)
        · rcases Int.lt_or_le lo' y with e' | e'
          · exact .inr ⟨.inl e, e'⟩
          · exact .inl e'
        · rcases Int.lt_or_le lo' y with e' | e'
          · exact .inr ⟨.inr e, e'⟩
          · exact .inl e'
  · obtain ⟨g1, g2⟩ := hi.1 ht
    dsimp only at g1 g2 ⊢
    subst g1
    refine ⟨⟨h0, fun y hy => h.s y ((g2 y).1 hy)⟩, Int.le_refl _, by omega, fun y => ?_⟩
    unfold Done
    rw [g2]
    exact ⟨.inl, fun k => k.elim id fun k => absurd k.1 ht⟩
theorem win_skip {lo wd x : Int} {S : Int → Prop} {i : Int × (Int → Prop)} (h : WinI lo wd S) (hwd : 0 ≤ wd) (hi : SkipI lo S x i) : WinI i.1 wd i.2 ∧ lo ≤ i.1 ∧ i.1 ≤ max (x - 1) (lo + wd) ∧ ∀ y, Done i.1 i.2 y ↔ Done lo S y ∨ y < x := by
  obtain ⟨lo', S'⟩ := i
  have h0 := h.lo0
  by_cases ht : lo + 1 < x
  · obtain ⟨g1, g2⟩ := hi.2 ht
    dsimp only at g1 g2 ⊢
    have hle := g1.le
    refine ⟨⟨by omega, fun y hy => ?_⟩, by omega, ?_, fun y => ?_⟩
    · obtain ⟨k1, k2⟩ := (g2 y).1 hy
      have h1 := (h.s y k1).2
      have h2 : y ≠ lo' + 1 := fun e => g1.no (e ▸ k1)
      omega
    · rcases Int.lt_or_le (x - 1) lo' with e | e
      · have := (h.s _ (g1.mem lo' e (Int.le_refl _))).2
        omega
      · omega
    · unfold Done
      rw [g2]
      constructor
      · rintro (e | ⟨e, _⟩)
        · rcases Int.lt_or_le y x with e' | e'
          · exact .inr e'
          · exact .inl (.inr (g1.mem y (by omega) e))
        · exact .inl (.inr e)
      · rintro ((e | e) | e)
        · exact .inl (by omega)
        · rcases Int.lt_or_le lo' y with e' | e'
          · exact .inr ⟨e, e'⟩
          · exact .inl e'
        · exact .inl (by omega)
  · obtain ⟨g1, g2⟩ := hi.1 (by omega)
    dsimp only at g1 g2 ⊢
    subst g1
    refine ⟨⟨h0, fun y hy => h.s y ((g2 y).1 hy)⟩, Int.le_refl _, by omega, fun y => ?_⟩
    unfold Done
    rw [g2]
    exact ⟨.inl, fun k => k.elim id fun k => .inl (by omega)⟩

/-! ### Acts -/
abbrev Ract : Rep (Int × (Int × Int)) := Rpair (Rint .u8) (Rpair (Rint .u8) (Rint .u64))
def encA (p : Int × (Int × Int)) : List Value := [.int .u8 p.1, .int .u8 p.2.1, .int .u64 p.2.2]
def okA (p : Int × (Int × Int)) : Prop := Fits .u8 p.1 ∧ Fits .u8 p.2.1 ∧ Fits .u64 p.2.2
theorem flat_act : Flat Ract encA okA := ⟨fun w A cs x => ⟨by
  rintro ⟨c1, c2, rfl, ⟨rfl, h1⟩, c3, c4, rfl, ⟨rfl, h2⟩, rfl, h3⟩
  exact ⟨rfl, h1, h2, h3⟩, by
  rintro ⟨rfl, h1, h2, h3⟩
  exact ⟨[.int .u8 x.1], [.int .u8 x.2.1, .int .u64 x.2.2], rfl, ⟨rfl, h1⟩, [.int .u8 x.2.1], [.int .u64 x.2.2], rfl, ⟨rfl, h2⟩, rfl, h3⟩⟩⟩
theorem act_cells {w : World} {A : Nat → Prop} {b off n c : Nat} {l : List (Int × (Int × Int))} (h : SlR Ract w A (some ⟨b, off, none⟩) n c l) {i : Nat} (hi : i < l.length) : ∀ j u, (encA l[i])[j]? = some u → w.cell? ((⟨b, off + i * 3, none⟩ : Addr).add j) = some u := by
  obtain ⟨cs, _, h2, _, h3, _⟩ := h.at_ hi
  have h4 := ((flat_act.iff _ _ _ _).1 h2).1
  subst h4
  intro j u hu
  rw [Addr.add_lit]
  exact h3 j u hu
theorem act_ok {w : World} {A : Nat → Prop} {a : Option Addr} {n c : Nat} {l : List (Int × (Int × Int))} (h : SlR Ract w A a n c l) {i : Nat} (hi : i < l.length) : okA l[i] := (h.flat flat_act).2 _ (List.getElem_mem hi)

def isPut (p : Int × (Int × Int)) : Prop := p.1 % 6 < 3 ∨ p.1 % 6 = 4
def numA (p : Int × (Int × Int)) (lo : Int) : Int := if 3 < p.1 % 6 then p.2.2 % 2305843009213693952 else if lo + p.2.1 < 5 then 0 else lo + p.2.1 - 5
theorem numA_bd {p : Int × (Int × Int)} {lo : Int} (h : okA p) (h0 : 0 ≤ lo) : 0 ≤ numA p lo ∧ numA p lo ≤ max 2305843009213693951 (lo + 250) := by
  have h1 := fits_u8 h.2.1
  unfold numA
  split
  · omega
  · split <;> omega
theorem puts_ok (p : Int × (Int × Int)) (w : World) (h : okA p) : Calls Try.prog 40 #[.agg ⟨encA p⟩] w fun e w' => ∃ v, e = .returned v ∧ Below w.heap.size w w' ∧ ∃ q, v = .bool q ∧ (q = true ↔ isPut p) := by
  have h1 := fits_u8 h.1
  refine enter1 Try.func40 rfl rfl (Hp.refl w) ?_
  repeat (first | refine T_draw (by kernel_rfl) (by kernel_rfl) ?_ | refine D_all rfl ?_ | refine D_i64 tabOk rfl (by omega) ?_ | refine D_u64 tabOk rfl (by omega) ?_ | refine D_pure tabOk rfl ?_ | refine D_pass rfl rfl rfl ?_ | refine D_load tabOk 0 rfl rfl rfl ?_ | refine D_load tabOk 1 rfl rfl rfl ?_ | refine D_load tabOk 2 rfl rfl rfl ?_ | refine D_load tabOk 3 rfl rfl rfl ?_ | refine D_load tabOk 4 rfl rfl rfl ?_ | refine T_seq ?_ | refine T_region ?_ | refine T_block ?_ | refine S_nil ?_ | refine pthen_normal ?_ | refine inb_normal ?_ | refine inb_ret ?_ | refine pthen_ret ?_ | refine inb_hit ?_ | refine pthen_exit ?_ | refine T_skip ?_ | refine T_ret ?_ | refine T_exit ?_  | refine S_i64 tabOk rfl (by omega) ?_ | refine S_u64 tabOk rfl (by omega) ?_ | refine S_pure tabOk rfl ?_ | refine S_pass rfl rfl rfl ?_ | refine S_pass0 rfl rfl ?_ | refine T_region_any ?_  | refine S_load tabOk 0 rfl rfl rfl ?_ | refine S_load tabOk 1 rfl rfl rfl ?_ | refine S_load tabOk 2 rfl rfl rfl ?_ | refine S_load tabOk 3 rfl rfl rfl ?_ | refine S_load tabOk 4 rfl rfl rfl ?_ | refine S_load tabOk 5 rfl rfl rfl ?_ | refine S_store tabOk 0 rfl rfl rfl rfl rfl rfl ?_ | refine S_store tabOk 1 rfl rfl rfl rfl rfl rfl ?_ | refine S_store tabOk 2 rfl rfl rfl rfl rfl rfl ?_ | refine S_store tabOk 3 rfl rfl rfl rfl rfl rfl ?_ | refine S_store tabOk 4 rfl rfl rfl rfl rfl rfl ?_ | refine S_store tabOk 5 rfl rfl rfl rfl rfl rfl ?_ | refine S_q (Q_build tabOk rfl rfl rfl rfl rfl rfl rfl) ?_ | refine D_q (Q_build tabOk rfl rfl rfl rfl rfl rfl rfl) ?_)
  refine S_new tabOk rfl (fun b hb => ?_)
  repeat (first | refine T_draw (by kernel_rfl) (by kernel_rfl) ?_ | refine D_all rfl ?_ | refine D_i64 tabOk rfl (by omega) ?_ | refine D_u64 tabOk rfl (by omega) ?_ | refine D_pure tabOk rfl ?_ | refine D_pass rfl rfl rfl ?_ | refine D_load tabOk 0 rfl rfl rfl ?_ | refine D_load tabOk 1 rfl rfl rfl ?_ | refine D_load tabOk 2 rfl rfl rfl ?_ | refine D_load tabOk 3 rfl rfl rfl ?_ | refine D_load tabOk 4 rfl rfl rfl ?_ | refine T_seq ?_ | refine T_region ?_ | refine T_block ?_ | refine S_nil ?_ | refine pthen_normal ?_ | refine inb_normal ?_ | refine inb_ret ?_ | refine pthen_ret ?_ | refine inb_hit ?_ | refine pthen_exit ?_ | refine T_skip ?_ | refine T_ret ?_ | refine T_exit ?_  | refine S_i64 tabOk rfl (by omega) ?_ | refine S_u64 tabOk rfl (by omega) ?_ | refine S_pure tabOk rfl ?_ | refine S_pass rfl rfl rfl ?_ | refine S_pass0 rfl rfl ?_ | refine T_region_any ?_  | refine S_load tabOk 0 rfl rfl rfl ?_ | refine S_load tabOk 1 rfl rfl rfl ?_ | refine S_load tabOk 2 rfl rfl rfl ?_ | refine S_load tabOk 3 rfl rfl rfl ?_ | refine S_load tabOk 4 rfl rfl rfl ?_ | refine S_load tabOk 5 rfl rfl rfl ?_ | refine S_store tabOk 0 rfl rfl rfl rfl rfl rfl ?_ | refine S_store tabOk 1 rfl rfl rfl rfl rfl rfl ?_ | refine S_store tabOk 2 rfl rfl rfl rfl rfl rfl ?_ | refine S_store tabOk 3 rfl rfl rfl rfl rfl rfl ?_ | refine S_store tabOk 4 rfl rfl rfl rfl rfl rfl ?_ | refine S_store tabOk 5 rfl rfl rfl rfl rfl rfl ?_ | refine S_q (Q_build tabOk rfl rfl rfl rfl rfl rfl rfl) ?_ | refine D_q (Q_build tabOk rfl rfl rfl rfl rfl rfl rfl) ?_)
  refine S_q (Q_rem0 rfl rfl rfl (by decide) h1.1) ?_
  repeat (first | refine T_draw (by kernel_rfl) (by kernel_rfl) ?_ | refine D_all rfl ?_ | refine D_i64 tabOk rfl (by omega) ?_ | refine D_u64 tabOk rfl (by omega) ?_ | refine D_pure tabOk rfl ?_ | refine D_pass rfl rfl rfl ?_ | refine D_load tabOk 0 rfl rfl rfl ?_ | refine D_load tabOk 1 rfl rfl rfl ?_ | refine D_load tabOk 2 rfl rfl rfl ?_ | refine D_load tabOk 3 rfl rfl rfl ?_ | refine D_load tabOk 4 rfl rfl rfl ?_ | refine T_seq ?_ | refine T_region ?_ | refine T_block ?_ | refine S_nil ?_ | refine pthen_normal ?_ | refine inb_normal ?_ | refine inb_ret ?_ | refine pthen_ret ?_ | refine inb_hit ?_ | refine pthen_exit ?_ | refine T_skip ?_ | refine T_ret ?_ | refine T_exit ?_  | refine S_i64 tabOk rfl (by omega) ?_ | refine S_u64 tabOk rfl (by omega) ?_ | refine S_pure tabOk rfl ?_ | refine S_pass rfl rfl rfl ?_ | refine S_pass0 rfl rfl ?_ | refine T_region_any ?_  | refine S_load tabOk 0 rfl rfl rfl ?_ | refine S_load tabOk 1 rfl rfl rfl ?_ | refine S_load tabOk 2 rfl rfl rfl ?_ | refine S_load tabOk 3 rfl rfl rfl ?_ | refine S_load tabOk 4 rfl rfl rfl ?_ | refine S_load tabOk 5 rfl rfl rfl ?_ | refine S_store tabOk 0 rfl rfl rfl rfl rfl rfl ?_ | refine S_store tabOk 1 rfl rfl rfl rfl rfl rfl ?_ | refine S_store tabOk 2 rfl rfl rfl rfl rfl rfl ?_ | refine S_store tabOk 3 rfl rfl rfl rfl rfl rfl ?_ | refine S_store tabOk 4 rfl rfl rfl rfl rfl rfl ?_ | refine S_store tabOk 5 rfl rfl rfl rfl rfl rfl ?_ | refine S_q (Q_build tabOk rfl rfl rfl rfl rfl rfl rfl) ?_ | refine D_q (Q_build tabOk rfl rfl rfl rfl rfl rfl rfl) ?_)
  refine S_split rfl rfl (fun h2 => ?_) (fun h2 => ?_)
  · repeat (first | refine T_draw (by kernel_rfl) (by kernel_rfl) ?_ | refine D_all rfl ?_ | refine D_i64 tabOk rfl (by omega) ?_ | refine D_u64 tabOk rfl (by omega) ?_ | refine D_pure tabOk rfl ?_ | refine D_pass rfl rfl rfl ?_ | refine D_load tabOk 0 rfl rfl rfl ?_ | refine D_load tabOk 1 rfl rfl rfl ?_ | refine D_load tabOk 2 rfl rfl rfl ?_ | refine D_load tabOk 3 rfl rfl rfl ?_ | refine D_load tabOk 4 rfl rfl rfl ?_ | refine T_seq ?_ | refine T_region ?_ | refine T_block ?_ | refine S_nil ?_ | refine pthen_normal ?_ | refine inb_normal ?_ | refine inb_ret ?_ | refine pthen_ret ?_ | refine inb_hit ?_ | refine pthen_exit ?_ | refine T_skip ?_ | refine T_ret ?_ | refine T_exit ?_  | refine S_i64 tabOk rfl (by omega) ?_ | refine S_u64 tabOk rfl (by omega) ?_ | refine S_pure tabOk rfl ?_ | refine S_pass rfl rfl rfl ?_ | refine S_pass0 rfl rfl ?_ | refine T_region_any ?_  | refine S_load tabOk 0 rfl rfl rfl ?_ | refine S_load tabOk 1 rfl rfl rfl ?_ | refine S_load tabOk 2 rfl rfl rfl ?_ | refine S_load tabOk 3 rfl rfl rfl ?_ | refine S_load tabOk 4 rfl rfl rfl ?_ | refine S_load tabOk 5 rfl rfl rfl ?_ | refine S_store tabOk 0 rfl rfl rfl rfl rfl rfl ?_ | refine S_store tabOk 1 rfl rfl rfl rfl rfl rfl ?_ | refine S_store tabOk 2 rfl rfl rfl rfl rfl rfl ?_ | refine S_store tabOk 3 rfl rfl rfl rfl rfl rfl ?_ | refine S_store tabOk 4 rfl rfl rfl rfl rfl rfl ?_ | refine S_store tabOk 5 rfl rfl rfl rfl rfl rfl ?_ | refine S_q (Q_build tabOk rfl rfl rfl rfl rfl rfl rfl) ?_ | refine D_q (Q_build tabOk rfl rfl rfl rfl rfl rfl rfl) ?_)
    exact ret1 rfl rfl (fun w' hw => ⟨_, rfl, hw.below (by repeat (first | exact new_nil | refine new_ro ?_ | refine new_cons (by first | assumption | omega) ?_ | refine newrow hw 0 rfl (Nat.le_refl _) ?_ | refine newrow hw 1 rfl (Nat.le_refl _) ?_ | refine newrow hw 2 rfl (Nat.le_refl _) ?_ | refine newrow hw 3 rfl (Nat.le_refl _) ?_ | refine newrow hw 4 rfl (Nat.le_refl _) ?_ | refine newrow hw 5 rfl (Nat.le_refl _) ?_)), true, rfl, ⟨fun _ => .inl h2, fun _ => rfl⟩⟩)
  · repeat (first | refine T_draw (by kernel_rfl) (by kernel_rfl) ?_ | refine D_all rfl ?_ | refine D_i64 tabOk rfl (by omega) ?_ | refine D_u64 tabOk rfl (by omega) ?_ | refine D_pure tabOk rfl ?_ | refine D_pass rfl rfl rfl ?_ | refine D_load tabOk 0 rfl rfl rfl ?_ | refine D_load tabOk 1 rfl rfl rfl ?_ | refine D_load tabOk 2 rfl rfl rfl ?_ | refine D_load tabOk 3 rfl rfl rfl ?_ | refine D_load tabOk 4 rfl rfl rfl ?_ | refine T_seq ?_ | refine T_region ?_ | refine T_block ?_ | refine S_nil ?_ | refine pthen_normal ?_ | refine inb_normal ?_ | refine inb_ret ?_ | refine pthen_ret ?_ | refine inb_hit ?_ | refine pthen_exit ?_ | refine T_skip ?_ | refine T_ret ?_ | refine T_exit ?_  | refine S_i64 tabOk rfl (by omega) ?_ | refine S_u64 tabOk rfl (by omega) ?_ | refine S_pure tabOk rfl ?_ | refine S_pass rfl rfl rfl ?_ | refine S_pass0 rfl rfl ?_ | refine T_region_any ?_  | refine S_load tabOk 0 rfl rfl rfl ?_ | refine S_load tabOk 1 rfl rfl rfl ?_ | refine S_load tabOk 2 rfl rfl rfl ?_ | refine S_load tabOk 3 rfl rfl rfl ?_ | refine S_load tabOk 4 rfl rfl rfl ?_ | refine S_load tabOk 5 rfl rfl rfl ?_ | refine S_store tabOk 0 rfl rfl rfl rfl rfl rfl ?_ | refine S_store tabOk 1 rfl rfl rfl rfl rfl rfl ?_ | refine S_store tabOk 2 rfl rfl rfl rfl rfl rfl ?_ | refine S_store tabOk 3 rfl rfl rfl rfl rfl rfl ?_ | refine S_store tabOk 4 rfl rfl rfl rfl rfl rfl ?_ | refine S_store tabOk 5 rfl rfl rfl rfl rfl rfl ?_ | refine S_q (Q_build tabOk rfl rfl rfl rfl rfl rfl rfl) ?_ | refine D_q (Q_build tabOk rfl rfl rfl rfl rfl rfl rfl) ?_)
    refine S_q (Q_rem0 rfl rfl rfl (by decide) h1.1) ?_
    repeat (first | refine T_draw (by kernel_rfl) (by kernel_rfl) ?_ | refine D_all rfl ?_ | refine D_i64 tabOk rfl (by omega) ?_ | refine D_u64 tabOk rfl (by omega) ?_ | refine D_pure tabOk rfl ?_ | refine D_pass rfl rfl rfl ?_ | refine D_load tabOk 0 rfl rfl rfl ?_ | refine D_load tabOk 1 rfl rfl rfl ?_ | refine D_load tabOk 2 rfl rfl rfl ?_ | refine D_load tabOk 3 rfl rfl rfl ?_ | refine D_load tabOk 4 rfl rfl rfl ?_ | refine T_seq ?_ | refine T_region ?_ | refine T_block ?_ | refine S_nil ?_ | refine pthen_normal ?_ | refine inb_normal ?_ | refine inb_ret ?_ | refine pthen_ret ?_ | refine inb_hit ?_ | refine pthen_exit ?_ | refine T_skip ?_ | refine T_ret ?_ | refine T_exit ?_  | refine S_i64 tabOk rfl (by omega) ?_ | refine S_u64 tabOk rfl (by omega) ?_ | refine S_pure tabOk rfl ?_ | refine S_pass rfl rfl rfl ?_ | refine S_pass0 rfl rfl ?_ | refine T_region_any ?_  | refine S_load tabOk 0 rfl rfl rfl ?_ | refine S_load tabOk 1 rfl rfl rfl ?_ | refine S_load tabOk 2 rfl rfl rfl ?_ | refine S_load tabOk 3 rfl rfl rfl ?_ | refine S_load tabOk 4 rfl rfl rfl ?_ | refine S_load tabOk 5 rfl rfl rfl ?_ | refine S_store tabOk 0 rfl rfl rfl rfl rfl rfl ?_ | refine S_store tabOk 1 rfl rfl rfl rfl rfl rfl ?_ | refine S_store tabOk 2 rfl rfl rfl rfl rfl rfl ?_ | refine S_store tabOk 3 rfl rfl rfl rfl rfl rfl ?_ | refine S_store tabOk 4 rfl rfl rfl rfl rfl rfl ?_ | refine S_store tabOk 5 rfl rfl rfl rfl rfl rfl ?_ | refine S_q (Q_build tabOk rfl rfl rfl rfl rfl rfl rfl) ?_ | refine D_q (Q_build tabOk rfl rfl rfl rfl rfl rfl rfl) ?_)
    refine ret1 rfl rfl (fun w' hw => ⟨_, rfl, hw.below (by repeat (first | exact new_nil | refine new_ro ?_ | refine new_cons (by first | assumption | omega) ?_ | refine newrow hw 0 rfl (Nat.le_refl _) ?_ | refine newrow hw 1 rfl (Nat.le_refl _) ?_ | refine newrow hw 2 rfl (Nat.le_refl _) ?_ | refine newrow hw 3 rfl (Nat.le_refl _) ?_ | refine newrow hw 4 rfl (Nat.le_refl _) ?_ | refine newrow hw 5 rfl (Nat.le_refl _) ?_)), _, rfl, ?_⟩)
    rw [decide_eq_true_iff]
    exact ⟨fun h => .inr h, fun h => h.resolve_left h2⟩
theorem number_ok (p : Int × (Int × Int)) (lo : Int) (w : World) (h : okA p) (h0 : 0 ≤ lo) (hlo : lo ≤ 4611686018427387904) : Calls Try.prog 42 #[.agg ⟨encA p⟩, .int .u64 lo] w fun e w' => e = .returned (.int .u64 (numA p lo)) ∧ Below w.heap.size w w' := by
  have h1 := fits_u8 h.1
  have h2 := fits_u8 h.2.1
  have h3 := fits_u64 h.2.2
  refine enter2 Try.func42 rfl rfl (Hp.refl w) ?_
  repeat (first | refine T_draw (by kernel_rfl) (by kernel_rfl) ?_ | refine D_all rfl ?_ | refine D_i64 tabOk rfl (by omega) ?_ | refine D_u64 tabOk rfl (by omega) ?_ | refine D_pure tabOk rfl ?_ | refine D_pass rfl rfl rfl ?_ | refine D_load tabOk 0 rfl rfl rfl ?_ | refine D_load tabOk 1 rfl rfl rfl ?_ | refine D_load tabOk 2 rfl rfl rfl ?_ | refine D_load tabOk 3 rfl rfl rfl ?_ | refine D_load tabOk 4 rfl rfl rfl ?_ | refine T_seq ?_ | refine T_region ?_ | refine T_block ?_ | refine S_nil ?_ | refine pthen_normal ?_ | refine inb_normal ?_ | refine inb_ret ?_ | refine pthen_ret ?_ | refine inb_hit ?_ | refine pthen_exit ?_ | refine T_skip ?_ | refine T_ret ?_ | refine T_exit ?_  | refine S_i64 tabOk rfl (by omega) ?_ | refine S_u64 tabOk rfl (by omega) ?_ | refine S_pure tabOk rfl ?_ | refine S_pass rfl rfl rfl ?_ | refine S_pass0 rfl rfl ?_ | refine T_region_any ?_  | refine S_load tabOk 0 rfl rfl rfl ?_ | refine S_load tabOk 1 rfl rfl rfl ?_ | refine S_load tabOk 2 rfl rfl rfl ?_ | refine S_load tabOk 3 rfl rfl rfl ?_ | refine S_load tabOk 4 rfl rfl rfl ?_ | refine S_load tabOk 5 rfl rfl rfl ?_ | refine S_store tabOk 0 rfl rfl rfl rfl rfl rfl ?_ | refine S_store tabOk 1 rfl rfl rfl rfl rfl rfl ?_ | refine S_store tabOk 2 rfl rfl rfl rfl rfl rfl ?_ | refine S_store tabOk 3 rfl rfl rfl rfl rfl rfl ?_ | refine S_store tabOk 4 rfl rfl rfl rfl rfl rfl ?_ | refine S_store tabOk 5 rfl rfl rfl rfl rfl rfl ?_ | refine S_q (Q_build tabOk rfl rfl rfl rfl rfl rfl rfl) ?_ | refine D_q (Q_build tabOk rfl rfl rfl rfl rfl rfl rfl) ?_)
  refine S_new tabOk rfl (fun b hb => ?_)
  repeat (first | refine T_draw (by kernel_rfl) (by kernel_rfl) ?_ | refine D_all rfl ?_ | refine D_i64 tabOk rfl (by omega) ?_ | refine D_u64 tabOk rfl (by omega) ?_ | refine D_pure tabOk rfl ?_ | refine D_pass rfl rfl rfl ?_ | refine D_load tabOk 0 rfl rfl rfl ?_ | refine D_load tabOk 1 rfl rfl rfl ?_ | refine D_load tabOk 2 rfl rfl rfl ?_ | refine D_load tabOk 3 rfl rfl rfl ?_ | refine D_load tabOk 4 rfl rfl rfl ?_ | refine T_seq ?_ | refine T_region ?_ | refine T_block ?_ | refine S_nil ?_ | refine pthen_normal ?_ | refine inb_normal ?_ | refine inb_ret ?_ | refine pthen_ret ?_ | refine inb_hit ?_ | refine pthen_exit ?_ | refine T_skip ?_ | refine T_ret ?_ | refine T_exit ?_  | refine S_i64 tabOk rfl (by omega) ?_ | refine S_u64 tabOk rfl (by omega) ?_ | refine S_pure tabOk rfl ?_ | refine S_pass rfl rfl rfl ?_ | refine S_pass0 rfl rfl ?_ | refine T_region_any ?_  | refine S_load tabOk 0 rfl rfl rfl ?_ | refine S_load tabOk 1 rfl rfl rfl ?_ | refine S_load tabOk 2 rfl rfl rfl ?_ | refine S_load tabOk 3 rfl rfl rfl ?_ | refine S_load tabOk 4 rfl rfl rfl ?_ | refine S_load tabOk 5 rfl rfl rfl ?_ | refine S_store tabOk 0 rfl rfl rfl rfl rfl rfl ?_ | refine S_store tabOk 1 rfl rfl rfl rfl rfl rfl ?_ | refine S_store tabOk 2 rfl rfl rfl rfl rfl rfl ?_ | refine S_store tabOk 3 rfl rfl rfl rfl rfl rfl ?_ | refine S_store tabOk 4 rfl rfl rfl rfl rfl rfl ?_ | refine S_store tabOk 5 rfl rfl rfl rfl rfl rfl ?_ | refine S_q (Q_build tabOk rfl rfl rfl rfl rfl rfl rfl) ?_ | refine D_q (Q_build tabOk rfl rfl rfl rfl rfl rfl rfl) ?_)
  refine S_q (Q_rem0 rfl rfl rfl (by decide) h1.1) ?_
  repeat (first | refine T_draw (by kernel_rfl) (by kernel_rfl) ?_ | refine D_all rfl ?_ | refine D_i64 tabOk rfl (by omega) ?_ | refine D_u64 tabOk rfl (by omega) ?_ | refine D_pure tabOk rfl ?_ | refine D_pass rfl rfl rfl ?_ | refine D_load tabOk 0 rfl rfl rfl ?_ | refine D_load tabOk 1 rfl rfl rfl ?_ | refine D_load tabOk 2 rfl rfl rfl ?_ | refine D_load tabOk 3 rfl rfl rfl ?_ | refine D_load tabOk 4 rfl rfl rfl ?_ | refine T_seq ?_ | refine T_region ?_ | refine T_block ?_ | refine S_nil ?_ | refine pthen_normal ?_ | refine inb_normal ?_ | refine inb_ret ?_ | refine pthen_ret ?_ | refine inb_hit ?_ | refine pthen_exit ?_ | refine T_skip ?_ | refine T_ret ?_ | refine T_exit ?_  | refine S_i64 tabOk rfl (by omega) ?_ | refine S_u64 tabOk rfl (by omega) ?_ | refine S_pure tabOk rfl ?_ | refine S_pass rfl rfl rfl ?_ | refine S_pass0 rfl rfl ?_ | refine T_region_any ?_  | refine S_load tabOk 0 rfl rfl rfl ?_ | refine S_load tabOk 1 rfl rfl rfl ?_ | refine S_load tabOk 2 rfl rfl rfl ?_ | refine S_load tabOk 3 rfl rfl rfl ?_ | refine S_load tabOk 4 rfl rfl rfl ?_ | refine S_load tabOk 5 rfl rfl rfl ?_ | refine S_store tabOk 0 rfl rfl rfl rfl rfl rfl ?_ | refine S_store tabOk 1 rfl rfl rfl rfl rfl rfl ?_ | refine S_store tabOk 2 rfl rfl rfl rfl rfl rfl ?_ | refine S_store tabOk 3 rfl rfl rfl rfl rfl rfl ?_ | refine S_store tabOk 4 rfl rfl rfl rfl rfl rfl ?_ | refine S_store tabOk 5 rfl rfl rfl rfl rfl rfl ?_ | refine S_q (Q_build tabOk rfl rfl rfl rfl rfl rfl rfl) ?_ | refine D_q (Q_build tabOk rfl rfl rfl rfl rfl rfl rfl) ?_)
  refine T_cond_dec rfl (fun h4 => ?_) (fun h4 => ?_)
  · have e : numA p lo = p.2.2 % 2305843009213693952 := by unfold numA; rw [if_pos h4]
    rw [e]
    repeat (first | refine T_draw (by kernel_rfl) (by kernel_rfl) ?_ | refine D_all rfl ?_ | refine D_i64 tabOk rfl (by omega) ?_ | refine D_u64 tabOk rfl (by omega) ?_ | refine D_pure tabOk rfl ?_ | refine D_pass rfl rfl rfl ?_ | refine D_load tabOk 0 rfl rfl rfl ?_ | refine D_load tabOk 1 rfl rfl rfl ?_ | refine D_load tabOk 2 rfl rfl rfl ?_ | refine D_load tabOk 3 rfl rfl rfl ?_ | refine D_load tabOk 4 rfl rfl rfl ?_ | refine T_seq ?_ | refine T_region ?_ | refine T_block ?_ | refine S_nil ?_ | refine pthen_normal ?_ | refine inb_normal ?_ | refine inb_ret ?_ | refine pthen_ret ?_ | refine inb_hit ?_ | refine pthen_exit ?_ | refine T_skip ?_ | refine T_ret ?_ | refine T_exit ?_  | refine S_i64 tabOk rfl (by omega) ?_ | refine S_u64 tabOk rfl (by omega) ?_ | refine S_pure tabOk rfl ?_ | refine S_pass rfl rfl rfl ?_ | refine S_pass0 rfl rfl ?_ | refine T_region_any ?_  | refine S_load tabOk 0 rfl rfl rfl ?_ | refine S_load tabOk 1 rfl rfl rfl ?_ | refine S_load tabOk 2 rfl rfl rfl ?_ | refine S_load tabOk 3 rfl rfl rfl ?_ | refine S_load tabOk 4 rfl rfl rfl ?_ | refine S_load tabOk 5 rfl rfl rfl ?_ | refine S_store tabOk 0 rfl rfl rfl rfl rfl rfl ?_ | refine S_store tabOk 1 rfl rfl rfl rfl rfl rfl ?_ | refine S_store tabOk 2 rfl rfl rfl rfl rfl rfl ?_ | refine S_store tabOk 3 rfl rfl rfl rfl rfl rfl ?_ | refine S_store tabOk 4 rfl rfl rfl rfl rfl rfl ?_ | refine S_store tabOk 5 rfl rfl rfl rfl rfl rfl ?_ | refine S_q (Q_build tabOk rfl rfl rfl rfl rfl rfl rfl) ?_ | refine D_q (Q_build tabOk rfl rfl rfl rfl rfl rfl rfl) ?_)
    refine S_q (Q_rem0 rfl rfl rfl (by decide) h3.1) ?_
    repeat (first | refine T_draw (by kernel_rfl) (by kernel_rfl) ?_ | refine D_all rfl ?_ | refine D_i64 tabOk rfl (by omega) ?_ | refine D_u64 tabOk rfl (by omega) ?_ | refine D_pure tabOk rfl ?_ | refine D_pass rfl rfl rfl ?_ | refine D_load tabOk 0 rfl rfl rfl ?_ | refine D_load tabOk 1 rfl rfl rfl ?_ | refine D_load tabOk 2 rfl rfl rfl ?_ | refine D_load tabOk 3 rfl rfl rfl ?_ | refine D_load tabOk 4 rfl rfl rfl ?_ | refine T_seq ?_ | refine T_region ?_ | refine T_block ?_ | refine S_nil ?_ | refine pthen_normal ?_ | refine inb_normal ?_ | refine inb_ret ?_ | refine pthen_ret ?_ | refine inb_hit ?_ | refine pthen_exit ?_ | refine T_skip ?_ | refine T_ret ?_ | refine T_exit ?_  | refine S_i64 tabOk rfl (by omega) ?_ | refine S_u64 tabOk rfl (by omega) ?_ | refine S_pure tabOk rfl ?_ | refine S_pass rfl rfl rfl ?_ | refine S_pass0 rfl rfl ?_ | refine T_region_any ?_  | refine S_load tabOk 0 rfl rfl rfl ?_ | refine S_load tabOk 1 rfl rfl rfl ?_ | refine S_load tabOk 2 rfl rfl rfl ?_ | refine S_load tabOk 3 rfl rfl rfl ?_ | refine S_load tabOk 4 rfl rfl rfl ?_ | refine S_load tabOk 5 rfl rfl rfl ?_ | refine S_store tabOk 0 rfl rfl rfl rfl rfl rfl ?_ | refine S_store tabOk 1 rfl rfl rfl rfl rfl rfl ?_ | refine S_store tabOk 2 rfl rfl rfl rfl rfl rfl ?_ | refine S_store tabOk 3 rfl rfl rfl rfl rfl rfl ?_ | refine S_store tabOk 4 rfl rfl rfl rfl rfl rfl ?_ | refine S_store tabOk 5 rfl rfl rfl rfl rfl rfl ?_ | refine S_q (Q_build tabOk rfl rfl rfl rfl rfl rfl rfl) ?_ | refine D_q (Q_build tabOk rfl rfl rfl rfl rfl rfl rfl) ?_)
    exact ret1 rfl rfl (fun w' hw => ⟨rfl, hw.below (by repeat (first | exact new_nil | refine new_ro ?_ | refine new_cons (by first | assumption | omega) ?_ | refine newrow hw 0 rfl (Nat.le_refl _) ?_ | refine newrow hw 1 rfl (Nat.le_refl _) ?_ | refine newrow hw 2 rfl (Nat.le_refl _) ?_ | refine newrow hw 3 rfl (Nat.le_refl _) ?_ | refine newrow hw 4 rfl (Nat.le_refl _) ?_ | refine newrow hw 5 rfl (Nat.le_refl _) ?_))⟩)
  · repeat (first | refine T_draw (by kernel_rfl) (by kernel_rfl) ?_ | refine D_all rfl ?_ | refine D_i64 tabOk rfl (by omega) ?_ | refine D_u64 tabOk rfl (by omega) ?_ | refine D_pure tabOk rfl ?_ | refine D_pass rfl rfl rfl ?_ | refine D_load tabOk 0 rfl rfl rfl ?_ | refine D_load tabOk 1 rfl rfl rfl ?_ | refine D_load tabOk 2 rfl rfl rfl ?_ | refine D_load tabOk 3 rfl rfl rfl ?_ | refine D_load tabOk 4 rfl rfl rfl ?_ | refine T_seq ?_ | refine T_region ?_ | refine T_block ?_ | refine S_nil ?_ | refine pthen_normal ?_ | refine inb_normal ?_ | refine inb_ret ?_ | refine pthen_ret ?_ | refine inb_hit ?_ | refine pthen_exit ?_ | refine T_skip ?_ | refine T_ret ?_ | refine T_exit ?_  | refine S_i64 tabOk rfl (by omega) ?_ | refine S_u64 tabOk rfl (by omega) ?_ | refine S_pure tabOk rfl ?_ | refine S_pass rfl rfl rfl ?_ | refine S_pass0 rfl rfl ?_ | refine T_region_any ?_  | refine S_load tabOk 0 rfl rfl rfl ?_ | refine S_load tabOk 1 rfl rfl rfl ?_ | refine S_load tabOk 2 rfl rfl rfl ?_ | refine S_load tabOk 3 rfl rfl rfl ?_ | refine S_load tabOk 4 rfl rfl rfl ?_ | refine S_load tabOk 5 rfl rfl rfl ?_ | refine S_store tabOk 0 rfl rfl rfl rfl rfl rfl ?_ | refine S_store tabOk 1 rfl rfl rfl rfl rfl rfl ?_ | refine S_store tabOk 2 rfl rfl rfl rfl rfl rfl ?_ | refine S_store tabOk 3 rfl rfl rfl rfl rfl rfl ?_ | refine S_store tabOk 4 rfl rfl rfl rfl rfl rfl ?_ | refine S_store tabOk 5 rfl rfl rfl rfl rfl rfl ?_ | refine S_q (Q_build tabOk rfl rfl rfl rfl rfl rfl rfl) ?_ | refine D_q (Q_build tabOk rfl rfl rfl rfl rfl rfl rfl) ?_)
    refine T_cond_dec rfl (fun h5 => ?_) (fun h5 => ?_)
    · have e : numA p lo = 0 := by unfold numA; rw [if_neg h4, if_pos h5]
      rw [e]
      repeat (first | refine T_draw (by kernel_rfl) (by kernel_rfl) ?_ | refine D_all rfl ?_ | refine D_i64 tabOk rfl (by omega) ?_ | refine D_u64 tabOk rfl (by omega) ?_ | refine D_pure tabOk rfl ?_ | refine D_pass rfl rfl rfl ?_ | refine D_load tabOk 0 rfl rfl rfl ?_ | refine D_load tabOk 1 rfl rfl rfl ?_ | refine D_load tabOk 2 rfl rfl rfl ?_ | refine D_load tabOk 3 rfl rfl rfl ?_ | refine D_load tabOk 4 rfl rfl rfl ?_ | refine T_seq ?_ | refine T_region ?_ | refine T_block ?_ | refine S_nil ?_ | refine pthen_normal ?_ | refine inb_normal ?_ | refine inb_ret ?_ | refine pthen_ret ?_ | refine inb_hit ?_ | refine pthen_exit ?_ | refine T_skip ?_ | refine T_ret ?_ | refine T_exit ?_  | refine S_i64 tabOk rfl (by omega) ?_ | refine S_u64 tabOk rfl (by omega) ?_ | refine S_pure tabOk rfl ?_ | refine S_pass rfl rfl rfl ?_ | refine S_pass0 rfl rfl ?_ | refine T_region_any ?_  | refine S_load tabOk 0 rfl rfl rfl ?_ | refine S_load tabOk 1 rfl rfl rfl ?_ | refine S_load tabOk 2 rfl rfl rfl ?_ | refine S_load tabOk 3 rfl rfl rfl ?_ | refine S_load tabOk 4 rfl rfl rfl ?_ | refine S_load tabOk 5 rfl rfl rfl ?_ | refine S_store tabOk 0 rfl rfl rfl rfl rfl rfl ?_ | refine S_store tabOk 1 rfl rfl rfl rfl rfl rfl ?_ | refine S_store tabOk 2 rfl rfl rfl rfl rfl rfl ?_ | refine S_store tabOk 3 rfl rfl rfl rfl rfl rfl ?_ | refine S_store tabOk 4 rfl rfl rfl rfl rfl rfl ?_ | refine S_store tabOk 5 rfl rfl rfl rfl rfl rfl ?_ | refine S_q (Q_build tabOk rfl rfl rfl rfl rfl rfl rfl) ?_ | refine D_q (Q_build tabOk rfl rfl rfl rfl rfl rfl rfl) ?_)
      exact ret1 rfl rfl (fun w' hw => ⟨rfl, hw.below (by repeat (first | exact new_nil | refine new_ro ?_ | refine new_cons (by first | assumption | omega) ?_ | refine newrow hw 0 rfl (Nat.le_refl _) ?_ | refine newrow hw 1 rfl (Nat.le_refl _) ?_ | refine newrow hw 2 rfl (Nat.le_refl _) ?_ | refine newrow hw 3 rfl (Nat.le_refl _) ?_ | refine newrow hw 4 rfl (Nat.le_refl _) ?_ | refine newrow hw 5 rfl (Nat.le_refl _) ?_))⟩)
    · have e : numA p lo = lo + p.2.1 - 5 := by unfold numA; rw [if_neg h4, if_neg h5]
      rw [e]
      repeat (first | refine T_draw (by kernel_rfl) (by kernel_rfl) ?_ | refine D_all rfl ?_ | refine D_i64 tabOk rfl (by omega) ?_ | refine D_u64 tabOk rfl (by omega) ?_ | refine D_pure tabOk rfl ?_ | refine D_pass rfl rfl rfl ?_ | refine D_load tabOk 0 rfl rfl rfl ?_ | refine D_load tabOk 1 rfl rfl rfl ?_ | refine D_load tabOk 2 rfl rfl rfl ?_ | refine D_load tabOk 3 rfl rfl rfl ?_ | refine D_load tabOk 4 rfl rfl rfl ?_ | refine T_seq ?_ | refine T_region ?_ | refine T_block ?_ | refine S_nil ?_ | refine pthen_normal ?_ | refine inb_normal ?_ | refine inb_ret ?_ | refine pthen_ret ?_ | refine inb_hit ?_ | refine pthen_exit ?_ | refine T_skip ?_ | refine T_ret ?_ | refine T_exit ?_  | refine S_i64 tabOk rfl (by omega) ?_ | refine S_u64 tabOk rfl (by omega) ?_ | refine S_pure tabOk rfl ?_ | refine S_pass rfl rfl rfl ?_ | refine S_pass0 rfl rfl ?_ | refine T_region_any ?_  | refine S_load tabOk 0 rfl rfl rfl ?_ | refine S_load tabOk 1 rfl rfl rfl ?_ | refine S_load tabOk 2 rfl rfl rfl ?_ | refine S_load tabOk 3 rfl rfl rfl ?_ | refine S_load tabOk 4 rfl rfl rfl ?_ | refine S_load tabOk 5 rfl rfl rfl ?_ | refine S_store tabOk 0 rfl rfl rfl rfl rfl rfl ?_ | refine S_store tabOk 1 rfl rfl rfl rfl rfl rfl ?_ | refine S_store tabOk 2 rfl rfl rfl rfl rfl rfl ?_ | refine S_store tabOk 3 rfl rfl rfl rfl rfl rfl ?_ | refine S_store tabOk 4 rfl rfl rfl rfl rfl rfl ?_ | refine S_store tabOk 5 rfl rfl rfl rfl rfl rfl ?_ | refine S_q (Q_build tabOk rfl rfl rfl rfl rfl rfl rfl) ?_ | refine D_q (Q_build tabOk rfl rfl rfl rfl rfl rfl rfl) ?_)
      exact ret1 rfl rfl (fun w' hw => ⟨rfl, hw.below (by repeat (first | exact new_nil | refine new_ro ?_ | refine new_cons (by first | assumption | omega) ?_ | refine newrow hw 0 rfl (Nat.le_refl _) ?_ | refine newrow hw 1 rfl (Nat.le_refl _) ?_ | refine newrow hw 2 rfl (Nat.le_refl _) ?_ | refine newrow hw 3 rfl (Nat.le_refl _) ?_ | refine newrow hw 4 rfl (Nat.le_refl _) ?_ | refine newrow hw 5 rfl (Nat.le_refl _) ?_))⟩)
end Go.Proofs.Ytgjibkocpmajdaa
