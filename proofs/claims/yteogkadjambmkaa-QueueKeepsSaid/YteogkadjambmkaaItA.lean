/-
  slices.AppendSeq, slices.Collect at uint64, against any iterator value. Conditions: each theorem's own.
-/
import Derived.Test.YteogkadjambmkaaEngAc
import Derived.RangeFuncBox
import Derived.RangeFuncWrites
import Derived.RangeFuncLeaves
import Derived.RangeFuncBound
import Derived.RangeFuncCalls
import Derived.Shelf.Abstract
import Derived.WalkKit
import Derived.OwnWalkIn
import Derived.TacticsInMore
import Derived.LoopNIn
import Derived.LoopIn
import Derived.Maps.AppendAt
namespace Go.Proofs.Yteogkadjambmkaa
open Go Go.RowKit Go.Shelf
set_option linter.unusedVariables false
attribute [local go_sem] Oper.semAt_some

abbrev encU : Int → Array Value := fun x => #[.int .u64 x]
/-- No block that a round of slices.AppendSeq may turn. -/
def NotMine (o : Obj) : Prop := (∀ cur f, o ≠ .cells cur 61 f) ∧ ∀ cur f, o ≠ .cells cur 59 f
structure KpOk (Kp : World → World → Prop) (n₀ : Nat) : Prop where
  t : ∀ {A B C : World}, Kp A B → Kp B C → Kp A C
  b : ∀ (W : World) (l : Nat) (o o' : Obj), n₀ ≤ l → W.heap[l]? = some o → o.isCells = false → o.isWalk = false → Kp W (W.putObj l o')
  r : ∀ W W' : World, W.heap.size ≤ W'.heap.size → (∀ (k : Nat) (o : Obj), W.heap[k]? = some o → NotMine o → W'.heap[k]? = some o) → Go.RowKit.Below n₀ W W' → Kp W W'
theorem kp_walks (n₀ : Nat) : KpOk KeepsWalks n₀ :=
  ⟨fun h k => h.trans k, fun W l o o' _ h _ hw => KeepsWalks.putObj _ h hw, fun W W' hs h _ => ⟨hs, fun k o hk ho => h k o hk ⟨fun cur f e => (by rw [e] at ho; cases ho), fun cur f e => (by rw [e] at ho; cases ho)⟩⟩⟩
theorem kp_below {n n₀ : Nat} (hn : n ≤ n₀) : KpOk (Go.RowKit.Below n) n₀ :=
  ⟨fun h k => h.trans k, fun W l o o' hl h _ _ => (Go.RowKit.Below.refl n W).grown (grownBy_putObj' W l o') (by have := (Array.getElem?_eq_some_iff.1 h).1; omega) (fun k e => by cases e; omega), fun W W' _ _ h => h.mono hn⟩
theorem notMine_keep {W w1 : World} {n₀ B n : Nat} {v v' : Value} {xs : List Value} {tmp : Obj} (hv : Boxed W B 61 v) (hr : W.ownsRow n₀ 59 1 v n xs) (hg : (W.alloc tmp).grownBy w1 v.ownBlock) :
    W.heap.size ≤ (w1.setCell ⟨B, 0, none⟩ v').heap.size ∧ ∀ (k : Nat) (o : Obj), W.heap[k]? = some o → NotMine o → (w1.setCell ⟨B, 0, none⟩ v').heap[k]? = some o := by
  constructor
  · have h1 := hg.size
    have h2 := (grownBy_setCell' w1 B v').size
    simp only [World.size_alloc] at h1
    omega
  · intro k o hk ho
    have hlt := (Array.getElem?_eq_some_iff.1 hk).1
    have h1 : k ≠ B := fun e => by
      subst e
      rw [show W.heap[k]? = _ from hv] at hk
      exact ho.1 _ _ (Option.some.inj hk).symm
    have h2 : some k ≠ v.ownBlock := fun e => by
      rcases hr.2 with ⟨e1, _⟩ | ⟨g, c, cur, e1, _, hg', _⟩
      · rw [e1] at e; cases e
      · rw [e1] at e
        cases e
        rw [hg'] at hk
        exact ho.2 _ _ (Option.some.inj hk).symm
    rw [Go.RowKit.Below.heap_setCell w1 _ _ k h1, hg.block k (by simp; omega) h2, Go.RowKit.Below.heap_alloc W _ k hlt, hk]
theorem infoU : (Try.prog.info? 59).map (fun i => (i.zero, i.size, i.bytes)) = some (some (.int .u64 0), 1, 8) := by kernel_rfl

set_option maxRecDepth 100000 in
set_option maxHeartbeats 4000000 in
theorem apseq_in {gf : Nat} {lb : Array Value} (eg : ∀ args w, (callFunc gf args).run Try.prog w = .ok (.enter gf args) w) {Kp : World → World → Prop} {S Sp : List Int → Prop} {N : Nat} (hN : N ≤ 1000000) (w : World) (hKp : KpOk Kp w.heap.size)
    (hseq : ∀ n, SeqStopsK Fence.wide n Try.prog gf lb encU Kp S Sp N w) :
    CallsIn Fence.wide 4 Try.prog 75 #[.slice none 0 0, .func (.func gf) #[] lb] w fun e W' => ∃ v ss, e = .returned v ∧ S ss ∧ W'.ownsRow w.heap.size 59 1 v ss.length (ss.map (Value.int .u64)) ∧ (v = .slice none 0 0 ↔ ss = []) ∧ Go.RowKit.Below w.heap.size w W' := by
  obtain ⟨i0, hi, hz0, hz1, hz2⟩ := info_parts infoU
  refine callsIn_of_wp_marks Try.func75 rfl trivial ?_ rfl
  simp only [Try.ntmps75, List.size_toArray, List.length_cons, List.length_nil, Nat.reduceAdd, Nat.reduceSub, Array.replicate_succ, Array.replicate_zero, List.push_toArray, List.append_toArray, List.nil_append, List.cons_append]
  gi_wp2
  have bO := Boxed.new w 61 (.slice none 0 0)
  have hB0 : Go.RowKit.Below w.heap.size w (w.alloc (.cells #[.slice none 0 0] 61)) := (Go.RowKit.Below.refl _ w).alloc (Nat.le_refl _) _
  refine wpIn_rangeFunc_ownG rfl (by decide) (gf := gf) (lb := lb) rfl trivial eg (hseq _) hKp.t (fun W l o o' hl => hKp.b W l o o' (by simp at hl; omega)) hB0 (fun _ => rfl)
    (fun pre W => (∃ v, Boxed W w.heap.size 61 v ∧ W.ownsRow w.heap.size 59 1 v pre.length (pre.map (Value.int .u64)) ∧ (v = .slice none 0 0 ↔ pre = [])) ∧ Go.RowKit.Below w.heap.size w W)
    (fun _ _ _ => False)
    (OwnFrom.and (Own.from (holdsRow_own w.heap.size w.heap.size 61 59 1 (fun pre : List Int => pre.length) (fun pre => pre.map (Value.int .u64)) (fun pre v => v = .slice none 0 0 ↔ pre = [])) _) (ownFrom_below (Nat.le_refl _) (by simp)))
    (fun _ _ _ _ _ hs _ _ => hs)
    ⟨⟨_, bO, World.ownsRow_nil _ _ _ _, by simp⟩, hB0⟩
    (fun x => { tmps := #[.slice none 0 0, .func (.func gf) #[] lb, .pointer (some ⟨w.heap.size, 0, none⟩), undef, .slice none 0 0, .int .u64 x, .func (.func gf) #[] lb, .int .u64 x, undef, undef, undef, undef, undef], defers := [] }) ?assign ?body ?done ?stop
  case assign =>
    intro l x W K hK
    gi_wp2
    exact hK
  case body =>
    rintro l pre x W ⟨⟨v, hv, hrow, hnil⟩, hB⟩ hlt
    have hc := hv.cell
    have hml : maxLen = 9223372036854775807 := by decide
    gi_wp2_with (gi_at_builtin; refine wpListIn_append_own _ rfl _ _ 61 rfl w.heap.size 59 i0 (.int .u64 0) 1 8 Try.underlying61 hi hz0 hz1 hz2 rfl (by decide) _ _ _ rfl (hrow.alloc _) ⟨W.heap.size, 0, none⟩ 1 1 [.int .u64 x] rfl rfl (cell_one_new _ _ _) (by simp [Value.oneCell']) (by omega) (by omega) (by have := hB.size; simp; omega) ?_; intro v' w1 hown' hgrow _; obtain ⟨g', cap', rfl⟩ := ownsRow_succ hown'; have hnm := @notMine_keep W w1 w.heap.size w.heap.size pre.length v (.slice (some ⟨g', 0, none⟩) (pre.length + 1) cap') _ _ hv hrow hgrow; obtain ⟨hv1, hv2, hr2, hk2, hb2⟩ := hv.appended (by decide) hrow hB.size (Nat.le_refl _) hown' hgrow; have hc1 := hv1.cell; have hf1 := hv1.frozen)
    exact ⟨hk2.from _, hKp.r _ _ hnm.1 hnm.2 hb2, ⟨_, hv2, by simpa using hr2, by simp⟩, hB.trans hb2⟩
  case done =>
    rintro D ys W hD hS ⟨⟨v, hv, hrow, hnil⟩, hB⟩ hK
    have hc := hv.cell
    gi_wp2
    refine ⟨by simp, .inl ⟨_, _, rfl, run_takeDeferred hK, ?_⟩⟩
    exact ⟨_, results_tmp rfl _ _ _, v, ys, rfl, hS, ownsRow_putObj hrow _ hK rfl, hnil, hB.trans (belowK_b (w := w) (Nat.le_refl _) W D _ _ (by simp at hD; omega) hK rfl rfl)⟩
  case stop =>
    rintro D c pre W _ _ h _
    exact h.elim
theorem apseq_ok {gf : Nat} {lb : Array Value} (eg : ∀ args w, (callFunc gf args).run Try.prog w = .ok (.enter gf args) w) {Kp : World → World → Prop} {S Sp : List Int → Prop} {N : Nat} (hN : N ≤ 1000000) (w : World) (hKp : KpOk Kp w.heap.size)
    (hseq : ∀ n, SeqStopsK Fence.wide n Try.prog gf lb encU Kp S Sp N w) :
    Calls Try.prog 75 #[.slice none 0 0, .func (.func gf) #[] lb] w fun e W' => ∃ v ss, e = .returned v ∧ S ss ∧ W'.ownsRow w.heap.size 59 1 v ss.length (ss.map (Value.int .u64)) ∧ (v = .slice none 0 0 ↔ ss = []) ∧ Go.RowKit.Below w.heap.size w W' :=
  callsIn_wide.1 (apseq_in eg hN w hKp hseq)
end Go.Proofs.Yteogkadjambmkaa
