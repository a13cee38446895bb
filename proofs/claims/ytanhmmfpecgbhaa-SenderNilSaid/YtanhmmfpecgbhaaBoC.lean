/-
  What a board tells: Has, Count, Next, Tries. Conditions: each theorem's own.
-/
import Derived.Test.YtanhmmfpecgbhaaBoB
namespace Go.Proofs.Ytanhmmfpecgbhaa
open Go Go.RowKit
set_option linter.unusedVariables false

section
variable {bb : Nat} {f m last : Int} {gs : List BG} {w w0 : World} {F : Nat → Prop} {v : Value} {ol : OL}
theorem bo_has (h : (boA bb f m gs last).at_ w F v) (n : Int) : Calls Try.prog 27 #[bptr bb, .int .u64 n] w fun e w' => e = .returned (.bool (decide (n ∈ bNums gs))) ∧ Below w.heap.size w w' := by
  obtain ⟨x, hp, hok, hr, hst, _⟩ := bo_open h false false
  refine enter2 Try.func27 rfl rfl hst ?_
  repeat (first | refine T_seq ?_ | refine T_region ?_ | refine S_nil ?_ | refine S_pure tabOk rfl ?_)
  refine S_q (Q_eqptr tabOk rfl rfl rfl rfl rfl) ?_
  repeat (first | refine T_seq ?_ | refine T_region ?_ | refine S_nil ?_ | refine pthen_normal ?_ | refine T_skip ?_ | refine T_cond_f rfl ?_ | refine S_pure tabOk rfl ?_ | refine S_load tabOk 0 rfl rfl rfl ?_)
  have hg := hr.g2 n
  cases hb : bGet gs n with
  | some g =>
    rw [hb] at hg
    refine S_q (Q_look1 tabOk rfl rfl rfl rfl rfl rfl rfl rfl (fun w' hw => hw.own _ (getE_mem (i := 2) rfl)) hg) ?_
    repeat (first | refine T_seq ?_ | refine T_region ?_ | refine S_nil ?_ | refine T_ret ?_ | refine S_pure tabOk rfl ?_)
    have hn : n ∈ bNums gs := List.mem_flatMap.2 ⟨g, bGet_some hb⟩
    exact ret1 rfl rfl (fun w' hw => ⟨by rw [decide_eq_true hn], hw.below (by repeat (first | exact new_nil | refine new_bf ?_ | refine new_ro ?_))⟩)
  | none =>
    rw [hb] at hg
    refine S_q (Q_look0 tabOk rfl rfl rfl rfl rfl rfl rfl rfl (fun w' hw => hw.own _ (getE_mem (i := 2) rfl)) hg) ?_
    repeat (first | refine T_seq ?_ | refine T_region ?_ | refine S_nil ?_ | refine T_ret ?_ | refine S_pure tabOk rfl ?_)
    exact ret1 rfl rfl (fun w' hw => ⟨by rw [decide_eq_false (bGet_none.1 hb)], hw.below (by repeat (first | exact new_nil | refine new_bf ?_ | refine new_ro ?_))⟩)
theorem bo_has0 (w : World) (n : Int) : Calls Try.prog 27 #[.pointer none, .int .u64 n] w fun e w' => e = .returned (.bool false) ∧ Below w.heap.size w w' := by
  refine enter2 Try.func27 rfl rfl (Hp.refl w) ?_
  repeat (first | refine T_seq ?_ | refine T_region ?_ | refine S_nil ?_ | refine S_pure tabOk rfl ?_)
  refine S_q (Q_eqptr tabOk rfl rfl rfl rfl rfl) ?_
  repeat (first | refine T_seq ?_ | refine T_region ?_ | refine S_nil ?_ | refine pthen_ret ?_ | refine T_ret ?_ | refine T_cond_t rfl ?_ | refine S_pure tabOk rfl ?_)
  exact ret1 rfl rfl (fun w' hw => ⟨rfl, hw.below (by repeat (first | exact new_nil))⟩)
/-- whose keys a board's map has -/
theorem BRel.keys {M1 M2 : List ME} {c1 c2 : Nat} {B : Int → Nat} (hr : BRel gs M1 M2 c1 c2 B) (n : Int) : n ∈ M2.map (·.1) ↔ n ∈ bNums gs := by
  have h1 := hr.g2 n
  rw [← Decidable.not_iff_not, ← mGet_mem, h1, ← bGet_none]
  cases bGet gs n <;> simp
theorem BRel.len {M1 M2 : List ME} {c1 c2 : Nat} {B : Int → Nat} (hr : BRel gs M1 M2 c1 c2 B) (hok : BOk last gs) : M2.length = (bNums gs).length := by
  have e : M2.length = (M2.map (·.1)).length := by rw [List.length_map]
  rw [e]
  exact (nodup_sub_perm hr.m2.keys hok.nd (fun x hx => (hr.keys x).1 hx) fun x hx => (hr.keys x).2 hx).length_eq
theorem bo_count (h : (boA bb f m gs last).at_ w F v) : Calls Try.prog 36 #[bptr bb] w fun e w' => e = .returned (.int .i64 ((bNums gs).length : Int)) ∧ Below w.heap.size w w' := by
  obtain ⟨x, hp, hok, hr, hst, _⟩ := bo_open h false false
  refine enter1 Try.func36 rfl rfl hst ?_
  repeat (first | refine T_seq ?_ | refine T_region ?_ | refine S_nil ?_ | refine S_pure tabOk rfl ?_)
  refine S_q (Q_eqptr tabOk rfl rfl rfl rfl rfl) ?_
  repeat (first | refine T_seq ?_ | refine T_region ?_ | refine S_nil ?_ | refine pthen_normal ?_ | refine T_skip ?_ | refine T_cond_f rfl ?_ | refine S_pure tabOk rfl ?_ | refine S_load tabOk 0 rfl rfl rfl ?_)
  refine S_q (Q_maplen tabOk rfl rfl rfl rfl (fun w' hw => hw.own _ (getE_mem (i := 2) rfl))) ?_
  repeat (first | refine S_nil ?_ | refine T_ret ?_ | refine S_pure tabOk rfl ?_)
  exact ret1 rfl rfl (fun w' hw => ⟨by rw [hr.len hok], hw.below (by repeat (first | exact new_nil | refine new_bf ?_ | refine new_ro ?_))⟩)
theorem bo_count0 (w : World) : Calls Try.prog 36 #[.pointer none] w fun e w' => e = .returned (.int .i64 0) ∧ Below w.heap.size w w' := by
  refine enter1 Try.func36 rfl rfl (Hp.refl w) ?_
  repeat (first | refine T_seq ?_ | refine T_region ?_ | refine S_nil ?_ | refine S_pure tabOk rfl ?_)
  refine S_q (Q_eqptr tabOk rfl rfl rfl rfl rfl) ?_
  repeat (first | refine T_seq ?_ | refine T_region ?_ | refine S_nil ?_ | refine pthen_ret ?_ | refine T_ret ?_ | refine T_cond_t rfl ?_ | refine S_pure tabOk rfl ?_)
  exact ret1 rfl rfl (fun w' hw => ⟨rfl, hw.below (by repeat (first | exact new_nil))⟩)
theorem bo_next (h : (boA bb f m gs last).at_ w F v) : Calls Try.prog 34 #[bptr bb] w fun e w' => e = .returned (dNext (bAl gs)) ∧ Below w.heap.size w w' := by
  obtain ⟨x, hp, hok, hr, hst, _⟩ := bo_open h false false
  refine enter1 Try.func34 rfl rfl hst ?_
  repeat (first | refine T_seq ?_ | refine T_region ?_ | refine S_nil ?_ | refine S_pure tabOk rfl ?_)
  refine S_q (Q_eqptr tabOk rfl rfl rfl rfl rfl) ?_
  repeat (first | refine T_seq ?_ | refine T_region ?_ | refine S_nil ?_ | refine pthen_normal ?_ | refine T_skip ?_ | refine T_cond_f rfl ?_ | refine S_pure tabOk rfl ?_ | refine S_load tabOk 0 rfl rfl rfl ?_)
  refine S_callq rfl Try.call72 (fun w1 h1 => al_next (h1.own _ (getE_mem (i := 3) rfl)).1) ?_
  unfold dNext
  cases bAl gs with
  | nil =>
    repeat (first | refine S_nil ?_ | refine T_ret ?_ | refine S_pure tabOk rfl ?_)
    exact ret2 rfl rfl rfl (fun w' hw => ⟨rfl, hw.below (by repeat (first | exact new_nil | refine new_bf ?_ | refine new_ro ?_))⟩)
  | cons p l =>
    repeat (first | refine S_nil ?_ | refine T_ret ?_ | refine S_pure tabOk rfl ?_)
    exact ret2 rfl rfl rfl (fun w' hw => ⟨rfl, hw.below (by repeat (first | exact new_nil | refine new_bf ?_ | refine new_ro ?_))⟩)
theorem bo_next0 (w : World) : Calls Try.prog 34 #[.pointer none] w fun e w' => e = .returned (.tuple #[.int .i64 0, .bool false]) ∧ Below w.heap.size w w' := by
  refine enter1 Try.func34 rfl rfl (Hp.refl w) ?_
  repeat (first | refine T_seq ?_ | refine T_region ?_ | refine S_nil ?_ | refine S_pure tabOk rfl ?_)
  refine S_q (Q_eqptr tabOk rfl rfl rfl rfl rfl) ?_
  repeat (first | refine T_seq ?_ | refine T_region ?_ | refine S_nil ?_ | refine pthen_ret ?_ | refine T_ret ?_ | refine T_cond_t rfl ?_ | refine S_pure tabOk rfl ?_)
  exact ret2 rfl rfl rfl (fun w' hw => ⟨rfl, hw.below (by repeat (first | exact new_nil))⟩)
/-- how often a number's group was sent -/
def bTries (gs : List BG) (n : Int) : Int := match bGet gs n with
  | some g => g.tries
  | none => 0
theorem bo_tries (h : (boA bb f m gs last).at_ w F v) (n : Int) : Calls Try.prog 26 #[bptr bb, .int .u64 n] w fun e w' => e = .returned (.int .i64 (bTries gs n)) ∧ Below w.heap.size w w' := by
  obtain ⟨x, hp, hok, hr, hst, _⟩ := bo_open h false false
  refine enter2 Try.func26 rfl rfl hst ?_
  repeat (first | refine T_seq ?_ | refine T_region ?_ | refine S_nil ?_ | refine S_pure tabOk rfl ?_)
  refine S_callq rfl Try.call27 (fun w1 h1 => bo_has ((boA bb f m gs last).ext h (h1.below (by repeat (first | exact new_nil | refine new_bf ?_ | refine new_ro ?_)))) n) ?_
  have hg := hr.g2 n
  unfold bTries
  cases hb : bGet gs n with
  | none =>
    refine S_re 7 (v' := .bool false) rfl (congrArg Value.bool (decide_eq_false (bGet_none.1 hb))) ?_
    repeat (first | refine S_nil ?_ | refine S_pure tabOk rfl ?_)
    refine T_cond_t rfl ?_
    repeat (first | refine T_seq ?_ | refine T_region ?_ | refine S_nil ?_ | refine pthen_ret ?_ | refine T_ret ?_ | refine S_pure tabOk rfl ?_)
    exact ret1 rfl rfl (fun w' hw => ⟨rfl, hw.below (by repeat (first | exact new_nil | refine new_bf ?_ | refine new_ro ?_))⟩)
  | some g =>
    obtain ⟨hg1, hg2⟩ := bGet_some hb
    refine S_re 7 (v' := .bool true) rfl (congrArg Value.bool (decide_eq_true (List.mem_flatMap.2 ⟨g, hg1, hg2⟩))) ?_
    repeat (first | refine S_nil ?_ | refine S_pure tabOk rfl ?_)
    refine T_cond_f rfl ?_
    rw [hb] at hg
    have hi := hr.g1 g.id
    rw [bId_mem hok hg1] at hi
    repeat (first | refine T_draw (by kernel_rfl) (by kernel_rfl) ?_ | refine D_pure tabOk rfl ?_ | refine D_load tabOk 0 rfl rfl rfl ?_ | refine T_seq ?_ | refine pthen_normal ?_ | refine T_skip ?_)
    refine D_q (Q_look (v := .int .u64 g.id) tabOk rfl rfl rfl rfl rfl rfl rfl rfl (fun w' hw => hw.own _ (getE_mem (i := 2) rfl)) hg) ?_
    refine D_q (Q_look (v := bptr (x.B g.id)) tabOk rfl rfl rfl rfl rfl rfl rfl rfl (fun w' hw => hw.own _ (getE_mem (i := 1) rfl)) hi) ?_
    repeat (first | refine D_pure tabOk rfl ?_)
    refine D_load1 tabOk (v := .int .i64 g.tries) rfl rfl (fun w' hw => cellH ((hw.own _ (getE_mem (i := 4) rfl)).1 g hg1).1 (j := 1) rfl) ?_
    repeat (first | refine D_all rfl ?_ | refine D_pure tabOk rfl ?_ | refine T_ret ?_)
    exact ret1 rfl rfl (fun w' hw => ⟨rfl, hw.below (by repeat (first | exact new_nil | refine new_bf ?_ | refine new_ro ?_))⟩)
theorem bo_tries0 (w : World) (n : Int) : Calls Try.prog 26 #[.pointer none, .int .u64 n] w fun e w' => e = .returned (.int .i64 0) ∧ Below w.heap.size w w' := by
  refine enter2 Try.func26 rfl rfl (Hp.refl w) ?_
  repeat (first | refine T_seq ?_ | refine T_region ?_ | refine S_nil ?_ | refine S_pure tabOk rfl ?_)
  refine S_callq rfl Try.call27 (fun w1 h1 => bo_has0 w1 n) ?_
  repeat (first | refine S_nil ?_ | refine S_pure tabOk rfl ?_)
  refine T_cond_t rfl ?_
  repeat (first | refine T_seq ?_ | refine T_region ?_ | refine S_nil ?_ | refine pthen_ret ?_ | refine T_ret ?_ | refine S_pure tabOk rfl ?_)
  exact ret1 rfl rfl (fun w' hw => ⟨rfl, hw.below (by repeat (first | exact new_nil))⟩)
end
end Go.Proofs.Ytanhmmfpecgbhaa
