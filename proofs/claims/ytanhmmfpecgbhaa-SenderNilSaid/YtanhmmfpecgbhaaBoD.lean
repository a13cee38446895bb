/-
  A board's Clear, New, Flight. Conditions: each theorem's own.
-/
import Derived.Test.YtanhmmfpecgbhaaBoC
namespace Go.Proofs.Ytanhmmfpecgbhaa
open Go Go.RowKit
set_option linter.unusedVariables false

theorem bRel_nil {c1 c2 : Nat} {B : Int → Nat} : BRel [] [] [] 0 0 B := ⟨fun g h => (by cases h), MOk.nil, fun id => rfl, MOk.nil, fun n => rfl⟩
section
variable {bb : Nat} {f m last : Int} {gs : List BG} {w w0 : World} {F : Nat → Prop} {v : Value} {ol : OL}
/-- what stands for nothing -/
theorem Hp.none {w0 w : World} {ol : OL} (h : Hp w0 w ol) {p : Vp} {v : Value} (hp : ∀ w, p.at_ w (fun _ => False) v) (r : Bool) : Hp w0 w (.rep (fun w => p.at_ w (fun _ => False) v) (fun _ => False) r :: ol) :=
  h.more ⟨hp w, Vp.loc, fun _ h => h.elim⟩ fun e _ _ k hk => hk.elim
theorem bo_clear_raw {v1 v2 v3 : Value} (hb : w.heap[bb]? = some (.cells ⟨[.int .i64 f, .int .i64 m, v1, v2, v3, .int .u64 last]⟩ 101 (0, 0))) (hp : PR f m) (hl : 0 ≤ last ∧ last ≤ 1099511627776) (hbF : F bb) (hF : ∀ k, F k → k < w.heap.size) :
    Calls Try.prog 31 #[bptr bb] w fun e w' => e = .returned (.tuple #[]) ∧ Turns w F (boA bb f m [] last) w' := by
  refine enter1 Try.func31 rfl rfl (Hp.start true hb) ?_
  repeat (first | refine T_seq ?_ | refine T_region ?_ | refine S_pure tabOk rfl ?_)
  refine S_q (Q_neptr tabOk rfl rfl rfl rfl rfl) ?_
  repeat (first | refine S_nil ?_ | refine T_cond_t rfl ?_ | refine S_pure tabOk rfl ?_ | refine T_region_any ?_)
  refine S_makemap rfl .u64 (fun gb hgb => ?_)
  refine S_makemap rfl .u64 (fun mb hmb => ?_)
  refine S_callN rfl Try.call69 (fun w1 h1 => (al_new w1).mono fun e w' ⟨ab, Fa, he, h2, h3⟩ => ⟨_, _, Fa, he, h2, h3, fun hN0 => ?_⟩)
  repeat (first | refine S_nil ?_ | refine S_pure tabOk rfl ?_ | refine S_store tabOk 3 rfl rfl rfl rfl rfl rfl ?_)
  refine ret0n rfl (fun w' hw => ⟨rfl, ?_⟩)
  have h9 := (((hw.none (p := seV [] fun _ => ⟨none, 0, 0⟩) (v := .bool true) (fun w g hg => by cases hg) false).none (p := gbV [] (fun _ => 0) fun _ => ⟨none, 0, 0⟩) (v := .bool true) (fun w g hg => by cases hg) true).pm [5, 4, 3, 2, 0, 1] rfl rfl rfl)
  refine bo_close (h := ⟨gb, mb, ab, 0, 0, [], [], fun _ => 0, fun _ => ⟨none, 0, 0⟩, Fa, fun _ => False, fun _ => False⟩) (ol := []) h9 hp (BOk.nil hl) (fun g hg => by cases hg) (bRel_nil (c1 := 0) (c2 := 0)) hF (fun e he => by cases he) (fun e he k hk => ?_)
  simp only [boL, List.mem_cons, List.not_mem_nil, or_false] at he
  rcases he with rfl | rfl | rfl | rfl | rfl | rfl
  · exact .inl (Option.some.inj hk ▸ hbF)
  · exact .inr (Option.some.inj hk ▸ hgb)
  · exact .inr (Option.some.inj hk ▸ hmb)
  · exact .inr (hN0 k hk)
  · exact hk.elim
  · exact hk.elim
theorem bo_clear (h : (boA bb f m gs last).at_ w F (.bool true)) (hF : ∀ k, F k → k < w.heap.size) :
    Calls Try.prog 31 #[bptr bb] w fun e w' => e = .returned (.tuple #[]) ∧ Turns w F (boA bb f m [] last) w' := by
  obtain ⟨x, hp, hok, hr, h4, h5⟩ := h
  exact bo_clear_raw (h4 _ (getE_mem (i := 0) rfl)).1 hp hok.1.lst ((h4 _ (getE_mem (i := 0) rfl)).2 bb rfl) hF
theorem bo_clear0 (w : World) : Calls Try.prog 31 #[.pointer none] w fun e w' => e = .returned (.tuple #[]) ∧ Below w.heap.size w w' := by
  refine enter1 Try.func31 rfl rfl (Hp.refl w) ?_
  repeat (first | refine T_seq ?_ | refine T_region ?_ | refine S_pure tabOk rfl ?_)
  refine S_q (Q_neptr tabOk rfl rfl rfl rfl rfl) ?_
  repeat (first | refine S_nil ?_ | refine T_skip ?_ | refine T_cond_f rfl ?_)
  exact ret0n rfl (fun w' hw => ⟨rfl, hw.below (by repeat (first | exact new_nil))⟩)
theorem Hp.blkRep {b : Nat} {x : Obj} (h : Hp w0 w (.blk b x true :: ol)) : Hp w0 w (.rep (fun w => w.heap[b]? = some x) (fun k => some b = some k) true :: ol) := by
  have o0 : w.heap[b]? = some x := h.own _ List.mem_cons_self
  refine Hp.regroup [.blk b x true] [.rep (fun w => w.heap[b]? = some x) (fun k => some b = some k) true] h (fun e he => ?_) (fun e he => ?_) (List.pairwise_singleton _ _) (fun e he k hk => ?_) (fun e he k hk => ?_)
  · rw [List.mem_singleton] at he
    subst he; rfl
  · rw [List.mem_singleton] at he
    subst he
    exact ⟨rfl, o0, fun w1 w2 h1 h2 => (h1 b rfl).trans h2, fun k hk => by rw [← Option.some.inj hk]; exact heap_lt o0⟩
  · rw [List.mem_singleton] at he
    subst he
    exact ⟨_, List.mem_cons_self, hk⟩
  · rw [List.mem_singleton] at he
    subst he
    exact .inr ⟨_, List.mem_cons_self, hk⟩
theorem bo_new (f m : Int) (w : World) : Calls Try.prog 12 #[.agg #[.int .i64 f, .int .i64 m]] w fun e w' => if PR f m then ∃ bb F, e = .returned (.tuple #[bptr bb, .int .i64 0]) ∧ (∀ k, F k → w.heap.size ≤ k) ∧ Hp w w' [.rep (fun w => (boA bb f m [] 0).at_ w F (.bool true)) F true]
    else e = .returned (.tuple #[.pointer none, .int .i64 1]) ∧ Below w.heap.size w w' := by
  refine enter1 Try.func12 rfl rfl (Hp.refl w) ?_
  repeat (first | refine T_seq ?_ | refine T_region ?_)
  refine S_new tabOk rfl (fun pb hpb => ?_)
  repeat (first | refine T_seq ?_ | refine T_region ?_ | refine S_nil ?_ | refine S_pure tabOk rfl ?_ | refine S_load tabOk 0 rfl rfl rfl ?_)
  refine S_callq rfl Try.call35 (fun w1 h1 => right_ok f m w1) ?_
  repeat (first | refine S_nil ?_ | refine S_pure tabOk rfl ?_)
  refine T_cond_ndec rfl (fun hn => ?_) (fun hp => ?_)
  · repeat (first | refine T_seq ?_ | refine T_region ?_ | refine S_nil ?_ | refine pthen_ret ?_ | refine T_ret ?_ | refine S_pure tabOk rfl ?_)
    exact ret2 rfl rfl rfl (fun w' hw => by
      rw [if_neg hn]
      exact ⟨rfl, hw.below (by repeat (first | exact new_nil | refine new_cons (by first | assumption | omega) ?_))⟩)
  · repeat (first | refine T_seq ?_ | refine T_region ?_ | refine pthen_normal ?_ | refine T_skip ?_ | refine S_load tabOk 0 rfl rfl rfl ?_ | refine S_q (Q_build tabOk rfl rfl rfl rfl rfl rfl rfl) ?_)
    refine S_new tabOk rfl (fun bb hbb => ?_)
    repeat (first | refine T_seq ?_ | refine T_region ?_ | refine S_nil ?_ | refine S_pure tabOk rfl ?_)
    refine S_heap (fun w' h => h.blkRep) ?_
    refine S_callT 0 rfl Try.call31 rfl (fun w1 g => (bo_clear_raw (g.own _ (getE_mem (i := 0) rfl)).1 hp (by omega) (F := fun k => some bb = some k) rfl (g.own _ (getE_mem (i := 0) rfl)).2.2).mono fun e w' ⟨he, F', g1, g2, g3⟩ => ⟨_, _, F', he, g3, g1, g2, _, rfl, ?_⟩)
    have hsz := g.size
    repeat (first | refine T_seq ?_ | refine T_region ?_ | refine S_nil ?_ | refine T_ret ?_ | refine S_pure tabOk rfl ?_)
    have hN : ∀ k, F' k → w.heap.size ≤ k := fun k hk => by
      rcases g2 k hk with h | h
      · rw [← Option.some.inj h]; exact hbb
      · omega
    exact ret2 rfl rfl rfl (fun w' hw => by
      rw [if_pos hp]
      exact ⟨bb, F', rfl, hN, hw.less (by repeat (first | exact Less.nil | refine Less.keep ?_ | refine Less.dropB (by first | assumption | omega) ?_))⟩)
theorem bkeys_itr {M2 : List ME} {c2 B mb : Nat} (hM : MOk M2 c2) (hl : M2.length ≤ 60000) (hB : w.heap[B]? = some (.cells ⟨[.map (some mb)]⟩ 98 (0, 0))) (hm : w.heap[mb]? = some (mapO .u64 M2 c2)) :
    Itr 85 #[.pointer (some ⟨B, 0, none⟩)] KeepsWalks (fun ss => ss.Perm (M2.map (·.1))) (fun _ => True) M2.length w :=
  ⟨Try.call85, by omega, kp_walks _, bkeys_stops B mb c2 M2 hM w (heap_lt hB) (by simp [World.cell?, hB]) hm⟩
theorem bo_flight (h : (boA bb f m gs last).at_ w F v) : Calls Try.prog 15 #[bptr bb] w fun e w' => ∃ r, e = .returned r ∧ Below w.heap.size w w' ∧ (setP (· ∈ bNums gs) (bNums gs).length).at_ w' (fun k => w.heap.size ≤ k) r := by
  obtain ⟨x, hp, hok, hr, hst, _⟩ := bo_open h false false
  have hlen := hr.len hok
  have hl6 := hok.len
  refine enter1 Try.func15 rfl rfl hst ?_
  repeat (first | refine T_seq ?_ | refine T_region ?_)
  refine S_new tabOk rfl (fun b2 hb2 => ?_)
  repeat (first | refine T_seq ?_ | refine T_region ?_ | refine S_nil ?_ | refine S_pure tabOk rfl ?_)
  refine S_q (Q_eqptr tabOk rfl rfl rfl rfl rfl) ?_
  repeat (first | refine T_seq ?_ | refine T_region ?_ | refine S_nil ?_ | refine pthen_normal ?_ | refine T_skip ?_ | refine T_cond_f rfl ?_ | refine S_pure tabOk rfl ?_ | refine S_load tabOk 1 rfl rfl rfl ?_)
  refine S_call rfl Try.call55 (fun w1 h1 => (bkeys_ok h1).mono fun e w' ⟨B, hB, e1, h2⟩ => ⟨_, _, e1, h2, ?_⟩)
  refine S_call rfl Try.call54 (fun w1 h1 => ?_)
  refine (collect_ok (bkeys_itr hr.m2 (by omega) (h1.own _ (getE_mem (i := 0) rfl)) (h1.own _ (getE_mem (i := 4) rfl)))).mono fun e w' ⟨v, ss, e1, hp1, hnil, h2⟩ => ⟨v, _, e1, h1.fresh (h2.below (newrow h2 0 rfl (Nat.le_refl _) new_nil)) (x := uRow w.heap.size v ss) (ownsRow_base (h2.own _ List.mem_cons_self) h1.size) (fun k hk => (World.ownsRow.lt (h2.own _ List.mem_cons_self) k hk).1), ?_⟩
  have hmem : ∀ n, n ∈ ss ↔ n ∈ bNums gs := fun n => hp1.mem_iff.trans (hr.keys n)
  have hsl : ss.length = (bNums gs).length := by rw [hp1.length_eq, List.length_map, hlen]
  have hfit : ∀ n ∈ ss, Fits .u64 n := fun n hn => hok.nfit ((hmem n).1 hn)
  obtain ⟨a, c, rfl⟩ : ∃ a c, v = .slice a ss.length c := by
    obtain ⟨a, c, e2, _⟩ := form_of_own (h2.own (uRow w1.heap.size v ss) List.mem_cons_self)
    exact ⟨a, c, e2⟩
  refine S_callR (setP (· ∈ bNums gs) (bNums gs).length) (fun _ => False) rfl Try.call21 (fun w2 h3 => (of_p (A := TT) a ss.length c ss w2 (SlR.of_row (R := Rint .u64) (flat_int .u64) (by rw [flat_ints]; exact h3.own _ (getE_mem (i := 0) rfl)) rfl hfit fun k _ _ => trivial) (by omega)).mono fun e w' ⟨r, e2, hb, hs⟩ => ⟨r, e2, hb, ?_⟩) (fun r Fr w3 hFr hr3 => ?_)
  · exact (setP _ _).mono (setP_to hmem (by omega) hs) fun k hk => BB_new h3 hk
  obtain ⟨a', n', c', rfl⟩ := setP_val hr3
  repeat (first | refine S_nil ?_ | refine T_ret ?_ | refine S_store tabOk 3 rfl rfl rfl rfl rfl rfl ?_)
  exact ret1 rfl (ResIs.cellO tabOk 3 rfl rfl rfl rfl) (fun w' hw => ⟨_, rfl, hw.below (by repeat (first | exact new_nil | refine new_bf ?_ | refine new_ro ?_ | refine new_cons (by first | assumption | omega) ?_ | refine newrow hw 1 rfl (Nat.le_refl _) ?_)), (setP _ _).mono (hw.own _ (getE_mem (i := 0) rfl)).1 fun k hk => (hFr k hk).resolve_left id⟩)
theorem bo_flight0 (w : World) : Calls Try.prog 15 #[.pointer none] w fun e w' => e = .returned (setV none 0 0) ∧ Below w.heap.size w w' := by
  refine enter1 Try.func15 rfl rfl (Hp.refl w) ?_
  repeat (first | refine T_seq ?_ | refine T_region ?_)
  refine S_new tabOk rfl (fun b2 hb2 => ?_)
  repeat (first | refine T_seq ?_ | refine T_region ?_ | refine S_nil ?_ | refine S_pure tabOk rfl ?_)
  refine S_q (Q_eqptr tabOk rfl rfl rfl rfl rfl) ?_
  repeat (first | refine T_seq ?_ | refine T_region ?_ | refine S_nil ?_ | refine pthen_ret ?_ | refine T_ret ?_ | refine T_cond_t rfl ?_ | refine S_store tabOk 0 rfl rfl rfl rfl rfl rfl ?_ | refine S_q (Q_build tabOk rfl rfl rfl rfl rfl rfl rfl) ?_)
  exact ret1 rfl (ResIs.cellO tabOk 0 rfl rfl rfl rfl) (fun w' hw => ⟨rfl, hw.below (by repeat (first | exact new_nil | refine new_cons (by first | assumption | omega) ?_))⟩)
end
end Go.Proofs.Ytanhmmfpecgbhaa
