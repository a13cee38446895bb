/-
  A sender's fresh: what of the queued goes for the first time. Conditions: each theorem's own.
-/
import Derived.Test.YtidhpofcofknhaaSeC
namespace Go.Proofs.Ytidhpofcofknhaa
open Go Go.RowKit
set_option linter.unusedVariables false

/-- what is queued: a number and its size -/
abbrev Rref : Rep (Int × Int) := Rpair (Rint .u64) (Rint .i64)
def encQ (p : Int × Int) : List Value := [.int .u64 p.1, .int .i64 p.2]
def okQ (p : Int × Int) : Prop := Fits .u64 p.1 ∧ Fits .i64 p.2
theorem flat_ref : Flat Rref encQ okQ := ⟨fun w A cs x => ⟨by
  rintro ⟨c1, c2, rfl, ⟨rfl, h1⟩, rfl, h2⟩
  exact ⟨rfl, h1, h2⟩, by
  rintro ⟨rfl, h1, h2⟩
  exact ⟨[.int .u64 x.1], [.int .i64 x.2], rfl, ⟨rfl, h1⟩, rfl, h2⟩⟩⟩
theorem ref_cells {w : World} {A : Nat → Prop} {b off n c : Nat} {l : List (Int × Int)} (h : SlR Rref w A (some ⟨b, off, none⟩) n c l) {i : Nat} (hi : i < l.length) : ∀ j u, (encQ l[i])[j]? = some u → w.cell? ((⟨b, off + i * 2, none⟩ : Addr).add j) = some u := by
  obtain ⟨cs, _, h2, _, h3, _⟩ := h.at_ hi
  have h4 := ((flat_ref.iff _ _ _ _).1 h2).1
  subst h4
  intro j u hu
  rw [Addr.add_lit]
  exact h3 j u hu
/-- plain -/
structure FrSt where
  out : List (List Int)
  cur : List Int
  sum : Int
  room : Int
abbrev frFull (p : Int) (x : Int × Int) (st : FrSt) : Prop := (st.cur.length : Int) = p ∨ (0 < (st.cur.length : Int) ∧ 60000 < st.sum + x.2)
def frPush (p : Int) (x : Int × Int) (st : FrSt) : FrSt := if frFull p x st then { st with out := st.out ++ [st.cur], cur := [], sum := 0 } else st
def frAdd (x : Int × Int) (st : FrSt) : FrSt := { st with cur := st.cur ++ [x.1], sum := st.sum + x.2, room := st.room - 1 }
def frGo (p lim : Int) (nums : List Int) : List (Int × Int) → FrSt → FrSt
  | [], st => st
  | x :: l, st => if st.room ≤ 0 ∨ lim < x.1 then st else if x.1 ∈ nums then frGo p lim nums l st else frGo p lim nums l (frAdd x (frPush p x st))
def frSt0 (q : Int) (nums : List Int) : FrSt := ⟨[], [], 0, q - (nums.length : Int)⟩
def freshL (p q lim : Int) (nums : List Int) (l : List (Int × Int)) : List (List Int) := (frGo p lim nums l (frSt0 q nums)).out ++ if 0 < ((frGo p lim nums l (frSt0 q nums)).cur.length : Int) then [(frGo p lim nums l (frSt0 q nums)).cur] else []
structure FrOk (p : Int) (st : FrSt) (i : Nat) : Prop where
  out : st.out.length ≤ i
  cur : (st.cur.length : Int) ≤ p
  sum : 0 ≤ st.sum ∧ st.sum ≤ 1099511627776 + 60000
  room : -1000000 - (i : Int) ≤ st.room ∧ st.room ≤ 1024
  fit : ∀ n ∈ st.cur, Fits .u64 n
  emp : st.cur = [] → st.sum = 0
theorem FrOk.up {p : Int} {st : FrSt} {i j : Nat} (h : FrOk p st i) (hij : i ≤ j) : FrOk p st j := ⟨Nat.le_trans h.out hij, h.cur, h.sum, by have := h.room; omega, h.fit, h.emp⟩
structure FrOk2 (p : Int) (x : Int × Int) (st : FrSt) (i : Nat) : Prop where
  out : st.out.length ≤ i + 1
  cur : (st.cur.length : Int) < p
  sum : 0 ≤ st.sum ∧ st.sum + x.2 ≤ 1099511627776 + 60000
  room : -1000000 - (i : Int) ≤ st.room ∧ st.room ≤ 1024
  fit : ∀ n ∈ st.cur, Fits .u64 n
theorem FrOk.push {p : Int} {x : Int × Int} {st : FrSt} {i : Nat} (h : FrOk p st i) (hp : 1 ≤ p) (hz : 0 ≤ x.2 ∧ x.2 ≤ 1099511627776) : FrOk2 p x (frPush p x st) i := by
  have h1 := h.out
  have h2 := h.cur
  have h3 := h.sum
  unfold frPush
  split
  · exact ⟨by show (st.out ++ [st.cur]).length ≤ i + 1; rw [List.length_append]; exact Nat.succ_le_succ h1, by show ((0 : Nat) : Int) < p; omega, by show (0 : Int) ≤ 0 ∧ (0 : Int) + x.2 ≤ _; omega, h.room, fun n hn => by cases hn⟩
  · rename_i hf
    have h4 : ¬ (st.cur.length : Int) = p := fun e => hf (.inl e)
    refine ⟨by omega, by omega, ⟨h3.1, ?_⟩, h.room, h.fit⟩
    by_cases e : st.cur = []
    · rw [h.emp e]; omega
    · have h5 : 0 < (st.cur.length : Int) := by have := List.length_pos_iff.2 e; omega
      have h6 : ¬ 60000 < st.sum + x.2 := fun h7 => hf (.inr ⟨h5, h7⟩)
      omega
theorem FrOk2.add {p : Int} {x : Int × Int} {st : FrSt} {i : Nat} (h : FrOk2 p x st i) (hz : 0 ≤ x.2) (hf : Fits .u64 x.1) : FrOk p (frAdd x st) (i + 1) := by
  have h1 := h.cur
  have h2 := h.sum
  have h3 := h.room
  exact ⟨h.out, by show ((st.cur ++ [x.1]).length : Int) ≤ p; rw [List.length_append]; show ((st.cur.length + 1 : Nat) : Int) ≤ p; omega, by show 0 ≤ st.sum + x.2 ∧ st.sum + x.2 ≤ _; omega, by show _ ≤ st.room - 1 ∧ st.room - 1 ≤ _; omega, fun n hn => (List.mem_append.1 hn).elim (h.fit n) fun h => by rw [List.mem_singleton.1 h]; exact hf, fun e => by have := congrArg List.length e; rw [show (frAdd x st).cur = st.cur ++ [x.1] from rfl, List.length_append] at this; simp at this⟩
structure FrJ where
  st : FrSt
  A1 : Option Addr
  C1 : Nat
  css : List (List Value)
  Fo : Nat → Prop
  A2 : Option Addr
  C2 : Nat
section
variable {sb : Nat} {s : SdS} {w w0 : World} {F : Nat → Prop} {ol : OL}
set_option maxHeartbeats 4000000 in
theorem se_fresh {bb : Nat} {Fb A : Nat → Prop} (hok : SdOk s) (hsb : w.heap[sb]? = some (sdC bb s)) (hbo : (boA bb s.f s.m s.gs s.last).at_ w Fb (.bool true)) (hFb : ∀ k, Fb k → k < w.heap.size) {qa : Option Addr} {qn qc : Nat} {ql : List (Int × Int)} (hq : SlR Rref w A qa qn qc ql) (hqn : qn ≤ 60000) (hqz : ∀ x ∈ ql, 0 ≤ x.2 ∧ x.2 ≤ 1099511627776) :
    Calls Try.prog 61 #[bptr sb, .slice qa qn qc] w fun e w' => ∃ v, e = .returned v ∧ Below w.heap.size w w' ∧ (RLL.vp (freshL s.p s.q s.lim (bNums s.gs) ql)).at_ w' (fun k => w.heap.size ≤ k) v := by
  have hql := hq.len
  have hqok : ∀ (i : Nat) (hi : i < ql.length), okQ ql[i] := fun i hi => (hq.flat flat_ref).2 _ (List.getElem_mem hi)
  obtain ⟨_, hbok, _⟩ := bo_ok hbo
  have hbl := hbok.len
  obtain ⟨hc1, hc2, hc3, hc4, hc5⟩ := hok.conf
  have hst : Hp w w [.blk sb (sdC bb s) false, .rep (fun w => (boA bb s.f s.m s.gs s.last).at_ w Fb (.bool true)) Fb false] := by
    refine ⟨rfl, rfl, rfl, Nat.le_refl _, fun _ _ _ => rfl, fun e he => ?_, List.pairwise_cons.2 ⟨fun e he hx => ?_, List.pairwise_singleton _ _⟩⟩
    · rcases List.mem_cons.1 he with rfl | he
      · exact hsb
      · rw [List.mem_singleton] at he
        subst he
        exact ⟨hbo, Vp.loc, hFb⟩
    · rw [List.mem_singleton] at he
      subst he
      cases hx
  refine enter2 Try.func61 rfl rfl hst ?_
  repeat (first | refine T_draw (by kernel_rfl) (by kernel_rfl) ?_ | refine D_pure tabOk rfl ?_ | refine D_load tabOk 0 rfl rfl rfl ?_ | refine T_seq ?_ | refine T_region ?_ | refine S_nil ?_ | refine S_pure tabOk rfl ?_)
  refine D_callx (v := .int .i64 ((bNums s.gs).length : Int)) rfl Try.call54 (fun w' vs hw' h => by
    obtain ⟨u1, _, rfl, rfl, rfl⟩ := h
    exact bo_count (hw'.own _ (getE_mem (i := 1) rfl)).1) ?_
  repeat (first | refine D_all rfl ?_ | refine D_i64 tabOk rfl (by omega) ?_ | refine D_pure tabOk rfl ?_ | refine T_seq ?_ | refine T_region ?_ | refine S_nil ?_ | refine S_pure tabOk rfl ?_)
  obtain ⟨nums, hnums⟩ : ∃ n, n = bNums s.gs := ⟨_, rfl⟩
  rw [← hnums] at hbl ⊢
  refine T_cut (ι := FrJ) (fun j => j.st = frGo s.p s.lim nums ql (frSt0 s.q nums) ∧ FrOk s.p j.st qn ∧ (∀ k, j.Fo k → w.heap.size ≤ k) ∧ j.css.flatten.length = j.st.out.length)
    (fun j => [(5, .slice j.A1 j.st.out.length j.C1), (6, .slice j.A2 j.st.cur.length j.C2)])
    (fun j => [.row w.heap.size (.slice j.A1 j.st.out.length j.C1) 37 1 j.st.out.length j.css.flatten, .row w.heap.size (.slice j.A2 j.st.cur.length j.C2) 34 1 j.st.cur.length (u64s j.st.cur), .rep (fun w => (Bod (Rslice (Rint .u64)) j.css j.st.out).at_ w j.Fo (.bool true)) j.Fo false, .blk sb (sdC bb s) false, .rep (fun w => (boA bb s.f s.m s.gs s.last).at_ w Fb (.bool true)) Fb false]) ?_ ?_
  · refine T_block ?_
    refine T_loop (ι := FrJ × Nat) (fun j => [(0, bptr sb), (5, .slice j.1.A1 j.1.st.out.length j.1.C1), (6, .slice j.1.A2 j.1.st.cur.length j.1.C2), (7, .int .i64 j.1.st.sum), (8, .int .i64 j.1.st.room), (22, .slice qa qn qc), (23, .int .i64 (qn : Int)), (24, .int .i64 (j.2 : Int))])
      (fun j => [.row w.heap.size (.slice j.1.A1 j.1.st.out.length j.1.C1) 37 1 j.1.st.out.length j.1.css.flatten, .row w.heap.size (.slice j.1.A2 j.1.st.cur.length j.1.C2) 34 1 j.1.st.cur.length (u64s j.1.st.cur), .rep (fun w => (Bod (Rslice (Rint .u64)) j.1.css j.1.st.out).at_ w j.1.Fo (.bool true)) j.1.Fo false, .blk sb (sdC bb s) false, .rep (fun w => (boA bb s.f s.m s.gs s.last).at_ w Fb (.bool true)) Fb false])
      (fun j => j.2 ≤ qn ∧ frGo s.p s.lim nums (ql.drop j.2) j.1.st = frGo s.p s.lim nums ql (frSt0 s.q nums) ∧ FrOk s.p j.1.st j.2 ∧ (∀ k, j.1.Fo k → w.heap.size ≤ k) ∧ j.1.css.flatten.length = j.1.st.out.length) (fun j => qn - j.2)
      (⟨frSt0 s.q nums, none, 0, [], fun _ => False, none, 0⟩, 0) ⟨Nat.zero_le _, rfl, ⟨Nat.le_refl _, by show ((0 : Nat) : Int) ≤ s.p; omega, by show (0 : Int) ≤ 0 ∧ (0 : Int) ≤ 1099511627776 + 60000; decide, by show -1000000 - ((0 : Nat) : Int) ≤ s.q - (nums.length : Int) ∧ s.q - (nums.length : Int) ≤ 1024; omega, (fun n hn => by cases hn), fun _ => rfl⟩, fun k hk => hk.elim, rfl⟩ (by repeat (first | exact Sub.nil | refine Sub.cons rfl ?_)) (fun w' hw => ?_) ?_
    · exact ((hw.none (p := Bod (Rslice (Rint .u64)) [] []) (v := .bool true) (fun w => Bod.nil_) false).nilRow 34 1).nilRow 37 1
    rintro ⟨⟨st, A1, C1, css, Fo, A2, C2⟩, i⟩ ⟨hi, hgo, hst2, hFo, hcss⟩
    dsimp only at hi hgo hst2 hFo hcss ⊢
    repeat (first | refine T_seq ?_ | refine T_region ?_ | refine S_nil ?_ | refine S_pure tabOk rfl ?_)
    refine T_cond_dec rfl (fun hlt => ?_) (fun hge => ?_)
    rotate_left
    · have hie : i = qn := by omega
      subst hie
      rw [List.drop_of_length_le (by omega)] at hgo
      repeat (first | refine pthen_normal ?_ | refine inb_hit ?_ | refine pthen_exit ?_ | refine T_exit ?_)
      exact ⟨⟨st, A1, C1, css, Fo, A2, C2⟩, ⟨hgo, hst2, hFo, hcss⟩, (by repeat (first | exact Sub.nil | refine Sub.cons rfl ?_)), fun w' hw => hw⟩
    have hi' : i < ql.length := by omega
    have hokk := hqok i hi'
    have hz := hqz _ (List.getElem_mem hi')
    have hgo2 : frGo s.p s.lim nums (ql.drop i) st = if st.room ≤ 0 ∨ s.lim < (ql[i]).1 then st else if (ql[i]).1 ∈ nums then frGo s.p s.lim nums (ql.drop (i + 1)) st else frGo s.p s.lim nums (ql.drop (i + 1)) (frAdd ql[i] (frPush s.p ql[i] st)) := by
      rw [List.drop_eq_getElem_cons hi']
      rfl
    obtain ⟨ab, off, cs, rfl, hlt2, _⟩ := hq.get_ hi'
    repeat (first | refine T_seq ?_ | refine T_region ?_ | refine T_block ?_ | refine pthen_normal ?_ | refine T_skip ?_)
    refine S_q (Q_idx (sz := 2) tabOk rfl rfl rfl rfl rfl rfl rfl rfl (j := i) (by omega)) ?_
    refine S_loadN tabOk (vs := encQ ql[i]) rfl rfl rfl (fun w' hw => ref_cells (hq.ext (hw.below (by repeat (first | exact new_nil | refine new_bf ?_ | refine new_ro ?_ | refine newrow hw 0 rfl (Nat.le_refl _) ?_ | refine newrow hw 1 rfl (Nat.le_refl _) ?_)))) hi') ?_
    refine S_new tabOk rfl (fun b10 hb10 => ?_)
    repeat (first | refine T_draw (by kernel_rfl) (by kernel_rfl) ?_ | refine D_pure tabOk rfl ?_ | refine T_seq ?_ | refine S_nil ?_ | refine S_store tabOk 0 rfl rfl rfl rfl rfl rfl ?_)
    have hroom := hst2.room
    refine D_split rfl rfl (fun h1 => ?_) (fun h1 => ?_)
    · repeat (first | refine D_all rfl ?_ | refine D_pure tabOk rfl ?_ | refine D_pass rfl rfl rfl ?_)
      refine T_cond_t rfl ?_
      repeat (first | refine pthen_exit ?_ | refine T_exit ?_)
      refine inb_miss rfl ?_
      repeat (first | refine pthen_normal ?_ | refine inb_hit ?_ | refine pthen_exit ?_)
      exact ⟨⟨st, A1, C1, css, Fo, A2, C2⟩, ⟨by rw [← hgo, hgo2, if_pos (.inl h1)], hst2.up hi, hFo, hcss⟩, (by repeat (first | exact Sub.nil | refine Sub.cons rfl ?_)), fun w' hw => hw.fewer (by repeat (first | exact new_nil | refine new_bf ?_ | refine new_ro ?_ | refine new_cons (by first | assumption | omega) ?_ | refine newrow hw 1 rfl (Nat.le_refl _) ?_ | refine newrow hw 2 rfl (Nat.le_refl _) ?_)) (by repeat (first | exact List.Sublist.slnil | refine List.Sublist.cons_cons _ ?_ | refine List.Sublist.cons _ ?_))⟩
    repeat (first | refine D_all rfl ?_ | refine D_pure tabOk rfl ?_ | refine D_load tabOk 0 rfl rfl rfl ?_ | refine D_load tabOk 4 rfl rfl rfl ?_)
    refine T_cond_dec rfl (fun h2 => ?_) (fun h2 => ?_)
    · repeat (first | refine pthen_exit ?_ | refine T_exit ?_)
      refine inb_miss rfl ?_
      repeat (first | refine pthen_normal ?_ | refine inb_hit ?_ | refine pthen_exit ?_)
      exact ⟨⟨st, A1, C1, css, Fo, A2, C2⟩, ⟨by rw [← hgo, hgo2, if_pos (.inr h2)], hst2.up hi, hFo, hcss⟩, (by repeat (first | exact Sub.nil | refine Sub.cons rfl ?_)), fun w' hw => hw.fewer (by repeat (first | exact new_nil | refine new_bf ?_ | refine new_ro ?_ | refine new_cons (by first | assumption | omega) ?_ | refine newrow hw 1 rfl (Nat.le_refl _) ?_ | refine newrow hw 2 rfl (Nat.le_refl _) ?_)) (by repeat (first | exact List.Sublist.slnil | refine List.Sublist.cons_cons _ ?_ | refine List.Sublist.cons _ ?_))⟩
    have hgo3 := hgo2.symm.trans hgo
    rw [if_neg (fun h => h.elim h1 h2)] at hgo3
    repeat (first | refine T_draw (by kernel_rfl) (by kernel_rfl) ?_ | refine D_pure tabOk rfl ?_ | refine D_load tabOk 0 rfl rfl rfl ?_ | refine D_load tabOk 4 rfl rfl rfl ?_ | refine T_seq ?_ | refine pthen_normal ?_ | refine T_skip ?_)
    refine D_callx (v := .bool (decide ((ql[i]).1 ∈ nums))) rfl Try.call20 (fun w' vs hw' h => by
      obtain ⟨u1, _, rfl, rfl, u2, _, rfl, rfl, rfl⟩ := h
      rw [hnums]
      exact bo_has (hw'.own _ (getE_mem (i := 5) rfl)).1 _) ?_
    repeat (first | refine D_all rfl ?_)
    refine T_cond_dec rfl (fun h3 => ?_) (fun h3 => ?_)
    · rw [if_pos h3] at hgo3
      repeat (first | refine T_region ?_ | refine S_nil ?_ | refine pthen_normal ?_ | refine inb_hit ?_ | refine pthen_exit ?_ | refine T_exit ?_ | refine S_i64 tabOk rfl (by omega) ?_ | refine S_pure tabOk rfl ?_)
      exact ⟨(⟨st, A1, C1, css, Fo, A2, C2⟩, i + 1), ⟨by dsimp only; omega, hgo3, hst2.up (Nat.le_succ _), hFo, hcss⟩, (by repeat (first | exact Sub.nil | refine Sub.cons rfl ?_)), fun w' hw => hw.fewer (by repeat (first | exact new_nil | refine new_bf ?_ | refine new_ro ?_ | refine new_cons (by first | assumption | omega) ?_ | refine newrow hw 1 rfl (Nat.le_refl _) ?_ | refine newrow hw 2 rfl (Nat.le_refl _) ?_)) (by repeat (first | exact List.Sublist.slnil | refine List.Sublist.cons_cons _ ?_ | refine List.Sublist.cons _ ?_)), by dsimp only; omega⟩
    rw [if_neg h3] at hgo3
    have hsum := hst2.sum
    have hpu := hst2.push (x := ql[i]) hc2 hz
    have hcur := hst2.cur
    have hout := hst2.out
    repeat (first | refine T_seq ?_ | refine T_region ?_ | refine pthen_normal ?_ | refine T_skip ?_ | refine S_pure tabOk rfl ?_ | refine S_load tabOk 4 rfl rfl rfl ?_)
    refine S_cut (ι := Bool) (fun b => b = true ↔ frFull s.p ql[i] st) (fun b => [(0, bptr sb), (5, .slice A1 st.out.length C1), (6, .slice A2 st.cur.length C2), (7, .int .i64 st.sum), (8, .int .i64 st.room), (10, .pointer (some ⟨b10, 0, none⟩)), (22, .slice (some ⟨ab, off, none⟩) qn qc), (23, .int .i64 (qn : Int)), (24, .int .i64 (i : Int)), (65, .bool b)])
      (fun b => [.blk b10 (.cells ⟨[.int .u64 (ql[i]).1, .int .i64 (ql[i]).2]⟩ 67 (0, 0)) true, .row w.heap.size (.slice A1 st.out.length C1) 37 1 st.out.length css.flatten, .row w.heap.size (.slice A2 st.cur.length C2) 34 1 st.cur.length (u64s st.cur), .rep (fun w => (Bod (Rslice (Rint .u64)) css st.out).at_ w Fo (.bool true)) Fo false, .blk sb (sdC bb s) false, .rep (fun w => (boA bb s.f s.m s.gs s.last).at_ w Fb (.bool true)) Fb false]) ?_ ?_
    · refine S_split rfl rfl (fun h4 => ?_) (fun h4 => ?_)
      · repeat (first | refine S_nil ?_ | refine S_pure tabOk rfl ?_ | refine S_pass rfl rfl rfl ?_)
        exact ⟨true, ⟨fun _ => .inl h4, fun _ => rfl⟩, (by repeat (first | exact Sub.nil | refine Sub.cons rfl ?_)), fun w hw => hw⟩
      · repeat (first | refine S_pure tabOk rfl ?_)
        refine S_split rfl rfl (fun h5 => ?_) (fun h5 => ?_)
        · repeat (first | refine S_nil ?_ | refine S_i64 tabOk rfl (by omega) ?_ | refine S_pure tabOk rfl ?_ | refine S_load tabOk 0 rfl rfl rfl ?_)
          exact ⟨decide (60000 < st.sum + (ql[i]).2), ⟨fun h => .inr ⟨h5, of_decide_eq_true h⟩, fun h => decide_eq_true (h.resolve_left h4).2⟩, (by repeat (first | exact Sub.nil | refine Sub.cons rfl ?_)), fun w hw => hw⟩
        · repeat (first | refine S_nil ?_ | refine S_pure tabOk rfl ?_ | refine S_pass rfl rfl rfl ?_)
          exact ⟨false, ⟨(fun h => by cases h), fun h => (h5 (h.resolve_left h4).1).elim⟩, (by repeat (first | exact Sub.nil | refine Sub.cons rfl ?_)), fun w hw => hw⟩
    intro b hb
    refine T_cut (ι := FrJ) (fun j => j.st = frPush s.p ql[i] st ∧ (∀ k, j.Fo k → w.heap.size ≤ k) ∧ j.css.flatten.length = j.st.out.length)
      (fun j => [(0, bptr sb), (5, .slice j.A1 j.st.out.length j.C1), (6, .slice j.A2 j.st.cur.length j.C2), (7, .int .i64 j.st.sum), (8, .int .i64 j.st.room), (10, .pointer (some ⟨b10, 0, none⟩)), (22, .slice (some ⟨ab, off, none⟩) qn qc), (23, .int .i64 (qn : Int)), (24, .int .i64 (i : Int))])
      (fun j => [.blk b10 (.cells ⟨[.int .u64 (ql[i]).1, .int .i64 (ql[i]).2]⟩ 67 (0, 0)) true, .row w.heap.size (.slice j.A1 j.st.out.length j.C1) 37 1 j.st.out.length j.css.flatten, .row w.heap.size (.slice j.A2 j.st.cur.length j.C2) 34 1 j.st.cur.length (u64s j.st.cur), .rep (fun w => (Bod (Rslice (Rint .u64)) j.css j.st.out).at_ w j.Fo (.bool true)) j.Fo false, .blk sb (sdC bb s) false, .rep (fun w => (boA bb s.f s.m s.gs s.last).at_ w Fb (.bool true)) Fb false]) ?_ ?_
    · refine T_cond rfl (fun h4 => ?_) (fun h4 => ?_)
      · have hfu := hb.1 h4
        have epu : frPush s.p ql[i] st = { st with out := st.out ++ [st.cur], cur := [], sum := 0 } := if_pos hfu
        rw [epu]
        repeat (first | refine T_region ?_ | refine S_pure tabOk rfl ?_)
        refine S_bslice tabOk rfl rfl rfl rfl rfl rfl rfl rfl rfl rfl rfl rfl (fun nb hnb => ?_)
        refine S_append (ty := 0) (k := 1) (news := [.slice A2 st.cur.length C2]) tabOk 2 (sz := 1) rfl rfl rfl rfl rfl rfl rfl rfl rfl (by decide) (fun w' hw => Sl.of_blk (hw.own _ (getE_mem (i := 0) rfl)) rfl (fun j u hu => by rw [Nat.zero_add]; exact hu)) (fun u hu => by rw [List.mem_singleton] at hu; subst hu; rfl) (by simp only [maxLen]; omega) (by show (_ + _) * 24 ≤ _; omega) rfl (fun A' C' hA' hC' => ⟨_, rfl, ?_⟩)
        refine S_heap (fun w' hw => hw.pm [3, 0, 1, 2, 4, 5, 6] rfl rfl rfl) ?_
        refine S_share ((Rslice (Rint .u64)).vp st.cur) (fun w h => (row_slr h rfl hst2.fit).val) (fun Fc hFc => ?_)
        repeat (first | refine S_nil ?_ | refine S_pure tabOk rfl ?_)
        refine ⟨⟨{ st with out := st.out ++ [st.cur], cur := [], sum := 0 }, A', C', css ++ [[Value.slice A2 st.cur.length C2]], fun k => Fc k ∨ Fo k, none, 0⟩, ⟨rfl, fun k hk => hk.elim (hFc k) (hFo k), ?_⟩, ?_, fun w' hw => ?_⟩
        · show (css ++ [[Value.slice A2 st.cur.length C2]]).flatten.length = (st.out ++ [st.cur]).length
          rw [List.flatten_append, List.length_append, hcss, List.length_append]
          rfl
        · dsimp only
          rw [List.length_append]
          exact (by repeat (first | exact Sub.nil | refine Sub.cons rfl ?_))
        · have e9 : (css ++ [[Value.slice A2 st.cur.length C2]]).flatten = css.flatten ++ [Value.slice A2 st.cur.length C2] := by rw [List.flatten_append]; rfl
          dsimp only
          rw [e9, List.length_append]
          have h9 := (hw.pm [0, 4, 1, 2, 3, 5, 6] rfl rfl rfl).merge (Ψ := fun w => (Bod (Rslice (Rint .u64)) (css ++ [[Value.slice A2 st.cur.length C2]]) (st.out ++ [st.cur])).at_ w (fun k => Fc k ∨ Fo k) (.bool true)) (fun q1 q2 => Bod.snoc ((Bod _ _ _).mono q2 fun k hk => .inr hk) ((Rslice (Rint .u64)).at_mono q1 fun k hk => .inl hk)) (Vp.loc (p := Bod _ _ _))
          exact ((h9.nilRow 34 1).pm [2, 3, 4, 0, 1, 5, 6] rfl rfl rfl).less (by repeat (first | exact Less.nil | refine Less.keep ?_ | refine Less.dropB (by first | assumption | omega) ?_))
      · have epu : frPush s.p ql[i] st = st := if_neg fun h => by have := hb.2 h; rw [h4] at this; cases this
        rw [epu]
        repeat (first | refine pthen_normal ?_ | refine T_skip ?_)
        exact ⟨⟨st, A1, C1, css, Fo, A2, C2⟩, ⟨rfl, hFo, hcss⟩, (by repeat (first | exact Sub.nil | refine Sub.cons rfl ?_)), fun w' hw => hw⟩
    rintro ⟨st2, A3, C3, css2, Fo2, A4, C4⟩ ⟨rfl, hFo2, hcss2⟩
    dsimp only at hFo2 hcss2 ⊢
    obtain ⟨st1, hst1⟩ : ∃ t, t = frPush s.p ql[i] st := ⟨_, rfl⟩
    rw [← hst1] at hcss2 hpu hgo3 ⊢
    have hc6 := hpu.cur
    have hs6 := hpu.sum
    have hr6 := hpu.room
    repeat (first | refine T_seq ?_ | refine T_region ?_ | refine S_pure tabOk rfl ?_ | refine S_load tabOk 0 rfl rfl rfl ?_)
    refine S_bslice tabOk rfl rfl rfl rfl rfl rfl rfl rfl rfl rfl rfl rfl (fun nb2 hnb2 => ?_)
    refine S_append (ty := 0) (k := 1) (news := [.int .u64 (ql[i]).1]) tabOk 3 (sz := 1) rfl rfl rfl rfl rfl rfl rfl rfl rfl (by decide) (fun w' hw => Sl.of_blk (hw.own _ (getE_mem (i := 0) rfl)) rfl (fun j u hu => by rw [Nat.zero_add]; exact hu)) (fun u hu => by rw [List.mem_singleton] at hu; subst hu; rfl) (by simp only [maxLen]; omega) (by show (_ + _) * 8 ≤ _; omega) rfl (fun A' C' hA' hC' => ⟨_, rfl, ?_⟩)
    repeat (first | refine T_seq ?_ | refine T_region ?_ | refine S_nil ?_ | refine pthen_normal ?_ | refine inb_normal ?_ | refine S_i64 tabOk rfl (by omega) ?_ | refine S_pure tabOk rfl ?_ | refine T_region_any ?_ | refine S_load tabOk 1 rfl rfl rfl ?_)
    refine ⟨(⟨frAdd ql[i] st1, A3, C3, css2, Fo2, A', C'⟩, i + 1), ⟨by dsimp only; omega, hgo3, hpu.add hz.1 hokk.1, hFo2, hcss2⟩, ?_, fun w' hw => ?_, by dsimp only; omega⟩
    · dsimp only [frAdd]
      rw [List.length_append]
      exact (by repeat (first | exact Sub.nil | refine Sub.cons rfl ?_))
    · dsimp only [frAdd]
      rw [List.length_append, show u64s (st1.cur ++ [(ql[i]).1]) = u64s st1.cur ++ [.int .u64 (ql[i]).1] by unfold u64s; rw [List.map_append]; rfl]
      exact hw.fewer (by repeat (first | exact new_nil | refine new_bf ?_ | refine new_ro ?_ | refine new_cons (by first | assumption | omega) ?_ | refine newrow hw 2 rfl (Nat.le_refl _) ?_ | refine newrow hw 3 rfl (Nat.le_refl _) ?_)) (by repeat (first | exact List.Sublist.slnil | refine List.Sublist.cons_cons _ ?_ | refine List.Sublist.cons _ ?_))
  · rintro ⟨st, A1, C1, css, Fo, A2, C2⟩ ⟨hst5, hst2, hFo, hcss⟩
    dsimp only at hst5 hst2 hFo hcss ⊢
    have hcur := hst2.cur
    have hout := hst2.out
    have hfin : freshL s.p s.q s.lim nums ql = st.out ++ if 0 < (st.cur.length : Int) then [st.cur] else [] := by unfold freshL; rw [← hst5]
    rw [hfin]
    repeat (first | refine T_seq ?_ | refine T_region ?_ | refine S_nil ?_ | refine S_pure tabOk rfl ?_)
    refine T_cond_dec rfl (fun h1 => ?_) (fun h1 => ?_)
    · rw [if_pos h1]
      repeat (first | refine T_region ?_ | refine S_pure tabOk rfl ?_)
      refine S_bslice tabOk rfl rfl rfl rfl rfl rfl rfl rfl rfl rfl rfl rfl (fun nb hnb => ?_)
      refine S_append (ty := 0) (k := 1) (news := [.slice A2 st.cur.length C2]) tabOk 1 (sz := 1) rfl rfl rfl rfl rfl rfl rfl rfl rfl (by decide) (fun w' hw => Sl.of_blk (hw.own _ (getE_mem (i := 0) rfl)) rfl (fun j u hu => by rw [Nat.zero_add]; exact hu)) (fun u hu => by rw [List.mem_singleton] at hu; subst hu; rfl) (by simp only [maxLen]; omega) (by show (_ + _) * 24 ≤ _; omega) rfl (fun A' C' hA' hC' => ⟨_, rfl, ?_⟩)
      repeat (first | refine T_seq ?_ | refine T_region ?_ | refine S_nil ?_ | refine T_ret ?_ | refine S_pure tabOk rfl ?_)
      refine ret1 rfl rfl (fun w' hw => ⟨_, rfl, hw.below (by repeat (first | exact new_nil | refine new_bf ?_ | refine new_ro ?_ | refine new_cons (by first | assumption | omega) ?_ | refine newrow hw 1 rfl (Nat.le_refl _) ?_ | refine newrow hw 2 rfl (Nat.le_refl _) ?_)), ?_⟩)
      have e9 : (css ++ [[Value.slice A2 st.cur.length C2]]).flatten = css.flatten ++ [Value.slice A2 st.cur.length C2] := by rw [List.flatten_append]; rfl
      have o1 := hw.own _ (getE_mem (i := 1) rfl)
      have o2 := hw.own _ (getE_mem (i := 2) rfl)
      exact (Bod.slr (R := Rslice (Rint .u64)) (css := css ++ [[Value.slice A2 st.cur.length C2]]) (v := .bool true) (Bod.snoc ((Bod _ _ _).mono (hw.own _ (getE_mem (i := 3) rfl)).1 hFo) (Rep.at_mono _ (row_slr o2 rfl hst2.fit).val fun k hk => (World.ownsRow.lt o2 k hk).1)) (by rw [e9]; exact o1) (by rw [List.length_append]; rfl) fun k hk _ => hk).val
    · rw [if_neg h1, List.append_nil]
      repeat (first | refine T_seq ?_ | refine T_region ?_ | refine S_nil ?_ | refine pthen_normal ?_ | refine T_skip ?_ | refine T_ret ?_ | refine S_pure tabOk rfl ?_)
      exact ret1 rfl rfl (fun w' hw => ⟨_, rfl, hw.below (by repeat (first | exact new_nil | refine new_bf ?_ | refine new_ro ?_ | refine newrow hw 0 rfl (Nat.le_refl _) ?_ | refine newrow hw 1 rfl (Nat.le_refl _) ?_)), (Bod.slr (R := Rslice (Rint .u64)) ((Bod _ _ _).mono (hw.own _ (getE_mem (i := 2) rfl)).1 hFo) (hw.own _ (getE_mem (i := 0) rfl)) rfl fun k hk _ => hk).val⟩)
end
end Go.Proofs.Ytidhpofcofknhaa
