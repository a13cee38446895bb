/-
  A sender of one's own in a walk: New, Tick, Receive as steps; the document's example; a Conf. Conditions: each theorem's own.
-/
import Derived.Test.YtidhpofcofknhaaSeE
namespace Go.Proofs.Ytidhpofcofknhaa
open Go Go.RowKit
set_option linter.unusedVariables false

section
variable {n : Nat} {w0 : World} {all : Array Oper} {os : List Oper} {o : Oper} {l : FL} {ol : OL} {K : FL → OL → Prop} {Q : Post} {d sb : Nat} {s : SdS} {F : Nat → Prop}
theorem se_tick0 (w : World) (now : Int) (v : Value) : Calls Try.prog 25 #[.pointer none, .int .i64 now, v] w fun e w' => e = .returned (.slice none 0 0) ∧ Below w.heap.size w w' := by
  refine enter3 Try.func25 rfl rfl (Hp.refl w) ?_
  repeat (first | refine T_seq ?_ | refine T_region ?_ | refine S_nil ?_ | refine S_pure tabOk rfl ?_)
  refine S_q (Q_eqptr tabOk rfl rfl rfl rfl rfl) ?_
  repeat (first | refine S_nil ?_)
  refine T_cond_t rfl ?_
  repeat (first | refine T_seq ?_ | refine T_region ?_ | refine S_nil ?_ | refine pthen_ret ?_ | refine T_ret ?_ | refine S_pure tabOk rfl ?_)
  exact ret1 rfl rfl (fun w' hw => ⟨rfl, hw.below (by repeat (first | exact new_nil))⟩)
theorem S_snew {f m p q ep : Int} (hc : cR f m p q ∧ ep ≠ 0) (he : Fits .u64 ep) (hs : callAt? n all (look l) o = some (d, 23, [.agg #[.int .i64 f, .int .i64 m, .int .i64 p, .int .i64 q], .int .u64 ep]))
    (k : ∀ sb (F : Nat → Prop), (∀ k, F k → w0.heap.size ≤ k) → S Try.prog n w0 all os ((d, .tuple #[bptr sb, .int .i64 0]) :: l) (.rep (fun w => (seA sb ⟨f, m, p, q, ep, false, 0, 0, 0, 0, [], 0⟩).at_ w F (.bool true)) F true :: ol) K Q) : S Try.prog n w0 all (o :: os) l ol K Q :=
  S_callN hs Try.call23 fun w1 h1 => (se_new f m p q ep he w1).mono fun e w' h => by
    rw [if_pos hc] at h
    obtain ⟨sb, F, e1, e2, e3⟩ := h
    exact ⟨_, _, F, e1, e3, e2, fun hN => k sb F hN⟩
/-- what is queued, apart from an object -/
def QArg (w : World) (F : Nat → Prop) (a : Option Addr) (n c : Nat) (l : List (Int × Int)) : Prop := ∃ A0 : Nat → Prop, SlR Rref w A0 a n c l ∧ ∀ k, A0 k → ¬ F k
theorem QArg.nil {w : World} {F : Nat → Prop} : QArg w F none 0 0 [] := ⟨fun _ => False, SlR.nil_, fun k h => h.elim⟩
theorem S_tick (i : Nat) {now : Int} {qa : Option Addr} {qn qc : Nat} (ql : List (Int × Int)) (hs : callAt? n all (look l) o = some (d, 25, [bptr sb, .int .i64 now, .slice qa qn qc])) (hi : getE ol i = some (.rep (fun w => (seA sb s).at_ w F (.bool true)) F true)) (hN : ∀ k, F k → w0.heap.size ≤ k)
    (hq : ∀ w, Hp w0 w ol → QArg w F qa qn qc ql) (hnow : 0 ≤ now ∧ now ≤ 1152921504606846976) (hqz : ∀ x ∈ ql, 0 ≤ x.2 ∧ x.2 ≤ 1099511627776) (hb1 : (bNums s.gs).length + qn ≤ 60000) (hb2 : s.gs.length + qn < 59999) (hb3 : s.last + (qn : Int) + 1 ≤ 1099511627776) (htr : ∀ g ∈ s.gs, g.tries < 1099511627776) (hstr : s.tr < 1099511627776)
    (k : ∀ (v : Value) (Fv F' : Nat → Prop), (∀ k, Fv k → w0.heap.size ≤ k) → (∀ k, F' k → w0.heap.size ≤ k) → ∃ ol', putE ol i (.rep (fun w => (seA sb (s.tick now ql)).at_ w F' (.bool true)) F' true) = some ol' ∧ S Try.prog n w0 all os ((d, v) :: l) (.rep (fun w => (ROut.vp (s.told now ql)).at_ w Fv v) Fv false :: ol') K Q) : S Try.prog n w0 all (o :: os) l ol K Q :=
  S_call hs Try.call25 fun w g => by
    obtain ⟨A0, h1, h2⟩ := hq w g
    exact (se_tick (g.own _ (getE_mem hi)).1 (g.own _ (getE_mem hi)).2.2 hnow h1 h2 hqz hb1 hb2 hb3 htr hstr).mono fun e w' ⟨v, Fv, F', he, hv, g1, g2, g3⟩ => by
      obtain ⟨ol', e1, e2⟩ := k v Fv F' (fun j hj => Nat.le_trans g.size (hv j hj)) (fun j hj => (g2 j hj).elim (hN j) (Nat.le_trans g.size))
      exact ⟨_, _, he, g.graftTV i hi g3 hv g1 g2 e1, e2⟩
/-- runs, apart from an object -/
def FArg (w : World) (F : Nat → Prop) (x : Fm) (rl : List Run) : Prop := ∃ A0 : Nat → Prop, SlR Rrun w A0 x.ra x.rn x.rc rl ∧ ∀ k, A0 k → ¬ F k
theorem S_recv (i : Nat) {now : Int} (x : Fm) (rl : List Run) (hs : callAt? n all (look l) o = some (d, 24, [bptr sb, .int .i64 now, .agg ⟨x.cs⟩])) (hi : getE ol i = some (.rep (fun w => (seA sb s).at_ w F (.bool true)) F true)) (hN : ∀ k, F k → w0.heap.size ≤ k)
    (hx : ∀ w, Hp w0 w ol → FArg w F x rl) (hn : x.rn ≤ 800000) (hcum : Fits .u64 x.cum) (hinc : Fits .u64 x.inc) (hlim : Fits .u64 x.lim)
    (k : ∀ (a : Option Addr) (ln c : Nat) (Fv F' : Nat → Prop), (∀ k, Fv k → w0.heap.size ≤ k) → (∀ k, F' k → w0.heap.size ≤ k) → ∃ ol', putE ol i (.rep (fun w => (seA sb (s.rcv x rl)).at_ w F' (.bool true)) F' true) = some ol' ∧ S Try.prog n w0 all os ((d, .tuple #[setV a ln c, .bool (decide (knP s x))]) :: l) (.rep (fun w => (setP (fun y => knP s x ∧ ackP x.cum rl y) (x.rn + 1)).at_ w Fv (setV a ln c)) Fv false :: ol') K Q) : S Try.prog n w0 all (o :: os) l ol K Q :=
  S_call hs Try.call24 fun w g => by
    obtain ⟨A0, h1, h2⟩ := hx w g
    exact (se_receive (g.own _ (getE_mem hi)).1 (g.own _ (getE_mem hi)).2.2 now x h1 h2 hn hcum hinc hlim).mono fun e w' ⟨v, Fv, F', he, hv, g1, g2, g3⟩ => by
      obtain ⟨a, ln, c, rfl⟩ := setP_val (g3.own _ (getE_mem (i := 0) rfl)).1
      obtain ⟨ol', e1, e2⟩ := k a ln c Fv F' (fun j hj => Nat.le_trans g.size (hv j hj)) (fun j hj => (g2 j hj).elim (hN j) (Nat.le_trans g.size))
      exact ⟨_, _, he, g.graftTV i hi g3 hv g1 g2 e1, e2⟩
/-- what is told, by its slice -/
theorem out_val {w : World} {A : Nat → Prop} {v : Value} {L : List (Int × List Int)} (h : (ROut.vp L).at_ w A v) : ∃ a c, v = .slice a L.length c ∧ L.length ≤ c ∧ c ≤ maxLen := by
  obtain ⟨a, n, c, rfl, h1⟩ := SlR.form h
  have := h1.len
  subst this
  exact ⟨a, c, rfl, h1.cap, h1.max⟩
end
set_option maxHeartbeats 1000000 in
theorem conf14_ok (a b c e : Int) (ha : Fits .u16 a) (hb : Fits .u16 b) (hc : Fits .u8 c) (he : Fits .u8 e) (w : World) : Calls Try.prog 22 #[.int .u16 a, .int .u16 b, .int .u8 c, .int .u8 e] w fun x w' => x = .returned (.agg #[.int .i64 (1 + a % 20), .int .i64 (1 + a % 20 + b % 200), .int .i64 (1 + c % 8), .int .i64 (1 + e % 20)]) ∧ Below w.heap.size w w' := by
  refine enter4 Try.func22 rfl rfl (Hp.refl w) ?_
  have ha' := fits_u16 ha
  have hb' := fits_u16 hb
  have hc' := fits_u8 hc
  have he' := fits_u8 he
  repeat (first | refine T_seq ?_ | refine T_region ?_)
  refine S_new tabOk rfl (fun b8 hb8 => ?_)
  repeat (first | refine T_seq ?_ | refine T_region ?_ | refine S_nil ?_ | refine S_pure tabOk rfl ?_)
  refine S_q (Q_rem0 rfl rfl rfl (by decide) ha'.1) ?_
  repeat (first | refine S_i64 tabOk rfl (by omega) ?_ | refine S_q (Q_build tabOk rfl rfl rfl rfl rfl rfl rfl) ?_)
  refine S_new tabOk rfl (fun b9 hb9 => ?_)
  repeat (first | refine T_seq ?_ | refine T_region ?_ | refine S_nil ?_ | refine S_pure tabOk rfl ?_ | refine S_load tabOk 0 rfl rfl rfl ?_ | refine S_store tabOk 0 rfl rfl rfl rfl rfl rfl ?_)
  refine S_q (Q_rem0 rfl rfl rfl (by decide) hb'.1) ?_
  repeat (first | refine T_seq ?_ | refine T_region ?_ | refine S_nil ?_ | refine S_i64 tabOk rfl (by omega) ?_ | refine S_pure tabOk rfl ?_ | refine S_load tabOk 0 rfl rfl rfl ?_ | refine S_store tabOk 0 rfl rfl rfl rfl rfl rfl ?_)
  refine S_q (Q_rem0 rfl rfl rfl (by decide) hc'.1) ?_
  repeat (first | refine S_i64 tabOk rfl (by omega) ?_ | refine S_pure tabOk rfl ?_)
  refine S_q (Q_rem0 rfl rfl rfl (by decide) he'.1) ?_
  repeat (first | refine S_nil ?_ | refine T_ret ?_ | refine S_i64 tabOk rfl (by omega) ?_ | refine S_store tabOk 1 rfl rfl rfl rfl rfl rfl ?_ | refine S_q (Q_build tabOk rfl rfl rfl rfl rfl rfl rfl) ?_)
  exact ret1 rfl (res_cell tabOk 1 rfl rfl rfl rfl) (fun w' hw => ⟨rfl, hw.below (by repeat (first | exact new_nil | refine new_cons (by first | assumption | omega) ?_))⟩)
/-- one thing that is told, by its cells -/
def O1 (b off : Nat) (k : Int) (x : SX) (l : List Int) : Vp :=
  ⟨fun w A _ => (w.cell? ⟨b, off, none⟩ = some (.int .u8 k) ∧ w.cell? ⟨b, off + 1, none⟩ = some x.v) ∧ (A b ∧ b < w.heap.size) ∧ SlR (Rint .u64) w A x.a x.n x.c l, fun {w w' A B v} ⟨⟨h1, h2⟩, ⟨h3, h4⟩, h5⟩ hk => by
    have e := (hk b h3 h4).1
    have h6 := Array.getElem?_eq_getElem h4
    have h7 : b < w'.heap.size := heap_lt (e.trans h6)
    exact ⟨⟨(World.cell?_of_block (w := w) (a := ⟨b, off, none⟩) e).trans h1, (World.cell?_of_block (w := w) (a := ⟨b, off + 1, none⟩) e).trans h2⟩, ⟨(hk b h3 h4).2, h7⟩, h5.keep hk⟩⟩
theorem toO1 {w : World} {A : Nat → Prop} {v : Value} {k : Int} {l : List Int} (h : (ROut.vp [(k, l)]).at_ w A v) (hA : ∀ k, A k → k < w.heap.size) : ∃ b off c x, v = .slice (some ⟨b, off, none⟩) 1 c ∧ (O1 b off k x l).at_ w A (.bool true) := by
  obtain ⟨a, n, c, rfl, h1⟩ := SlR.form h
  have hl := h1.len
  obtain rfl : n = 1 := hl.symm
  obtain ⟨b, off, e, hb⟩ := h1.blk (by decide)
  subst e
  obtain ⟨cs, h2, h3, _, h4, _⟩ := h1.at_ (i := 0) (show 0 < 1 by decide)
  obtain ⟨c1, c2, rfl, ⟨rfl, h5⟩, h6⟩ := h3
  obtain ⟨xa, xn, xc, rfl, h7⟩ := h6
  have h8 := h4 0 _ rfl
  have h9 := h4 1 _ rfl
  rw [Nat.zero_mul, Nat.add_zero] at h8 h9
  exact ⟨b, off, c, ⟨xa, xn, xc⟩, rfl, ⟨h8, h9⟩, ⟨hb, hA b hb⟩, h7⟩
theorem blk_ref {w : World} {b : Nat} {e : TypeId} {fz : Nat × Nat} {l : List (Int × Int)} (h : w.heap[b]? = some (.cells ⟨(l.map encQ).flatten⟩ e fz)) (hok : ∀ x ∈ l, okQ x) (hm : l.length ≤ maxLen) : SlR Rref w (fun k => k = b) (some ⟨b, 0, none⟩) l.length l.length l :=
  blk_slrB (v := .bool true) h ⟨by rw [List.length_map], fun i cs x hc hx => by
    rw [List.getElem?_map, hx] at hc
    cases hc
    exact (flat_ref.iff _ _ _ _).2 ⟨rfl, hok x (List.mem_of_getElem? hx)⟩⟩ rfl hm
section
variable {n : Nat} {w0 : World} {all : Array Oper} {os : List Oper} {o : Oper} {l : FL} {ol : OL} {K : FL → OL → Prop} {Q : Post} {d sb : Nat} {s : SdS} {F : Nat → Prop}
/-- Tick: one thing is told -/
theorem S_tick1 (i : Nat) {now : Int} {qa : Option Addr} {qn qc : Nat} (ql : List (Int × Int)) {k1 : Int} {l1 : List Int} (hs : callAt? n all (look l) o = some (d, 25, [bptr sb, .int .i64 now, .slice qa qn qc])) (hi : getE ol i = some (.rep (fun w => (seA sb s).at_ w F (.bool true)) F true)) (hN : ∀ k, F k → w0.heap.size ≤ k)
    (hq : ∀ w, Hp w0 w ol → QArg w F qa qn qc ql) (hnow : 0 ≤ now ∧ now ≤ 1152921504606846976) (hqz : ∀ x ∈ ql, 0 ≤ x.2 ∧ x.2 ≤ 1099511627776) (hb1 : (bNums s.gs).length + qn ≤ 60000) (hb2 : s.gs.length + qn < 59999) (hb3 : s.last + (qn : Int) + 1 ≤ 1099511627776) (htr : ∀ g ∈ s.gs, g.tries < 1099511627776) (hstr : s.tr < 1099511627776) (ht : s.told now ql = [(k1, l1)])
    (k : ∀ b off c x (Fv F' : Nat → Prop), (∀ k, Fv k → w0.heap.size ≤ k) → (∀ k, F' k → w0.heap.size ≤ k) → ∃ ol', putE ol i (.rep (fun w => (seA sb (s.tick now ql)).at_ w F' (.bool true)) F' true) = some ol' ∧ S Try.prog n w0 all os ((d, .slice (some ⟨b, off, none⟩) 1 c) :: l) (.rep (fun w => (O1 b off k1 x l1).at_ w Fv (.bool true)) Fv false :: ol') K Q) : S Try.prog n w0 all (o :: os) l ol K Q :=
  S_call hs Try.call25 fun w g => by
    obtain ⟨A0, h1, h2⟩ := hq w g
    exact (se_tick (g.own _ (getE_mem hi)).1 (g.own _ (getE_mem hi)).2.2 hnow h1 h2 hqz hb1 hb2 hb3 htr hstr).mono fun e w' ⟨v, Fv, F', he, hv, g1, g2, g3⟩ => by
      rw [ht] at g3
      have o0 := g3.own _ (getE_mem (i := 0) rfl)
      obtain ⟨b, off, c, x, rfl, hx⟩ := toO1 o0.1 o0.2.2
      have g4 := g3.mapI 0 rfl (Ψ := fun w => (O1 b off k1 x l1).at_ w Fv (.bool true)) (fun _ => hx) (Vp.loc (p := O1 _ _ _ _ _)) rfl
      obtain ⟨ol', e1, e2⟩ := k b off c x Fv F' (fun j hj => Nat.le_trans g.size (hv j hj)) (fun j hj => (g2 j hj).elim (hN j) (Nat.le_trans g.size))
      exact ⟨_, _, he, g.graftTV i hi g4 hv g1 g2 e1, e2⟩
/-- Tick: nothing is told -/
theorem S_tick0 (i : Nat) {now : Int} {qa : Option Addr} {qn qc : Nat} (ql : List (Int × Int)) (hs : callAt? n all (look l) o = some (d, 25, [bptr sb, .int .i64 now, .slice qa qn qc])) (hi : getE ol i = some (.rep (fun w => (seA sb s).at_ w F (.bool true)) F true)) (hN : ∀ k, F k → w0.heap.size ≤ k)
    (hq : ∀ w, Hp w0 w ol → QArg w F qa qn qc ql) (hnow : 0 ≤ now ∧ now ≤ 1152921504606846976) (hqz : ∀ x ∈ ql, 0 ≤ x.2 ∧ x.2 ≤ 1099511627776) (hb1 : (bNums s.gs).length + qn ≤ 60000) (hb2 : s.gs.length + qn < 59999) (hb3 : s.last + (qn : Int) + 1 ≤ 1099511627776) (htr : ∀ g ∈ s.gs, g.tries < 1099511627776) (hstr : s.tr < 1099511627776) (ht : s.told now ql = [])
    (k : ∀ a c (F' : Nat → Prop), (∀ k, F' k → w0.heap.size ≤ k) → ∃ ol', putE ol i (.rep (fun w => (seA sb (s.tick now ql)).at_ w F' (.bool true)) F' true) = some ol' ∧ S Try.prog n w0 all os ((d, .slice a 0 c) :: l) ol' K Q) : S Try.prog n w0 all (o :: os) l ol K Q :=
  S_call hs Try.call25 fun w g => by
    obtain ⟨A0, h1, h2⟩ := hq w g
    exact (se_tick (g.own _ (getE_mem hi)).1 (g.own _ (getE_mem hi)).2.2 hnow h1 h2 hqz hb1 hb2 hb3 htr hstr).mono fun e w' ⟨v, Fv, F', he, hv, g1, g2, g3⟩ => by
      rw [ht] at g3
      obtain ⟨a, c, rfl, _⟩ := out_val (g3.own _ (getE_mem (i := 0) rfl)).1
      obtain ⟨ol', e1, e2⟩ := k a c F' (fun j hj => (g2 j hj).elim (hN j) (Nat.le_trans g.size))
      exact ⟨_, _, he, (g.graftTV i hi g3 hv g1 g2 e1).dropr, e2⟩
end
set_option maxHeartbeats 4000000 in
theorem awake14_ok (w : World) : Calls Try.prog 21 #[] w fun e w' => e = .returned (.bool true) ∧ Below w.heap.size w w' := by
  refine enter0 Try.func21 rfl (Hp.refl w) ?_
  repeat (first | refine T_seq ?_ | refine T_region ?_ | refine S_nil ?_ | refine S_pure tabOk rfl ?_ | refine S_q (Q_build tabOk rfl rfl rfl rfl rfl rfl rfl) ?_)
  refine S_snew (by decide) (by decide) rfl (fun sb F0 hN0 => ?_)
  repeat (first | refine T_seq ?_ | refine T_region ?_ | refine S_nil ?_ | refine S_pure tabOk rfl ?_)
  refine S_q (Q_eqptr tabOk rfl rfl rfl rfl rfl) ?_
  repeat (first | refine S_nil ?_ | refine S_pure tabOk rfl ?_)
  refine T_cond_f rfl ?_
  repeat (first | refine T_seq ?_ | refine T_region ?_ | refine pthen_normal ?_ | refine T_skip ?_ | refine S_pure tabOk rfl ?_)
  refine S_tick1 0 [] rfl rfl hN0 (fun w1 g1 => QArg.nil) (by decide) (fun x h => by cases h) (by decide) (by decide) (by decide) (fun g h => by cases h) (by decide) (show SdS.told ⟨2, 9, 5, 9, 1, false, 0, 0, 0, 0, [], 0⟩ 0 [] = [(1, [])] from rfl) (fun b1 o1 c1 x1 F1 G1 hF1 hG1 => ⟨_, rfl, ?_⟩)
  rw [show SdS.tick ⟨2, 9, 5, 9, 1, false, 0, 0, 0, 0, [], 0⟩ 0 [] = ⟨2, 9, 5, 9, 1, false, 0, 0, 2, 1, [], 0⟩ from rfl]
  repeat (first | refine T_seq ?_ | refine T_region ?_ | refine S_nil ?_ | refine S_pure tabOk rfl ?_ | refine S_q (Q_build tabOk rfl rfl rfl rfl rfl rfl rfl) ?_)
  refine S_recv 1 ⟨2, 0, 1, 1, 0, 0, 2, none, 0, 0, none, 0, 0⟩ [] rfl rfl hG1 (fun w1 g1 => ⟨fun _ => False, SlR.nil_, fun k h => h.elim⟩) (by decide) (by decide) (by decide) (by decide) (fun a2 n2 c2 F2 G2 hF2 hG2 => ⟨_, rfl, ?_⟩)
  rw [show SdS.rcv ⟨2, 9, 5, 9, 1, false, 0, 0, 2, 1, [], 0⟩ ⟨2, 0, 1, 1, 0, 0, 2, none, 0, 0, none, 0, 0⟩ [] = ⟨2, 9, 5, 9, 1, true, 1, 2, 0, 0, [], 0⟩ from rfl, show decide (knP ⟨2, 9, 5, 9, 1, false, 0, 0, 2, 1, [], 0⟩ ⟨2, 0, 1, 1, 0, 0, 2, none, 0, 0, none, 0, 0⟩) = true from by decide]
  repeat (first | refine S_pure tabOk rfl ?_)
  refine S_new tabOk rfl (fun b4 hb4 => ?_)
  repeat (first | refine T_seq ?_ | refine T_region ?_ | refine S_nil ?_ | refine S_pure tabOk rfl ?_ | refine S_store tabOk 0 rfl rfl rfl rfl rfl rfl ?_ | refine S_q (Q_build tabOk rfl rfl rfl rfl rfl rfl rfl) ?_)
  refine S_bslice tabOk rfl rfl rfl rfl rfl rfl rfl rfl rfl rfl rfl rfl (fun nq hnq => ?_)
  refine S_tick1 4 [(1, 0), (2, 0), (3, 0)] rfl rfl hG2 (fun w1 g1 => ⟨fun k => k = nq, blk_ref (l := [(1, 0), (2, 0), (3, 0)]) (g1.own _ (getE_mem (i := 0) rfl)) (by show ∀ x ∈ [((1 : Int), (0 : Int)), (2, 0), (3, 0)], Fits .u64 x.1 ∧ Fits .i64 x.2; decide) (by show 3 ≤ maxLen; decide), fun k hk hF => g1.dis 0 4 rfl rfl rfl rfl (by rw [hk]; exact rfl) hF⟩) (by decide) (by decide) (by decide) (by decide) (by decide) (fun g h => by cases h) (by decide) (show SdS.told ⟨2, 9, 5, 9, 1, true, 1, 2, 0, 0, [], 0⟩ 0 [(1, 0), (2, 0), (3, 0)] = [(3, [1, 2])] from rfl) (fun b3 o3 c3 x3 F3 G3 hF3 hG3 => ⟨_, rfl, ?_⟩)
  repeat (first | refine T_seq ?_ | refine T_region ?_ | refine S_nil ?_ | refine S_pure tabOk rfl ?_)
  refine S_q (Q_idx (sz := 2) tabOk rfl rfl rfl rfl rfl rfl rfl (j := 0) rfl (by decide)) ?_
  repeat (first | refine S_pure tabOk rfl ?_)
  refine S_load1 tabOk (v := .int .u8 1) rfl rfl (fun w1 g1 => (g1.own _ (getE_mem (i := 4) rfl)).1.1.1) ?_
  repeat (first | refine S_pure tabOk rfl ?_)
  refine S_q (Q_idx (sz := 2) tabOk rfl rfl rfl rfl rfl rfl rfl (j := 0) rfl (by decide)) ?_
  repeat (first | refine S_pure tabOk rfl ?_)
  refine S_load1 tabOk (v := x3.v) rfl rfl (fun w1 g1 => (g1.own _ (getE_mem (i := 0) rfl)).1.1.2) ?_
  refine S_bslice tabOk rfl rfl rfl rfl rfl rfl rfl rfl rfl rfl rfl rfl (fun n5 hn5 => ?_)
  refine S_eq64 (L := [1, 2]) (M := [1, 2]) rfl (fun w1 g1 => (g1.own _ (getE_mem (i := 1) rfl)).1.2.2.ints.sl) (fun w1 g1 => blk_sl (g1.own _ (getE_mem (i := 0) rfl))) (fun w1 g1 => (g1.own _ (getE_mem (i := 1) rfl)).1.2.2.maxn) ?_
  repeat (first | refine S_nil ?_ | refine T_ret ?_ | refine S_pure tabOk rfl ?_)
  exact ret1 rfl rfl (fun w' hw => ⟨rfl, hw.below (by repeat (first | exact new_nil | refine new_ro ?_ | refine new_rx (by assumption) ?_ | refine new_cons (by first | assumption | omega) ?_))⟩)
end Go.Proofs.Ytidhpofcofknhaa
