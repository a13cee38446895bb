/-
  A sender's Tick. Conditions: each theorem's own.
-/
import Derived.Test.YtidhpofcofknhaaSeD
namespace Go.Proofs.Ytidhpofcofknhaa
open Go Go.RowKit
set_option linter.unusedVariables false

abbrev Rout : Rep (Int × List Int) := Rpair (Rint .u8) (Rslice (Rint .u64))
abbrev ROut : Rep (List (Int × List Int)) := Rslice Rout
/-- what isn't queued any more is taken -/
def SdS.keep_ (s : SdS) (qs : List Int) : SdS := { s with gs := rmB s.gs (fun n => !decide (n ∈ qs)) }
def SdS.due_ (s : SdS) (now : Int) : SdS := { s with gs := dueG s.f s.m now s.gs }
def SdS.send_ (s : SdS) (now : Int) (L : List Int) : SdS := { s with gs := (bSend s.f s.m s.gs s.last now L).1, last := (bSend s.f s.m s.gs s.last now L).2.1 }
def SdS.sendAll (s : SdS) (now : Int) (LL : List (List Int)) : SdS := LL.foldl (fun s L => s.send_ now L) s
def SdS.batch (s : SdS) (now : Int) (ql : List (Int × Int)) : List (List Int) := freshL s.p s.q s.lim (bNums s.gs) ql
/-- open: the state behind what is sent -/
def SdS.open_ (s : SdS) (now : Int) (ql : List (Int × Int)) : SdS := ((s.keep_ (ql.map (·.1))).due_ now).sendAll now (((s.keep_ (ql.map (·.1))).due_ now).batch now ql)
def SdS.outs (s : SdS) (now : Int) (ql : List (Int × Int)) : List (Int × List Int) :=
  (dueL (s.keep_ (ql.map (·.1))).gs now ++ ((s.keep_ (ql.map (·.1))).due_ now).batch now ql).map fun l => ((3 : Int), l)
abbrev SdS.busy (s : SdS) (now : Int) (ql : List (Int × Int)) : Prop := 0 < ((bNums (s.open_ now ql).gs).length : Int) ∨ (ql.length : Int) = 0
def SdS.tick (s : SdS) (now : Int) (ql : List (Int × Int)) : SdS :=
  if s.op then if s.busy now ql then (s.open_ now ql).calm_ else (s.open_ now ql).try_ now else (s.keep_ (ql.map (·.1))).try_ now
def SdS.told (s : SdS) (now : Int) (ql : List (Int × Int)) : List (Int × List Int) :=
  if s.op then s.outs now ql ++ (if s.busy now ql then [] else if s.tm ≤ now then [(3, [])] else []) else if s.tm ≤ now then [(1, [])] else []
theorem SdS.sendAll_eq (now : Int) : ∀ (LL : List (List Int)) (s : SdS), (s.sendAll now LL).f = s.f ∧ (s.sendAll now LL).m = s.m ∧ (s.sendAll now LL).p = s.p ∧ (s.sendAll now LL).q = s.q ∧ (s.sendAll now LL).ep = s.ep ∧ (s.sendAll now LL).op = s.op ∧ (s.sendAll now LL).inc = s.inc ∧ (s.sendAll now LL).lim = s.lim ∧ (s.sendAll now LL).tm = s.tm ∧ (s.sendAll now LL).tr = s.tr
  | [], s => ⟨rfl, rfl, rfl, rfl, rfl, rfl, rfl, rfl, rfl, rfl⟩
  | L :: LL, s => SdS.sendAll_eq now LL (s.send_ now L)
theorem frGo_len (p lim : Int) (nums : List Int) : ∀ (l : List (Int × Int)) (st : FrSt), (frGo p lim nums l st).out.length ≤ st.out.length + l.length ∧ (frGo p lim nums l st).out.flatten.length + (frGo p lim nums l st).cur.length ≤ st.out.flatten.length + st.cur.length + l.length
  | [], st => ⟨Nat.le_refl _, Nat.le_refl _⟩
  | x :: l, st => by
    rw [frGo, List.length_cons]
    split
    · exact ⟨by omega, by omega⟩
    · split
      · have h := frGo_len p lim nums l st
        exact ⟨by omega, by omega⟩
      · have h := frGo_len p lim nums l (frAdd x (frPush p x st))
        have h1 : (frAdd x (frPush p x st)).out.length ≤ st.out.length + 1 := by
          show (frPush p x st).out.length ≤ _
          unfold frPush
          split
          · show (st.out ++ [st.cur]).length ≤ _; rw [List.length_append]; exact Nat.le_refl _
          · omega
        have h2 : (frAdd x (frPush p x st)).out.flatten.length + (frAdd x (frPush p x st)).cur.length = st.out.flatten.length + st.cur.length + 1 := by
          show (frPush p x st).out.flatten.length + ((frPush p x st).cur ++ [x.1]).length = _
          unfold frPush
          split
          · show (st.out ++ [st.cur]).flatten.length + ([] ++ [x.1] : List Int).length = _
            rw [List.flatten_append, List.length_append]
            simp
          · rw [List.length_append]; simp; omega
        exact ⟨by omega, by omega⟩
theorem fresh_len (p q lim : Int) (nums : List Int) (l : List (Int × Int)) : (freshL p q lim nums l).length ≤ l.length + 1 ∧ (freshL p q lim nums l).flatten.length ≤ l.length := by
  have h := frGo_len p lim nums l (frSt0 q nums)
  rw [show (frSt0 q nums).out = [] from rfl, show (frSt0 q nums).cur = [] from rfl] at h
  simp only [List.length_nil, List.flatten_nil] at h
  unfold freshL
  obtain ⟨t, ht⟩ : ∃ t, t = frGo p lim nums l (frSt0 q nums) := ⟨_, rfl⟩
  rw [← ht] at h ⊢
  split
  · rw [List.length_append, List.flatten_append, List.length_append, show [t.cur].flatten = t.cur by simp]
    exact ⟨by show _ + 1 ≤ _; omega, by omega⟩
  · rw [List.append_nil]
    exact ⟨by omega, by omega⟩
theorem dueL_nums (f m now : Int) (gs : List BG) : bNums (dueG f m now gs) = bNums gs := nums_map (q := fun g => if g.tm ≤ now then ⟨g.id, g.L, now + W f m g.tries.toNat, g.tries + 1⟩ else g) (fun g => by by_cases h : g.tm ≤ now <;> simp [h]) gs
theorem newLL_len {gs : List BG} {l : List Int} : (newL gs l).length ≤ l.length := Nat.le_trans sortU_len (List.length_filter_le _ _)
theorem bSendL_len {f m : Int} {gs : List BG} {last now : Int} {l : List Int} : (bNums (bSend f m gs last now l).1).length ≤ (bNums gs).length + l.length ∧ (bSend f m gs last now l).1.length ≤ gs.length + 1 ∧ last ≤ (bSend f m gs last now l).2.1 ∧ (bSend f m gs last now l).2.1 ≤ last + 1 := by
  unfold bSend
  split
  · exact ⟨Nat.le_add_right _ _, Nat.le_succ _, Int.le_refl _, by show last ≤ last + 1; omega⟩
  · have := newLL_len (gs := gs) (l := l)
    refine ⟨?_, by simp, by show last ≤ last + 1; omega, Int.le_refl _⟩
    show (bNums (gs ++ [_])).length ≤ _
    rw [bNums, List.flatMap_append, List.length_append]
    simp only [List.flatMap_cons, List.flatMap_nil, List.append_nil]
    show _ ≤ (gs.flatMap BG.L).length + l.length
    omega
theorem SdS.sendAll_len (now : Int) : ∀ (LL : List (List Int)) (s : SdS), (bNums (s.sendAll now LL).gs).length ≤ (bNums s.gs).length + LL.flatten.length ∧ (s.sendAll now LL).gs.length ≤ s.gs.length + LL.length ∧ (s.sendAll now LL).last ≤ s.last + (LL.length : Int)
  | [], s => ⟨Nat.le_refl _, Nat.le_refl _, by show s.last ≤ s.last + ((0 : Nat) : Int); omega⟩
  | L :: LL, s => by
    have h := SdS.sendAll_len now LL (s.send_ now L)
    have h1 := bSendL_len (f := s.f) (m := s.m) (gs := s.gs) (last := s.last) (now := now) (l := L)
    have e1 : (s.send_ now L).gs = (bSend s.f s.m s.gs s.last now L).1 := rfl
    have e2 : (s.send_ now L).last = (bSend s.f s.m s.gs s.last now L).2.1 := rfl
    rw [e1, e2] at h
    rw [show s.sendAll now (L :: LL) = (s.send_ now L).sendAll now LL from rfl, List.flatten_cons, List.length_append, List.length_cons]
    obtain ⟨a1, a2, a3, a4⟩ := h1
    obtain ⟨b1, b2, b3⟩ := h
    exact ⟨by omega, by omega, by omega⟩
theorem SdS.sendAll_snoc (s : SdS) (now : Int) (LL : List (List Int)) (L : List Int) : s.sendAll now (LL ++ [L]) = (s.sendAll now LL).send_ now L := by
  unfold SdS.sendAll
  rw [List.foldl_append]
  rfl
theorem Bod.append {α : Type} {R : Rep α} {w : World} {A : Nat → Prop} {v : Value} {c1 : List (List Value)} {l1 : List α} (h1 : (Bod R c1 l1).at_ w A v) {c2 : List (List Value)} {l2 : List α} (h2 : (Bod R c2 l2).at_ w A v) : (Bod R (c1 ++ c2) (l1 ++ l2)).at_ w A v := by
  refine ⟨by rw [List.length_append, List.length_append, h1.1, h2.1], fun i cs x hc hx => ?_⟩
  rcases Nat.lt_or_ge i c1.length with h | h
  · rw [List.getElem?_append_left h] at hc
    rw [List.getElem?_append_left (by rw [← h1.1]; exact h)] at hx
    exact h1.2 i cs x hc hx
  · rw [List.getElem?_append_right h] at hc
    rw [List.getElem?_append_right (by rw [← h1.1]; exact h), ← h1.1] at hx
    exact h2.2 _ cs x hc hx
def cellO (x : SX) : List Value := [.int .u8 3, x.v]
theorem bodO {w : World} {A : Nat → Prop} {v : Value} {a : Option Addr} {n c : Nat} {xs : List SX} {L : List (List Int)} (h : (LLx a n c xs L).at_ w A v) : (Bod Rout (xs.map cellO) (L.map fun l => ((3 : Int), l))).at_ w A (.bool true) := by
  have hl := LLx.len h
  refine ⟨by rw [List.length_map, List.length_map]; omega, fun i cs x hc hx => ?_⟩
  rw [List.getElem?_map] at hc hx
  cases h1 : xs[i]? with
  | none => rw [h1] at hc; cases hc
  | some y =>
    cases h2 : L[i]? with
    | none => rw [h2] at hx; cases hx
    | some l =>
      rw [h1] at hc
      rw [h2] at hx
      cases hc
      cases hx
      exact ⟨[.int .u8 3], [y.v], rfl, ⟨rfl, (show Fits .u8 3 by decide)⟩, (LLx.get h h1 h2).val⟩
theorem SdS.try_same (s : SdS) (now : Int) (bb : Nat) : boA bb (s.try_ now).f (s.try_ now).m (s.try_ now).gs (s.try_ now).last = boA bb s.f s.m s.gs s.last := by
  unfold SdS.try_
  split <;> rfl
theorem SdOk.try_ {s : SdS} (h : SdOk s) {now : Int} (hnow : 0 ≤ now ∧ now ≤ 1152921504606846976) (ht : s.tr < 1099511627776) : SdOk (s.try_ now) := by
  have h1 := W_pos h.conf.1.1 h.conf.1.2.1 s.tr.toNat
  have h2 := h.conf.1.2.2
  have h3 := h.tr
  unfold SdS.try_
  split
  · exact ⟨h.conf, h.ep, h.inc, h.lim, by dsimp only; omega, by dsimp only; omega⟩
  · exact h
theorem rmB_memS {gs : List BG} {s : Int → Bool} {g : BG} (h : g ∈ rmB gs s) : ∃ x ∈ gs, g = cutB s x := by
  obtain ⟨x, hx, e⟩ := List.mem_map.1 (List.mem_filter.1 h).1
  exact ⟨x, hx, e.symm⟩
theorem Hp.blkV {w0 w : World} {ol : OL} {b : Nat} {x : Obj} (h : Hp w0 w (.blk b x true :: ol)) (hb : w0.heap.size ≤ b) (p : Vp) {v : Value} (hp : p.at_ w (fun k => k = b) v) : Hp w0 w (.rep (fun w => p.at_ w (fun k => k = b) v) (fun k => k = b) false :: ol) :=
  (h.drop (fun _ k hk => Option.some.inj hk ▸ hb)).more ⟨hp, Vp.loc, fun k hk => hk ▸ heap_lt (h.own _ List.mem_cons_self)⟩ fun e he hr k hk hk2 => (List.pairwise_cons.1 h.apart).1 e he rfl k (by rw [hk]; exact rfl) hk2
/-- a slice that is a block -/
theorem blk_slrB {α : Type} {R : Rep α} {w : World} {b : Nat} {e : TypeId} {fz : Nat × Nat} {css : List (List Value)} {l : List α} {F : Nat → Prop} {v : Value} (h : w.heap[b]? = some (.cells ⟨css.flatten⟩ e fz)) (hb : (Bod R css l).at_ w F v) (hF : F b) (hm : l.length ≤ maxLen) : SlR R w F (some ⟨b, 0, none⟩) l.length l.length l :=
  ⟨rfl, Nat.le_refl _, hm, (fun h => by cases h), ⟨css, hb.1, hb.2, Sl.of_blk h (by rw [flat_len (Bod.szs hb), hb.1]) (fun j u hu => by rw [Nat.zero_add]; exact hu)⟩, fun _ => ⟨_, _, rfl, hF⟩⟩
theorem one_out {w : World} {F : Nat → Prop} {k : Int} (hk : Fits .u8 k) : (Bod Rout [[.int .u8 k, .slice none 0 0]] [((k : Int), ([] : List Int))]).at_ w F (.bool true) :=
  ⟨rfl, fun i cs x h1 h2 => by
    match i, h1, h2 with
    | 0, h1, h2 =>
      cases h1
      cases h2
      exact ⟨[.int .u8 k], [.slice none 0 0], rfl, ⟨rfl, hk⟩, _, _, _, rfl, SlR.nil_⟩
    | i + 1, h1, _ => simp at h1⟩
section
variable {n : Nat} {w0 : World} {all : Array Oper} {os : List Oper} {o : Oper} {l : FL} {ol : OL} {K : FL → OL → Prop} {Q : Post} {d bb : Nat} {f m last : Int} {gs : List BG} {F : Nat → Prop}
theorem S_bdueO (i : Nat) {now : Int} (hs : callAt? n all (look l) o = some (d, 16, [bptr bb, .int .i64 now])) (hi : getE ol i = some (.rep (fun w => (boA bb f m gs last).at_ w F (.bool true)) F true)) (hnow : 0 ≤ now ∧ now ≤ 1152921504606846976) (htr : ∀ g ∈ gs, g.tries < 1099511627776)
    (k : ∀ a ln c xs (Fv F' : Nat → Prop), (∀ k, Fv k → w0.heap.size ≤ k) → (∀ k, F' k → F k ∨ w0.heap.size ≤ k) → (dueL gs now).length = ln ∧ xs.length = ln → ∃ ol', putE ol i (.rep (fun w => (boA bb f m (dueG f m now gs) last).at_ w F' (.bool true)) F' true) = some ol' ∧ S Try.prog n w0 all os ((d, .slice a ln c) :: l) (.rep (fun w => (LLx a ln c xs (dueL gs now)).at_ w Fv (.bool true)) Fv false :: ol') K Q) : S Try.prog n w0 all (o :: os) l ol K Q :=
  S_call hs Try.call16 fun w g => (bo_due (g.own _ (getE_mem hi)).1 (g.own _ (getE_mem hi)).2.2 hnow htr).mono fun e w' ⟨v, Fv, he, hv, F', g1, g2, g3⟩ => by
    obtain ⟨a, ln, c, xs, rfl, hx⟩ := toLL (g3.own _ (getE_mem (i := 0) rfl)).1
    have g4 := g3.mapI 0 rfl (Ψ := fun w => (LLx a ln c xs (dueL gs now)).at_ w Fv (.bool true)) (fun _ => hx) (Vp.loc (p := LLx _ _ _ _ _)) rfl
    obtain ⟨ol', e1, e2⟩ := k a ln c xs Fv F' (fun j hj => Nat.le_trans g.size (hv j hj)) (fun j hj => (g2 j hj).imp id (Nat.le_trans g.size)) (LLx.len hx)
    exact ⟨_, _, he, g.graftTV i hi g4 hv g1 g2 e1, e2⟩
theorem S_bsendO (i : Nat) {a : Option Addr} {ln c : Nat} {now : Int} {L : List Int} (hs : callAt? n all (look l) o = some (d, 9, [bptr bb, .int .i64 now, .slice a ln c])) (hi : getE ol i = some (.rep (fun w => (boA bb f m gs last).at_ w F (.bool true)) F true))
    (hl : ∀ w, Hp w0 w ol → Arg w F a ln c L) (hnow : 0 ≤ now ∧ now ≤ 1152921504606846976) (hln : L.length + (bNums gs).length ≤ 60000) (hcn : gs.length < 60000) (hla : last + 1 ≤ 1099511627776)
    (k : ∀ F' : Nat → Prop, (∀ k, F' k → F k ∨ w0.heap.size ≤ k) → ∃ ol', putE ol i (.rep (fun w => (boA bb f m (bSend f m gs last now L).1 (bSend f m gs last now L).2.1).at_ w F' (.bool true)) F' true) = some ol' ∧ S Try.prog n w0 all os ((d, .int .u64 (bSend f m gs last now L).2.2) :: l) ol' K Q) : S Try.prog n w0 all (o :: os) l ol K Q :=
  S_callT i hs Try.call9 hi fun w g => by
    obtain ⟨A0, h1, h2⟩ := hl w g
    exact (bo_send (g.own _ (getE_mem hi)).1 (g.own _ (getE_mem hi)).2.2 h1 h2 hnow hln hcn hla).mono fun e w' ⟨he, F', g1, g2, g3⟩ => by
      obtain ⟨ol', e1, e2⟩ := k F' fun j hj => (g2 j hj).imp id (Nat.le_trans g.size)
      exact ⟨_, _, F', he, g3, g1, g2, ol', e1, e2⟩
theorem S_callLL {L : List (List Int)} {fn : FuncId} {vs : List Value} (hs : callAt? n all (look l) o = some (d, fn, vs)) (hcall : ∀ args w, (callFunc fn args).run Try.prog w = .ok (.enter fn args) w)
    (hc : ∀ w, Hp w0 w ol → Calls Try.prog fn vs.toArray w fun e w' => ∃ v, e = .returned v ∧ Below w.heap.size w w' ∧ (RLL.vp L).at_ w' (fun k => w.heap.size ≤ k) v)
    (k : ∀ a ln c xs (Fv : Nat → Prop), (∀ k, Fv k → w0.heap.size ≤ k) → L.length = ln ∧ xs.length = ln → S Try.prog n w0 all os ((d, .slice a ln c) :: l) (.rep (fun w => (LLx a ln c xs L).at_ w Fv (.bool true)) Fv false :: ol) K Q) : S Try.prog n w0 all (o :: os) l ol K Q :=
  S_call hs hcall fun w hh => (hc w hh).mono fun e w' ⟨v, he, hb, hp⟩ => by
    obtain ⟨a, ln, c, xs, rfl, hx⟩ := toLL (A := BB w0 (fun _ => False) ol) ((RLL.vp L).mono hp fun k hk => BB_new hh hk)
    obtain ⟨F, h1, h2, h3⟩ := (hh.ext hb).addV (p := LLx a ln c xs L) (v := .bool true) hx
    exact ⟨_, _, he, h3, k a ln c xs F (fun j hj => (h1 j hj).resolve_left id) (LLx.len hx)⟩
end
section
variable {sb : Nat} {s : SdS} {w w0 : World} {F : Nat → Prop} {ol : OL}
set_option maxHeartbeats 4000000 in
theorem se_tick (h : (seA sb s).at_ w F (.bool true)) (hF : ∀ k, F k → k < w.heap.size) {now : Int} (hnow : 0 ≤ now ∧ now ≤ 1152921504606846976) {qa : Option Addr} {qn qc : Nat} {ql : List (Int × Int)} {A : Nat → Prop} (hq : SlR Rref w A qa qn qc ql) (hAF : ∀ k, A k → ¬ F k) (hqz : ∀ x ∈ ql, 0 ≤ x.2 ∧ x.2 ≤ 1099511627776)
    (hb1 : (bNums s.gs).length + qn ≤ 60000) (hb2 : s.gs.length + qn < 59999) (hb3 : s.last + (qn : Int) + 1 ≤ 1099511627776) (htr : ∀ g ∈ s.gs, g.tries < 1099511627776) (hstr : s.tr < 1099511627776) :
    Calls Try.prog 25 #[bptr sb, .int .i64 now, .slice qa qn qc] w fun e w' => ∃ (v : Value) (Fv F' : Nat → Prop), e = .returned v ∧ (∀ k, Fv k → w.heap.size ≤ k) ∧ (∀ k, F k → F' k) ∧ (∀ k, F' k → F k ∨ w.heap.size ≤ k) ∧
      Hp w w' [.rep (fun w => (ROut.vp (s.told now ql)).at_ w Fv v) Fv false, .rep (fun w => (seA sb (s.tick now ql)).at_ w F' (.bool true)) F' true] := by
  obtain ⟨bb, Fb, hok, hst, hFsb, hFb⟩ := se_open h true
  obtain ⟨Fq, hFq, _, hst2⟩ := hst.addV (p := (Rslice Rref).vp ql) (A := A) (v := .slice qa qn qc) (((Rslice Rref).vp ql).mono hq.val fun k hk => ⟨.inl hk, fun e he hex hh => hAF k hk (by
    rcases List.mem_cons.1 he with rfl | he
    · exact Option.some.inj hh ▸ hFsb
    · rw [List.mem_singleton] at he
      subst he
      exact hFb k hh)⟩)
  have hst3 : Hp w w [.blk sb (sdC bb s) true, .rep (fun w => (boA bb s.f s.m s.gs s.last).at_ w Fb (.bool true)) Fb true, .rep (fun w => ((Rslice Rref).vp ql).at_ w Fq (.slice qa qn qc)) Fq false] := hst2.pm [1, 2, 0] rfl rfl rfl
  have hql := hq.len
  have hqok : ∀ (i : Nat) (hi : i < ql.length), okQ ql[i] := fun i hi => (hq.flat flat_ref).2 _ (List.getElem_mem hi)
  refine enterW3 Try.func25 rfl rfl hst3 ?_
  repeat (first | refine T_seq ?_ | refine T_region ?_ | refine S_nil ?_ | refine S_pure tabOk rfl ?_)
  refine S_q (Q_eqptr tabOk rfl rfl rfl rfl rfl) ?_
  repeat (first | refine S_nil ?_)
  refine T_cond_f rfl ?_
  repeat (first | refine T_seq ?_ | refine T_region ?_ | refine pthen_normal ?_ | refine T_skip ?_ | refine S_q (Q_build tabOk rfl rfl rfl rfl rfl rfl rfl) ?_)
  refine S_new tabOk rfl (fun b7 hb7 => ?_)
  repeat (first | refine T_seq ?_ | refine T_region ?_ | refine T_block ?_ | refine S_nil ?_ | refine S_pure tabOk rfl ?_ | refine S_store tabOk 0 rfl rfl rfl rfl rfl rfl ?_)
  refine T_addV (setP (fun _ => False) 0) (fun _ => False) (fun w' hw => setP_nil) (fun F9 hF9 => ?_)
  refine T_loop (ι := Nat × Option Addr × Nat × Nat × (Nat → Prop)) (fun i => [(0, bptr sb), (1, .int .i64 now), (2, .slice qa qn qc), (7, .pointer (some ⟨b7, 0, none⟩)), (18, .slice qa qn qc), (19, .int .i64 (qn : Int)), (20, .int .i64 (i.1 : Int))])
    (fun i => [.rep (fun w => (setP (· ∈ (ql.take i.1).map (·.1)) i.1).at_ w i.2.2.2.2 (setV i.2.1 i.2.2.1 i.2.2.2.1)) i.2.2.2.2 false, .blk b7 (.cells ⟨[.slice i.2.1 i.2.2.1 i.2.2.2.1]⟩ 44 (0, 0)) true, .blk sb (sdC bb s) true, .rep (fun w => (boA bb s.f s.m s.gs s.last).at_ w Fb (.bool true)) Fb true, .rep (fun w => ((Rslice Rref).vp ql).at_ w Fq (.slice qa qn qc)) Fq false])
    (fun i => i.1 ≤ qn ∧ ∀ k, i.2.2.2.2 k → w.heap.size ≤ k) (fun i => qn - i.1) (0, none, 0, 0, F9) ⟨Nat.zero_le _, fun k hk => (hF9 k hk).resolve_left id⟩ (by repeat (first | exact Sub.nil | refine Sub.cons rfl ?_)) (fun w' hw => ?_) ?_
  · have e : (fun _ : Int => False) = (· ∈ (ql.take 0).map (·.1)) := by
      funext x
      simp
    simp only [← e]
    exact hw
  rintro ⟨i, a6, n6, c6, F6⟩ ⟨hi, hF6⟩
  dsimp only at hi hF6 ⊢
  repeat (first | refine T_seq ?_ | refine T_region ?_ | refine S_nil ?_ | refine S_pure tabOk rfl ?_)
  refine T_cond_dec rfl (fun hlt => ?_) (fun hge => ?_)
  · have hi' : i < ql.length := by omega
    have hokk := hqok i hi'
    obtain ⟨ab, off, cs, rfl, hlt2, _⟩ := hq.get_ hi'
    repeat (first | refine T_seq ?_ | refine T_region ?_ | refine T_block ?_ | refine pthen_normal ?_ | refine T_skip ?_)
    refine S_q (Q_idx (sz := 2) tabOk rfl rfl rfl rfl rfl rfl rfl rfl (j := i) (by omega)) ?_
    refine S_loadN tabOk (vs := encQ ql[i]) rfl rfl rfl (fun w' hw => ref_cells (SlR.of_val (hw.own _ (getE_mem (i := 4) rfl)).1) hi') ?_
    refine S_new tabOk rfl (fun b9 hb9 => ?_)
    repeat (first | refine S_nil ?_ | refine S_pure tabOk rfl ?_ | refine T_region_any ?_ | refine S_load tabOk 0 rfl rfl rfl ?_ | refine S_load tabOk 2 rfl rfl rfl ?_ | refine S_store tabOk 0 rfl rfl rfl rfl rfl rfl ?_)
    refine S_callR (setP (· ∈ (ql.take (i + 1)).map (·.1)) (i + 1)) (fun _ => False) rfl Try.call59 (fun w1 g1 => (add_p (ql[i]).1 w1 (fun k hk => BB_new g1 hk) (Vp.fact (p := setP (· ∈ (ql.take i).map (·.1)) i) g1 1 rfl fun k hk => .inr (hF6 k hk)) (by omega) hokk.1).mono fun e w' ⟨r, e1, e2, e3⟩ => ⟨r, e1, e2, setP_to (fun x => by rw [List.take_succ_eq_append_getElem hi', List.map_append, List.mem_append]; simp) (Nat.le_refl _) e3⟩) (fun v F7 w1 hF7 hv => ?_)
    obtain ⟨a7, n7, c7, rfl⟩ := setP_val hv
    repeat (first | refine T_region ?_ | refine S_nil ?_ | refine pthen_normal ?_ | refine inb_normal ?_ | refine S_i64 tabOk rfl (by omega) ?_ | refine S_pure tabOk rfl ?_ | refine S_store tabOk 3 rfl rfl rfl rfl rfl rfl ?_)
    exact ⟨(i + 1, a7, n7, c7, F7), ⟨by dsimp only; omega, fun k hk => (hF7 k hk).resolve_left id⟩, (by repeat (first | exact Sub.nil | refine Sub.cons rfl ?_)), fun w' hw => hw.less (by repeat (first | exact Less.nil | refine Less.keep ?_ | refine Less.dropR ?_ | refine Less.dropB (by first | assumption | omega) ?_)), by dsimp only; omega⟩
  have hie : i = qn := by omega
  subst hie
  rw [List.take_of_length_le (by omega)]
  repeat (first | refine T_seq ?_ | refine pthen_normal ?_ | refine inb_hit ?_ | refine pthen_exit ?_ | refine T_exit ?_)
  obtain ⟨qs, hqs⟩ : ∃ q, q = ql.map (·.1) := ⟨_, rfl⟩
  rw [← hqs]
  obtain ⟨sA, hsA⟩ : ∃ sA : Int → Bool, sA = fun n => decide (n ∈ bNums s.gs ∧ ¬ n ∈ qs) := ⟨_, rfl⟩
  have hrm : rmB s.gs sA = (s.keep_ qs).gs := rmB_congr fun n hn => by rw [hsA]; by_cases h : n ∈ qs <;> simp [hn, h]
  refine T_kn (fun w1 g1 => bo_ok (g1.own _ (getE_mem (i := 3) rfl)).1) (fun ⟨_, hbok, hbne⟩ => ?_)
  have hbl := hbok.len
  refine T_drawM (by kernel_rfl) (by kernel_rfl) [8, 10, 11] (by kernel_rfl) (by kernel_rfl) (by kernel_rfl) [.blk sb (sdC bb s) false, .blk b7 (.cells ⟨[.slice a6 n6 c6]⟩ 44 (0, 0)) false] (noex_blk (noex_blk noex_nil))
    [some (bptr sb), some (bptr sb), some (.pointer (some ⟨sb, 0 + 8, none⟩)), some (bptr bb), some (bptr sb), some (bptr sb), some (.pointer (some ⟨sb, 0 + 8, none⟩)), some (bptr bb), none, some (setV a6 n6 c6), none, none]
    ⟨.inr ⟨_, _, rfl, rfl, fun w f => D_pure tabOk rfl D_last⟩, .inr ⟨_, _, rfl, rfl, fun w f => D_pure tabOk rfl D_last⟩, .inr ⟨_, _, rfl, rfl, fun w f => D_pure tabOk rfl D_last⟩, .inr ⟨_, _, rfl, rfl, fun w f => D_load tabOk 0 rfl rfl rfl D_last⟩, .inr ⟨_, _, rfl, rfl, fun w f => D_pure tabOk rfl D_last⟩, .inr ⟨_, _, rfl, rfl, fun w f => D_pure tabOk rfl D_last⟩, .inr ⟨_, _, rfl, rfl, fun w f => D_pure tabOk rfl D_last⟩, .inr ⟨_, _, rfl, rfl, fun w f => D_load tabOk 0 rfl rfl rfl D_last⟩, .inl rfl, .inr ⟨_, _, rfl, rfl, fun w f => D_load tabOk 1 rfl rfl rfl D_last⟩, .inl rfl, .inl rfl, trivial⟩ ?_
  refine SM_step [(36, bptr bb)] (base_blk 2 rfl (base_blk 1 rfl base_nil)) rfl (.cons rfl rfl .nil) ?_
  refine S_callR (setP (· ∈ bNums s.gs) (bNums s.gs).length) (fun _ => False) rfl Try.call53 (fun w1 g1 => (bo_flight (g1.own _ (getE_mem (i := 3) rfl)).1).mono fun e w' ⟨r, e1, e2, e3⟩ => ⟨r, e1, e2, nbb g1 e3⟩) (fun v8 F8 w8 hF8 hv8 => ?_)
  obtain ⟨a8, n8, c8, rfl⟩ := setP_val hv8
  refine S_nil ⟨_, rfl, (fun u h => by cases h), ?_⟩
  refine SM_step [(37, setV a8 n8 c8), (38, setV a6 n6 c6)] (base_blk 3 rfl (base_blk 2 rfl base_nil)) rfl (.cons rfl rfl (.cons rfl rfl .nil)) ?_
  refine S_callR (setP (fun x => x ∈ bNums s.gs ∧ ¬ x ∈ qs) ((bNums s.gs).length + i)) (fun _ => False) rfl Try.call44 (fun w1 g1 => less_p w1 (fun k hk => BB_new g1 hk) (Vp.fact (p := setP (· ∈ bNums s.gs) (bNums s.gs).length) g1 0 rfl hF8) (g1.own _ (getE_mem (i := 1) rfl)).1 (by omega)) (fun v F13 w1 hF13 hv => ?_)
  obtain ⟨ar, nr, cr, rfl⟩ := setP_val hv
  refine S_nil ⟨_, rfl, (fun u h => by cases h), ?_⟩
  refine SM_step [(32, bptr bb), (39, setV ar nr cr)] (base_blk 4 rfl (base_blk 3 rfl base_nil)) rfl (.cons rfl rfl (.cons rfl rfl .nil)) ?_
  refine S_callTR 5 rfl Try.call13 rfl (fun w1 g1 => (bo_take (g1.own _ (getE_mem (i := 5) rfl)).1 (g1.own _ (getE_mem (i := 5) rfl)).2.2 (s := sA) (Bd := (bNums s.gs).length + i) (setP_to (fun y => by rw [hsA, decide_eq_true_iff]) (Nat.le_refl _) (g1.own _ (getE_mem (i := 0) rfl)).1) (fun k hk hF => g1.dis 0 5 rfl rfl rfl rfl hk hF) (by omega)).mono fun e w' ⟨A3, C3, he, Fb2, k1, k2, k3⟩ => ⟨_, _, Fb2, _, _, _, _, _, he, k3, k1, k2, _, rfl, ?_⟩)
  have hsz := g1.size
  have hFb2 : ∀ k, Fb2 k → F k ∨ w.heap.size ≤ k := fun k hk => (k2 k hk).elim (fun h => .inl (hFb k h)) fun h => .inr (by omega)
  rw [hrm]
  refine S_nil ⟨_, rfl, (fun u h => by cases h), ?_⟩
  refine SM_end [(0, bptr sb), (1, .int .i64 now), (2, .slice qa i qc)] (base_blk 5 rfl (base_blk 4 rfl base_nil)) (by repeat (first | exact SubD.nil | refine SubD.cons rfl ?_)) ?_
  refine T_heap (fun w' hw => Hp.less (o' := [.blk sb (sdC bb s) true, .rep (fun w => (boA bb s.f s.m (s.keep_ qs).gs s.last).at_ w Fb2 (.bool true)) Fb2 true, .rep (fun w => ((Rslice Rref).vp ql).at_ w Fq (.slice qa i qc)) Fq false]) hw (by repeat (first | exact Less.nil | refine Less.keep ?_ | refine Less.dropR ?_ | refine Less.dropB (by first | assumption | omega) ?_ | refine Less.dropW (Nat.le_refl _) ?_))) ?_
  have fin : ∀ (s' : SdS) (Fb' Fv : Nat → Prop) (w' : World) (v : Value), Hp w w' [.blk sb (sdC bb s') true, .rep (fun w => (boA bb s'.f s'.m s'.gs s'.last).at_ w Fb' (.bool true)) Fb' true, .rep (fun w => (ROut.vp (s.told now ql)).at_ w Fv v) Fv false] → SdOk s' → (∀ k, Fb' k → F k ∨ w.heap.size ≤ k) → (∀ k, Fv k → w.heap.size ≤ k) → s.tick now ql = s' →
      ∃ (v' : Value) (Fv F' : Nat → Prop), Ending.returned v = .returned v' ∧ (∀ k, Fv k → w.heap.size ≤ k) ∧ (∀ k, F k → F' k) ∧ (∀ k, F' k → F k ∨ w.heap.size ≤ k) ∧ Hp w w' [.rep (fun w => (ROut.vp (s.told now ql)).at_ w Fv v') Fv false, .rep (fun w => (seA sb (s.tick now ql)).at_ w F' (.bool true)) F' true] := fun s' Fb' Fv w' v hw hok' hFb' hFv e => by
    rw [e]
    obtain ⟨F', j1, j2, j3⟩ := se_close (F0 := F) (ol := [.rep (fun w => (ROut.vp (s.told now ql)).at_ w Fv v) Fv false]) hw hok' hF (fun e he k hk => by
      rw [List.mem_singleton] at he
      subst he
      exact hFv k hk) (.inl hFsb) hFb'
    exact ⟨_, Fv, F', rfl, hFv, j1, j2, j3.pm [1, 0] rfl rfl rfl⟩
  have hokk : SdOk (s.keep_ qs) := ⟨hok.conf, hok.ep, hok.inc, hok.lim, hok.tm, hok.tr⟩
  have htrk : ∀ g ∈ (s.keep_ qs).gs, g.tries < 1099511627776 := fun g hg => by
    obtain ⟨x, hx, rfl⟩ := rmB_memS hg
    exact htr x hx
  repeat (first | refine T_seq ?_ | refine T_region ?_ | refine S_nil ?_ | refine S_pure tabOk rfl ?_ | refine S_load tabOk 0 rfl rfl rfl ?_)
  refine T_cond rfl (fun h1 => ?_) (fun h1 => ?_)
  · have hop : s.op = false := by simpa using h1
    have htk : s.tick now ql = (s.keep_ qs).try_ now := by unfold SdS.tick; rw [if_neg (by rw [hop]; decide), hqs]
    have hto : s.told now ql = if s.tm ≤ now then [(1, [])] else [] := by unfold SdS.told; rw [if_neg (by rw [hop]; decide)]
    repeat (first | refine T_seq ?_ | refine T_region ?_ | refine S_pure tabOk rfl ?_)
    refine S_call rfl Try.call60 (fun w1 g1 => (tried_ok (s := s.keep_ qs) g1 hok.conf.1 hnow ⟨hok.tr.1, hstr⟩).mono fun e w' ⟨he, h9⟩ => ⟨_, _, he, h9, ?_⟩)
    repeat (first | refine S_nil ?_)
    refine T_cond_dec rfl (fun h2 => ?_) (fun h2 => ?_)
    · rw [if_pos (show s.tm ≤ now from h2)] at hto
      repeat (first | refine T_seq ?_ | refine T_region ?_ | refine S_q (Q_build tabOk rfl rfl rfl rfl rfl rfl rfl) ?_)
      refine S_bslice tabOk rfl rfl rfl rfl rfl rfl rfl rfl rfl rfl rfl rfl (fun nb hnb => ?_)
      repeat (first | refine S_nil ?_ | refine pthen_ret ?_ | refine T_ret ?_ | refine S_pure tabOk rfl ?_)
      refine ret1 rfl rfl (fun w' hw => ?_)
      have o0 := hw.own _ (getE_mem (i := 0) rfl)
      have h9 := hw.blkV hnb (ROut.vp [(1, [])]) (v := .slice (some ⟨nb, 0, none⟩) 1 1) (blk_slrB (R := Rout) (F := fun k => k = nb) (css := [[.int .u8 1, .slice none 0 0]]) (v := .bool true) o0 (one_out (by decide)) rfl (by show 1 ≤ maxLen; decide)).val
      refine fin ((s.keep_ qs).try_ now) Fb2 (fun k => k = nb) w' (.slice (some ⟨nb, 0, none⟩) 1 1) ?_ (hokk.try_ hnow hstr) hFb2 (fun k h => by rw [h]; exact hnb) htk
      rw [SdS.try_same, hto]
      exact (h9.pm [1, 2, 0, 3] rfl rfl rfl).less (by repeat (first | exact Less.nil | refine Less.keep ?_ | refine Less.dropR ?_))
    · rw [if_neg (show ¬ s.tm ≤ now from h2)] at hto
      repeat (first | refine T_seq ?_ | refine T_region ?_ | refine S_nil ?_ | refine pthen_normal ?_ | refine pthen_ret ?_ | refine T_skip ?_ | refine T_ret ?_ | refine S_pure tabOk rfl ?_)
      refine ret1 rfl rfl (fun w' hw => ?_)
      refine fin ((s.keep_ qs).try_ now) Fb2 (fun _ => False) w' _ ?_ (hokk.try_ hnow hstr) hFb2 (fun k h => h.elim) htk
      rw [SdS.try_same, hto]
      exact ((Hp.none (hw.less (o' := [.blk sb (sdC bb ((s.keep_ qs).try_ now)) true, .rep (fun w => (boA bb s.f s.m (s.keep_ qs).gs s.last).at_ w Fb2 (.bool true)) Fb2 true]) (by repeat (first | exact Less.nil | refine Less.keep ?_ | refine Less.dropR ?_))) (p := ROut.vp []) (v := .slice none 0 0) (fun w => SlR.nil_.val) false).pm [1, 2, 0] rfl rfl rfl)
  · have hop : s.op = true := by simpa using h1
    have hkid : ∀ x, x ∈ bNums (s.keep_ qs).gs → x ∈ bNums s.gs := fun x hx => by
      rw [show bNums (s.keep_ qs).gs = (bNums s.gs).filter fun n => !!decide (n ∈ qs) from nums_rm _ _] at hx
      exact (List.mem_filter.1 hx).1
    repeat (first | refine T_seq ?_ | refine T_region ?_ | refine S_nil ?_ | refine pthen_normal ?_ | refine T_skip ?_ | refine S_pure tabOk rfl ?_ | refine S_load tabOk 0 rfl rfl rfl ?_)
    refine S_bdueO 1 rfl rfl hnow htrk (fun d1 dn dc xs Fd Fb3 hFd hFb3 hdl => ⟨_, rfl, ?_⟩)
    obtain ⟨DL, hDL⟩ : ∃ DL, DL = dueL (s.keep_ qs).gs now := ⟨_, rfl⟩
    rw [← hDL] at hdl ⊢
    obtain ⟨rfl, hxl⟩ := hdl
    have hFb4 : ∀ k, Fb3 k → F k ∨ w.heap.size ≤ k := fun k hk => (hFb3 k hk).elim (hFb2 k) .inr
    have hDb : DL.length ≤ s.gs.length := by
      have h1 : (dueL (s.keep_ qs).gs now).length ≤ (s.keep_ qs).gs.length := by unfold dueL; rw [List.length_map]; exact dueI_len
      rw [← hDL] at h1
      have h2 : (s.keep_ qs).gs.length ≤ s.gs.length := Nat.le_trans (List.length_filter_le _ _) (by rw [List.length_map]; exact Nat.le_refl _)
      omega
    repeat (first | refine T_block ?_ | refine S_nil ?_ | refine S_pure tabOk rfl ?_)
    refine T_loop (ι := Nat × Option Addr × Nat) (fun j => [(0, bptr sb), (1, .int .i64 now), (2, .slice qa i qc), (10, .slice j.2.1 j.1 j.2.2), (56, .slice d1 DL.length dc), (57, .int .i64 (DL.length : Int)), (58, .int .i64 (j.1 : Int))])
      (fun j => [.row w.heap.size (.slice j.2.1 j.1 j.2.2) 77 2 j.1 ((xs.take j.1).map cellO).flatten, .rep (fun w => (LLx d1 DL.length dc xs DL).at_ w Fd (.bool true)) Fd false, .blk sb (sdC bb s) true, .rep (fun w => (boA bb s.f s.m (dueG s.f s.m now (s.keep_ qs).gs) s.last).at_ w Fb3 (.bool true)) Fb3 true, .rep (fun w => ((Rslice Rref).vp ql).at_ w Fq (.slice qa i qc)) Fq false])
      (fun j => j.1 ≤ DL.length) (fun j => DL.length - j.1) (0, none, 0) (Nat.zero_le _) (by repeat (first | exact Sub.nil | refine Sub.cons rfl ?_)) (fun w' hw => hw.nilRow 77 2) ?_
    rintro ⟨j, A1, C1⟩ hj
    dsimp only at hj ⊢
    repeat (first | refine T_seq ?_ | refine T_region ?_ | refine S_nil ?_ | refine S_pure tabOk rfl ?_)
    refine T_cond_dec rfl (fun hlt1 => ?_) (fun hge1 => ?_)
    · have hin : j < DL.length := by omega
      obtain ⟨⟨xa, xn, xc⟩, hx⟩ : ∃ x, xs[j]? = some x := ⟨_, List.getElem?_eq_getElem (by omega)⟩
      refine T_kn (X := ∃ b off, d1 = some ⟨b, off, none⟩) (fun w1 g1 => LLx.addr (g1.own _ (getE_mem (i := 1) rfl)).1 (by omega)) (fun ⟨b5, o5, e5⟩ => ?_)
      subst e5
      repeat (first | refine T_seq ?_ | refine T_region ?_ | refine T_block ?_ | refine pthen_normal ?_ | refine T_skip ?_)
      refine S_q (Q_idx (sz := 1) tabOk rfl rfl rfl rfl rfl rfl rfl (j := j) rfl hin) ?_
      refine S_load1 tabOk (v := .slice xa xn xc) rfl rfl (fun w1 h1 => by rw [Nat.mul_one]; exact LLx.cell (h1.own _ (getE_mem (i := 1) rfl)).1 hx) ?_
      repeat (first | refine S_nil ?_ | refine S_pure tabOk rfl ?_ | refine T_region_any ?_ | refine S_q (Q_build tabOk rfl rfl rfl rfl rfl rfl rfl) ?_)
      refine S_bslice tabOk rfl rfl rfl rfl rfl rfl rfl rfl rfl rfl rfl rfl (fun nb hnb => ?_)
      refine S_append (ty := 0) (k := 1) (news := [.int .u8 3, .slice xa xn xc]) tabOk 1 (sz := 2) rfl rfl rfl rfl rfl rfl rfl rfl rfl (by decide) (fun w' hw => Sl.of_blk (hw.own _ (getE_mem (i := 0) rfl)) rfl (fun j u hu => by rw [Nat.zero_add]; exact hu)) (fun u hu => by
        simp only [List.mem_cons, List.not_mem_nil, or_false] at hu
        rcases hu with rfl | rfl <;> rfl) (by simp only [maxLen]; omega) (by show (_ + _) * 32 ≤ _; omega) rfl (fun A' C' hA' hC' => ⟨_, rfl, ?_⟩)
      repeat (first | refine T_region ?_ | refine S_nil ?_ | refine pthen_normal ?_ | refine inb_normal ?_ | refine S_i64 tabOk rfl (by omega) ?_ | refine S_pure tabOk rfl ?_)
      refine ⟨(j + 1, A', C'), hin, (by repeat (first | exact Sub.nil | refine Sub.cons rfl ?_)), fun w' hw => ?_, by dsimp only; omega⟩
      have e9 : ((xs.take (j + 1)).map cellO).flatten = ((xs.take j).map cellO).flatten ++ [.int .u8 3, .slice xa xn xc] := by
        rw [List.getElem?_eq_some_iff] at hx
        obtain ⟨hx1, hx2⟩ := hx
        rw [List.take_succ_eq_append_getElem hx1, hx2, List.map_append, List.flatten_append]
        rfl
      dsimp only
      rw [e9]
      exact hw.less (by repeat (first | exact Less.nil | refine Less.keep ?_ | refine Less.dropB (by first | assumption | omega) ?_))
    have hje : j = DL.length := by omega
    subst hje
    rw [List.take_of_length_le (by omega)]
    repeat (first | refine T_seq ?_ | refine T_region ?_ | refine pthen_normal ?_ | refine inb_hit ?_ | refine pthen_exit ?_ | refine T_exit ?_ | refine S_pure tabOk rfl ?_)
    obtain ⟨s2, hs2⟩ : ∃ t, t = (s.keep_ qs).due_ now := ⟨_, rfl⟩
    have hok2 : SdOk s2 := by rw [hs2]; exact ⟨hok.conf, hok.ep, hok.inc, hok.lim, hok.tm, hok.tr⟩
    obtain ⟨FL, hFL⟩ : ∃ t, t = s2.batch now ql := ⟨_, rfl⟩
    refine S_callLL (L := FL) rfl Try.call61 (fun w1 g1 => by
      rw [hFL, hs2]
      exact se_fresh (s := (s.keep_ qs).due_ now) (hs2 ▸ hok2) (g1.own _ (getE_mem (i := 2) rfl)) (g1.own _ (getE_mem (i := 3) rfl)).1 (g1.own _ (getE_mem (i := 3) rfl)).2.2 (SlR.of_val (g1.own _ (getE_mem (i := 4) rfl)).1) (by omega) hqz) (fun e1 en ec_ ys Ff hFf hel => ?_)
    obtain ⟨rfl, hyl⟩ := hel
    have hFll := fresh_len s2.p s2.q s2.lim (bNums s2.gs) ql
    rw [show freshL s2.p s2.q s2.lim (bNums s2.gs) ql = FL from hFL.symm] at hFll
    repeat (first | refine T_block ?_ | refine S_nil ?_ | refine S_pure tabOk rfl ?_)
    have hsl := fun (j : Nat) => SdS.sendAll_len now (FL.take j) s2
    have hs2g : s2.gs.length ≤ s.gs.length ∧ (bNums s2.gs).length ≤ (bNums s.gs).length ∧ s2.last = s.last := by
      rw [hs2]
      refine ⟨?_, ?_, rfl⟩
      · show ((s.keep_ qs).gs.map _).length ≤ _
        rw [List.length_map]
        exact Nat.le_trans (List.length_filter_le _ _) (by rw [List.length_map]; exact Nat.le_refl _)
      · show (bNums (dueG s.f s.m now (s.keep_ qs).gs)).length ≤ _
        rw [dueL_nums, show bNums (s.keep_ qs).gs = (bNums s.gs).filter fun n => !!decide (n ∈ qs) from nums_rm _ _]
        exact List.length_filter_le _ _
    have e0 : (boA bb s.f s.m (dueG s.f s.m now (s.keep_ qs).gs) s.last) = boA bb s.f s.m (s2.sendAll now (FL.take 0)).gs (s2.sendAll now (FL.take 0)).last := by rw [hs2]; rfl
    refine T_loop (ι := Nat × Option Addr × Nat × (Nat → Prop)) (fun j => [(0, bptr sb), (1, .int .i64 now), (2, .slice qa i qc), (10, .slice j.2.1 (DL.length + j.1) j.2.2.1), (70, .slice e1 FL.length ec_), (71, .int .i64 (FL.length : Int)), (72, .int .i64 (j.1 : Int))])
      (fun j => [.rep (fun w => (LLx e1 FL.length ec_ ys FL).at_ w Ff (.bool true)) Ff false, .row w.heap.size (.slice j.2.1 (DL.length + j.1) j.2.2.1) 77 2 (DL.length + j.1) ((xs ++ ys.take j.1).map cellO).flatten, .rep (fun w => (LLx d1 DL.length dc xs DL).at_ w Fd (.bool true)) Fd false, .blk sb (sdC bb s) true, .rep (fun w => (boA bb s.f s.m (s2.sendAll now (FL.take j.1)).gs (s2.sendAll now (FL.take j.1)).last).at_ w j.2.2.2 (.bool true)) j.2.2.2 true])
      (fun j => j.1 ≤ FL.length ∧ ∀ k, j.2.2.2 k → F k ∨ w.heap.size ≤ k) (fun j => FL.length - j.1) (0, A1, C1, Fb3) ⟨Nat.zero_le _, hFb4⟩ (by repeat (first | exact Sub.nil | refine Sub.cons rfl ?_)) (fun w' hw => ?_) ?_
    · rw [e0] at hw
      dsimp only
      rw [List.take_zero (l := ys), List.append_nil]
      exact hw.less (by repeat (first | exact Less.nil | refine Less.keep ?_ | refine Less.dropR ?_))
    rintro ⟨j, A2, C2, Fj⟩ ⟨hj, hFj⟩
    dsimp only at hj hFj ⊢
    repeat (first | refine T_seq ?_ | refine T_region ?_ | refine S_nil ?_ | refine S_pure tabOk rfl ?_)
    refine T_cond_dec rfl (fun hlt1 => ?_) (fun hge2 => ?_)
    · have hin : j < FL.length := by omega
      obtain ⟨l', hl'⟩ : ∃ l', FL[j]? = some l' := ⟨_, List.getElem?_eq_getElem hin⟩
      obtain ⟨⟨ya, yn, yc⟩, hy⟩ : ∃ x, ys[j]? = some x := ⟨_, List.getElem?_eq_getElem (by omega)⟩
      have hslj := hsl j
      have htk : FL.take (j + 1) = FL.take j ++ [l'] := by
        rw [List.take_succ_eq_append_getElem hin]
        rw [List.getElem?_eq_getElem hin] at hl'
        rw [Option.some.inj hl']
      have hfl : (FL.take j).flatten.length + l'.length ≤ ql.length := by
        have h1 : ((FL.take j).flatten ++ l').length ≤ FL.flatten.length := by
          have h2 : ((FL.take (j + 1)).flatten).length ≤ FL.flatten.length := by
            conv => rhs; rw [← List.take_append_drop (j + 1) FL, List.flatten_append, List.length_append]
            omega
          rw [htk, List.flatten_append] at h2
          simpa using h2
        rw [List.length_append] at h1
        omega
      have htl : (FL.take j).length = j := by rw [List.length_take]; omega
      rw [htl] at hslj
      refine T_kn (X := (∃ b off, e1 = some ⟨b, off, none⟩) ∧ l'.length = yn) (fun w1 g1 => ⟨LLx.addr (g1.own _ (getE_mem (i := 0) rfl)).1 (by omega), (LLx.get (g1.own _ (getE_mem (i := 0) rfl)).1 hy hl').len⟩) (fun ⟨⟨b5, o5, e5⟩, hyn⟩ => ?_)
      subst e5 hyn
      repeat (first | refine T_seq ?_ | refine T_region ?_ | refine T_block ?_ | refine pthen_normal ?_ | refine T_skip ?_)
      refine S_q (Q_idx (sz := 1) tabOk rfl rfl rfl rfl rfl rfl rfl (j := j) rfl hin) ?_
      refine S_load1 tabOk (v := .slice ya l'.length yc) rfl rfl (fun w1 h1 => by rw [Nat.mul_one]; exact LLx.cell (h1.own _ (getE_mem (i := 0) rfl)).1 hy) ?_
      repeat (first | refine T_seq ?_ | refine T_region ?_ | refine S_nil ?_ | refine S_pure tabOk rfl ?_ | refine S_load tabOk 3 rfl rfl rfl ?_)
      refine S_bsendO 4 (L := l') rfl rfl (fun w1 g1 => ⟨Ff, LLx.get (g1.own _ (getE_mem (i := 0) rfl)).1 hy hl', fun k hk hF => g1.dis 0 4 rfl rfl rfl rfl hk hF⟩) hnow (by omega) (by omega) (by omega) (fun F7 hF7 => ⟨_, rfl, ?_⟩)
      repeat (first | refine S_nil ?_ | refine S_pure tabOk rfl ?_ | refine T_region_any ?_ | refine S_q (Q_build tabOk rfl rfl rfl rfl rfl rfl rfl) ?_)
      refine S_bslice tabOk rfl rfl rfl rfl rfl rfl rfl rfl rfl rfl rfl rfl (fun nb hnb => ?_)
      refine S_append (ty := 0) (k := 1) (news := [.int .u8 3, .slice ya l'.length yc]) tabOk 2 (sz := 2) rfl rfl rfl rfl rfl rfl rfl rfl rfl (by decide) (fun w' hw => Sl.of_blk (hw.own _ (getE_mem (i := 0) rfl)) rfl (fun j u hu => by rw [Nat.zero_add]; exact hu)) (fun u hu => by
        simp only [List.mem_cons, List.not_mem_nil, or_false] at hu
        rcases hu with rfl | rfl <;> rfl) (by simp only [maxLen]; omega) (by show (_ + _) * 32 ≤ _; omega) rfl (fun A' C' hA' hC' => ⟨_, rfl, ?_⟩)
      repeat (first | refine T_region ?_ | refine S_nil ?_ | refine pthen_normal ?_ | refine inb_normal ?_ | refine S_i64 tabOk rfl (by omega) ?_ | refine S_pure tabOk rfl ?_)
      refine ⟨(j + 1, A', C', F7), ⟨hin, fun k hk => (hF7 k hk).elim (hFj k) .inr⟩, (by repeat (first | exact Sub.nil | refine Sub.cons rfl ?_)), fun w' hw => ?_, by dsimp only; omega⟩
      have e9 : ((xs ++ ys.take (j + 1)).map cellO).flatten = ((xs ++ ys.take j).map cellO).flatten ++ [.int .u8 3, .slice ya l'.length yc] := by
        rw [List.getElem?_eq_some_iff] at hy
        obtain ⟨hy1, hy2⟩ := hy
        rw [List.take_succ_eq_append_getElem hy1, hy2, ← List.append_assoc, List.map_append, List.flatten_append]
        rfl
      obtain ⟨q1, q2, _⟩ := SdS.sendAll_eq now (FL.take j) s2
      have e10 : boA bb s.f s.m (s2.sendAll now (FL.take (j + 1))).gs (s2.sendAll now (FL.take (j + 1))).last = boA bb s.f s.m (bSend s.f s.m (s2.sendAll now (FL.take j)).gs (s2.sendAll now (FL.take j)).last now l').1 (bSend s.f s.m (s2.sendAll now (FL.take j)).gs (s2.sendAll now (FL.take j)).last now l').2.1 := by
        rw [htk, SdS.sendAll_snoc]
        show boA bb s.f s.m (bSend (s2.sendAll now (FL.take j)).f (s2.sendAll now (FL.take j)).m _ _ now l').1 (bSend (s2.sendAll now (FL.take j)).f (s2.sendAll now (FL.take j)).m _ _ now l').2.1 = _
        rw [q1, q2, show s2.f = s.f by rw [hs2]; rfl, show s2.m = s.m by rw [hs2]; rfl]
      dsimp only
      rw [e9, e10]
      exact hw.less (by repeat (first | exact Less.nil | refine Less.keep ?_ | refine Less.dropB (by first | assumption | omega) ?_))
    have hje : j = FL.length := by omega
    subst hje
    obtain ⟨s3, hs3⟩ : ∃ t, t = s2.sendAll now FL := ⟨_, rfl⟩
    rw [List.take_length, ← hs3, List.take_of_length_le (show ys.length ≤ FL.length by omega)]
    obtain ⟨a1, a2, a3, a4, a5, a6, a7, a8, a9, a10⟩ := SdS.sendAll_eq now FL s2
    rw [← hs3] at a1 a2 a3 a4 a5 a6 a7 a8 a9 a10
    have e3 : sdC bb s = sdC bb s3 := by
      unfold sdC
      rw [a1, a2, a3, a4, a5, a6, a7, a8, a9, a10, hs2]
      rfl
    have hok3 : SdOk s3 := ⟨by rw [a1, a2, a3, a4]; exact hok2.conf, by rw [a5]; exact hok2.ep, by rw [a7]; exact hok2.inc, by rw [a8]; exact hok2.lim, by rw [a9]; exact hok2.tm, by rw [a10]; exact hok2.tr⟩
    have hs3o : s.open_ now ql = s3 := by rw [hs3, hFL, hs2, hqs]; rfl
    have hs3f : s3.f = s.f := by rw [a1, hs2]; rfl
    have hs3m : s3.m = s.m := by rw [a2, hs2]; rfl
    have hs3t : s3.tr = s.tr := by rw [a10, hs2]; rfl
    have hs3u : s3.tm = s.tm := by rw [a9, hs2]; rfl
    have hout : s.outs now ql = (DL ++ FL).map fun l => ((3 : Int), l) := by rw [hDL, hFL, hs2, hqs]; rfl
    have fin2 : ∀ (s4 : SdS) (w' : World) (A : Option Addr) (C : Nat) (ec : List (List Value)) (eo : List (Int × List Int)), (∀ F : Nat → Prop, (Bod Rout ec eo).at_ w' F (.bool true)) → s.told now ql = s.outs now ql ++ eo → s.tick now ql = s4 → SdOk s4 → boA bb s4.f s4.m s4.gs s4.last = boA bb s.f s.m s3.gs s3.last →
        Hp w w' [.blk sb (sdC bb s4) true, .rep (fun w => (LLx e1 FL.length ec_ ys FL).at_ w Ff (.bool true)) Ff false, .row w.heap.size (.slice A (DL.length + FL.length + eo.length) C) 77 2 (DL.length + FL.length + eo.length) ((xs ++ ys).map cellO ++ ec).flatten, .rep (fun w => (LLx d1 DL.length dc xs DL).at_ w Fd (.bool true)) Fd false, .rep (fun w => (boA bb s.f s.m s3.gs s3.last).at_ w Fj (.bool true)) Fj true] →
        ∃ (v' : Value) (Fv F' : Nat → Prop), Ending.returned (.slice A (DL.length + FL.length + eo.length) C) = .returned v' ∧ (∀ k, Fv k → w.heap.size ≤ k) ∧ (∀ k, F k → F' k) ∧ (∀ k, F' k → F k ∨ w.heap.size ≤ k) ∧ Hp w w' [.rep (fun w => (ROut.vp (s.told now ql)).at_ w Fv v') Fv false, .rep (fun w => (seA sb (s.tick now ql)).at_ w F' (.bool true)) F' true] := fun s4 w' A C ec eo hec hto htk hok4 ebo hw => by
      obtain ⟨Fr, hFr, h1⟩ := (hw.pm [2, 0, 1, 3, 4] rfl rfl rfl).share (p := rowV w.heap.size 77 2 (DL.length + FL.length + eo.length) ((xs ++ ys).map cellO ++ ec).flatten) (fun h => ⟨h, fun k hk => hk⟩)
      have h2 := (h1.pm [2, 3, 0, 1, 4] rfl rfl rfl).merge (Ψ := fun w => (Bod Rout ((xs ++ ys).map cellO ++ ec) (s.told now ql)).at_ w (fun k => Ff k ∨ Fd k) (.bool true)) (fun q1 q2 => by
        rw [hto, hout, List.map_append, List.map_append]
        exact Bod.append (Bod.append ((Bod _ _ _).mono (bodO q2) fun k hk => .inr hk) ((Bod _ _ _).mono (bodO q1) fun k hk => .inl hk)) (hec _)) (Vp.loc (p := Bod _ _ _))
      have h3 := (h2.pm [1, 0, 2, 3] rfl rfl rfl).merge (Ψ := fun w => (ROut.vp (s.told now ql)).at_ w (fun k => Fr k ∨ (Ff k ∨ Fd k)) (.slice A (DL.length + FL.length + eo.length) C)) (fun q1 q2 => (Bod.slr (R := Rout) ((Bod _ _ _).mono q2 fun k hk => .inr hk) q1.1 (by rw [hto, hout, List.length_append, List.length_map, List.length_append]) fun k _ hk => .inl (q1.2 k hk)).val) (Vp.loc (p := ROut.vp _))
      refine fin s4 Fj (fun k => Fr k ∨ (Ff k ∨ Fd k)) w' _ ?_ hok4 hFj (fun k hk => hk.elim (hFr k) fun h => h.elim (hFf k) (hFd k)) htk
      rw [ebo]
      exact h3.pm [1, 2, 0] rfl rfl rfl
    repeat (first | refine T_seq ?_ | refine T_region ?_ | refine T_block ?_ | refine pthen_normal ?_ | refine inb_hit ?_ | refine pthen_exit ?_ | refine T_exit ?_ | refine S_pure tabOk rfl ?_ | refine S_load tabOk 3 rfl rfl rfl ?_)
    refine S_callq (v := .int .i64 ((bNums s3.gs).length : Int)) rfl Try.call54 (fun w1 g1 => bo_count (g1.own _ (getE_mem (i := 4) rfl)).1) ?_
    repeat (first | refine S_pure tabOk rfl ?_)
    refine S_cut (ι := Bool) (fun b => b = true ↔ s.busy now ql) (fun b => [(0, bptr sb), (1, .int .i64 now), (10, .slice A2 (DL.length + FL.length) C2), (89, .bool b)])
      (fun b => [.blk sb (sdC bb s3) true, .rep (fun w => (LLx e1 FL.length ec_ ys FL).at_ w Ff (.bool true)) Ff false, .row w.heap.size (.slice A2 (DL.length + FL.length) C2) 77 2 (DL.length + FL.length) ((xs ++ ys).map cellO).flatten, .rep (fun w => (LLx d1 DL.length dc xs DL).at_ w Fd (.bool true)) Fd false, .rep (fun w => (boA bb s.f s.m s3.gs s3.last).at_ w Fj (.bool true)) Fj true]) ?_ ?_
    · have hbusy : s.busy now ql ↔ (0 < ((bNums s3.gs).length : Int) ∨ (ql.length : Int) = 0) := by show (0 < ((bNums (s.open_ now ql).gs).length : Int) ∨ _) ↔ _; rw [hs3o]
      refine S_split rfl rfl (fun h4 => ?_) (fun h4 => ?_)
      · repeat (first | refine S_nil ?_ | refine S_pure tabOk rfl ?_ | refine S_pass rfl rfl rfl ?_)
        exact ⟨true, ⟨fun _ => hbusy.2 (.inl h4), fun _ => rfl⟩, (by repeat (first | exact Sub.nil | refine Sub.cons rfl ?_)), fun w hw => by rw [← e3]; exact hw.pm [3, 0, 1, 2, 4] rfl rfl rfl⟩
      · repeat (first | refine S_nil ?_ | refine S_pure tabOk rfl ?_)
        exact ⟨_, ⟨fun h => hbusy.2 (.inr (by rw [hql]; exact of_decide_eq_true h)), fun h => decide_eq_true (by have := (hbusy.1 h).resolve_left h4; rw [hql] at this; exact this)⟩, (by repeat (first | exact Sub.nil | refine Sub.cons rfl ?_)), fun w hw => by rw [← e3]; exact hw.pm [3, 0, 1, 2, 4] rfl rfl rfl⟩
    intro b hb
    have hto0 : s.told now ql = s.outs now ql ++ (if s.busy now ql then [] else if s.tm ≤ now then [(3, [])] else []) := by unfold SdS.told; rw [if_pos hop]
    have htk0 : s.tick now ql = if s.busy now ql then s3.calm_ else s3.try_ now := by
      unfold SdS.tick
      rw [if_pos hop]
      by_cases h : s.busy now ql
      · rw [if_pos h, if_pos h, hs3o]
      · rw [if_neg h, if_neg h, hs3o]
    skip
    refine T_cond rfl (fun h5 => ?_) (fun h5 => ?_)
    · rw [if_pos (hb.1 h5)] at hto0 htk0
      repeat (first | refine S_pure tabOk rfl ?_ | refine T_region_any ?_)
      refine S_call rfl Try.call62 (fun w1 g1 => (calm_ok (s := s3) g1).mono fun e w' ⟨he, h9⟩ => ⟨_, _, he, h9, ?_⟩)
      repeat (first | refine T_seq ?_ | refine T_region ?_ | refine S_nil ?_ | refine pthen_normal ?_ | refine inb_normal ?_ | refine T_ret ?_ | refine S_pure tabOk rfl ?_)
      exact ret1 rfl rfl (fun w' hw => fin2 s3.calm_ w' A2 C2 [] [] (fun F => Bod.nil_) hto0 htk0 ⟨hok3.conf, hok3.ep, hok3.inc, hok3.lim, (show (0 : Int) ≤ 0 ∧ (0 : Int) ≤ 2305843009213693952 by decide), (show (0 : Int) ≤ 0 ∧ (0 : Int) ≤ 1099511627776 by decide)⟩ (by show boA bb s3.f s3.m s3.gs s3.last = _; rw [hs3f, hs3m]) (by rw [List.append_nil]; exact hw))
    · have hnb : ¬ s.busy now ql := fun h => by have := hb.2 h; rw [h5] at this; cases this
      rw [if_neg hnb] at hto0 htk0
      repeat (first | refine T_seq ?_ | refine T_region ?_ | refine S_pure tabOk rfl ?_)
      refine S_call rfl Try.call60 (fun w1 g1 => (tried_ok (s := s3) g1 hok3.conf.1 hnow ⟨hok3.tr.1, by rw [hs3t]; exact hstr⟩).mono fun e w' ⟨he, h9⟩ => ⟨_, _, he, h9, ?_⟩)
      repeat (first | refine S_nil ?_ | refine S_pure tabOk rfl ?_)
      refine T_cond_dec rfl (fun h6 => ?_) (fun h6 => ?_)
      · rw [if_pos (show s.tm ≤ now by rw [← hs3u]; exact h6)] at hto0
        repeat (first | refine S_pure tabOk rfl ?_ | refine T_region_any ?_ | refine S_q (Q_build tabOk rfl rfl rfl rfl rfl rfl rfl) ?_)
        refine S_bslice tabOk rfl rfl rfl rfl rfl rfl rfl rfl rfl rfl rfl rfl (fun nb hnb2 => ?_)
        refine S_append (ty := 0) (k := 1) (news := [.int .u8 3, .slice none 0 0]) tabOk 3 (sz := 2) rfl rfl rfl rfl rfl rfl rfl rfl rfl (by decide) (fun w' hw => Sl.of_blk (hw.own _ (getE_mem (i := 0) rfl)) rfl (fun j u hu => by rw [Nat.zero_add]; exact hu)) (fun u hu => by
          simp only [List.mem_cons, List.not_mem_nil, or_false] at hu
          rcases hu with rfl | rfl <;> rfl) (by simp only [maxLen]; omega) (by show (_ + _) * 32 ≤ _; omega) rfl (fun A' C' hA' hC' => ⟨_, rfl, ?_⟩)
        repeat (first | refine T_seq ?_ | refine T_region ?_ | refine S_nil ?_ | refine pthen_normal ?_ | refine inb_normal ?_ | refine T_ret ?_ | refine S_pure tabOk rfl ?_)
        exact ret1 rfl rfl (fun w' hw => fin2 (s3.try_ now) w' A' C' [[.int .u8 3, .slice none 0 0]] [(3, [])] (fun F => one_out (by decide)) hto0 htk0 (hok3.try_ hnow (by rw [hs3t]; exact hstr)) (by rw [SdS.try_same, hs3f, hs3m]) (by
          rw [List.flatten_append]
          exact hw.less (by repeat (first | exact Less.nil | refine Less.keep ?_ | refine Less.dropB (by first | assumption | omega) ?_))))
      · rw [if_neg (show ¬ s.tm ≤ now by rw [← hs3u]; exact h6)] at hto0
        repeat (first | refine T_seq ?_ | refine T_region ?_ | refine S_nil ?_ | refine pthen_normal ?_ | refine inb_normal ?_ | refine T_skip ?_ | refine T_ret ?_ | refine S_pure tabOk rfl ?_)
        exact ret1 rfl rfl (fun w' hw => fin2 (s3.try_ now) w' A2 C2 [] [] (fun F => Bod.nil_) hto0 htk0 (hok3.try_ hnow (by rw [hs3t]; exact hstr)) (by rw [SdS.try_same, hs3f, hs3m]) (by rw [List.append_nil]; exact hw))
end
end Go.Proofs.Ytidhpofcofknhaa
