/-
  Objects whose memory is all newer than a world: methods told with whatever else there is; packets. Conditions: each theorem's own. Packets' own methods. Conditions: each theorem's own. What a net's small methods answer. Conditions: each theorem's own. Are bytes no frame, or ones that were sent: both packages' answers. Conditions: each theorem's own. The document's honest. Conditions: each theorem's own. Send of a net. Conditions: each theorem's own. Double, Replay, Forge of a net. Conditions: each theorem's own. append within a block, clear, slices.Delete of one packet. Conditions: each theorem's own. Deliver and Drop of a net. Conditions: each theorem's own. List of a net. Conditions: each theorem's own. Turn of a net. Conditions: each theorem's own.
  Conditions: each theorem's own.
-/
import Derived.Test.YtnefhhoijonnaaaFx
namespace Go.Proofs.Ytnefhhoijonnaaa
open Go Go.RowKit
set_option linter.unusedVariables false


theorem Less.same {w0 : World} : ∀ o : OL, Less w0 o o
  | [] => .nil
  | _ :: o => .keep (Less.same o)
section
variable {P : Program} {f : FuncId} {fn : Func} {c : Code} {w0 w : World} {R : Ending → World → Prop}
theorem enterW_of {args : Array Value} {l : FL} {o : OL} (hf : P.funcs[f]? = some fn) (hb : fn.body = some c) (ho : Hp w0 w o)
    (hl : Fr { tmps := args ++ Array.replicate (fn.ntmps - args.size) undef, defers := [] } fn.ntmps l)
    (h : T P fn.ntmps w0 c l o (bodyP P fn fn.ntmps w0 R)) : Calls P f args w R := by
  refine calls_of_wp hf hb (wp_mono (h.out _ w hl ho) ?_)
  unfold lift bodyP
  rintro e a w ⟨l, o, h1, h2, h3⟩
  cases e with
  | normal => obtain ⟨v, hr, hR⟩ := h3 a w h1 h2; exact ⟨h1.defers, v, hr, hR⟩
  | ret => obtain ⟨v, hr, hR⟩ := h3 a w h1 h2; exact ⟨h1.defers, v, hr, hR⟩
  | _ => exact h3.elim
theorem enterW0 (hf : P.funcs[f]? = some fn) (hb : fn.body = some c) {o : OL} (ho : Hp w0 w o) (h : T P fn.ntmps w0 c [] o (bodyP P fn fn.ntmps w0 R)) : Calls P f #[] w R :=
  enterW_of hf hb ho (fr0 (args := []) (Nat.zero_le _)) h
theorem enterW1 {v0 : Value} (hf : P.funcs[f]? = some fn) (hb : fn.body = some c) (hn : Nat.ble 1 fn.ntmps = true) {o : OL} (ho : Hp w0 w o) (h : T P fn.ntmps w0 c [(0, v0)] o (bodyP P fn fn.ntmps w0 R)) : Calls P f #[v0] w R :=
  enterW_of hf hb ho (fr0 (args := [v0]) (Nat.le_of_ble_eq_true hn)) h
theorem enterW2 {v0 v1 : Value} (hf : P.funcs[f]? = some fn) (hb : fn.body = some c) (hn : Nat.ble 2 fn.ntmps = true) {o : OL} (ho : Hp w0 w o) (h : T P fn.ntmps w0 c [(0, v0), (1, v1)] o (bodyP P fn fn.ntmps w0 R)) : Calls P f #[v0, v1] w R :=
  enterW_of hf hb ho (fr0 (args := [v0, v1]) (Nat.le_of_ble_eq_true hn)) h
theorem enterW3 {v0 v1 v2 : Value} (hf : P.funcs[f]? = some fn) (hb : fn.body = some c) (hn : Nat.ble 3 fn.ntmps = true) {o : OL} (ho : Hp w0 w o) (h : T P fn.ntmps w0 c [(0, v0), (1, v1), (2, v2)] o (bodyP P fn fn.ntmps w0 R)) : Calls P f #[v0, v1, v2] w R :=
  enterW_of hf hb ho (fr0 (args := [v0, v1, v2]) (Nat.le_of_ble_eq_true hn)) h
theorem enterW4 {v0 v1 v2 v3 : Value} (hf : P.funcs[f]? = some fn) (hb : fn.body = some c) (hn : Nat.ble 4 fn.ntmps = true) {o : OL} (ho : Hp w0 w o) (h : T P fn.ntmps w0 c [(0, v0), (1, v1), (2, v2), (3, v3)] o (bodyP P fn fn.ntmps w0 R)) : Calls P f #[v0, v1, v2, v3] w R :=
  enterW_of hf hb ho (fr0 (args := [v0, v1, v2, v3]) (Nat.le_of_ble_eq_true hn)) h
end
/-- A packet with where its bytes lie. -/
structure Pk where
  to : Int
  bs : List Int
  a : Option Addr
  c : Nat
def Pk.v (p : Pk) : Int × List Int := (p.to, p.bs)
abbrev cellP (p : Pk) : List Value := [.int .i64 p.to, .slice p.a p.bs.length p.c]
def cellsP (l : List Pk) : List Value := (l.map cellP).flatten
theorem cellsP_snoc (l : List Pk) (p : Pk) : cellsP (l ++ [p]) = cellsP l ++ cellP p := by
  unfold cellsP
  rw [List.map_append, List.flatten_append]
  rfl
theorem cellsP_len (l : List Pk) : (cellsP l).length = l.length * 2 := by
  induction l with
  | nil => rfl
  | cons p l ih =>
    show (cellP p ++ cellsP l).length = _
    rw [List.length_append, ih, List.length_cons]
    show 2 + l.length * 2 = (l.length + 1) * 2
    omega
theorem cellsP_get {l : List Pk} {i : Nat} (h : i < l.length) : (cellsP l)[i * 2]? = some (.int .i64 l[i].to) ∧ (cellsP l)[i * 2 + 1]? = some (.slice l[i].a l[i].bs.length l[i].c) := by
  induction l generalizing i with
  | nil => cases h
  | cons p l ih =>
    have e : cellsP (p :: l) = .int .i64 p.to :: .slice p.a p.bs.length p.c :: cellsP l := rfl
    rw [e]
    cases i with
    | zero => exact ⟨rfl, rfl⟩
    | succ i =>
      have := ih (i := i) (by simpa using h)
      rw [show (i + 1) * 2 = i * 2 + 1 + 1 by omega, List.getElem?_cons_succ, List.getElem?_cons_succ, List.getElem?_cons_succ, List.getElem?_cons_succ]
      exact this
def okP (w : World) (G : Nat → Prop) (K : List Pk) : Prop := ∀ p ∈ K, Fits .i64 p.to ∧ p.bs.length ≤ 70000 ∧ SlR (Rint .u8) w G p.a p.bs.length p.c p.bs
abbrev knE (w0 : World) (K : List Pk) (G : Nat → Prop) : HE := .rep (fun w => okP w G K ∧ ∀ k, G k → w0.heap.size ≤ k) G true
theorem okP.loc {w0 : World} {K : List Pk} {G : Nat → Prop} : Loc (fun w => okP w G K ∧ ∀ k, G k → w0.heap.size ≤ k) G := fun w w' h ⟨h1, h2⟩ => ⟨fun p hp => by
  obtain ⟨g1, g2, g3⟩ := h1 p hp
  exact ⟨g1, g2, g3.keep fun k hk _ => ⟨h k hk, hk⟩⟩, h2⟩
theorem okP.ints {K : List Pk} {G : Nat → Prop} {w : World} (h : okP w G K) {p : Pk} (hp : p ∈ K) : Ints .u8 w p.a p.bs.length p.c p.bs := (h p hp).2.2.ints
theorem Hp.okP {w0 w : World} {o : OL} {K : List Pk} {G : Nat → Prop} (h : Hp w0 w o) (i : Nat) (hi : getE o i = some (knE w0 K G)) : okP w G K := (h.own _ (getE_mem hi)).1.1
theorem Hp.newK {w0 w : World} {o : OL} {K : List Pk} {G : Nat → Prop} (h : Hp w0 w o) (i : Nat) (hi : getE o i = some (knE w0 K G)) : ∀ k, G k → w0.heap.size ≤ k := (h.own _ (getE_mem hi)).1.2
theorem Hp.nilK {w0 w : World} {o : OL} (h : Hp w0 w o) : Hp w0 w (knE w0 [] (fun _ => False) :: o) :=
  h.more ⟨⟨fun p hp => (by cases hp), fun k hk => hk.elim⟩, okP.loc, fun k hk => hk.elim⟩ fun e he hr k hk => hk.elim
/-- One packet more. -/
theorem Hp.snocK {w0 w : World} {o : OL} {K : List Pk} {G : Nat → Prop} {p : Pk} (h : Hp w0 w (knE w0 K G :: .row w0.heap.size (.slice p.a p.bs.length p.c) 5 1 p.bs.length (p.bs.map (.int .u8)) :: o)) (h1 : Fits .i64 p.to) (h2 : p.bs.length ≤ 70000) (h3 : ∀ z ∈ p.bs, Fits .u8 z) : ∃ G', Hp w0 w (knE w0 (K ++ [p]) G' :: o) := by
  have hB := h.own _ List.mem_cons_self
  have hr : w.ownsRow w0.heap.size 5 1 (.slice p.a p.bs.length p.c) p.bs.length (p.bs.map (.int .u8)) := h.own _ (List.mem_cons_of_mem _ List.mem_cons_self)
  have hr' := hr
  rw [← map_one] at hr'
  have hs : SlR (Rint .u8) w (fun k => G k ∨ (Value.slice p.a p.bs.length p.c).ownBlock = some k) p.a p.bs.length p.c p.bs := .of_row (flat_int .u8) hr' rfl h3 fun k hk hb => .inr hb
  refine ⟨fun k => G k ∨ (Value.slice p.a p.bs.length p.c).ownBlock = some k, Hp.regroup [knE w0 K G, .row w0.heap.size (.slice p.a p.bs.length p.c) 5 1 p.bs.length (p.bs.map (.int .u8))] [_] h (fun e he => ?_) (fun e he => ?_) (List.pairwise_singleton _ _) (fun e he k hk => ?_) (fun e he k hk => ?_)⟩
  · simp only [List.mem_cons, List.not_mem_nil, or_false] at he
    rcases he with rfl | rfl <;> rfl
  · rw [List.mem_singleton] at he
    subst he
    refine ⟨rfl, ⟨fun q hq => ?_, fun k hk => hk.elim (hB.1.2 k) fun h => (World.ownsRow.lt hr k h).1⟩, okP.loc, fun k hk => ?_⟩
    · rcases List.mem_append.1 hq with hq | hq
      · obtain ⟨g1, g2, g3⟩ := hB.1.1 q hq
        exact ⟨g1, g2, g3.mono fun k hk => .inl hk⟩
      · rw [List.mem_singleton] at hq
        subst hq
        exact ⟨h1, h2, hs⟩
    · rcases hk with hk | hk
      · exact hB.2.2 k hk
      · exact (World.ownsRow.lt hr k hk).2
  · rw [List.mem_singleton] at he
    subst he
    rcases hk with hk | hk
    · exact ⟨_, List.mem_cons_self, hk⟩
    · exact ⟨_, List.mem_cons_of_mem _ List.mem_cons_self, hk⟩
  · simp only [List.mem_cons, List.not_mem_nil, or_false] at he
    rcases he with rfl | rfl
    · exact .inr ⟨_, List.mem_cons_self, .inl hk⟩
    · exact .inr ⟨_, List.mem_cons_self, .inr hk⟩
abbrev nbE (T : TypeId) (b : Nat) (la : Option Addr) (n lc : Nat) (sa : Option Addr) (m sc : Nat) : HE := .blk b (.cells ⟨[.slice la n lc, .slice sa m sc]⟩ T (0, 0)) true
abbrev rowP (w0 : World) (E : TypeId) (a : Option Addr) (c : Nat) (L : List Pk) : HE := .row w0.heap.size (.slice a L.length c) E 2 L.length (cellsP L)
/-- A net: where its lists lie, what they hold. -/
structure Nt where
  la : Option Addr
  lc : Nat
  sa : Option Addr
  sc : Nat
  L : List Pk
  S : List Pk
abbrev V2 := List (Int × List Int) × List (Int × List Int)
def Nt.v (N : Nt) : V2 := (N.L.map Pk.v, N.S.map Pk.v)
structure Nt.ok (N : Nt) (K : List Pk) (k : Nat) : Prop where
  l : ∀ p ∈ N.L, p ∈ K
  s : ∀ p ∈ N.S, p ∈ K
  ln : N.L.length ≤ k
  sn : N.S.length ≤ k
abbrev NetH (w0 w : World) (T E : TypeId) (b : Nat) (K : List Pk) (G : Nat → Prop) (N : Nt) (rest : OL) : Prop :=
  Hp w0 w (knE w0 K G :: nbE T b N.la N.L.length N.lc N.sa N.S.length N.sc :: rowP w0 E N.la N.lc N.L :: rowP w0 E N.sa N.sc N.S :: rest)
/-- What a method leaves. -/
structure NetQ (w0 w' : World) (T E : TypeId) (b : Nat) (K : List Pk) (N : Nt) (rest : OL) (k : Nat) (V : V2) (K' : List Pk) (G' : Nat → Prop) (N' : Nt) : Prop where
  h : NetH w0 w' T E b K' G' N' rest
  ok : N'.ok K' k
  k : ∀ p ∈ K, p ∈ K'
  v : N'.v = V
def errV (v : Int × List Int) : Int := if v.1 < -1 ∨ 15 < v.1 then 1 else if 65507 < v.2.length then 6 else 0
open Classical in
noncomputable def honV (S : List (Int × List Int)) (bs : List Int) : Bool := decide ((decT bs).1 ≠ 0 ∨ ∃ q ∈ S, q.2 = bs)
def atV (i : Int) (n : Nat) : Bool := decide (0 ≤ i ∧ i < n)

set_option maxHeartbeats 2000000 in
theorem own_ok {p : Pk} (w : World) (hpi : Ints .u8 w p.a p.bs.length p.c p.bs) (hb : p.bs.length ≤ 70000) : Calls Try.prog 78 #[.agg ⟨cellP p⟩] w fun e w' => ∃ a c, e = .returned (.agg ⟨cellP ⟨p.to, p.bs, a, c⟩⟩) ∧ Below w.heap.size w w' ∧ w'.ownsRow w.heap.size 5 1 (.slice a (p.bs).length c) (p.bs).length ((p.bs).map (.int .u8)) := by
  refine enter1 Try.func78 rfl rfl (Hp.refl w) ?_
  repeat (first | refine T_seq ?_ | refine T_region ?_)
  refine S_new tabOk rfl (fun b1 hb1 => ?_)
  skip
  refine S_new tabOk rfl (fun b2 hb2 => ?_)
  repeat (first | refine T_seq ?_ | refine S_nil ?_)
  let lst : Bool → Bool → Bool → Value × (Unit) → Value × (Unit) → OL := fun l4 l5 l6 x4 x5 =>
    .blk b2 (.cells ⟨cond l6 [.int .i64 p.to, x4.1] [.int .i64 0, .slice none 0 0]⟩ 71 (0, 0)) true :: .blk b1 (.cells ⟨cellP p⟩ 71 (0, 0)) true :: (cond l4 [.row w.heap.size x4.1 5 1 (p.bs).length ((p.bs).map (.int .u8))] [] ++ cond l5 [factE (x5.1 = .agg ⟨[.int .i64 p.to, x4.1]⟩)] [])
  refine T_drawF (γ := Unit) (by kernel_rfl) (by kernel_rfl) () (fun L f => lst (L 4) (L 5) (L 6) (f 4) (f 5)) rfl [some (.pointer (some ⟨b1, 0, none⟩)), some (.int .i64 p.to), some (.pointer (some ⟨b1, 1, none⟩)), some (.slice p.a p.bs.length p.c), none, none, none] ?_ ?_
  · refine ⟨?_, ?_, ?_, ?_, ?_, ?_, ?_, trivial⟩
    · exact fun L f hc hl hp => OpA.told () rfl (D_pure tabOk rfl D_last) rfl
    · intro L f hc hl hp
      have h5 := closed_no hc (j := 5) rfl ⟨1, .data⟩ (by simp) rfl hl
      have h6 := closed_no hc (j := 6) rfl ⟨1, .phase⟩ (by simp) rfl hl
      show OpA _ _ _ _ (lst (L 4) (L 5) (L 6) (f 4) (f 5)) (fun y => lst (L 4) (L 5) (L 6) (f 4) (f 5)) _ _ _
      rw [h5, h6]
      exact OpA.told () rfl (D_load tabOk 1 rfl rfl rfl D_last) rfl
    · exact fun L f hc hl hp => OpA.told () rfl (D_pure tabOk rfl D_last) rfl
    · intro L f hc hl hp
      have h4 := closed_no hc (j := 4) rfl ⟨3, .data⟩ (by simp) rfl hl
      have h5 := closed_no hc (j := 5) rfl ⟨4, .data⟩ (by simp) rfl h4
      have h6 := closed_no hc (j := 6) rfl ⟨3, .phase⟩ (by simp) rfl hl
      show OpA _ _ _ _ (lst (L 4) (L 5) (L 6) (f 4) (f 5)) (fun y => lst (L 4) (L 5) (L 6) (f 4) (f 5)) _ _ _
      rw [h4, h5, h6]
      exact OpA.told () rfl (D_load tabOk 1 rfl rfl rfl D_last) rfl
    · intro L f hc hl hp
      have h5 := closed_no hc (j := 5) rfl ⟨4, .data⟩ (by simp) rfl hl
      have h6 := closed_no hc (j := 6) rfl ⟨4, .chain⟩ (by simp) rfl hl
      show OpA _ _ _ _ (lst (L 4) (L 5) (L 6) (f 4) (f 5)) (fun y => lst true (L 5) (L 6) y (f 5)) _ _ _
      rw [hl, h5, h6]
      refine OpA.callrow rfl Try.call96 (fun w1 vs hw1 h => by
        obtain ⟨u1, _, rfl, rfl, u2, _, rfl, rfl, rfl⟩ := h
        exact clone_ok p.a p.bs.length p.c p.bs w1 (ints_ext hpi (hw1.below (by repeat (first | exact new_nil | refine new_cons (by first | assumption | omega) ?_)))) (by omega)) (fun w1 v hw1 => ⟨(), hw1.perm (by repeat (first | exact List.Perm.refl _ | refine (List.Perm.swap _ _ _).trans (List.Perm.cons _ ?_)))⟩)
    · intro L f hc hl hp
      have h4 : L 4 = true := hp ⟨4, .data⟩ (by simp) rfl
      have h6 := closed_no hc (j := 6) rfl ⟨5, .data⟩ (by simp) rfl hl
      show OpA _ _ _ _ (lst (L 4) (L 5) (L 6) (f 4) (f 5)) (fun y => lst (L 4) true (L 6) (f 4) y) _ _ _
      rw [hl, h4, h6]
      refine OpA.pre (X := ∃ A C, (f 4).1 = .slice A (p.bs).length C) (fun w hw => ?_) (fun d h => by cases h; decide) ?_
      · obtain ⟨A, C, e2, _⟩ := hw.rowForm 2 rfl
        exact ⟨A, C, e2⟩
      · rintro ⟨A', C', e2⟩
        refine OpA.swap (dl' := [(4, .ex (.int .i64 p.to)), (7, .ex (f 4).1)]) (List.forall_mem_cons.2 ⟨rfl, List.forall_mem_cons.2 ⟨rfl, fun _ h => nomatch h⟩⟩) ?_
        generalize f 4 = x4 at *
        obtain ⟨x4, g4⟩ := x4
        dsimp only at e2
        subst e2
        exact OpA.known () rfl (D_q (Q_build tabOk rfl rfl rfl rfl rfl rfl rfl) D_last) (fun w hw => (hw.addF rfl).perm (by repeat (first | exact List.Perm.refl _ | refine (List.Perm.swap _ _ _).trans (List.Perm.cons _ ?_))))
    · intro L f hc hl hp
      have h4 : L 4 = true := hp ⟨4, .chain⟩ (by simp) rfl
      have h5 : L 5 = true := hp ⟨5, .data⟩ (by simp) rfl
      show OpA _ _ _ _ (lst (L 4) (L 5) (L 6) (f 4) (f 5)) (fun y => lst (L 4) (L 5) true (f 4) (f 5)) _ _ _
      rw [hl, h4, h5]
      refine OpA.pre (X := (∃ A C, (f 4).1 = .slice A (p.bs).length C) ∧ (f 5).1 = .agg ⟨[.int .i64 p.to, (f 4).1]⟩) (fun w hw => ?_) (fun d h => by cases h) ?_
      · obtain ⟨A, C, e2, _⟩ := hw.rowForm 2 rfl
        exact ⟨⟨A, C, e2⟩, hw.fact 3 rfl⟩
      · rintro ⟨⟨A', C', e2⟩, e3⟩
        refine OpA.swap (dl' := [(2, .ex (.pointer (some ⟨b2, 0, none⟩))), (8, .ex (f 5).1)]) (List.forall_mem_cons.2 ⟨rfl, List.forall_mem_cons.2 ⟨rfl, fun _ h => nomatch h⟩⟩) ?_
        generalize f 4 = x4 at *
        generalize f 5 = x5 at *
        obtain ⟨x4, g4⟩ := x4
        obtain ⟨x5, g5⟩ := x5
        dsimp only at e2 e3
        subst e2
        subst e3
        exact OpS.toF () (fun u h => by cases h) (OpS.store tabOk 0 rfl rfl (fun u h => by simp only [List.mem_cons, List.not_mem_nil, or_false] at h; rcases h with rfl | rfl <;> rfl) rfl rfl rfl)
  · intro L f w5 hL hw
    change Hp _ _ (lst (L 4) (L 5) (L 6) (f 4) (f 5)) at hw
    rw [hL 4 (by decide), hL 5 (by decide), hL 6 (by decide)] at hw
    obtain ⟨A', C', e2, _⟩ := hw.rowForm 2 rfl
    generalize f 4 = x4 at hw e2 ⊢
    obtain ⟨x4, g4⟩ := x4
    have e3 : x4 = .slice A' (p.bs).length C' := e2
    subst e3
    refine ⟨[(2, .pointer (some ⟨b2, 0, none⟩))], [.blk b2 (.cells ⟨[.int .i64 p.to, .slice A' (p.bs).length C']⟩ 71 (0, 0)) true, .blk b1 (.cells ⟨cellP p⟩ 71 (0, 0)) true, .row w.heap.size (.slice A' (p.bs).length C') 5 1 (p.bs).length ((p.bs).map (.int .u8)), factE ((f 5).1 = _)], (by repeat (first | exact SubD.nil | refine SubD.cons rfl ?_)), hw, ?_⟩
    repeat (first | refine T_ret ?_)
    exact ret1 rfl (ResIs.cellO tabOk 0 rfl rfl rfl rfl) (fun w' hw => ⟨A', C', rfl, hw.below (by repeat (first | exact new_nil | refine new_ro ?_ | refine new_cons (by first | assumption | omega) ?_ | refine newrow hw 2 rfl (Nat.le_refl _) ?_)), hw.own _ (getE_mem (i := 2) rfl)⟩)

abbrev ntO (la : Option Addr) (n lc : Nat) (sa : Option Addr) (m sc : Nat) : Obj := .cells ⟨[.slice la n lc, .slice sa m sc]⟩ 131 (0, 0)
theorem nlen_ok {b n lc m sc : Nat} {la sa : Option Addr} (w : World) (hb : w.heap[b]? = some (ntO la n lc sa m sc)) : Calls Try.prog 37 #[.pointer (some ⟨b, 0, none⟩)] w fun e w' => e = .returned (.int .i64 (n : Int)) ∧ Below w.heap.size w w' := by
  refine enter1 Try.func37 rfl rfl (Hp.start false hb) ?_
  repeat (first | refine T_seq ?_ | refine T_region ?_ | refine S_nil ?_ | refine S_pure tabOk rfl ?_)
  refine S_q (Q_eqptr tabOk rfl rfl rfl rfl rfl) ?_
  repeat (first | refine T_seq ?_ | refine T_region ?_ | refine S_nil ?_ | refine pthen_normal ?_ | refine T_skip ?_ | refine T_ret ?_ | refine T_cond_f rfl ?_ | refine S_pure tabOk rfl ?_ | refine S_load tabOk 0 rfl rfl rfl ?_)
  exact ret1 rfl rfl (fun w' hw => ⟨rfl, Hp.below_ro hb hw⟩)
theorem nlen0 (w : World) : Calls Try.prog 37 #[.pointer none] w fun e w' => e = .returned (.int .i64 0) ∧ Below w.heap.size w w' := by
  refine enter1 Try.func37 rfl rfl (Hp.refl w) ?_
  repeat (first | refine T_seq ?_ | refine T_region ?_ | refine S_nil ?_ | refine S_pure tabOk rfl ?_)
  refine S_q (Q_eqptr tabOk rfl rfl rfl rfl rfl) ?_
  repeat (first | refine T_seq ?_ | refine T_region ?_ | refine S_nil ?_ | refine pthen_ret ?_ | refine T_ret ?_ | refine T_cond_t rfl ?_ | refine S_pure tabOk rfl ?_)
  exact ret1 rfl rfl (fun w' hw => ⟨rfl, hw.below (by repeat (first | exact new_nil))⟩)
theorem nsent_ok {b n lc m sc : Nat} {la sa : Option Addr} (w : World) (hb : w.heap[b]? = some (ntO la n lc sa m sc)) : Calls Try.prog 35 #[.pointer (some ⟨b, 0, none⟩)] w fun e w' => e = .returned (.int .i64 (m : Int)) ∧ Below w.heap.size w w' := by
  refine enter1 Try.func35 rfl rfl (Hp.start false hb) ?_
  repeat (first | refine T_seq ?_ | refine T_region ?_ | refine S_nil ?_ | refine S_pure tabOk rfl ?_)
  refine S_q (Q_eqptr tabOk rfl rfl rfl rfl rfl) ?_
  repeat (first | refine T_seq ?_ | refine T_region ?_ | refine S_nil ?_ | refine pthen_normal ?_ | refine T_skip ?_ | refine T_ret ?_ | refine T_cond_f rfl ?_ | refine S_pure tabOk rfl ?_ | refine S_load tabOk 0 rfl rfl rfl ?_)
  exact ret1 rfl rfl (fun w' hw => ⟨rfl, Hp.below_ro hb hw⟩)
theorem nsent0 (w : World) : Calls Try.prog 35 #[.pointer none] w fun e w' => e = .returned (.int .i64 0) ∧ Below w.heap.size w w' := by
  refine enter1 Try.func35 rfl rfl (Hp.refl w) ?_
  repeat (first | refine T_seq ?_ | refine T_region ?_ | refine S_nil ?_ | refine S_pure tabOk rfl ?_)
  refine S_q (Q_eqptr tabOk rfl rfl rfl rfl rfl) ?_
  repeat (first | refine T_seq ?_ | refine T_region ?_ | refine S_nil ?_ | refine pthen_ret ?_ | refine T_ret ?_ | refine T_cond_t rfl ?_ | refine S_pure tabOk rfl ?_)
  exact ret1 rfl rfl (fun w' hw => ⟨rfl, hw.below (by repeat (first | exact new_nil))⟩)
theorem nat_ok {b n lc m sc : Nat} {la sa : Option Addr} (i : Int) (w : World) (hb : w.heap[b]? = some (ntO la n lc sa m sc)) : Calls Try.prog 80 #[.pointer (some ⟨b, 0, none⟩), .int .i64 i] w fun e w' => e = .returned (.bool (atV i n)) ∧ Below w.heap.size w w' := by
  refine enter2 Try.func80 rfl rfl (Hp.start false hb) ?_
  repeat (first | refine T_seq ?_ | refine T_region ?_ | refine S_nil ?_ | refine S_pure tabOk rfl ?_)
  refine S_q (Q_neptr tabOk rfl rfl rfl rfl rfl) ?_
  repeat (first | refine S_pure tabOk rfl ?_)
  by_cases h1 : 0 ≤ i
  · refine S_re 11 (v' := .bool true) rfl (congrArg Value.bool (decide_eq_true h1)) ?_
    repeat (first | refine S_nil ?_ | refine T_ret ?_ | refine S_pure tabOk rfl ?_ | refine S_load tabOk 0 rfl rfl rfl ?_)
    exact ret1 rfl rfl (fun w' hw => ⟨retb (by unfold atV; simp [h1]), Hp.below_ro hb hw⟩)
  · refine S_re 11 (v' := .bool false) rfl (congrArg Value.bool (decide_eq_false h1)) ?_
    repeat (first | refine S_nil ?_ | refine T_ret ?_ | refine S_pure tabOk rfl ?_ | refine S_pass rfl rfl rfl ?_)
    exact ret1 rfl rfl (fun w' hw => ⟨retb (by unfold atV; simp [h1]), Hp.below_ro hb hw⟩)
theorem nat0 (i : Int) (w : World) : Calls Try.prog 80 #[.pointer none, .int .i64 i] w fun e w' => e = .returned (.bool false) ∧ Below w.heap.size w w' := by
  refine enter2 Try.func80 rfl rfl (Hp.refl w) ?_
  repeat (first | refine T_seq ?_ | refine T_region ?_ | refine S_nil ?_ | refine S_pure tabOk rfl ?_)
  refine S_q (Q_neptr tabOk rfl rfl rfl rfl rfl) ?_
  repeat (first | refine S_nil ?_ | refine T_ret ?_ | refine S_pure tabOk rfl ?_ | refine S_pass rfl rfl rfl ?_)
  exact ret1 rfl rfl (fun w' hw => ⟨rfl, hw.below (by repeat (first | exact new_nil))⟩)
theorem nerr_ok (p : Pk) (w : World) : Calls Try.prog 79 #[.agg ⟨cellP p⟩] w fun e w' => e = .returned (.int .i64 (errV p.v)) ∧ Below w.heap.size w w' := by
  refine enter1 Try.func79 rfl rfl (Hp.refl w) ?_
  repeat (first | refine T_seq ?_ | refine T_region ?_)
  refine S_new tabOk rfl (fun b hb => ?_)
  repeat (first | refine T_seq ?_ | refine T_region ?_ | refine T_block ?_ | refine S_nil ?_ | refine S_pure tabOk rfl ?_ | refine S_load tabOk 0 rfl rfl rfl ?_)
  by_cases h1 : p.to = -1
  · refine S_re 7 (v' := .bool false) rfl (congrArg Value.bool (decide_eq_false (fun h => h h1))) ?_
    repeat (first | refine S_nil ?_ | refine S_pure tabOk rfl ?_ | refine S_pass rfl rfl rfl ?_)
    refine T_cond_f rfl ?_
    repeat (first | refine T_seq ?_ | refine T_region ?_ | refine S_nil ?_ | refine S_pure tabOk rfl ?_ | refine S_load tabOk 0 rfl rfl rfl ?_)
    refine T_cond_dec rfl (fun h2 => ?_) (fun h2 => ?_)
    · repeat (first | refine T_seq ?_ | refine T_region ?_ | refine S_nil ?_ | refine inb_ret ?_ | refine pthen_ret ?_ | refine T_ret ?_ | refine S_pure tabOk rfl ?_)
      exact ret1 rfl rfl (fun w' hw => ⟨by rw [show errV p.v = 6 by unfold errV Pk.v; rw [if_neg (by dsimp only; omega), if_pos (by dsimp only; omega)]], hw.below (by repeat (first | exact new_nil | refine new_cons (by first | assumption | omega) ?_))⟩)
    · repeat (first | refine T_seq ?_ | refine T_region ?_ | refine S_nil ?_ | refine pthen_normal ?_ | refine inb_normal ?_ | refine T_skip ?_ | refine T_ret ?_ | refine S_pure tabOk rfl ?_)
      exact ret1 rfl rfl (fun w' hw => ⟨by rw [show errV p.v = 0 by unfold errV Pk.v; rw [if_neg (by dsimp only; omega), if_neg (by dsimp only; omega)]], hw.below (by repeat (first | exact new_nil | refine new_cons (by first | assumption | omega) ?_))⟩)
  · refine S_re 7 (v' := .bool true) rfl (congrArg Value.bool (decide_eq_true h1)) ?_
    repeat (first | refine S_pure tabOk rfl ?_ | refine S_load tabOk 0 rfl rfl rfl ?_)
    by_cases h3 : p.to < 0
    · refine S_re 11 (v' := .bool true) rfl (congrArg Value.bool (decide_eq_true h3)) ?_
      repeat (first | refine S_nil ?_ | refine S_pure tabOk rfl ?_ | refine S_pass rfl rfl rfl ?_)
      refine T_cond_t rfl ?_
      repeat (first | refine T_seq ?_ | refine T_region ?_ | refine S_nil ?_ | refine inb_ret ?_ | refine pthen_ret ?_ | refine T_ret ?_ | refine S_pure tabOk rfl ?_)
      exact ret1 rfl rfl (fun w' hw => ⟨by rw [show errV p.v = 1 by unfold errV Pk.v; rw [if_pos (by dsimp only; omega)]], hw.below (by repeat (first | exact new_nil | refine new_cons (by first | assumption | omega) ?_))⟩)
    · refine S_re 11 (v' := .bool false) rfl (congrArg Value.bool (decide_eq_false h3)) ?_
      repeat (first | refine S_nil ?_ | refine S_pure tabOk rfl ?_ | refine S_load tabOk 0 rfl rfl rfl ?_)
      refine T_cond_dec rfl (fun h4 => ?_) (fun h4 => ?_)
      · repeat (first | refine T_seq ?_ | refine T_region ?_ | refine S_nil ?_ | refine inb_ret ?_ | refine pthen_ret ?_ | refine T_ret ?_ | refine S_pure tabOk rfl ?_)
        exact ret1 rfl rfl (fun w' hw => ⟨by rw [show errV p.v = 1 by unfold errV Pk.v; rw [if_pos (by dsimp only; omega)]], hw.below (by repeat (first | exact new_nil | refine new_cons (by first | assumption | omega) ?_))⟩)
      · repeat (first | refine T_seq ?_ | refine T_region ?_ | refine S_nil ?_ | refine S_pure tabOk rfl ?_ | refine S_load tabOk 0 rfl rfl rfl ?_)
        refine T_cond_dec rfl (fun h2 => ?_) (fun h2 => ?_)
        · repeat (first | refine T_seq ?_ | refine T_region ?_ | refine S_nil ?_ | refine inb_ret ?_ | refine pthen_ret ?_ | refine T_ret ?_ | refine S_pure tabOk rfl ?_)
          exact ret1 rfl rfl (fun w' hw => ⟨by rw [show errV p.v = 6 by unfold errV Pk.v; rw [if_neg (by dsimp only; omega), if_pos (by dsimp only; omega)]], hw.below (by repeat (first | exact new_nil | refine new_cons (by first | assumption | omega) ?_))⟩)
        · repeat (first | refine T_seq ?_ | refine T_region ?_ | refine S_nil ?_ | refine pthen_normal ?_ | refine inb_normal ?_ | refine T_skip ?_ | refine T_ret ?_ | refine S_pure tabOk rfl ?_)
          exact ret1 rfl rfl (fun w' hw => ⟨by rw [show errV p.v = 0 by unfold errV Pk.v; rw [if_neg (by dsimp only; omega), if_neg (by dsimp only; omega)]], hw.below (by repeat (first | exact new_nil | refine new_cons (by first | assumption | omega) ?_))⟩)

abbrev PVal := Int × List Int
abbrev Rpk : Rep PVal := Rpair (Rint .i64) (Rslice (Rint .u8))
theorem new_bf {w0 : World} {b : Nat} {x : Obj} {o : OL} (h : ∀ e ∈ o, e.ex = true → ∀ k, e.has k → w0.heap.size ≤ k) : ∀ e ∈ (.blk b x false :: o : OL), e.ex = true → ∀ k, e.has k → w0.heap.size ≤ k := fun e he hx => by
  rcases List.mem_cons.1 he with rfl | he
  · cases hx
  · exact h e he hx
theorem pk_form {w : World} {A : Nat → Prop} {cs : List Value} {x : PVal} (h : Rpk.at_ w A cs x) : ∃ a n c, cs = [.int .i64 x.1, .slice a n c] ∧ Fits .i64 x.1 ∧ SlR (Rint .u8) w A a n c x.2 := by
  obtain ⟨c1, c2, rfl, ⟨rfl, h1⟩, a, n, c, rfl, h2⟩ := h
  exact ⟨a, n, c, rfl, h1, h2⟩
theorem pk_at {w : World} {A : Nat → Prop} {p : Pk} (h1 : Fits .i64 p.to) (h2 : SlR (Rint .u8) w A p.a p.bs.length p.c p.bs) : Rpk.at_ w A (cellP p) p.v := ⟨[_], [_], rfl, ⟨rfl, h1⟩, p.a, _, p.c, rfl, h2⟩
/-- What a net's list reads asx. -/
theorem pk_slr {w : World} {base : Nat} {E : TypeId} {a : Option Addr} {c : Nat} {Ln K : List Pk} {G : Nat → Prop} (hr : w.ownsRow base E 2 (.slice a Ln.length c) Ln.length (cellsP Ln)) (hk : okP w G K) (hs : ∀ p ∈ Ln, p ∈ K) : SlR Rpk w TT a Ln.length c (Ln.map Pk.v) := by
  obtain ⟨A', C', e', h1, h2⟩ := form_of_own hr
  cases e'
  refine ⟨List.length_map _, h1, h2, fun ha => ?_, ⟨Ln.map cellP, List.length_map _, fun i cs x hi hx => ?_, Sl.of_own hr⟩, fun hn => ?_⟩
  · subst ha
    rcases hr.2 with ⟨h3, h4⟩ | ⟨g, cap, cur, h3, _⟩
    · injection h3 with _ e1 e2
      exact ⟨e1, e2⟩
    · cases h3
  · rw [List.getElem?_map] at hi hx
    cases hp : Ln[i]? with
    | none => rw [hp] at hi; cases hi
    | some p =>
      rw [hp] at hi hx
      cases hi
      cases hx
      obtain ⟨g1, _, g3⟩ := hk p (hs p (List.mem_of_getElem? hp))
      exact pk_at g1 (g3.mono fun _ _ => trivial)
  · rcases hr.2 with ⟨h3, h4⟩ | ⟨g, cap, cur, h3, _⟩
    · injection h3 with _ e1 _
      omega
    · cases h3
      exact ⟨g, 0, rfl, trivial⟩
section
variable {pb : Nat} {a : Option Addr} {n c : Nat} {zs : List Int}
theorem was_ok (x : Int) (a2 : Option Addr) (n2 c2 : Nat) (ys : List Int) (w : World) (hp : w.heap[pb]? = some (.cells ⟨[.slice a n c]⟩ 37 (0, 0))) (hz : Ints .u8 w a n c zs) (hy : Ints .u8 w a2 n2 c2 ys) : Calls Try.prog 108 #[.agg ⟨[.int .i64 x, .slice a2 n2 c2]⟩, .pointer (some ⟨pb, 0, none⟩)] w fun e w' => e = .returned (.bool (decide (zs = ys))) ∧ Below w.heap.size w w' := by
  refine enter2 Try.func108 rfl rfl (Hp.start false hp) ?_
  repeat (first | refine T_seq ?_ | refine T_region ?_)
  refine S_new tabOk rfl (fun b hb => ?_)
  repeat (first | refine T_seq ?_ | refine T_region ?_ | refine S_nil ?_ | refine S_pure tabOk rfl ?_ | refine S_load tabOk 0 rfl rfl rfl ?_ | refine S_load tabOk 1 rfl rfl rfl ?_)
  refine S_callq rfl Try.call94 (fun w1 h1 => bequal_ok a a2 n c n2 c2 zs ys w1 (ints_ext hz (h1.below (by repeat (first | exact new_nil | refine new_bf ?_ | refine new_cons (by first | assumption | omega) ?_)))) (ints_ext hy (h1.below (by repeat (first | exact new_nil | refine new_bf ?_ | refine new_cons (by first | assumption | omega) ?_))))) ?_
  repeat (first | refine S_nil ?_ | refine T_ret ?_ | refine S_pure tabOk rfl ?_)
  exact ret1 rfl rfl (fun w' hw => ⟨rfl, hw.below (by repeat (first | exact new_nil | refine new_bf ?_ | refine new_cons (by first | assumption | omega) ?_))⟩)
theorem indexf_ok {sa : Option Addr} {m sc : Nat} {Sv : List PVal} (w : World) (hp : w.heap[pb]? = some (.cells ⟨[.slice a n c]⟩ 37 (0, 0))) (hz : Ints .u8 w a n c zs) (hx : SlR Rpk w TT sa m sc Sv) : Calls Try.prog 118 #[.slice sa m sc, .func (.func 108) #[] #[.pointer (some ⟨pb, 0, none⟩)]] w fun e w' => ∃ r, e = .returned (.int .i64 r) ∧ (0 ≤ r ↔ ∃ q ∈ Sv, q.2 = zs) ∧ Below w.heap.size w w' := by
  have hl := hx.len
  have hcap := hx.cap
  have hmax := hx.max
  simp only [maxLen] at hmax
  refine enter2 Try.func118 rfl rfl (Hp.refl w) ?_
  repeat (first | refine T_seq ?_ | refine T_region ?_ | refine T_block ?_ | refine S_nil ?_ | refine S_pure tabOk rfl ?_)
  refine T_loop (ι := Nat) (fun i => [(0, .slice sa m sc), (1, .func (.func 108) #[] #[.pointer (some ⟨pb, 0, none⟩)]), (7, .int .i64 (m : Int)), (8, .int .i64 (i : Int))]) (fun _ => [])
    (fun i => i ≤ m ∧ ∀ (j : Nat) (q : PVal), j < i → Sv[j]? = some q → q.2 ≠ zs) (fun i => m - i) 0 ⟨Nat.zero_le _, fun j q h => absurd h (Nat.not_lt_zero _)⟩ (by repeat (first | exact Sub.nil | refine Sub.cons rfl ?_)) (fun w' hw => hw) ?_
  rintro i ⟨hi, hall⟩
  repeat (first | refine T_seq ?_ | refine T_region ?_ | refine S_nil ?_ | refine S_pure tabOk rfl ?_)
  refine T_cond_dec rfl (fun h => ?_) (fun h => ?_)
  · have hi' : i < Sv.length := by omega
    obtain ⟨gb, off, cs, rfl, hlt, hat, hcl, hcell, _⟩ := hx.get_ hi'
    obtain ⟨ua, un, uc, rfl, hf1, hu⟩ := pk_form hat
    repeat (first | refine T_seq ?_ | refine T_region ?_ | refine T_block ?_ | refine S_nil ?_ | refine pthen_normal ?_ | refine T_skip ?_ | refine S_pure tabOk rfl ?_)
    refine S_q (Q_idx (sz := 2) tabOk rfl rfl rfl rfl rfl rfl rfl rfl (j := i) (by omega)) ?_
    refine S_loadN tabOk (vs := [.int .i64 Sv[i].1, .slice ua un uc]) rfl rfl rfl (fun w' hw j u hj => by
      rw [Addr.add_lit]
      exact (World.cell?_of_block ((hw.below (by repeat (first | exact new_nil))).block gb hlt)).trans (hcell j u hj)) ?_
    refine S_callvq (v := .bool (decide (zs = Sv[i].2))) rfl rfl rfl Try.call108 (fun w1 hw1 => was_ok _ ua un uc Sv[i].2 w1 (((hw1.below (by repeat (first | exact new_nil))).block pb (heap_lt hp)).trans hp) (ints_ext hz (hw1.below (by repeat (first | exact new_nil)))) (hu.ext (hw1.below (by repeat (first | exact new_nil)))).ints) ?_
    repeat (first | refine S_nil ?_)
    refine T_cond_dec rfl (fun h1 => ?_) (fun h1 => ?_)
    · repeat (first | refine T_seq ?_ | refine T_region ?_ | refine S_nil ?_ | refine inb_ret ?_ | refine pthen_ret ?_ | refine T_ret ?_ | refine S_pure tabOk rfl ?_)
      exact ret1 rfl rfl (fun w' hw => ⟨_, rfl, ⟨fun _ => ⟨Sv[i], List.getElem_mem hi', h1.symm⟩, fun _ => by omega⟩, hw.below (by repeat (first | exact new_nil))⟩)
    · repeat (first | refine T_region ?_ | refine S_nil ?_ | refine pthen_normal ?_ | refine inb_normal ?_ | refine T_skip ?_ | refine S_i64 tabOk rfl (by omega) ?_ | refine S_pure tabOk rfl ?_)
      refine ⟨i + 1, ⟨by omega, fun j q hj hq => ?_⟩, by repeat (first | exact Sub.nil | refine Sub.cons rfl ?_), fun w' hw => hw, by omega⟩
      rcases Nat.lt_or_ge j i with hj' | hj'
      · exact hall j q hj' hq
      · obtain rfl : j = i := by omega
        rw [List.getElem?_eq_getElem hi'] at hq
        cases hq
        exact fun e => h1 e.symm
  · repeat (first | refine T_seq ?_ | refine T_region ?_ | refine S_nil ?_ | refine pthen_normal ?_ | refine inb_hit ?_ | refine pthen_exit ?_ | refine T_ret ?_ | refine T_exit ?_ | refine S_pure tabOk rfl ?_)
    refine ret1 rfl rfl (fun w' hw => ⟨_, rfl, ⟨fun h => absurd h (by decide), fun ⟨q, hq, e⟩ => ?_⟩, hw.below (by repeat (first | exact new_nil))⟩)
    obtain ⟨j, hj⟩ := List.getElem?_of_mem hq
    exact absurd e (hall j q (by have := (List.getElem?_eq_some_iff.1 hj).1; omega) hj)
theorem containsf_ok {sa : Option Addr} {m sc : Nat} {Sv : List PVal} (w : World) (hp : w.heap[pb]? = some (.cells ⟨[.slice a n c]⟩ 37 (0, 0))) (hz : Ints .u8 w a n c zs) (hx : SlR Rpk w TT sa m sc Sv) : Calls Try.prog 109 #[.slice sa m sc, .func (.func 108) #[] #[.pointer (some ⟨pb, 0, none⟩)]] w fun e w' => ∃ r, e = .returned (.bool r) ∧ (r = true ↔ ∃ q ∈ Sv, q.2 = zs) ∧ Below w.heap.size w w' := by
  refine enter2 Try.func109 rfl rfl (Hp.start false hp) ?_
  repeat (first | refine T_seq ?_ | refine T_region ?_ | refine S_nil ?_ | refine S_pure tabOk rfl ?_)
  refine S_callE (fun v => ∃ r, v = .int .i64 r ∧ (0 ≤ r ↔ ∃ q ∈ Sv, q.2 = zs)) rfl Try.call118 (fun w1 h1 => (indexf_ok w1 (h1.own _ (getE_mem (i := 0) rfl)) (ints_ext hz (Hp.below_ro hp h1)) (hx.ext (Hp.below_ro hp h1))).mono fun e w' ⟨r, e1, e2, e3⟩ => ⟨_, e1, e3, r, rfl, e2⟩) (fun v hv => ?_)
  obtain ⟨r, rfl, hr⟩ := hv
  repeat (first | refine S_nil ?_ | refine T_ret ?_ | refine S_pure tabOk rfl ?_)
  exact ret1 rfl rfl (fun w' hw => ⟨_, rfl, by rw [← hr]; exact decide_eq_true_iff, Hp.below_ro hp hw⟩)
set_option maxHeartbeats 1000000 in
theorem nhonest_ok {b ln lc m sc : Nat} {la sa : Option Addr} {Sv : List PVal} (w : World) (hb : w.heap[b]? = some (ntO la ln lc sa m sc)) (hx : SlR Rpk w TT sa m sc Sv) (hz : Ints .u8 w a n c zs) : Calls Try.prog 81 #[.pointer (some ⟨b, 0, none⟩), .slice a n c] w fun e w' => e = .returned (.bool (honV Sv zs)) ∧ Below w.heap.size w w' := by
  have hst : Hp w w [.blk b (ntO la ln lc sa m sc) false] := Hp.start false hb
  refine enter2 Try.func81 rfl rfl hst ?_
  repeat (first | refine T_seq ?_ | refine T_region ?_)
  refine S_new tabOk rfl (fun b3 hb3 => ?_)
  repeat (first | refine T_seq ?_ | refine T_region ?_ | refine S_nil ?_ | refine S_pure tabOk rfl ?_)
  refine S_q (Q_mkfn rfl rfl) ?_
  repeat (first | refine T_seq ?_ | refine T_region ?_ | refine S_nil ?_ | refine S_pure tabOk rfl ?_ | refine S_load tabOk 0 rfl rfl rfl ?_)
  obtain ⟨⟨E, H, rs, its⟩, hd⟩ : ∃ r, decT zs = r := ⟨_, rfl⟩
  refine S_callZ (decP (E, H, rs, its)) TT rfl Try.call25 (fun w1 h1 => by
    have := decode_v w1 (ints_ext hz (h1.below (by repeat (first | exact new_nil | refine new_bf ?_ | refine new_cons (by first | assumption | omega) ?_))))
    rw [hd] at this
    exact this.mono fun e w' ⟨r, e1, e2, e3⟩ => ⟨r, e1, e2, nbb' h1 e3⟩) (fun v0 F0 w1 hF hv => ⟨_, rfl, ?_⟩)
  obtain ⟨s5, rfl, hs5⟩ := hv
  clear hs5
  dsimp only
  repeat (first | refine S_pure tabOk rfl ?_)
  refine S_new tabOk rfl (fun b4 hb4 => ?_)
  repeat (first | refine T_seq ?_ | refine T_region ?_ | refine S_nil ?_ | refine S_pure tabOk rfl ?_ | refine S_store tabOk 0 rfl rfl rfl rfl rfl rfl ?_)
  by_cases hE : E = 0
  rotate_left
  · refine S_re 16 (v' := .bool true) rfl (congrArg Value.bool (decide_eq_true hE)) ?_
    repeat (first | refine S_nil ?_ | refine T_ret ?_ | refine S_pure tabOk rfl ?_ | refine S_pass rfl rfl rfl ?_)
    exact ret1 rfl rfl (fun w' hw => ⟨retb (by unfold honV; rw [hd]; exact (decide_eq_true (.inl hE)).symm), hw.below (by repeat (first | exact new_nil | refine new_bf ?_ | refine new_ro ?_ | refine new_cons (by first | assumption | omega) ?_))⟩)
  subst hE
  refine S_re 16 (v' := .bool false) rfl (congrArg Value.bool (decide_eq_false (fun h => h rfl))) ?_
  repeat (first | refine S_pure tabOk rfl ?_ | refine S_load tabOk 2 rfl rfl rfl ?_)
  refine S_callE (fun v => ∃ r : Bool, v = .bool r ∧ (r = true ↔ ∃ q ∈ Sv, q.2 = zs)) rfl Try.call109 (fun w1 h1 => (containsf_ok w1 (h1.own _ (getE_mem (i := 1) rfl)) (ints_ext hz (h1.below (by repeat (first | exact new_nil | refine new_bf ?_ | refine new_ro ?_ | refine new_cons (by first | assumption | omega) ?_)))) (hx.ext (h1.below (by repeat (first | exact new_nil | refine new_bf ?_ | refine new_ro ?_ | refine new_cons (by first | assumption | omega) ?_))))).mono fun e w' ⟨r, e1, e2, e3⟩ => ⟨_, e1, e3, r, rfl, e2⟩) (fun v hv => ?_)
  obtain ⟨r, rfl, hr⟩ := hv
  have hh : honV Sv zs = r := by
    unfold honV
    rw [hd]
    cases r with
    | true => exact decide_eq_true (.inr (hr.1 rfl))
    | false => exact decide_eq_false (fun h => h.elim (fun h => h rfl) (fun h => by cases hr.2 h))
  rw [hh]
  repeat (first | refine S_nil ?_ | refine T_ret ?_ | refine S_pure tabOk rfl ?_)
  exact ret1 rfl rfl (fun w' hw => ⟨rfl, hw.below (by repeat (first | exact new_nil | refine new_bf ?_ | refine new_ro ?_ | refine new_cons (by first | assumption | omega) ?_))⟩)
end


theorem pmD0 {α : Type} (x0 x1 x2 x3 x4 x5 x6 : α) (r : List α) : List.Perm (x0 :: x1 :: x2 :: x3 :: x4 :: x5 :: x6 :: r) (x2 :: x3 :: x4 :: x5 :: x6 :: x1 :: x0 :: r) := by
  have hP : List.Perm ([0, 1, 2, 3, 4, 5, 6] : List Nat) [2, 3, 4, 5, 6, 1, 0] := by decide
  exact (hP.map fun i => ([x0, x1, x2, x3, x4, x5, x6][i]?).getD x0).append_right r
theorem pmD1 {α : Type} (x0 x1 x2 x3 x4 x5 x6 x7 : α) (r : List α) : List.Perm (x0 :: x1 :: x2 :: x3 :: x4 :: x5 :: x6 :: x7 :: r) (x1 :: x2 :: x3 :: x4 :: x5 :: x6 :: x7 :: x0 :: r) := by
  have hP : List.Perm ([0, 1, 2, 3, 4, 5, 6, 7] : List Nat) [1, 2, 3, 4, 5, 6, 7, 0] := by decide
  exact (hP.map fun i => ([x0, x1, x2, x3, x4, x5, x6, x7][i]?).getD x0).append_right r
theorem pmD2 {α : Type} (x0 x1 x2 x3 x4 x5 : α) (r : List α) : List.Perm (x0 :: x1 :: x2 :: x3 :: x4 :: x5 :: r) (x1 :: x5 :: x0 :: x2 :: x3 :: x4 :: r) := by
  have hP : List.Perm ([0, 1, 2, 3, 4, 5] : List Nat) [1, 5, 0, 2, 3, 4] := by decide
  exact (hP.map fun i => ([x0, x1, x2, x3, x4, x5][i]?).getD x0).append_right r
theorem row_cellP {w0 w : World} {o : OL} {E : TypeId} {g c : Nat} {Ln : List Pk} (h : Hp w0 w o) (k : Nat) (hk : getE o k = some (rowP w0 E (some ⟨g, 0, none⟩) c Ln)) {i : Nat} (hi : i < Ln.length) : ∀ j u, (cellP Ln[i])[j]? = some u → w.cell? ((⟨g, 0 + i * 2, none⟩ : Addr).add j) = some u := by
  intro j u hu
  have h1 : w.ownsRow w0.heap.size E 2 (.slice (some ⟨g, 0, none⟩) Ln.length c) Ln.length (cellsP Ln) := h.own _ (getE_mem hk)
  have h2 := cellsP_get hi
  rw [Addr.add_lit, Nat.zero_add]
  match j, hu with
  | 0, hu => exact own_cell h1 (by omega) (h2.1.trans hu)
  | 1, hu => exact own_cell h1 (by omega) (h2.2.trans hu)
noncomputable def sendV (x : V2) (v : Int × List Int) : V2 := if errV v = 0 then (x.1 ++ [v], x.2 ++ [v]) else x
set_option maxHeartbeats 4000000 in
theorem send_ok {w0 w : World} {b : Nat} {K : List Pk} {G : Nat → Prop} {N : Nt} {rest : OL} {k : Nat} {q : Pk} (h : NetH w0 w 131 71 b K G N rest) (hN : N.ok K k) (hk : k ≤ 1000) (hp : q ∈ K) : Calls Try.prog 39 #[.pointer (some ⟨b, 0, none⟩), .agg ⟨cellP q⟩] w fun e w' => ∃ K' G' N', e = .returned (.int .i64 (errV q.v)) ∧ NetQ w0 w' 131 71 b K N rest (k + 1) (sendV N.v q.v) K' G' N' := by
  have hq : q ∈ K := hp
  obtain ⟨hqt, hqb, hqf⟩ : Fits .i64 q.to ∧ q.bs.length ≤ 70000 ∧ ∀ z ∈ q.bs, Fits .u8 z := by
    have := (h.own _ List.mem_cons_self).1.1 q hp
    exact ⟨this.1, this.2.1, this.2.2.ints.fits⟩
  obtain ⟨la, lc, sa, sc, Ln, Sn⟩ := N
  have hln := hN.ln
  have hsn := hN.sn
  dsimp only at hln hsn
  refine enterW2 Try.func39 rfl rfl h ?_
  repeat (first | refine T_seq ?_ | refine T_region ?_)
  refine S_new tabOk rfl (fun b1 hb1 => ?_)
  repeat (first | refine T_seq ?_ | refine T_region ?_ | refine S_nil ?_ | refine S_pure tabOk rfl ?_)
  refine S_q (Q_eqptr tabOk rfl rfl rfl rfl rfl) ?_
  repeat (first | refine S_nil ?_)
  refine T_cond_f rfl ?_
  repeat (first | refine T_seq ?_ | refine T_region ?_ | refine pthen_normal ?_ | refine T_skip ?_ | refine S_load tabOk 0 rfl rfl rfl ?_)
  refine S_callq rfl Try.call79 (fun w1 h1 => nerr_ok q w1) ?_
  repeat (first | refine T_seq ?_ | refine T_region ?_ | refine S_nil ?_ | refine S_pure tabOk rfl ?_)
  refine T_cond_dec rfl (fun he => ?_) (fun he => ?_)
  rotate_left
  · repeat (first | refine T_seq ?_ | refine T_region ?_ | refine S_nil ?_ | refine pthen_normal ?_ | refine T_skip ?_ | refine T_ret ?_ | refine S_pure tabOk rfl ?_)
    exact ret1 rfl rfl (fun w' hw => ⟨K, G, ⟨la, lc, sa, sc, Ln, Sn⟩, rfl, hw.less (by repeat (first | refine Less.keep ?_ | refine Less.dropB (by first | assumption | omega) ?_ | exact Less.same _)), ⟨hN.l, hN.s, Nat.le_succ_of_le hN.ln, Nat.le_succ_of_le hN.sn⟩, fun _ h => h, by unfold sendV; rw [if_neg he]⟩)
  repeat (first | refine T_seq ?_)
  let lst : Bool → Bool → Bool → Bool → Value × (Option Addr × Nat) → Value × (Option Addr × Nat) → Value × (Option Addr × Nat) → OL := fun l6 l7 l8 l11 x6 x7 x8 =>
    .blk b1 (.cells ⟨cellP q⟩ 71 (0, 0)) true :: knE w0 K G :: .blk b (.cells ⟨[cond l11 x8.1 (.slice la Ln.length lc), .slice sa Sn.length sc]⟩ 131 (0, 0)) true :: .row w0.heap.size (cond l8 x8.1 (.slice la Ln.length lc)) 71 2 (cond l8 (Ln.length + 1) Ln.length) (cond l8 (cellsP Ln ++ [.int .i64 q.to, .slice x6.2.1 q.bs.length x6.2.2]) (cellsP Ln)) :: rowP w0 71 sa sc Sn :: (cond l6 [.row w0.heap.size (.slice x6.2.1 q.bs.length x6.2.2) 5 1 q.bs.length (q.bs.map (.int .u8)), factE (x6.1 = .agg ⟨[.int .i64 q.to, .slice x6.2.1 q.bs.length x6.2.2]⟩)] [] ++ (cond l7 [.row w0.heap.size x7.1 71 2 1 [.int .i64 q.to, .slice x6.2.1 q.bs.length x6.2.2]] [] ++ rest))
  refine T_drawF (γ := Option Addr × Nat) (by kernel_rfl) (by kernel_rfl) (none, 0) (fun L f => lst (L 6) (L 7) (L 8) (L 11) (f 6) (f 7) (f 8)) rfl [some (.pointer (some ⟨b, 0, none⟩)), some (.pointer (some ⟨b, 0, none⟩)), some (.pointer (some ⟨b, 0, none⟩)), some (.pointer (some ⟨b, 0, none⟩)), some (.slice la Ln.length lc), some (.agg ⟨cellP q⟩), none, none, none, some (.pointer (some ⟨b, 0, none⟩)), some (.pointer (some ⟨b, 0, none⟩)), none] ?_ ?_
  · refine ⟨?_, ?_, ?_, ?_, ?_, ?_, ?_, ?_, ?_, ?_, ?_, ?_, trivial⟩
    · exact fun L f hc hl hp => OpA.told (none, 0) rfl (D_pure tabOk rfl D_last) rfl
    · exact fun L f hc hl hp => OpA.told (none, 0) rfl (D_pure tabOk rfl D_last) rfl
    · exact fun L f hc hl hp => OpA.told (none, 0) rfl (D_pure tabOk rfl D_last) rfl
    · exact fun L f hc hl hp => OpA.told (none, 0) rfl (D_pure tabOk rfl D_last) rfl
    · intro L f hc hl hp
      have h8 := closed_no hc (j := 8) rfl ⟨4, .data⟩ (by simp) rfl hl
      have h11 := closed_no hc (j := 11) rfl ⟨4, .phase⟩ (by simp) rfl hl
      show OpA _ _ _ _ (lst (L 6) (L 7) (L 8) (L 11) (f 6) (f 7) (f 8)) (fun y => lst (L 6) (L 7) (L 8) (L 11) (f 6) (f 7) (f 8)) _ _ _
      rw [h8, h11]
      exact OpA.told (none, 0) rfl (D_load tabOk 2 rfl rfl rfl D_last) rfl
    · intro L f hc hl hp
      have h6 := closed_no hc (j := 6) rfl ⟨5, .data⟩ (by simp) rfl hl
      have h7 := closed_no hc (j := 7) rfl ⟨6, .data⟩ (by simp) rfl h6
      have h8 := closed_no hc (j := 8) rfl ⟨6, .chain⟩ (by simp) rfl h6
      have h11 := closed_no hc (j := 11) rfl ⟨5, .phase⟩ (by simp) rfl hl
      show OpA _ _ _ _ (lst (L 6) (L 7) (L 8) (L 11) (f 6) (f 7) (f 8)) (fun y => lst (L 6) (L 7) (L 8) (L 11) (f 6) (f 7) (f 8)) _ _ _
      rw [h6, h7, h8, h11]
      exact OpA.told (none, 0) rfl (D_load tabOk 0 rfl rfl rfl D_last) rfl
    · intro L f hc hl hp
      have h7 := closed_no hc (j := 7) rfl ⟨6, .data⟩ (by simp) rfl hl
      have h8 := closed_no hc (j := 8) rfl ⟨6, .chain⟩ (by simp) rfl hl
      have h11 := closed_no hc (j := 11) rfl ⟨6, .phase⟩ (by simp) rfl hl
      show OpA _ _ _ _ (lst (L 6) (L 7) (L 8) (L 11) (f 6) (f 7) (f 8)) (fun y => lst true (L 7) (L 8) (L 11) y (f 7) (f 8)) _ _ _
      rw [hl, h7, h8, h11]
      refine OpA.call rfl Try.call78 (fun w1 vs hw h => ?_)
      obtain ⟨u1, _, rfl, rfl, u2, _, rfl, rfl, rfl⟩ := h
      refine (own_ok w1 (okP.ints (hw.okP 1 rfl) hq) hqb).mono fun e w2 ⟨ra, rc, e1, hb2, hr⟩ => ⟨_, (ra, rc), e1, ?_⟩
      have hw2 := hw.fresh hb2 (x := .row w0.heap.size (.slice ra q.bs.length rc) 5 1 q.bs.length (q.bs.map (.int .u8))) (own_rebase hr hw.size) (fun j hj => (World.ownsRow.lt hr j hj).1)
      exact (hw2.addF rfl).perm (pmD0 ..)
    · intro L f hc hl hp
      have h6 : L 6 = true := hp ⟨6, .data⟩ (by simp) rfl
      have h8 := closed_no hc (j := 8) rfl ⟨7, .data⟩ (by simp) rfl hl
      have h11 := closed_no hc (j := 11) rfl ⟨7, .phase⟩ (by simp) rfl hl
      show OpA _ _ _ _ (lst (L 6) (L 7) (L 8) (L 11) (f 6) (f 7) (f 8)) (fun y => lst (L 6) true (L 8) (L 11) (f 6) y (f 8)) _ _ _
      rw [hl, h6, h8, h11]
      refine OpA.pre (X := (f 6).1 = .agg ⟨[.int .i64 q.to, .slice (f 6).2.1 q.bs.length (f 6).2.2]⟩) (fun w hw => hw.fact 6 rfl) (fun d h => by cases h; decide) (fun e6 => ?_)
      refine OpA.swap (dl' := [(18, .ex (f 6).1)]) (List.forall_mem_cons.2 ⟨rfl, fun _ h => nomatch h⟩) ?_
      generalize f 6 = x6 at *
      obtain ⟨x6, g6⟩ := x6
      dsimp only at e6
      subst e6
      exact OpA.bsliceR tabOk rfl rfl rfl rfl rfl rfl rfl rfl rfl rfl rfl rfl rfl rfl (fun w1 v hw1 => ⟨(none, 0), hw1.perm (pmD1 ..)⟩)
    · intro L f hc hl hp
      have h6 : L 6 = true := hp ⟨6, .chain⟩ (by simp) rfl
      have h7 : L 7 = true := hp ⟨7, .data⟩ (by simp) rfl
      have h11 := closed_no hc (j := 11) rfl ⟨8, .data⟩ (by simp) rfl hl
      show OpA _ _ _ _ (lst (L 6) (L 7) (L 8) (L 11) (f 6) (f 7) (f 8)) (fun y => lst (L 6) (L 7) true (L 11) (f 6) (f 7) y) _ _ _
      rw [hl, h6, h7, h11]
      refine OpA.pre (X := ∃ A C, (f 7).1 = .slice A 1 C) (fun w hw => ?_) (fun d h => by cases h; decide) ?_
      · obtain ⟨A, C, e2, _⟩ := hw.rowForm 7 rfl
        exact ⟨A, C, e2⟩
      · rintro ⟨A', C', e2⟩
        generalize hx7 : f 7 = x7
        rw [hx7] at e2
        obtain ⟨x7, g7⟩ := x7
        dsimp only at e2
        subst e2
        refine OpA.ofS (l := [(16, .slice la Ln.length lc), (19, .slice A' 1 C')]) rfl (by decide) (.cons rfl rfl (.cons rfl (by show some (Ent.ex (f 7).1) = _; rw [hx7]) .nil)) ?_
        refine S_append (ty := 0) tabOk 3 (m := Ln.length) (v := .slice la Ln.length lc) (xs := cellsP Ln) (news := [.int .i64 q.to, .slice (f 6).2.1 q.bs.length (f 6).2.2]) rfl rfl rfl rfl rfl rfl rfl rfl rfl (by decide) (fun w' hw => Sl.of_own (hw.own _ (getE_mem (i := 7) rfl))) (by intro u hu; simp only [List.mem_cons, List.not_mem_nil, or_false] at hu; rcases hu with rfl | rfl <;> rfl) (by simp only [maxLen]; omega) (by show (_ + _) * 32 ≤ _; omega) rfl (fun AS CS hcS hdS => ⟨_, rfl, ?_⟩)
        refine S_nil ?_
        exact ⟨_, (none, 0), rfl, (fun u h => by cases h), fun w hw => hw⟩
    · exact fun L f hc hl hp => OpA.told (none, 0) rfl (D_pure tabOk rfl D_last) rfl
    · exact fun L f hc hl hp => OpA.told (none, 0) rfl (D_pure tabOk rfl D_last) rfl
    · intro L f hc hl hp
      have h6 : L 6 = true := hp ⟨6, .phase⟩ (by simp) rfl
      have h7 : L 7 = true := hp ⟨7, .phase⟩ (by simp) rfl
      have h8 : L 8 = true := hp ⟨8, .data⟩ (by simp) rfl
      show OpA _ _ _ _ (lst (L 6) (L 7) (L 8) (L 11) (f 6) (f 7) (f 8)) (fun y => lst (L 6) (L 7) (L 8) true (f 6) (f 7) (f 8)) _ _ _
      rw [hl, h6, h7, h8]
      refine OpA.pre (X := ∃ A C, (f 8).1 = .slice A (Ln.length + 1) C) (fun w hw => ?_) (fun d h => by cases h) ?_
      · obtain ⟨A, C, e2, _⟩ := hw.rowForm 3 rfl
        exact ⟨A, C, e2⟩
      · rintro ⟨A', C', e2⟩
        refine OpA.swap (dl' := [(22, .ex (.pointer (some ⟨b, 0, none⟩))), (20, .ex (f 8).1)]) (List.forall_mem_cons.2 ⟨rfl, List.forall_mem_cons.2 ⟨rfl, fun _ h => nomatch h⟩⟩) ?_
        generalize f 8 = x8 at *
        obtain ⟨x8, g8⟩ := x8
        dsimp only at e2
        subst e2
        exact OpS.toF (none, 0) (fun u h => by cases h) (OpS.store tabOk 2 rfl rfl (fun u h => by rw [List.mem_singleton] at h; subst h; rfl) rfl rfl rfl)
  · intro L f w5 hL hw
    change Hp _ _ (lst (L 6) (L 7) (L 8) (L 11) (f 6) (f 7) (f 8)) at hw
    rw [hL 6 (by decide), hL 7 (by decide), hL 8 (by decide), hL 11 (by decide)] at hw
    obtain ⟨A1, C1, e2, _⟩ := hw.rowForm 3 rfl
    generalize f 8 = x8 at hw e2 ⊢
    obtain ⟨x8, g8⟩ := x8
    have e3 : x8 = .slice A1 (Ln.length + 1) C1 := e2
    subst e3
    obtain ⟨y1, hy⟩ : ∃ y, y = (f 6).2 := ⟨_, rfl⟩
    have hw6 : Hp w0 w5 ([.blk b1 (.cells ⟨cellP q⟩ 71 (0, 0)) true, knE w0 K G, .blk b (.cells ⟨[.slice A1 (Ln.length + 1) C1, .slice sa Sn.length sc]⟩ 131 (0, 0)) true, .row w0.heap.size (.slice A1 (Ln.length + 1) C1) 71 2 (Ln.length + 1) (cellsP Ln ++ [.int .i64 q.to, .slice y1.1 q.bs.length y1.2]), rowP w0 71 sa sc Sn, .row w0.heap.size (.slice y1.1 q.bs.length y1.2) 5 1 q.bs.length (q.bs.map (.int .u8)), factE ((f 6).1 = .agg ⟨[.int .i64 q.to, .slice y1.1 q.bs.length y1.2]⟩), .row w0.heap.size (f 7).1 71 2 1 [.int .i64 q.to, .slice y1.1 q.bs.length y1.2]] ++ rest) := by rw [hy]; exact hw
    obtain ⟨G2, hw8⟩ := Hp.snocK (p := (⟨q.to, q.bs, y1.1, y1.2⟩ : Pk)) (hw6.perm (pmD2 ..)) hqt hqb hqf
    have hw9 : Hp w0 w5 (knE w0 (K ++ [(⟨q.to, q.bs, y1.1, y1.2⟩ : Pk)]) G2 :: .blk b1 (.cells ⟨cellP q⟩ 71 (0, 0)) true :: nbE 131 b A1 (Ln ++ [(⟨q.to, q.bs, y1.1, y1.2⟩ : Pk)]).length C1 sa Sn.length sc :: rowP w0 71 A1 C1 (Ln ++ [(⟨q.to, q.bs, y1.1, y1.2⟩ : Pk)]) :: rowP w0 71 sa sc Sn :: rest) := by
      unfold nbE rowP
      rw [cellsP_snoc Ln (⟨q.to, q.bs, y1.1, y1.2⟩ : Pk), show (Ln ++ [(⟨q.to, q.bs, y1.1, y1.2⟩ : Pk)]).length = Ln.length + 1 from List.length_append]
      exact hw8.less (by repeat (first | refine Less.keep ?_ | refine Less.dropR ?_ | refine Less.dropW (Nat.le_refl _) ?_ | exact Less.same _))
    have hw9 := hw9.perm (List.Perm.swap _ _ _)
    refine ⟨[(0, .pointer (some ⟨b, 0, none⟩)), (3, .pointer (some ⟨b1, 0, none⟩)), (5, .int .i64 (errV q.v))], _, (by repeat (first | exact SubD.nil | refine SubD.cons rfl ?_)), hw9, ?_⟩
    skip
    clear hw hw6 hw8 hw9 hL
    replace hq : q ∈ K ++ [(⟨q.to, q.bs, y1.1, y1.2⟩ : Pk)] := List.mem_append_left _ hq
    let lst : Bool → Bool → Bool → Bool → Value × (Option Addr × Nat) → Value × (Option Addr × Nat) → Value × (Option Addr × Nat) → OL := fun l6 l7 l8 l11 x6 x7 x8 =>
      .blk b1 (.cells ⟨cellP q⟩ 71 (0, 0)) true :: knE w0 (K ++ [(⟨q.to, q.bs, y1.1, y1.2⟩ : Pk)]) G2 :: .blk b (.cells ⟨[.slice A1 (Ln ++ [(⟨q.to, q.bs, y1.1, y1.2⟩ : Pk)]).length C1, cond l11 x8.1 (.slice sa Sn.length sc)]⟩ 131 (0, 0)) true :: rowP w0 71 A1 C1 (Ln ++ [(⟨q.to, q.bs, y1.1, y1.2⟩ : Pk)]) :: .row w0.heap.size (cond l8 x8.1 (.slice sa Sn.length sc)) 71 2 (cond l8 (Sn.length + 1) Sn.length) (cond l8 (cellsP Sn ++ [.int .i64 q.to, .slice x6.2.1 q.bs.length x6.2.2]) (cellsP Sn)) :: (cond l6 [.row w0.heap.size (.slice x6.2.1 q.bs.length x6.2.2) 5 1 q.bs.length (q.bs.map (.int .u8)), factE (x6.1 = .agg ⟨[.int .i64 q.to, .slice x6.2.1 q.bs.length x6.2.2]⟩)] [] ++ (cond l7 [.row w0.heap.size x7.1 71 2 1 [.int .i64 q.to, .slice x6.2.1 q.bs.length x6.2.2]] [] ++ rest))
    refine T_drawF (γ := Option Addr × Nat) (by kernel_rfl) (by kernel_rfl) (none, 0) (fun L f => lst (L 6) (L 7) (L 8) (L 11) (f 6) (f 7) (f 8)) rfl [some (.pointer (some ⟨b, 0, none⟩)), some (.pointer (some ⟨b, 0, none⟩)), some (.pointer (some ⟨b, 0, none⟩)), some (.pointer (some ⟨b, 1, none⟩)), some (.slice sa Sn.length sc), some (.agg ⟨cellP q⟩), none, none, none, some (.pointer (some ⟨b, 0, none⟩)), some (.pointer (some ⟨b, 1, none⟩)), none] ?_ ?_
    · refine ⟨?_, ?_, ?_, ?_, ?_, ?_, ?_, ?_, ?_, ?_, ?_, ?_, trivial⟩
      · exact fun L f hc hl hp => OpA.told (none, 0) rfl (D_pure tabOk rfl D_last) rfl
      · exact fun L f hc hl hp => OpA.told (none, 0) rfl (D_pure tabOk rfl D_last) rfl
      · exact fun L f hc hl hp => OpA.told (none, 0) rfl (D_pure tabOk rfl D_last) rfl
      · exact fun L f hc hl hp => OpA.told (none, 0) rfl (D_pure tabOk rfl D_last) rfl
      · intro L f hc hl hp
        have h8 := closed_no hc (j := 8) rfl ⟨4, .data⟩ (by simp) rfl hl
        have h11 := closed_no hc (j := 11) rfl ⟨4, .phase⟩ (by simp) rfl hl
        show OpA _ _ _ _ (lst (L 6) (L 7) (L 8) (L 11) (f 6) (f 7) (f 8)) (fun y => lst (L 6) (L 7) (L 8) (L 11) (f 6) (f 7) (f 8)) _ _ _
        rw [h8, h11]
        exact OpA.told (none, 0) rfl (D_load tabOk 2 rfl rfl rfl D_last) rfl
      · intro L f hc hl hp
        have h6 := closed_no hc (j := 6) rfl ⟨5, .data⟩ (by simp) rfl hl
        have h7 := closed_no hc (j := 7) rfl ⟨6, .data⟩ (by simp) rfl h6
        have h8 := closed_no hc (j := 8) rfl ⟨6, .chain⟩ (by simp) rfl h6
        have h11 := closed_no hc (j := 11) rfl ⟨5, .phase⟩ (by simp) rfl hl
        show OpA _ _ _ _ (lst (L 6) (L 7) (L 8) (L 11) (f 6) (f 7) (f 8)) (fun y => lst (L 6) (L 7) (L 8) (L 11) (f 6) (f 7) (f 8)) _ _ _
        rw [h6, h7, h8, h11]
        exact OpA.told (none, 0) rfl (D_load tabOk 0 rfl rfl rfl D_last) rfl
      · intro L f hc hl hp
        have h7 := closed_no hc (j := 7) rfl ⟨6, .data⟩ (by simp) rfl hl
        have h8 := closed_no hc (j := 8) rfl ⟨6, .chain⟩ (by simp) rfl hl
        have h11 := closed_no hc (j := 11) rfl ⟨6, .phase⟩ (by simp) rfl hl
        show OpA _ _ _ _ (lst (L 6) (L 7) (L 8) (L 11) (f 6) (f 7) (f 8)) (fun y => lst true (L 7) (L 8) (L 11) y (f 7) (f 8)) _ _ _
        rw [hl, h7, h8, h11]
        refine OpA.call rfl Try.call78 (fun w1 vs hw h => ?_)
        obtain ⟨u1, _, rfl, rfl, u2, _, rfl, rfl, rfl⟩ := h
        refine (own_ok w1 (okP.ints (hw.okP 1 rfl) hq) hqb).mono fun e w2 ⟨ra, rc, e1, hb2, hr⟩ => ⟨_, (ra, rc), e1, ?_⟩
        have hw2 := hw.fresh hb2 (x := .row w0.heap.size (.slice ra q.bs.length rc) 5 1 q.bs.length (q.bs.map (.int .u8))) (own_rebase hr hw.size) (fun j hj => (World.ownsRow.lt hr j hj).1)
        exact (hw2.addF rfl).perm (pmD0 ..)
      · intro L f hc hl hp
        have h6 : L 6 = true := hp ⟨6, .data⟩ (by simp) rfl
        have h8 := closed_no hc (j := 8) rfl ⟨7, .data⟩ (by simp) rfl hl
        have h11 := closed_no hc (j := 11) rfl ⟨7, .phase⟩ (by simp) rfl hl
        show OpA _ _ _ _ (lst (L 6) (L 7) (L 8) (L 11) (f 6) (f 7) (f 8)) (fun y => lst (L 6) true (L 8) (L 11) (f 6) y (f 8)) _ _ _
        rw [hl, h6, h8, h11]
        refine OpA.pre (X := (f 6).1 = .agg ⟨[.int .i64 q.to, .slice (f 6).2.1 q.bs.length (f 6).2.2]⟩) (fun w hw => hw.fact 6 rfl) (fun d h => by cases h; decide) (fun e6 => ?_)
        refine OpA.swap (dl' := [(29, .ex (f 6).1)]) (List.forall_mem_cons.2 ⟨rfl, fun _ h => nomatch h⟩) ?_
        generalize f 6 = x6 at *
        obtain ⟨x6, g6⟩ := x6
        dsimp only at e6
        subst e6
        exact OpA.bsliceR tabOk rfl rfl rfl rfl rfl rfl rfl rfl rfl rfl rfl rfl rfl rfl (fun w1 v hw1 => ⟨(none, 0), hw1.perm (pmD1 ..)⟩)
      · intro L f hc hl hp
        have h6 : L 6 = true := hp ⟨6, .chain⟩ (by simp) rfl
        have h7 : L 7 = true := hp ⟨7, .data⟩ (by simp) rfl
        have h11 := closed_no hc (j := 11) rfl ⟨8, .data⟩ (by simp) rfl hl
        show OpA _ _ _ _ (lst (L 6) (L 7) (L 8) (L 11) (f 6) (f 7) (f 8)) (fun y => lst (L 6) (L 7) true (L 11) (f 6) (f 7) y) _ _ _
        rw [hl, h6, h7, h11]
        refine OpA.pre (X := ∃ A C, (f 7).1 = .slice A 1 C) (fun w hw => ?_) (fun d h => by cases h; decide) ?_
        · obtain ⟨A, C, e2, _⟩ := hw.rowForm 7 rfl
          exact ⟨A, C, e2⟩
        · rintro ⟨A', C', e2⟩
          generalize hx7 : f 7 = x7
          rw [hx7] at e2
          obtain ⟨x7, g7⟩ := x7
          dsimp only at e2
          subst e2
          refine OpA.ofS (l := [(27, .slice sa Sn.length sc), (30, .slice A' 1 C')]) rfl (by decide) (.cons rfl rfl (.cons rfl (by show some (Ent.ex (f 7).1) = _; rw [hx7]) .nil)) ?_
          refine S_append (ty := 0) tabOk 4 (m := Sn.length) (v := .slice sa Sn.length sc) (xs := cellsP Sn) (news := [.int .i64 q.to, .slice (f 6).2.1 q.bs.length (f 6).2.2]) rfl rfl rfl rfl rfl rfl rfl rfl rfl (by decide) (fun w' hw => Sl.of_own (hw.own _ (getE_mem (i := 7) rfl))) (by intro u hu; simp only [List.mem_cons, List.not_mem_nil, or_false] at hu; rcases hu with rfl | rfl <;> rfl) (by simp only [maxLen]; omega) (by show (_ + _) * 32 ≤ _; omega) rfl (fun AS CS hcS hdS => ⟨_, rfl, ?_⟩)
          refine S_nil ?_
          exact ⟨_, (none, 0), rfl, (fun u h => by cases h), fun w hw => hw⟩
      · exact fun L f hc hl hp => OpA.told (none, 0) rfl (D_pure tabOk rfl D_last) rfl
      · exact fun L f hc hl hp => OpA.told (none, 0) rfl (D_pure tabOk rfl D_last) rfl
      · intro L f hc hl hp
        have h6 : L 6 = true := hp ⟨6, .phase⟩ (by simp) rfl
        have h7 : L 7 = true := hp ⟨7, .phase⟩ (by simp) rfl
        have h8 : L 8 = true := hp ⟨8, .data⟩ (by simp) rfl
        show OpA _ _ _ _ (lst (L 6) (L 7) (L 8) (L 11) (f 6) (f 7) (f 8)) (fun y => lst (L 6) (L 7) (L 8) true (f 6) (f 7) (f 8)) _ _ _
        rw [hl, h6, h7, h8]
        refine OpA.pre (X := ∃ A C, (f 8).1 = .slice A (Sn.length + 1) C) (fun w hw => ?_) (fun d h => by cases h) ?_
        · obtain ⟨A, C, e2, _⟩ := hw.rowForm 4 rfl
          exact ⟨A, C, e2⟩
        · rintro ⟨A', C', e2⟩
          refine OpA.swap (dl' := [(33, .ex (.pointer (some ⟨b, 1, none⟩))), (31, .ex (f 8).1)]) (List.forall_mem_cons.2 ⟨rfl, List.forall_mem_cons.2 ⟨rfl, fun _ h => nomatch h⟩⟩) ?_
          generalize f 8 = x8 at *
          obtain ⟨x8, g8⟩ := x8
          dsimp only at e2
          subst e2
          exact OpS.toF (none, 0) (fun u h => by cases h) (OpS.store tabOk 2 rfl rfl (fun u h => by rw [List.mem_singleton] at h; subst h; rfl) rfl rfl rfl)
    · intro L f w5 hL hw
      change Hp _ _ (lst (L 6) (L 7) (L 8) (L 11) (f 6) (f 7) (f 8)) at hw
      rw [hL 6 (by decide), hL 7 (by decide), hL 8 (by decide), hL 11 (by decide)] at hw
      obtain ⟨A', C', e2, _⟩ := hw.rowForm 4 rfl
      generalize f 8 = x8 at hw e2 ⊢
      obtain ⟨x8, g8⟩ := x8
      have e3 : x8 = .slice A' (Sn.length + 1) C' := e2
      subst e3
      obtain ⟨y, hy⟩ : ∃ y, y = (f 6).2 := ⟨_, rfl⟩
      have hw6 : Hp w0 w5 ([.blk b1 (.cells ⟨cellP q⟩ 71 (0, 0)) true, knE w0 (K ++ [(⟨q.to, q.bs, y1.1, y1.2⟩ : Pk)]) G2, .blk b (.cells ⟨[.slice A1 (Ln ++ [(⟨q.to, q.bs, y1.1, y1.2⟩ : Pk)]).length C1, .slice A' (Sn.length + 1) C']⟩ 131 (0, 0)) true, rowP w0 71 A1 C1 (Ln ++ [(⟨q.to, q.bs, y1.1, y1.2⟩ : Pk)]), .row w0.heap.size (.slice A' (Sn.length + 1) C') 71 2 (Sn.length + 1) (cellsP Sn ++ [.int .i64 q.to, .slice y.1 q.bs.length y.2]), .row w0.heap.size (.slice y.1 q.bs.length y.2) 5 1 q.bs.length (q.bs.map (.int .u8)), factE ((f 6).1 = .agg ⟨[.int .i64 q.to, .slice y.1 q.bs.length y.2]⟩), .row w0.heap.size (f 7).1 71 2 1 [.int .i64 q.to, .slice y.1 q.bs.length y.2]] ++ rest) := by rw [hy]; exact hw
      obtain ⟨G2, hw8⟩ := Hp.snocK (p := (⟨q.to, q.bs, y.1, y.2⟩ : Pk)) (hw6.perm (pmD2 ..)) hqt hqb hqf
      have hw9 : Hp w0 w5 (knE w0 ((K ++ [(⟨q.to, q.bs, y1.1, y1.2⟩ : Pk)]) ++ [(⟨q.to, q.bs, y.1, y.2⟩ : Pk)]) G2 :: .blk b1 (.cells ⟨cellP q⟩ 71 (0, 0)) true :: nbE 131 b A1 (Ln ++ [(⟨q.to, q.bs, y1.1, y1.2⟩ : Pk)]).length C1 A' (Sn ++ [(⟨q.to, q.bs, y.1, y.2⟩ : Pk)]).length C' :: rowP w0 71 A1 C1 (Ln ++ [(⟨q.to, q.bs, y1.1, y1.2⟩ : Pk)]) :: rowP w0 71 A' C' (Sn ++ [(⟨q.to, q.bs, y.1, y.2⟩ : Pk)]) :: rest) := by
        unfold nbE rowP
        rw [cellsP_snoc Sn (⟨q.to, q.bs, y.1, y.2⟩ : Pk), show (Sn ++ [(⟨q.to, q.bs, y.1, y.2⟩ : Pk)]).length = Sn.length + 1 from List.length_append]
        exact hw8.less (by repeat (first | refine Less.keep ?_ | refine Less.dropR ?_ | refine Less.dropW (Nat.le_refl _) ?_ | exact Less.same _))
      have hw9 := hw9.perm (List.Perm.swap _ _ _)
      refine ⟨[(5, .int .i64 (errV q.v))], _, (by repeat (first | exact SubD.nil | refine SubD.cons rfl ?_)), hw9, ?_⟩
      repeat (first | refine T_seq ?_ | refine T_region ?_ | refine S_nil ?_ | refine T_ret ?_ | refine S_pure tabOk rfl ?_)
      refine ret1 rfl rfl (fun w' hw => ⟨_, _, ⟨A1, C1, A', C', Ln ++ [⟨q.to, q.bs, y1.1, y1.2⟩], Sn ++ [⟨q.to, q.bs, y.1, y.2⟩]⟩, rfl, hw.less (by repeat (first | refine Less.keep ?_ | refine Less.dropB (by first | assumption | omega) ?_ | exact Less.same _)), ⟨fun p hp => ?_, fun p hp => ?_, ?_, ?_⟩, fun _ h => List.mem_append_left _ (List.mem_append_left _ h), ?_⟩)
      · rcases List.mem_append.1 hp with hp | hp
        · exact List.mem_append_left _ (List.mem_append_left _ (hN.l p hp))
        · exact List.mem_append_left _ (List.mem_append_right _ hp)
      · rcases List.mem_append.1 hp with hp | hp
        · exact List.mem_append_left _ (List.mem_append_left _ (hN.s p hp))
        · exact List.mem_append_right _ hp
      · show (Ln ++ [_]).length ≤ _
        rw [List.length_append]
        show Ln.length + 1 ≤ _
        omega
      · show (Sn ++ [_]).length ≤ _
        rw [List.length_append]
        show Sn.length + 1 ≤ _
        omega
      · unfold sendV
        rw [if_pos he]
        unfold Nt.v
        dsimp only
        rw [List.map_append, List.map_append]
        rfl

theorem pmG0 {α : Type} (x0 x1 x2 x3 x4 x5 : α) (r : List α) : List.Perm (x0 :: x1 :: x2 :: x3 :: x4 :: x5 :: r) (x2 :: x3 :: x4 :: x5 :: x1 :: x0 :: r) := by
  have hP : List.Perm ([0, 1, 2, 3, 4, 5] : List Nat) [2, 3, 4, 5, 1, 0] := by decide
  exact (hP.map fun i => ([x0, x1, x2, x3, x4, x5][i]?).getD x0).append_right r
theorem pmG1 {α : Type} (x0 x1 x2 x3 x4 x5 x6 : α) (r : List α) : List.Perm (x0 :: x1 :: x2 :: x3 :: x4 :: x5 :: x6 :: r) (x1 :: x2 :: x3 :: x4 :: x5 :: x6 :: x0 :: r) := by
  have hP : List.Perm ([0, 1, 2, 3, 4, 5, 6] : List Nat) [1, 2, 3, 4, 5, 6, 0] := by decide
  exact (hP.map fun i => ([x0, x1, x2, x3, x4, x5, x6][i]?).getD x0).append_right r
theorem pmG2 {α : Type} (x0 x1 x2 x3 x4 : α) (r : List α) : List.Perm (x0 :: x1 :: x2 :: x3 :: x4 :: r) (x0 :: x4 :: x1 :: x2 :: x3 :: r) := by
  have hP : List.Perm ([0, 1, 2, 3, 4] : List Nat) [0, 4, 1, 2, 3] := by decide
  exact (hP.map fun i => ([x0, x1, x2, x3, x4][i]?).getD x0).append_right r
theorem pmG3 {α : Type} (x0 x1 x2 x3 x4 x5 x6 : α) (r : List α) : List.Perm (x0 :: x1 :: x2 :: x3 :: x4 :: x5 :: x6 :: r) (x2 :: x3 :: x4 :: x5 :: x6 :: x1 :: x0 :: r) := by
  have hP : List.Perm ([0, 1, 2, 3, 4, 5, 6] : List Nat) [2, 3, 4, 5, 6, 1, 0] := by decide
  exact (hP.map fun i => ([x0, x1, x2, x3, x4, x5, x6][i]?).getD x0).append_right r
theorem pmG4 {α : Type} (x0 x1 x2 x3 x4 x5 x6 x7 : α) (r : List α) : List.Perm (x0 :: x1 :: x2 :: x3 :: x4 :: x5 :: x6 :: x7 :: r) (x1 :: x2 :: x3 :: x4 :: x5 :: x6 :: x7 :: x0 :: r) := by
  have hP : List.Perm ([0, 1, 2, 3, 4, 5, 6, 7] : List Nat) [1, 2, 3, 4, 5, 6, 7, 0] := by decide
  exact (hP.map fun i => ([x0, x1, x2, x3, x4, x5, x6, x7][i]?).getD x0).append_right r
theorem pmG5 {α : Type} (x0 x1 x2 x3 x4 x5 : α) (r : List α) : List.Perm (x0 :: x1 :: x2 :: x3 :: x4 :: x5 :: r) (x1 :: x5 :: x0 :: x2 :: x3 :: x4 :: r) := by
  have hP : List.Perm ([0, 1, 2, 3, 4, 5] : List Nat) [1, 5, 0, 2, 3, 4] := by decide
  exact (hP.map fun i => ([x0, x1, x2, x3, x4, x5][i]?).getD x0).append_right r
theorem Hp.rowA {w0 w : World} {o : OL} (h : Hp w0 w o) (i : Nat) {a : Option Addr} {m c base sz : Nat} {e : TypeId} {xs : List Value} (hi : getE o i = some (.row base (.slice a m c) e sz m xs)) (hm : 0 < m) : ∃ g, a = some ⟨g, 0, none⟩ := by
  obtain ⟨_, h2⟩ : w.ownsRow base e sz (.slice a m c) m xs := h.own _ (getE_mem hi)
  rcases h2 with ⟨h2, h3⟩ | ⟨g, cap, cur, h2, _⟩
  · omega
  · cases h2
    exact ⟨g, rfl⟩
theorem at_j {i : Int} {n : Nat} (h : atV i n = true) : ∃ j : Nat, i = (j : Int) ∧ j < n := by
  have := of_decide_eq_true h
  exact ⟨i.toNat, by omega, by omega⟩
def repV (x : V2) (i : Int) : V2 := if atV i x.2.length then (x.1 ++ [x.2.getD i.toNat (0, [])], x.2) else x
def dblV (x : V2) (i : Int) : V2 := if atV i x.1.length then (x.1 ++ [x.1.getD i.toNat (0, [])], x.2) else x
open Classical in
noncomputable def forV (x : V2) (v : PVal) : V2 := if errV v = 0 ∧ honV x.2 v.2 = true then (x.1 ++ [v], x.2) else x
open Classical in
noncomputable def forE (x : V2) (v : PVal) : Int := if errV v ≠ 0 then errV v else if honV x.2 v.2 = true then 0 else 11
set_option maxHeartbeats 4000000 in
theorem ndouble_ok {w0 w : World} {b : Nat} {K : List Pk} {G : Nat → Prop} {N : Nt} {rest : OL} {k : Nat} (i : Int) (h : NetH w0 w 131 71 b K G N rest) (hN : N.ok K k) (hk : k ≤ 1000) : Calls Try.prog 45 #[.pointer (some ⟨b, 0, none⟩), .int .i64 i] w fun e w' => ∃ K' G' N', e = .returned (.int .i64 (if atV i N.v.1.length then 0 else 4)) ∧ NetQ w0 w' 131 71 b K N rest (k + 1) (dblV N.v i) K' G' N' := by
  obtain ⟨la, lc, sa, sc, Ln, Sn⟩ := N
  have hln := hN.ln
  have hsn := hN.sn
  dsimp only at hln hsn
  rw [show (Nt.v ⟨la, lc, sa, sc, Ln, Sn⟩).1.length = Ln.length from List.length_map _]
  have hno : atV i Ln.length = false → dblV (Nt.v ⟨la, lc, sa, sc, Ln, Sn⟩) i = Nt.v ⟨la, lc, sa, sc, Ln, Sn⟩ := fun he => by
    unfold dblV
    rw [show (Nt.v ⟨la, lc, sa, sc, Ln, Sn⟩).1.length = Ln.length from List.length_map _, if_neg (by rw [he]; decide)]
  refine enterW2 Try.func45 rfl rfl h ?_
  repeat (first | refine T_seq ?_ | refine T_region ?_ | refine S_nil ?_ | refine S_pure tabOk rfl ?_)
  refine S_callq (v := .bool (atV i Ln.length)) rfl Try.call80 (fun w1 h1 => nat_ok i w1 (h1.own _ (getE_mem (i := 1) rfl))) ?_
  repeat (first | refine S_nil ?_ | refine S_pure tabOk rfl ?_)
  cases he : atV i Ln.length with
  | false =>
    refine T_cond_t rfl ?_
    repeat (first | refine T_seq ?_ | refine T_region ?_ | refine S_nil ?_ | refine pthen_ret ?_ | refine T_ret ?_ | refine S_pure tabOk rfl ?_)
    exact ret1 rfl rfl (fun w' hw => ⟨K, G, ⟨la, lc, sa, sc, Ln, Sn⟩, rfl, hw, ⟨hN.l, hN.s, Nat.le_succ_of_le hN.ln, Nat.le_succ_of_le hN.sn⟩, fun _ h => h, (hno he).symm⟩)
  | true =>
    refine T_cond_f rfl ?_
    obtain ⟨j, rfl, hj⟩ := at_j he
    obtain ⟨q, hq0⟩ : ∃ q, q = Ln[j] := ⟨_, rfl⟩
    have hq : q ∈ K := by rw [hq0]; exact hN.l _ (List.getElem_mem hj)
    obtain ⟨hqt, hqb, hqf⟩ : Fits .i64 q.to ∧ q.bs.length ≤ 70000 ∧ ∀ z ∈ q.bs, Fits .u8 z := by
      have := (h.own _ List.mem_cons_self).1.1 q hq
      exact ⟨this.1, this.2.1, this.2.2.ints.fits⟩
    repeat (first | refine T_seq ?_ | refine pthen_normal ?_ | refine T_skip ?_)
    refine T_kn (X := ∃ g, la = some ⟨g, 0, none⟩) (fun w hw => hw.rowA 2 (m := Ln.length) rfl (by omega)) (fun ⟨g, hg⟩ => ?_)
    subst hg
    let lst : Bool → Bool → Bool → Bool → Value × (Option Addr × Nat) → Value × (Option Addr × Nat) → Value × (Option Addr × Nat) → OL := fun l12 l13 l14 l17 x12 x13 x14 =>
      knE w0 K G :: .blk b (.cells ⟨[cond l17 x14.1 (.slice (some ⟨g, 0, none⟩) Ln.length lc), .slice sa Sn.length sc]⟩ 131 (0, 0)) true :: .row w0.heap.size (cond l14 x14.1 (.slice (some ⟨g, 0, none⟩) Ln.length lc)) 71 2 (cond l14 (Ln.length + 1) Ln.length) (cond l14 (cellsP Ln ++ [.int .i64 q.to, .slice x12.2.1 q.bs.length x12.2.2]) (cellsP Ln)) :: rowP w0 71 sa sc Sn :: (cond l12 [.row w0.heap.size (.slice x12.2.1 q.bs.length x12.2.2) 5 1 q.bs.length (q.bs.map (.int .u8)), factE (x12.1 = .agg ⟨[.int .i64 q.to, .slice x12.2.1 q.bs.length x12.2.2]⟩)] [] ++ (cond l13 [.row w0.heap.size x13.1 71 2 1 [.int .i64 q.to, .slice x12.2.1 q.bs.length x12.2.2]] [] ++ rest))
    refine T_drawF (γ := Option Addr × Nat) (by kernel_rfl) (by kernel_rfl) (none, 0) (fun L f => lst (L 12) (L 13) (L 14) (L 17) (f 12) (f 13) (f 14)) rfl [some (.pointer (some ⟨b, 0, none⟩)), some (.pointer (some ⟨b, 0, none⟩)), some (.pointer (some ⟨b, 0, none⟩)), some (.pointer (some ⟨b, 0, none⟩)), some (.slice (some ⟨g, 0, none⟩) Ln.length lc), some (.pointer (some ⟨b, 0, none⟩)), some (.pointer (some ⟨b, 0, none⟩)), some (.pointer (some ⟨b, 0, none⟩)), some (.slice (some ⟨g, 0, none⟩) Ln.length lc), some (.int .i64 (j : Int)), some (.pointer (some ⟨g, 0 + j * 2, none⟩)), some (.agg ⟨cellP q⟩), none, none, none, some (.pointer (some ⟨b, 0, none⟩)), some (.pointer (some ⟨b, 0, none⟩)), none] ?_ ?_
    · refine ⟨?_, ?_, ?_, ?_, ?_, ?_, ?_, ?_, ?_, ?_, ?_, ?_, ?_, ?_, ?_, ?_, ?_, ?_, trivial⟩
      · exact fun L f hc hl hp => OpA.told (none, 0) rfl (D_pure tabOk rfl D_last) rfl
      · exact fun L f hc hl hp => OpA.told (none, 0) rfl (D_pure tabOk rfl D_last) rfl
      · exact fun L f hc hl hp => OpA.told (none, 0) rfl (D_pure tabOk rfl D_last) rfl
      · exact fun L f hc hl hp => OpA.told (none, 0) rfl (D_pure tabOk rfl D_last) rfl
      · intro L f hc hl hp
        have h14 := closed_no hc (j := 14) rfl ⟨4, .data⟩ (by simp) rfl hl
        have h17 := closed_no hc (j := 17) rfl ⟨4, .phase⟩ (by simp) rfl hl
        show OpA _ _ _ _ (lst (L 12) (L 13) (L 14) (L 17) (f 12) (f 13) (f 14)) (fun y => lst (L 12) (L 13) (L 14) (L 17) (f 12) (f 13) (f 14)) _ _ _
        rw [h14, h17]
        exact OpA.told (none, 0) rfl (D_load tabOk 1 rfl rfl rfl D_last) rfl
      · exact fun L f hc hl hp => OpA.told (none, 0) rfl (D_pure tabOk rfl D_last) rfl
      · exact fun L f hc hl hp => OpA.told (none, 0) rfl (D_pure tabOk rfl D_last) rfl
      · exact fun L f hc hl hp => OpA.told (none, 0) rfl (D_pure tabOk rfl D_last) rfl
      · intro L f hc hl hp
        have h10 := closed_no hc (j := 10) rfl ⟨8, .data⟩ (by simp) rfl hl
        have h11 := closed_no hc (j := 11) rfl ⟨10, .data⟩ (by simp) rfl h10
        have h12 := closed_no hc (j := 12) rfl ⟨11, .data⟩ (by simp) rfl h11
        have h13 := closed_no hc (j := 13) rfl ⟨12, .data⟩ (by simp) rfl h12
        have h14 := closed_no hc (j := 14) rfl ⟨12, .chain⟩ (by simp) rfl h12
        have h17 := closed_no hc (j := 17) rfl ⟨8, .phase⟩ (by simp) rfl hl
        show OpA _ _ _ _ (lst (L 12) (L 13) (L 14) (L 17) (f 12) (f 13) (f 14)) (fun y => lst (L 12) (L 13) (L 14) (L 17) (f 12) (f 13) (f 14)) _ _ _
        rw [h12, h13, h14, h17]
        exact OpA.told (none, 0) rfl (D_load tabOk 1 rfl rfl rfl D_last) rfl
      · exact fun L f hc hl hp => OpA.told (none, 0) rfl (D_pure tabOk rfl D_last) rfl
      · intro L f hc hl hp
        have h11 := closed_no hc (j := 11) rfl ⟨10, .data⟩ (by simp) rfl hl
        have h12 := closed_no hc (j := 12) rfl ⟨11, .data⟩ (by simp) rfl h11
        have h13 := closed_no hc (j := 13) rfl ⟨12, .data⟩ (by simp) rfl h12
        have h14 := closed_no hc (j := 14) rfl ⟨12, .chain⟩ (by simp) rfl h12
        have h17 := closed_no hc (j := 17) rfl ⟨10, .phase⟩ (by simp) rfl hl
        show OpA _ _ _ _ (lst (L 12) (L 13) (L 14) (L 17) (f 12) (f 13) (f 14)) (fun y => lst (L 12) (L 13) (L 14) (L 17) (f 12) (f 13) (f 14)) _ _ _
        rw [h12, h13, h14, h17]
        exact OpA.told (none, 0) rfl (D_q (Q_idx (sz := 2) tabOk rfl rfl rfl rfl rfl rfl rfl rfl (j := j) hj) D_last) rfl
      · intro L f hc hl hp
        have h12 := closed_no hc (j := 12) rfl ⟨11, .data⟩ (by simp) rfl hl
        have h13 := closed_no hc (j := 13) rfl ⟨12, .data⟩ (by simp) rfl h12
        have h14 := closed_no hc (j := 14) rfl ⟨12, .chain⟩ (by simp) rfl h12
        have h17 := closed_no hc (j := 17) rfl ⟨11, .phase⟩ (by simp) rfl hl
        show OpA _ _ _ _ (lst (L 12) (L 13) (L 14) (L 17) (f 12) (f 13) (f 14)) (fun y => lst (L 12) (L 13) (L 14) (L 17) (f 12) (f 13) (f 14)) _ _ _
        rw [h12, h13, h14, h17]
        exact OpA.told (none, 0) rfl (D_loadN tabOk (vs := cellP q) rfl rfl rfl (fun w' hw => by rw [hq0]; exact row_cellP hw 2 rfl hj) D_last) rfl
      · intro L f hc hl hp
        have h13 := closed_no hc (j := 13) rfl ⟨12, .data⟩ (by simp) rfl hl
        have h14 := closed_no hc (j := 14) rfl ⟨12, .chain⟩ (by simp) rfl hl
        have h17 := closed_no hc (j := 17) rfl ⟨12, .phase⟩ (by simp) rfl hl
        show OpA _ _ _ _ (lst (L 12) (L 13) (L 14) (L 17) (f 12) (f 13) (f 14)) (fun y => lst true (L 13) (L 14) (L 17) y (f 13) (f 14)) _ _ _
        rw [hl, h13, h14, h17]
        refine OpA.call rfl Try.call78 (fun w1 vs hw h => ?_)
        obtain ⟨u1, _, rfl, rfl, u2, _, rfl, rfl, rfl⟩ := h
        refine (own_ok w1 (okP.ints (hw.okP 0 rfl) hq) hqb).mono fun e w2 ⟨ra, rc, e1, hb2, hr⟩ => ⟨_, (ra, rc), e1, ?_⟩
        have hw2 := hw.fresh hb2 (x := .row w0.heap.size (.slice ra q.bs.length rc) 5 1 q.bs.length (q.bs.map (.int .u8))) (own_rebase hr hw.size) (fun j hj => (World.ownsRow.lt hr j hj).1)
        exact (hw2.addF rfl).perm (pmG0 ..)
      · intro L f hc hl hp
        have h12 : L 12 = true := hp ⟨12, .data⟩ (by simp) rfl
        have h14 := closed_no hc (j := 14) rfl ⟨13, .data⟩ (by simp) rfl hl
        have h17 := closed_no hc (j := 17) rfl ⟨13, .phase⟩ (by simp) rfl hl
        show OpA _ _ _ _ (lst (L 12) (L 13) (L 14) (L 17) (f 12) (f 13) (f 14)) (fun y => lst (L 12) true (L 14) (L 17) (f 12) y (f 14)) _ _ _
        rw [hl, h12, h14, h17]
        refine OpA.pre (X := (f 12).1 = .agg ⟨[.int .i64 q.to, .slice (f 12).2.1 q.bs.length (f 12).2.2]⟩) (fun w hw => hw.fact 5 rfl) (fun d h => by cases h; decide) (fun e6 => ?_)
        refine OpA.swap (dl' := [(21, .ex (f 12).1)]) (List.forall_mem_cons.2 ⟨rfl, fun _ h => nomatch h⟩) ?_
        generalize f 12 = x6 at *
        obtain ⟨x6, g6⟩ := x6
        dsimp only at e6
        subst e6
        exact OpA.bsliceR tabOk rfl rfl rfl rfl rfl rfl rfl rfl rfl rfl rfl rfl rfl rfl (fun w1 v hw1 => ⟨(none, 0), hw1.perm (pmG1 ..)⟩)
      · intro L f hc hl hp
        have h12 : L 12 = true := hp ⟨12, .chain⟩ (by simp) rfl
        have h13 : L 13 = true := hp ⟨13, .data⟩ (by simp) rfl
        have h17 := closed_no hc (j := 17) rfl ⟨14, .data⟩ (by simp) rfl hl
        show OpA _ _ _ _ (lst (L 12) (L 13) (L 14) (L 17) (f 12) (f 13) (f 14)) (fun y => lst (L 12) (L 13) true (L 17) (f 12) (f 13) y) _ _ _
        rw [hl, h12, h13, h17]
        refine OpA.pre (X := ∃ A C, (f 13).1 = .slice A 1 C) (fun w hw => ?_) (fun d h => by cases h; decide) ?_
        · obtain ⟨A, C, e2, _⟩ := hw.rowForm 6 rfl
          exact ⟨A, C, e2⟩
        · rintro ⟨A', C', e2⟩
          generalize hx7 : f 13 = x7
          rw [hx7] at e2
          obtain ⟨x7, g7⟩ := x7
          dsimp only at e2
          subst e2
          refine OpA.ofS (l := [(13, .slice (some ⟨g, 0, none⟩) Ln.length lc), (22, .slice A' 1 C')]) rfl (by decide) (.cons rfl rfl (.cons rfl (by show some (Ent.ex (f 13).1) = _; rw [hx7]) .nil)) ?_
          refine S_append (ty := 0) tabOk 2 (m := Ln.length) (v := .slice (some ⟨g, 0, none⟩) Ln.length lc) (xs := cellsP Ln) (news := [.int .i64 q.to, .slice (f 12).2.1 q.bs.length (f 12).2.2]) rfl rfl rfl rfl rfl rfl rfl rfl rfl (by decide) (fun w' hw => Sl.of_own (hw.own _ (getE_mem (i := 6) rfl))) (by intro u hu; simp only [List.mem_cons, List.not_mem_nil, or_false] at hu; rcases hu with rfl | rfl <;> rfl) (by simp only [maxLen]; omega) (by show (_ + _) * 32 ≤ _; omega) rfl (fun AS CS hcS hdS => ⟨_, rfl, ?_⟩)
          refine S_nil ?_
          exact ⟨_, (none, 0), rfl, (fun u h => by cases h), fun w hw => hw⟩
      · exact fun L f hc hl hp => OpA.told (none, 0) rfl (D_pure tabOk rfl D_last) rfl
      · exact fun L f hc hl hp => OpA.told (none, 0) rfl (D_pure tabOk rfl D_last) rfl
      · intro L f hc hl hp
        have h12 : L 12 = true := hp ⟨12, .phase⟩ (by simp) rfl
        have h13 : L 13 = true := hp ⟨13, .phase⟩ (by simp) rfl
        have h14 : L 14 = true := hp ⟨14, .data⟩ (by simp) rfl
        show OpA _ _ _ _ (lst (L 12) (L 13) (L 14) (L 17) (f 12) (f 13) (f 14)) (fun y => lst (L 12) (L 13) (L 14) true (f 12) (f 13) (f 14)) _ _ _
        rw [hl, h12, h13, h14]
        refine OpA.pre (X := ∃ A C, (f 14).1 = .slice A (Ln.length + 1) C) (fun w hw => ?_) (fun d h => by cases h) ?_
        · obtain ⟨A, C, e2, _⟩ := hw.rowForm 2 rfl
          exact ⟨A, C, e2⟩
        · rintro ⟨A', C', e2⟩
          refine OpA.swap (dl' := [(25, .ex (.pointer (some ⟨b, 0, none⟩))), (23, .ex (f 14).1)]) (List.forall_mem_cons.2 ⟨rfl, List.forall_mem_cons.2 ⟨rfl, fun _ h => nomatch h⟩⟩) ?_
          generalize f 14 = x8 at *
          obtain ⟨x8, g8⟩ := x8
          dsimp only at e2
          subst e2
          exact OpS.toF (none, 0) (fun u h => by cases h) (OpS.store tabOk 1 rfl rfl (fun u h => by rw [List.mem_singleton] at h; subst h; rfl) rfl rfl rfl)
    · intro L f w5 hL hw
      change Hp _ _ (lst (L 12) (L 13) (L 14) (L 17) (f 12) (f 13) (f 14)) at hw
      rw [hL 12 (by decide), hL 13 (by decide), hL 14 (by decide), hL 17 (by decide)] at hw
      obtain ⟨A', C', e2, _⟩ := hw.rowForm 2 rfl
      generalize f 14 = x8 at hw e2 ⊢
      obtain ⟨x8, g8⟩ := x8
      have e3 : x8 = .slice A' (Ln.length + 1) C' := e2
      subst e3
      obtain ⟨y, hy⟩ : ∃ y, y = (f 12).2 := ⟨_, rfl⟩
      have hw6 : Hp w0 w5 ([knE w0 K G, .blk b (.cells ⟨[.slice A' (Ln.length + 1) C', .slice sa Sn.length sc]⟩ 131 (0, 0)) true, .row w0.heap.size (.slice A' (Ln.length + 1) C') 71 2 (Ln.length + 1) (cellsP Ln ++ [.int .i64 q.to, .slice y.1 q.bs.length y.2]), rowP w0 71 sa sc Sn, .row w0.heap.size (.slice y.1 q.bs.length y.2) 5 1 q.bs.length (q.bs.map (.int .u8)), factE ((f 12).1 = .agg ⟨[.int .i64 q.to, .slice y.1 q.bs.length y.2]⟩), .row w0.heap.size (f 13).1 71 2 1 [.int .i64 q.to, .slice y.1 q.bs.length y.2]] ++ rest) := by rw [hy]; exact hw
      obtain ⟨G2, hw8⟩ := Hp.snocK (p := (⟨q.to, q.bs, y.1, y.2⟩ : Pk)) (hw6.perm (pmG2 ..)) hqt hqb hqf
      have hw9 : Hp w0 w5 (knE w0 (K ++ [(⟨q.to, q.bs, y.1, y.2⟩ : Pk)]) G2 :: nbE 131 b A' (Ln ++ [(⟨q.to, q.bs, y.1, y.2⟩ : Pk)]).length C' sa Sn.length sc :: rowP w0 71 A' C' (Ln ++ [(⟨q.to, q.bs, y.1, y.2⟩ : Pk)]) :: rowP w0 71 sa sc Sn :: rest) := by
        unfold nbE rowP
        rw [cellsP_snoc Ln (⟨q.to, q.bs, y.1, y.2⟩ : Pk), show (Ln ++ [(⟨q.to, q.bs, y.1, y.2⟩ : Pk)]).length = Ln.length + 1 from List.length_append]
        exact hw8.less (by repeat (first | refine Less.keep ?_ | refine Less.dropR ?_ | refine Less.dropW (Nat.le_refl _) ?_ | exact Less.same _))
      refine ⟨[], _, SubD.nil, hw9, ?_⟩
      repeat (first | refine T_seq ?_ | refine T_region ?_ | refine S_nil ?_ | refine T_ret ?_ | refine S_pure tabOk rfl ?_)
      refine ret1 rfl rfl (fun w' hw => ⟨_, _, ⟨A', C', sa, sc, Ln ++ [⟨q.to, q.bs, y.1, y.2⟩], Sn⟩, rfl, hw.less (by repeat (first | refine Less.keep ?_ | exact Less.same _)), ⟨fun p hp => ?_, fun p hp => List.mem_append_left _ (hN.s p hp), ?_, Nat.le_succ_of_le hN.sn⟩, fun _ h => List.mem_append_left _ h, ?_⟩)
      · rcases List.mem_append.1 hp with hp | hp
        · exact List.mem_append_left _ (hN.l p hp)
        · exact List.mem_append_right _ hp
      · show (Ln ++ [_]).length ≤ _
        rw [List.length_append]
        show Ln.length + 1 ≤ _
        omega
      · unfold dblV
        rw [if_pos (by rw [show (Nt.v ⟨_, lc, _, sc, Ln, Sn⟩).1.length = Ln.length from List.length_map _]; exact he)]
        unfold Nt.v
        dsimp only
        rw [List.map_append, Int.toNat_natCast, List.getD_eq_getElem?_getD, List.getElem?_map, List.getElem?_eq_getElem hj, hq0]
        rfl
set_option maxHeartbeats 4000000 in
theorem nreplay_ok {w0 w : World} {b : Nat} {K : List Pk} {G : Nat → Prop} {N : Nt} {rest : OL} {k : Nat} (i : Int) (h : NetH w0 w 131 71 b K G N rest) (hN : N.ok K k) (hk : k ≤ 1000) : Calls Try.prog 42 #[.pointer (some ⟨b, 0, none⟩), .int .i64 i] w fun e w' => ∃ K' G' N', e = .returned (.int .i64 (if atV i N.v.2.length then 0 else 4)) ∧ NetQ w0 w' 131 71 b K N rest (k + 1) (repV N.v i) K' G' N' := by
  obtain ⟨la, lc, sa, sc, Ln, Sn⟩ := N
  have hln := hN.ln
  have hsn := hN.sn
  dsimp only at hln hsn
  rw [show (Nt.v ⟨la, lc, sa, sc, Ln, Sn⟩).2.length = Sn.length from List.length_map _]
  have hno : atV i Sn.length = false → repV (Nt.v ⟨la, lc, sa, sc, Ln, Sn⟩) i = Nt.v ⟨la, lc, sa, sc, Ln, Sn⟩ := fun he => by
    unfold repV
    rw [show (Nt.v ⟨la, lc, sa, sc, Ln, Sn⟩).2.length = Sn.length from List.length_map _, if_neg (by rw [he]; decide)]
  refine enterW2 Try.func42 rfl rfl h ?_
  repeat (first | refine T_seq ?_ | refine T_region ?_ | refine S_nil ?_ | refine S_pure tabOk rfl ?_)
  refine S_q (Q_eqptr tabOk rfl rfl rfl rfl rfl) ?_
  repeat (first | refine S_pure tabOk rfl ?_)
  cases he : atV i Sn.length with
  | false =>
    have he' : ¬ (0 ≤ i ∧ i < Sn.length) := of_decide_eq_false he
    by_cases h1 : i < 0
    · refine S_re 11 (v' := .bool true) rfl (congrArg Value.bool (decide_eq_true h1)) ?_
      repeat (first | refine S_nil ?_ | refine S_pure tabOk rfl ?_ | refine S_pass rfl rfl rfl ?_)
      refine T_cond_t rfl ?_
      repeat (first | refine T_seq ?_ | refine T_region ?_ | refine S_nil ?_ | refine pthen_ret ?_ | refine T_ret ?_ | refine S_pure tabOk rfl ?_)
      exact ret1 rfl rfl (fun w' hw => ⟨K, G, ⟨la, lc, sa, sc, Ln, Sn⟩, rfl, hw, ⟨hN.l, hN.s, Nat.le_succ_of_le hN.ln, Nat.le_succ_of_le hN.sn⟩, fun _ h => h, (hno he).symm⟩)
    · refine S_re 11 (v' := .bool false) rfl (congrArg Value.bool (decide_eq_false h1)) ?_
      repeat (first | refine S_nil ?_ | refine S_pure tabOk rfl ?_ | refine S_load tabOk 1 rfl rfl rfl ?_)
      refine T_cond_dec rfl (fun h2 => ?_) (fun h2 => by exfalso; dsimp only at h2; omega)
      repeat (first | refine T_seq ?_ | refine T_region ?_ | refine S_nil ?_ | refine pthen_ret ?_ | refine T_ret ?_ | refine S_pure tabOk rfl ?_)
      exact ret1 rfl rfl (fun w' hw => ⟨K, G, ⟨la, lc, sa, sc, Ln, Sn⟩, rfl, hw, ⟨hN.l, hN.s, Nat.le_succ_of_le hN.ln, Nat.le_succ_of_le hN.sn⟩, fun _ h => h, (hno he).symm⟩)
  | true =>
    have he' : 0 ≤ i ∧ i < Sn.length := of_decide_eq_true he
    refine S_re 11 (v' := .bool false) rfl (congrArg Value.bool (decide_eq_false (by omega))) ?_
    repeat (first | refine S_nil ?_ | refine S_pure tabOk rfl ?_ | refine S_load tabOk 1 rfl rfl rfl ?_)
    refine T_cond_dec rfl (fun h2 => by exfalso; dsimp only at h2; omega) (fun h2 => ?_)
    obtain ⟨j, rfl, hj⟩ := at_j he
    obtain ⟨q, hq0⟩ : ∃ q, q = Sn[j] := ⟨_, rfl⟩
    have hq : q ∈ K := by rw [hq0]; exact hN.s _ (List.getElem_mem hj)
    obtain ⟨hqt, hqb, hqf⟩ : Fits .i64 q.to ∧ q.bs.length ≤ 70000 ∧ ∀ z ∈ q.bs, Fits .u8 z := by
      have := (h.own _ List.mem_cons_self).1.1 q hq
      exact ⟨this.1, this.2.1, this.2.2.ints.fits⟩
    repeat (first | refine T_seq ?_ | refine pthen_normal ?_ | refine T_skip ?_)
    refine T_kn (X := ∃ g, sa = some ⟨g, 0, none⟩) (fun w hw => hw.rowA 3 (m := Sn.length) rfl (by omega)) (fun ⟨g, hg⟩ => ?_)
    subst hg
    let lst : Bool → Bool → Bool → Bool → Value × (Option Addr × Nat) → Value × (Option Addr × Nat) → Value × (Option Addr × Nat) → OL := fun l12 l13 l14 l17 x12 x13 x14 =>
      knE w0 K G :: .blk b (.cells ⟨[cond l17 x14.1 (.slice la Ln.length lc), .slice (some ⟨g, 0, none⟩) Sn.length sc]⟩ 131 (0, 0)) true :: .row w0.heap.size (cond l14 x14.1 (.slice la Ln.length lc)) 71 2 (cond l14 (Ln.length + 1) Ln.length) (cond l14 (cellsP Ln ++ [.int .i64 q.to, .slice x12.2.1 q.bs.length x12.2.2]) (cellsP Ln)) :: rowP w0 71 (some ⟨g, 0, none⟩) sc Sn :: (cond l12 [.row w0.heap.size (.slice x12.2.1 q.bs.length x12.2.2) 5 1 q.bs.length (q.bs.map (.int .u8)), factE (x12.1 = .agg ⟨[.int .i64 q.to, .slice x12.2.1 q.bs.length x12.2.2]⟩)] [] ++ (cond l13 [.row w0.heap.size x13.1 71 2 1 [.int .i64 q.to, .slice x12.2.1 q.bs.length x12.2.2]] [] ++ rest))
    refine T_drawF (γ := Option Addr × Nat) (by kernel_rfl) (by kernel_rfl) (none, 0) (fun L f => lst (L 12) (L 13) (L 14) (L 17) (f 12) (f 13) (f 14)) rfl [some (.pointer (some ⟨b, 0, none⟩)), some (.pointer (some ⟨b, 0, none⟩)), some (.pointer (some ⟨b, 0, none⟩)), some (.pointer (some ⟨b, 0, none⟩)), some (.slice la Ln.length lc), some (.pointer (some ⟨b, 0, none⟩)), some (.pointer (some ⟨b, 0, none⟩)), some (.pointer (some ⟨b, 1, none⟩)), some (.slice (some ⟨g, 0, none⟩) Sn.length sc), some (.int .i64 (j : Int)), some (.pointer (some ⟨g, 0 + j * 2, none⟩)), some (.agg ⟨cellP q⟩), none, none, none, some (.pointer (some ⟨b, 0, none⟩)), some (.pointer (some ⟨b, 0, none⟩)), none] ?_ ?_
    · refine ⟨?_, ?_, ?_, ?_, ?_, ?_, ?_, ?_, ?_, ?_, ?_, ?_, ?_, ?_, ?_, ?_, ?_, ?_, trivial⟩
      · exact fun L f hc hl hp => OpA.told (none, 0) rfl (D_pure tabOk rfl D_last) rfl
      · exact fun L f hc hl hp => OpA.told (none, 0) rfl (D_pure tabOk rfl D_last) rfl
      · exact fun L f hc hl hp => OpA.told (none, 0) rfl (D_pure tabOk rfl D_last) rfl
      · exact fun L f hc hl hp => OpA.told (none, 0) rfl (D_pure tabOk rfl D_last) rfl
      · intro L f hc hl hp
        have h14 := closed_no hc (j := 14) rfl ⟨4, .data⟩ (by simp) rfl hl
        have h17 := closed_no hc (j := 17) rfl ⟨4, .phase⟩ (by simp) rfl hl
        show OpA _ _ _ _ (lst (L 12) (L 13) (L 14) (L 17) (f 12) (f 13) (f 14)) (fun y => lst (L 12) (L 13) (L 14) (L 17) (f 12) (f 13) (f 14)) _ _ _
        rw [h14, h17]
        exact OpA.told (none, 0) rfl (D_load tabOk 1 rfl rfl rfl D_last) rfl
      · exact fun L f hc hl hp => OpA.told (none, 0) rfl (D_pure tabOk rfl D_last) rfl
      · exact fun L f hc hl hp => OpA.told (none, 0) rfl (D_pure tabOk rfl D_last) rfl
      · exact fun L f hc hl hp => OpA.told (none, 0) rfl (D_pure tabOk rfl D_last) rfl
      · intro L f hc hl hp
        have h10 := closed_no hc (j := 10) rfl ⟨8, .data⟩ (by simp) rfl hl
        have h11 := closed_no hc (j := 11) rfl ⟨10, .data⟩ (by simp) rfl h10
        have h12 := closed_no hc (j := 12) rfl ⟨11, .data⟩ (by simp) rfl h11
        have h13 := closed_no hc (j := 13) rfl ⟨12, .data⟩ (by simp) rfl h12
        have h14 := closed_no hc (j := 14) rfl ⟨12, .chain⟩ (by simp) rfl h12
        have h17 := closed_no hc (j := 17) rfl ⟨8, .phase⟩ (by simp) rfl hl
        show OpA _ _ _ _ (lst (L 12) (L 13) (L 14) (L 17) (f 12) (f 13) (f 14)) (fun y => lst (L 12) (L 13) (L 14) (L 17) (f 12) (f 13) (f 14)) _ _ _
        rw [h12, h13, h14, h17]
        exact OpA.told (none, 0) rfl (D_load tabOk 1 rfl rfl rfl D_last) rfl
      · exact fun L f hc hl hp => OpA.told (none, 0) rfl (D_pure tabOk rfl D_last) rfl
      · intro L f hc hl hp
        have h11 := closed_no hc (j := 11) rfl ⟨10, .data⟩ (by simp) rfl hl
        have h12 := closed_no hc (j := 12) rfl ⟨11, .data⟩ (by simp) rfl h11
        have h13 := closed_no hc (j := 13) rfl ⟨12, .data⟩ (by simp) rfl h12
        have h14 := closed_no hc (j := 14) rfl ⟨12, .chain⟩ (by simp) rfl h12
        have h17 := closed_no hc (j := 17) rfl ⟨10, .phase⟩ (by simp) rfl hl
        show OpA _ _ _ _ (lst (L 12) (L 13) (L 14) (L 17) (f 12) (f 13) (f 14)) (fun y => lst (L 12) (L 13) (L 14) (L 17) (f 12) (f 13) (f 14)) _ _ _
        rw [h12, h13, h14, h17]
        exact OpA.told (none, 0) rfl (D_q (Q_idx (sz := 2) tabOk rfl rfl rfl rfl rfl rfl rfl rfl (j := j) hj) D_last) rfl
      · intro L f hc hl hp
        have h12 := closed_no hc (j := 12) rfl ⟨11, .data⟩ (by simp) rfl hl
        have h13 := closed_no hc (j := 13) rfl ⟨12, .data⟩ (by simp) rfl h12
        have h14 := closed_no hc (j := 14) rfl ⟨12, .chain⟩ (by simp) rfl h12
        have h17 := closed_no hc (j := 17) rfl ⟨11, .phase⟩ (by simp) rfl hl
        show OpA _ _ _ _ (lst (L 12) (L 13) (L 14) (L 17) (f 12) (f 13) (f 14)) (fun y => lst (L 12) (L 13) (L 14) (L 17) (f 12) (f 13) (f 14)) _ _ _
        rw [h12, h13, h14, h17]
        exact OpA.told (none, 0) rfl (D_loadN tabOk (vs := cellP q) rfl rfl rfl (fun w' hw => by rw [hq0]; exact row_cellP hw 3 rfl hj) D_last) rfl
      · intro L f hc hl hp
        have h13 := closed_no hc (j := 13) rfl ⟨12, .data⟩ (by simp) rfl hl
        have h14 := closed_no hc (j := 14) rfl ⟨12, .chain⟩ (by simp) rfl hl
        have h17 := closed_no hc (j := 17) rfl ⟨12, .phase⟩ (by simp) rfl hl
        show OpA _ _ _ _ (lst (L 12) (L 13) (L 14) (L 17) (f 12) (f 13) (f 14)) (fun y => lst true (L 13) (L 14) (L 17) y (f 13) (f 14)) _ _ _
        rw [hl, h13, h14, h17]
        refine OpA.call rfl Try.call78 (fun w1 vs hw h => ?_)
        obtain ⟨u1, _, rfl, rfl, u2, _, rfl, rfl, rfl⟩ := h
        refine (own_ok w1 (okP.ints (hw.okP 0 rfl) hq) hqb).mono fun e w2 ⟨ra, rc, e1, hb2, hr⟩ => ⟨_, (ra, rc), e1, ?_⟩
        have hw2 := hw.fresh hb2 (x := .row w0.heap.size (.slice ra q.bs.length rc) 5 1 q.bs.length (q.bs.map (.int .u8))) (own_rebase hr hw.size) (fun j hj => (World.ownsRow.lt hr j hj).1)
        exact (hw2.addF rfl).perm (pmG0 ..)
      · intro L f hc hl hp
        have h12 : L 12 = true := hp ⟨12, .data⟩ (by simp) rfl
        have h14 := closed_no hc (j := 14) rfl ⟨13, .data⟩ (by simp) rfl hl
        have h17 := closed_no hc (j := 17) rfl ⟨13, .phase⟩ (by simp) rfl hl
        show OpA _ _ _ _ (lst (L 12) (L 13) (L 14) (L 17) (f 12) (f 13) (f 14)) (fun y => lst (L 12) true (L 14) (L 17) (f 12) y (f 14)) _ _ _
        rw [hl, h12, h14, h17]
        refine OpA.pre (X := (f 12).1 = .agg ⟨[.int .i64 q.to, .slice (f 12).2.1 q.bs.length (f 12).2.2]⟩) (fun w hw => hw.fact 5 rfl) (fun d h => by cases h; decide) (fun e6 => ?_)
        refine OpA.swap (dl' := [(32, .ex (f 12).1)]) (List.forall_mem_cons.2 ⟨rfl, fun _ h => nomatch h⟩) ?_
        generalize f 12 = x6 at *
        obtain ⟨x6, g6⟩ := x6
        dsimp only at e6
        subst e6
        exact OpA.bsliceR tabOk rfl rfl rfl rfl rfl rfl rfl rfl rfl rfl rfl rfl rfl rfl (fun w1 v hw1 => ⟨(none, 0), hw1.perm (pmG1 ..)⟩)
      · intro L f hc hl hp
        have h12 : L 12 = true := hp ⟨12, .chain⟩ (by simp) rfl
        have h13 : L 13 = true := hp ⟨13, .data⟩ (by simp) rfl
        have h17 := closed_no hc (j := 17) rfl ⟨14, .data⟩ (by simp) rfl hl
        show OpA _ _ _ _ (lst (L 12) (L 13) (L 14) (L 17) (f 12) (f 13) (f 14)) (fun y => lst (L 12) (L 13) true (L 17) (f 12) (f 13) y) _ _ _
        rw [hl, h12, h13, h17]
        refine OpA.pre (X := ∃ A C, (f 13).1 = .slice A 1 C) (fun w hw => ?_) (fun d h => by cases h; decide) ?_
        · obtain ⟨A, C, e2, _⟩ := hw.rowForm 6 rfl
          exact ⟨A, C, e2⟩
        · rintro ⟨A', C', e2⟩
          generalize hx7 : f 13 = x7
          rw [hx7] at e2
          obtain ⟨x7, g7⟩ := x7
          dsimp only at e2
          subst e2
          refine OpA.ofS (l := [(24, .slice la Ln.length lc), (33, .slice A' 1 C')]) rfl (by decide) (.cons rfl rfl (.cons rfl (by show some (Ent.ex (f 13).1) = _; rw [hx7]) .nil)) ?_
          refine S_append (ty := 0) tabOk 2 (m := Ln.length) (v := .slice la Ln.length lc) (xs := cellsP Ln) (news := [.int .i64 q.to, .slice (f 12).2.1 q.bs.length (f 12).2.2]) rfl rfl rfl rfl rfl rfl rfl rfl rfl (by decide) (fun w' hw => Sl.of_own (hw.own _ (getE_mem (i := 6) rfl))) (by intro u hu; simp only [List.mem_cons, List.not_mem_nil, or_false] at hu; rcases hu with rfl | rfl <;> rfl) (by simp only [maxLen]; omega) (by show (_ + _) * 32 ≤ _; omega) rfl (fun AS CS hcS hdS => ⟨_, rfl, ?_⟩)
          refine S_nil ?_
          exact ⟨_, (none, 0), rfl, (fun u h => by cases h), fun w hw => hw⟩
      · exact fun L f hc hl hp => OpA.told (none, 0) rfl (D_pure tabOk rfl D_last) rfl
      · exact fun L f hc hl hp => OpA.told (none, 0) rfl (D_pure tabOk rfl D_last) rfl
      · intro L f hc hl hp
        have h12 : L 12 = true := hp ⟨12, .phase⟩ (by simp) rfl
        have h13 : L 13 = true := hp ⟨13, .phase⟩ (by simp) rfl
        have h14 : L 14 = true := hp ⟨14, .data⟩ (by simp) rfl
        show OpA _ _ _ _ (lst (L 12) (L 13) (L 14) (L 17) (f 12) (f 13) (f 14)) (fun y => lst (L 12) (L 13) (L 14) true (f 12) (f 13) (f 14)) _ _ _
        rw [hl, h12, h13, h14]
        refine OpA.pre (X := ∃ A C, (f 14).1 = .slice A (Ln.length + 1) C) (fun w hw => ?_) (fun d h => by cases h) ?_
        · obtain ⟨A, C, e2, _⟩ := hw.rowForm 2 rfl
          exact ⟨A, C, e2⟩
        · rintro ⟨A', C', e2⟩
          refine OpA.swap (dl' := [(36, .ex (.pointer (some ⟨b, 0, none⟩))), (34, .ex (f 14).1)]) (List.forall_mem_cons.2 ⟨rfl, List.forall_mem_cons.2 ⟨rfl, fun _ h => nomatch h⟩⟩) ?_
          generalize f 14 = x8 at *
          obtain ⟨x8, g8⟩ := x8
          dsimp only at e2
          subst e2
          exact OpS.toF (none, 0) (fun u h => by cases h) (OpS.store tabOk 1 rfl rfl (fun u h => by rw [List.mem_singleton] at h; subst h; rfl) rfl rfl rfl)
    · intro L f w5 hL hw
      change Hp _ _ (lst (L 12) (L 13) (L 14) (L 17) (f 12) (f 13) (f 14)) at hw
      rw [hL 12 (by decide), hL 13 (by decide), hL 14 (by decide), hL 17 (by decide)] at hw
      obtain ⟨A', C', e2, _⟩ := hw.rowForm 2 rfl
      generalize f 14 = x8 at hw e2 ⊢
      obtain ⟨x8, g8⟩ := x8
      have e3 : x8 = .slice A' (Ln.length + 1) C' := e2
      subst e3
      obtain ⟨y, hy⟩ : ∃ y, y = (f 12).2 := ⟨_, rfl⟩
      have hw6 : Hp w0 w5 ([knE w0 K G, .blk b (.cells ⟨[.slice A' (Ln.length + 1) C', .slice (some ⟨g, 0, none⟩) Sn.length sc]⟩ 131 (0, 0)) true, .row w0.heap.size (.slice A' (Ln.length + 1) C') 71 2 (Ln.length + 1) (cellsP Ln ++ [.int .i64 q.to, .slice y.1 q.bs.length y.2]), rowP w0 71 (some ⟨g, 0, none⟩) sc Sn, .row w0.heap.size (.slice y.1 q.bs.length y.2) 5 1 q.bs.length (q.bs.map (.int .u8)), factE ((f 12).1 = .agg ⟨[.int .i64 q.to, .slice y.1 q.bs.length y.2]⟩), .row w0.heap.size (f 13).1 71 2 1 [.int .i64 q.to, .slice y.1 q.bs.length y.2]] ++ rest) := by rw [hy]; exact hw
      obtain ⟨G2, hw8⟩ := Hp.snocK (p := (⟨q.to, q.bs, y.1, y.2⟩ : Pk)) (hw6.perm (pmG2 ..)) hqt hqb hqf
      have hw9 : Hp w0 w5 (knE w0 (K ++ [(⟨q.to, q.bs, y.1, y.2⟩ : Pk)]) G2 :: nbE 131 b A' (Ln ++ [(⟨q.to, q.bs, y.1, y.2⟩ : Pk)]).length C' (some ⟨g, 0, none⟩) Sn.length sc :: rowP w0 71 A' C' (Ln ++ [(⟨q.to, q.bs, y.1, y.2⟩ : Pk)]) :: rowP w0 71 (some ⟨g, 0, none⟩) sc Sn :: rest) := by
        unfold nbE rowP
        rw [cellsP_snoc Ln (⟨q.to, q.bs, y.1, y.2⟩ : Pk), show (Ln ++ [(⟨q.to, q.bs, y.1, y.2⟩ : Pk)]).length = Ln.length + 1 from List.length_append]
        exact hw8.less (by repeat (first | refine Less.keep ?_ | refine Less.dropR ?_ | refine Less.dropW (Nat.le_refl _) ?_ | exact Less.same _))
      refine ⟨[], _, SubD.nil, hw9, ?_⟩
      repeat (first | refine T_seq ?_ | refine T_region ?_ | refine S_nil ?_ | refine T_ret ?_ | refine S_pure tabOk rfl ?_)
      refine ret1 rfl rfl (fun w' hw => ⟨_, _, ⟨A', C', some ⟨g, 0, none⟩, sc, Ln ++ [⟨q.to, q.bs, y.1, y.2⟩], Sn⟩, rfl, hw.less (by repeat (first | refine Less.keep ?_ | exact Less.same _)), ⟨fun p hp => ?_, fun p hp => List.mem_append_left _ (hN.s p hp), ?_, Nat.le_succ_of_le hN.sn⟩, fun _ h => List.mem_append_left _ h, ?_⟩)
      · rcases List.mem_append.1 hp with hp | hp
        · exact List.mem_append_left _ (hN.l p hp)
        · exact List.mem_append_right _ hp
      · show (Ln ++ [_]).length ≤ _
        rw [List.length_append]
        show Ln.length + 1 ≤ _
        omega
      · unfold repV
        rw [if_pos (by rw [show (Nt.v ⟨_, lc, _, sc, Ln, Sn⟩).2.length = Sn.length from List.length_map _]; exact he)]
        unfold Nt.v
        dsimp only
        rw [List.map_append, Int.toNat_natCast, List.getD_eq_getElem?_getD, List.getElem?_map, List.getElem?_eq_getElem hj, hq0]
        rfl
set_option maxHeartbeats 4000000 in
theorem nforge_ok {w0 w : World} {b : Nat} {K : List Pk} {G : Nat → Prop} {N : Nt} {rest : OL} {k : Nat} {q : Pk} (h : NetH w0 w 131 71 b K G N rest) (hN : N.ok K k) (hk : k ≤ 1000) (hp : q ∈ K) : Calls Try.prog 44 #[.pointer (some ⟨b, 0, none⟩), .agg ⟨cellP q⟩] w fun e w' => ∃ K' G' N', e = .returned (.int .i64 (forE N.v q.v)) ∧ NetQ w0 w' 131 71 b K N rest (k + 1) (forV N.v q.v) K' G' N' := by
  have hq : q ∈ K := hp
  obtain ⟨hqt, hqb, hqf⟩ : Fits .i64 q.to ∧ q.bs.length ≤ 70000 ∧ ∀ z ∈ q.bs, Fits .u8 z := by
    have := (h.own _ List.mem_cons_self).1.1 q hp
    exact ⟨this.1, this.2.1, this.2.2.ints.fits⟩
  obtain ⟨la, lc, sa, sc, Ln, Sn⟩ := N
  have hln := hN.ln
  have hsn := hN.sn
  dsimp only at hln hsn
  have hno : ¬ (errV q.v = 0 ∧ honV (Sn.map Pk.v) q.bs = true) → forV (Nt.v ⟨la, lc, sa, sc, Ln, Sn⟩) q.v = Nt.v ⟨la, lc, sa, sc, Ln, Sn⟩ := fun he => by
    unfold forV
    rw [if_neg (by exact he)]
  refine enterW2 Try.func44 rfl rfl h ?_
  repeat (first | refine T_seq ?_ | refine T_region ?_)
  refine S_new tabOk rfl (fun b1 hb1 => ?_)
  repeat (first | refine T_seq ?_ | refine T_region ?_ | refine S_nil ?_ | refine S_pure tabOk rfl ?_)
  refine S_q (Q_eqptr tabOk rfl rfl rfl rfl rfl) ?_
  repeat (first | refine S_nil ?_)
  refine T_cond_f rfl ?_
  repeat (first | refine T_seq ?_ | refine T_region ?_ | refine pthen_normal ?_ | refine T_skip ?_ | refine S_load tabOk 0 rfl rfl rfl ?_)
  refine S_callq rfl Try.call79 (fun w1 h1 => nerr_ok q w1) ?_
  repeat (first | refine T_seq ?_ | refine T_region ?_ | refine S_nil ?_ | refine S_pure tabOk rfl ?_)
  refine T_cond_dec rfl (fun he => ?_) (fun he => ?_)
  · have e : forE (Nt.v ⟨la, lc, sa, sc, Ln, Sn⟩) q.v = errV q.v := by unfold forE; rw [if_pos he]
    rw [e]
    repeat (first | refine T_seq ?_ | refine T_region ?_ | refine S_nil ?_ | refine pthen_ret ?_ | refine T_ret ?_ | refine S_pure tabOk rfl ?_)
    exact ret1 rfl rfl (fun w' hw => ⟨K, G, ⟨la, lc, sa, sc, Ln, Sn⟩, rfl, hw.less (by repeat (first | refine Less.keep ?_ | refine Less.dropB (by first | assumption | omega) ?_ | exact Less.same _)), ⟨hN.l, hN.s, Nat.le_succ_of_le hN.ln, Nat.le_succ_of_le hN.sn⟩, fun _ h => h, (hno fun h => he h.1).symm⟩)
  have he0 : errV q.v = 0 := Decidable.not_not.1 he
  repeat (first | refine T_seq ?_ | refine T_region ?_ | refine pthen_normal ?_ | refine T_skip ?_ | refine S_pure tabOk rfl ?_ | refine S_load tabOk 0 rfl rfl rfl ?_)
  refine S_callq (v := .bool (honV (Sn.map Pk.v) q.bs)) rfl Try.call81 (fun w1 h1 => nhonest_ok w1 (h1.own _ (getE_mem (i := 2) rfl)) (pk_slr (h1.own _ (getE_mem (i := 4) rfl)) (h1.okP 1 rfl) hN.s) (okP.ints (h1.okP 1 rfl) hp)) ?_
  repeat (first | refine S_nil ?_ | refine S_pure tabOk rfl ?_)
  cases hh : honV (Sn.map Pk.v) q.bs with
  | false =>
    have e : forE (Nt.v ⟨la, lc, sa, sc, Ln, Sn⟩) q.v = 11 := by
      unfold forE
      rw [if_neg he, if_neg (fun h => by have h2 : honV (Sn.map Pk.v) q.bs = true := h; rw [hh] at h2; cases h2)]
    rw [e]
    refine T_cond_t rfl ?_
    repeat (first | refine T_seq ?_ | refine T_region ?_ | refine S_nil ?_ | refine pthen_ret ?_ | refine T_ret ?_ | refine S_pure tabOk rfl ?_)
    exact ret1 rfl rfl (fun w' hw => ⟨K, G, ⟨la, lc, sa, sc, Ln, Sn⟩, rfl, hw.less (by repeat (first | refine Less.keep ?_ | refine Less.dropB (by first | assumption | omega) ?_ | exact Less.same _)), ⟨hN.l, hN.s, Nat.le_succ_of_le hN.ln, Nat.le_succ_of_le hN.sn⟩, fun _ h => h, (hno fun h => by rw [hh] at h; cases h.2).symm⟩)
  | true =>
    have e : forE (Nt.v ⟨la, lc, sa, sc, Ln, Sn⟩) q.v = 0 := by
      unfold forE
      rw [if_neg he, if_pos (by exact hh)]
    rw [e]
    refine T_cond_f rfl ?_
    repeat (first | refine T_seq ?_ | refine pthen_normal ?_ | refine T_skip ?_)
    let lst : Bool → Bool → Bool → Bool → Value × (Option Addr × Nat) → Value × (Option Addr × Nat) → Value × (Option Addr × Nat) → OL := fun l6 l7 l8 l11 x6 x7 x8 =>
      .blk b1 (.cells ⟨cellP q⟩ 71 (0, 0)) true :: knE w0 K G :: .blk b (.cells ⟨[cond l11 x8.1 (.slice la Ln.length lc), .slice sa Sn.length sc]⟩ 131 (0, 0)) true :: .row w0.heap.size (cond l8 x8.1 (.slice la Ln.length lc)) 71 2 (cond l8 (Ln.length + 1) Ln.length) (cond l8 (cellsP Ln ++ [.int .i64 q.to, .slice x6.2.1 q.bs.length x6.2.2]) (cellsP Ln)) :: rowP w0 71 sa sc Sn :: (cond l6 [.row w0.heap.size (.slice x6.2.1 q.bs.length x6.2.2) 5 1 q.bs.length (q.bs.map (.int .u8)), factE (x6.1 = .agg ⟨[.int .i64 q.to, .slice x6.2.1 q.bs.length x6.2.2]⟩)] [] ++ (cond l7 [.row w0.heap.size x7.1 71 2 1 [.int .i64 q.to, .slice x6.2.1 q.bs.length x6.2.2]] [] ++ rest))
    refine T_drawF (γ := Option Addr × Nat) (by kernel_rfl) (by kernel_rfl) (none, 0) (fun L f => lst (L 6) (L 7) (L 8) (L 11) (f 6) (f 7) (f 8)) rfl [some (.pointer (some ⟨b, 0, none⟩)), some (.pointer (some ⟨b, 0, none⟩)), some (.pointer (some ⟨b, 0, none⟩)), some (.pointer (some ⟨b, 0, none⟩)), some (.slice la Ln.length lc), some (.agg ⟨cellP q⟩), none, none, none, some (.pointer (some ⟨b, 0, none⟩)), some (.pointer (some ⟨b, 0, none⟩)), none] ?_ ?_
    · refine ⟨?_, ?_, ?_, ?_, ?_, ?_, ?_, ?_, ?_, ?_, ?_, ?_, trivial⟩
      · exact fun L f hc hl hp => OpA.told (none, 0) rfl (D_pure tabOk rfl D_last) rfl
      · exact fun L f hc hl hp => OpA.told (none, 0) rfl (D_pure tabOk rfl D_last) rfl
      · exact fun L f hc hl hp => OpA.told (none, 0) rfl (D_pure tabOk rfl D_last) rfl
      · exact fun L f hc hl hp => OpA.told (none, 0) rfl (D_pure tabOk rfl D_last) rfl
      · intro L f hc hl hp
        have h8 := closed_no hc (j := 8) rfl ⟨4, .data⟩ (by simp) rfl hl
        have h11 := closed_no hc (j := 11) rfl ⟨4, .phase⟩ (by simp) rfl hl
        show OpA _ _ _ _ (lst (L 6) (L 7) (L 8) (L 11) (f 6) (f 7) (f 8)) (fun y => lst (L 6) (L 7) (L 8) (L 11) (f 6) (f 7) (f 8)) _ _ _
        rw [h8, h11]
        exact OpA.told (none, 0) rfl (D_load tabOk 2 rfl rfl rfl D_last) rfl
      · intro L f hc hl hp
        have h6 := closed_no hc (j := 6) rfl ⟨5, .data⟩ (by simp) rfl hl
        have h7 := closed_no hc (j := 7) rfl ⟨6, .data⟩ (by simp) rfl h6
        have h8 := closed_no hc (j := 8) rfl ⟨6, .chain⟩ (by simp) rfl h6
        have h11 := closed_no hc (j := 11) rfl ⟨5, .phase⟩ (by simp) rfl hl
        show OpA _ _ _ _ (lst (L 6) (L 7) (L 8) (L 11) (f 6) (f 7) (f 8)) (fun y => lst (L 6) (L 7) (L 8) (L 11) (f 6) (f 7) (f 8)) _ _ _
        rw [h6, h7, h8, h11]
        exact OpA.told (none, 0) rfl (D_load tabOk 0 rfl rfl rfl D_last) rfl
      · intro L f hc hl hp
        have h7 := closed_no hc (j := 7) rfl ⟨6, .data⟩ (by simp) rfl hl
        have h8 := closed_no hc (j := 8) rfl ⟨6, .chain⟩ (by simp) rfl hl
        have h11 := closed_no hc (j := 11) rfl ⟨6, .phase⟩ (by simp) rfl hl
        show OpA _ _ _ _ (lst (L 6) (L 7) (L 8) (L 11) (f 6) (f 7) (f 8)) (fun y => lst true (L 7) (L 8) (L 11) y (f 7) (f 8)) _ _ _
        rw [hl, h7, h8, h11]
        refine OpA.call rfl Try.call78 (fun w1 vs hw h => ?_)
        obtain ⟨u1, _, rfl, rfl, u2, _, rfl, rfl, rfl⟩ := h
        refine (own_ok w1 (okP.ints (hw.okP 1 rfl) hq) hqb).mono fun e w2 ⟨ra, rc, e1, hb2, hr⟩ => ⟨_, (ra, rc), e1, ?_⟩
        have hw2 := hw.fresh hb2 (x := .row w0.heap.size (.slice ra q.bs.length rc) 5 1 q.bs.length (q.bs.map (.int .u8))) (own_rebase hr hw.size) (fun j hj => (World.ownsRow.lt hr j hj).1)
        exact (hw2.addF rfl).perm (pmG3 ..)
      · intro L f hc hl hp
        have h6 : L 6 = true := hp ⟨6, .data⟩ (by simp) rfl
        have h8 := closed_no hc (j := 8) rfl ⟨7, .data⟩ (by simp) rfl hl
        have h11 := closed_no hc (j := 11) rfl ⟨7, .phase⟩ (by simp) rfl hl
        show OpA _ _ _ _ (lst (L 6) (L 7) (L 8) (L 11) (f 6) (f 7) (f 8)) (fun y => lst (L 6) true (L 8) (L 11) (f 6) y (f 8)) _ _ _
        rw [hl, h6, h8, h11]
        refine OpA.pre (X := (f 6).1 = .agg ⟨[.int .i64 q.to, .slice (f 6).2.1 q.bs.length (f 6).2.2]⟩) (fun w hw => hw.fact 6 rfl) (fun d h => by cases h; decide) (fun e6 => ?_)
        refine OpA.swap (dl' := [(24, .ex (f 6).1)]) (List.forall_mem_cons.2 ⟨rfl, fun _ h => nomatch h⟩) ?_
        generalize f 6 = x6 at *
        obtain ⟨x6, g6⟩ := x6
        dsimp only at e6
        subst e6
        exact OpA.bsliceR tabOk rfl rfl rfl rfl rfl rfl rfl rfl rfl rfl rfl rfl rfl rfl (fun w1 v hw1 => ⟨(none, 0), hw1.perm (pmG4 ..)⟩)
      · intro L f hc hl hp
        have h6 : L 6 = true := hp ⟨6, .chain⟩ (by simp) rfl
        have h7 : L 7 = true := hp ⟨7, .data⟩ (by simp) rfl
        have h11 := closed_no hc (j := 11) rfl ⟨8, .data⟩ (by simp) rfl hl
        show OpA _ _ _ _ (lst (L 6) (L 7) (L 8) (L 11) (f 6) (f 7) (f 8)) (fun y => lst (L 6) (L 7) true (L 11) (f 6) (f 7) y) _ _ _
        rw [hl, h6, h7, h11]
        refine OpA.pre (X := ∃ A C, (f 7).1 = .slice A 1 C) (fun w hw => ?_) (fun d h => by cases h; decide) ?_
        · obtain ⟨A, C, e2, _⟩ := hw.rowForm 7 rfl
          exact ⟨A, C, e2⟩
        · rintro ⟨A', C', e2⟩
          generalize hx7 : f 7 = x7
          rw [hx7] at e2
          obtain ⟨x7, g7⟩ := x7
          dsimp only at e2
          subst e2
          refine OpA.ofS (l := [(22, .slice la Ln.length lc), (25, .slice A' 1 C')]) rfl (by decide) (.cons rfl rfl (.cons rfl (by show some (Ent.ex (f 7).1) = _; rw [hx7]) .nil)) ?_
          refine S_append (ty := 0) tabOk 3 (m := Ln.length) (v := .slice la Ln.length lc) (xs := cellsP Ln) (news := [.int .i64 q.to, .slice (f 6).2.1 q.bs.length (f 6).2.2]) rfl rfl rfl rfl rfl rfl rfl rfl rfl (by decide) (fun w' hw => Sl.of_own (hw.own _ (getE_mem (i := 7) rfl))) (by intro u hu; simp only [List.mem_cons, List.not_mem_nil, or_false] at hu; rcases hu with rfl | rfl <;> rfl) (by simp only [maxLen]; omega) (by show (_ + _) * 32 ≤ _; omega) rfl (fun AS CS hcS hdS => ⟨_, rfl, ?_⟩)
          refine S_nil ?_
          exact ⟨_, (none, 0), rfl, (fun u h => by cases h), fun w hw => hw⟩
      · exact fun L f hc hl hp => OpA.told (none, 0) rfl (D_pure tabOk rfl D_last) rfl
      · exact fun L f hc hl hp => OpA.told (none, 0) rfl (D_pure tabOk rfl D_last) rfl
      · intro L f hc hl hp
        have h6 : L 6 = true := hp ⟨6, .phase⟩ (by simp) rfl
        have h7 : L 7 = true := hp ⟨7, .phase⟩ (by simp) rfl
        have h8 : L 8 = true := hp ⟨8, .data⟩ (by simp) rfl
        show OpA _ _ _ _ (lst (L 6) (L 7) (L 8) (L 11) (f 6) (f 7) (f 8)) (fun y => lst (L 6) (L 7) (L 8) true (f 6) (f 7) (f 8)) _ _ _
        rw [hl, h6, h7, h8]
        refine OpA.pre (X := ∃ A C, (f 8).1 = .slice A (Ln.length + 1) C) (fun w hw => ?_) (fun d h => by cases h) ?_
        · obtain ⟨A, C, e2, _⟩ := hw.rowForm 3 rfl
          exact ⟨A, C, e2⟩
        · rintro ⟨A', C', e2⟩
          refine OpA.swap (dl' := [(28, .ex (.pointer (some ⟨b, 0, none⟩))), (26, .ex (f 8).1)]) (List.forall_mem_cons.2 ⟨rfl, List.forall_mem_cons.2 ⟨rfl, fun _ h => nomatch h⟩⟩) ?_
          generalize f 8 = x8 at *
          obtain ⟨x8, g8⟩ := x8
          dsimp only at e2
          subst e2
          exact OpS.toF (none, 0) (fun u h => by cases h) (OpS.store tabOk 2 rfl rfl (fun u h => by rw [List.mem_singleton] at h; subst h; rfl) rfl rfl rfl)
    · intro L f w5 hL hw
      change Hp _ _ (lst (L 6) (L 7) (L 8) (L 11) (f 6) (f 7) (f 8)) at hw
      rw [hL 6 (by decide), hL 7 (by decide), hL 8 (by decide), hL 11 (by decide)] at hw
      obtain ⟨A', C', e2, _⟩ := hw.rowForm 3 rfl
      generalize f 8 = x8 at hw e2 ⊢
      obtain ⟨x8, g8⟩ := x8
      have e3 : x8 = .slice A' (Ln.length + 1) C' := e2
      subst e3
      obtain ⟨y, hy⟩ : ∃ y, y = (f 6).2 := ⟨_, rfl⟩
      have hw6 : Hp w0 w5 ([.blk b1 (.cells ⟨cellP q⟩ 71 (0, 0)) true, knE w0 K G, .blk b (.cells ⟨[.slice A' (Ln.length + 1) C', .slice sa Sn.length sc]⟩ 131 (0, 0)) true, .row w0.heap.size (.slice A' (Ln.length + 1) C') 71 2 (Ln.length + 1) (cellsP Ln ++ [.int .i64 q.to, .slice y.1 q.bs.length y.2]), rowP w0 71 sa sc Sn, .row w0.heap.size (.slice y.1 q.bs.length y.2) 5 1 q.bs.length (q.bs.map (.int .u8)), factE ((f 6).1 = .agg ⟨[.int .i64 q.to, .slice y.1 q.bs.length y.2]⟩), .row w0.heap.size (f 7).1 71 2 1 [.int .i64 q.to, .slice y.1 q.bs.length y.2]] ++ rest) := by rw [hy]; exact hw
      obtain ⟨G2, hw8⟩ := Hp.snocK (p := (⟨q.to, q.bs, y.1, y.2⟩ : Pk)) (hw6.perm (pmG5 ..)) hqt hqb hqf
      have hw9 : Hp w0 w5 (knE w0 (K ++ [(⟨q.to, q.bs, y.1, y.2⟩ : Pk)]) G2 :: .blk b1 (.cells ⟨cellP q⟩ 71 (0, 0)) true :: nbE 131 b A' (Ln ++ [(⟨q.to, q.bs, y.1, y.2⟩ : Pk)]).length C' sa Sn.length sc :: rowP w0 71 A' C' (Ln ++ [(⟨q.to, q.bs, y.1, y.2⟩ : Pk)]) :: rowP w0 71 sa sc Sn :: rest) := by
        unfold nbE rowP
        rw [cellsP_snoc Ln (⟨q.to, q.bs, y.1, y.2⟩ : Pk), show (Ln ++ [(⟨q.to, q.bs, y.1, y.2⟩ : Pk)]).length = Ln.length + 1 from List.length_append]
        exact hw8.less (by repeat (first | refine Less.keep ?_ | refine Less.dropR ?_ | refine Less.dropW (Nat.le_refl _) ?_ | exact Less.same _))
      have hw9 := hw9.perm (List.Perm.swap _ _ _)
      refine ⟨[], _, SubD.nil, hw9, ?_⟩
      repeat (first | refine T_seq ?_ | refine T_region ?_ | refine S_nil ?_ | refine T_ret ?_ | refine S_pure tabOk rfl ?_)
      refine ret1 rfl rfl (fun w' hw => ⟨_, _, ⟨A', C', sa, sc, Ln ++ [⟨q.to, q.bs, y.1, y.2⟩], Sn⟩, rfl, hw.less (by repeat (first | refine Less.keep ?_ | refine Less.dropB (by first | assumption | omega) ?_ | exact Less.same _)), ⟨fun p hp => ?_, fun p hp => List.mem_append_left _ (hN.s p hp), ?_, Nat.le_succ_of_le hN.sn⟩, fun _ h => List.mem_append_left _ h, ?_⟩)
      · rcases List.mem_append.1 hp with hp | hp
        · exact List.mem_append_left _ (hN.l p hp)
        · exact List.mem_append_right _ hp
      · show (Ln ++ [_]).length ≤ _
        rw [List.length_append]
        show Ln.length + 1 ≤ _
        omega
      · unfold forV
        rw [if_pos ⟨he0, by exact hh⟩]
        unfold Nt.v
        dsimp only
        rw [List.map_append]
        rfl

section
variable {P : Program} {tb : Tab} {n : Nat} {w0 : World} {all : Array Oper} {os : List Oper} {o : Oper} {l : FL} {ol : OL} {K : FL → OL → Prop} {Q : Post} {d : Nat}
theorem run_append_in (w : World) (t ty e : TypeId) (i : TypeInfo) (ht : P.underlying t = some (.slice e)) (hi : P.info? e = some i) {g m c k c2 sz : Nat} {a : Addr} {cs cs' news : List Value} {E : TypeId} (hsz : i.size = sz) (hb : w.heap[g]? = some (.cells ⟨cs⟩ E (0, 0))) (hl : news.length = k * sz)
    (hnews : ∀ j u, news[j]? = some u → w.cell? (a.add j) = some u) (h1 : ∀ u ∈ news, u.oneCell' = true) (hm : setMany cs (m * sz) news = some cs') (hroom : m + k ≤ c) :
    (Builtin.append_ #[t, t] ty #[.slice (some ⟨g, 0, none⟩) m c, .slice (some a) k c2]).run P w = .ok (.slice (some ⟨g, 0, none⟩) (m + k) c) (w.setRow g ⟨cs'⟩) := by
  subst hsz
  obtain ⟨hle, rfl⟩ := setMany_eq hm
  have hfc := run_firstCells_some (P := P) w i.size k a k c2 news hl hnews
  have h3 := run_storeCells_at P g (m * i.size) E news 0 ⟨cs⟩ w hb (by simpa using hle) h1
  simp only [Nat.add_zero] at h3
  simp [Builtin.append_, run_underlying ht, sizeOf, typeInfo, hi, Builtin.lenOf, hroom, hfc, Addr.add_lit, h3]
/-- append within the block's room -/
theorem S_appendIn (ht : TabOk P tb) (j : Nat) {t e E : TypeId} {s x : Operand} {g m k c c2 sz : Nat} {a : Addr} {cs cs' news : List Value} {ti te : TI} {ol' : OL}
    (hs : opAt? n all (look l) o = some (d, .call ⟨.builtin .append, #[s, x], #[t, t]⟩)) (hv : ev (look l) s = some (.slice (some ⟨g, 0, none⟩) m c)) (hx : ev (look l) x = some (.slice (some a) k c2))
    (hi : getE ol j = some (.blk g (.cells ⟨cs⟩ E (0, 0)) true)) (hti : tl tb t = some ti) (hd : ti.desc = .slice e) (hte : tl tb e = some te) (hsz : te.size = sz)
    (hl : news.length = k * sz) (hr : ∀ w, Hp w0 w ol → ∀ j u, news[j]? = some u → w.cell? (a.add j) = some u) (h1 : ∀ u ∈ news, u.oneCell' = true) (hm : setMany cs (m * sz) news = some cs') (hroom : m + k ≤ c)
    (hput : putE ol j (.blk g (.cells ⟨cs'⟩ E (0, 0)) true) = some ol') (kk : S P n w0 all os ((d, .slice (some ⟨g, 0, none⟩) (m + k) c) :: l) ol' K Q) : S P n w0 all (o :: os) l ol K Q := by
  obtain ⟨hdst, hlt, hg, hop⟩ := opAt_spec hs
  refine ⟨fun ac w hf hh => ?_⟩
  obtain ⟨inf, hinf, hz, hs1, hs2⟩ := (ht e te hte).2
  have hu := ht.under' hti
  rw [hd] at hu
  have hb : w.heap[g]? = some (.cells ⟨cs⟩ E (0, 0)) := hh.own _ (getE_mem hi)
  have hrun := run_append_in (P := P) w t o.type e inf hu hinf (m := m) (c := c) (c2 := c2) (hs1.trans hsz) hb hl (hr w hh) h1 hm hroom
  obtain ⟨pre, post, e1, e2⟩ := putE_eq hi hput
  refine wpList_run (v := .slice (some ⟨g, 0, none⟩) (m + k) c) (gd_wanted hf.rd hg) ?_ ?_ (w' := w.setRow g ⟨cs'⟩)
  · unfold execOp
    simp [hop, resolve, invoke, builtin, hf.rd.ev hv, hf.rd.ev hx, hrun]
  · rw [hdst]
    refine kk.out _ _ (hf.put hlt _) ?_
    rw [e1] at hh
    rw [e2]
    exact hh.setRow rfl
/-- clear of one element -/
theorem S_clear1 (ht : TabOk P tb) (j : Nat) {t e E : TypeId} {x : Operand} {g off c : Nat} {cs cs' zs : List Value} {ti te : TI} {ol' : OL}
    (hdst : o.dst = none) (hg : gd all (look l) o.guard = some true) (hop : o.op = .call ⟨.builtin .clear, #[x], #[t]⟩) (hx : ev (look l) x = some (.slice (some ⟨g, off, none⟩) 1 c))
    (hi : getE ol j = some (.blk g (.cells ⟨cs⟩ E (0, 0)) true)) (hti : tl tb t = some ti) (hd : ti.desc = .slice e) (hte : tl tb e = some te) (hzs : (Builtin.zeroCells te.zero.cells 1).toList = zs) (h1 : ∀ u ∈ zs, u.oneCell' = true)
    (hm : setMany cs off zs = some cs') (hput : putE ol j (.blk g (.cells ⟨cs'⟩ E (0, 0)) true) = some ol') (kk : S P n w0 all os l ol' K Q) : S P n w0 all (o :: os) l ol K Q := by
  refine ⟨fun ac w hf hh => ?_⟩
  obtain ⟨inf, hinf, hz, hs1, hs2⟩ := (ht e te hte).2
  have hu := ht.under' hti
  rw [hd] at hu
  have hb : w.heap[g]? = some (.cells ⟨cs⟩ E (0, 0)) := hh.own _ (getE_mem hi)
  obtain ⟨hle, hcs⟩ := setMany_eq hm
  have h3 := run_storeCells_at P g off E zs 0 ⟨cs⟩ w hb (by simpa using hle) h1
  simp only [Nat.add_zero] at h3
  have hc2 : (cs.take off ++ (zs ++ cs.drop (off + zs.length))).toArray = (⟨cs'⟩ : Array Value) := by rw [hcs, List.append_assoc]
  obtain ⟨pre, post, e1, e2⟩ := putE_eq hi hput
  have hzv : (zeroValue e).run P w = .ok te.zero w := by simp [zeroValue, typeInfo, hinf, hz]
  refine wpList_run (v := .tuple #[]) (gd_wanted hf.rd hg) ?_ ?_ (w' := w.setRow g ⟨cs'⟩)
  · unfold execOp
    simp [hop, resolve, invoke, builtin, hf.rd.ev hx, Builtin.clear_, run_underlying hu, hzv, hzs, h3, hc2]
  · rw [hdst]
    refine kk.out _ _ hf ?_
    rw [e1] at hh
    rw [e2]
    exact hh.setRow rfl
end
theorem setMany_some : ∀ {cs : List Value} {off : Nat} {vs : List Value}, off + vs.length ≤ cs.length → setMany cs off vs = some (cs.take off ++ vs ++ cs.drop (off + vs.length))
  | cs, 0, [], h => by cases cs <;> simp [setMany]
  | c :: cs, 0, v :: vs, h => by
    have h2 : 0 + vs.length ≤ cs.length := by simp at h ⊢; omega
    simp only [setMany, setMany_some h2]
    simp
  | c :: cs, k + 1, vs, h => by
    have h2 : k + vs.length ≤ cs.length := by simp at h ⊢; omega
    simp only [setMany, setMany_some h2]
    simp [Nat.add_right_comm]
  | [], 0, v :: vs, h => by simp at h
  | [], k + 1, vs, h => by simp at h
set_option maxHeartbeats 4000000 in
theorem delete1_ok {w0 w : World} {rest : OL} {g n c i : Nat} {cs : List Value} (h : Hp w0 w (.blk g (.cells ⟨cs⟩ 71 (0, 0)) true :: rest)) (hi : i < n) (hn : n ≤ c) (hc : n ≤ 1000000) (hl : cs.length = c * 2) (h1 : ∀ u ∈ (cs.drop ((i + 1) * 2)).take ((n - (i + 1)) * 2), u.oneCell' = true) :
    Calls Try.prog 82 #[.slice (some ⟨g, 0, none⟩) n c, .int .i64 (i : Int), .int .i64 ((i + 1 : Nat) : Int)] w fun e w' => ∃ cs', e = .returned (.slice (some ⟨g, 0, none⟩) (n - 1) c) ∧ Hp w0 w' (.blk g (.cells ⟨cs'⟩ 71 (0, 0)) true :: rest) ∧ cs'.length = cs.length ∧ cs'.take ((n - 1) * 2) = cs.take (i * 2) ++ (cs.drop ((i + 1) * 2)).take ((n - 1 - i) * 2) := by
  refine enterW3 Try.func82 rfl rfl h ?_
  repeat (first | refine T_seq ?_ | refine T_region ?_ | refine S_nil ?_ | refine S_pure tabOk rfl ?_)
  refine S_q (Q_slice tabOk (L := i) (H := i + 1) (M := n) (sz := 2) rfl rfl rfl rfl rfl (fun _ => rfl) rfl rfl rfl rfl rfl rfl rfl (by omega) (by omega) hn (fun h => by cases h)) ?_
  repeat (first | refine T_seq ?_ | refine T_region ?_ | refine S_nil ?_ | refine S_pure tabOk rfl ?_)
  refine T_cond_dec rfl (fun h2 => by exfalso; omega) (fun h2 => ?_)
  repeat (first | refine T_seq ?_ | refine T_region ?_ | refine S_nil ?_ | refine pthen_normal ?_ | refine T_skip ?_ | refine S_pure tabOk rfl ?_)
  obtain ⟨A2, hA2, hsrc⟩ : ∃ A2 : Addr, (if c = i + 1 then (some ⟨g, 0, none⟩ : Option Addr) else some ⟨g, 0 + (i + 1) * 2, none⟩) = some A2 ∧ ∀ j u, ((cs.drop ((i + 1) * 2)).take ((n - (i + 1)) * 2))[j]? = some u → ∀ w : World, w.heap[g]? = some (.cells ⟨cs⟩ 71 (0, 0)) → w.cell? (A2.add j) = some u := by
    by_cases hci : c = i + 1
    · refine ⟨_, if_pos hci, fun j u hu => ?_⟩
      rw [show n - (i + 1) = 0 by omega, Nat.zero_mul, List.take_zero] at hu
      simp at hu
    · refine ⟨_, if_neg hci, fun j u hu w hw => ?_⟩
      rw [Addr.add_lit, cell_of_row w g _ _ _ (0, 0) hw]
      have hj := (List.getElem?_eq_some_iff.1 hu).1
      rw [List.length_take] at hj
      rw [List.getElem?_take_of_lt (by omega), List.getElem?_drop] at hu
      rw [Nat.zero_add]
      simpa using hu
  obtain ⟨news, hnews⟩ : ∃ l, l = (cs.drop ((i + 1) * 2)).take ((n - (i + 1)) * 2) := ⟨_, rfl⟩
  have hnl : news.length = (n - (i + 1)) * 2 := by rw [hnews, List.length_take, List.length_drop]; omega
  have hn1 : ∀ u ∈ news, u.oneCell' = true := fun u hu => h1 u (by rw [hnews] at hu; exact hu)
  rw [← hnews] at hsrc
  obtain ⟨cs1, hcs1⟩ : ∃ l, l = cs.take (i * 2) ++ news ++ cs.drop (i * 2 + news.length) := ⟨_, rfl⟩
  have hm1 : setMany cs (i * 2) news = some cs1 := by rw [hcs1]; exact setMany_some (by omega)
  have hl1 : cs1.length = cs.length := by rw [hcs1, List.length_append, List.length_append, List.length_take, List.length_drop]; omega
  have hin : i + (n - (i + 1)) = n - 1 := by omega
  let lst : Bool → OL := fun l6 =>
    .blk g (.cells ⟨cond l6 cs1 cs⟩ 71 (0, 0)) true :: rest
  refine T_drawF (γ := Unit) (by kernel_rfl) (by kernel_rfl) () (fun L f => lst (L 6)) rfl [some (.slice (some ⟨g, 0, none⟩) n c), some (.int .i64 (i : Int)), some (.slice (some ⟨g, 0, none⟩) i c), some (.slice (some ⟨g, 0, none⟩) n c), some (.int .i64 ((i + 1 : Nat) : Int)), some (.slice (some A2) (n - (i + 1)) (c - (i + 1))), some (.slice (some ⟨g, 0, none⟩) (n - 1) c), some (.slice (some ⟨g, 0, none⟩) (n - 1) c)] ?_ ?_
  · refine ⟨?_, ?_, ?_, ?_, ?_, ?_, ?_, ?_, trivial⟩
    · exact fun L f hc hl hp => OpA.told () rfl (D_pure tabOk rfl D_last) rfl
    · exact fun L f hc hl hp => OpA.told () rfl (D_pure tabOk rfl D_last) rfl
    · intro L f hc hl hp
      have h6 := closed_no hc (j := 6) rfl ⟨2, .data⟩ (by simp) rfl hl
      show OpA _ _ _ _ (lst (L 6)) (fun y => lst (L 6)) _ _ _
      rw [h6]
      exact OpA.told () rfl (D_q (Q_sliceTo tabOk rfl rfl rfl rfl rfl rfl rfl (by omega)) D_last) rfl
    · exact fun L f hc hl hp => OpA.told () rfl (D_pure tabOk rfl D_last) rfl
    · exact fun L f hc hl hp => OpA.told () rfl (D_pure tabOk rfl D_last) rfl
    · intro L f hc hl hp
      have h6 := closed_no hc (j := 6) rfl ⟨5, .data⟩ (by simp) rfl hl
      show OpA _ _ _ _ (lst (L 6)) (fun y => lst (L 6)) _ _ _
      rw [h6]
      exact OpA.told () rfl (D_q ((Q_sliceFrom tabOk (L := i + 1) (sz := 2) rfl rfl rfl rfl rfl rfl rfl rfl (by omega) hn).eq (by rw [← hA2]; rfl)) D_last) rfl
    · intro L f hc hl hp
      show OpA _ _ _ _ (lst (L 6)) (fun y => lst true) _ _ _
      rw [hl]
      refine OpA.ofS (l := [(22, .slice (some ⟨g, 0, none⟩) i c), (25, .slice (some A2) (n - (i + 1)) (c - (i + 1)))]) rfl (by decide) (.cons rfl rfl (.cons rfl rfl .nil)) ?_
      refine S_appendIn tabOk 0 (sz := 2) (cs := cs) (cs' := cs1) (news := news) rfl rfl rfl rfl rfl rfl rfl rfl hnl (fun w hw j u hu => hsrc j u hu w (hw.own _ (getE_mem (i := 0) rfl))) hn1 hm1 (by omega) rfl ?_
      refine S_nil ?_
      exact ⟨_, (), rfl, (fun u h => by cases h; rw [hin]), fun w hw => hw⟩
    · exact fun L f hc hl hp => OpA.told () rfl (D_pure tabOk rfl D_last) rfl
  · intro L f w5 hL hw
    change Hp _ _ (lst (L 6)) at hw
    rw [hL 6 (by decide)] at hw
    refine ⟨[(0, .slice (some ⟨g, 0, none⟩) (n - 1) c), (7, .int .i64 (n : Int))], .blk g (.cells ⟨cs1⟩ 71 (0, 0)) true :: rest, (by repeat (first | exact SubD.nil | refine SubD.cons rfl ?_)), hw, ?_⟩
    repeat (first | refine T_seq ?_ | refine T_region ?_ | refine S_pure tabOk rfl ?_)
    refine S_q ((Q_slice tabOk (L := n - 1) (H := n) (M := c) (sz := 2) rfl rfl rfl rfl rfl (fun h => by cases h) rfl rfl rfl rfl rfl rfl rfl (by omega) hn (Nat.le_refl _) (fun h => by cases h)).eq (v' := .slice (some ⟨g, (n - 1) * 2, none⟩) 1 (c - (n - 1))) (by rw [if_neg (by omega), Option.map_some, Addr.add_lit, Nat.zero_add, show n - (n - 1) = 1 by omega])) ?_
    obtain ⟨cs2, hcs2⟩ : ∃ l, l = cs1.take ((n - 1) * 2) ++ [.int .i64 0, .slice none 0 0] ++ cs1.drop ((n - 1) * 2 + 2) := ⟨_, rfl⟩
    have hm2 : setMany cs1 ((n - 1) * 2) [.int .i64 0, .slice none 0 0] = some cs2 := by rw [hcs2]; exact setMany_some (by rw [hl1, hl]; show _ + 2 ≤ _; omega)
    refine S_clear1 tabOk 0 rfl rfl rfl rfl rfl rfl rfl rfl (zs := [.int .i64 0, .slice none 0 0]) (by kernel_rfl) (fun u hu => by simp only [List.mem_cons, List.not_mem_nil, or_false] at hu; rcases hu with rfl | rfl <;> rfl) hm2 rfl ?_
    repeat (first | refine T_seq ?_ | refine T_region ?_ | refine S_nil ?_ | refine T_ret ?_ | refine S_pure tabOk rfl ?_)
    refine ret1 rfl rfl (fun w' hw => ⟨cs2, rfl, hw, ?_, ?_⟩)
    · rw [hcs2, List.length_append, List.length_append, List.length_take, List.length_drop, hl1]
      show min ((n - 1) * 2) cs.length + 2 + _ = _
      omega
    · have e1 : (cs1.take ((n - 1) * 2)).length = (n - 1) * 2 := by rw [List.length_take, hl1]; omega
      rw [hcs2, List.append_assoc, List.take_append_of_le_length (by omega), List.take_of_length_le (by omega), hcs1]
      have e2 : (cs.take (i * 2) ++ news).length = (n - 1) * 2 := by rw [List.length_append, List.length_take]; omega
      rw [List.take_append_of_le_length (by omega), List.take_of_length_le (by omega), hnews, show n - (i + 1) = n - 1 - i by omega]

theorem cellsP_app (l m : List Pk) : cellsP (l ++ m) = cellsP l ++ cellsP m := by unfold cellsP; rw [List.map_append, List.flatten_append]
theorem cellsP_split (l : List Pk) (j : Nat) (h : j ≤ l.length) : (cellsP l).take (j * 2) = cellsP (l.take j) ∧ (cellsP l).drop (j * 2) = cellsP (l.drop j) := by
  have e : cellsP l = cellsP (l.take j) ++ cellsP (l.drop j) := by rw [← cellsP_app, List.take_append_drop]
  have hl : (cellsP (l.take j)).length = j * 2 := by rw [cellsP_len, List.length_take]; omega
  rw [e]
  exact ⟨by rw [List.take_append_of_le_length (by omega), List.take_of_length_le (by omega)], by rw [List.drop_append_of_le_length (by omega), List.drop_of_length_le (by omega), List.nil_append]⟩
theorem cellsP_one (l : List Pk) : ∀ u ∈ cellsP l, u.oneCell' = true := fun u hu => by
  obtain ⟨cs, hcs, h⟩ := List.mem_flatten.1 hu
  obtain ⟨p, _, rfl⟩ := List.mem_map.1 hcs
  simp only [List.mem_cons, List.not_mem_nil, or_false] at h
  rcases h with rfl | rfl <;> rfl
theorem cellsP_erase (l : List Pk) (junk : List Value) (j : Nat) (h : j < l.length) : (cellsP l ++ junk).take (j * 2) ++ ((cellsP l ++ junk).drop ((j + 1) * 2)).take ((l.length - 1 - j) * 2) = cellsP (l.eraseIdx j) ∧ ((cellsP l ++ junk).drop ((j + 1) * 2)).take ((l.length - (j + 1)) * 2) = cellsP (l.drop (j + 1)) := by
  have h1 := cellsP_split l j (by omega)
  have h2 := cellsP_split l (j + 1) (by omega)
  have hl := cellsP_len l
  have e2 : ((cellsP l ++ junk).drop ((j + 1) * 2)).take ((l.length - (j + 1)) * 2) = cellsP (l.drop (j + 1)) := by
    rw [List.drop_append_of_le_length (by omega), h2.2]
    have : (cellsP (l.drop (j + 1))).length = (l.length - (j + 1)) * 2 := by rw [cellsP_len, List.length_drop]
    rw [List.take_append_of_le_length (by omega), List.take_of_length_le (by omega)]
  refine ⟨?_, e2⟩
  rw [show l.length - 1 - j = l.length - (j + 1) by omega, e2, List.take_append_of_le_length (by omega), h1.1, ← cellsP_app, List.eraseIdx_eq_take_drop_succ]
theorem pmI0 {α : Type} (x0 x1 x2 x3 x4 x5 : α) (r : List α) : List.Perm (x0 :: x1 :: x2 :: x3 :: x4 :: x5 :: r) (x4 :: x0 :: x1 :: x2 :: x3 :: x5 :: r) := by
  have hP : List.Perm ([0, 1, 2, 3, 4, 5] : List Nat) [4, 0, 1, 2, 3, 5] := by decide
  exact (hP.map fun i => ([x0, x1, x2, x3, x4, x5][i]?).getD x0).append_right r
theorem pmI1 {α : Type} (x0 x1 x2 x3 x4 x5 : α) (r : List α) : List.Perm (x0 :: x1 :: x2 :: x3 :: x4 :: x5 :: r) (x3 :: x4 :: x0 :: x5 :: x1 :: x2 :: r) := by
  have hP : List.Perm ([0, 1, 2, 3, 4, 5] : List Nat) [3, 4, 0, 5, 1, 2] := by decide
  exact (hP.map fun i => ([x0, x1, x2, x3, x4, x5][i]?).getD x0).append_right r
def delV (x : V2) (i : Int) : V2 := if atV i x.1.length then (x.1.eraseIdx i.toNat, x.2) else x
/-- what is told: the packet -/
def delP (N : Nt) (i : Int) : Pk := if atV i N.L.length then N.L.getD i.toNat ⟨0, [], none, 0⟩ else ⟨0, [], none, 0⟩
set_option maxHeartbeats 4000000 in
theorem ndeliver_ok {w0 w : World} {b : Nat} {K : List Pk} {G : Nat → Prop} {N : Nt} {rest : OL} {k : Nat} (i : Int) (h : NetH w0 w 131 71 b K G N rest) (hN : N.ok K k) (hk : k ≤ 1000) : Calls Try.prog 43 #[.pointer (some ⟨b, 0, none⟩), .int .i64 i] w fun e w' => ∃ N', e = .returned (.tuple #[.agg ⟨cellP (delP N i)⟩, .int .i64 (if atV i N.v.1.length then 0 else 4)]) ∧ NetQ w0 w' 131 71 b K N rest k (delV N.v i) K G N' := by
  obtain ⟨la, lc, sa, sc, Ln, Sn⟩ := N
  have hln := hN.ln
  dsimp only at hln
  rw [show (Nt.v ⟨la, lc, sa, sc, Ln, Sn⟩).1.length = Ln.length from List.length_map _]
  refine enterW2 Try.func43 rfl rfl h ?_
  repeat (first | refine T_seq ?_ | refine T_region ?_)
  refine S_new tabOk rfl (fun b4 hb4 => ?_)
  repeat (first | refine T_seq ?_ | refine T_region ?_ | refine S_nil ?_ | refine S_pure tabOk rfl ?_)
  refine S_callq (v := .bool (atV i Ln.length)) rfl Try.call80 (fun w1 h1 => nat_ok i w1 (h1.own _ (getE_mem (i := 2) rfl))) ?_
  repeat (first | refine S_nil ?_ | refine S_pure tabOk rfl ?_)
  cases he : atV i Ln.length with
  | false =>
    refine T_cond_t rfl ?_
    have e : delP ⟨la, lc, sa, sc, Ln, Sn⟩ i = ⟨0, [], none, 0⟩ := by unfold delP; rw [if_neg (by rw [he]; decide)]
    rw [e]
    repeat (first | refine T_seq ?_ | refine T_region ?_ | refine S_nil ?_ | refine pthen_ret ?_ | refine T_ret ?_ | refine S_pure tabOk rfl ?_ | refine S_store tabOk 0 rfl rfl rfl rfl rfl rfl ?_ | refine S_q (Q_build tabOk rfl rfl rfl rfl rfl rfl rfl) ?_)
    exact ret2 rfl (ResIs.cellO tabOk 0 rfl rfl rfl rfl) rfl (fun w' hw => ⟨⟨la, lc, sa, sc, Ln, Sn⟩, rfl, ⟨hw.less (by repeat (first | refine Less.keep ?_ | refine Less.dropB (by first | assumption | omega) ?_ | exact Less.same _)), hN, fun _ h => h, by unfold delV; rw [if_neg (by rw [show (Nt.v ⟨la, lc, sa, sc, Ln, Sn⟩).1.length = Ln.length from List.length_map _, he]; decide)]⟩⟩)
  | true =>
    refine T_cond_f rfl ?_
    obtain ⟨j, rfl, hj⟩ := at_j he
    obtain ⟨q, hq0⟩ : ∃ q, q = Ln[j] := ⟨_, rfl⟩
    have e : delP ⟨la, lc, sa, sc, Ln, Sn⟩ (j : Int) = q := by
      unfold delP
      rw [if_pos he, Int.toNat_natCast, List.getD_eq_getElem?_getD, List.getElem?_eq_getElem hj, hq0]
      rfl
    rw [e]
    refine T_kn (X := ∃ g, la = some ⟨g, 0, none⟩) (fun w hw => hw.rowA 3 (m := Ln.length) rfl (by omega)) (fun ⟨g, hg⟩ => ?_)
    subst hg
    repeat (first | refine T_seq ?_ | refine T_region ?_ | refine pthen_normal ?_ | refine T_skip ?_ | refine S_pure tabOk rfl ?_ | refine S_load tabOk 2 rfl rfl rfl ?_)
    refine S_q (Q_idx (sz := 2) tabOk rfl rfl rfl rfl rfl rfl rfl rfl (j := j) hj) ?_
    refine S_loadN tabOk (vs := cellP q) rfl rfl rfl (fun w' hw => by rw [hq0]; exact row_cellP hw 3 rfl hj) ?_
    skip
    refine S_new tabOk rfl (fun b6 hb6 => ?_)
    repeat (first | refine T_seq ?_ | refine T_region ?_ | refine S_nil ?_ | refine S_i64 tabOk rfl (by omega) ?_ | refine S_pure tabOk rfl ?_ | refine S_load tabOk 3 rfl rfl rfl ?_ | refine S_store tabOk 0 rfl rfl rfl rfl rfl rfl ?_)
    refine S_heap (ol' := rowP w0 71 (some ⟨g, 0, none⟩) lc Ln :: .blk b6 (.cells ⟨cellP q⟩ 71 (0, 0)) true :: .blk b4 (.cells ⟨[.int .i64 0, .slice none 0 0]⟩ 71 (0, 0)) true :: knE w0 K G :: nbE 131 b (some ⟨g, 0, none⟩) Ln.length lc sa Sn.length sc :: rowP w0 71 sa sc Sn :: rest) (fun w hw => hw.perm (pmI0 ..)) ?_
    refine S_openRow (by omega) (fun g2 junk hg hbg hmc hxl hjl hcm => ?_)
    cases hg
    refine S_call rfl Try.call82 (fun w1 h1 => (delete1_ok h1 hj hmc (by omega) hjl (by
      rw [(cellsP_erase Ln junk j hj).2]
      exact cellsP_one _)).mono fun e w' ⟨cs', e1, h2, e2, e3⟩ => ⟨_, _, e1, h2, ?_⟩)
    rw [(cellsP_erase Ln junk j hj).1] at e3
    have hel : (Ln.eraseIdx j).length = Ln.length - 1 := List.length_eraseIdx_of_lt hj
    refine S_heap (fun w hw => Hp.closeRow (pre := []) (n := Ln.length - 1) (c := lc) (sz := 2) hw hbg (by omega) hcm (by rw [e2, hjl])) ?_
    rw [e3]
    repeat (first | refine T_seq ?_ | refine T_region ?_ | refine S_nil ?_ | refine T_ret ?_ | refine S_pure tabOk rfl ?_ | refine S_load tabOk 1 rfl rfl rfl ?_ | refine S_store tabOk 2 rfl rfl rfl rfl rfl rfl ?_ | refine S_store tabOk 4 rfl rfl rfl rfl rfl rfl ?_)
    refine ret2 rfl (ResIs.cellO tabOk 2 rfl rfl rfl rfl) rfl (fun w' hw => ⟨⟨some ⟨g, 0, none⟩, lc, sa, sc, Ln.eraseIdx j, Sn⟩, rfl, ⟨?_, ⟨fun p hp => hN.l p (List.mem_of_mem_eraseIdx hp), hN.s, by show (Ln.eraseIdx j).length ≤ _; omega, hN.sn⟩, fun _ h => h, ?_⟩⟩)
    · show Hp w0 w' (knE w0 K G :: nbE 131 b (some ⟨g, 0, none⟩) (Ln.eraseIdx j).length lc sa Sn.length sc :: .row w0.heap.size (.slice (some ⟨g, 0, none⟩) (Ln.eraseIdx j).length lc) 71 2 (Ln.eraseIdx j).length (cellsP (Ln.eraseIdx j)) :: rowP w0 71 sa sc Sn :: rest)
      rw [hel]
      exact (hw.perm (pmI1 ..)).less (by repeat (first | refine Less.keep ?_ | refine Less.dropB (by first | assumption | omega) ?_ | exact Less.same _))
    · unfold delV
      rw [if_pos (by rw [show (Nt.v ⟨_, lc, sa, sc, Ln, Sn⟩).1.length = Ln.length from List.length_map _]; exact he), Int.toNat_natCast]
      unfold Nt.v
      dsimp only
      rw [List.eraseIdx_eq_take_drop_succ, List.eraseIdx_eq_take_drop_succ, List.map_append, List.map_take, List.map_drop]
set_option maxHeartbeats 1000000 in
theorem ndrop_ok {w0 w : World} {b : Nat} {K : List Pk} {G : Nat → Prop} {N : Nt} {rest : OL} {k : Nat} (i : Int) (h : NetH w0 w 131 71 b K G N rest) (hN : N.ok K k) (hk : k ≤ 1000) : Calls Try.prog 41 #[.pointer (some ⟨b, 0, none⟩), .int .i64 i] w fun e w' => ∃ N', e = .returned (.int .i64 (if atV i N.v.1.length then 0 else 4)) ∧ NetQ w0 w' 131 71 b K N rest k (delV N.v i) K G N' := by
  refine enterW2 Try.func41 rfl rfl h ?_
  repeat (first | refine T_seq ?_ | refine T_region ?_ | refine S_nil ?_ | refine S_pure tabOk rfl ?_)
  refine S_call rfl Try.call43 (fun w1 h1 => (ndeliver_ok i h1 hN hk).mono fun e w' ⟨N', e1, h2⟩ => ⟨_, _, e1, h2.h, ?_⟩)
  repeat (first | refine S_pure tabOk rfl ?_)
  refine S_new tabOk rfl (fun b5 hb5 => ?_)
  repeat (first | refine T_seq ?_ | refine T_region ?_ | refine S_nil ?_ | refine T_ret ?_ | refine S_pure tabOk rfl ?_ | refine S_store tabOk 0 rfl rfl rfl rfl rfl rfl ?_)
  exact ret1 rfl rfl (fun w' hw => ⟨N', rfl, hw.less (by repeat (first | refine Less.keep ?_ | refine Less.dropB (by first | assumption | omega) ?_ | exact Less.same _)), h2.ok, h2.k, h2.v⟩)

theorem pmJ1 {α : Type} (x0 x1 x2 x3 x4 : α) (r : List α) : List.Perm (x0 :: x1 :: x2 :: x3 :: x4 :: r) (x1 :: x2 :: x3 :: x4 :: x0 :: r) := by
  have hP : List.Perm ([0, 1, 2, 3, 4] : List Nat) [1, 2, 3, 4, 0] := by decide
  exact (hP.map fun i => ([x0, x1, x2, x3, x4][i]?).getD x0).append_right r
def okP0 (K : List Pk) : Prop := ∀ p ∈ K, Fits .i64 p.to ∧ p.bs.length ≤ 70000 ∧ ∀ z ∈ p.bs, Fits .u8 z
theorem okP.fit {K : List Pk} {G : Nat → Prop} {w : World} (h : okP w G K) : okP0 K := fun p hp => ⟨(h p hp).1, (h p hp).2.1, (h p hp).2.2.ints.fits⟩
theorem nlist0 (w : World) : Calls Try.prog 36 #[.pointer none] w fun e w' => e = .returned (.slice none 0 0) ∧ Below w.heap.size w w' := by
  refine enter1 Try.func36 rfl rfl (Hp.refl w) ?_
  repeat (first | refine T_seq ?_ | refine T_region ?_ | refine S_nil ?_ | refine S_pure tabOk rfl ?_)
  refine S_q (Q_eqptr tabOk rfl rfl rfl rfl rfl) ?_
  repeat (first | refine T_seq ?_ | refine T_region ?_ | refine S_nil ?_ | refine pthen_ret ?_ | refine T_ret ?_ | refine T_cond_t rfl ?_ | refine S_pure tabOk rfl ?_)
  exact ret1 rfl rfl (fun w' hw => ⟨rfl, hw.below (by repeat (first | exact new_nil))⟩)

theorem pmK0 {α : Type} (x0 x1 x2 x3 x4 x5 : α) (r : List α) : List.Perm (x0 :: x1 :: x2 :: x3 :: x4 :: x5 :: r) (x1 :: x0 :: x2 :: x3 :: x4 :: x5 :: r) := by
  have hP : List.Perm ([0, 1, 2, 3, 4, 5] : List Nat) [1, 0, 2, 3, 4, 5] := by decide
  exact (hP.map fun i => ([x0, x1, x2, x3, x4, x5][i]?).getD x0).append_right r
theorem pmK1 {α : Type} (x0 x1 x2 x3 x4 x5 : α) (r : List α) : List.Perm (x0 :: x1 :: x2 :: x3 :: x4 :: x5 :: r) (x4 :: x0 :: x1 :: x2 :: x3 :: x5 :: r) := by
  have hP : List.Perm ([0, 1, 2, 3, 4, 5] : List Nat) [4, 0, 1, 2, 3, 5] := by decide
  exact (hP.map fun i => ([x0, x1, x2, x3, x4, x5][i]?).getD x0).append_right r
theorem pmK2 {α : Type} (x0 x1 x2 x3 x4 x5 : α) (r : List α) : List.Perm (x0 :: x1 :: x2 :: x3 :: x4 :: x5 :: r) (x3 :: x1 :: x4 :: x0 :: x5 :: x2 :: r) := by
  have hP : List.Perm ([0, 1, 2, 3, 4, 5] : List Nat) [3, 1, 4, 0, 5, 2] := by decide
  exact (hP.map fun i => ([x0, x1, x2, x3, x4, x5][i]?).getD x0).append_right r
def turB (bs : List Int) (at_ by_ : Int) : List Int := bs.set (at_ % bs.length).toNat (bx (bs.getD (at_ % bs.length).toNat 0) by_)
open Classical in
noncomputable def turE (x : V2) (i at_ by_ : Int) : Int := if atV i x.1.length = true then (if (x.1.getD i.toNat (0, [])).2 = [] then 0 else if honV x.2 (turB (x.1.getD i.toNat (0, [])).2 at_ by_) = true then 0 else 11) else 4
open Classical in
noncomputable def turV (x : V2) (i at_ by_ : Int) : V2 := if atV i x.1.length = true ∧ (x.1.getD i.toNat (0, [])).2 ≠ [] ∧ honV x.2 (turB (x.1.getD i.toNat (0, [])).2 at_ by_) = true then (x.1.set i.toNat ((x.1.getD i.toNat (0, [])).1, turB (x.1.getD i.toNat (0, [])).2 at_ by_), x.2) else x
theorem turB_fits {bs : List Int} (h : ∀ z ∈ bs, Fits .u8 z) (a y : Int) : ∀ z ∈ turB bs a y, Fits .u8 z := fun z hz => by
  rcases List.mem_or_eq_of_mem_set hz with h1 | h1
  · exact h z h1
  · rw [h1]; exact bx_fits _ _
theorem tmod_fix {a n : Int} (hn : 0 < n) : (if a.tmod n < 0 then a.tmod n + n else a.tmod n) = a % n := by
  by_cases ha : 0 ≤ a
  · have h1 := Int.emod_nonneg a (by omega : n ≠ 0)
    rw [Int.tmod_eq_emod_of_nonneg ha, if_neg (by omega)]
  · have e : a.tmod n = -((-a) % n) := by
      rw [← Int.tmod_eq_emod_of_nonneg (by omega : 0 ≤ -a), Int.neg_tmod, Int.neg_neg]
    have h1 := Int.emod_nonneg (-a) (by omega : n ≠ 0)
    have h2 := Int.emod_lt_of_pos (-a) hn
    have h3 := Int.emod_add_mul_ediv (-a) n
    obtain ⟨r, hr⟩ : ∃ r, r = (-a) % n := ⟨_, rfl⟩
    obtain ⟨q, hq⟩ : ∃ q, q = (-a) / n := ⟨_, rfl⟩
    rw [← hr] at h1 h2 h3 e
    rw [← hq] at h3
    rw [e]
    by_cases h0 : r = 0
    · subst h0
      have : a = n * (-q) := by rw [Int.mul_neg]; omega
      rw [if_neg (by omega), this, Int.mul_emod_right]
      rfl
    · have : a = (n - r) + n * (-q - 1) := by rw [Int.mul_sub, Int.mul_neg, Int.mul_one]; omega
      rw [if_pos (by omega), this, Int.add_mul_emod_self_left, Int.emod_eq_of_lt (by omega) (by omega)]
      omega
theorem cellsP_set (l : List Pk) (junk : List Value) (j : Nat) (q : Pk) (h : j < l.length) : ((cellsP l ++ junk).take (j * 2) ++ cellP q ++ (cellsP l ++ junk).drop (j * 2 + 2)).take (l.length * 2) = cellsP (l.set j q) := by
  have h1 := cellsP_split l j (by omega)
  have h2 := cellsP_split l (j + 1) (by omega)
  have hl := cellsP_len l
  have hd : (cellsP (l.drop (j + 1))).length = (l.length - (j + 1)) * 2 := by rw [cellsP_len, List.length_drop]
  have ht : (cellsP (l.take j)).length = j * 2 := by rw [cellsP_len, List.length_take]; omega
  have e1 : (cellsP l ++ junk).take (j * 2) = cellsP (l.take j) := by rw [List.take_append_of_le_length (by omega), h1.1]
  have e2 : (cellsP l ++ junk).drop (j * 2 + 2) = cellsP (l.drop (j + 1)) ++ junk := by rw [show j * 2 + 2 = (j + 1) * 2 by omega, List.drop_append_of_le_length (by omega), h2.2]
  rw [e1, e2]
  have e : cellsP (l.set j q) = cellsP (l.take j) ++ cellP q ++ cellsP (l.drop (j + 1)) := by
    rw [List.set_eq_take_append_cons_drop, if_pos h, cellsP_app, List.append_assoc]
    rfl
  rw [e, ← List.append_assoc, List.take_append_of_le_length, List.take_of_length_le]
  · rw [List.length_append, List.length_append, ht, hd]; show _ + 2 + _ ≤ _; omega
  · rw [List.length_append, List.length_append, ht, hd]; show _ ≤ _ + 2 + _; omega
set_option maxHeartbeats 4000000 in
theorem nturn_ok {w0 w : World} {b : Nat} {K : List Pk} {G : Nat → Prop} {N : Nt} {rest : OL} {k : Nat} (i at_ by_ : Int) (hat : Fits .i64 at_) (h : NetH w0 w 131 71 b K G N rest) (hN : N.ok K k) (hk : k ≤ 1000) : Calls Try.prog 40 #[.pointer (some ⟨b, 0, none⟩), .int .i64 i, .int .i64 at_, .int .u8 by_] w fun e w' => ∃ K' G' N', e = .returned (.int .i64 (turE N.v i at_ by_)) ∧ NetQ w0 w' 131 71 b K N rest k (turV N.v i at_ by_) K' G' N' := by
  obtain ⟨la, lc, sa, sc, Ln, Sn⟩ := N
  have hln := hN.ln
  dsimp only at hln
  have hvl : (Nt.v ⟨la, lc, sa, sc, Ln, Sn⟩).1.length = Ln.length := List.length_map _
  refine enterW4 Try.func40 rfl rfl h ?_
  repeat (first | refine T_seq ?_ | refine T_region ?_ | refine S_nil ?_ | refine S_pure tabOk rfl ?_)
  refine S_callq (v := .bool (atV i Ln.length)) rfl Try.call80 (fun w1 h1 => nat_ok i w1 (h1.own _ (getE_mem (i := 1) rfl))) ?_
  repeat (first | refine S_nil ?_ | refine S_pure tabOk rfl ?_)
  cases he : atV i Ln.length with
  | false =>
    refine T_cond_t rfl ?_
    have e1 : turE (Nt.v ⟨la, lc, sa, sc, Ln, Sn⟩) i at_ by_ = 4 := by unfold turE; rw [hvl, if_neg (by rw [he]; decide)]
    have e2 : turV (Nt.v ⟨la, lc, sa, sc, Ln, Sn⟩) i at_ by_ = Nt.v ⟨la, lc, sa, sc, Ln, Sn⟩ := by unfold turV; rw [hvl, if_neg (fun h => by rw [he] at h; cases h.1)]
    rw [e1, e2]
    repeat (first | refine T_seq ?_ | refine T_region ?_ | refine S_nil ?_ | refine pthen_ret ?_ | refine T_ret ?_ | refine S_pure tabOk rfl ?_)
    exact ret1 rfl rfl (fun w' hw => ⟨K, G, ⟨la, lc, sa, sc, Ln, Sn⟩, rfl, hw, hN, fun _ h => h, rfl⟩)
  | true =>
    refine T_cond_f rfl ?_
    obtain ⟨j, rfl, hj⟩ := at_j he
    obtain ⟨q, hq0⟩ : ∃ q, q = Ln[j] := ⟨_, rfl⟩
    have hq : q ∈ K := by rw [hq0]; exact hN.l _ (List.getElem_mem hj)
    have hg0 : (Nt.v ⟨la, lc, sa, sc, Ln, Sn⟩).1.getD ((j : Nat) : Int).toNat (0, []) = q.v := by
      rw [Int.toNat_natCast, List.getD_eq_getElem?_getD]
      show ((Ln.map Pk.v)[j]?).getD _ = _
      rw [List.getElem?_map, List.getElem?_eq_getElem hj, hq0]
      rfl
    obtain ⟨hqt, hqb, hqf⟩ : Fits .i64 q.to ∧ q.bs.length ≤ 70000 ∧ ∀ z ∈ q.bs, Fits .u8 z := by
      have := (h.own _ List.mem_cons_self).1.1 q hq
      exact ⟨this.1, this.2.1, this.2.2.ints.fits⟩
    refine T_kn (X := ∃ g, la = some ⟨g, 0, none⟩) (fun w hw => hw.rowA 2 (m := Ln.length) rfl (by omega)) (fun ⟨g, hg⟩ => ?_)
    subst hg
    repeat (first | refine T_seq ?_ | refine T_region ?_ | refine pthen_normal ?_ | refine T_skip ?_ | refine S_pure tabOk rfl ?_ | refine S_load tabOk 1 rfl rfl rfl ?_)
    refine S_q (Q_idx (sz := 2) tabOk rfl rfl rfl rfl rfl rfl rfl rfl (j := j) hj) ?_
    refine S_loadN tabOk (vs := cellP q) rfl rfl rfl (fun w' hw => by rw [hq0]; exact row_cellP hw 2 rfl hj) ?_
    refine S_call rfl Try.call78 (fun w1 h1 => (own_ok w1 (okP.ints (h1.okP 0 rfl) hq) hqb).mono fun e w2 ⟨ra, rc, e1, hb2, hr⟩ => ⟨.agg ⟨[.int .i64 q.to, .slice ra q.bs.length rc]⟩, _, e1, h1.fresh hb2 (x := .row w0.heap.size (.slice ra q.bs.length rc) 5 1 q.bs.length (q.bs.map (.int .u8))) (own_rebase hr h1.size) (fun j hj => (World.ownsRow.lt hr j hj).1), ?_⟩)
    clear e1
    skip
    refine S_new tabOk rfl (fun b9 hb9 => ?_)
    repeat (first | refine T_seq ?_ | refine T_region ?_ | refine S_nil ?_ | refine S_pure tabOk rfl ?_ | refine S_load tabOk 0 rfl rfl rfl ?_ | refine S_store tabOk 0 rfl rfl rfl rfl rfl rfl ?_)
    refine T_cond_dec rfl (fun h0 => ?_) (fun h0 => ?_)
    · have hn0 : q.bs = [] := List.eq_nil_of_length_eq_zero (by omega)
      have e1 : turE (Nt.v ⟨some ⟨g, 0, none⟩, lc, sa, sc, Ln, Sn⟩) j at_ by_ = 0 := by unfold turE; rw [show (Nt.v ⟨some ⟨g, 0, none⟩, lc, sa, sc, Ln, Sn⟩).1.length = Ln.length from hvl, if_pos he, show (Nt.v ⟨some ⟨g, 0, none⟩, lc, sa, sc, Ln, Sn⟩).1.getD ((j : Nat) : Int).toNat (0, []) = q.v from hg0, if_pos (by exact hn0)]
      have e2 : turV (Nt.v ⟨some ⟨g, 0, none⟩, lc, sa, sc, Ln, Sn⟩) j at_ by_ = Nt.v ⟨some ⟨g, 0, none⟩, lc, sa, sc, Ln, Sn⟩ := by unfold turV; rw [show (Nt.v ⟨some ⟨g, 0, none⟩, lc, sa, sc, Ln, Sn⟩).1.getD ((j : Nat) : Int).toNat (0, []) = q.v from hg0, if_neg (fun h => h.2.1 hn0)]
      rw [e1, e2]
      repeat (first | refine T_seq ?_ | refine T_region ?_ | refine S_nil ?_ | refine pthen_ret ?_ | refine T_ret ?_ | refine S_pure tabOk rfl ?_)
      exact ret1 rfl rfl (fun w' hw => ⟨K, G, ⟨some ⟨g, 0, none⟩, lc, sa, sc, Ln, Sn⟩, rfl, hw.less (by repeat (first | refine Less.keep ?_ | refine Less.dropB (by first | assumption | omega) ?_ | refine Less.dropW (Nat.le_refl _) ?_ | exact Less.same _)), hN, fun _ h => h, rfl⟩)
    have hnl : 0 < q.bs.length := by omega
    have hne : q.bs ≠ [] := fun h => by rw [h] at hnl; exact absurd hnl (by decide)
    obtain ⟨kk, hkk⟩ : ∃ kk : Nat, at_ % (q.bs.length : Int) = kk := ⟨_, (Int.toNat_of_nonneg (Int.emod_nonneg _ (by omega))).symm⟩
    have hkm : kk < q.bs.length := by have := Int.emod_lt_of_pos at_ (by omega : (0 : Int) < (q.bs.length : Int)); omega
    have hfix := tmod_fix (a := at_) (n := q.bs.length) (by omega)
    rw [hkk] at hfix
    repeat (first | refine T_seq ?_ | refine T_region ?_ | refine pthen_normal ?_ | refine T_skip ?_ | refine S_pure tabOk rfl ?_ | refine S_load tabOk 0 rfl rfl rfl ?_)
    refine S_q (Q_rem rfl rfl rfl (by omega)) ?_
    have hmb : -(q.bs.length : Int) ≤ at_.tmod q.bs.length ∧ at_.tmod q.bs.length < q.bs.length := by split at hfix <;> omega
    repeat (first | refine T_seq ?_ | refine T_region ?_ | refine S_nil ?_ | refine S_pure tabOk rfl ?_)
    refine T_cut (ι := Unit) (fun _ => True) (fun _ => [(0, .pointer (some ⟨b, 0, none⟩)), (1, .int .i64 (j : Int)), (3, .int .u8 by_), (9, .pointer (some ⟨b9, 0, none⟩)), (10, .int .i64 (kk : Int))])
      (fun _ => .row w0.heap.size (.slice ra q.bs.length rc) 5 1 q.bs.length (q.bs.map (.int .u8)) :: .blk b9 (.cells ⟨[.int .i64 q.to, .slice ra q.bs.length rc]⟩ 71 (0, 0)) true :: knE w0 K G :: nbE 131 b (some ⟨g, 0, none⟩) Ln.length lc sa Sn.length sc :: rowP w0 71 (some ⟨g, 0, none⟩) lc Ln :: rowP w0 71 sa sc Sn :: rest) ?_ ?_
    · refine T_cond_dec rfl (fun h3 => ?_) (fun h3 => ?_)
      · rw [if_pos h3] at hfix
        repeat (first | refine T_region ?_ | refine S_nil ?_ | refine S_i64 tabOk rfl (by omega) ?_ | refine S_pure tabOk rfl ?_ | refine S_load tabOk 0 rfl rfl rfl ?_)
        refine ⟨(), trivial, ?_, fun w' hw => hw.perm (pmK0 ..)⟩
        rw [← hfix]
        repeat (first | exact Sub.nil | refine Sub.cons rfl ?_)
      · rw [if_neg h3] at hfix
        repeat (first | refine pthen_normal ?_ | refine T_skip ?_)
        refine ⟨(), trivial, ?_, fun w' hw => hw.perm (pmK0 ..)⟩
        rw [← hfix]
        repeat (first | exact Sub.nil | refine Sub.cons rfl ?_)
    rintro _ _
    repeat (first | refine T_seq ?_ | refine T_region ?_ | refine S_pure tabOk rfl ?_ | refine S_load tabOk 1 rfl rfl rfl ?_)
    refine S_openRow (by omega) (fun b5 junk hab hbb hmc hxl hjl hcm => ?_)
    subst hab
    refine S_q (Q_idx1 tabOk rfl rfl rfl rfl rfl rfl rfl rfl (j := kk) hkm) ?_
    have hgt : q.bs[kk]? = some q.bs[kk] := List.getElem?_eq_getElem hkm
    refine S_load1 tabOk rfl rfl (v := .int .u8 q.bs[kk]) (fun w' hw' => by rw [Nat.zero_add]; exact (cell_of_row w' b5 _ _ _ _ (hw'.own _ (getE_mem (i := 0) rfl))).trans (by simpa using cells_get hgt)) ?_
    repeat (first | refine S_pure tabOk rfl ?_)
    refine S_q (Q_idx1 tabOk rfl rfl rfl rfl rfl rfl rfl rfl (j := kk) hkm) ?_
    have hset : setMany (q.bs.map (Value.int .u8) ++ junk) (0 + kk) [.int .u8 (bits .xor .u8 q.bs[kk] by_)] = some ((q.bs.set kk (bx q.bs[kk] by_)).map (Value.int .u8) ++ junk) := by
      rw [Nat.zero_add, setMany_one (by rw [List.length_append, List.length_map]; omega), ← cells_set hkm]
      rfl
    refine S_store_of tabOk 0 rfl rfl (fun u hu => by rw [List.mem_singleton] at hu; subst hu; rfl) rfl hset rfl ?_
    obtain ⟨zs, hzs⟩ : ∃ zs, zs = q.bs.set kk (bx q.bs[kk] by_) := ⟨_, rfl⟩
    have htb : turB q.bs at_ by_ = zs := by
      unfold turB
      rw [hkk, Int.toNat_natCast, List.getD_eq_getElem?_getD, hgt, hzs]
      rfl
    have hzl : zs.length = q.bs.length := by rw [hzs, List.length_set]
    have hzf : ∀ z ∈ zs, Fits .u8 z := by rw [← htb]; exact turB_fits hqf _ _
    rw [← hzs]
    clear hset hgt
    repeat (first | refine T_seq ?_ | refine T_region ?_ | refine S_nil ?_ | refine S_pure tabOk rfl ?_ | refine S_load tabOk 1 rfl rfl rfl ?_)
    refine S_callq (v := .bool (honV (Sn.map Pk.v) zs)) rfl Try.call81 (fun w1 h1 => nhonest_ok w1 (h1.own _ (getE_mem (i := 3) rfl)) (pk_slr (h1.own _ (getE_mem (i := 5) rfl)) (h1.okP 2 rfl) hN.s) ⟨hzl, hmc, hcm, fun h => (by cases h), hzf, Sl.of_blk (h1.own _ (getE_mem (i := 0) rfl)) (by rw [List.length_map, hzl, Nat.mul_one]) fun j u hu => by rw [Nat.zero_add, List.getElem?_append_left (List.getElem?_eq_some_iff.1 hu).1]; exact hu⟩) ?_
    repeat (first | refine S_nil ?_ | refine S_pure tabOk rfl ?_)
    have hv1 : (Nt.v ⟨some ⟨g, 0, none⟩, lc, sa, sc, Ln, Sn⟩).1.length = Ln.length := hvl
    have hv2 : (Nt.v ⟨some ⟨g, 0, none⟩, lc, sa, sc, Ln, Sn⟩).1.getD ((j : Nat) : Int).toNat (0, []) = q.v := hg0
    cases hh : honV (Sn.map Pk.v) zs with
    | false =>
      have e1 : turE (Nt.v ⟨some ⟨g, 0, none⟩, lc, sa, sc, Ln, Sn⟩) j at_ by_ = 11 := by
        unfold turE
        rw [hv1, if_pos he, hv2, if_neg (show ¬ (Pk.v q).2 = [] from hne), show turB (Pk.v q).2 at_ by_ = zs from htb, if_neg (fun h => by have h2 : honV (Sn.map Pk.v) zs = true := h; rw [hh] at h2; cases h2)]
      have e2 : turV (Nt.v ⟨some ⟨g, 0, none⟩, lc, sa, sc, Ln, Sn⟩) j at_ by_ = Nt.v ⟨some ⟨g, 0, none⟩, lc, sa, sc, Ln, Sn⟩ := by
        unfold turV
        rw [hv2, show turB (Pk.v q).2 at_ by_ = zs from htb, if_neg (fun h => by have h2 : honV (Sn.map Pk.v) zs = true := h.2.2; rw [hh] at h2; cases h2)]
      rw [e1, e2]
      refine T_cond_t rfl ?_
      repeat (first | refine T_seq ?_ | refine T_region ?_ | refine S_nil ?_ | refine pthen_ret ?_ | refine T_ret ?_ | refine S_pure tabOk rfl ?_)
      exact ret1 rfl rfl (fun w' hw => ⟨K, G, ⟨some ⟨g, 0, none⟩, lc, sa, sc, Ln, Sn⟩, rfl, hw.less (by repeat (first | refine Less.keep ?_ | refine Less.dropB (by first | assumption | omega) ?_ | exact Less.same _)), hN, fun _ h => h, rfl⟩)
    | true =>
      have e1 : turE (Nt.v ⟨some ⟨g, 0, none⟩, lc, sa, sc, Ln, Sn⟩) j at_ by_ = 0 := by
        unfold turE
        rw [hv1, if_pos he, hv2, if_neg (show ¬ (Pk.v q).2 = [] from hne), show turB (Pk.v q).2 at_ by_ = zs from htb, if_pos (by exact hh)]
      have e2 : turV (Nt.v ⟨some ⟨g, 0, none⟩, lc, sa, sc, Ln, Sn⟩) j at_ by_ = ((Ln.map Pk.v).set j (q.to, zs), Sn.map Pk.v) := by
        unfold turV
        rw [hv1, hv2, show turB (Pk.v q).2 at_ by_ = zs from htb, if_pos ⟨he, hne, by exact hh⟩, Int.toNat_natCast]
        rfl
      rw [e1, e2]
      refine T_cond_f rfl ?_
      repeat (first | refine T_seq ?_ | refine pthen_normal ?_ | refine T_skip ?_)
      obtain ⟨q2, hq2⟩ : ∃ q2 : Pk, q2 = ⟨q.to, zs, some ⟨b5, 0, none⟩, rc⟩ := ⟨_, rfl⟩
      refine T_toX (ι := List Value) (fun jk => Ln.length ≤ lc ∧ (cellsP Ln ++ jk).length = lc * 2 ∧ lc ≤ maxLen ∧ w0.heap.size ≤ g) (fun jk => .blk g (.cells ⟨cellsP Ln ++ jk⟩ 71 (0, 0)) true :: .row w0.heap.size (.slice q2.a q2.bs.length q2.c) 5 1 q2.bs.length (q2.bs.map (.int .u8)) :: .blk b9 (.cells ⟨cellP q2⟩ 71 (0, 0)) true :: knE w0 K G :: nbE 131 b (some ⟨g, 0, none⟩) Ln.length lc sa Sn.length sc :: rowP w0 71 sa sc Sn :: rest) (fun w hw => ?_) (fun jk ⟨hj1, hj2, hj3, hj4⟩ => ?_)
      · have h1 := Hp.closeRow (pre := []) (n := q.bs.length) (c := rc) (sz := 1) hw hbb hmc hcm (by rw [List.length_append, List.length_map, hzl]; rw [List.length_append, List.length_map] at hjl; omega)
        rw [Nat.mul_one, List.take_append_of_le_length (by rw [List.length_map]; omega), List.take_of_length_le (by rw [List.length_map]; omega)] at h1
        obtain ⟨g2, jk, hg2, hj1, hj2, hj3, hj4, hj5, h2⟩ := Hp.openRow (pre := []) (h1.perm (pmK1 ..)) (by omega : 0 < Ln.length)
        cases hg2
        refine ⟨jk, ⟨hj2, hj4, hj5, hj1⟩, ?_⟩
        rw [hq2]
        show Hp w0 w (.blk g (.cells ⟨cellsP Ln ++ jk⟩ 71 (0, 0)) true :: .row w0.heap.size (.slice (some ⟨b5, 0, none⟩) zs.length rc) 5 1 zs.length (zs.map (.int .u8)) :: .blk b9 (.cells ⟨[.int .i64 q.to, .slice (some ⟨b5, 0, none⟩) zs.length rc]⟩ 71 (0, 0)) true :: knE w0 K G :: nbE 131 b (some ⟨g, 0, none⟩) Ln.length lc sa Sn.length sc :: rowP w0 71 sa sc Sn :: rest)
        rw [hzl]
        exact h2
      obtain ⟨cs1, hcs1⟩ : ∃ l, l = (cellsP Ln ++ jk).take (j * 2) ++ cellP q2 ++ (cellsP Ln ++ jk).drop (j * 2 + 2) := ⟨_, rfl⟩
      have hll := cellsP_len Ln
      have hm1 : setMany (cellsP Ln ++ jk) (0 + j * 2) (cellP q2) = some cs1 := by
        rw [Nat.zero_add, hcs1]
        exact setMany_some (by rw [List.length_append]; show _ + 2 ≤ _; omega)
      have hl1 : cs1.length = lc * 2 := by
        rw [List.length_append] at hj2
        rw [hcs1, List.length_append, List.length_append, List.length_take, List.length_drop, List.length_append]
        show min (j * 2) _ + 2 + _ = _
        omega
      have ht1 : cs1.take (Ln.length * 2) = cellsP (Ln.set j q2) := by rw [hcs1]; exact cellsP_set Ln jk j q2 hj
      have hq2t : q2.to = q.to := by rw [hq2]
      have hq2b : q2.bs = zs := by rw [hq2]
      let lst : Bool → OL := fun l7 =>
        .blk g (.cells ⟨cond l7 cs1 (cellsP Ln ++ jk)⟩ 71 (0, 0)) true :: .row w0.heap.size (.slice q2.a q2.bs.length q2.c) 5 1 q2.bs.length (q2.bs.map (.int .u8)) :: .blk b9 (.cells ⟨cellP q2⟩ 71 (0, 0)) true :: knE w0 K G :: nbE 131 b (some ⟨g, 0, none⟩) Ln.length lc sa Sn.length sc :: rowP w0 71 sa sc Sn :: rest
      refine T_drawF (γ := Unit) (by kernel_rfl) (by kernel_rfl) () (fun L f => lst (L 7)) rfl [some (.pointer (some ⟨b, 0, none⟩)), some (.pointer (some ⟨b, 0, none⟩)), some (.pointer (some ⟨b, 0, none⟩)), some (.slice (some ⟨g, 0, none⟩) Ln.length lc), some (.int .i64 (j : Int)), some (.agg ⟨cellP q2⟩), some (.pointer (some ⟨g, 0 + j * 2, none⟩)), none] ?_ ?_
      · refine ⟨?_, ?_, ?_, ?_, ?_, ?_, ?_, ?_, trivial⟩
        · exact fun L f hc hl hp => OpA.told () rfl (D_pure tabOk rfl D_last) rfl
        · exact fun L f hc hl hp => OpA.told () rfl (D_pure tabOk rfl D_last) rfl
        · exact fun L f hc hl hp => OpA.told () rfl (D_pure tabOk rfl D_last) rfl
        · intro L f hc hl hp
          have h7 := closed_no hc (j := 7) rfl ⟨3, .phase⟩ (by simp) rfl hl
          show OpA _ _ _ _ (lst (L 7)) (fun y => lst (L 7)) _ _ _
          rw [h7]
          exact OpA.told () rfl (D_load tabOk 4 rfl rfl rfl D_last) rfl
        · exact fun L f hc hl hp => OpA.told () rfl (D_pure tabOk rfl D_last) rfl
        · intro L f hc hl hp
          have h7 := closed_no hc (j := 7) rfl ⟨5, .data⟩ (by simp) rfl hl
          show OpA _ _ _ _ (lst (L 7)) (fun y => lst (L 7)) _ _ _
          rw [h7]
          exact OpA.told () rfl (D_load tabOk 2 rfl rfl rfl D_last) rfl
        · intro L f hc hl hp
          have h7 := closed_no hc (j := 7) rfl ⟨6, .data⟩ (by simp) rfl hl
          show OpA _ _ _ _ (lst (L 7)) (fun y => lst (L 7)) _ _ _
          rw [h7]
          exact OpA.told () rfl (D_q (Q_idx (sz := 2) tabOk rfl rfl rfl rfl rfl rfl rfl rfl (j := j) hj) D_last) rfl
        · intro L f hc hl hp
          show OpA _ _ _ _ (lst (L 7)) (fun y => lst true) _ _ _
          rw [hl]
          exact OpS.toF () (fun u h => by cases h) (OpS.store tabOk 0 rfl rfl (fun u h => by simp only [List.mem_cons, List.not_mem_nil, or_false] at h; rcases h with rfl | rfl <;> rfl) rfl hm1 rfl)
      · intro L f w5 hL hw
        change Hp _ _ (lst (L 7)) at hw
        rw [hL 7 (by decide)] at hw
        obtain ⟨G2, hw8⟩ := Hp.snocK (p := q2) ((Hp.closeRow (pre := []) (n := Ln.length) (c := lc) (sz := 2) hw hj4 hj1 hj3 hl1).perm (pmK2 ..)) (by rw [hq2t]; exact hqt) (by rw [hq2b]; omega) (by rw [hq2b]; exact hzf)
        have hll2 : (Ln.set j q2).length = Ln.length := List.length_set
        have hw9 : Hp w0 w5 (knE w0 (K ++ [q2]) G2 :: nbE 131 b (some ⟨g, 0, none⟩) (Ln.set j q2).length lc sa Sn.length sc :: rowP w0 71 (some ⟨g, 0, none⟩) lc (Ln.set j q2) :: rowP w0 71 sa sc Sn :: rest) := by
          unfold rowP
          rw [hll2, ← ht1]
          exact hw8.less (by repeat (first | refine Less.keep ?_ | refine Less.dropB (by first | assumption | omega) ?_ | exact Less.same _))
        refine ⟨[], _, SubD.nil, hw9, ?_⟩
        repeat (first | refine T_seq ?_ | refine T_region ?_ | refine S_nil ?_ | refine T_ret ?_ | refine S_pure tabOk rfl ?_)
        refine ret1 rfl rfl (fun w' hw => ⟨K ++ [q2], G2, ⟨some ⟨g, 0, none⟩, lc, sa, sc, Ln.set j q2, Sn⟩, rfl, hw, ⟨fun p hp => ?_, fun p hp => List.mem_append_left _ (hN.s p hp), by show (Ln.set j q2).length ≤ _; omega, hN.sn⟩, fun _ h => List.mem_append_left _ h, ?_⟩)
        · rcases List.mem_or_eq_of_mem_set hp with hp | hp
          · exact List.mem_append_left _ (hN.l p hp)
          · rw [hp]; exact List.mem_append_right _ List.mem_cons_self
        · unfold Nt.v
          dsimp only
          rw [List.map_set, hq2]
          rfl

end Go.Proofs.Ytnefhhoijonnaaa
