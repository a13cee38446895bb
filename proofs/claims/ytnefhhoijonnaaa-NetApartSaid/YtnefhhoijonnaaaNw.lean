/-
  The document's Send, Double, Replay, Forge of a net. Conditions: each theorem's own. The document's Deliver. Conditions: each theorem's own. The document's Turn. Conditions: each theorem's own. New; what Deliver tells; awake. Conditions: each theorem's own. The law's do: an act on both nets. Conditions: each theorem's own. The law's like. Conditions: each theorem's own.
  Conditions: each theorem's own.
-/
import Derived.Test.YtnefhhoijonnaaaNx
namespace Go.Proofs.Ytnefhhoijonnaaa
open Go Go.RowKit
set_option linter.unusedVariables false


theorem rjoin_ok {A a : Option Addr} {C n c : Nat} {zs : List Int} (w : World) (hs : Sl w 1 A 1 [.slice a n c]) (hi : Ints .u8 w a n c zs) (hl : zs.length ≤ 2147483648) : Calls Try.prog 30 #[.slice A 1 C] w fun e w' => ∃ a c, e = .returned (.slice a zs.length c) ∧ Below w.heap.size w w' ∧ w'.ownsRow w.heap.size 5 1 (.slice a zs.length c) zs.length (zs.map (.int .u8)) := by
  have h := join_ok A 1 C [⟨a, n, c, zs⟩] w (by decide) hs (fun p hp => by rw [List.mem_singleton] at hp; subst hp; exact hi) (by show ([zs] : List (List Int)).flatten.length ≤ _; simpa using hl)
  have e : cat [⟨a, n, c, zs⟩] = zs := by simp [cat]
  rw [e] at h
  exact h



theorem pmO1 {α : Type} (x0 x1 x2 x3 : α) (r : List α) : List.Perm (x0 :: x1 :: x2 :: x3 :: r) (x3 :: x0 :: x1 :: x2 :: r) := by
  have hP : List.Perm ([0, 1, 2, 3] : List Nat) [3, 0, 1, 2] := by decide
  exact (hP.map fun i => ([x0, x1, x2, x3][i]?).getD x0).append_right r
theorem nnew_ok {w0 w : World} {rest : OL} (h : Hp w0 w rest) : Calls Try.prog 32 #[] w fun e w' => ∃ b, e = .returned (.pointer (some ⟨b, 0, none⟩)) ∧ w0.heap.size ≤ b ∧ Hp w0 w' (.blk b (.cells ⟨[.slice none 0 0, .slice none 0 0]⟩ 131 (0, 0)) true :: rest) := by
  refine enterW0 Try.func32 rfl h ?_
  repeat (first | refine T_seq ?_ | refine T_region ?_ | refine S_nil ?_ | refine S_pure tabOk rfl ?_ | refine S_q (Q_build tabOk rfl rfl rfl rfl rfl rfl rfl) ?_)
  refine S_new tabOk rfl (fun b hb => ?_)
  repeat (first | refine S_nil ?_ | refine T_ret ?_ | refine S_pure tabOk rfl ?_)
  exact ret1 rfl rfl (fun w' hw => ⟨b, rfl, hb, hw⟩)
def delW (x : V2) (i : Int) : PVal := if atV i x.1.length then x.1.getD i.toNat (0, []) else (0, [])
theorem delP_v (N : Nt) (i : Int) : (delP N i).v = delW N.v i := by
  have hl : N.v.1.length = N.L.length := List.length_map _
  unfold delP delW
  rw [hl]
  split
  · show _ = (N.L.map Pk.v).getD _ _
    rw [List.getD_eq_getElem?_getD, List.getD_eq_getElem?_getD, List.getElem?_map]
    cases N.L[i.toNat]? <;> rfl
  · rfl
theorem delP_ints {w : World} {K : List Pk} {G : Nat → Prop} {N : Nt} {k : Nat} (h : okP w G K) (hN : N.ok K k) (i : Int) : Ints .u8 w (delP N i).a (delP N i).bs.length (delP N i).c (delP N i).bs := by
  unfold delP
  split
  · rename_i he
    obtain ⟨j, rfl, hj⟩ := at_j he
    rw [Int.toNat_natCast, List.getD_eq_getElem?_getD, List.getElem?_eq_getElem hj]
    exact h.ints (hN.l _ (List.getElem_mem hj))
  · exact (SlR.nil_ (R := Rint .u8) (A := TT)).ints
theorem Hp.netN {w0 w : World} {T E : TypeId} {b : Nat} {rest : OL} (h : Hp w0 w (.blk b (.cells ⟨[.slice none 0 0, .slice none 0 0]⟩ T (0, 0)) true :: rest)) : Hp w0 w (nbE T b none 0 0 none 0 0 :: rowP w0 E none 0 [] :: rowP w0 E none 0 [] :: rest) :=
  ((h.nilRow E 2).nilRow E 2).perm ((List.Perm.cons _ (List.Perm.swap _ _ _)).trans ((List.Perm.swap _ _ _).trans (List.Perm.cons _ (List.Perm.swap _ _ _)))) |>.perm (List.Perm.cons _ (List.Perm.refl _))
theorem Hp.blkK {w0 w : World} {o : OL} {bx : Nat} {e : TypeId} {fz : Nat × Nat} {to : Int} {bs : List Int} (h : Hp w0 w (.blk bx (.cells ⟨bs.map (.int .u8)⟩ e fz) true :: o)) (h1 : Fits .i64 to) (h2 : bs.length ≤ 70000) (h3 : ∀ z ∈ bs, Fits .u8 z) (hbx : w0.heap.size ≤ bx) : Hp w0 w (knE w0 [⟨to, bs, some ⟨bx, 0, none⟩, bs.length⟩] (fun k => k = bx) :: o) := by
  have hb : w.heap[bx]? = _ := h.own _ List.mem_cons_self
  have hi : Ints .u8 w (some ⟨bx, 0, none⟩) bs.length bs.length bs := ints_lit hb rfl h3 (by simp only [maxLen]; omega)
  refine Hp.regroup [.blk bx (.cells ⟨bs.map (.int .u8)⟩ e fz) true] [_] h (fun e he => by rw [List.mem_singleton] at he; subst he; rfl) (fun e he => ?_) (List.pairwise_singleton _ _) (fun e he k hk => ?_) (fun e he k hk => ?_)
  · rw [List.mem_singleton] at he
    subst he
    refine ⟨rfl, ⟨fun q hq => ?_, fun k hk => by rw [show k = bx from hk]; exact hbx⟩, okP.loc, fun k hk => by rw [show k = bx from hk]; exact heap_lt hb⟩
    rw [List.mem_singleton] at hq
    subst hq
    exact ⟨h1, h2, .of_ints hi fun b off hn e => by cases e; rfl⟩
  · rw [List.mem_singleton] at he
    subst he
    exact ⟨_, List.mem_cons_self, congrArg some (show k = bx from hk).symm⟩
  · rw [List.mem_singleton] at he
    subst he
    exact .inr ⟨_, List.mem_cons_self, (Option.some.inj hk).symm⟩
theorem nt_ok0 (K : List Pk) (k : Nat) : (Nt.mk none 0 none 0 [] []).ok K k := ⟨fun p hp => (by cases hp), fun p hp => (by cases hp), Nat.zero_le _, Nat.zero_le _⟩
set_option maxHeartbeats 4000000 in
theorem awake18_ok (w : World) : Calls Try.prog 31 #[] w fun e w' => e = .returned (.bool true) ∧ Below w.heap.size w w' := by
  refine enter0 Try.func31 rfl (Hp.refl w) ?_
  repeat (first | refine T_seq ?_ | refine T_region ?_ | refine S_nil ?_ | refine S_pure tabOk rfl ?_)
  refine S_call rfl Try.call32 (fun w1 h1 => (nnew_ok h1).mono fun e w' ⟨b, e1, hb, h2⟩ => ⟨_, _, e1, h2, ?_⟩)
  repeat (first | refine T_seq ?_ | refine T_region ?_ | refine S_nil ?_ | refine S_pure tabOk rfl ?_)
  refine S_bslice tabOk rfl rfl rfl rfl rfl rfl rfl rfl rfl rfl rfl rfl (fun bx hbx => ?_)
  skip
  refine S_mark tabOk 0 rfl rfl rfl rfl rfl rfl rfl rfl ?_
  repeat (first | refine S_q (Q_build tabOk rfl rfl rfl rfl rfl rfl rfl) ?_)
  obtain ⟨p0, hp0⟩ : ∃ p0 : Pk, p0 = ⟨0, [120], some ⟨bx, 0, none⟩, 1⟩ := ⟨_, rfl⟩
  refine S_heap (ol' := knE w [p0] (fun k => k = bx) :: nbE 131 b none 0 0 none 0 0 :: rowP w 71 none 0 [] :: rowP w 71 none 0 [] :: []) (fun w' hw => by
    rw [hp0]
    exact ((Hp.blkK (to := 0) (bs := [120]) hw (mk_i64 (n := 0) (by decide)) (by show 1 ≤ 70000; omega) (fun z hz => by rw [List.mem_singleton] at hz; rw [hz]; exact fits8 (by decide)) hbx).perm (List.Perm.swap _ _ _)).netN.perm (pmO1 ..)) ?_
  have hpv : p0.v = (0, [120]) := by rw [hp0]; rfl
  have her : errV p0.v = 0 := by rw [hpv]; unfold errV; rw [if_neg (by decide), if_neg (by show ¬ 65507 < 1; omega)]
  have hk1 : 1 ≤ 1000 := by omega
  have hS := fun w1 (h1 : Hp w w1 (knE w [p0] (fun k => k = bx) :: nbE 131 b none 0 0 none 0 0 :: rowP w 71 none 0 [] :: rowP w 71 none 0 [] :: [])) => send_ok (N := ⟨none, 0, none, 0, [], []⟩) (q := p0) (k := 1) (rest := []) h1 (nt_ok0 _ _) hk1 List.mem_cons_self
  rw [her, hpv] at hS
  have her2 : errV (0, [120]) = 0 := by rw [← hpv]; exact her
  subst hp0
  clear her hpv
  refine S_call rfl Try.call39 (fun w1 h1 => (hS w1 h1).mono fun e w' ⟨K1, G1, N1, e1, h2⟩ => ⟨_, _, e1, h2.h, ?_⟩)
  clear hS
  have hv1 : N1.v = ([(0, [120])], [(0, [120])]) := by rw [h2.v]; unfold sendV; rw [if_pos her2]; rfl
  have hok1 := h2.ok
  clear h2 e1
  have hl1 : N1.L.length = 1 := by have := congrArg (fun x : V2 => x.1.length) hv1; simpa [Nt.v] using this
  repeat (first | refine S_pure tabOk rfl ?_)
  refine S_re 11 (v' := .bool false) rfl rfl ?_
  skip
  have ha1 : atV 0 1 = true := rfl
  refine S_call rfl Try.call45 (fun w1 h1 => (ndouble_ok (N := N1) (rest := []) 0 h1 hok1 (by omega)).mono fun e w' ⟨K2, G2, N2, e1, h2⟩ => ⟨.int .i64 0, _, by rw [e1, hv1]; rfl, h2.h, ?_⟩)
  have hv2 : N2.v = ([(0, [120]), (0, [120])], [(0, [120])]) := by rw [h2.v, hv1]; rfl
  have hok2 := h2.ok
  clear h2 e1
  repeat (first | refine S_nil ?_ | refine S_pure tabOk rfl ?_)
  refine T_cond_f rfl ?_
  repeat (first | refine T_seq ?_ | refine T_region ?_ | refine pthen_normal ?_ | refine T_skip ?_ | refine S_pure tabOk rfl ?_)
  refine S_call rfl Try.call43 (fun w1 h1 => (ndeliver_ok (N := N2) (rest := []) 0 h1 hok2 (by omega)).mono fun e w' ⟨N3, e1, h2⟩ => ⟨.tuple #[.agg ⟨cellP (delP N2 0)⟩, .int .i64 0], _, by rw [e1, hv2]; rfl, h2.h, ?_⟩)
  have hv3 : N3.v = ([(0, [120])], [(0, [120])]) := by rw [h2.v, hv2]; rfl
  have hdv : (delP N2 0).v = (0, [120]) := by rw [delP_v, hv2]; rfl
  have hdb : (delP N2 0).bs = [120] := congrArg Prod.snd hdv
  clear h2 e1
  have hl3 : N3.L.length = 1 := by have := congrArg (fun x : V2 => x.1.length) hv3; simpa [Nt.v] using this
  have hs3 : N3.S.length = 1 := by have := congrArg (fun x : V2 => x.2.length) hv3; simpa [Nt.v] using this
  repeat (first | refine S_pure tabOk rfl ?_)
  refine S_new tabOk rfl (fun b2 hb2 => ?_)
  repeat (first | refine T_seq ?_ | refine T_region ?_ | refine S_nil ?_ | refine S_pure tabOk rfl ?_ | refine S_load tabOk 0 rfl rfl rfl ?_ | refine S_store tabOk 0 rfl rfl rfl rfl rfl rfl ?_)
  refine S_re 23 (v' := .bool true) rfl rfl ?_
  skip
  refine S_q (Q_b2s tabOk rfl rfl rfl rfl rfl rfl rfl rfl (zs := (delP N2 0).bs) (fun w' hw => delP_ints (hw.okP 1 rfl) hok2 0)) ?_
  rw [hdb]
  refine S_q ((Q_streq rfl rfl rfl).eq (v' := .bool true) (by
    have e : strOfNums [120] = ⟨#[120]⟩ := by rfl
    rw [e]
    simp)) ?_
  repeat (first | refine S_pure tabOk rfl ?_)
  refine S_callq rfl Try.call37 (fun w1 h1 => nlen_ok w1 (h1.own _ (getE_mem (i := 2) rfl))) ?_
  rw [hl3]
  repeat (first | refine S_pure tabOk rfl ?_)
  refine S_callq rfl Try.call35 (fun w1 h1 => nsent_ok w1 (h1.own _ (getE_mem (i := 2) rfl))) ?_
  rw [hs3]
  repeat (first | refine S_nil ?_ | refine T_ret ?_ | refine S_pure tabOk rfl ?_)
  exact ret1 rfl rfl (fun w' hw => ⟨rfl, hw.below (by have hG := hw.newK 1 rfl; exact (by repeat (first | exact new_nil | refine new_rx (by assumption) ?_ | refine new_cons (by first | assumption | omega) ?_ | refine newrow hw 3 rfl (Nat.le_refl _) ?_ | refine newrow hw 4 rfl (Nat.le_refl _) ?_)))⟩)

theorem Nt.ok.up {N : Nt} {K K' : List Pk} {a b : Nat} (h : N.ok K a) (hK : ∀ p ∈ K, p ∈ K') (hab : a ≤ b) : N.ok K' b := ⟨fun p hp => hK p (h.l p hp), fun p hp => hK p (h.s p hp), Nat.le_trans h.ln hab, Nat.le_trans h.sn hab⟩


end Go.Proofs.Ytnefhhoijonnaaa
