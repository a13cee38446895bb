/-
  A board of one's own in a walk: Send, Take, Due as steps; the document's example. Conditions: each theorem's own.
-/
import Derived.Test.YtanhmmfpecgbhaaBoK
namespace Go.Proofs.Ytanhmmfpecgbhaa
open Go Go.RowKit
set_option linter.unusedVariables false

instance (k : IntKind) (n : Int) : Decidable (Fits k n) := by unfold Fits; infer_instance
theorem SlR.maxn {α : Type} {R : Rep α} {w : World} {A : Nat → Prop} {a : Option Addr} {n c : Nat} {l : List α} (h : SlR R w A a n c l) : n ≤ maxLen := Nat.le_trans h.cap h.max
/-- numbers that are apart from an object -/
def Arg (w : World) (F : Nat → Prop) (a : Option Addr) (n c : Nat) (l : List Int) : Prop := ∃ A0 : Nat → Prop, SlR (Rint .u64) w A0 a n c l ∧ ∀ k, A0 k → ¬ F k
def SArg (w : World) (F : Nat → Prop) (v : Value) (s : Int → Bool) (Bd : Nat) : Prop := ∃ A0 : Nat → Prop, (setP (fun n => s n = true) Bd).at_ w A0 v ∧ ∀ k, A0 k → ¬ F k
section
variable {n : Nat} {w0 : World} {all : Array Oper} {os : List Oper} {o : Oper} {l : FL} {ol : OL} {K : FL → OL → Prop} {Q : Post} {d bb : Nat} {f m last : Int} {gs : List BG} {F : Nat → Prop}
theorem Arg.old {w0 w : World} {ol : OL} {a : Option Addr} {n c : Nat} {l : List Int} (h : SlR (Rint .u64) w0 TT a n c l) (hw : Hp w0 w ol) (hn : ∀ e ∈ ol, e.ex = true → ∀ k, e.has k → w0.heap.size ≤ k) (hN : ∀ k, F k → w0.heap.size ≤ k) : Arg w F a n c l :=
  ⟨fun k => k < w0.heap.size, h.keep fun k _ hlt => ⟨(hw.below hn).block k hlt, hlt⟩, fun k hk hF => by have := hN k hF; omega⟩
theorem blk_slr {w : World} {b : Nat} {e : TypeId} {fz : Nat × Nat} {l : List Int} (h : w.heap[b]? = some (.cells ⟨l.map (.int .u64)⟩ e fz)) (hok : ∀ x ∈ l, Fits .u64 x) (hm : l.length ≤ maxLen) : SlR (Rint .u64) w (fun k => k = b) (some ⟨b, 0, none⟩) l.length l.length l :=
  .of_flat (flat_int .u64) rfl (Nat.le_refl _) hm (fun h => by cases h) (by
    show Sl w 1 _ _ _
    rw [flat_ints]
    exact Sl.of_blk h (by rw [List.length_map, Nat.mul_one]) (fun j u hu => by rw [Nat.zero_add]; exact hu)) hok (fun _ => ⟨_, _, rfl, rfl⟩)
theorem row_slr {w : World} {base : Nat} {e : TypeId} {a : Option Addr} {m c : Nat} {l : List Int} (h : w.ownsRow base e 1 (.slice a m c) m (l.map (.int .u64))) (hl : l.length = m) (hok : ∀ x ∈ l, Fits .u64 x) : SlR (Rint .u64) w (fun k => (Value.slice a m c).ownBlock = some k) a m c l :=
  .of_row (flat_int .u64) (by rw [flat_ints]; exact h) hl hok (fun k _ hk => hk)
theorem Arg.blk {w0 w : World} {ol : OL} {b : Nat} {e : TypeId} {r : Bool} {l : List Int} (i j : Nat) {Φ : World → Prop} (hw : Hp w0 w ol) (hi : getE ol i = some (.blk b (.cells ⟨l.map (.int .u64)⟩ e (0, 0)) r)) (hj : getE ol j = some (.rep Φ F true)) (hij : Nat.beq i j = false) (hok : ∀ x ∈ l, Fits .u64 x) (hm : l.length ≤ maxLen) : Arg w F (some ⟨b, 0, none⟩) l.length l.length l :=
  ⟨fun k => k = b, blk_slr (hw.own _ (getE_mem hi)) hok hm, fun k hk hF => hw.dis i j hi hj (Bool.or_true _) hij (by rw [hk]; exact rfl) hF⟩
theorem Arg.row {w0 w : World} {ol : OL} {base : Nat} {e : TypeId} {a : Option Addr} {m c : Nat} {l : List Int} (i j : Nat) {Φ : World → Prop} (hw : Hp w0 w ol) (hi : getE ol i = some (.row base (.slice a m c) e 1 m (l.map (.int .u64)))) (hj : getE ol j = some (.rep Φ F true)) (hij : Nat.beq i j = false) (hl : l.length = m) (hok : ∀ x ∈ l, Fits .u64 x) : Arg w F a m c l :=
  ⟨fun k => (Value.slice a m c).ownBlock = some k, row_slr (hw.own _ (getE_mem hi)) hl hok, fun k hk hF => hw.dis i j hi hj (Bool.or_true _) hij hk hF⟩
theorem SArg.rep {w0 w : World} {ol : OL} {v : Value} {S : Int → Prop} {s : Int → Bool} {Bd : Nat} {F2 : Nat → Prop} (i j : Nat) {Φ : World → Prop} (hw : Hp w0 w ol) (hi : getE ol i = some (.rep (fun w => (setP S Bd).at_ w F2 v) F2 false)) (hj : getE ol j = some (.rep Φ F true)) (hij : Nat.beq i j = false) (hS : ∀ x, S x ↔ s x = true) : SArg w F v s Bd :=
  ⟨F2, setP_to hS (Nat.le_refl _) (hw.own _ (getE_mem hi)).1, fun k hk hF => hw.dis i j hi hj rfl hij hk hF⟩
theorem S_bsend (i : Nat) {a : Option Addr} {ln c : Nat} {now : Int} {L : List Int} (hs : callAt? n all (look l) o = some (d, 13, [bptr bb, .int .i64 now, .slice a ln c])) (hi : getE ol i = some (.rep (fun w => (boA bb f m gs last).at_ w F (.bool true)) F true)) (hN : ∀ k, F k → w0.heap.size ≤ k)
    (hl : ∀ w, Hp w0 w ol → Arg w F a ln c L) (hnow : 0 ≤ now ∧ now ≤ 1152921504606846976) (hln : L.length + (bNums gs).length ≤ 60000) (hcn : gs.length < 60000) (hla : last + 1 ≤ 1099511627776)
    (k : ∀ F' : Nat → Prop, (∀ k, F' k → w0.heap.size ≤ k) → ∃ ol', putE ol i (.rep (fun w => (boA bb f m (bSend f m gs last now L).1 (bSend f m gs last now L).2.1).at_ w F' (.bool true)) F' true) = some ol' ∧ S Try.prog n w0 all os ((d, .int .u64 (bSend f m gs last now L).2.2) :: l) ol' K Q) : S Try.prog n w0 all (o :: os) l ol K Q :=
  S_callT i hs Try.call13 hi fun w g => by
    obtain ⟨A0, h1, h2⟩ := hl w g
    exact (bo_send (g.own _ (getE_mem hi)).1 (g.own _ (getE_mem hi)).2.2 h1 h2 hnow hln hcn hla).mono fun e w' ⟨he, F', g1, g2, g3⟩ => by
      obtain ⟨ol', e1, e2⟩ := k F' fun j hj => (g2 j hj).elim (hN j) (Nat.le_trans g.size)
      exact ⟨_, _, F', he, g3, g1, g2, ol', e1, e2⟩
theorem S_btake (i : Nat) {a : Option Addr} {ln c : Nat} {s : Int → Bool} {Bd : Nat} (hs : callAt? n all (look l) o = some (d, 16, [bptr bb, setV a ln c])) (hi : getE ol i = some (.rep (fun w => (boA bb f m gs last).at_ w F (.bool true)) F true)) (hN : ∀ k, F k → w0.heap.size ≤ k)
    (hl : ∀ w, Hp w0 w ol → SArg w F (setV a ln c) s Bd) (hBd : Bd ≤ 900000)
    (k : ∀ A C (F' : Nat → Prop), (∀ k, F' k → w0.heap.size ≤ k) → ∃ ol', putE ol i (.rep (fun w => (boA bb f m (rmB gs s) last).at_ w F' (.bool true)) F' true) = some ol' ∧ S Try.prog n w0 all os ((d, .slice A (sortU ((bNums gs).filter s)).length C) :: l) (.row w0.heap.size (.slice A (sortU ((bNums gs).filter s)).length C) 24 1 (sortU ((bNums gs).filter s)).length (u64s (sortU ((bNums gs).filter s))) :: ol') K Q) : S Try.prog n w0 all (o :: os) l ol K Q :=
  S_callTR i hs Try.call16 hi fun w g => by
    obtain ⟨A0, h1, h2⟩ := hl w g
    exact (bo_take (g.own _ (getE_mem hi)).1 (g.own _ (getE_mem hi)).2.2 h1 h2 hBd).mono fun e w' ⟨A, C, he, F', g1, g2, g3⟩ => by
      obtain ⟨ol', e1, e2⟩ := k A C F' fun j hj => (g2 j hj).elim (hN j) (Nat.le_trans g.size)
      exact ⟨_, _, F', _, _, _, _, _, he, g3, g1, g2, ol', e1, e2⟩
theorem S_bdue (i : Nat) {now : Int} (hs : callAt? n all (look l) o = some (d, 19, [bptr bb, .int .i64 now])) (hi : getE ol i = some (.rep (fun w => (boA bb f m gs last).at_ w F (.bool true)) F true)) (hN : ∀ k, F k → w0.heap.size ≤ k) (hnow : 0 ≤ now ∧ now ≤ 1152921504606846976) (htr : ∀ g ∈ gs, g.tries < 1099511627776)
    (k : ∀ a ln c xs (Fv F' : Nat → Prop), (∀ k, Fv k → w0.heap.size ≤ k) → (∀ k, F' k → w0.heap.size ≤ k) → (dueL gs now).length = ln ∧ xs.length = ln → ∃ ol', putE ol i (.rep (fun w => (boA bb f m (dueG f m now gs) last).at_ w F' (.bool true)) F' true) = some ol' ∧ S Try.prog n w0 all os ((d, .slice a ln c) :: l) (.rep (fun w => (LLx a ln c xs (dueL gs now)).at_ w Fv (.bool true)) Fv false :: ol') K Q) : S Try.prog n w0 all (o :: os) l ol K Q :=
  S_call hs Try.call19 fun w g => (bo_due (g.own _ (getE_mem hi)).1 (g.own _ (getE_mem hi)).2.2 hnow htr).mono fun e w' ⟨v, Fv, he, hv, F', g1, g2, g3⟩ => by
    obtain ⟨a, ln, c, xs, rfl, hx⟩ := toLL (g3.own _ (getE_mem (i := 0) rfl)).1
    have g4 := g3.mapI 0 rfl (Ψ := fun w => (LLx a ln c xs (dueL gs now)).at_ w Fv (.bool true)) (fun _ => hx) (Vp.loc (p := LLx _ _ _ _ _)) rfl
    obtain ⟨ol', e1, e2⟩ := k a ln c xs Fv F' (fun j hj => Nat.le_trans g.size (hv j hj)) (fun j hj => (g2 j hj).elim (hN j) (Nat.le_trans g.size)) (LLx.len hx)
    exact ⟨_, _, he, g.graftTV i hi g4 hv g1 g2 e1, e2⟩
/-- a set of numbers -/
theorem S_of {a : Option Addr} {ln c : Nat} {L : List Int} (hs : callAt? n all (look l) o = some (d, 21, [.slice a ln c])) (hl : ∀ w, Hp w0 w ol → ∃ A0, SlR (Rint .u64) w A0 a ln c L) (hn : ln ≤ 800000)
    (k : ∀ a' n' c' (F2 : Nat → Prop), (∀ k, F2 k → w0.heap.size ≤ k) → S Try.prog n w0 all os ((d, setV a' n' c') :: l) (.rep (fun w => (setP (· ∈ L) L.length).at_ w F2 (setV a' n' c')) F2 false :: ol) K Q) : S Try.prog n w0 all (o :: os) l ol K Q :=
  S_callR (setP (· ∈ L) L.length) (fun _ => False) hs Try.call21 (fun w1 h1 => by
    obtain ⟨A0, h2⟩ := hl w1 h1
    exact (of_p a ln c L w1 h2 hn).mono fun e w' ⟨r, e1, e2, e3⟩ => ⟨r, e1, e2, nbb h1 e3⟩) fun v F w1 hF hv => by
    obtain ⟨a', n', c', rfl⟩ := setP_val hv
    exact k a' n' c' F fun j hj => (hF j hj).resolve_left id
theorem S_eq64 {a a' : Option Addr} {n1 c1 n2 c2 : Nat} {L M : List Int} (hs : callAt? n all (look l) o = some (d, 23, [.slice a n1 c1, .slice a' n2 c2])) (h1 : ∀ w, Hp w0 w ol → Sl w 1 a n1 (L.map (.int .u64))) (h2 : ∀ w, Hp w0 w ol → Sl w 1 a' n2 (M.map (.int .u64))) (hm : ∀ w, Hp w0 w ol → n1 ≤ maxLen)
    (k : S Try.prog n w0 all os ((d, .bool (decide (L = M))) :: l) ol K Q) : S Try.prog n w0 all (o :: os) l ol K Q :=
  S_callq hs Try.call23 (fun w1 g => equal64_ok a a' n1 c1 n2 c2 L M w1 (h1 w1 g) (h2 w1 g) (hm w1 g)) k
theorem blk_sl {w : World} {b : Nat} {e : TypeId} {fz : Nat × Nat} {cs : List Value} (h : w.heap[b]? = some (.cells ⟨cs⟩ e fz)) : Sl w 1 (some ⟨b, 0, none⟩) cs.length cs := Sl.of_blk h (by rw [Nat.mul_one]) fun j u hu => by rw [Nat.zero_add]; exact hu
/-- of one's own, just made -/
theorem S_bnew (hp : PR f m) (hs : callAt? n all (look l) o = some (d, 12, [.agg #[.int .i64 f, .int .i64 m]]))
    (k : ∀ bb (F : Nat → Prop), (∀ k, F k → w0.heap.size ≤ k) → S Try.prog n w0 all os ((d, .tuple #[bptr bb, .int .i64 0]) :: l) (.rep (fun w => (boA bb f m [] 0).at_ w F (.bool true)) F true :: ol) K Q) : S Try.prog n w0 all (o :: os) l ol K Q :=
  S_callN hs Try.call12 fun w1 h1 => (bo_new f m w1).mono fun e w' h => by
    rw [if_pos hp] at h
    obtain ⟨bb, F, e1, e2, e3⟩ := h
    exact ⟨_, _, F, e1, e3, e2, fun hN => k bb F hN⟩
end
set_option maxHeartbeats 4000000 in
theorem awake13_ok (w : World) : Calls Try.prog 11 #[] w fun e w' => e = .returned (.bool true) ∧ Below w.heap.size w w' := by
  refine enter0 Try.func11 rfl (Hp.refl w) ?_
  repeat (first | refine T_seq ?_ | refine T_region ?_ | refine S_nil ?_ | refine S_pure tabOk rfl ?_ | refine S_q (Q_build tabOk rfl rfl rfl rfl rfl rfl rfl) ?_)
  refine S_bnew (by decide) rfl (fun bb F0 hN0 => ?_)
  repeat (first | refine T_seq ?_ | refine T_region ?_ | refine S_nil ?_ | refine S_pure tabOk rfl ?_)
  refine S_bslice tabOk rfl rfl rfl rfl rfl rfl rfl rfl rfl rfl rfl rfl (fun n1 hn1 => ?_)
  refine S_bsend 1 (L := [5, 7]) rfl rfl hN0 (fun w1 h1 => Arg.blk (l := [5, 7]) 0 1 h1 rfl rfl rfl (by decide) (by decide)) (by decide) (by decide) (by decide) (by decide) (fun F1 hN1 => ⟨_, rfl, ?_⟩)
  rw [show bSend 2 10 [] 0 0 [5, 7] = ([⟨1, [5, 7], 2, 1⟩], 1, 1) from rfl]
  dsimp only
  repeat (first | refine S_pure tabOk rfl ?_)
  refine S_bslice tabOk rfl rfl rfl rfl rfl rfl rfl rfl rfl rfl rfl rfl (fun n2 hn2 => ?_)
  refine S_of (L := [5]) rfl (fun w1 h1 => ⟨_, blk_slr (l := [5]) (h1.own _ (getE_mem (i := 0) rfl)) (by decide) (by decide)⟩) (by decide) (fun a2 m2 c2 F2 hF2 => ?_)
  refine S_btake 3 (s := fun n => decide (n = 5)) rfl rfl hN1 (fun w1 h1 => SArg.rep 0 3 h1 rfl rfl rfl (fun x => by simp)) (by decide) (fun A3 C3 F3 hN3 => ⟨_, rfl, ?_⟩)
  rw [show rmB [⟨1, [5, 7], 2, 1⟩] (fun n => decide (n = 5)) = [⟨1, [7], 2, 1⟩] from rfl, show sortU ((bNums [⟨1, [5, 7], 2, 1⟩]).filter fun n => decide (n = 5)) = [5] from rfl]
  refine S_bslice tabOk rfl rfl rfl rfl rfl rfl rfl rfl rfl rfl rfl rfl (fun n4 hn4 => ?_)
  refine S_eq64 (L := [5]) (M := [5]) rfl (fun w1 h1 => Sl.of_own (h1.own _ (getE_mem (i := 1) rfl))) (fun w1 h1 => blk_sl (h1.own _ (getE_mem (i := 0) rfl))) (fun _ _ => by decide) ?_
  repeat (first | refine S_nil ?_ | refine S_pure tabOk rfl ?_)
  refine T_cond_f rfl ?_
  repeat (first | refine T_seq ?_ | refine T_region ?_ | refine pthen_normal ?_ | refine T_skip ?_ | refine S_pure tabOk rfl ?_)
  refine S_bdue 5 rfl rfl hN3 (by decide) (by decide) (fun a5 n5 c5 xs Fv F5 hFv hN5 hl5 => ⟨_, rfl, ?_⟩)
  rw [show dueL [⟨1, [7], 2, 1⟩] 2 = [[7]] from rfl] at hl5 ⊢
  rw [show dueG 2 10 2 [⟨1, [7], 2, 1⟩] = [⟨1, [7], 6, 2⟩] from rfl]
  obtain ⟨rfl, hxl⟩ := hl5
  obtain ⟨x, rfl⟩ : ∃ x, xs = [x] := by
    match xs, hxl with
    | [x], _ => exact ⟨x, rfl⟩
  repeat (first | refine T_seq ?_ | refine T_region ?_ | refine S_nil ?_ | refine S_pure tabOk rfl ?_)
  refine S_callq (v := .tuple #[.int .i64 6, .bool true]) rfl Try.call34 (fun w1 h1 => bo_next (h1.own _ (getE_mem (i := 6) rfl)).1) ?_
  repeat (first | refine T_seq ?_ | refine T_region ?_ | refine S_nil ?_ | refine S_pure tabOk rfl ?_)
  refine S_kn (p := ∃ b off, a5 = some ⟨b, off, none⟩) (fun w1 h1 => LLx.addr (h1.own _ (getE_mem (i := 0) rfl)).1 (by decide)) (fun ⟨b5, o5, e5⟩ => ?_)
  subst e5
  refine S_q (Q_idx (sz := 1) tabOk rfl rfl rfl rfl rfl rfl rfl (j := 0) rfl (by decide)) ?_
  refine S_load1 tabOk (v := x.v) rfl rfl (fun w1 h1 => LLx.cell (h1.own _ (getE_mem (i := 0) rfl)).1 (i := 0) rfl) ?_
  refine S_bslice tabOk rfl rfl rfl rfl rfl rfl rfl rfl rfl rfl rfl rfl (fun n6 hn6 => ?_)
  refine S_eq64 (L := [7]) (M := [7]) rfl (fun w1 h1 => (LLx.get (h1.own _ (getE_mem (i := 1) rfl)).1 (i := 0) rfl rfl).ints.sl) (fun w1 h1 => blk_sl (h1.own _ (getE_mem (i := 0) rfl))) (fun w1 h1 => (LLx.get (h1.own _ (getE_mem (i := 1) rfl)).1 (i := 0) rfl rfl).maxn) ?_
  repeat (first | refine S_nil ?_ | refine T_ret ?_ | refine S_pure tabOk rfl ?_)
  exact ret1 rfl rfl (fun w' hw => ⟨rfl, hw.below (by repeat (first | exact new_nil | refine new_ro ?_ | refine new_rx (by assumption) ?_ | refine new_cons (by first | assumption | omega) ?_ | refine newrow hw 3 rfl (Nat.le_refl _) ?_))⟩)
end Go.Proofs.Ytanhmmfpecgbhaa
