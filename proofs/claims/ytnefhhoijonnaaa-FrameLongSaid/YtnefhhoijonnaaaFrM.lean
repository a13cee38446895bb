/-
  Frames: how a frame's bytes are read, part by part. Conditions: each theorem's own.
-/
import Derived.Test.YtnefhhoijonnaaaFrL
namespace Go.Proofs.Ytnefhhoijonnaaa
open Go Go.RowKit
set_option linter.unusedVariables false

/-- A reader's state: the error, the place. -/
abbrev St := Int × Nat
def pN (all : List Int) (s : St) : St × Int := (((rd s.1 (all.drop s.2)).1, s.2 + (rd s.1 (all.drop s.2)).2.2), ((rd s.1 (all.drop s.2)).2.1 : Int))
def pF (all : List Int) (most : Int) (s : St) : St × Int := if most < (pN all s).2 then ((if (pN all s).1.1 = 0 then 2 else (pN all s).1.1, (pN all s).1.2), 0) else pN all s
def pB (all : List Int) (s : St) : St × Int := (((by1 s.1 (all.drop s.2)).1, s.2 + (by1 s.1 (all.drop s.2)).2.2), (by1 s.1 (all.drop s.2)).2.1)
def pRun (all : List Int) (s : St) : St × Run := ((pN all (pN all s).1).1, ((pN all s).2, (pN all (pN all s).1).2))
def pR (all : List Int) (s : St) : Nat → St × List Run
  | 0 => (s, [])
  | i + 1 => ((pRun all (pR all s i).1).1, (pR all s i).2 ++ [(pRun all (pR all s i).1).2])
def pIt (all : List Int) (s : St) : St × ItemI := (((getI s.1 (all.drop s.2)).1, s.2 + (getI s.1 (all.drop s.2)).2.2), (((getI s.1 (all.drop s.2)).2.1.1 : Int), (getI s.1 (all.drop s.2)).2.1.2))
def pI (all : List Int) (s : St) : Nat → St × List ItemI
  | 0 => (s, [])
  | i + 1 => ((pIt all (pI all s i).1).1, (pI all s i).2 ++ [(pIt all (pI all s i).1).2])
theorem pR_len (all : List Int) (s : St) (i : Nat) : (pR all s i).2.length = i := by
  induction i with
  | zero => rfl
  | succ i ih => show ((pR all s i).2 ++ _).length = _; rw [List.length_append, ih]; rfl
theorem pI_len (all : List Int) (s : St) (i : Nat) : (pI all s i).2.length = i := by
  induction i with
  | zero => rfl
  | succ i ih => show ((pI all s i).2 ++ _).length = _; rw [List.length_append, ih]; rfl
section
variable {all : List Int}
theorem pN_fit (hf : ∀ z ∈ all, Fits .u8 z) (s : St) : Fits .u64 (pN all s).2 := by
  have := (rd_bd (e := s.1) (zs := all.drop s.2) fun z hz => hf z (List.mem_of_mem_drop hz)).1
  exact mk_u64 (by unfold pN; dsimp only; omega)
theorem pN_le (hf : ∀ z ∈ all, Fits .u8 z) (s : St) (h : s.2 ≤ all.length) : (pN all s).1.2 ≤ all.length := by
  have := (rd_bd (e := s.1) (zs := all.drop s.2) fun z hz => hf z (List.mem_of_mem_drop hz)).2
  rw [List.length_drop] at this
  unfold pN
  dsimp only
  omega
theorem pF_bd (hf : ∀ z ∈ all, Fits .u8 z) {most : Int} (hm : 0 ≤ most) (s : St) : 0 ≤ (pF all most s).2 ∧ (pF all most s).2 ≤ most := by
  have h1 := fits_u64 (pN_fit hf s)
  unfold pF
  split
  · exact ⟨Int.le_refl (0 : Int), hm⟩
  · exact ⟨h1.1, by omega⟩
theorem pF_le (hf : ∀ z ∈ all, Fits .u8 z) (most : Int) (s : St) (h : s.2 ≤ all.length) : (pF all most s).1.2 ≤ all.length := by
  unfold pF
  split
  · exact pN_le hf s h
  · exact pN_le hf s h
end

/-- What In is of: its block. -/
def FB (b : Nat) : Nat → Prop := fun k => k = b
def inP (b : Nat) (A : Option Addr) (N C : Nat) (s : St) (w : World) : Prop := ∃ a n c, w.heap[b]? = some (inO a n c s.1) ∧ Suf A N C s.2 a n c
abbrev inE (b : Nat) (A : Option Addr) (N C : Nat) (s : St) : HE := .rep (inP b A N C s) (FB b) true
theorem inP.loc {b : Nat} {A : Option Addr} {N C : Nat} {s : St} : Loc (inP b A N C s) (FB b) := fun w w' h ⟨a, n, c, h1, h2⟩ => ⟨a, n, c, (h b rfl).trans h1, h2⟩
theorem inP.holds {b : Nat} {A : Option Addr} {N C : Nat} {s : St} {w : World} (h : inP b A N C s w) : (inE b A N C s).holds w := by
  obtain ⟨a, n, c, h1, h2⟩ := h
  exact ⟨⟨a, n, c, h1, h2⟩, inP.loc, fun k hk => by rw [show k = b from hk]; exact heap_lt h1⟩
/-- A block that was turned, told by the object. -/
theorem Hp.toIn {w w' : World} {b : Nat} {a : Option Addr} {n c : Nat} {A : Option Addr} {N C : Nat} {s : St} (h : Hp w w' [.blk b (inO a n c s.1) true]) (hs : Suf A N C s.2 a n c) : Hp w w' [inE b A N C s] := by
  have h1 := h.own _ List.mem_cons_self
  refine ⟨h.os, h.tape, h.output, h.size, fun k hk he => h.old k hk fun e hm _ hh => ?_, fun e hm => ?_, List.pairwise_singleton _ _⟩
  · rw [List.mem_singleton] at hm
    subst hm
    exact he _ List.mem_cons_self rfl (by rw [← Option.some.inj hh]; rfl)
  · rw [List.mem_singleton] at hm
    subst hm
    exact inP.holds ⟨a, n, c, h1, hs⟩
section
variable {b : Nat} {A : Option Addr} {N C : Nat} {all : List Int} {s : St} {w : World}
theorem num_t (h : inP b A N C s w) (hA : Ints .u8 w A N C all) (hap : ∀ b' off, A = some ⟨b', off, none⟩ → b' ≠ b) (hN : N ≤ 1073741824) : Calls Try.prog 63 #[.pointer (some ⟨b, 0, none⟩)] w fun e w' => e = .returned (.int .u64 (pN all s).2) ∧ Hp w w' [inE b A N C (pN all s).1] := by
  obtain ⟨a, n, c, h1, h2⟩ := h
  exact (innum_ok b a n c A N C s.2 all s.1 w h1 h2 hA hap hN).mono fun e w' ⟨a', n', c', e1, e2, e3⟩ => ⟨e1, Hp.toIn (s := (pN all s).1) e3 e2⟩
theorem byte_t (h : inP b A N C s w) (hA : Ints .u8 w A N C all) (hap : ∀ b' off, A = some ⟨b', off, none⟩ → b' ≠ b) (hN : N ≤ 1073741824) : Calls Try.prog 61 #[.pointer (some ⟨b, 0, none⟩)] w fun e w' => e = .returned (.int .u8 (pB all s).2) ∧ Hp w w' [inE b A N C (pB all s).1] := by
  obtain ⟨a, n, c, h1, h2⟩ := h
  exact (inbyte_ok b a n c A N C s.2 all s.1 w h1 h2 hA hap hN).mono fun e w' ⟨a', n', c', e1, e2, e3⟩ => ⟨e1, Hp.toIn (s := (pB all s).1) e3 e2⟩
theorem fail_t (x : Int) (h : inP b A N C s w) : Calls Try.prog 98 #[.pointer (some ⟨b, 0, none⟩), .int .i64 x] w fun e w' => e = .returned (.tuple #[]) ∧ Hp w w' [inE b A N C (if s.1 = 0 then x else s.1, s.2)] := by
  obtain ⟨a, n, c, h1, h2⟩ := h
  exact (fail_ok b a n c s.1 x w h1).mono fun e w' ⟨e1, e2⟩ => ⟨e1, Hp.toIn (s := (if s.1 = 0 then x else s.1, s.2)) e2 h2⟩
theorem end_t (h : inP b A N C s w) (hA : Ints .u8 w A N C all) : Calls Try.prog 64 #[.pointer (some ⟨b, 0, none⟩)] w fun e w' => e = .returned (.int .i64 (enE s.1 (all.length - s.2))) ∧ Hp w w' [inE b A N C (enE s.1 (all.length - s.2), s.2)] := by
  obtain ⟨a, n, c, h1, h2⟩ := h
  have hn : n = all.length - s.2 := by
    have h3 := (h2.ints hA).len
    rw [List.length_drop] at h3
    omega
  rw [← hn]
  exact (inend_ok b a n c s.1 w h1).mono fun e w' ⟨e1, e2⟩ => ⟨e1, Hp.toIn (s := (enE s.1 n, s.2)) e2 h2⟩
end
theorem Hp.graftT {w0 w w' : World} {ol ol' : OL} (i : Nat) {Φ Ψ : World → Prop} {F F' : Nat → Prop} (hh : Hp w0 w ol) (hi : getE ol i = some (.rep Φ F true)) (h2 : Hp w w' [.rep Ψ F' true]) (hF : ∀ k, F k → F' k) (hF' : ∀ k, F' k → F k ∨ w.heap.size ≤ k)
    (hput : putE ol i (.rep Ψ F' true) = some ol') : Hp w0 w' ol' := by
  obtain ⟨pre, post, e1, e2⟩ := putE_eq hi hput
  rw [e1] at hh
  rw [e2]
  refine hh.turn (x' := .rep Ψ F' true) rfl h2.os h2.tape h2.output h2.size (fun j hj hne => h2.old j hj fun e he _ hk => ?_) (h2.own _ List.mem_cons_self) hF' (fun k hk => .inr (hF k hk))
  rw [List.mem_singleton] at he
  subst he
  rcases hF' j hk with h | h
  · exact hne h
  · omega
section
variable {P : Program} {n : Nat} {w0 : World} {all : Array Oper} {os : List Oper} {o : Oper} {l : FL} {ol : OL} {K : FL → OL → Prop} {Q : Post} {d : Nat}
/-- a call that turns In -/
theorem S_tin (i : Nat) {b : Nat} {A : Option Addr} {N C : Nat} {s s' : St} {f : FuncId} {vs : List Value} {v : Value} {ol' : OL} (hs : callAt? n all (look l) o = some (d, f, vs)) (hcall : ∀ args w, (callFunc f args).run P w = .ok (.enter f args) w) (hi : getE ol i = some (inE b A N C s))
    (hc : ∀ w, Hp w0 w ol → inP b A N C s w → Calls P f vs.toArray w (fun e w' => e = .returned v ∧ Hp w w' [inE b A N C s'])) (hp : putE ol i (inE b A N C s') = some ol') (k : S P n w0 all os ((d, v) :: l) ol' K Q) : S P n w0 all (o :: os) l ol K Q :=
  S_call hs hcall fun w hh => (hc w hh (hh.own _ (getE_mem hi)).1).mono fun e w' ⟨he, h2⟩ => ⟨v, ol', he, hh.graftT i hi h2 (fun k hk => hk) (fun k hk => .inl hk) hp, k⟩
end
/-- Two things of our own that are turned, and a slice that is read. -/
theorem Hp.start1V {w : World} {p : Vp} {A : Nat → Prop} {v : Value} {L : OL} (hL : ∀ e ∈ L, e.ex = true ∧ e.holds w ∧ ∀ k, e.has k → ¬ A k) (hd : L.Pairwise Dis) (hv : p.at_ w A v) : ∃ F : Nat → Prop, (∀ k, F k → A k) ∧ Hp w w (L ++ [.rep (fun w => p.at_ w F v) F false]) := by
  obtain ⟨F, hF0⟩ : ∃ F : Nat → Prop, F = fun k => A k ∧ k < w.heap.size := ⟨_, rfl⟩
  have hF : p.at_ w F v := p.keep hv fun k hk hlt => ⟨rfl, by rw [hF0]; exact ⟨hk, hlt⟩⟩
  refine ⟨F, fun k hk => by rw [hF0] at hk; exact hk.1, rfl, rfl, rfl, Nat.le_refl _, fun _ _ _ => rfl, fun e he => ?_, List.pairwise_append.2 ⟨hd, List.pairwise_singleton _ _, fun e he x hx _ k hk hk' => ?_⟩⟩
  · rcases List.mem_append.1 he with he | he
    · exact (hL e he).2.1
    · rw [List.mem_singleton] at he
      subst he
      exact ⟨hF, fun w1 w2 h1 h2 => p.keep h2 fun k hk _ => ⟨h1 k hk, hk⟩, fun k hk => by rw [hF0] at hk; exact hk.2⟩
  · rw [List.mem_singleton] at hx
    subst hx
    have hk2 : F k := hk'
    rw [hF0] at hk2
    exact (hL e he).2.2 k hk hk2.1
set_option maxHeartbeats 1000000 in
theorem fewIn_t {b : Nat} {A : Option Addr} {N C : Nat} {all : List Int} {s : St} {w : World} {most : Int} (hm : 0 ≤ most ∧ most ≤ 1000) (h : inP b A N C s w) (hA : Ints .u8 w A N C all) (hap : ∀ b' off, A = some ⟨b', off, none⟩ → b' ≠ b) (hN : N ≤ 1073741824) : Calls Try.prog 62 #[.pointer (some ⟨b, 0, none⟩), .int .u64 most] w fun e w' => e = .returned (.int .i64 (pF all most s).2) ∧ Hp w w' [inE b A N C (pF all most s).1] := by
  obtain ⟨F, hF, hst⟩ := Hp.start1V (L := [inE b A N C s]) (fun e he => by
    rw [List.mem_singleton] at he
    subst he
    exact ⟨rfl, inP.holds h, fun k hk hn => hn (show k = b from hk)⟩) (List.pairwise_singleton _ _) (SlR.noBlk hA (fun _ => hap))
  have hpf := fits_u64 (pN_fit hA.fits s)
  refine enter2 Try.func62 rfl rfl hst ?_
  repeat (first | refine T_seq ?_ | refine T_region ?_ | refine S_nil ?_ | refine S_pure tabOk rfl ?_)
  refine S_tin 0 rfl Try.call63 rfl (fun w1 g h => num_t h (SlR.of_val (Vp.fact0 (p := (Rslice (Rint .u8)).vp all) g 1 rfl)).ints hap hN) rfl ?_
  repeat (first | refine T_seq ?_ | refine T_region ?_ | refine S_nil ?_ | refine S_pure tabOk rfl ?_)
  refine T_cond_dec rfl (fun h1 => ?_) (fun h1 => ?_)
  · repeat (first | refine T_seq ?_ | refine T_region ?_ | refine S_pure tabOk rfl ?_)
    refine S_tin 0 rfl Try.call98 rfl (fun w1 g h => fail_t 2 h) rfl ?_
    repeat (first | refine T_seq ?_ | refine T_region ?_ | refine S_nil ?_ | refine pthen_ret ?_ | refine T_ret ?_ | refine S_pure tabOk rfl ?_)
    have e : pF all most s = ((if (pN all s).1.1 = 0 then 2 else (pN all s).1.1, (pN all s).1.2), 0) := by unfold pF; rw [if_pos h1]
    rw [e]
    exact ret1 rfl rfl (fun w' hw => ⟨rfl, hw.less (by repeat (first | exact Less.nil | refine Less.keep ?_ | refine Less.dropR ?_))⟩)
  · repeat (first | refine T_seq ?_ | refine T_region ?_ | refine S_nil ?_ | refine pthen_normal ?_ | refine T_skip ?_ | refine T_ret ?_ | refine S_i64 tabOk rfl (by omega) ?_ | refine S_pure tabOk rfl ?_)
    trace_state
    have e : pF all most s = pN all s := by unfold pF; rw [if_neg h1]
    rw [e]
    exact ret1 rfl rfl (fun w' hw => ⟨rfl, hw.less (by repeat (first | exact Less.nil | refine Less.keep ?_ | refine Less.dropR ?_))⟩)
end Go.Proofs.Ytnefhhoijonnaaa
