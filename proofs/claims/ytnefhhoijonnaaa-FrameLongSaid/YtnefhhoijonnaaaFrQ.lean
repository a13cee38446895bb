/-
  Frames: Decode. Conditions: each theorem's own.
-/
import Derived.Test.YtnefhhoijonnaaaFrP
namespace Go.Proofs.Ytnefhhoijonnaaa
open Go Go.RowKit
set_option linter.unusedVariables false

theorem pm4 {α : Type} (a b c d e : α) : List.Perm [a, b, c, d, e] [c, d, e, b, a] := by
  have hP : List.Perm ([0, 1, 2, 3, 4] : List Nat) [2, 3, 4, 1, 0] := by decide
  exact hP.map fun i => ([a, b, c, d, e][i]?).getD a
theorem pm5 {α : Type} (a b c d e : α) : List.Perm [a, b, c, d, e] [d, e, b, c, a] := by
  have hP : List.Perm ([0, 1, 2, 3, 4] : List Nat) [3, 4, 1, 2, 0] := by decide
  exact hP.map fun i => ([a, b, c, d, e][i]?).getD a
theorem pm6 {α : Type} (a b c d e : α) : List.Perm [a, b, c, d, e] [b, c, a, d, e] := by
  have hP : List.Perm ([0, 1, 2, 3, 4] : List Nat) [1, 2, 0, 3, 4] := by decide
  exact hP.map fun i => ([a, b, c, d, e][i]?).getD a
def zH : Hd := ⟨0, 0, 0, 0, 0, 0, 0⟩
/-- What was read. -/
structure DR where
  H : Hd
  rs : List Run
  its : List ItemI
  q : St
/-- A kind's own parts. -/
def partD (all : List Int) (H : Hd) (q : St) : DR :=
  if H.kd = 1 then ⟨hBa H (pN all q).2, [], [], (pN all q).1⟩
  else if H.kd = 3 then ⟨hIt H (pN all q).2 (pN all (pN all q).1).2, [], (pI all (pF all 64 (p2 all q)).1 (pF all 64 (p2 all q)).2.toNat).2, (pI all (pF all 64 (p2 all q)).1 (pF all 64 (p2 all q)).2.toNat).1⟩
  else ⟨hGr H (pN all q).2 (pN all (pN all q).1).2 (pN all (pN all (pN all q).1).1).2, (pR all (pF all 32 (p3 all q)).1 (pF all 32 (p3 all q)).2.toNat).2, [], (pR all (pF all 32 (p3 all q)).1 (pF all 32 (p3 all q)).2.toNat).1⟩
/-- The numbers ahead. -/
def headD (all : List Int) : Hd × St := (⟨(pB all (0, 0)).2, (pF all 15 (pB all (0, 0)).1).2, (pN all (pF all 15 (pB all (0, 0)).1).1).2, 0, 0, 0, 0⟩, (pN all (pF all 15 (pB all (0, 0)).1).1).1)
def innD (all : List Int) : DR := partD all (headD all).1 (headD all).2
def endD (all : List Int) : Int := enE (innD all).q.1 (all.length - (innD all).q.2)
def okK (k : Int) : Prop := k = 1 ∨ k = 2 ∨ k = 3 ∨ k = 4
instance (k : Int) : Decidable (okK k) := by unfold okK; infer_instance
open Classical in
/-- What is decoded: the error, the frame. -/
noncomputable def decT (zs : List Int) : Int × Hd × List Run × List ItemI :=
  if 65507 < zs.length then (6, zH, [], []) else if openE zs ≠ 0 then (openE zs, zH, [], []) else if ¬ okK (headD (openR zs)).1.kd then (2, zH, [], []) else if endD (openR zs) ≠ 0 then (endD (openR zs), zH, [], []) else
    if ¬ frR (innD (openR zs)).H (innD (openR zs)).rs (innD (openR zs)).its then (1, zH, [], []) else (0, (innD (openR zs)).H, (innD (openR zs)).rs, (innD (openR zs)).its)
theorem pB_fit {all : List Int} (hf : ∀ z ∈ all, Fits .u8 z) (s : St) : Fits .u8 (pB all s).2 := by
  have := by1_bd (e := s.1) (zs := all.drop s.2) fun z hz => hf z (List.mem_of_mem_drop hz)
  exact fits8 ⟨this.1, this.2.1⟩
theorem headD_fit {all : List Int} (hf : ∀ z ∈ all, Fits .u8 z) : (headD all).1.Fit := by
  have h1 := pF_bd hf (most := 15) (by decide) (pB all (0, 0)).1
  exact ⟨pB_fit hf _, mk_i64 (by unfold headD; dsimp only; omega), pN_fit hf _, (mk_u64 (n := 0) (by decide)), (mk_u64 (n := 0) (by decide)), (mk_u64 (n := 0) (by decide)), (mk_u64 (n := 0) (by decide))⟩
theorem partD_fit {all : List Int} (hf : ∀ z ∈ all, Fits .u8 z) {H : Hd} (h : H.Fit) (q : St) : (partD all H q).H.Fit := by
  unfold partD
  split
  · exact ⟨h.kd, h.ag, h.ep, h.inc, pN_fit hf _, h.cu, h.li⟩
  split
  · exact ⟨h.kd, h.ag, h.ep, pN_fit hf _, pN_fit hf _, h.cu, h.li⟩
  · exact ⟨h.kd, h.ag, h.ep, pN_fit hf _, h.ba, pN_fit hf _, pN_fit hf _⟩
theorem innD_fit {all : List Int} (hf : ∀ z ∈ all, Fits .u8 z) : (innD all).H.Fit := partD_fit hf (headD_fit hf) _
theorem pR_okR {all : List Int} (hf : ∀ z ∈ all, Fits .u8 z) (s : St) (n : Nat) : ∀ r ∈ (pR all s n).2, okR r := by
  induction n with
  | zero => exact fun r hr => by cases hr
  | succ n ih =>
    intro r hr
    rcases List.mem_append.1 hr with hr | hr
    · exact ih r hr
    · rw [List.mem_singleton] at hr
      subst hr
      exact ⟨pN_fit hf _, pN_fit hf _⟩
theorem Hp.disI {w0 w : World} {o : OL} (h : Hp w0 w o) (i j : Nat) {bf b : Nat} {x : Obj} {A : Option Addr} {N C : Nat} {s : St} (hi : getE o i = some (.blk bf x true)) (hj : getE o j = some (inE b A N C s)) : bf ≠ b := by
  rintro rfl
  have := pw_mem (fun _ _ => Dis.symm) h.apart (getE_mem hi) (getE_mem hj) (by intro hh; cases hh)
  exact this rfl bf rfl rfl
theorem Hp.inAt {w0 w : World} {o o' : OL} (h : Hp w0 w o) (i : Nat) {b : Nat} {a : Option Addr} {n c : Nat} {A : Option Addr} {N C : Nat} {s : St} (hi : getE o i = some (.blk b (inO a n c s.1) true)) (hs : Suf A N C s.2 a n c) (hp : putE o i (inE b A N C s) = some o') : Hp w0 w o' := by
  obtain ⟨pre, post, e1, e2⟩ := putE_eq hi hp
  rw [e1] at h
  rw [e2]
  have hb : w.heap[b]? = _ := h.own _ (List.mem_append.2 (.inr List.mem_cons_self))
  exact h.turn (x' := inE b A N C s) rfl rfl rfl rfl (Nat.le_refl _) (fun _ _ _ => rfl) (inP.holds ⟨a, n, c, hb, hs⟩) (fun k hk => .inl (by rw [show k = b from hk]; rfl)) (fun k hk => .inr (Option.some.inj hk).symm)
/-- A kind's form, with what its third method does. -/
theorem form_get {l : List Value} {H : Hd} (hfo : FormI H.kd l true) : ∃ (u1 : ByteArray) (g1 g2 g3 : Nat), l = [.string u1, fnV g1, fnV g2, fnV g3] ∧ (∀ args w, (callFunc g3 args).run Try.prog w = .ok (.enter g3 args) w) ∧
    ∀ {w : World} {bf b : Nat} {A : Option Addr} {N C : Nat} {all : List Int} {q : St}, GetP w bf b A N C all H ⟨none, 0, 0, none, 0, 0⟩ q → Calls Try.prog g3 #[.pointer (some ⟨bf, 0, none⟩), .pointer (some ⟨b, 0, none⟩)] w fun e w' => ∃ s css G, e = .returned (.tuple #[]) ∧ (∀ k, G k → w.heap.size ≤ k) ∧ s.rn = (partD all H q).rs.length ∧ s.im = (partD all H q).its.length ∧ Hp w w' [.blk bf (fO (partD all H q).H s) true, inE b A N C (partD all H q).q, .row w.heap.size (.slice s.ra s.rn s.rc) 102 2 s.rn (cellsR (partD all H q).rs), .row w.heap.size (.slice s.ia s.im s.ic) 54 3 s.im css.flatten, bodE css (partD all H q).its G] := by
  have hgr : H.kd = 2 ∨ H.kd = 4 → ∀ {w : World} {bf b : Nat} {A : Option Addr} {N C : Nat} {all : List Int} {q : St}, GetP w bf b A N C all H ⟨none, 0, 0, none, 0, 0⟩ q → Calls Try.prog 86 #[.pointer (some ⟨bf, 0, none⟩), .pointer (some ⟨b, 0, none⟩)] w fun e w' => ∃ s css G, e = .returned (.tuple #[]) ∧ (∀ k, G k → w.heap.size ≤ k) ∧ s.rn = (partD all H q).rs.length ∧ s.im = (partD all H q).its.length ∧ Hp w w' [.blk bf (fO (partD all H q).H s) true, inE b A N C (partD all H q).q, .row w.heap.size (.slice s.ra s.rn s.rc) 102 2 s.rn (cellsR (partD all H q).rs), .row w.heap.size (.slice s.ia s.im s.ic) 54 3 s.im css.flatten, bodE css (partD all H q).its G] := fun hk _ _ _ _ _ _ all q g => by
    have e : partD all H q = ⟨hGr H (pN all q).2 (pN all (pN all q).1).2 (pN all (pN all (pN all q).1).1).2, (pR all (pF all 32 (p3 all q)).1 (pF all 32 (p3 all q)).2.toNat).2, [], (pR all (pF all 32 (p3 all q)).1 (pF all 32 (p3 all q)).2.toNat).1⟩ := by
      unfold partD
      rw [if_neg (by omega), if_neg (by omega)]
    rw [e]
    exact (getGrant_t g).mono fun e w' ⟨a, c, e1, h2⟩ => ⟨⟨a, _, c, none, 0, 0⟩, [], fun _ => False, e1, fun k hk => hk.elim, (pR_len _ _ _).symm, rfl, ((h2.nilRow _ _).nilBod).perm (pm4 ..)⟩
  generalize hkd : H.kd = kd at hfo
  cases hfo with
  | hello =>
    refine ⟨_, _, _, _, rfl, Try.call89, fun {_ _ _ _ _ _ all q} g => ?_⟩
    have e : partD all H q = ⟨hBa H (pN all q).2, [], [], (pN all q).1⟩ := by unfold partD; rw [if_pos hkd]
    rw [e]
    exact (getBase_t g).mono fun e w' ⟨e1, h2⟩ => ⟨⟨none, 0, 0, none, 0, 0⟩, [], fun _ => False, e1, fun k hk => hk.elim, rfl, rfl, (((h2.nilRow 54 3).nilRow 102 2).nilBod).perm (pm5 ..)⟩
  | welcome => exact ⟨_, _, _, _, rfl, Try.call86, hgr (.inl hkd)⟩
  | batch =>
    refine ⟨_, _, _, _, rfl, Try.call92, fun {_ _ _ _ _ _ all q} g => ?_⟩
    have e : partD all H q = ⟨hIt H (pN all q).2 (pN all (pN all q).1).2, [], (pI all (pF all 64 (p2 all q)).1 (pF all 64 (p2 all q)).2.toNat).2, (pI all (pF all 64 (p2 all q)).1 (pF all 64 (p2 all q)).2.toNat).1⟩ := by
      unfold partD
      rw [if_neg (by omega), if_pos hkd]
    rw [e]
    exact (getItems_t g).mono fun e w' ⟨a, c, css, G, e1, hG, h2⟩ => ⟨⟨none, 0, 0, a, _, c⟩, css, G, e1, hG, rfl, (pI_len _ _ _).symm, (h2.nilRow 102 2).perm (pm6 ..)⟩
  | ack => exact ⟨_, _, _, _, rfl, Try.call86, hgr (.inr hkd)⟩
end Go.Proofs.Ytnefhhoijonnaaa
