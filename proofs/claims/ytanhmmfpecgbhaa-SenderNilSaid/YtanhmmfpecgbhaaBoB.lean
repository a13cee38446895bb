/-
  A board as an object: its blocks, opened and closed. Conditions: each theorem's own.
-/
import Derived.Test.YtanhmmfpecgbhaaBoA
namespace Go.Proofs.Ytanhmmfpecgbhaa
open Go Go.RowKit
set_option linter.unusedVariables false

theorem mPut_fresh (k : Int) (v : Value) (c : Nat) : ∀ (M : List ME), k ∉ M.map (·.1) → mPut M k v c = (M ++ [(k, v, c)], c + 1)
  | [], _ => mPut_nil k v c
  | p :: M, h => by
    rw [List.map_cons, List.mem_cons, not_or] at h
    rw [mPut_cons, if_neg h.1, mPut_fresh k v c M h.2]
    rfl
theorem mPut_there (k : Int) (v : Value) (c : Nat) : ∀ (M : List ME), k ∈ M.map (·.1) → (mPut M k v c).1.map (·.2.2) = M.map (·.2.2) ∧ (mPut M k v c).2 = c
  | [], h => by cases h
  | p :: M, h => by
    rw [mPut_cons]
    split
    · exact ⟨rfl, rfl⟩
    · rename_i hne
      rw [List.map_cons, List.mem_cons] at h
      have ih := mPut_there k v c M (h.resolve_left hne)
      exact ⟨congrArg (p.2.2 :: ·) ih.1, ih.2⟩
theorem MOk.put {M : List ME} {c : Nat} (h : MOk M c) (k : Int) (v : Value) : MOk (mPut M k v c).1 (mPut M k v c).2 := by
  by_cases hk : k ∈ M.map (·.1)
  · obtain ⟨h1, h2⟩ := mPut_there k v c M hk
    refine ⟨mPut_nodup h.keys, by rw [h1]; exact h.borns, fun p hp => ?_⟩
    have h3 : p.2.2 ∈ (mPut M k v c).1.map (·.2.2) := List.mem_map.2 ⟨p, hp, rfl⟩
    rw [h1] at h3
    obtain ⟨q, hq, e⟩ := List.mem_map.1 h3
    rw [h2, ← e]
    exact h.lt q hq
  · rw [mPut_fresh k v c M hk]
    refine ⟨?_, ?_, fun p hp => ?_⟩
    · rw [List.map_append, List.nodup_append]
      refine ⟨h.keys, by simp, fun a ha b hb => ?_⟩
      rw [List.map_cons, List.map_nil, List.mem_singleton] at hb
      rintro rfl
      have e : a = k := hb
      exact hk (e ▸ ha)
    · rw [List.map_append, List.nodup_append]
      refine ⟨h.borns, by simp, fun a ha b hb => ?_⟩
      rw [List.map_cons, List.map_nil, List.mem_singleton] at hb
      rintro rfl
      obtain ⟨p, hp, e⟩ := List.mem_map.1 ha
      have := h.lt p hp
      rw [e, hb] at this
      exact absurd this (Nat.lt_irrefl _)
    · rcases List.mem_append.1 hp with hp | hp
      · exact Nat.lt_succ_of_lt (h.lt p hp)
      · rw [List.mem_singleton] at hp
        subst hp
        exact Nat.lt_succ_self _
theorem mDel_sub (n : Int) : ∀ (M : List ME), (mDel M n).Sublist M
  | [] => by rw [mDel_nil]; exact List.Sublist.refl _
  | p :: M => by
    rw [mDel_cons]
    split
    · exact List.sublist_cons_self _ _
    · exact (mDel_sub n M).cons_cons p
theorem MOk.del {M : List ME} {c : Nat} (h : MOk M c) (n : Int) : MOk (mDel M n) c :=
  ⟨h.keys.sublist ((mDel_sub n M).map _), h.borns.sublist ((mDel_sub n M).map _), fun p hp => h.lt p ((mDel_sub n M).subset hp)⟩
/-- a block's cell -/
theorem cellH {w : World} {b : Nat} {cs : List Value} {e : TypeId} {fz : Nat × Nat} (h : w.heap[b]? = some (.cells ⟨cs⟩ e fz)) {j : Nat} {u : Value} (hj : cs[j]? = some u) : w.cell? ⟨b, 0 + j, none⟩ = some u :=
  (Sl.of_blk (n := cs.length) (sz := 1) (off := 0) h (by rw [Nat.mul_one]) (fun j u hu => by rw [Nat.zero_add]; exact hu)).at_ (Nat.lt_of_le_of_lt (Nat.zero_le j) (List.getElem?_eq_some_iff.1 hj).1) hj
/-- 'm[k]': there -/
theorem Q_look {P : Program} {tb : Tab} {n : Nat} {w0 : World} {all : Array Oper} {o : Oper} {ol : OL} {d : Nat} {r : Nat → Option Value} (ht : TabOk P tb) {mt kt et : TypeId} {x ix : Operand} {κ : IntKind} {b : Nat} {k : Int} {M : List ME} {c : Nat} {tm tk te : TI} {v : Value} (hs : opAt? n all r o = some (d, .lookup mt x ix false)) (hx : ev r x = some (.map (some b))) (hi : ev r ix = some (.int κ k))
    (htm : tl tb mt = some tm) (hdm : tm.desc = .map kt et) (htk : tl tb kt = some tk) (hdk : tk.desc = .int κ) (hte : tl tb et = some te) (hb : ∀ w, Hp w0 w ol → w.heap[b]? = some (mapO κ M c)) (hg : mGet M k = some v) : QOp P n w0 all r ol o d v := by
  have h := Q_lookup (w0 := w0) (ol := ol) ht hs hx hi htm hdm htk hdk hte hb
  unfold mGet at hg
  cases hm : mIdx k M 0 with
  | none => rw [hm] at hg; cases hg
  | some p =>
    obtain ⟨j, u⟩ := p
    rw [hm] at h hg
    cases hg
    exact h
section
variable {P : Program} {tb : Tab} {n : Nat} {w0 : World} {all : Array Oper} {os : List Oper} {o : Oper} {l : FL} {ol : OL} {K : FL → OL → Prop} {Q : Post}
/-- delete of a block of our own, told nowhere -/
theorem S_deleteN (ht : TabOk P tb) (i : Nat) {mt kt et : TypeId} {x ix : Operand} {κ : IntKind} {b : Nat} {k : Int} {M : List ME} {c : Nat} {tm tk : TI} {ol' : OL} (hs : noAt? all (look l) o = some (.call ⟨.builtin .delete, #[x, ix], #[mt, kt]⟩)) (hx : ev (look l) x = some (.map (some b))) (hk : ev (look l) ix = some (.int κ k))
    (hi : getE ol i = some (.blk b (mapO κ M c) true)) (htm : tl tb mt = some tm) (hdm : tm.desc = .map kt et) (htk : tl tb kt = some tk) (hdk : tk.desc = .int κ) (hp : putE ol i (.blk b (mapO κ (mDel M k) c) true) = some ol') (kk : S P n w0 all os l ol' K Q) : S P n w0 all (o :: os) l ol K Q := by
  obtain ⟨hdst, hg, hop⟩ := noAt_spec hs
  refine ⟨fun a w hf hh => ?_⟩
  have h1 := ht.under' htm
  rw [hdm] at h1
  have h2 := ht.under' htk
  rw [hdk] at h2
  have h3 := run_delete (P := P) (ty := o.type) h1 h2 (hh.own _ (getE_mem hi)) k
  obtain ⟨pre, post, e1, e2⟩ := putE_eq hi hp
  refine wpList_run (v := .tuple #[]) (gd_wanted hf.rd hg) (w' := { w with heap := w.heap.setIfInBounds b (mapO κ (mDel M k) c) }) ?_ ?_
  · unfold execOp
    simp [hop, resolve, invoke, builtin, hf.rd.ev hx, hf.rd.ev hk, h3]
  · rw [hdst]
    rw [e1] at hh
    rw [e2] at kk
    exact kk.out _ _ hf hh.setB
end
/-- Two that are only read, as one. -/
theorem Hp.merge {w0 w : World} {ol : OL} {Φ1 Φ2 Ψ : World → Prop} {F1 F2 : Nat → Prop} (h : Hp w0 w (.rep Φ1 F1 false :: .rep Φ2 F2 false :: ol)) (hΨ : Φ1 w → Φ2 w → Ψ w) (hl : Loc Ψ fun k => F1 k ∨ F2 k) : Hp w0 w (.rep Ψ (fun k => F1 k ∨ F2 k) false :: ol) := by
  have o1 := h.own _ (getE_mem (i := 0) rfl)
  have o2 := h.own _ (getE_mem (i := 1) rfl)
  have hap := List.pairwise_cons.1 h.apart
  have hap2 := List.pairwise_cons.1 hap.2
  refine ⟨h.os, h.tape, h.output, h.size, fun k hk he => h.old k hk fun e hm hx hh => ?_, fun e hm => ?_, List.pairwise_cons.2 ⟨fun e he hr k hk hk2 => ?_, hap2.2⟩⟩
  · rcases List.mem_cons.1 hm with rfl | hm
    · cases hx
    rcases List.mem_cons.1 hm with rfl | hm
    · cases hx
    · exact he e (List.mem_cons_of_mem _ hm) hx hh
  · rcases List.mem_cons.1 hm with rfl | hm
    · refine ⟨hΨ o1.1 o2.1, hl, fun k hk => ?_⟩
      rcases hk with hk | hk
      · exact o1.2.2 k hk
      · exact o2.2.2 k hk
    · exact h.own e (List.mem_cons_of_mem _ (List.mem_cons_of_mem _ hm))
  · rcases hk with hk | hk
    · exact hap.1 e (List.mem_cons_of_mem _ he) hr k hk hk2
    · exact hap2.1 e he hr k hk hk2
abbrev bptr (b : Nat) : Value := .pointer (some ⟨b, 0, none⟩)
abbrev boC (f m : Int) (gb mb ab : Nat) (last : Int) : Obj := .cells ⟨[.int .i64 f, .int .i64 m, .map (some gb), .map (some mb), bptr ab, .int .u64 last]⟩ 101 (0, 0)
/-- a set's slice -/
structure SX where
  a : Option Addr
  n : Nat
  c : Nat
abbrev SX.v (x : SX) : Value := .slice x.a x.n x.c
abbrev SX.s (x : SX) : Value := setV x.a x.n x.c
abbrev grO (x : SX) (t : Int) : Obj := .cells ⟨[x.v, .int .i64 t]⟩ 104 (0, 0)
/-- the groups' own blocks -/
def gbV (gs : List BG) (B : Int → Nat) (X : Int → SX) : Vp :=
  ⟨fun w F _ => ∀ g ∈ gs, w.heap[B g.id]? = some (grO (X g.id) g.tries) ∧ F (B g.id), fun h hk g hg => ⟨((hk _ (h g hg).2 (heap_lt (h g hg).1)).1).trans (h g hg).1, (hk _ (h g hg).2 (heap_lt (h g hg).1)).2⟩⟩
/-- and their sets -/
def seV (gs : List BG) (X : Int → SX) : Vp :=
  ⟨fun w F _ => ∀ g ∈ gs, (setP (· ∈ g.L) g.L.length).at_ w F (X g.id).s, fun h hk g hg => (setP _ _).keep (h g hg) hk⟩
/-- what isn't told of a board -/
structure BH where
  gb : Nat
  mb : Nat
  ab : Nat
  c1 : Nat
  c2 : Nat
  M1 : List ME
  M2 : List ME
  B : Int → Nat
  X : Int → SX
  Fa : Nat → Prop
  Fg : Nat → Prop
  Fs : Nat → Prop
structure BRel (gs : List BG) (M1 M2 : List ME) (c1 c2 : Nat) (B : Int → Nat) : Prop where
  inj : ∀ g ∈ gs, ∀ g' ∈ gs, B g.id = B g'.id → g.id = g'.id
  m1 : MOk M1 c1
  g1 : ∀ id, mGet M1 id = (bId gs id).map fun g => bptr (B id)
  m2 : MOk M2 c2
  g2 : ∀ n, mGet M2 n = (bGet gs n).map fun g => Value.int .u64 g.id
abbrev PR (f m : Int) : Prop := 1 ≤ f ∧ f ≤ m ∧ m ≤ 1099511627776
abbrev boL (bb : Nat) (f m : Int) (gs : List BG) (last : Int) (h : BH) (r s : Bool) : OL :=
  [.blk bb (boC f m h.gb h.mb h.ab last) r, .blk h.gb (mapO .u64 h.M1 h.c1) r, .blk h.mb (mapO .u64 h.M2 h.c2) r, .rep (fun w => (alA h.ab (bAl gs)).at_ w h.Fa (.bool true)) h.Fa r, .rep (fun w => (gbV gs h.B h.X).at_ w h.Fg (.bool true)) h.Fg r, .rep (fun w => (seV gs h.X).at_ w h.Fs (.bool true)) h.Fs s]
/-- a board -/
def boA (bb : Nat) (f m : Int) (gs : List BG) (last : Int) : Vp :=
  ⟨fun w F _ => ∃ h : BH, PR f m ∧ (BOk last gs ∧ BNe gs) ∧ BRel gs h.M1 h.M2 h.c1 h.c2 h.B ∧ (∀ e ∈ boL bb f m gs last h true true, e.holds w ∧ ∀ k, e.has k → F k) ∧ (boL bb f m gs last h true true).Pairwise Dis,
   fun ⟨h, h1, h2, h3, h4, h5⟩ hk => ⟨h, h1, h2, h3, fun e he => ⟨HE.keep (h4 e he).1 fun k hh => (hk k ((h4 e he).2 k hh) (HE.lt (h4 e he).1 hh)).1, fun k hh => (hk k ((h4 e he).2 k hh) (HE.lt (h4 e he).1 hh)).2⟩, h5⟩⟩
section
variable {bb : Nat} {f m last : Int} {gs : List BG} {w w0 : World} {F : Nat → Prop} {v : Value} {ol : OL}
theorem bo_ok (h : (boA bb f m gs last).at_ w F v) : PR f m ∧ BOk last gs ∧ BNe gs := by
  obtain ⟨_, h1, h2, _⟩ := h
  exact ⟨h1, h2⟩
theorem boL_open {h : BH} (h4 : ∀ e ∈ boL bb f m gs last h true true, e.holds w ∧ ∀ k, e.has k → F k) (h5 : (boL bb f m gs last h true true).Pairwise Dis) (r s : Bool) : Hp w w (boL bb f m gs last h r s) := by
  refine ⟨rfl, rfl, rfl, Nat.le_refl _, fun _ _ _ => rfl, fun e he => ?_, ?_⟩
  · simp only [boL, List.mem_cons, List.not_mem_nil, or_false] at he
    rcases he with rfl | rfl | rfl | rfl | rfl | rfl
    · exact (h4 _ (getE_mem (i := 0) rfl)).1
    · exact (h4 _ (getE_mem (i := 1) rfl)).1
    · exact (h4 _ (getE_mem (i := 2) rfl)).1
    · exact (h4 _ (getE_mem (i := 3) rfl)).1
    · exact (h4 _ (getE_mem (i := 4) rfl)).1
    · exact (h4 _ (getE_mem (i := 5) rfl)).1
  · have ht : ∀ {x y x' y' : HE}, (x'.ex || y'.ex) = true → Dis x' y' → (∀ k, x.has k → x'.has k) → (∀ k, y.has k → y'.has k) → Dis x y := fun h1 h2 h3 h4 _ k hk hk2 => h2 h1 k (h3 k hk) (h4 k hk2)
    simp only [boL, List.pairwise_cons, List.mem_cons, List.not_mem_nil, or_false, forall_eq_or_imp, forall_eq] at h5 ⊢
    obtain ⟨⟨a1, a2, a3, a4, a5⟩, ⟨b2, b3, b4, b5⟩, ⟨c3, c4, c5⟩, ⟨d4, d5⟩, e5, _⟩ := h5
    refine ⟨⟨?_, ?_, ?_, ?_, ?_⟩, ⟨?_, ?_, ?_, ?_⟩, ⟨?_, ?_, ?_⟩, ⟨?_, ?_⟩, ?_, fun _ h => h.elim, List.Pairwise.nil⟩
    · exact ht rfl a1 (fun k h => h) fun k h => h
    · exact ht rfl a2 (fun k h => h) fun k h => h
    · exact ht rfl a3 (fun k h => h) fun k h => h
    · exact ht rfl a4 (fun k h => h) fun k h => h
    · exact ht rfl a5 (fun k h => h) fun k h => h
    · exact ht rfl b2 (fun k h => h) fun k h => h
    · exact ht rfl b3 (fun k h => h) fun k h => h
    · exact ht rfl b4 (fun k h => h) fun k h => h
    · exact ht rfl b5 (fun k h => h) fun k h => h
    · exact ht rfl c3 (fun k h => h) fun k h => h
    · exact ht rfl c4 (fun k h => h) fun k h => h
    · exact ht rfl c5 (fun k h => h) fun k h => h
    · exact ht rfl d4 (fun k h => h) fun k h => h
    · exact ht rfl d5 (fun k h => h) fun k h => h
    · exact ht rfl e5 (fun k h => h) fun k h => h
/-- opened -/
theorem bo_open (h : (boA bb f m gs last).at_ w F v) (r s : Bool) : ∃ h : BH, PR f m ∧ BOk last gs ∧ BRel gs h.M1 h.M2 h.c1 h.c2 h.B ∧ Hp w w (boL bb f m gs last h r s) ∧ (∀ e ∈ boL bb f m gs last h true true, ∀ k, e.has k → F k) ∧ BNe gs := by
  obtain ⟨h, h1, h2, h3, h4, h5⟩ := h
  exact ⟨h, h1, h2.1, h3, boL_open h4 h5 r s, fun e he => (h4 e he).2, h2.2⟩
theorem bo_far {h : BH} (hc : ∀ e ∈ boL bb f m gs last h true true, ∀ k, e.has k → F k) : ∀ e ∈ boL bb f m gs last h true false, e.ex = true → ∀ k, e.has k → F k := fun e he hx k hk => by
  simp only [boL, List.mem_cons, List.not_mem_nil, or_false] at he
  rcases he with rfl | rfl | rfl | rfl | rfl | rfl
  · exact hc _ (getE_mem (i := 0) rfl) k hk
  · exact hc _ (getE_mem (i := 1) rfl) k hk
  · exact hc _ (getE_mem (i := 2) rfl) k hk
  · exact hc _ (getE_mem (i := 3) rfl) k hk
  · exact hc _ (getE_mem (i := 4) rfl) k hk
  · cases hx
theorem bo_cov {h : BH} {G : Nat → Prop} (h0 : G bb) (h1 : G h.gb) (h2 : G h.mb) (h3 : ∀ k, h.Fa k → G k) (h4 : ∀ k, h.Fg k → G k) (h5 : ∀ k, h.Fs k → G k) : ∀ e ∈ boL bb f m gs last h true true, ∀ k, e.has k → G k := fun e he k hk => by
  simp only [boL, List.mem_cons, List.not_mem_nil, or_false] at he
  rcases he with rfl | rfl | rfl | rfl | rfl | rfl
  · exact Option.some.inj hk ▸ h0
  · exact Option.some.inj hk ▸ h1
  · exact Option.some.inj hk ▸ h2
  · exact h3 k hk
  · exact h4 k hk
  · exact h5 k hk
/-- What is known is put into an object. -/
theorem Hp.pack {A : OL} {F0 : Nat → Prop} (h : Hp w0 w (A ++ ol)) (hF0 : ∀ k, F0 k → k < w0.heap.size) (hol : ∀ e ∈ ol, e.ex = true ∧ ∀ k, e.has k → w0.heap.size ≤ k) (hA : ∀ e ∈ A, ∀ k, e.has k → F0 k ∨ w0.heap.size ≤ k)
    (p : Vp) (hp : ∀ F' : Nat → Prop, (∀ e ∈ A, ∀ k, e.has k → F' k) → p.at_ w F' (.bool true)) : ∃ F' : Nat → Prop, (∀ k, F0 k → F' k) ∧ (∀ k, F' k → F0 k ∨ w0.heap.size ≤ k) ∧ Hp w0 w (.rep (fun w => p.at_ w F' (.bool true)) F' true :: ol) := by
  refine ⟨fun k => F0 k ∨ ∃ e ∈ A, e.has k, fun k hk => .inl hk, fun k hk => ?_, h.os, h.tape, h.output, h.size, fun k hk he => h.old k hk fun e hm hx hh => ?_, fun e hm => ?_, ?_⟩
  · rcases hk with hk | ⟨e, he, hk⟩
    · exact .inl hk
    · exact hA e he k hk
  · rcases List.mem_append.1 hm with hm | hm
    · exact he _ List.mem_cons_self rfl (.inr ⟨e, hm, hh⟩)
    · exact he e (List.mem_cons_of_mem _ hm) hx hh
  · rcases List.mem_cons.1 hm with rfl | hm
    · refine ⟨hp _ fun e he k hk => .inr ⟨e, he, hk⟩, Vp.loc, fun k hk => ?_⟩
      rcases hk with hk | ⟨e, he, hk⟩
      · exact Nat.lt_of_lt_of_le (hF0 k hk) h.size
      · exact h.lt (List.mem_append.2 (.inl he)) hk
    · exact h.own e (List.mem_append.2 (.inr hm))
  · refine List.pairwise_cons.2 ⟨fun e he _ k hk hk2 => ?_, (List.pairwise_append.1 h.apart).2.1⟩
    rcases hk with hk | ⟨e', he', hk⟩
    · have h1 := hF0 k hk
      have h2 := (hol e he).2 k hk2
      omega
    · exact (List.pairwise_append.1 h.apart).2.2 e' he' e he (by rw [(hol e he).1, Bool.or_true]) k hk hk2
/-- closed -/
theorem bo_close {F0 : Nat → Prop} {h : BH} (hh : Hp w0 w (boL bb f m gs last h true false ++ ol)) (hp : PR f m) (hok : BOk last gs) (hne : BNe gs) (hr : BRel gs h.M1 h.M2 h.c1 h.c2 h.B) (hF0 : ∀ k, F0 k → k < w0.heap.size) (hol : ∀ e ∈ ol, e.ex = true ∧ ∀ k, e.has k → w0.heap.size ≤ k)
    (hA : ∀ e ∈ boL bb f m gs last h true true, ∀ k, e.has k → F0 k ∨ w0.heap.size ≤ k) : ∃ F' : Nat → Prop, (∀ k, F0 k → F' k) ∧ (∀ k, F' k → F0 k ∨ w0.heap.size ≤ k) ∧ Hp w0 w (.rep (fun w => (boA bb f m gs last).at_ w F' (.bool true)) F' true :: ol) := by
  refine hh.pack hF0 hol (fun e he k hk => ?_) (boA bb f m gs last) fun F' hF' => ⟨h, hp, ⟨hok, hne⟩, hr, fun e he => ?_, ?_⟩
  · simp only [boL, List.mem_cons, List.not_mem_nil, or_false] at he
    rcases he with rfl | rfl | rfl | rfl | rfl | rfl
    · exact hA _ (getE_mem (i := 0) rfl) k hk
    · exact hA _ (getE_mem (i := 1) rfl) k hk
    · exact hA _ (getE_mem (i := 2) rfl) k hk
    · exact hA _ (getE_mem (i := 3) rfl) k hk
    · exact hA _ (getE_mem (i := 4) rfl) k hk
    · exact hA _ (getE_mem (i := 5) rfl) k hk
  · simp only [boL, List.mem_cons, List.not_mem_nil, or_false] at he
    rcases he with rfl | rfl | rfl | rfl | rfl | rfl
    · exact ⟨hh.own _ (getE_mem (i := 0) rfl), hF' _ (getE_mem (i := 0) rfl)⟩
    · exact ⟨hh.own _ (getE_mem (i := 1) rfl), hF' _ (getE_mem (i := 1) rfl)⟩
    · exact ⟨hh.own _ (getE_mem (i := 2) rfl), hF' _ (getE_mem (i := 2) rfl)⟩
    · exact ⟨hh.own _ (getE_mem (i := 3) rfl), hF' _ (getE_mem (i := 3) rfl)⟩
    · exact ⟨hh.own _ (getE_mem (i := 4) rfl), hF' _ (getE_mem (i := 4) rfl)⟩
    · exact ⟨hh.own (.rep (fun w => (seV gs h.X).at_ w h.Fs (.bool true)) h.Fs false) (getE_mem (i := 5) rfl), hF' (.rep (fun w => (seV gs h.X).at_ w h.Fs (.bool true)) h.Fs false) (getE_mem (i := 5) rfl)⟩
  · have h5 := (List.pairwise_append.1 hh.apart).1
    simp only [boL, List.pairwise_cons, List.mem_cons, List.not_mem_nil, or_false, forall_eq_or_imp, forall_eq] at h5 ⊢
    obtain ⟨⟨a1, a2, a3, a4, a5⟩, ⟨b2, b3, b4, b5⟩, ⟨c3, c4, c5⟩, ⟨d4, d5⟩, e5, _⟩ := h5
    exact ⟨⟨a1, a2, a3, a4, fun _ => a5 rfl⟩, ⟨b2, b3, b4, fun _ => b5 rfl⟩, ⟨c3, c4, fun _ => c5 rfl⟩, ⟨d4, fun _ => d5 rfl⟩, fun _ => e5 rfl, fun _ h => h.elim, List.Pairwise.nil⟩
end
end Go.Proofs.Ytanhmmfpecgbhaa
