/-
  A function that holds a range over a function, stepped through up to there; a set's All and its Collect as value predicates. Conditions: each theorem's own.
-/
import Derived.Test.YtbkljccjbakpmaaItH
namespace Go.Proofs.Ytbkljccjbakpmaa
open Go Go.RowKit
set_option linter.unusedVariables false

/-- The rest of a function behind a statement that leaves a mark among the deferred calls. -/
structure TM (P : Program) (n : Nat) (w0 : World) (c : Code) (l : FL) (o : OL) (Q : Exit → Act → World → Prop) : Prop where
  out : ∀ a w, Fr a n l → Hp w0 w o → c.wpIn Fence.wide 4 P Q a w
section
variable {P : Program} {n : Nat} {w0 : World} {l : FL} {ol : OL} {Q : Exit → Act → World → Prop}
theorem TM_seq {x y : Code} (h : T P n w0 x l ol (pthen (fun l o => TM P n w0 y l o Q) fun _ _ _ => False)) : TM P n w0 (.seq x y) l ol Q :=
  ⟨fun a w hf hh => wpIn_seq (wpIn_wide.2 (wp_mono (h.out a w hf hh) (fun e a1 w1 hq => by
    unfold lift at hq
    obtain ⟨l1, o1, h1, h2, h3⟩ := hq
    unfold pthen at h3
    cases e with
    | normal => exact TM.out (show TM P n w0 y l1 o1 Q from h3) a1 w1 h1 h2
    | exit _ => exact absurd h3 id
    | goto _ => exact absurd h3 id
    | ret => exact absurd h3 id
    | panic _ => exact absurd h3 id
    | outgrown => exact absurd h3 id)))⟩
theorem TM_seq2 {x y z : Code} (h : T P n w0 x l ol (pthen (fun l o => TM P n w0 y l o (Exit.then (z.wpIn Fence.wide 4 P Q) Q)) fun _ _ _ => False)) : TM P n w0 (.seq (.seq x y) z) l ol Q :=
  ⟨fun a w hf hh => wpIn_seq ((TM_seq h).out a w hf hh)⟩
theorem TM_sub {c : Code} {l' : FL} (hs : Sub l' l) (h : TM P n w0 c l' ol Q) : TM P n w0 c l ol Q := ⟨fun a w hf hh => h.out a w (hf.sub hs) hh⟩
/-- The frame, written out. -/
theorem Fr.fn {a : Act} (h : Fr a n l) : ∃ f : Nat → Value, a = { tmps := ((List.range n).map f).toArray, defers := [] } ∧ ∀ t v, look l t = some v → f t = v := by
  obtain ⟨tm, df⟩ := a
  obtain ⟨vs⟩ := tm
  obtain rfl := h.defers
  have hl : vs.length = n := h.size
  refine ⟨fun i => vs[i]?.getD undef, ?_, fun t v hv => ?_⟩
  · congr 2
    refine List.ext_getElem (by simp [hl]) fun i h1 h2 => ?_
    simp [List.getElem?_eq_getElem h1]
  · have := h.get t v hv
    have h3 : vs[t]? = some v := by simpa using this
    simp [h3]
theorem enterM2 {f : FuncId} {fn : Func} {c : Code} {w : World} {v0 v1 : Value} {R : Ending → World → Prop} (hf : P.funcs[f]? = some fn) (hb : fn.body = some c) (hn : Nat.ble 2 fn.ntmps = true)
    (h : TM P fn.ntmps w c [(0, v0), (1, v1)] [] (bodyPostM Fence.wide 4 P fn R)) : Calls P f #[v0, v1] w R :=
  callsIn_wide.1 (callsIn_of_wp_marks (n := 4) hf hb trivial (h.out _ w (fr0 (args := [v0, v1]) (Nat.le_of_ble_eq_true hn)) (Hp.refl w)) rfl)
end

theorem flat_ints (k : IntKind) : ∀ ss : List Int, (ss.map fun x => [Value.int k x]).flatten = ss.map (Value.int k)
  | [] => rfl
  | x :: ss => by rw [List.map_cons, List.flatten_cons, flat_ints k ss]; rfl
theorem cell_lt {w : World} {a : Addr} {v : Value} (h : w.cell? a = some v) : a.block < w.heap.size := by
  rcases Nat.lt_or_ge a.block w.heap.size with h1 | h1
  · exact h1
  · simp [World.cell?, Array.getElem?_eq_none h1] at h
/-- An iterator over a set's numbers. -/
def allP (X : List Int) : Vp :=
  ⟨fun w A v => ∃ B a n c m, v = .func (.func 20) #[] #[.pointer (some ⟨B, 0, none⟩)] ∧ A B ∧ w.cell? ⟨B, 0, none⟩ = some (.slice a n c) ∧ SlR Rrun w A a n c m ∧ Can m ∧ m.length ≤ 1000000 ∧ flatR m = X,
   fun ⟨B, a, n, c, m, h1, h2, h3, h4, h5, h6, h7⟩ hk => ⟨B, a, n, c, m, h1, (hk B h2 (cell_lt h3)).2, (World.cell?_of_block (hk B h2 (cell_lt h3)).1).trans h3, h4.keep hk, h5, h6, h7⟩⟩
section
variable {S : Int → Prop} {Bd : Nat} {w : World} {A : Nat → Prop} {v : Value} {X : List Int}
theorem all_p (h : (setP S Bd).at_ w A v) (hBd : Bd ≤ 1000000) (hX : X.Pairwise (· < ·)) (hm : ∀ x, x ∈ X ↔ S x) :
    Calls Try.prog 11 #[v] w fun e w' => ∃ r, e = .returned r ∧ Below w.heap.size w w' ∧ (allP X).at_ w' (fun k => (A k ∧ k < w.heap.size) ∨ w.heap.size ≤ k) r := by
  obtain ⟨a, n, c, m, rfl, h1, h2, h3, h4⟩ := setP_form h
  refine (all_ok a n c (Hp.refl w)).mono fun e w' ⟨B, hB, e1, hw⟩ => ⟨_, e1, hw.below (new_cons hB new_nil), B, a, n, c, m, rfl, .inr hB, by simpa using blkc hw (j := 0) (u := .slice a n c) rfl, ?_, h1, by omega, ?_⟩
  · exact h4.keep fun k hk hlt => ⟨(hw.below (new_cons hB new_nil)).block k hlt, .inl ⟨hk, hlt⟩⟩
  · exact lt_ext (flatR_pw h1) hX fun x => by rw [flatR_mem, h2, hm]
theorem allP_itr (h : (allP X).at_ w A v) (hX : X.length ≤ 1000000) : ∃ B, v = .func (.func 20) #[] #[.pointer (some ⟨B, 0, none⟩)] ∧
    Itr 20 #[.pointer (some ⟨B, 0, none⟩)] (KR fun k => A k ∧ k < w.heap.size) (fun ss => ss = X) (fun pre => pre <+: X) X.length w ∧ ∀ x ∈ X, Fits .u64 x := by
  obtain ⟨B, a, n, c, m, e1, h1, h2, h3, h4, h5, rfl⟩ := h
  have hlen := h3.len
  have hok := slr_okL h3
  refine ⟨B, e1, all_itr (fun k hk => hk.2) ⟨h1, cell_lt h2⟩ h2 (h3.keep fun k hk hlt => ⟨rfl, hk, hlt⟩) (by omega) h4.le hok hX, fun x hx => ?_⟩
  obtain ⟨r, hr, h6, h7⟩ := flatR_mem.1 hx
  have h8 := hok r hr
  exact ⟨Int.le_trans h8.1.1 h6, Int.le_trans h7 h8.2.2⟩
theorem collectA_p (h : (allP X).at_ w A v) (hX : X.length ≤ 1000000) :
    Calls Try.prog 10 #[v] w fun e w' => ∃ r, e = .returned r ∧ Below w.heap.size w w' ∧ ((Rslice (Rint .u64)).vp X).at_ w' (fun k => w.heap.size ≤ k) r := by
  obtain ⟨B, rfl, hi, hok⟩ := allP_itr h hX
  refine (collect_ok hi).mono fun e w' ⟨v, ss, e1, e2, e3, h2⟩ => ?_
  subst e2
  have hr := h2.own _ List.mem_cons_self
  obtain ⟨a, c, rfl, _, _⟩ := form_of_own hr
  refine ⟨_, e1, h2.below (newrow h2 0 rfl (Nat.le_refl _) new_nil), SlR.val (.of_row (flat_int .u64) (by rw [flat_ints]; exact hr) rfl hok fun k hk _ => hk)⟩
theorem count_x (h : (setP S Bd).at_ w A v) (hBd : Bd ≤ 1000000) (hX : X.Pairwise (· < ·)) (hm : ∀ x, x ∈ X ↔ S x) (hXl : X.length ≤ 1000000) :
    Calls Try.prog 12 #[v] w fun e w' => e = .returned (.int .u64 (X.length : Int)) ∧ Below w.heap.size w w' := by
  obtain ⟨a, n, c, m, rfl, h1, h2, h3, h4⟩ := setP_form h
  have hlen := h4.len
  refine (count_ok a n c m A w h4 h1 (by omega)).mono fun e w' ⟨e1, e2⟩ => ⟨?_, e2⟩
  have e3 : flatR m = X := lt_ext (flatR_pw h1) hX fun x => by rw [flatR_mem, h2, hm]
  have e4 := flatR_tot h1.le
  rw [e3] at e4
  rw [e1, e4, show min ((X.length : Nat) : Int) lastN = (X.length : Int) from by unfold lastN; omega]
end
end Go.Proofs.Ytbkljccjbakpmaa
