/-
  The document's board as an object; Send. Conditions: each theorem's own.
-/
import Derived.Test.YtidhpofcofknhaaRbB
import Derived.Test.YtidhpofcofknhaaEngAe
namespace Go.Proofs.Ytidhpofcofknhaa
open Go Go.RowKit
set_option linter.unusedVariables false

section
variable {P : Program} {tb : Tab} {n : Nat} {w0 : World} {all : Array Oper} {os : List Oper} {o : Oper} {l : FL} {ol : OL} {K : FL → OL → Prop} {Q : Post}
/-- a cell of a row of one's own is written -/
theorem S_storeR (ht : TabOk P tb) (i : Nat) {b off m c base szr : Nat} {u : Value} {e : TypeId} {xs : List Value} {ol' : OL} (hs : storeAt? tb all (look l) o = some (b, off, [u], 1)) (h1 : u.oneCell' = true) (hi : getE ol i = some (.row base (.slice (some ⟨b, 0, none⟩) m c) e szr m xs)) (hoff : off < xs.length)
    (ho : putE ol i (.row base (.slice (some ⟨b, 0, none⟩) m c) e szr m (xs.set off u)) = some ol') (k : S P n w0 all os l ol' K Q) : S P n w0 all (o :: os) l ol K Q := by
  refine ⟨fun a w hf hh => ?_⟩
  unfold storeAt? at hs
  split at hs
  · rename_i hg
    split at hs
    · rename_i hd
      split at hs
      · rename_i t x y hop
        split at hs
        · rename_i ti hti
          split at hs
          · rename_i b' off' hx
            split at hs
            · rename_i v hy
              split at hs
              · rename_i vs' hv
                simp at hs
                obtain ⟨rfl, rfl, rfl, hsz⟩ := hs
                obtain ⟨pre, post, e1, e2⟩ := putE_eq hi ho
                have hr : w.ownsRow base e szr (.slice (some ⟨b', 0, none⟩) m c) m xs := hh.own _ (getE_mem hi)
                obtain ⟨hl, hr⟩ := hr
                rcases hr with ⟨h9, _⟩ | ⟨g, cap, cur, h9, hb, hg2, hnc, hcm, hcs, htk⟩
                · cases h9
                cases h9
                obtain ⟨cur⟩ := cur
                have hlt : off' < cur.length := by
                  have : xs.length ≤ cur.length := by rw [← htk]; exact List.length_take_le' _ _
                  omega
                have hm := setMany_one (v := u) hlt
                refine wpList_runu (gd_wanted hf.rd hg) ?_ ?_ (w' := w.setRow b' ⟨cur.set off' u⟩)
                · unfold execOp
                  simp [hop, hf.rd.ev hx, hf.rd.ev hy, Instr.storeAt, Instr.sureAddr, storeVar_own ht hti hv (by rw [hsz]; rfl) (fun z hz => by rw [List.mem_singleton] at hz; subst hz; exact h1) hg2 hm]
                · rw [hd]
                  refine k.out _ _ hf ?_
                  rw [e1] at hh
                  rw [e2]
                  refine hh.turn rfl rfl rfl rfl (by simp) (fun k hk hne => setRow_other w b' k _ (fun e => hne (by rw [e]; rfl))) ?_ (fun k hk => .inl hk) (fun k hk => .inr hk)
                  refine ⟨by rw [List.length_set]; exact hl, .inr ⟨b', c, ⟨cur.set off' u⟩, rfl, hb, setRow_heap w b' ⟨cur⟩ _ e (0, 0) hg2, hnc, hcm, ?_, ?_⟩⟩
                  · show (cur.set off' u).length = _
                    rw [List.length_set]
                    exact hcs
                  · show (cur.set off' u).take _ = _
                    rw [List.take_set]
                    exact congrArg (fun z => List.set z off' u) htk
              · cases hs
            · cases hs
          · cases hs
        · cases hs
      · cases hs
    · cases hs
  · cases hs
end
/-- a group with where its numbers lie -/
structure GX where
  g : BG
  x : SX
abbrev gsK (K : List GX) : List BG := K.map GX.g
abbrev cellG (p : GX) : List Value := [.int .u64 p.g.id, p.x.v, .int .i64 p.g.tm, .int .i64 p.g.tries]
def cellsG (K : List GX) : List Value := (K.map cellG).flatten
theorem cellsG_len (K : List GX) : (cellsG K).length = K.length * 4 := by
  unfold cellsG
  induction K with
  | nil => rfl
  | cons p K ih =>
    rw [List.map_cons, List.flatten_cons, List.length_append, ih]
    show 4 + K.length * 4 = (K.length + 1) * 4
    omega
theorem cellsG_app (K L : List GX) : cellsG (K ++ L) = cellsG K ++ cellsG L := by
  unfold cellsG
  rw [List.map_append, List.flatten_append]
theorem cellsG_one {K : List GX} {u : Value} (hu : u ∈ cellsG K) : u.oneCell' = true := by
  unfold cellsG at hu
  obtain ⟨c, hc, huc⟩ := List.mem_flatten.1 hu
  obtain ⟨p, _, rfl⟩ := List.mem_map.1 hc
  simp only [List.mem_cons, List.not_mem_nil, or_false] at huc
  rcases huc with rfl | rfl | rfl | rfl <;> rfl
def okG (K : List GX) : Vp := ⟨fun w F _ => ∀ p ∈ K, SlR (Rint .u64) w F p.x.a p.x.n p.x.c p.g.L, fun h hk p hp => (h p hp).keep hk⟩
abbrev rbL (base xb : Nat) (f m last : Int) (K : List GX) (a : Option Addr) (c : Nat) (G : Nat → Prop) (s : Bool) : OL := [.blk xb (rbC f m a K.length c last) true, .row base (.slice a K.length c) 99 4 K.length (cellsG K), .rep (fun w => (okG K).at_ w G (.bool true)) G s]
/-- the document's board -/
def rbA (xb : Nat) (f m : Int) (gs : List BG) (last : Int) : Vp :=
  ⟨fun w F _ => ∃ (K : List GX) (a : Option Addr) (c : Nat) (G : Nat → Prop), (gsK K = gs ∧ PR f m ∧ BOk last gs ∧ BNe gs) ∧ (∀ e ∈ rbL 0 xb f m last K a c G true, e.holds w ∧ ∀ k, e.has k → F k) ∧ (rbL 0 xb f m last K a c G true).Pairwise Dis,
   fun ⟨K, a, c, G, h1, h4, h5⟩ hk => ⟨K, a, c, G, h1, fun e he => ⟨HE.keep (h4 e he).1 fun k hh => (hk k ((h4 e he).2 k hh) (HE.lt (h4 e he).1 hh)).1, fun k hh => (hk k ((h4 e he).2 k hh) (HE.lt (h4 e he).1 hh)).2⟩, h5⟩⟩
section
variable {xb : Nat} {f m last : Int} {gs : List BG} {K : List GX} {a : Option Addr} {c : Nat} {w w0 : World} {F G : Nat → Prop} {v : Value} {ol : OL}
theorem rb_open (h : (rbA xb f m gs last).at_ w F v) : ∃ (K : List GX) (a : Option Addr) (c : Nat) (G : Nat → Prop), (gsK K = gs ∧ PR f m ∧ BOk last gs ∧ BNe gs) ∧ Hp w w (rbL 0 xb f m last K a c G false) ∧ (∀ e ∈ rbL 0 xb f m last K a c G false, ∀ k, e.has k → F k) := by
  obtain ⟨K, a, c, G, h1, h4, h5⟩ := h
  refine ⟨K, a, c, G, h1, ⟨rfl, rfl, rfl, Nat.le_refl _, fun _ _ _ => rfl, fun e he => ?_, ?_⟩, fun e he k hk => ?_⟩
  · simp only [rbL, List.mem_cons, List.not_mem_nil, or_false] at he
    rcases he with rfl | rfl | rfl
    · exact (h4 _ (getE_mem (i := 0) rfl)).1
    · exact (h4 _ (getE_mem (i := 1) rfl)).1
    · exact (h4 _ (getE_mem (i := 2) rfl)).1
  · simp only [rbL, List.pairwise_cons, List.mem_cons, List.not_mem_nil, or_false, forall_eq_or_imp, forall_eq] at h5 ⊢
    obtain ⟨⟨a1, a2⟩, b2, _⟩ := h5
    exact ⟨⟨fun _ => a1 rfl, fun _ => a2 rfl⟩, fun _ => b2 rfl, fun _ h => h.elim, List.Pairwise.nil⟩
  · simp only [rbL, List.mem_cons, List.not_mem_nil, or_false] at he
    rcases he with rfl | rfl | rfl
    · exact (h4 _ (getE_mem (i := 0) rfl)).2 k hk
    · exact (h4 _ (getE_mem (i := 1) rfl)).2 k hk
    · exact (h4 _ (getE_mem (i := 2) rfl)).2 k hk
/-- closed, beside what is apart from it -/
theorem rb_close {base : Nat} {F0 : Nat → Prop} (X : OL) (hh : Hp w0 w (rbL base xb f m last K a c G false ++ X ++ ol)) (hgs : gsK K = gs) (hp : PR f m) (hok : BOk last gs) (hne : BNe gs) (hF0 : ∀ k, F0 k → k < w0.heap.size) (hol : ∀ e ∈ ol, ∀ k, e.has k → w0.heap.size ≤ k) (hd : ∀ e ∈ ol, e.ex = true ∨ ∀ k, G k → ¬ e.has k)
    (hA : ∀ e ∈ rbL base xb f m last K a c G false, ∀ k, e.has k → F0 k ∨ w0.heap.size ≤ k) (hX : ∀ e ∈ X, e.ex = true ∧ ∀ k, e.has k → F0 k ∨ w0.heap.size ≤ k) : ∃ F' : Nat → Prop, (∀ k, F0 k → F' k) ∧ (∀ k, F' k → F0 k ∨ w0.heap.size ≤ k) ∧ Hp w0 w (.rep (fun w => (rbA xb f m gs last).at_ w F' (.bool true)) F' true :: ol) := by
  refine hh.pack2 hF0 hol (fun e' he' e he => ?_) (fun e he => (List.mem_append.1 he).elim (hA e) fun h => (hX e h).2) (rbA xb f m gs last) fun F' hF' => ⟨K, a, c, G, ⟨hgs, hp, hok, hne⟩, fun e he => ?_, ?_⟩
  · rcases List.mem_append.1 he' with he' | he'
    · simp only [rbL, List.mem_cons, List.not_mem_nil, or_false] at he'
      rcases he' with rfl | rfl | rfl
      · exact .inl rfl
      · exact .inl rfl
      · rcases hd e he with h | h
        · exact .inl (by rw [h, Bool.or_true])
        · exact .inr h
    · exact .inl (by rw [(hX e' he').1, Bool.true_or])
  · have hF2 : ∀ e ∈ rbL base xb f m last K a c G false, ∀ k, e.has k → F' k := fun e he => hF' e (List.mem_append.2 (.inl he))
    simp only [rbL, List.mem_cons, List.not_mem_nil, or_false] at he
    rcases he with rfl | rfl | rfl
    · exact ⟨hh.own _ (getE_mem (i := 0) rfl), hF2 _ (getE_mem (i := 0) rfl)⟩
    · exact ⟨own_rebase (hh.own _ (getE_mem (i := 1) rfl)) (Nat.zero_le _), hF2 (.row base (.slice a K.length c) 99 4 K.length (cellsG K)) (getE_mem (i := 1) rfl)⟩
    · exact ⟨hh.own (.rep (fun w => (okG K).at_ w G (.bool true)) G false) (getE_mem (i := 2) rfl), hF2 (.rep (fun w => (okG K).at_ w G (.bool true)) G false) (getE_mem (i := 2) rfl)⟩
  · have h5 := (List.pairwise_append.1 (List.pairwise_append.1 hh.apart).1).1
    simp only [rbL, List.pairwise_cons, List.mem_cons, List.not_mem_nil, or_false, forall_eq_or_imp, forall_eq] at h5 ⊢
    obtain ⟨⟨a1, a2⟩, b2, _⟩ := h5
    exact ⟨⟨fun _ => a1 rfl, fun _ => a2 rfl⟩, fun _ => b2 rfl, fun _ h => h.elim, List.Pairwise.nil⟩
theorem rb_cov {base : Nat} {X : Nat → Prop} (h0 : X xb) (h1 : ∀ k, (Value.slice a K.length c).ownBlock = some k → X k) (h2 : ∀ k, G k → X k) : ∀ e ∈ rbL base xb f m last K a c G false, ∀ k, e.has k → X k := fun e he k hk => by
  simp only [rbL, List.mem_cons, List.not_mem_nil, or_false] at he
  rcases he with rfl | rfl | rfl
  · exact Option.some.inj hk ▸ h0
  · exact h1 k hk
  · exact h2 k hk
theorem bodG {A : Nat → Prop} (h : (okG K).at_ w A v) (hok : BOk last (gsK K)) : (Bod RGr (K.map cellG) ((gsK K).map tG)).at_ w A (.bool true) := by
  refine ⟨by simp, fun i cs x hc hx => ?_⟩
  rw [List.getElem?_map] at hc
  rw [List.getElem?_map, List.getElem?_map] at hx
  cases hp : K[i]? with
  | none => rw [hp] at hc; cases hc
  | some p =>
    rw [hp] at hc hx
    cases hc
    cases hx
    have hpm := List.mem_of_getElem? hp
    have hg : p.g ∈ gsK K := List.mem_map.2 ⟨p, hpm, rfl⟩
    have h1 := hok.idb _ hg
    have h2 := hok.lst
    have h3 := hok.tm _ hg
    have h4 := hok.tr _ hg
    exact ⟨[.int .u64 p.g.id], _, rfl, ⟨rfl, mk_u64 (n := p.g.id) (by omega)⟩, [p.x.v], _, rfl, (h p hpm).val, [.int .i64 p.g.tm], [.int .i64 p.g.tries], rfl, ⟨rfl, mk_i64 (n := p.g.tm) (by omega)⟩, rfl, mk_i64 (n := p.g.tries) (by omega)⟩
/-- as it is read -/
theorem rb_read {base : Nat} (hb : w.heap[xb]? = some (rbC f m a K.length c last)) (hr : w.ownsRow base 99 4 (.slice a K.length c) K.length (cellsG K)) (hk : (okG K).at_ w G v) (hok : BOk last (gsK K)) : (rbR xb f m last (gsK K) a c).at_ w TT v := by
  have e : (gsK K).length = K.length := List.length_map _
  refine ⟨⟨by rw [e]; exact hb, trivial⟩, ?_⟩
  rw [e]
  exact Bod.slr (bodG ((okG K).mono hk fun _ _ => trivial) hok) hr (by rw [List.length_map, e]) fun _ _ _ => trivial
/-- a row of numbers joins -/
theorem Hp.rowG {g : BG} {ao : Option Addr} {no co : Nat} (h : Hp w0 w (.row w0.heap.size (.slice ao no co) 34 1 no (u64s g.L) :: .rep (fun w => (okG K).at_ w G (.bool true)) G false :: ol)) (hf : ∀ x ∈ g.L, Fits .u64 x) (hn : g.L.length = no) : ∃ G' : Nat → Prop, (∀ k, G' k → G k ∨ w0.heap.size ≤ k) ∧ Hp w0 w (.rep (fun w => (okG (K ++ [⟨g, ⟨ao, no, co⟩⟩])).at_ w G' (.bool true)) G' false :: ol) := by
  obtain ⟨Fr, hFr, h1⟩ := h.share (p := (Rslice (Rint .u64)).vp g.L) (fun h => (row_slr h hn hf).val)
  have h2 := h1.merge (Ψ := fun w => (okG (K ++ [⟨g, ⟨ao, no, co⟩⟩])).at_ w (fun k => Fr k ∨ G k) (.bool true)) (fun q1 q2 p hp => ?_) (Vp.loc (p := okG _))
  · exact ⟨_, fun k hk => hk.elim (fun h => .inr (hFr k h)) .inl, h2⟩
  · rcases List.mem_append.1 hp with hp | hp
    · exact (q2 p hp).mono fun k hk => .inr hk
    · rw [List.mem_singleton] at hp
      subst hp
      exact (SlR.of_val q1).mono fun k hk => .inl hk
end
end Go.Proofs.Ytidhpofcofknhaa
