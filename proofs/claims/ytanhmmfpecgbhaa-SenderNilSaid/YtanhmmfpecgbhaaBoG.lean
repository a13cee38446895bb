/-
  A board's Send: the plain part, rules. Conditions: each theorem's own.
-/
import Derived.Test.YtanhmmfpecgbhaaBoF
namespace Go.Proofs.Ytanhmmfpecgbhaa
open Go Go.RowKit
set_option linter.unusedVariables false

/-- who is sent for the first time -/
def newL (gs : List BG) (l : List Int) : List Int := sortU (l.filter fun n => decide (n ∉ bNums gs))
def bSend (f m : Int) (gs : List BG) (last now : Int) (l : List Int) : List BG × Int × Int :=
  if newL gs l = [] then (gs, last, 0) else (gs ++ [⟨last + 1, newL gs l, now + W f m 0, 1⟩], last + 1, last + 1)
theorem newL_mem {gs : List BG} {l : List Int} {n : Int} : n ∈ newL gs l ↔ n ∈ l ∧ n ∉ bNums gs := by unfold newL; rw [sortU_mem, List.mem_filter, decide_eq_true_eq]
section
variable {f m last : Int} {gs : List BG}
theorem BOk.push (h : BOk last gs) {g : BG} (hid : g.id = last + 1) (hs : g.L.Pairwise (· < ·)) (hd : ∀ n ∈ g.L, n ∉ bNums gs) (hf : ∀ n ∈ g.L, Fits .u64 n) (ht : g.tries = 1) (htm : 0 ≤ g.tm ∧ g.tm ≤ 2305843009213693952) (hl : (bNums gs).length + g.L.length ≤ 60000) (hla : last + 1 ≤ 1099511627776) (hc : gs.length < 60000) : BOk (last + 1) (gs ++ [g]) where
  ids := by
    rw [List.map_append, List.pairwise_append]
    refine ⟨h.ids, List.pairwise_singleton _ _, fun a ha b hb => ?_⟩
    obtain ⟨x, hx, rfl⟩ := List.mem_map.1 ha
    rw [List.map_cons, List.map_nil, List.mem_singleton] at hb
    have := (h.idb x hx).2
    omega
  idb := fun x hx => by
    rcases List.mem_append.1 hx with hx | hx
    · have := h.idb x hx
      omega
    · rw [List.mem_singleton] at hx
      subst hx
      have := h.lst
      omega
  srt := fun x hx => by
    rcases List.mem_append.1 hx with hx | hx
    · exact h.srt x hx
    · rw [List.mem_singleton] at hx
      subst hx; exact hs
  nd := by
    rw [bNums, List.flatMap_append, List.nodup_append]
    refine ⟨h.nd, by simpa using lt_nodup hs, fun a ha b hb e => ?_⟩
    subst e
    exact hd a (by simpa using hb) ha
  fit := fun x hx n hn => by
    rcases List.mem_append.1 hx with hx | hx
    · exact h.fit x hx n hn
    · rw [List.mem_singleton] at hx
      subst hx; exact hf n hn
  tr := fun x hx => by
    rcases List.mem_append.1 hx with hx | hx
    · exact h.tr x hx
    · rw [List.mem_singleton] at hx
      subst hx; omega
  tm := fun x hx => by
    rcases List.mem_append.1 hx with hx | hx
    · exact h.tm x hx
    · rw [List.mem_singleton] at hx
      subst hx; exact htm
  len := by
    rw [bNums, List.flatMap_append, List.length_append]
    simpa using hl
  lst := by have := h.lst; omega
  cnt := by rw [List.length_append, List.length_singleton]; omega
theorem bAl_push (h : BOk last gs) {g : BG} (h' : BOk (last + 1) (gs ++ [g])) (hid : g.id = last + 1) : dSet (bAl gs) g.id g.tm = bAl (gs ++ [g]) := by
  refine bAl_set h.idn h'.idn ?_
  rw [List.map_append, List.filter_eq_self.2 fun p hp => ?_]
  · exact List.perm_append_comm
  · obtain ⟨x, hx, rfl⟩ := List.mem_map.1 hp
    have := (h.idb x hx).2
    show decide (x.id ≠ g.id) = true
    exact decide_eq_true (by omega)
section
variable {M1 M2 : List ME} {c1 c2 : Nat} {B : Int → Nat}
theorem BRel.push (hr : BRel gs M1 M2 c1 c2 B) (hok : BOk last gs) {g : BG} (hok' : BOk (last + 1) (gs ++ [g])) (hid : g.id = last + 1) {b : Nat} (hb : ∀ x ∈ gs, B x.id ≠ b) {M2' : List ME} {c2' : Nat} (hm : MOk M2' c2') (hg : ∀ n, mGet M2' n = if n ∈ g.L then some (.int .u64 g.id) else (bGet gs n).map fun g => Value.int .u64 g.id) :
    BRel (gs ++ [g]) (mPut M1 g.id (bptr b) c1).1 M2' (mPut M1 g.id (bptr b) c1).2 c2' (fun i => if i = g.id then b else B i) where
  inj := fun x hx y hy e => by
    have key : ∀ z ∈ gs ++ [g], (z ∈ gs ∧ z.id ≤ last) ∨ z = g := fun z hz => by
      rcases List.mem_append.1 hz with hz | hz
      · exact .inl ⟨hz, (hok.idb z hz).2⟩
      · exact .inr (List.mem_singleton.1 hz)
    rcases key x hx with ⟨x1, x2⟩ | x1 <;> rcases key y hy with ⟨y1, y2⟩ | y1
    · rw [if_neg (by omega), if_neg (by omega)] at e
      exact hr.inj x x1 y y1 e
    · rw [y1, if_neg (by omega), if_pos rfl] at e
      exact absurd e (hb x x1)
    · rw [x1, if_pos rfl, if_neg (by omega)] at e
      exact absurd e.symm (hb y y1)
    · rw [x1, y1]
  m1 := hr.m1.put _ _
  g1 := fun id => by
    rw [mGet_put]
    by_cases e : id = g.id
    · subst e
      rw [if_pos rfl, bId_mem hok' (List.mem_append.2 (.inr List.mem_cons_self)), Option.map_some, if_pos rfl]
    · rw [if_neg e, hr.g1, if_neg e]
      cases hb : bId gs id with
      | some x =>
        obtain ⟨hx, rfl⟩ := bId_some hb
        rw [bId_mem hok' (List.mem_append.2 (.inl hx))]
      | none =>
        have : bId (gs ++ [g]) id = none := bId_none.2 fun x hx => by
          rcases List.mem_append.1 hx with hx | hx
          · exact bId_none.1 hb x hx
          · rw [List.mem_singleton] at hx
            subst hx; exact fun h => e h.symm
        rw [this]
  m2 := hm
  g2 := fun n => by
    rw [hg]
    by_cases hn : n ∈ g.L
    · rw [if_pos hn, bGet_mem hok' (List.mem_append.2 (.inr List.mem_cons_self)) hn]
      rfl
    · rw [if_neg hn]
      cases hb : bGet gs n with
      | some x =>
        have h1 := bGet_some hb
        rw [bGet_mem hok' (List.mem_append.2 (.inl h1.1)) h1.2]
      | none =>
        have : bGet (gs ++ [g]) n = none := bGet_none.2 fun h => by
          rw [bNums, List.flatMap_append, List.mem_append] at h
          rcases h with h | h
          · exact bGet_none.1 hb h
          · exact hn (by simpa using h)
        rw [this]
end
end
section
variable {P : Program} {tb : Tab} {n : Nat} {w0 : World} {all : Array Oper} {os : List Oper} {o : Oper} {dl : DL} {ol : OL} {F : DL → Prop} {d : Nat}
/-- An operation that looks at a slot of which something is true, and may make new memory. -/
theorem D_frp (tx : Nat) {Φ : Value → World → Prop} (Ψ : Value → World → Prop) (hd : o.dst = some d) (hn : Nat.blt d n = true) (hg : gd all (rs all o dl) o.guard = some true) (htx : (o.looksAt all).contains tx = true) (hx : lk dl tx = some (.pr Φ)) (hst : ∀ v w w', Ψ v w → Below w.heap.size w w' → Ψ v w')
    (h : ∀ a u w, Rd a (rp (rs all o dl) tx u) → Hp w0 w ol → Φ u w → ∃ v w', (execOp a.eval o).run P w = .ok (.value v) w' ∧ Below w.heap.size w w' ∧ Ψ v w') (k : D P n w0 all os ((d, .pr Ψ) :: dl) ol F) : D P n w0 all (o :: os) dl ol F :=
  D_fresh Ψ hd (by simpa [Nat.blt_eq] using hn) hg hst (fun a w hrd h4 h3 => by
    have hs := h4 tx (by simpa using htx)
    rw [hx] at hs
    obtain ⟨u, hu1, hu2⟩ := hs
    exact h a u w (fun t v hv => by
      unfold rp at hv
      split at hv
      · rename_i e
        subst e
        cases hv
        exact hu1
      · exact hrd t v hv) h3 hu2) k
end
/-- a group's value; its block -/
def GrP (w0 : World) (ol : OL) (L : List Int) (v : Value) (w : World) : Prop := ∃ x : SX, v = .agg ⟨[x.v, .int .i64 1]⟩ ∧ (setP (· ∈ L) L.length).at_ w (BB w0 (fun _ => False) ol) x.s
def GrB (w0 : World) (ol : OL) (L : List Int) (v : Value) (w : World) : Prop := ∃ (b : Nat) (x : SX), v = bptr b ∧ w.heap[b]? = some (grO x 1) ∧ w0.heap.size ≤ b ∧ (∀ e ∈ ol, ¬ e.has b) ∧ (setP (· ∈ L) L.length).at_ w (fun k => BB w0 (fun _ => False) ol k ∧ k ≠ b) x.s
theorem GrP.stable {w0 : World} {ol : OL} {L : List Int} : ∀ v w w', GrP w0 ol L v w → Below w.heap.size w w' → GrP w0 ol L v w' := fun v w w' ⟨x, e, h⟩ hb => ⟨x, e, (setP _ _).ext h hb⟩
theorem GrB.stable {w0 : World} {ol : OL} {L : List Int} : ∀ v w w', GrB w0 ol L v w → Below w.heap.size w w' → GrB w0 ol L v w' := fun v w w' ⟨b, x, e, h1, h2, h3, h4⟩ hb => ⟨b, x, e, (hb.block b (heap_lt h1)).trans h1, h2, h3, (setP _ _).ext h4 hb⟩
section
variable {P : Program} {tb : Tab} {n : Nat} {w0 : World} {all : Array Oper} {os : List Oper} {o : Oper} {dl : DL} {ol : OL} {F : DL → Prop} {d : Nat} {L : List Int}
theorem D_grP (tx : Nat) (hd : o.dst = some d) (hn : Nat.blt d n = true) (hg : gd all (rs all o dl) o.guard = some true) (htx : (o.looksAt all).contains tx = true) (hx : lk dl tx = some (.pr (PV (setP (· ∈ L) L.length) w0 (fun _ => False) ol)))
    (h : ∀ ac (x : SX) w, Rd ac (rp (rs all o dl) tx x.s) → (execOp ac.eval o).run P w = .ok (.value (.agg ⟨[x.v, .int .i64 1]⟩)) w) (k : D P n w0 all os ((d, .pr (GrP w0 ol L)) :: dl) ol F) : D P n w0 all (o :: os) dl ol F :=
  D_opp tx (.pr (GrP w0 ol L)) hd hn hg htx hx GrP.stable (fun ac u w hrd hh hu => by
    obtain ⟨a1, n1, c1, rfl⟩ := setP_val hu
    exact ⟨_, h ac ⟨a1, n1, c1⟩ w hrd, ⟨a1, n1, c1⟩, rfl, hu⟩) k
theorem D_grB (tx : Nat) (hd : o.dst = some d) (hn : Nat.blt d n = true) (hg : gd all (rs all o dl) o.guard = some true) (htx : (o.looksAt all).contains tx = true) (hx : lk dl tx = some (.pr (GrP w0 ol L)))
    (h : ∀ ac (x : SX) w, Rd ac (rp (rs all o dl) tx (.agg ⟨[x.v, .int .i64 1]⟩)) → (execOp ac.eval o).run P w = .ok (.value (bptr w.heap.size)) (w.alloc (grO x 1))) (k : D P n w0 all os ((d, .pr (GrB w0 ol L)) :: dl) ol F) : D P n w0 all (o :: os) dl ol F :=
  D_frp tx (GrB w0 ol L) hd hn hg htx hx GrB.stable (fun ac u w hrd hh hu => by
    obtain ⟨x, rfl, hx⟩ := hu
    have hb : Below w.heap.size w (w.alloc (grO x 1)) := (Below.refl _ _).alloc (Nat.le_refl _) _
    exact ⟨_, _, h ac x w hrd, hb, w.heap.size, x, rfl, heap_alloc_new w _, hh.size, fun e he hk => absurd (hh.lt he hk) (Nat.lt_irrefl _), (setP _ _).keep hx fun k hk hlt => ⟨hb.block k hlt, hk, Nat.ne_of_lt hlt⟩⟩) k
end
section
variable {w0 w : World} {ol : OL} {gs : List BG} {last : Int}
theorem GrB.hp {L : List Int} {v : Value} (h : GrB w0 ol L v w) (hh : Hp w0 w ol) : ∃ b x F2, v = bptr b ∧ w0.heap.size ≤ b ∧ (∀ k, F2 k → w0.heap.size ≤ k) ∧ Hp w0 w (.rep (fun w => (setP (· ∈ L) L.length).at_ w F2 x.s) F2 false :: .blk b (grO x 1) true :: ol) := by
  obtain ⟨b, x, e, h1, h2, h3, h4⟩ := h
  have h9 : Hp w0 w (.blk b (grO x 1) true :: ol) := hh.more h1 fun e he _ k hk hk2 => h3 e he (by rw [Option.some.inj hk]; exact hk2)
  obtain ⟨F2, g1, _, g3⟩ := h9.addV (p := setP (· ∈ L) L.length) (A := fun _ => False) (v := x.s) ((setP _ _).mono h4 fun k hk => ⟨hk.1.1, fun e he hx hh2 => by
    rcases List.mem_cons.1 he with rfl | he
    · exact hk.2 (Option.some.inj hh2).symm
    · exact hk.1.2 e he hx hh2⟩)
  exact ⟨b, x, F2, e, h2, fun k hk => (g1 k hk).resolve_left id, g3⟩
/-- a new group joins -/
theorem bo_grow {B : Int → Nat} {X : Int → SX} {Fg Fs F2 : Nat → Prop} {b : Nat} {x : SX} {g : BG} (hok : BOk last gs) (hid : g.id = last + 1) (ht : g.tries = 1)
    (hh : Hp w0 w (.rep (fun w => (setP (· ∈ g.L) g.L.length).at_ w F2 x.s) F2 false :: .rep (fun w => (seV gs X).at_ w Fs (.bool true)) Fs false :: .blk b (grO x 1) true :: .rep (fun w => (gbV gs B X).at_ w Fg (.bool true)) Fg true :: ol)) :
    Hp w0 w (.rep (fun w => (gbV (gs ++ [g]) (fun i => if i = g.id then b else B i) (updX X g.id x)).at_ w (fun k => Fg k ∨ k = b) (.bool true)) (fun k => Fg k ∨ k = b) true :: .rep (fun w => (seV (gs ++ [g]) (updX X g.id x)).at_ w (fun k => F2 k ∨ Fs k) (.bool true)) (fun k => F2 k ∨ Fs k) false :: ol) := by
  have h1 := hh.merge (Ψ := fun w => (seV (gs ++ [g]) (updX X g.id x)).at_ w (fun k => F2 k ∨ Fs k) (.bool true)) (fun k1 k2 y hy => ?_) (Vp.loc (p := seV _ _))
  · have h2 := h1.pm [1, 2, 0] rfl rfl rfl
    have o0 : w.heap[b]? = _ := h2.own _ (getE_mem (i := 0) rfl)
    obtain ⟨o1, _, o3⟩ := h2.own _ (getE_mem (i := 1) rfl)
    refine Hp.regroup [.blk b (grO x 1) true, .rep (fun w => (gbV gs B X).at_ w Fg (.bool true)) Fg true] [.rep (fun w => (gbV (gs ++ [g]) (fun i => if i = g.id then b else B i) (updX X g.id x)).at_ w (fun k => Fg k ∨ k = b) (.bool true)) (fun k => Fg k ∨ k = b) true] h2 (fun e he => ?_) (fun e he => ?_) (List.pairwise_singleton _ _) (fun e he k hk => ?_) (fun e he k hk => ?_)
    · simp only [List.mem_cons, List.not_mem_nil, or_false] at he
      rcases he with rfl | rfl <;> rfl
    · rw [List.mem_singleton] at he
      subst he
      refine ⟨rfl, fun y hy => ?_, Vp.loc (p := gbV _ _ _), fun k hk => ?_⟩
      · dsimp only
        unfold updX
        rcases List.mem_append.1 hy with hy | hy
        · have h4 := (hok.idb y hy).2
          rw [if_neg (by omega), if_neg (by omega)]
          exact ⟨(o1 y hy).1, .inl (o1 y hy).2⟩
        · rw [List.mem_singleton] at hy
          subst hy
          rw [if_pos rfl, if_pos rfl, ht]
          exact ⟨o0, .inr rfl⟩
      · rcases hk with hk | rfl
        · exact o3 k hk
        · exact heap_lt o0
    · rw [List.mem_singleton] at he
      subst he
      rcases hk with hk | rfl
      · exact ⟨_, List.mem_cons_of_mem _ List.mem_cons_self, hk⟩
      · exact ⟨_, List.mem_cons_self, rfl⟩
    · simp only [List.mem_cons, List.not_mem_nil, or_false] at he
      rcases he with rfl | rfl
      · exact .inr ⟨_, List.mem_cons_self, .inr (Option.some.inj hk).symm⟩
      · exact .inr ⟨_, List.mem_cons_self, .inl hk⟩
  · unfold updX
    rcases List.mem_append.1 hy with hy | hy
    · have h4 := (hok.idb y hy).2
      rw [if_neg (by omega)]
      exact (setP _ _).mono (k2 y hy) fun k hk => .inr hk
    · rw [List.mem_singleton] at hy
      subst hy
      rw [if_pos rfl]
      exact (setP _ _).mono k1 fun k hk => .inl hk
/-- an opened board is a board -/
theorem bo_of {bb : Nat} {f m : Int} {h : BH} (hh : Hp w0 w (boL bb f m gs last h true false ++ ol)) (hp : PR f m) (hok : BOk last gs) (hne : BNe gs) (hr : BRel gs h.M1 h.M2 h.c1 h.c2 h.B) : (boA bb f m gs last).at_ w (fun k => ∃ e ∈ boL bb f m gs last h true true, e.has k) (.bool true) := by
  refine ⟨h, hp, ⟨hok, hne⟩, hr, fun e he => ⟨?_, fun k hk => ⟨e, he, hk⟩⟩, ?_⟩
  · simp only [boL, List.mem_cons, List.not_mem_nil, or_false] at he
    rcases he with rfl | rfl | rfl | rfl | rfl | rfl
    · exact hh.own _ (getE_mem (i := 0) rfl)
    · exact hh.own _ (getE_mem (i := 1) rfl)
    · exact hh.own _ (getE_mem (i := 2) rfl)
    · exact hh.own _ (getE_mem (i := 3) rfl)
    · exact hh.own _ (getE_mem (i := 4) rfl)
    · exact hh.own (.rep (fun w => (seV gs h.X).at_ w h.Fs (.bool true)) h.Fs false) (getE_mem (i := 5) rfl)
  · have h5 := (List.pairwise_append.1 hh.apart).1
    simp only [boL, List.pairwise_cons, List.mem_cons, List.not_mem_nil, or_false, forall_eq_or_imp, forall_eq] at h5 ⊢
    obtain ⟨⟨a1, a2, a3, a4, a5⟩, ⟨b2, b3, b4, b5⟩, ⟨c3, c4, c5⟩, ⟨d4, d5⟩, e5, _⟩ := h5
    exact ⟨⟨a1, a2, a3, a4, fun _ => a5 rfl⟩, ⟨b2, b3, b4, fun _ => b5 rfl⟩, ⟨c3, c4, fun _ => c5 rfl⟩, ⟨d4, fun _ => d5 rfl⟩, fun _ => e5 rfl, fun _ h => h.elim, List.Pairwise.nil⟩
end
end Go.Proofs.Ytanhmmfpecgbhaa
