/-
  A board's Take. Conditions: each theorem's own.
-/
import Derived.Test.YtanhmmfpecgbhaaBoE
namespace Go.Proofs.Ytanhmmfpecgbhaa
open Go Go.RowKit
set_option linter.unusedVariables false

/-- One number, in a slice that was just built. -/
theorem one_slr {w0 w : World} {ol : OL} {x : Int} {e : TypeId} {v : Value} (hx : Fits .u64 x) (h : BuiltF w0 ol 1 [.int .u64 x] e v w) : ∃ b, v = .slice (some ⟨b, 0, none⟩) 1 1 ∧ SlR (Rint .u64) w TT (some ⟨b, 0, none⟩) 1 1 [x] := by
  obtain ⟨b, rfl, h1, h2, _⟩ := h
  exact ⟨b, rfl, .of_flat (flat_int .u64) rfl (Nat.le_refl _) (by decide) (fun h => by cases h) (Sl.of_blk (xs := [.int .u64 x]) h1 rfl (fun j u hu => by rw [Nat.zero_add]; exact hu)) (by intro y hy; rw [List.mem_singleton] at hy; subst hy; exact hx) (fun _ => ⟨_, _, rfl, trivial⟩)⟩
theorem of1_p {w0 w : World} {ol : OL} {x : Int} {e : TypeId} {v : Value} (hx : Fits .u64 x) (h : BuiltF w0 ol 1 [.int .u64 x] e v w) :
    Calls Try.prog 21 #[v] w fun e w' => ∃ r, e = .returned r ∧ Below w.heap.size w w' ∧ (setP (fun y => y = x) 1).at_ w' (fun k => w.heap.size ≤ k) r := by
  obtain ⟨b, rfl, hs⟩ := one_slr hx h
  exact (of_p _ 1 1 [x] w hs (by decide)).mono fun e w' ⟨r, e1, e2, e3⟩ => ⟨r, e1, e2, setP_to (fun y => List.mem_singleton) (Nat.le_refl _) e3⟩
/-- A set whose members are a list's is no longer than it. -/
theorem setP_tight {L : List Int} {S : Int → Prop} {Bd : Nat} {w : World} {A : Nat → Prop} {v : Value} (h : (setP S Bd).at_ w A v) (hL : L.Pairwise (· < ·)) (hS : ∀ x, S x ↔ x ∈ L) : (setP (· ∈ L) L.length).at_ w A v := by
  obtain ⟨a, n, c, m, rfl, h1, h2, h3, h4⟩ := setP_form h
  have e : flatR m = L := lt_ext (flatR_pw h1) hL fun x => by rw [flatR_mem, h2, hS]
  have hlen : ∀ m : List Run, (∀ r ∈ m, r.1 ≤ r.2) → m.length ≤ (flatR m).length := fun m => by
    induction m with
    | nil => exact fun _ => Nat.le_refl _
    | cons r m ih =>
      intro h
      rw [flatR_cons, List.length_append, upI_len, List.length_cons]
      have := ih fun x hx => h x (List.mem_cons_of_mem _ hx)
      have := h r List.mem_cons_self
      omega
  have := hlen m h1.le
  rw [e] at this
  exact setP_mk h1 (fun x => (h2 x).trans (hS x)) this h4
theorem Hp.mapI {w0 w : World} {ol ol' : OL} (i : Nat) {Φ Ψ : World → Prop} {F : Nat → Prop} {r : Bool} (hh : Hp w0 w ol) (hi : getE ol i = some (.rep Φ F r)) (hΨ : Φ w → Ψ w) (hl : Loc Ψ F) (hput : putE ol i (.rep Ψ F r) = some ol') : Hp w0 w ol' := by
  obtain ⟨pre, post, e1, e2⟩ := putE_eq hi hput
  subst e1 e2
  have h0 := hh.own _ (List.mem_append.2 (.inr List.mem_cons_self) : (.rep Φ F r : HE) ∈ pre ++ .rep Φ F r :: post)
  have ha := List.pairwise_append.1 hh.apart
  have hb := List.pairwise_cons.1 ha.2.1
  refine ⟨hh.os, hh.tape, hh.output, hh.size, fun k hk he => hh.old k hk fun e hm hx hk2 => ?_, fun e hm => ?_, List.pairwise_append.2 ⟨ha.1, List.pairwise_cons.2 ⟨fun e he => hb.1 e he, hb.2⟩, fun e he e' he' => ?_⟩⟩
  · rcases List.mem_append.1 hm with hm | hm
    · exact he e (List.mem_append.2 (.inl hm)) hx hk2
    rcases List.mem_cons.1 hm with rfl | hm
    · exact he (.rep Ψ F r) (List.mem_append.2 (.inr List.mem_cons_self)) hx hk2
    · exact he e (List.mem_append.2 (.inr (List.mem_cons_of_mem _ hm))) hx hk2
  · rcases List.mem_append.1 hm with hm | hm
    · exact hh.own e (List.mem_append.2 (.inl hm))
    rcases List.mem_cons.1 hm with rfl | hm
    · exact ⟨hΨ h0.1, hl, h0.2.2⟩
    · exact hh.own e (List.mem_append.2 (.inr (List.mem_cons_of_mem _ hm)))
  · rcases List.mem_cons.1 he' with rfl | he'
    · exact ha.2.2 e he (.rep Φ F r) List.mem_cons_self
    · exact ha.2.2 e he e' (List.mem_cons_of_mem _ he')
theorem nums_le {gs : List BG} {g : BG} (h : g ∈ gs) : g.L.length ≤ (bNums gs).length := by
  induction gs with
  | nil => cases h
  | cons x gs ih =>
    rw [bNums, List.flatMap_cons, List.length_append]
    rcases List.mem_cons.1 h with rfl | h
    · omega
    · have := ih h
      simp only [bNums] at this
      omega
def updX (X : Int → SX) (id : Int) (x : SX) : Int → SX := fun i => if i = id then x else X i
/-- which numbers are gone so far -/
def goI (s : Int → Bool) (l : List Int) : Int → Bool := fun n => s n && decide (n ∈ l)
theorem goI_skip {s : Int → Bool} {l : List Int} {n : Int} (h : s n = false) : goI s (l ++ [n]) = goI s l := by
  funext k
  unfold goI
  by_cases e : k = n
  · subst e; rw [h]; rfl
  · simp [e]
theorem goI_step {s : Int → Bool} {l : List Int} {n : Int} (h : s n = true) : goI s (l ++ [n]) = fun k => goI s l k || eqN n k := by
  funext k
  unfold goI eqN
  by_cases e : k = n
  · subst e; simp [h]
  · simp [e]
theorem rmB_step {s : Int → Bool} {l : List Int} {n : Int} (gs : List BG) (h : s n = true) : rmB gs (goI s (l ++ [n])) = rmB (rmB gs (goI s l)) (eqN n) := by rw [goI_step h, rmB_rmB]
/-- the loop's index -/
structure TkI where
  i : Nat
  A : Option Addr
  C : Nat
  c1 : Nat
  c2 : Nat
  M1 : List ME
  M2 : List ME
  X : Int → SX
  Fa : Nat → Prop
  Fs : Nat → Prop
abbrev TkI.h (j : TkI) (gb mb ab : Nat) (B : Int → Nat) (Fg : Nat → Prop) : BH := ⟨gb, mb, ab, j.c1, j.c2, j.M1, j.M2, B, j.X, j.Fa, Fg, j.Fs⟩
section
variable {bb : Nat} {f m last : Int} {gs : List BG} {w w0 : World} {F : Nat → Prop} {ol : OL}
set_option maxHeartbeats 8000000 in
theorem bo_take (h : (boA bb f m gs last).at_ w F (.bool true)) (hF : ∀ k, F k → k < w.heap.size) {a0 : Option Addr} {n0 c0 : Nat} {s : Int → Bool} {Bd : Nat} {A0 : Nat → Prop} (hs : (setP (fun n => s n = true) Bd).at_ w A0 (setV a0 n0 c0)) (hAF : ∀ k, A0 k → ¬ F k) (hBd : Bd ≤ 900000) :
    Calls Try.prog 16 #[bptr bb, setV a0 n0 c0] w fun e w' => ∃ A C, e = .returned (.slice A (sortU ((bNums gs).filter s)).length C) ∧
      ∃ F' : Nat → Prop, (∀ k, F k → F' k) ∧ (∀ k, F' k → F k ∨ w.heap.size ≤ k) ∧ Hp w w' [.row w.heap.size (.slice A (sortU ((bNums gs).filter s)).length C) 24 1 (sortU ((bNums gs).filter s)).length (u64s (sortU ((bNums gs).filter s))), .rep (fun w => (boA bb f m (rmB gs s) last).at_ w F' (.bool true)) F' true] := by
  obtain ⟨x, hp, hok, hr, hst, hcov, hne⟩ := bo_open h true false
  have hlen := hr.len hok
  have hl6 := hok.len
  obtain ⟨Fq, hFq, _, hst2⟩ := hst.addV (p := setP (fun n => s n = true) Bd) (A := A0) (v := setV a0 n0 c0) ((setP _ _).mono hs fun k hk => ⟨.inl hk, fun e he hx hh => hAF k hk (bo_far hcov e he hx k hh)⟩)
  obtain ⟨gb, mb, ab, c1, c2, M1, M2, Bk, X, Fa, Fg, Fs⟩ := x
  dsimp only at hr hst2 hlen
  have hFb : F bb := hcov _ (getE_mem (i := 0) rfl) bb rfl
  have hFgb : F gb := hcov _ (getE_mem (i := 1) rfl) gb rfl
  have hFmb : F mb := hcov _ (getE_mem (i := 2) rfl) mb rfl
  have hFa : ∀ k, Fa k → F k := hcov _ (getE_mem (i := 3) rfl)
  have hFg : ∀ k, Fg k → F k := hcov _ (getE_mem (i := 4) rfl)
  have hFs : ∀ k, Fs k → F k := hcov _ (getE_mem (i := 5) rfl)
  clear hst hcov
  refine enter2 Try.func16 rfl rfl hst2 ?_
  repeat (first | refine T_seq ?_ | refine T_region ?_)
  refine S_new tabOk rfl (fun b3 hb3 => ?_)
  repeat (first | refine T_seq ?_ | refine T_region ?_ | refine S_nil ?_ | refine S_pure tabOk rfl ?_)
  refine S_q (Q_eqptr tabOk rfl rfl rfl rfl rfl) ?_
  repeat (first | refine S_nil ?_)
  refine T_cond_f rfl ?_
  repeat (first | refine T_seq ?_ | refine T_region ?_ | refine S_nil ?_ | refine pthen_normal ?_ | refine T_skip ?_ | refine S_pure tabOk rfl ?_ | refine S_load tabOk 2 rfl rfl rfl ?_)
  refine S_call rfl Try.call55 (fun w1 h1 => (bkeys_ok h1).mono fun e w' ⟨B, hB, e1, h2⟩ => ⟨_, _, e1, h2, ?_⟩)
  refine S_call rfl Try.call56 (fun w1 h1 => ?_)
  refine (sorted_ok (bkeys_itr hr.m2 (by omega) (h1.own _ (getE_mem (i := 0) rfl)) (h1.own _ (getE_mem (i := 5) rfl))) (fun ss hs => by have := hs.length_eq; rw [List.length_map] at this; omega)).mono fun e w' ⟨v, ss, ns, e1, hp1, hp2, hsrt, hnil, h2⟩ => ⟨v, _, e1, h1.fresh (h2.below (newrow h2 0 rfl (Nat.le_refl _) new_nil)) (x := uRow w.heap.size v ns) (ownsRow_base (h2.own _ List.mem_cons_self) h1.size) (fun k hk => (World.ownsRow.lt (h2.own _ List.mem_cons_self) k hk).1), ?_⟩
  have hmem : ∀ n, n ∈ ns ↔ n ∈ bNums gs := fun n => hp2.mem_iff.trans (hp1.mem_iff.trans (hr.keys n))
  have hnl : ns.length = (bNums gs).length := by rw [hp2.length_eq, hp1.length_eq, List.length_map, hlen]
  have hnd : ns.Nodup := hp2.nodup_iff.2 (hp1.nodup_iff.2 hr.m2.keys)
  have hlt : ns.Pairwise (· < ·) := by
    refine (List.Pairwise.and hsrt hnd).imp fun ⟨h1, h2⟩ => ?_
    omega
  obtain ⟨an, cn, rfl⟩ : ∃ a c, v = .slice a ns.length c := by
    obtain ⟨a, c, e2, _⟩ := form_of_own (h2.own (uRow w1.heap.size v ns) List.mem_cons_self)
    exact ⟨a, c, e2⟩
  clear h2 hnil e1
  have hout : sortU ((bNums gs).filter s) = ns.filter s := (sortU_ext (hlt.sublist List.filter_sublist) fun n => by rw [List.mem_filter, List.mem_filter, hmem]).symm
  rw [hout]
  repeat (first | refine T_block ?_ | refine S_nil ?_ | refine S_pure tabOk rfl ?_)
  have e0 : rmB gs (goI s (ns.take 0)) = gs := rmB_none hne fun n _ => by simp [goI]
  refine T_loop (ι := TkI) (fun j => [(0, bptr bb), (3, .pointer (some ⟨b3, 0, none⟩)), (17, .slice an ns.length cn), (18, .int .i64 (ns.length : Int)), (19, .int .i64 (j.i : Int)), (5, .slice j.A ((ns.take j.i).filter s).length j.C)])
    (fun j => boL bb f m (rmB gs (goI s (ns.take j.i))) last (j.h gb mb ab Bk Fg) true false ++ [.row w.heap.size (.slice j.A ((ns.take j.i).filter s).length j.C) 24 1 ((ns.take j.i).filter s).length (u64s ((ns.take j.i).filter s)), uRow w.heap.size (.slice an ns.length cn) ns, .blk b3 (.cells ⟨[.slice a0 n0 c0]⟩ 35 (0, 0)) true, .rep (fun w => (setP (fun n => s n = true) Bd).at_ w Fq (setV a0 n0 c0)) Fq false])
    (fun j => j.i ≤ ns.length ∧ BRel (rmB gs (goI s (ns.take j.i))) j.M1 j.M2 j.c1 j.c2 Bk ∧ (∀ k, j.Fa k → F k ∨ w.heap.size ≤ k) ∧ ∀ k, j.Fs k → F k ∨ w.heap.size ≤ k) (fun j => ns.length - j.i) ⟨0, none, 0, c1, c2, M1, M2, X, Fa, Fs⟩ ⟨Nat.zero_le _, by rw [e0]; exact hr, fun k hk => .inl (hFa k hk), fun k hk => .inl (hFs k hk)⟩ (by repeat (first | exact Sub.nil | refine Sub.cons rfl ?_)) (fun w' hw => ?_) ?_
  · have h9 := hw.nilRow 24 1
    rw [e0]
    exact (h9.pm [5, 6, 7, 8, 9, 10, 0, 1, 3, 4, 2] rfl rfl rfl).less (by repeat (first | exact Less.nil | refine Less.keep ?_ | refine Less.dropB (by first | assumption | omega) ?_))
  rintro ⟨i, A, C, c1, c2, M1, M2, X, Fa, Fs⟩ ⟨hi, hr, hFa, hFs⟩
  dsimp only at hi hr hFa hFs ⊢
  repeat (first | refine T_seq ?_ | refine T_region ?_ | refine S_nil ?_ | refine S_pure tabOk rfl ?_)
  refine T_cond_dec rfl (fun hlt1 => ?_) (fun hge => ?_)
  rotate_left
  · have hie : i = ns.length := by omega
    subst hie
    rw [List.take_length] at hr ⊢
    have e9 : rmB gs (goI s ns) = rmB gs s := rmB_congr fun n hn => by simp [goI, hmem, hn]
    rw [e9] at hr ⊢
    repeat (first | refine T_seq ?_ | refine T_region ?_ | refine S_nil ?_ | refine pthen_normal ?_ | refine inb_hit ?_ | refine pthen_exit ?_ | refine T_ret ?_ | refine T_exit ?_ | refine S_pure tabOk rfl ?_)
    exact ret1 rfl rfl (fun w' hw => ⟨A, C, rfl, by
      obtain ⟨F', g1, g2, g3⟩ := bo_close (F0 := F) (ol := [.row w.heap.size (.slice A (ns.filter s).length C) 24 1 (ns.filter s).length (u64s (ns.filter s))]) (hw.less (by repeat (first | exact Less.nil | refine Less.keep ?_ | refine Less.dropR ?_ | refine Less.dropB (by first | assumption | omega) ?_ | refine Less.dropW (Nat.le_refl _) ?_))) hp (hok.rm s) (rmB_ne gs s) hr hF (fun e he => by
        rw [List.mem_singleton] at he
        subst he
        exact ⟨rfl, fun k hk => (World.ownsRow.lt (hw.own _ (getE_mem (i := 6) rfl)) k hk).1⟩) (bo_cov (.inl hFb) (.inl hFgb) (.inl hFmb) hFa (fun k hk => .inl (hFg k hk)) hFs)
      exact ⟨F', g1, g2, g3.pm [1, 0] rfl rfl rfl⟩⟩)
  have hin : i < ns.length := by omega
  obtain ⟨n, hn⟩ : ∃ n, ns[i]? = some n := ⟨_, List.getElem?_eq_getElem hin⟩
  have htk : ns.take (i + 1) = ns.take i ++ [n] := by
    rw [List.take_succ_eq_append_getElem hin]
    rw [List.getElem?_eq_getElem hin] at hn
    rw [Option.some.inj hn]
  have hnb : n ∈ bNums gs := (hmem n).1 (List.mem_of_getElem? hn)
  have hnf := hok.nfit hnb
  repeat (first | refine T_seq ?_ | refine T_region ?_ | refine T_block ?_ | refine pthen_normal ?_ | refine T_skip ?_)
  refine S_rowA 7 rfl (by omega) (fun gN hgN => ?_)
  subst hgN
  refine S_q (Q_idx1 tabOk rfl rfl rfl rfl rfl rfl rfl (j := i) rfl hin) ?_
  refine S_load1 tabOk (v := .int .u64 n) rfl rfl (fun w' hw => own_cell (hw.own _ (getE_mem (i := 7) rfl)) (by omega) (by rw [Nat.zero_add, List.getElem?_map, hn]; rfl)) ?_
  repeat (first | refine T_seq ?_ | refine T_region ?_ | refine S_nil ?_ | refine S_pure tabOk rfl ?_)
  refine S_load tabOk 8 rfl rfl rfl ?_
  repeat (first | refine S_pure tabOk rfl ?_)
  cases hs1 : s n with
  | false =>
    refine S_callq (v := .bool false) rfl Try.call57 (fun w1 h1 => has_v n false w1 (h1.own _ (getE_mem (i := 9) rfl)).1 hBd (by rw [hs1])) ?_
    repeat (first | refine S_nil ?_ | refine S_pure tabOk rfl ?_)
    refine T_cond_t rfl ?_
    repeat (first | refine T_region ?_ | refine S_nil ?_ | refine pthen_normal ?_ | refine inb_hit ?_ | refine pthen_exit ?_ | refine T_exit ?_ | refine S_i64 tabOk rfl (by omega) ?_ | refine S_pure tabOk rfl ?_)
    exact ⟨⟨i + 1, A, C, c1, c2, M1, M2, X, Fa, Fs⟩, ⟨hin, by dsimp only; rw [htk, goI_skip hs1]; exact hr, hFa, hFs⟩, (by
      dsimp only
      rw [htk, List.filter_append, List.filter_cons_of_neg (by simp [hs1]), List.filter_nil, List.append_nil]
      repeat (first | exact Sub.nil | refine Sub.cons rfl ?_)), fun w' hw => (by
      dsimp only
      rw [htk, goI_skip hs1, List.filter_append, List.filter_cons_of_neg (by simp [hs1]), List.filter_nil, List.append_nil]
      exact hw), by dsimp only; omega⟩
  | true =>
    refine S_callq (v := .bool true) rfl Try.call57 (fun w1 h1 => has_v n true w1 (h1.own _ (getE_mem (i := 9) rfl)).1 hBd (by rw [hs1])) ?_
    repeat (first | refine S_nil ?_ | refine S_pure tabOk rfl ?_)
    refine T_cond_f rfl ?_
    repeat (first | refine T_seq ?_ | refine T_region ?_ | refine pthen_normal ?_ | refine T_skip ?_ | refine S_pure tabOk rfl ?_)
    obtain ⟨gs1, hgs1⟩ : ∃ g1, g1 = rmB gs (goI s (ns.take i)) := ⟨_, rfl⟩
    have hstep : rmB gs (goI s (ns.take (i + 1))) = rmB gs1 (eqN n) := by rw [htk, rmB_step gs hs1, hgs1]
    have hok1 : BOk last gs1 := hgs1 ▸ hok.rm _
    have hne1 : BNe gs1 := hgs1 ▸ rmB_ne _ _
    have hnt : n ∉ ns.take i := fun hm => by
      have h1 : (ns.take (i + 1)).Nodup := hnd.sublist (List.take_sublist _ _)
      rw [htk, List.nodup_append] at h1
      exact h1.2.2 n hm n (List.mem_singleton.2 rfl) rfl
    have hn1 : n ∈ bNums gs1 := by rw [hgs1, nums_rm, List.mem_filter]; exact ⟨hnb, by simp [goI, hnt]⟩
    obtain ⟨g, hgm, hgn⟩ := List.mem_flatMap.1 hn1
    rw [← hgs1] at hr ⊢
    have hm2 := hr.g2 n
    rw [bGet_mem hok1 hgm hgn] at hm2
    have hm1 := hr.g1 g.id
    rw [bId_mem hok1 hgm] at hm1
    have hB2 := hr.cut1 hok1 n
    have hfl : ((ns.take i).filter s).length ≤ 60000 := by
      have h1 := List.length_filter_le s (ns.take i)
      rw [List.length_take] at h1
      omega
    have e5 : (ns.take (i + 1)).filter s = (ns.take i).filter s ++ [n] := by rw [htk, List.filter_append, List.filter_cons_of_pos hs1, List.filter_nil]
    refine S_bslice tabOk rfl rfl rfl rfl rfl rfl rfl rfl rfl rfl rfl rfl (fun nb hnb2 => ?_)
    refine S_append (ty := 0) (k := 1) (news := [.int .u64 n]) tabOk 7 (sz := 1) rfl rfl rfl rfl rfl rfl rfl rfl rfl (by decide) (fun w' hw => Sl.of_blk (hw.own _ (getE_mem (i := 0) rfl)) rfl (fun j u hu => by rw [Nat.zero_add]; exact hu)) (fun u hu => by rw [List.mem_singleton] at hu; subst hu; rfl) (by simp only [maxLen]; omega) (by show (_ + _) * 8 ≤ _; omega) rfl (fun A' C' hA' hC' => ⟨_, rfl, ?_⟩)
    refine S_heap (fun w' hw => hw.dropn hnb2) ?_
    repeat (first | refine T_seq ?_ | refine T_region ?_ | refine S_nil ?_ | refine S_pure tabOk rfl ?_ | refine S_load tabOk 0 rfl rfl rfl ?_)
    refine S_q (Q_look (v := .int .u64 g.id) tabOk rfl rfl rfl rfl rfl rfl rfl rfl (fun w' hw => hw.own _ (getE_mem (i := 2) rfl)) hm2) ?_
    repeat (first | refine T_seq ?_ | refine T_region ?_ | refine S_nil ?_ | refine S_pure tabOk rfl ?_ | refine S_load tabOk 0 rfl rfl rfl ?_)
    refine S_deleteN tabOk 2 rfl rfl rfl rfl rfl rfl rfl rfl rfl ?_
    repeat (first | refine T_seq ?_ | refine T_region ?_ | refine S_nil ?_ | refine S_pure tabOk rfl ?_ | refine S_load tabOk 0 rfl rfl rfl ?_)
    refine S_q (Q_look (v := bptr (Bk g.id)) tabOk rfl rfl rfl rfl rfl rfl rfl rfl (fun w' hw => hw.own _ (getE_mem (i := 1) rfl)) hm1) ?_
    repeat (first | refine T_seq ?_ | refine S_nil ?_ | refine S_pure tabOk rfl ?_)
    refine T_kn (X := Fg (Bk g.id)) (fun w' hw => ((hw.own _ (getE_mem (i := 4) rfl)).1 g hgm).2) (fun hFgg => ?_)
    have hgl := nums_le hgm
    have hl1 := hok1.len
    obtain ⟨g2, hg2⟩ : ∃ g2, g2 = cutB (eqN n) g := ⟨_, rfl⟩
    have hg2L : g2.L.Pairwise (· < ·) := by rw [hg2]; exact (hok1.srt g hgm).sublist List.filter_sublist
    have hg2m : ∀ x, (x ∈ g.L ∧ ¬ x = n) ↔ x ∈ g2.L := fun x => by rw [hg2]; simp [cutB, eqN]
    have hg2l : g2.L.length ≤ g.L.length := by rw [hg2]; exact List.length_filter_le _ _
    refine T_drawT (by kernel_rfl) 11 rfl (by kernel_rfl) ?_
    repeat (first | refine D_pure tabOk rfl ?_)
    refine D_loadN tabOk (vs := [(X g.id).v]) rfl rfl rfl (fun w' hw j u hu => by
      rw [Addr.add_lit]
      refine cellH ((hw.own _ (getE_mem (i := 4) rfl)).1 g hgm).1 (j := j) ?_
      cases j with
      | zero => exact hu
      | succ j => simp at hu) ?_
    repeat (first | refine D_pure tabOk rfl ?_)
    refine D_bsliceF tabOk rfl rfl rfl rfl rfl rfl rfl rfl rfl rfl rfl rfl ?_
    refine D_callR (setP (fun y => y = n) 1) (fun _ => False) rfl Try.call21 (fun w' vs hw' h => by
      obtain ⟨u1, _, rfl, g1, rfl⟩ := h
      exact (of1_p hnf g1).mono fun e w'' ⟨r, e1, e2, e3⟩ => ⟨r, e1, e2, nbb hw' e3⟩) ?_
    refine D_callR (setP (· ∈ g2.L) g2.L.length) Fs rfl Try.call22 (fun w' vs hw' h => by
      obtain ⟨u1, _, rfl, rfl, u2, _, rfl, g3, rfl⟩ := h
      have h5 := Vp.fact (p := seV gs1 X) (v := .bool true) (A := Fs) hw' 5 rfl (fun k hk => .inl hk) g hgm
      exact (less_p w' (fun k hk => BB_new hw' hk) h5 g3 (by omega)).mono fun e w'' ⟨r, e1, e2, e3⟩ => ⟨r, e1, e2, setP_tight e3 hg2L hg2m⟩) ?_
    repeat (first | refine D_pure tabOk rfl ?_)
    refine D_out 56 rfl (by repeat (first | exact exs_refl)) (fun v F2 w2 hF2 hv2 => ?_)
    obtain ⟨a2, n2, c2', rfl⟩ := setP_val hv2
    refine D_allP rfl ?_
    obtain ⟨gs2, hgs2⟩ : ∃ g2, g2 = gs1.map (cutB (eqN n)) := ⟨_, rfl⟩
    have hok2 : BOk last gs2 := hgs2 ▸ hok1.cut _
    have eAl : bAl gs2 = bAl gs1 := by rw [hgs2, bAl_cut]
    rw [← hgs2] at hB2
    have hg2m2 : g2 ∈ gs2 := by rw [hgs2, hg2]; exact List.mem_map.2 ⟨g, hgm, rfl⟩
    have hg2i : g2.id = g.id := by rw [hg2]; rfl
    have hg2t : g2.tries = g.tries := by rw [hg2]; rfl
    obtain ⟨X2, hX2⟩ : ∃ X2, X2 = updX X g.id ⟨a2, n2, c2'⟩ := ⟨_, rfl⟩
    have hX2g : X2 g2.id = ⟨a2, n2, c2'⟩ := by rw [hX2, hg2i]; unfold updX; rw [if_pos rfl]
    refine S_storeO tabOk 5 (Ψ := fun w => (gbV gs2 Bk X2).at_ w Fg (.bool true)) [(X g.id).v, .int .i64 g.tries] [.slice a2 n2 c2', .int .i64 g.tries] 104 rfl rfl (fun u hu => by rw [List.mem_singleton] at hu; subst hu; rfl) rfl hFgg (fun w h => (h g hgm).1) rfl (fun w w' h h1 h2 y hy => ?_) Vp.loc rfl ?_
    · rw [hgs2] at hy
      obtain ⟨z, hz, rfl⟩ := List.mem_map.1 hy
      show w'.heap[Bk z.id]? = some (grO (X2 z.id) z.tries) ∧ Fg (Bk z.id)
      rw [hX2]
      unfold updX
      by_cases e : z.id = g.id
      · obtain rfl := nodup_eq BG.id hok1.idn hz hgm e
        rw [if_pos rfl]
        exact ⟨h2, hFgg⟩
      · rw [if_neg e]
        exact ⟨(h1 _ fun e2 => e (hr.inj z hz g hgm e2)).trans (h z hz).1, (h z hz).2⟩
    refine S_heap (ol' := boL bb f m gs2 last ⟨gb, mb, ab, c1, c2, M1, mDel M2 n, Bk, X2, Fa, Fg, fun k => F2 k ∨ Fs k⟩ true false ++ [.row w.heap.size (.slice A' (((ns.take i).filter s).length + 1) C') 24 1 (((ns.take i).filter s).length + 1) (u64s ((ns.take i).filter s) ++ [.int .u64 n]), uRow w.heap.size (.slice (some ⟨gN, 0, none⟩) ns.length cn) ns, .blk b3 (.cells ⟨[.slice a0 n0 c0]⟩ 35 (0, 0)) true, .rep (fun w => (setP (fun n => s n = true) Bd).at_ w Fq (setV a0 n0 c0)) Fq false]) (fun w' hw => ?_) ?_
    · have h9 := (hw.pm [0, 6, 1, 2, 3, 4, 5] rfl rfl rfl).merge (Ψ := fun w => (seV gs2 X2).at_ w (fun k => F2 k ∨ Fs k) (.bool true)) (fun k1 k2 y hy => ?_) (Vp.loc (p := seV gs2 X2))
      · rw [← eAl] at h9
        exact h9.pm [1, 2, 3, 4, 5, 0] rfl rfl rfl
      · rw [hgs2] at hy
        obtain ⟨z, hz, rfl⟩ := List.mem_map.1 hy
        show (setP (· ∈ (cutB (eqN n) z).L) (cutB (eqN n) z).L.length).at_ _ _ (X2 z.id).s
        rw [hX2]
        unfold updX
        by_cases e : z.id = g.id
        · obtain rfl := nodup_eq BG.id hok1.idn hz hgm e
          rw [if_pos rfl, ← hg2]
          exact (setP _ _).mono k1 fun k hk => .inl hk
        · rw [if_neg e, cut_other hok1 hgm hgn hz e]
          exact (setP _ _).mono (k2 z hz) fun k hk => .inr hk
    repeat (first | refine T_seq ?_ | refine T_region ?_ | refine S_nil ?_ | refine S_pure tabOk rfl ?_)
    refine S_loadN tabOk (vs := [(X2 g2.id).v]) rfl rfl rfl (fun w' hw j u hu => by
      rw [Addr.add_lit, ← hg2i]
      refine cellH ((hw.own _ (getE_mem (i := 4) rfl)).1 g2 hg2m2).1 (j := j) ?_
      cases j with
      | zero => exact hu
      | succ j => simp at hu) ?_
    refine S_callq (v := .int .u64 (g2.L.length : Int)) rfl Try.call44 (fun w1 h1 => by
      have h5 : (seV gs2 X2).at_ w1 (fun k => F2 k ∨ Fs k) (.bool true) := (h1.own _ (getE_mem (i := 5) rfl)).1
      exact count_x (h5 g2 hg2m2) (by omega) hg2L (fun x => Iff.rfl) (by omega)) ?_
    repeat (first | refine S_nil ?_ | refine S_pure tabOk rfl ?_)
    have hfin : ∀ k, F2 k ∨ Fs k → F k ∨ w.heap.size ≤ k := fun k hk => hk.elim (fun h => (hF2 k h).elim (hFs k) .inr) (hFs k)
    refine T_cond_dec rfl (fun hz => ?_) (fun hz => ?_)
    · have hz0 : g2.L = [] := List.eq_nil_of_length_eq_zero (by omega)
      have hrm : rmB gs1 (eqN n) = gs2.filter fun x => decide (x.id ≠ g.id) := by rw [hgs2]; exact rm_gone hok1 hne1 hgm hgn (by rw [← hg2]; exact hz0)
      have hB3 := hB2.del hok2 (id := g.id) (fun y hy e => by rw [nodup_eq BG.id hok2.idn hy hg2m2 (e.trans hg2i.symm)]; exact hz0)
      repeat (first | refine T_seq ?_ | refine T_region ?_ | refine S_pure tabOk rfl ?_ | refine S_load tabOk 0 rfl rfl rfl ?_)
      refine S_deleteN tabOk 1 rfl rfl rfl rfl rfl rfl rfl rfl rfl ?_
      repeat (first | refine S_nil ?_ | refine S_pure tabOk rfl ?_ | refine T_region_any ?_ | refine S_load tabOk 0 rfl rfl rfl ?_)
      have hl2 := hok2.cnt
      refine S_callT 3 rfl Try.call58 rfl (fun w1 g1 => (al_clear (g1.own _ (getE_mem (i := 3) rfl)).1 (g1.own _ (getE_mem (i := 3) rfl)).2.2 g.id).mono fun e w' ⟨he, Fa', g2', g3, g4⟩ => ⟨_, _, Fa', he, g4, g2', g3, _, rfl, ?_⟩)
      have hsz := g1.size
      repeat (first | refine T_region ?_ | refine S_nil ?_ | refine pthen_normal ?_ | refine inb_normal ?_ | refine S_i64 tabOk rfl (by omega) ?_ | refine S_pure tabOk rfl ?_)
      refine ⟨⟨i + 1, A', C', c1, c2, mDel M1 g.id, mDel M2 n, X2, Fa', fun k => F2 k ∨ Fs k⟩, ⟨hin, by rw [hstep, hrm]; exact hB3, fun k hk => (g3 k hk).elim (hFa k) fun h => .inr (Nat.le_trans hsz h), hfin⟩, ?_, fun w' hw => ?_, by dsimp only; omega⟩
      · dsimp only
        rw [e5, List.length_append, List.length_singleton]
        repeat (first | exact Sub.nil | refine Sub.cons rfl ?_)
      · dsimp only
        rw [hstep, hrm, e5, List.length_append, List.length_singleton]
        rw [bAl_filt hok2] at hw
        have h8 := hw.mapI 4 rfl (Ψ := fun w => (gbV (gs2.filter fun x => decide (x.id ≠ g.id)) Bk X2).at_ w Fg (.bool true)) (fun h y hy => h y (List.mem_filter.1 hy).1) (Vp.loc (p := gbV _ _ _)) rfl
        have h9 := h8.mapI 5 rfl (Ψ := fun w => (seV (gs2.filter fun x => decide (x.id ≠ g.id)) X2).at_ w (fun k => F2 k ∨ Fs k) (.bool true)) (fun h y hy => h y (List.mem_filter.1 hy).1) (Vp.loc (p := seV _ _)) rfl
        rw [u64s, List.map_append]
        exact h9
    · have hz0 : g2.L ≠ [] := fun e => hz (by rw [e]; rfl)
      have hrm : rmB gs1 (eqN n) = gs2 := by rw [hgs2]; exact rm_keep hok1 hne1 hgm hgn (by rw [← hg2]; exact hz0)
      repeat (first | refine T_region ?_ | refine S_nil ?_ | refine pthen_normal ?_ | refine inb_normal ?_ | refine T_skip ?_ | refine S_i64 tabOk rfl (by omega) ?_ | refine S_pure tabOk rfl ?_)
      refine ⟨⟨i + 1, A', C', c1, c2, M1, mDel M2 n, X2, Fa, fun k => F2 k ∨ Fs k⟩, ⟨hin, by rw [hstep, hrm]; exact hB2, hFa, hfin⟩, ?_, fun w' hw => ?_, by dsimp only; omega⟩
      · dsimp only
        rw [e5, List.length_append, List.length_singleton]
        repeat (first | exact Sub.nil | refine Sub.cons rfl ?_)
      · dsimp only
        rw [hstep, hrm, e5, List.length_append, List.length_singleton, u64s, List.map_append]
        exact hw
end
end Go.Proofs.Ytanhmmfpecgbhaa
