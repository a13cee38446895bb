/-
  The document's board, read: Tries, Has, All; who is in some runs. Conditions: each theorem's own.
-/
import Derived.Test.YtidhpofcofknhaaRbA
namespace Go.Proofs.Ytidhpofcofknhaa
open Go Go.RowKit
set_option linter.unusedVariables false

abbrev RGr : Rep (Int × List Int × Int × Int) := Rpair (Rint .u64) (Rpair (Rslice (Rint .u64)) (Rpair (Rint .i64) (Rint .i64)))
abbrev tG (g : BG) : Int × List Int × Int × Int := (g.id, g.L, g.tm, g.tries)
abbrev rbC (f m : Int) (a : Option Addr) (n c : Nat) (last : Int) : Obj := .cells ⟨[.int .i64 f, .int .i64 m, .slice a n c, .int .u64 last]⟩ 36 (0, 0)
/-- the document's board, as it is read -/
def rbR (xb : Nat) (f m last : Int) (gs : List BG) (a : Option Addr) (c : Nat) : Vp :=
  ⟨fun w F _ => (w.heap[xb]? = some (rbC f m a gs.length c last) ∧ F xb) ∧ SlR RGr w F a gs.length c (gs.map tG),
   fun {w w' F G v} ⟨⟨h1, h2⟩, h3⟩ hk => ⟨⟨((hk xb h2 (heap_lt h1)).1).trans h1, (hk xb h2 (heap_lt h1)).2⟩, h3.keep hk⟩⟩
/-- a group's cells -/
theorem grp_at {w : World} {A : Nat → Prop} {a : Option Addr} {n c : Nat} {gs : List BG} (h : SlR RGr w A a n c (gs.map tG)) {i : Nat} {g : BG} (hg : gs[i]? = some g) : ∃ ab off xa xc, a = some ⟨ab, off, none⟩ ∧ SlR (Rint .u64) w A xa g.L.length xc g.L ∧ ∀ w', Below w.heap.size w w' → ∀ j u, [Value.int .u64 g.id, .slice xa g.L.length xc, .int .i64 g.tm, .int .i64 g.tries][j]? = some u → w'.cell? ⟨ab, off + i * 4 + j, none⟩ = some u := by
  have hi := (List.getElem?_eq_some_iff.1 hg).1
  obtain ⟨ab, off, cs, e, hlt, hat, _, hce, _⟩ := h.get_ (i := i) (by rw [List.length_map]; exact hi)
  rw [List.getElem_map] at hat
  rw [List.getElem?_eq_getElem hi] at hg
  rw [Option.some.inj hg] at hat
  obtain ⟨_, _, rfl, ⟨rfl, _⟩, _, _, rfl, ⟨xa, xn, xc, rfl, hz⟩, _, _, rfl, ⟨rfl, _⟩, rfl, _⟩ := hat
  obtain rfl := hz.len
  exact ⟨ab, off, xa, xc, e, hz, fun w' hb j u hu => (hb.cell (p := ⟨ab, off + i * 4 + j, none⟩) hlt).trans (hce j u hu)⟩
section
variable {xb : Nat} {f m last : Int} {gs : List BG} {a : Option Addr} {c : Nat} {w : World} {A : Nat → Prop} {v : Value}
theorem rbR.cell (h : (rbR xb f m last gs a c).at_ w A v) {w' : World} (hb : Below w.heap.size w w') {j : Nat} {u : Value} (hu : [Value.int .i64 f, .int .i64 m, .slice a gs.length c, .int .u64 last][j]? = some u) : w'.cell? ⟨xb, 0 + j, none⟩ = some u :=
  cellH ((hb.block xb (heap_lt h.1.1)).trans h.1.1) hu
theorem rbR.len (h : (rbR xb f m last gs a c).at_ w A v) : gs.length ≤ c ∧ c ≤ maxLen := ⟨h.2.cap, h.2.max⟩
set_option maxHeartbeats 2000000 in
theorem rtries13_ok (h : (rbR xb f m last gs a c).at_ w A v) (hok : BOk last gs) (n : Int) : Calls Try.prog 55 #[bptr xb, .int .u64 n] w fun e w' => e = .returned (.int .i64 (bTries gs n)) ∧ Below w.heap.size w w' := by
  have hcn := hok.cnt
  refine enter2 Try.func55 rfl rfl (Hp.refl w) ?_
  repeat (first | refine T_seq ?_ | refine T_region ?_ | refine S_nil ?_ | refine S_pure tabOk rfl ?_)
  refine S_load1 tabOk (v := .slice a gs.length c) rfl rfl (fun w' hw => rbR.cell h (hw.below (by repeat (first | exact new_nil))) (j := 2) rfl) ?_
  repeat (first | refine T_block ?_ | refine S_nil ?_ | refine S_pure tabOk rfl ?_)
  refine T_loop (ι := Nat) (fun i => [(1, .int .u64 n), (12, .slice a gs.length c), (13, .int .i64 (gs.length : Int)), (14, .int .i64 (i : Int))]) (fun _ => []) (fun i => i ≤ gs.length ∧ ∀ g ∈ gs.take i, n ∉ g.L) (fun i => gs.length - i) 0 ⟨Nat.zero_le _, by simp⟩ (by repeat (first | exact Sub.nil | refine Sub.cons rfl ?_)) (fun _ hw => hw) ?_
  rintro i ⟨hi, hno⟩
  repeat (first | refine T_seq ?_ | refine T_region ?_ | refine S_nil ?_ | refine S_pure tabOk rfl ?_)
  refine T_cond_dec rfl (fun hlt => ?_) (fun hge => ?_)
  rotate_left
  · repeat (first | refine T_seq ?_ | refine T_region ?_ | refine S_nil ?_ | refine pthen_normal ?_ | refine inb_hit ?_ | refine pthen_exit ?_ | refine T_ret ?_ | refine T_exit ?_ | refine S_pure tabOk rfl ?_)
    have hb : bTries gs n = 0 := by
      unfold bTries
      rw [bGet_none.2 fun hn => by
        obtain ⟨g, hg, hx⟩ := List.mem_flatMap.1 hn
        exact hno g (by rw [List.take_of_length_le (by omega)]; exact hg) hx]
    exact ret1 rfl rfl (fun w' hw => ⟨by rw [hb], hw.below (by repeat (first | exact new_nil))⟩)
  obtain ⟨g, hg⟩ : ∃ g, gs[i]? = some g := ⟨_, List.getElem?_eq_getElem (by omega)⟩
  have hgm := List.mem_of_getElem? hg
  obtain ⟨ab, off, xa, xc, rfl, hz, hce⟩ := grp_at h.2 hg
  have hgl : g.L.length ≤ 60000 := by
    have h1 := hok.len
    have h2 : g.L.length ≤ (bNums gs).length := (nums_sub (List.singleton_sublist.2 hgm)).length_le |> fun h => by simpa [bNums] using h
    omega
  repeat (first | refine T_seq ?_ | refine T_region ?_ | refine T_block ?_ | refine pthen_normal ?_ | refine T_skip ?_)
  refine S_q (Q_idx (sz := 4) tabOk rfl rfl rfl rfl rfl rfl rfl (j := i) rfl (by omega)) ?_
  refine S_loadN tabOk (vs := [.int .u64 g.id, .slice xa g.L.length xc, .int .i64 g.tm, .int .i64 g.tries]) rfl rfl rfl (fun w' hw jj u hu => by
    rw [Addr.add_lit]
    exact hce w' (hw.below (by repeat (first | exact new_nil))) jj u hu) ?_
  refine S_new tabOk rfl (fun b6 hb6 => ?_)
  repeat (first | refine T_seq ?_ | refine T_region ?_ | refine S_nil ?_ | refine S_pure tabOk rfl ?_ | refine S_load tabOk 0 rfl rfl rfl ?_ | refine S_store tabOk 0 rfl rfl rfl rfl rfl rfl ?_)
  refine T_asThen ?_
  refine T_cut (ι := Unit) (fun _ => n ∉ g.L) (fun _ => [(1, .int .u64 n), (12, .slice (some ⟨ab, off, none⟩) gs.length c), (13, .int .i64 (gs.length : Int)), (14, .int .i64 (i : Int))]) (fun _ => []) ?_ ?_
  · refine T_block ?_
    refine T_loop (ι := Nat) (fun j => [(1, .int .u64 n), (12, .slice (some ⟨ab, off, none⟩) gs.length c), (13, .int .i64 (gs.length : Int)), (14, .int .i64 (i : Int)), (6, .pointer (some ⟨b6, 0, none⟩)), (19, .slice xa g.L.length xc), (20, .int .i64 (g.L.length : Int)), (21, .int .i64 (j : Int))]) (fun _ => [.blk b6 (.cells ⟨[.int .u64 g.id, .slice xa g.L.length xc, .int .i64 g.tm, .int .i64 g.tries]⟩ 99 (0, 0)) true]) (fun j => j ≤ g.L.length ∧ n ∉ g.L.take j) (fun j => g.L.length - j) 0 ⟨Nat.zero_le _, by simp⟩ (by repeat (first | exact Sub.nil | refine Sub.cons rfl ?_)) (fun _ hw => hw) ?_
    rintro j ⟨hj, hnj⟩
    repeat (first | refine T_seq ?_ | refine T_region ?_ | refine S_nil ?_ | refine S_pure tabOk rfl ?_)
    refine T_cond_dec rfl (fun hlt2 => ?_) (fun hge2 => ?_)
    rotate_left
    · repeat (first | refine pthen_normal ?_ | refine inb_hit ?_ | refine pthen_exit ?_ | refine T_exit ?_)
      exact ⟨(), by rw [List.take_of_length_le (by omega)] at hnj; exact hnj, by repeat (first | exact Sub.nil | refine Sub.cons rfl ?_), fun w' hw => hw.less (by repeat (first | exact Less.nil | refine Less.dropB (by first | assumption | omega) ?_))⟩
    have hjl : j < g.L.length := by omega
    obtain ⟨lb, lo, rfl, hlc⟩ := u64_at hz hjl
    repeat (first | refine T_seq ?_ | refine T_region ?_ | refine T_block ?_ | refine pthen_normal ?_ | refine T_skip ?_)
    refine S_q (Q_idx (sz := 1) tabOk rfl rfl rfl rfl rfl rfl rfl (j := j) rfl hjl) ?_
    refine S_load1 tabOk (v := .int .u64 g.L[j]) rfl rfl (fun w' hw => by rw [Nat.mul_one]; exact hlc w' (hw.below (by repeat (first | exact new_nil | refine new_cons (by first | assumption | omega) ?_)))) ?_
    repeat (first | refine T_seq ?_ | refine T_region ?_ | refine S_nil ?_ | refine S_pure tabOk rfl ?_)
    refine T_cond_dec rfl (fun he => ?_) (fun he => ?_)
    · repeat (first | refine T_seq ?_ | refine T_region ?_ | refine S_nil ?_ | refine inb_ret ?_ | refine pthen_ret ?_ | refine T_ret ?_ | refine S_pure tabOk rfl ?_ | refine S_load tabOk 0 rfl rfl rfl ?_)
      refine ret1 rfl rfl (fun w' hw => ⟨?_, hw.below (by repeat (first | exact new_nil | refine new_cons (by first | assumption | omega) ?_))⟩)
      unfold bTries
      rw [bGet_mem hok hgm (by rw [← he]; exact List.getElem_mem hjl)]
    · repeat (first | refine T_region ?_ | refine S_nil ?_ | refine pthen_normal ?_ | refine inb_normal ?_ | refine T_skip ?_ | refine S_i64 tabOk rfl (by omega) ?_ | refine S_pure tabOk rfl ?_)
      exact ⟨j + 1, ⟨by omega, fun h9 => by
        rw [List.take_succ_eq_append_getElem hjl, List.mem_append, List.mem_singleton] at h9
        rcases h9 with h9 | h9
        · exact hnj h9
        · exact he h9.symm⟩, by repeat (first | exact Sub.nil | refine Sub.cons rfl ?_), fun w' hw => hw, by omega⟩
  intro _ hng
  repeat (first | refine T_region ?_ | refine S_nil ?_ | refine pthen_normal ?_ | refine inb_normal ?_ | refine S_i64 tabOk rfl (by omega) ?_ | refine S_pure tabOk rfl ?_)
  exact ⟨i + 1, ⟨by omega, fun g' hg' => by
    rw [List.take_add_one, List.mem_append, hg] at hg'
    rcases hg' with hg' | hg'
    · exact hno g' hg'
    · rw [Option.toList_some, List.mem_singleton] at hg'
      subst hg'
      exact hng⟩, by repeat (first | exact Sub.nil | refine Sub.cons rfl ?_), fun w' hw => hw, by omega⟩
theorem rhas13_ok (h : (rbR xb f m last gs a c).at_ w A v) (hok : BOk last gs) (n : Int) : Calls Try.prog 37 #[bptr xb, .int .u64 n] w fun e w' => e = .returned (.bool (decide (n ∈ bNums gs))) ∧ Below w.heap.size w w' := by
  have hd : decide (0 < bTries gs n) = decide (n ∈ bNums gs) := decide_eq_decide.2 (by
    unfold bTries
    cases hb : bGet gs n with
    | none => exact ⟨fun h => absurd h (by decide), fun h => (bGet_none.1 hb h).elim⟩
    | some g =>
      obtain ⟨h1, h2⟩ := bGet_some hb
      have := hok.tr g h1
      exact ⟨fun _ => List.mem_flatMap.2 ⟨g, h1, h2⟩, fun _ => by show 0 < g.tries; omega⟩)
  refine enter2 Try.func37 rfl rfl (Hp.refl w) ?_
  repeat (first | refine T_seq ?_ | refine T_region ?_ | refine S_nil ?_ | refine S_pure tabOk rfl ?_)
  refine S_callq (v := .int .i64 (bTries gs n)) rfl Try.call55 (fun w1 h1 => rtries13_ok ((rbR xb f m last gs a c).ext h (h1.below (by repeat (first | exact new_nil)))) hok n) ?_
  repeat (first | refine S_nil ?_ | refine T_ret ?_ | refine S_pure tabOk rfl ?_)
  exact ret1 rfl rfl (fun w' hw => ⟨by rw [hd], hw.below (by repeat (first | exact new_nil))⟩)
set_option maxHeartbeats 2000000 in
theorem rall13_ok (h : (rbR xb f m last gs a c).at_ w A v) (hok : BOk last gs) : Calls Try.prog 51 #[bptr xb] w fun e w' => ∃ a' c', e = .returned (.slice a' (sortU (bNums gs)).length c') ∧ Below w.heap.size w w' ∧ w'.ownsRow w.heap.size 34 1 (.slice a' (sortU (bNums gs)).length c') (sortU (bNums gs)).length (u64s (sortU (bNums gs))) := by
  have hcn := hok.cnt
  have hbl := hok.len
  refine enter1 Try.func51 rfl rfl (Hp.refl w) ?_
  repeat (first | refine T_seq ?_ | refine T_region ?_ | refine S_nil ?_ | refine S_pure tabOk rfl ?_)
  refine S_load1 tabOk (v := .slice a gs.length c) rfl rfl (fun w' hw => rbR.cell h (hw.below (by repeat (first | exact new_nil))) (j := 2) rfl) ?_
  repeat (first | refine T_block ?_ | refine S_nil ?_ | refine S_pure tabOk rfl ?_)
  refine T_loop (ι := RSo) (fun i => [(9, .slice a gs.length c), (10, .int .i64 (gs.length : Int)), (11, .int .i64 (i.j : Int)), (3, .slice i.a (bNums (gs.take i.j)).length i.c)]) (fun i => [.row w.heap.size (.slice i.a (bNums (gs.take i.j)).length i.c) 34 1 (bNums (gs.take i.j)).length (u64s (bNums (gs.take i.j)))]) (fun i => i.j ≤ gs.length) (fun i => gs.length - i.j) ⟨0, none, 0⟩ (Nat.zero_le _) (by repeat (first | exact Sub.nil | refine Sub.cons rfl ?_)) (fun w' hw => hw.nilRow _ _) ?_
  rintro ⟨i, a1, c1⟩ hi
  dsimp only at hi ⊢
  repeat (first | refine T_seq ?_ | refine T_region ?_ | refine S_nil ?_ | refine S_pure tabOk rfl ?_)
  refine T_cond_dec rfl (fun hlt => ?_) (fun hge => ?_)
  rotate_left
  · rw [List.take_of_length_le (show gs.length ≤ i by omega)]
    repeat (first | refine T_seq ?_ | refine T_region ?_ | refine pthen_normal ?_ | refine inb_hit ?_ | refine pthen_exit ?_ | refine T_exit ?_ | refine S_pure tabOk rfl ?_)
    refine S_callrow rfl Try.call36 (fun w1 h1 => rsorted13_ok w1 (row_slr (h1.own _ (getE_mem (i := 0) rfl)) rfl (fun x hx => hok.nfit hx)) (by omega)) (fun a2 c2 hc2 hd2 => ?_)
    repeat (first | refine S_nil ?_ | refine T_ret ?_ | refine S_pure tabOk rfl ?_)
    exact ret1 rfl rfl (fun w' hw => ⟨_, _, rfl, hw.below (by repeat (first | exact new_nil | refine newrow hw 0 rfl (Nat.le_refl _) ?_ | refine newrow hw 1 rfl (Nat.le_refl _) ?_)), hw.own _ (getE_mem (i := 0) rfl)⟩)
  obtain ⟨g, hg⟩ : ∃ g, gs[i]? = some g := ⟨_, List.getElem?_eq_getElem (by omega)⟩
  have hgm := List.mem_of_getElem? hg
  obtain ⟨ab, off, xa, xc, rfl, hz, hce⟩ := grp_at h.2 hg
  have hsn : bNums (gs.take (i + 1)) = bNums (gs.take i) ++ g.L := by
    rw [List.take_add_one, hg, bNums, List.flatMap_append]
    simp
  have hbi : (bNums (gs.take (i + 1))).length ≤ 60000 := Nat.le_trans (nums_sub (List.take_sublist _ _)).length_le hbl
  rw [hsn, List.length_append] at hbi
  repeat (first | refine T_seq ?_ | refine T_region ?_ | refine T_block ?_ | refine pthen_normal ?_ | refine T_skip ?_)
  refine S_q (Q_idx (sz := 4) tabOk rfl rfl rfl rfl rfl rfl rfl (j := i) rfl (by omega)) ?_
  refine S_loadN tabOk (vs := [.int .u64 g.id, .slice xa g.L.length xc, .int .i64 g.tm, .int .i64 g.tries]) rfl rfl rfl (fun w' hw jj u hu => by
    rw [Addr.add_lit]
    exact hce w' (hw.below (by repeat (first | exact new_nil | refine newrow hw 0 rfl (Nat.le_refl _) ?_))) jj u hu) ?_
  refine S_new tabOk rfl (fun b5 hb5 => ?_)
  repeat (first | refine S_nil ?_ | refine S_pure tabOk rfl ?_ | refine T_region_any ?_ | refine S_load tabOk 0 rfl rfl rfl ?_ | refine S_store tabOk 0 rfl rfl rfl rfl rfl rfl ?_)
  refine S_append (ty := 0) tabOk 1 (news := u64s g.L) rfl rfl rfl rfl rfl rfl rfl rfl rfl (by decide) (fun w' hw => (hz.ext (hw.below (by repeat (first | exact new_nil | refine new_cons (by first | assumption | omega) ?_ | refine newrow hw 1 rfl (Nat.le_refl _) ?_)))).ints.sl) (fun u hu => u64s_one hu) (by simp only [maxLen]; omega) (by show (_ + _) * 8 ≤ _; omega) rfl (fun A1 C1 hc2 hd2 => ⟨_, rfl, ?_⟩)
  rw [show u64s (bNums (gs.take i)) ++ u64s g.L = u64s (bNums (gs.take i) ++ g.L) from List.map_append.symm, ← List.length_append, ← hsn]
  repeat (first | refine T_region ?_ | refine S_nil ?_ | refine pthen_normal ?_ | refine inb_normal ?_ | refine S_i64 tabOk rfl (by omega) ?_ | refine S_pure tabOk rfl ?_)
  exact ⟨⟨i + 1, A1, C1⟩, by show i + 1 ≤ gs.length; omega, by repeat (first | exact Sub.nil | refine Sub.cons rfl ?_), fun w' hw => hw.less (by repeat (first | exact Less.nil | refine Less.keep ?_ | refine Less.dropB (by first | assumption | omega) ?_)), by show gs.length - (i + 1) < gs.length - i; omega⟩
end
theorem rhas3_ok (a : Option Addr) (n c : Nat) (l : List Run) (x : Int) (A : Nat → Prop) (w : World) (hx : SlR Rrun w A a n c l) (hn : n ≤ 1000000) {s : Int → Bool} (hs : ∀ x, s x = true ↔ Mem l x) :
    Calls Try.prog 46 #[.slice a n c, .int .u64 x] w fun e w' => e = .returned (.bool (s x)) ∧ Below w.heap.size w w' := by
  have hl := hx.len
  refine enter2 Try.func46 rfl rfl (Hp.refl w) ?_
  repeat (first | refine T_seq ?_ | refine T_region ?_ | refine T_block ?_ | refine S_nil ?_ | refine S_pure tabOk rfl ?_)
  refine T_loop (ι := Nat) (fun i => [(0, .slice a n c), (1, .int .u64 x), (7, .slice a n c), (8, .int .i64 (n : Int)), (9, .int .i64 (i : Int))])
    (fun i => []) (fun i => i ≤ n ∧ ¬ Mem (l.take i) x) (fun i => n - i) 0 ⟨Nat.zero_le _, by rw [List.take_zero]; exact mem_nil x⟩ (by repeat (first | exact Sub.nil | refine Sub.cons rfl ?_)) (fun w' hw => hw) ?_
  rintro k ⟨hk, hT⟩
  repeat (first | refine T_seq ?_ | refine T_region ?_ | refine S_nil ?_ | refine S_pure tabOk rfl ?_)
  refine T_cond_dec rfl (fun h => ?_) (fun h => ?_)
  · have hk' : k < l.length := by omega
    obtain ⟨ab, off, cs, rfl, hlt, _⟩ := hx.get_ hk'
    repeat (first | refine T_seq ?_ | refine T_region ?_ | refine T_block ?_ | refine pthen_normal ?_ | refine T_skip ?_)
    refine S_q (Q_idx (sz := 2) tabOk rfl rfl rfl rfl rfl rfl rfl rfl (j := k) (by omega)) ?_
    refine S_loadN tabOk (vs := encR l[k]) rfl rfl rfl (fun w' hw => run_cells (hx.ext (hw.below (by repeat (first | exact new_nil)))) hk') ?_
    refine S_new tabOk rfl (fun b5 hb5 => ?_)
    refine S_store tabOk 0 rfl rfl rfl rfl rfl rfl ?_
    refine S_nil ?_
    repeat (refine T_seq ?_)
    refine T_cut (ι := Bool) (fun q => q = true ↔ (l[k].1 ≤ x ∧ x ≤ l[k].2)) (fun q => [(0, .slice (some ⟨ab, off, none⟩) n c), (1, .int .u64 x), (7, .slice (some ⟨ab, off, none⟩) n c), (8, .int .i64 (n : Int)), (9, .int .i64 (k : Int)), (22, .bool q)]) (fun q => []) ?_ ?_
    · repeat (first | refine T_region ?_ | refine S_pure tabOk rfl ?_ | refine S_load tabOk 0 rfl rfl rfl ?_)
      refine S_split rfl rfl (fun h2 => ?_) (fun h2 => ?_)
      · repeat (first | refine S_nil ?_ | refine S_pure tabOk rfl ?_ | refine S_load tabOk 0 rfl rfl rfl ?_)
        exact ⟨_, ⟨fun h => ⟨h2, of_decide_eq_true h⟩, fun h => decide_eq_true h.2⟩, by repeat (first | exact Sub.nil | refine Sub.cons rfl ?_), fun _ h => h.dropn hb5⟩
      · repeat (first | refine S_nil ?_ | refine S_pure tabOk rfl ?_ | refine S_pass rfl rfl rfl ?_)
        exact ⟨false, ⟨fun h => (by cases h), fun h => absurd h.1 h2⟩, by repeat (first | exact Sub.nil | refine Sub.cons rfl ?_), fun _ h => h.dropn hb5⟩
    · intro q hq
      refine T_cond rfl (fun h2 => ?_) (fun h2 => ?_)
      · repeat (first | refine T_seq ?_ | refine T_region ?_ | refine S_nil ?_ | refine inb_ret ?_ | refine pthen_ret ?_ | refine T_ret ?_ | refine S_pure tabOk rfl ?_)
        exact ret1 rfl rfl (fun w' hw => ⟨by rw [(hs x).2 ⟨_, List.getElem_mem hk', hq.1 h2⟩], hw.below (by repeat (first | exact new_nil))⟩)
      · repeat (first | refine T_region ?_ | refine S_nil ?_ | refine pthen_normal ?_ | refine inb_normal ?_ | refine T_skip ?_ | refine S_i64 tabOk rfl (by omega) ?_ | refine S_pure tabOk rfl ?_)
        exact ⟨k + 1, ⟨by omega, fun h => by
          rw [mem_take_succ hk'] at h
          rcases h with h | h
          · exact hT h
          · rw [hq.2 h] at h2
            cases h2⟩, by repeat (first | exact Sub.nil | refine Sub.cons rfl ?_), fun w' hw => hw, by omega⟩
  · have e : k = n := by omega
    subst e
    rw [List.take_of_length_le (by omega)] at hT
    repeat (first | refine T_seq ?_ | refine T_region ?_ | refine S_nil ?_ | refine pthen_normal ?_ | refine inb_hit ?_ | refine pthen_exit ?_ | refine T_ret ?_ | refine T_exit ?_ | refine S_pure tabOk rfl ?_)
    exact ret1 rfl rfl (fun w' hw => ⟨by rw [show s x = false from Bool.eq_false_iff.2 fun h => hT ((hs x).1 h)], hw.below (by repeat (first | exact new_nil))⟩)
end Go.Proofs.Ytidhpofcofknhaa
