/-
  A board's Due. Conditions: each theorem's own.
-/
import Derived.Test.YtanhmmfpecgbhaaBoI
namespace Go.Proofs.Ytanhmmfpecgbhaa
open Go Go.RowKit
set_option linter.unusedVariables false

/-- What is known is put into an object, beside what is apart from it. -/
theorem Hp.pack2 {w0 w : World} {A ol : OL} {F0 : Nat → Prop} (h : Hp w0 w (A ++ ol)) (hF0 : ∀ k, F0 k → k < w0.heap.size) (hol : ∀ e ∈ ol, ∀ k, e.has k → w0.heap.size ≤ k) (hd : ∀ e' ∈ A, ∀ e ∈ ol, (e'.ex || e.ex) = true ∨ ∀ k, e'.has k → ¬ e.has k) (hA : ∀ e ∈ A, ∀ k, e.has k → F0 k ∨ w0.heap.size ≤ k)
    (p : Vp) (hp : ∀ F' : Nat → Prop, (∀ e ∈ A, ∀ k, e.has k → F' k) → p.at_ w F' (.bool true)) : ∃ F' : Nat → Prop, (∀ k, F0 k → F' k) ∧ (∀ k, F' k → F0 k ∨ w0.heap.size ≤ k) ∧ Hp w0 w (.rep (fun w => p.at_ w F' (.bool true)) F' true :: ol) := by
  refine ⟨fun k => F0 k ∨ ∃ e ∈ A, e.has k, fun k hk => .inl hk, fun k hk => ?_, h.os, h.tape, h.output, h.size, fun k hk he => h.old k hk fun e hm hx hh => ?_, fun e hm => ?_, ?_⟩
  · rcases hk with hk | ⟨e, he, hk⟩
    · exact .inl hk
    · exact hA e he k hk
  · rcases List.mem_append.1 hm with hm | hm
    · exact he _ List.mem_cons_self rfl (.inr ⟨e, hm, hh⟩)
    · exact he e (List.mem_cons_of_mem _ hm) hx hh
  · rcases List.mem_cons.1 hm with rfl | hm
    · refine ⟨hp _ fun e he k hk => .inr ⟨e, he, hk⟩, Vp.loc, fun k hk => ?_⟩
      rcases hk with hk | ⟨e, he, hk⟩
      · exact Nat.lt_of_lt_of_le (hF0 k hk) h.size
      · exact h.lt (List.mem_append.2 (.inl he)) hk
    · exact h.own e (List.mem_append.2 (.inr hm))
  · refine List.pairwise_cons.2 ⟨fun e he _ k hk hk2 => ?_, (List.pairwise_append.1 h.apart).2.1⟩
    rcases hk with hk | ⟨e', he', hk⟩
    · have h1 := hF0 k hk
      have h2 := hol e he k hk2
      omega
    · rcases hd e' he' e he with hx | hx
      · exact (List.pairwise_append.1 h.apart).2.2 e' he' e he hx k hk hk2
      · exact hx k hk hk2
/-- An object that a callee turns, and something to be read. -/
theorem Hp.graftTV {w0 w w' : World} {ol ol' : OL} (i : Nat) {Φ Ψ Θ : World → Prop} {F F' Fv : Nat → Prop} (hh : Hp w0 w ol) (hi : getE ol i = some (.rep Φ F true)) (h2 : Hp w w' [.rep Θ Fv false, .rep Ψ F' true]) (hv : ∀ k, Fv k → w.heap.size ≤ k) (hF : ∀ k, F k → F' k) (hF' : ∀ k, F' k → F k ∨ w.heap.size ≤ k)
    (hput : putE ol i (.rep Ψ F' true) = some ol') : Hp w0 w' (.rep Θ Fv false :: ol') := by
  have h3 := hh.graftT i hi h2.dropr hF hF' hput
  refine h3.more (h2.own _ List.mem_cons_self) fun e he hr k hk hk' => ?_
  have h4 := hv k hk
  have hex : e.ex = true := by simpa [HE.ex] using hr
  obtain ⟨pre, post, e1, e2⟩ := putE_eq hi hput
  rw [e2] at he
  rcases List.mem_append.1 he with he | he
  · have := hh.lt (e := e) (by rw [e1]; exact List.mem_append.2 (.inl he)) hk'
    omega
  · rcases List.mem_cons.1 he with rfl | he
    · exact (List.pairwise_cons.1 h2.apart).1 _ List.mem_cons_self rfl k hk hk'
    · have := hh.lt (e := e) (by rw [e1]; exact List.mem_append.2 (.inr (List.mem_cons_of_mem _ he))) hk'
      omega
abbrev RLL : Rep (List (List Int)) := Rslice (Rslice (Rint .u64))
/-- a board, closed beside what is apart from it -/
theorem bo_close2 {bb : Nat} {f m last : Int} {gs : List BG} {w w0 : World} {ol : OL} {F0 : Nat → Prop} {h : BH} (hh : Hp w0 w (boL bb f m gs last h true false ++ ol)) (hp : PR f m) (hok : BOk last gs) (hne : BNe gs) (hr : BRel gs h.M1 h.M2 h.c1 h.c2 h.B) (hF0 : ∀ k, F0 k → k < w0.heap.size) (hol : ∀ e ∈ ol, ∀ k, e.has k → w0.heap.size ≤ k) (hd : ∀ e ∈ ol, ∀ k, h.Fs k → ¬ e.has k)
    (hA : ∀ e ∈ boL bb f m gs last h true true, ∀ k, e.has k → F0 k ∨ w0.heap.size ≤ k) : ∃ F' : Nat → Prop, (∀ k, F0 k → F' k) ∧ (∀ k, F' k → F0 k ∨ w0.heap.size ≤ k) ∧ Hp w0 w (.rep (fun w => (boA bb f m gs last).at_ w F' (.bool true)) F' true :: ol) := by
  refine hh.pack2 hF0 hol (fun e' he' e he => ?_) (fun e he k hk => ?_) (boA bb f m gs last) fun F' hF' => (boA bb f m gs last).mono (bo_of hh hp hok hne hr) fun k hk => ?_
  · simp only [boL, List.mem_cons, List.not_mem_nil, or_false] at he'
    rcases he' with rfl | rfl | rfl | rfl | rfl | rfl
    · exact .inl rfl
    · exact .inl rfl
    · exact .inl rfl
    · exact .inl rfl
    · exact .inl rfl
    · exact .inr (hd e he)
  · simp only [boL, List.mem_cons, List.not_mem_nil, or_false] at he
    rcases he with rfl | rfl | rfl | rfl | rfl | rfl
    · exact hA _ (getE_mem (i := 0) rfl) k hk
    · exact hA _ (getE_mem (i := 1) rfl) k hk
    · exact hA _ (getE_mem (i := 2) rfl) k hk
    · exact hA _ (getE_mem (i := 3) rfl) k hk
    · exact hA _ (getE_mem (i := 4) rfl) k hk
    · exact hA _ (getE_mem (i := 5) rfl) k hk
  · obtain ⟨e, he, hk⟩ := hk
    exact bo_cov (G := F') (hF' _ (getE_mem (i := 0) rfl) bb rfl) (hF' _ (getE_mem (i := 1) rfl) h.gb rfl) (hF' _ (getE_mem (i := 2) rfl) h.mb rfl) (hF' _ (getE_mem (i := 3) rfl)) (hF' _ (getE_mem (i := 4) rfl)) (hF' _ (getE_mem (i := 5) rfl)) e he k hk
/-- the loop's index -/
structure DuJ where
  i : Nat
  A : Option Addr
  C : Nat
  css : List (List Value)
  al : List DE
  Fa : Nat → Prop
  Fo : Nat → Prop
section
variable {bb : Nat} {f m last : Int} {gs : List BG} {w w0 : World} {F : Nat → Prop} {ol : OL}
set_option maxHeartbeats 8000000 in
theorem bo_due (h : (boA bb f m gs last).at_ w F (.bool true)) (hF : ∀ k, F k → k < w.heap.size) {now : Int} (hnow : 0 ≤ now ∧ now ≤ 1152921504606846976) (htr : ∀ g ∈ gs, g.tries < 1099511627776) :
    Calls Try.prog 19 #[bptr bb, .int .i64 now] w fun e w' => ∃ v Fv, e = .returned v ∧ (∀ k, Fv k → w.heap.size ≤ k) ∧ ∃ F' : Nat → Prop, (∀ k, F k → F' k) ∧ (∀ k, F' k → F k ∨ w.heap.size ≤ k) ∧
      Hp w w' [.rep (fun w => (RLL.vp (dueL gs now)).at_ w Fv v) Fv false, .rep (fun w => (boA bb f m (dueG f m now gs) last).at_ w F' (.bool true)) F' true] := by
  obtain ⟨x, hp, hok, hr, hst, hcov, hne⟩ := bo_open h true false
  obtain ⟨gb, mb, ab, c1, c2, M1, M2, Bk, X, Fa, Fg, Fs⟩ := x
  dsimp only at hr hst
  have hFb : F bb := hcov _ (getE_mem (i := 0) rfl) bb rfl
  have hFgb : F gb := hcov _ (getE_mem (i := 1) rfl) gb rfl
  have hFmb : F mb := hcov _ (getE_mem (i := 2) rfl) mb rfl
  have hFa : ∀ k, Fa k → F k := hcov _ (getE_mem (i := 3) rfl)
  have hFg : ∀ k, Fg k → F k := hcov _ (getE_mem (i := 4) rfl)
  have hFs : ∀ k, Fs k → F k := hcov _ (getE_mem (i := 5) rfl)
  clear hcov
  have hcnt := hok.cnt
  have hal := bAl_len gs
  refine enter2 Try.func19 rfl rfl hst ?_
  repeat (first | refine T_seq ?_ | refine T_region ?_ | refine S_nil ?_ | refine S_pure tabOk rfl ?_)
  refine S_q (Q_eqptr tabOk rfl rfl rfl rfl rfl) ?_
  repeat (first | refine S_nil ?_)
  refine T_cond_f rfl ?_
  repeat (first | refine T_seq ?_ | refine T_region ?_ | refine S_nil ?_ | refine pthen_normal ?_ | refine T_skip ?_ | refine S_pure tabOk rfl ?_ | refine S_load tabOk 0 rfl rfl rfl ?_)
  refine S_callTR 3 rfl Try.call60 rfl (fun w1 g1 => (al_due (g1.own _ (getE_mem (i := 3) rfl)).1 (g1.own _ (getE_mem (i := 3) rfl)).2.2 (by omega) now).mono fun e w' ⟨A1, C1, he, Fa1, g2, g3, g4⟩ => ⟨_, _, Fa1, _, _, _, _, _, he, g4, g2, g3, _, rfl, ?_⟩)
  have hsz := g1.size
  have hFa1 : ∀ k, Fa1 k → F k ∨ w.heap.size ≤ k := fun k hk => (g3 k hk).elim (fun h => .inl (hFa k h)) fun h => .inr (Nat.le_trans hsz h)
  obtain ⟨ids, hids⟩ : ∃ ids, ids = dueI gs now := ⟨_, rfl⟩
  have hids2 : dOut (bAl gs) now = ids := hids.symm
  have hil : ids.length ≤ gs.length := hids ▸ dueI_len
  have hind : ids.Nodup := hids ▸ dueI_nd hok
  rw [hids2]
  clear g4 he g2 g3
  repeat (first | refine T_block ?_ | refine S_nil ?_ | refine S_pure tabOk rfl ?_)
  have hnb : ∀ I, BOk last (gs.map (bumpG f m now I)) := fun I => hok.map_ (bump_id I) (fun g hg => by
    have h1 := hok.tr g hg
    have h2 := htr g hg
    unfold bumpG
    split
    · dsimp only; omega
    · exact h1) (fun g hg => by
    have h1 := hok.tm g hg
    have h2 := W_pos hp.1 hp.2.1 g.tries.toNat
    have h3 := hp.2.2
    unfold bumpG
    split
    · dsimp only; omega
    · exact h1)
  have e0 : gs.map (bumpG f m now (ids.take 0)) = gs := by
    rw [List.take_zero]
    have : ∀ g ∈ gs, bumpG f m now [] g = id g := fun g _ => by unfold bumpG; rw [if_neg (by simp)]; rfl
    rw [List.map_congr_left this, List.map_id]
  refine T_loop (ι := DuJ) (fun j => [(0, bptr bb), (1, .int .i64 now), (16, .slice A1 ids.length C1), (17, .int .i64 (ids.length : Int)), (18, .int .i64 (j.i : Int)), (5, .slice j.A j.i j.C)])
    (fun j => [.blk bb (boC f m gb mb ab last) true, .blk gb (mapO .u64 M1 c1) true, .blk mb (mapO .u64 M2 c2) true, .rep (fun w => (alA ab j.al).at_ w j.Fa (.bool true)) j.Fa true, .rep (fun w => (gbV (gs.map (bumpG f m now (ids.take j.i))) Bk X).at_ w Fg (.bool true)) Fg true, .rep (fun w => (seV gs X).at_ w Fs (.bool true)) Fs false,
      .row w.heap.size (.slice j.A j.i j.C) 22 1 j.i j.css.flatten, uRow w.heap.size (.slice A1 ids.length C1) ids, .rep (fun w => (Bod (Rslice (Rint .u64)) j.css ((ids.take j.i).map (lOf gs))).at_ w j.Fo (.bool true)) j.Fo false])
    (fun j => j.i ≤ ids.length ∧ j.al.Pairwise dBef ∧ (∀ x, x ∈ j.al ↔ ∃ g ∈ gs.map (bumpG f m now (ids.take j.i)), g.id ∉ ids.drop j.i ∧ bT g = x) ∧ j.al.length ≤ gs.length + j.i ∧ (∀ k, j.Fa k → F k ∨ w.heap.size ≤ k) ∧ (∀ k, j.Fo k → w.heap.size ≤ k) ∧ j.css.flatten.length = j.i)
    (fun j => ids.length - j.i) ⟨0, none, 0, [], dRest (bAl gs) now, Fa1, fun _ => False⟩ ⟨Nat.zero_le _, (bAl_srt hok.idn).sublist (List.dropWhile_sublist _), fun x => ?_, ?_, hFa1, fun k hk => hk.elim, rfl⟩ (by repeat (first | exact Sub.nil | refine Sub.cons rfl ?_)) (fun w' hw => ?_) ?_
  · dsimp only
    rw [e0, List.drop_zero]
    unfold dRest
    rw [(while_srt (bAl_srt hok.idn)).2, List.mem_filter, bAl_mem]
    constructor
    · rintro ⟨⟨g, hg, rfl⟩, h2⟩
      refine ⟨g, hg, fun h3 => ?_, rfl⟩
      have := (dueI_mem hok hg).1 (hids ▸ h3)
      simp [this] at h2
    · rintro ⟨g, hg, h2, rfl⟩
      refine ⟨⟨g, hg, rfl⟩, ?_⟩
      have : ¬ g.tm ≤ now := fun h3 => h2 (hids ▸ (dueI_mem hok hg).2 h3)
      simp [this]
  · exact Nat.le_trans (List.dropWhile_sublist _).length_le (by rw [hal]; exact Nat.le_refl _)
  · dsimp only
    rw [e0]
    have h9 := ((hw.none (p := Bod (Rslice (Rint .u64)) [] []) (v := .bool true) (fun w => Bod.nil_) false).nilRow 22 1).pm [3, 4, 5, 6, 7, 8, 0, 2, 1] rfl rfl rfl
    exact h9
  rintro ⟨i, A, C, css, al, Fa, Fo⟩ ⟨hi, hsrt, hmem, hall, hFa, hFo, hcss⟩
  dsimp only at hi hsrt hmem hall hFa hFo hcss ⊢
  repeat (first | refine T_seq ?_ | refine T_region ?_ | refine S_nil ?_ | refine S_pure tabOk rfl ?_)
  refine T_cond_dec rfl (fun hlt1 => ?_) (fun hge => ?_)
  rotate_left
  · have hie : i = ids.length := by omega
    subst hie
    rw [List.take_length] at hmem ⊢
    rw [List.drop_length] at hmem
    have eg : gs.map (bumpG f m now ids) = dueG f m now gs := by rw [hids]; exact dueG_eq hok
    have eal : al = bAl (dueG f m now gs) := bAl_ext (by rw [← eg]; exact (hnb ids).idn) hsrt fun x => by
      rw [hmem, eg]
      exact ⟨fun ⟨g, h1, _, h3⟩ => ⟨g, h1, h3⟩, fun ⟨g, h1, h3⟩ => ⟨g, h1, List.not_mem_nil, h3⟩⟩
    repeat (first | refine T_seq ?_ | refine T_region ?_ | refine S_nil ?_ | refine pthen_normal ?_ | refine inb_hit ?_ | refine pthen_exit ?_ | refine T_ret ?_ | refine T_exit ?_ | refine S_pure tabOk rfl ?_)
    refine ret1 rfl rfl (fun w' hw => ?_)
    rw [eal] at hw
    obtain ⟨Fr, hFr, h1⟩ := (hw.pm [6, 8, 0, 1, 2, 3, 4, 5, 7] rfl rfl rfl).share (p := rowV w.heap.size 22 1 ids.length css.flatten) (fun h => ⟨h, fun k hk => hk⟩)
    have h2 := h1.merge (Ψ := fun w => (RLL.vp (dueL gs now)).at_ w (fun k => Fr k ∨ Fo k) (.slice A ids.length C)) (fun q1 q2 => ?_) (Vp.loc (p := RLL.vp _))
    · have h3a : Hp w w' [.blk bb (boC f m gb mb ab last) true, .blk gb (mapO .u64 M1 c1) true, .blk mb (mapO .u64 M2 c2) true, .rep (fun w => (alA ab (bAl (dueG f m now gs))).at_ w Fa (.bool true)) Fa true, .rep (fun w => (gbV (gs.map (bumpG f m now ids)) Bk X).at_ w Fg (.bool true)) Fg true, .rep (fun w => (seV gs X).at_ w Fs (.bool true)) Fs false, .rep (fun w => (RLL.vp (dueL gs now)).at_ w (fun k => Fr k ∨ Fo k) (.slice A ids.length C)) (fun k => Fr k ∨ Fo k) false] := (h2.pm [1, 2, 3, 4, 5, 6, 0, 7] rfl rfl rfl).less (by repeat (first | exact Less.nil | refine Less.keep ?_ | refine Less.dropW (Nat.le_refl _) ?_))
      have h3 := h3a.mapI 4 rfl (Ψ := fun w => (gbV (dueG f m now gs) Bk X).at_ w Fg (.bool true)) (fun h => eg ▸ h) (Vp.loc (p := gbV _ _ _)) rfl
      have h4 := h3.mapI 5 rfl (Ψ := fun w => (seV (dueG f m now gs) X).at_ w Fs (.bool true)) (fun h => eg ▸ (seV_map (bump_id _)).2 h) (Vp.loc (p := seV _ _)) rfl
      obtain ⟨F', g1, g2, g3⟩ := bo_close2 (F0 := F) (h := ⟨gb, mb, ab, c1, c2, M1, M2, Bk, X, Fa, Fg, Fs⟩) (ol := [.rep (fun w => (RLL.vp (dueL gs now)).at_ w (fun k => Fr k ∨ Fo k) (.slice A ids.length C)) (fun k => Fr k ∨ Fo k) false]) h4 hp (eg ▸ hnb ids) (eg ▸ hne.map_ (bump_id _)) (eg ▸ hr.map_ (bump_id _)) hF (fun e he k hk => by
        rw [List.mem_singleton] at he
        subst he
        exact hk.elim (hFr k) (hFo k)) (fun e he k hk hk2 => by
        rw [List.mem_singleton] at he
        subst he
        have h5 := hF k (hFs k hk)
        have h6 : w.heap.size ≤ k := hk2.elim (hFr k) (hFo k)
        omega) (bo_cov (.inl hFb) (.inl hFgb) (.inl hFmb) hFa (fun k hk => .inl (hFg k hk)) (fun k hk => .inl (hFs k hk)))
      exact ⟨_, _, rfl, fun k hk => hk.elim (hFr k) (hFo k), F', g1, g2, g3.pm [1, 0] rfl rfl rfl⟩
    · have h5 : (Bod (Rslice (Rint .u64)) css (dueL gs now)).at_ w' (fun k => Fr k ∨ Fo k) (.bool true) := by
        rw [show dueL gs now = ids.map (lOf gs) from by rw [hids]; rfl]
        exact (Bod _ _ _).mono q2 fun k hk => .inr hk
      exact (Bod.slr h5 (R := Rslice (Rint .u64)) q1.1 (by rw [show dueL gs now = ids.map (lOf gs) from by rw [hids]; rfl, List.length_map]) fun k _ hk => .inl (q1.2 k hk)).val
  have hin : i < ids.length := by omega
  obtain ⟨id, hid⟩ : ∃ id, ids[i]? = some id := ⟨_, List.getElem?_eq_getElem hin⟩
  have htk : ids.take (i + 1) = ids.take i ++ [id] := by
    rw [List.take_succ_eq_append_getElem hin]
    rw [List.getElem?_eq_getElem hin] at hid
    rw [Option.some.inj hid]
  have hdr : ids.drop i = id :: ids.drop (i + 1) := by
    rw [List.drop_eq_getElem_cons hin]
    rw [List.getElem?_eq_getElem hin] at hid
    rw [Option.some.inj hid]
  obtain ⟨g, hgm, hgi⟩ := dueI_sub (hids ▸ List.mem_of_getElem? hid)
  have hnt : id ∉ ids.take i := fun hm => by
    have h1 : (ids.take (i + 1)).Nodup := hind.sublist (List.take_sublist _ _)
    rw [htk, List.nodup_append] at h1
    exact h1.2.2 id hm id (List.mem_singleton.2 rfl) rfl
  have hnd : id ∉ ids.drop (i + 1) := fun hm => by
    have h1 : (ids.drop i).Nodup := hind.sublist (List.drop_sublist _ _)
    rw [hdr, List.nodup_cons] at h1
    exact h1.1 hm
  have hm1 := hr.g1 id
  rw [← hgi, bId_mem hok hgm, hgi] at hm1
  obtain ⟨hb1, hb2, hb3⟩ := bump_step (f := f) (m := m) (now := now) hok hgm hgi hnt
  have hgm2 : g ∈ gs.map (bumpG f m now (ids.take i)) := List.mem_map.2 ⟨g, hgm, hb3⟩
  have hgtr := hok.tr g hgm
  have hgtr2 := htr g hgm
  have hW := W_pos hp.1 hp.2.1 g.tries.toNat
  have hp3 := hp.2.2
  have hgl := nums_le hgm
  have hl1 := hok.len
  have hlo : lOf gs id = g.L := by unfold lOf; rw [← hgi, bId_mem hok hgm]
  repeat (first | refine T_seq ?_ | refine T_region ?_ | refine T_block ?_ | refine pthen_normal ?_ | refine T_skip ?_)
  refine S_rowA 7 rfl (by omega) (fun gN hgN => ?_)
  subst hgN
  refine S_q (Q_idx1 tabOk rfl rfl rfl rfl rfl rfl rfl (j := i) rfl hin) ?_
  refine S_load1 tabOk (v := .int .u64 id) rfl rfl (fun w' hw => own_cell (hw.own _ (getE_mem (i := 7) rfl)) (by omega) (by rw [Nat.zero_add, List.getElem?_map, hid]; rfl)) ?_
  repeat (first | refine T_seq ?_ | refine T_region ?_ | refine S_nil ?_ | refine S_pure tabOk rfl ?_ | refine S_load tabOk 0 rfl rfl rfl ?_)
  refine S_q (Q_look (v := bptr (Bk id)) tabOk rfl rfl rfl rfl rfl rfl rfl rfl (fun w' hw => hw.own _ (getE_mem (i := 1) rfl)) hm1) ?_
  repeat (first | refine T_seq ?_ | refine T_region ?_ | refine S_nil ?_ | refine S_pure tabOk rfl ?_)
  refine S_loadN tabOk (vs := [(X g.id).v]) rfl rfl rfl (fun w' hw j u hu => by
    rw [Addr.add_lit, ← hgi]
    refine cellH ((hw.own _ (getE_mem (i := 4) rfl)).1 g hgm2).1 (j := j) ?_
    cases j with
    | zero => exact hu
    | succ j => simp at hu) ?_
  refine S_callR (allP g.L) Fs rfl Try.call61 (fun w1 h1 => by
    have h5 := Vp.fact (p := seV gs X) (v := .bool true) (A := Fs) h1 5 rfl (fun k hk => .inl hk) g hgm
    exact (all_p h5 (by omega) (hok.srt g hgm) (fun x => Iff.rfl)).mono fun e w'' ⟨r, e1, e2, e3⟩ => ⟨r, e1, e2, (allP _).mono e3 fun k hk => hk.elim (fun h => h.1) (BB_new h1)⟩) (fun v1 F1 w2 hF1 hv1 => ?_)
  refine S_callR ((Rslice (Rint .u64)).vp g.L) (fun _ => False) rfl Try.call54 (fun w1 h1 => (collectA_p (h1.own _ (getE_mem (i := 0) rfl)).1 (by omega)).mono fun e w'' ⟨r, e1, e2, e3⟩ => ⟨r, e1, e2, nbb h1 e3⟩) (fun v2 F2 w3 hF2 hv2 => ?_)
  obtain ⟨a2, n2, k2, rfl, _⟩ := SlR.form hv2
  refine S_bslice tabOk rfl rfl rfl rfl rfl rfl rfl rfl rfl rfl rfl rfl (fun nb hnb2 => ?_)
  refine S_append (ty := 0) (k := 1) (news := [.slice a2 n2 k2]) tabOk 9 (sz := 1) rfl rfl rfl rfl rfl rfl rfl rfl rfl (by decide) (fun w' hw => Sl.of_blk (hw.own _ (getE_mem (i := 0) rfl)) rfl (fun j u hu => by rw [Nat.zero_add]; exact hu)) (fun u hu => by rw [List.mem_singleton] at hu; subst hu; rfl) (by simp only [maxLen]; omega) (by show (_ + _) * 24 ≤ _; omega) rfl (fun A' C' hA' hC' => ⟨_, rfl, ?_⟩)
  refine S_heap (ol' := [.blk bb (boC f m gb mb ab last) true, .blk gb (mapO .u64 M1 c1) true, .blk mb (mapO .u64 M2 c2) true, .rep (fun w => (alA ab al).at_ w Fa (.bool true)) Fa true, .rep (fun w => (gbV (gs.map (bumpG f m now (ids.take i))) Bk X).at_ w Fg (.bool true)) Fg true, .rep (fun w => (seV gs X).at_ w Fs (.bool true)) Fs false,
      .row w.heap.size (.slice A' (i + 1) C') 22 1 (i + 1) (css ++ [[Value.slice a2 n2 k2]]).flatten, uRow w.heap.size (.slice (some ⟨gN, 0, none⟩) ids.length C1) ids, .rep (fun w => (Bod (Rslice (Rint .u64)) (css ++ [[Value.slice a2 n2 k2]]) ((ids.take (i + 1)).map (lOf gs))).at_ w (fun k => F2 k ∨ Fo k) (.bool true)) (fun k => F2 k ∨ Fo k) false]) (fun w' hw => ?_) ?_
  · have h9 := (hw.pm [1, 11, 0, 2, 3, 4, 5, 6, 7, 8, 9, 10] rfl rfl rfl).merge (Ψ := fun w => (Bod (Rslice (Rint .u64)) (css ++ [[Value.slice a2 n2 k2]]) ((ids.take (i + 1)).map (lOf gs))).at_ w (fun k => F2 k ∨ Fo k) (.bool true)) (fun q1 q2 => ?_) (Vp.loc (p := Bod _ _ _))
    · have e9 : (css ++ [[Value.slice a2 n2 k2]]).flatten = css.flatten ++ [Value.slice a2 n2 k2] := by rw [List.flatten_append]; rfl
      rw [e9]
      exact (h9.pm [3, 4, 5, 6, 7, 8, 9, 10, 0, 1, 2] rfl rfl rfl).less (by repeat (first | exact Less.nil | refine Less.keep ?_ | refine Less.dropR ?_ | refine Less.dropB (by first | assumption | omega) ?_))
    · rw [htk, List.map_append, List.map_cons, List.map_nil, hlo]
      exact Bod.snoc ((Bod _ _ _).mono q2 fun k hk => .inr hk) ((Rslice (Rint .u64)).at_mono q1 fun k hk => .inl hk)
  repeat (first | refine T_seq ?_ | refine S_nil ?_ | refine S_pure tabOk rfl ?_)
  refine T_drawT (by kernel_rfl) 16 rfl (by kernel_rfl) ?_
  repeat (first | refine D_pure tabOk rfl ?_ | refine D_load tabOk 0 rfl rfl rfl ?_)
  refine D_load1 tabOk (v := .int .i64 g.tries) rfl rfl (fun w' hw => by
    rw [← hgi]
    exact cellH ((hw.own _ (getE_mem (i := 4) rfl)).1 g hgm2).1 (j := 1) rfl) ?_
  refine D_callx (v := .int .i64 (W f m g.tries.toNat)) rfl Try.call25 (fun w' vs hw' h => by
    obtain ⟨u1, _, rfl, rfl, u2, _, rfl, rfl, rfl⟩ := h
    exact wait_w f m g.tries w' hp.1 hp.2.2 hp.2.1) ?_
  repeat (first | refine D_all rfl ?_ | refine D_i64 tabOk rfl (by omega) ?_)
  refine S_callT 3 rfl Try.call51 rfl (fun w1 g1 => (al_set (g1.own _ (getE_mem (i := 3) rfl)).1 (g1.own _ (getE_mem (i := 3) rfl)).2.2 (by omega) id (now + W f m g.tries.toNat)).mono fun e w' ⟨he, Fa', g2', g3, g4⟩ => ⟨_, _, Fa', he, g4, g2', g3, _, rfl, ?_⟩)
  have hsz2 := g1.size
  clear g4
  refine S_kn (p := Fg (Bk g.id)) (fun w' hw => ((hw.own _ (getE_mem (i := 4) rfl)).1 g hgm2).2) (fun hFgg => ?_)
  repeat (first | refine S_nil ?_ | refine S_pure tabOk rfl ?_ | refine T_region_any ?_)
  refine S_load1 tabOk (v := .int .i64 g.tries) rfl rfl (fun w' hw => by
    rw [← hgi]
    exact cellH ((hw.own _ (getE_mem (i := 4) rfl)).1 g hgm2).1 (j := 1) rfl) ?_
  repeat (first | refine S_i64 tabOk rfl (by omega) ?_ | refine S_pure tabOk rfl ?_)
  refine S_storeO tabOk 4 (Ψ := fun w => (gbV (gs.map (bumpG f m now (ids.take (i + 1)))) Bk X).at_ w Fg (.bool true)) [(X g.id).v, .int .i64 g.tries] [(X g.id).v, .int .i64 (g.tries + 1)] 104 rfl rfl (fun u hu => by rw [List.mem_singleton] at hu; subst hu; rfl) rfl (hgi ▸ hFgg) (fun w h => hgi ▸ (h g hgm2).1) rfl (fun w w' h h1 h2 y hy => ?_) Vp.loc rfl ?_
  · obtain ⟨z, hz, rfl⟩ := List.mem_map.1 hy
    rw [htk, (bump_id _ z).1]
    by_cases e : z.id = id
    · obtain rfl := nodup_eq BG.id hok.idn hz hgm (e.trans hgi.symm)
      rw [hb2, hgi]
      dsimp only
      rw [hgi] at h2 hFgg
      exact ⟨h2, hFgg⟩
    · rw [hb1 z hz e]
      have h7 := h (bumpG f m now (ids.take i) z) (List.mem_map.2 ⟨z, hz, rfl⟩)
      rw [(bump_id _ z).1] at h7
      exact ⟨(h1 _ fun e2 => e ((hr.inj z hz g hgm (e2.trans (by rw [hgi]))).trans hgi)).trans h7.1, h7.2⟩
  repeat (first | refine T_region ?_ | refine S_nil ?_ | refine pthen_normal ?_ | refine inb_normal ?_ | refine S_i64 tabOk rfl (by omega) ?_ | refine S_pure tabOk rfl ?_)
  refine ⟨⟨i + 1, A', C', css ++ [[Value.slice a2 n2 k2]], dSet al id (now + W f m g.tries.toNat), Fa', fun k => F2 k ∨ Fo k⟩, ⟨hin, dSet_srt hsrt, fun x => ?_, ?_, fun k hk => (g3 k hk).elim (hFa k) fun h => .inr (Nat.le_trans hsz2 h), fun k hk => hk.elim (fun h => (hF2 k h).resolve_left (fun h => h)) (hFo k), ?_⟩, (by repeat (first | exact Sub.nil | refine Sub.cons rfl ?_)), fun w' hw => hw, by dsimp only; omega⟩
  · dsimp only
    rw [dSet_mem, hmem]
    constructor
    · rintro (rfl | ⟨⟨y, hy, h2, rfl⟩, h3⟩)
      · refine ⟨bumpG f m now (ids.take (i + 1)) g, List.mem_map.2 ⟨g, hgm, rfl⟩, ?_, ?_⟩
        · rw [(bump_id _ g).1, hgi]; exact hnd
        · rw [htk, hb2, ← hgi]
      · obtain ⟨z, hz, rfl⟩ := List.mem_map.1 hy
        rw [(bump_id _ z).1] at h2
        have h4 : z.id ≠ id := fun e => h3 ((bump_id _ z).1.trans e)
        refine ⟨bumpG f m now (ids.take (i + 1)) z, List.mem_map.2 ⟨z, hz, rfl⟩, ?_, ?_⟩
        · rw [(bump_id _ z).1]
          exact fun h => h2 (by rw [hdr]; exact List.mem_cons_of_mem _ h)
        · rw [htk, hb1 z hz h4]
    · rintro ⟨y, hy, h2, rfl⟩
      obtain ⟨z, hz, rfl⟩ := List.mem_map.1 hy
      rw [(bump_id _ z).1] at h2
      by_cases e : z.id = id
      · obtain rfl := nodup_eq BG.id hok.idn hz hgm (e.trans hgi.symm)
        rw [htk, hb2]
        exact .inl (by rw [← hgi])
      · rw [htk, hb1 z hz e]
        refine .inr ⟨⟨bumpG f m now (ids.take i) z, List.mem_map.2 ⟨z, hz, rfl⟩, ?_, rfl⟩, ?_⟩
        · rw [(bump_id _ z).1, hdr, List.mem_cons]
          exact fun h => h.elim e h2
        · exact fun h => e ((bump_id _ z).1.symm.trans h)
  · have := dSet_len (l := al) (id := id) (tm := now + W f m g.tries.toNat)
    dsimp only
    omega
  · dsimp only
    rw [List.flatten_append, List.length_append, hcss]
    rfl
end
end Go.Proofs.Ytanhmmfpecgbhaa
