/-
  A queue's blocks, opened and closed. Conditions: each theorem's own.
-/
import Derived.Test.YteogkadjambmkaaQuL
namespace Go.Proofs.Yteogkadjambmkaa
open Go Go.RowKit
set_option linter.unusedVariables false

/-- what lies beside a queue's own block, its map, its bytes -/
structure QuR (ws s : List Int) (M : List ME) (L : List QE) (wv lv : Value) (w : World) (F : Nat → Prop) : Prop where
  ws : w.ownsRow 0 3 1 wv ws.length (ws.map (.int .i64))
  Fw : ∀ k, wv.ownBlock = some k → F k
  ls : w.ownsRow 0 59 1 lv s.length (s.map (.int .u64))
  Fl : ∀ k, lv.ownBlock = some k → F k
  ml : MLz w (fun k => F k ∧ ¬ (wv.ownBlock = some k ∨ lv.ownBlock = some k)) M L
theorem QuR.keep {ws s : List Int} {M : List ME} {L : List QE} {wv lv : Value} {w w' : World} {A B : Nat → Prop} (h : QuR ws s M L wv lv w A) (hk : ∀ k, A k → k < w.heap.size → w'.heap[k]? = w.heap[k]? ∧ B k) : QuR ws s M L wv lv w' B where
  ws := own_keep h.ws fun k hv => (hk k (h.Fw k hv) (World.ownsRow.lt h.ws k hv).2).1
  Fw := fun k hv => (hk k (h.Fw k hv) (World.ownsRow.lt h.ws k hv).2).2
  ls := own_keep h.ls fun k hv => (hk k (h.Fl k hv) (World.ownsRow.lt h.ls k hv).2).1
  Fl := fun k hv => (hk k (h.Fl k hv) (World.ownsRow.lt h.ls k hv).2).2
  ml := h.ml.keep fun k hA hlt => ⟨(hk k hA.1 hlt).1, (hk k hA.1 hlt).2, hA.2⟩
def quR (ws s : List Int) (M : List ME) (L : List QE) (wv lv : Value) : Vp :=
  ⟨fun w F _ => QuR ws s M L wv lv w F, fun h hk => h.keep hk⟩
section
variable {qb mb c g : Nat} {cap last : Int} {ws bys s : List Int} {M : List ME} {L : List QE} {wv lv bv : Value} {w w0 : World} {F : Nat → Prop} {ol : OL}
abbrev quC (cap : Int) (wv : Value) (mb : Nat) (lv bv : Value) (last : Int) : Obj := .cells ⟨[.int .i64 cap, wv, .map (some mb), lv, bv, .int .u64 last]⟩ 105 (0, 0)
/-- opened: its own block, its map, its bytes, all else -/
theorem QuS.split (hh : Hp w0 w (.rep (fun w => (quV qb mb cap last ws bys s M c L wv lv bv).at_ w F (.bool true)) F true :: ol)) (hb : 0 < bys.length) : ∃ g cb junk, bv = .slice (some ⟨g, 0, none⟩) bys.length cb ∧ bys.length ≤ cb ∧ cb ≤ maxLen ∧ (bys.map (Value.int .i64) ++ junk).length = cb ∧ F g ∧
    Hp w0 w (.blk qb (quC cap wv mb lv bv last) true :: .blk mb (mapO .u64 M c) true :: .blk g (.cells ⟨bys.map (Value.int .i64) ++ junk⟩ 3 (0, 0)) true :: .rep (fun w => (quR ws s M L wv lv).at_ w (fun k => F k ∧ ¬ (k = qb ∨ k = mb ∨ k = g)) (.bool true)) (fun k => F k ∧ ¬ (k = qb ∨ k = mb ∨ k = g)) true :: ol) := by
  obtain ⟨h, _, hlt⟩ := hh.own _ List.mem_cons_self
  have hS : QuS qb mb cap last ws bys s M c L wv lv bv w F := h
  have h2 := hS.bs
  obtain ⟨a, cb, rfl, h3, _⟩ := form_of_own h2
  obtain ⟨g, junk, rfl, _, _, hxl, hjl, hcm, hg⟩ := own_open h2 hb
  have hFg : F g := hS.Fb g rfl
  have hgq : g ≠ qb := cells_ne hg hS.q (by decide)
  have hgm : g ≠ mb := map_ne hg hS.m
  have hqm : qb ≠ mb := map_ne hS.q hS.m
  refine ⟨g, cb, junk, rfl, h3, hcm, hjl, hFg, ?_⟩
  refine Hp.regroup [.rep (fun w => (quV qb mb cap last ws bys s M c L wv lv (.slice (some ⟨g, 0, none⟩) bys.length cb)).at_ w F (.bool true)) F true] [.blk qb (quC cap wv mb lv (.slice (some ⟨g, 0, none⟩) bys.length cb) last) true, .blk mb (mapO .u64 M c) true, .blk g (.cells ⟨bys.map (Value.int .i64) ++ junk⟩ 3 (0, 0)) true, .rep (fun w => (quR ws s M L wv lv).at_ w (fun k => F k ∧ ¬ (k = qb ∨ k = mb ∨ k = g)) (.bool true)) (fun k => F k ∧ ¬ (k = qb ∨ k = mb ∨ k = g)) true] hh (fun e he => ?_) (fun e he => ?_) ?_ (fun e he k hk => ?_) (fun e he k hk => ?_)
  · rw [List.mem_singleton] at he
    subst he; rfl
  · simp only [List.mem_cons, List.not_mem_nil, or_false] at he
    rcases he with rfl | rfl | rfl | rfl
    · exact ⟨rfl, hS.q⟩
    · exact ⟨rfl, hS.m⟩
    · exact ⟨rfl, hg⟩
    · refine ⟨rfl, ⟨hS.ws, fun k hk => ⟨hS.Fw k hk, ?_⟩, hS.ls, fun k hk => ⟨hS.Fl k hk, ?_⟩, hS.ml.keep fun k hk _ => ⟨rfl, ⟨hk.1, ?_⟩, ?_⟩⟩, Vp.loc (p := quR ws s M L wv lv), fun k hk => hlt k hk.1⟩
      · rintro (rfl | rfl | rfl)
        · obtain ⟨cur, h9⟩ := row_blk hS.ws hk
          exact cells_ne h9 hS.q (by decide) rfl
        · obtain ⟨cur, h9⟩ := row_blk hS.ws hk
          exact map_ne h9 hS.m rfl
        · exact hS.wb _ hk rfl
      · rintro (rfl | rfl | rfl)
        · obtain ⟨cur, h9⟩ := row_blk hS.ls hk
          exact cells_ne h9 hS.q (by decide) rfl
        · obtain ⟨cur, h9⟩ := row_blk hS.ls hk
          exact map_ne h9 hS.m rfl
        · obtain ⟨cur, h9⟩ := row_blk hS.ls hk
          exact cells_ne h9 hg (by decide) rfl
      · rintro (rfl | rfl | rfl)
        · exact hk.2 (.inl rfl)
        · exact hk.2 (.inr (.inl rfl))
        · exact hk.2 (.inr (.inr (.inr (.inr rfl))))
      · rintro (h9 | h9)
        · exact hk.2 (.inr (.inr (.inl h9)))
        · exact hk.2 (.inr (.inr (.inr (.inl h9))))
  · refine List.pairwise_cons.2 ⟨fun e he => ?_, List.pairwise_cons.2 ⟨fun e he => ?_, List.pairwise_cons.2 ⟨fun e he => ?_, List.pairwise_singleton _ _⟩⟩⟩
    all_goals simp only [List.mem_cons, List.not_mem_nil, or_false] at he
    · rcases he with rfl | rfl | rfl
      · exact fun _ k hk hk2 => hqm ((Option.some.inj hk).trans (Option.some.inj hk2).symm)
      · exact fun _ k hk hk2 => hgq ((Option.some.inj hk2).trans (Option.some.inj hk).symm)
      · exact fun _ k hk hk2 => hk2.2 (.inl (Option.some.inj hk).symm)
    · rcases he with rfl | rfl
      · exact fun _ k hk hk2 => hgm ((Option.some.inj hk2).trans (Option.some.inj hk).symm)
      · exact fun _ k hk hk2 => hk2.2 (.inr (.inl (Option.some.inj hk).symm))
    · subst he
      exact fun _ k hk hk2 => hk2.2 (.inr (.inr (Option.some.inj hk).symm))
  · refine ⟨_, List.mem_cons_self, ?_⟩
    simp only [List.mem_cons, List.not_mem_nil, or_false] at he
    show F k
    rcases he with rfl | rfl | rfl | rfl
    · rw [← Option.some.inj hk]; exact hS.Fq
    · rw [← Option.some.inj hk]; exact hS.Fm
    · rw [← Option.some.inj hk]; exact hFg
    · exact hk.1
  · rw [List.mem_singleton] at he
    subst he
    have hk' : F k := hk
    right
    by_cases h1 : k = qb
    · exact ⟨_, List.mem_cons_self, congrArg some h1.symm⟩
    by_cases h4 : k = mb
    · exact ⟨_, List.mem_cons_of_mem _ List.mem_cons_self, congrArg some h4.symm⟩
    by_cases h5 : k = g
    · exact ⟨_, List.mem_cons_of_mem _ (List.mem_cons_of_mem _ List.mem_cons_self), congrArg some h5.symm⟩
    · exact ⟨_, List.mem_cons_of_mem _ (List.mem_cons_of_mem _ (List.mem_cons_of_mem _ List.mem_cons_self)), hk', fun h => h.elim h1 fun h => h.elim h4 h5⟩
/-- and closed -/
theorem QuR.join {junk : List Value} {cb : Nat} (hh : Hp w0 w (.blk qb (quC cap wv mb lv (.slice (some ⟨g, 0, none⟩) bys.length cb) last) true :: .blk mb (mapO .u64 M c) true :: .blk g (.cells ⟨bys.map (Value.int .i64) ++ junk⟩ 3 (0, 0)) true :: .rep (fun w => (quR ws s M L wv lv).at_ w F (.bool true)) F true :: ol))
    (hcb : bys.length ≤ cb) (hcm : cb ≤ maxLen) (hjl : (bys.map (Value.int .i64) ++ junk).length = cb) (hM : MOk M c) (hs : s.length ≤ 1073741824) {F' : Nat → Prop} (hF : ∀ k, F' k ↔ F k ∨ k = qb ∨ k = mb ∨ k = g) :
    Hp w0 w (.rep (fun w => (quV qb mb cap last ws bys s M c L wv lv (.slice (some ⟨g, 0, none⟩) bys.length cb)).at_ w F' (.bool true)) F' true :: ol) := by
  have o0 : w.heap[qb]? = _ := hh.own _ (getE_mem (i := 0) rfl)
  have o1 : w.heap[mb]? = _ := hh.own _ (getE_mem (i := 1) rfl)
  have o2 : w.heap[g]? = _ := hh.own _ (getE_mem (i := 2) rfl)
  obtain ⟨o3, _, hlt⟩ := hh.own _ (getE_mem (i := 3) rfl)
  have hR : QuR ws s M L wv lv w F := o3
  have ha := hh.apart
  have hap : (HE.blk qb (quC cap wv mb lv (.slice (some ⟨g, 0, none⟩) bys.length cb) last) true :: .blk mb (mapO .u64 M c) true :: .blk g (.cells ⟨bys.map (Value.int .i64) ++ junk⟩ 3 (0, 0)) true :: .rep (fun w => (quR ws s M L wv lv).at_ w F (.bool true)) F true :: ol).Pairwise Dis := ha
  have n0 : ¬ F qb := fun h => (List.pairwise_cons.1 hap).1 _ (List.mem_cons_of_mem _ (List.mem_cons_of_mem _ List.mem_cons_self)) rfl qb rfl h
  have n1 : ¬ F mb := fun h => (List.pairwise_cons.1 (List.pairwise_cons.1 hap).2).1 _ (List.mem_cons_of_mem _ List.mem_cons_self) rfl mb rfl h
  have n2 : ¬ F g := fun h => (List.pairwise_cons.1 (List.pairwise_cons.1 (List.pairwise_cons.1 hap).2).2).1 _ List.mem_cons_self rfl g rfl h
  have hq : F' qb := (hF qb).2 (.inr (.inl rfl))
  have hm : F' mb := (hF mb).2 (.inr (.inr (.inl rfl)))
  have hg : F' g := (hF g).2 (.inr (.inr (.inr rfl)))
  refine Hp.regroup [.blk qb (quC cap wv mb lv (.slice (some ⟨g, 0, none⟩) bys.length cb) last) true, .blk mb (mapO .u64 M c) true, .blk g (.cells ⟨bys.map (Value.int .i64) ++ junk⟩ 3 (0, 0)) true, .rep (fun w => (quR ws s M L wv lv).at_ w F (.bool true)) F true] [.rep (fun w => (quV qb mb cap last ws bys s M c L wv lv (.slice (some ⟨g, 0, none⟩) bys.length cb)).at_ w F' (.bool true)) F' true] hh (fun e he => ?_) (fun e he => ?_) (List.pairwise_singleton _ _) (fun e he k hk => ?_) (fun e he k hk => ?_)
  · simp only [List.mem_cons, List.not_mem_nil, or_false] at he
    rcases he with rfl | rfl | rfl | rfl <;> rfl
  · rw [List.mem_singleton] at he
    subst he
    refine ⟨rfl, (⟨o0, hq, hR.ws, fun k hk => (hF k).2 (.inl (hR.Fw k hk)), hR.ls, fun k hk => (hF k).2 (.inl (hR.Fl k hk)), own_close o2 (Nat.zero_le _) hcb hcm (by rw [List.length_map]) hjl, fun k hk => ?_, fun k hk hk2 => ?_, o1, hm, hM, hs, hR.ml.keep fun k hk _ => ⟨rfl, (hF k).2 (.inl hk.1), ?_⟩⟩ : QuS qb mb cap last ws bys s M c L wv lv (.slice (some ⟨g, 0, none⟩) bys.length cb) w F'), Vp.loc (p := quV qb mb cap last ws bys s M c L wv lv (.slice (some ⟨g, 0, none⟩) bys.length cb)), fun k hk => ?_⟩
    · rw [← Option.some.inj hk]; exact hg
    · have e1 : g = k := Option.some.inj hk2
      exact n2 (e1 ▸ hR.Fw k hk)
    · rintro (e | e | e | e | e)
      · exact n0 (e ▸ hk.1)
      · exact n1 (e ▸ hk.1)
      · exact hk.2 (.inl e)
      · exact hk.2 (.inr e)
      · have e1 : g = k := Option.some.inj e
        exact n2 (e1 ▸ hk.1)
    · rcases (hF k).1 hk with h | rfl | rfl | rfl
      · exact hlt k h
      · exact heap_lt o0
      · exact heap_lt o1
      · exact heap_lt o2
  · rw [List.mem_singleton] at he
    subst he
    rcases (hF k).1 hk with h | rfl | rfl | rfl
    · exact ⟨_, List.mem_cons_of_mem _ (List.mem_cons_of_mem _ (List.mem_cons_of_mem _ List.mem_cons_self)), h⟩
    · exact ⟨_, List.mem_cons_self, rfl⟩
    · exact ⟨_, List.mem_cons_of_mem _ List.mem_cons_self, rfl⟩
    · exact ⟨_, List.mem_cons_of_mem _ (List.mem_cons_of_mem _ List.mem_cons_self), rfl⟩
  · refine .inr ⟨_, List.mem_cons_self, ?_⟩
    simp only [List.mem_cons, List.not_mem_nil, or_false] at he
    show F' k
    rcases he with rfl | rfl | rfl | rfl
    · rw [← Option.some.inj hk]; exact hq
    · rw [← Option.some.inj hk]; exact hm
    · rw [← Option.some.inj hk]; exact hg
    · exact (hF k).2 (.inl hk)
end
section
variable {P : Program} {tb : Tab} {n : Nat} {w0 : World} {all : Array Oper} {os : List Oper} {o : Oper} {l : FL} {ol : OL} {K : FL → OL → Prop} {Q : Post}
/-- delete of a block of our own, told nowhere -/
theorem S_deleteN (ht : TabOk P tb) (i : Nat) {mt kt et : TypeId} {x ix : Operand} {κ : IntKind} {b : Nat} {k : Int} {M : List ME} {c : Nat} {tm tk : TI} {ol' : OL} (hs : noAt? all (look l) o = some (.call ⟨.builtin .delete, #[x, ix], #[mt, kt]⟩)) (hx : ev (look l) x = some (.map (some b))) (hk : ev (look l) ix = some (.int κ k))
    (hi : getE ol i = some (.blk b (mapO κ M c) true)) (htm : tl tb mt = some tm) (hdm : tm.desc = .map kt et) (htk : tl tb kt = some tk) (hdk : tk.desc = .int κ) (hp : putE ol i (.blk b (mapO κ (mDel M k) c) true) = some ol') (kk : S P n w0 all os l ol' K Q) : S P n w0 all (o :: os) l ol K Q := by
  obtain ⟨hdst, hg, hop⟩ := noAt_spec hs
  refine ⟨fun a w hf hh => ?_⟩
  have h1 := ht.under' htm
  rw [hdm] at h1
  have h2 := ht.under' htk
  rw [hdk] at h2
  have h3 := run_delete (P := P) (ty := o.type) h1 h2 (hh.own _ (getE_mem hi)) k
  obtain ⟨pre, post, e1, e2⟩ := putE_eq hi hp
  refine wpList_run (v := .tuple #[]) (gd_wanted hf.rd hg) (w' := { w with heap := w.heap.setIfInBounds b (mapO κ (mDel M k) c) }) ?_ ?_
  · unfold execOp
    simp [hop, resolve, invoke, builtin, hf.rd.ev hx, hf.rd.ev hk, h3]
  · rw [hdst]
    rw [e1] at hh
    rw [e2] at kk
    exact kk.out _ _ hf hh.setB
end
end Go.Proofs.Yteogkadjambmkaa
