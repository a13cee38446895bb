/-
  A queue's list: who is gone, who has come. Conditions: each theorem's own.
-/
import Derived.Test.YteogkadjambmkaaQuJ
namespace Go.Proofs.Yteogkadjambmkaa
open Go Go.RowKit
set_option linter.unusedVariables false

def qDel (L : List QE) (n : Int) : List QE := L.filter fun x => decide (x.1 ≠ n)
theorem mPut_fresh (k : Int) (v : Value) (c : Nat) : ∀ (M : List ME), k ∉ M.map (·.1) → mPut M k v c = (M ++ [(k, v, c)], c + 1)
  | [], _ => mPut_nil k v c
  | p :: M, h => by
    rw [List.map_cons, List.mem_cons, not_or] at h
    rw [mPut_cons, if_neg h.1, mPut_fresh k v c M h.2]
    rfl
theorem MOk.push {M : List ME} {c : Nat} (h : MOk M c) {k : Int} {v : Value} (hk : k ∉ M.map (·.1)) : MOk (M ++ [(k, v, c)]) (c + 1) := by
  refine ⟨?_, ?_, fun p hp => ?_⟩
  · rw [List.map_append, List.nodup_append]
    refine ⟨h.keys, by simp, fun a ha b hb => ?_⟩
    rw [List.map_cons, List.map_nil, List.mem_singleton] at hb
    rintro rfl
    have e : a = k := hb
    exact hk (e ▸ ha)
  · rw [List.map_append, List.nodup_append]
    refine ⟨h.borns, by simp, fun a ha b hb => ?_⟩
    rw [List.map_cons, List.map_nil, List.mem_singleton] at hb
    rintro rfl
    obtain ⟨p, hp, e⟩ := List.mem_map.1 ha
    have := h.lt p hp
    rw [e, hb] at this
    exact absurd this (Nat.lt_irrefl _)
  · rcases List.mem_append.1 hp with hp | hp
    · exact Nat.lt_succ_of_lt (h.lt p hp)
    · rw [List.mem_singleton] at hp
      subst hp
      exact Nat.lt_succ_self _
theorem mDel_sub (n : Int) : ∀ (M : List ME), (mDel M n).Sublist M
  | [] => by rw [mDel_nil]; exact List.Sublist.refl _
  | p :: M => by
    rw [mDel_cons]
    split
    · exact List.sublist_cons_self _ _
    · exact (mDel_sub n M).cons_cons p
theorem MOk.del {M : List ME} {c : Nat} (h : MOk M c) (n : Int) : MOk (mDel M n) c :=
  ⟨h.keys.sublist ((mDel_sub n M).map _), h.borns.sublist ((mDel_sub n M).map _), fun p hp => h.lt p ((mDel_sub n M).subset hp)⟩
section
variable {w : World} {G G' : Nat → Prop} {M : List ME} {L : List QE}
theorem MLz.nil : MLz w G [] [] := ⟨rfl, fun i p x h _ => by simp at h⟩
theorem MLz.cons {p : ME} {x : QE} : MLz w G (p :: M) (x :: L) ↔ (p.1 = x.1 ∧ ∃ a n c, p.2.1 = .agg #[.int .i64 x.2.1, .slice a n c] ∧ SlR (Rint .u8) w G a n c x.2.2) ∧ MLz w G M L := by
  constructor
  · intro h
    exact ⟨h.at_ 0 p x rfl rfl, by have := h.len; simpa using this, fun i q y h1 h2 => h.at_ (i + 1) q y (by simpa using h1) (by simpa using h2)⟩
  · rintro ⟨h1, h2⟩
    refine ⟨by rw [List.length_cons, List.length_cons, h2.len], fun i q y h3 h4 => ?_⟩
    cases i with
    | zero => cases h3; cases h4; exact h1
    | succ i => exact h2.at_ i q y (by simpa using h3) (by simpa using h4)
theorem MLz.nils {x : QE} : ¬ MLz w G [] (x :: L) := fun h => by have := h.len; simp at this
theorem MLz.nils' {p : ME} : ¬ MLz w G (p :: M) [] := fun h => by have := h.len; simp at this
theorem MLz.snoc (h : MLz w G M L) {n cls : Int} {a : Option Addr} {m cc c : Nat} {zs : List Int} (hz : SlR (Rint .u8) w G a m cc zs) : MLz w G (M ++ [(n, .agg #[.int .i64 cls, .slice a m cc], c)]) (L ++ [(n, cls, zs)]) := by
  refine ⟨by rw [List.length_append, List.length_append, h.len]; rfl, fun i p x h1 h2 => ?_⟩
  by_cases hi : i < M.length
  · rw [List.getElem?_append_left hi] at h1
    rw [List.getElem?_append_left (by rw [← h.len]; exact hi)] at h2
    exact h.at_ i p x h1 h2
  · have e1 : i = M.length := by
      have := (List.getElem?_eq_some_iff.1 h1).1
      rw [List.length_append] at this
      simp only [List.length_cons, List.length_nil] at this
      omega
    subst e1
    rw [List.getElem?_append_right (Nat.le_refl _), Nat.sub_self] at h1
    rw [h.len, List.getElem?_append_right (Nat.le_refl _), Nat.sub_self] at h2
    cases h1
    cases h2
    exact ⟨rfl, a, m, cc, rfl, hz⟩
theorem qDel_none {L : List QE} {n : Int} (h : n ∉ L.map (·.1)) : qDel L n = L := by
  unfold qDel
  rw [List.filter_eq_self]
  intro x hx
  simp only [decide_eq_true_eq]
  exact fun e => h (List.mem_map.2 ⟨x, hx, e⟩)
theorem MLz.del (n : Int) : ∀ {M : List ME} {L : List QE}, MLz w G M L → (L.map (·.1)).Nodup → MLz w G (mDel M n) (qDel L n)
  | [], [], _, _ => by rw [mDel_nil]; exact MLz.nil
  | [], x :: L, h, _ => absurd h MLz.nils
  | p :: M, [], h, _ => absurd h MLz.nils'
  | p :: M, x :: L, h, hn => by
    obtain ⟨h1, h2⟩ := MLz.cons.1 h
    rw [List.map_cons, List.nodup_cons] at hn
    rw [mDel_cons]
    by_cases e : n = p.1
    · rw [if_pos e]
      have e2 : qDel (x :: L) n = L := by
        have : qDel (x :: L) n = qDel L n := by unfold qDel; rw [List.filter_cons_of_neg (by simp [e, h1.1])]
        rw [this]
        exact qDel_none (by rw [e, h1.1]; exact hn.1)
      rw [e2]
      exact h2
    · rw [if_neg e]
      have e2 : qDel (x :: L) n = x :: qDel L n := by unfold qDel; rw [List.filter_cons_of_pos (by simp [← h1.1]; exact fun e' => e e'.symm)]
      rw [e2]
      exact MLz.cons.2 ⟨h1, MLz.del n h2 hn.2⟩
end
theorem bsum_cons (x : QE) (L : List QE) (c : Nat) : bsum (x :: L) c = (if x.2.1 = (c : Int) then sizeQ x else 0) + bsum L c := by
  unfold bsum
  rw [List.filter_cons]
  by_cases hc : x.2.1 = (c : Int)
  · rw [if_pos (by simp [hc]), if_pos hc, List.map_cons, List.sum_cons]
  · rw [if_neg (by simp [hc]), if_neg hc, Int.zero_add]
theorem bsum_snoc (x : QE) (L : List QE) (c : Nat) : bsum (L ++ [x]) c = bsum L c + (if x.2.1 = (c : Int) then sizeQ x else 0) := by
  induction L with
  | nil => rw [List.nil_append, bsum_cons]; simp [bsum]
  | cons y L ih => rw [List.cons_append, bsum_cons, ih, bsum_cons]; omega
theorem bsum_del {L : List QE} {x : QE} (hn : (L.map (·.1)).Nodup) (hx : x ∈ L) (c : Nat) : bsum (qDel L x.1) c = bsum L c - (if x.2.1 = (c : Int) then sizeQ x else 0) := by
  induction L with
  | nil => cases hx
  | cons y L ih =>
    rw [List.map_cons, List.nodup_cons] at hn
    rcases List.mem_cons.1 hx with rfl | hx
    · have e : qDel (x :: L) x.1 = L := by
        have : qDel (x :: L) x.1 = qDel L x.1 := by unfold qDel; rw [List.filter_cons_of_neg (by simp)]
        rw [this]
        exact qDel_none hn.1
      rw [e, bsum_cons]; omega
    · have hne : y.1 ≠ x.1 := fun e => hn.1 (List.mem_map.2 ⟨x, hx, e.symm⟩)
      have e : qDel (y :: L) x.1 = y :: qDel L x.1 := by unfold qDel; rw [List.filter_cons_of_pos (by simpa using hne)]
      rw [e, bsum_cons, bsum_cons, ih hn.2 hx]; omega
/-- the bytes' row, of one class turned -/
theorem bys_set {f g : Nat → Int} {n k : Nat} (hk : k < n) {v : Int} (hv : g k = v) (h : ∀ c, c ≠ k → g c = f c) : ((List.range n).map f).set k v = (List.range n).map g := by
  refine List.ext_getElem? fun i => ?_
  by_cases hi : i < n
  · by_cases e : k = i
    · subst e
      rw [List.getElem?_set_self (by simpa using hk)]
      simp [hi, hv]
    · rw [List.getElem?_set_ne e]
      simp [hi, h i (fun e' => e e'.symm)]
  · rw [List.getElem?_eq_none (by simp; omega), List.getElem?_eq_none (by simp; omega)]
section
variable {cap last : Int} {ws : List Int} {L : List QE}
theorem QOk.nodup (h : QOk cap last ws L) : (L.map (·.1)).Nodup := h.srt.imp fun h => by omega
theorem qDel_sub (L : List QE) (n : Int) : (qDel L n).Sublist L := List.filter_sublist
theorem QOk.del (h : QOk cap last ws L) (n : Int) : QOk cap last ws (qDel L n) :=
  ⟨h.srt.sublist ((qDel_sub L n).map _), fun x hx => h.pos x ((qDel_sub L n).subset hx), fun x hx => h.cls x ((qDel_sub L n).subset hx), h.fit⟩
theorem QOk.snoc (h : QOk cap last ws L) {n cls : Int} {zs : List Int} (hn : last < n) (hl0 : 0 ≤ last) (hn2 : n ≤ 18446744073709551615) (hc : 0 ≤ cls ∧ cls < (ws.length : Int) ∧ cls < 8 ∧ zs.length ≤ 4096) : QOk cap n ws (L ++ [(n, cls, zs)]) := by
  refine ⟨?_, fun x hx => ?_, fun x hx => ?_, hn2⟩
  · rw [List.map_append, List.pairwise_append]
    refine ⟨h.srt, List.pairwise_singleton _ _, fun a ha b hb => ?_⟩
    obtain ⟨x, hx, rfl⟩ := List.mem_map.1 ha
    rw [List.map_cons, List.map_nil, List.mem_singleton] at hb
    have := (h.pos x hx).2
    have e : b = n := hb
    show x.1 < b
    omega
  · rcases List.mem_append.1 hx with hx | hx
    · have := h.pos x hx; omega
    · rw [List.mem_singleton] at hx
      subst hx
      show 0 ≤ n ∧ n ≤ n
      omega
  · rcases List.mem_append.1 hx with hx | hx
    · exact h.cls x hx
    · rw [List.mem_singleton] at hx
      subst hx
      exact hc
end
section
variable {c : Nat} {ws s : List Int} {M : List ME} {L : List QE} {wv lv : Value} {w w0 : World} {F : Nat → Prop} {ol : OL}
/-- a body joins -/
theorem QuR.row {base n cc : Nat} {a : Option Addr} {zs : List Int} (num cls : Int) (hh : Hp w0 w (.row base (.slice a n cc) 5 1 n (zs.map (.int .u8)) :: .rep (fun w => (quR ws s M L wv lv).at_ w F (.bool true)) F true :: ol)) (hz : ∀ z ∈ zs, Fits .u8 z) :
    Hp w0 w (.rep (fun w => (quR ws s (M ++ [(num, .agg #[.int .i64 cls, .slice a n cc], c)]) (L ++ [(num, cls, zs)]) wv lv).at_ w (fun k => F k ∨ (Value.slice a n cc).ownBlock = some k) (.bool true)) (fun k => F k ∨ (Value.slice a n cc).ownBlock = some k) true :: ol) := by
  have o0 : w.ownsRow base 5 1 (.slice a n cc) n (zs.map (.int .u8)) := hh.own _ (getE_mem (i := 0) rfl)
  obtain ⟨o1, _, hlt⟩ := hh.own _ (getE_mem (i := 1) rfl)
  have hR : QuR ws s M L wv lv w F := o1
  have hap : (HE.row base (.slice a n cc) 5 1 n (zs.map (.int .u8)) :: .rep (fun w => (quR ws s M L wv lv).at_ w F (.bool true)) F true :: ol).Pairwise Dis := hh.apart
  have hne : ∀ k, (Value.slice a n cc).ownBlock = some k → ¬ F k := fun k hk hf => (List.pairwise_cons.1 hap).1 _ List.mem_cons_self rfl k hk hf
  refine Hp.regroup [.row base (.slice a n cc) 5 1 n (zs.map (.int .u8)), .rep (fun w => (quR ws s M L wv lv).at_ w F (.bool true)) F true] [.rep (fun w => (quR ws s (M ++ [(num, .agg #[.int .i64 cls, .slice a n cc], c)]) (L ++ [(num, cls, zs)]) wv lv).at_ w (fun k => F k ∨ (Value.slice a n cc).ownBlock = some k) (.bool true)) (fun k => F k ∨ (Value.slice a n cc).ownBlock = some k) true] hh (fun e he => ?_) (fun e he => ?_) (List.pairwise_singleton _ _) (fun e he k hk => ?_) (fun e he k hk => ?_)
  · simp only [List.mem_cons, List.not_mem_nil, or_false] at he
    rcases he with rfl | rfl <;> rfl
  · rw [List.mem_singleton] at he
    subst he
    refine ⟨rfl, (⟨hR.ws, fun k hk => .inl (hR.Fw k hk), hR.ls, fun k hk => .inl (hR.Fl k hk), (hR.ml.keep fun k hk _ => ⟨rfl, .inl hk.1, hk.2⟩).snoc (SlR.of_ints (ints_own o0 hz) fun b off h0 e => ?_)⟩ : QuR ws s _ _ wv lv w _), Vp.loc (p := quR ws s _ _ wv lv), fun k hk => ?_⟩
    · obtain ⟨g, _, e2, _⟩ := own_open o0 h0
      rw [e2] at e
      have e3 : g = b := (Addr.mk.inj (Option.some.inj e)).1
      subst e3
      have hk : (Value.slice a n cc).ownBlock = some g := by rw [e2]; rfl
      refine ⟨.inr hk, ?_⟩
      rintro (h9 | h9)
      · exact hne g hk (hR.Fw g h9)
      · exact hne g hk (hR.Fl g h9)
    · rcases hk with hk | hk
      · exact hlt k hk
      · exact (World.ownsRow.lt o0 k hk).2
  · rw [List.mem_singleton] at he
    subst he
    rcases hk with hk | hk
    · exact ⟨_, List.mem_cons_of_mem _ List.mem_cons_self, hk⟩
    · exact ⟨_, List.mem_cons_self, hk⟩
  · simp only [List.mem_cons, List.not_mem_nil, or_false] at he
    rcases he with rfl | rfl
    · exact .inr ⟨_, List.mem_cons_self, .inr hk⟩
    · exact .inr ⟨_, List.mem_cons_self, .inl hk⟩
/-- one that is gone -/
theorem QuR.del (hn : (L.map (·.1)).Nodup) (n : Int) (h : QuR ws s M L wv lv w F) : QuR ws s (mDel M n) (qDel L n) wv lv w F := ⟨h.ws, h.Fw, h.ls, h.Fl, h.ml.del n hn⟩
end
end Go.Proofs.Yteogkadjambmkaa
