/-
  Frames: how items are read. Conditions: each theorem's own.
-/
import Derived.Test.YtnefhhoijonnaaaFrN
namespace Go.Proofs.Ytnefhhoijonnaaa
open Go Go.RowKit
set_option linter.unusedVariables false

theorem rdB_bd {e : Int} {zs : List Int} {most : Int} (h : ∀ z ∈ zs, Fits .u8 z) : (∀ z ∈ (rdB e zs most).2.1, Fits .u8 z) ∧ (rdB e zs most).2.2 ≤ zs.length := by
  by_cases he : e = 0
  · subst he
    refine ⟨fun z hz => h z (rdB_len.2 z hz), ?_⟩
    unfold rdB
    rw [if_neg (by decide)]
    split
    · exact Nat.zero_le _
    split
    · exact Nat.zero_le _
    split
    · exact Nat.zero_le _
    · rename_i h1
      dsimp only
      omega
  · unfold rdB
    rw [if_pos he]
    exact ⟨fun z hz => (by cases hz), Nat.zero_le _⟩
theorem getS_bd {e : Int} {zs : List Int} (h : ∀ z ∈ zs, Fits .u8 z) : Fits .i64 (getS e zs).2.1.1 ∧ (∀ z ∈ (getS e zs).2.1.2, Fits .u8 z) ∧ (getS e zs).2.2 ≤ zs.length := by
  have h1 := by1_bd (e := e) h
  unfold getS
  dsimp only
  have h2 := rdB_bd (e := if 8 ≤ (by1 e zs).2.1 then (if (by1 e zs).1 = 0 then 2 else (by1 e zs).1) else (by1 e zs).1) (zs := zs.drop (by1 e zs).2.2) (most := 4096) fun z hz => h z (List.mem_of_mem_drop hz)
  rw [List.length_drop] at h2
  generalize rdB (if 8 ≤ (by1 e zs).2.1 then (if (by1 e zs).1 = 0 then 2 else (by1 e zs).1) else (by1 e zs).1) (zs.drop (by1 e zs).2.2) 4096 = r at h2 ⊢
  by_cases hr : r.1 = 0
  · rw [if_pos hr]
    exact ⟨mk_i64 (by dsimp only; omega), h2.1, by omega⟩
  · rw [if_neg hr]
    exact ⟨mk_i64 (by decide), fun z hz => (by cases hz), by omega⟩
theorem getI_bd {e : Int} {zs : List Int} (h : ∀ z ∈ zs, Fits .u8 z) : Fits .u64 ((getI e zs).2.1.1 : Int) ∧ Fits .i64 (getI e zs).2.1.2.1 ∧ (∀ z ∈ (getI e zs).2.1.2.2, Fits .u8 z) ∧ (getI e zs).2.2 ≤ zs.length := by
  have h1 := rd_bd (e := e) h
  have h2 := getS_bd (e := (rd e zs).1) (zs := zs.drop (rd e zs).2.2) fun z hz => h z (List.mem_of_mem_drop hz)
  rw [List.length_drop] at h2
  unfold getI
  dsimp only
  generalize getS (rd e zs).1 (zs.drop (rd e zs).2.2) = r at h2 ⊢
  by_cases hr : r.1 = 0
  · rw [if_pos hr]
    exact ⟨mk_u64 (by dsimp only; omega), h2.1, h2.2.1, by omega⟩
  · rw [if_neg hr]
    exact ⟨mk_u64 (by decide), mk_i64 (by decide), fun z hz => (by cases hz), by omega⟩
theorem pIt_bd {all : List Int} (hf : ∀ z ∈ all, Fits .u8 z) (s : St) : Fits .u64 (pIt all s).2.1 ∧ Fits .i64 (pIt all s).2.2.1 ∧ ∀ z ∈ (pIt all s).2.2.2, Fits .u8 z := by
  have := getI_bd (e := s.1) (zs := all.drop s.2) fun z hz => hf z (List.mem_of_mem_drop hz)
  exact ⟨this.1, this.2.1, this.2.2.1⟩
theorem pIt_le {all : List Int} (hf : ∀ z ∈ all, Fits .u8 z) (s : St) (h : s.2 ≤ all.length) : (pIt all s).1.2 ≤ all.length := by
  have := (getI_bd (e := s.1) (zs := all.drop s.2) fun z hz => hf z (List.mem_of_mem_drop hz)).2.2.2
  rw [List.length_drop] at this
  unfold pIt
  dsimp only
  omega
theorem Hp.toIn2 {w w' : World} {x : HE} (hxe : x.ex = true) {b : Nat} {a : Option Addr} {n c : Nat} {A : Option Addr} {N C : Nat} {s : St} (h : Hp w w' [x, .blk b (inO a n c s.1) true]) (hs : Suf A N C s.2 a n c) : Hp w w' [x, inE b A N C s] := by
  have h1 : w'.heap[b]? = _ := h.own _ (List.mem_cons_of_mem _ List.mem_cons_self)
  have h0 := h.own _ List.mem_cons_self
  have hd := (List.pairwise_cons.1 h.apart).1 _ List.mem_cons_self
  refine ⟨h.os, h.tape, h.output, h.size, fun k hk he => h.old k hk fun e hm hx hh => ?_, fun e hm => ?_, List.pairwise_cons.2 ⟨fun e hm hx k hk hk' => ?_, List.pairwise_singleton _ _⟩⟩
  · simp only [List.mem_cons, List.not_mem_nil, or_false] at hm
    rcases hm with rfl | rfl
    · exact he _ List.mem_cons_self hx hh
    · exact he _ (List.mem_cons_of_mem _ List.mem_cons_self) rfl (by rw [← Option.some.inj hh]; rfl)
  · simp only [List.mem_cons, List.not_mem_nil, or_false] at hm
    rcases hm with rfl | rfl
    · exact h0
    · exact inP.holds ⟨a, n, c, h1, hs⟩
  · rw [List.mem_singleton] at hm
    subst hm
    have h2 : k = b := hk'
    exact hd (by simp [hxe]) k hk (by rw [h2]; rfl)
theorem item_t {b : Nat} {A : Option Addr} {N C : Nat} {all : List Int} {s : St} {w : World} (h : inP b A N C s w) (hA : Ints .u8 w A N C all) (hap : ∀ b' off, A = some ⟨b', off, none⟩ → b' ≠ b) (hN : N ≤ 1073741824) : Calls Try.prog 114 #[.pointer (some ⟨b, 0, none⟩)] w fun e w' => ∃ ra rc, e = .returned (itV (pIt all s).2.1 (pIt all s).2.2.1 ra (pIt all s).2.2.2.length rc) ∧ Hp w w' [.row w.heap.size (.slice ra (pIt all s).2.2.2.length rc) 5 1 (pIt all s).2.2.2.length ((pIt all s).2.2.2.map (.int .u8)), inE b A N C (pIt all s).1] := by
  obtain ⟨a, n, c, h1, h2⟩ := h
  exact (getitem_ok b a n c A N C s.2 all s.1 w h1 h2 hA hap hN).mono fun e w' ⟨a', n', c', ra, rc, e1, e2, e3⟩ => ⟨ra, rc, e1, Hp.toIn2 (s := (pIt all s).1) rfl e3 e2⟩
def hIt (H : Hd) (x y : Int) : Hd := ⟨H.kd, H.ag, H.ep, x, y, H.cu, H.li⟩
def p2 (all : List Int) (q : St) : St := (pN all (pN all q).1).1
structure GiI where
  i : Nat
  a : Option Addr
  c : Nat
  css : List (List Value)
  G : Nat → Prop
abbrev bodE (css : List (List Value)) (l : List ItemI) (G : Nat → Prop) : HE := .rep (fun w => (Bod Ritem css l).at_ w G undef) G true
theorem Hp.nilBod {w0 w : World} {o : OL} (h : Hp w0 w o) : Hp w0 w (bodE [] [] (fun _ => False) :: o) :=
  h.more ⟨Bod.nil_, fun w1 w2 h1 h2 => (Bod Ritem [] []).keep h2 fun k hk _ => hk.elim, fun k hk => hk.elim⟩ fun e he hr k hk => hk.elim
/-- One item more, with its body's row. -/
theorem Hp.snocBod {w0 w : World} {o : OL} {css : List (List Value)} {l : List ItemI} {G : Nat → Prop} {x : ItemI} {ra : Option Addr} {rc : Nat} (h : Hp w0 w (bodE css l G :: .row w0.heap.size (.slice ra x.2.2.length rc) 5 1 x.2.2.length (x.2.2.map (.int .u8)) :: o)) (h1 : Fits .u64 x.1) (h2 : Fits .i64 x.2.1) (h3 : ∀ z ∈ x.2.2, Fits .u8 z) :
    Hp w0 w (bodE (css ++ [[.int .u64 x.1, .int .i64 x.2.1, .slice ra x.2.2.length rc]]) (l ++ [x]) (fun k => G k ∨ (Value.slice ra x.2.2.length rc).ownBlock = some k) :: o) := by
  have hB := h.own _ List.mem_cons_self
  have hr : w.ownsRow w0.heap.size 5 1 (.slice ra x.2.2.length rc) x.2.2.length (x.2.2.map (.int .u8)) := h.own _ (List.mem_cons_of_mem _ List.mem_cons_self)
  have hr' := hr
  rw [← map_one] at hr'
  have hs : SlR (Rint .u8) w (fun k => G k ∨ (Value.slice ra x.2.2.length rc).ownBlock = some k) ra x.2.2.length rc x.2.2 := .of_row (flat_int .u8) hr' rfl h3 fun k hk hb => .inr hb
  refine Hp.regroup [bodE css l G, .row w0.heap.size (.slice ra x.2.2.length rc) 5 1 x.2.2.length (x.2.2.map (.int .u8))] [bodE (css ++ [[.int .u64 x.1, .int .i64 x.2.1, .slice ra x.2.2.length rc]]) (l ++ [x]) (fun k => G k ∨ (Value.slice ra x.2.2.length rc).ownBlock = some k)] h (fun e he => ?_) (fun e he => ?_) (List.pairwise_singleton _ _) (fun e he k hk => ?_) (fun e he k hk => ?_)
  · simp only [List.mem_cons, List.not_mem_nil, or_false] at he
    rcases he with rfl | rfl <;> rfl
  · rw [List.mem_singleton] at he
    subst he
    refine ⟨rfl, Bod.snoc (Vp.mono _ hB.1 fun k hk => .inl hk) (item_of h1 h2 hs), fun w1 w2 g1 g2 => (Bod Ritem _ _).keep g2 fun k hk _ => ⟨g1 k hk, hk⟩, fun k hk => ?_⟩
    rcases hk with hk | hk
    · exact hB.2.2 k hk
    · exact (World.ownsRow.lt hr k hk).2
  · rw [List.mem_singleton] at he
    subst he
    rcases hk with hk | hk
    · exact ⟨_, List.mem_cons_self, hk⟩
    · exact ⟨_, List.mem_cons_of_mem _ List.mem_cons_self, hk⟩
  · simp only [List.mem_cons, List.not_mem_nil, or_false] at he
    rcases he with rfl | rfl
    · exact .inr ⟨_, List.mem_cons_self, .inl hk⟩
    · exact .inr ⟨_, List.mem_cons_self, .inr hk⟩
end Go.Proofs.Ytnefhhoijonnaaa
