/-
  Frames: two that may be have the same bytes just if they are alike; the plain law. Conditions: each theorem's own.
-/
import Derived.Test.YtnefhhoijonnaaaFrI
namespace Go.Proofs.Ytnefhhoijonnaaa
open Go Go.RowKit
set_option linter.unusedVariables false

theorem encU_app {x y : Int} (hx : Fits .u64 x) (hy : Fits .u64 y) {r r' : List Int} (h : encU x ++ r = encU y ++ r') : x = y ∧ r = r' := by
  have h1 := fits_u64 hx
  have h2 := fits_u64 hy
  have e1 := dec_enc x.toNat 0 r (by decide) (.inl rfl) (by show x.toNat < 18446744073709551616; omega)
  have e2 := dec_enc y.toNat 0 r' (by decide) (.inl rfl) (by show y.toNat < 18446744073709551616; omega)
  unfold encU at h
  rw [h, e2] at e1
  have e3 : y.toNat = x.toNat := by injection e1 with _ e; injection e
  have e4 : x = y := by omega
  subst e4
  exact ⟨rfl, List.append_cancel_left h⟩
theorem encN_app : ∀ {l m : List Int} {r r' : List Int}, (∀ x ∈ l, Fits .u64 x) → (∀ x ∈ m, Fits .u64 x) → l.length = m.length → encN l ++ r = encN m ++ r' → l = m ∧ r = r'
  | [], [], r, r', _, _, _, h => ⟨rfl, h⟩
  | x :: l, y :: m, r, r', hl, hm, hn, h => by
    have e : ∀ (z : Int) (k s : List Int), encN (z :: k) ++ s = encU z ++ (encN k ++ s) := fun z k s => by
      unfold encN
      rw [List.map_cons, List.flatten_cons, List.append_assoc]
    rw [e, e] at h
    obtain ⟨e1, e2⟩ := encU_app (hl x List.mem_cons_self) (hm y List.mem_cons_self) h
    obtain ⟨e3, e4⟩ := encN_app (fun z hz => hl z (List.mem_cons_of_mem _ hz)) (fun z hz => hm z (List.mem_cons_of_mem _ hz)) (by simpa using hn) e2
    exact ⟨by rw [e1, e3], e4⟩
  | [], y :: m, _, _, _, _, hn, _ => by simp at hn
  | x :: l, [], _, _, _, _, hn, _ => by simp at hn
def okIt (x : ItemI) : Prop := Fits .u64 x.1 ∧ (0 ≤ x.2.1 ∧ x.2.1 < 8) ∧ x.2.2.length ≤ 4096
theorem item_app {x y : ItemI} (hx : okIt x) (hy : okIt y) {r r' : List Int} (h : encU x.1 ++ spB x.2.1 x.2.2 ++ r = encU y.1 ++ spB y.2.1 y.2.2 ++ r') : x = y ∧ r = r' := by
  have h1 := fits_u64 hx.1
  have h2 := fits_u64 hy.1
  have e1 := getI_put (N := x.1.toNat) (k := x.2.1) (zs := x.2.2) (bh := r) (by omega) hx.2.1.1 hx.2.1.2 hx.2.2
  have e2 := getI_put (N := y.1.toNat) (k := y.2.1) (zs := y.2.2) (bh := r') (by omega) hy.2.1.1 hy.2.1.2 hy.2.2
  unfold encU at h
  rw [h, e2] at e1
  have e3 : y.1.toNat = x.1.toNat ∧ y.2 = x.2 := by
    injection e1 with _ e
    injection e with e _
    injection e with e5 e6
    exact ⟨e5, by rw [show y.2 = (y.2.1, y.2.2) from rfl, e6]⟩
  have e4 : x = y := by
    rw [Prod.ext_iff]
    exact ⟨by omega, e3.2.symm⟩
  subst e4
  exact ⟨rfl, List.append_cancel_left h⟩
theorem itsN_app : ∀ {l m : List ItemI} {r r' : List Int}, (∀ x ∈ l, okIt x) → (∀ x ∈ m, okIt x) → l.length = m.length → itsN l ++ r = itsN m ++ r' → l = m ∧ r = r'
  | [], [], r, r', _, _, _, h => ⟨rfl, h⟩
  | x :: l, y :: m, r, r', hl, hm, hn, h => by
    have e : ∀ (z : ItemI) (k : List ItemI) (s : List Int), itsN (z :: k) ++ s = encU z.1 ++ spB z.2.1 z.2.2 ++ (itsN k ++ s) := fun z k s => by
      unfold itsN
      rw [List.map_cons, List.flatten_cons, List.append_assoc]
    rw [e, e] at h
    obtain ⟨e1, e2⟩ := item_app (hl x List.mem_cons_self) (hm y List.mem_cons_self) h
    obtain ⟨e3, e4⟩ := itsN_app (fun z hz => hl z (List.mem_cons_of_mem _ hz)) (fun z hz => hm z (List.mem_cons_of_mem _ hz)) (by simpa using hn) e2
    exact ⟨by rw [e1, e3], e4⟩
  | [], y :: m, _, _, _, _, hn, _ => by simp at hn
  | x :: l, [], _, _, _, _, hn, _ => by simp at hn
theorem runN_inj : ∀ {l m : List Run}, runN l = runN m → l = m
  | [], [], _ => rfl
  | x :: l, y :: m, h => by
    have e : ∀ (z : Run) (k : List Run), runN (z :: k) = z.1 :: z.2 :: runN k := fun z k => rfl
    rw [e, e] at h
    injection h with h1 h2
    injection h2 with h2 h3
    rw [runN_inj h3, Prod.ext h1 h2]
  | [], y :: m, h => by cases h
  | x :: l, [], h => by cases h
theorem runN_fits {l : List Run} (h : ∀ r ∈ l, okR r) : ∀ x ∈ runN l, Fits .u64 x := fun x hx => by
  obtain ⟨c, hc, hxc⟩ := List.mem_flatten.1 hx
  obtain ⟨r, hr, rfl⟩ := List.mem_map.1 hc
  simp only [List.mem_cons, List.not_mem_nil, or_false] at hxc
  rcases hxc with rfl | rfl
  · exact (h r hr).1
  · exact (h r hr).2
theorem runN_len (l : List Run) : (runN l).length = 2 * l.length := by
  induction l with
  | nil => rfl
  | cons r l ih =>
    show (r.1 :: r.2 :: runN l).length = _
    rw [List.length_cons, List.length_cons, ih, List.length_cons]
    omega
theorem closeB_inj {a b : List Int} (h : closeB a = closeB b) : a = b := by
  have hl : a.length = b.length := by
    have := congrArg List.length h
    rw [closeB_len, closeB_len] at this
    omega
  unfold closeB at h
  exact List.append_inj_left h hl
/-- What a frame's lists keep. -/
structure Oks (rs : List Run) (its : List ItemI) : Prop where
  r : ∀ r ∈ rs, okR r
  i : ∀ x ∈ its, Fits .u64 x.1
theorem FsR.oks {w : World} {A : Nat → Prop} {s : Fs} {rs : List Run} {its : List ItemI} (h : FsR w A s rs its) : Oks rs its := ⟨(h.r.flat flat_run).2, fun x hx => by
  obtain ⟨j, hj, rfl⟩ := List.getElem_of_mem hx
  obtain ⟨_, _, _, _, _, _, h1, _, _⟩ := item_read h.i.tt hj
  exact h1⟩
theorem itsR_ok {b : Int} {its : List ItemI} (h : itsR b its) (hf : ∀ x ∈ its, Fits .u64 x.1) : ∀ x ∈ its, okIt x := fun x hx => by
  obtain ⟨j, hj, rfl⟩ := List.getElem_of_mem hx
  have := (h j hj).1
  exact ⟨hf _ hx, ⟨this.1, this.2.1⟩, this.2.2⟩
theorem graN_fits {H : Hd} (hf : H.Fit) {n : Nat} (hn : n ≤ 1000) : ∀ x ∈ graN H n, Fits .u64 x := fun x hx => by
  simp only [graN, List.mem_cons, List.not_mem_nil, or_false] at hx
  rcases hx with rfl | rfl | rfl | rfl
  · exact hf.inc
  · exact hf.cu
  · exact hf.li
  · exact mk_u64 (by omega)
theorem batN_fits {H : Hd} (hf : H.Fit) {n : Nat} (hn : n ≤ 1000) : ∀ x ∈ batN H n, Fits .u64 x := fun x hx => by
  simp only [batN, List.mem_cons, List.not_mem_nil, or_false] at hx
  rcases hx with rfl | rfl | rfl
  · exact hf.inc
  · exact hf.ba
  · exact mk_u64 (by omega)
theorem inB_inj {H G : Hd} {rs rs' : List Run} {its its' : List ItemI} (hf : H.Fit) (gf : G.Fit) (ho : Oks rs its) (go : Oks rs' its') (hR : frR H rs its) (gR : frR G rs' its') (h : inB H rs its = inB G rs' its') : frEq H G rs rs' its its' := by
  have hkr := kindR_r hR.2.2.2
  have gkr := kindR_r gR.2.2.2
  have hki := (kindR_i hR.2.2.2).1
  have gki := (kindR_i gR.2.2.2).1
  obtain ⟨hk, hr⟩ := frR_rr hf hR
  obtain ⟨gk, gr⟩ := frR_rr gf gR
  have hag : Fits .u64 H.ag := mk_u64 ⟨hR.1, by have := hR.2.1; omega⟩
  have gag : Fits .u64 G.ag := mk_u64 ⟨gR.1, by have := gR.2.1; omega⟩
  unfold inB at h
  simp only [List.append_assoc] at h
  obtain ⟨e0, h0⟩ := List.cons.inj (show H.kd :: (encU H.ag ++ (encU H.ep ++ partB H rs its)) = G.kd :: (encU G.ag ++ (encU G.ep ++ partB G rs' its')) from h)
  have h1 := encU_app hag gag h0
  have h2 := encU_app hf.ep gf.ep h1.2
  have h3 := h2.2
  unfold partB at h3
  by_cases k1 : H.kd = 1
  · have k1' : G.kd = 1 := by omega
    rw [if_pos k1, if_pos k1'] at h3
    obtain ⟨a1, a2, a3, a4⟩ := hr.b1 (.inl k1)
    obtain ⟨b1, b2, b3, b4⟩ := gr.b1 (.inl (e0 ▸ k1))
    have a5 := hr.b4 (by omega)
    have b5 := gr.b4 (by omega)
    have a6 := hr.b3 k1
    have b6 := gr.b3 (e0 ▸ k1)
    have e1 := encU_app hf.ba gf.ba (r := []) (r' := []) (by rw [List.append_nil, List.append_nil]; exact h3)
    exact ⟨⟨e0, h1.1, h2.1, by rw [a6, b6], e1.1, by rw [a2, b2], by rw [a3, b3]⟩, by rw [List.eq_nil_of_length_eq_zero a4, List.eq_nil_of_length_eq_zero b4], by rw [List.eq_nil_of_length_eq_zero a5, List.eq_nil_of_length_eq_zero b5]⟩
  have k1' : ¬ G.kd = 1 := by omega
  rw [if_neg k1, if_neg k1'] at h3
  by_cases k3 : H.kd = 3
  · have k3' : G.kd = 3 := by omega
    rw [if_pos k3, if_pos k3'] at h3
    obtain ⟨a1, a2, a3, a4⟩ := hr.b1 (.inr k3)
    obtain ⟨b1, b2, b3, b4⟩ := gr.b1 (.inr (e0 ▸ k3))
    obtain ⟨e1, e2⟩ := encN_app (batN_fits hf (n := its.length) (by omega)) (batN_fits gf (n := its'.length) (by omega)) rfl h3
    unfold batN at e1
    injection e1 with e3 e1
    injection e1 with e4 e1
    injection e1 with e5 e1
    have e6 := itsN_app (itsR_ok hr.d ho.i) (itsR_ok gr.d go.i) (by omega) (r := []) (r' := []) (by rw [List.append_nil, List.append_nil]; exact e2)
    exact ⟨⟨e0, h1.1, h2.1, e3, e4, by rw [a2, b2], by rw [a3, b3]⟩, by rw [List.eq_nil_of_length_eq_zero a4, List.eq_nil_of_length_eq_zero b4], e6.1⟩
  · have k3' : ¬ G.kd = 3 := by omega
    rw [if_neg k3, if_neg k3'] at h3
    have hs : ¬ sndR H := by unfold sndR; omega
    have gs : ¬ sndR G := by unfold sndR; omega
    have a1 := hr.b2 hs
    have b1 := gr.b2 gs
    have a5 := hr.b4 k3
    have b5 := gr.b4 (by omega)
    obtain ⟨e1, e2⟩ := encN_app (graN_fits hf (n := rs.length) (by omega)) (graN_fits gf (n := rs'.length) (by omega)) rfl h3
    unfold graN at e1
    injection e1 with e3 e1
    injection e1 with e4 e1
    injection e1 with e5 e1
    injection e1 with e6 e1
    have e7 := encN_app (runN_fits ho.r) (runN_fits go.r) (by rw [runN_len, runN_len]; omega) (r := []) (r' := []) (by rw [List.append_nil, List.append_nil]; exact e2)
    exact ⟨⟨e0, h1.1, h2.1, e3, by rw [a1, b1], e4, e5⟩, runN_inj e7.1, by rw [List.eq_nil_of_length_eq_zero a5, List.eq_nil_of_length_eq_zero b5]⟩
theorem frEq_inB {H G : Hd} {rs rs' : List Run} {its its' : List ItemI} (h : frEq H G rs rs' its its') : frB H rs its = frB G rs' its' := by
  obtain ⟨⟨e1, e2, e3, e4, e5, e6, e7⟩, rfl, rfl⟩ := h
  have : H = G := by
    cases H
    cases G
    dsimp only at e1 e2 e3 e4 e5 e6 e7
    subst e1 e2 e3 e4 e5 e6 e7
    rfl
  rw [this]
theorem frB_iff {H G : Hd} {rs rs' : List Run} {its its' : List ItemI} (hf : H.Fit) (gf : G.Fit) (ho : Oks rs its) (go : Oks rs' its') (hR : frR H rs its) (gR : frR G rs' its') : frB H rs its = frB G rs' its' ↔ frEq H G rs rs' its its' :=
  ⟨fun h => inB_inj hf gf ho go hR gR (closeB_inj h), frEq_inB⟩
end Go.Proofs.Ytnefhhoijonnaaa
