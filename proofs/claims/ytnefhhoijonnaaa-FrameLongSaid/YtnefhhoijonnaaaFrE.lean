/-
  Frames: Encode. Conditions: each theorem's own.
-/
import Derived.Test.YtnefhhoijonnaaaFrD
namespace Go.Proofs.Ytnefhhoijonnaaa
open Go Go.RowKit
set_option linter.unusedVariables false

abbrev ItemI := Int × (Int × List Int)
def partB (H : Hd) (rs : List Run) (its : List ItemI) : List Int := if H.kd = 1 then encU H.ba else if H.kd = 3 then encN (batN H its.length) ++ itsN its else encN (graN H rs.length) ++ encN (runN rs)
def inB (H : Hd) (rs : List Run) (its : List ItemI) : List Int := [H.kd] ++ encU H.ag ++ encU H.ep ++ partB H rs its
def frB (H : Hd) (rs : List Run) (its : List ItemI) : List Int := closeB (inB H rs its)
open Classical in
noncomputable def encE (H : Hd) (rs : List Run) (its : List ItemI) : Int := if frR H rs its then if 65507 < (frB H rs its).length then 6 else 0 else 1
open Classical in
noncomputable def encZ (H : Hd) (rs : List Run) (its : List ItemI) : List Int := if frR H rs its then if 65507 < (frB H rs its).length then [] else frB H rs its else []
theorem kindR_i {H : Hd} {rs : List Run} {its : List ItemI} (h : kindR H rs its) : its.length ≤ 64 ∧ ∀ x ∈ its, x.2.2.length ≤ 4096 := by
  rcases h with ⟨_, h⟩ | ⟨_, h⟩ | ⟨_, h1, h2⟩
  · obtain ⟨_, _, _, _, _, h⟩ := h
    have : its = [] := List.eq_nil_of_length_eq_zero h
    subst this
    exact ⟨by decide, fun x hx => by cases hx⟩
  · obtain ⟨_, _, h, _⟩ := h
    have : its = [] := List.eq_nil_of_length_eq_zero h
    subst this
    exact ⟨by decide, fun x hx => by cases hx⟩
  · refine ⟨h1.2.2.2.2, fun x hx => ?_⟩
    obtain ⟨j, hj, rfl⟩ := List.getElem_of_mem hx
    exact (h2 j hj).1.2.2
theorem kindR_r {H : Hd} {rs : List Run} {its : List ItemI} (h : kindR H rs its) : rs.length ≤ 32 := by
  rcases h with ⟨_, h⟩ | ⟨_, h⟩ | ⟨_, h1, h2⟩
  · have := h.2.2.2.2.1; omega
  · exact h.2.2.2.1
  · have := h1.2.2.2.1; omega
/-- A kind's form, with what its methods do. -/
theorem form_put {H : Hd} {s : Fs} {rs : List Run} {its : List ItemI} {l : List Value} {q : Bool} (hf : H.Fit) (hfo : FormI H.kd l q) (hk : kindR H rs its) {B : Nat → Prop} {w : World} (hx : FsR w B s rs its) :
    ∃ (u1 : ByteArray) (g1 g2 g3 : Nat), l = [.string u1, fnV g1, fnV g2, fnV g3] ∧ (∀ args w, (callFunc g2 args).run Try.prog w = .ok (.enter g2 args) w) ∧ ∀ (w1 : World) (v : Value) (zs : List Int) (A : Nat → Prop), Below w.heap.size w w1 → (bP zs).at_ w1 A v → zs.length ≤ 1000000 → Calls Try.prog g2 #[frV H s, v] w1 fun e w' => ∃ r, e = .returned r ∧ Below w1.heap.size w1 w' ∧ (bP (zs ++ partB H rs its)).at_ w' (fun k => w1.heap.size ≤ k) r := by
  obtain ⟨hi1, hi2⟩ := kindR_i hk
  have hr1 := kindR_r hk
  have hl := hx.r.len
  have hil := hx.i.len
  generalize hkd : H.kd = kd at hfo
  cases hfo with
  | hello =>
    refine ⟨_, _, _, _, rfl, Try.call88, fun w1 v zs A hb hv hz => ?_⟩
    rw [show partB H rs its = encU H.ba by unfold partB; rw [hkd]; rfl]
    exact putBase_ok H s hf w1 hv (by omega)
  | welcome =>
    refine ⟨_, _, _, _, rfl, Try.call85, fun w1 v zs A hb hv hz => ?_⟩
    rw [show partB H rs its = encN (graN H rs.length) ++ encN (runN rs) by unfold partB; rw [hkd]; rfl, ← List.append_assoc]
    exact putGrant_ok H s hf w1 (hx.r.ext hb) hv hz (by omega)
  | batch =>
    refine ⟨_, _, _, _, rfl, Try.call91, fun w1 v zs A hb hv hz => ?_⟩
    rw [show partB H rs its = encN (batN H its.length) ++ itsN its by unfold partB; rw [hkd]; rfl, ← List.append_assoc]
    exact putItems_ok H s hf w1 (hx.i.ext hb) hv hz (by omega) hi2
  | ack =>
    refine ⟨_, _, _, _, rfl, Try.call85, fun w1 v zs A hb hv hz => ?_⟩
    rw [show partB H rs its = encN (graN H rs.length) ++ encN (runN rs) by unfold partB; rw [hkd]; rfl, ← List.append_assoc]
    exact putGrant_ok H s hf w1 (hx.r.ext hb) hv hz (by omega)
  | no k h =>
    exfalso
    unfold kindR at hk
    omega
theorem u64n_len {l : List Run} (h : ∀ r ∈ l, okR r) : (encN (runN l)).length ≤ 20 * l.length := by
  induction l with
  | nil => exact Nat.le_refl _
  | cons r l ih =>
    have h1 := ih fun y hy => h y (List.mem_cons_of_mem _ hy)
    have h2 := encU_len (h r List.mem_cons_self).1
    have h3 := encU_len (h r List.mem_cons_self).2
    unfold runN encN at h1 ⊢
    rw [List.map_cons, List.flatten_cons, List.map_append, List.flatten_append, List.length_append, List.length_cons]
    simp only [List.map_cons, List.map_nil, List.flatten_cons, List.flatten_nil, List.append_nil, List.length_append]
    omega
theorem bP_blk {w : World} {b : Nat} {zs : List Int} {e : TypeId} {fz : Nat × Nat} (h : w.heap[b]? = some (.cells ⟨zs.map (.int .u8)⟩ e fz)) (hf : ∀ z ∈ zs, Fits .u8 z) (hm : zs.length ≤ maxLen) : (bP zs).at_ w TT (.slice (some ⟨b, 0, none⟩) zs.length zs.length) := by
  have hs : Sl w 1 (some ⟨b, 0, none⟩) zs.length (zs.map (.int .u8)) := Sl.of_blk h (by rw [List.length_map, Nat.mul_one]) fun j u hu => by rw [Nat.zero_add]; exact hu
  rw [← map_one] at hs
  exact SlR.val (.of_flat (flat_int .u8) rfl (Nat.le_refl _) hm (fun h => by cases h) hs hf fun _ => ⟨b, 0, rfl, trivial⟩)
theorem partB_len {H : Hd} {s : Fs} {rs : List Run} {its : List ItemI} {w : World} {A : Nat → Prop} (hf : H.Fit) (hk : kindR H rs its) (hx : FsR w A s rs its) : (partB H rs its).length ≤ 300000 := by
  obtain ⟨hi1, hi2⟩ := kindR_i hk
  have hr1 := kindR_r hk
  have hfr := (hx.r.flat flat_run).2
  have hitf : ∀ x ∈ its, Fits .u64 x.1 ∧ x.2.2.length ≤ 4096 := fun x hx' => by
    obtain ⟨j, hj, rfl⟩ := List.getElem_of_mem hx'
    obtain ⟨_, _, _, _, _, _, h1, _, _⟩ := item_read hx.i.tt hj
    exact ⟨h1, hi2 _ hx'⟩
  have h1 := encU_len hf.ba
  have h2 := itsN_len hitf
  have h3 := u64n_len hfr
  have h4 : (encN (batN H its.length)).length ≤ 30 := encN_len (l := batN H its.length) fun x hx => by
    simp only [batN, List.mem_cons, List.not_mem_nil, or_false] at hx
    rcases hx with rfl | rfl | rfl
    · exact hf.inc
    · exact hf.ba
    · exact mk_u64 (by omega)
  have h5 : (encN (graN H rs.length)).length ≤ 40 := encN_len (l := graN H rs.length) fun x hx => by
    simp only [graN, List.mem_cons, List.not_mem_nil, or_false] at hx
    rcases hx with rfl | rfl | rfl | rfl
    · exact hf.inc
    · exact hf.cu
    · exact hf.li
    · exact mk_u64 (by omega)
  unfold partB
  split
  · omega
  split
  · rw [List.length_append]; omega
  · rw [List.length_append]; omega
theorem inB_len {H : Hd} {s : Fs} {rs : List Run} {its : List ItemI} {w : World} {A : Nat → Prop} (hf : H.Fit) (hR : frR H rs its) (hx : FsR w A s rs its) : (inB H rs its).length ≤ 300100 := by
  have h0 := partB_len hf hR.2.2.2 hx
  have h1 := encU_len (x := H.ag) (mk_u64 ⟨hR.1, by have := hR.2.1; omega⟩)
  have h2 := encU_len hf.ep
  unfold inB
  rw [List.length_append, List.length_append, List.length_append, List.length_singleton]
  omega
open Classical in
set_option maxHeartbeats 2000000 in
theorem encode_ok (H : Hd) (s : Fs) (hf : H.Fit) {A : Nat → Prop} {rs : List Run} {its : List ItemI} (w : World) (hx : FsR w A s rs its) (hn : s.rn ≤ 1000000) : Calls Try.prog 20 #[frV H s] w fun e w' => ∃ a c, e = .returned (.tuple #[.slice a (encZ H rs its).length c, .int .i64 (encE H rs its)]) ∧ Below w.heap.size w w' ∧ w'.ownsRow w.heap.size 5 1 (.slice a (encZ H rs its).length c) (encZ H rs its).length ((encZ H rs its).map (.int .u8)) := by
  obtain ⟨l, q, hfo⟩ := formI_ex H.kd
  have hl := hx.r.len
  have hil := hx.i.len
  refine enter1 Try.func20 rfl rfl (Hp.refl w) ?_
  repeat (first | refine T_seq ?_ | refine T_region ?_)
  refine S_new tabOk rfl (fun b hb => ?_)
  repeat (first | refine T_seq ?_ | refine T_region ?_ | refine S_nil ?_ | refine S_pure tabOk rfl ?_ | refine S_load tabOk 0 rfl rfl rfl ?_)
  by_cases hR : frR H rs its
  · refine S_callq (v := .bool true) rfl Try.call16 (fun w1 h1 => (right_ok H s hf A rs its w1 (hx.ext (h1.below (by repeat (first | exact new_nil | refine new_cons (by first | assumption | omega) ?_)))) hn).mono fun e w' ⟨e1, e2⟩ => ⟨by rw [e1]; exact retb (decide_eq_true hR), e2⟩) ?_
    repeat (first | refine S_nil ?_ | refine S_pure tabOk rfl ?_)
    refine T_cond_f rfl ?_
    repeat (first | refine T_seq ?_ | refine T_region ?_ | refine pthen_normal ?_ | refine T_skip ?_ | refine S_pure tabOk rfl ?_ | refine S_load tabOk 0 rfl rfl rfl ?_)
    refine S_callq rfl Try.call46 (fun w1 h1 => forms_ok hfo w1) ?_
    repeat (first | refine S_pure tabOk rfl ?_)
    obtain ⟨u1, g1, g2, g3, rfl, hg, hput⟩ := form_put hf hfo hR.2.2.2 hx
    have hag := hR.1
    have hag2 := hR.2.1
    refine S_new tabOk rfl (fun b3 hb3 => ?_)
    repeat (first | refine T_seq ?_ | refine S_nil ?_ | refine S_pure tabOk rfl ?_ | refine S_store tabOk 0 rfl rfl rfl rfl rfl rfl ?_)
    refine T_asThen ?_
    refine T_drawT (by kernel_rfl) 14 rfl (by kernel_rfl) ?_
    repeat (first | refine D_pure tabOk rfl ?_ | refine D_load tabOk 0 rfl rfl rfl ?_ | refine D_load tabOk 1 rfl rfl rfl ?_)
    refine D_bsliceF tabOk rfl rfl rfl rfl rfl rfl rfl rfl rfl rfl rfl rfl ?_
    repeat (first | refine D_u64 tabOk rfl (by omega) ?_ | refine D_pure tabOk rfl ?_ | refine D_load tabOk 1 rfl rfl rfl ?_)
    refine D_callR (bP ([H.kd] ++ encU H.ag)) (fun _ => False) rfl Try.call55 (fun w' vs hw' h7 => by
      obtain ⟨u1, _, rfl, g1, u2, _, rfl, rfl, rfl⟩ := h7
      obtain ⟨b7, rfl, h8, _⟩ := g1
      exact (num_p H.ag (mk_u64 (by omega)) w' (bP_blk (zs := [H.kd]) h8 (fun z hz => by rw [List.mem_singleton] at hz; subst hz; exact hf.kd) (Nat.le_of_ble_eq_true rfl)) (Nat.le_of_ble_eq_true rfl)).mono fun e w2 ⟨r, e1, e2, e3⟩ => ⟨r, e1, e2, nbb' hw' e3⟩) ?_
    repeat (first | refine D_pure tabOk rfl ?_ | refine D_load tabOk 1 rfl rfl rfl ?_)
    refine D_callR (bP ([H.kd] ++ encU H.ag ++ encU H.ep)) (fun _ => False) rfl Try.call55 (fun w' vs hw' h7 => by
      obtain ⟨u1, _, rfl, g1, u2, _, rfl, rfl, rfl⟩ := h7
      exact (num_p H.ep hf.ep w' g1 (by have := encU_len (x := H.ag) (mk_u64 (by omega)); rw [List.length_append, List.length_singleton]; omega)).mono fun e w2 ⟨r, e1, e2, e3⟩ => ⟨r, e1, e2, nbb' hw' e3⟩) ?_
    skip
    refine D_callvR (bP (inB H rs its)) (fun _ => False) rfl rfl rfl hg (fun w' vs hw' h7 => by
      obtain ⟨u1, _, rfl, rfl, u2, _, rfl, g2, rfl⟩ := h7
      exact (hput w' u2 _ _ (hw'.below (by repeat (first | exact new_nil | refine new_cons (by first | assumption | omega) ?_))) g2 (by
        have h1 := encU_len (x := H.ag) (mk_u64 (by omega))
        have h2 := encU_len hf.ep
        rw [List.length_append, List.length_append, List.length_singleton]
        omega)).mono fun e w2 ⟨r, e1, e2, e3⟩ => ⟨r, e1, e2, nbb' hw' e3⟩) ?_
    refine D_outW 29 rfl (fun w' v hw' h1 => h1) (fun v2 F2 w2 hF2 hv2 => ⟨_, rfl, ?_⟩)
    refine D_allP rfl ?_
    obtain ⟨a2, n2, c2, rfl, hs2⟩ := SlR.form hv2
    skip
    refine S_callrow rfl Try.call54 (fun w1 h1 => close_ok a2 n2 c2 (inB H rs its) w1 (bP_ints (Vp.fact0 (p := bP (inB H rs its)) h1 2 rfl)) (by have := inB_len hf hR hx; omega)) (fun a3 c3 hc3 hd3 => ?_)
    repeat (first | refine T_seq ?_ | refine T_region ?_ | refine S_nil ?_ | refine pthen_normal ?_ | refine S_pure tabOk rfl ?_)
    refine T_cond_dec rfl (fun h5 => ?_) (fun h5 => ?_)
    · have h5' : 65507 < (frB H rs its).length := by
        have : (65507 : Int) < ((frB H rs its).length : Nat) := h5
        omega
      have e1 : encE H rs its = 6 := by unfold encE; rw [if_pos hR, if_pos h5']
      have e2 : encZ H rs its = [] := by unfold encZ; rw [if_pos hR, if_pos h5']
      rw [e1, e2]
      repeat (first | refine T_seq ?_ | refine T_region ?_ | refine S_nil ?_ | refine pthen_ret ?_ | refine T_ret ?_ | refine S_pure tabOk rfl ?_)
      exact ret2 rfl rfl rfl (fun w' hw => ⟨_, _, rfl, hw.below (by repeat (first | exact new_nil | refine new_ro ?_ | refine new_cons (by first | assumption | omega) ?_ | refine newrow hw 0 rfl (Nat.le_refl _) ?_)), World.ownsRow_nil w' _ _ _⟩)
    · have h5' : ¬ 65507 < (frB H rs its).length := by
        have : ¬ (65507 : Int) < ((frB H rs its).length : Nat) := h5
        omega
      have e1 : encE H rs its = 0 := by unfold encE; rw [if_pos hR, if_neg h5']
      have e2 : encZ H rs its = frB H rs its := by unfold encZ; rw [if_pos hR, if_neg h5']
      rw [e1, e2]
      repeat (first | refine T_seq ?_ | refine T_region ?_ | refine S_nil ?_ | refine pthen_normal ?_ | refine T_skip ?_ | refine T_ret ?_ | refine S_pure tabOk rfl ?_)
      exact ret2 rfl rfl rfl (fun w' hw => ⟨_, _, rfl, hw.below (by repeat (first | exact new_nil | refine new_ro ?_ | refine new_cons (by first | assumption | omega) ?_ | refine newrow hw 0 rfl (Nat.le_refl _) ?_)), hw.own _ (getE_mem (i := 0) rfl)⟩)
  · have e1 : encE H rs its = 1 := by unfold encE; rw [if_neg hR]
    have e2 : encZ H rs its = [] := by unfold encZ; rw [if_neg hR]
    rw [e1, e2]
    refine S_callq (v := .bool false) rfl Try.call16 (fun w1 h1 => (right_ok H s hf A rs its w1 (hx.ext (h1.below (by repeat (first | exact new_nil | refine new_cons (by first | assumption | omega) ?_)))) hn).mono fun e w' ⟨e1, e2⟩ => ⟨by rw [e1]; exact retb (decide_eq_false hR), e2⟩) ?_
    repeat (first | refine S_nil ?_ | refine S_pure tabOk rfl ?_)
    refine T_cond_t rfl ?_
    repeat (first | refine T_seq ?_ | refine T_region ?_ | refine S_nil ?_ | refine pthen_ret ?_ | refine T_ret ?_ | refine S_pure tabOk rfl ?_)
    exact ret2 rfl rfl rfl (fun w' hw => ⟨_, _, rfl, hw.below (by repeat (first | exact new_nil | refine new_cons (by first | assumption | omega) ?_)), World.ownsRow_nil w' _ _ _⟩)
end Go.Proofs.Ytnefhhoijonnaaa
