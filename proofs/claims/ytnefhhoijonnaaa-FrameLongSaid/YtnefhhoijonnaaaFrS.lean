/-
  Frames: one byte turned; the walk of FrameTurned. Conditions: each theorem's own.
-/
import Derived.Test.YtnefhhoijonnaaaFrR
namespace Go.Proofs.Ytnefhhoijonnaaa
open Go Go.RowKit
set_option linter.unusedVariables false

def bx (x y : Int) : Int := bits .xor .u8 x y
theorem bx_fits (x y : Int) : Fits .u8 (bx x y) := by
  have e : bx x y = IntKind.u8.wrap ((BitVec.ofInt 8 x ^^^ BitVec.ofInt 8 y).toNat : Int) := rfl
  rw [e, wrap8]
  exact fits8 (by omega)
theorem bx_ne {x y : Int} (hx : Fits .u8 x) (hy : Fits .u8 y) (h : bx x y = x) : y = 0 := by
  have fx := fits_u8 hx
  have fy := fits_u8 hy
  have e : bx x y = IntKind.u8.wrap ((BitVec.ofInt 8 x ^^^ BitVec.ofInt 8 y).toNat : Int) := rfl
  have lt := (BitVec.ofInt 8 x ^^^ BitVec.ofInt 8 y).isLt
  rw [e, wrap8, Nat.mod_eq_of_lt lt] at h
  have ex : ((BitVec.ofInt 8 x).toNat : Int) = x := by rw [BitVec.toNat_ofInt]; omega
  have ey : ((BitVec.ofInt 8 y).toNat : Int) = y := by rw [BitVec.toNat_ofInt]; omega
  have h2 : BitVec.ofInt 8 x ^^^ BitVec.ofInt 8 y = BitVec.ofInt 8 x := by
    apply BitVec.eq_of_toNat_eq
    omega
  have h3 := congrArg (BitVec.ofInt 8 x ^^^ ·) h2
  simp only [← BitVec.xor_assoc, BitVec.xor_self, BitVec.zero_xor] at h3
  rw [← ey, h3]
  rfl
/-- What was closed, one byte turned, isn't closed. -/
theorem turned1 {ys p : List Int} (hp : p = closeB ys) (hf : ∀ z ∈ p, Fits .u8 z) {k : Nat} (hk : k < p.length) {x : Int} (fx : Fits .u8 x) (hne : p[k] ≠ x) (xs : List Int) : closeB xs ≠ p.set k x := by
  have hl : 4 ≤ p.length := by rw [hp, closeB_len]; omega
  obtain ⟨s, hs⟩ : ∃ s, s = min k (p.length - 4) := ⟨_, rfl⟩
  have hs1 : s ≤ k ∧ k < s + 4 ∧ s + 4 ≤ p.length := by omega
  have e1 : p = p.take s ++ ((p.drop s).take 4 ++ p.drop (s + 4)) := by
    rw [← List.drop_drop, List.take_append_drop, List.take_append_drop]
  have hw : ((p.drop s).take 4).length = 4 := by rw [List.length_take, List.length_drop]; omega
  have hlt : (p.take s).length = s := by rw [List.length_take]; omega
  have e2 : p.set k x = p.take s ++ (((p.drop s).take 4).set (k - s) x ++ p.drop (s + 4)) := by
    conv => lhs; rw [e1]
    rw [List.set_append_right _ _ (by omega), hlt, List.set_append_left _ _ (by omega)]
  have hg : ((p.drop s).take 4)[k - s]? = some p[k] := by
    rw [List.getElem?_take, if_pos (by omega), List.getElem?_drop, show s + (k - s) = k by omega, List.getElem?_eq_getElem hk]
  rw [e2]
  refine turned hw (by rw [List.length_set]; exact hw) (fun z hz => hf z (List.mem_of_mem_drop (List.mem_of_mem_take hz))) (fun z hz => ?_) (fun h => ?_) (ys := ys) (by rw [← hp]; exact e1) xs
  · rcases List.mem_or_eq_of_mem_set hz with h | h
    · exact hf z (List.mem_of_mem_drop (List.mem_of_mem_take h))
    · rw [h]; exact fx
  · have h2 : (((p.drop s).take 4).set (k - s) x)[k - s]? = ((p.drop s).take 4)[k - s]? := congrArg (fun l => l[k - s]?) h.symm
    rw [hg, List.getElem?_set_self (by omega)] at h2
    exact hne (Option.some.inj h2).symm
theorem openE_turned {ys p : List Int} (hp : p = closeB ys) (hf : ∀ z ∈ p, Fits .u8 z) {k : Nat} (hk : k < p.length) {x : Int} (fx : Fits .u8 x) (hne : p[k] ≠ x) : openE (p.set k x) = 3 := by
  have hl : 4 ≤ p.length := by rw [hp, closeB_len]; omega
  unfold openE
  rw [if_neg (by rw [List.length_set]; omega), if_neg (turned1 hp hf hk fx hne _)]
/-- What Decode answers. -/
def decP (r : Int × Hd × List Run × List ItemI) : Vp := ⟨fun w A v => ∃ s, v = .tuple #[frV r.2.1 s, .int .i64 r.1] ∧ FsR w A s r.2.2.1 r.2.2.2, fun ⟨s, e, h⟩ hk => ⟨s, e, h.r.keep hk, h.i.keep hk⟩⟩
theorem decP_of {r : Int × Hd × List Run × List ItemI} {w : World} {A : Nat → Prop} {s : Fs} (h : (decP r).at_ w A (.tuple #[frV r.2.1 s, .int .i64 r.1])) : FsR w A s r.2.2.1 r.2.2.2 := by
  obtain ⟨t, e, h⟩ := h
  have : s = t := by
    cases s
    cases t
    simp at e
    obtain ⟨⟨h1, h2, h3⟩, h4, h5, h6⟩ := e
    subst h1 h2 h3 h4 h5 h6
    rfl
  rw [this]
  exact h
theorem decode_v {a : Option Addr} {n c : Nat} {zs : List Int} (w : World) (hx : Ints .u8 w a n c zs) : Calls Try.prog 25 #[.slice a n c] w fun e w' => ∃ v, e = .returned v ∧ Below w.heap.size w w' ∧ (decP (decT zs)).at_ w' (fun k => w.heap.size ≤ k) v :=
  (decode_ok w hx).mono fun e w' ⟨s, e1, e2, e3⟩ => ⟨_, e1, e2, s, rfl, e3⟩
open Classical in
set_option maxHeartbeats 4000000 in
theorem frameTurned_walk (v : Value) (x : FrT) (at_ turn : Int) (W : World) (h : Rfr.val W TT v x) (hat : Fits .u16 at_) (htu : Fits .u8 turn) : Calls Try.prog 9 #[v, .int .u16 at_, .int .u8 turn] W fun e w' => e = .returned (.bool true) ∧ Below W.heap.size W w' := by
  obtain ⟨s, rfl, hf, hx⟩ := frame_form h
  have hat' := fits_u16 hat
  obtain ⟨H, hH⟩ : ∃ H, H = hdT x := ⟨_, rfl⟩
  rw [← hH] at hf ⊢
  have hy := few_fs hx
  obtain ⟨t, ht⟩ : ∃ t, t = fewS s := ⟨_, rfl⟩
  have ht1 : t.rn ≤ 40 := by rw [ht]; show min s.rn 40 ≤ 40; omega
  rw [← ht] at hy
  generalize (rsT x).take 40 = rs at hy
  generalize (itT x).take 70 = its at hy
  have hzf := encZ_fits (rs := rs) hf hy.body
  refine enter3 Try.func9 rfl rfl (Hp.refl W) ?_
  repeat (first | refine T_seq ?_ | refine T_region ?_)
  refine S_new tabOk rfl (fun b hb => ?_)
  repeat (first | refine T_seq ?_ | refine T_region ?_ | refine S_nil ?_ | refine S_pure tabOk rfl ?_)
  refine S_callq (v := .bool true) rfl Try.call14 (fun w1 h1 => awake5_ok w1) ?_
  repeat (first | refine T_seq ?_ | refine T_region ?_ | refine S_nil ?_ | refine pthen_normal ?_ | refine T_skip ?_ | refine T_cond_f rfl ?_ | refine S_pure tabOk rfl ?_ | refine S_load tabOk 0 rfl rfl rfl ?_)
  refine S_callq (v := frV H t) rfl Try.call15 (fun w1 h1 => by rw [ht]; exact few5_ok H s w1 hx.r.cap hx.i.cap hx.r.max hx.i.max) ?_
  skip
  refine S_callrow2 (m := (encZ H rs its).length) (xs := (encZ H rs its).map (.int .u8)) (v2 := .int .i64 (encE H rs its)) (E := 5) (sz := 1) rfl Try.call20 (fun w1 h1 => encode_ok H t hf w1 (hy.ext (h1.below (by repeat (first | exact new_nil | refine new_cons (by first | assumption | omega) ?_)))) (by omega)) (fun a1 c1 hc1 hd1 => ?_)
  repeat (first | refine T_seq ?_ | refine T_region ?_ | refine S_nil ?_ | refine S_pure tabOk rfl ?_)
  refine S_split rfl rfl (fun h1 => ?_) (fun h1 => ?_)
  · repeat (first | refine S_nil ?_ | refine S_pure tabOk rfl ?_ | refine S_pass rfl rfl rfl ?_)
    refine T_cond_t rfl ?_
    repeat (first | refine T_seq ?_ | refine T_region ?_ | refine S_nil ?_ | refine pthen_ret ?_ | refine T_ret ?_ | refine S_pure tabOk rfl ?_)
    exact ret1 rfl rfl (fun w' hw => ⟨rfl, hw.below (by repeat (first | exact new_nil | refine new_cons (by first | assumption | omega) ?_ | refine newrow hw 0 rfl (Nat.le_refl _) ?_))⟩)
  repeat (first | refine S_nil ?_ | refine S_pure tabOk rfl ?_)
  refine T_cond_dec rfl (fun h2 => ?_) (fun h2 => ?_)
  · repeat (first | refine T_seq ?_ | refine T_region ?_ | refine S_nil ?_ | refine pthen_ret ?_ | refine T_ret ?_ | refine S_pure tabOk rfl ?_)
    exact ret1 rfl rfl (fun w' hw => ⟨rfl, hw.below (by repeat (first | exact new_nil | refine new_cons (by first | assumption | omega) ?_ | refine newrow hw 0 rfl (Nat.le_refl _) ?_))⟩)
  obtain ⟨hR, e1, e2⟩ := encE_0 (Decidable.not_not.1 h1)
  obtain ⟨p, hp⟩ : ∃ p, p = encZ H rs its := ⟨_, rfl⟩
  have hp' : p = closeB (inB H rs its) := by rw [hp, e1]; rfl
  have hpl : 4 ≤ p.length := by rw [hp', closeB_len]; omega
  have hpm : p.length ≤ 65507 := by rw [hp, e1]; exact e2
  rw [← hp] at hzf hc1 ⊢
  repeat (first | refine T_seq ?_ | refine T_region ?_ | refine pthen_normal ?_ | refine T_skip ?_ | refine S_i64 tabOk rfl (by omega) ?_ | refine S_pure tabOk rfl ?_)
  obtain ⟨k, hk⟩ : ∃ k : Nat, at_ % (p.length : Int) = k := ⟨_, (Int.toNat_of_nonneg (Int.emod_nonneg _ (by omega))).symm⟩
  have hkm : k < p.length := by have := Int.emod_lt_of_pos at_ (by omega : (0 : Int) < (p.length : Int)); omega
  refine S_q ((Q_rem0 rfl rfl rfl (by omega) (by omega)).eq (congrArg (Value.int .i64) hk)) ?_
  refine S_openRow (by omega) (fun b5 junk hab hbb hmc hxl hjl hcm => ?_)
  subst hab
  refine S_q (Q_idx1 tabOk rfl rfl rfl rfl rfl rfl rfl rfl (j := k) hkm) ?_
  have hg : p[k]? = some p[k] := List.getElem?_eq_getElem hkm
  refine S_load1 tabOk rfl rfl (v := .int .u8 p[k]) (fun w' hw' => by rw [Nat.zero_add]; exact (cell_of_row w' b5 _ _ _ _ (hw'.own _ (getE_mem (i := 0) rfl))).trans (by simpa using cells_get hg)) ?_
  repeat (first | refine S_pure tabOk rfl ?_)
  refine S_q (Q_idx1 tabOk rfl rfl rfl rfl rfl rfl rfl rfl (j := k) hkm) ?_
  have hset : setMany (p.map (Value.int .u8) ++ junk) (0 + k) [.int .u8 (bits .xor .u8 p[k] turn)] = some ((p.set k (bx p[k] turn)).map (Value.int .u8) ++ junk) := by
    rw [Nat.zero_add, setMany_one (by rw [List.length_append, List.length_map]; omega), ← cells_set hkm]
    rfl
  refine S_store_of tabOk 0 rfl rfl (fun u hu => by rw [List.mem_singleton] at hu; subst hu; rfl) rfl hset rfl ?_
  have hyk : Fits .u8 p[k] := hzf _ (List.getElem_mem hkm)
  have hne : p[k] ≠ bx p[k] turn := fun h => h2 (bx_ne hyk htu h.symm)
  have hoe := openE_turned hp' hzf hkm (bx_fits p[k] turn) hne
  have hqf : ∀ z ∈ p.set k (bx p[k] turn), Fits .u8 z := fun z hz => by
    rcases List.mem_or_eq_of_mem_set hz with h | h
    · exact hzf z h
    · rw [h]; exact bx_fits _ _
  have hql : (p.set k (bx p[k] turn)).length = p.length := List.length_set
  generalize p.set k (bx p[k] turn) = q at hoe hqf hql ⊢
  have hdq : decT q = (3, zH, [], []) := by
    unfold decT
    rw [if_neg (by omega), if_pos (by rw [hoe]; decide), hoe]
  repeat (first | refine T_seq ?_ | refine T_region ?_ | refine S_nil ?_ | refine S_pure tabOk rfl ?_)
  refine S_callZ (decP (3, zH, [], [])) TT rfl Try.call25 (fun w1 h1 => by
    have hi : Ints .u8 w1 (some ⟨b5, 0, none⟩) p.length c1 q := by
      have hb5 := h1.own _ (getE_mem (i := 0) rfl)
      exact ⟨hql, hmc, hcm, fun h => (by cases h), hqf, Sl.of_blk hb5 (by rw [List.length_map, hql, Nat.mul_one]) fun j u hu => by rw [Nat.zero_add, List.getElem?_append_left (List.getElem?_eq_some_iff.1 hu).1]; exact hu⟩
    have := decode_v w1 hi
    rw [hdq] at this
    exact this.mono fun e w' ⟨r, e1, e2, e3⟩ => ⟨r, e1, e2, nbb' h1 e3⟩) (fun v0 F0 w1 hF hv => ⟨_, rfl, ?_⟩)
  obtain ⟨s5, rfl, hs5⟩ := hv
  dsimp only
  repeat (first | refine S_pure tabOk rfl ?_)
  refine S_new tabOk rfl (fun b9 hb9 => ?_)
  repeat (first | refine T_seq ?_ | refine T_region ?_ | refine S_nil ?_ | refine S_pure tabOk rfl ?_ | refine S_load tabOk 0 rfl rfl rfl ?_ | refine S_store tabOk 0 rfl rfl rfl rfl rfl rfl ?_ | refine S_q (Q_build tabOk rfl rfl rfl rfl rfl rfl rfl) ?_)
  refine S_callq (v := .bool true) rfl Try.call19 (fun w1 h1 => by
    exact (fsame_ok zH zH s5 ⟨none, 0, 0, none, 0, 0⟩ w1 (decP_of (Vp.fact0 (p := decP (3, zH, [], [])) h1 3 rfl)) (fsR_zero w1 fun _ => True)).mono fun e w2 ⟨e1, e2⟩ => ⟨by rw [e1]; exact retb (decide_eq_true (frEq_refl zH [] [])), e2⟩) ?_
  repeat (first | refine S_nil ?_ | refine T_ret ?_ | refine S_pure tabOk rfl ?_)
  exact ret1 rfl rfl (fun w' hw => ⟨rfl, hw.below (by repeat (first | exact new_nil | refine new_ro ?_ | refine new_cons (by first | assumption | omega) ?_))⟩)
end Go.Proofs.Ytnefhhoijonnaaa
