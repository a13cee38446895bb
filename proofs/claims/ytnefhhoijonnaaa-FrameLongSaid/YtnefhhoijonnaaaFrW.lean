/-
  Frames: how the document reads, part by part. Conditions: each theorem's own.
-/
import Derived.Test.YtnefhhoijonnaaaFrV
namespace Go.Proofs.Ytnefhhoijonnaaa
open Go Go.RowKit
set_option linter.unusedVariables false

def rinP (b : Nat) (A : Option Addr) (N C : Nat) (s : St) (w : World) : Prop := w.heap[b]? = some (rfO A N C s.2 s.1) ∧ s.2 ≤ N
abbrev rinE (b : Nat) (A : Option Addr) (N C : Nat) (s : St) : HE := .rep (rinP b A N C s) (FB b) true
theorem rinP.loc {b : Nat} {A : Option Addr} {N C : Nat} {s : St} : Loc (rinP b A N C s) (FB b) := fun w w' h ⟨h1, h2⟩ => ⟨(h b rfl).trans h1, h2⟩
theorem rinP.holds {b : Nat} {A : Option Addr} {N C : Nat} {s : St} {w : World} (h : rinP b A N C s w) : (rinE b A N C s).holds w :=
  ⟨h, rinP.loc, fun k hk => by rw [show k = b from hk]; exact heap_lt h.1⟩
theorem Hp.toRin {w w' : World} {b : Nat} {A : Option Addr} {N C : Nat} {s : St} (h : Hp w w' [.blk b (rfO A N C s.2 s.1) true]) (hs : s.2 ≤ N) : Hp w w' [rinE b A N C s] := by
  have h1 := h.own _ List.mem_cons_self
  refine ⟨h.os, h.tape, h.output, h.size, fun k hk he => h.old k hk fun e hm _ hh => ?_, fun e hm => ?_, List.pairwise_singleton _ _⟩
  · rw [List.mem_singleton] at hm
    subst hm
    exact he _ List.mem_cons_self rfl (by rw [← Option.some.inj hh]; rfl)
  · rw [List.mem_singleton] at hm
    subst hm
    exact rinP.holds ⟨h1, hs⟩
theorem Hp.toRin2 {w w' : World} {x : HE} (hxe : x.ex = true) {b : Nat} {A : Option Addr} {N C : Nat} {s : St} (h : Hp w w' [x, .blk b (rfO A N C s.2 s.1) true]) (hs : s.2 ≤ N) : Hp w w' [x, rinE b A N C s] := by
  have h1 : w'.heap[b]? = _ := h.own _ (List.mem_cons_of_mem _ List.mem_cons_self)
  have h0 := h.own _ List.mem_cons_self
  have hd := (List.pairwise_cons.1 h.apart).1 _ List.mem_cons_self
  refine ⟨h.os, h.tape, h.output, h.size, fun k hk he => h.old k hk fun e hm hx hh => ?_, fun e hm => ?_, List.pairwise_cons.2 ⟨fun e hm hx k hk hk' => ?_, List.pairwise_singleton _ _⟩⟩
  · simp only [List.mem_cons, List.not_mem_nil, or_false] at hm
    rcases hm with rfl | rfl
    · exact he _ List.mem_cons_self hx hh
    · exact he _ (List.mem_cons_of_mem _ List.mem_cons_self) rfl (by rw [← Option.some.inj hh]; rfl)
  · simp only [List.mem_cons, List.not_mem_nil, or_false] at hm
    rcases hm with rfl | rfl
    · exact h0
    · exact rinP.holds ⟨h1, hs⟩
  · rw [List.mem_singleton] at hm
    subst hm
    have h2 : k = b := hk'
    exact hd (by simp [hxe]) k hk (by rw [h2]; rfl)
theorem Hp.rinAt {w0 w : World} {o o' : OL} (h : Hp w0 w o) (i : Nat) {b : Nat} {A : Option Addr} {N C : Nat} {s : St} (hi : getE o i = some (.blk b (rfO A N C s.2 s.1) true)) (hs : s.2 ≤ N) (hp : putE o i (rinE b A N C s) = some o') : Hp w0 w o' := by
  obtain ⟨pre, post, e1, e2⟩ := putE_eq hi hp
  rw [e1] at h
  rw [e2]
  have hb : w.heap[b]? = _ := h.own _ (List.mem_append.2 (.inr List.mem_cons_self))
  exact h.turn (x' := rinE b A N C s) rfl rfl rfl rfl (Nat.le_refl _) (fun _ _ _ => rfl) (rinP.holds ⟨hb, hs⟩) (fun k hk => .inl (by rw [show k = b from hk]; rfl)) (fun k hk => .inr (Option.some.inj hk).symm)
section
variable {P : Program} {n : Nat} {w0 : World} {all : Array Oper} {os : List Oper} {o : Oper} {l : FL} {ol : OL} {K : FL → OL → Prop} {Q : Post} {d : Nat}
theorem S_rin (i : Nat) {b : Nat} {A : Option Addr} {N C : Nat} {s s' : St} {f : FuncId} {vs : List Value} {v : Value} {ol' : OL} (hs : callAt? n all (look l) o = some (d, f, vs)) (hcall : ∀ args w, (callFunc f args).run P w = .ok (.enter f args) w) (hi : getE ol i = some (rinE b A N C s))
    (hc : ∀ w, Hp w0 w ol → rinP b A N C s w → Calls P f vs.toArray w (fun e w' => e = .returned v ∧ Hp w w' [rinE b A N C s'])) (hp : putE ol i (rinE b A N C s') = some ol') (k : S P n w0 all os ((d, v) :: l) ol' K Q) : S P n w0 all (o :: os) l ol K Q :=
  S_call hs hcall fun w hh => (hc w hh (hh.own _ (getE_mem hi)).1).mono fun e w' ⟨he, h2⟩ => ⟨v, ol', he, hh.graftT i hi h2 (fun k hk => hk) (fun k hk => .inl hk) hp, k⟩
end
section
variable {b : Nat} {A : Option Addr} {N C : Nat} {all : List Int} {s : St} {w : World}
theorem rnum_t (h : rinP b A N C s w) (hA : Ints .u8 w A N C all) (hap : ∀ b' off, A = some ⟨b', off, none⟩ → b' ≠ b) (hN : N ≤ 1073741824) : Calls Try.prog 68 #[.pointer (some ⟨b, 0, none⟩)] w fun e w' => e = .returned (.int .u64 (pN all s).2) ∧ Hp w w' [rinE b A N C (pN all s).1] := by
  obtain ⟨h1, h2⟩ := h
  have hl := hA.len
  exact (rnumber_ok b A N C s.2 s.1 all w h1 hA (fun _ => hap) h2 hN).mono fun e w' ⟨e1, e2⟩ => ⟨e1, Hp.toRin (s := (pN all s).1) e2 (by have := pN_le hA.fits s (by omega); omega)⟩
theorem pB_le (hf : ∀ z ∈ all, Fits .u8 z) (s : St) (h : s.2 ≤ all.length) : (pB all s).1.2 ≤ all.length := by
  have := (by1_bd (e := s.1) (zs := all.drop s.2) fun z hz => hf z (List.mem_of_mem_drop hz)).2.2
  rw [List.length_drop] at this
  unfold pB
  dsimp only
  omega
theorem rbyte5_t (h : rinP b A N C s w) (hA : Ints .u8 w A N C all) (hap : ∀ b' off, A = some ⟨b', off, none⟩ → b' ≠ b) (hN : N ≤ 1073741824) : Calls Try.prog 66 #[.pointer (some ⟨b, 0, none⟩)] w fun e w' => e = .returned (.int .u8 (pB all s).2) ∧ Hp w w' [rinE b A N C (pB all s).1] := by
  obtain ⟨h1, h2⟩ := h
  have hl := hA.len
  exact (rbyte_ok b A N C s.2 s.1 all w h1 hA (fun _ => hap) h2 hN).mono fun e w' ⟨e1, e2⟩ => ⟨e1, Hp.toRin (s := (pB all s).1) e2 (by have := pB_le hA.fits s (by omega); omega)⟩
theorem rend_t (h : rinP b A N C s w) (hA : Ints .u8 w A N C all) : Calls Try.prog 70 #[.pointer (some ⟨b, 0, none⟩)] w fun e w' => e = .returned (.int .i64 (enE s.1 (all.length - s.2))) ∧ Hp w w' [rinE b A N C (enE s.1 (all.length - s.2), s.2)] := by
  obtain ⟨h1, h2⟩ := h
  rw [hA.len]
  exact (rend_ok b A N C s.2 s.1 w h1).mono fun e w' ⟨e1, e2⟩ => ⟨e1, Hp.toRin (s := (enE s.1 (N - s.2), s.2)) e2 h2⟩
theorem ritem_t (h : rinP b A N C s w) (hA : Ints .u8 w A N C all) (hap : ∀ b' off, A = some ⟨b', off, none⟩ → b' ≠ b) (hN : N ≤ 1073741824) : Calls Try.prog 69 #[.pointer (some ⟨b, 0, none⟩)] w fun e w' => ∃ ra rc, e = .returned (itV (pIt all s).2.1 (pIt all s).2.2.1 ra (pIt all s).2.2.2.length rc) ∧ Hp w w' [.row w.heap.size (.slice ra (pIt all s).2.2.2.length rc) 5 1 (pIt all s).2.2.2.length ((pIt all s).2.2.2.map (.int .u8)), rinE b A N C (pIt all s).1] := by
  obtain ⟨h1, h2⟩ := h
  have hl := hA.len
  exact (rgetitem_ok b A N C s.2 s.1 all w h1 hA (fun _ => hap) h2 hN).mono fun e w' ⟨ra, rc, e1, e3⟩ => ⟨ra, rc, e1, Hp.toRin2 (s := (pIt all s).1) rfl e3 (by have := pIt_le hA.fits s (by omega); omega)⟩
theorem pN_err (all : List Int) (s : St) (h : (pN all s).1.1 ≠ 0) : (pN all s).2 = 0 := by
  unfold pN rd at *
  dsimp only at *
  split at h
  · rename_i h0
    rw [if_pos h0, dec_err _ _ h]
    rfl
  · rename_i h0
    rw [if_neg h0]
    rfl
set_option maxHeartbeats 1000000 in
theorem most_t {most : Int} (hm : 0 ≤ most ∧ most ≤ 1000) (h : rinP b A N C s w) (hA : Ints .u8 w A N C all) (hap : ∀ b' off, A = some ⟨b', off, none⟩ → b' ≠ b) (hN : N ≤ 1073741824) : Calls Try.prog 67 #[.pointer (some ⟨b, 0, none⟩), .int .u64 most] w fun e w' => e = .returned (.int .i64 (pF all most s).2) ∧ Hp w w' [rinE b A N C (pF all most s).1] := by
  obtain ⟨hb, hs⟩ := h
  have hl := hA.len
  obtain ⟨F, hF, hst⟩ := Hp.startV hb (SlR.noBlk hA (fun _ => hap)) (fun h => h rfl)
  have hpf := fits_u64 (pN_fit hA.fits s)
  have hle := pN_le hA.fits s (by omega)
  have her := pN_err all s
  rw [hl] at hle
  refine enter2 Try.func67 rfl rfl hst ?_
  repeat (first | refine T_seq ?_ | refine T_region ?_ | refine S_nil ?_ | refine S_pure tabOk rfl ?_)
  refine S_callobj 0 rfl Try.call68 rfl (fun w1 g => (rnumber_ok b A N C s.2 s.1 all w1 (g.own _ (getE_mem (i := 0) rfl)) (SlR.of_val (Vp.fact0 (p := (Rslice (Rint .u8)).vp all) g 1 rfl)).ints (fun _ => hap) hs hN).mono fun en w' ⟨g2, g4⟩ => ⟨_, _, g2, g4, _, rfl, ?_⟩)
  rw [show ((rd s.1 (all.drop s.2)).2.1 : Int) = (pN all s).2 from rfl, show (rd s.1 (all.drop s.2)).1 = (pN all s).1.1 from rfl, show s.2 + (rd s.1 (all.drop s.2)).2.2 = (pN all s).1.2 from rfl]
  obtain ⟨⟨⟨e1, j1⟩, v1⟩, hx⟩ : ∃ x, pN all s = x := ⟨_, rfl⟩
  rw [hx] at hpf hle her ⊢
  dsimp only at hpf hle her ⊢
  have e : pF all most s = if most < v1 then ((if e1 = 0 then 2 else e1, j1), 0) else ((e1, j1), v1) := by unfold pF; rw [hx]
  rw [e]
  repeat (first | refine T_seq ?_ | refine T_region ?_ | refine S_nil ?_ | refine S_pure tabOk rfl ?_ | refine S_load tabOk 0 rfl rfl rfl ?_)
  by_cases h0 : e1 = 0
  · subst h0
    refine S_re 13 (v' := .bool true) rfl rfl ?_
    repeat (first | refine S_nil ?_ | refine S_pure tabOk rfl ?_)
    refine T_cond_dec rfl (fun h1 => ?_) (fun h1 => ?_)
    · rw [if_pos h1, if_pos rfl]
      repeat (first | refine T_seq ?_ | refine T_region ?_ | refine S_nil ?_ | refine S_pure tabOk rfl ?_ | refine S_load tabOk 0 rfl rfl rfl ?_ | refine S_store tabOk 0 rfl rfl rfl rfl rfl rfl ?_)
      refine T_cond_dt rfl (by decide) ?_
      repeat (first | refine T_seq ?_ | refine T_region ?_ | refine S_nil ?_ | refine pthen_ret ?_ | refine T_ret ?_ | refine S_pure tabOk rfl ?_)
      exact ret1 rfl rfl (fun w' hw => ⟨rfl, Hp.toRin (s := (2, j1)) (hw.less (by repeat (first | exact Less.nil | refine Less.keep ?_ | refine Less.dropR ?_))) hle⟩)
    · rw [if_neg h1]
      repeat (first | refine T_seq ?_ | refine T_region ?_ | refine S_nil ?_ | refine pthen_normal ?_ | refine T_skip ?_ | refine S_pure tabOk rfl ?_ | refine S_load tabOk 0 rfl rfl rfl ?_)
      refine T_cond_df rfl (fun h => h rfl) ?_
      repeat (first | refine T_seq ?_ | refine T_region ?_ | refine S_nil ?_ | refine pthen_normal ?_ | refine T_skip ?_ | refine T_ret ?_ | refine S_i64 tabOk rfl (by omega) ?_ | refine S_pure tabOk rfl ?_)
      exact ret1 rfl rfl (fun w' hw => ⟨rfl, Hp.toRin (s := (0, j1)) (hw.less (by repeat (first | exact Less.nil | refine Less.keep ?_ | refine Less.dropR ?_))) hle⟩)
  · have h1 := her h0
    subst h1
    rw [if_neg (by omega)]
    refine S_re 13 (v' := .bool false) rfl (congrArg Value.bool (decide_eq_false h0)) ?_
    repeat (first | refine S_nil ?_ | refine S_pure tabOk rfl ?_ | refine S_pass rfl rfl rfl ?_)
    refine T_cond_f rfl ?_
    repeat (first | refine T_seq ?_ | refine T_region ?_ | refine S_nil ?_ | refine pthen_normal ?_ | refine T_skip ?_ | refine S_pure tabOk rfl ?_ | refine S_load tabOk 0 rfl rfl rfl ?_)
    refine T_cond_dt rfl h0 ?_
    repeat (first | refine T_seq ?_ | refine T_region ?_ | refine S_nil ?_ | refine pthen_ret ?_ | refine T_ret ?_ | refine S_pure tabOk rfl ?_)
    exact ret1 rfl rfl (fun w' hw => ⟨rfl, Hp.toRin (s := (e1, j1)) (hw.less (by repeat (first | exact Less.nil | refine Less.keep ?_ | refine Less.dropR ?_))) hle⟩)
end
end Go.Proofs.Ytnefhhoijonnaaa
