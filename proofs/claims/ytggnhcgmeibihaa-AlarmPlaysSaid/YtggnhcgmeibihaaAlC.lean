/-
  alarm.entries' Push and Pop; heap.Push, Pop, Fix, Remove of an alarm with its map. Conditions: each theorem's own.
-/
import Derived.Test.YtggnhcgmeibihaaAlB
import Derived.Test.YtggnhcgmeibihaaHpR
namespace Go.Proofs.Ytggnhcgmeibihaa
open Go Go.RowKit
set_option linter.unusedVariables false

/-- a row of one's own -/
def rowV (base : Nat) (E : TypeId) (sz n : Nat) (xs : List Value) : Vp :=
  ⟨fun w F v => w.ownsRow base E sz v n xs ∧ ∀ k, v.ownBlock = some k → F k,
   fun {w w' A B v} ⟨h1, h2⟩ hk => ⟨own_keep h1 (fun k hv => (hk k (h2 k hv) (World.ownsRow.lt h1 k hv).2).1), fun k hv => (hk k (h2 k hv) (World.ownsRow.lt h1 k hv).2).2⟩⟩
section
variable {P : Program} {tb : Tab} {n : Nat} {w0 : World} {all : Array Oper} {os : List Oper} {o : Oper} {l : FL} {ol : OL} {K : FL → OL → Prop} {Q : Post} {d : Nat} {r : Nat → Option Value}
theorem Q_tassert (ht : TabOk P tb) {x : Operand} {xt t : TypeId} {v : Value} {ti : TI} (hs : opAt? n all r o = some (d, .typeAssert x xt t false)) (hx : ev r x = some (.iface t v)) (hti : tl tb t = some ti)
    (hd : (match ti.desc with | .interface _ => false | _ => true) = true) : QOp P n w0 all r ol o d v :=
  Q_of hs fun ac w hrd hh hop => by
    have h1 := ht.under' hti
    have h2 : (Instr.typeAssert (.iface t v) xt t false).run P w = .ok v w := by
      unfold Instr.typeAssert
      cases hdd : ti.desc <;> rw [hdd] at hd h1 <;> first | (exact Bool.noConfusion (show false = true from hd)) | simp [run_underlying h1]
    unfold execOp
    simp [hop, hrd.ev hx, h2]
/-- append onto a row of an object's: what it was stays the object's. -/
theorem S_appendO (ht : TabOk P tb) (i : Nat) {t e : TypeId} {ty : TypeId} {s x : Operand} {v : Value} {m k c sz : Nat} {A : Option Addr} {xs news : List Value} {ti te : TI} {base : Nat} {F : Nat → Prop}
    (hs : opAt? n all (look l) o = some (d, .call ⟨.builtin .append, #[s, x], #[t, t]⟩)) (hv : ev (look l) s = some v) (hx : ev (look l) x = some (.slice A k c))
    (hi : getE ol i = some (.rep (fun w => (rowV base e sz m xs).at_ w F v) F true)) (hti : tl tb t = some ti) (hd : ti.desc = .slice e) (hte : tl tb e = some te) (hsz : te.size = sz) (hzs : te.zero.cells.size = sz) (hpos : 0 < sz)
    (hr : ∀ w, Hp w0 w ol → Sl w sz A k news) (h1 : ∀ u ∈ news, u.oneCell' = true) (hmax : m + k ≤ maxLen) (hbytes : (m + k) * te.bytes ≤ 140737488355328) (hbase : base ≤ w0.heap.size)
    (kk : ∀ A' c' (F' : Nat → Prop), m + k ≤ c' → c' ≤ maxLen → (∀ k, F k → F' k) → (∀ k, F' k → F k ∨ w0.heap.size ≤ k) → ∃ ol', putE ol i (.rep (fun w => (rowV base e sz (m + k) (xs ++ news)).at_ w F' (.slice A' (m + k) c')) F' true) = some ol' ∧ S P n w0 all os ((d, .slice A' (m + k) c') :: l) ol' K Q) :
    S P n w0 all (o :: os) l ol K Q := by
  obtain ⟨hdst, hlt, hg, hop⟩ := opAt_spec hs
  refine ⟨fun a w hf hh => ?_⟩
  obtain ⟨inf, hinf, hz, hs1, hs2⟩ := (ht e te hte).2
  obtain ⟨⟨hown, hF⟩, _, hFlt⟩ := hh.own _ (getE_mem hi)
  have hu := ht.under' hti
  rw [hd] at hu
  obtain ⟨v', w', hrun, h2, h3, h4⟩ := run_append_row (P := P) w base t o.type e inf te.zero sz te.bytes hu hinf hz (hs1.trans hsz) hs2 hzs hpos v m xs hown A k c news (hr w hh) h1 hmax hbytes (Nat.le_trans hbase hh.size)
  obtain ⟨A', c', rfl, hmc, hcm⟩ := form_of_own h2
  have hnb : ∀ j, (Value.slice A' (m + k) c').ownBlock = some j → F j ∨ j = w.heap.size := fun j h => by
    rcases h4 with h4 | h4
    · exact .inl (hF j (h4.symm.trans h))
    · have : some j = some w.heap.size := h.symm.trans h4
      cases this
      exact .inr rfl
  obtain ⟨ol', hput, kS⟩ := kk A' c' (fun j => F j ∨ (Value.slice A' (m + k) c').ownBlock = some j) hmc hcm (fun j h => .inl h) (fun j h => by
    have hsz := hh.size
    rcases h with h | h
    · exact .inl h
    · rcases hnb j h with h | h
      · exact .inl h
      · exact .inr (by omega))
  refine wpList_run (v := .slice A' (m + k) c') (gd_wanted hf.rd hg) ?_ ?_ (w' := w')
  · unfold execOp
    simp [hop, resolve, invoke, builtin, hf.rd.ev hv, hf.rd.ev hx, hrun]
  · rw [hdst]
    refine kS.out _ _ (hf.put hlt _) ?_
    obtain ⟨pre, post, e1, e2⟩ := putE_eq hi hput
    rw [e1] at hh
    rw [e2]
    refine hh.turn rfl h3.os h3.tape h3.output h3.size (fun j hj hne => h3.block j hj (fun hh => hne (hF j hh.symm))) ⟨⟨h2, fun j hj => .inr hj⟩, Vp.loc, fun j hj => ?_⟩ (fun j hj => ?_) (fun j hj => .inr (.inl hj))
    · rcases hj with h | h
      · exact Nat.lt_of_lt_of_le (hFlt j h) h3.size
      · exact (World.ownsRow.lt h2 j h).2
    · rcases hj with h | h
      · exact .inl h
      · rcases hnb j h with h | h
        · exact .inl h
        · exact .inr (by omega)
/-- Less is known, more is said. -/
theorem Hp.widenM {w w' : World} {A : OL} {Ψ : World → Prop} {F : Nat → Prop} (h : Hp w w' A) (hF : ∀ e ∈ A, ∀ k, e.has k → F k) (hΨ : Ψ w') (hl : Loc Ψ F) (hlt : ∀ k, F k → k < w'.heap.size) : Hp w w' [.rep Ψ F true] :=
  ⟨h.os, h.tape, h.output, h.size, fun k hk he => h.old k hk fun e hm hx hh => he _ List.mem_cons_self rfl (hF e hm k hh),
    fun e hm => by
      rw [List.mem_singleton] at hm
      subst hm
      exact ⟨hΨ, hl, hlt⟩,
    List.pairwise_singleton _ _⟩
end

theorem apop_walk (ab g n c mb : Nat) (xs : List Value) (p : Option Addr) (w : World) (hb : w.heap[ab]? = some (.cells ⟨[.slice (some ⟨g, 0, none⟩) (n + 1) c, .map (some mb)]⟩ 99 (0, 0))) (hr : w.ownsRow 0 100 1 (.slice (some ⟨g, 0, none⟩) (n + 1) c) (n + 1) xs) (hg : g ≠ ab) (hx : xs[n]? = some (.pointer p)) (hn : n ≤ 1073741824) (hnc : n ≤ c) :
    Calls Try.prog 122 #[.pointer (some ⟨ab, 0, none⟩)] w fun e w' => e = .returned (.iface 100 (.pointer p)) ∧ Hp w w' [.blk ab (.cells ⟨[.slice (some ⟨g, 0, none⟩) n c, .map (some mb)]⟩ 99 (0, 0)) true] := by
  obtain ⟨F, hF, hst⟩ := Hp.startV (p := rowV 0 100 1 (n + 1) xs) (A := fun k => k ≠ ab) hb ⟨hr, fun k hk => by
    have : k = g := (Option.some.inj hk).symm
    rw [this]; exact hg⟩ (fun h => h rfl)
  refine enter1 Try.func122 rfl rfl hst ?_
  repeat (first | refine T_seq ?_ | refine T_region ?_ | refine S_nil ?_ | refine S_i64 tabOk rfl (by omega) ?_ | refine S_pure tabOk rfl ?_ | refine S_load tabOk 0 rfl rfl rfl ?_)
  refine S_q (Q_idx1 tabOk rfl rfl rfl rfl rfl rfl rfl (j := n) (by omega) (by omega)) ?_
  refine S_load1 tabOk (v := .pointer p) rfl rfl (fun w' hw => by
    rw [Nat.zero_add]
    exact own_cell (hw.own _ (getE_mem (i := 1) rfl)).1.1 (by omega) hx) ?_
  repeat (first | refine T_seq ?_ | refine T_region ?_ | refine S_nil ?_ | refine S_pure tabOk rfl ?_ | refine S_load tabOk 0 rfl rfl rfl ?_)
  refine S_q (Q_sliceTo tabOk rfl rfl rfl rfl rfl rfl (H := n) (by omega) (by omega)) ?_
  repeat (first | refine T_seq ?_ | refine T_region ?_ | refine S_nil ?_ | refine S_pure tabOk rfl ?_ | refine S_store tabOk 0 rfl rfl rfl rfl rfl rfl ?_)
  refine S_q (Q_mkif tabOk rfl rfl rfl rfl) ?_
  repeat (first | refine S_nil ?_ | refine T_ret ?_ | refine S_pure tabOk rfl ?_)
  exact ret1 rfl rfl (fun w' hw => ⟨rfl, hw.less (by repeat (first | exact Less.nil | refine Less.keep ?_ | refine Less.dropR ?_))⟩)

theorem apush_walk (ab xb m mb : Nat) (id tm pl : Int) (v : Value) (xs : List Value) (F : Nat → Prop) (w : World) (hst : Hp w w [.blk ab (.cells ⟨[v, .map (some mb)]⟩ 99 (0, 0)) true, .blk xb (.cells ⟨[.int .u64 id, .int .i64 tm, .int .i64 pl]⟩ 103 (0, 0)) true, .rep (fun w => (rowV 0 100 1 m xs).at_ w F v) F true]) (hm : m ≤ 1073741823) (hv : ∃ a c, v = .slice a m c ∧ m ≤ c) :
    Calls Try.prog 123 #[.pointer (some ⟨ab, 0, none⟩), .iface 100 (.pointer (some ⟨xb, 0, none⟩))] w fun e w' => e = .returned (.tuple #[]) ∧ ∃ A' c' F', (∀ k, F k → F' k) ∧ (∀ k, F' k → F k ∨ w.heap.size ≤ k) ∧ Hp w w' [.blk ab (.cells ⟨[.slice A' (m + 1) c', .map (some mb)]⟩ 99 (0, 0)) true, .blk xb (.cells ⟨[.int .u64 id, .int .i64 tm, .int .i64 (m : Int)]⟩ 103 (0, 0)) true, .rep (fun w => (rowV 0 100 1 (m + 1) (xs ++ [.pointer (some ⟨xb, 0, none⟩)])).at_ w F' (.slice A' (m + 1) c')) F' true] := by
  obtain ⟨a, c, rfl, hmc⟩ := hv
  refine enter2 Try.func123 rfl rfl hst ?_
  repeat (first | refine T_seq ?_ | refine T_region ?_ | refine S_pure tabOk rfl ?_)
  refine S_q (Q_tassert tabOk rfl rfl rfl rfl) ?_
  repeat (first | refine T_seq ?_ | refine T_region ?_ | refine S_nil ?_ | refine S_pure tabOk rfl ?_ | refine T_region_any ?_ | refine S_load tabOk 0 rfl rfl rfl ?_ | refine S_store tabOk 1 rfl rfl rfl rfl rfl rfl ?_)
  refine S_bslice tabOk rfl rfl rfl rfl rfl rfl rfl rfl rfl rfl rfl rfl (fun nb hnb => ?_)
  refine S_appendO (ty := 0) tabOk 3 (sz := 1) (news := [.pointer (some ⟨xb, 0, none⟩)]) rfl rfl rfl rfl rfl rfl rfl rfl rfl (by decide) (fun w' h => Sl.of_blk (h.own _ (getE_mem (i := 0) rfl)) rfl fun j u hu => by rw [Nat.zero_add]; exact hu) (fun u hu => by rw [List.mem_singleton] at hu; subst hu; rfl) (by simp only [maxLen]; omega) (by show (_ + _) * 8 ≤ _; omega) (Nat.zero_le _) (fun A' c' F' h1 h2 h3 h4 => ⟨_, rfl, ?_⟩)
  repeat (first | refine S_nil ?_ | refine S_pure tabOk rfl ?_ | refine S_store tabOk 1 rfl rfl rfl rfl rfl rfl ?_)
  exact ret0n rfl (fun w' hw => ⟨rfl, A', c', F', h3, h4, hw.less (by repeat (first | exact Less.nil | refine Less.keep ?_ | refine Less.dropB (by first | assumption | omega) ?_))⟩)
end Go.Proofs.Ytggnhcgmeibihaa
