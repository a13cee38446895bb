/-
  A row of an object's; more or less is told of what an object holds. Conditions: each theorem's own.
  Conditions: each theorem's own.
-/
import Derived.Test.YteogkadjambmkaaSh
namespace Go.Proofs.Yteogkadjambmkaa
open Go Go.RowKit
set_option linter.unusedVariables false


section
variable {P : Program} {tb : Tab} {n : Nat} {w0 : World} {all : Array Oper} {os : List Oper} {o : Oper} {l : FL} {ol : OL} {K : FL → OL → Prop} {Q : Post} {d : Nat} {r : Nat → Option Value}
theorem Q_tassert (ht : TabOk P tb) {x : Operand} {xt t : TypeId} {v : Value} {ti : TI} (hs : opAt? n all r o = some (d, .typeAssert x xt t false)) (hx : ev r x = some (.iface t v)) (hti : tl tb t = some ti)
    (hd : (match ti.desc with | .interface _ => false | _ => true) = true) : QOp P n w0 all r ol o d v :=
  Q_of hs fun ac w hrd hh hop => by
    have h1 := ht.under' hti
    have h2 : (Instr.typeAssert (.iface t v) xt t false).run P w = .ok v w := by
      unfold Instr.typeAssert
      cases hdd : ti.desc <;> rw [hdd] at hd h1 <;> first | (exact Bool.noConfusion (show false = true from hd)) | simp [run_underlying h1]
    unfold execOp
    simp [hop, hrd.ev hx, h2]
/-- append onto a row of an object's: what it was stays the object's. -/
theorem S_appendO (ht : TabOk P tb) (i : Nat) {t e : TypeId} {ty : TypeId} {s x : Operand} {v : Value} {m k c sz : Nat} {A : Option Addr} {xs news : List Value} {ti te : TI} {base : Nat} {F : Nat → Prop}
    (hs : opAt? n all (look l) o = some (d, .call ⟨.builtin .append, #[s, x], #[t, t]⟩)) (hv : ev (look l) s = some v) (hx : ev (look l) x = some (.slice A k c))
    (hi : getE ol i = some (.rep (fun w => (rowV base e sz m xs).at_ w F v) F true)) (hti : tl tb t = some ti) (hd : ti.desc = .slice e) (hte : tl tb e = some te) (hsz : te.size = sz) (hzs : te.zero.cells.size = sz) (hpos : 0 < sz)
    (hr : ∀ w, Hp w0 w ol → Sl w sz A k news) (h1 : ∀ u ∈ news, u.oneCell' = true) (hmax : m + k ≤ maxLen) (hbytes : (m + k) * te.bytes ≤ 140737488355328) (hbase : base ≤ w0.heap.size)
    (kk : ∀ A' c' (F' : Nat → Prop), m + k ≤ c' → c' ≤ maxLen → (∀ k, F k → F' k) → (∀ k, F' k → F k ∨ w0.heap.size ≤ k) → ∃ ol', putE ol i (.rep (fun w => (rowV base e sz (m + k) (xs ++ news)).at_ w F' (.slice A' (m + k) c')) F' true) = some ol' ∧ S P n w0 all os ((d, .slice A' (m + k) c') :: l) ol' K Q) :
    S P n w0 all (o :: os) l ol K Q := by
  obtain ⟨hdst, hlt, hg, hop⟩ := opAt_spec hs
  refine ⟨fun a w hf hh => ?_⟩
  obtain ⟨inf, hinf, hz, hs1, hs2⟩ := (ht e te hte).2
  obtain ⟨⟨hown, hF⟩, _, hFlt⟩ := hh.own _ (getE_mem hi)
  have hu := ht.under' hti
  rw [hd] at hu
  obtain ⟨v', w', hrun, h2, h3, h4⟩ := run_append_row (P := P) w base t o.type e inf te.zero sz te.bytes hu hinf hz (hs1.trans hsz) hs2 hzs hpos v m xs hown A k c news (hr w hh) h1 hmax hbytes (Nat.le_trans hbase hh.size)
  obtain ⟨A', c', rfl, hmc, hcm⟩ := form_of_own h2
  have hnb : ∀ j, (Value.slice A' (m + k) c').ownBlock = some j → F j ∨ j = w.heap.size := fun j h => by
    rcases h4 with h4 | h4
    · exact .inl (hF j (h4.symm.trans h))
    · have : some j = some w.heap.size := h.symm.trans h4
      cases this
      exact .inr rfl
  obtain ⟨ol', hput, kS⟩ := kk A' c' (fun j => F j ∨ (Value.slice A' (m + k) c').ownBlock = some j) hmc hcm (fun j h => .inl h) (fun j h => by
    have hsz := hh.size
    rcases h with h | h
    · exact .inl h
    · rcases hnb j h with h | h
      · exact .inl h
      · exact .inr (by omega))
  refine wpList_run (v := .slice A' (m + k) c') (gd_wanted hf.rd hg) ?_ ?_ (w' := w')
  · unfold execOp
    simp [hop, resolve, invoke, builtin, hf.rd.ev hv, hf.rd.ev hx, hrun]
  · rw [hdst]
    refine kS.out _ _ (hf.put hlt _) ?_
    obtain ⟨pre, post, e1, e2⟩ := putE_eq hi hput
    rw [e1] at hh
    rw [e2]
    refine hh.turn rfl h3.os h3.tape h3.output h3.size (fun j hj hne => h3.block j hj (fun hh => hne (hF j hh.symm))) ⟨⟨h2, fun j hj => .inr hj⟩, Vp.loc, fun j hj => ?_⟩ (fun j hj => ?_) (fun j hj => .inr (.inl hj))
    · rcases hj with h | h
      · exact Nat.lt_of_lt_of_le (hFlt j h) h3.size
      · exact (World.ownsRow.lt h2 j h).2
    · rcases hj with h | h
      · exact .inl h
      · rcases hnb j h with h | h
        · exact .inl h
        · exact .inr (by omega)
/-- Less is known, more is said. -/
theorem Hp.widenM {w w' : World} {A : OL} {Ψ : World → Prop} {F : Nat → Prop} (h : Hp w w' A) (hF : ∀ e ∈ A, ∀ k, e.has k → F k) (hΨ : Ψ w') (hl : Loc Ψ F) (hlt : ∀ k, F k → k < w'.heap.size) : Hp w w' [.rep Ψ F true] :=
  ⟨h.os, h.tape, h.output, h.size, fun k hk he => h.old k hk fun e hm hx hh => he _ List.mem_cons_self rfl (hF e hm k hh),
    fun e hm => by
      rw [List.mem_singleton] at hm
      subst hm
      exact ⟨hΨ, hl, hlt⟩,
    List.pairwise_singleton _ _⟩
end
theorem cells_ne {w : World} {a b : Nat} {x y : Array Value} {t u : TypeId} {p q : Nat × Nat} (ha : w.heap[a]? = some (.cells x t p)) (hb : w.heap[b]? = some (.cells y u q)) (h : t ≠ u) : a ≠ b := fun hh => by
  rw [hh, hb] at ha
  exact h (Obj.cells.inj (Option.some.inj ha)).2.1.symm
theorem map_ne {w : World} {a b : Nat} {x : Array Value} {t : TypeId} {p : Nat × Nat} {es : Array MapEntry} {c : Nat} (ha : w.heap[a]? = some (.cells x t p)) (hb : w.heap[b]? = some (.map es c)) : a ≠ b := fun hh => by
  rw [hh, hb] at ha
  cases ha
theorem row_blk {w : World} {base n : Nat} {e : TypeId} {v : Value} {xs : List Value} (h : w.ownsRow base e 1 v n xs) {k : Nat} (hk : v.ownBlock = some k) : ∃ cur, w.heap[k]? = some (.cells cur e (0, 0)) := by
  obtain ⟨_, h2⟩ := h
  rcases h2 with ⟨rfl, _⟩ | ⟨g, cap, cur, rfl, h3, h4, _⟩
  · cases hk
  · cases hk
    exact ⟨cur, h4⟩
theorem Hp.widenL {w w' : World} {A : OL} {Ψ : World → Prop} {F : Nat → Prop} (h : Hp w w' A) (hF : ∀ e ∈ A, ∀ k, e.has k → F k) (hΨ : Ψ w') (hl : Loc Ψ F) (hlt : ∀ k, F k → k < w.heap.size) : Hp w w' [.rep Ψ F true] :=
  ⟨h.os, h.tape, h.output, h.size, fun k hk he => h.old k hk fun e hm hx hh => he _ List.mem_cons_self rfl (hF e hm k hh),
    fun e hm => by
      rw [List.mem_singleton] at hm
      subst hm
      exact ⟨hΨ, hl, fun k hk => Nat.lt_of_lt_of_le (hlt k hk) h.size⟩,
    List.pairwise_singleton _ _⟩

end Go.Proofs.Yteogkadjambmkaa
