/-
  Methods of pointers, found. No program's text; conditions: each theorem's own.
-/
import Derived.Test.YtggnhcgmeibihaaHpD
namespace Go.Proofs.Ytggnhcgmeibihaa
open Go Go.RowKit
set_option linter.unusedVariables false

theorem nilChk {P : Program} (A : Array TypeId) (T : TypeId) (a : Addr) (x y : String) (w : World) : (Builtin.ssaWrapNilChk_ A T #[.pointer (some a), strVal x, strVal y]).run P w = .ok (.pointer (some a)) w := rfl
theorem method_val {P : Program} {T u : TypeId} {inf : TypeInfo} {m : Method} {f : Nat} {name : String} (ht : P.info? T = some inf) (hm : inf.methods.find? (·.name == name) = some m) (hp : m.path = #[]) (hf : m.func = some (f, false)) (hu : P.underlying T = some (.pointer u))
    {a : Addr} {w : World} {r : Value} (hl : (loadVar u a).run P w = .ok r w) (k : Nat) : (method (k + 1) T (.pointer (some a)) name).run P w = .ok (f, r) w := by
  unfold method
  simp [typeInfo, ht, hm, hp, hf, follow, receiverAt, underlying, hu, Place.get, nilChk, asAddr, hl]
theorem meth_val {P : Program} {T u : TypeId} {inf : TypeInfo} {m : Method} {f : Nat} {name : String} (ht : P.info? T = some inf) (hm : inf.methods.find? (·.name == name) = some m) (hp : m.path = #[]) (hf : m.func = some (f, false)) (hu : P.underlying T = some (.pointer u))
    (hc : ∀ args w, (callFunc f args).run P w = .ok (.enter f args) w) {a : Addr} {w : World} {r : Value} (hl : (loadVar u a).run P w = .ok r w) {vs : List Value} {Q : Ending → World → Prop} (h : Calls P f (#[r] ++ vs.toArray) w Q) : Meth P (.iface T (.pointer (some a))) name vs w Q := by
  refine ⟨f, #[r] ++ vs.toArray, ?_, h⟩
  have h1 := method_val (name := name) ht hm hp hf hu hl (P.types.size + 99)
  unfold callMethod
  simp only [Sem.run_bind, run_program, Result.andThen_ok]
  rw [show P.types.size + Made.depth = P.types.size + 99 + 1 from rfl, h1]
  exact hc _ _

def mrow (P : Program) (T : TypeId) (name : String) : Option (Array FieldStep × Option (FuncId × Bool)) :=
  match P.info? T with
  | none => none
  | some inf => match inf.methods.find? (·.name == name) with
    | none => none
    | some m => some (m.path, m.func)
theorem meth_val' {P : Program} {T u : TypeId} {f : Nat} {name : String} (hm : mrow P T name = some (#[], some (f, false))) (hu : P.underlying T = some (.pointer u))
    (hc : ∀ args w, (callFunc f args).run P w = .ok (.enter f args) w) {a : Addr} {w : World} {r : Value} (hl : (loadVar u a).run P w = .ok r w) {vs : List Value} {Q : Ending → World → Prop} (h : Calls P f (#[r] ++ vs.toArray) w Q) : Meth P (.iface T (.pointer (some a))) name vs w Q := by
  unfold mrow at hm
  split at hm
  · cases hm
  · rename_i inf h1
    split at hm
    · cases hm
    · rename_i m h2
      simp only [Option.some.injEq, Prod.mk.injEq] at hm
      exact meth_val h1 h2 hm.1 hm.2 hu hc hl h
theorem method_own {P : Program} {T u : TypeId} {inf : TypeInfo} {m : Method} {f : Nat} {name : String} (ht : P.info? T = some inf) (hm : inf.methods.find? (·.name == name) = some m) (hp : m.path = #[]) (hf : m.func = some (f, true)) (hu : P.underlying T = some (.pointer u))
    {a : Addr} {w : World} (k : Nat) : (method (k + 1) T (.pointer (some a)) name).run P w = .ok (f, .pointer (some a)) w := by
  unfold method
  simp [typeInfo, ht, hm, hp, hf, follow, receiverAt, underlying, hu, Place.get]
/-- a pointer's own method -/
theorem meth_own {P : Program} {T u : TypeId} {f : Nat} {name : String} (hm : mrow P T name = some (#[], some (f, true))) (hu : P.underlying T = some (.pointer u))
    (hc : ∀ args w, (callFunc f args).run P w = .ok (.enter f args) w) {a : Addr} {w : World} {vs : List Value} {Q : Ending → World → Prop} (h : Calls P f (#[.pointer (some a)] ++ vs.toArray) w Q) : Meth P (.iface T (.pointer (some a))) name vs w Q := by
  unfold mrow at hm
  split at hm
  · cases hm
  · rename_i inf h1
    split at hm
    · cases hm
    · rename_i m h2
      simp only [Option.some.injEq, Prod.mk.injEq] at hm
      refine ⟨f, _, ?_, h⟩
      have h4 := method_own (a := a) (w := w) h1 h2 hm.1 hm.2 hu (P.types.size + 99)
      unfold callMethod
      simp only [Sem.run_bind, run_program, Result.andThen_ok]
      rw [show P.types.size + Made.depth = P.types.size + 99 + 1 from rfl, h4]
      exact hc _ _

theorem setMany_one : ∀ {cs : List Value} {off : Nat} {v : Value}, off < cs.length → setMany cs off [v] = some (cs.set off v)
  | c :: cs, 0, v, h => by cases cs <;> rfl
  | c :: cs, k + 1, v, h => by
    simp only [setMany, setMany_one (cs := cs) (off := k) (by simpa using h), List.set_cons_succ]
theorem blk_cell {w0 w : World} {ol : OL} {b : Nat} {e : TypeId} {cs : List Value} (hw : Hp w0 w (.blk b (.cells ⟨cs⟩ e (0, 0)) true :: ol)) {j : Nat} {u : Value} (hj : cs[j]? = some u) : w.cell? ⟨b, 0 + j, none⟩ = some u :=
  (Sl.of_blk (n := cs.length) (sz := 1) (xs := cs) (hw.own _ (getE_mem (i := 0) rfl)) (by rw [Nat.mul_one]) (fun j u hu => by rw [Nat.zero_add]; exact hu)).at_ (by have := (List.getElem?_eq_some_iff.1 hj).1; omega) hj
/-- What is known of less, said of more. -/
theorem Hp.widen {w w' : World} {x : HE} {Ψ : World → Prop} {F : Nat → Prop} (h : Hp w w' [x]) (hF : ∀ k, x.has k → F k) (hΨ : Ψ w') (hl : Loc Ψ F) (hlt : ∀ k, F k → k < w.heap.size) : Hp w w' [.rep Ψ F true] :=
  ⟨h.os, h.tape, h.output, h.size, fun k hk he => h.old k hk fun e hm hx hh => by
      rw [List.mem_singleton] at hm
      subst hm
      exact he _ List.mem_cons_self rfl (hF k hh),
    fun e hm => by
      rw [List.mem_singleton] at hm
      subst hm
      exact ⟨hΨ, hl, fun k hk => Nat.lt_of_lt_of_le (hlt k hk) h.size⟩,
    List.pairwise_singleton _ _⟩
theorem Vp.loc {p : Vp} {F : Nat → Prop} {v : Value} : Loc (fun w => p.at_ w F v) F := fun w w' h1 h2 => p.keep h2 fun k hk _ => ⟨h1 k hk, hk⟩
/-- A row's block. -/
theorem own_keep {w w' : World} {base : Nat} {e : TypeId} {sz n : Nat} {v : Value} {xs : List Value} (h : w.ownsRow base e sz v n xs) (hk : ∀ k, v.ownBlock = some k → w'.heap[k]? = w.heap[k]?) : w'.ownsRow base e sz v n xs := by
  obtain ⟨h1, h2⟩ := h
  refine ⟨h1, ?_⟩
  rcases h2 with h2 | ⟨g, cap, cur, h2, h3, h4, h5⟩
  · exact .inl h2
  · exact .inr ⟨g, cap, cur, h2, h3, (hk g (by rw [h2]; rfl)).trans h4, h5⟩
theorem closed_no {ops : List Oper} {L : Nat → Bool} (hc : Closed ops L) {j : Nat} {p : Oper} (hj : ops[j]? = some p) (e : Edge) (he : e ∈ p.after.toList) (hb : Region.binds .any e = true) (hl : L e.on = false) : L j = false := by
  cases h : L j with
  | false => rfl
  | true => rw [hc j p hj h e he hb] at hl; cases hl
theorem Q_mkif {P : Program} {tb : Tab} {n : Nat} {w0 : World} {all : Array Oper} {r : Nat → Option Value} {ol : OL} {o : Oper} {d : Nat} (ht : TabOk P tb) {t : TypeId} {x : Operand} {v : Value} {ti : TI} (hs : opAt? n all r o = some (d, .makeInterface t x)) (hx : ev r x = some v) (hti : tl tb t = some ti)
    (hd : (match ti.desc with | .interface _ => false | _ => true) = true) : QOp P n w0 all r ol o d (.iface t v) :=
  Q_of hs fun ac w hrd hh hop => by
    have h1 := ht.under hti w
    have h2 : (Instr.makeInterface t v).run P w = .ok (.iface t v) w := by
      unfold Instr.makeInterface
      simp only [Sem.run_bind, h1, Result.andThen_ok]
      split
      · rename_i h
        rw [h] at hd
        cases hd
      · rfl
    unfold execOp
    simp [hop, hrd.ev hx, h2]
end Go.Proofs.Ytggnhcgmeibihaa
