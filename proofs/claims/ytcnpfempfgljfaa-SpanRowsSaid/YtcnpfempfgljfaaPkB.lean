/-
  Bytes of both; what is read: In's small methods; the mathematics of reading. Conditions: each theorem's own.
-/
import Derived.Test.YtcnpfempfgljfaaPkA
namespace Go.Proofs.Ytcnpfempfgljfaa
open Go Go.RowKit
set_option linter.unusedVariables false

theorem join2_ok (a a' : Option Addr) (n n' c c' : Nat) (zs ys : List Int) (b : Nat) (e : TypeId) (fz : Nat × Nat) (w : World) (hw : Ints .u8 w a n c zs) (hw' : Ints .u8 w a' n' c' ys) (hb : w.heap[b]? = some (.cells ⟨[.slice a n c, .slice a' n' c']⟩ e fz)) (hn : (zs ++ ys).length ≤ 2147483648) :
    Calls Try.prog 15 #[.slice (some ⟨b, 0, none⟩) 2 2] w fun e w' => ∃ a c, e = .returned (.slice a (zs ++ ys).length c) ∧ Below w.heap.size w w' ∧ w'.ownsRow w.heap.size 5 1 (.slice a (zs ++ ys).length c) (zs ++ ys).length ((zs ++ ys).map (.int .u8)) := by
  have hc : cat [⟨a, n, c, zs⟩, ⟨a', n', c', ys⟩] = zs ++ ys := by simp [cat]
  have := join_ok (some ⟨b, 0, none⟩) 2 2 [⟨a, n, c, zs⟩, ⟨a', n', c', ys⟩] w (by decide) (Sl.of_blk hb rfl fun j u hu => by rw [Nat.zero_add]; exact hu) (fun p hp => by
    simp only [List.mem_cons, List.not_mem_nil, or_false] at hp
    rcases hp with rfl | rfl
    · exact hw
    · exact hw') (by rw [hc]; exact hn)
  rw [hc] at this
  exact this

theorem app_fits {xs ys : List Int} (h1 : ∀ z ∈ xs, Fits .u8 z) (h2 : ∀ z ∈ ys, Fits .u8 z) : ∀ z ∈ xs ++ ys, Fits .u8 z := fun z hz => by
  rcases List.mem_append.1 hz with h | h
  · exact h1 z h
  · exact h2 z h
def encB (zs : List Int) : List Int := enc zs.length ++ zs
theorem encB_fits {zs : List Int} (h : ∀ z ∈ zs, Fits .u8 z) : ∀ z ∈ encB zs, Fits .u8 z := app_fits (enc_fits _) h

theorem refbytes_ok (a : Option Addr) (n c : Nat) (zs : List Int) (w : World) (hw : Ints .u8 w a n c zs) (hn : zs.length ≤ 1073741824) :
    Calls Try.prog 33 #[.slice a n c] w fun e w' => ∃ a c, e = .returned (.slice a (encB zs).length c) ∧ Below w.heap.size w w' ∧ w'.ownsRow w.heap.size 5 1 (.slice a (encB zs).length c) (encB zs).length ((encB zs).map (.int .u8)) := by
  have hl := hw.len
  have h10 := enc_len10 (n := zs.length) (by omega)
  refine enter1 Try.func33 rfl rfl (Hp.refl w) ?_
  repeat (first | refine T_draw (by kernel_rfl) (by kernel_rfl) ?_ | refine D_all rfl ?_ | refine D_i64 tabOk rfl (by omega) ?_ | refine D_pure tabOk rfl ?_ | refine D_pass rfl rfl rfl ?_ | refine D_load tabOk 0 rfl rfl rfl ?_ | refine D_load tabOk 1 rfl rfl rfl ?_ | refine D_load tabOk 2 rfl rfl rfl ?_ | refine T_seq ?_ | refine T_region ?_ | refine T_block ?_ | refine S_nil ?_ | refine pthen_normal ?_ | refine inb_normal ?_ | refine inb_ret ?_ | refine pthen_ret ?_ | refine inb_hit ?_ | refine pthen_exit ?_ | refine T_skip ?_ | refine T_ret ?_ | refine T_exit ?_  | refine S_i64 tabOk rfl (by omega) ?_ | refine S_pure tabOk rfl ?_ | refine S_pass rfl rfl rfl ?_ | refine S_pass0 rfl rfl ?_ | refine T_region_any ?_  | refine S_load tabOk 0 rfl rfl rfl ?_ | refine S_load tabOk 1 rfl rfl rfl ?_ | refine S_load tabOk 2 rfl rfl rfl ?_ | refine S_load tabOk 3 rfl rfl rfl ?_ | refine S_store tabOk 0 rfl rfl rfl rfl rfl rfl ?_ | refine S_store tabOk 1 rfl rfl rfl rfl rfl rfl ?_ | refine S_store tabOk 2 rfl rfl rfl rfl rfl rfl ?_ | refine S_store tabOk 3 rfl rfl rfl rfl rfl rfl ?_ | refine S_q (Q_build tabOk rfl rfl rfl rfl rfl rfl rfl) ?_)
  refine S_re 5 rfl (congrArg (Value.int .u64) ((IntWalk.u64_in _ (by omega)).trans (by rw [← hl]))) ?_
  refine S_callrow rfl Try.call18 (fun w1 hw1 => refnum_ok (zs.length + 1) zs.length w1 (by omega) (by omega)) (fun a1 c1 hc1 hd1 => ?_)
  repeat (first | refine T_draw (by kernel_rfl) (by kernel_rfl) ?_ | refine D_all rfl ?_ | refine D_i64 tabOk rfl (by omega) ?_ | refine D_pure tabOk rfl ?_ | refine D_pass rfl rfl rfl ?_ | refine D_load tabOk 0 rfl rfl rfl ?_ | refine D_load tabOk 1 rfl rfl rfl ?_ | refine D_load tabOk 2 rfl rfl rfl ?_ | refine T_seq ?_ | refine T_region ?_ | refine T_block ?_ | refine S_nil ?_ | refine pthen_normal ?_ | refine inb_normal ?_ | refine inb_ret ?_ | refine pthen_ret ?_ | refine inb_hit ?_ | refine pthen_exit ?_ | refine T_skip ?_ | refine T_ret ?_ | refine T_exit ?_  | refine S_i64 tabOk rfl (by omega) ?_ | refine S_pure tabOk rfl ?_ | refine S_pass rfl rfl rfl ?_ | refine S_pass0 rfl rfl ?_ | refine T_region_any ?_  | refine S_load tabOk 0 rfl rfl rfl ?_ | refine S_load tabOk 1 rfl rfl rfl ?_ | refine S_load tabOk 2 rfl rfl rfl ?_ | refine S_load tabOk 3 rfl rfl rfl ?_ | refine S_store tabOk 0 rfl rfl rfl rfl rfl rfl ?_ | refine S_store tabOk 1 rfl rfl rfl rfl rfl rfl ?_ | refine S_store tabOk 2 rfl rfl rfl rfl rfl rfl ?_ | refine S_store tabOk 3 rfl rfl rfl rfl rfl rfl ?_ | refine S_q (Q_build tabOk rfl rfl rfl rfl rfl rfl rfl) ?_)
  refine S_bslice tabOk rfl rfl rfl rfl rfl rfl rfl rfl rfl rfl rfl rfl (fun b hb => ?_)
  refine S_callrow rfl Try.call15 (fun w1 h1 => join2_ok a1 a (enc zs.length).length n c1 c (enc zs.length) zs b _ _ w1 (h1.ints 1 rfl (enc_fits _)) (hw.ext (h1.below (new_cons hb (newrow h1 1 rfl (Nat.le_refl _) new_nil)))) (h1.own _ (getE_mem (i := 0) rfl)) (by rw [List.length_append]; omega)) (fun a2 c2 hc2 hd2 => ?_)
  repeat (first | refine T_draw (by kernel_rfl) (by kernel_rfl) ?_ | refine D_all rfl ?_ | refine D_i64 tabOk rfl (by omega) ?_ | refine D_pure tabOk rfl ?_ | refine D_pass rfl rfl rfl ?_ | refine D_load tabOk 0 rfl rfl rfl ?_ | refine D_load tabOk 1 rfl rfl rfl ?_ | refine D_load tabOk 2 rfl rfl rfl ?_ | refine T_seq ?_ | refine T_region ?_ | refine T_block ?_ | refine S_nil ?_ | refine pthen_normal ?_ | refine inb_normal ?_ | refine inb_ret ?_ | refine pthen_ret ?_ | refine inb_hit ?_ | refine pthen_exit ?_ | refine T_skip ?_ | refine T_ret ?_ | refine T_exit ?_  | refine S_i64 tabOk rfl (by omega) ?_ | refine S_pure tabOk rfl ?_ | refine S_pass rfl rfl rfl ?_ | refine S_pass0 rfl rfl ?_ | refine T_region_any ?_  | refine S_load tabOk 0 rfl rfl rfl ?_ | refine S_load tabOk 1 rfl rfl rfl ?_ | refine S_load tabOk 2 rfl rfl rfl ?_ | refine S_load tabOk 3 rfl rfl rfl ?_ | refine S_store tabOk 0 rfl rfl rfl rfl rfl rfl ?_ | refine S_store tabOk 1 rfl rfl rfl rfl rfl rfl ?_ | refine S_store tabOk 2 rfl rfl rfl rfl rfl rfl ?_ | refine S_store tabOk 3 rfl rfl rfl rfl rfl rfl ?_ | refine S_q (Q_build tabOk rfl rfl rfl rfl rfl rfl rfl) ?_)
  exact ret1 rfl rfl (fun w' hw' => ⟨a2, c2, rfl, hw'.below (newrow hw' 0 rfl (Nat.le_refl _) (new_cons hb (newrow hw' 2 rfl (Nat.le_refl _) new_nil))), hw'.own _ (getE_mem (i := 0) rfl)⟩)

theorem pbytes_ok (a a' : Option Addr) (n c n' c' : Nat) (zs ys : List Int) (w : World) (hw : Ints .u8 w a n c zs) (hw' : Ints .u8 w a' n' c' ys) (hn : zs.length ≤ 536870912) (hn' : ys.length ≤ 536870912) :
    Calls Try.prog 31 #[.slice a n c, .slice a' n' c'] w fun e w' => ∃ a c, e = .returned (.slice a (zs ++ encB ys).length c) ∧ Below w.heap.size w w' ∧ w'.ownsRow w.heap.size 5 1 (.slice a (zs ++ encB ys).length c) (zs ++ encB ys).length ((zs ++ encB ys).map (.int .u8)) := by
  have hl := hw'.len
  have h10 := enc_len10 (n := ys.length) (by omega)
  have hla : (zs ++ enc ys.length).length = zs.length + (enc ys.length).length := List.length_append
  refine enter2 Try.func31 rfl rfl (Hp.refl w) ?_
  repeat (first | refine T_draw (by kernel_rfl) (by kernel_rfl) ?_ | refine D_all rfl ?_ | refine D_i64 tabOk rfl (by omega) ?_ | refine D_pure tabOk rfl ?_ | refine D_pass rfl rfl rfl ?_ | refine D_load tabOk 0 rfl rfl rfl ?_ | refine D_load tabOk 1 rfl rfl rfl ?_ | refine D_load tabOk 2 rfl rfl rfl ?_ | refine T_seq ?_ | refine T_region ?_ | refine T_block ?_ | refine S_nil ?_ | refine pthen_normal ?_ | refine inb_normal ?_ | refine inb_ret ?_ | refine pthen_ret ?_ | refine inb_hit ?_ | refine pthen_exit ?_ | refine T_skip ?_ | refine T_ret ?_ | refine T_exit ?_  | refine S_i64 tabOk rfl (by omega) ?_ | refine S_pure tabOk rfl ?_ | refine S_pass rfl rfl rfl ?_ | refine S_pass0 rfl rfl ?_ | refine T_region_any ?_  | refine S_load tabOk 0 rfl rfl rfl ?_ | refine S_load tabOk 1 rfl rfl rfl ?_ | refine S_load tabOk 2 rfl rfl rfl ?_ | refine S_load tabOk 3 rfl rfl rfl ?_ | refine S_store tabOk 0 rfl rfl rfl rfl rfl rfl ?_ | refine S_store tabOk 1 rfl rfl rfl rfl rfl rfl ?_ | refine S_store tabOk 2 rfl rfl rfl rfl rfl rfl ?_ | refine S_store tabOk 3 rfl rfl rfl rfl rfl rfl ?_ | refine S_q (Q_build tabOk rfl rfl rfl rfl rfl rfl rfl) ?_)
  refine S_re 8 rfl (congrArg (Value.int .u64) ((IntWalk.u64_in _ (by omega)).trans (by rw [← hl]))) ?_
  refine S_callrow rfl Try.call16 (fun w1 hw1 => num_ok a n c zs ys.length w1 (hw.ext (hw1.below new_nil)) (by omega) (by omega)) (fun a1 c1 hc1 hd1 => ?_)
  repeat (first | refine T_draw (by kernel_rfl) (by kernel_rfl) ?_ | refine D_all rfl ?_ | refine D_i64 tabOk rfl (by omega) ?_ | refine D_pure tabOk rfl ?_ | refine D_pass rfl rfl rfl ?_ | refine D_load tabOk 0 rfl rfl rfl ?_ | refine D_load tabOk 1 rfl rfl rfl ?_ | refine D_load tabOk 2 rfl rfl rfl ?_ | refine T_seq ?_ | refine T_region ?_ | refine T_block ?_ | refine S_nil ?_ | refine pthen_normal ?_ | refine inb_normal ?_ | refine inb_ret ?_ | refine pthen_ret ?_ | refine inb_hit ?_ | refine pthen_exit ?_ | refine T_skip ?_ | refine T_ret ?_ | refine T_exit ?_  | refine S_i64 tabOk rfl (by omega) ?_ | refine S_pure tabOk rfl ?_ | refine S_pass rfl rfl rfl ?_ | refine S_pass0 rfl rfl ?_ | refine T_region_any ?_  | refine S_load tabOk 0 rfl rfl rfl ?_ | refine S_load tabOk 1 rfl rfl rfl ?_ | refine S_load tabOk 2 rfl rfl rfl ?_ | refine S_load tabOk 3 rfl rfl rfl ?_ | refine S_store tabOk 0 rfl rfl rfl rfl rfl rfl ?_ | refine S_store tabOk 1 rfl rfl rfl rfl rfl rfl ?_ | refine S_store tabOk 2 rfl rfl rfl rfl rfl rfl ?_ | refine S_store tabOk 3 rfl rfl rfl rfl rfl rfl ?_ | refine S_q (Q_build tabOk rfl rfl rfl rfl rfl rfl rfl) ?_)
  refine S_append (ty := 0) tabOk 0 rfl rfl rfl rfl rfl rfl rfl rfl rfl (by decide) (fun w1 h => (hw'.ext (h.below (newrow h 0 rfl (Nat.le_refl _) new_nil))).sl) (allOne_map _ (fun _ => rfl) _) (by simp only [maxLen]; omega) (by show (_ + _) * 1 ≤ _; omega) rfl (fun A' C' h1 h2 => ⟨_, rfl, ?_⟩)
  repeat (first | refine T_draw (by kernel_rfl) (by kernel_rfl) ?_ | refine D_all rfl ?_ | refine D_i64 tabOk rfl (by omega) ?_ | refine D_pure tabOk rfl ?_ | refine D_pass rfl rfl rfl ?_ | refine D_load tabOk 0 rfl rfl rfl ?_ | refine D_load tabOk 1 rfl rfl rfl ?_ | refine D_load tabOk 2 rfl rfl rfl ?_ | refine T_seq ?_ | refine T_region ?_ | refine T_block ?_ | refine S_nil ?_ | refine pthen_normal ?_ | refine inb_normal ?_ | refine inb_ret ?_ | refine pthen_ret ?_ | refine inb_hit ?_ | refine pthen_exit ?_ | refine T_skip ?_ | refine T_ret ?_ | refine T_exit ?_  | refine S_i64 tabOk rfl (by omega) ?_ | refine S_pure tabOk rfl ?_ | refine S_pass rfl rfl rfl ?_ | refine S_pass0 rfl rfl ?_ | refine T_region_any ?_  | refine S_load tabOk 0 rfl rfl rfl ?_ | refine S_load tabOk 1 rfl rfl rfl ?_ | refine S_load tabOk 2 rfl rfl rfl ?_ | refine S_load tabOk 3 rfl rfl rfl ?_ | refine S_store tabOk 0 rfl rfl rfl rfl rfl rfl ?_ | refine S_store tabOk 1 rfl rfl rfl rfl rfl rfl ?_ | refine S_store tabOk 2 rfl rfl rfl rfl rfl rfl ?_ | refine S_store tabOk 3 rfl rfl rfl rfl rfl rfl ?_ | refine S_q (Q_build tabOk rfl rfl rfl rfl rfl rfl rfl) ?_)
  have e : zs ++ encB ys = (zs ++ enc ys.length) ++ ys := by unfold encB; rw [List.append_assoc]
  have e2 : (zs ++ encB ys).length = (zs ++ enc ys.length).length + n' := by rw [e, List.length_append, hl]
  rw [e2]
  rw [e, List.map_append (l₁ := zs ++ enc ys.length)]
  exact ret1 rfl rfl (fun w1 hw1 => ⟨A', C', rfl, hw1.below (newrow hw1 0 rfl (Nat.le_refl _) new_nil), hw1.own _ (getE_mem (i := 0) rfl)⟩)

/-! ### Calls that turn one block of the caller's -/
theorem Hp.graft {w0 w w' : World} {pre post : OL} {b : Nat} {x y : Obj} (h : Hp w0 w (pre ++ .blk b x true :: post)) (h2 : Hp w w' [.blk b y true]) : Hp w0 w' (pre ++ .blk b y true :: post) :=
  h.turn (x' := .blk b y true) rfl h2.os h2.tape h2.output h2.size (fun j hj hne => h2.old j hj (fun e he => by rw [List.mem_singleton] at he; subst he; exact fun _ => hne)) (h2.own _ List.mem_cons_self) (fun k hk => .inl hk) (fun k hk => .inr hk)
section
variable {P : Program} {n : Nat} {w0 : World} {all : Array Oper} {os : List Oper} {o : Oper} {l : FL} {ol : OL} {K : FL → OL → Prop} {Q : Post}
theorem S_callobj (i : Nat) {d b : Nat} {f : FuncId} {vs : List Value} {x : Obj} (hs : callAt? n all (look l) o = some (d, f, vs)) (hcall : ∀ args w, (callFunc f args).run P w = .ok (.enter f args) w) (hi : getE ol i = some (.blk b x true))
    (hc : ∀ w, Hp w0 w ol → Calls P f vs.toArray w (fun e w' => ∃ v y, e = .returned v ∧ Hp w w' [.blk b y true] ∧ ∃ ol', putE ol i (.blk b y true) = some ol' ∧ S P n w0 all os ((d, v) :: l) ol' K Q)) : S P n w0 all (o :: os) l ol K Q :=
  S_call hs hcall fun w hh => (hc w hh).mono fun e w' ⟨v, y, he, h2, ol', hput, k⟩ => ⟨v, ol', he, by
    obtain ⟨pre, post, e1, e2⟩ := putE_eq hi hput
    rw [e1] at hh
    rw [e2]
    exact hh.graft h2, k⟩
end
end Go.Proofs.Ytcnpfempfgljfaa
