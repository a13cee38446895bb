/-
  An engine of rules for walks, part A: frames as association lists of slots, the heap as a list of owned blocks, straight-line steps that only compute. No program's text; conditions: each theorem's own.
-/
import Derived.WalkKit
namespace Go.Proofs.Ytggnhcgmeibihaa
open Go Go.RowKit
set_option linter.unusedVariables false

/-! ### Frames -/
abbrev FL := List (Nat × Value)

def look : FL → Nat → Option Value
  | [], _ => none
  | (k, v) :: l, t => match Nat.beq k t with
    | true => some v
    | false => look l t

theorem look_cons_eq (k : Nat) (v : Value) (l : FL) : look ((k, v) :: l) k = some v := by
  simp [look]
theorem look_cons_ne {k t : Nat} (h : k ≠ t) (v : Value) (l : FL) : look ((k, v) :: l) t = look l t := by
  have : Nat.beq k t = false := by
    cases hb : Nat.beq k t with
    | false => rfl
    | true => exact absurd (Nat.eq_of_beq_eq_true hb) h
  simp [look, this]

def ev (r : Nat → Option Value) : Operand → Option Value
  | .tmp t => r t
  | .const v => some v
  | .global g => some (.pointer (some ⟨g, 0, none⟩))
  | .func f => some (.func (.func f) #[] #[])

structure Fr (a : Act) (n : Nat) (l : FL) : Prop where
  defers : a.defers = []
  size : a.tmps.size = n
  get : ∀ t v, look l t = some v → a.tmps[t]? = some v

/-- The frame holds what 'r' says. -/
def Rd (a : Act) (r : Nat → Option Value) : Prop := ∀ t v, r t = some v → a.tmps[t]? = some v
theorem Fr.rd {a : Act} {n : Nat} {l : FL} (h : Fr a n l) : Rd a (look l) := h.get

theorem Rd.ev {a : Act} {r : Nat → Option Value} (h : Rd a r) {x : Operand} {v : Value} (hx : ev r x = some v) : a.eval x = v := by
  cases x with
  | tmp t =>
    have := h t v hx
    simp [Act.eval, Array.getD_eq_getD_getElem?, this]
  | const u => simpa [Go.Proofs.Ytggnhcgmeibihaa.ev, Act.eval] using hx
  | global g => simpa [Go.Proofs.Ytggnhcgmeibihaa.ev, Act.eval] using hx
  | func f => simpa [Go.Proofs.Ytggnhcgmeibihaa.ev, Act.eval] using hx

theorem Fr.put {a : Act} {n : Nat} {l : FL} (h : Fr a n l) {d : Nat} (hd : d < n) (v : Value) : Fr (a.put (some d) v) n ((d, v) :: l) := by
  refine ⟨h.defers, by simp [Act.put, h.size], fun t u hu => ?_⟩
  by_cases hdt : d = t
  · subst hdt
    rw [look_cons_eq] at hu
    cases hu
    simp [Act.put, h.size, hd]
  · rw [look_cons_ne hdt] at hu
    have := h.get t u hu
    simp [Act.put, hdt, this]

def Sub (l' l : FL) : Prop := ∀ t v, look l' t = some v → look l t = some v
theorem Sub.nil {l : FL} : Sub [] l := fun t v h => by simp [look] at h
theorem Sub.cons {k : Nat} {v : Value} {l' l : FL} (h : look l k = some v) (hs : Sub l' l) : Sub ((k, v) :: l') l := by
  intro t u hu
  by_cases hkt : k = t
  · subst hkt; rw [look_cons_eq] at hu; rw [← hu]; exact h
  · rw [look_cons_ne hkt] at hu; exact hs t u hu
theorem Sub.cons_int {k : Nat} {kd : IntKind} {e e' : Int} {l' l : FL} (h : look l k = some (.int kd e)) (he : e = e') (hs : Sub l' l) : Sub ((k, .int kd e') :: l') l := by
  subst he; exact Sub.cons h hs
theorem Sub.cons_eq {k : Nat} {v v' : Value} {l' l : FL} (h : look l k = some v) (he : v = v') (hs : Sub l' l) : Sub ((k, v') :: l') l := by
  subst he; exact Sub.cons h hs
theorem Sub.refl (l : FL) : Sub l l := fun _ _ h => h
theorem Sub.trans {a b c : FL} (h : Sub a b) (k : Sub b c) : Sub a c := fun t v hv => k t v (h t v hv)
theorem Fr.sub {a : Act} {n : Nat} {l l' : FL} (h : Fr a n l) (hs : Sub l' l) : Fr a n l' := ⟨h.defers, h.size, fun t v hv => h.get t v (hs t v hv)⟩

/-! ### The heap: what has turned since 'w0', block by block -/
/-- A block that is known whole (the Bool: nobody else's); a slice with memory of its own, that is nil or leads to a row from block 'base' on. -/
inductive HE where
  | blk (b : Nat) (x : Obj) (r : Bool)
  | row (base : Nat) (v : Value) (e : TypeId) (sz n : Nat) (xs : List Value)
  | rep (Φ : World → Prop) (F : Nat → Prop) (r : Bool)

/-- What is said looks at some blocks alone. -/
def Loc (Φ : World → Prop) (F : Nat → Prop) : Prop := ∀ w w' : World, (∀ k, F k → w'.heap[k]? = w.heap[k]?) → Φ w → Φ w'

def HE.has : HE → Nat → Prop
  | .blk b _ _, k => some b = some k
  | .row _ v _ _ _ _, k => v.ownBlock = some k
  | .rep _ F _, k => F k
def HE.ex : HE → Bool
  | .blk _ _ r => r
  | .row .. => true
  | .rep _ _ r => r
def HE.holds (w : World) : HE → Prop
  | .blk b x _ => w.heap[b]? = some x
  | .row base v e sz n xs => w.ownsRow base e sz v n xs
  | .rep Φ F _ => Φ w ∧ Loc Φ F ∧ ∀ k, F k → k < w.heap.size

theorem heap_lt {w : World} {b : Nat} {x : Obj} (h : w.heap[b]? = some x) : b < w.heap.size := by
  rcases Nat.lt_or_ge b w.heap.size with hlt | hge
  · exact hlt
  · rw [Array.getElem?_eq_none hge] at h; cases h

theorem HE.lt {w : World} {e : HE} (h : e.holds w) {k : Nat} (hk : e.has k) : k < w.heap.size := by
  cases e with
  | blk b x r => simp only [HE.has, Option.some.injEq] at hk; subst hk; exact heap_lt h
  | row base v t sz n xs => exact (World.ownsRow.lt h k hk).2
  | rep Φ F r => exact h.2.2 k hk

theorem HE.keep {w w' : World} {e : HE} (h : e.holds w) (hk : ∀ k, e.has k → w'.heap[k]? = w.heap[k]?) : e.holds w' := by
  cases e with
  | blk b x r => exact (hk b rfl).trans h
  | row base v t sz n xs =>
    obtain ⟨h1, h2⟩ := h
    refine ⟨h1, ?_⟩
    rcases h2 with h2 | ⟨g, cap, cur, rfl, hb, hg, rest⟩
    · exact .inl h2
    · exact .inr ⟨g, cap, cur, rfl, hb, (hk g rfl).trans hg, rest⟩
  | rep Φ F r => exact ⟨h.2.1 w w' hk h.1, h.2.1, fun k hkF => by
      obtain ⟨x, hx⟩ : ∃ x, w.heap[k]? = some x := ⟨_, Array.getElem?_eq_getElem (h.2.2 k hkF)⟩
      exact heap_lt ((hk k hkF).trans hx)⟩

def Dis (x y : HE) : Prop := (x.ex || y.ex) = true → ∀ k, x.has k → ¬ y.has k

abbrev OL := List HE

structure Hp (w0 w : World) (o : OL) : Prop where
  os : w.os = w0.os
  tape : w.tape = w0.tape
  output : w.output = w0.output
  size : w0.heap.size ≤ w.heap.size
  old : ∀ k, k < w0.heap.size → (∀ e ∈ o, e.ex = true → ¬ e.has k) → w.heap[k]? = w0.heap[k]?
  own : ∀ e ∈ o, e.holds w
  apart : o.Pairwise Dis

theorem Hp.refl (w : World) : Hp w w [] := ⟨rfl, rfl, rfl, Nat.le_refl _, fun _ _ _ => rfl, by simp, List.Pairwise.nil⟩
/-- One old block is known, from the beginning on. -/
theorem Hp.start {w : World} {b : Nat} {x : Obj} (r : Bool) (h : w.heap[b]? = some x) : Hp w w [.blk b x r] := ⟨rfl, rfl, rfl, Nat.le_refl _, fun _ _ _ => rfl, by simpa [HE.holds] using h, by simp⟩

theorem Hp.lt {w0 w : World} {o : OL} (h : Hp w0 w o) {e : HE} (he : e ∈ o) {k : Nat} (hk : e.has k) : k < w.heap.size := HE.lt (h.own e he) hk

/-- Nothing that was there has turned. -/
theorem Hp.below {w0 w : World} {o : OL} (h : Hp w0 w o) (ho : ∀ e ∈ o, e.ex = true → ∀ k, e.has k → w0.heap.size ≤ k) : Below w0.heap.size w0 w :=
  ⟨h.os, h.tape, h.output, h.size, fun k hk => h.old k hk fun e he hx hh => by have := ho e he hx k hh; omega⟩

/-- Behind more, that turns nothing that is there. -/
theorem Hp.ext {w0 w w' : World} {o : OL} (h : Hp w0 w o) (hb : Below w.heap.size w w') : Hp w0 w' o :=
  ⟨hb.os.trans h.os, hb.tape.trans h.tape, hb.output.trans h.output, Nat.le_trans h.size hb.size,
    fun k hk he => (hb.block k (Nat.lt_of_lt_of_le hk h.size)).trans (h.old k hk he),
    fun e he => HE.keep (h.own e he) fun k hk => hb.block k (h.lt he hk), h.apart⟩

/-- One more is known. -/
theorem Hp.more {w0 w : World} {o : OL} (h : Hp w0 w o) {x : HE} (hx : x.holds w) (hne : ∀ e ∈ o, Dis x e) : Hp w0 w (x :: o) :=
  ⟨h.os, h.tape, h.output, h.size, fun k hk he => h.old k hk fun e hm => he e (List.mem_cons_of_mem _ hm),
    fun e he => by
      rcases List.mem_cons.1 he with rfl | he
      · exact hx
      · exact h.own e he,
    List.Pairwise.cons (fun e he => hne e he) h.apart⟩
/-- .. that is new: it lies behind all that was there in 'w'. -/
theorem Hp.fresh {w0 w w' : World} {o : OL} (h : Hp w0 w o) (hb : Below w.heap.size w w') {x : HE} (hx : x.holds w') (hid : ∀ k, x.has k → w.heap.size ≤ k) : Hp w0 w' (x :: o) :=
  (h.ext hb).more hx fun e he _ k hk hk' => by
    have h1 := hid k hk
    have h2 := h.lt he hk'
    omega

theorem Hp.alloc {w0 w : World} {o : OL} (h : Hp w0 w o) (x : Obj) : Hp w0 (w.alloc x) (.blk w.heap.size x true :: o) :=
  h.fresh ((Below.refl _ _).alloc (Nat.le_refl _) _) (heap_alloc_new w x) fun k hk => by simp only [HE.has, Option.some.injEq] at hk; omega

/-- Fewer are named: only of what is new. -/
theorem Hp.drop {w0 w : World} {e : HE} {o : OL} (h : Hp w0 w (e :: o)) (he : e.ex = true → ∀ k, e.has k → w0.heap.size ≤ k) : Hp w0 w o :=
  ⟨h.os, h.tape, h.output, h.size, fun k hk hk' => h.old k hk fun x hx hx' => by
      rcases List.mem_cons.1 hx with rfl | hx
      · intro hh; have := he hx' k hh; omega
      · exact hk' x hx hx',
    fun x hx => h.own x (List.mem_cons_of_mem _ hx), (List.pairwise_cons.1 h.apart).2⟩

theorem Hp.drew {w0 w : World} {o : OL} (h : Hp w0 w o) : Hp w0 w.drew o := ⟨h.os, h.tape, h.output, h.size, h.old, fun e he => HE.keep (h.own e he) fun _ _ => rfl, h.apart⟩

theorem Dis.symm {x y : HE} (h : Dis x y) : Dis y x := fun hr k hk hk' => h (by rw [Bool.or_comm]; exact hr) k hk' hk

/-- In another order. -/
theorem Hp.perm {w0 w : World} {o o' : OL} (h : Hp w0 w o) (hp : o.Perm o') : Hp w0 w o' :=
  ⟨h.os, h.tape, h.output, h.size, fun k hk he => h.old k hk fun e hm => he e (hp.mem_iff.1 hm), fun e he => h.own e (hp.mem_iff.2 he), hp.pairwise h.apart (fun h => h.symm)⟩

/-- One is another one now. -/
theorem Hp.turn {w0 w w' : World} {pre post : OL} {x x' : HE} (h : Hp w0 w (pre ++ x :: post)) (hex : x.ex = true) (hos : w'.os = w.os) (htape : w'.tape = w.tape) (hout : w'.output = w.output)
    (hsize : w.heap.size ≤ w'.heap.size) (hold : ∀ k, k < w.heap.size → ¬ x.has k → w'.heap[k]? = w.heap[k]?) (hnew : x'.holds w') (hid : ∀ k, x'.has k → x.has k ∨ w.heap.size ≤ k) (hkeep : ∀ k, x.has k → w0.heap.size ≤ k ∨ x'.has k) (hex' : x'.ex = true := by rfl) :
    Hp w0 w' (pre ++ x' :: post) := by
  have hp := h.apart
  rw [List.pairwise_append] at hp
  obtain ⟨hp1, hp2, hp3⟩ := hp
  rw [List.pairwise_cons] at hp2
  have hmem : ∀ e, e ∈ pre ∨ e ∈ post → e ∈ pre ++ x :: post := by
    rintro e (he | he)
    · exact List.mem_append.2 (.inl he)
    · exact List.mem_append.2 (.inr (List.mem_cons_of_mem _ he))
  have hdis : ∀ e, e ∈ pre ∨ e ∈ post → ∀ k, e.has k → ¬ x.has k := by
    rintro e (he | he) k hk
    · exact hp3 e he _ List.mem_cons_self (by simp [hex]) k hk
    · exact fun hh => hp2.1 e he (by simp [hex]) k hh hk
  have hdis' : ∀ e, e ∈ pre ∨ e ∈ post → ∀ k, e.has k → ¬ x'.has k := by
    intro e he k hk hh
    rcases hid k hh with h1 | h1
    · exact hdis e he k hk h1
    · have := h.lt (hmem e he) hk; omega
  refine ⟨hos.trans h.os, htape.trans h.tape, hout.trans h.output, Nat.le_trans h.size hsize, fun k hk he => ?_, fun e he => ?_, ?_⟩
  · have hx' : ¬ x'.has k := he x' (List.mem_append.2 (.inr List.mem_cons_self)) hex'
    have hxk : ¬ x.has k := fun hh => by
      rcases hkeep k hh with h1 | h1
      · omega
      · exact hx' h1
    rw [hold k (Nat.lt_of_lt_of_le hk h.size) hxk]
    refine h.old k hk fun e hm hme => ?_
    rcases List.mem_append.1 hm with hm | hm
    · exact he e (List.mem_append.2 (.inl hm)) hme
    · rcases List.mem_cons.1 hm with rfl | hm
      · exact hxk
      · exact he e (List.mem_append.2 (.inr (List.mem_cons_of_mem _ hm))) hme
  · have key : ∀ e, e ∈ pre ∨ e ∈ post → e.holds w' := fun e he => HE.keep (h.own e (hmem e he)) fun k hk => hold k (h.lt (hmem e he) hk) (hdis e he k hk)
    rcases List.mem_append.1 he with he | he
    · exact key e (.inl he)
    · rcases List.mem_cons.1 he with rfl | he
      · exact hnew
      · exact key e (.inr he)
  · rw [List.pairwise_append, List.pairwise_cons]
    refine ⟨hp1, ⟨fun e he _ k hk hk' => hdis' e (.inr he) k hk' hk, hp2.2⟩, fun a ha c hc hr k hk => ?_⟩
    rcases List.mem_cons.1 hc with rfl | hc
    · exact hdis' a (.inl ha) k hk
    · exact hp3 a ha c (List.mem_cons_of_mem _ hc) hr k hk

/-- A row that is not empty is a block. -/
theorem Hp.openRow {w0 w : World} {pre post : OL} {base : Nat} {a : Option Addr} {c : Nat} {e : TypeId} {sz n : Nat} {xs : List Value} (h : Hp w0 w (pre ++ .row base (.slice a n c) e sz n xs :: post)) (hn : 0 < n) :
    ∃ b junk, a = some ⟨b, 0, none⟩ ∧ base ≤ b ∧ n ≤ c ∧ xs.length = n * sz ∧ (xs ++ junk).length = c * sz ∧ c ≤ maxLen ∧ Hp w0 w (pre ++ .blk b (.cells ⟨xs ++ junk⟩ e (0, 0)) true :: post) := by
  have hr := h.own _ (List.mem_append.2 (.inr List.mem_cons_self))
  obtain ⟨h1, h2⟩ := hr
  rcases h2 with ⟨_, h2⟩ | ⟨g, cap, cur, hv, hb, hg, hnc, hcm, hcs, htake⟩
  · omega
  · cases hv
    have hcur : cur.toList = xs ++ cur.toList.drop (n * sz) := by rw [← htake, List.take_append_drop]
    refine ⟨g, cur.toList.drop (n * sz), rfl, hb, hnc, h1, by rw [← hcur]; simpa using hcs, hcm, ?_⟩
    rw [← hcur]
    have hg' : w.heap[g]? = some (.cells ⟨cur.toList⟩ e (0, 0)) := hg
    exact h.turn (x' := .blk g (.cells ⟨cur.toList⟩ e (0, 0)) true) rfl rfl rfl rfl (Nat.le_refl _) (fun _ _ _ => rfl) hg' (fun k hk => .inl hk) (fun k hk => .inr hk)
/-- .. and back. -/
theorem Hp.closeRow {w0 w : World} {pre post : OL} {base b n c : Nat} {e : TypeId} {sz : Nat} {cs : List Value} (h : Hp w0 w (pre ++ .blk b (.cells ⟨cs⟩ e (0, 0)) true :: post)) (hb : base ≤ b) (hnc : n ≤ c) (hc : c ≤ maxLen) (hl : cs.length = c * sz) :
    Hp w0 w (pre ++ .row base (.slice (some ⟨b, 0, none⟩) n c) e sz n (cs.take (n * sz)) :: post) := by
  have hr := h.own _ (List.mem_append.2 (.inr List.mem_cons_self))
  refine h.turn rfl rfl rfl rfl (Nat.le_refl _) (fun _ _ _ => rfl) ?_ (fun k hk => .inl hk) (fun k hk => .inr hk)
  refine ⟨?_, .inr ⟨b, c, ⟨cs⟩, rfl, hb, hr, hnc, hc, by simpa using hl, rfl⟩⟩
  rw [List.length_take, hl]
  exact Nat.min_eq_left (Nat.mul_le_mul_right _ hnc)

/-! ### Posts -/
abbrev Post := Exit → FL → OL → Prop

def lift (n : Nat) (w0 : World) (Q : Post) : Exit → Act → World → Prop := fun e a w => ∃ l o, Fr a n l ∧ Hp w0 w o ∧ Q e l o

def pthen (K : FL → OL → Prop) (Q : Post) : Post
  | .normal, l, o => K l o
  | e, l, o => Q e l o

def inb (id : Nat) (Q : Post) : Post
  | .exit i, l, o => match Nat.beq i id with
    | true => Q .normal l o
    | false => Q (.exit i) l o
  | e, l, o => Q e l o

theorem pthen_normal {K : FL → OL → Prop} {Q : Post} {l : FL} {o : OL} (h : K l o) : pthen K Q .normal l o := h
theorem pthen_ret {K : FL → OL → Prop} {Q : Post} {l : FL} {o : OL} (h : Q .ret l o) : pthen K Q .ret l o := h
theorem pthen_exit {K : FL → OL → Prop} {Q : Post} {i : Nat} {l : FL} {o : OL} (h : Q (.exit i) l o) : pthen K Q (.exit i) l o := h
theorem inb_normal {id : Nat} {Q : Post} {l : FL} {o : OL} (h : Q .normal l o) : inb id Q .normal l o := h
theorem inb_ret {id : Nat} {Q : Post} {l : FL} {o : OL} (h : Q .ret l o) : inb id Q .ret l o := h
theorem inb_hit {id : Nat} {Q : Post} {l : FL} {o : OL} (h : Q .normal l o) : inb id Q (.exit id) l o := by simp [inb, h]
theorem inb_miss {id i : Nat} {Q : Post} {l : FL} {o : OL} (hne : Nat.beq i id = false) (h : Q (.exit i) l o) : inb id Q (.exit i) l o := by simp [inb, hne, h]

attribute [irreducible] pthen inb lift

/-! ### Triples -/
structure T (P : Program) (n : Nat) (w0 : World) (c : Code) (l : FL) (o : OL) (Q : Post) : Prop where
  out : ∀ a w, Fr a n l → Hp w0 w o → c.wp P (lift n w0 Q) a w

structure S (P : Program) (n : Nat) (w0 : World) (all : Array Oper) (ops : List Oper) (l : FL) (o : OL) (K : FL → OL → Prop) (Q : Post) : Prop where
  out : ∀ a w, Fr a n l → Hp w0 w o → wpList P all (lift n w0 (pthen K Q)) ops a w

section
variable {P : Program} {n : Nat} {w0 : World} {l : FL} {ol : OL} {Q : Post}

theorem lift_mono {Q Q' : Post} (h : ∀ e l o, Q e l o → Q' e l o) : ∀ e a w, lift n w0 Q e a w → lift n w0 Q' e a w := by
  unfold lift
  rintro e a w ⟨l, o, h1, h2, h3⟩
  exact ⟨l, o, h1, h2, h _ _ _ h3⟩

theorem lift_then {K : FL → OL → Prop} {Q : Post} {K' : Act → World → Prop} (h : ∀ a w l o, Fr a n l → Hp w0 w o → K l o → K' a w) :
    ∀ e a w, lift n w0 (pthen K Q) e a w → Exit.then K' (lift n w0 Q) e a w := by
  unfold lift pthen
  rintro e a w ⟨l, o, h1, h2, h3⟩
  cases e with
  | normal => exact h a w l o h1 h2 h3
  | _ => exact ⟨l, o, h1, h2, h3⟩

theorem T_seq {x y : Code} (h : T P n w0 x l ol (pthen (fun l o => T P n w0 y l o Q) Q)) : T P n w0 (.seq x y) l ol Q :=
  ⟨fun a w hf hh => wp_seq (wp_mono (h.out a w hf hh) (lift_then fun a w l o h1 h2 h3 => h3.out a w h1 h2))⟩

theorem T_skip (h : Q .normal l ol) : T P n w0 .skip l ol Q := ⟨fun a w hf hh => wp_skip (by unfold lift; exact ⟨l, ol, hf, hh, h⟩)⟩
theorem T_ret (h : Q .ret l ol) : T P n w0 .ret l ol Q := ⟨fun a w hf hh => wp_ret (by unfold lift; exact ⟨l, ol, hf, hh, h⟩)⟩
theorem T_exit {id : Nat} (h : Q (.exit id) l ol) : T P n w0 (.exit id) l ol Q := ⟨fun a w hf hh => wp_exit (by unfold lift; exact ⟨l, ol, hf, hh, h⟩)⟩

theorem T_block {id : Nat} {c : Code} (h : T P n w0 c l ol (inb id Q)) : T P n w0 (.block id c) l ol Q :=
  ⟨fun a w hf hh => wp_block (wp_mono (h.out a w hf hh) (by
    unfold lift inb
    rintro e a w ⟨l, o, h1, h2, h3⟩
    cases e with
    | exit i =>
      simp only [Exit.inBlock]
      by_cases hi : i = id
      · subst hi; simp only [if_true]; exact ⟨l, o, h1, h2, by simpa using h3⟩
      · rw [if_neg hi]
        have : Nat.beq i id = false := by
          cases hb : Nat.beq i id with
          | false => rfl
          | true => exact absurd (Nat.eq_of_beq_eq_true hb) hi
        simp only [this] at h3
        exact ⟨l, o, h1, h2, h3⟩
    | _ => exact ⟨l, o, h1, h2, h3⟩))⟩

theorem T_cond {c : Operand} {x y : Code} {t : Bool} (hc : ev (look l) c = some (.bool t)) (ht : t = true → T P n w0 x l ol Q) (hf : t = false → T P n w0 y l ol Q) : T P n w0 (.cond c x y) l ol Q :=
  ⟨fun a w h1 h2 => wp_cond_split (h1.rd.ev hc) (fun h => (ht h).out a w h1 h2) (fun h => (hf h).out a w h1 h2)⟩
theorem T_cond_t {c : Operand} {x y : Code} (hc : ev (look l) c = some (.bool true)) (ht : T P n w0 x l ol Q) : T P n w0 (.cond c x y) l ol Q := T_cond hc (fun _ => ht) (fun h => by cases h)
theorem T_cond_f {c : Operand} {x y : Code} (hc : ev (look l) c = some (.bool false)) (hf : T P n w0 y l ol Q) : T P n w0 (.cond c x y) l ol Q := T_cond hc (fun h => by cases h) (fun _ => hf)
theorem T_cond_dec {c : Operand} {x y : Code} {p : Prop} {_ : Decidable p} (hc : ev (look l) c = some (.bool (decide p))) (ht : p → T P n w0 x l ol Q) (hf : ¬ p → T P n w0 y l ol Q) : T P n w0 (.cond c x y) l ol Q :=
  T_cond hc (fun h => ht (of_decide_eq_true h)) (fun h => hf (of_decide_eq_false h))
theorem T_cond_dt {c : Operand} {x y : Code} {p : Prop} {_ : Decidable p} (hc : ev (look l) c = some (.bool (decide p))) (hp : p) (ht : T P n w0 x l ol Q) : T P n w0 (.cond c x y) l ol Q :=
  T_cond_dec hc (fun _ => ht) (fun h => absurd hp h)
theorem T_cond_df {c : Operand} {x y : Code} {p : Prop} {_ : Decidable p} (hc : ev (look l) c = some (.bool (decide p))) (hp : ¬ p) (hf : T P n w0 y l ol Q) : T P n w0 (.cond c x y) l ol Q :=
  T_cond_dec hc (fun h => absurd h hp) (fun _ => hf)
theorem T_cond_ndec {c : Operand} {x y : Code} {p : Prop} {_ : Decidable p} (hc : ev (look l) c = some (.bool (!decide p))) (ht : ¬ p → T P n w0 x l ol Q) (hf : p → T P n w0 y l ol Q) : T P n w0 (.cond c x y) l ol Q :=
  T_cond hc (fun h => ht (by simpa using h)) (fun h => hf (by simpa using h))

theorem T_region {id : Nat} {ops : List Oper} {K : FL → OL → Prop} (h : S P n w0 ops.toArray ops l ol K Q) : T P n w0 (.region id ops.toArray false) l ol (pthen K Q) :=
  ⟨fun a w hf hh => wp_region_lit (h.out a w hf hh)⟩

theorem T_region_any {id : Nat} {ops : List Oper} (h : S P n w0 ops.toArray ops l ol (fun l o => Q .normal l o) Q) : T P n w0 (.region id ops.toArray false) l ol Q :=
  ⟨fun a w hf hh => wp_mono (wp_region_lit (h.out a w hf hh)) (by
    unfold lift pthen
    rintro e a w ⟨l, o, h1, h2, h3⟩
    cases e <;> exact ⟨l, o, h1, h2, h3⟩)⟩

theorem T_mono {c : Code} {Q' : Post} (h : T P n w0 c l ol Q) (hq : ∀ e l o, Q e l o → Q' e l o) : T P n w0 c l ol Q' :=
  ⟨fun a w h1 h2 => wp_mono (h.out a w h1 h2) (lift_mono hq)⟩

/-- A frame of which less is remembered. -/
theorem T_sub {c : Code} {l' : FL} (hs : Sub l' l) (h : T P n w0 c l' ol Q) : T P n w0 c l ol Q := ⟨fun a w h1 h2 => h.out a w (h1.sub hs) h2⟩
/-- A slot in other words. -/
theorem T_re {c : Code} {d : Nat} {v v' : Value} (hl : look l d = some v) (he : v = v') (h : T P n w0 c ((d, v') :: l) ol Q) : T P n w0 c l ol Q :=
  T_sub (Sub.cons (he ▸ hl) (Sub.refl l)) h
/-- Blocks in other words. -/
theorem T_heap {c : Code} {ol' : OL} (hs : ∀ w, Hp w0 w ol → Hp w0 w ol') (h : T P n w0 c l ol' Q) : T P n w0 c l ol Q := ⟨fun a w h1 h2 => h.out a w h1 (hs w h2)⟩

theorem T_loop {c : Code} {ι : Type} (L : ι → FL) (O : ι → OL) (I : ι → Prop) (μ : ι → Nat) (i0 : ι) (h0 : I i0) (hl : Sub (L i0) l) (ho : ∀ w, Hp w0 w ol → Hp w0 w (O i0))
    (round : ∀ i, I i → T P n w0 c (L i) (O i) (pthen (fun l' o' => ∃ i', I i' ∧ Sub (L i') l' ∧ (∀ w, Hp w0 w o' → Hp w0 w (O i')) ∧ μ i' < μ i) Q)) :
    T P n w0 (.loop c) l ol Q := by
  refine ⟨fun a w hf hh b k cs => ?_⟩
  have key : ∀ m i a w, μ i = m → I i → Fr a n (L i) → Hp w0 w (O i) →
      ∃ e a' w', lift n w0 Q e a' w' ∧ Arrives P (lone (b.at a (.code c :: .inLoop c :: k)) cs w) b k cs e a' w' := by
    intro m
    induction m using Nat.strongRecOn with
    | _ m ih =>
      intro i a w hm hI hf hh
      obtain ⟨e, a1, w1, hq, harr⟩ := (round i hI).out a w hf hh b (.inLoop c :: k) cs
      cases e with
      | normal =>
        unfold lift pthen at hq
        obtain ⟨l1, o1, hf1, hh1, i', hI', hs', ho', hlt⟩ := hq
        obtain ⟨e2, a2, w2, hq2, harr2⟩ := ih (μ i') (hm ▸ hlt) i' a1 w1 rfl hI' (hf1.sub hs') (ho' w1 hh1)
        exact ⟨e2, a2, w2, hq2, .of_steps (Steps.trans harr (.one step_inLoop)) harr2⟩
      | exit id => exact ⟨_, a1, w1, by unfold lift pthen at hq; unfold lift; exact hq, .pass (x := .inLoop c) rfl (fun _ _ => .inl (by simp)) harr⟩
      | goto l => exact ⟨_, a1, w1, by unfold lift pthen at hq; unfold lift; exact hq, .pass (x := .inLoop c) rfl (fun _ _ => .inl (by simp)) harr⟩
      | ret => exact ⟨_, a1, w1, by unfold lift pthen at hq; unfold lift; exact hq, .pass (x := .inLoop c) rfl (fun _ _ => .inl (by simp)) harr⟩
      | panic ch => exact ⟨_, a1, w1, by unfold lift pthen at hq; unfold lift; exact hq, .pass (x := .inLoop c) rfl (fun _ _ => .inl (by simp)) harr⟩
      | outgrown => exact ⟨_, a1, w1, by unfold lift pthen at hq; unfold lift; exact hq, .pass (x := .inLoop c) rfl (fun _ _ => .inl (by simp)) harr⟩
  obtain ⟨e, a', w', hq, harr⟩ := key _ i0 a w rfl h0 (hf.sub hl) (ho w hh)
  exact ⟨e, a', w', hq, .of_steps (.one step_loop) harr⟩
end
end Go.Proofs.Ytggnhcgmeibihaa
