/-
  An engine of rules for walks, part B: the straight-line steps that only compute. No program's text; conditions: each theorem's own.
-/
import Derived.Test.YtggnhcgmeibihaaEngA
namespace Go.Proofs.Ytggnhcgmeibihaa
open Go Go.RowKit
set_option linter.unusedVariables false

/-- What is known of a type. -/
structure TI where
  desc : TypeDesc
  size : Nat
  bytes : Nat
  zero : Value

abbrev Tab := List (Nat × TI)
def tl : Tab → Nat → Option TI
  | [], _ => none
  | (k, v) :: l, t => match Nat.beq k t with
    | true => some v
    | false => tl l t

def Good (P : Program) (t : Nat) (i : TI) : Prop := P.underlying t = some i.desc ∧ ∃ inf, P.info? t = some inf ∧ inf.zero = some i.zero ∧ inf.size = i.size ∧ inf.bytes = i.bytes
def TabOk (P : Program) (tb : Tab) : Prop := ∀ t i, tl tb t = some i → Good P t i
theorem TabOk.nil (P : Program) : TabOk P [] := fun t i h => by simp [tl] at h
theorem TabOk.cons {P : Program} {k : Nat} {v : TI} {tb : Tab} (h : Good P k v) (hs : TabOk P tb) : TabOk P ((k, v) :: tb) := by
  intro t i hi
  simp only [tl] at hi
  cases hb : Nat.beq k t with
  | true => rw [hb] at hi; simp at hi; subst hi; rw [← Nat.eq_of_beq_eq_true hb]; exact h
  | false => rw [hb] at hi; exact hs t i hi

section
variable {P : Program} {tb : Tab}
theorem TabOk.under (ht : TabOk P tb) {t : Nat} {i : TI} (h : tl tb t = some i) (w : World) : (underlying t).run P w = .ok i.desc w := run_underlying (ht t i h).1 w
theorem TabOk.inf (ht : TabOk P tb) {t : Nat} {i : TI} (h : tl tb t = some i) (w : World) : ∃ x, (typeInfo t).run P w = .ok x w ∧ x.zero = some i.zero ∧ x.size = i.size ∧ x.bytes = i.bytes := by
  obtain ⟨_, x, hx, h1, h2, h3⟩ := ht t i h
  exact ⟨x, by simp [typeInfo, hx], h1, h2, h3⟩
theorem TabOk.sizeOf (ht : TabOk P tb) {t : Nat} {i : TI} (h : tl tb t = some i) (w : World) : (sizeOf t).run P w = .ok i.size w := by
  obtain ⟨x, hx, _, h2, _⟩ := ht.inf h w
  simp [Go.sizeOf, hx, h2]
theorem TabOk.zeroOf (ht : TabOk P tb) {t : Nat} {i : TI} (h : tl tb t = some i) (w : World) : (zeroValue t).run P w = .ok i.zero w := by
  obtain ⟨x, hx, h1, _⟩ := ht.inf h w
  simp [zeroValue, hx, h1]
end

def isAggD : TypeDesc → Bool
  | .struct _ => true
  | .array _ _ => true
  | _ => false

section
variable {P : Program} {tb : Tab}
theorem TabOk.agg (ht : TabOk P tb) {t : Nat} {i : TI} (h : tl tb t = some i) (w : World) : (isAgg t).run P w = .ok (isAggD i.desc) w := by
  have := ht.under h w
  simp only [isAgg, Sem.run_bind, this, Result.andThen_ok]
  cases i.desc <;> simp [isAggD]
end

def kq : IntKind → IntKind → Bool
  | .i8, .i8 | .i16, .i16 | .i32, .i32 | .i64, .i64 | .u8, .u8 | .u16, .u16 | .u32, .u32 | .u64, .u64 => true
  | _, _ => false
theorem kq_eq {a b : IntKind} (h : kq a b = true) : a = b := by cases a <;> cases b <;> first | rfl | (simp [kq] at h)

def intBin (op : BinOp) (k : IntKind) (a b : Int) : Option Value :=
  match op with
  | .add => some (.int k (k.wrap (a + b)))
  | .sub => some (.int k (k.wrap (a - b)))
  | .mul => some (.int k (k.wrap (a * b)))
  | .and => some (.int k (bits .and k a b))
  | .or => some (.int k (bits .or k a b))
  | .xor => some (.int k (bits .xor k a b))
  | .andNot => some (.int k (bits .andNot k a b))
  | .eql => some (.bool (decide (a = b)))
  | .neq => some (.bool (decide (a ≠ b)))
  | .lss => some (.bool (decide (a < b)))
  | .leq => some (.bool (decide (a ≤ b)))
  | .gtr => some (.bool (decide (b < a)))
  | .geq => some (.bool (decide (b ≤ a)))
  | _ => none

def binV (op : BinOp) (x y : Value) : Option Value :=
  match x, y with
  | .int k a, .int k' b => match kq k k' with
    | true => intBin op k a b
    | false => none
  | _, _ => none

def unV (op : UnOp) (x : Value) : Option Value :=
  match op, x with
  | .not, .bool b => some (.bool (!b))
  | .neg, .int k n => some (.int k (k.wrap (0 - n)))
  | .xor, .int k n => some (.int k (bits .xor k (match k.signed with | true => -1 | false => k.max) n))
  | _, _ => none

def convV (dst : TypeDesc) (x : Value) : Option Value :=
  match dst, x with
  | .int k, .int _ n => some (.int k (k.wrap n))
  | _, _ => none

def placeV (tb : Tab) (s : TypeDesc) (x : Value) (f : Nat) : Option Value :=
  match s, x with
  | .struct fs, .pointer (some ⟨b, o, none⟩) => match fs.toList[f]? with
    | some ⟨_, ty, off, _, _, _, _⟩ => match tl tb ty with
      | some ti => match Nat.beq ti.size 0 with
        | true => none
        | false => some (.pointer (some ⟨b, o + off, none⟩))
      | none => none
    | none => none
  | _, _ => none

/-- A part of a struct or an array that lies in a slot, whole. -/
def partV (ti : TI) (cs : List Value) (off : Nat) : Option Value :=
  match isAggD ti.desc with
  | true => some (.agg ((cs.drop off).take ti.size).toArray)
  | false => cs[off]?

def fieldV (tb : Tab) (s : TypeDesc) (x : Value) (f : Nat) : Option Value :=
  match s, x with
  | .struct fs, .agg cs => match fs.toList[f]? with
    | some fd => match tl tb fd.type with
      | some ti => partV ti cs.toList fd.offset
      | none => none
    | none => none
  | _, _ => none

def mm (mx : Bool) (x y : Value) : Option Value :=
  match x, y with
  | .int k a, .int k' b => match kq k k' with
    | true => match mx with
      | true => some (.int k (max a b))
      | false => some (.int k (min a b))
    | false => none
  | _, _ => none

def biV (tb : Tab) (b : Builtin) (ts : List TypeId) (xs : List Value) : Option Value :=
  match b, ts, xs with
  | .len, [t], [x] => match tl tb t with
    | some ti => match ti.desc, x with
      | .slice _, .slice _ n _ => some (.int .i64 n)
      | .string, .string s => some (.int .i64 s.size)
      | .array n _, _ => some (.int .i64 n)
      | _, _ => none
    | none => none
  | .cap, [t], [x] => match tl tb t with
    | some ti => match ti.desc, x with
      | .slice _, .slice _ _ c => some (.int .i64 c)
      | _, _ => none
    | none => none
  | .max, _, [x, y] => mm true x y
  | .min, _, [x, y] => mm false x y
  | _, _, _ => none

def evs (r : Nat → Option Value) : List Operand → Option (List Value)
  | [] => some []
  | x :: xs => match ev r x with
    | some v => match evs r xs with
      | some vs => some (v :: vs)
      | none => none
    | none => none

def pureVal (tb : Tab) (r : Nat → Option Value) (op : Op) : Option Value :=
  match op with
  | .move x => ev r x
  | .assign x => ev r x
  | .pick c a b => match ev r c with
    | some (.bool true) => ev r a
    | some (.bool false) => ev r b
    | _ => none
  | .binOp op _ x y _ => match ev r x with
    | some u => match ev r y with
      | some v => binV op u v
      | none => none
    | none => none
  | .unOp op _ x => match ev r x with
    | some u => unV op u
    | none => none
  | .convert s d x => match tl tb s with
    | some _ => match tl tb d with
      | some ti => match ev r x with
        | some u => convV ti.desc u
        | none => none
      | none => none
    | none => none
  | .extract t ix => match ev r t with
    | some (.tuple vs) => vs.toList[ix]?
    | _ => none
  | .fieldAddr s x f => match tl tb s with
    | some ti => match ev r x with
      | some u => placeV tb ti.desc u f
      | none => none
    | none => none
  | .field s x f => match tl tb s with
    | some ti => match ev r x with
      | some u => fieldV tb ti.desc u f
      | none => none
    | none => none
  | .nilCheck x => match ev r x with
    | some (.pointer (some a)) => some (.pointer (some a))
    | _ => none
  | .call ⟨.builtin b, as, ts⟩ => match evs r as.toList with
    | some xs => biV tb b ts.toList xs
    | none => none
  | _ => none

/-- Is the operation wanted: its guard's answer, as it stands in the frame. -/
def gd (all : Array Oper) (r : Nat → Option Value) (g : Option (Nat × Bool)) : Option Bool :=
  match g with
  | none => some true
  | some (j, want) => match all.toList[j]? with
    | some o => match o.dst with
      | some d => match r d with
        | some (.bool b) => match want with
          | true => some b
          | false => some (!b)
        | some (.tuple _) => some false
        | _ => none
      | none => none
    | none => none

theorem gd_wanted {all : Array Oper} {r : Nat → Option Value} {o : Oper} {b : Bool} {a : Act} (hf : Rd a r) (h : gd all r o.guard = some b) : Region.wanted o (yielded all a.tmps) = b := by
  cases hg : o.guard with
  | none => rw [hg] at h; simp [gd] at h; simp [Region.wanted, hg, ← h]
  | some p =>
    obtain ⟨j, want⟩ := p
    rw [hg] at h
    simp only [gd] at h
    simp only [Region.wanted, hg, yielded]
    cases hj : all.toList[j]? with
    | none => rw [hj] at h; simp at h
    | some oj =>
      rw [hj] at h
      dsimp only at h
      have hj' : all[j]? = some oj := by simpa using hj
      cases hd : oj.dst with
      | none => rw [hd] at h; simp at h
      | some d =>
        rw [hd] at h
        dsimp only at h
        cases hl : r d with
        | none => rw [hl] at h; simp at h
        | some v =>
          rw [hl] at h
          have hg' := hf d v hl
          cases v <;> simp at h
          · rename_i c
            simp only [hj', Option.bind_some, hd, hg']
            cases want <;> cases c <;> simp_all
          · simp only [hj', Option.bind_some, hd, hg']
            simp [h]

def pureStep (tb : Tab) (n : Nat) (all : Array Oper) (r : Nat → Option Value) (o : Oper) : Option (Nat × Value) :=
  match gd all r o.guard with
  | some true => match o.dst with
    | some d => match Nat.blt d n with
      | true => match pureVal tb r o.op with
        | some v => some (d, v)
        | none => none
      | false => none
    | none => none
  | _ => none

theorem Rd.evs {a : Act} {r : Nat → Option Value} (h : Rd a r) : ∀ {xs : List Operand} {vs : List Value}, Go.Proofs.Ytggnhcgmeibihaa.evs r xs = some vs → xs.map a.eval = vs
  | [], vs, hv => by simp [Go.Proofs.Ytggnhcgmeibihaa.evs] at hv; simp [hv]
  | x :: xs, vs, hv => by
    simp only [Go.Proofs.Ytggnhcgmeibihaa.evs] at hv
    cases hx : Go.Proofs.Ytggnhcgmeibihaa.ev r x with
    | none => rw [hx] at hv; simp at hv
    | some v =>
      rw [hx] at hv
      dsimp only at hv
      cases hxs : Go.Proofs.Ytggnhcgmeibihaa.evs r xs with
      | none => rw [hxs] at hv; simp at hv
      | some us =>
        rw [hxs] at hv
        dsimp only at hv
        simp at hv
        rw [← hv, List.map_cons, h.ev hx, h.evs hxs]

section
variable {P : Program} {tb : Tab} {w : World}

theorem binV_run {op : BinOp} {u v r : Value} (h : binV op u v = some r) : (∀ t x y, (eqGuard op t x y u v).run P w = .ok () w) ∧ ∀ t, (binOp op t u v).run P w = .ok r w := by
  unfold binV at h
  split at h
  · rename_i k a k' b
    split at h
    · rename_i hk
      have := kq_eq hk
      subst this
      refine ⟨fun t x y => by simp [eqGuard_at_int], fun t => ?_⟩
      cases op <;> simp only [intBin, Option.some.injEq, reduceCtorEq] at h <;> subst h <;>
        simp [binOp, Op.intArith, Op.intCmp, intBits_and, intBits_or, intBits_xor, intBits_andNot] <;> rfl
    · cases h
  · cases h

theorem unV_run {op : UnOp} {u r : Value} (h : unV op u = some r) : (Op.unary op u).run P w = .ok r w := by
  unfold unV at h
  split at h
  · simp at h; subst h; simp [Op.unary]
  · simp at h; subst h; simp [Op.unary, Op.intArith]
  · rename_i k n
    simp at h; subst h
    cases hk : k.signed <;> simp [Op.unary, hk, intBits_xor]
  · cases h

theorem convV_run (ht : TabOk P tb) {s d : TypeId} {ti td : TI} (hs : tl tb s = some ti) (hd : tl tb d = some td) {u r : Value} (h : convV td.desc u = some r) : (convert s d u).run P w = .ok r w := by
  unfold convV at h
  split at h
  · rename_i k k' n hdesc
    simp at h
    subst h
    have h1 := ht.under hs w
    have h2 := ht.under hd w
    rw [hdesc] at h2
    simp only [convert, Sem.run_bind, h1, h2, Result.andThen_ok]
    cases ti.desc <;> simp [Conv.intToInt]
  · cases h

theorem placeV_run (ht : TabOk P tb) {s : TypeId} {ti : TI} (hs : tl tb s = some ti) {u r : Value} {f : Nat} (h : placeV tb ti.desc u f = some r) : (Instr.fieldAt s u f).run P w = .ok r w := by
  unfold placeV at h
  split at h
  · rename_i fs b o hdesc
    split at h
    · rename_i nm ty off em tg pp bo hfd
      split at h
      · rename_i tf htf
        split at h
        · cases h
        · rename_i hz
          simp at h
          subst h
          have h1 := ht.under hs w
          rw [hdesc] at h1
          have h2 := ht.sizeOf htf w
          have hne : tf.size ≠ 0 := by rintro hh; rw [hh] at hz; simp at hz
          have hfd' : fs[f]? = some ⟨nm, ty, off, em, tg, pp, bo⟩ := by simpa using hfd
          simp [Instr.fieldAt, h1, hfd', Instr.sureAddr, fieldPlace, h2, hne, Addr.add_lit]
      · cases h
    · cases h
  · cases h

theorem part_run (ht : TabOk P tb) {t : TypeId} {ti : TI} (hs : tl tb t = some ti) {cs : Array Value} {off : Nat} {r : Value} (h : partV ti cs.toList off = some r) : (part t cs off).run P w = .ok r w := by
  have h1 := ht.agg hs w
  have h2 := ht.sizeOf hs w
  unfold partV at h
  unfold part
  simp only [Sem.run_bind, h1, Result.andThen_ok]
  split at h
  · rename_i ha
    rw [ha]
    simp at h
    subst h
    simp only [if_true, Sem.run_bind, h2, Result.andThen_ok, Sem.run_pure]
    congr 2
    apply Array.ext'
    rw [Array.toList_extract, List.extract_eq_take_drop]
    congr 1
    omega
  · rename_i ha
    rw [ha]
    have h' : cs[off]? = some r := by simpa using h
    simp [h']

theorem fieldV_run (ht : TabOk P tb) {s : TypeId} {ti : TI} (hs : tl tb s = some ti) {u r : Value} {f : Nat} (h : fieldV tb ti.desc u f = some r) : (Instr.field s u f).run P w = .ok r w := by
  unfold fieldV at h
  split at h
  · rename_i fs cs hdesc
    split at h
    · rename_i fd hfd
      split at h
      · rename_i tf htf
        have h1 := ht.under hs w
        rw [hdesc] at h1
        have hfd' : fs[f]? = some fd := by simpa using hfd
        simp only [Instr.field, Sem.run_bind, h1, Result.andThen_ok, hfd', asAgg, Sem.run_pure]
        exact part_run ht htf h
      · cases h
    · cases h
  · cases h

theorem mm_max {x y r : Value} (h : mm true x y = some r) : (Builtin.max_ #[] 0 #[x, y]).run P w = .ok r w := by
  unfold mm at h
  split at h
  · rename_i k a k' b
    split at h
    · rename_i hk
      have := kq_eq hk
      subst this
      simp at h
      subst h
      simp [Builtin.max_, Builtin.max2]
      split <;> omega
    · cases h
  · cases h

theorem mm_min {x y r : Value} (h : mm false x y = some r) : (Builtin.min_ #[] 0 #[x, y]).run P w = .ok r w := by
  unfold mm at h
  split at h
  · rename_i k a k' b
    split at h
    · rename_i hk
      have := kq_eq hk
      subst this
      simp at h
      subst h
      simp [Builtin.min_, Builtin.min2]
      split <;> omega
    · cases h
  · cases h

theorem biV_run (ht : TabOk P tb) {b : Builtin} {ts : List TypeId} {ty : TypeId} {cs : Array Bool} {xs : List Value} {r : Value} (h : biV tb b ts xs = some r) :
    (builtin b ts.toArray ty cs xs.toArray).run P w = .ok (.value r) w := by
  unfold biV at h
  split at h
  · rename_i t x
    split at h
    · rename_i ti hti
      have h1 := ht.under hti w
      split at h
      · rename_i e a n c hd
        simp at h; subst h
        rw [hd] at h1
        simp [builtin, Builtin.len_, h1, goInt]
      · rename_i s hd
        simp at h; subst h
        rw [hd] at h1
        simp [builtin, Builtin.len_, h1, goInt]
      · rename_i k e hd
        simp at h; subst h
        rw [hd] at h1
        simp [builtin, Builtin.len_, h1, goInt]
      · cases h
    · cases h
  · rename_i t x
    split at h
    · rename_i ti hti
      have h1 := ht.under hti w
      split at h
      · rename_i e a n c hd
        simp at h; subst h
        rw [hd] at h1
        simp [builtin, Builtin.cap_, h1, goInt]
      · cases h
    · cases h
  · rename_i x y
    have := mm_max (P := P) (w := w) h
    simp only [Builtin.max_] at this
    simp [builtin, Builtin.max_] at this ⊢
    simp [this]
  · rename_i x y
    have := mm_min (P := P) (w := w) h
    simp only [Builtin.min_] at this
    simp [builtin, Builtin.min_] at this ⊢
    simp [this]
  · cases h

theorem pure_run (ht : TabOk P tb) {r : Nat → Option Value} {o : Oper} {a : Act} {v : Value} (hf : Rd a r) (h : pureVal tb r o.op = some v) (w : World) : (execOp a.eval o).run P w = .ok (.value v) w := by
  unfold execOp
  generalize o.op = op at h
  unfold pureVal at h
  split at h
  · simp [hf.ev h]
  · simp [hf.ev h]
  · split at h
    · rename_i hc; simp [hf.ev hc, asBool, hf.ev h]
    · rename_i hc; simp [hf.ev hc, asBool, hf.ev h]
    · cases h
  · split at h
    · rename_i hx
      split at h
      · rename_i hy
        obtain ⟨h1, h2⟩ := binV_run (P := P) (w := w) h
        simp [hf.ev hx, hf.ev hy, h1, h2]
      · cases h
    · cases h
  · split at h
    · rename_i hx
      simp [hf.ev hx, unV_run h]
    · cases h
  · split at h
    · rename_i hs
      split at h
      · rename_i hd
        split at h
        · rename_i hx; simp [hf.ev hx, convV_run ht hs hd h]
        · cases h
      · cases h
    · cases h
  · split at h
    · rename_i hx
      rw [Array.getElem?_toList] at h
      simp [hf.ev hx, Instr.extract, h]
    · cases h
  · split at h
    · rename_i hs
      split at h
      · rename_i hx; simp [hf.ev hx, placeV_run ht hs h]
      · cases h
    · cases h
  · split at h
    · rename_i hs
      split at h
      · rename_i hx; simp [hf.ev hx, fieldV_run ht hs h]
      · cases h
    · cases h
  · split at h
    · rename_i hx
      simp at h
      subst h
      simp [hf.ev hx]
    · cases h
  · split at h
    · rename_i hx
      rename_i b as ts x xs
      have hv := hf.evs hx
      have hm : as.map a.eval = xs.toArray := by
        apply Array.ext'
        simpa using hv
      simp only [resolve, invoke, hm, Sem.run_bind, Sem.run_pure, Result.andThen_ok]
      exact biV_run (ts := ts.toList) ht h
    · cases h
  · cases h

variable {n : Nat} {w0 : World} {all : Array Oper} {rest : List Oper} {o : Oper} {l : FL} {ol : OL} {K : FL → OL → Prop} {Q : Post}

theorem S_nil (h : K l ol) : S P n w0 all [] l ol K Q :=
  ⟨fun a w hf hh => by unfold wpList lift pthen; exact ⟨l, ol, hf, hh, h⟩⟩

theorem wpList_run {Q' : Exit → Act → World → Prop} {a : Act} {w w' : World} {v : Value} {ops : List Oper} (hw : Region.wanted o (yielded all a.tmps) = true) (hr : (execOp a.eval o).run P w = .ok (.value v) w')
    (h : wpList P all Q' ops (a.put o.dst v) w') : wpList P all Q' (o :: ops) a w := by
  unfold wpList
  rw [if_pos hw]
  left
  simp only [Oper.wp, hr, Oper.upon]
  exact h

theorem wpList_runu {Q' : Exit → Act → World → Prop} {a : Act} {w w' : World} {ops : List Oper} (hw : Region.wanted o (yielded all a.tmps) = true) (hr : (execOp a.eval o).run P w = .ok .skip w')
    (h : wpList P all Q' ops (a.put o.dst undef) w') : wpList P all Q' (o :: ops) a w := by
  unfold wpList
  rw [if_pos hw]
  left
  simp only [Oper.wp, hr, Oper.upon]
  exact h

theorem S_pure (ht : TabOk P tb) {d : Nat} {v : Value} (hs : pureStep tb n all (look l) o = some (d, v)) (k : S P n w0 all rest ((d, v) :: l) ol K Q) : S P n w0 all (o :: rest) l ol K Q := by
  refine ⟨fun a w hf hh => ?_⟩
  unfold pureStep at hs
  split at hs
  · rename_i hg
    split at hs
    · rename_i d' hd
      split at hs
      · rename_i hb
        split at hs
        · rename_i v' hv
          simp at hs
          obtain ⟨rfl, rfl⟩ := hs
          refine wpList_run (gd_wanted hf.rd hg) (pure_run ht hf.rd hv w) ?_
          rw [hd]
          have hlt : d' < n := by simpa [Nat.blt_eq] using hb
          exact k.out _ w (hf.put hlt _) hh
        · cases hs
      · cases hs
    · cases hs
  · cases hs

/-- The result in other words. -/
theorem S_pure_eq (ht : TabOk P tb) {d : Nat} {v v' : Value} (hs : pureStep tb n all (look l) o = some (d, v)) (he : v = v') (k : S P n w0 all rest ((d, v') :: l) ol K Q) : S P n w0 all (o :: rest) l ol K Q :=
  S_pure ht hs (he ▸ k)

theorem S_i64 (ht : TabOk P tb) {d : Nat} {e : Int} (hs : pureStep tb n all (look l) o = some (d, .int .i64 (IntKind.i64.wrap e))) (hb : -9223372036854775808 ≤ e ∧ e ≤ 9223372036854775807)
    (k : S P n w0 all rest ((d, .int .i64 e) :: l) ol K Q) : S P n w0 all (o :: rest) l ol K Q := S_pure_eq ht hs (by rw [IntWalk.i64_in _ hb]) k
theorem S_u64 (ht : TabOk P tb) {d : Nat} {e : Int} (hs : pureStep tb n all (look l) o = some (d, .int .u64 (IntKind.u64.wrap e))) (hb : 0 ≤ e ∧ e ≤ 18446744073709551615)
    (k : S P n w0 all rest ((d, .int .u64 e) :: l) ol K Q) : S P n w0 all (o :: rest) l ol K Q := S_pure_eq ht hs (by rw [IntWalk.u64_in _ hb]) k
theorem S_u32 (ht : TabOk P tb) {d : Nat} {e : Int} (hs : pureStep tb n all (look l) o = some (d, .int .u32 (IntKind.u32.wrap e))) (hb : 0 ≤ e ∧ e ≤ 4294967295)
    (k : S P n w0 all rest ((d, .int .u32 e) :: l) ol K Q) : S P n w0 all (o :: rest) l ol K Q := S_pure_eq ht hs (by rw [IntWalk.u32_in _ hb]) k
theorem S_u8 (ht : TabOk P tb) {d : Nat} {e : Int} (hs : pureStep tb n all (look l) o = some (d, .int .u8 (IntKind.u8.wrap e))) (hb : 0 ≤ e ∧ e ≤ 255)
    (k : S P n w0 all rest ((d, .int .u8 e) :: l) ol K Q) : S P n w0 all (o :: rest) l ol K Q := S_pure_eq ht hs (by rw [IntWalk.u8_in _ hb]) k
theorem S_u16 (ht : TabOk P tb) {d : Nat} {e : Int} (hs : pureStep tb n all (look l) o = some (d, .int .u16 (IntKind.u16.wrap e))) (hb : 0 ≤ e ∧ e ≤ 65535)
    (k : S P n w0 all rest ((d, .int .u16 e) :: l) ol K Q) : S P n w0 all (o :: rest) l ol K Q := S_pure_eq ht hs (by rw [IntWalk.u16_in _ hb]) k

/-- An operation that its guard passes over. -/
theorem S_pass {d : Nat} (hg : gd all (look l) o.guard = some false) (hd : o.dst = some d) (hn : Nat.blt d n = true) (k : S P n w0 all rest ((d, undef) :: l) ol K Q) : S P n w0 all (o :: rest) l ol K Q := by
  refine ⟨fun a w hf hh => ?_⟩
  unfold wpList
  rw [if_neg (by rw [gd_wanted hf.rd hg]; simp), hd]
  exact k.out _ w (hf.put (by simpa [Nat.blt_eq] using hn) _) hh
theorem S_pass0 (hg : gd all (look l) o.guard = some false) (hd : o.dst = none) (k : S P n w0 all rest l ol K Q) : S P n w0 all (o :: rest) l ol K Q := by
  refine ⟨fun a w hf hh => ?_⟩
  unfold wpList
  rw [if_neg (by rw [gd_wanted hf.rd hg]; simp), hd]
  exact k.out _ w hf hh

theorem S_sub {ops : List Oper} {l' : FL} (hs : Sub l' l) (h : S P n w0 all ops l' ol K Q) : S P n w0 all ops l ol K Q := ⟨fun a w h1 h2 => h.out a w (h1.sub hs) h2⟩
theorem S_re {ops : List Oper} (d : Nat) {v v' : Value} (hl : look l d = some v) (he : v = v') (h : S P n w0 all ops ((d, v') :: l) ol K Q) : S P n w0 all ops l ol K Q :=
  S_sub (Sub.cons (he ▸ hl) (Sub.refl l)) h
theorem S_heap {ops : List Oper} {ol' : OL} (hs : ∀ w, Hp w0 w ol → Hp w0 w ol') (h : S P n w0 all ops l ol' K Q) : S P n w0 all ops l ol K Q := ⟨fun a w h1 h2 => h.out a w h1 (hs w h2)⟩

/-- The slot on which the operation's guard looks. -/
def gslot (all : Array Oper) (g : Option (Nat × Bool)) : Option Nat :=
  match g with
  | none => none
  | some (j, _) => match all.toList[j]? with
    | some o => o.dst
    | none => none
/-- A guard that is not decided: two ways. -/
theorem S_split {d : Nat} {p : Prop} {_ : Decidable p} (hg : gslot all o.guard = some d) (hl : look l d = some (.bool (decide p))) (ht : p → S P n w0 all (o :: rest) ((d, .bool true) :: l) ol K Q)
    (hf : ¬ p → S P n w0 all (o :: rest) ((d, .bool false) :: l) ol K Q) : S P n w0 all (o :: rest) l ol K Q := by
  by_cases hp : p
  · exact S_re d hl (by simp [hp]) (ht hp)
  · exact S_re d hl (by simp [hp]) (hf hp)
theorem S_splitb {d : Nat} {b : Bool} (hg : gslot all o.guard = some d) (hl : look l d = some (.bool b)) (ht : b = true → S P n w0 all (o :: rest) ((d, .bool true) :: l) ol K Q)
    (hf : b = false → S P n w0 all (o :: rest) ((d, .bool false) :: l) ol K Q) : S P n w0 all (o :: rest) l ol K Q := by
  cases b
  · exact S_re d hl rfl (hf rfl)
  · exact S_re d hl rfl (ht rfl)

theorem Oper.wp_mono2 {a : Act} {w : World} {K1 K2 : Act → World → Prop} {Q1 Q2 : Exit → Act → World → Prop} (h : ∀ a w, K1 a w → K2 a w) (hq : ∀ e a w, Q1 e a w → Q2 e a w) (hh : o.wp P a w K1 Q1) : o.wp P a w K2 Q2 := by
  unfold Oper.wp at *
  generalize (execOp a.eval o).run P w = r at *
  cases r with
  | ok x w' =>
    cases x <;> simp only [Oper.upon] at hh ⊢ <;> try exact h _ _ hh
    · refine hh.mono fun e w'' he => ?_
      cases e with
      | returned v => exact h _ _ he
      | panicked c => exact hq _ _ _ he
      | outgrown => obtain ⟨a', w3, h3⟩ := he; exact ⟨a', w3, hq _ _ _ h3⟩
    · exact hh.mono fun v w'' he => h _ _ he
  | halt x w' =>
    cases x <;> simp only [Oper.upon] at hh ⊢
    exact hq _ _ _ hh

theorem wpList_mono {Q1 Q2 : Exit → Act → World → Prop} (hq : ∀ e a w, Q1 e a w → Q2 e a w) : ∀ (ops : List Oper) (a : Act) (w : World), wpList P all Q1 ops a w → wpList P all Q2 ops a w
  | [], a, w, h => hq _ _ _ h
  | o :: ops, a, w, h => by
    unfold wpList at h ⊢
    split
    · rename_i hw
      rw [if_pos hw] at h
      rcases h with h | ⟨h, a', w', h'⟩
      · exact .inl (Oper.wp_mono2 (fun a w => wpList_mono hq ops a w) hq h)
      · exact .inr ⟨h, a', w', hq _ _ _ h'⟩
    · rename_i hw
      rw [if_neg hw] at h
      exact wpList_mono hq ops _ w h

/-- The ways of a region come together again: only so much is remembered of it. -/
theorem S_cut {ops : List Oper} {ι : Type} (I : ι → Prop) (L : ι → FL) (O : ι → OL) (h : S P n w0 all ops l ol (fun l1 o1 => ∃ i, I i ∧ Sub (L i) l1 ∧ ∀ w, Hp w0 w o1 → Hp w0 w (O i)) Q) (k : ∀ i, I i → K (L i) (O i)) : S P n w0 all ops l ol K Q :=
  ⟨fun a w h1 h2 => by
    refine wpList_mono ?_ ops a w (h.out a w h1 h2)
    unfold lift pthen
    rintro e a w ⟨l1, o1, hf, hh, hq⟩
    cases e with
    | normal => obtain ⟨i, hi, hs, ho⟩ := hq; exact ⟨L i, O i, hf.sub hs, ho w hh, k i hi⟩
    | _ => exact ⟨l1, o1, hf, hh, hq⟩⟩
theorem T_cut {c : Code} {ι : Type} (I : ι → Prop) (L : ι → FL) (O : ι → OL) (h : T P n w0 c l ol (pthen (fun l1 o1 => ∃ i, I i ∧ Sub (L i) l1 ∧ ∀ w, Hp w0 w o1 → Hp w0 w (O i)) Q)) (k : ∀ i, I i → K (L i) (O i)) : T P n w0 c l ol (pthen K Q) :=
  ⟨fun a w h1 h2 => by
    refine wp_mono (h.out a w h1 h2) ?_
    unfold lift pthen
    rintro e a w ⟨l1, o1, hf, hh, hq⟩
    cases e with
    | normal => obtain ⟨i, hi, hs, ho⟩ := hq; exact ⟨L i, O i, hf.sub hs, ho w hh, k i hi⟩
    | _ => exact ⟨l1, o1, hf, hh, hq⟩⟩
end
end Go.Proofs.Ytggnhcgmeibihaa
