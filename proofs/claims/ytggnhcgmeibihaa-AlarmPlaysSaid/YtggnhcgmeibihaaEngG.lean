/-
  An engine of rules for walks, part G: slices: what a slice reads as, appends, structs and slices that are built. No program's text; conditions: each theorem's own.
-/
import Derived.Test.YtggnhcgmeibihaaEngF
import Derived.Maps.AppendAt
namespace Go.Proofs.Ytggnhcgmeibihaa
open Go Go.RowKit
set_option linter.unusedVariables false

/-- A slice of n elements of sz cells each reads so. -/
structure Sl (w : World) (sz : Nat) (a : Option Addr) (n : Nat) (xs : List Value) : Prop where
  len : xs.length = n * sz
  get : 0 < n → ∃ b off, a = some ⟨b, off, none⟩ ∧ b < w.heap.size ∧ ∀ j u, xs[j]? = some u → w.cell? ⟨b, off + j, none⟩ = some u

section
variable {w w' : World} {sz n : Nat} {a : Option Addr} {xs : List Value}
theorem Sl.nil_ : Sl w sz a 0 [] := ⟨by simp, fun h => absurd h (by omega)⟩
theorem Sl.ext (h : Sl w sz a n xs) (hb : Below w.heap.size w w') : Sl w' sz a n xs :=
  ⟨h.len, fun hn => by
    obtain ⟨b, off, e, hlt, hc⟩ := h.get hn
    exact ⟨b, off, e, Nat.lt_of_lt_of_le hlt hb.size, fun j u hu => (hb.cell (p := ⟨b, off + j, none⟩) hlt).trans (hc j u hu)⟩⟩
theorem Sl.of_own {base : Nat} {e : TypeId} {c : Nat} (h : w.ownsRow base e sz (.slice a n c) n xs) : Sl w sz a n xs := by
  refine ⟨h.1, fun hn => ?_⟩
  obtain ⟨_, h2⟩ := h
  rcases h2 with ⟨_, h2⟩ | ⟨g, cap, cur, hv, hb, hg, hnc, hcm, hcs, htake⟩
  · omega
  · cases hv
    refine ⟨g, 0, rfl, heap_lt hg, fun j u hu => ?_⟩
    rw [Nat.zero_add, cell_of_row w g j cur e (0, 0) hg]
    rw [← htake, List.getElem?_take] at hu
    split at hu
    · simpa using hu
    · cases hu
theorem Sl.of_blk {b off : Nat} {cs : List Value} {e : TypeId} {fz : Nat × Nat} (hb : w.heap[b]? = some (.cells ⟨cs⟩ e fz)) (hx : xs.length = n * sz) (h : ∀ j u, xs[j]? = some u → cs[off + j]? = some u) : Sl w sz (some ⟨b, off, none⟩) n xs :=
  ⟨hx, fun _ => ⟨b, off, rfl, heap_lt hb, fun j u hu => by rw [cell_of_row w b _ _ e fz hb]; simpa using h j u hu⟩⟩
theorem Sl.take (h : Sl w sz a n xs) {k : Nat} (hk : k ≤ n) : Sl w sz a k (xs.take (k * sz)) := by
  refine ⟨by rw [List.length_take, h.len]; exact Nat.min_eq_left (Nat.mul_le_mul_right _ hk), fun hn => ?_⟩
  obtain ⟨b, off, e, hlt, hc⟩ := h.get (by omega)
  refine ⟨b, off, e, hlt, fun j u hu => hc j u ?_⟩
  rw [List.getElem?_take] at hu
  split at hu
  · exact hu
  · cases hu
theorem Sl.drop (h : Sl w sz a n xs) {k c : Nat} (hk : k ≤ n) (hc : n ≤ c) : Sl w sz (if c = k then a else a.map (·.add (k * sz))) (n - k) (xs.drop (k * sz)) := by
  refine ⟨by rw [List.length_drop, h.len, Nat.sub_mul], fun hn => ?_⟩
  obtain ⟨b, off, rfl, hlt, hcell⟩ := h.get (by omega)
  rw [if_neg (by omega)]
  refine ⟨b, off + k * sz, by simp [Addr.add_lit], hlt, fun j u hu => ?_⟩
  rw [Nat.add_assoc]
  exact hcell _ u (by rw [← hu, List.getElem?_drop])
theorem Sl.at_ {b off : Nat} (h : Sl w sz (some ⟨b, off, none⟩) n xs) (hn : 0 < n) {j : Nat} {u : Value} (hu : xs[j]? = some u) : w.cell? ⟨b, off + j, none⟩ = some u := by
  obtain ⟨b', off', e, hlt, hc⟩ := h.get hn
  cases e
  exact hc j u hu
end

section
variable {P : Program} {tb : Tab} {n : Nat} {w0 : World} {all : Array Oper} {os : List Oper} {o : Oper} {l : FL} {dl : DL} {ol : OL} {F : DL → Prop} {K : FL → OL → Prop} {Q : Post} {r : Nat → Option Value} {d : Nat} {v : Value}

/-- What was there reads as it did. -/
theorem Sl.old {sz m : Nat} {a : Option Addr} {xs : List Value} (h : Sl w0 sz a m xs) (hn : ∀ e ∈ ol, e.ex = true → ∀ k, e.has k → w0.heap.size ≤ k) {w : World} (hw : Hp w0 w ol) : Sl w sz a m xs := h.ext (hw.below hn)
theorem Sl.old' {sz m : Nat} {a : Option Addr} {xs : List Value} (h : Sl w0 sz a m xs) (hn : ∀ b off, a = some ⟨b, off, none⟩ → b < w0.heap.size → Apart ol b) {w : World} (hw : Hp w0 w ol) : Sl w sz a m xs :=
  ⟨h.len, fun hm => by
    obtain ⟨b, off, e, hlt, hc⟩ := h.get hm
    exact ⟨b, off, e, Nat.lt_of_lt_of_le hlt hw.size, fun j u hu => hw.cell (hc j u hu) (hn b off e hlt)⟩⟩

theorem allOne_map {α : Type} (f : α → Value) (hf : ∀ x, (f x).oneCell' = true) (l : List α) : ∀ u ∈ l.map f, u.oneCell' = true := by
  intro u hu
  obtain ⟨x, _, rfl⟩ := List.mem_map.1 hu
  exact hf x

theorem run_append_nilsrc (w : World) (t ty e : TypeId) (i : TypeInfo) (ht : P.underlying t = some (.slice e)) (hi : P.info? e = some i) (A A' : Option Addr) (m c c' : Nat) (hmc : m ≤ c) :
    (Builtin.append_ #[t, t] ty #[.slice A m c, .slice A' 0 c']).run P w = .ok (.slice A m c) w := by
  cases A <;> cases A' <;> simp [Builtin.append_, run_underlying ht, sizeOf, typeInfo, hi, Builtin.lenOf, Builtin.firstCells, hmc, storeCells, loadCells, loadCellsFrom]

/-- append onto a row of the call's own: 'v' ' is nil or leads to a row. -/
theorem run_append_row (w : World) (base : Nat) (t ty e : TypeId) (i : TypeInfo) (z : Value) (size bytes : Nat) (ht : P.underlying t = some (.slice e)) (hi : P.info? e = some i) (hz : i.zero = some z)
    (hsize : i.size = size) (hby : i.bytes = bytes) (hzs : z.cells.size = size) (hsz : 0 < size)
    (v : Value) (n : Nat) (xs : List Value) (hown : w.ownsRow base e size v n xs)
    (A : Option Addr) (m c : Nat) (news : List Value) (hr : Sl w size A m news) (h1 : ∀ u ∈ news, u.oneCell' = true)
    (h63 : n + m ≤ maxLen) (hbytes : (n + m) * bytes ≤ 140737488355328) (hbase : base ≤ w.heap.size) :
    ∃ v' w', (Builtin.append_ #[t, t] ty #[v, .slice A m c]).run P w = .ok v' w' ∧ w'.ownsRow base e size v' (n + m) (xs ++ news) ∧ w.grownBy w' v.ownBlock ∧
      (v'.ownBlock = v.ownBlock ∨ v'.ownBlock = some w.heap.size) := by
  rcases Nat.eq_zero_or_pos m with h0 | h0
  · subst h0
    have hn : news = [] := List.eq_nil_of_length_eq_zero (by simpa using hr.len)
    subst hn
    obtain ⟨hx, h2⟩ := hown
    rcases h2 with ⟨rfl, rfl⟩ | ⟨g, cap, cur, rfl, hb, hg, hnc, rest⟩
    · exact ⟨_, w, run_append_nilsrc w t ty e i ht hi none A 0 0 c (Nat.le_refl _), by rw [Nat.add_zero, List.append_nil]; exact ⟨hx, .inl ⟨rfl, rfl⟩⟩, World.grownBy.refl w _, .inl rfl⟩
    · exact ⟨_, w, run_append_nilsrc w t ty e i ht hi _ A n cap c hnc, by rw [Nat.add_zero, List.append_nil]; exact ⟨hx, .inr ⟨g, cap, cur, rfl, hb, hg, hnc, rest⟩⟩, World.grownBy.refl w _, .inl rfl⟩
  · obtain ⟨b, off, rfl, hlt, hc⟩ := hr.get h0
    obtain ⟨v', w', hrun, h2, h3, _, h5⟩ := run_append_own_at (P := P) w base t ty e i z size bytes ht hi hz hsize hby hzs hsz v n xs hown ⟨b, off, none⟩ m c news hr.len (fun j u hu => by rw [Addr.add_lit]; exact hc j u hu) h1 h63 hbytes hbase
    exact ⟨v', w', hrun, h2, h3, h5⟩

theorem form_of_own {w : World} {base : Nat} {e : TypeId} {sz m : Nat} {v : Value} {xs : List Value} (h : w.ownsRow base e sz v m xs) : ∃ A c, v = .slice A m c ∧ m ≤ c ∧ c ≤ maxLen := by
  obtain ⟨_, h2⟩ := h
  rcases h2 with ⟨rfl, rfl⟩ | ⟨g, cap, cur, rfl, hb, hg, hnc, hcm, _⟩
  · exact ⟨none, 0, rfl, Nat.le_refl _, Nat.zero_le _⟩
  · exact ⟨_, cap, rfl, hnc, hcm⟩

/-- 'x = append(x, y...)', x a row of the call's own. -/
theorem S_append (ht : TabOk P tb) (i : Nat) {t e : TypeId} {ty : TypeId} {s x : Operand} {v : Value} {m k c sz : Nat} {A : Option Addr} {xs news : List Value} {ti te : TI} {base : Nat}
    (hs : opAt? n all (look l) o = some (d, .call ⟨.builtin .append, #[s, x], #[t, t]⟩)) (hv : ev (look l) s = some v) (hx : ev (look l) x = some (.slice A k c))
    (hi : getE ol i = some (.row base v e sz m xs)) (hti : tl tb t = some ti) (hd : ti.desc = .slice e) (hte : tl tb e = some te) (hsz : te.size = sz) (hzs : te.zero.cells.size = sz) (hpos : 0 < sz)
    (hr : ∀ w, Hp w0 w ol → Sl w sz A k news) (h1 : ∀ u ∈ news, u.oneCell' = true) (hmax : m + k ≤ maxLen) (hbytes : (m + k) * te.bytes ≤ 140737488355328) (hbase : base = w0.heap.size)
    (kk : ∀ A' c', m + k ≤ c' → c' ≤ maxLen → ∃ ol', putE ol i (.row base (.slice A' (m + k) c') e sz (m + k) (xs ++ news)) = some ol' ∧ S P n w0 all os ((d, .slice A' (m + k) c') :: l) ol' K Q) :
    S P n w0 all (o :: os) l ol K Q := by
  obtain ⟨hdst, hlt, hg, hop⟩ := opAt_spec hs
  refine ⟨fun a w hf hh => ?_⟩
  obtain ⟨inf, hinf, hz, hs1, hs2⟩ := (ht e te hte).2
  have hown := hh.own _ (getE_mem hi)
  have hu := ht.under' hti
  rw [hd] at hu
  obtain ⟨v', w', hrun, h2, h3, h4⟩ := run_append_row (P := P) w base t o.type e inf te.zero sz te.bytes hu hinf hz (hs1.trans hsz) hs2 hzs hpos v m xs hown A k c news (hr w hh) h1 hmax hbytes (by rw [hbase]; exact hh.size)
  obtain ⟨A', c', rfl, hmc, hcm⟩ := form_of_own h2
  obtain ⟨ol', hput, kS⟩ := kk A' c' hmc hcm
  refine wpList_run (v := .slice A' (m + k) c') (gd_wanted hf.rd hg) ?_ ?_ (w' := w')
  · unfold execOp
    simp [hop, resolve, invoke, builtin, hf.rd.ev hv, hf.rd.ev hx, hrun]
  · rw [hdst]
    refine kS.out _ _ (hf.put hlt _) ?_
    obtain ⟨pre, post, e1, e2⟩ := putE_eq hi hput
    rw [e1] at hh
    rw [e2]
    refine hh.turn rfl h3.os h3.tape h3.output h3.size (fun j hj hne => h3.block j hj (fun hh => hne hh.symm)) h2 (fun j hj => ?_) (fun j hj => ?_)
    · rcases h4 with h4 | h4
      · left
        show v.ownBlock = some j
        rw [← h4]
        exact hj
      · right
        have hj' : (Value.slice A' (m + k) c').ownBlock = some j := hj
        rw [h4] at hj'
        cases hj'
        exact Nat.le_refl _
    · left
      have := (World.ownsRow.lt hown j hj).1
      omega

/-- a slice without spare room: what is appended makes it anew -/
theorem run_append_full (w : World) (t ty e : TypeId) (i : TypeInfo) (z : Value) (size bytes : Nat) (ht : P.underlying t = some (.slice e)) (hi : P.info? e = some i) (hz : i.zero = some z)
    (hsize : i.size = size) (hby : i.bytes = bytes) (hzs : z.cells.size = size)
    (a : Option Addr) (n : Nat) (xs : List Value) (hx : Sl w size a n xs)
    (A : Option Addr) (m c : Nat) (news : List Value) (hr : Sl w size A m news) (h63 : n + m ≤ maxLen) (hbytes : (n + m) * bytes ≤ 140737488355328) (hnil : a = none → n = 0) :
    ∃ a' c' w', (Builtin.append_ #[t, t] ty #[.slice a n n, .slice A m c]).run P w = .ok (.slice a' (n + m) c') w' ∧ Below w.heap.size w w' ∧ Sl w' size a' (n + m) (xs ++ news) ∧ n + m ≤ c' ∧ c' ≤ maxLen ∧ (m = 0 ∧ a' = a ∧ c' = n ∨ 0 < m ∧ w'.ownsRow w.heap.size e size (.slice a' (n + m) c') (n + m) (xs ++ news)) := by
  rcases Nat.eq_zero_or_pos m with h0 | h0
  · subst h0
    have hn : news = [] := List.eq_nil_of_length_eq_zero (by simpa using hr.len)
    subst hn
    exact ⟨a, n, w, run_append_nilsrc w t ty e i ht hi a A n n c (Nat.le_refl _), Below.refl _ _, by simpa using hx, Nat.le_refl _, by omega, .inl ⟨rfl, rfl, rfl⟩⟩
  · obtain ⟨b, off, rfl, hlt, hc⟩ := hr.get h0
    have hnews : ∀ j u, news[j]? = some u → w.cell? ((⟨b, off, none⟩ : Addr).add j) = some u := fun j u hu => by rw [Addr.add_lit]; exact hc j u hu
    have h63' : n + m ≤ 9223372036854775807 := by simp only [maxLen] at h63; omega
    subst hsize
    subst hby
    have fin : ∀ old, old ≤ n → (w.drew.alloc (.cells (xs.toArray ++ news.toArray ++ Builtin.zeroCells z.cells (grownCap w (n + m) old e - (n + m))) e)).ownsRow w.heap.size e i.size
        (.slice (some ⟨w.heap.size, 0, none⟩) (n + m) (grownCap w (n + m) old e)) (n + m) (xs ++ news) := by
      intro old hold
      have hge := grownCap_ge w (n + m) old e
      have hcm := grownCap_le_maxLen w (n + m) old e h63
      have hlen : (xs ++ news).length = (n + m) * i.size := by rw [List.length_append, hx.len, hr.len, Nat.add_mul]
      refine ⟨hlen, .inr ⟨w.heap.size, _, _, rfl, Nat.le_refl _, heap_alloc_new w.drew _, hge, hcm, ?_, ?_⟩⟩
      · simp only [Array.size_append, List.size_toArray, size_zeroCells, hzs, hx.len, hr.len, ← Nat.add_mul]
        congr 1
        omega
      · simp only [Array.toList_append, List.append_assoc]
        rw [← List.append_assoc, ← hlen]
        exact List.take_left
    have hbel : ∀ ob, Below w.heap.size w (w.drew.alloc ob) := fun ob => ((Below.refl _ _).drew).alloc (Nat.le_refl _) ob
    have done : ∀ old, old ≤ n → (Builtin.append_ #[t, t] ty #[.slice a n n, .slice (some ⟨b, off, none⟩) m c]).run P w = .ok (.slice (some ⟨w.heap.size, 0, none⟩) (n + m) (grownCap w (n + m) old e)) (w.drew.alloc (.cells (xs.toArray ++ news.toArray ++ Builtin.zeroCells z.cells (grownCap w (n + m) old e - (n + m))) e)) →
        ∃ a' c' w', (Builtin.append_ #[t, t] ty #[.slice a n n, .slice (some ⟨b, off, none⟩) m c]).run P w = .ok (.slice a' (n + m) c') w' ∧ Below w.heap.size w w' ∧ Sl w' i.size a' (n + m) (xs ++ news) ∧ n + m ≤ c' ∧ c' ≤ maxLen ∧ (m = 0 ∧ a' = a ∧ c' = n ∨ 0 < m ∧ w'.ownsRow w.heap.size e i.size (.slice a' (n + m) c') (n + m) (xs ++ news)) := by
      intro old hold hr'
      have hf := fin old hold
      exact ⟨_, _, _, hr', hbel _, Sl.of_own hf, grownCap_ge w (n + m) old e, grownCap_le_maxLen w (n + m) old e h63, .inr ⟨h0, hf⟩⟩
    cases a with
    | none =>
      have hn0 := hnil rfl
      subst hn0
      have hxn : xs = [] := List.eq_nil_of_length_eq_zero (by simpa using hx.len)
      subst hxn
      refine done 0 (Nat.le_refl _) ?_
      have := run_append_nil (P := P) w t ty e i z ht hi hz ⟨b, off, none⟩ m c news hr.len hnews h0 (by omega) (by have hb := hbytes; simp only [Nat.zero_add] at hb; omega)
      simpa using this
    | some ad =>
      refine done n (Nat.le_refl _) ?_
      have holds : ∀ j u, xs[j]? = some u → w.cell? (ad.add j) = some u := by
        intro j u hu
        rcases Nat.eq_zero_or_pos n with hn0 | hn0
        · subst hn0
          have : xs = [] := List.eq_nil_of_length_eq_zero (by simpa using hx.len)
          subst this
          simp at hu
        · obtain ⟨b', off', e', _, hc'⟩ := hx.get hn0
          cases e'
          rw [Addr.add_lit]
          exact hc' j u hu
      exact run_append_grow (P := P) w t ty e i z ht hi hz ad n n xs hx.len holds ⟨b, off, none⟩ m c news hr.len hnews (by omega) (by omega) (growslice_fits (by omega) hbytes)

/-- 'append(p[:len(p):len(p)], y...)': nothing that was there turns. What it leads to is told by the reading alone. -/
theorem S_appendF (ht : TabOk P tb) {t e : TypeId} {s x : Operand} {m k c sz : Nat} {a A : Option Addr} {xs news : List Value} {ti te : TI}
    (hs : opAt? n all (look l) o = some (d, .call ⟨.builtin .append, #[s, x], #[t, t]⟩)) (hv : ev (look l) s = some (.slice a m m)) (hx : ev (look l) x = some (.slice A k c))
    (hti : tl tb t = some ti) (hd : ti.desc = .slice e) (hte : tl tb e = some te) (hsz : te.size = sz) (hzs : te.zero.cells.size = sz)
    (hxs : ∀ w, Hp w0 w ol → Sl w sz a m xs) (hr : ∀ w, Hp w0 w ol → Sl w sz A k news) (hmax : m + k ≤ maxLen) (hbytes : (m + k) * te.bytes ≤ 140737488355328) (hnil : a = none → m = 0) (hpos : 0 < k)
    (kk : ∀ A' c', m + k ≤ c' → c' ≤ maxLen → S P n w0 all os ((d, .slice A' (m + k) c') :: l) (.row w0.heap.size (.slice A' (m + k) c') e sz (m + k) (xs ++ news) :: ol) K Q) : S P n w0 all (o :: os) l ol K Q := by
  obtain ⟨hdst, hlt, hg, hop⟩ := opAt_spec hs
  refine ⟨fun ac w hf hh => ?_⟩
  obtain ⟨inf, hinf, hz, hs1, hs2⟩ := (ht e te hte).2
  have hu := ht.under' hti
  rw [hd] at hu
  obtain ⟨a', c', w', hrun, hb, hsl, h1, h2, h3⟩ := run_append_full (P := P) w t o.type e inf te.zero sz te.bytes hu hinf hz (hs1.trans hsz) hs2 hzs a m xs (hxs w hh) A k c news (hr w hh) hmax hbytes hnil
  refine wpList_run (v := .slice a' (m + k) c') (gd_wanted hf.rd hg) ?_ ?_ (w' := w')
  · unfold execOp
    simp [hop, resolve, invoke, builtin, hf.rd.ev hv, hf.rd.ev hx, hrun]
  · rw [hdst]
    refine (kk a' c' h1 h2).out _ _ (hf.put hlt _) ?_
    rcases h3 with ⟨h3, _, _⟩ | ⟨_, h3⟩
    · omega
    · have h4 : w'.ownsRow w0.heap.size e sz (.slice a' (m + k) c') (m + k) (xs ++ news) := by
        obtain ⟨e1, e2⟩ := h3
        refine ⟨e1, ?_⟩
        rcases e2 with e2 | ⟨g, cap, cur, e3, e4, e5⟩
        · exact .inl e2
        · exact .inr ⟨g, cap, cur, e3, Nat.le_trans hh.size e4, e5⟩
      exact hh.fresh hb h4 fun j hj => (World.ownsRow.lt h3 j hj).1

/-- A nil slice, to be appended to. -/
theorem Hp.nilRow {w : World} {o : OL} (h : Hp w0 w o) (e : TypeId) (sz : Nat) : Hp w0 w (.row w0.heap.size (.slice none 0 0) e sz 0 [] :: o) :=
  h.more (World.ownsRow_nil w _ e sz) fun x _ _ k hk => by simp [HE.has, Value.ownBlock] at hk

/-! ### Structs and slices that are built -/
def buildL (pl : List (Nat × Nat)) : List Value → List (Nat × Value) → Option (List Value)
  | cs, [] => some cs
  | cs, (i, v) :: ps => match pl[i]? with
    | some (off, sz) => match valCells v with
      | some vs => match Nat.beq vs.length sz with
        | true => match setMany cs off vs with
          | some cs' => buildL pl cs' ps
          | none => none
        | false => none
      | none => none
    | none => none

theorem foldl_set (off : Nat) : ∀ (vs : List Value) (k : Nat) (cs : List Value), off + k + vs.length ≤ cs.length →
    ((vs.zipIdx k).foldl (fun (a : Array Value) (p : Value × Nat) => a.setIfInBounds (off + p.2) p.1) ⟨cs⟩) = ⟨cs.take (off + k) ++ vs ++ cs.drop (off + k + vs.length)⟩
  | [], k, cs, h => by simp
  | v :: vs, k, cs, h => by
    simp only [List.zipIdx_cons, List.foldl_cons]
    have h' : off + k < cs.length := by simp at h; omega
    have e : (⟨cs⟩ : Array Value).setIfInBounds (off + k) v = ⟨cs.set (off + k) v⟩ := by
      apply Array.ext'
      simp
    rw [e, foldl_set off vs (k + 1) (cs.set (off + k) v) (by simp at h ⊢; omega)]
    congr 1
    have := list_seg_step cs (off + k) v vs (by simp at h ⊢; omega)
    simpa [Nat.add_assoc, Nat.add_comm, Nat.add_left_comm] using this

theorem fill_run {pl : List (Nat × Nat)} : ∀ {ps : List (Nat × Value)} {cs cs' : List Value}, buildL pl cs ps = some cs' → Instr.fill (pl[·]?) ⟨cs⟩ ps = some ⟨cs'⟩
  | [], cs, cs', h => by simp [buildL] at h; simp [Instr.fill, h]
  | (i, v) :: ps, cs, cs', h => by
    simp only [buildL] at h
    split at h
    · rename_i off sz hp
      split at h
      · rename_i vs hv
        split at h
        · rename_i hb
          split at h
          · rename_i cs1 hm
            have hc := valCells_eq hv
            obtain ⟨hle, hcs1⟩ := setMany_eq hm
            have hlen := Nat.eq_of_beq_eq_true hb
            simp only [Instr.fill, hp, hc]
            have hn : ¬ (vs.toArray.size ≠ sz || decide (off + vs.toArray.size > (⟨cs⟩ : Array Value).size)) = true := by
              simp [hlen]; omega
            rw [if_neg hn]
            have hfold : (vs.toArray.zipIdx.foldl (fun (a : Array Value) (p : Value × Nat) => a.setIfInBounds (off + p.2) p.1) ⟨cs⟩) = ⟨cs1⟩ := by
              rw [← Array.foldl_toList, Array.toList_zipIdx, foldl_set off vs 0 cs (by omega), hcs1]
              simp
            rw [hfold]
            exact fill_run h
          · cases h
        · cases h
      · cases h
    · cases h

def placesL (tb : Tab) : List Field → Option (List (Nat × Nat))
  | [] => some []
  | ⟨_, ty, off, _, _, _, _⟩ :: fs => match tl tb ty with
    | some ti => match placesL tb fs with
      | some r => some ((off, ti.size) :: r)
      | none => none
    | none => none
theorem placesL_run (ht : TabOk P tb) {w : World} : ∀ {fs : List Field} {pl : List (Nat × Nat)}, placesL tb fs = some pl → (fs.mapM (fun f => (do pure (f.offset, ← sizeOf f.type) : Sem (Nat × Nat)))).run P w = .ok pl w
  | [], pl, h => by simp [placesL] at h; subst h; simp
  | ⟨_, ty, off, _, _, _, _⟩ :: fs, pl, h => by
    simp only [placesL] at h
    split at h
    · rename_i ti hti
      split at h
      · rename_i r hr
        simp at h; subst h
        have h1 := ht.sizeOf hti w
        have h2 := placesL_run ht (w := w) hr
        simp [h1]
        simp at h2
        simp [h2]
      · cases h
    · cases h

def partsV (r : Nat → Option Value) : List (Nat × Operand) → Option (List (Nat × Value))
  | [] => some []
  | (i, x) :: ps => match ev r x with
    | some v => match partsV r ps with
      | some q => some ((i, v) :: q)
      | none => none
    | none => none
theorem partsV_run {a : Act} (hrd : Rd a r) : ∀ {ps : List (Nat × Operand)} {q : List (Nat × Value)}, partsV r ps = some q → ps.map (fun (i, x) => (i, a.eval x)) = q
  | [], q, h => by simp [partsV] at h; simp [h]
  | (i, x) :: ps, q, h => by
    simp only [partsV] at h
    split at h
    · rename_i v hv
      split at h
      · rename_i q' hq
        simp at h; subst h
        simp [hrd.ev hv]
        have := partsV_run hrd hq
        simpa using this
      · cases h
    · cases h

theorem Q_build (ht : TabOk P tb) {t : TypeId} {ps : List (Nat × Operand)} {fs : Array Field} {ti : TI} {zs cs : List Value} {pl : List (Nat × Nat)} {vs : List (Nat × Value)} (hs : opAt? n all r o = some (d, .build t ps.toArray)) (hti : tl tb t = some ti) (hd : ti.desc = .struct fs)
    (hz : valCells ti.zero = some zs) (hpl : placesL tb fs.toList = some pl) (hv : partsV r ps = some vs) (hb : buildL pl zs vs = some cs) : QOp P n w0 all r ol o d (.agg ⟨cs⟩) :=
  Q_of hs fun a w hrd hh hop => by
    have h1 := ht.under hti w
    rw [hd] at h1
    have h2 := ht.zeroOf hti w
    have h3 := placesL_run ht (w := w) hpl
    have h4 := fill_run hb
    have h5 := partsV_run hrd hv
    have h6 : (fs.mapM (fun f => (do pure (f.offset, ← sizeOf f.type) : Sem (Nat × Nat)))).run P w = .ok pl.toArray w := by
      rw [Array.mapM_eq_mapM_toList, map_eq_pure_bind, Sem.run_bind, h3]
      simp
    have h7 : (ps.toArray.map fun (p : Nat × Operand) => (p.1, a.eval p.2)) = vs.toArray := by
      apply Array.ext'
      simpa using h5
    have hcz := valCells_eq hz
    have hfill : Instr.fill (fun x => pl[x]?) ⟨zs⟩ vs = some ⟨cs⟩ := h4
    have hbuild : (Instr.build t vs.toArray).run P w = .ok (.agg ⟨cs⟩) w := by
      unfold Instr.build
      rw [Sem.run_bind, h2]
      simp only [Result.andThen_ok]
      rw [Sem.run_bind, h1]
      simp only [Result.andThen_ok]
      rw [Sem.run_bind, h6]
      simp only [Result.andThen_ok]
      have e : (fun x : Nat => pl.toArray[x]?) = (fun x : Nat => pl[x]?) := by funext x; simp
      rw [hcz, e]
      have hf2 : Instr.fill (fun x => pl[x]?) zs.toArray vs.toArray.toList = some ⟨cs⟩ := hfill
      rw [hf2]
      rfl
    unfold execOp
    simp only [hop, h7, Sem.run_bind, hbuild, Result.andThen_ok, Sem.run_pure]

/-- An array that is built. -/
theorem Q_buildA (ht : TabOk P tb) {t e : TypeId} {ps : List (Nat × Operand)} {ti te : TI} {m : Nat} {zs cs : List Value} {vs : List (Nat × Value)} (hs : opAt? n all r o = some (d, .build t ps.toArray)) (hti : tl tb t = some ti) (hd : ti.desc = .array m e) (hte : tl tb e = some te) (hsz : te.size = 1)
    (hz : valCells ti.zero = some zs) (hv : partsV r ps = some vs) (hb : buildL ((List.range m).map fun i => (i, 1)) zs vs = some cs) (hin : ∀ p ∈ vs, p.1 < m) : QOp P n w0 all r ol o d (.agg ⟨cs⟩) :=
  Q_of hs fun a w hrd hh hop => by
    have h1 := ht.under hti w
    rw [hd] at h1
    have h2 := ht.zeroOf hti w
    have h3 := ht.sizeOf hte w
    have h4 := fill_run hb
    have h5 := partsV_run hrd hv
    have h7 : (ps.toArray.map fun (p : Nat × Operand) => (p.1, a.eval p.2)) = vs.toArray := by
      apply Array.ext'
      simpa using h5
    have hcz := valCells_eq hz
    have key : ∀ (vs : List (Nat × Value)) (c : Array Value), (∀ p ∈ vs, p.1 < m) → Instr.fill (fun i => some (i, 1)) c vs = Instr.fill (fun (x : Nat) => ((List.range m).map fun i => (i, 1))[x]?) c vs := by
      intro vs
      induction vs with
      | nil => intro c _; rfl
      | cons p vs ih =>
        intro c hp
        obtain ⟨i, v⟩ := p
        have hi : i < m := hp (i, v) (by simp)
        have e : ((List.range m).map fun i => (i, 1))[i]? = some (i, 1) := by simp [hi]
        simp only [Instr.fill, e]
        split
        · rfl
        · exact ih _ fun q hq => hp q (List.mem_cons_of_mem _ hq)
    have hbuild : (Instr.build t vs.toArray).run P w = .ok (.agg ⟨cs⟩) w := by
      unfold Instr.build
      rw [Sem.run_bind, h2]
      simp only [Result.andThen_ok]
      rw [Sem.run_bind, h1]
      simp only [Result.andThen_ok]
      rw [Sem.run_bind, h3]
      simp only [Result.andThen_ok, hsz]
      rw [hcz]
      have hf2 : Instr.fill (fun i => some (i, 1)) zs.toArray vs.toArray.toList = some ⟨cs⟩ := (key vs _ hin).trans h4
      simp only [Nat.mul_one]
      rw [hf2]
      rfl
    unfold execOp
    simp only [hop, h7, Sem.run_bind, hbuild, Result.andThen_ok, Sem.run_pure]

/-- so many cells at the start of a slice that is built -/
def zrow (zs : List Value) (sz : Nat) : Nat → Nat → Option (List Value)
  | 0, _ => some []
  | k + 1, i => match zs[i % sz]? with
    | some z => match zrow zs sz k (i + 1) with
      | some q => some (z :: q)
      | none => none
    | none => none
theorem zrow_eq {zs : List Value} {sz : Nat} : ∀ {k i : Nat} {q : List Value}, zrow zs sz k i = some q → q = (List.range' i k).map fun j => zs.toArray[j % sz]!
  | 0, i, q, h => by simp [zrow] at h; simp [h]
  | k + 1, i, q, h => by
    simp only [zrow] at h
    split at h
    · rename_i z hz
      split at h
      · rename_i q' hq
        simp at h; subst h
        rw [List.range'_succ, List.map_cons, ← zrow_eq hq]
        congr 1
        simp [hz]
      · cases h
    · cases h
def placesS (sz : Nat) : Nat → Nat → List (Nat × Nat)
  | 0, _ => []
  | k + 1, i => (i * sz, sz) :: placesS sz k (i + 1)
theorem placesS_get (sz : Nat) : ∀ (k i j : Nat), j < k → (placesS sz k i)[j]? = some ((i + j) * sz, sz)
  | 0, i, j, h => by omega
  | k + 1, i, 0, h => by simp [placesS]
  | k + 1, i, j + 1, h => by
    simp only [placesS, List.getElem?_cons_succ]
    rw [placesS_get sz k (i + 1) j (by omega)]
    rw [show i + 1 + j = i + (j + 1) from by omega]
def allLt (m : Nat) : List (Nat × Value) → Bool
  | [] => true
  | (i, _) :: ps => Nat.blt i m && allLt m ps
theorem allLt_mem {m : Nat} : ∀ {ps : List (Nat × Value)}, allLt m ps = true → ∀ p ∈ ps, p.1 < m
  | [], _, p, hp => by cases hp
  | (i, v) :: ps, h, p, hp => by
    simp only [allLt, Bool.and_eq_true] at h
    rcases List.mem_cons.1 hp with rfl | hp
    · simpa [Nat.blt_eq] using h.1
    · exact allLt_mem h.2 p hp

theorem buildSlice_run (ht : TabOk P tb) {w : World} {t e : TypeId} {m sz : Nat} {ti te : TI} {zs z0 cs : List Value} {vs : List (Nat × Value)} (hti : tl tb t = some ti) (hd : ti.desc = .slice e) (hte : tl tb e = some te) (hsz : te.size = sz) (hz : valCells te.zero = some zs) (hzl : zs.length = sz)
    (hr : zrow zs sz (m * sz) 0 = some z0) (hb : buildL (placesS sz m 0) z0 vs = some cs) (hlt : allLt m vs = true) (hm : m * sz ≤ 16777216) :
    (Instr.buildSlice t m vs.toArray).run P w = .ok (.slice (some ⟨w.heap.size, 0, none⟩) m m) (w.alloc (.cells ⟨cs⟩ e)) := by
  have h1 := ht.under hti w
  rw [hd] at h1
  have h2 := ht.sizeOf hte w
  have h3 := ht.zeroOf hte w
  have hcz := valCells_eq hz
  have hz0 := zrow_eq hr
  have key : ∀ (vs : List (Nat × Value)) (c : Array Value), allLt m vs = true → Instr.fill (fun i => some (i * sz, sz)) c vs = Instr.fill (fun (x : Nat) => (placesS sz m 0)[x]?) c vs := by
    intro vs
    induction vs with
    | nil => intro c _; rfl
    | cons p vs ih =>
      intro c hp
      obtain ⟨i, v⟩ := p
      simp only [allLt, Bool.and_eq_true] at hp
      have hi : i < m := by simpa [Nat.blt_eq] using hp.1
      have e := placesS_get sz m 0 i hi
      simp only [Nat.zero_add] at e
      simp only [Instr.fill, e]
      split
      · rfl
      · exact ih _ hp.2
  have hfill := (key vs ⟨z0⟩ hlt).trans (fill_run hb)
  have hno : ¬ (m * sz > 2 ^ 24) := by omega
  unfold Instr.buildSlice
  rw [Sem.run_bind, h1]
  simp only [Result.andThen_ok]
  rw [Sem.run_bind, h2]
  simp only [Result.andThen_ok, hsz, if_neg hno]
  have hf2 : Instr.fill (fun i => some (i * sz, sz)) ⟨z0⟩ vs.toArray.toList = some ⟨cs⟩ := hfill
  by_cases h0 : m * sz = 0
  · rw [if_pos h0]
    have hcells : ((Array.range (m * sz)).map fun x => (#[] : Array Value)[x % (#[] : Array Value).size]!) = ⟨z0⟩ := by
      apply Array.ext'
      rw [Array.toList_map, Array.toList_range, hz0, h0]
      simp
    rw [Sem.run_bind]
    simp only [Sem.run_pure, Result.andThen_ok]
    rw [hcells, hf2]
    simp [newRow]
  · rw [if_neg h0, Sem.run_bind, h3]
    simp only [Result.andThen_ok]
    rw [Sem.run_bind]
    simp only [Sem.run_pure, Result.andThen_ok]
    have hcells : ((Array.range (m * sz)).map fun x => te.zero.cells[x % te.zero.cells.size]!) = ⟨z0⟩ := by
      apply Array.ext'
      rw [Array.toList_map, Array.toList_range, hz0, List.range_eq_range', hcz]
      simp [hzl]
    rw [hcells, hf2]
    simp [newRow]

theorem S_bslice (ht : TabOk P tb) {t e : TypeId} {m sz : Nat} {ti te : TI} {ps : List (Nat × Operand)} {zs z0 cs : List Value} {vs : List (Nat × Value)} (hs : opAt? n all (look l) o = some (d, .buildSlice t m ps.toArray)) (hti : tl tb t = some ti) (hd : ti.desc = .slice e) (hte : tl tb e = some te) (hsz : te.size = sz) (hz : valCells te.zero = some zs) (hzl : Nat.beq zs.length sz = true)
    (hv : partsV (look l) ps = some vs) (hr : zrow zs sz (m * sz) 0 = some z0) (hb : buildL (placesS sz m 0) z0 vs = some cs) (hlt : allLt m vs = true) (hm : Nat.ble (m * sz) 16777216 = true)
    (k : ∀ b, w0.heap.size ≤ b → S P n w0 all os ((d, .slice (some ⟨b, 0, none⟩) m m) :: l) (.blk b (.cells ⟨cs⟩ e (0, 0)) true :: ol) K Q) : S P n w0 all (o :: os) l ol K Q := by
  obtain ⟨hdst, hlt', hg, hop⟩ := opAt_spec hs
  refine ⟨fun a w hf hh => ?_⟩
  have h5 := partsV_run hf.rd hv
  have h7 : (ps.toArray.map fun (p : Nat × Operand) => (p.1, a.eval p.2)) = vs.toArray := by
    apply Array.ext'
    simpa using h5
  have hrun := buildSlice_run ht (w := w) (m := m) hti hd hte hsz hz (Nat.eq_of_beq_eq_true hzl) hr hb hlt (Nat.le_of_ble_eq_true hm)
  refine wpList_run (v := .slice (some ⟨w.heap.size, 0, none⟩) m m) (gd_wanted hf.rd hg) ?_ ?_ (w' := w.alloc (.cells ⟨cs⟩ e))
  · unfold execOp
    simp only [hop, h7, Sem.run_bind, hrun, Result.andThen_ok, Sem.run_pure]
  · rw [hdst]
    exact (k w.heap.size hh.size).out _ _ (hf.put hlt' _) (hh.alloc _)

theorem res_cell (ht : TabOk P tb) (i : Nat) {t b off : Nat} {ty e : TypeId} {ti : TI} {cs : List Value} {fz : Nat × Nat} {rw_ : Bool} (h1 : look l t = some (.pointer (some ⟨b, off, none⟩))) (hi : getE ol i = some (.blk b (.cells ⟨cs⟩ e fz) rw_)) (hti : tl tb ty = some ti) (hv : loadOf ti cs off = some v) :
    ResIs P w0 l ol (.cell t ty) v :=
  ⟨_, h1, fun w hh => loadVar_own ht hti (hh.own _ (getE_mem hi)) hv⟩
end

/-! ### What comes in -/
def Fits (k : IntKind) (n : Int) : Prop := k.min ≤ n ∧ n ≤ k.max
theorem fits_i64 {n : Int} (h : Fits .i64 n) : -9223372036854775808 ≤ n ∧ n ≤ 9223372036854775807 := by simpa [Fits, IntKind.min, IntKind.max, IntKind.signed, IntKind.bits] using h
theorem fits_u64 {n : Int} (h : Fits .u64 n) : 0 ≤ n ∧ n ≤ 18446744073709551615 := by simpa [Fits, IntKind.min, IntKind.max, IntKind.signed, IntKind.bits] using h
theorem fits_u32 {n : Int} (h : Fits .u32 n) : 0 ≤ n ∧ n ≤ 4294967295 := by simpa [Fits, IntKind.min, IntKind.max, IntKind.signed, IntKind.bits] using h
theorem fits_u16 {n : Int} (h : Fits .u16 n) : 0 ≤ n ∧ n ≤ 65535 := by simpa [Fits, IntKind.min, IntKind.max, IntKind.signed, IntKind.bits] using h
theorem fits_u8 {n : Int} (h : Fits .u8 n) : 0 ≤ n ∧ n ≤ 255 := by simpa [Fits, IntKind.min, IntKind.max, IntKind.signed, IntKind.bits] using h

/-- A slice of integers that came in. -/
structure Ints (k : IntKind) (w : World) (a : Option Addr) (n c : Nat) (zs : List Int) : Prop where
  len : zs.length = n
  cap : n ≤ c
  max : c ≤ maxLen
  nil : a = none → n = 0 ∧ c = 0
  fits : ∀ z ∈ zs, Fits k z
  sl : Sl w 1 a n (zs.map (.int k))
end Go.Proofs.Ytggnhcgmeibihaa
