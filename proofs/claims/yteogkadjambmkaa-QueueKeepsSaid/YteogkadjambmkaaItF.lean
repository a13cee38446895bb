/-
  slices.Sorted at uint64, against any iterator value. Conditions: each theorem's own.
-/
import Derived.Test.YteogkadjambmkaaItD
import Derived.Test.YteogkadjambmkaaSrG
namespace Go.Proofs.Yteogkadjambmkaa
open Go Go.RowKit Go.Sort
set_option linter.unusedVariables false
section
variable {gf : Nat} {lb : Array Value} {Kp : World → World → Prop} {S Sp : List Int → Prop} {N : Nat} {w : World}
set_option maxHeartbeats 2000000 in
theorem sorted_ok (hi : Itr gf lb Kp S Sp N w) (hlen : ∀ ss, S ss → ss.length ≤ 65535) : Calls Try.prog 54 #[.func (.func gf) #[] lb] w fun e w' => ∃ v ss ts, e = .returned v ∧ S ss ∧ ts.Perm ss ∧ ts.Pairwise (· ≤ ·) ∧ NilOr v ts ∧ Hp w w' [uRow w.heap.size v ts] := by
  refine enterW1 Try.func54 rfl rfl (Hp.refl w) ?_
  repeat (first | refine T_seq ?_ | refine T_region ?_ | refine S_nil ?_ | refine S_pure tabOk rfl ?_)
  refine S_call rfl Try.call68 (fun w1 h1 => (collect_ok (hi.later (h1.below new_nil))).mono fun e w' ⟨v, ss, e1, hS, hv, h2⟩ => ⟨v, [uRow w.heap.size v ss], e1, h1.fresh (h2.below (newrow h2 0 rfl (Nat.le_refl _) new_nil)) (x := uRow w.heap.size v ss) (ownsRow_base (h2.own _ List.mem_cons_self) h1.size) (fun k hk => (World.ownsRow.lt (h2.own _ List.mem_cons_self) k hk).1), ?_⟩)
  rcases hv with ⟨rfl, rfl⟩ | ⟨g, c, rfl, hpos⟩
  · repeat (first | refine T_seq ?_ | refine T_region ?_ | refine S_nil ?_ | refine S_pure tabOk rfl ?_)
    refine S_callq (v := .tuple #[]) rfl Try.call69 (fun w1 h1 => sort0_ok none 0 w1) ?_
    repeat (first | refine T_seq ?_ | refine T_region ?_ | refine S_nil ?_ | refine T_ret ?_ | refine S_pure tabOk rfl ?_)
    exact ret1 rfl rfl (fun w' hw => ⟨_, [], [], rfl, hS, List.Perm.refl _, List.Pairwise.nil, .inl ⟨rfl, rfl⟩, hw⟩)
  · repeat (first | refine T_seq ?_ | refine T_region ?_ | refine S_nil ?_ | refine S_pure tabOk rfl ?_)
    refine S_toX (ι := List Value) (fun junk => w.heap.size ≤ g ∧ ss.length ≤ c ∧ ss.length + junk.length = c ∧ c ≤ maxLen) (fun junk => [uE g 59 ss.toArray junk]) (fun w1 h1 => ?_) (fun junk ⟨hg, hc, hj, hm⟩ => ?_)
    · obtain ⟨b, junk, e1, hb, hnc, _, hl, hcm, h3⟩ := h1.openRow (pre := []) hpos
      cases e1
      exact ⟨junk, ⟨hb, hnc, by simpa using hl, hcm⟩, h3⟩
    refine S_call rfl Try.call69 (fun w1 h1 => (sort_ok h1 (n := ss.length) (by simp) (hlen _ hS)).mono fun e w' ⟨d, e1, hp, hs, hd, h2⟩ => ⟨_, _, e1, h2, ?_⟩)
    have hp' := perm_list (d := ss.toArray) (d' := d) (by simpa using hp)
    have hs' := sorted_list (d := d) (by rw [hd]; exact hs)
    have hdl : d.toList.length = ss.length := by simpa using hd
    repeat (first | refine T_seq ?_ | refine T_region ?_ | refine S_nil ?_ | refine T_ret ?_ | refine S_pure tabOk rfl ?_)
    refine ret1 rfl rfl (fun w' hw => ⟨_, ss, d.toList, rfl, hS, by simpa using hp', hs', .inr ⟨g, c, by rw [hdl], by omega⟩, ?_⟩)
    have h4 := Hp.closeRow (pre := []) (post := []) (n := ss.length) (c := c) (sz := 1) hw hg hc hm (by simp [hd]; omega)
    have e4 : List.take (ss.length * 1) (uA d junk) = d.toList.map (Value.int .u64) := by rw [Nat.mul_one, List.take_append_of_le_length (by simp [hd]), List.take_of_length_le (by simp [hd])]
    rw [e4] at h4
    show Hp w w' [.row w.heap.size _ _ 1 d.toList.length _]
    rw [hdl]
    exact h4
end
end Go.Proofs.Yteogkadjambmkaa
