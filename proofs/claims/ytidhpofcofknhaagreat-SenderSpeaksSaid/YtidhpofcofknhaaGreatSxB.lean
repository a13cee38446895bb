/-
  The document's sender, plain: what goes for the first time. Conditions: each theorem's own.
-/
import Derived.Test.YtidhpofcofknhaaGreatSxA
namespace Go.Proofs.YtidhpofcofknhaaGreat
open Go Go.RowKit
set_option linter.unusedVariables false
abbrev Jj (p:Int) (x:Int × Int) (st:De):Prop:=0 < (st.cur.length:Int)/\(p <= (st.cur.length:Int) \/ 60000 < st.sum + x.2)
def Cc (p:Int) (x:Int × Int) (st:De):De:=if Jj p x st then { st with out:=st.out ++ [st.cur],cur:=[],sum:=0} else st
abbrev NC (lim:Int) (nums:List Int) (x:Int × Int) (st:De):Prop:=x.1 ∈ nums \/ lim < x.1 \/ st.room <= 0
def Ea (p lim:Int) (nums:List Int) (st:De) (x:Int × Int):De:=if NC lim nums x st then st else CX x (Cc p x st)
def F5 (p lim:Int) (nums:List Int) (l:List (Int × Int)) (st:De):De:=l.foldl (Ea p lim nums) st
theorem J1 {p lim:Int} {nums:List Int}:∀ {l:List (Int × Int)} {st:De},(∀ x ∈ l,NC lim nums x st)->F5 p lim nums l st=st
 | [],_,_=>rfl
 |x::l,st,h=>by
  show F5 p lim nums l (Ea p lim nums st x)=st;rw [Ea,if_pos (h x List.mem_cons_self)];exact J1 fun y hy=>h y (List.mem_cons_of_mem _ hy)
theorem ND {p:Int} {x:Int × Int} {st:De} (hp:1 <= p) (h:(st.cur.length:Int) <= p):BR p x st=Cc p x st:=by
 unfold BR Cc;by_cases h1:LR p x st
 ·rw [if_pos h1,if_pos]
  rcases h1 with h1 |h1
  ·exact ⟨by omega,.inl (by omega)⟩
  ·exact ⟨h1.1,.inr h1.2⟩
 ·rw [if_neg h1,if_neg];rintro ⟨h2,h3⟩;refine h1 ?_
  rcases h3 with h3 |h3
  ·exact .inl (by omega)
  ·exact .inr ⟨h2,h3⟩
theorem NE {p:Int} {x:Int × Int} {st:De} (hp:1 <= p) (h:(st.cur.length:Int) <= p):((BR p x st).cur.length:Int) < p:=by
 unfold BR;by_cases h1:LR p x st
 ·rw [if_pos h1];show ((0:Nat):Int) < p;omega
 ·rw [if_neg h1];have:(st.cur.length:Int) ≠ p:=fun e=>h1 (.inl e);omega
theorem JZ {p lim:Int} {nums:List Int} (hp:1 <= p):∀ {l:List (Int × Int)} {st:De},(l.map (·.1)).Pairwise (· < ·)->(st.cur.length:Int) <= p->Ev p lim nums l st=F5 p lim nums l st
 | [],_,_,_=>rfl
 |x::l,st,hs,hc=>by
  rw [List.map_cons,List.pairwise_cons] at hs;rw [Ev];by_cases h1:st.room <= 0 \/ lim < x.1
  ·rw [if_pos h1,J1];intro y hy
   rcases h1 with h1 |h1
   ·exact .inr (.inr h1)
   ·rcases List.mem_cons.1 hy with rfl |hy
    ·exact .inr (.inl h1)
    ·have:=hs.1 y.1 (List.mem_map.2 ⟨y,hy,rfl⟩);exact .inr (.inl (by omega))
  ·rw [if_neg h1];show _=F5 p lim nums l (Ea p lim nums st x);by_cases h2:x.1 ∈ nums
   ·rw [if_pos h2,Ea,if_pos (.inl h2)];exact JZ hp hs.2 hc
   ·rw [if_neg h2,Ea,if_neg (fun h=>h.elim h2 fun h=>h1 h.symm),<-ND hp hc];refine JZ hp hs.2 ?_;have:=NE (x:=x) hp hc;show (((BR p x st).cur ++ [x.1]).length:Int) <= p;rw [List.length_append];show (((BR p x st).cur.length + 1:Nat):Int) <= p;omega
structure Il (p q:Int) (nn:Nat) (st:De) (i:Nat):Prop where
 out:st.out.length <= i
 fl:st.out.flatten.length + st.cur.length <= i
 sum:0 <= st.sum/\st.sum <= (i:Int) * 1099511627776
 room:st.room=q - ((nn + (st.out.flatten ++ st.cur).length:Nat):Int)
 fit:∀ n ∈ st.out.flatten ++ st.cur,AT .u64 n
theorem HV {p:Int} {x:Int × Int} {st:De}:(Cc p x st).out.flatten ++ (Cc p x st).cur=st.out.flatten ++ st.cur/\(Cc p x st).room=st.room:=by
 unfold Cc;by_cases h:Jj p x st
 ·rw [if_pos h];refine ⟨?_,rfl⟩;show (st.out ++ [st.cur]).flatten ++ []=_;rw [List.append_nil,List.flatten_append];simp
 ·rw [if_neg h];exact ⟨rfl,rfl⟩
theorem Hf {x:Int × Int} {st:De}:(CX x st).out.flatten ++ (CX x st).cur=(st.out.flatten ++ st.cur) ++ [x.1]:=by
 show st.out.flatten ++ (st.cur ++ [x.1])=_;rw [List.append_assoc]
theorem Il.step {p q:Int} {nn:Nat} {st:De} {i:Nat} {x:Int × Int} (h:Il p q nn st i) (hz:0 <= x.2/\x.2 <= 1099511627776) (hx:AT .u64 x.1):Il p q nn (CX x (Cc p x st)) (i + 1):=by
 obtain ⟨e1,e2⟩:=@HV p x st;have h1:=h.out;have h2:=h.fl;have h3:=h.sum;have h4:=h.room;have e3:=@Hf x (Cc p x st);rw [e1] at e3
 have e4:(CX x (Cc p x st)).out.flatten.length + (CX x (Cc p x st)).cur.length=st.out.flatten.length + st.cur.length + 1:=by
  rw [<-List.length_append,e3,List.length_append,List.length_append];rfl
 refine ⟨?_,by omega,?_,?_,fun n hn=>?_⟩
 ·show (Cc p x st).out.length <= i + 1;unfold Cc;split
  ·show (st.out ++ [st.cur]).length <= _;rw [List.length_append];exact Nat.succ_le_succ h1
  ·omega
 ·show 0 <= (Cc p x st).sum + x.2/\(Cc p x st).sum + x.2 <= ((i + 1:Nat):Int) * 1099511627776;unfold Cc;split
  ·show 0 <= 0 + x.2/\0 + x.2 <= _;omega
  ·omega
 ·show (Cc p x st).room - 1=_;rw [e2,e3,h4,List.length_append (bs:=[x.1])];show _=q - ((nn + ((st.out.flatten ++ st.cur).length + 1):Nat):Int);omega
 ·rw [e3] at hn
  rcases List.mem_append.1 hn with hn |hn
  ·exact h.fit n hn
  ·rw [List.mem_singleton] at hn;subst hn;exact hx
theorem Il.up {p q:Int} {nn:Nat} {st:De} {i j:Nat} (h:Il p q nn st i) (hij:i <= j):Il p q nn st j:=⟨Nat.le_trans h.out hij,Nat.le_trans h.fl hij,⟨h.sum.1,by have:=h.sum.2;omega⟩,h.room,h.fit⟩
theorem Pm {p q lim:Int} {nums:List Int} {l:List (Int × Int)} (hp:1 <= p) (hs:(l.map (·.1)).Pairwise (· < ·)):Dy p q lim nums l=(F5 p lim nums l (Da q nums)).out ++ if 0 < ((F5 p lim nums l (Da q nums)).cur.length:Int) then [(F5 p lim nums l (Da q nums)).cur] else []:=by
 unfold Dy;rw [JZ hp hs (by show ((0:Nat):Int) <= p;omega)]
theorem NF {p lim:Int} {nums:List Int} {l:List (Int × Int)} {x:Int × Int} {st:De}:F5 p lim nums (l ++ [x]) st=Ea p lim nums (F5 p lim nums l st) x:=by
 unfold F5;rw [List.foldl_append];rfl
def ST (rl:List BT) (n:Int):Bool:=rl.any fun r=>decide (r.1 <= n) && decide (n <= r.2)
theorem Mw {rl:List BT} {n:Int}:ST rl n=true ↔ Cu rl n:=by
 unfold ST Cu;rw [List.any_eq_true];constructor
 ·rintro ⟨r,hr,h⟩;simp only [Bool.and_eq_true,decide_eq_true_eq] at h;exact ⟨r,hr,h⟩
 ·rintro ⟨r,hr,h⟩;exact ⟨r,hr,by simpa using h⟩
def Do (U qs:List Int):List BT:=(U.filter fun n=>!decide (n ∈ qs)).map fun n=>(n,n)
theorem Pk {U qs:List Int} {n:Int}:Cu (Do U qs) n ↔ n ∈ U/\n ∉ qs:=by
 unfold Cu Do;constructor
 ·rintro ⟨r,hr,h1,h2⟩;obtain ⟨k,hk,rfl⟩:=List.mem_map.1 hr
  obtain rfl:k=n:=by dsimp only at h1 h2;omega
  rw [List.mem_filter] at hk;exact ⟨hk.1,by simpa using hk.2⟩
 ·rintro ⟨h1,h2⟩;exact ⟨(n,n),List.mem_map.2 ⟨n,List.mem_filter.2 ⟨h1,by simpa using h2⟩,rfl⟩,Int.le_refl _,Int.le_refl _⟩
end Go.Proofs.YtidhpofcofknhaaGreat
