/-
  The document's sender, plain: what goes for the first time. Conditions: each theorem's own.
-/
import Derived.Test.YtidhpofcofknhaaGreatSxA
namespace Go.Proofs.YtidhpofcofknhaaGreat
open Go Go.RowKit
set_option linter.unusedVariables false
abbrev Jh (p:Int) (x:Int × Int) (st:Dm):Prop:=0 < (st.cur.length:Int)/\(p <= (st.cur.length:Int) \/ 60000 < st.sum + x.2)
def Cg (p:Int) (x:Int × Int) (st:Dm):Dm:=if Jh p x st then { st with out:=st.out ++ [st.cur],cur:=[],sum:=0} else st
abbrev NG (lim:Int) (nums:List Int) (x:Int × Int) (st:Dm):Prop:=x.1 ∈ nums \/ lim < x.1 \/ st.room <= 0
def Ed (p lim:Int) (nums:List Int) (st:Dm) (x:Int × Int):Dm:=if NG lim nums x st then st else C0 x (Cg p x st)
def F5 (p lim:Int) (nums:List Int) (l:List (Int × Int)) (st:Dm):Dm:=l.foldl (Ed p lim nums) st
theorem JZ {p lim:Int} {nums:List Int}:∀ {l:List (Int × Int)} {st:Dm},(∀ x ∈ l,NG lim nums x st)->F5 p lim nums l st=st
 | [],_,_=>rfl
 |x::l,st,h=>by
  show F5 p lim nums l (Ed p lim nums st x)=st;rw [Ed,if_pos (h x List.mem_cons_self)];exact JZ fun y hy=>h y (List.mem_cons_of_mem _ hy)
theorem NH {p:Int} {x:Int × Int} {st:Dm} (hp:1 <= p) (h:(st.cur.length:Int) <= p):BU p x st=Cg p x st:=by
 unfold BU Cg;by_cases h1:LP p x st
 ·rw [if_pos h1,if_pos]
  rcases h1 with h1 |h1
  ·exact ⟨by omega,.inl (by omega)⟩
  ·exact ⟨h1.1,.inr h1.2⟩
 ·rw [if_neg h1,if_neg];rintro ⟨h2,h3⟩;refine h1 ?_
  rcases h3 with h3 |h3
  ·exact .inl (by omega)
  ·exact .inr ⟨h2,h3⟩
theorem NI {p:Int} {x:Int × Int} {st:Dm} (hp:1 <= p) (h:(st.cur.length:Int) <= p):((BU p x st).cur.length:Int) < p:=by
 unfold BU;by_cases h1:LP p x st
 ·rw [if_pos h1];show ((0:Nat):Int) < p;omega
 ·rw [if_neg h1];have:(st.cur.length:Int) ≠ p:=fun e=>h1 (.inl e);omega
theorem JX {p lim:Int} {nums:List Int} (hp:1 <= p):∀ {l:List (Int × Int)} {st:Dm},(l.map (·.1)).Pairwise (· < ·)->(st.cur.length:Int) <= p->Ez p lim nums l st=F5 p lim nums l st
 | [],_,_,_=>rfl
 |x::l,st,hs,hc=>by
  rw [List.map_cons,List.pairwise_cons] at hs;rw [Ez];by_cases h1:st.room <= 0 \/ lim < x.1
  ·rw [if_pos h1,JZ];intro y hy
   rcases h1 with h1 |h1
   ·exact .inr (.inr h1)
   ·rcases List.mem_cons.1 hy with rfl |hy
    ·exact .inr (.inl h1)
    ·have:=hs.1 y.1 (List.mem_map.2 ⟨y,hy,rfl⟩);exact .inr (.inl (by omega))
  ·rw [if_neg h1];show _=F5 p lim nums l (Ed p lim nums st x);by_cases h2:x.1 ∈ nums
   ·rw [if_pos h2,Ed,if_pos (.inl h2)];exact JX hp hs.2 hc
   ·rw [if_neg h2,Ed,if_neg (fun h=>h.elim h2 fun h=>h1 h.symm),<-NH hp hc];refine JX hp hs.2 ?_;have:=NI (x:=x) hp hc;show (((BU p x st).cur ++ [x.1]).length:Int) <= p;rw [List.length_append];show (((BU p x st).cur.length + 1:Nat):Int) <= p;omega
structure Ik (p q:Int) (nn:Nat) (st:Dm) (i:Nat):Prop where
 out:st.out.length <= i
 fl:st.out.flatten.length + st.cur.length <= i
 sum:0 <= st.sum/\st.sum <= (i:Int) * 1099511627776
 room:st.room=q - ((nn + (st.out.flatten ++ st.cur).length:Nat):Int)
 fit:∀ n ∈ st.out.flatten ++ st.cur,AV .u64 n
theorem HV {p:Int} {x:Int × Int} {st:Dm}:(Cg p x st).out.flatten ++ (Cg p x st).cur=st.out.flatten ++ st.cur/\(Cg p x st).room=st.room:=by
 unfold Cg;by_cases h:Jh p x st
 ·rw [if_pos h];refine ⟨?_,rfl⟩;show (st.out ++ [st.cur]).flatten ++ []=_;rw [List.append_nil,List.flatten_append];simp
 ·rw [if_neg h];exact ⟨rfl,rfl⟩
theorem Hg {x:Int × Int} {st:Dm}:(C0 x st).out.flatten ++ (C0 x st).cur=(st.out.flatten ++ st.cur) ++ [x.1]:=by
 show st.out.flatten ++ (st.cur ++ [x.1])=_;rw [List.append_assoc]
theorem Ik.step {p q:Int} {nn:Nat} {st:Dm} {i:Nat} {x:Int × Int} (h:Ik p q nn st i) (hz:0 <= x.2/\x.2 <= 1099511627776) (hx:AV .u64 x.1):Ik p q nn (C0 x (Cg p x st)) (i + 1):=by
 obtain ⟨e1,e2⟩:=@HV p x st;have h1:=h.out;have h2:=h.fl;have h3:=h.sum;have h4:=h.room;have e3:=@Hg x (Cg p x st);rw [e1] at e3
 have e4:(C0 x (Cg p x st)).out.flatten.length + (C0 x (Cg p x st)).cur.length=st.out.flatten.length + st.cur.length + 1:=by
  rw [<-List.length_append,e3,List.length_append,List.length_append];rfl
 refine ⟨?_,by omega,?_,?_,fun n hn=>?_⟩
 ·show (Cg p x st).out.length <= i + 1;unfold Cg;split
  ·show (st.out ++ [st.cur]).length <= _;rw [List.length_append];exact Nat.succ_le_succ h1
  ·omega
 ·show 0 <= (Cg p x st).sum + x.2/\(Cg p x st).sum + x.2 <= ((i + 1:Nat):Int) * 1099511627776;unfold Cg;split
  ·show 0 <= 0 + x.2/\0 + x.2 <= _;omega
  ·omega
 ·show (Cg p x st).room - 1=_;rw [e2,e3,h4,List.length_append (bs:=[x.1])];show _=q - ((nn + ((st.out.flatten ++ st.cur).length + 1):Nat):Int);omega
 ·rw [e3] at hn
  rcases List.mem_append.1 hn with hn |hn
  ·exact h.fit n hn
  ·rw [List.mem_singleton] at hn;subst hn;exact hx
theorem Ik.up {p q:Int} {nn:Nat} {st:Dm} {i j:Nat} (h:Ik p q nn st i) (hij:i <= j):Ik p q nn st j:=⟨Nat.le_trans h.out hij,Nat.le_trans h.fl hij,⟨h.sum.1,by have:=h.sum.2;omega⟩,h.room,h.fit⟩
theorem Pp {p q lim:Int} {nums:List Int} {l:List (Int × Int)} (hp:1 <= p) (hs:(l.map (·.1)).Pairwise (· < ·)):DB p q lim nums l=(F5 p lim nums l (Dg q nums)).out ++ if 0 < ((F5 p lim nums l (Dg q nums)).cur.length:Int) then [(F5 p lim nums l (Dg q nums)).cur] else []:=by
 unfold DB;rw [JX hp hs (by show ((0:Nat):Int) <= p;omega)]
theorem NJ {p lim:Int} {nums:List Int} {l:List (Int × Int)} {x:Int × Int} {st:Dm}:F5 p lim nums (l ++ [x]) st=Ed p lim nums (F5 p lim nums l st) x:=by
 unfold F5;rw [List.foldl_append];rfl
def SV (rl:List BX) (n:Int):Bool:=rl.any fun r=>decide (r.1 <= n) && decide (n <= r.2)
theorem Mu {rl:List BX} {n:Int}:SV rl n=true ↔ Cx rl n:=by
 unfold SV Cx;rw [List.any_eq_true];constructor
 ·rintro ⟨r,hr,h⟩;simp only [Bool.and_eq_true,decide_eq_true_eq] at h;exact ⟨r,hr,h⟩
 ·rintro ⟨r,hr,h⟩;exact ⟨r,hr,by simpa using h⟩
def Ds (U qs:List Int):List BX:=(U.filter fun n=>!decide (n ∈ qs)).map fun n=>(n,n)
theorem Pn {U qs:List Int} {n:Int}:Cx (Ds U qs) n ↔ n ∈ U/\n ∉ qs:=by
 unfold Cx Ds;constructor
 ·rintro ⟨r,hr,h1,h2⟩;obtain ⟨k,hk,rfl⟩:=List.mem_map.1 hr
  obtain rfl:k=n:=by dsimp only at h1 h2;omega
  rw [List.mem_filter] at hk;exact ⟨hk.1,by simpa using hk.2⟩
 ·rintro ⟨h1,h2⟩;exact ⟨(n,n),List.mem_map.2 ⟨n,List.mem_filter.2 ⟨h1,by simpa using h2⟩,rfl⟩,Int.le_refl _,Int.le_refl _⟩
end Go.Proofs.YtidhpofcofknhaaGreat
