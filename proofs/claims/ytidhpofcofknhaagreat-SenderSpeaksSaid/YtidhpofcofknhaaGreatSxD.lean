/-
  Runs: the document's Plain and Same. Conditions: each theorem's own.
-/
import Derived.Test.YtidhpofcofknhaaGreatSxC
namespace Go.Proofs.YtidhpofcofknhaaGreat
open Go Go.RowKit
set_option linter.unusedVariables false
def Ky (l:List BT) (x k:Int):Prop:=
 (k= -1/\∀ r ∈ l,r.1 <= r.2->r.2 < x) \/ ∃ (j:Nat) (hj:j < l.length),k=j/\l[j].1 <= l[j].2/\x <= l[j].2/\∀ r ∈ l,r.1 <= r.2->x <= r.2->l[j].1 <= r.1
theorem Qw {l:List BT} {x k:Int} {i:Nat} (hi:i < l.length) (h:Ky (l.take i) x k) (hno:¬ (l[i].1 <= l[i].2/\x <= l[i].2/\(k < 0 \/ ∀ (j:Nat) (hj:j < l.length),k=j->l[i].1 < l[j].1))):Ky (l.take (i + 1)) x k:=by
 have hmem:∀ r ∈ l.take (i + 1),r ∈ l.take i \/ r=l[i]:=fun r hr=>by
  rw [List.take_succ_eq_append_getElem hi,List.mem_append,List.mem_singleton] at hr;exact hr
 rcases h with ⟨rfl,h⟩ |⟨j,hj,rfl,h1,h2,h3⟩
 ·refine .inl ⟨rfl,fun r hr hv=>?_⟩
  rcases hmem r hr with hr |rfl
  ·exact h r hr hv
  ·have:¬ x <= l[i].2:=fun hx=>hno ⟨hv,hx,.inl (by omega)⟩;omega
 ·have hj':j < i:=by rw [List.length_take] at hj;omega
  rw [List.getElem_take] at h1 h2;refine .inr ⟨j,by rw [List.length_take];omega,rfl,by rw [List.getElem_take];exact h1,by rw [List.getElem_take];exact h2,fun r hr hv hx=>?_⟩;rw [List.getElem_take]
  rcases hmem r hr with hr |rfl
  ·have:=h3 r hr hv hx;rw [List.getElem_take] at this;exact this
  ·have:¬ (l[i].1 < l[j].1):=fun hlt=>hno ⟨hv,hx,.inr fun j' hj' e=>(by obtain rfl:j=j':=(by omega);exact hlt)⟩;omega
theorem Qv {l:List BT} {x k:Int} {i:Nat} (hi:i < l.length) (h:Ky (l.take i) x k) (h1:l[i].1 <= l[i].2) (h2:x <= l[i].2) (h3:k < 0 \/ ∀ (j:Nat) (hj:j < l.length),k=j->l[i].1 < l[j].1):Ky (l.take (i + 1)) x i:=by
 refine .inr ⟨i,by rw [List.length_take];omega,rfl,by rw [List.getElem_take];exact h1,by rw [List.getElem_take];exact h2,fun r hr hv hx=>?_⟩;rw [List.getElem_take];rw [List.take_succ_eq_append_getElem hi,List.mem_append,List.mem_singleton] at hr
 rcases hr with hr |rfl
 ·rcases h with ⟨rfl,h⟩ |⟨j,hj,rfl,g1,g2,g3⟩
  ·have:=h r hr hv;omega
  ·have hj':j < l.length:=by rw [List.length_take] at hj;omega
   have:=g3 r hr hv hx;rw [List.getElem_take] at this
   rcases h3 with h3 |h3
   ·omega
   ·have:=h3 j hj' rfl;omega
 ·exact Int.le_refl _
theorem Qu (a:Option Addr) (n c:Nat) (l:List BT) (x:Int) (A:Nat->Prop) (w:World) (hx:Bq Bi w A a n c l) (hn:n <= 1000000):
 Calls Tryz.prog 57 #[.slice a n c,.int .u64 x] w fun e w'=>∃ v,e= .returned v/\Below w.heap.size w w'/\∃ k,v= .int .i64 k/\Ky l x k:=by
 have hl:=hx.len;have hok:=Di hx;refine BS Tryz.func57 rfl rfl (Hp.refl w) ?_;repeat (first |refine Ai ?_ |refine Ab ?_ |refine Ar ?_ |refine Ag ?_ |refine Ae Aa rfl ?_)
 refine AM (ι:=Nat × Int) (fun i=>[(0,.slice a n c),(1,.int .u64 x),(5,.int .i64 i.2),(8,.slice a n c),(9,.int .i64 (n:Int)),(10,.int .i64 (i.1:Int))])
  (fun i=>[]) (fun i=>i.1 <= n/\Ky (l.take i.1) x i.2) (fun i=>n - i.1) (0,-1) ⟨Nat.zero_le _,.inl ⟨rfl,fun r hr=>by cases hr⟩⟩ (by repeat (first |exact As.nil |refine As.cons rfl ?_)) (fun w' hw=>hw) ?_
 rintro ⟨k,best⟩ ⟨hk,hb⟩;dsimp only at hk hb ⊢;repeat (first |refine Ai ?_ |refine Ab ?_ |refine Ag ?_ |refine Ae Aa rfl ?_)
 refine Ak rfl (fun h=>?_) (fun h=>?_)
 ·have hk':k < l.length:=by omega
  obtain ⟨ab,off,cs,rfl,hlt,_⟩:=hx.get_ hk';repeat (first |refine Ai ?_ |refine Ad ?_ |refine Ao ?_)
  refine Ar ?_;repeat (first |refine Ai ?_ |refine Ab ?_ |refine Ae Aa rfl ?_)
  refine BF (Bu (sz:=2) Aa rfl rfl rfl rfl rfl rfl rfl rfl (j:=k) (by omega)) ?_;refine BX Aa (vs:=C0 l[k]) rfl rfl rfl (fun w' hw=>B7 (hx.ext (hw.below (by repeat (first |exact An)))) hk') ?_;refine A5 Aa rfl (fun b7 hb7=>?_);repeat (first |refine Ai ?_ |refine Ag ?_ |refine Ae Aa rfl ?_ |refine Aw Aa 0 rfl rfl rfl rfl rfl rfl ?_)
  refine BP (ι:=Bool) (fun q=>q=true ↔ (l[k].1 <= l[k].2/\x <= l[k].2/\(best < 0 \/ ∀ (j:Nat) (hj:j < l.length),best=j->l[k].1 < l[j].1))) (fun q=>[(0,.slice (some ⟨ab,off,none⟩) n c),(1,.int .u64 x),(5,.int .i64 best),(6,.int .i64 (k:Int)),(8,.slice (some ⟨ab,off,none⟩) n c),(9,.int .i64 (n:Int)),(10,.int .i64 (k:Int)),(39,.bool q)]) (fun _=>[.blk b7 (.cells ⟨C0 l[k]⟩ 83 (0,0)) true]) ?_ ?_
  ·rcases hb with ⟨rfl,hb⟩ |⟨j,hj,rfl,g1,g2,g3⟩
   ·repeat (first |refine AZ (by kernel_rfl) (by kernel_rfl) ?_ |refine Ah Aa rfl ?_ |refine AD Aa 0 rfl rfl rfl ?_)
    refine Fe rfl rfl (fun h1=>?_) (fun h1=>?_)
    ·repeat (first |refine Ah Aa rfl ?_ |refine AD Aa 0 rfl rfl rfl ?_)
     refine Fe rfl rfl (fun h2=>?_) (fun h2=>?_)
     ·repeat (first |refine AP rfl ?_ |refine Ah Aa rfl ?_ |refine BO rfl rfl rfl ?_)
      exact ⟨true,⟨fun _=>⟨h1,by omega,.inl (by omega)⟩,fun _=>rfl⟩,by repeat (first |exact As.nil |refine As.cons rfl ?_),fun _ h=>h⟩
     ·repeat (first |refine AP rfl ?_ |refine Ah Aa rfl ?_ |refine BO rfl rfl rfl ?_)
      exact ⟨false,⟨fun h=>(by cases h),fun h=>by omega⟩,by repeat (first |exact As.nil |refine As.cons rfl ?_),fun _ h=>h⟩
    ·repeat (first |refine AP rfl ?_ |refine Ah Aa rfl ?_ |refine BO rfl rfl rfl ?_)
     exact ⟨false,⟨fun h=>(by cases h),fun h=>by omega⟩,by repeat (first |exact As.nil |refine As.cons rfl ?_),fun _ h=>h⟩
   ·have hj':j < l.length:=by rw [List.length_take] at hj;omega
    repeat (first |refine AZ (by kernel_rfl) (by kernel_rfl) ?_ |refine Ah Aa rfl ?_ |refine AD Aa 0 rfl rfl rfl ?_)
    refine Fe rfl rfl (fun h1=>?_) (fun h1=>?_)
    ·repeat (first |refine Ah Aa rfl ?_ |refine AD Aa 0 rfl rfl rfl ?_)
     refine Fe rfl rfl (fun h2=>?_) (fun h2=>?_)
     ·repeat (first |refine Ah Aa rfl ?_ |refine AD Aa 0 rfl rfl rfl ?_)
      refine Bv (Bu (sz:=2) Aa rfl rfl rfl rfl rfl rfl rfl (j:=j) rfl (by omega)) ?_;repeat (first |refine Ah Aa rfl ?_)
      refine Av Aa (v:=.int .u64 l[j].1) rfl rfl (fun w' hw=>EI (hx.ext (hw.below (by repeat (first |exact An |refine Az (by first |assumption |omega) ?_)))) hj') ?_;repeat (first |refine AP rfl ?_ |refine Ah Aa rfl ?_)
      refine ⟨_,?_,by repeat (first |exact As.nil |refine As.cons rfl ?_),fun _ h=>h⟩;rw [decide_eq_true_iff];exact ⟨fun h=>⟨h1,by omega,.inr fun j' _ e=>(by obtain rfl:j=j':=(by omega);exact h)⟩,fun h=>h.2.2.resolve_left (by omega) j hj' rfl⟩
     ·repeat (first |refine AP rfl ?_ |refine Ah Aa rfl ?_ |refine BO rfl rfl rfl ?_)
      exact ⟨false,⟨fun h=>(by cases h),fun h=>by omega⟩,by repeat (first |exact As.nil |refine As.cons rfl ?_),fun _ h=>h⟩
    ·repeat (first |refine AP rfl ?_ |refine Ah Aa rfl ?_ |refine BO rfl rfl rfl ?_)
     exact ⟨false,⟨fun h=>(by cases h),fun h=>by omega⟩,by repeat (first |exact As.nil |refine As.cons rfl ?_),fun _ h=>h⟩
  ·intro q hq;refine CC rfl (fun h1=>?_) (fun h1=>?_)
   ·obtain ⟨g1,g2,g3⟩:=hq.1 h1;repeat (first |refine Ab ?_ |refine Ag ?_ |refine Ad ?_ |refine Al ?_ |refine AE Aa rfl (by omega) ?_ |refine Ae Aa rfl ?_ |refine Aq ?_)
    exact ⟨(k + 1,(k:Int)),⟨by dsimp only;omega,Qv hk' hb g1 g2 g3⟩,by repeat (first |exact As.nil |refine As.cons rfl ?_),fun w' hw=>hw.dropn hb7,by dsimp only;omega⟩
   ·repeat (first |refine Ab ?_ |refine Ag ?_ |refine Ad ?_ |refine Al ?_ |refine Ao ?_ |refine AE Aa rfl (by omega) ?_ |refine Ae Aa rfl ?_)
    exact ⟨(k + 1,best),⟨by dsimp only;omega,Qw hk' hb fun h=>by rw [h1] at hq;exact absurd (hq.2 h) (by decide)⟩,by repeat (first |exact As.nil |refine As.cons rfl ?_),fun w' hw=>hw.dropn hb7,by dsimp only;omega⟩
 ·have e:k=n:=by omega
  subst e;rw [List.take_of_length_le (by omega)] at hb;repeat (first |refine Ai ?_ |refine Ab ?_ |refine Ag ?_ |refine Ad ?_ |refine AC ?_ |refine Am ?_ |refine AB ?_ |refine AH ?_ |refine Ae Aa rfl ?_)
  exact AY rfl rfl (fun w' hw=>⟨_,rfl,hw.below (by repeat (first |exact An)),_,rfl,hb⟩)
def cnt (l:List BT) (b:Int):Nat:=(l.filter (fun r=>decide (b < r.2))).length
theorem Q3 (l:List BT) {b b':Int} (h:b <= b'):cnt l b' <= cnt l b:=by
 induction l with
 |nil=>exact Nat.le_refl _
 |cons r l ih=>
  unfold cnt at ih ⊢;rw [List.filter_cons,List.filter_cons];by_cases h1:b' < r.2
  ·rw [if_pos (by simpa using h1),if_pos (by simp;omega)];simp only [List.length_cons];omega
  ·rw [if_neg (by simpa using h1)];split
   ·simp only [List.length_cons];omega
   ·exact ih
theorem NO:∀ {l:List BT} {b b':Int},b <= b'->(∃ r ∈ l,b < r.2/\r.2 <= b')->cnt l b' < cnt l b
 | [],_,_,_,⟨r,hr,_⟩=>by cases hr
 |s::l,b,b',h,⟨r,hr,h1,h2⟩=>by
  have hle:=Q3 l h;unfold cnt at hle ⊢;rw [List.filter_cons,List.filter_cons]
  rcases List.mem_cons.1 hr with rfl |hr
  ·rw [if_neg (by simp;omega),if_pos (by simpa using h1)];simp only [List.length_cons];omega
  ·have ih:=NO h ⟨r,hr,h1,h2⟩;unfold cnt at ih;by_cases h3:b' < s.2
   ·rw [if_pos (by simpa using h3),if_pos (by simp;omega)];simp only [List.length_cons];omega
   ·rw [if_neg (by simpa using h3)];split
    ·simp only [List.length_cons];omega
    ·exact ih
theorem Uf (l:List BT) (b:Int):cnt l b <= l.length:=List.length_filter_le _ _
def N3 (r:BT) (b:Int):Prop:=r.1 <= r.2/\b < r.2/\r.1 <= b + 1
structure Xs (l out:List BT) (x:Int):Prop where
 can:Em out
 ok:KP out
 lt:∀ s ∈ out,s.2 < x
 mem:∀ y,y < x->(Cu out y ↔ Cu l y)
 at0:(x=0/\out= []) \/ ¬ Cu l x
 len:out.length + cnt l (x - 1) <= l.length
 bd:0 <= x/\x <= CI
structure WK (l:List BT) (r0 b:Int):Prop where
 le:r0 <= b
 mem:∀ y,r0 <= y->y <= b->Cu l y
 bd:0 <= b/\b <= CI
structure XX (l m:List BT):Prop where
 can:Em m
 ok:KP m
 mem:∀ x,Cu m x ↔ Cu l x
 len:m.length <= l.length
theorem Qi {l:List BT} (hok:KP l):Xs l [] 0:=
 ⟨DT,fun r hr=>(by cases hr),fun s hs=>(by cases hs),fun y hy=>⟨fun h=>absurd h (CD y),fun ⟨r,hr,h1,h2⟩=>by
  have:=BK (hok r hr).1
  omega⟩,.inl ⟨rfl,rfl⟩,by have:=Uf l (0 - 1);simpa using this,by unfold CI;omega⟩
theorem SG {l out:List BT} {x:Int} (h:Xs l out x) (hn:∀ r ∈ l,r.1 <= r.2->r.2 < x):XX l out:=
 ⟨h.can,h.ok,fun y=>by
  rcases Int.lt_or_le y x with h1 |h1
  ·exact h.mem y h1
  ·constructor
   ·rintro ⟨s,hs,h2,h3⟩;have:=h.lt s hs;omega
   ·rintro ⟨r,hr,h2,h3⟩;have:=hn r hr (by omega)
    omega,by have:=h.len;omega⟩
theorem QL {l:List BT} {x:Int} {j:Nat} (hok:KP l) (hj:j < l.length) (h1:l[j].1 <= l[j].2) (h2:x <= l[j].2):WK l (max l[j].1 x) l[j].2:=
 ⟨by omega,fun y h3 h4=>⟨_,List.getElem_mem hj,by omega,h4⟩,by have:=BK (hok _ (List.getElem_mem hj)).2;unfold CI;omega⟩
theorem S5 {l:List BT} {r0 b:Int} {i:Nat} (hok:KP l) (hi:i < l.length) (h:WK l r0 b) (he:N3 l[i] b):WK l r0 l[i].2:=
 ⟨by have:=h.le;have:=he.2.1;omega,fun y h3 h4=>by
  rcases Int.lt_or_le b y with h5 |h5
  ·have:=he.2.2;exact ⟨_,List.getElem_mem hi,by omega,h4⟩
  ·exact h.mem y h3 h5,by have:=BK (hok _ (List.getElem_mem hi)).2;unfold CI;omega⟩
theorem SF {l out:List BT} {x b:Int} {j:Nat} (hok:KP l) (h:Xs l out x) (hj:j < l.length) (h1:l[j].1 <= l[j].2) (h2:x <= l[j].2) (h3:∀ r ∈ l,r.1 <= r.2->x <= r.2->l[j].1 <= r.1) (hg:WK l (max l[j].1 x) b) (hb:l[j].2 <= b) (hne:∀ r ∈ l,¬ N3 r b):
 (b=CI->XX l (out ++ [(max l[j].1 x,b)]))/\(b < CI->Xs l (out ++ [(max l[j].1 x,b)]) (b + 1)/\cnt l (b + 1 - 1) < cnt l (x - 1)):=by
 have hc0:cnt l b < cnt l (x - 1):=NO (by omega) ⟨_,List.getElem_mem hj,by omega,hb⟩
 have hgap:∀ s ∈ out,s.2 + 1 < max l[j].1 x:=by
  intro s hs;have e1:=h.lt s hs
  rcases h.at0 with ⟨_,e⟩ |e
  ·subst e;cases hs
  ·have:¬ l[j].1 <= x:=fun hh=>e ⟨_,List.getElem_mem hj,hh,h2⟩;omega
 have hcan:Em (out ++ [(max l[j].1 x,b)]):=D4.2 ⟨h.can,CK.2 ⟨hg.le,fun s hs=>(by cases hs),DT⟩,fun r hr s hs=>by
  rw [List.mem_singleton] at hs;subst hs
  exact hgap r hr⟩
 have hfit:∀ z:Int,0 <= z->z <= CI->AT .u64 z:=fun z e1 e2=>by unfold CI at e2;simpa [AT,IntKind.min,IntKind.max,IntKind.signed,IntKind.bits] using And.intro e1 e2
 have hokk:KP (out ++ [(max l[j].1 x,b)]):=fun r hr=>by
  rcases List.mem_append.1 hr with hr |hr
  ·exact h.ok r hr
  ·rw [List.mem_singleton] at hr;subst hr;have e1:=h.bd;have e2:=hg.bd;have e3:=hg.le;exact ⟨hfit _ (by show 0 <= max l[j].1 x;omega) (by show max l[j].1 x <= CI;omega),hfit _ e2.1 e2.2⟩
 have hmem:∀ y,y <= b->(Cu (out ++ [(max l[j].1 x,b)]) y ↔ Cu l y):=by
  intro y hy;rw [mem_append,GK]
  rcases Int.lt_or_le y x with h4 |h4
  ·rw [h.mem y h4];exact ⟨fun h5=>h5.elim id fun h6=>by have:=h6.1;omega,.inl⟩
  ·constructor
   ·rintro (⟨s,hs,g1,g2⟩ |⟨g1,g2⟩)
    ·have:=h.lt s hs;omega
    ·exact hg.mem y g1 hy
   ·rintro ⟨r,hr,g1,g2⟩;have:=h3 r hr (by omega) (by omega);exact .inr ⟨by show max l[j].1 x <= y;omega,hy⟩
 have hlen:=h.len;refine ⟨fun e=>⟨hcan,hokk,fun y=>?_,by simp only [List.length_append,List.length_cons,List.length_nil];omega⟩,fun e=>⟨⟨hcan,hokk,fun s hs=>?_,fun y hy=>hmem y (by omega),.inr ?_,?_,by have:=hg.bd;omega⟩,?_⟩⟩
 ·rcases Int.lt_or_le b y with h4 |h4
  ·constructor
   ·rintro ⟨s,hs,g1,g2⟩;have:=BK (hokk s hs).2;unfold CI at e;omega
   ·rintro ⟨s,hs,g1,g2⟩;have:=BK (hok s hs).2;unfold CI at e;omega
  ·exact hmem y h4
 ·rcases List.mem_append.1 hs with hs |hs
  ·have:=h.lt s hs;omega
  ·rw [List.mem_singleton] at hs;subst hs;show b < b + 1;omega
 ·rintro ⟨r,hr,g1,g2⟩;exact hne r hr ⟨by omega,by omega,g1⟩
 ·simp only [List.length_append,List.length_cons,List.length_nil]
  have e1:b + 1 - 1=b:=by omega
  rw [e1];omega
 ·have e1:b + 1 - 1=b:=by omega
  rw [e1];exact hc0
set_option maxHeartbeats 1000000 in
theorem Qh (a:Option Addr) (n c:Nat) (l:List BT) (A:Nat->Prop) (w:World) (hx:Bq Bi w A a n c l) (hn:n <= 1000000):
 Calls Tryz.prog 31 #[.slice a n c] w fun e w'=>∃ v m,e= .returned v/\Below w.heap.size w w'/\XX l m/\(Ay Bi).val w' (fun k=>w.heap.size <= k) v m:=by
 have hl:=hx.len;have hok:=Di hx;refine BL Tryz.func31 rfl rfl (Hp.refl w) ?_;repeat (first |refine Ai ?_ |refine Ab ?_ |refine Ar ?_ |refine Ag ?_ |refine Ae Aa rfl ?_)
 refine AM (ι:=List BT × Int × Option Addr × Nat) (fun i=>[(0,.slice a n c),(3,.slice i.2.2.1 i.1.length i.2.2.2),(4,.int .u64 i.2.1)])
  (fun i=>[.row w.heap.size (.slice i.2.2.1 i.1.length i.2.2.2) 83 2 i.1.length (Br i.1)]) (fun i=>Xs l i.1 i.2.1) (fun i=>cnt l (i.2.1 - 1)) ([],0,none,0) (Qi hok) (by repeat (first |exact As.nil |refine As.cons rfl ?_)) (fun w' hw=>hw.nilRow _ _) ?_
 rintro ⟨out,x,a1,c1⟩ hI;dsimp only at hI ⊢;have hbd:=hI.bd;have hlen:=hI.len;unfold CI at hbd;repeat (first |refine Ai ?_ |refine Ab ?_ |refine Ar ?_ |refine Ae Aa rfl ?_)
 refine GS (fun v=>∃ k,v= .int .i64 k/\Ky l x k) rfl Tryz.call57 (fun w1 h1=>Qu a n c l x A w1 (hx.ext (h1.below (by repeat (first |exact An |refine Bw h1 0 rfl (Nat.le_refl _) ?_)))) hn) (fun v hv=>?_);obtain ⟨k,rfl,⟨rfl,hno⟩ |⟨j,hj,rfl,g1,g2,g3⟩⟩:=hv
 ·have ho:=SG hI hno;repeat (first |refine Ai ?_ |refine Ab ?_ |refine Ag ?_ |refine BW ?_ |refine AI ?_ |refine AB ?_ |refine AN rfl ?_ |refine Ae Aa rfl ?_)
  exact AY rfl rfl (fun w' hw=>⟨_,out,rfl,hw.below (by repeat (first |exact An |refine Bw hw 0 rfl (Nat.le_refl _) ?_)),ho,Bq.val (.of_row CA (hw.own _ (Af (i:=0) rfl)) rfl ho.ok fun k hk _=>hk)⟩)
 ·obtain ⟨ab,off,cs,rfl,hlt,_⟩:=hx.get_ hj;repeat (first |refine Ai ?_ |refine Ab ?_ |refine Ag ?_ |refine Ae Aa rfl ?_)
  refine AF rfl ?_;repeat (first |refine Ai ?_ |refine Ad ?_ |refine Ao ?_)
  refine Cf (by kernel_rfl) 14 rfl (by kernel_rfl) ?_;repeat (first |refine Ah Aa rfl ?_)
  refine Bv (Bu (sz:=2) Aa rfl rfl rfl rfl rfl rfl rfl (j:=j) rfl (by omega)) ?_;repeat (first |refine Ah Aa rfl ?_)
  refine Av Aa (v:=.int .u64 l[j].1) rfl rfl (fun w' hw=>EI (hx.ext (hw.below (by repeat (first |exact An |refine Bw hw 0 rfl (Nat.le_refl _) ?_)))) hj) ?_;repeat (first |refine Ah Aa rfl ?_)
  refine Bv (Bu (sz:=2) Aa rfl rfl rfl rfl rfl rfl rfl (j:=j) rfl (by omega)) ?_;repeat (first |refine Ah Aa rfl ?_)
  refine Av Aa (v:=.int .u64 l[j].2) rfl rfl (fun w' hw=>LE (hx.ext (hw.below (by repeat (first |exact An |refine Bw hw 0 rfl (Nat.le_refl _) ?_)))) hj) ?_;repeat (first |refine Bv (Bf Aa rfl rfl rfl rfl rfl rfl rfl) ?_)
  refine Xv Aa rfl ?_;refine WD 6 rfl (fun b6 hb6=>?_);refine Kz rfl ?_;repeat (first |refine Ai ?_ |refine Ab ?_ |refine Ag ?_ |refine Ae Aa rfl ?_ |refine Aw Aa 0 rfl rfl rfl rfl rfl rfl ?_)
  refine Ar ?_;obtain ⟨r0,hr0⟩:∃ r0,r0=max l[j].1 x:=⟨_,rfl⟩;rw [<-hr0]
  refine AM (ι:=Int × Bool) (fun i=>[(0,.slice (some ⟨ab,off,none⟩) n c),(3,.slice a1 out.length c1),(4,.int .u64 x),(6,.pointer (some ⟨b6,0,none⟩)),(7,.bool i.2)])
   (fun i=>[.blk b6 (.cells ⟨[.int .u64 r0,.int .u64 i.1]⟩ 83 (0,0)) true,.row w.heap.size (.slice a1 out.length c1) 83 2 out.length (Br out)]) (fun i=>WK l r0 i.1/\l[j].2 <= i.1/\(i.2=false->∀ r ∈ l,¬ N3 r i.1)) (fun i=>2 * cnt l i.1 + (if i.2=true then 1 else 0)) (l[j].2,true) ⟨by rw [hr0];exact QL hok hj g1 g2,Int.le_refl _,fun h=>by cases h⟩ (by repeat (first |exact As.nil |refine As.cons rfl ?_)) (fun w' hw=>hw) ?_
  rintro ⟨b,g⟩ ⟨hG,hjb,hno⟩;dsimp only at hG hjb hno ⊢;repeat (first |refine Ai ?_ |refine Ab ?_ |refine Ag ?_ |refine Ae Aa rfl ?_)
  refine CC rfl (fun h1=>?_) (fun h1=>?_)
  ·subst h1;repeat (first |refine Ai ?_ |refine Ab ?_ |refine Ar ?_ |refine Ag ?_ |refine Ad ?_ |refine Ao ?_ |refine Ae Aa rfl ?_)
   refine AM (ι:=Nat × Int × Bool) (fun i=>[(0,.slice (some ⟨ab,off,none⟩) n c),(3,.slice a1 out.length c1),(4,.int .u64 x),(6,.pointer (some ⟨b6,0,none⟩)),(7,.bool i.2.2),(30,.slice (some ⟨ab,off,none⟩) n c),(31,.int .i64 (n:Int)),(32,.int .i64 (i.1:Int))])
    (fun i=>[.blk b6 (.cells ⟨[.int .u64 r0,.int .u64 i.2.1]⟩ 83 (0,0)) true,.row w.heap.size (.slice a1 out.length c1) 83 2 out.length (Br out)]) (fun i=>i.1 <= n/\WK l r0 i.2.1/\b <= i.2.1/\(i.2.2=false->i.2.1=b/\∀ (j:Nat) (hj:j < l.length),j < i.1->¬ N3 l[j] b)/\(i.2.2=true->cnt l i.2.1 < cnt l b)) (fun i=>n - i.1) (0,b,false) ⟨Nat.zero_le _,hG,Int.le_refl _,fun _=>⟨rfl,fun j hj h=>by omega⟩,fun h=>by cases h⟩ (by repeat (first |exact As.nil |refine As.cons rfl ?_)) (fun w' hw=>hw) ?_
   rintro ⟨i,b',g'⟩ ⟨hi,hG',hbb,hf,ht⟩;dsimp only at hi hG' hbb hf ht ⊢;have hGb:=hG'.bd;unfold CI at hGb;repeat (first |refine Ai ?_ |refine Ab ?_ |refine Ag ?_ |refine Ae Aa rfl ?_)
   refine Ak rfl (fun h=>?_) (fun h=>?_)
   ·have hi':i < l.length:=by omega
    have hu1:=BK (hok _ (List.getElem_mem hi')).1;repeat (first |refine Ai ?_ |refine Ad ?_ |refine Ao ?_)
    refine Ar ?_;repeat (first |refine Ai ?_ |refine Ab ?_)
    refine BF (Bu (sz:=2) Aa rfl rfl rfl rfl rfl rfl rfl rfl (j:=i) (by omega)) ?_;refine BX Aa (vs:=C0 l[i]) rfl rfl rfl (fun w' hw=>B7 (hx.ext (hw.below (by repeat (first |exact An |refine Az (by first |assumption |omega) ?_ |refine Bw hw 1 rfl (Nat.le_refl _) ?_)))) hi') ?_;refine A5 Aa rfl (fun b9 hb9=>?_);refine Aw Aa 0 rfl rfl rfl rfl rfl rfl ?_;refine Ag ?_;refine Ai ?_
    refine BP (ι:=Bool) (fun q=>q=true ↔ N3 l[i] b') (fun q=>[(0,.slice (some ⟨ab,off,none⟩) n c),(3,.slice a1 out.length c1),(4,.int .u64 x),(6,.pointer (some ⟨b6,0,none⟩)),(7,.bool g'),(9,.pointer (some ⟨b9,0,none⟩)),(30,.slice (some ⟨ab,off,none⟩) n c),(31,.int .i64 (n:Int)),(32,.int .i64 (i:Int)),(62,.bool q)])
     (fun q=>[.blk b9 (.cells ⟨C0 l[i]⟩ 83 (0,0)) true,.blk b6 (.cells ⟨[.int .u64 r0,.int .u64 b']⟩ 83 (0,0)) true,.row w.heap.size (.slice a1 out.length c1) 83 2 out.length (Br out)]) ?_ ?_
    ·unfold N3;repeat (first |refine Ab ?_ |refine Ae Aa rfl ?_ |refine Ap Aa 0 rfl rfl rfl ?_)
     refine BQ rfl rfl (fun h2=>?_) (fun h2=>?_)
     ·repeat (first |refine Ae Aa rfl ?_ |refine Ap Aa 0 rfl rfl rfl ?_ |refine Ap Aa 1 rfl rfl rfl ?_)
      refine BQ rfl rfl (fun h3=>?_) (fun h3=>?_)
      ·repeat (first |refine Ae Aa rfl ?_ |refine Ap Aa 0 rfl rfl rfl ?_ |refine Ap Aa 1 rfl rfl rfl ?_)
       refine BQ rfl rfl (fun h4=>?_) (fun h4=>?_)
       ·repeat (first |refine Ag ?_ |refine Ae Aa rfl ?_ |refine Bh rfl rfl rfl ?_)
        exact ⟨true,⟨fun _=>⟨h2,h3,by omega⟩,fun _=>rfl⟩,by repeat (first |exact As.nil |refine As.cons rfl ?_),fun _ h=>h⟩
       ·repeat (first |refine Ag ?_ |refine DY Aa rfl (by omega) ?_ |refine Ae Aa rfl ?_ |refine Ap Aa 0 rfl rfl rfl ?_ |refine Ap Aa 1 rfl rfl rfl ?_)
        refine ⟨_,?_,by repeat (first |exact As.nil |refine As.cons rfl ?_),fun _ h=>h⟩;rw [decide_eq_true_iff];exact ⟨fun h=>⟨h2,h3,by omega⟩,fun h=>by omega⟩
      ·repeat (first |refine Ag ?_ |refine Ae Aa rfl ?_ |refine Bh rfl rfl rfl ?_)
       exact ⟨false,⟨fun h=>(by cases h),fun h=>by omega⟩,by repeat (first |exact As.nil |refine As.cons rfl ?_),fun _ h=>h⟩
     ·repeat (first |refine Ag ?_ |refine Ae Aa rfl ?_ |refine Bh rfl rfl rfl ?_)
      exact ⟨false,⟨fun h=>(by cases h),fun h=>by omega⟩,by repeat (first |exact As.nil |refine As.cons rfl ?_),fun _ h=>h⟩
    ·intro q hq;refine CC rfl (fun h2=>?_) (fun h2=>?_)
     ·have he:=hq.1 h2;repeat (first |refine Ab ?_ |refine Ag ?_ |refine Ad ?_ |refine Al ?_ |refine AE Aa rfl (by omega) ?_ |refine Ae Aa rfl ?_ |refine Aq ?_ |refine Ap Aa 0 rfl rfl rfl ?_ |refine Aw Aa 1 rfl rfl rfl rfl rfl rfl ?_)
      exact ⟨(i + 1,l[i].2,true),⟨by dsimp only;omega,S5 hok hi' hG' he,by have:=he.2.1;dsimp only;omega,fun h=>(by cases h),fun _=>by
       have h5:cnt l l[i].2 < cnt l b':=NO (by have:=he.2.1;omega) ⟨_,List.getElem_mem hi',he.2.1,Int.le_refl _⟩;have h6:=Q3 l hbb;dsimp only
       omega⟩,by repeat (first |exact As.nil |refine As.cons rfl ?_),fun w' hw=>hw.dropn hb9,by dsimp only;omega⟩
     ·have hne:¬ N3 l[i] b':=fun h=>by rw [h2] at hq;exact absurd (hq.2 h) (by decide)
      repeat (first |refine Ab ?_ |refine Ag ?_ |refine Ad ?_ |refine Al ?_ |refine Ao ?_ |refine AE Aa rfl (by omega) ?_ |refine Ae Aa rfl ?_)
      refine ⟨(i + 1,b',g'),⟨by dsimp only;omega,hG',hbb,fun h=>⟨(hf h).1,fun j hj hji=>?_⟩,ht⟩,by repeat (first |exact As.nil |refine As.cons rfl ?_),fun w' hw=>hw.dropn hb9,by dsimp only;omega⟩;by_cases e:j=i
      ·subst e;rw [<-(hf h).1];exact hne
      ·exact (hf h).2 j hj (by dsimp only at hji;omega)
   ·have e:i=n:=by omega
    subst e;repeat (first |refine Ad ?_ |refine Al ?_ |refine AC ?_ |refine Am ?_ |refine AH ?_)
    refine ⟨(b',g'),⟨hG',by dsimp only;omega,fun h r hr=>?_⟩,by repeat (first |exact As.nil |refine As.cons rfl ?_),fun w' hw=>hw,?_⟩
    ·obtain ⟨j',hj',rfl⟩:=List.getElem_of_mem hr;dsimp only at h ⊢;rw [(hf h).1];exact (hf h).2 j' hj' (by omega)
    ·dsimp only
     cases g' with
     |false=>have e1:=(hf rfl).1;subst e1;simp
     |true=>have e1:=ht rfl;simp;omega
  ·subst h1;have hGb:=hG.bd;unfold CI at hGb;obtain ⟨p1,p2⟩:=SF hok hI hj g1 g2 g3 (hr0 ▸ hG) hjb (hno rfl);rw [<-hr0] at p1 p2;repeat (first |refine Ai ?_ |refine Ab ?_ |refine Ad ?_ |refine AC ?_ |refine Am ?_ |refine AH ?_ |refine Ae Aa rfl ?_ |refine Ap Aa 0 rfl rfl rfl ?_)
   refine AO Aa rfl rfl rfl rfl rfl rfl rfl rfl rfl rfl rfl rfl (fun b8 hb8=>?_);refine AU (ty:=0) Aa 2 rfl rfl rfl rfl rfl rfl rfl rfl rfl (by decide) (fun w' hw=>Sl.of_blk (xs:=C0 (r0,b)) (hw.own _ (Af (i:=0) rfl)) rfl (fun j u hu=>by rw [Nat.zero_add];exact hu)) (by intro u hu;exact Dc [(r0,b)] u (by simpa [Br] using hu)) (by simp only [maxLen];omega) (by show (_ + _) * 16 <= _;omega) rfl (fun A' c' h1 h2=>⟨_,rfl,?_⟩)
   have ec:Br out ++ C0 (r0,b)=Br (out ++ [(r0,b)]):=by rw [CT];simp [Br]
   have el:out.length + 1=(out ++ [(r0,b)]).length:=by rw [List.length_append];rfl
   rw [ec,el];repeat (first |refine Ai ?_ |refine Ab ?_ |refine Ag ?_ |refine Ae Aa rfl ?_ |refine Ap Aa 1 rfl rfl rfl ?_)
   refine Ak rfl (fun h2=>?_) (fun h2=>?_)
   ·have ho:=p1 h2;repeat (first |refine Ai ?_ |refine Ab ?_ |refine Ag ?_ |refine BW ?_ |refine AI ?_ |refine AB ?_ |refine Ae Aa rfl ?_)
    refine AY rfl rfl (fun w' hw=>⟨_,_,rfl,hw.below (by repeat (first |exact An |refine Az (by first |assumption |omega) ?_ |refine Bw hw 2 rfl (Nat.le_refl _) ?_)),ho,Bq.val (.of_row CA (hw.own _ (Af (i:=2) rfl)) rfl ho.ok fun k hk _=>hk)⟩)
   ·obtain ⟨q1,q2⟩:=p2 (by unfold CI;omega);repeat (first |refine Ag ?_ |refine Ad ?_ |refine Al ?_ |refine Ao ?_ |refine DY Aa rfl (by omega) ?_ |refine Ae Aa rfl ?_ |refine Aq ?_ |refine Ap Aa 1 rfl rfl rfl ?_)
    exact ⟨(out ++ [(r0,b)],b + 1,A',c'),q1,by repeat (first |exact As.nil |refine As.cons rfl ?_),fun w' hw=>(hw.dropn hb8).dropn hb6,q2⟩
section
variable {S T:Int->Prop} {B C:Nat} {v u:Value} {A D:Nat->Prop}
theorem SE (l:List BT) (w:World) (h:(Ay Bi).val w A v l) (hB:l.length <= 900000):
 Calls Tryz.prog 31 #[v] w fun e w'=>∃ r,e= .returned r/\Below w.heap.size w w'/\(Jz (Cu l) l.length).at_ w' (fun k=>w.heap.size <= k) r:=by
 obtain ⟨a,n,c,rfl,h4⟩:=Bq.form h;have hl:=h4.len;exact (Qh a n c l A w h4 (by omega)).mono fun e w' ⟨v,m,e1,e2,e3,e4⟩=>⟨v,e1,e2,m,e3.can,e3.mem,e3.len,e4⟩
theorem Sr (w:World) (h:(Jz S B).at_ w A v) (k:(Jz T C).at_ w D u) (hST:∀ x,S x ↔ T x):Calls Tryz.prog 30 #[v,u] w fun e w'=>e= .returned (.bool true)/\Below w.heap.size w w':=
 (Ss w h k).mono fun e w' ⟨v,e1,e2,q,e3,e4⟩=>by
  obtain rfl:=Q8 e4 hST;exact ⟨by rw [e1,e3],e2⟩
end
end Go.Proofs.YtidhpofcofknhaaGreat
