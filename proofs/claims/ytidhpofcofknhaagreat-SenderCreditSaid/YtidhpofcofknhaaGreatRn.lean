/-
  Runs: contracts of few, own, Clone, Equal, Same. Conditions: each theorem's own. Runs: contracts of Equal and Same, of Runs. Conditions: each theorem's own. Runs: contracts of Search and find. Conditions: each theorem's own. Runs: contracts of Grow and Concat. Conditions: each theorem's own. Runs: the mathematics of runs of numbers. No program; conditions: each theorem's own. Runs: contracts of Span, Add. Conditions: each theorem's own. Runs: contracts of Add, Of, set, Has, Gap, Make. Conditions: each theorem's own. Runs: contracts of Of, Has, Gap, Make. Conditions: each theorem's own. Runs: sets told by who is in them; contracts in these words. Conditions: each theorem's own. Runs: contracts of without and of all that is made of it. Conditions: each theorem's own. Runs: contracts of Less, Union, Below, From. Conditions: each theorem's own. Runs: how many are in a set; small things. Cond
  Conditions: each theorem's own.
-/
import Derived.Test.YtidhpofcofknhaaGreatAl
namespace Go.Proofs.YtidhpofcofknhaaGreat
open Go Go.RowKit
set_option linter.unusedVariables false
abbrev Bg:Eh (Int × Int):=C5 (A8 .u64) (A8 .u64)
abbrev G6:Eh (List (Int × Int)):=Xy (Az Bg)
def C6 (p:Int × Int):List Value:=[.int .u64 p.1,.int .u64 p.2]
def UQ (p:Int × Int):Prop:=AS .u64 p.1/\AS .u64 p.2
theorem Cz:PX Bg C6 UQ:=⟨fun w A cs x=>⟨by
 rintro ⟨c1,c2,rfl,⟨rfl,h1⟩,rfl,h2⟩
 exact ⟨rfl,h1,h2⟩,by
 rintro ⟨rfl,h1,h2⟩
 exact ⟨[.int .u64 x.1],[.int .u64 x.2],rfl,⟨rfl,h1⟩,rfl,h2⟩⟩⟩
abbrev Bq (l:List (Int × Int)):List Value:=(l.map C6).flatten
theorem De (l:List (Int × Int)):∀ u ∈ Bq l,u.oneCell'=true:=by
 intro u hu;obtain ⟨c,hc,hu⟩:=List.mem_flatten.1 hu;obtain ⟨p,_,rfl⟩:=List.mem_map.1 hc;simp only [C6,List.mem_cons,List.not_mem_nil,or_false] at hu
 rcases hu with rfl |rfl<;>rfl
theorem CY (l m:List (Int × Int)):Bq (l ++ m)=Bq l ++ Bq m:=by
 simp [Bq]
section
variable {w:World} {A:Nat->Prop} {a:Option Addr} {b off n c:Nat} {l:List (Int × Int)}
theorem B7 (h:Br Bg w A (some ⟨b,off,none⟩) n c l) {i:Nat} (hi:i < l.length):∀ j u,(C6 l[i])[j]? =some u->w.cell? ((⟨b,off + i * 2,none⟩:Addr).add j)=some u:=by
 obtain ⟨cs,_,h2,_,h3,_⟩:=h.at_ hi;have h4:=((Cz.iff _ _ _ _).1 h2).1;subst h4;intro j u hu;rw [Addr.add_lit];exact h3 j u hu
theorem EK (h:Br Bg w A (some ⟨b,off,none⟩) n c l) {i:Nat} (hi:i < l.length):w.cell? ⟨b,off + i * 2,none⟩=some (.int .u64 l[i].1):=by
 have:=B7 h hi 0 _ rfl;simpa [Addr.add_lit] using this
theorem LI (h:Br Bg w A (some ⟨b,off,none⟩) n c l) {i:Nat} (hi:i < l.length):w.cell? ⟨b,off + i * 2 + 1,none⟩=some (.int .u64 l[i].2):=by
 have:=B7 h hi 1 _ rfl;simpa [Addr.add_lit] using this
theorem LH {base:Nat} {e:TypeId} (h:w.ownsRow base e 2 (.slice a l.length c) l.length (Bq l)) (hok:∀ p ∈ l,UQ p) (hA:∀ k,base <= k->A k):Br Bg w A a l.length c l:=
 .of_row Cz h rfl hok fun k hk _=>hA k hk
end
theorem Rm (a:Option Addr) (n c:Nat) (l:List (Int × Int)) (A:Nat->Prop) (w:World) (h:Br Bg w A a n c l) (hn:n <= 1000000):
 Calls Tryz.prog 56 #[.slice a n c] w fun e w'=>∃ a c,e= .returned (.slice a n c)/\Below w.heap.size w w'/\w'.ownsRow w.heap.size 82 2 (.slice a n c) n (Bq l):=by
 refine BZ Tryz.func56 rfl rfl (Hp.refl w) ?_;repeat (first |refine Ai ?_ |refine Ab ?_ |refine Ag ?_ |refine Ae Aa rfl ?_)
 refine BE (UL Aa rfl rfl rfl rfl rfl) ?_
 cases a with
 |none=>
  have h0:=(h.nil rfl).1;subst h0;have hl0:l= []:=List.eq_nil_of_length_eq_zero h.len;subst hl0;repeat (first |refine Ai ?_ |refine Ab ?_ |refine Ag ?_ |refine AI ?_ |refine AC ?_ |refine AX rfl ?_ |refine Ae Aa rfl ?_)
  exact AZ rfl rfl (fun w' hw=>⟨none,0,rfl,hw.below Ar,World.ownsRow_nil w' _ _ _⟩)
 |some ad=>
  repeat (first |refine Ai ?_ |refine Ab ?_ |refine Ag ?_ |refine Ad ?_ |refine Ao ?_ |refine AG rfl ?_)
  refine AO Aa rfl rfl rfl rfl rfl rfl rfl rfl rfl rfl rfl rfl (fun b2 hb2=>?_);repeat (first |refine Ae Aa rfl ?_)
  refine B0 (ol':=[.row w.heap.size (.slice (some ⟨b2,0,none⟩) 0 0) 82 2 0 []]) (fun w' h=>Hp.closeRow (pre:=[]) (n:=0) (c:=0) h hb2 (by decide) (by decide) rfl) ?_;refine AT (ty:=0) Aa 0 rfl rfl rfl rfl rfl rfl rfl rfl rfl (by decide) (fun w' hw=>((h.ext (hw.below (Bv hw 0 rfl (Nat.le_refl _) Ar))).flat Cz).1) (De l) (by simp only [maxLen];omega) (by show (_ + _) * 16 <= _;omega) rfl (fun A' c' h1 h2=>⟨_,rfl,?_⟩);repeat (first |refine Ag ?_ |refine AC ?_ |refine Ae Aa rfl ?_)
  rw [List.nil_append,Nat.zero_add];exact AZ rfl rfl (fun w' hw=>⟨A',c',rfl,hw.below (Bv hw 0 rfl (Nat.le_refl _) Ar),hw.own _ (Af (i:=0) rfl)⟩)
theorem PD (a a':Option Addr) (n c n' c':Nat) (l m:List (Int × Int)) (A B:Nat->Prop) (w:World) (hx:Br Bg w A a n c l) (hy:Br Bg w B a' n' c' m):
 Calls Tryz.prog 38 #[.slice a n c,.slice a' n' c'] w fun e w'=>e= .returned (.bool (decide (l=m)))/\Below w.heap.size w w':=by
 have hl:=hx.len;have hl':=hy.len;have hmx:=hx.max;have hcx:=hx.cap;simp only [maxLen] at hmx;refine BO Tryz.func38 rfl rfl (Hp.refl w) ?_;repeat (first |refine Ai ?_ |refine Ab ?_ |refine Ag ?_ |refine Ae Aa rfl ?_)
 refine Ak rfl (fun h=>?_) (fun h=>?_)
 ·repeat (first |refine Ai ?_ |refine Ab ?_ |refine Ag ?_ |refine AI ?_ |refine AC ?_ |refine Ae Aa rfl ?_)
  exact AZ rfl rfl (fun w' hw=>⟨I8 (decide_eq_false fun e=>h (by rw [<-hl,<-hl',e])).symm,hw.below Ar⟩)
 have hnn:n=n':=by omega
 subst hnn;repeat (first |refine Ai ?_ |refine Ab ?_ |refine Aq ?_ |refine Ag ?_ |refine Ad ?_ |refine Ao ?_ |refine Ae Aa rfl ?_)
 refine AM (ι:=Nat) (fun i=>[(0,.slice a n c),(1,.slice a' n c'),(12,.int .i64 (n:Int)),(13,.int .i64 (i:Int))])
  (fun i=>[]) (fun i=>i <= n/\l.take i=m.take i) (fun i=>n - i) 0 ⟨Nat.zero_le _,rfl⟩ (by repeat (first |exact As.nil |refine As.cons rfl ?_)) (fun _ hw=>hw) ?_
 rintro k ⟨hk,hkt⟩
 try dsimp only at hk ⊢
 repeat (first |refine Ai ?_ |refine Ab ?_ |refine Ag ?_ |refine Ae Aa rfl ?_)
 refine Ak rfl (fun h=>?_) (fun h=>?_)
 ·have hk1:k < l.length:=by omega
  have hk2:k < m.length:=by omega
  obtain ⟨b,off,cs,rfl,hlt,_⟩:=hx.get_ hk1;obtain ⟨b2,off2,cs2,rfl,hlt2,_⟩:=hy.get_ hk2;repeat (first |refine A5 (by kernel_rfl) (by kernel_rfl) ?_ |refine Ah Aa rfl ?_ |refine Ai ?_ |refine Ab ?_ |refine Aq ?_ |refine Ag ?_ |refine Ad ?_ |refine Ao ?_ |refine Ae Aa rfl ?_)
  refine Bx (Bs (sz:=2) Aa rfl rfl rfl rfl rfl rfl rfl rfl (j:=k) (by omega)) ?_;refine In Aa (vs:=C6 l[k]) rfl rfl rfl (fun w' hw=>B7 (hx.ext (hw.below Ar)) hk1) ?_;repeat (first |refine Ah Aa rfl ?_)
  refine Bx (Bs (sz:=2) Aa rfl rfl rfl rfl rfl rfl rfl rfl (j:=k) (by omega)) ?_;refine In Aa (vs:=C6 m[k]) rfl rfl rfl (fun w' hw=>B7 (hy.ext (hw.below Ar)) hk2) ?_;refine Bx (R6 Aa rfl rfl rfl rfl rfl rfl rfl rfl rfl rfl rfl (by decide) (by decide) (by kernel_rfl) (by kernel_rfl)) ?_;repeat (first |refine AN rfl ?_)
  refine El rfl (fun h1=>?_) (fun h1=>?_)
  ·repeat (first |refine Ai ?_ |refine Ab ?_ |refine Ag ?_ |refine BQ ?_ |refine AI ?_ |refine AC ?_ |refine Ae Aa rfl ?_)
   exact AZ rfl rfl (fun w' hw=>⟨I8 (decide_eq_false (LE hk1 hk2 fun e=>h1 (by rw [e];exact ⟨rfl,rfl⟩))).symm,hw.below Ar⟩)
  ·repeat (first |refine Ab ?_ |refine Ag ?_ |refine Ad ?_ |refine Am ?_ |refine Ao ?_ |refine AD Aa rfl (by omega) ?_ |refine Ae Aa rfl ?_)
   exact ⟨k + 1,⟨by omega,Jz hkt hk1 hk2 (Prod.ext h1.1 h1.2)⟩,by repeat (first |exact As.nil |refine As.cons rfl ?_),fun _ h=>h,by omega⟩
 ·repeat (first |refine Ai ?_ |refine Ab ?_ |refine Ag ?_ |refine Ad ?_ |refine AB ?_ |refine Al ?_ |refine AC ?_ |refine AH ?_ |refine Ae Aa rfl ?_)
  have e:k=n:=by omega
  subst e;rw [List.take_of_length_le (by omega),List.take_of_length_le (by omega)] at hkt;exact AZ rfl rfl (fun w' hw=>⟨I8 (decide_eq_true hkt).symm,hw.below Ar⟩)
theorem Qi (a a':Option Addr) (n c n' c':Nat) (l m:List (Int × Int)) (A B:Nat->Prop) (w:World) (hx:Br Bg w A a n c l) (hy:Br Bg w B a' n' c' m):
 Calls Tryz.prog 30 #[.slice a n c,.slice a' n' c'] w fun e w'=>e= .returned (.bool (decide (l=m)))/\Below w.heap.size w w':=by
 have hl:=hx.len;have hl':=hy.len;have hmx:=hx.max;have hcx:=hx.cap;simp only [maxLen] at hmx;refine BO Tryz.func30 rfl rfl (Hp.refl w) ?_;repeat (first |refine Ai ?_ |refine Ab ?_ |refine Ag ?_ |refine Ae Aa rfl ?_)
 refine Ak rfl (fun h=>?_) (fun h=>?_)
 ·repeat (first |refine Ai ?_ |refine Ab ?_ |refine Ag ?_ |refine AI ?_ |refine AC ?_ |refine Ae Aa rfl ?_)
  exact AZ rfl rfl (fun w' hw=>⟨I8 (decide_eq_false fun e=>h (by rw [<-hl,<-hl',e])).symm,hw.below Ar⟩)
 have hnn:n=n':=by omega
 subst hnn;repeat (first |refine Ai ?_ |refine Ab ?_ |refine Aq ?_ |refine Ag ?_ |refine Ad ?_ |refine Ao ?_ |refine Ae Aa rfl ?_)
 refine AM (ι:=Nat) (fun i=>[(0,.slice a n c),(1,.slice a' n c'),(12,.int .i64 (n:Int)),(13,.int .i64 (i:Int))])
  (fun i=>[]) (fun i=>i <= n/\l.take i=m.take i) (fun i=>n - i) 0 ⟨Nat.zero_le _,rfl⟩ (by repeat (first |exact As.nil |refine As.cons rfl ?_)) (fun _ hw=>hw) ?_
 rintro k ⟨hk,hkt⟩
 try dsimp only at hk ⊢
 repeat (first |refine Ai ?_ |refine Ab ?_ |refine Ag ?_ |refine Ae Aa rfl ?_)
 refine Ak rfl (fun h=>?_) (fun h=>?_)
 ·have hk1:k < l.length:=by omega
  have hk2:k < m.length:=by omega
  obtain ⟨b,off,cs,rfl,hlt,_⟩:=hx.get_ hk1;obtain ⟨b2,off2,cs2,rfl,hlt2,_⟩:=hy.get_ hk2;repeat (first |refine A5 (by kernel_rfl) (by kernel_rfl) ?_ |refine Ah Aa rfl ?_ |refine Ai ?_ |refine Ab ?_ |refine Aq ?_ |refine Ag ?_ |refine Ad ?_ |refine Ao ?_ |refine Ae Aa rfl ?_)
  refine Bx (Bs (sz:=2) Aa rfl rfl rfl rfl rfl rfl rfl rfl (j:=k) (by omega)) ?_;refine In Aa (vs:=C6 l[k]) rfl rfl rfl (fun w' hw=>B7 (hx.ext (hw.below Ar)) hk1) ?_;repeat (first |refine Ah Aa rfl ?_)
  refine Bx (Bs (sz:=2) Aa rfl rfl rfl rfl rfl rfl rfl rfl (j:=k) (by omega)) ?_;refine In Aa (vs:=C6 m[k]) rfl rfl rfl (fun w' hw=>B7 (hy.ext (hw.below Ar)) hk2) ?_;refine Bx (R6 Aa rfl rfl rfl rfl rfl rfl rfl rfl rfl rfl rfl (by decide) (by decide) (by kernel_rfl) (by kernel_rfl)) ?_;repeat (first |refine AN rfl ?_)
  refine El rfl (fun h1=>?_) (fun h1=>?_)
  ·repeat (first |refine Ai ?_ |refine Ab ?_ |refine Ag ?_ |refine BQ ?_ |refine AI ?_ |refine AC ?_ |refine Ae Aa rfl ?_)
   exact AZ rfl rfl (fun w' hw=>⟨I8 (decide_eq_false (LE hk1 hk2 fun e=>h1 (by rw [e];exact ⟨rfl,rfl⟩))).symm,hw.below Ar⟩)
  ·repeat (first |refine Ab ?_ |refine Ag ?_ |refine Ad ?_ |refine Am ?_ |refine Ao ?_ |refine AD Aa rfl (by omega) ?_ |refine Ae Aa rfl ?_)
   exact ⟨k + 1,⟨by omega,Jz hkt hk1 hk2 (Prod.ext h1.1 h1.2)⟩,by repeat (first |exact As.nil |refine As.cons rfl ?_),fun _ h=>h,by omega⟩
 ·repeat (first |refine Ai ?_ |refine Ab ?_ |refine Ag ?_ |refine Ad ?_ |refine AB ?_ |refine Al ?_ |refine AC ?_ |refine AH ?_ |refine Ae Aa rfl ?_)
  have e:k=n:=by omega
  subst e;rw [List.take_of_length_le (by omega),List.take_of_length_le (by omega)] at hkt;exact AZ rfl rfl (fun w' hw=>⟨I8 (decide_eq_true hkt).symm,hw.below Ar⟩)
abbrev Bz (a:Option Addr) (n c:Nat):Value:=.agg #[.slice a n c]
theorem SH (a:Option Addr) (n c:Nat) (l:List (Int × Int)) (A:Nat->Prop) (w:World) (h:Br Bg w A a n c l) (hn:n <= 1000000):
 Calls Tryz.prog 29 #[Bz a n c] w fun e w'=>∃ a c,e= .returned (.slice a n c)/\Below w.heap.size w w'/\w'.ownsRow w.heap.size 82 2 (.slice a n c) n (Bq l):=by
 refine BZ Tryz.func29 rfl rfl (Hp.refl w) ?_;repeat (first |refine Ai ?_ |refine Ab ?_)
 refine AY Aa rfl (fun b hb=>?_);repeat (first |refine Ai ?_ |refine Ab ?_ |refine Ag ?_ |refine Ae Aa rfl ?_ |refine An Aa 0 rfl rfl rfl ?_)
 refine Eb rfl Tryz.call56 (fun w1 h1=>Rm a n c l A w1 (h.ext (h1.below (AA hb Ar))) hn) (fun a1 c1 hc1 hd1=>?_);repeat (first |refine Ag ?_ |refine AC ?_ |refine Ae Aa rfl ?_)
 exact AZ rfl rfl (fun w' hw=>⟨a1,c1,rfl,hw.below (Bv hw 0 rfl (Nat.le_refl _) (AA hb Ar)),hw.own _ (Af (i:=0) rfl)⟩)
theorem SG (a a':Option Addr) (n c n' c':Nat) (l m:List (Int × Int)) (A B:Nat->Prop) (w:World) (hx:Br Bg w A a n c l) (hy:Br Bg w B a' n' c' m):
 Calls Tryz.prog 18 #[Bz a n c,Bz a' n' c'] w fun e w'=>e= .returned (.bool (decide (l=m)))/\Below w.heap.size w w':=by
 refine BO Tryz.func18 rfl rfl (Hp.refl w) ?_;repeat (first |refine Ai ?_ |refine Ab ?_)
 refine AY Aa rfl (fun b hb=>?_);refine AY Aa rfl (fun b2 hb2=>?_);repeat (first |refine Ai ?_ |refine Ab ?_ |refine Ag ?_ |refine Ae Aa rfl ?_ |refine An Aa 0 rfl rfl rfl ?_ |refine An Aa 1 rfl rfl rfl ?_)
 refine Be rfl Tryz.call38 (fun w1 h1=>PD a a' n c n' c' l m A B w1 (hx.ext (h1.below (AA hb2 (AA hb Ar)))) (hy.ext (h1.below (AA hb2 (AA hb Ar))))) ?_;repeat (first |refine Ag ?_ |refine AC ?_ |refine Ae Aa rfl ?_)
 exact AZ rfl rfl (fun w' hw=>⟨rfl,hw.below (AA hb2 (AA hb Ar))⟩)
theorem Pk (m i0:Nat) (g:FuncId) (caps:Array Value) (hm:m <= 4611686018427387904) (hi:i0 <= m) (w:World) (hcall:∀ args w,(callFunc g args).run Tryz.prog w= .ok (.enter g args) w)
 (hp:∀ w' (j:Nat),Below w.heap.size w w'->j < m->Calls Tryz.prog g (#[.int .i64 (j:Int)] ++ caps) w' (fun e w''=>e= .returned (.bool (decide (i0 <= j)))/\Below w'.heap.size w' w'')):
 Calls Tryz.prog 84 #[.int .i64 (m:Int),.func (.func g) #[] caps] w fun e w'=>e= .returned (.int .i64 (i0:Int))/\Below w.heap.size w w':=by
 refine BO Tryz.func84 rfl rfl (Hp.refl w) ?_;repeat (first |refine Ai ?_ |refine Ab ?_ |refine Aq ?_ |refine Ag ?_ |refine Ae Aa rfl ?_)
 refine AM (ι:=Nat × Nat) (fun i=>[(1,.func (.func g) #[] caps),(5,.int .i64 (i.1:Int)),(6,.int .i64 (i.2:Int))])
  (fun i=>[]) (fun i=>i.1 <= i0/\i0 <= i.2/\i.2 <= m) (fun i=>i.2 - i.1) (0,m) ⟨Nat.zero_le _,hi,Nat.le_refl _⟩ (by repeat (first |exact As.nil |refine As.cons rfl ?_)) (fun _ hw=>hw) ?_
 rintro ⟨lo,hh⟩ ⟨h1,h2,h3⟩;dsimp only at h1 h2 h3 ⊢;repeat (first |refine Ai ?_ |refine Ab ?_ |refine Ag ?_ |refine Ae Aa rfl ?_)
 refine Ak rfl (fun h=>?_) (fun h=>?_)
 ·repeat (first |refine Ai ?_ |refine Ab ?_ |refine Aq ?_ |refine Ad ?_ |refine Ao ?_ |refine AD Aa rfl (by omega) ?_ |refine D2 Aa rfl (by omega) ?_ |refine Ae Aa rfl ?_)
  refine BE ((O0 rfl rfl rfl (by decide)).eq (v':=.int .u64 (((lo + hh) / 2:Nat):Int)) (by
   have:(1:Int).toNat=1:=rfl;rw [this,Int.pow_one];congr 1
   )) ?_
  repeat (first |refine Ai ?_ |refine Ab ?_ |refine Ag ?_ |refine AD Aa rfl (by omega) ?_ |refine Ae Aa rfl ?_)
  refine M8 (v:=.bool (decide (i0 <= (lo + hh) / 2))) rfl rfl rfl hcall (fun w1 hw1=>hp w1 _ (hw1.below Ar) (by omega)) ?_;repeat (first |refine Ag ?_ |refine Ae Aa rfl ?_)
  refine El rfl (fun h4=>?_) (fun h4=>?_)
  ·repeat (first |refine Ag ?_ |refine Ad ?_ |refine Am ?_ |refine AD Aa rfl (by omega) ?_ |refine Ae Aa rfl ?_ |refine Ap ?_)
   exact ⟨((lo + hh) / 2 + 1,hh),⟨by dsimp only;omega,h2,h3⟩,by repeat (first |exact As.nil |refine As.cons rfl ?_),fun _ h=>h,by dsimp only;omega⟩
  ·repeat (first |refine Ag ?_ |refine Ad ?_ |refine Am ?_ |refine Ae Aa rfl ?_ |refine Ap ?_)
   exact ⟨(lo,(lo + hh) / 2),⟨h1,h4,by dsimp only;omega⟩,by repeat (first |exact As.nil |refine As.cons rfl ?_),fun _ h=>h,by dsimp only;omega⟩
 ·repeat (first |refine Ai ?_ |refine Ab ?_ |refine Ag ?_ |refine Ad ?_ |refine AB ?_ |refine Al ?_ |refine AC ?_ |refine AH ?_ |refine Ae Aa rfl ?_)
  have e:lo=i0:=by omega
  subst e;exact AZ rfl rfl (fun w' hw=>⟨rfl,hw.below Ar⟩)
structure WB (l:List (Int × Int)) (x:Int) (i:Nat):Prop where
 le:i <= l.length
 iff:∀ j (hj:j < l.length),x <= l[j].2 ↔ i <= j
theorem Q6 (b b2:Nat) (a:Option Addr) (n c j i0:Nat) (e1 e2:TypeId) (l:List (Int × Int)) (x:Int) (A:Nat->Prop) (w:World) (hx:Br Bg w A a n c l) (hb:w.heap[b]? =some (.cells ⟨[.slice a n c]⟩ e1 (0,0))) (hb2:w.heap[b2]? =some (.cells ⟨[.int .u64 x]⟩ e2 (0,0))) (hj:j < n) (ht:WB l x i0):
 Calls Tryz.prog 85 #[.int .i64 (j:Int),.pointer (some ⟨b,0,none⟩),.pointer (some ⟨b2,0,none⟩)] w fun e w'=>e= .returned (.bool (decide (i0 <= j)))/\Below w.heap.size w w':=by
 have hl:=hx.len
 have hj':j < l.length:=by omega
 have hbe:b=b2->False:=by
  rintro rfl;rw [hb] at hb2;cases hb2
 obtain ⟨ab,off,cs,rfl,hlt,_⟩:=hx.get_ hj';refine EP Tryz.func85 rfl rfl ((Hp.start false hb).more (x:=.blk b2 (.cells ⟨[.int .u64 x]⟩ e2 (0,0)) false) hb2 (fun e he h=>by rw [List.mem_singleton] at he;subst he;cases h)) ?_
 have hn:∀ e ∈ [HE.blk b2 (.cells ⟨[.int .u64 x]⟩ e2 (0,0)) false,HE.blk b (.cells ⟨[.slice (some ⟨ab,off,none⟩) n c]⟩ e1 (0,0)) false],e.ex=true->∀ k,e.has k->w.heap.size <= k:=fun e he h=>by
  simp only [List.mem_cons,List.not_mem_nil,or_false] at he
  rcases he with rfl |rfl<;>cases h
 repeat (first |refine A5 (by kernel_rfl) (by kernel_rfl) ?_ |refine Ah Aa rfl ?_ |refine AE Aa 1 rfl rfl rfl ?_ |refine Ai ?_ |refine Ab ?_ |refine Ag ?_ |refine Ae Aa rfl ?_)
 refine Bx (Bs (sz:=2) Aa rfl rfl rfl rfl rfl rfl rfl rfl (j:=j) hj) ?_;repeat (first |refine Ah Aa rfl ?_)
 refine Av Aa (v:=.int .u64 l[j].2) rfl rfl (fun w' hw=>LI (hx.ext (hw.below hn)) hj') ?_;repeat (first |refine AN rfl ?_ |refine Ah Aa rfl ?_ |refine AE Aa 0 rfl rfl rfl ?_ |refine AC ?_)
 exact AZ rfl rfl (fun w' hw=>⟨I8 (Rc (ht.iff j hj')),hw.below hn⟩)
theorem OD (a:Option Addr) (n c i0:Nat) (l:List (Int × Int)) (x:Int) (A:Nat->Prop) (w:World) (hx:Br Bg w A a n c l) (hn:n <= 1000000) (ht:WB l x i0):
 Calls Tryz.prog 64 #[Bz a n c,.int .u64 x] w fun e w'=>e= .returned (.int .i64 (i0:Int))/\Below w.heap.size w w':=by
 have hl:=hx.len;refine BO Tryz.func64 rfl rfl (Hp.refl w) ?_;repeat (first |refine Ai ?_ |refine Ab ?_)
 refine AY Aa rfl (fun b hb=>?_);refine AY Aa rfl (fun b2 hb2=>?_);repeat (first |refine Ai ?_ |refine Ab ?_ |refine Ag ?_ |refine Ae Aa rfl ?_ |refine An Aa 1 rfl rfl rfl ?_)
 refine BE (L9 rfl rfl) ?_;refine Be (v:=.int .i64 (i0:Int)) rfl Tryz.call84 (fun w1 h1=>Pk n i0 _ _ (by omega) (by have:=ht.le;omega) w1 Tryz.call85 (fun w2 j h2 hj=>?_)) ?_
 ·have g1:=h1.ext h2;exact Q6 b b2 a n c j i0 _ _ l x A w2 (hx.ext (g1.below (AA hb2 (AA hb Ar)))) (g1.own _ (Af (i:=1) rfl)) (g1.own _ (Af (i:=0) rfl)) hj ht
 repeat (first |refine Ag ?_ |refine AC ?_ |refine Ae Aa rfl ?_)
 exact AZ rfl rfl (fun w' hw=>⟨rfl,hw.below (AA hb2 (AA hb Ar))⟩)
theorem Th (m:Nat) (hm:m <= 1000000) (w:World):
 Calls Tryz.prog 86 #[.slice none 0 0,.int .i64 (m:Int)] w fun e w'=>∃ a c,e= .returned (.slice a 0 c)/\Below w.heap.size w w'/\w'.ownsRow w.heap.size 82 2 (.slice a 0 c) 0 []:=by
 refine BO Tryz.func86 rfl rfl (Hp.refl w) ?_;repeat (first |refine Ai ?_ |refine Ab ?_ |refine Ag ?_ |refine Ad ?_ |refine Ao ?_ |refine AG rfl ?_ |refine AD Aa rfl (by omega) ?_ |refine Ae Aa rfl ?_)
 refine Ak rfl (fun h=>?_) (fun h=>?_)
 ·repeat (first |refine Ab ?_ |refine Ae Aa rfl ?_)
  refine BE (EH Aa rfl rfl rfl rfl rfl rfl (H:=0) rfl (Nat.le_refl _)) ?_;repeat (first |refine Ae Aa rfl ?_)
  refine WL (m:=m) (sz:=2) Aa rfl rfl rfl (by omega) (by omega) rfl rfl rfl rfl rfl rfl (by decide) rfl (by simp only [maxLen];omega) (by show _ * 16 <= _;omega) (fun b c cs hb h1 h2 h3=>?_);repeat (first |refine Ae Aa rfl ?_)
  refine BE (EH Aa rfl rfl rfl rfl rfl rfl (H:=0) rfl (Nat.zero_le _)) ?_;repeat (first |refine Ai ?_ |refine Ab ?_ |refine Ag ?_ |refine AC ?_ |refine Ae Aa rfl ?_)
  refine AZ rfl rfl (fun w' hw=>⟨some ⟨b,0,none⟩,c,rfl,hw.below (AA hb Ar),?_⟩);have g:=Hp.closeRow (pre:=[]) (n:=0) (sz:=2) hw hb (Nat.zero_le _) h2 h3;exact g.own _ (Af (i:=0) rfl)
 ·repeat (first |refine Ai ?_ |refine Ab ?_ |refine Ag ?_ |refine Ad ?_ |refine Ao ?_ |refine AC ?_ |refine Ae Aa rfl ?_)
  exact AZ rfl rfl (fun w' hw=>⟨none,0,rfl,hw.below Ar,World.ownsRow_nil w' _ _ _⟩)
structure Rq where
 a:Option Addr
 n:Nat
 c:Nat
 l:List (Int × Int)
def Rq.v (p:Rq):Value:=.slice p.a p.n p.c
def EW (ps:List Rq):List (Int × Int):=(ps.map (·.l)).flatten
theorem Lh (ps:List Rq) (k:Nat) (h:k < ps.length):EW (ps.take (k + 1))=EW (ps.take k) ++ ps[k].l:=by
 unfold EW;rw [List.take_succ_eq_append_getElem h,List.map_append,List.flatten_append];simp
theorem Ia (ps:List Rq) (k:Nat):(EW (ps.take k)).length <= (EW ps).length:=by
 have:EW ps=EW (ps.take k) ++ EW (ps.drop k):=by
  unfold EW;rw [<-List.flatten_append,<-List.map_append,List.take_append_drop]
 rw [this,List.length_append];omega
theorem PI (h:Option Addr) (m mc:Nat) (ps:List Rq) (A:Nat->Prop) (w:World) (hm:m <= 1000000) (hh:Sl w 1 h m (ps.map Rq.v)) (hp:∀ p ∈ ps,Br Bg w A p.a p.n p.c p.l) (hlen:(EW ps).length <= 1000000):
 Calls Tryz.prog 65 #[.slice h m mc] w fun e w'=>∃ a c,e= .returned (.slice a (EW ps).length c)/\Below w.heap.size w w'/\w'.ownsRow w.heap.size 82 2 (.slice a (EW ps).length c) (EW ps).length (Bq (EW ps)):=by
 have hpl:ps.length=m:=by have:=hh.len;simpa using this
 refine BZ Tryz.func65 rfl rfl (Hp.refl w) ?_;repeat (first |refine Ai ?_ |refine Ab ?_ |refine Ag ?_ |refine Ae Aa rfl ?_)
 refine BN (ι:=Unit) (fun _=>True) (fun _=>[(0,.slice h m mc),(3,.int .i64 (((EW ps).length:Nat):Int))]) (fun _=>[]) ?_ ?_
 ·repeat (first |refine Aq ?_)
  refine AM (ι:=Nat) (fun i=>[(0,.slice h m mc),(9,.slice h m mc),(10,.int .i64 (m:Int)),(3,.int .i64 (((EW (ps.take i)).length:Nat):Int)),(11,.int .i64 (i:Int))])
   (fun i=>[]) (fun i=>i <= m) (fun i=>m - i) 0 (Nat.zero_le _) (by repeat (first |exact As.nil |refine As.cons rfl ?_)) (fun _ hw=>hw) ?_
  intro k hk
  try dsimp only at hk ⊢
  repeat (first |refine Ai ?_ |refine Ab ?_ |refine Ag ?_ |refine Ae Aa rfl ?_)
  refine Ak rfl (fun h=>?_) (fun h=>?_)
  ·repeat (first |refine Ai ?_ |refine Ab ?_ |refine Aq ?_ |refine Ad ?_ |refine Ao ?_)
   have hk':k < ps.length:=by omega
   obtain ⟨b,off,rfl,hlt,hc⟩:=hh.get (by omega);refine BE (Ay Aa rfl rfl rfl rfl rfl rfl rfl rfl (j:=k) (by omega)) ?_;refine Bh Aa rfl rfl (v:=ps[k].v) (fun w' hw=>Sl.at_ (hh.ext (hw.below Ar)) (by omega) (by simp [hk'])) ?_;have hpk:=hp ps[k] (List.getElem_mem hk');have e1:=Lh ps k hk';have hle:=Ia ps (k + 1);rw [e1,List.length_append,hpk.len] at hle;unfold Rq.v;repeat (first |refine Ai ?_ |refine Ab ?_ |refine Ag ?_ |refine Ad ?_ |refine Am ?_ |refine Ao ?_ |refine AG rfl ?_ |refine AD Aa rfl (by omega) ?_ |refine Ae Aa rfl ?_)
   refine ⟨k + 1,by omega,?_,fun _ h=>h,by omega⟩;simp only [e1,List.length_append,hpk.len];repeat (first |exact As.nil |refine As.cons rfl ?_)
  ·have e:k=m:=by omega
   subst e;repeat (first |refine Ad ?_ |refine AB ?_ |refine Al ?_ |refine AH ?_)
   rw [List.take_of_length_le (by omega)];exact ⟨(),trivial,by repeat (first |exact As.nil |refine As.cons rfl ?_),fun _ h=>h⟩
 rintro ⟨⟩ -;repeat (first |refine Ai ?_ |refine Ab ?_ |refine Ae Aa rfl ?_)
 refine Eb rfl Tryz.call86 (fun w1 h1=>Th _ hlen w1) (fun a0 c0 hc0 hd0=>?_);repeat (first |refine Ai ?_ |refine Ab ?_ |refine Aq ?_ |refine Ag ?_ |refine Ae Aa rfl ?_)
 refine AM (ι:=Nat × Option Addr × Nat) (fun i=>[(0,.slice h m mc),(25,.slice h m mc),(26,.int .i64 (m:Int)),(6,.slice i.2.1 (EW (ps.take i.1)).length i.2.2),(27,.int .i64 (i.1:Int))])
  (fun i=>[.row w.heap.size (.slice i.2.1 (EW (ps.take i.1)).length i.2.2) 82 2 (EW (ps.take i.1)).length (Bq (EW (ps.take i.1)))]) (fun i=>i.1 <= m) (fun i=>m - i.1) (0,a0,c0) (Nat.zero_le _) (by repeat (first |exact As.nil |refine As.cons rfl ?_)) (fun _ hw=>hw) ?_
 rintro ⟨k,a,c⟩ hk;dsimp only at hk ⊢;repeat (first |refine Ai ?_ |refine Ab ?_ |refine Ag ?_ |refine Ae Aa rfl ?_)
 refine Ak rfl (fun h=>?_) (fun h=>?_)
 ·repeat (first |refine Ai ?_ |refine Ab ?_ |refine Aq ?_ |refine Ad ?_ |refine Ao ?_)
  have hk':k < ps.length:=by omega
  obtain ⟨b,off,rfl,hlt,hc⟩:=hh.get (by omega);refine BE (Ay Aa rfl rfl rfl rfl rfl rfl rfl rfl (j:=k) (by omega)) ?_;refine Bh Aa rfl rfl (v:=ps[k].v) (fun w' hw=>Sl.at_ (hh.ext (hw.below (Bv hw 0 rfl (Nat.le_refl _) Ar))) (by omega) (by simp [hk'])) ?_;repeat (first |refine Ag ?_ |refine Ae Aa rfl ?_ |refine Ap ?_)
  have hpk:=hp ps[k] (List.getElem_mem hk');have e1:=Lh ps k hk';have hle:=Ia ps (k + 1);rw [e1,List.length_append,hpk.len] at hle;refine AT (ty:=0) Aa 0 rfl rfl rfl rfl rfl rfl rfl rfl rfl (by decide) (fun w' hw=>((hpk.ext (hw.below (Bv hw 0 rfl (Nat.le_refl _) Ar))).flat Cz).1) (De _) (by simp only [maxLen];omega) (by show (_ + _) * 16 <= _;omega) rfl (fun A' c' h1 h2=>⟨_,rfl,?_⟩);repeat (first |refine Ab ?_ |refine Ag ?_ |refine Ad ?_ |refine Am ?_ |refine AD Aa rfl (by omega) ?_ |refine Ae Aa rfl ?_)
  refine ⟨(k + 1,A',c'),by dsimp only;omega,?_,?_,by dsimp only;omega⟩
  ·simp only [e1,List.length_append,hpk.len];repeat (first |exact As.nil |refine As.cons rfl ?_)
  ·simp only [e1,List.length_append,hpk.len,CY];exact fun _ hw=>hw
 ·have e:k=m:=by omega
  subst e;repeat (first |refine Ai ?_ |refine Ab ?_ |refine Ag ?_ |refine Ad ?_ |refine AB ?_ |refine Al ?_ |refine AC ?_ |refine AH ?_ |refine Ae Aa rfl ?_)
  rw [List.take_of_length_le (by omega)];exact AZ rfl rfl (fun w' hw=>⟨a,c,rfl,hw.below (Bv hw 0 rfl (Nat.le_refl _) Ar),hw.own _ (Af (i:=0) rfl)⟩)
abbrev BS:=Int × Int
def Cs (l:List BS) (x:Int):Prop:=∃ r ∈ l,r.1 <= x/\x <= r.2
structure Eu (l:List BS):Prop where
 le:∀ r ∈ l,r.1 <= r.2
 gap:l.Pairwise (fun r s=>r.2 + 1 < s.1)
def KT (l:List BS):Prop:=∀ r ∈ l,UQ r
theorem CB (x:Int):¬ Cs [] x:=by rintro ⟨r,hr,_⟩;cases hr
theorem mem_cons (r:BS) (l:List BS) (x:Int):Cs (r::l) x ↔ (r.1 <= x/\x <= r.2) \/ Cs l x:=by
 constructor
 ·rintro ⟨s,hs,h⟩
  rcases List.mem_cons.1 hs with rfl |hs
  ·exact .inl h
  ·exact .inr ⟨s,hs,h⟩
 ·rintro (h |⟨s,hs,h⟩)
  ·exact ⟨r,by simp,h⟩
  ·exact ⟨s,List.mem_cons_of_mem _ hs,h⟩
theorem mem_append (l m:List BS) (x:Int):Cs (l ++ m) x ↔ Cs l x \/ Cs m x:=by
 induction l with
 |nil=>simp [CB]
 |cons r l ih=>rw [List.cons_append,mem_cons,mem_cons,ih,or_assoc]
theorem GM (r:BS) (x:Int):Cs [r] x ↔ r.1 <= x/\x <= r.2:=by
 rw [mem_cons];exact ⟨fun h=>h.resolve_right (CB x),.inl⟩
theorem DY:Eu []:=⟨fun r h=>(by cases h),List.Pairwise.nil⟩
theorem CJ {r:BS} {l:List BS}:Eu (r::l) ↔ r.1 <= r.2/\(∀ s ∈ l,r.2 + 1 < s.1)/\Eu l:=by
 constructor
 ·rintro ⟨h1,h2⟩;rw [List.pairwise_cons] at h2;exact ⟨h1 r (by simp),h2.1,fun s hs=>h1 s (List.mem_cons_of_mem _ hs),h2.2⟩
 ·rintro ⟨h1,h2,h3⟩;refine ⟨fun s hs=>?_,List.pairwise_cons.2 ⟨h2,h3.gap⟩⟩
  rcases List.mem_cons.1 hs with rfl |hs
  ·exact h1
  ·exact h3.le s hs
theorem D9 {l m:List BS}:Eu (l ++ m) ↔ Eu l/\Eu m/\∀ r ∈ l,∀ s ∈ m,r.2 + 1 < s.1:=by
 constructor
 ·rintro ⟨h1,h2⟩;rw [List.pairwise_append] at h2;exact ⟨⟨fun r hr=>h1 r (List.mem_append.2 (.inl hr)),h2.1⟩,⟨fun r hr=>h1 r (List.mem_append.2 (.inr hr)),h2.2.1⟩,h2.2.2⟩
 ·rintro ⟨h1,h2,h3⟩;refine ⟨fun r hr=>?_,List.pairwise_append.2 ⟨h1.gap,h2.gap,h3⟩⟩
  rcases List.mem_append.1 hr with hr |hr
  ·exact h1.le r hr
  ·exact h2.le r hr
theorem I3 {r:BS} {l:List BS} (h:Eu (r::l)) {x:Int} (hx:Cs (r::l) x):r.1 <= x:=by
 rw [mem_cons] at hx
 rcases hx with h1 |⟨s,hs,h1⟩
 ·exact h1.1
 ·have:=(CJ.1 h).2.1 s hs;have:=(CJ.1 h).1;omega
theorem OH:∀ {l m:List BS},Eu l->Eu m->(∀ x,Cs l x ↔ Cs m x)->l=m
 | [],[],_,_,_=>rfl
 | [],s::m,_,hm,h=>by
  have:=(h s.1).2 ⟨s,by simp,Int.le_refl _,(CJ.1 hm).1⟩;exact absurd this (CB _)
 |r::l,[],hl,_,h=>by
  have:=(h r.1).1 ⟨r,by simp,Int.le_refl _,(CJ.1 hl).1⟩;exact absurd this (CB _)
 |r::l,s::m,hl,hm,h=>by
  obtain ⟨l1,l2,l3⟩:=CJ.1 hl;obtain ⟨m1,m2,m3⟩:=CJ.1 hm;have a1:s.1 <= r.1:=I3 hm ((h r.1).1 ⟨r,by simp,Int.le_refl _,l1⟩);have a2:r.1 <= s.1:=I3 hl ((h s.1).2 ⟨s,by simp,Int.le_refl _,m1⟩)
  have b1:¬ r.2 < s.2:=fun hlt=>by
   have h1:Cs (r::l) (r.2 + 1):=(h _).2 ⟨s,by simp,by omega,by omega⟩;rw [mem_cons] at h1
   rcases h1 with h1 |⟨q,hq,h1⟩
   ·omega
   ·have:=l2 q hq;omega
  have b2:¬ s.2 < r.2:=fun hlt=>by
   have h1:Cs (s::m) (s.2 + 1):=(h _).1 ⟨r,by simp,by omega,by omega⟩;rw [mem_cons] at h1
   rcases h1 with h1 |⟨q,hq,h1⟩
   ·omega
   ·have:=m2 q hq;omega
  have e:r=s:=Prod.ext (by omega) (by omega);subst e
  have htail:∀ x,Cs l x ↔ Cs m x:=by
   intro x;have hx:=h x;rw [mem_cons,mem_cons] at hx;constructor
   ·intro h1
    rcases hx.1 (.inr h1) with h2 |h2
    ·obtain ⟨q,hq,h3⟩:=h1;have:=l2 q hq;omega
    ·exact h2
   ·intro h1
    rcases hx.2 (.inr h1) with h2 |h2
    ·obtain ⟨q,hq,h3⟩:=h1;have:=m2 q hq;omega
    ·exact h2
  rw [OH l3 m3 htail]
theorem Ho {l:List BS} (h:Eu l) {i j:Nat} (hij:i < j) (hj:j < l.length):(l[i]'(by omega)).2 + 1 < l[j].1:=
 List.pairwise_iff_getElem.1 h.gap i j (by omega) hj hij
theorem Gu {l:List BS} (h:Eu l) {i:Nat} (hi:i < l.length):l[i].1 <= l[i].2:=h.le _ (List.getElem_mem hi)
theorem LT {l:List BS} {x:Int}:Cs l x ↔ ∃ (i:Nat) (hi:i < l.length),l[i].1 <= x/\x <= l[i].2:=by
 constructor
 ·rintro ⟨r,hr,h⟩;obtain ⟨i,hi,rfl⟩:=List.getElem_of_mem hr;exact ⟨i,hi,h⟩
 ·rintro ⟨i,hi,h⟩;exact ⟨_,List.getElem_mem hi,h⟩
theorem Jy {l:List BS} (h:Eu l) (x:Int):∃ i,WB l x i:=by
 have key:∀ k,k <= l.length->(∃ i,WB l x i) \/ ∀ j (hj:j < l.length),j < k->l[j].2 < x:=by
  intro k
  induction k with
  |zero=>exact fun _=>.inr fun j hj hjk=>by omega
  |succ k ih=>
   intro hk
   rcases ih (by omega) with h1 |h1
   ·exact .inl h1
   ·by_cases h2:x <= (l[k]'(by omega)).2
    ·refine .inl ⟨k,by omega,fun j hj=>⟨fun h3=>?_,fun h3=>?_⟩⟩
     ·rcases Nat.lt_or_ge j k with h4 |h4
      ·have:=h1 j hj h4;omega
      ·exact h4
     ·rcases Nat.lt_or_ge k j with h4 |h4
      ·have:=Ho h h4 hj;have:=Gu h hj;omega
      ·have:j=k:=by omega
       subst this;exact h2
    ·refine .inr fun j hj hjk=>?_;by_cases h4:j=k
     ·subst h4;omega
     ·exact h1 j hj (by omega)
 rcases key l.length (Nat.le_refl _) with h1 |h1
 ·exact h1
 ·exact ⟨l.length,Nat.le_refl _,fun j hj=>⟨fun h2=>by have:=h1 j hj hj;omega,fun h2=>by omega⟩⟩
structure WV (l:List BS) (f t:Int) (i k:Nat) (a b:Int):Prop where
 ik:i <= k
 kn:k <= l.length
 af:a <= f
 tb:t <= b
 a':a=f \/ ∃ (j:Nat) (hj:j < l.length),i <= j/\a=l[j].1
 b':b=t \/ ∃ (j:Nat) (hj:j < l.length),i <= j/\b=l[j].2
 mem:∀ x,(a <= x/\x <= b) ↔ (f <= x/\x <= t) \/ ∃ (j:Nat) (hj:j < l.length),i <= j/\j < k/\l[j].1 <= x/\x <= l[j].2
theorem Pe {l:List BS} {f t:Int} {i:Nat} (hi:i <= l.length):WV l f t i i f t:=
 ⟨Nat.le_refl _,hi,Int.le_refl _,Int.le_refl _,.inl rfl,.inl rfl,fun x=>⟨.inl,fun h=>by
  rcases h with h |⟨j,hj,h1,h2,_⟩
  ·exact h
  ·omega⟩⟩
theorem Qc {l:List BS} {f t:Int} {i k:Nat} {a b:Int} (hc:Eu l) (hok:KT l) (h:WV l f t i k a b) (hft:f <= t) (hf:0 <= f) (ht:WB l (f - min f 1) i) (hk:k < l.length) (hle:l[k].1 - min l[k].1 1 <= b):WV l f t i (k + 1) (min a l[k].1) (max b l[k].2):=by
 have h1:=h.ik;have h2:=h.af;have h3:=h.tb;have h4:=(ht.iff k hk).2 h1;have h5:=Gu hc hk;have h6:=(BF (hok _ (List.getElem_mem hk)).1);refine ⟨by omega,by omega,by omega,by omega,?_,?_,fun x=>?_⟩
 ·rcases Int.le_total a l[k].1 with e |e
  ·rw [Int.min_eq_left e];exact h.a'
  ·rw [Int.min_eq_right e];exact .inr ⟨k,hk,h1,rfl⟩
 ·rcases Int.le_total b l[k].2 with e |e
  ·rw [Int.max_eq_right e];exact .inr ⟨k,hk,h1,rfl⟩
  ·rw [Int.max_eq_left e];exact h.b'
 ·have hm:=h.mem x;constructor
  ·intro hx;by_cases h7:a <= x/\x <= b
   ·rcases hm.1 h7 with h8 |⟨j,hj,g1,g2,g3⟩
    ·exact .inl h8
    ·exact .inr ⟨j,hj,g1,by omega,g3⟩
   ·exact .inr ⟨k,hk,h1,by omega,by omega,by omega⟩
  ·rintro (h8 |⟨j,hj,g1,g2,g3,g4⟩)
   ·have:=hm.2 (.inl h8);omega
   ·by_cases e:j=k
    ·subst e;omega
    ·have:=hm.2 (.inr ⟨j,hj,g1,by omega,g3,g4⟩);omega
theorem SC {l:List BS} {f t:Int} {i k:Nat} {a b:Int} (hc:Eu l) (hok:KT l) (h:WV l f t i k a b) (hft:f <= t) (hf:0 <= f) (ht:WB l (f - min f 1) i) (hend:∀ hk:k < l.length,b < l[k].1 - min l[k].1 1) (hf':AS .u64 f) (ht':AS .u64 t):
 Eu (l.take i ++ ([(a,b)] ++ l.drop k))/\KT (l.take i ++ ([(a,b)] ++ l.drop k))/\(∀ x,Cs (l.take i ++ ([(a,b)] ++ l.drop k)) x ↔ Cs l x \/ (f <= x/\x <= t))/\(l.take i ++ ([(a,b)] ++ l.drop k)).length <= l.length + 1:=by
 have h1:=h.ik;have h2:=h.af;have h3:=h.tb;have hkn:=h.kn
 have hleft:∀ (j:Nat) (hj:j < l.length),j < i->l[j].2 + 1 < a:=by
  intro j hj hji
  have h5:¬ (f - min f 1 <= l[j].2):=fun hh=>by have:=(ht.iff j hj).1 hh;omega
  have h6:=(BF (hok _ (List.getElem_mem hj)).2)
  rcases h.a' with e |⟨j',hj',g1,e⟩
  ·omega
  ·have:=Ho hc (show j < j' by omega) hj';omega
 have hright:∀ (j:Nat) (hj:j < l.length),k <= j->b + 1 < l[j].1:=by
  intro j hj hkj;have h5:=hend (by omega);have h6:=(BF (hok _ (List.getElem_mem (show k < l.length by omega))).1);by_cases e:j=k
  ·subst e;omega
  ·have:=Ho hc (show k < j by omega) hj;have:=Gu hc (show k < l.length by omega);omega
 have hct:Eu (l.take i):=⟨fun r hr=>hc.le r (List.mem_of_mem_take hr),hc.gap.sublist (List.take_sublist _ _)⟩;have hcd:Eu (l.drop k):=⟨fun r hr=>hc.le r (List.mem_of_mem_drop hr),hc.gap.sublist (List.drop_sublist _ _)⟩;refine ⟨D9.2 ⟨hct,D9.2 ⟨CJ.2 ⟨by show a <= b;omega,fun s hs=>(by cases hs),DY⟩,hcd,fun r hr s hs=>?_⟩,fun r hr s hs=>?_⟩,fun r hr=>?_,fun x=>?_,?_⟩
 ·rw [List.mem_singleton] at hr;subst hr;obtain ⟨j,hj,rfl⟩:=List.getElem_of_mem hs;rw [List.getElem_drop];rw [List.length_drop] at hj;exact hright (k + j) (by omega) (by omega)
 ·obtain ⟨j,hj,rfl⟩:=List.getElem_of_mem hr;rw [List.getElem_take];rw [List.length_take] at hj
  rcases List.mem_append.1 hs with hs |hs
  ·rw [List.mem_singleton] at hs;subst hs;exact hleft j (by omega) (by omega)
  ·obtain ⟨j',hj',rfl⟩:=List.getElem_of_mem hs;rw [List.getElem_drop];rw [List.length_drop] at hj';exact Ho hc (by omega) (by omega)
 ·rcases List.mem_append.1 hr with hr |hr
  ·exact hok r (List.mem_of_mem_take hr)
  ·rcases List.mem_append.1 hr with hr |hr
   ·rw [List.mem_singleton] at hr;subst hr;refine ⟨?_,?_⟩
    ·show AS .u64 a
     rcases h.a' with e |⟨j,hj,_,e⟩
     ·rw [e];exact hf'
     ·rw [e];exact (hok _ (List.getElem_mem hj)).1
    ·show AS .u64 b
     rcases h.b' with e |⟨j,hj,_,e⟩
     ·rw [e];exact ht'
     ·rw [e];exact (hok _ (List.getElem_mem hj)).2
   ·exact hok r (List.mem_of_mem_drop hr)
 ·rw [mem_append,mem_append,GM];have hm:=h.mem x;constructor
  ·rintro (⟨r,hr,g⟩ |g |⟨r,hr,g⟩)
   ·exact .inl ⟨r,List.mem_of_mem_take hr,g⟩
   ·rcases hm.1 g with g1 |⟨j,hj,_,_,g1⟩
    ·exact .inr g1
    ·exact .inl ⟨_,List.getElem_mem hj,g1⟩
   ·exact .inl ⟨r,List.mem_of_mem_drop hr,g⟩
  ·rintro (g |g)
   ·obtain ⟨j,hj,g1⟩:=LT.1 g
    rcases Nat.lt_or_ge j i with g2 |g2
    ·exact .inl (LT.2 ⟨j,by rw [List.length_take];omega,by rw [List.getElem_take];exact g1⟩)
    ·rcases Nat.lt_or_ge j k with g3 |g3
     ·exact .inr (.inl (hm.2 (.inr ⟨j,hj,g2,g3,g1⟩)))
     ·refine .inr (.inr (LT.2 ⟨j - k,by rw [List.length_drop];omega,?_⟩));rw [List.getElem_drop]
      have e:k + (j - k)=j:=by omega
      simp only [e];exact g1
   ·exact .inr (.inl (hm.2 (.inl g)))
 ·simp only [List.length_append,List.length_take,List.length_drop,List.length_cons,List.length_nil];omega
theorem Dl {w:World} {A:Nat->Prop} {a:Option Addr} {n c:Nat} {l:List BS} (h:Br Bg w A a n c l):KT l:=(h.flat Cz).2
theorem HF {w:World} {A:Nat->Prop} {a:Option Addr} {n c:Nat} {l:List BS} (h:Br Bg w A a n c l):G6.val w A (Bz a n c) l:=⟨_,rfl,a,n,c,rfl,h⟩
theorem HG {w:World} {A:Nat->Prop} {v:Value} {l:List BS} (h:G6.val w A v l):∃ a n c,v=Bz a n c/\Br Bg w A a n c l:=by
 obtain ⟨cs,rfl,a,n,c,rfl,h⟩:=h;exact ⟨a,n,c,rfl,h⟩
theorem U8 {w:World} {A:Nat->Prop} {a:Option Addr} {n c:Nat} {l:List BS} (h:G6.val w A (Bz a n c) l):Br Bg w A a n c l:=by
 obtain ⟨a',n',c',e,h⟩:=HG h;cases e;exact h
structure Ky (l:List BS) (f t:Int) (m:List BS):Prop where
 can:Eu m
 mem:∀ x,Cs m x ↔ Cs l x \/ (f <= x/\x <= t)
 len:m.length <= l.length + 1
theorem Oi (a:Option Addr) (n c:Nat) (l:List BS) (f t:Int) (A:Nat->Prop) (w:World) (hA:∀ k,w.heap.size <= k->A k) (hx:Br Bg w A a n c l) (hc:Eu l) (hn:n <= 900000) (hf:AS .u64 f) (ht:AS .u64 t):
 Calls Tryz.prog 35 #[Bz a n c,.int .u64 f,.int .u64 t] w fun e w'=>∃ v m,e= .returned v/\Below w.heap.size w w'/\Ky l f t m/\G6.val w' A v m:=by
 have hl:=hx.len;have hcap:=hx.cap;have hmx:=hx.max;have hok:=Dl hx;have hf':=BF hf;have ht':=BF ht;simp only [maxLen] at hmx;refine EP Tryz.func35 rfl rfl (Hp.refl w) ?_;repeat (first |refine Ai ?_ |refine Ab ?_)
 refine AY Aa rfl (fun b hb=>?_);refine AY Aa rfl (fun b6 hb6=>?_);repeat (first |refine Ai ?_ |refine Ab ?_ |refine Ag ?_ |refine Ae Aa rfl ?_)
 refine Ak rfl (fun h=>?_) (fun h=>?_)
 ·repeat (first |refine Ai ?_ |refine Ab ?_ |refine Ag ?_ |refine AI ?_ |refine AC ?_ |refine An Aa 1 rfl rfl rfl ?_ |refine Ax Aa 0 rfl rfl rfl rfl rfl rfl ?_)
  exact AZ rfl (CD Aa 0 rfl rfl rfl rfl) (fun w' hw=>⟨_,l,rfl,hw.below (AA hb6 (AA hb Ar)),⟨hc,fun x=>⟨.inl,fun h1=>h1.resolve_right (by omega)⟩,by omega⟩,HF (hx.ext (hw.below (AA hb6 (AA hb Ar))))⟩)
 have hft:f <= t:=by omega
 obtain ⟨i,hi⟩:=Jy hc (f - min f 1);have hil:=hi.le;repeat (first |refine Ai ?_ |refine Ab ?_ |refine Ad ?_ |refine Ao ?_ |refine D2 Aa rfl (by omega) ?_ |refine Ae Aa rfl ?_ |refine An Aa 1 rfl rfl rfl ?_)
 refine Be (v:=.int .i64 (i:Int)) rfl Tryz.call64 (fun w1 h1=>OD a n c i l _ A w1 (hx.ext (h1.below (AA hb6 (AA hb Ar)))) (by omega) hi) ?_;repeat (first |refine Ai ?_ |refine Ab ?_ |refine Ag ?_ |refine Ae Aa rfl ?_)
 refine BN (ι:=Nat × Int × Int) (fun i'=>WV l f t i i'.1 i'.2.1 i'.2.2/\∀ hk:i'.1 < l.length,i'.2.2 < l[i'.1].1 - min l[i'.1].1 1) (fun i'=>[(1,.int .u64 i'.2.1),(2,.int .u64 i'.2.2),(3,.pointer (some ⟨b,0,none⟩)),(6,.pointer (some ⟨b6,0,none⟩)),(7,.int .i64 (i:Int)),(8,.int .i64 (i'.1:Int))]) (fun _=>[.blk b6 (.cells ⟨[.slice none 0 0]⟩ 52 (0,0)) true,.blk b (.cells ⟨[.slice a n c]⟩ 52 (0,0)) true]) ?_ ?_
 ·repeat (first |refine Aq ?_)
  refine AM (ι:=Nat × Int × Int) (fun i'=>[(1,.int .u64 i'.2.1),(2,.int .u64 i'.2.2),(3,.pointer (some ⟨b,0,none⟩)),(6,.pointer (some ⟨b6,0,none⟩)),(7,.int .i64 (i:Int)),(8,.int .i64 (i'.1:Int))])
   (fun _=>[.blk b6 (.cells ⟨[.slice none 0 0]⟩ 52 (0,0)) true,.blk b (.cells ⟨[.slice a n c]⟩ 52 (0,0)) true]) (fun i'=>WV l f t i i'.1 i'.2.1 i'.2.2) (fun i'=>n - i'.1) (i,f,t) (Pe hil) (by repeat (first |exact As.nil |refine As.cons rfl ?_)) (fun _ hw=>hw) ?_
  rintro ⟨k,fr,to⟩ hI;dsimp only at hI ⊢;have hkn:=hI.kn;have haf:=hI.af;have htb:=hI.tb;repeat (first |refine A5 (by kernel_rfl) (by kernel_rfl) ?_ |refine Ah Aa rfl ?_ |refine AE Aa 1 rfl rfl rfl ?_ |refine Ai ?_)
  refine Fh rfl rfl (fun h1=>?_) (fun h1=>?_)
  ·have hk:k < l.length:=by omega
   have hokk:=hok _ (List.getElem_mem hk);have hu1:=BF hokk.1;have hu2:=BF hokk.2;obtain ⟨ab,off,cs,rfl,hlt,_⟩:=hx.get_ hk;repeat (first |refine Ah Aa rfl ?_ |refine AE Aa 1 rfl rfl rfl ?_)
   refine Bx (Bs (sz:=2) Aa rfl rfl rfl rfl rfl rfl rfl rfl (j:=k) (by omega)) ?_;repeat (first |refine Ah Aa rfl ?_)
   refine Av Aa (v:=.int .u64 l[k].1) rfl rfl (fun w' hw=>EK (hx.ext (hw.below (AA hb6 (AA hb Ar)))) hk) ?_;repeat (first |refine Ah Aa rfl ?_ |refine AE Aa 1 rfl rfl rfl ?_)
   refine Bx (Bs (sz:=2) Aa rfl rfl rfl rfl rfl rfl rfl rfl (j:=k) (by omega)) ?_;repeat (first |refine Ah Aa rfl ?_)
   refine Av Aa (v:=.int .u64 l[k].1) rfl rfl (fun w' hw=>EK (hx.ext (hw.below (AA hb6 (AA hb Ar)))) hk) ?_;repeat (first |refine AN rfl ?_ |refine O6 Aa rfl (by omega) ?_ |refine Ah Aa rfl ?_)
   refine Ak rfl (fun h2=>?_) (fun h2=>?_)
   ·repeat (first |refine A5 (by kernel_rfl) (by kernel_rfl) ?_ |refine Ah Aa rfl ?_ |refine AE Aa 1 rfl rfl rfl ?_ |refine Ai ?_ |refine Aq ?_ |refine Ad ?_ |refine Ao ?_)
    refine Bx (Bs (sz:=2) Aa rfl rfl rfl rfl rfl rfl rfl rfl (j:=k) (by omega)) ?_;repeat (first |refine Ah Aa rfl ?_)
    refine Av Aa (v:=.int .u64 l[k].1) rfl rfl (fun w' hw=>EK (hx.ext (hw.below (AA hb6 (AA hb Ar)))) hk) ?_;repeat (first |refine Ah Aa rfl ?_ |refine AE Aa 1 rfl rfl rfl ?_)
    refine Bx (Bs (sz:=2) Aa rfl rfl rfl rfl rfl rfl rfl rfl (j:=k) (by omega)) ?_;repeat (first |refine Ah Aa rfl ?_)
    refine Av Aa (v:=.int .u64 l[k].2) rfl rfl (fun w' hw=>LI (hx.ext (hw.below (AA hb6 (AA hb Ar)))) hk) ?_;repeat (first |refine AN rfl ?_ |refine Ah Aa rfl ?_ |refine Ag ?_ |refine Ad ?_ |refine Am ?_ |refine AD Aa rfl (by omega) ?_ |refine Ae Aa rfl ?_ |refine Ap ?_)
    exact ⟨(k + 1,min fr l[k].1,max to l[k].2),Qc hc hok hI hft hf'.1 hi hk (by omega),by repeat (first |exact As.nil |refine As.cons rfl ?_),fun _ h=>h,by dsimp only;omega⟩
   ·repeat (first |refine Ad ?_ |refine AB ?_ |refine Al ?_ |refine AH ?_)
    exact ⟨(k,fr,to),⟨hI,fun hk=>by dsimp only at hk ⊢;omega⟩,by repeat (first |exact As.nil |refine As.cons rfl ?_),fun _ h=>h⟩
  ·repeat (first |refine AN rfl ?_ |refine Ah Aa rfl ?_ |refine BP rfl rfl rfl ?_ |refine Ad ?_ |refine AB ?_ |refine Al ?_ |refine AH ?_ |refine AG rfl ?_)
   exact ⟨(k,fr,to),⟨hI,fun hk=>absurd hk (by dsimp only;omega)⟩,by repeat (first |exact As.nil |refine As.cons rfl ?_),fun _ h=>h⟩
 rintro ⟨k,fr,to⟩ ⟨hI,hend⟩;dsimp only at hI hend ⊢;obtain ⟨e1,e2,e3,e4⟩:=SC hc hok hI hft hf'.1 hi hend hf ht;have hkn:=hI.kn;have hik:=hI.ik;repeat (first |refine Ai ?_)
 refine Cd (by kernel_rfl) 12 rfl (by kernel_rfl) ?_;repeat (first |refine Ah Aa rfl ?_ |refine AE Aa 1 rfl rfl rfl ?_)
 refine Bx (EH Aa rfl rfl rfl rfl rfl rfl (H:=i) rfl (by omega)) ?_;repeat (first |refine Ah Aa rfl ?_ |refine Bx (Bf Aa rfl rfl rfl rfl rfl rfl rfl) ?_)
 refine Lx Aa rfl rfl rfl rfl rfl rfl rfl rfl rfl rfl rfl rfl ?_;repeat (first |refine Ah Aa rfl ?_ |refine AE Aa 1 rfl rfl rfl ?_)
 refine Bx (GA (sz:=2) Aa rfl rfl rfl rfl rfl rfl rfl (L:=k) rfl (by omega) (by omega)) ?_;refine WO 68 rfl (by repeat (first |exact MP)) (fun b2 hb2=>?_);refine KE rfl ?_;refine AO Aa rfl rfl rfl rfl rfl rfl rfl rfl rfl rfl rfl rfl (fun b3 hb3=>?_);obtain ⟨ps,hps⟩:∃ ps:List Rq,ps= [⟨a,i,c,l.take i⟩,⟨some ⟨b2,0,none⟩,1,1,[(fr,to)]⟩,⟨if c=k then a else a.map (·.add (k * 2)),n - k,c - k,l.drop k⟩]:=⟨_,rfl⟩
 have ecat:EW ps=l.take i ++ ([(fr,to)] ++ l.drop k):=by
  rw [hps];simp only [EW,List.map_cons,List.map_nil,List.flatten_cons,List.flatten_nil,List.append_nil]
 refine Eb rfl Tryz.call65 (fun w1 h1=>PI (some ⟨b3,0,none⟩) 3 3 ps TT w1 (by decide) (Sl.of_blk (h1.own _ (Af (i:=0) rfl)) (by rw [hps];rfl) (fun j u hu=>by rw [Nat.zero_add,<-hu,hps];rfl)) (fun p hp=>?_) (by rw [ecat];omega)) (fun a1 c1 hc1 hd1=>?_)
 ·have hx1:=hx.ext (h1.below (AA hb3 (AA hb2 (AA hb6 (AA hb Ar)))));rw [hps] at hp;simp only [List.mem_cons,List.not_mem_nil,or_false] at hp
  rcases hp with rfl |rfl |rfl
  ·exact (hx1.take (show i <= n by omega)).tt
  ·exact .of_flat Cz rfl (Nat.le_refl _) (show 1 <= maxLen by decide) (fun h=>by cases h) (Sl.of_blk (xs:=C6 (fr,to)) (h1.own _ (Af (i:=1) rfl)) rfl (fun j u hu=>by rw [Nat.zero_add];exact hu)) (fun p hp=>e2 p (by rw [List.mem_singleton] at hp;subst hp;simp)) (fun _=>⟨_,_,rfl,trivial⟩)
  ·exact (hx1.drop (show k <= n by omega)).tt
 rw [ecat];repeat (first |refine Ag ?_ |refine AC ?_ |refine Ax Aa 3 rfl rfl rfl rfl rfl rfl ?_ |refine BE (Bf Aa rfl rfl rfl rfl rfl rfl rfl) ?_)
 refine AZ rfl (CD Aa 3 rfl rfl rfl rfl) (fun w' hw=>⟨_,_,rfl,hw.below ?_,⟨e1,e3,e4⟩,HF (LH (hw.own _ (Af (i:=0) rfl)) e2 hA)⟩);exact Bv hw 0 rfl (Nat.le_refl _) (AA hb3 (AA hb2 (AA hb6 (AA hb Ar))))
theorem RS (a:Option Addr) (n c:Nat) (l:List BS) (f:Int) (A:Nat->Prop) (w:World) (hA:∀ k,w.heap.size <= k->A k) (hx:Br Bg w A a n c l) (hc:Eu l) (hn:n <= 900000) (hf:AS .u64 f):
 Calls Tryz.prog 47 #[Bz a n c,.int .u64 f] w fun e w'=>∃ v m,e= .returned v/\Below w.heap.size w w'/\Ky l f f m/\G6.val w' A v m:=by
 refine BO Tryz.func47 rfl rfl (Hp.refl w) ?_;repeat (first |refine Ai ?_ |refine Ab ?_)
 refine AY Aa rfl (fun b hb=>?_);refine AY Aa rfl (fun b4 hb4=>?_);repeat (first |refine Ai ?_ |refine Ab ?_ |refine Ag ?_ |refine Ae Aa rfl ?_ |refine An Aa 1 rfl rfl rfl ?_)
 refine OY (Ky l f f) (fun m=>G6.vp m) A rfl Tryz.call35 (fun w1 h1=>(Oi a n c l f f (BB w A _) w1 (fun k hk=>ET h1 hk) (hx.old h1 (by repeat (first |exact Ar |refine AA (by first |assumption |omega) ?_))) hc hn hf hf).mono fun e w' ⟨v,m,e1,e2,e3,e4⟩=>⟨v,m,e1,e2,e3,e4⟩) (fun m v F w1 hm hF hv=>?_);obtain ⟨a1,n1,c1,rfl,hv1⟩:=HG hv;repeat (first |refine Ag ?_ |refine AC ?_ |refine Ax Aa 1 rfl rfl rfl rfl rfl rfl ?_)
 refine AZ rfl (CD Aa 1 rfl rfl rfl rfl) (fun w' hw=>⟨_,m,rfl,hw.below (by repeat (first |exact Ar |refine BW ?_ |refine AA (by first |assumption |omega) ?_)),hm,?_⟩);exact Vp.mono (G6.vp m) (Vp.fact0 hw 0 rfl) fun k hk=>(hF k hk).elim id fun h=>hA k h
theorem CX {l:List BS} {k:Nat} (hk:k < l.length) (x:Int):Cs (l.take (k + 1)) x ↔ Cs (l.take k) x \/ (l[k].1 <= x/\x <= l[k].2):=by
 rw [List.take_succ_eq_append_getElem hk,mem_append,GM]
structure XS (l:List Int) (m:List BS):Prop where
 can:Eu m
 mem:∀ x,Cs m x ↔ x ∈ l
 len:m.length <= l.length
theorem Qw {l:List Int} {m m':List BS} {k:Nat} (hk:k < l.length) (h:XS (l.take k) m) (h':Ky m l[k] l[k] m'):XS (l.take (k + 1)) m':=
 ⟨h'.can,fun x=>by
  rw [h'.mem,h.mem,List.take_succ_eq_append_getElem hk,List.mem_append,List.mem_singleton]
  exact ⟨fun h=>h.imp id fun h=>by omega,fun h=>h.imp id fun h=>by omega⟩,by
  have:=h.len;have:=h'.len;rw [List.length_take] at *
  omega⟩
theorem WZ (a:Option Addr) (n c:Nat) (l:List Int) (A:Nat->Prop) (w:World) (hx:Br (A8 .u64) w A a n c l) (hn:n <= 800000):
 Calls Tryz.prog 43 #[.slice a n c] w fun e w'=>∃ v m,e= .returned v/\Below w.heap.size w w'/\XS l m/\G6.val w' (fun k=>w.heap.size <= k) v m:=by
 have hl:=hx.len;have hok:=hx.ints.fits;have hxi:=hx.ints.sl;refine BZ Tryz.func43 rfl rfl (Hp.refl w) ?_;repeat (first |refine Ai ?_ |refine Ab ?_)
 refine AY Aa rfl (fun b hb=>?_);repeat (first |refine Ai ?_ |refine Ab ?_ |refine Ag ?_)
 refine AY Aa rfl (fun b3 hb3=>?_);repeat (first |refine Ai ?_ |refine Ab ?_ |refine Aq ?_ |refine Ag ?_ |refine Ae Aa rfl ?_)
 refine AM (ι:=Nat × List BS × Option Addr × Nat × Nat × (Nat->Prop)) (fun i=>[(0,.slice a n c),(2,.pointer (some ⟨b,0,none⟩)),(3,.pointer (some ⟨b3,0,none⟩)),(6,.slice a n c),(7,.int .i64 (n:Int)),(8,.int .i64 (i.1:Int))])
  (fun i=>[.rep (fun w=>(G6.vp i.2.1).at_ w i.2.2.2.2.2 (Bz i.2.2.1 i.2.2.2.1 i.2.2.2.2.1)) i.2.2.2.2.2 false,.blk b3 (.cells ⟨[.slice i.2.2.1 i.2.2.2.1 i.2.2.2.2.1]⟩ 52 (0,0)) true,.blk b (.cells ⟨[.slice none 0 0]⟩ 52 (0,0)) true])
  (fun i=>i.1 <= n/\XS (l.take i.1) i.2.1/\∀ k,i.2.2.2.2.2 k->w.heap.size <= k) (fun i=>n - i.1) (0,[],none,0,0,fun _=>False) ⟨Nat.zero_le _,⟨DY,fun x=>⟨fun h=>absurd h (CB x),fun h=>by cases h⟩,Nat.zero_le _⟩,fun k hk=>hk.elim⟩ (by repeat (first |exact As.nil |refine As.cons rfl ?_)) (fun w' hw=>hw.addN (G6.vp []) fun w1=>HF Br.nil_) ?_
 rintro ⟨k,m,a1,n1,c1,F1⟩ ⟨hk,hm,hF1⟩;dsimp only at hk hm hF1 ⊢;repeat (first |refine Ai ?_ |refine Ab ?_ |refine Ag ?_ |refine Ae Aa rfl ?_)
 refine Ak rfl (fun h=>?_) (fun h=>?_)
 ·have hk':k < l.length:=by omega
  obtain ⟨ab,off,cs,rfl,hlt,_⟩:=hx.get_ hk';repeat (first |refine Ai ?_ |refine Ab ?_ |refine Aq ?_ |refine Ad ?_ |refine Ao ?_)
  refine BE (Ay Aa rfl rfl rfl rfl rfl rfl rfl rfl (j:=k) (by omega)) ?_;refine Bh Aa (v:=.int .u64 l[k]) rfl rfl (fun w' hw=>(hxi.ext (hw.below (by repeat (first |exact Ar |refine BW ?_ |refine AA (by first |assumption |omega) ?_)))).at_ (by omega) (by rw [List.getElem?_map,List.getElem?_eq_getElem hk'];rfl)) ?_;repeat (first |refine Ag ?_ |refine Ae Aa rfl ?_ |refine Ap ?_ |refine An Aa 1 rfl rfl rfl ?_)
  have hlen:=hm.len;rw [List.length_take] at hlen;refine OY (Ky m l[k] l[k]) (fun m=>G6.vp m) (fun k=>w.heap.size <= k) rfl Tryz.call47 (fun w1 h1=>?_) (fun m2 v F w1 hm2 hF hv=>?_)
  ·have hv1:=U8 (Vp.fact (p:=G6.vp m) (A:=fun k=>w.heap.size <= k) h1 0 rfl fun k hk=>.inl (hF1 k hk));have hln:=hv1.len;exact RS a1 n1 c1 m _ _ w1 (fun k hk=>ET h1 hk) hv1 hm.can (by omega) (hok _ (List.getElem_mem hk'))
  obtain ⟨a2,n2,c2,rfl,hv2⟩:=HG hv;repeat (first |refine Ab ?_ |refine Ag ?_ |refine Ad ?_ |refine Am ?_ |refine AD Aa rfl (by omega) ?_ |refine Ae Aa rfl ?_ |refine Ax Aa 2 rfl rfl rfl rfl rfl rfl ?_)
  exact ⟨(k + 1,m2,a2,n2,c2,F),⟨by dsimp only;omega,Qw hk' hm hm2,fun k hk=>(hF k hk).elim id id⟩,by repeat (first |exact As.nil |refine As.cons rfl ?_),fun w' hw=>hw.fewer (by repeat (first |exact Ar |refine BW ?_ |refine AA (by first |assumption |omega) ?_)) (by repeat (first |exact List.Sublist.slnil |refine List.Sublist.cons_cons _ ?_ |refine List.Sublist.cons _ ?_)),by dsimp only;omega⟩
 ·have e:k=n:=by omega
  subst e;rw [List.take_of_length_le (by omega)] at hm;repeat (first |refine Ai ?_ |refine Ab ?_ |refine Ag ?_ |refine Ad ?_ |refine AB ?_ |refine Al ?_ |refine AC ?_ |refine AH ?_ |refine An Aa 1 rfl rfl rfl ?_ |refine Ax Aa 2 rfl rfl rfl rfl rfl rfl ?_)
  refine AZ rfl (CD Aa 2 rfl rfl rfl rfl) (fun w' hw=>⟨_,m,rfl,hw.below (by repeat (first |exact Ar |refine BW ?_ |refine AA (by first |assumption |omega) ?_)),hm,?_⟩);exact Vp.mono (G6.vp m) (Vp.fact0 hw 0 rfl) hF1
theorem Of {l:List BS} {x:Int} {i:Nat} (hc:Eu l) (hi:WB l x i):Cs l x ↔ ∃ h:i < l.length,l[i].1 <= x:=by
 rw [LT];constructor
 ·rintro ⟨j,hj,h1,h2⟩;have h3:=(hi.iff j hj).1 h2;refine ⟨by omega,?_⟩
  rcases Nat.lt_or_ge i j with h4 |h4
  ·have:=Ho hc h4 hj;have:=Gu hc (show i < l.length by omega);omega
  ·have:i=j:=by omega
   subst this;exact h1
 ·rintro ⟨h,h1⟩;exact ⟨i,h,h1,(hi.iff i h).2 (Nat.le_refl _)⟩
theorem Vs (a:Option Addr) (n c:Nat) (l:List BS) (x:Int) (A:Nat->Prop) (w:World) (hx:Br Bg w A a n c l) (hc:Eu l) (hn:n <= 1000000):
 Calls Tryz.prog 67 #[Bz a n c,.int .u64 x] w fun e w'=>∃ v,e= .returned v/\Below w.heap.size w w'/\∃ q,v= .bool q/\(q=true ↔ Cs l x):=by
 have hl:=hx.len;obtain ⟨i,hi⟩:=Jy hc x;have hil:=hi.le;refine BO Tryz.func67 rfl rfl (Hp.refl w) ?_;repeat (first |refine Ai ?_ |refine Ab ?_)
 refine AY Aa rfl (fun b hb=>?_);repeat (first |refine Ai ?_ |refine Ab ?_ |refine Ag ?_ |refine Ae Aa rfl ?_ |refine An Aa 0 rfl rfl rfl ?_)
 refine Be (v:=.int .i64 (i:Int)) rfl Tryz.call64 (fun w1 h1=>OD a n c i l _ A w1 (hx.ext (h1.below (by repeat (first |exact Ar |refine AA (by first |assumption |omega) ?_)))) (by omega) hi) ?_;repeat (first |refine Ai ?_ |refine Ab ?_ |refine Ag ?_ |refine Ae Aa rfl ?_ |refine An Aa 0 rfl rfl rfl ?_)
 refine BI rfl rfl (fun h1=>?_) (fun h1=>?_)
 ·have hk:i < l.length:=by omega
  obtain ⟨ab,off,cs,rfl,hlt,_⟩:=hx.get_ hk;repeat (first |refine Ae Aa rfl ?_ |refine An Aa 0 rfl rfl rfl ?_)
  refine BE (Bs (sz:=2) Aa rfl rfl rfl rfl rfl rfl rfl rfl (j:=i) (by omega)) ?_;repeat (first |refine Ae Aa rfl ?_)
  refine Bh Aa (v:=.int .u64 l[i].1) rfl rfl (fun w' hw=>EK (hx.ext (hw.below (by repeat (first |exact Ar |refine AA (by first |assumption |omega) ?_)))) hk) ?_;repeat (first |refine Ag ?_ |refine AC ?_ |refine Ae Aa rfl ?_)
  refine AZ rfl rfl (fun w' hw=>⟨_,rfl,hw.below (by repeat (first |exact Ar |refine AA (by first |assumption |omega) ?_)),_,rfl,?_⟩);rw [Of hc hi,decide_eq_true_iff];exact ⟨fun h=>⟨hk,h⟩,fun ⟨_,h⟩=>h⟩
 ·repeat (first |refine Ag ?_ |refine AC ?_ |refine Ae Aa rfl ?_ |refine Bn rfl rfl rfl ?_)
  refine AZ rfl rfl (fun w' hw=>⟨_,rfl,hw.below (by repeat (first |exact Ar |refine AA (by first |assumption |omega) ?_)),_,rfl,?_⟩);rw [Of hc hi];exact ⟨fun h=>(by cases h),fun ⟨h,_⟩=>by omega⟩
abbrev CG:Int:=18446744073709551615
def By (S:Int->Prop) (B:Nat):Vp:=
 ⟨fun w A v=>∃ m,Eu m/\(∀ x,Cs m x ↔ S x)/\m.length <= B/\G6.val w A v m,fun ⟨m,h1,h2,h3,h4⟩ hk=>⟨m,h1,h2,h3,Eh.val_keep _ h4 hk⟩⟩
def JD (S:Int->Prop) (B:Nat):Vp:=
 ⟨fun w A v=>∃ m,Eu m/\(∀ x,Cs m x ↔ S x)/\m.length <= B/\(Az Bg).val w A v m,fun ⟨m,h1,h2,h3,h4⟩ hk=>⟨m,h1,h2,h3,Eh.val_keep _ h4 hk⟩⟩
section
variable {S T:Int->Prop} {B C:Nat} {w:World} {A:Nat->Prop} {v u:Value}
theorem Cv (h:(By S B).at_ w A v):∃ a n c m,v=Bz a n c/\Eu m/\(∀ x,Cs m x ↔ S x)/\m.length <= B/\Br Bg w A a n c m:=by
 obtain ⟨m,h1,h2,h3,h4⟩:=h;obtain ⟨a,n,c,rfl,h5⟩:=HG h4;exact ⟨a,n,c,m,rfl,h1,h2,h3,h5⟩
theorem CT (h:(By S B).at_ w A v):∃ a n c,v=Bz a n c:=by
 obtain ⟨a,n,c,_,e,_⟩:=Cv h;exact ⟨a,n,c,e⟩
theorem GF (h:(JD S B).at_ w A v):∃ a n c m,v= .slice a n c/\Eu m/\(∀ x,Cs m x ↔ S x)/\m.length <= B/\Br Bg w A a n c m:=by
 obtain ⟨m,h1,h2,h3,h4⟩:=h;obtain ⟨a,n,c,rfl,h5⟩:=Br.form h4;exact ⟨a,n,c,m,rfl,h1,h2,h3,h5⟩
theorem Mv (h:(JD S B).at_ w A v):∃ a n c,v= .slice a n c:=by
 obtain ⟨a,n,c,_,e,_⟩:=GF h;exact ⟨a,n,c,e⟩
theorem Ol {a:Option Addr} {n c:Nat} {m:List BS} (h1:Eu m) (h2:∀ x,Cs m x ↔ S x) (h3:m.length <= B) (h4:Br Bg w A a n c m):(By S B).at_ w A (Bz a n c):=⟨m,h1,h2,h3,HF h4⟩
theorem Jf {m:List BS} (h1:Eu m) (h2:∀ x,Cs m x ↔ S x) (h3:m.length <= B) (h4:G6.val w A v m):(By S B).at_ w A v:=⟨m,h1,h2,h3,h4⟩
theorem Oj {a:Option Addr} {n c:Nat} {m:List BS} (h1:Eu m) (h2:∀ x,Cs m x ↔ S x) (h3:m.length <= B) (h4:Br Bg w A a n c m):(JD S B).at_ w A (.slice a n c):=⟨m,h1,h2,h3,h4.val⟩
theorem JG:(By (fun _=>False) 0).at_ w A (Bz none 0 0):=Ol DY (fun x=>⟨fun h=>CB x h,fun h=>h.elim⟩) (Nat.zero_le _) Br.nil_
theorem Ro {l m:List BS} (h1:Eu l) (h2:Eu m) (hS:∀ x,Cs l x ↔ S x) (hT:∀ x,Cs m x ↔ T x):l=m ↔ ∀ x,S x ↔ T x:=
 ⟨fun e x=>by rw [<-hS,<-hT,e],fun h=>OH h1 h2 fun x=>by rw [hS,hT,h]⟩
end
section
variable {S T:Int->Prop} {B C:Nat} {v u:Value} {A D:Nat->Prop}
theorem Qd (f t:Int) (w:World) (hA:∀ k,w.heap.size <= k->A k) (h:(By S B).at_ w A v) (hB:B <= 900000) (hf:AS .u64 f) (ht:AS .u64 t):
 Calls Tryz.prog 35 #[v,.int .u64 f,.int .u64 t] w fun e w'=>∃ r,e= .returned r/\Below w.heap.size w w'/\(By (fun x=>S x \/ (f <= x/\x <= t)) (B + 1)).at_ w' A r:=by
 obtain ⟨a,n,c,m,rfl,h1,h2,h3,h4⟩:=Cv h;have:=h4.len;exact (Oi a n c m f t A w hA h4 h1 (by omega) hf ht).mono fun e w' ⟨v,m',e1,e2,e3,e4⟩=>⟨v,e1,e2,Jf e3.can (fun x=>by rw [e3.mem,h2]) (by have:=e3.len;omega) e4⟩
theorem Xu (f:Int) (w:World) (hA:∀ k,w.heap.size <= k->A k) (h:(By S B).at_ w A v) (hB:B <= 900000) (hf:AS .u64 f):
 Calls Tryz.prog 47 #[v,.int .u64 f] w fun e w'=>∃ r,e= .returned r/\Below w.heap.size w w'/\(By (fun x=>S x \/ x=f) (B + 1)).at_ w' A r:=by
 obtain ⟨a,n,c,m,rfl,h1,h2,h3,h4⟩:=Cv h;have:=h4.len;exact (RS a n c m f A w hA h4 h1 (by omega) hf).mono fun e w' ⟨v,m',e1,e2,e3,e4⟩=>⟨v,e1,e2,Jf e3.can (fun x=>by rw [e3.mem,h2];exact ⟨fun h=>h.imp id fun h=>by omega,fun h=>h.imp id fun h=>by omega⟩) (by have:=e3.len;omega) e4⟩
theorem Vj (a:Option Addr) (n c:Nat) (l:List Int) (w:World) (hx:Br (A8 .u64) w A a n c l) (hn:n <= 800000):
 Calls Tryz.prog 43 #[.slice a n c] w fun e w'=>∃ r,e= .returned r/\Below w.heap.size w w'/\(By (fun x=>x ∈ l) l.length).at_ w' (fun k=>w.heap.size <= k) r:=
 (WZ a n c l A w hx hn).mono fun e w' ⟨v,m',e1,e2,e3,e4⟩=>⟨v,e1,e2,Jf e3.can e3.mem e3.len e4⟩
theorem W9 (x:Int) (w:World) (h:(By S B).at_ w A v) (hB:B <= 900000):
 Calls Tryz.prog 67 #[v,.int .u64 x] w fun e w'=>∃ v,e= .returned v/\Below w.heap.size w w'/\∃ q,v= .bool q/\(q=true ↔ S x):=by
 obtain ⟨a,n,c,m,rfl,h1,h2,h3,h4⟩:=Cv h;have:=h4.len;exact (Vs a n c m x A w h4 h1 (by omega)).mono fun e w' ⟨v,e1,e2,q,e3,e4⟩=>⟨v,e1,e2,q,e3,by rw [e4,h2]⟩
theorem Vc (w:World) (h:(By S B).at_ w A v) (hB:B <= 900000):
 Calls Tryz.prog 29 #[v] w fun e w'=>∃ r,e= .returned r/\Below w.heap.size w w'/\(JD S B).at_ w' (fun k=>w.heap.size <= k) r:=by
 obtain ⟨a,n,c,m,rfl,h1,h2,h3,h4⟩:=Cv h;have hl:=h4.len;have hok:=Dl h4;subst hl;exact (SH a _ c m A w h4 (by omega)).mono fun e w' ⟨a',c',e1,e2,e3⟩=>⟨_,e1,e2,Oj h1 h2 h3 (LH e3 hok fun k hk=>hk)⟩
theorem XW (w:World) (h:(By S B).at_ w A v) (k:(By T C).at_ w D u):
 Calls Tryz.prog 18 #[v,u] w fun e w'=>∃ v,e= .returned v/\Below w.heap.size w w'/\∃ q,v= .bool q/\(q=true ↔ ∀ x,S x ↔ T x):=by
 obtain ⟨a,n,c,m,rfl,h1,h2,h3,h4⟩:=Cv h;obtain ⟨a',n',c',m',rfl,k1,k2,k3,k4⟩:=Cv k;exact (SG a a' n c n' c' m m' A D w h4 k4).mono fun e w' ⟨e1,e2⟩=>⟨_,e1,e2,_,rfl,by rw [decide_eq_true_iff];exact Ro h1 k1 h2 k2⟩
theorem SJ (w:World) (h:(JD S B).at_ w A v) (k:(JD T C).at_ w D u):
 Calls Tryz.prog 30 #[v,u] w fun e w'=>∃ v,e= .returned v/\Below w.heap.size w w'/\∃ q,v= .bool q/\(q=true ↔ ∀ x,S x ↔ T x):=by
 obtain ⟨a,n,c,m,rfl,h1,h2,h3,h4⟩:=GF h;obtain ⟨a',n',c',m',rfl,k1,k2,k3,k4⟩:=GF k;exact (Qi a a' n c n' c' m m' A D w h4 k4).mono fun e w' ⟨e1,e2⟩=>⟨_,e1,e2,_,rfl,by rw [decide_eq_true_iff];exact Ro h1 k1 h2 k2⟩
end
theorem Sj {p:Vp} {w0 w w':World} {A:Nat->Prop} {ol:OL} {v:Value} (hh:Hp w0 w ol) (h:p.at_ w' (fun k=>w.heap.size <= k) v):p.at_ w' (BB w0 A ol) v:=p.mono h fun k hk=>ET hh hk
structure Sn (l:List BS) (f t:Int) (k:Nat) (out:List BS):Prop where
 can:Eu out
 ok:KT out
 mem:∀ y,Cs out y ↔ Cs (l.take k) y/\¬ (f <= y/\y <= t)
 up:∀ s ∈ out,∃ (j:Nat) (hj:j < l.length),j < k/\s.2 <= l[j].2
 len:out.length <= k \/ (out.length <= k + 1/\∀ (j:Nat) (hj:j < l.length),k <= j->t < l[j].1)
theorem P1 {l:List BS} {f t:Int}:Sn l f t 0 []:=⟨DY,fun r h=>(by cases h),fun y=>by simp [CB],fun s h=>(by cases h),.inl (Nat.le_refl _)⟩
section
variable {l out:List BS} {f t:Int} {k:Nat}
theorem P2 (hc:Eu l) (hk:k < l.length) (h:Sn l f t k out):∀ s ∈ out,s.2 + 1 < l[k].1:=fun s hs=>by
 obtain ⟨j,hj,hjk,h1⟩:=h.up s hs;have:=Ho hc hjk hk;omega
theorem PJ {p:BS} (h:Eu out) (hp:p.1 <= p.2) (hg:∀ s ∈ out,s.2 + 1 < p.1):Eu (out ++ [p]):=
 D9.2 ⟨h,CJ.2 ⟨hp,fun s hs=>(by cases hs),DY⟩,fun r hr s hs=>by
  rw [List.mem_singleton] at hs;subst hs
  exact hg r hr⟩
theorem S3 {p:BS} (h:KT out) (hp:UQ p):KT (out ++ [p]):=fun r hr=>by
 rcases List.mem_append.1 hr with hr |hr
 ·exact h r hr
 ·rw [List.mem_singleton] at hr;subst hr;exact hp
theorem QC {p:BS} (y:Int):Cs (out ++ [p]) y ↔ Cs out y \/ (p.1 <= y/\y <= p.2):=by rw [mem_append,GM]
theorem P0 (hc:Eu l) (hok:KT l) (hk:k < l.length) (h:Sn l f t k out) (ho:l[k].2 < f \/ t < l[k].1):Sn l f t (k + 1) (out ++ [l[k]]):=by
 have hle:=Gu hc hk;refine ⟨PJ h.can hle (P2 hc hk h),S3 h.ok (hok _ (List.getElem_mem hk)),fun y=>?_,fun s hs=>?_,?_⟩
 ·rw [QC,h.mem,CX hk];constructor
  ·rintro (⟨h1,h2⟩ |h1)
   ·exact ⟨.inl h1,h2⟩
   ·exact ⟨.inr h1,by omega⟩
  ·rintro ⟨h1 |h1,h2⟩
   ·exact .inl ⟨h1,h2⟩
   ·exact .inr h1
 ·rcases List.mem_append.1 hs with hs |hs
  ·obtain ⟨j,hj,h1,h2⟩:=h.up s hs;exact ⟨j,hj,by omega,h2⟩
  ·rw [List.mem_singleton] at hs;subst hs;exact ⟨k,hk,by omega,Int.le_refl _⟩
 ·simp only [List.length_append,List.length_cons,List.length_nil]
  rcases h.len with h1 |⟨h1,h2⟩
  ·exact .inl (by omega)
  ·exact .inr ⟨by omega,fun j hj hkj=>h2 j hj (by omega)⟩
def H8 (r:BS) (f t:Int):List BS:=(if r.1 < f then [(r.1,f - 1)] else []) ++ (if t < r.2 then [(t + 1,r.2)] else [])
theorem U6 (hc:Eu l) (hok:KT l) (hk:k < l.length) (hft:f <= t) (hf:AS .u64 f) (ht:AS .u64 t) (h:Sn l f t k out) (ho:¬ (l[k].2 < f \/ t < l[k].1)):Sn l f t (k + 1) (out ++ H8 l[k] f t):=by
 have hle:=Gu hc hk;have hg:=P2 hc hk h;have hokk:=hok _ (List.getElem_mem hk);have u1:=BF hokk.1;have u2:=BF hokk.2
 have hfit:∀ z:Int,0 <= z->z <= 18446744073709551615->AS .u64 z:=fun z e1 e2=>by simpa [AS,IntKind.min,IntKind.max,IntKind.signed,IntKind.bits] using And.intro e1 e2
 have hmem:∀ y,Cs (H8 l[k] f t) y ↔ (l[k].1 <= y/\y <= l[k].2)/\¬ (f <= y/\y <= t):=by
  intro y;unfold H8;rw [mem_append]
  have e1:Cs (if l[k].1 < f then [(l[k].1,f - 1)] else []) y ↔ l[k].1 < f/\l[k].1 <= y/\y <= f - 1:=by
   by_cases h1:l[k].1 < f
   ·rw [if_pos h1,GM];exact ⟨fun h=>⟨h1,h⟩,fun h=>h.2⟩
   ·rw [if_neg h1];exact ⟨fun h=>absurd h (CB y),fun h=>absurd h.1 h1⟩
  have e2:Cs (if t < l[k].2 then [(t + 1,l[k].2)] else []) y ↔ t < l[k].2/\t + 1 <= y/\y <= l[k].2:=by
   by_cases h1:t < l[k].2
   ·rw [if_pos h1,GM];exact ⟨fun h=>⟨h1,h⟩,fun h=>h.2⟩
   ·rw [if_neg h1];exact ⟨fun h=>absurd h (CB y),fun h=>absurd h.1 h1⟩
  rw [e1,e2];omega
 have hcan:Eu (H8 l[k] f t):=by
  unfold H8;refine D9.2 ⟨?_,?_,fun r hr s hs=>?_⟩
  ·split
   ·exact CJ.2 ⟨by show l[k].1 <= f - 1;omega,fun s hs=>(by cases hs),DY⟩
   ·exact DY
  ·split
   ·exact CJ.2 ⟨by show t + 1 <= l[k].2;omega,fun s hs=>(by cases hs),DY⟩
   ·exact DY
  ·split at hr
   ·split at hs
    ·rw [List.mem_singleton] at hr hs;subst hr;subst hs;show f - 1 + 1 < t + 1;omega
    ·cases hs
   ·cases hr
 have hsub:∀ s ∈ H8 l[k] f t,l[k].1 <= s.1/\s.2 <= l[k].2/\UQ s:=by
  intro s hs;unfold H8 at hs
  rcases List.mem_append.1 hs with hs |hs
  ·split at hs
   ·rw [List.mem_singleton] at hs;subst hs;have:=BF hf;refine ⟨Int.le_refl _,by show f - 1 <= l[k].2;omega,hfit _ u1.1 u1.2,hfit _ (by show 0 <= f - 1;omega) (by show f - 1 <= _;omega)⟩
   ·cases hs
  ·split at hs
   ·rw [List.mem_singleton] at hs;subst hs;have:=BF ht;refine ⟨by show l[k].1 <= t + 1;omega,Int.le_refl _,hfit _ (by show 0 <= t + 1;omega) (by show t + 1 <= _;omega),hfit _ u2.1 u2.2⟩
   ·cases hs
 refine ⟨D9.2 ⟨h.can,hcan,fun r hr s hs=>?_⟩,fun r hr=>?_,fun y=>?_,fun s hs=>?_,?_⟩
 ·have:=hg r hr;have:=(hsub s hs).1;omega
 ·rcases List.mem_append.1 hr with hr |hr
  ·exact h.ok r hr
  ·exact (hsub r hr).2.2
 ·rw [mem_append,h.mem,CX hk,hmem];constructor
  ·rintro (⟨h1,h2⟩ |⟨h1,h2⟩)
   ·exact ⟨.inl h1,h2⟩
   ·exact ⟨.inr h1,h2⟩
  ·rintro ⟨h1 |h1,h2⟩
   ·exact .inl ⟨h1,h2⟩
   ·exact .inr ⟨h1,h2⟩
 ·rcases List.mem_append.1 hs with hs |hs
  ·obtain ⟨j,hj,h1,h2⟩:=h.up s hs;exact ⟨j,hj,by omega,h2⟩
  ·exact ⟨k,hk,by omega,(hsub s hs).2.1⟩
 ·rw [List.length_append]
  have hlen:(H8 l[k] f t).length <= 1 \/ ((H8 l[k] f t).length <= 2/\t < l[k].2):=by
   unfold H8;rw [List.length_append];by_cases h1:l[k].1 < f<;>by_cases h2:t < l[k].2<;>simp [h1,h2]
  have hnext:t < l[k].2->∀ (j:Nat) (hj:j < l.length),k + 1 <= j->t < l[j].1:=fun h2 j hj hkj=>by
   have:=Ho hc (show k < j by omega) hj;omega
  rcases h.len with h1 |⟨h1,h2⟩
  ·rcases hlen with h3 |⟨h3,h4⟩
   ·exact .inl (by omega)
   ·exact .inr ⟨by omega,hnext h4⟩
  ·exact absurd (Or.inr (h2 k hk (Nat.le_refl _))) ho
theorem U5 (h:Sn l f t l.length out):out.length <= l.length + 1:=by
 rcases h.len with h1 |⟨h1,_⟩<;>omega
end
theorem Kd (p:BS):∀ u ∈ C6 p,u.oneCell'=true:=by
 intro u hu;exact De [p] u (by simpa [Bq] using hu)
theorem Hm (l:List BS) (p:BS):Bq l ++ C6 p=Bq (l ++ [p]):=by rw [CY];simp [Bq]
theorem J0 (l:List BS) (p:BS):l.length + 1=(l ++ [p]).length:=by rw [List.length_append];rfl
set_option maxHeartbeats 1000000 in
theorem Nf (a:Option Addr) (n c:Nat) (l:List BS) (f t:Int) (A:Nat->Prop) (w:World) (hx:Br Bg w A a n c l) (hc:Eu l) (hn:n <= 900000) (hft:f <= t) (hf:AS .u64 f) (ht:AS .u64 t):
 Calls Tryz.prog 73 #[Bz a n c,.agg ⟨C6 (f,t)⟩] w fun e w'=>∃ v m,e= .returned v/\Below w.heap.size w w'/\Sn l f t l.length m/\G6.val w' (fun k=>w.heap.size <= k) v m:=by
 have hl:=hx.len;have hok:=Dl hx;have hf':=BF hf;have ht':=BF ht;refine BO Tryz.func73 rfl rfl (Hp.refl w) ?_;repeat (first |refine Ai ?_ |refine Ab ?_)
 refine AY Aa rfl (fun b hb=>?_);refine AY Aa rfl (fun b3 hb3=>?_);refine AY Aa rfl (fun b4 hb4=>?_);repeat (first |refine Ai ?_ |refine Ab ?_ |refine Aq ?_ |refine Ag ?_ |refine Ae Aa rfl ?_ |refine An Aa 2 rfl rfl rfl ?_)
 refine AM (ι:=List BS × Nat × Option Addr × Nat) (fun i=>[(3,.pointer (some ⟨b3,0,none⟩)),(4,.pointer (some ⟨b4,0,none⟩)),(5,.slice i.2.2.1 i.1.length i.2.2.2),(9,.slice a n c),(10,.int .i64 (n:Int)),(11,.int .i64 (i.2.1:Int))])
  (fun i=>[.row w.heap.size (.slice i.2.2.1 i.1.length i.2.2.2) 82 2 i.1.length (Bq i.1),.blk b4 (.cells ⟨[.slice none 0 0]⟩ 52 (0,0)) true,.blk b3 (.cells ⟨C6 (f,t)⟩ 82 (0,0)) true]) (fun i=>i.2.1 <= n/\Sn l f t i.2.1 i.1) (fun i=>n - i.2.1) ([],0,none,0) ⟨Nat.zero_le _,P1⟩ (by repeat (first |exact As.nil |refine As.cons rfl ?_)) (fun w' hw=>(hw.fewer (by repeat (first |exact Ar |refine AA (by first |assumption |omega) ?_)) (by repeat (first |exact List.Sublist.slnil |refine List.Sublist.cons_cons _ ?_ |refine List.Sublist.cons _ ?_))).nilRow _ _) ?_
 rintro ⟨out,k,a1,c1⟩ ⟨hk,hI⟩;dsimp only at hk hI ⊢;repeat (first |refine Ai ?_ |refine Ab ?_ |refine Ag ?_ |refine Ae Aa rfl ?_)
 refine Ak rfl (fun h=>?_) (fun h=>?_)
 ·have hk':k < l.length:=by omega
  have hokk:=hok _ (List.getElem_mem hk');have u1:=BF hokk.1;have u2:=BF hokk.2
  have hln:out.length <= k + 1:=by rcases hI.len with h1 |⟨h1,_⟩<;>omega
  obtain ⟨ab,off,cs,rfl,hlt,_⟩:=hx.get_ hk';repeat (first |refine Ai ?_ |refine Ad ?_ |refine Ao ?_)
  refine BN (ι:=List BS × Option Addr × Nat) (fun i=>Sn l f t (k + 1) i.1) (fun i=>[(3,.pointer (some ⟨b3,0,none⟩)),(4,.pointer (some ⟨b4,0,none⟩)),(5,.slice i.2.1 i.1.length i.2.2),(9,.slice (some ⟨ab,off,none⟩) n c),(10,.int .i64 (n:Int)),(11,.int .i64 (k:Int))])
   (fun i=>[.row w.heap.size (.slice i.2.1 i.1.length i.2.2) 82 2 i.1.length (Bq i.1),.blk b4 (.cells ⟨[.slice none 0 0]⟩ 52 (0,0)) true,.blk b3 (.cells ⟨C6 (f,t)⟩ 82 (0,0)) true]) ?_ ?_
  ·refine Aq ?_;repeat (first |refine Ai ?_ |refine Ab ?_)
   refine BE (Bs (sz:=2) Aa rfl rfl rfl rfl rfl rfl rfl rfl (j:=k) (by omega)) ?_;refine BR Aa (vs:=C6 l[k]) rfl rfl rfl (fun w' hw=>B7 (hx.ext (hw.below (by repeat (first |exact Ar |refine AA (by first |assumption |omega) ?_ |refine Bv hw 0 rfl (Nat.le_refl _) ?_)))) hk') ?_;refine AY Aa rfl (fun b7 hb7=>?_);refine Ax Aa 0 rfl rfl rfl rfl rfl rfl ?_;refine Ag ?_;repeat (refine Ai ?_)
   refine BN (ι:=Bool) (fun q=>q=true ↔ (l[k].2 < f \/ t < l[k].1)) (fun q=>[(3,.pointer (some ⟨b3,0,none⟩)),(4,.pointer (some ⟨b4,0,none⟩)),(5,.slice a1 out.length c1),(7,.pointer (some ⟨b7,0,none⟩)),(9,.slice (some ⟨ab,off,none⟩) n c),(10,.int .i64 (n:Int)),(11,.int .i64 (k:Int)),(26,.bool q)])
    (fun q=>[.blk b7 (.cells ⟨C6 l[k]⟩ 82 (0,0)) true,.row w.heap.size (.slice a1 out.length c1) 82 2 out.length (Bq out),.blk b4 (.cells ⟨[.slice none 0 0]⟩ 52 (0,0)) true,.blk b3 (.cells ⟨C6 (f,t)⟩ 82 (0,0)) true]) ?_ ?_
   ·repeat (first |refine Ab ?_ |refine Ae Aa rfl ?_ |refine An Aa 0 rfl rfl rfl ?_ |refine An Aa 3 rfl rfl rfl ?_)
    refine BI rfl rfl (fun h2=>?_) (fun h2=>?_)
    ·repeat (first |refine Ag ?_ |refine Ae Aa rfl ?_ |refine Bn rfl rfl rfl ?_)
     exact ⟨true,⟨fun _=>.inl h2,fun _=>rfl⟩,by repeat (first |exact As.nil |refine As.cons rfl ?_),fun _ h=>h⟩
    ·repeat (first |refine Ag ?_ |refine Ae Aa rfl ?_ |refine An Aa 0 rfl rfl rfl ?_ |refine An Aa 3 rfl rfl rfl ?_)
     refine ⟨_,?_,by repeat (first |exact As.nil |refine As.cons rfl ?_),fun _ h=>h⟩;rw [decide_eq_true_iff];exact ⟨fun h=>.inr h,fun h=>h.resolve_left (by omega)⟩
   ·intro q hq;refine CK rfl (fun h2=>?_) (fun h2=>?_)
    ·have hI2:=P0 hc hok hk' hI (hq.1 h2);repeat (first |refine Ai ?_ |refine Ab ?_ |refine Ae Aa rfl ?_ |refine An Aa 0 rfl rfl rfl ?_)
     refine AO Aa rfl rfl rfl rfl rfl rfl rfl rfl rfl rfl rfl rfl (fun b8 hb8=>?_);refine AT (ty:=0) Aa 2 rfl rfl rfl rfl rfl rfl rfl rfl rfl (by decide) (fun w' hw=>Sl.of_blk (xs:=C6 l[k]) (hw.own _ (Af (i:=0) rfl)) rfl (fun j u hu=>by rw [Nat.zero_add];exact hu)) (Kd _) (by simp only [maxLen];omega) (by show (_ + _) * 16 <= _;omega) rfl (fun A' c' h1 h2=>⟨_,rfl,?_⟩);rw [Hm,J0];repeat (first |refine Ag ?_ |refine Ad ?_ |refine AB ?_ |refine Al ?_ |refine AH ?_ |refine Ae Aa rfl ?_)
     exact ⟨(out ++ [l[k]],A',c'),hI2,by repeat (first |exact As.nil |refine As.cons rfl ?_),fun w' hw=>(hw.dropn hb8).dropn hb7⟩
    ·have hno:¬ (l[k].2 < f \/ t < l[k].1):=fun h=>by rw [h2] at hq;exact absurd (hq.2 h) (by decide)
     have hI2:=U6 hc hok hk' hft hf ht hI hno;repeat (first |refine Ai ?_ |refine Ab ?_ |refine Ag ?_ |refine Ad ?_ |refine Ao ?_ |refine Ae Aa rfl ?_ |refine An Aa 0 rfl rfl rfl ?_ |refine An Aa 3 rfl rfl rfl ?_)
     refine BN (ι:=List BS × Option Addr × Nat) (fun i=>i.1=out ++ (if l[k].1 < f then [(l[k].1,f - 1)] else [])) (fun i=>[(3,.pointer (some ⟨b3,0,none⟩)),(4,.pointer (some ⟨b4,0,none⟩)),(5,.slice i.2.1 i.1.length i.2.2),(7,.pointer (some ⟨b7,0,none⟩)),(9,.slice (some ⟨ab,off,none⟩) n c),(10,.int .i64 (n:Int)),(11,.int .i64 (k:Int))])
      (fun i=>[.blk b7 (.cells ⟨C6 l[k]⟩ 82 (0,0)) true,.row w.heap.size (.slice i.2.1 i.1.length i.2.2) 82 2 i.1.length (Bq i.1),.blk b4 (.cells ⟨[.slice none 0 0]⟩ 52 (0,0)) true,.blk b3 (.cells ⟨C6 (f,t)⟩ 82 (0,0)) true]) ?_ ?_
     ·refine Ak rfl (fun h3=>?_) (fun h3=>?_)
      ·repeat (first |refine Ab ?_ |refine D2 Aa rfl (by omega) ?_ |refine Ae Aa rfl ?_ |refine An Aa 0 rfl rfl rfl ?_ |refine An Aa 3 rfl rfl rfl ?_ |refine BE (Bf Aa rfl rfl rfl rfl rfl rfl rfl) ?_)
       refine AO Aa rfl rfl rfl rfl rfl rfl rfl rfl rfl rfl rfl rfl (fun b8 hb8=>?_);refine AT (ty:=0) Aa 2 rfl rfl rfl rfl rfl rfl rfl rfl rfl (by decide) (fun w' hw=>Sl.of_blk (xs:=C6 (l[k].1,f - 1)) (hw.own _ (Af (i:=0) rfl)) rfl (fun j u hu=>by rw [Nat.zero_add];exact hu)) (Kd _) (by simp only [maxLen];omega) (by show (_ + _) * 16 <= _;omega) rfl (fun A' c' h1 h2=>⟨_,rfl,?_⟩);rw [Hm,J0];repeat (first |refine Ag ?_ |refine Ae Aa rfl ?_)
       exact ⟨(out ++ [(l[k].1,f - 1)],A',c'),by rw [if_pos h3],by repeat (first |exact As.nil |refine As.cons rfl ?_),fun w' hw=>hw.dropn hb8⟩
      ·repeat (first |refine Ad ?_ |refine Ao ?_)
       exact ⟨(out,a1,c1),by rw [if_neg h3,List.append_nil],by repeat (first |exact As.nil |refine As.cons rfl ?_),fun w' hw=>hw⟩
     rintro ⟨out1,a2,c2⟩ ho1;dsimp only at ho1 ⊢
     have hln1:out1.length <= k + 2:=by
      rw [ho1,List.length_append];split<;>simp<;>omega
     repeat (first |refine Ai ?_ |refine Ab ?_ |refine Ag ?_ |refine Ae Aa rfl ?_ |refine An Aa 0 rfl rfl rfl ?_ |refine An Aa 3 rfl rfl rfl ?_)
     refine Ak rfl (fun h3=>?_) (fun h3=>?_)
     ·have e3:out ++ H8 l[k] f t=out1 ++ [(t + 1,l[k].2)]:=by rw [ho1,H8,if_pos h3,List.append_assoc]
      rw [e3] at hI2;repeat (first |refine D2 Aa rfl (by omega) ?_ |refine Ae Aa rfl ?_ |refine Ap ?_ |refine An Aa 0 rfl rfl rfl ?_ |refine An Aa 3 rfl rfl rfl ?_ |refine BE (Bf Aa rfl rfl rfl rfl rfl rfl rfl) ?_)
      refine AO Aa rfl rfl rfl rfl rfl rfl rfl rfl rfl rfl rfl rfl (fun b8 hb8=>?_);refine AT (ty:=0) Aa 2 rfl rfl rfl rfl rfl rfl rfl rfl rfl (by decide) (fun w' hw=>Sl.of_blk (xs:=C6 (t + 1,l[k].2)) (hw.own _ (Af (i:=0) rfl)) rfl (fun j u hu=>by rw [Nat.zero_add];exact hu)) (Kd _) (by simp only [maxLen];omega) (by show (_ + _) * 16 <= _;omega) rfl (fun A' c' h1 h2=>⟨_,rfl,?_⟩);rw [Hm,J0];repeat (first |refine Ag ?_ |refine Ad ?_ |refine Am ?_ |refine Ae Aa rfl ?_)
      exact ⟨(out1 ++ [(t + 1,l[k].2)],A',c'),hI2,by repeat (first |exact As.nil |refine As.cons rfl ?_),fun w' hw=>(hw.dropn hb8).dropn hb7⟩
     ·have e3:out ++ H8 l[k] f t=out1:=by rw [ho1,H8,if_neg h3,List.append_nil]
      rw [e3] at hI2;repeat (first |refine Ad ?_ |refine Am ?_ |refine Ao ?_)
      exact ⟨(out1,a2,c2),hI2,by repeat (first |exact As.nil |refine As.cons rfl ?_),fun w' hw=>hw.dropn hb7⟩
  ·rintro ⟨out1,a2,c2⟩ hI2;dsimp only at hI2 ⊢;repeat (first |refine Ab ?_ |refine Ag ?_ |refine AD Aa rfl (by omega) ?_ |refine Ae Aa rfl ?_)
   exact ⟨(out1,k + 1,a2,c2),⟨by dsimp only;omega,hI2⟩,by repeat (first |exact As.nil |refine As.cons rfl ?_),fun w' hw=>hw,by dsimp only;omega⟩
 ·have e:k=l.length:=by omega
  subst e;repeat (first |refine Ai ?_ |refine Ab ?_ |refine Ag ?_ |refine Ad ?_ |refine AB ?_ |refine Al ?_ |refine AC ?_ |refine AH ?_ |refine Ae Aa rfl ?_ |refine Ax Aa 1 rfl rfl rfl rfl rfl rfl ?_ |refine BE (Bf Aa rfl rfl rfl rfl rfl rfl rfl) ?_)
  refine AZ rfl (CD Aa 1 rfl rfl rfl rfl) (fun w' hw=>⟨_,out,rfl,hw.below (by repeat (first |exact Ar |refine AA (by first |assumption |omega) ?_ |refine Bv hw 0 rfl (Nat.le_refl _) ?_)),hI,HF (LH (hw.own _ (Af (i:=0) rfl)) hI.ok fun k hk=>hk)⟩)
section
variable {S T:Int->Prop} {B C:Nat} {v u:Value} {A D:Nat->Prop}
theorem Ew {w:World} (hS:∀ x,S x ↔ T x) (hB:B <= C) (h:(By S B).at_ w A v):(By T C).at_ w A v:=by
 obtain ⟨m,h1,h2,h3,h4⟩:=h;exact ⟨m,h1,fun x=>by rw [h2,hS],Nat.le_trans h3 hB,h4⟩
theorem O8 (f t:Int) (w:World) (h:(By S B).at_ w A v) (hB:B <= 900000) (hft:f <= t) (hf:AS .u64 f) (ht:AS .u64 t):
 Calls Tryz.prog 73 #[v,.agg ⟨C6 (f,t)⟩] w fun e w'=>∃ r,e= .returned r/\Below w.heap.size w w'/\(By (fun x=>S x/\¬ (f <= x/\x <= t)) (B + 1)).at_ w' (fun k=>w.heap.size <= k) r:=by
 obtain ⟨a,n,c,m,rfl,h1,h2,h3,h4⟩:=Cv h;have:=h4.len;exact (Nf a n c m f t A w h4 h1 (by omega) hft hf ht).mono fun e w' ⟨v,m',e1,e2,e3,e4⟩=>⟨v,e1,e2,Jf e3.can (fun x=>by rw [e3.mem,List.take_length,h2]) (by have:=U5 e3;omega) e4⟩
theorem QM (w:World) (hA:∀ k,w.heap.size <= k->A k) (h:(By S B).at_ w A v) (k:(By T C).at_ w D u) (hB:B + C <= 900000):
 Calls Tryz.prog 48 #[v,u] w fun e w'=>∃ r,e= .returned r/\Below w.heap.size w w'/\(By (fun x=>S x/\¬ T x) (B + C)).at_ w' A r:=by
 obtain ⟨a,n,c,rfl⟩:=CT h;obtain ⟨a',n',c',m,rfl,k1,k2,k3,hy⟩:=Cv k;have hl:=hy.len;have hok:=Dl hy;refine BO Tryz.func48 rfl rfl (Hp.refl w) ?_;repeat (first |refine Ai ?_ |refine Ab ?_)
 refine AY Aa rfl (fun b2 hb2=>?_);refine AY Aa rfl (fun b3 hb3=>?_);refine AY Aa rfl (fun b4 hb4=>?_);repeat (first |refine Ai ?_ |refine Ab ?_ |refine Aq ?_ |refine Ag ?_ |refine Ae Aa rfl ?_ |refine An Aa 1 rfl rfl rfl ?_)
 refine L7 (By S B) A (fun w' hw=>Vp.old h hw (by repeat (first |exact Ar |refine AA (by first |assumption |omega) ?_))) (fun F0 hF0=>?_)
 refine AM (ι:=Nat × Option Addr × Nat × Nat × (Nat->Prop)) (fun i=>[(2,.pointer (some ⟨b2,0,none⟩)),(3,.pointer (some ⟨b3,0,none⟩)),(4,.pointer (some ⟨b4,0,none⟩)),(8,.slice a' n' c'),(9,.int .i64 (n':Int)),(10,.int .i64 (i.1:Int))])
  (fun i=>[.rep (fun w=>(By (fun x=>S x/\¬ Cs (m.take i.1) x) (B + i.1)).at_ w i.2.2.2.2 (Bz i.2.1 i.2.2.1 i.2.2.2.1)) i.2.2.2.2 false,.blk b4 (.cells ⟨[.slice none 0 0]⟩ 52 (0,0)) true,.blk b3 (.cells ⟨[.slice a' n' c']⟩ 52 (0,0)) true,.blk b2 (.cells ⟨[.slice i.2.1 i.2.2.1 i.2.2.2.1]⟩ 52 (0,0)) true])
  (fun i=>i.1 <= n'/\∀ k,i.2.2.2.2 k->A k \/ w.heap.size <= k) (fun i=>n' - i.1) (0,a,n,c,F0) ⟨Nat.zero_le _,hF0⟩ (by repeat (first |exact As.nil |refine As.cons rfl ?_)) (fun w' hw=>?_) ?_
 ·have e:(fun x=>S x/\¬ Cs [] x)=S:=by
   funext x;simp [CB]
  simp only [List.take_zero,e,Nat.add_zero];exact hw
 rintro ⟨i,a1,n1,c1,F⟩ ⟨hi,hF⟩;dsimp only at hi hF ⊢;repeat (first |refine Ai ?_ |refine Ab ?_ |refine Ag ?_ |refine Ae Aa rfl ?_)
 refine Ak rfl (fun h=>?_) (fun h=>?_)
 ·have hi':i < m.length:=by omega
  have hokk:=hok _ (List.getElem_mem hi');obtain ⟨ab,off,cs,rfl,hlt,_⟩:=hy.get_ hi';repeat (first |refine Ai ?_ |refine Ab ?_ |refine Aq ?_ |refine Ad ?_ |refine Ao ?_)
  refine BE (Bs (sz:=2) Aa rfl rfl rfl rfl rfl rfl rfl rfl (j:=i) (by omega)) ?_;refine BR Aa (vs:=C6 m[i]) rfl rfl rfl (fun w' hw=>B7 (hy.ext (hw.below (by repeat (first |exact Ar |refine BW ?_ |refine AA (by first |assumption |omega) ?_)))) hi') ?_;refine AY Aa rfl (fun b6 hb6=>?_);repeat (first |refine Ag ?_ |refine Ap ?_ |refine An Aa 0 rfl rfl rfl ?_ |refine An Aa 4 rfl rfl rfl ?_ |refine Ax Aa 0 rfl rfl rfl rfl rfl rfl ?_)
  refine Dp (By (fun x=>(S x/\¬ Cs (m.take i) x)/\¬ (m[i].1 <= x/\x <= m[i].2)) (B + i + 1)) A rfl Tryz.call73 (fun w1 h1=>(O8 m[i].1 m[i].2 w1 (Vp.fact0 (p:=By (fun x=>S x/\¬ Cs (m.take i) x) (B + i)) h1 1 rfl) (by omega) (Gu k1 hi') hokk.1 hokk.2).mono fun e w' ⟨r,e1,e2,e3⟩=>⟨r,e1,e2,Sj h1 e3⟩) (fun v F2 w1 hF2 hv=>?_);obtain ⟨a2,n2,c2,rfl⟩:=CT hv;repeat (first |refine Ab ?_ |refine Ag ?_ |refine Ad ?_ |refine Am ?_ |refine AD Aa rfl (by omega) ?_ |refine Ae Aa rfl ?_ |refine Ax Aa 5 rfl rfl rfl rfl rfl rfl ?_)
  refine ⟨(i + 1,a2,n2,c2,F2),⟨by dsimp only;omega,hF2⟩,by repeat (first |exact As.nil |refine As.cons rfl ?_),fun w' hw=>?_,by dsimp only;omega⟩
  have e:(fun x=>S x/\¬ Cs (m.take (i + 1)) x)=(fun x=>(S x/\¬ Cs (m.take i) x)/\¬ (m[i].1 <= x/\x <= m[i].2)):=by
   funext x;rw [CX hi'];rw [not_or,and_assoc]
  dsimp only;rw [e,<-Nat.add_assoc];exact hw.fewer (by repeat (first |exact Ar |refine BW ?_ |refine AA (by first |assumption |omega) ?_)) (by repeat (first |exact List.Sublist.slnil |refine List.Sublist.cons_cons _ ?_ |refine List.Sublist.cons _ ?_))
 ·have e:i=n':=by omega
  subst e;rw [List.take_of_length_le (show m.length <= i by omega)];repeat (first |refine Ai ?_ |refine Ab ?_ |refine Ag ?_ |refine Ad ?_ |refine AB ?_ |refine Al ?_ |refine AC ?_ |refine AH ?_ |refine An Aa 3 rfl rfl rfl ?_ |refine Ax Aa 1 rfl rfl rfl rfl rfl rfl ?_)
  exact AZ rfl (CD Aa 1 rfl rfl rfl rfl) (fun w' hw=>⟨_,rfl,hw.below (by repeat (first |exact Ar |refine BW ?_ |refine AA (by first |assumption |omega) ?_)),Ew (fun x=>by rw [k2]) (by omega) (Vp.mono _ (Vp.fact0 hw 0 rfl) fun k hk=>(hF k hk).elim id (hA k))⟩)
end
theorem Rn {l:List BS} (h:Eu l) (k:Nat):Eu (l.take k):=⟨fun r hr=>h.le r (List.mem_of_mem_take hr),h.gap.sublist (List.take_sublist _ _)⟩
theorem Ws {q:Bool} {p:Prop} (h:q=true ↔ p) (hp:p):q=true:=h.2 hp
def Hy:List BS->Int
 | []=>0
 |r::l=>(r.2 - r.1 + 1) + Hy l
theorem Jw (l m:List BS):Hy (l ++ m)=Hy l + Hy m:=by
 induction l with
 |nil=>simp [Hy]
 |cons r l ih=>rw [List.cons_append,Hy,Hy,ih];omega
theorem P8 {l:List BS} {k:Nat} (hk:k < l.length):Hy (l.take (k + 1))=Hy (l.take k) + (l[k].2 - l[k].1 + 1):=by
 rw [List.take_succ_eq_append_getElem hk,Jw];simp [Hy]
theorem P9 {l:List BS} (h:Eu l):0 <= Hy l:=by
 induction l with
 |nil=>exact Int.le_refl _
 |cons r l ih=>
  have:=ih (CJ.1 h).2.2;have:=(CJ.1 h).1;rw [Hy];omega
theorem Ms {l:List BS} (h:Eu l) (k:Nat):Hy (l.take k) <= Hy l:=by
 have e:Hy l=Hy (l.take k) + Hy (l.drop k):=by rw [<-Jw,List.take_append_drop]
 have:0 <= Hy (l.drop k):=P9 ⟨fun r hr=>h.le r (List.mem_of_mem_drop hr),h.gap.sublist (List.drop_sublist _ _)⟩;omega
theorem M5 {x y:Int} (hx:0 <= x) (hy:0 <= y) (w:World):(callFunc 39 #[.int .u64 x,.int .u64 y,.int .u64 0]).run Tryz.prog w= .ok (.value (.tuple #[.int .u64 ((x + y) % 18446744073709551616),.int .u64 ((x + y) / 18446744073709551616)])) w:=
 Nl Tryz.func39 (by kernel_rfl) (by kernel_rfl) (by kernel_rfl) (by kernel_rfl) hx hy w
theorem Rj (a:Option Addr) (n c:Nat) (l:List BS) (A:Nat->Prop) (w:World) (hx:Br Bg w A a n c l) (hc:Eu l) (hn:n <= 1000000):
 Calls Tryz.prog 21 #[Bz a n c] w fun e w'=>e= .returned (.int .u64 (min (Hy l) CG))/\Below w.heap.size w w':=by
 have hl:=hx.len;have hok:=Dl hx;refine BZ Tryz.func21 rfl rfl (Hp.refl w) ?_;repeat (first |refine Ai ?_ |refine Ab ?_)
 refine AY Aa rfl (fun b hb=>?_);repeat (first |refine Ai ?_ |refine Ab ?_ |refine Aq ?_ |refine Ag ?_ |refine Ae Aa rfl ?_ |refine An Aa 0 rfl rfl rfl ?_)
 refine AM (ι:=Nat) (fun i=>[(3,.int .u64 (Hy (l.take i))),(11,.slice a n c),(12,.int .i64 (n:Int)),(13,.int .i64 (i:Int))])
  (fun i=>[]) (fun i=>i <= n/\Hy (l.take i) <= CG) (fun i=>n - i) 0 ⟨Nat.zero_le _,by unfold CG;simp [Hy]⟩ (by repeat (first |exact As.nil |refine As.cons rfl ?_)) (fun w' hw=>hw.dropn hb) ?_
 rintro k ⟨hk,hT⟩;have h0:=P9 (Rn hc k);unfold CG at hT;repeat (first |refine Ai ?_ |refine Ab ?_ |refine Ag ?_ |refine Ae Aa rfl ?_)
 refine Ak rfl (fun h=>?_) (fun h=>?_)
 ·have hk':k < l.length:=by omega
  have hokk:=hok _ (List.getElem_mem hk');have u1:=BF hokk.1;have u2:=BF hokk.2;have hle:=Gu hc hk';have hs:=P8 hk';have hT1:=Ms hc (k + 1);obtain ⟨ab,off,cs,rfl,hlt,_⟩:=hx.get_ hk';repeat (first |refine Ai ?_ |refine Ab ?_ |refine Aq ?_ |refine Ad ?_ |refine Ao ?_)
  refine BE (Bs (sz:=2) Aa rfl rfl rfl rfl rfl rfl rfl rfl (j:=k) (by omega)) ?_;refine BR Aa (vs:=C6 l[k]) rfl rfl rfl (fun w' hw=>B7 (hx.ext (hw.below (by repeat (first |exact Ar)))) hk') ?_;refine AY Aa rfl (fun b5 hb5=>?_);repeat (first |refine Ai ?_ |refine Ab ?_ |refine Ag ?_ |refine D2 Aa rfl (by omega) ?_ |refine Ae Aa rfl ?_ |refine An Aa 0 rfl rfl rfl ?_ |refine Ax Aa 0 rfl rfl rfl rfl rfl rfl ?_)
  refine UX rfl (fun w'=>M5 (x:=l[k].2 - l[k].1) (y:=1) (by omega) (by decide) w') ?_;repeat (first |refine Ai ?_ |refine Ab ?_ |refine Ag ?_ |refine Ae Aa rfl ?_)
  refine UX rfl (fun w'=>M5 (x:=Hy (l.take k)) (y:=(l[k].2 - l[k].1 + 1) % 18446744073709551616) h0 (by omega) w') ?_;repeat (first |refine Ai ?_ |refine Ab ?_ |refine Ag ?_ |refine D2 Aa rfl (by omega) ?_ |refine Ae Aa rfl ?_)
  refine Ak rfl (fun h1=>?_) (fun h1=>?_)
  ·have e:min (Hy l) CG=18446744073709551615:=by unfold CG;omega
   rw [e];repeat (first |refine Ai ?_ |refine Ab ?_ |refine Ag ?_ |refine BQ ?_ |refine AI ?_ |refine AC ?_ |refine Ae Aa rfl ?_)
   exact AZ rfl rfl (fun w' hw=>⟨rfl,hw.below (by repeat (first |exact Ar |refine AA (by first |assumption |omega) ?_))⟩)
  ·have e:(Hy (l.take k) + (l[k].2 - l[k].1 + 1) % 18446744073709551616) % 18446744073709551616=Hy (l.take (k + 1)):=by omega
   rw [e];repeat (first |refine Ab ?_ |refine Ag ?_ |refine Ad ?_ |refine Am ?_ |refine Ao ?_ |refine AD Aa rfl (by omega) ?_ |refine Ae Aa rfl ?_ |refine Ap ?_)
   exact ⟨k + 1,⟨by omega,by unfold CG;omega⟩,by repeat (first |exact As.nil |refine As.cons rfl ?_),fun w' hw=>hw.dropn hb5,by omega⟩
 ·have e:k=n:=by omega
  subst e;rw [List.take_of_length_le (by omega)] at hT ⊢
  have e:min (Hy l) CG=Hy l:=by unfold CG;omega
  rw [e];repeat (first |refine Ai ?_ |refine Ab ?_ |refine Ag ?_ |refine Ad ?_ |refine AB ?_ |refine Al ?_ |refine AC ?_ |refine AH ?_ |refine Ae Aa rfl ?_)
  exact AZ rfl rfl (fun w' hw=>⟨rfl,hw.below (by repeat (first |exact Ar))⟩)
section
variable {S T:Int->Prop} {B C:Nat} {v u:Value} {A D:Nat->Prop}
theorem UR (x:Int) (q:Bool) (w:World) (h:(By S B).at_ w A v) (hB:B <= 900000) (hq:q=true ↔ S x):
 Calls Tryz.prog 67 #[v,.int .u64 x] w fun e w'=>e= .returned (.bool q)/\Below w.heap.size w w':=
 (W9 x w h hB).mono fun e w' ⟨v,e1,e2,q',e3,e4⟩=>by
  have:q'=q:=by cases q<;>cases q'<;>simp_all
  subst this;exact ⟨by rw [e1,e3],e2⟩
end
end Go.Proofs.YtidhpofcofknhaaGreat
