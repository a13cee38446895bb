/-
  An engine of rules for walks, part A: frames as association lists of slots, the heap as a list of owned blocks, straight-line steps that only compute. No program's text; conditions: each theorem's own. An engine of rules for walks, part B: the straight-line steps that only compute. No program's text; conditions: each theorem's own. An engine of rules for walks, part C: entering and leaving a function, memory of the call's own, calls. No program's text; conditions: each theorem's own. An engine of rules for walks, part D: regions that draw their order. Whatever order is drawn, each operation finds in its own slots what it would find in the text's order; what it answers is told by a predicate that stays true whatever is made meanwhile. No program's text; conditions: each theorem's own. An engine of rules for walks, part E: the steps within a region that draws its order. No program's text; 
  Conditions: each theorem's own.
-/
import Derived.Lib.SliceRun
import Derived.Maps.AppendAt
import Derived.Orders
import Derived.WalkKit
import Derived.WalkSpells
namespace Go.Proofs.YtidhpofcofknhaaGreat
open Go Go.RowKit
set_option linter.unusedVariables false
abbrev FL:=List (Nat × Value)
def AP:FL->Nat->Option Value
 | [],_=>none
 |(k,v)::l,t=>match Nat.beq k t with
  |true=>some v
  |false=>AP l t
theorem B6 (k:Nat) (v:Value) (l:FL):AP ((k,v)::l) k=some v:=by
 simp [AP]
theorem BU {k t:Nat} (h:k ≠ t) (v:Value) (l:FL):AP ((k,v)::l) t=AP l t:=by
 have:Nat.beq k t=false:=by
  cases hb:Nat.beq k t with
  |false=>rfl
  |true=>exact absurd (Nat.eq_of_beq_eq_true hb) h
 simp [AP,this]
def ev (r:Nat->Option Value):Operand->Option Value
 | .tmp t=>r t
 | .const v=>some v
 | .global g=>some (.pointer (some ⟨g,0,none⟩))
 | .func f=>some (.func (.func f) #[] #[])
structure Fr (a:Act) (n:Nat) (l:FL):Prop where
 defers:a.defers= []
 size:a.tmps.size=n
 get:∀ t v,AP l t=some v->a.tmps[t]? =some v
def Rd (a:Act) (r:Nat->Option Value):Prop:=∀ t v,r t=some v->a.tmps[t]? =some v
theorem Fr.rd {a:Act} {n:Nat} {l:FL} (h:Fr a n l):Rd a (AP l):=h.get
theorem Rd.ev {a:Act} {r:Nat->Option Value} (h:Rd a r) {x:Operand} {v:Value} (hx:ev r x=some v):a.eval x=v:=by
 cases x with
 |tmp t=>
  have:=h t v hx;simp [Act.eval,Array.getD_eq_getD_getElem?,this]
 |const u=>simpa [Go.Proofs.YtidhpofcofknhaaGreat.ev,Act.eval] using hx
 |global g=>simpa [Go.Proofs.YtidhpofcofknhaaGreat.ev,Act.eval] using hx
 |func f=>simpa [Go.Proofs.YtidhpofcofknhaaGreat.ev,Act.eval] using hx
theorem Fr.put {a:Act} {n:Nat} {l:FL} (h:Fr a n l) {d:Nat} (hd:d < n) (v:Value):Fr (a.put (some d) v) n ((d,v)::l):=by
 refine ⟨h.defers,by simp [Act.put,h.size],fun t u hu=>?_⟩;by_cases hdt:d=t
 ·subst hdt;rw [B6] at hu;cases hu;simp [Act.put,h.size,hd]
 ·rw [BU hdt] at hu;have:=h.get t u hu;simp [Act.put,hdt,this]
def As (l' l:FL):Prop:=∀ t v,AP l' t=some v->AP l t=some v
theorem As.nil {l:FL}:As [] l:=fun t v h=>by simp [AP] at h
theorem As.cons {k:Nat} {v:Value} {l' l:FL} (h:AP l k=some v) (hs:As l' l):As ((k,v)::l') l:=by
 intro t u hu;by_cases hkt:k=t
 ·subst hkt;rw [B6] at hu;rw [<-hu];exact h
 ·rw [BU hkt] at hu;exact hs t u hu
theorem As.cons_int {k:Nat} {kd:IntKind} {e e':Int} {l' l:FL} (h:AP l k=some (.int kd e)) (he:e=e') (hs:As l' l):As ((k,.int kd e')::l') l:=by
 subst he;exact As.cons h hs
theorem As.refl (l:FL):As l l:=fun _ _ h=>h
theorem Fr.sub {a:Act} {n:Nat} {l l':FL} (h:Fr a n l) (hs:As l' l):Fr a n l':=⟨h.defers,h.size,fun t v hv=>h.get t v (hs t v hv)⟩
inductive HE where
 |blk (b:Nat) (x:Obj) (r:Bool)
 |row (base:Nat) (v:Value) (e:TypeId) (sz n:Nat) (xs:List Value)
 |rep (Φ:World->Prop) (F:Nat->Prop) (r:Bool)
def PW (Φ:World->Prop) (F:Nat->Prop):Prop:=∀ w w':World,(∀ k,F k->w'.heap[k]? =w.heap[k]?)->Φ w->Φ w'
def HE.has:HE->Nat->Prop
 | .blk b _ _,k=>some b=some k
 | .row _ v _ _ _ _,k=>v.ownBlock=some k
 | .rep _ F _,k=>F k
def HE.ex:HE->Bool
 | .blk _ _ r=>r
 | .row .. =>true
 | .rep _ _ r=>r
def HE.holds (w:World):HE->Prop
 | .blk b x _=>w.heap[b]? =some x
 | .row base v e sz n xs=>w.ownsRow base e sz v n xs
 | .rep Φ F _=>Φ w/\PW Φ F/\∀ k,F k->k < w.heap.size
theorem AU {w:World} {b:Nat} {x:Obj} (h:w.heap[b]? =some x):b < w.heap.size:=by
 rcases Nat.lt_or_ge b w.heap.size with hlt |hge
 ·exact hlt
 ·rw [Array.getElem?_eq_none hge] at h;cases h
theorem HE.lt {w:World} {e:HE} (h:e.holds w) {k:Nat} (hk:e.has k):k < w.heap.size:=by
 cases e with
 |blk b x r=>simp only [HE.has,Option.some.injEq] at hk;subst hk;exact AU h
 |row base v t sz n xs=>exact (World.ownsRow.lt h k hk).2
 |rep Φ F r=>exact h.2.2 k hk
theorem HE.keep {w w':World} {e:HE} (h:e.holds w) (hk:∀ k,e.has k->w'.heap[k]? =w.heap[k]?):e.holds w':=by
 cases e with
 |blk b x r=>exact (hk b rfl).trans h
 |row base v t sz n xs=>
  obtain ⟨h1,h2⟩:=h;refine ⟨h1,?_⟩
  rcases h2 with h2 |⟨g,cap,cur,rfl,hb,hg,rest⟩
  ·exact .inl h2
  ·exact .inr ⟨g,cap,cur,rfl,hb,(hk g rfl).trans hg,rest⟩
 |rep Φ F r=>exact ⟨h.2.1 w w' hk h.1,h.2.1,fun k hkF=>by
  obtain ⟨x,hx⟩:∃ x,w.heap[k]? =some x:=⟨_,Array.getElem?_eq_getElem (h.2.2 k hkF)⟩
  exact AU ((hk k hkF).trans hx)⟩
def PZ (x y:HE):Prop:=(x.ex || y.ex)=true->∀ k,x.has k->¬ y.has k
abbrev OL:=List HE
structure Hp (w0 w:World) (o:OL):Prop where
 os:w.os=w0.os
 tape:w.tape=w0.tape
 output:w.output=w0.output
 size:w0.heap.size <= w.heap.size
 old:∀ k,k < w0.heap.size->(∀ e ∈ o,e.ex=true->¬ e.has k)->w.heap[k]? =w0.heap[k]?
 own:∀ e ∈ o,e.holds w
 apart:o.Pairwise PZ
theorem Hp.refl (w:World):Hp w w []:=⟨rfl,rfl,rfl,Nat.le_refl _,fun _ _ _=>rfl,by simp,List.Pairwise.nil⟩
theorem Hp.start {w:World} {b:Nat} {x:Obj} (r:Bool) (h:w.heap[b]? =some x):Hp w w [.blk b x r]:=⟨rfl,rfl,rfl,Nat.le_refl _,fun _ _ _=>rfl,by simpa [HE.holds] using h,by simp⟩
theorem Hp.lt {w0 w:World} {o:OL} (h:Hp w0 w o) {e:HE} (he:e ∈ o) {k:Nat} (hk:e.has k):k < w.heap.size:=HE.lt (h.own e he) hk
theorem Hp.below {w0 w:World} {o:OL} (h:Hp w0 w o) (ho:∀ e ∈ o,e.ex=true->∀ k,e.has k->w0.heap.size <= k):Below w0.heap.size w0 w:=
 ⟨h.os,h.tape,h.output,h.size,fun k hk=>h.old k hk fun e he hx hh=>by have:=ho e he hx k hh;omega⟩
theorem Hp.ext {w0 w w':World} {o:OL} (h:Hp w0 w o) (hb:Below w.heap.size w w'):Hp w0 w' o:=
 ⟨hb.os.trans h.os,hb.tape.trans h.tape,hb.output.trans h.output,Nat.le_trans h.size hb.size,
  fun k hk he=>(hb.block k (Nat.lt_of_lt_of_le hk h.size)).trans (h.old k hk he),
  fun e he=>HE.keep (h.own e he) fun k hk=>hb.block k (h.lt he hk),h.apart⟩
theorem Hp.more {w0 w:World} {o:OL} (h:Hp w0 w o) {x:HE} (hx:x.holds w) (hne:∀ e ∈ o,PZ x e):Hp w0 w (x::o):=
 ⟨h.os,h.tape,h.output,h.size,fun k hk he=>h.old k hk fun e hm=>he e (List.mem_cons_of_mem _ hm),
  fun e he=>by
   rcases List.mem_cons.1 he with rfl |he
   ·exact hx
   ·exact h.own e he,
  List.Pairwise.cons (fun e he=>hne e he) h.apart⟩
theorem Hp.fresh {w0 w w':World} {o:OL} (h:Hp w0 w o) (hb:Below w.heap.size w w') {x:HE} (hx:x.holds w') (hid:∀ k,x.has k->w.heap.size <= k):Hp w0 w' (x::o):=
 (h.ext hb).more hx fun e he _ k hk hk'=>by
  have h1:=hid k hk;have h2:=h.lt he hk';omega
theorem Hp.alloc {w0 w:World} {o:OL} (h:Hp w0 w o) (x:Obj):Hp w0 (w.alloc x) (.blk w.heap.size x true::o):=
 h.fresh ((Below.refl _ _).alloc (Nat.le_refl _) _) (heap_alloc_new w x) fun k hk=>by simp only [HE.has,Option.some.injEq] at hk;omega
theorem Hp.drop {w0 w:World} {e:HE} {o:OL} (h:Hp w0 w (e::o)) (he:e.ex=true->∀ k,e.has k->w0.heap.size <= k):Hp w0 w o:=
 ⟨h.os,h.tape,h.output,h.size,fun k hk hk'=>h.old k hk fun x hx hx'=>by
  rcases List.mem_cons.1 hx with rfl |hx
  ·intro hh;have:=he hx' k hh;omega
  ·exact hk' x hx hx',
  fun x hx=>h.own x (List.mem_cons_of_mem _ hx),(List.pairwise_cons.1 h.apart).2⟩
theorem Hp.drew {w0 w:World} {o:OL} (h:Hp w0 w o):Hp w0 w.drew o:=⟨h.os,h.tape,h.output,h.size,h.old,fun e he=>HE.keep (h.own e he) fun _ _=>rfl,h.apart⟩
theorem PZ.symm {x y:HE} (h:PZ x y):PZ y x:=fun hr k hk hk'=>h (by rw [Bool.or_comm];exact hr) k hk' hk
theorem Hp.perm {w0 w:World} {o o':OL} (h:Hp w0 w o) (hp:o.Perm o'):Hp w0 w o':=
 ⟨h.os,h.tape,h.output,h.size,fun k hk he=>h.old k hk fun e hm=>he e (hp.mem_iff.1 hm),fun e he=>h.own e (hp.mem_iff.2 he),hp.pairwise h.apart (fun h=>h.symm)⟩
theorem Hp.turn {w0 w w':World} {pre post:OL} {x x':HE} (h:Hp w0 w (pre ++ x::post)) (hex:x.ex=true) (hos:w'.os=w.os) (htape:w'.tape=w.tape) (hout:w'.output=w.output)
 (hsize:w.heap.size <= w'.heap.size) (hold:∀ k,k < w.heap.size->¬ x.has k->w'.heap[k]? =w.heap[k]?) (hnew:x'.holds w') (hid:∀ k,x'.has k->x.has k \/ w.heap.size <= k) (hkeep:∀ k,x.has k->w0.heap.size <= k \/ x'.has k) (hex':x'.ex=true:=by rfl):
 Hp w0 w' (pre ++ x'::post):=by
 have hp:=h.apart;rw [List.pairwise_append] at hp;obtain ⟨hp1,hp2,hp3⟩:=hp;rw [List.pairwise_cons] at hp2
 have hmem:∀ e,e ∈ pre \/ e ∈ post->e ∈ pre ++ x::post:=by
  rintro e (he |he)
  ·exact List.mem_append.2 (.inl he)
  ·exact List.mem_append.2 (.inr (List.mem_cons_of_mem _ he))
 have hdis:∀ e,e ∈ pre \/ e ∈ post->∀ k,e.has k->¬ x.has k:=by
  rintro e (he |he) k hk
  ·exact hp3 e he _ List.mem_cons_self (by simp [hex]) k hk
  ·exact fun hh=>hp2.1 e he (by simp [hex]) k hh hk
 have hdis':∀ e,e ∈ pre \/ e ∈ post->∀ k,e.has k->¬ x'.has k:=by
  intro e he k hk hh
  rcases hid k hh with h1 |h1
  ·exact hdis e he k hk h1
  ·have:=h.lt (hmem e he) hk;omega
 refine ⟨hos.trans h.os,htape.trans h.tape,hout.trans h.output,Nat.le_trans h.size hsize,fun k hk he=>?_,fun e he=>?_,?_⟩
 ·have hx':¬ x'.has k:=he x' (List.mem_append.2 (.inr List.mem_cons_self)) hex'
  have hxk:¬ x.has k:=fun hh=>by
   rcases hkeep k hh with h1 |h1
   ·omega
   ·exact hx' h1
  rw [hold k (Nat.lt_of_lt_of_le hk h.size) hxk];refine h.old k hk fun e hm hme=>?_
  rcases List.mem_append.1 hm with hm |hm
  ·exact he e (List.mem_append.2 (.inl hm)) hme
  ·rcases List.mem_cons.1 hm with rfl |hm
   ·exact hxk
   ·exact he e (List.mem_append.2 (.inr (List.mem_cons_of_mem _ hm))) hme
 ·have key:∀ e,e ∈ pre \/ e ∈ post->e.holds w':=fun e he=>HE.keep (h.own e (hmem e he)) fun k hk=>hold k (h.lt (hmem e he) hk) (hdis e he k hk)
  rcases List.mem_append.1 he with he |he
  ·exact key e (.inl he)
  ·rcases List.mem_cons.1 he with rfl |he
   ·exact hnew
   ·exact key e (.inr he)
 ·rw [List.pairwise_append,List.pairwise_cons];refine ⟨hp1,⟨fun e he _ k hk hk'=>hdis' e (.inr he) k hk' hk,hp2.2⟩,fun a ha c hc hr k hk=>?_⟩
  rcases List.mem_cons.1 hc with rfl |hc
  ·exact hdis' a (.inl ha) k hk
  ·exact hp3 a ha c (List.mem_cons_of_mem _ hc) hr k hk
theorem Hp.openRow {w0 w:World} {pre post:OL} {base:Nat} {a:Option Addr} {c:Nat} {e:TypeId} {sz n:Nat} {xs:List Value} (h:Hp w0 w (pre ++ .row base (.slice a n c) e sz n xs::post)) (hn:0 < n):
 ∃ b junk,a=some ⟨b,0,none⟩/\base <= b/\n <= c/\xs.length=n * sz/\(xs ++ junk).length=c * sz/\c <= maxLen/\Hp w0 w (pre ++ .blk b (.cells ⟨xs ++ junk⟩ e (0,0)) true::post):=by
 have hr:=h.own _ (List.mem_append.2 (.inr List.mem_cons_self));obtain ⟨h1,h2⟩:=hr
 rcases h2 with ⟨_,h2⟩ |⟨g,cap,cur,hv,hb,hg,hnc,hcm,hcs,htake⟩
 ·omega
 ·cases hv
  have hcur:cur.toList=xs ++ cur.toList.drop (n * sz):=by rw [<-htake,List.take_append_drop]
  refine ⟨g,cur.toList.drop (n * sz),rfl,hb,hnc,h1,by rw [<-hcur];simpa using hcs,hcm,?_⟩;rw [<-hcur];have hg':w.heap[g]? =some (.cells ⟨cur.toList⟩ e (0,0)):=hg;exact h.turn (x':=.blk g (.cells ⟨cur.toList⟩ e (0,0)) true) rfl rfl rfl rfl (Nat.le_refl _) (fun _ _ _=>rfl) hg' (fun k hk=>.inl hk) (fun k hk=>.inr hk)
theorem Hp.closeRow {w0 w:World} {pre post:OL} {base b n c:Nat} {e:TypeId} {sz:Nat} {cs:List Value} (h:Hp w0 w (pre ++ .blk b (.cells ⟨cs⟩ e (0,0)) true::post)) (hb:base <= b) (hnc:n <= c) (hc:c <= maxLen) (hl:cs.length=c * sz):
 Hp w0 w (pre ++ .row base (.slice (some ⟨b,0,none⟩) n c) e sz n (cs.take (n * sz))::post):=by
 have hr:=h.own _ (List.mem_append.2 (.inr List.mem_cons_self));refine h.turn rfl rfl rfl rfl (Nat.le_refl _) (fun _ _ _=>rfl) ?_ (fun k hk=>.inl hk) (fun k hk=>.inr hk);refine ⟨?_,.inr ⟨b,c,⟨cs⟩,rfl,hb,hr,hnc,hc,by simpa using hl,rfl⟩⟩;rw [List.length_take,hl];exact Nat.min_eq_left (Nat.mul_le_mul_right _ hnc)
abbrev B3:=Exit->FL->OL->Prop
def Cr (n:Nat) (w0:World) (Q:B3):Exit->Act->World->Prop:=fun e a w=>∃ l o,Fr a n l/\Hp w0 w o/\Q e l o
def BK (K:FL->OL->Prop) (Q:B3):B3
 | .normal,l,o=>K l o
 |e,l,o=>Q e l o
def Tb (id:Nat) (Q:B3):B3
 | .exit i,l,o=>match Nat.beq i id with
  |true=>Q .normal l o
  |false=>Q (.exit i) l o
 |e,l,o=>Q e l o
theorem Ad {K:FL->OL->Prop} {Q:B3} {l:FL} {o:OL} (h:K l o):BK K Q .normal l o:=h
theorem AI {K:FL->OL->Prop} {Q:B3} {l:FL} {o:OL} (h:Q .ret l o):BK K Q .ret l o:=h
theorem Al {K:FL->OL->Prop} {Q:B3} {i:Nat} {l:FL} {o:OL} (h:Q (.exit i) l o):BK K Q (.exit i) l o:=h
theorem Am {id:Nat} {Q:B3} {l:FL} {o:OL} (h:Q .normal l o):Tb id Q .normal l o:=h
theorem BQ {id:Nat} {Q:B3} {l:FL} {o:OL} (h:Q .ret l o):Tb id Q .ret l o:=h
theorem AB {id:Nat} {Q:B3} {l:FL} {o:OL} (h:Q .normal l o):Tb id Q (.exit id) l o:=by simp [Tb,h]
theorem Cx {id i:Nat} {Q:B3} {l:FL} {o:OL} (hne:Nat.beq i id=false) (h:Q (.exit i) l o):Tb id Q (.exit i) l o:=by simp [Tb,hne,h]
attribute [irreducible] BK Tb Cr
structure T (P:Program) (n:Nat) (w0:World) (c:Code) (l:FL) (o:OL) (Q:B3):Prop where
 out:∀ a w,Fr a n l->Hp w0 w o->c.wp P (Cr n w0 Q) a w
structure S (P:Program) (n:Nat) (w0:World) (all:Array Oper) (ops:List Oper) (l:FL) (o:OL) (K:FL->OL->Prop) (Q:B3):Prop where
 out:∀ a w,Fr a n l->Hp w0 w o->wpList P all (Cr n w0 (BK K Q)) ops a w
section
variable {P:Program} {n:Nat} {w0:World} {l:FL} {ol:OL} {Q:B3}
theorem FC {Q Q':B3} (h:∀ e l o,Q e l o->Q' e l o):∀ e a w,Cr n w0 Q e a w->Cr n w0 Q' e a w:=by
 unfold Cr;rintro e a w ⟨l,o,h1,h2,h3⟩;exact ⟨l,o,h1,h2,h _ _ _ h3⟩
theorem Pw {K:FL->OL->Prop} {Q:B3} {K':Act->World->Prop} (h:∀ a w l o,Fr a n l->Hp w0 w o->K l o->K' a w):
 ∀ e a w,Cr n w0 (BK K Q) e a w->Exit.then K' (Cr n w0 Q) e a w:=by
 unfold Cr BK;rintro e a w ⟨l,o,h1,h2,h3⟩
 cases e with
 |normal=>exact h a w l o h1 h2 h3
 |_=>exact ⟨l,o,h1,h2,h3⟩
theorem Ai {x y:Code} (h:T P n w0 x l ol (BK (fun l o=>T P n w0 y l o Q) Q)):T P n w0 (.seq x y) l ol Q:=
 ⟨fun a w hf hh=>wp_seq (wp_mono (h.out a w hf hh) (Pw fun a w l o h1 h2 h3=>h3.out a w h1 h2))⟩
theorem Ao (h:Q .normal l ol):T P n w0 .skip l ol Q:=⟨fun a w hf hh=>wp_skip (by unfold Cr;exact ⟨l,ol,hf,hh,h⟩)⟩
theorem AC (h:Q .ret l ol):T P n w0 .ret l ol Q:=⟨fun a w hf hh=>wp_ret (by unfold Cr;exact ⟨l,ol,hf,hh,h⟩)⟩
theorem AH {id:Nat} (h:Q (.exit id) l ol):T P n w0 (.exit id) l ol Q:=⟨fun a w hf hh=>wp_exit (by unfold Cr;exact ⟨l,ol,hf,hh,h⟩)⟩
theorem Aq {id:Nat} {c:Code} (h:T P n w0 c l ol (Tb id Q)):T P n w0 (.block id c) l ol Q:=
 ⟨fun a w hf hh=>wp_block (wp_mono (h.out a w hf hh) (by
  unfold Cr Tb;rintro e a w ⟨l,o,h1,h2,h3⟩
  cases e with
  |exit i=>
   simp only [Exit.inBlock];by_cases hi:i=id
   ·subst hi;simp only [if_true];exact ⟨l,o,h1,h2,by simpa using h3⟩
   ·rw [if_neg hi]
    have:Nat.beq i id=false:=by
     cases hb:Nat.beq i id with
     |false=>rfl
     |true=>exact absurd (Nat.eq_of_beq_eq_true hb) hi
    simp only [this] at h3;exact ⟨l,o,h1,h2,h3⟩
  |_=>exact ⟨l,o,h1,h2,h3⟩))⟩
theorem CK {c:Operand} {x y:Code} {t:Bool} (hc:ev (AP l) c=some (.bool t)) (ht:t=true->T P n w0 x l ol Q) (hf:t=false->T P n w0 y l ol Q):T P n w0 (.cond c x y) l ol Q:=
 ⟨fun a w h1 h2=>wp_cond_split (h1.rd.ev hc) (fun h=>(ht h).out a w h1 h2) (fun h=>(hf h).out a w h1 h2)⟩
theorem AX {c:Operand} {x y:Code} (hc:ev (AP l) c=some (.bool true)) (ht:T P n w0 x l ol Q):T P n w0 (.cond c x y) l ol Q:=CK hc (fun _=>ht) (fun h=>by cases h)
theorem AG {c:Operand} {x y:Code} (hc:ev (AP l) c=some (.bool false)) (hf:T P n w0 y l ol Q):T P n w0 (.cond c x y) l ol Q:=CK hc (fun h=>by cases h) (fun _=>hf)
theorem Ak {c:Operand} {x y:Code} {p:Prop} {_:Decidable p} (hc:ev (AP l) c=some (.bool (decide p))) (ht:p->T P n w0 x l ol Q) (hf:¬ p->T P n w0 y l ol Q):T P n w0 (.cond c x y) l ol Q:=
 CK hc (fun h=>ht (of_decide_eq_true h)) (fun h=>hf (of_decide_eq_false h))
theorem El {c:Operand} {x y:Code} {p:Prop} {_:Decidable p} (hc:ev (AP l) c=some (.bool (!decide p))) (ht:¬ p->T P n w0 x l ol Q) (hf:p->T P n w0 y l ol Q):T P n w0 (.cond c x y) l ol Q:=
 CK hc (fun h=>ht (by simpa using h)) (fun h=>hf (by simpa using h))
theorem Ab {id:Nat} {ops:List Oper} {K:FL->OL->Prop} (h:S P n w0 ops.toArray ops l ol K Q):T P n w0 (.region id ops.toArray false) l ol (BK K Q):=
 ⟨fun a w hf hh=>wp_region_lit (h.out a w hf hh)⟩
theorem Ap {id:Nat} {ops:List Oper} (h:S P n w0 ops.toArray ops l ol (fun l o=>Q .normal l o) Q):T P n w0 (.region id ops.toArray false) l ol Q:=
 ⟨fun a w hf hh=>wp_mono (wp_region_lit (h.out a w hf hh)) (by
  unfold Cr BK;rintro e a w ⟨l,o,h1,h2,h3⟩
  cases e<;>exact ⟨l,o,h1,h2,h3⟩)⟩
theorem WC {c:Code} {Q':B3} (h:T P n w0 c l ol Q) (hq:∀ e l o,Q e l o->Q' e l o):T P n w0 c l ol Q':=
 ⟨fun a w h1 h2=>wp_mono (h.out a w h1 h2) (FC hq)⟩
theorem Lo {c:Code} {l':FL} (hs:As l' l) (h:T P n w0 c l' ol Q):T P n w0 c l ol Q:=⟨fun a w h1 h2=>h.out a w (h1.sub hs) h2⟩
theorem Gy {c:Code} {ol':OL} (hs:∀ w,Hp w0 w ol->Hp w0 w ol') (h:T P n w0 c l ol' Q):T P n w0 c l ol Q:=⟨fun a w h1 h2=>h.out a w h1 (hs w h2)⟩
theorem AM {c:Code} {ι:Type} (L:ι->FL) (O:ι->OL) (I:ι->Prop) (μ:ι->Nat) (i0:ι) (h0:I i0) (hl:As (L i0) l) (ho:∀ w,Hp w0 w ol->Hp w0 w (O i0))
 (round:∀ i,I i->T P n w0 c (L i) (O i) (BK (fun l' o'=>∃ i',I i'/\As (L i') l'/\(∀ w,Hp w0 w o'->Hp w0 w (O i'))/\μ i' < μ i) Q)):
 T P n w0 (.loop c) l ol Q:=by
 refine ⟨fun a w hf hh b k cs=>?_⟩
 have key:∀ m i a w,μ i=m->I i->Fr a n (L i)->Hp w0 w (O i)->
  ∃ e a' w',Cr n w0 Q e a' w'/\Arrives P (lone (b.at a (.code c::.inLoop c::k)) cs w) b k cs e a' w':=by
  intro m
  induction m using Nat.strongRecOn with
  |_ m ih=>
   intro i a w hm hI hf hh;obtain ⟨e,a1,w1,hq,harr⟩:=(round i hI).out a w hf hh b (.inLoop c::k) cs
   cases e with
   |normal=>
    unfold Cr BK at hq;obtain ⟨l1,o1,hf1,hh1,i',hI',hs',ho',hlt⟩:=hq;obtain ⟨e2,a2,w2,hq2,harr2⟩:=ih (μ i') (hm ▸ hlt) i' a1 w1 rfl hI' (hf1.sub hs') (ho' w1 hh1);exact ⟨e2,a2,w2,hq2,.of_steps (Steps.trans harr (.one step_inLoop)) harr2⟩
   |exit id=>exact ⟨_,a1,w1,by unfold Cr BK at hq;unfold Cr;exact hq,.pass (x:=.inLoop c) rfl (fun _ _=>.inl (by simp)) harr⟩
   |goto l=>exact ⟨_,a1,w1,by unfold Cr BK at hq;unfold Cr;exact hq,.pass (x:=.inLoop c) rfl (fun _ _=>.inl (by simp)) harr⟩
   |ret=>exact ⟨_,a1,w1,by unfold Cr BK at hq;unfold Cr;exact hq,.pass (x:=.inLoop c) rfl (fun _ _=>.inl (by simp)) harr⟩
   |panic ch=>exact ⟨_,a1,w1,by unfold Cr BK at hq;unfold Cr;exact hq,.pass (x:=.inLoop c) rfl (fun _ _=>.inl (by simp)) harr⟩
   |outgrown=>exact ⟨_,a1,w1,by unfold Cr BK at hq;unfold Cr;exact hq,.pass (x:=.inLoop c) rfl (fun _ _=>.inl (by simp)) harr⟩
 obtain ⟨e,a',w',hq,harr⟩:=key _ i0 a w rfl h0 (hf.sub hl) (ho w hh);exact ⟨e,a',w',hq,.of_steps (.one step_loop) harr⟩
end
structure TI where
 desc:TypeDesc
 size:Nat
 bytes:Nat
 zero:Value
abbrev EU:=List (Nat × TI)
def tl:EU->Nat->Option TI
 | [],_=>none
 |(k,v)::l,t=>match Nat.beq k t with
  |true=>some v
  |false=>tl l t
def A6 (P:Program) (t:Nat) (i:TI):Prop:=P.underlying t=some i.desc/\∃ inf,P.info? t=some inf/\inf.zero=some i.zero/\inf.size=i.size/\inf.bytes=i.bytes
def AW (P:Program) (tb:EU):Prop:=∀ t i,tl tb t=some i->A6 P t i
theorem AW.nil (P:Program):AW P []:=fun t i h=>by simp [tl] at h
theorem AW.cons {P:Program} {k:Nat} {v:TI} {tb:EU} (h:A6 P k v) (hs:AW P tb):AW P ((k,v)::tb):=by
 intro t i hi;simp only [tl] at hi
 cases hb:Nat.beq k t with
 |true=>rw [hb] at hi;simp at hi;subst hi;rw [<-Nat.eq_of_beq_eq_true hb];exact h
 |false=>rw [hb] at hi;exact hs t i hi
section
variable {P:Program} {tb:EU}
theorem AW.under (ht:AW P tb) {t:Nat} {i:TI} (h:tl tb t=some i) (w:World):(underlying t).run P w= .ok i.desc w:=run_underlying (ht t i h).1 w
theorem AW.inf (ht:AW P tb) {t:Nat} {i:TI} (h:tl tb t=some i) (w:World):∃ x,(typeInfo t).run P w= .ok x w/\x.zero=some i.zero/\x.size=i.size/\x.bytes=i.bytes:=by
 obtain ⟨_,x,hx,h1,h2,h3⟩:=ht t i h;exact ⟨x,by simp [typeInfo,hx],h1,h2,h3⟩
theorem AW.sizeOf (ht:AW P tb) {t:Nat} {i:TI} (h:tl tb t=some i) (w:World):(sizeOf t).run P w= .ok i.size w:=by
 obtain ⟨x,hx,_,h2,_⟩:=ht.inf h w;simp [Go.sizeOf,hx,h2]
theorem AW.zeroOf (ht:AW P tb) {t:Nat} {i:TI} (h:tl tb t=some i) (w:World):(zeroValue t).run P w= .ok i.zero w:=by
 obtain ⟨x,hx,h1,_⟩:=ht.inf h w;simp [zeroValue,hx,h1]
end
def Eo:TypeDesc->Bool
 | .struct _=>true
 | .array _ _=>true
 |_=>false
section
variable {P:Program} {tb:EU}
theorem AW.agg (ht:AW P tb) {t:Nat} {i:TI} (h:tl tb t=some i) (w:World):(isAgg t).run P w= .ok (Eo i.desc) w:=by
 have:=ht.under h w;simp only [isAgg,Sem.run_bind,this,Result.andThen_ok];cases i.desc<;>simp [Eo]
end
def kq:IntKind->IntKind->Bool
 | .i8,.i8 | .i16,.i16 | .i32,.i32 | .i64,.i64 | .u8,.u8 | .u16,.u16 | .u32,.u32 | .u64,.u64=>true
 |_,_=>false
theorem QO {a b:IntKind} (h:kq a b=true):a=b:=by cases a<;>cases b<;>first |rfl |(simp [kq] at h)
def QS (op:BinOp) (k:IntKind) (a b:Int):Option Value:=
 match op with
 | .add=>some (.int k (k.wrap (a + b)))
 | .sub=>some (.int k (k.wrap (a - b)))
 | .mul=>some (.int k (k.wrap (a * b)))
 | .and=>some (.int k (bits .and k a b))
 | .or=>some (.int k (bits .or k a b))
 | .xor=>some (.int k (bits .xor k a b))
 | .andNot=>some (.int k (bits .andNot k a b))
 | .eql=>some (.bool (decide (a=b)))
 | .neq=>some (.bool (decide (a ≠ b)))
 | .lss=>some (.bool (decide (a < b)))
 | .leq=>some (.bool (decide (a <= b)))
 | .gtr=>some (.bool (decide (b < a)))
 | .geq=>some (.bool (decide (b <= a)))
 |_=>none
def Wx (op:BinOp) (x y:Value):Option Value:=
 match x,y with
 | .int k a,.int k' b=>match kq k k' with
  |true=>QS op k a b
  |false=>none
 |_,_=>none
def XU (op:UnOp) (x:Value):Option Value:=
 match op,x with
 | .not,.bool b=>some (.bool (!b))
 | .neg,.int k n=>some (.int k (k.wrap (0 - n)))
 | .xor,.int k n=>some (.int k (bits .xor k (match k.signed with |true=>-1 |false=>k.max) n))
 |_,_=>none
def Rk (dst:TypeDesc) (x:Value):Option Value:=
 match dst,x with
 | .int k,.int _ n=>some (.int k (k.wrap n))
 |_,_=>none
def Nr (tb:EU) (s:TypeDesc) (x:Value) (f:Nat):Option Value:=
 match s,x with
 | .struct fs,.pointer (some ⟨b,o,none⟩)=>match fs.toList[f]? with
  |some ⟨_,ty,off,_,_,_,_⟩=>match tl tb ty with
   |some ti=>match Nat.beq ti.size 0 with
    |true=>none
    |false=>some (.pointer (some ⟨b,o + off,none⟩))
   |none=>none
  |none=>none
 |_,_=>none
def MC (ti:TI) (cs:List Value) (off:Nat):Option Value:=
 match Eo ti.desc with
 |true=>some (.agg ((cs.drop off).take ti.size).toArray)
 |false=>cs[off]?
def NM (tb:EU) (s:TypeDesc) (x:Value) (f:Nat):Option Value:=
 match s,x with
 | .struct fs,.agg cs=>match fs.toList[f]? with
  |some fd=>match tl tb fd.type with
   |some ti=>MC ti cs.toList fd.offset
   |none=>none
  |none=>none
 |_,_=>none
def mm (mx:Bool) (x y:Value):Option Value:=
 match x,y with
 | .int k a,.int k' b=>match kq k k' with
  |true=>match mx with
   |true=>some (.int k (max a b))
   |false=>some (.int k (min a b))
  |false=>none
 |_,_=>none
def X1 (tb:EU) (b:Builtin) (ts:List TypeId) (xs:List Value):Option Value:=
 match b,ts,xs with
 | .len,[t],[x]=>match tl tb t with
  |some ti=>match ti.desc,x with
   | .slice _,.slice _ n _=>some (.int .i64 n)
   | .string,.string s=>some (.int .i64 s.size)
   | .array n _,_=>some (.int .i64 n)
   |_,_=>none
  |none=>none
 | .cap,[t],[x]=>match tl tb t with
  |some ti=>match ti.desc,x with
   | .slice _,.slice _ _ c=>some (.int .i64 c)
   |_,_=>none
  |none=>none
 | .max,_,[x,y]=>mm true x y
 | .min,_,[x,y]=>mm false x y
 |_,_,_=>none
def evs (r:Nat->Option Value):List Operand->Option (List Value)
 | []=>some []
 |x::xs=>match ev r x with
  |some v=>match evs r xs with
   |some vs=>some (v::vs)
   |none=>none
  |none=>none
def Ji (tb:EU) (r:Nat->Option Value) (op:Op):Option Value:=
 match op with
 | .move x=>ev r x
 | .assign x=>ev r x
 | .pick c a b=>match ev r c with
  |some (.bool true)=>ev r a
  |some (.bool false)=>ev r b
  |_=>none
 | .binOp op _ x y _=>match ev r x with
  |some u=>match ev r y with
   |some v=>Wx op u v
   |none=>none
  |none=>none
 | .unOp op _ x=>match ev r x with
  |some u=>XU op u
  |none=>none
 | .convert s d x=>match tl tb s with
  |some _=>match tl tb d with
   |some ti=>match ev r x with
    |some u=>Rk ti.desc u
    |none=>none
   |none=>none
  |none=>none
 | .extract t ix=>match ev r t with
  |some (.tuple vs)=>vs.toList[ix]?
  |_=>none
 | .fieldAddr s x f=>match tl tb s with
  |some ti=>match ev r x with
   |some u=>Nr tb ti.desc u f
   |none=>none
  |none=>none
 | .field s x f=>match tl tb s with
  |some ti=>match ev r x with
   |some u=>NM tb ti.desc u f
   |none=>none
  |none=>none
 | .nilCheck x=>match ev r x with
  |some (.pointer (some a))=>some (.pointer (some a))
  |_=>none
 | .call ⟨.builtin b,asx,ts⟩=>match evs r asx.toList with
  |some xs=>X1 tb b ts.toList xs
  |none=>none
 |_=>none
def gd (all:Array Oper) (r:Nat->Option Value) (g:Option (Nat × Bool)):Option Bool:=
 match g with
 |none=>some true
 |some (j,want)=>match all.toList[j]? with
  |some o=>match o.dst with
   |some d=>match r d with
    |some (.bool b)=>match want with
     |true=>some b
     |false=>some (!b)
    |some (.tuple _)=>some false
    |_=>none
   |none=>none
  |none=>none
theorem Bb {all:Array Oper} {r:Nat->Option Value} {o:Oper} {b:Bool} {a:Act} (hf:Rd a r) (h:gd all r o.guard=some b):Region.wanted o (yielded all a.tmps)=b:=by
 cases hg:o.guard with
 |none=>rw [hg] at h;simp [gd] at h;simp [Region.wanted,hg,<-h]
 |some p=>
  obtain ⟨j,want⟩:=p;rw [hg] at h;simp only [gd] at h;simp only [Region.wanted,hg,yielded]
  cases hj:all.toList[j]? with
  |none=>rw [hj] at h;simp at h
  |some oj=>
   rw [hj] at h;dsimp only at h
   have hj':all[j]? =some oj:=by simpa using hj
   cases hd:oj.dst with
   |none=>rw [hd] at h;simp at h
   |some d=>
    rw [hd] at h;dsimp only at h
    cases hl:r d with
    |none=>rw [hl] at h;simp at h
    |some v=>
     rw [hl] at h;have hg':=hf d v hl;cases v<;>simp at h
     ·rename_i c;simp only [hj',Option.bind_some,hd,hg'];cases want<;>cases c<;>simp_all
     ·simp only [hj',Option.bind_some,hd,hg'];simp [h]
def Dr (tb:EU) (n:Nat) (all:Array Oper) (r:Nat->Option Value) (o:Oper):Option (Nat × Value):=
 match gd all r o.guard with
 |some true=>match o.dst with
  |some d=>match Nat.blt d n with
   |true=>match Ji tb r o.op with
    |some v=>some (d,v)
    |none=>none
   |false=>none
  |none=>none
 |_=>none
theorem Rd.evs {a:Act} {r:Nat->Option Value} (h:Rd a r):∀ {xs:List Operand} {vs:List Value},Go.Proofs.YtidhpofcofknhaaGreat.evs r xs=some vs->xs.map a.eval=vs
 | [],vs,hv=>by simp [Go.Proofs.YtidhpofcofknhaaGreat.evs] at hv;simp [hv]
 |x::xs,vs,hv=>by
  simp only [Go.Proofs.YtidhpofcofknhaaGreat.evs] at hv
  cases hx:Go.Proofs.YtidhpofcofknhaaGreat.ev r x with
  |none=>rw [hx] at hv;simp at hv
  |some v=>
   rw [hx] at hv;dsimp only at hv
   cases hxs:Go.Proofs.YtidhpofcofknhaaGreat.evs r xs with
   |none=>rw [hxs] at hv;simp at hv
   |some us=>
    rw [hxs] at hv;dsimp only at hv;simp at hv;rw [<-hv,List.map_cons,h.ev hx,h.evs hxs]
section
variable {P:Program} {tb:EU} {w:World}
theorem Rv {op:BinOp} {u v r:Value} (h:Wx op u v=some r):(∀ t x y,(eqGuard op t x y u v).run P w= .ok () w)/\∀ t,(binOp op t u v).run P w= .ok r w:=by
 unfold Wx at h;split at h
 ·rename_i k a k' b;split at h
  ·rename_i hk;have:=QO hk;subst this;refine ⟨fun t x y=>by simp [eqGuard_at_int],fun t=>?_⟩
   cases op<;>simp only [QS,Option.some.injEq,reduceCtorEq] at h<;>subst h<;>
    simp [binOp,Op.intArith,Op.intCmp,intBits_and,intBits_or,intBits_xor,intBits_andNot]<;>rfl
  ·cases h
 ·cases h
theorem Sv {op:UnOp} {u r:Value} (h:XU op u=some r):(Op.unary op u).run P w= .ok r w:=by
 unfold XU at h;split at h
 ·simp at h;subst h;simp [Op.unary]
 ·simp at h;subst h;simp [Op.unary,Op.intArith]
 ·rename_i k n;simp at h;subst h;cases hk:k.signed<;>simp [Op.unary,hk,intBits_xor]
 ·cases h
theorem PG (ht:AW P tb) {s d:TypeId} {ti td:TI} (hs:tl tb s=some ti) (hd:tl tb d=some td) {u r:Value} (h:Rk td.desc u=some r):(convert s d u).run P w= .ok r w:=by
 unfold Rk at h;split at h
 ·rename_i k k' n hdesc;simp at h;subst h;have h1:=ht.under hs w;have h2:=ht.under hd w;rw [hdesc] at h2;simp only [convert,Sem.run_bind,h1,h2,Result.andThen_ok];cases ti.desc<;>simp [Conv.intToInt]
 ·cases h
theorem Nq (ht:AW P tb) {s:TypeId} {ti:TI} (hs:tl tb s=some ti) {u r:Value} {f:Nat} (h:Nr tb ti.desc u f=some r):(Instr.fieldAt s u f).run P w= .ok r w:=by
 unfold Nr at h;split at h
 ·rename_i fs b o hdesc;split at h
  ·rename_i nm ty off em tg pp bo hfd;split at h
   ·rename_i tf htf;split at h
    ·cases h
    ·rename_i hz;simp at h;subst h;have h1:=ht.under hs w;rw [hdesc] at h1;have h2:=ht.sizeOf htf w
     have hne:tf.size ≠ 0:=by rintro hh;rw [hh] at hz;simp at hz
     have hfd':fs[f]? =some ⟨nm,ty,off,em,tg,pp,bo⟩:=by simpa using hfd
     simp [Instr.fieldAt,h1,hfd',Instr.sureAddr,fieldPlace,h2,hne,Addr.add_lit]
   ·cases h
  ·cases h
 ·cases h
theorem JT (ht:AW P tb) {t:TypeId} {ti:TI} (hs:tl tb t=some ti) {cs:Array Value} {off:Nat} {r:Value} (h:MC ti cs.toList off=some r):(part t cs off).run P w= .ok r w:=by
 have h1:=ht.agg hs w;have h2:=ht.sizeOf hs w;unfold MC at h;unfold part;simp only [Sem.run_bind,h1,Result.andThen_ok];split at h
 ·rename_i ha;rw [ha];simp at h;subst h;simp only [if_true,Sem.run_bind,h2,Result.andThen_ok,Sem.run_pure];congr 2;apply Array.ext';rw [Array.toList_extract,List.extract_eq_take_drop];congr 1;omega
 ·rename_i ha;rw [ha]
  have h':cs[off]? =some r:=by simpa using h
  simp [h']
theorem NL (ht:AW P tb) {s:TypeId} {ti:TI} (hs:tl tb s=some ti) {u r:Value} {f:Nat} (h:NM tb ti.desc u f=some r):(Instr.field s u f).run P w= .ok r w:=by
 unfold NM at h;split at h
 ·rename_i fs cs hdesc;split at h
  ·rename_i fd hfd;split at h
   ·rename_i tf htf;have h1:=ht.under hs w;rw [hdesc] at h1
    have hfd':fs[f]? =some fd:=by simpa using hfd
    simp only [Instr.field,Sem.run_bind,h1,Result.andThen_ok,hfd',asAgg,Sem.run_pure];exact JT ht htf h
   ·cases h
  ·cases h
 ·cases h
theorem Vm {x y r:Value} (h:mm true x y=some r):(Builtin.max_ #[] 0 #[x,y]).run P w= .ok r w:=by
 unfold mm at h;split at h
 ·rename_i k a k' b;split at h
  ·rename_i hk;have:=QO hk;subst this;simp at h;subst h;simp [Builtin.max_,Builtin.max2];split<;>omega
  ·cases h
 ·cases h
theorem Vl {x y r:Value} (h:mm false x y=some r):(Builtin.min_ #[] 0 #[x,y]).run P w= .ok r w:=by
 unfold mm at h;split at h
 ·rename_i k a k' b;split at h
  ·rename_i hk;have:=QO hk;subst this;simp at h;subst h;simp [Builtin.min_,Builtin.min2];split<;>omega
  ·cases h
 ·cases h
theorem Uy (ht:AW P tb) {b:Builtin} {ts:List TypeId} {ty:TypeId} {cs:Array Bool} {xs:List Value} {r:Value} (h:X1 tb b ts xs=some r):
 (builtin b ts.toArray ty cs xs.toArray).run P w= .ok (.value r) w:=by
 unfold X1 at h;split at h
 ·rename_i t x;split at h
  ·rename_i ti hti;have h1:=ht.under hti w;split at h
   ·rename_i e a n c hd;simp at h;subst h;rw [hd] at h1;simp [builtin,Builtin.len_,h1,goInt]
   ·rename_i s hd;simp at h;subst h;rw [hd] at h1;simp [builtin,Builtin.len_,h1,goInt]
   ·rename_i k e hd;simp at h;subst h;rw [hd] at h1;simp [builtin,Builtin.len_,h1,goInt]
   ·cases h
  ·cases h
 ·rename_i t x;split at h
  ·rename_i ti hti;have h1:=ht.under hti w;split at h
   ·rename_i e a n c hd;simp at h;subst h;rw [hd] at h1;simp [builtin,Builtin.cap_,h1,goInt]
   ·cases h
  ·cases h
 ·rename_i x y;have:=Vm (P:=P) (w:=w) h;simp only [Builtin.max_] at this;simp [builtin,Builtin.max_] at this ⊢;simp [this]
 ·rename_i x y;have:=Vl (P:=P) (w:=w) h;simp only [Builtin.min_] at this;simp [builtin,Builtin.min_] at this ⊢;simp [this]
 ·cases h
theorem JS (ht:AW P tb) {r:Nat->Option Value} {o:Oper} {a:Act} {v:Value} (hf:Rd a r) (h:Ji tb r o.op=some v) (w:World):(execOp a.eval o).run P w= .ok (.value v) w:=by
 unfold execOp;generalize o.op=op at h;unfold Ji at h;split at h
 ·simp [hf.ev h]
 ·simp [hf.ev h]
 ·split at h
  ·rename_i hc;simp [hf.ev hc,asBool,hf.ev h]
  ·rename_i hc;simp [hf.ev hc,asBool,hf.ev h]
  ·cases h
 ·split at h
  ·rename_i hx;split at h
   ·rename_i hy;obtain ⟨h1,h2⟩:=Rv (P:=P) (w:=w) h;simp [hf.ev hx,hf.ev hy,h1,h2]
   ·cases h
  ·cases h
 ·split at h
  ·rename_i hx;simp [hf.ev hx,Sv h]
  ·cases h
 ·split at h
  ·rename_i hs;split at h
   ·rename_i hd;split at h
    ·rename_i hx;simp [hf.ev hx,PG ht hs hd h]
    ·cases h
   ·cases h
  ·cases h
 ·split at h
  ·rename_i hx;rw [Array.getElem?_toList] at h;simp [hf.ev hx,Instr.extract,h]
  ·cases h
 ·split at h
  ·rename_i hs;split at h
   ·rename_i hx;simp [hf.ev hx,Nq ht hs h]
   ·cases h
  ·cases h
 ·split at h
  ·rename_i hs;split at h
   ·rename_i hx;simp [hf.ev hx,NL ht hs h]
   ·cases h
  ·cases h
 ·split at h
  ·rename_i hx;simp at h;subst h;simp [hf.ev hx]
  ·cases h
 ·split at h
  ·rename_i hx;rename_i b asx ts x xs;have hv:=hf.evs hx
   have hm:asx.map a.eval=xs.toArray:=by
    apply Array.ext';simpa using hv
   simp only [resolve,invoke,hm,Sem.run_bind,Sem.run_pure,Result.andThen_ok];exact Uy (ts:=ts.toList) ht h
  ·cases h
 ·cases h
variable {n:Nat} {w0:World} {all:Array Oper} {rest:List Oper} {o:Oper} {l:FL} {ol:OL} {K:FL->OL->Prop} {Q:B3}
theorem Ag (h:K l ol):S P n w0 all [] l ol K Q:=
 ⟨fun a w hf hh=>by unfold wpList Cr BK;exact ⟨l,ol,hf,hh,h⟩⟩
theorem B4 {Q':Exit->Act->World->Prop} {a:Act} {w w':World} {v:Value} {ops:List Oper} (hw:Region.wanted o (yielded all a.tmps)=true) (hr:(execOp a.eval o).run P w= .ok (.value v) w')
 (h:wpList P all Q' ops (a.put o.dst v) w'):wpList P all Q' (o::ops) a w:=by
 unfold wpList;rw [if_pos hw];left;simp only [Oper.wp,hr,Oper.upon];exact h
theorem Ei {Q':Exit->Act->World->Prop} {a:Act} {w w':World} {ops:List Oper} (hw:Region.wanted o (yielded all a.tmps)=true) (hr:(execOp a.eval o).run P w= .ok .skip w')
 (h:wpList P all Q' ops (a.put o.dst undef) w'):wpList P all Q' (o::ops) a w:=by
 unfold wpList;rw [if_pos hw];left;simp only [Oper.wp,hr,Oper.upon];exact h
theorem Ae (ht:AW P tb) {d:Nat} {v:Value} (hs:Dr tb n all (AP l) o=some (d,v)) (k:S P n w0 all rest ((d,v)::l) ol K Q):S P n w0 all (o::rest) l ol K Q:=by
 refine ⟨fun a w hf hh=>?_⟩;unfold Dr at hs;split at hs
 ·rename_i hg;split at hs
  ·rename_i d' hd;split at hs
   ·rename_i hb;split at hs
    ·rename_i v' hv;simp at hs;obtain ⟨rfl,rfl⟩:=hs;refine B4 (Bb hf.rd hg) (JS ht hf.rd hv w) ?_;rw [hd]
     have hlt:d' < n:=by simpa [Nat.blt_eq] using hb
     exact k.out _ w (hf.put hlt _) hh
    ·cases hs
   ·cases hs
  ·cases hs
 ·cases hs
theorem Ls (ht:AW P tb) {d:Nat} {v v':Value} (hs:Dr tb n all (AP l) o=some (d,v)) (he:v=v') (k:S P n w0 all rest ((d,v')::l) ol K Q):S P n w0 all (o::rest) l ol K Q:=
 Ae ht hs (he ▸ k)
theorem AD (ht:AW P tb) {d:Nat} {e:Int} (hs:Dr tb n all (AP l) o=some (d,.int .i64 (IntKind.i64.wrap e))) (hb:-9223372036854775808 <= e/\e <= 9223372036854775807)
 (k:S P n w0 all rest ((d,.int .i64 e)::l) ol K Q):S P n w0 all (o::rest) l ol K Q:=Ls ht hs (by rw [IntWalk.i64_in _ hb]) k
theorem D2 (ht:AW P tb) {d:Nat} {e:Int} (hs:Dr tb n all (AP l) o=some (d,.int .u64 (IntKind.u64.wrap e))) (hb:0 <= e/\e <= 18446744073709551615)
 (k:S P n w0 all rest ((d,.int .u64 e)::l) ol K Q):S P n w0 all (o::rest) l ol K Q:=Ls ht hs (by rw [IntWalk.u64_in _ hb]) k
theorem Bn {d:Nat} (hg:gd all (AP l) o.guard=some false) (hd:o.dst=some d) (hn:Nat.blt d n=true) (k:S P n w0 all rest ((d,undef)::l) ol K Q):S P n w0 all (o::rest) l ol K Q:=by
 refine ⟨fun a w hf hh=>?_⟩;unfold wpList;rw [if_neg (by rw [Bb hf.rd hg];simp),hd];exact k.out _ w (hf.put (by simpa [Nat.blt_eq] using hn) _) hh
theorem Xw {ops:List Oper} {l':FL} (hs:As l' l) (h:S P n w0 all ops l' ol K Q):S P n w0 all ops l ol K Q:=⟨fun a w h1 h2=>h.out a w (h1.sub hs) h2⟩
theorem Co {ops:List Oper} (d:Nat) {v v':Value} (hl:AP l d=some v) (he:v=v') (h:S P n w0 all ops ((d,v')::l) ol K Q):S P n w0 all ops l ol K Q:=
 Xw (As.cons (he ▸ hl) (As.refl l)) h
theorem B0 {ops:List Oper} {ol':OL} (hs:∀ w,Hp w0 w ol->Hp w0 w ol') (h:S P n w0 all ops l ol' K Q):S P n w0 all ops l ol K Q:=⟨fun a w h1 h2=>h.out a w h1 (hs w h2)⟩
def QV (all:Array Oper) (g:Option (Nat × Bool)):Option Nat:=
 match g with
 |none=>none
 |some (j,_)=>match all.toList[j]? with
  |some o=>o.dst
  |none=>none
theorem BI {d:Nat} {p:Prop} {_:Decidable p} (hg:QV all o.guard=some d) (hl:AP l d=some (.bool (decide p))) (ht:p->S P n w0 all (o::rest) ((d,.bool true)::l) ol K Q)
 (hf:¬ p->S P n w0 all (o::rest) ((d,.bool false)::l) ol K Q):S P n w0 all (o::rest) l ol K Q:=by
 by_cases hp:p
 ·exact Co d hl (by simp [hp]) (ht hp)
 ·exact Co d hl (by simp [hp]) (hf hp)
theorem Oper.wp_mono2 {a:Act} {w:World} {K1 K2:Act->World->Prop} {Q1 Q2:Exit->Act->World->Prop} (h:∀ a w,K1 a w->K2 a w) (hq:∀ e a w,Q1 e a w->Q2 e a w) (hh:o.wp P a w K1 Q1):o.wp P a w K2 Q2:=by
 unfold Oper.wp at *;generalize (execOp a.eval o).run P w=r at *
 cases r with
 |ok x w'=>
  cases x<;>simp only [Oper.upon] at hh ⊢<;>try exact h _ _ hh
  ·refine hh.mono fun e w'' he=>?_
   cases e with
   |returned v=>exact h _ _ he
   |panicked c=>exact hq _ _ _ he
   |outgrown=>obtain ⟨a',w3,h3⟩:=he;exact ⟨a',w3,hq _ _ _ h3⟩
  ·exact hh.mono fun v w'' he=>h _ _ he
 |halt x w'=>
  cases x<;>simp only [Oper.upon] at hh ⊢;exact hq _ _ _ hh
theorem C8 {Q1 Q2:Exit->Act->World->Prop} (hq:∀ e a w,Q1 e a w->Q2 e a w):∀ (ops:List Oper) (a:Act) (w:World),wpList P all Q1 ops a w->wpList P all Q2 ops a w
 | [],a,w,h=>hq _ _ _ h
 |o::ops,a,w,h=>by
  unfold wpList at h ⊢;split
  ·rename_i hw;rw [if_pos hw] at h
   rcases h with h |⟨h,a',w',h'⟩
   ·exact .inl (Oper.wp_mono2 (fun a w=>C8 hq ops a w) hq h)
   ·exact .inr ⟨h,a',w',hq _ _ _ h'⟩
  ·rename_i hw;rw [if_neg hw] at h;exact C8 hq ops _ w h
theorem FK {ops:List Oper} {ι:Type} (I:ι->Prop) (L:ι->FL) (O:ι->OL) (h:S P n w0 all ops l ol (fun l1 o1=>∃ i,I i/\As (L i) l1/\∀ w,Hp w0 w o1->Hp w0 w (O i)) Q) (k:∀ i,I i->K (L i) (O i)):S P n w0 all ops l ol K Q:=
 ⟨fun a w h1 h2=>by
  refine C8 ?_ ops a w (h.out a w h1 h2);unfold Cr BK;rintro e a w ⟨l1,o1,hf,hh,hq⟩
  cases e with
  |normal=>obtain ⟨i,hi,hs,ho⟩:=hq;exact ⟨L i,O i,hf.sub hs,ho w hh,k i hi⟩
  |_=>exact ⟨l1,o1,hf,hh,hq⟩⟩
theorem BN {c:Code} {ι:Type} (I:ι->Prop) (L:ι->FL) (O:ι->OL) (h:T P n w0 c l ol (BK (fun l1 o1=>∃ i,I i/\As (L i) l1/\∀ w,Hp w0 w o1->Hp w0 w (O i)) Q)) (k:∀ i,I i->K (L i) (O i)):T P n w0 c l ol (BK K Q):=
 ⟨fun a w h1 h2=>by
  refine wp_mono (h.out a w h1 h2) ?_;unfold Cr BK;rintro e a w ⟨l1,o1,hf,hh,hq⟩
  cases e with
  |normal=>obtain ⟨i,hi,hs,ho⟩:=hq;exact ⟨L i,O i,hf.sub hs,ho w hh,k i hi⟩
  |_=>exact ⟨l1,o1,hf,hh,hq⟩⟩
end
def DZ (P:Program) (fn:Func) (n:Nat) (w0:World) (R:Ending->World->Prop):B3:=fun e l o=>
 match e with
 | .normal=>∀ a w,Fr a n l->Hp w0 w o->∃ v,(results fn a.tmps).run P w= .ok v w/\R (.returned v) w
 | .ret=>∀ a w,Fr a n l->Hp w0 w o->∃ v,(results fn a.tmps).run P w= .ok v w/\R (.returned v) w
 |_=>False
section
variable {P:Program} {f:FuncId} {fn:Func} {c:Code} {w0:World} {R:Ending->World->Prop}
theorem FF {args:Array Value} {l:FL} {o:OL} (hf:P.funcs[f]? =some fn) (hb:fn.body=some c) (ho:Hp w0 w0 o)
 (hl:Fr { tmps:=args ++ Array.replicate (fn.ntmps - args.size) undef,defers:=[]} fn.ntmps l)
 (h:T P fn.ntmps w0 c l o (DZ P fn fn.ntmps w0 R)):Calls P f args w0 R:=by
 refine calls_of_wp hf hb (wp_mono (h.out _ w0 hl ho) ?_);unfold Cr DZ;rintro e a w ⟨l,o,h1,h2,h3⟩
 cases e with
 |normal=>obtain ⟨v,hr,hR⟩:=h3 a w h1 h2;exact ⟨h1.defers,v,hr,hR⟩
 |ret=>obtain ⟨v,hr,hR⟩:=h3 a w h1 h2;exact ⟨h1.defers,v,hr,hR⟩
 |_=>exact h3.elim
def WS:List Value->Nat->FL
 | [],_=>[]
 |v::vs,k=>(k,v)::WS vs (k + 1)
theorem MK:∀ (vs:List Value) (k t:Nat) (v:Value),AP (WS vs k) t=some v->k <= t/\vs[t - k]? =some v
 | [],k,t,v,h=>by simp [WS,AP] at h
 |u::vs,k,t,v,h=>by
  by_cases hkt:k=t
  ·subst hkt;rw [WS,B6] at h;simp at h;simp [h]
  ·rw [WS,BU hkt] at h;obtain ⟨h1,h2⟩:=MK vs (k + 1) t v h;refine ⟨by omega,?_⟩
   have:t - k=t - (k + 1) + 1:=by omega
   rw [this];simpa using h2
theorem Q5 {args:List Value} {n:Nat} (hn:args.length <= n):Fr { tmps:=args.toArray ++ Array.replicate (n - args.toArray.size) undef,defers:=[]} n (WS args 0):=by
 refine ⟨rfl,by simp;omega,fun t v h=>?_⟩;obtain ⟨_,h2⟩:=MK args 0 t v h
 have hlt:t < args.length:=by
  rcases Nat.lt_or_ge t args.length with h' |h'
  ·exact h'
  ·simp [List.getElem?_eq_none h'] at h2
 simp only [Nat.sub_zero] at h2;show (args.toArray ++ Array.replicate (n - args.toArray.size) undef)[t]? =some v;rw [Array.getElem?_append_left (by simpa using hlt)];simpa using h2
theorem Ra (hf:P.funcs[f]? =some fn) (hb:fn.body=some c) {o:OL} (ho:Hp w0 w0 o) (h:T P fn.ntmps w0 c [] o (DZ P fn fn.ntmps w0 R)):Calls P f #[] w0 R:=
 FF hf hb ho (Q5 (args:=[]) (Nat.zero_le _)) h
theorem BZ {v0:Value} (hf:P.funcs[f]? =some fn) (hb:fn.body=some c) (hn:Nat.ble 1 fn.ntmps=true) {o:OL} (ho:Hp w0 w0 o) (h:T P fn.ntmps w0 c [(0,v0)] o (DZ P fn fn.ntmps w0 R)):Calls P f #[v0] w0 R:=
 FF hf hb ho (Q5 (args:=[v0]) (Nat.le_of_ble_eq_true hn)) h
theorem BO {v0 v1:Value} (hf:P.funcs[f]? =some fn) (hb:fn.body=some c) (hn:Nat.ble 2 fn.ntmps=true) {o:OL} (ho:Hp w0 w0 o) (h:T P fn.ntmps w0 c [(0,v0),(1,v1)] o (DZ P fn fn.ntmps w0 R)):Calls P f #[v0,v1] w0 R:=
 FF hf hb ho (Q5 (args:=[v0,v1]) (Nat.le_of_ble_eq_true hn)) h
theorem EP {v0 v1 v2:Value} (hf:P.funcs[f]? =some fn) (hb:fn.body=some c) (hn:Nat.ble 3 fn.ntmps=true) {o:OL} (ho:Hp w0 w0 o) (h:T P fn.ntmps w0 c [(0,v0),(1,v1),(2,v2)] o (DZ P fn fn.ntmps w0 R)):Calls P f #[v0,v1,v2] w0 R:=
 FF hf hb ho (Q5 (args:=[v0,v1,v2]) (Nat.le_of_ble_eq_true hn)) h
theorem Q9 {v0 v1 v2 v3:Value} (hf:P.funcs[f]? =some fn) (hb:fn.body=some c) (hn:Nat.ble 4 fn.ntmps=true) {o:OL} (ho:Hp w0 w0 o) (h:T P fn.ntmps w0 c [(0,v0),(1,v1),(2,v2),(3,v3)] o (DZ P fn fn.ntmps w0 R)):Calls P f #[v0,v1,v2,v3] w0 R:=
 FF hf hb ho (Q5 (args:=[v0,v1,v2,v3]) (Nat.le_of_ble_eq_true hn)) h
theorem Q8 {v0 v1 v2 v3 v4:Value} (hf:P.funcs[f]? =some fn) (hb:fn.body=some c) (hn:Nat.ble 5 fn.ntmps=true) {o:OL} (ho:Hp w0 w0 o) (h:T P fn.ntmps w0 c [(0,v0),(1,v1),(2,v2),(3,v3),(4,v4)] o (DZ P fn fn.ntmps w0 R)):Calls P f #[v0,v1,v2,v3,v4] w0 R:=
 FF hf hb ho (Q5 (args:=[v0,v1,v2,v3,v4]) (Nat.le_of_ble_eq_true hn)) h
def I5 (P:Program) (w0:World) (l:FL) (o:OL):ResultVar->Value->Prop
 | .tmp t,v=>AP l t=some v
 | .cell t ty,v=>∃ ad,AP l t=some (.pointer (some ad))/\∀ w,Hp w0 w o->(loadVar ty ad).run P w= .ok v w
def LN (tmps:Array Value):ResultVar->Sem Value
 | .tmp t=>pure (tmps.getD t undef)
 | .cell a t=>do loadVar t (<-asAddr (tmps.getD a undef))
theorem JQ (fn:Func) (tmps:Array Value):results fn tmps=(do let vs <-fn.results.mapM (LN tmps);pure (if h:vs.size=1 then vs[0] else .tuple vs)):=rfl
theorem LM {n:Nat} {l:FL} {o:OL} {a:Act} {w:World} (hf:Fr a n l) (hh:Hp w0 w o) {r:ResultVar} {v:Value} (h:I5 P w0 l o r v):(LN a.tmps r).run P w= .ok v w:=by
 cases r with
 |tmp t=>have:=hf.get t v h;simp [LN,Array.getD_eq_getD_getElem?,this]
 |cell t ty=>
  obtain ⟨ad,h1,h2⟩:=h;have:=hf.get t _ h1;simp [LN,Array.getD_eq_getD_getElem?,this,asAddr,h2 w hh]
variable {n:Nat} {l:FL} {o:OL}
theorem Pm (hr:fn.results= #[]) (h:∀ w,Hp w0 w o->R (.returned (.tuple #[])) w):DZ P fn n w0 R .ret l o:=
 fun a w hf hh=>⟨_,by simp [results,hr],h w hh⟩
theorem CM (hr:fn.results= #[]) (h:∀ w,Hp w0 w o->R (.returned (.tuple #[])) w):DZ P fn n w0 R .normal l o:=
 fun a w hf hh=>⟨_,by simp [results,hr],h w hh⟩
theorem AZ {r:ResultVar} {v:Value} (hr:fn.results= #[r]) (hv:I5 P w0 l o r v) (h:∀ w,Hp w0 w o->R (.returned v) w):DZ P fn n w0 R .ret l o:=
 fun a w hf hh=>⟨v,by rw [JQ,hr];simp [LM hf hh hv],h w hh⟩
theorem Ey {r s:ResultVar} {v u:Value} (hr:fn.results= #[r,s]) (hv:I5 P w0 l o r v) (hu:I5 P w0 l o s u) (h:∀ w,Hp w0 w o->R (.returned (.tuple #[v,u])) w):DZ P fn n w0 R .ret l o:=
 fun a w hf hh=>⟨_,by rw [JQ,hr];simp [LM hf hh hv,LM hf hh hu],h w hh⟩
end
def B9:OL->Nat->Option HE
 | [],_=>none
 |e::_,0=>some e
 |_::ol,i + 1=>B9 ol i
def Dc:OL->Nat->HE->Option OL
 | [],_,_=>none
 |_::ol,0,x=>some (x::ol)
 |e::ol,i + 1,x=>match Dc ol i x with
  |some r=>some (e::r)
  |none=>none
theorem Af:∀ {ol:OL} {i:Nat} {e:HE},B9 ol i=some e->e ∈ ol
 | [],_,_,h=>by simp [B9] at h
 |x::ol,0,e,h=>by simp [B9] at h;simp [h]
 |x::ol,i + 1,e,h=>List.mem_cons_of_mem _ (Af (ol:=ol) (i:=i) h)
theorem CP:∀ {ol ol':OL} {i:Nat} {x x':HE},B9 ol i=some x->Dc ol i x'=some ol'->∃ pre post,ol=pre ++ x::post/\ol'=pre ++ x'::post
 | [],_,_,_,_,h,_=>by simp [B9] at h
 |y::ol,ol',0,x,x',h,h'=>by
  simp [B9] at h;subst h;simp [Dc] at h';exact ⟨[],ol,rfl,by simp [<-h']⟩
 |e::ol,ol',i + 1,x,x',h,h'=>by
  simp only [Dc] at h';split at h'
  ·rename_i q hq;simp at h';obtain ⟨pre,post,h1,h2⟩:=CP (ol:=ol) (i:=i) h hq;exact ⟨e::pre,post,by simp [h1],by simp [<-h',h2]⟩
  ·cases h'
def Cp:List Value->Nat->List Value->Option (List Value)
 |cs,0,[]=>some cs
 |c::cs,0,v::vs=>match Cp cs 0 vs with
  |some r=>some (v::r)
  |none=>none
 |c::cs,k + 1,vs=>match Cp cs k vs with
  |some r=>some (c::r)
  |none=>none
 | [],_,_=>none
theorem FQ:∀ {cs:List Value} {off:Nat} {vs cs':List Value},Cp cs off vs=some cs'->off + vs.length <= cs.length/\cs'=cs.take off ++ vs ++ cs.drop (off + vs.length)
 |cs,0,[],cs',h=>by simp [Cp] at h;simp [h]
 |c::cs,0,v::vs,cs',h=>by
  simp only [Cp] at h;split at h
  ·rename_i r hr;simp at h;obtain ⟨h1,h2⟩:=FQ (cs:=cs) (off:=0) hr;refine ⟨by simp at h1 ⊢;omega,?_⟩;rw [<-h,h2];simp
  ·cases h
 |c::cs,k + 1,vs,cs',h=>by
  simp only [Cp] at h;split at h
  ·rename_i r hr;simp at h;obtain ⟨h1,h2⟩:=FQ (cs:=cs) (off:=k) hr;refine ⟨by simp at h1 ⊢;omega,?_⟩;rw [<-h,h2,Nat.add_right_comm k 1];simp
  ·cases h
 | [],k + 1,vs,cs',h=>by simp [Cp] at h
 | [],0,v::vs,cs',h=>by simp [Cp] at h
def Da (v:Value):Option (List Value):=
 match v with
 | .agg ⟨l⟩=>some l
 | .tuple _=>none
 |v=>some [v]
def Ku:List Value->Bool
 | []=>true
 |v::vs=>match v with
  | .agg _=>false
  | .tuple _=>false
  |_=>Ku vs
theorem CL {v:Value} {l:List Value} (h:Da v=some l):v.cells=l.toArray:=by
 cases v<;>simp [Da] at h<;>subst h<;>simp [Value.cells]
theorem Kt:∀ {vs:List Value},Ku vs=true->∀ v ∈ vs,v.oneCell'=true
 | [],_,v,hv=>by simp at hv
 |u::vs,h,v,hv=>by
  rcases List.mem_cons.1 hv with rfl |hv
  ·cases v<;>first |rfl |(simp [Ku] at h)
  ·refine Kt (vs:=vs) ?_ v hv
   cases u<;>first |exact h |(simp [Ku] at h)
def LF:List Value->Nat->Nat->Option (List Value)
 |_,0,0=>some []
 |c::cs,0,n + 1=>match LF cs 0 n with
  |some r=>some (c::r)
  |none=>none
 |_::cs,k + 1,n=>LF cs k n
 | [],_,_=>none
theorem JA:∀ {cs:List Value} {off n:Nat} {r:List Value},LF cs off n=some r->r.length=n/\∀ j u,r[j]? =some u->cs[off + j]? =some u
 |cs,0,0,r,h=>by simp [LF] at h;subst h;simp
 |c::cs,0,n + 1,r,h=>by
  simp only [LF] at h;split at h
  ·rename_i q hq;simp at h;subst h;obtain ⟨h1,h2⟩:=JA (cs:=cs) (off:=0) hq;refine ⟨by simp [h1],fun j u hj=>?_⟩
   cases j with
   |zero=>simpa using hj
   |succ j=>have:=h2 j u (by simpa using hj);simpa using this
  ·cases h
 |c::cs,k + 1,n,r,h=>by
  simp only [LF] at h;obtain ⟨h1,h2⟩:=JA (cs:=cs) (off:=k) h;refine ⟨h1,fun j u hj=>?_⟩;have:=h2 j u hj
  have e:k + 1 + j=k + j + 1:=by omega
  rw [e];simpa using this
 | [],k + 1,n,r,h=>by simp [LF] at h
 | [],0,n + 1,r,h=>by simp [LF] at h
def IH (ti:TI) (cs:List Value) (off:Nat):Option Value:=
 match Eo ti.desc with
 |true=>match LF cs off ti.size with
  |some r=>some (.agg ⟨r⟩)
  |none=>none
 |false=>cs[off]?
section
variable {P:Program} {tb:EU} {n:Nat} {w0:World} {all:Array Oper} {rest:List Oper} {o:Oper} {l:FL} {ol:OL} {K:FL->OL->Prop} {Q:B3}
theorem Gn (ht:AW P tb) {t:TypeId} {ti:TI} (hti:tl tb t=some ti) (ha:Eo ti.desc=true) {w:World} {ad:Addr} {vs:List Value} (hl:vs.length=ti.size) (h:∀ j u,vs[j]? =some u->w.cell? (ad.add j)=some u):
 (loadVar t ad).run P w= .ok (.agg ⟨vs⟩) w:=by
 have h1:=ht.agg hti w;have h2:=ht.sizeOf hti w;rw [ha] at h1;have h3:=run_loadCells_list (P:=P) w ad vs h;rw [hl] at h3;simp [loadVar,h1,h2,h3]
theorem E5 (ht:AW P tb) {t:TypeId} {ti:TI} (hti:tl tb t=some ti) (ha:Eo ti.desc=false) {w:World} {ad:Addr} {v:Value} (h:w.cell? ad=some v):(loadVar t ad).run P w= .ok v w:=by
 have h1:=ht.agg hti w;rw [ha] at h1;simp [loadVar,h1,h]
theorem E4 (ht:AW P tb) {t:TypeId} {ti:TI} (hti:tl tb t=some ti) {w:World} {b off:Nat} {cs:List Value} {e:TypeId} {fz:Nat × Nat} (hb:w.heap[b]? =some (.cells ⟨cs⟩ e fz)) {v:Value} (hv:IH ti cs off=some v):
 (loadVar t ⟨b,off,none⟩).run P w= .ok v w:=by
 unfold IH at hv;split at hv
 ·rename_i ha;split at hv
  ·rename_i r hr;simp at hv;subst hv;obtain ⟨h1,h2⟩:=JA hr;refine Gn ht hti ha h1 fun j u hj=>?_;rw [Addr.add_lit,cell_of_row w b (off + j) _ e fz hb];simpa using h2 j u hj
  ·cases hv
 ·rename_i ha;refine E5 ht hti ha ?_;rw [cell_of_row w b off _ e fz hb];simpa using hv
def Dn (tb:EU) (n:Nat) (all:Array Oper) (r:Nat->Option Value) (o:Oper):Option (Nat × TypeId × TI × Addr):=
 match gd all r o.guard with
 |some true=>match o.dst with
  |some d=>match Nat.blt d n with
   |true=>match o.op with
    | .load t x=>match tl tb t with
     |some ti=>match ev r x with
      |some (.pointer (some ad))=>some (d,t,ti,ad)
      |_=>none
     |none=>none
    |_=>none
   |false=>none
  |none=>none
 |_=>none
theorem IN (ht:AW P tb) {d:Nat} {t:TypeId} {ti:TI} {ad:Addr} {v:Value} (hs:Dn tb n all (AP l) o=some (d,t,ti,ad)) (hv:tl tb t=some ti->∀ w,Hp w0 w ol->(loadVar t ad).run P w= .ok v w)
 (k:S P n w0 all rest ((d,v)::l) ol K Q):S P n w0 all (o::rest) l ol K Q:=by
 refine ⟨fun a w hf hh=>?_⟩;unfold Dn at hs;split at hs
 ·rename_i hg;split at hs
  ·rename_i d' hd;split at hs
   ·rename_i hb;split at hs
    ·rename_i t' x hop;split at hs
     ·rename_i ti' hti;split at hs
      ·rename_i ad' hx;simp at hs;obtain ⟨rfl,rfl,rfl,rfl⟩:=hs;refine B4 (v:=v) (Bb hf.rd hg) ?_ ?_ (w':=w)
       ·unfold execOp;simp [hop,hf.rd.ev hx,Instr.loadAt,Instr.sureAddr,hv hti w hh]
       ·rw [hd];exact k.out _ w (hf.put (by simpa [Nat.blt_eq] using hb) _) hh
      ·cases hs
     ·cases hs
    ·cases hs
   ·cases hs
  ·cases hs
 ·cases hs
theorem An (ht:AW P tb) (i:Nat) {d:Nat} {t:TypeId} {ti:TI} {b off:Nat} {v:Value} {cs:List Value} {e:TypeId} {fz:Nat × Nat} {r:Bool} (hs:Dn tb n all (AP l) o=some (d,t,ti,⟨b,off,none⟩))
 (hi:B9 ol i=some (.blk b (.cells ⟨cs⟩ e fz) r)) (hv:IH ti cs off=some v) (k:S P n w0 all rest ((d,v)::l) ol K Q):S P n w0 all (o::rest) l ol K Q:=
 IN ht hs (fun hti w hh=>E4 ht hti (hh.own _ (Af hi)) hv) k
theorem Bh (ht:AW P tb) {d:Nat} {t:TypeId} {ti:TI} {ad:Addr} {v:Value} (hs:Dn tb n all (AP l) o=some (d,t,ti,ad)) (ha:Eo ti.desc=false) (hv:∀ w,Hp w0 w ol->w.cell? ad=some v)
 (k:S P n w0 all rest ((d,v)::l) ol K Q):S P n w0 all (o::rest) l ol K Q:=
 IN ht hs (fun hti w hh=>E5 ht hti ha (hv w hh)) k
theorem BR (ht:AW P tb) {d:Nat} {t:TypeId} {ti:TI} {ad:Addr} {vs:List Value} (hs:Dn tb n all (AP l) o=some (d,t,ti,ad)) (ha:Eo ti.desc=true) (hl:vs.length=ti.size) (hv:∀ w,Hp w0 w ol->∀ j u,vs[j]? =some u->w.cell? (ad.add j)=some u)
 (k:S P n w0 all rest ((d,.agg ⟨vs⟩)::l) ol K Q):S P n w0 all (o::rest) l ol K Q:=
 IN ht hs (fun hti w hh=>Gn ht hti ha hl (hv w hh)) k
def DO (tb:EU) (all:Array Oper) (r:Nat->Option Value) (o:Oper):Option (Nat × Nat × List Value × Nat):=
 match gd all r o.guard with
 |some true=>match o.dst with
  |none=>match o.op with
   | .store t x y=>match tl tb t with
    |some ti=>match ev r x with
     |some (.pointer (some ⟨b,off,none⟩))=>match ev r y with
      |some v=>match Da v with
       |some vs=>some (b,off,vs,ti.size)
       |none=>none
      |none=>none
     |_=>none
    |none=>none
   |_=>none
  |_=>none
 |_=>none
theorem Hp.setRow {w:World} {pre post:OL} {b:Nat} {x:Obj} (h:Hp w0 w (pre ++ .blk b x true::post)) {cur cs:Array Value} {e:TypeId} (hx:x= .cells cur e (0,0)):Hp w0 (w.setRow b cs) (pre ++ .blk b (.cells cs e (0,0)) true::post):=by
 subst hx;have hb:=h.own _ (List.mem_append.2 (.inr List.mem_cons_self));exact h.turn rfl rfl rfl rfl (by simp) (fun k hk hne=>setRow_other w b k cs (fun e=>hne (by rw [e];rfl))) (setRow_heap w b cur cs e (0,0) hb) (fun k hk=>.inl hk) (fun k hk=>.inr hk)
theorem Ev (ht:AW P tb) {t:TypeId} {ti:TI} (hti:tl tb t=some ti) {w:World} {b off:Nat} {cs cs' vs:List Value} {e:TypeId} {v:Value} (hv:Da v=some vs) (hlen:vs.length=ti.size)
 (h1:∀ u ∈ vs,u.oneCell'=true) (hb:w.heap[b]? =some (.cells ⟨cs⟩ e (0,0))) (hm:Cp cs off vs=some cs'):(storeVar t ⟨b,off,none⟩ v).run P w= .ok () (w.setRow b ⟨cs'⟩):=by
 obtain ⟨hle,rfl⟩:=FQ hm;have h2:=ht.sizeOf hti w;have h3:=run_storeCells_at P b off e vs 0 ⟨cs⟩ w hb (by simpa using hle) h1;simp only [Nat.add_zero] at h3;have hc:=CL hv;simp [storeVar,hc,h2,hlen,h3]
theorem Kz (ht:AW P tb) (i:Nat) {b off sz:Nat} {vs cs cs':List Value} {e:TypeId} {ol':OL} (hs:DO tb all (AP l) o=some (b,off,vs,sz)) (hlen:vs.length=sz) (h1:∀ u ∈ vs,u.oneCell'=true)
 (hi:B9 ol i=some (.blk b (.cells ⟨cs⟩ e (0,0)) true)) (hm:Cp cs off vs=some cs') (ho:Dc ol i (.blk b (.cells ⟨cs'⟩ e (0,0)) true)=some ol') (k:S P n w0 all rest l ol' K Q):S P n w0 all (o::rest) l ol K Q:=by
 refine ⟨fun a w hf hh=>?_⟩;unfold DO at hs;split at hs
 ·rename_i hg;split at hs
  ·rename_i hd;split at hs
   ·rename_i t x y hop;split at hs
    ·rename_i ti hti;split at hs
     ·rename_i b' off' hx;split at hs
      ·rename_i v hy;split at hs
       ·rename_i vs' hv;simp at hs;obtain ⟨rfl,rfl,rfl,rfl⟩:=hs;obtain ⟨pre,post,e1,e2⟩:=CP hi ho;have hb:=hh.own _ (Af hi);refine Ei (Bb hf.rd hg) ?_ ?_ (w':=w.setRow b' ⟨cs'⟩)
        ·unfold execOp;simp [hop,hf.rd.ev hx,hf.rd.ev hy,Instr.storeAt,Instr.sureAddr,Ev ht hti hv hlen h1 hb hm]
        ·rw [hd];refine k.out _ _ hf ?_;rw [e1] at hh;rw [e2];exact hh.setRow rfl
       ·cases hs
      ·cases hs
     ·cases hs
    ·cases hs
   ·cases hs
  ·cases hs
 ·cases hs
theorem Ax (ht:AW P tb) (i:Nat) {b off sz:Nat} {vs cs cs':List Value} {e:TypeId} {ol':OL} (hs:DO tb all (AP l) o=some (b,off,vs,sz)) (hlen:Nat.beq vs.length sz=true) (h1:Ku vs=true)
 (hi:B9 ol i=some (.blk b (.cells ⟨cs⟩ e (0,0)) true)) (hm:Cp cs off vs=some cs') (ho:Dc ol i (.blk b (.cells ⟨cs'⟩ e (0,0)) true)=some ol') (k:S P n w0 all rest l ol' K Q):S P n w0 all (o::rest) l ol K Q:=
 Kz ht i hs (Nat.eq_of_beq_eq_true hlen) (Kt h1) hi hm ho k
def JV (tb:EU) (n:Nat) (all:Array Oper) (r:Nat->Option Value) (o:Oper):Option (Nat × TypeId × List Value):=
 match gd all r o.guard with
 |some true=>match o.dst with
  |some d=>match Nat.blt d n with
   |true=>match o.op with
    | .alloc e=>match tl tb e with
     |some ti=>match Da ti.zero with
      |some vs=>some (d,e,vs)
      |none=>none
     |none=>none
    | .box e x=>match ev r x with
     |some v=>match Da v with
      |some vs=>some (d,e,vs)
      |none=>none
     |none=>none
    |_=>none
   |false=>none
  |none=>none
 |_=>none
theorem AY (ht:AW P tb) {d:Nat} {e:TypeId} {vs:List Value} (hs:JV tb n all (AP l) o=some (d,e,vs)) (k:∀ b,w0.heap.size <= b->S P n w0 all rest ((d,.pointer (some ⟨b,0,none⟩))::l) (.blk b (.cells ⟨vs⟩ e (0,0)) true::ol) K Q):
 S P n w0 all (o::rest) l ol K Q:=by
 refine ⟨fun a w hf hh=>?_⟩;unfold JV at hs;split at hs
 ·rename_i hg;split at hs
  ·rename_i d' hd;split at hs
   ·rename_i hb
    have fin:∀ d,o.dst=some d->Nat.blt d n=true->(execOp a.eval o).run P w= .ok (.value (.pointer (some ⟨w.heap.size,0,none⟩))) (w.alloc (.cells ⟨vs⟩ e (0,0)))->
     (∀ b,w0.heap.size <= b->S P n w0 all rest ((d,.pointer (some ⟨b,0,none⟩))::l) (.blk b (.cells ⟨vs⟩ e (0,0)) true::ol) K Q)->wpList P all (Cr n w0 (BK K Q)) (o::rest) a w:=by
     intro d hd hb hr k;refine B4 (Bb hf.rd hg) hr ?_;rw [hd];exact (k w.heap.size hh.size).out _ _ (hf.put (by simpa [Nat.blt_eq] using hb) _) (hh.alloc _)
    split at hs
    ·rename_i e' hop;split at hs
     ·rename_i ti hti;split at hs
      ·rename_i vs' hv;simp at hs;obtain ⟨rfl,rfl,rfl⟩:=hs;refine fin d' hd hb ?_ k;have h1:=ht.zeroOf hti w;unfold execOp;simp [hop,Instr.alloc,h1,newVar,newRow,CL hv]
      ·cases hs
     ·cases hs
    ·rename_i e' x hop;split at hs
     ·rename_i v hx;split at hs
      ·rename_i vs' hv;simp at hs;obtain ⟨rfl,rfl,rfl⟩:=hs;refine fin d' hd hb ?_ k;unfold execOp;simp [hop,hf.rd.ev hx,Instr.box,newVar,newRow,CL hv]
      ·cases hs
     ·cases hs
    ·cases hs
   ·cases hs
  ·cases hs
 ·cases hs
def BL (n:Nat) (all:Array Oper) (r:Nat->Option Value) (o:Oper):Option (Nat × FuncId × List Value):=
 match gd all r o.guard with
 |some true=>match o.dst with
  |some d=>match Nat.blt d n with
   |true=>match o.op with
    | .call ⟨.value (.func f),asx,_⟩=>match evs r asx.toList with
     |some vs=>some (d,f,vs)
     |none=>none
    |_=>none
   |false=>none
  |none=>none
 |_=>none
theorem A7 {d:Nat} {f:FuncId} {vs:List Value} (hs:BL n all (AP l) o=some (d,f,vs)) (hcall:∀ args w,(callFunc f args).run P w= .ok (.enter f args) w)
 (hc:∀ w,Hp w0 w ol->Calls P f vs.toArray w (fun e w'=>∃ v ol',e= .returned v/\Hp w0 w' ol'/\S P n w0 all rest ((d,v)::l) ol' K Q)):S P n w0 all (o::rest) l ol K Q:=by
 refine ⟨fun a w hf hh=>?_⟩;unfold BL at hs;split at hs
 ·rename_i hg;split at hs
  ·rename_i d' hd;split at hs
   ·rename_i hb;split at hs
    ·rename_i f' asx ts hop;split at hs
     ·rename_i vs' hx;simp at hs;obtain ⟨rfl,rfl,rfl⟩:=hs
      have hm:asx.map a.eval=vs'.toArray:=by
       apply Array.ext';simpa using hf.rd.evs hx
      have hr:(execOp a.eval o).run P w= .ok (.enter f' vs'.toArray) w:=by
       unfold execOp;simp [hop,resolve,Act.eval,Deferred.ofValue,invoke,hm,hcall]
      unfold wpList;rw [if_pos (Bb hf.rd hg)];left;simp only [Oper.wp,hr,Oper.upon];refine (hc w hh).mono ?_;rintro e w' ⟨v,ol',rfl,hh',k⟩;show wpList P all _ rest (a.put o.dst v) w';rw [hd];exact k.out _ _ (hf.put (by simpa [Nat.blt_eq] using hb) _) hh'
     ·cases hs
    ·cases hs
   ·cases hs
  ·cases hs
 ·cases hs
theorem Be {d:Nat} {f:FuncId} {vs:List Value} {v:Value} (hs:BL n all (AP l) o=some (d,f,vs)) (hcall:∀ args w,(callFunc f args).run P w= .ok (.enter f args) w)
 (hc:∀ w,Hp w0 w ol->Calls P f vs.toArray w (fun e w'=>e= .returned v/\Below w.heap.size w w')) (k:S P n w0 all rest ((d,v)::l) ol K Q):S P n w0 all (o::rest) l ol K Q:=
 A7 hs hcall fun w hh=>(hc w hh).mono fun e w' ⟨he,hb⟩=>⟨v,ol,he,hh.ext hb,k⟩
end
theorem I8 {b c:Bool} (h:b=c):Ending.returned (.bool b)= .returned (.bool c):=by rw [h]
theorem No {k:IntKind} {b c:Int} (h:b=c):Ending.returned (.int k b)= .returned (.int k c):=by rw [h]
theorem Rc {p q:Prop} {_:Decidable p} {_:Decidable q} (h:p ↔ q):decide p=decide q:=by simp [h]
theorem PC {p:Prop} {_:Decidable p} (h:¬ p):false=decide p:=by simp [h]
theorem Ar {w0:World}:∀ e ∈ ([]:OL),e.ex=true->∀ k,e.has k->w0.heap.size <= k:=fun e he=>by simp at he
theorem AA {w0:World} {b:Nat} {x:Obj} {r:Bool} {ol:OL} (h:w0.heap.size <= b) (hs:∀ e ∈ ol,e.ex=true->∀ k,e.has k->w0.heap.size <= k):∀ e ∈ HE.blk b x r::ol,e.ex=true->∀ k,e.has k->w0.heap.size <= k:=fun e he=>by
 rcases List.mem_cons.1 he with rfl |he
 ·intro _ k hk;simp only [HE.has,Option.some.injEq] at hk;omega
 ·exact hs e he
theorem Hp.new_row {w0 w:World} {base:Nat} {v:Value} {t:TypeId} {sz n:Nat} {xs:List Value} {ol:OL} {o:OL} (hw:Hp w0 w o) (hm:HE.row base v t sz n xs ∈ o) (h:w0.heap.size <= base) (hs:∀ e ∈ ol,e.ex=true->∀ k,e.has k->w0.heap.size <= k):
 ∀ e ∈ HE.row base v t sz n xs::ol,e.ex=true->∀ k,e.has k->w0.heap.size <= k:=fun e he=>by
 rcases List.mem_cons.1 he with rfl |he
 ·intro _ k hk;have:=(World.ownsRow.lt (hw.own _ hm) k hk).1;omega
 ·exact hs e he
theorem BW {w0:World} {Φ:World->Prop} {F:Nat->Prop} {ol:OL} (hs:∀ e ∈ ol,e.ex=true->∀ k,e.has k->w0.heap.size <= k):∀ e ∈ HE.rep Φ F false::ol,e.ex=true->∀ k,e.has k->w0.heap.size <= k:=fun e he=>by
 rcases List.mem_cons.1 he with rfl |he
 ·intro hx;cases hx
 ·exact hs e he
def Hh (acc:List Nat):List Edge->Nat
 | []=>0
 |e::es=>match Region.binds .any e with
  |true=>(2 ^ e.on |||acc.getD e.on 0) |||Hh acc es
  |false=>Hh acc es
def CN:List Oper->List Nat->List Nat
 | [],acc=>acc
 |o::os,acc=>CN os (acc ++ [Hh acc o.after.toList])
theorem Hg {acc:List Nat} {j:Nat}:∀ {es:List Edge},(Hh acc es).testBit j=true->∃ e ∈ es,Region.binds .any e=true/\(e.on=j \/ (acc.getD e.on 0).testBit j=true)
 | [],h=>by simp [Hh] at h
 |e::es,h=>by
  simp only [Hh] at h;split at h
  ·rename_i hb;rw [Nat.testBit_or,Nat.testBit_or] at h;simp only [Bool.or_eq_true] at h
   rcases h with (h |h) |h
   ·refine ⟨e,by simp,hb,.inl ?_⟩;rw [Nat.testBit_two_pow] at h;simpa using h
   ·exact ⟨e,by simp,hb,.inr h⟩
   ·obtain ⟨e',h1,h2,h3⟩:=Hg h;exact ⟨e',by simp [h1],h2,h3⟩
  ·obtain ⟨e',h1,h2,h3⟩:=Hg h;exact ⟨e',by simp [h1],h2,h3⟩
def Mc (ops:List Oper) (M:List Nat):Prop:=
 ∀ i m,M[i]? =some m->∃ o,ops[i]? =some o/\∀ j,m.testBit j=true->∃ e ∈ o.after.toList,Region.binds .any e=true/\(e.on=j \/ (e.on < i/\(M.getD e.on 0).testBit j=true))
theorem Gk:∀ (os pre:List Oper) (acc:List Nat),acc.length=pre.length->Mc pre acc->Mc (pre ++ os) (CN os acc)
 | [],pre,acc,_,h=>by simpa [CN] using h
 |o::os,pre,acc,hl,h=>by
  have:=Gk os (pre ++ [o]) (acc ++ [Hh acc o.after.toList]) (by simp [hl]) (by
   intro i m hi
   rcases Nat.lt_or_ge i acc.length with hlt |hge
   ·rw [List.getElem?_append_left hlt] at hi;obtain ⟨o',h1,h2⟩:=h i m hi;refine ⟨o',by rw [List.getElem?_append_left (by omega)];exact h1,fun j hj=>?_⟩;obtain ⟨e,he,hb,h3⟩:=h2 j hj;refine ⟨e,he,hb,h3.imp id fun ⟨h4,h5⟩=>⟨h4,?_⟩⟩
    have:e.on < acc.length:=by omega
    rw [List.getD_eq_getElem?_getD,List.getElem?_append_left this,<-List.getD_eq_getElem?_getD];exact h5
   ·rw [List.getElem?_append_right hge] at hi
    have hi0:i - acc.length=0:=by
     rcases Nat.eq_zero_or_pos (i - acc.length) with h0 |h0
     ·exact h0
     ·rw [List.getElem?_eq_none (by simp;omega)] at hi;cases hi
    rw [hi0] at hi;simp at hi;subst hi
    have hie:i=pre.length:=by omega
    refine ⟨o,by subst hie;simp,fun j hj=>?_⟩;obtain ⟨e,he,hb,h3⟩:=Hg hj;refine ⟨e,he,hb,h3.imp id fun h5=>?_⟩
    have hlt:e.on < acc.length:=by
     rcases Nat.lt_or_ge e.on acc.length with h' |h'
     ·exact h'
     ·rw [List.getD_eq_getElem?_getD,List.getElem?_eq_none h'] at h5;simp at h5
    exact ⟨by omega,by rw [List.getD_eq_getElem?_getD,List.getElem?_append_left hlt,<-List.getD_eq_getElem?_getD];exact h5⟩)
  simpa [CN] using this
def Et (ops:List Oper) (L:Nat->Bool):Prop:=∀ i o,ops[i]? =some o->L i=true->∀ e ∈ o.after.toList,Region.binds .any e=true->L e.on=true
theorem DH {ops:List Oper} {M:List Nat} (hM:Mc ops M) {L:Nat->Bool} (hL:Et ops L):∀ (i:Nat) (m:Nat),M[i]? =some m->∀ o,ops[i]? =some o->(∀ e ∈ o.after.toList,Region.binds .any e=true->L e.on=true)->∀ j,m.testBit j=true->L j=true:=by
 intro i
 induction i using Nat.strongRecOn with
 |_ i ih=>
  intro m hm o ho hpre j hj;obtain ⟨o',ho',hb⟩:=hM i m hm;rw [ho] at ho';cases ho';obtain ⟨e,he,hbe,h |⟨hlt,h⟩⟩:=hb j hj
  ·rw [<-h];exact hpre e he hbe
  ·have hLe:=hpre e he hbe;rw [List.getD_eq_getElem?_getD] at h
   cases hme:M[e.on]? with
   |none=>rw [hme] at h;simp at h
   |some m'=>
    rw [hme] at h;obtain ⟨o2,ho2,_⟩:=hM e.on m' hme;exact ih e.on hlt m' hme o2 ho2 (fun e' he' hb'=>hL e.on o2 ho2 hLe e' he' hb') j (by simpa using h)
def Ph (ops:Array Oper) (x y:Oper):Bool:=x.apart ops y
def Mx (all:Array Oper) (m i:Nat) (o:Oper) (mask:Nat):Nat->List Oper->Bool
 |_,[]=>true
 |j,p::ps=>match Nat.blt j i with
  |false=>true
  |true=>(mask.testBit j || (Nat.blt i m && Ph all p o)) && Mx all m i o mask (j + 1) ps
def H4 (i:Nat):List Edge->Bool
 | []=>true
 |e::es=>(Nat.blt e.on i || !Region.binds .any e) && H4 i es
def Qx (o:Oper):Bool:=match o.op with
 | .select _ _=>false
 |_=>true
def JM (all:Array Oper) (ops:List Oper) (m:Nat):Nat->List Oper->List Nat->Bool
 |_,[],_=>true
 |i,o::os,ms=>match ms with
  | []=>false
  |mask::ms=>Qx o && H4 i o.after.toList && Mx all m i o mask 0 ops && JM all ops m (i + 1) os ms
def HN (ops:List Oper) (m:Nat):Bool:=JM ops.toArray ops m 0 ops (CN ops [])
theorem JO {all:Array Oper} {m i:Nat} {o:Oper} {mask:Nat}:∀ {ps:List Oper} {k:Nat},Mx all m i o mask k ps=true->∀ j p,ps[j]? =some p->k + j < i->mask.testBit (k + j)=true \/ (i < m/\p.apart all o=true)
 | [],k,_,j,p,hp,_=>by simp at hp
 |q::ps,k,h,j,p,hp,hlt=>by
  simp only [Mx] at h
  have hk:Nat.blt k i=true:=by rw [Nat.blt_eq];omega
  rw [hk] at h;simp only [Bool.and_eq_true,Bool.or_eq_true] at h
  cases j with
  |zero=>
   simp at hp;subst hp
   rcases h.1 with h1 |h1
   ·exact .inl (by simpa using h1)
   ·exact .inr ⟨by simpa [Nat.blt_eq] using h1.1,h1.2⟩
  |succ j=>
   have:=JO h.2 j p (by simpa using hp) (by omega)
   have e:k + 1 + j=k + (j + 1):=by omega
   rwa [e] at this
theorem H3 {i:Nat}:∀ {es:List Edge},H4 i es=true->∀ e ∈ es,Region.binds .any e=true->e.on < i
 | [],_,e,he,_=>by simp at he
 |x::es,h,e,he,hb=>by
  simp only [H4,Bool.and_eq_true,Bool.or_eq_true] at h
  rcases List.mem_cons.1 he with rfl |he
  ·rcases h.1 with h1 |h1
   ·simpa [Nat.blt_eq] using h1
   ·simp [hb] at h1
  ·exact H3 h.2 e he hb
theorem E2 {all:Array Oper} {ops:List Oper} {m:Nat}:∀ {os:List Oper} {ms:List Nat} {k:Nat},JM all ops m k os ms=true->∀ i o,os[i]? =some o->∃ mask,ms[i]? =some mask/\Qx o=true/\H4 (k + i) o.after.toList=true/\Mx all m (k + i) o mask 0 ops=true
 | [],_,_,_,i,o,ho=>by simp at ho
 |x::os,ms,k,h,i,o,ho=>by
  cases ms with
  |nil=>simp [JM] at h
  |cons mask ms=>
   simp only [JM,Bool.and_eq_true] at h
   cases i with
   |zero=>simp at ho;subst ho;exact ⟨mask,by simp,h.1.1.1,h.1.1.2,h.1.2⟩
   |succ i=>
    obtain ⟨mk,h1,h2,h3,h4⟩:=E2 h.2 i o (by simpa using ho)
    have e:k + 1 + i=k + (i + 1):=by omega
    rw [e] at h3 h4;exact ⟨mk,by simpa using h1,h2,h3,h4⟩
structure UK (ops:List Oper) (m:Nat):Prop where
 noSelect:∀ (i:Nat) (o:Oper),ops[i]? =some o->∀ cs b,o.op ≠ .select cs b
 edges:∀ (i:Nat) (o:Oper),ops[i]? =some o->∀ e ∈ o.after.toList,Region.binds .any e=true->e.on < i
 ahead:∀ (L:Nat->Bool),Et ops L->∀ (i:Nat) (o:Oper),ops[i]? =some o->(∀ e ∈ o.after.toList,Region.binds .any e=true->L e.on=true)->∀ (j:Nat) (p:Oper),ops[j]? =some p->j < i->L j=true \/ (i < m/\p.apart ops.toArray o=true)
theorem Np {ops:List Oper} {m:Nat} (h:HN ops m=true):UK ops m:=by
 unfold HN at h
 have hM:Mc ops (CN ops []):=by
  have:=Gk ops [] [] rfl (fun i m hi=>by simp at hi);simpa using this
 refine ⟨fun i o ho cs b hop=>?_,fun i o ho e he hb=>?_,fun L hL i o ho hpre j p hp hlt=>?_⟩
 ·obtain ⟨_,_,h2,_,_⟩:=E2 h i o ho;simp [Qx,hop] at h2
 ·obtain ⟨_,_,_,h3,_⟩:=E2 h i o ho;have:=H3 h3 e he hb;omega
 ·obtain ⟨mask,h1,_,_,h4⟩:=E2 h i o ho;simp only [Nat.zero_add] at h4
  rcases JO h4 j p hp (by omega) with h5 |h5
  ·left;simp only [Nat.zero_add] at h5;exact DH hM hL i mask h1 o ho hpre j h5
  ·exact .inr h5
inductive EE where
 |ex (v:Value)
 |pr (Φ:Value->World->Prop)
abbrev DL:=List (Nat × EE)
def lk:DL->Nat->Option EE
 | [],_=>none
 |(k,v)::l,t=>match Nat.beq k t with
  |true=>some v
  |false=>lk l t
theorem Bl (k:Nat) (v:EE) (l:DL):lk ((k,v)::l) k=some v:=by simp [lk]
theorem BA {k t:Nat} (h:k ≠ t) (v:EE) (l:DL):lk ((k,v)::l) t=lk l t:=by
 have:Nat.beq k t=false:=by
  cases hb:Nat.beq k t with
  |false=>rfl
  |true=>exact absurd (Nat.eq_of_beq_eq_true hb) h
 simp [lk,this]
def EE.at:EE->Value->World->Prop
 | .ex v,u,_=>u=v
 | .pr Φ,u,w=>Φ u w
def EE.Stable:EE->Prop
 | .ex _=>True
 | .pr Φ=>∀ v w w',Φ v w->Below w.heap.size w w'->Φ v w'
theorem EE.Stable.keep {E:EE} (h:E.Stable) {v:Value} {w w':World} (ha:E.at v w) (hb:Below w.heap.size w w'):E.at v w':=by
 cases E with
 |ex u=>exact ha
 |pr Φ=>exact h v w w' ha hb
def Lp (E:Option EE) (x:Option Value) (w:World):Prop:=match E with
 |none=>True
 |some E=>∃ v,x=some v/\E.at v w
def Hz (dl:DL) (dst:Option Tmp) (E:EE):DL:=match dst with
 |some d=>(d,E)::dl
 |none=>dl
section
variable {P:Program} {n:Nat} {w0:World} {ops:List Oper} {ol:OL}
def Yc (P:Program) (n:Nat) (w0:World) (all:Array Oper) (ol:OL) (dl:DL) (o:Oper) (E:EE):Prop:=
 ∀ a w,a.defers= []->a.tmps.size=n->Hp w0 w ol->(∀ t ∈ o.looksAt all,Lp (lk dl t) a.tmps[t]? w)->
  (Region.wanted o (yielded all a.tmps)=true->o.wp P a w (fun a' w'=>∃ v,a'=a.put o.dst v/\Below w.heap.size w w'/\E.at v w') (fun _ _ _=>False))/\
  (Region.wanted o (yielded all a.tmps)=false->E.at undef w)
structure XL (P:Program) (n:Nat) (w0:World) (all:Array Oper) (ol:OL) (dl:DL) (o:Oper) (E:EE):Prop where
 ok:Yc P n w0 all ol dl o E
 stable:E.Stable
 lt:∀ d,o.dst=some d->d < n
def DW (P:Program) (n:Nat) (w0:World) (all:Array Oper) (ol:OL):List Oper->DL->(DL->Prop)->Prop
 | [],dl,F=>F dl
 |o::os,dl,F=>∃ E,XL P n w0 all ol dl o E/\DW P n w0 all ol os (Hz dl o.dst E) F
def BM (Es:List EE):List Oper->Nat->DL->DL
 | [],_,dl=>dl
 |_,0,dl=>dl
 |o::os,k + 1,dl=>match Es with
  | []=>dl
  |E::Es=>BM Es os k (Hz dl o.dst E)
theorem DG {Es:List EE} {os:List Oper} {dl:DL}:BM Es os 0 dl=dl:=by cases os<;>cases Es<;>rfl
theorem U4 {all:Array Oper}:∀ {os:List Oper} {dl:DL} {F:DL->Prop},DW P n w0 all ol os dl F->∃ Es:List EE,Es.length=os.length/\(∀ i o E,os[i]? =some o->Es[i]? =some E->XL P n w0 all ol (BM Es os i dl) o E)/\F (BM Es os os.length dl)
 | [],dl,F,h=>⟨[],rfl,fun i o E ho=>by simp at ho,by simpa [BM,DW] using h⟩
 |o::os,dl,F,h=>by
  obtain ⟨E,h1,h2⟩:=h;obtain ⟨Es,hl,h3,h4⟩:=U4 h2;refine ⟨E::Es,by simp [hl],fun i o' E' ho hE=>?_,by simpa [BM] using h4⟩
  cases i with
  |zero=>simp at ho hE;subst ho;subst hE;rw [DG];exact h1
  |succ i=>simpa [BM] using h3 i o' E' (by simpa using ho) (by simpa using hE)
theorem DT {t:Nat}:∀ {os:List Oper} {Es:List EE} {i:Nat} {dl:DL},(∀ j o,j < i->os[j]? =some o->o.dst ≠ some t)->lk (BM Es os i dl) t=lk dl t
 | [],Es,i,dl,_=>by cases i<;>cases Es<;>rfl
 |o::os,Es,0,dl,_=>by rw [DG]
 |o::os,[],i + 1,dl,_=>rfl
 |o::os,E::Es,i + 1,dl,h=>by
  simp only [BM];rw [DT (fun j o' hj ho=>h (j + 1) o' (by omega) (by simpa using ho))];have h0:=h 0 o (by omega) rfl
  cases hd:o.dst with
  |none=>rfl
  |some d=>exact BA (fun e=>h0 (by rw [hd,e])) _ _
theorem EB {t k:Nat} {ok:Oper} {E:EE}:∀ {os:List Oper} {Es:List EE} {i m:Nat} {dl:DL},os[m]? =some ok->Es[m]? =some E->ok.dst=some t->m < i->(∀ j o,m < j->j < i->os[j]? =some o->o.dst ≠ some t)->
 lk (BM Es os i dl) t=some E
 | [],_,_,_,_,h,_,_,_,_=>by simp at h
 |o::os,[],_,m,_,_,h,_,_,_=>by simp at h
 |o::os,E'::Es,0,m,dl,_,_,_,h,_=>by omega
 |o::os,E'::Es,i + 1,0,dl,h1,h2,h3,h4,h5=>by
  simp at h1 h2;subst h1;subst h2;simp only [BM];rw [DT (fun j o' hj ho=>h5 (j + 1) o' (by omega) (by omega) (by simpa using ho)),h3];exact Bl _ _ _
 |o::os,E'::Es,i + 1,m + 1,dl,h1,h2,h3,h4,h5=>by
  simp only [BM];exact EB (k:=k) (os:=os) (Es:=Es) (i:=i) (m:=m) (by simpa using h1) (by simpa using h2) h3 (by omega) (fun j o' hj hji ho=>h5 (j + 1) o' (by omega) (by omega) (by simpa using ho))
structure O5 (n:Nat) (w0:World) (ops:List Oper) (Es:List EE) (ol:OL) (dl:DL) (L:Nat->Bool) (a:Act) (w:World):Prop where
 defers:a.defers= []
 size:a.tmps.size=n
 hp:Hp w0 w ol
 closed:Et ops L
 sat:∀ i t,i <= ops.length->(∀ j o,ops[j]? =some o->o.dst=some t->(j < i ↔ L j=true))->Lp (lk (BM Es ops i dl) t) a.tmps[t]? w
theorem Lp.keep {E:Option EE} {x:Option Value} {w w':World} (hs:∀ E',E=some E'->E'.Stable) (h:Lp E x w) (hb:Below w.heap.size w w'):Lp E x w':=by
 cases E with
 |none=>trivial
 |some E=>obtain ⟨v,h1,h2⟩:=h;exact ⟨v,h1,(hs E rfl).keep h2 hb⟩
def add (L:Nat->Bool) (k:Nat):Nat->Bool:=fun j=>if j=k then true else L j
theorem E8 {all:Array Oper} {p o:Oper} {t:Nat} (hp:p.dst=some t) (ho:t ∈ o.looksAt all \/ o.dst=some t):¬ p.apart all o=true:=by
 intro h;obtain ⟨h1,h2,_⟩:=Oper.apart_spec h
 rcases ho with ho |ho
 ·exact h1 t hp ho
 ·exact h2 t hp ho
theorem L0 {all:Array Oper} {p o:Oper} {t:Nat} (hp:o.dst=some t) (ho:t ∈ p.looksAt all):¬ p.apart all o=true:=by
 intro h;obtain ⟨_,_,h3⟩:=Oper.apart_spec h;exact h3 t hp ho
theorem Ld {Es:List EE} {dl:DL} (hdl:∀ t E,lk dl t=some E->E.Stable) (hE:∀ E ∈ Es,E.Stable):∀ (os:List Oper) (i:Nat) (Es':List EE) (dl':DL),(∀ E ∈ Es',E.Stable)->(∀ t E,lk dl' t=some E->E.Stable)->∀ t E,lk (BM Es' os i dl') t=some E->E.Stable
 | [],i,Es',dl',h1,h2=>by cases i<;>cases Es'<;>exact h2
 |o::os,0,Es',dl',h1,h2=>by rw [DG];exact h2
 |o::os,i + 1,[],dl',h1,h2=>h2
 |o::os,i + 1,E::Es',dl',h1,h2=>by
  simp only [BM];refine Ld hdl hE os i Es' _ (fun E' hE'=>h1 E' (List.mem_cons_of_mem _ hE')) fun t E' h=>?_
  cases hd:o.dst with
  |none=>rw [hd] at h;exact h2 t E' h
  |some d=>
   rw [hd] at h;simp only [Hz] at h;by_cases hdt:d=t
   ·subst hdt;rw [Bl] at h;cases h;exact h1 _ (by simp)
   ·rw [BA hdt] at h;exact h2 t E' h
section
variable {Es:List EE} {dl:DL} {L:Nat->Bool} {a:Act} {w:World} {m:Nat}
theorem O5.looks (hI:O5 n w0 ops Es ol dl L a w) (hR:UK ops m) {k:Nat} {o:Oper} (ho:ops[k]? =some o) (hk:L k=false) (hpre:∀ e ∈ o.after.toList,Region.binds .any e=true->L e.on=true):
 ∀ t ∈ o.looksAt ops.toArray,Lp (lk (BM Es ops k dl) t) a.tmps[t]? w:=by
 intro t ht;have hkl:k < ops.length:=(List.getElem?_eq_some_iff.1 ho).1;refine hI.sat k t (Nat.le_of_lt hkl) fun j p hp hd=>⟨fun hlt=>?_,fun hL=>?_⟩
 ·rcases hR.ahead L hI.closed k o ho hpre j p hp hlt with h |⟨_,h⟩
  ·exact h
  ·exact absurd h (E8 hd (.inl ht))
 ·rcases Nat.lt_trichotomy j k with h |h |h
  ·exact h
  ·subst h;rw [hk] at hL;cases hL
  ·rcases hR.ahead L hI.closed j p hp (hI.closed j p hp hL) k o ho h with h' |⟨_,h'⟩
   ·rw [hk] at h';cases h'
   ·exact absurd h' (L0 hd ht)
theorem Hu (hL:Et ops L) {k:Nat} {o:Oper} (ho:ops[k]? =some o) (hpre:∀ e ∈ o.after.toList,Region.binds .any e=true->L e.on=true):Et ops (add L k):=by
 intro i p hp hi e he hb;unfold add at hi ⊢;by_cases hik:i=k
 ·subst hik;rw [ho] at hp;cases hp;rw [hpre e he hb];simp
 ·rw [if_neg hik] at hi;rw [hL i p hp hi e he hb];simp
theorem O5.step (hI:O5 n w0 ops Es ol dl L a w) (hR:UK ops m) (hst:∀ i t E,lk (BM Es ops i dl) t=some E->E.Stable) {k:Nat} {o:Oper} (ho:ops[k]? =some o) (hk:L k=false)
 (hpre:∀ e ∈ o.after.toList,Region.binds .any e=true->L e.on=true) {E:EE} (hE:Es[k]? =some E) (hlt:∀ d,o.dst=some d->d < n) {w':World} {v:Value} (hb:Below w.heap.size w w') (hv:E.at v w'):
 O5 n w0 ops Es ol dl (add L k) (a.put o.dst v) w':=by
 have hkl:k < ops.length:=(List.getElem?_eq_some_iff.1 ho).1;refine ⟨?_,?_,hI.hp.ext hb,Hu hI.closed ho hpre,fun i t hi hc=>?_⟩
 ·cases hd:o.dst<;>simp [Act.put,hI.defers]
 ·cases hd:o.dst<;>simp [Act.put,hI.size]
 ·by_cases hdt:o.dst=some t
  ·have hki:k < i:=(hc k o ho hdt).2 (by simp [add])
   have he:lk (BM Es ops i dl) t=some E:=by
    refine EB (k:=k) ho hE hdt hki fun j p hj hji hp hd=>?_
    have hLj:L j=true:=by
     have:=(hc j p hp hd).1 hji;unfold add at this
     rwa [if_neg (by omega)] at this
    rcases hR.ahead L hI.closed j p hp (hI.closed j p hp hLj) k o ho hj with h' |⟨_,h'⟩
    ·rw [hk] at h';cases h'
    ·exact E8 hdt (.inr hd) h'
   rw [he];refine ⟨v,?_,hv⟩;have:=hlt t hdt;rw [hdt];simp [Act.put,hI.size,this]
  ·have hsame:(a.put o.dst v).tmps[t]? =a.tmps[t]? :=by
    cases hd:o.dst with
    |none=>rfl
    |some d=>
     have hne:d ≠ t:=fun e=>hdt (by rw [hd,e]);simp [Act.put,Array.getElem?_setIfInBounds_ne hne]
   rw [hsame];refine (hI.sat i t hi fun j p hp hd=>?_).keep (hst i t) hb;rw [hc j p hp hd];unfold add;by_cases hjk:j=k
   ·subst hjk;rw [ho] at hp;cases hp;exact absurd hd hdt
   ·rw [if_neg hjk]
theorem EJ {Q:Exit->Act->World->Prop} (hR:UK ops m):∀ (r m':Nat) (listed:Array Bool) (a:Act) (w:World),m' + r=ops.length->m <= m'->listed.size=ops.length->(∀ j,j < ops.length->(listed.getD j true=true ↔ j < m'))->
 wpList P ops.toArray Q (ops.drop m') a w->wpAny P .any ops.toArray Q r listed a w
 |0,m',listed,a,w,hr,hm,hs,hl,h=>by
  have hmm:m'=ops.length:=by omega
  subst hmm
  have hready:Region.ready .any ops.toArray listed= []:=by
   unfold Region.ready;rw [List.filter_eq_nil_iff];intro i hi
   have hi':i < ops.length:=by simpa using hi
   have:=(hl i hi').2 hi';simp [this]
  exact ⟨hready,by simpa [wpList] using h⟩
 |r + 1,m',listed,a,w,hr,hm,hs,hl,h=>by
  have hlt:m' < ops.length:=by omega
  obtain ⟨o,ho⟩:∃ o,ops[m']? =some o:=⟨_,List.getElem?_eq_getElem hlt⟩
  have hdrop:ops.drop m'=o::ops.drop (m' + 1):=by
   rw [List.drop_eq_getElem_cons hlt];congr 1;exact (List.getElem?_eq_some_iff.1 ho).2
  have hnotyet:listed.getD m' true=false:=by
   cases hb:listed.getD m' true with
   |false=>rfl
   |true=>exact absurd ((hl m' hlt).1 hb) (by omega)
  let L:Nat->Bool:=fun j=>decide (j < m')
  have hcl:Et ops L:=fun i p hp hi e he hb=>by
   have h1:=hR.edges i p hp e he hb;simp only [L,decide_eq_true_eq] at hi ⊢;omega
  have hmem:m' ∈ Region.ready .any ops.toArray listed:=by
   unfold Region.ready;rw [List.mem_filter];refine ⟨by simpa using hlt,?_⟩
   have ho':ops.toArray[m']? =some o:=by simpa using ho
   simp only [hnotyet,ho',Option.map_some,Option.getD_some,Bool.not_false,Bool.true_and];rw [Array.all_eq_true_iff_forall_mem];intro e he
   cases hb:Region.binds .any e with
   |false=>simp
   |true=>
    have h1:=hR.edges m' o ho e (by simpa using he) hb;have h2:=(hl e.on (by omega)).2 h1
    have h3:e.on < listed.size:=by omega
    simp only [Array.getD,h3,dite_true] at h2 ⊢;have h4:listed[e.on]=true:=h2;simp [h4]
  have honly:∀ i ∈ Region.ready .any ops.toArray listed,i=m':=by
   intro i hi;unfold Region.ready at hi;rw [List.mem_filter] at hi;obtain ⟨h1,h2⟩:=hi
   have hi':i < ops.length:=by simpa using h1
   simp only [Bool.and_eq_true] at h2;obtain ⟨h2,h3⟩:=h2
   have hge:¬ i < m':=fun hh=>by
    have:=(hl i hi').2 hh;rw [this] at h2;simp at h2
   rcases Nat.lt_or_ge m' i with hgt |hle
   ·exfalso;obtain ⟨oi,hoi⟩:∃ oi,ops[i]? =some oi:=⟨_,List.getElem?_eq_getElem hi'⟩
    have hoi':ops.toArray[i]? =some oi:=by simpa using hoi
    simp only [hoi',Option.map_some,Option.getD_some] at h3;rw [Array.all_eq_true_iff_forall_mem] at h3
    have hpre:∀ e ∈ oi.after.toList,Region.binds .any e=true->L e.on=true:=by
     intro e he hb;have h4:=h3 e (by simpa using he);have h5:=hR.edges i oi hoi e he hb;simp only [hb,Bool.not_true,Bool.false_or] at h4
     have h6:e.on < listed.size:=by omega
     have h7:listed.getD e.on true=true:=by
      simp only [Array.getD,h6,dite_true] at h4 ⊢;exact h4
     simp only [L,decide_eq_true_eq];exact (hl e.on (by omega)).1 h7
    rcases hR.ahead L hcl i oi hoi hpre m' o ho hgt with h' |⟨h',_⟩
    ·simp [L] at h'
    ·omega
   ·omega
  refine ⟨(fun h0=>by rw [h0] at hmem;cases hmem),fun i hi=>?_⟩;have him:=honly i hi;subst him;rw [hdrop] at h
  have ho':ops.toArray[i]? =some o:=by simpa using ho
  have hnext:∀ a w,wpList P ops.toArray Q (ops.drop (i + 1)) a w->wpAny P .any ops.toArray Q r (listed.setIfInBounds i true) a w:=fun a w hh=>
   EJ hR r (i + 1) _ a w (by omega) (by omega) (by simpa using hs) (fun j hj=>by
    by_cases hji:j=i
    ·subst hji;simp [Array.getD,hs,hlt]
    ·have h1:=hl j hj
     have h2:(listed.setIfInBounds i true).getD j true=listed.getD j true:=by
      simp [Array.getD_eq_getD_getElem?,Array.getElem?_setIfInBounds_ne (Ne.symm hji)]
     rw [h2,h1];omega) hh
  unfold wpOp;simp only [ho'];unfold wpList at h;split
  ·rename_i hw;rw [if_pos hw] at h
   rcases h with h |h
   ·exact .inl (Oper.wp_mono hnext h)
   ·exact .inr h
  ·rename_i hw;rw [if_neg hw] at h;exact hnext _ _ h
theorem Dw:∀ (l:List Nat),l.Nodup->∀ (i:Nat),i ∈ l->∀ (p q:Nat->Bool),p i=true->q i=false->(∀ j,j ≠ i->q j=p j)->(l.filter q).length + 1=(l.filter p).length
 | [],_,i,h,_,_,_,_,_=>by cases h
 |x::l,hn,i,h,p,q,hp,hq,he=>by
  rw [List.nodup_cons] at hn;by_cases hxi:x=i
  ·subst hxi;have:l.filter q=l.filter p:=List.filter_congr fun j hj=>he j (fun e=>hn.1 (e ▸ hj));simp [hp,hq,this]
  ·have hi:i ∈ l:=by
    rcases List.mem_cons.1 h with h |h
    ·exact absurd h.symm hxi
    ·exact h
   have ih:=Dw l hn.2 i hi p q hp hq he;rw [List.filter_cons,List.filter_cons,he x hxi];split<;>(try simp only [List.length_cons])<;>omega
theorem NY {Q:Exit->Act->World->Prop} (hR:UK ops m) (hm:m <= ops.length) (hEs:Es.length=m)
 (hok:∀ i o E,i < m->ops[i]? =some o->Es[i]? =some E->XL P n w0 ops.toArray ol (BM Es ops i dl) o E) (hst:∀ i t E,lk (BM Es ops i dl) t=some E->E.Stable)
 (hQ:∀ a w,a.defers= []->a.tmps.size=n->Hp w0 w ol->(∀ t,Lp (lk (BM Es ops m dl) t) a.tmps[t]? w)->wpList P ops.toArray Q (ops.drop m) a w):
 ∀ (fuel:Nat) (listed:Array Bool) (a:Act) (w:World),fuel=(ops.length - m) + ((List.range m).filter fun j=>!listed.getD j true).length->listed.size=ops.length->
  (∀ j,j < ops.length->m <= j->listed.getD j true=false)->O5 n w0 ops Es ol dl (fun j=>decide (j < ops.length) && listed.getD j true) a w->wpAny P .any ops.toArray Q fuel listed a w:=by
 intro fuel
 induction fuel with
 |zero=>
  intro listed a w hf hs htail hI
  have hmm:ops.length=m:=by omega
  have hall:∀ j,j < m->listed.getD j true=true:=by
   intro j hj
   cases hb:listed.getD j true with
   |true=>rfl
   |false=>
    have h1:j ∈ (List.range m).filter fun j=>!listed.getD j true:=by rw [List.mem_filter];exact ⟨by simpa using hj,by rw [hb];rfl⟩
    have h2:=List.length_pos_of_mem h1;omega
  refine EJ hR 0 m listed a w (by omega) (Nat.le_refl _) hs (fun j hj=>⟨fun _=>by omega,fun hj'=>hall j hj'⟩) (hQ a w hI.defers hI.size hI.hp fun t=>?_)
  exact hI.sat m t hm fun j o ho _=>by
   have:=(List.getElem?_eq_some_iff.1 ho).1;simp [this,hall j (by omega)];omega
 |succ fuel ih=>
  intro listed a w hf hs htail hI;by_cases hdone:∀ j,j < m->listed.getD j true=true
  ·have hz:((List.range m).filter fun j=>!listed.getD j true).length=0:=by
    rw [List.length_eq_zero_iff,List.filter_eq_nil_iff];intro j hj;have:=hdone j (by simpa using hj);rw [this];simp
   refine EJ hR (fuel + 1) m listed a w (by omega) (Nat.le_refl _) hs (fun j hj=>⟨fun h=>?_,fun hj'=>hdone j hj'⟩) (hQ a w hI.defers hI.size hI.hp fun t=>?_)
   ·rcases Nat.lt_or_ge j m with h' |h'
    ·exact h'
    ·rw [htail j hj h'] at h;cases h
   ·exact hI.sat m t hm fun j o ho _=>by
     have hj:=(List.getElem?_eq_some_iff.1 ho).1
     rcases Nat.lt_or_ge j m with h' |h'
     ·simp [hj,hdone j h',h']
     ·simp [htail j hj h'];omega
  ·
    have hready:∀ i ∈ Region.ready .any ops.toArray listed,∃ o,ops[i]? =some o/\i < ops.length/\listed.getD i true=false/\(∀ e ∈ o.after.toList,Region.binds .any e=true->(decide (e.on < ops.length) && listed.getD e.on true)=true):=by
     intro i hi;unfold Region.ready at hi;rw [List.mem_filter] at hi;obtain ⟨h1,h2⟩:=hi
     have hi':i < ops.length:=by simpa using h1
     obtain ⟨oi,hoi⟩:∃ oi,ops[i]? =some oi:=⟨_,List.getElem?_eq_getElem hi'⟩
     have hoi':ops.toArray[i]? =some oi:=by simpa using hoi
     simp only [Bool.and_eq_true,hoi',Option.map_some,Option.getD_some] at h2;obtain ⟨h2,h3⟩:=h2;rw [Array.all_eq_true_iff_forall_mem] at h3;refine ⟨oi,hoi,hi',by simpa using h2,fun e he hb=>?_⟩;have h4:=h3 e (by simpa using he);have h5:=hR.edges i oi hoi e he hb;simp only [hb,Bool.not_true,Bool.false_or] at h4
     have h6:e.on < listed.size:=by omega
     have h7:listed.getD e.on true=true:=by
      simp only [Array.getD,h6,dite_true] at h4 ⊢;exact h4
     simp [h7];omega
    refine ⟨fun h0=>?_,fun i hi=>?_⟩
    ·exfalso
     have hex:∃ j,j < m/\listed.getD j true=false:=by
      false_or_by_contra
      rename_i hne
      exact hdone fun j hj=>by
       cases hb:listed.getD j true with
       |true=>rfl
       |false=>exact absurd ⟨j,hj,hb⟩ hne
     obtain ⟨j,hj,hjb⟩:=hex
     have key:∀ j,j < m->listed.getD j true=false->False:=by
      intro j
      induction j using Nat.strongRecOn with
      |_ j ihj=>
       intro hj hjb
       have hjl:j < ops.length:=by omega
       obtain ⟨o,ho⟩:∃ o,ops[j]? =some o:=⟨_,List.getElem?_eq_getElem hjl⟩
       have hmem:j ∈ Region.ready .any ops.toArray listed:=by
        unfold Region.ready;rw [List.mem_filter];refine ⟨by simpa using hjl,?_⟩
        have ho':ops.toArray[j]? =some o:=by simpa using ho
        simp only [hjb,ho',Option.map_some,Option.getD_some,Bool.not_false,Bool.true_and];rw [Array.all_eq_true_iff_forall_mem];intro e he
        cases hb:Region.binds .any e with
        |false=>simp
        |true=>
         have h1:=hR.edges j o ho e (by simpa using he) hb
         have h3:e.on < listed.size:=by omega
         cases hb2:listed.getD e.on true with
         |true=>
          simp only [Array.getD,h3,dite_true] at hb2 ⊢;have h4:listed[e.on]=true:=hb2;simp [h4]
         |false=>exact (ihj e.on h1 (by omega) hb2).elim
       rw [h0] at hmem;cases hmem
     exact key j hj hjb
    ·obtain ⟨o,ho,hil,hib,hpre⟩:=hready i hi
     have him:i < m:=by
      rcases Nat.lt_or_ge i m with h' |h'
      ·exact h'
      ·exfalso;refine hdone fun j hj=>?_;obtain ⟨p,hp⟩:∃ p,ops[j]? =some p:=⟨_,List.getElem?_eq_getElem (by omega)⟩
       rcases hR.ahead _ hI.closed i o ho hpre j p hp (by omega) with h2 |⟨h2,_⟩
       ·simp only [Bool.and_eq_true] at h2;exact h2.2
       ·omega
     obtain ⟨E,hE⟩:∃ E,Es[i]? =some E:=⟨_,List.getElem?_eq_getElem (by omega)⟩
     have hLi:(decide (i < ops.length) && listed.getD i true)=false:=by rw [hib];simp
     have hD:=hok i o E him ho hE;have hlooks:=hI.looks hR ho hLi hpre;obtain ⟨hyes,hno⟩:=hD.ok a w hI.defers hI.size hI.hp hlooks
     have hLadd:(fun j=>decide (j < ops.length) && (listed.setIfInBounds i true).getD j true)=add (fun j=>decide (j < ops.length) && listed.getD j true) i:=by
      funext j;unfold add;by_cases hji:j=i
      ·subst hji;simp [Array.getD,hs,hil]
      ·rw [if_neg hji];simp [Array.getD_eq_getD_getElem?,Array.getElem?_setIfInBounds_ne (Ne.symm hji)]
     have hnext:∀ v w',Below w.heap.size w w'->E.at v w'->wpAny P .any ops.toArray Q fuel (listed.setIfInBounds i true) (a.put o.dst v) w':=by
      intro v w' hb hv;refine ih _ _ _ ?_ (by simpa using hs) (fun j hj hmj=>?_) ?_
      ·have:((List.range m).filter fun j=>!(listed.setIfInBounds i true).getD j true).length + 1=((List.range m).filter fun j=>!listed.getD j true).length:=by
        have e1:((List.range m).filter fun j=>!listed.getD j true)=(List.range m).filter fun j=>!listed.getD j true:=rfl
        have hperm:=Dw (List.range m) List.nodup_range i (by simpa using him) (fun j=>!listed.getD j true) (fun j=>!(listed.setIfInBounds i true).getD j true) (by simp [hib]) (by simp [Array.getD,hs,hil]) (fun j hj=>by
         simp [Array.getD_eq_getD_getElem?,Array.getElem?_setIfInBounds_ne (Ne.symm hj)])
        exact hperm
       omega
      ·have hji:j ≠ i:=by omega
       have:=htail j hj hmj;simp only [Array.getD_eq_getD_getElem?] at this ⊢;rw [Array.getElem?_setIfInBounds_ne (Ne.symm hji)];exact this
      ·rw [hLadd];exact hI.step hR hst ho hLi hpre hE hD.lt hb hv
     unfold wpOp
     have ho':ops.toArray[i]? =some o:=by simpa using ho
     simp only [ho'];split
     ·rename_i hw;left;exact Oper.wp_mono2 (fun a' w' ⟨v,h1,h2,h3⟩=>by rw [h1];exact hnext v w' h2 h3) (fun _ _ _ h=>h.elim) (hyes hw)
     ·rename_i hw;exact hnext undef w (Below.refl _ _) (hno (by simpa using hw))
end
end
structure D (P:Program) (n:Nat) (w0:World) (all:Array Oper) (os:List Oper) (dl:DL) (ol:OL) (F:DL->Prop):Prop where
 out:∀ dl',(∀ t,lk dl' t=lk dl t)->DW P n w0 all ol os dl' F
def Cl:FL->DL
 | []=>[]
 |(k,v)::l=>(k,.ex v)::Cl l
theorem HW:∀ (l:FL) (t:Nat),lk (Cl l) t=(AP l t).map .ex
 | [],t=>rfl
 |(k,v)::l,t=>by
  by_cases hkt:k=t
  ·subst hkt;rw [B6];show lk ((k,EE.ex v)::Cl l) k=_;rw [Bl];rfl
  ·rw [BU hkt];show lk ((k,EE.ex v)::Cl l) t=_;rw [BA hkt];exact HW l t
def E1:Operand->List Nat
 | .tmp t=>[t]
 |_=>[]
def CO:List Operand->List Nat
 | []=>[]
 |x::xs=>match x with
  | .tmp t=>t::CO xs
  |_=>CO xs
def LQ:Op->List Nat
 | .move x=>E1 x
 | .assign x=>E1 x
 | .pick c a b=>CO [c,a,b]
 | .binOp _ _ x y _=>CO [x,y]
 | .unOp _ _ x=>E1 x
 | .convert _ _ x=>E1 x
 | .extract t _=>E1 t
 | .fieldAddr _ x _=>E1 x
 | .field _ x _=>E1 x
 | .nilCheck x=>E1 x
 | .load _ x=>E1 x
 | .store _ a v=>CO [a,v]
 | .box _ x=>E1 x
 | .indexAddr _ x i=>CO [x,i]
 | .index _ x i=>CO [x,i]
 | .slice _ x lo hi mx=>CO (x::(lo.toList ++ hi.toList ++ mx.toList))
 | .call ⟨.value f,asx,_⟩=>CO (f::asx.toList)
 | .call ⟨.builtin _,asx,_⟩=>CO asx.toList
 | .build _ ps=>CO (ps.toList.map (·.2))
 | .buildSlice _ _ ps=>CO (ps.toList.map (·.2))
 | .lookup _ x i _=>CO [x,i]
 | .makeSlice _ x i=>CO [x,i]
 | .makeInterface _ x=>E1 x
 | .typeAssert x _ _ _=>E1 x
 | .makeFunc _ a b=>CO (a.toList ++ b.toList)
 |_=>[]
theorem EI:∀ {xs:List Operand} {t:Nat},t ∈ CO xs->Operand.tmp t ∈ xs
 | [],t,h=>by simp [CO] at h
 |x::xs,t,h=>by
  cases x with
  |tmp u=>
   simp only [CO,List.mem_cons] at h
   rcases h with rfl |h
   ·simp
   ·exact List.mem_cons_of_mem _ (EI h)
  |_=>exact List.mem_cons_of_mem _ (EI (by simpa [CO] using h))
theorem Pc {x:Operand} {t:Nat} (h:t ∈ E1 x):x= .tmp t:=by
 cases x<;>simp [E1] at h;rw [h]
theorem Nt {op:Op} {t:Nat} (h:t ∈ LQ op):Operand.tmp t ∈ op.operands.toList:=by
 unfold LQ at h
 split at h<;>first
  |(have:=Pc h;subst this;simp [Op.operands];done)
  |(have:=EI h;simpa [Op.operands,Call.operands] using this)
  |(have:=EI h;simp [Op.operands,Call.operands] at this ⊢;rcases this with h |h |h |h<;>simp [h])
  |(have:=EI h;simp [Op.operands,Call.operands] at this ⊢;rcases this with h |h<;>simp [h])
  |(simp at h)
def OC (all:Array Oper) (g:Option (Nat × Bool)):List Nat:=
 match g with
 |none=>[]
 |some (j,_)=>match all.toList[j]? with
  |some o=>match o.dst with
   |some d=>[d]
   |none=>[]
  |none=>[]
theorem PA {all:Array Oper} {o:Oper} {t:Nat} (h:t ∈ OC all o.guard):t ∈ o.looksAt all:=by
 unfold Oper.looksAt;refine List.mem_append_right _ ?_
 cases hg:o.guard with
 |none=>rw [hg] at h;simp [OC] at h
 |some p=>
  obtain ⟨j,b⟩:=p;rw [hg] at h;simp only [OC] at h
  cases hj:all.toList[j]? with
  |none=>rw [hj] at h;simp at h
  |some oj=>
   rw [hj] at h
   have hj':all[j]? =some oj:=by simpa using hj
   cases hd:oj.dst with
   |none=>simp [hd] at h
   |some d=>simp [hd] at h;simp [hj',hd,h]
def Pv (t:Nat):List Nat->Bool
 | []=>false
 |x::xs=>match Nat.beq x t with
  |true=>true
  |false=>Pv t xs
theorem JW {t:Nat}:∀ {l:List Nat},Pv t l=true->t ∈ l
 | [],h=>by simp [Pv] at h
 |x::xs,h=>by
  simp only [Pv] at h;split at h
  ·rename_i hb;rw [Nat.eq_of_beq_eq_true hb];simp
  ·exact List.mem_cons_of_mem _ (JW h)
def rs (all:Array Oper) (o:Oper) (dl:DL) (t:Nat):Option Value:=
 match lk dl t with
 |some (.ex v)=>match Pv t (LQ o.op) with
  |true=>some v
  |false=>match Pv t (OC all o.guard) with
   |true=>some v
   |false=>none
 |_=>none
theorem QK {all:Array Oper} {o:Oper} {t:Nat} (h:t ∈ LQ o.op):t ∈ o.looksAt all:=by
 unfold Oper.looksAt;refine List.mem_append_left _ (List.mem_filterMap.2 ⟨.tmp t,Nt h,rfl⟩)
theorem KO {all:Array Oper} {o:Oper} {dl:DL} {a:Act} {w:World} (h:∀ t ∈ o.looksAt all,Lp (lk dl t) a.tmps[t]? w):Rd a (rs all o dl):=by
 intro t v hv;unfold rs at hv;split at hv
 ·rename_i u hu
  have key:t ∈ o.looksAt all->a.tmps[t]? =some u:=fun hm=>by
   have:=h t hm;rw [hu] at this;obtain ⟨x,h1,h2⟩:=this;rw [h1,h2]
  split at hv
  ·rename_i hm;simp at hv;subst hv;exact key (QK (JW hm))
  ·split at hv
   ·rename_i hm;simp at hv;subst hv;exact key (PA (JW hm))
   ·cases hv
 ·cases hv
section
variable {P:Program} {tb:EU} {n:Nat} {w0:World} {all:Array Oper} {os:List Oper} {o:Oper} {dl:DL} {ol:OL} {F:DL->Prop}
theorem U3 (h:∀ dl',(∀ t,lk dl' t=lk dl t)->F dl'):D P n w0 all [] dl ol F:=⟨h⟩
theorem Sd {E:EE} {d:Nat} (h:XL P n w0 all ol dl o E) (hd:o.dst=some d) (k:D P n w0 all os ((d,E)::dl) ol F):D P n w0 all (o::os) dl ol F:=by
 refine ⟨fun dl' he=>⟨E,⟨fun a w h1 h2 h3 h4=>h.ok a w h1 h2 h3 fun t ht=>?_,h.stable,h.lt⟩,?_⟩⟩
 ·rw [<-he t];exact h4 t ht
 ·rw [hd];refine k.out _ fun t=>?_;by_cases hdt:d=t
  ·subst hdt;rw [Hz,Bl,Bl]
  ·rw [Hz,BA hdt,BA hdt,he t]
theorem Sb {d:Nat} {v:Value} (hd:o.dst=some d) (hn:d < n) (hg:gd all (rs all o dl) o.guard=some true) (hr:∀ a w,Rd a (rs all o dl)->Hp w0 w ol->(execOp a.eval o).run P w= .ok (.value v) w)
 (k:D P n w0 all os ((d,.ex v)::dl) ol F):D P n w0 all (o::os) dl ol F:=by
 refine Sd (E:=.ex v) ⟨fun a w h1 h2 h3 h4=>?_,trivial,fun d' hd'=>?_⟩ hd k
 ·have hrd:=KO h4;have hw:=Bb hrd hg;refine ⟨fun _=>?_,(fun hn=>by rw [hw] at hn;cases hn)⟩;simp only [Oper.wp,hr a w hrd h3,Oper.upon];exact ⟨v,rfl,Below.refl _ _,rfl⟩
 ·rw [hd] at hd';cases hd';exact hn
theorem Ah (ht:AW P tb) {d:Nat} {v:Value} (hs:Dr tb n all (rs all o dl) o=some (d,v)) (k:D P n w0 all os ((d,.ex v)::dl) ol F):D P n w0 all (o::os) dl ol F:=by
 unfold Dr at hs;split at hs
 ·rename_i hg;split at hs
  ·rename_i d' hd;split at hs
   ·rename_i hb;split at hs
    ·rename_i v' hv;simp at hs;obtain ⟨rfl,rfl⟩:=hs;exact Sb hd (by simpa [Nat.blt_eq] using hb) hg (fun a w hrd _=>JS ht hrd hv w) k
    ·cases hs
   ·cases hs
  ·cases hs
 ·cases hs
theorem FM (ht:AW P tb) {d:Nat} {v v':Value} (hs:Dr tb n all (rs all o dl) o=some (d,v)) (he:v=v') (k:D P n w0 all os ((d,.ex v')::dl) ol F):D P n w0 all (o::os) dl ol F:=
 Ah ht hs (he ▸ k)
theorem BD (ht:AW P tb) {d:Nat} {e:Int} (hs:Dr tb n all (rs all o dl) o=some (d,.int .i64 (IntKind.i64.wrap e))) (hb:-9223372036854775808 <= e/\e <= 9223372036854775807)
 (k:D P n w0 all os ((d,.ex (.int .i64 e))::dl) ol F):D P n w0 all (o::os) dl ol F:=FM ht hs (by rw [IntWalk.i64_in _ hb]) k
theorem O6 (ht:AW P tb) {d:Nat} {e:Int} (hs:Dr tb n all (rs all o dl) o=some (d,.int .u64 (IntKind.u64.wrap e))) (hb:0 <= e/\e <= 18446744073709551615)
 (k:D P n w0 all os ((d,.ex (.int .u64 e))::dl) ol F):D P n w0 all (o::os) dl ol F:=FM ht hs (by rw [IntWalk.u64_in _ hb]) k
theorem BP {d:Nat} (hg:gd all (rs all o dl) o.guard=some false) (hd:o.dst=some d) (hn:Nat.blt d n=true) (k:D P n w0 all os ((d,.ex undef)::dl) ol F):D P n w0 all (o::os) dl ol F:=by
 refine Sd (E:=.ex undef) ⟨fun a w h1 h2 h3 h4=>?_,trivial,fun d' hd'=>?_⟩ hd k
 ·have hw:=Bb (KO h4) hg;exact ⟨(fun h=>by rw [hw] at h;cases h),fun _=>rfl⟩
 ·rw [hd] at hd';cases hd';simpa [Nat.blt_eq] using hn
theorem Ny {r:Nat->Option Value} {d:Nat} {t:TypeId} {ti:TI} {ad:Addr} {v:Value} {a:Act} {w:World} (hs:Dn tb n all r o=some (d,t,ti,ad)) (hrd:Rd a r) (hv:tl tb t=some ti->(loadVar t ad).run P w= .ok v w):
 gd all r o.guard=some true/\o.dst=some d/\d < n/\(execOp a.eval o).run P w= .ok (.value v) w:=by
 unfold Dn at hs;split at hs
 ·rename_i hg;split at hs
  ·rename_i d' hd;split at hs
   ·rename_i hb;split at hs
    ·rename_i t' x hop;split at hs
     ·rename_i ti' hti;split at hs
      ·rename_i ad' hx;simp at hs;obtain ⟨rfl,rfl,rfl,rfl⟩:=hs;refine ⟨hg,hd,by simpa [Nat.blt_eq] using hb,?_⟩;unfold execOp;simp [hop,hrd.ev hx,Instr.loadAt,Instr.sureAddr,hv hti]
      ·cases hs
     ·cases hs
    ·cases hs
   ·cases hs
  ·cases hs
 ·cases hs
theorem Nz {r:Nat->Option Value} {d:Nat} {t:TypeId} {ti:TI} {ad:Addr} (hs:Dn tb n all r o=some (d,t,ti,ad)):gd all r o.guard=some true/\o.dst=some d/\d < n:=by
 unfold Dn at hs;split at hs
 ·rename_i hg;split at hs
  ·rename_i d' hd;split at hs
   ·rename_i hb;split at hs
    ·split at hs
     ·split at hs
      ·simp at hs;exact ⟨hg,by rw [hd,hs.1],by rw [<-hs.1];simpa [Nat.blt_eq] using hb⟩
      ·cases hs
     ·cases hs
    ·cases hs
   ·cases hs
  ·cases hs
 ·cases hs
theorem IQ (ht:AW P tb) {d:Nat} {t:TypeId} {ti:TI} {ad:Addr} {v:Value} (hs:Dn tb n all (rs all o dl) o=some (d,t,ti,ad)) (hv:tl tb t=some ti->∀ w,Hp w0 w ol->(loadVar t ad).run P w= .ok v w)
 (k:D P n w0 all os ((d,.ex v)::dl) ol F):D P n w0 all (o::os) dl ol F:=by
 obtain ⟨h1,h2,h3⟩:=Nz hs;exact Sb h2 h3 h1 (fun a w hrd hh=>(Ny hs hrd (fun hti=>hv hti w hh)).2.2.2) k
theorem AE (ht:AW P tb) (i:Nat) {d:Nat} {t:TypeId} {ti:TI} {b off:Nat} {v:Value} {cs:List Value} {e:TypeId} {fz:Nat × Nat} {r:Bool} (hs:Dn tb n all (rs all o dl) o=some (d,t,ti,⟨b,off,none⟩))
 (hi:B9 ol i=some (.blk b (.cells ⟨cs⟩ e fz) r)) (hv:IH ti cs off=some v) (k:D P n w0 all os ((d,.ex v)::dl) ol F):D P n w0 all (o::os) dl ol F:=
 IQ ht hs (fun hti w hh=>E4 ht hti (hh.own _ (Af hi)) hv) k
theorem Av (ht:AW P tb) {d:Nat} {t:TypeId} {ti:TI} {ad:Addr} {v:Value} (hs:Dn tb n all (rs all o dl) o=some (d,t,ti,ad)) (ha:Eo ti.desc=false) (hv:∀ w,Hp w0 w ol->w.cell? ad=some v)
 (k:D P n w0 all os ((d,.ex v)::dl) ol F):D P n w0 all (o::os) dl ol F:=
 IQ ht hs (fun hti w hh=>E5 ht hti ha (hv w hh)) k
def Ll (dl:DL):List Operand->Option (List EE)
 | []=>some []
 |x::xs=>match x with
  | .tmp t=>match lk dl t with
   |some E=>match Ll dl xs with
    |some Es=>some (E::Es)
    |none=>none
   |none=>none
  | .const v=>match Ll dl xs with
   |some Es=>some (.ex v::Es)
   |none=>none
  |_=>none
def GC:List EE->List Value->World->Prop
 | [],vs,_=>vs= []
 |E::Es,vs,w=>∃ u us,vs=u::us/\E.at u w/\GC Es us w
def Kn (n:Nat) (all:Array Oper) (dl:DL) (o:Oper):Option (Nat × FuncId × List EE):=
 match gd all (rs all o dl) o.guard with
 |some true=>match o.dst with
  |some d=>match Nat.blt d n with
   |true=>match o.op with
    | .call ⟨.value (.func f),asx,_⟩=>match Ll dl asx.toList with
     |some Es=>some (d,f,Es)
     |none=>none
    |_=>none
   |false=>none
  |none=>none
 |_=>none
theorem Ks {a:Act} {w:World}:∀ {xs:List Operand} {Es:List EE},Ll dl xs=some Es->(∀ t,Operand.tmp t ∈ xs->Lp (lk dl t) a.tmps[t]? w)->GC Es (xs.map a.eval) w
 | [],Es,h,_=>by simp [Ll] at h;subst h;simp [GC]
 |x::xs,Es,h,hs=>by
  unfold Ll at h;split at h
  ·rename_i t;split at h
   ·rename_i E hE;split at h
    ·rename_i Es' hEs;simp at h;subst h;have h1:=hs t (by simp);rw [hE] at h1;obtain ⟨v,h2,h3⟩:=h1;exact ⟨_,_,rfl,by simpa [Act.eval,Array.getD_eq_getD_getElem?,h2] using h3,Ks hEs fun u hu=>hs u (List.mem_cons_of_mem _ hu)⟩
    ·cases h
   ·cases h
  ·rename_i v;split at h
   ·rename_i Es' hEs;simp at h;subst h;exact ⟨_,_,rfl,rfl,Ks hEs fun u hu=>hs u (List.mem_cons_of_mem _ hu)⟩
   ·cases h
  ·cases h
theorem Lw {d:Nat} {f:FuncId} {Es:List EE} (hs:Kn n all dl o=some (d,f,Es)) (hcall:∀ args w,(callFunc f args).run P w= .ok (.enter f args) w) (E:EE) (hst:E.Stable)
 (hc:∀ w vs,Hp w0 w ol->GC Es vs w->Calls P f vs.toArray w (fun e w'=>∃ v,e= .returned v/\Below w.heap.size w w'/\E.at v w')) (k:D P n w0 all os ((d,E)::dl) ol F):D P n w0 all (o::os) dl ol F:=by
 unfold Kn at hs;split at hs
 ·rename_i hg;split at hs
  ·rename_i d' hd;split at hs
   ·rename_i hb;split at hs
    ·rename_i f' asx ts hop;split at hs
     ·rename_i Es' hEs;simp at hs;obtain ⟨rfl,rfl,rfl⟩:=hs;refine Sd ⟨fun a w h1 h2 h3 h4=>?_,hst,fun d hd'=>?_⟩ hd k
      ·have hw:=Bb (KO h4) hg;refine ⟨fun _=>?_,(fun hn=>by rw [hw] at hn;cases hn)⟩
       have hent:GC Es' (asx.toList.map a.eval) w:=Ks hEs fun t ht=>h4 t (by
        unfold Oper.looksAt;refine List.mem_append_left _ (List.mem_filterMap.2 ⟨.tmp t,?_,rfl⟩);rw [hop];simp [Op.operands,Call.operands]
        simpa using ht)
       have hm:asx.map a.eval=(asx.toList.map a.eval).toArray:=by
        apply Array.ext';simp
       have hr:(execOp a.eval o).run P w= .ok (.enter f' (asx.toList.map a.eval).toArray) w:=by
        unfold execOp;simp [hop,resolve,Act.eval,Deferred.ofValue,invoke,hcall,hm]
       simp only [Oper.wp,hr,Oper.upon];refine (hc w _ h3 hent).mono ?_;rintro e w' ⟨v,rfl,hb',hv⟩;exact ⟨v,rfl,hb',hv⟩
      ·rw [hd] at hd';cases hd';simpa [Nat.blt_eq] using hb
     ·cases hs
    ·cases hs
   ·cases hs
  ·cases hs
 ·cases hs
theorem Bi {d:Nat} {f:FuncId} {Es:List EE} {v:Value} (hs:Kn n all dl o=some (d,f,Es)) (hcall:∀ args w,(callFunc f args).run P w= .ok (.enter f args) w)
 (hc:∀ w vs,Hp w0 w ol->GC Es vs w->Calls P f vs.toArray w (fun e w'=>e= .returned v/\Below w.heap.size w w')) (k:D P n w0 all os ((d,.ex v)::dl) ol F):D P n w0 all (o::os) dl ol F:=
 Lw hs hcall (.ex v) trivial (fun w vs h1 h2=>(hc w vs h1 h2).mono fun e w' ⟨h3,h4⟩=>⟨v,h3,h4,rfl⟩) k
theorem O7 {d:Nat} {f:FuncId} {Es:List EE} (Ψ:Value->World->Prop) (hs:Kn n all dl o=some (d,f,Es)) (hcall:∀ args w,(callFunc f args).run P w= .ok (.enter f args) w) (hst:∀ v w w',Ψ v w->Below w.heap.size w w'->Ψ v w')
 (hc:∀ w vs,Hp w0 w ol->GC Es vs w->Calls P f vs.toArray w (fun e w'=>∃ v,e= .returned v/\Below w.heap.size w w'/\Ψ v w')) (k:D P n w0 all os ((d,.pr Ψ)::dl) ol F):D P n w0 all (o::os) dl ol F:=
 Lw hs hcall (.pr Ψ) hst hc k
theorem BX (d:Nat) {v v':Value} (hl:lk dl d=some (.ex v)) (he:v=v') (h:D P n w0 all os ((d,.ex v')::dl) ol F):D P n w0 all os dl ol F:=by
 refine ⟨fun dl' hd=>h.out dl' fun t=>?_⟩;rw [hd t];by_cases hdt:d=t
 ·subst hdt;subst he;rw [Bl,hl]
 ·rw [BA hdt]
theorem Fh {d:Nat} {p:Prop} {_:Decidable p} (hg:QV all o.guard=some d) (hl:lk dl d=some (.ex (.bool (decide p)))) (ht:p->D P n w0 all (o::os) ((d,.ex (.bool true))::dl) ol F)
 (hf:¬ p->D P n w0 all (o::os) ((d,.ex (.bool false))::dl) ol F):D P n w0 all (o::os) dl ol F:=by
 by_cases hp:p
 ·exact BX d hl (by simp [hp]) (ht hp)
 ·exact BX d hl (by simp [hp]) (hf hp)
theorem Sc {d:Nat} {b:Bool} (hg:QV all o.guard=some d) (hl:lk dl d=some (.ex (.bool b))) (ht:b=true->D P n w0 all (o::os) ((d,.ex (.bool true))::dl) ol F)
 (hf:b=false->D P n w0 all (o::os) ((d,.ex (.bool false))::dl) ol F):D P n w0 all (o::os) dl ol F:=by
 cases b
 ·exact BX d hl rfl (hf rfl)
 ·exact BX d hl rfl (ht rfl)
def E0 (n:Nat) (w0:World) (ol:OL) (G:FL->OL->Prop) (dl:DL):Prop:=
 ∀ w,Hp w0 w ol->∀ f:Nat->Value,(∀ t Φ,lk dl t=some (.pr Φ)->Φ (f t) w)->∃ l' ol',(∀ t v,AP l' t=some v->lk dl t=some (.ex v) \/ ∃ Φ,lk dl t=some (.pr Φ)/\f t=v)/\Hp w0 w ol'/\G l' ol'
theorem E0.ext {G:FL->OL->Prop} {dl':DL} (h:E0 n w0 ol G dl) (he:∀ t,lk dl' t=lk dl t):E0 n w0 ol G dl':=by
 intro w hw f hf;obtain ⟨l',ol',h1,h2,h3⟩:=h w hw f fun t Φ ht=>hf t Φ (by rw [he t];exact ht);exact ⟨l',ol',fun t v hv=>by rw [he t];exact h1 t v hv,h2,h3⟩
theorem Na {G:FL->OL->Prop} (h:E0 n w0 ol G dl):D P n w0 all [] dl ol (E0 n w0 ol G):=U3 fun dl' he=>h.ext he
theorem Se {G:FL->OL->Prop} (l':FL) (hl:∀ t v,AP l' t=some v->lk dl t=some (.ex v)) (h:G l' ol):D P n w0 all [] dl ol (E0 n w0 ol G):=
 Na fun w hw f hf=>⟨l',ol,fun t v hv=>.inl (hl t v hv),hw,h⟩
def Xl:DL->(Nat->Value)->Option FL
 | [],_=>some []
 |(k,E)::dl,f=>match Xl dl f with
  |some r=>match E with
   | .ex v=>some ((k,v)::r)
   | .pr _=>some ((k,f k)::r)
  |none=>none
theorem MQ {f:Nat->Value}:∀ {dl:DL} {l':FL},Xl dl f=some l'->∀ t v,AP l' t=some v->lk dl t=some (.ex v) \/ ∃ Φ,lk dl t=some (.pr Φ)/\f t=v
 | [],l',h,t,v,hv=>by simp [Xl] at h;subst h;simp [AP] at hv
 |(k,E)::dl,l',h,t,v,hv=>by
  simp only [Xl] at h;split at h
  ·rename_i r hr;have ih:=MQ hr t v;by_cases hkt:k=t
   ·subst hkt;rw [Bl]
    cases E with
    |ex u=>simp at h;subst h;rw [B6] at hv;cases hv;exact .inl rfl
    |pr Φ=>simp at h;subst h;rw [B6] at hv;cases hv;exact .inr ⟨Φ,rfl,rfl⟩
   ·rw [BA hkt]
    cases E with
    |ex u=>simp at h;subst h;rw [BU hkt] at hv;exact ih hv
    |pr Φ=>simp at h;subst h;rw [BU hkt] at hv;exact ih hv
  ·cases h
theorem XK {G:FL->OL->Prop} (h:∀ w,Hp w0 w ol->∀ f:Nat->Value,(∀ t Φ,lk dl t=some (.pr Φ)->Φ (f t) w)->∃ l' ol',Xl dl f=some l'/\Hp w0 w ol'/\G l' ol'):D P n w0 all [] dl ol (E0 n w0 ol G):=
 Na fun w hw f hf=>let ⟨l',ol',h1,h2,h3⟩:=h w hw f hf;⟨l',ol',MQ h1,h2,h3⟩
def Xm:DL->Option FL
 | []=>some []
 |(k,E)::dl=>match Xm dl with
  |some r=>match E with
   | .ex v=>some ((k,v)::r)
   | .pr _=>none
  |none=>none
theorem MR:∀ {dl:DL} {l':FL},Xm dl=some l'->∀ t v,AP l' t=some v->lk dl t=some (.ex v)
 | [],l',h,t,v,hv=>by simp [Xm] at h;subst h;simp [AP] at hv
 |(k,E)::dl,l',h,t,v,hv=>by
  simp only [Xm] at h;split at h
  ·rename_i r hr
   cases E with
   |ex u=>
    simp at h;subst h;by_cases hkt:k=t
    ·subst hkt;rw [B6] at hv;cases hv;rw [Bl]
    ·rw [BU hkt] at hv;rw [BA hkt];exact MR hr t v hv
   |pr Φ=>simp at h
  ·cases h
theorem AN {G:FL->OL->Prop} {l':FL} (hl:Xm dl=some l') (h:G l' ol):D P n w0 all [] dl ol (E0 n w0 ol G):=Se l' (MR hl) h
def Bc (l':FL) (dl:DL):Prop:=∀ t v,AP l' t=some v->lk dl t=some (.ex v)
theorem Bc.nil:Bc [] dl:=fun t v h=>by simp [AP] at h
theorem Bc.cons {k:Nat} {v:Value} {l':FL} (h:lk dl k=some (.ex v)) (hs:Bc l' dl):Bc ((k,v)::l') dl:=by
 intro t u hu;by_cases hkt:k=t
 ·subst hkt;rw [B6] at hu;cases hu;exact h
 ·rw [BU hkt] at hu;exact hs t u hu
end
section
variable {P:Program} {tb:EU} {n:Nat} {w0:World} {l:FL} {ol:OL} {K:FL->OL->Prop} {Q:B3}
theorem IL {Es:List EE} {m:Nat}:∀ (os:List Oper) (i:Nat) (Es:List EE) (dl:DL) (m:Nat),i <= m->BM Es (os.take m) i dl=BM Es os i dl
 | [],i,Es,dl,m,h=>by simp
 |o::os,0,Es,dl,m,h=>by rw [DG,DG]
 |o::os,i + 1,[],dl,m + 1,h=>rfl
 |o::os,i + 1,E::Es,dl,m + 1,h=>by
  simp only [List.take_succ_cons,BM];exact IL (Es:=Es) (m:=m) os i Es _ m (by omega)
 |o::os,i + 1,Es,dl,0,h=>by omega
theorem JI {a:Act} {w:World} (hf:Fr a n l) (t:Nat):Lp (lk (Cl l) t) a.tmps[t]? w:=by
 rw [HW]
 cases h:AP l t with
 |none=>trivial
 |some v=>exact ⟨v,hf.get t v h,rfl⟩
theorem IU (t:Nat) (E:EE) (h:lk (Cl l) t=some E):E.Stable:=by
 rw [HW] at h
 cases hl:AP l t with
 |none=>rw [hl] at h;simp at h
 |some v=>rw [hl] at h;simp at h;rw [<-h];trivial
theorem Cd {id:Nat} {ops:List Oper} (hmix:P.follows .mixedOrders=true) (m:Nat) (hm:Nat.ble m ops.length=true) (hreg:HN ops m=true)
 (h:D P n w0 ops.toArray (ops.take m) (Cl l) ol (E0 n w0 ol (fun l' ol'=>S P n w0 ops.toArray (ops.drop m) l' ol' K Q))):T P n w0 (.region id ops.toArray true) l ol (BK K Q):=by
 refine ⟨fun a w hf hh=>?_⟩;have hR:=Np hreg;have hmle:=Nat.le_of_ble_eq_true hm;obtain ⟨Es,hl,hok,hF⟩:=U4 (h.out _ fun _=>rfl)
 have hEs:Es.length=m:=by rw [hl,List.length_take];omega
 have hEst:∀ E ∈ Es,E.Stable:=by
  intro E hE;obtain ⟨i,hi,rfl⟩:=List.getElem_of_mem hE;have ho:(ops.take m)[i]? =some ((ops.take m)[i]'(by omega)):=List.getElem?_eq_getElem _;exact (hok i _ _ ho (List.getElem?_eq_getElem hi)).stable
 have hst:=Ld (Es:=Es) (dl:=Cl l) (IU) hEst;refine wp_region_any hmix (NY (n:=n) (w0:=w0) (ol:=ol) (Es:=Es) (dl:=Cl l) (m:=m) hR hmle hEs (fun i o E hi ho hE=>?_) (fun i t E hE=>hst ops i Es (Cl l) hEst IU t E hE) (fun a w h1 h2 h3 h4=>?_) _ _ _ _ ?_ (by simp) ?_ ?_)
 ·have:=hok i o E (by rw [List.getElem?_take,if_pos hi];exact ho) hE
  rwa [IL (Es:=Es) (m:=m) ops i Es _ m (by omega)] at this
 ·rw [List.length_take,Nat.min_eq_left hmle,IL (Es:=Es) (m:=m) ops m Es _ m (Nat.le_refl _)] at hF
  have hch:∃ f:Nat->Value,∀ t Φ,lk (BM Es ops m (Cl l)) t=some (.pr Φ)->a.tmps[t]? =some (f t)/\Φ (f t) w:=by
   refine ⟨fun t=>a.tmps.getD t undef,fun t Φ ht=>?_⟩;have:=h4 t;rw [ht] at this;obtain ⟨v,hv,hΦ⟩:=this
   have e:a.tmps.getD t undef=v:=by rw [Array.getD_eq_getD_getElem?,hv];rfl
   show a.tmps[t]? =some (a.tmps.getD t undef)/\Φ (a.tmps.getD t undef) w;rw [e];exact ⟨hv,hΦ⟩
  obtain ⟨f,hf'⟩:=hch;obtain ⟨l',ol',e1,e2,e3⟩:=hF w h3 f fun t Φ ht=>(hf' t Φ ht).2;refine e3.out a w ⟨h1,h2,fun t v hv=>?_⟩ e2
  rcases e1 t v hv with e |⟨Φ,e,rfl⟩
  ·have:=h4 t;rw [e] at this;obtain ⟨u,hu,hu'⟩:=this;rw [hu,hu']
  ·exact (hf' t Φ e).1
 ·simp only [List.size_toArray]
  have:((List.range m).filter fun j=>!(Array.replicate ops.length false).getD j true)=List.range m:=by
   rw [List.filter_eq_self];intro j hj
   have:j < ops.length:=by have:=List.mem_range.1 hj;omega
   simp [Array.getD,this]
  rw [this,List.length_range];omega
 ·intro j hj _;simp [Array.getD,hj]
 ·refine ⟨hf.defers,hf.size,hh.drew,fun i o ho hi=>?_,fun i t hi hc=>?_⟩
  ·have hil:=(List.getElem?_eq_some_iff.1 ho).1;simp [Array.getD,hil] at hi
  ·have hnone:lk (BM Es ops i (Cl l)) t=lk (Cl l) t:=DT fun j o hj ho hd=>by
    have hjl:=(List.getElem?_eq_some_iff.1 ho).1;have:=(hc j o ho hd).1 hj;simp [Array.getD,hjl] at this
   rw [hnone];exact JI hf t
theorem A5 {id:Nat} {ops:List Oper} (hmix:P.follows .mixedOrders=true) (hreg:HN ops ops.length=true)
 (h:D P n w0 ops.toArray ops (Cl l) ol (E0 n w0 ol K)):T P n w0 (.region id ops.toArray true) l ol (BK K Q):=by
 refine Cd hmix ops.length (by simp) hreg ?_;rw [List.take_length,List.drop_length];refine ⟨fun dl' he=>?_⟩;have:=h.out dl' he
 have key:∀ (os:List Oper) (dl:DL),DW P n w0 ops.toArray ol os dl (E0 n w0 ol K)->DW P n w0 ops.toArray ol os dl (E0 n w0 ol (fun l' ol'=>S P n w0 ops.toArray [] l' ol' K Q)):=by
  intro os
  induction os with
  |nil=>
   intro dl hF w hw f hf;obtain ⟨l',ol',h1,h2,h3⟩:=hF w hw f hf;exact ⟨l',ol',h1,h2,Ag h3⟩
  |cons o os ih=>intro dl ⟨E,h1,h2⟩;exact ⟨E,h1,ih _ h2⟩
 exact key _ _ this
end
structure Hw (P:Program) (n:Nat) (w0:World) (all:Array Oper) (r:Nat->Option Value) (ol:OL) (o:Oper) (d:Nat) (v:Value):Prop where
 dst:o.dst=some d
 lt:d < n
 gd:gd all r o.guard=some true
 run:∀ a w,Rd a r->Hp w0 w ol->(execOp a.eval o).run P w= .ok (.value v) w
section
variable {P:Program} {tb:EU} {n:Nat} {w0:World} {all:Array Oper} {os:List Oper} {o:Oper} {l:FL} {dl:DL} {ol:OL} {F:DL->Prop} {K:FL->OL->Prop} {Q:B3} {r:Nat->Option Value} {d:Nat} {v:Value}
theorem BE (h:Hw P n w0 all (AP l) ol o d v) (k:S P n w0 all os ((d,v)::l) ol K Q):S P n w0 all (o::os) l ol K Q:=by
 refine ⟨fun a w hf hh=>B4 (v:=v) (Bb hf.rd h.gd) (h.run a w hf.rd hh) ?_⟩;rw [h.dst];exact k.out _ w (hf.put h.lt _) hh
theorem Bx (h:Hw P n w0 all (rs all o dl) ol o d v) (k:D P n w0 all os ((d,.ex v)::dl) ol F):D P n w0 all (o::os) dl ol F:=
 Sb h.dst h.lt h.gd h.run k
theorem Hw.eq {v':Value} (h:Hw P n w0 all r ol o d v) (he:v=v'):Hw P n w0 all r ol o d v':=he ▸ h
def BV (n:Nat) (all:Array Oper) (r:Nat->Option Value) (o:Oper):Option (Nat × Op):=
 match gd all r o.guard with
 |some true=>match o.dst with
  |some d=>match Nat.blt d n with
   |true=>some (d,o.op)
   |false=>none
  |none=>none
 |_=>none
theorem CE {op:Op} (hs:BV n all r o=some (d,op)):o.dst=some d/\d < n/\gd all r o.guard=some true/\o.op=op:=by
 unfold BV at hs;split at hs
 ·rename_i hg;split at hs
  ·rename_i d' hd;split at hs
   ·rename_i hb;simp at hs;exact ⟨by rw [hd,hs.1],by rw [<-hs.1];simpa [Nat.blt_eq] using hb,hg,hs.2⟩
   ·cases hs
  ·cases hs
 ·cases hs
theorem Gc {op:Op} (hs:BV n all r o=some (d,op)) (hr:∀ a w,Rd a r->Hp w0 w ol->o.op=op->(execOp a.eval o).run P w= .ok (.value v) w):Hw P n w0 all r ol o d v:=by
 obtain ⟨h1,h2,h3,h4⟩:=CE hs;exact ⟨h1,h2,h3,fun a w hrd hh=>hr a w hrd hh h4⟩
theorem O0 {t t':TypeId} {x y:Operand} {k k':IntKind} {a b:Int} (hs:BV n all r o=some (d,.binOp .shr t x y t')) (hx:ev r x=some (.int k a)) (hy:ev r y=some (.int k' b)) (hb:0 <= b/\b <= k.bits):
 Hw P n w0 all r ol o d (.int k (a / 2 ^ b.toNat)):=
 Gc hs fun ac w hrd hh hop=>by
  unfold execOp;simp [hop,hrd.ev hx,hrd.ev hy,eqGuard_at_int,binOp_shr,shift_shr k k' a b hb.1 hb.2]
theorem O2 {t t':TypeId} {x y:Operand} {k k':IntKind} {a b:Int} (hs:BV n all r o=some (d,.binOp .shl t x y t')) (hx:ev r x=some (.int k a)) (hy:ev r y=some (.int k' b)) (hb:0 <= b/\b <= k.bits):
 Hw P n w0 all r ol o d (.int k (k.wrap (a * 2 ^ b.toNat))):=
 Gc hs fun ac w hrd hh hop=>by
  unfold execOp;simp [hop,hrd.ev hx,hrd.ev hy,eqGuard_at_int,binOp_shl,shift_shl k k' a b hb.1 hb.2]
theorem UY {t t':TypeId} {x y:Operand} {k:IntKind} {a b:Int} (hs:BV n all r o=some (d,.binOp .quo t x y t')) (hx:ev r x=some (.int k a)) (hy:ev r y=some (.int k b)) (hb:b ≠ 0):
 Hw P n w0 all r ol o d (.int k (k.wrap (a.tdiv b))):=
 Gc hs fun ac w hrd hh hop=>by
  unfold execOp;simp [hop,hrd.ev hx,hrd.ev hy,eqGuard_at_int,binOp_quo,Op.intDiv,hb]
theorem XB {t t':TypeId} {x y:Operand} {k:IntKind} {a b:Int} (hs:BV n all r o=some (d,.binOp .rem t x y t')) (hx:ev r x=some (.int k a)) (hy:ev r y=some (.int k b)) (hb:b ≠ 0):
 Hw P n w0 all r ol o d (.int k (a.tmod b)):=
 Gc hs fun ac w hrd hh hop=>by
  unfold execOp;simp [hop,hrd.ev hx,hrd.ev hy,eqGuard_at_int,binOp_rem,Op.intDiv,hb]
theorem Hv {t t':TypeId} {x y:Operand} {k:IntKind} {a b:Int} (hs:BV n all r o=some (d,.binOp .quo t x y t')) (hx:ev r x=some (.int k a)) (hy:ev r y=some (.int k b)) (hb:1 <= b) (ha:0 <= a)
 (hw:∀ e,0 <= e->e <= a->k.wrap e=e):Hw P n w0 all r ol o d (.int k (a / b)):=
 (UY hs hx hy (by omega)).eq (by
  rw [Int.tdiv_eq_ediv_of_nonneg ha]
  rw [hw _ (Int.ediv_nonneg ha (by omega)) (Int.ediv_le_self _ ha)])
theorem Er {t t':TypeId} {x y:Operand} {k:IntKind} {a b:Int} (hs:BV n all r o=some (d,.binOp .rem t x y t')) (hx:ev r x=some (.int k a)) (hy:ev r y=some (.int k b)) (hb:1 <= b) (ha:0 <= a):
 Hw P n w0 all r ol o d (.int k (a % b)):=
 (XB hs hx hy (by omega)).eq (by rw [Int.tmod_eq_emod_of_nonneg ha])
theorem Bs (ht:AW P tb) {t e:TypeId} {x y:Operand} {b off m c j sz:Nat} {k:IntKind} {i:Int} {ti te:TI} (hs:BV n all r o=some (d,.indexAddr t x y)) (hx:ev r x=some (.slice (some ⟨b,off,none⟩) m c))
 (hy:ev r y=some (.int k i)) (hti:tl tb t=some ti) (hd:ti.desc= .slice e) (hte:tl tb e=some te) (hsz:te.size=sz) (hij:i=((j:Nat):Int)) (hj:j < m):Hw P n w0 all r ol o d (.pointer (some ⟨b,off + j * sz,none⟩)):=
 Gc hs fun ac w hrd hh hop=>by
  have h1:=ht.under hti w;rw [hd] at h1;have h2:=ht.sizeOf hte w;unfold execOp;subst hij
  have h3:(0:Int) <= j/\(j:Int) < m:=by omega
  simp [hop,hrd.ev hx,hrd.ev hy,Instr.indexAt,asIntOf,h1,h2,hj,hsz,Addr.add_lit]
theorem Ay (ht:AW P tb) {t e:TypeId} {x y:Operand} {b off m c j:Nat} {k:IntKind} {i:Int} {ti te:TI} (hs:BV n all r o=some (d,.indexAddr t x y)) (hx:ev r x=some (.slice (some ⟨b,off,none⟩) m c))
 (hy:ev r y=some (.int k i)) (hti:tl tb t=some ti) (hd:ti.desc= .slice e) (hte:tl tb e=some te) (hsz:te.size=1) (hij:i=((j:Nat):Int)) (hj:j < m):Hw P n w0 all r ol o d (.pointer (some ⟨b,off + j,none⟩)):=
 (Bs ht hs hx hy hti hd hte hsz hij hj).eq (by rw [Nat.mul_one])
def Iz (r:Nat->Option Value):Option Operand->Int->Option Int
 |none,dflt=>some dflt
 |some x,_=>match ev r x with
  |some (.int _ i)=>some i
  |_=>none
theorem B5 {P:Program} {w:World} {k:IntKind} {i:Int} {y:Nat} {code:BoundsCode} (h:0 <= i/\i <= y):(Instr.sliceBound (.int k i) y code).run P w= .ok i.toNat w:=by
 simp [Instr.sliceBound,asIntOf,h]
theorem OZ (ht:AW P tb) {t e:TypeId} {x:Operand} {lo hi mx:Option Operand} {ad:Option Addr} {m c L H M sz:Nat} {li hi' mi:Int} {ti te:TI} (hs:BV n all r o=some (d,.slice t x lo hi mx)) (hx:ev r x=some (.slice ad m c))
 (hlo:Iz r lo 0=some li) (hhi:Iz r hi m=some hi') (hmx:Iz r mx c=some mi) (hmh:mx.isSome=true->hi.isSome=true) (hti:tl tb t=some ti) (hd:ti.desc= .slice e) (hte:tl tb e=some te) (hsz:te.size=sz)
 (hL:li=L) (hH:hi'=H) (hM:mi=M) (h1:L <= H) (h2:H <= M) (h3:M <= c) (hmc:hi.isSome=false->m <= M):Hw P n w0 all r ol o d (.slice (if M=L then ad else ad.map (·.add (L * sz))) (H - L) (M - L)):=
 Gc hs fun ac w hrd hh hop=>by
  have u1:=ht.under hti w;rw [hd] at u1;have u2:=ht.sizeOf hte w;subst hL;subst hH;subst hM;unfold execOp
  have hb:(Instr.sliceBounds true m c (lo.map ac.eval) (hi.map ac.eval) (mx.map ac.eval)).run P w= .ok (L,H,M) w:=by
   unfold Instr.sliceBounds
   have e1:∀ x,mx=some x->∃ k,ac.eval x= .int k M:=by
    rintro x rfl;simp only [Iz] at hmx;split at hmx
    ·rename_i k i hi;simp at hmx;subst hmx;exact ⟨k,hrd.ev hi⟩
    ·cases hmx
   have e2:∀ x,hi=some x->∃ k,ac.eval x= .int k H:=by
    rintro x rfl;simp only [Iz] at hhi;split at hhi
    ·rename_i k i hi;simp at hhi;subst hhi;exact ⟨k,hrd.ev hi⟩
    ·cases hhi
   have e3:∀ x,lo=some x->∃ k,ac.eval x= .int k L:=by
    rintro x rfl;simp only [Iz] at hlo;split at hlo
    ·rename_i k i hi;simp at hlo;subst hlo;exact ⟨k,hrd.ev hi⟩
    ·cases hlo
   cases mx with
   |some mxx=>
    obtain ⟨km,hkm⟩:=e1 mxx rfl
    cases hi with
    |none=>simp at hmh
    |some hix=>
     obtain ⟨kh,hkh⟩:=e2 hix rfl
     cases lo with
     |none=>
      simp only [Iz,Option.some.injEq] at hlo
      have:L=0:=by omega
      subst this;simp only [Option.map_some,Option.map_none,hkm,hkh,Sem.run_bind];rw [B5 (by omega)];simp only [Result.andThen_ok,Int.toNat_natCast];rw [B5 (by omega)];simp
     |some lox=>
      obtain ⟨kl,hkl⟩:=e3 lox rfl;simp only [Option.map_some,hkm,hkh,hkl,Sem.run_bind];rw [B5 (by omega)];simp only [Result.andThen_ok,Int.toNat_natCast];rw [B5 (by omega)];simp only [Result.andThen_ok,Int.toNat_natCast];rw [B5 (by omega)];simp
   |none=>
    simp only [Iz,Option.some.injEq] at hmx
    have:c=M:=by omega
    subst this
    cases hi with
    |some hix=>
     obtain ⟨kh,hkh⟩:=e2 hix rfl
     cases lo with
     |none=>
      simp only [Iz,Option.some.injEq] at hlo
      have:L=0:=by omega
      subst this;simp only [Option.map_some,Option.map_none,hkh,Sem.run_bind,Sem.run_pure,Result.andThen_ok];rw [B5 (by omega)];simp
     |some lox=>
      obtain ⟨kl,hkl⟩:=e3 lox rfl;simp only [Option.map_some,Option.map_none,hkh,hkl,Sem.run_bind,Sem.run_pure,Result.andThen_ok];rw [B5 (by omega)];simp only [Result.andThen_ok,Int.toNat_natCast];rw [B5 (by omega)];simp
    |none=>
     simp only [Iz,Option.some.injEq] at hhi
     have:m=H:=by omega
     subst this
     cases lo with
     |none=>
      simp only [Iz,Option.some.injEq] at hlo
      have:L=0:=by omega
      subst this;simp
     |some lox=>
      obtain ⟨kl,hkl⟩:=e3 lox rfl;simp only [Option.map_some,Option.map_none,hkl,Sem.run_bind,Sem.run_pure,Result.andThen_ok];rw [B5 (by omega)];simp
  simp [hop,hrd.ev hx,Instr.sliceAt,Instr.slice,u1,u2,hb,hsz]
theorem EH (ht:AW P tb) {t e:TypeId} {x y:Operand} {ad:Option Addr} {m c H:Nat} {k:IntKind} {i:Int} {ti te:TI} (hs:BV n all r o=some (d,.slice t x none (some y) none)) (hx:ev r x=some (.slice ad m c))
 (hy:ev r y=some (.int k i)) (hti:tl tb t=some ti) (hd:ti.desc= .slice e) (hte:tl tb e=some te) (hH:i=((H:Nat):Int)) (h2:H <= c):Hw P n w0 all r ol o d (.slice ad H c):=
 (OZ ht (L:=0) (H:=H) (M:=c) hs hx rfl (by simp only [Iz,hy]) rfl (by simp) hti hd hte rfl rfl hH rfl (Nat.zero_le _) h2 (Nat.le_refl _) (by simp)).eq (by
  have:ad.map (fun a=>a.add (0 * te.size))=ad:=by cases ad<;>simp [Addr.add_zero']
  simp only [this,ite_self,Nat.sub_zero])
theorem GA (ht:AW P tb) {t e:TypeId} {x y:Operand} {ad:Option Addr} {m c L sz:Nat} {k:IntKind} {i:Int} {ti te:TI} (hs:BV n all r o=some (d,.slice t x (some y) none none)) (hx:ev r x=some (.slice ad m c))
 (hy:ev r y=some (.int k i)) (hti:tl tb t=some ti) (hd:ti.desc= .slice e) (hte:tl tb e=some te) (hsz:te.size=sz) (hL:i=((L:Nat):Int)) (h2:L <= m) (h3:m <= c):Hw P n w0 all r ol o d (.slice (if c=L then ad else ad.map (·.add (L * sz))) (m - L) (c - L)):=
 OZ ht (L:=L) (H:=m) (M:=c) hs hx (by simp only [Iz,hy]) rfl rfl (by simp) hti hd hte hsz hL rfl rfl h2 h3 (Nat.le_refl _) (fun _=>h3)
theorem AW.under' (ht:AW P tb) {t:Nat} {i:TI} (h:tl tb t=some i):P.underlying t=some i.desc:=(ht t i h).1
theorem XC (ht:AW P tb) {t t':TypeId} {x y:Operand} {a b:Bool} {ti:TI} (hs:BV n all r o=some (d,.binOp .eql t x y t')) (hx:ev r x=some (.bool a)) (hy:ev r y=some (.bool b)) (hti:tl tb t=some ti) (hd:ti.desc= .bool):
 Hw P n w0 all r ol o d (.bool (a == b)):=
 Gc hs fun ac w hrd hh hop=>by
  have h1:=ht.under' hti;rw [hd] at h1;have h2:=run_eql_bool w t a b h1;unfold execOp;simp [hop,hrd.ev hx,hrd.ev hy,eqGuard_at_bool,h2]
theorem UL (ht:AW P tb) {t t' e:TypeId} {x y:Operand} {ad:Option Addr} {m c m' c':Nat} {ti:TI} (hs:BV n all r o=some (d,.binOp .eql t x y t')) (hx:ev r x=some (.slice ad m c)) (hy:ev r y=some (.slice none m' c')) (hti:tl tb t=some ti) (hd:ti.desc= .slice e):
 Hw P n w0 all r ol o d (.bool ad.isNone):=
 Gc hs fun ac w hrd hh hop=>by
  have h1:=ht.under' hti;rw [hd] at h1;have h2:=Lib.run_eql_slice_nil w t e ad m c m' c' h1;unfold execOp;simp [hop,hrd.ev hx,hrd.ev hy,eqGuard_at_slice,h2]
theorem CS (ht:AW P tb) {t t' e:TypeId} {x y:Operand} {ad:Option Addr} {ti:TI} (hs:BV n all r o=some (d,.binOp .eql t x y t')) (hx:ev r x=some (.pointer ad)) (hy:ev r y=some (.pointer none)) (hti:tl tb t=some ti) (hd:ti.desc= .pointer e):
 Hw P n w0 all r ol o d (.bool ad.isNone):=
 Gc hs fun ac w hrd hh hop=>by
  have h1:=ht.under' hti;rw [hd] at h1;have h2:=run_eql_pointer_nil (P:=P) w t ad (by simp [Program.pointee,h1]);unfold execOp;simp [hop,hrd.ev hx,hrd.ev hy,eqGuard_at_pointer,h2]
theorem O3 (ht:AW P tb) {t t' e:TypeId} {x y:Operand} {ad:Option Addr} {ti:TI} (hs:BV n all r o=some (d,.binOp .neq t x y t')) (hx:ev r x=some (.pointer ad)) (hy:ev r y=some (.pointer none)) (hti:tl tb t=some ti) (hd:ti.desc= .pointer e):
 Hw P n w0 all r ol o d (.bool (!ad.isNone)):=
 Gc hs fun ac w hrd hh hop=>by
  have h1:=ht.under' hti;rw [hd] at h1;have h2:=run_neq_pointer_nil (P:=P) w t ad (by simp [Program.pointee,h1]);unfold execOp;simp [hop,hrd.ev hx,hrd.ev hy,eqGuard_at_pointer,h2]
end
structure Sl (w:World) (sz:Nat) (a:Option Addr) (n:Nat) (xs:List Value):Prop where
 len:xs.length=n * sz
 get:0 < n->∃ b off,a=some ⟨b,off,none⟩/\b < w.heap.size/\∀ j u,xs[j]? =some u->w.cell? ⟨b,off + j,none⟩=some u
section
variable {w w':World} {sz n:Nat} {a:Option Addr} {xs:List Value}
theorem Sl.nil_:Sl w sz a 0 []:=⟨by simp,fun h=>absurd h (by omega)⟩
theorem Sl.ext (h:Sl w sz a n xs) (hb:Below w.heap.size w w'):Sl w' sz a n xs:=
 ⟨h.len,fun hn=>by
  obtain ⟨b,off,e,hlt,hc⟩:=h.get hn
  exact ⟨b,off,e,Nat.lt_of_lt_of_le hlt hb.size,fun j u hu=>(hb.cell (p:=⟨b,off + j,none⟩) hlt).trans (hc j u hu)⟩⟩
theorem Sl.of_own {base:Nat} {e:TypeId} {c:Nat} (h:w.ownsRow base e sz (.slice a n c) n xs):Sl w sz a n xs:=by
 refine ⟨h.1,fun hn=>?_⟩;obtain ⟨_,h2⟩:=h
 rcases h2 with ⟨_,h2⟩ |⟨g,cap,cur,hv,hb,hg,hnc,hcm,hcs,htake⟩
 ·omega
 ·cases hv;refine ⟨g,0,rfl,AU hg,fun j u hu=>?_⟩;rw [Nat.zero_add,cell_of_row w g j cur e (0,0) hg];rw [<-htake,List.getElem?_take] at hu;split at hu
  ·simpa using hu
  ·cases hu
theorem Sl.of_blk {b off:Nat} {cs:List Value} {e:TypeId} {fz:Nat × Nat} (hb:w.heap[b]? =some (.cells ⟨cs⟩ e fz)) (hx:xs.length=n * sz) (h:∀ j u,xs[j]? =some u->cs[off + j]? =some u):Sl w sz (some ⟨b,off,none⟩) n xs:=
 ⟨hx,fun _=>⟨b,off,rfl,AU hb,fun j u hu=>by rw [cell_of_row w b _ _ e fz hb];simpa using h j u hu⟩⟩
theorem Sl.take (h:Sl w sz a n xs) {k:Nat} (hk:k <= n):Sl w sz a k (xs.take (k * sz)):=by
 refine ⟨by rw [List.length_take,h.len];exact Nat.min_eq_left (Nat.mul_le_mul_right _ hk),fun hn=>?_⟩;obtain ⟨b,off,e,hlt,hc⟩:=h.get (by omega);refine ⟨b,off,e,hlt,fun j u hu=>hc j u ?_⟩;rw [List.getElem?_take] at hu;split at hu
 ·exact hu
 ·cases hu
theorem Sl.drop (h:Sl w sz a n xs) {k c:Nat} (hk:k <= n) (hc:n <= c):Sl w sz (if c=k then a else a.map (·.add (k * sz))) (n - k) (xs.drop (k * sz)):=by
 refine ⟨by rw [List.length_drop,h.len,Nat.sub_mul],fun hn=>?_⟩;obtain ⟨b,off,rfl,hlt,hcell⟩:=h.get (by omega);rw [if_neg (by omega)];refine ⟨b,off + k * sz,by simp [Addr.add_lit],hlt,fun j u hu=>?_⟩;rw [Nat.add_assoc];exact hcell _ u (by rw [<-hu,List.getElem?_drop])
theorem Sl.at_ {b off:Nat} (h:Sl w sz (some ⟨b,off,none⟩) n xs) (hn:0 < n) {j:Nat} {u:Value} (hu:xs[j]? =some u):w.cell? ⟨b,off + j,none⟩=some u:=by
 obtain ⟨b',off',e,hlt,hc⟩:=h.get hn;cases e;exact hc j u hu
end
section
variable {P:Program} {tb:EU} {n:Nat} {w0:World} {all:Array Oper} {os:List Oper} {o:Oper} {l:FL} {dl:DL} {ol:OL} {F:DL->Prop} {K:FL->OL->Prop} {Q:B3} {r:Nat->Option Value} {d:Nat} {v:Value}
theorem DP (w:World) (t ty e:TypeId) (i:TypeInfo) (ht:P.underlying t=some (.slice e)) (hi:P.info? e=some i) (A A':Option Addr) (m c c':Nat) (hmc:m <= c):
 (Builtin.append_ #[t,t] ty #[.slice A m c,.slice A' 0 c']).run P w= .ok (.slice A m c) w:=by
 cases A<;>cases A'<;>simp [Builtin.append_,run_underlying ht,sizeOf,typeInfo,hi,Builtin.lenOf,Builtin.firstCells,hmc,storeCells,loadCells,loadCellsFrom]
theorem EL (w:World) (base:Nat) (t ty e:TypeId) (i:TypeInfo) (z:Value) (size bytes:Nat) (ht:P.underlying t=some (.slice e)) (hi:P.info? e=some i) (hz:i.zero=some z)
 (hsize:i.size=size) (hby:i.bytes=bytes) (hzs:z.cells.size=size) (hsz:0 < size)
 (v:Value) (n:Nat) (xs:List Value) (hown:w.ownsRow base e size v n xs)
 (A:Option Addr) (m c:Nat) (news:List Value) (hr:Sl w size A m news) (h1:∀ u ∈ news,u.oneCell'=true)
 (h63:n + m <= maxLen) (hbytes:(n + m) * bytes <= 140737488355328) (hbase:base <= w.heap.size):
 ∃ v' w',(Builtin.append_ #[t,t] ty #[v,.slice A m c]).run P w= .ok v' w'/\w'.ownsRow base e size v' (n + m) (xs ++ news)/\w.grownBy w' v.ownBlock/\
  (v'.ownBlock=v.ownBlock \/ v'.ownBlock=some w.heap.size):=by
 rcases Nat.eq_zero_or_pos m with h0 |h0
 ·subst h0;have hn:news= []:=List.eq_nil_of_length_eq_zero (by simpa using hr.len);subst hn;obtain ⟨hx,h2⟩:=hown
  rcases h2 with ⟨rfl,rfl⟩ |⟨g,cap,cur,rfl,hb,hg,hnc,rest⟩
  ·exact ⟨_,w,DP w t ty e i ht hi none A 0 0 c (Nat.le_refl _),by rw [Nat.add_zero,List.append_nil];exact ⟨hx,.inl ⟨rfl,rfl⟩⟩,World.grownBy.refl w _,.inl rfl⟩
  ·exact ⟨_,w,DP w t ty e i ht hi _ A n cap c hnc,by rw [Nat.add_zero,List.append_nil];exact ⟨hx,.inr ⟨g,cap,cur,rfl,hb,hg,hnc,rest⟩⟩,World.grownBy.refl w _,.inl rfl⟩
 ·obtain ⟨b,off,rfl,hlt,hc⟩:=hr.get h0;obtain ⟨v',w',hrun,h2,h3,_,h5⟩:=run_append_own_at (P:=P) w base t ty e i z size bytes ht hi hz hsize hby hzs hsz v n xs hown ⟨b,off,none⟩ m c news hr.len (fun j u hu=>by rw [Addr.add_lit];exact hc j u hu) h1 h63 hbytes hbase;exact ⟨v',w',hrun,h2,h3,h5⟩
theorem Cy {w:World} {base:Nat} {e:TypeId} {sz m:Nat} {v:Value} {xs:List Value} (h:w.ownsRow base e sz v m xs):∃ A c,v= .slice A m c/\m <= c/\c <= maxLen:=by
 obtain ⟨_,h2⟩:=h
 rcases h2 with ⟨rfl,rfl⟩ |⟨g,cap,cur,rfl,hb,hg,hnc,hcm,_⟩
 ·exact ⟨none,0,rfl,Nat.le_refl _,Nat.zero_le _⟩
 ·exact ⟨_,cap,rfl,hnc,hcm⟩
theorem AT (ht:AW P tb) (i:Nat) {t e:TypeId} {ty:TypeId} {s x:Operand} {v:Value} {m k c sz:Nat} {A:Option Addr} {xs news:List Value} {ti te:TI} {base:Nat}
 (hs:BV n all (AP l) o=some (d,.call ⟨.builtin .append,#[s,x],#[t,t]⟩)) (hv:ev (AP l) s=some v) (hx:ev (AP l) x=some (.slice A k c))
 (hi:B9 ol i=some (.row base v e sz m xs)) (hti:tl tb t=some ti) (hd:ti.desc= .slice e) (hte:tl tb e=some te) (hsz:te.size=sz) (hzs:te.zero.cells.size=sz) (hpos:0 < sz)
 (hr:∀ w,Hp w0 w ol->Sl w sz A k news) (h1:∀ u ∈ news,u.oneCell'=true) (hmax:m + k <= maxLen) (hbytes:(m + k) * te.bytes <= 140737488355328) (hbase:base=w0.heap.size)
 (kk:∀ A' c',m + k <= c'->c' <= maxLen->∃ ol',Dc ol i (.row base (.slice A' (m + k) c') e sz (m + k) (xs ++ news))=some ol'/\S P n w0 all os ((d,.slice A' (m + k) c')::l) ol' K Q):
 S P n w0 all (o::os) l ol K Q:=by
 obtain ⟨hdst,hlt,hg,hop⟩:=CE hs;refine ⟨fun a w hf hh=>?_⟩;obtain ⟨inf,hinf,hz,hs1,hs2⟩:=(ht e te hte).2;have hown:=hh.own _ (Af hi);have hu:=ht.under' hti;rw [hd] at hu;obtain ⟨v',w',hrun,h2,h3,h4⟩:=EL (P:=P) w base t o.type e inf te.zero sz te.bytes hu hinf hz (hs1.trans hsz) hs2 hzs hpos v m xs hown A k c news (hr w hh) h1 hmax hbytes (by rw [hbase];exact hh.size);obtain ⟨A',c',rfl,hmc,hcm⟩:=Cy h2;obtain ⟨ol',hput,kS⟩:=kk A' c' hmc hcm;refine B4 (v:=.slice A' (m + k) c') (Bb hf.rd hg) ?_ ?_ (w':=w')
 ·unfold execOp;simp [hop,resolve,invoke,builtin,hf.rd.ev hv,hf.rd.ev hx,hrun]
 ·rw [hdst];refine kS.out _ _ (hf.put hlt _) ?_;obtain ⟨pre,post,e1,e2⟩:=CP hi hput;rw [e1] at hh;rw [e2];refine hh.turn rfl h3.os h3.tape h3.output h3.size (fun j hj hne=>h3.block j hj (fun hh=>hne hh.symm)) h2 (fun j hj=>?_) (fun j hj=>?_)
  ·rcases h4 with h4 |h4
   ·left;show v.ownBlock=some j;rw [<-h4];exact hj
   ·right;have hj':(Value.slice A' (m + k) c').ownBlock=some j:=hj;rw [h4] at hj';cases hj';exact Nat.le_refl _
  ·left;have:=(World.ownsRow.lt hown j hj).1;omega
theorem Hp.nilRow {w:World} {o:OL} (h:Hp w0 w o) (e:TypeId) (sz:Nat):Hp w0 w (.row w0.heap.size (.slice none 0 0) e sz 0 []::o):=
 h.more (World.ownsRow_nil w _ e sz) fun x _ _ k hk=>by simp [HE.has,Value.ownBlock] at hk
def Gw (pl:List (Nat × Nat)):List Value->List (Nat × Value)->Option (List Value)
 |cs,[]=>some cs
 |cs,(i,v)::ps=>match pl[i]? with
  |some (off,sz)=>match Da v with
   |some vs=>match Nat.beq vs.length sz with
    |true=>match Cp cs off vs with
     |some cs'=>Gw pl cs' ps
     |none=>none
    |false=>none
   |none=>none
  |none=>none
theorem K6 (off:Nat):∀ (vs:List Value) (k:Nat) (cs:List Value),off + k + vs.length <= cs.length->
 ((vs.zipIdx k).foldl (fun (a:Array Value) (p:Value × Nat)=>a.setIfInBounds (off + p.2) p.1) ⟨cs⟩)=⟨cs.take (off + k) ++ vs ++ cs.drop (off + k + vs.length)⟩
 | [],k,cs,h=>by simp
 |v::vs,k,cs,h=>by
  simp only [List.zipIdx_cons,List.foldl_cons]
  have h':off + k < cs.length:=by simp at h;omega
  have e:(⟨cs⟩:Array Value).setIfInBounds (off + k) v=⟨cs.set (off + k) v⟩:=by
   apply Array.ext';simp
  rw [e,K6 off vs (k + 1) (cs.set (off + k) v) (by simp at h ⊢;omega)];congr 1;have:=list_seg_step cs (off + k) v vs (by simp at h ⊢;omega);simpa [Nat.add_assoc,Nat.add_comm,Nat.add_left_comm] using this
theorem Ka {pl:List (Nat × Nat)}:∀ {ps:List (Nat × Value)} {cs cs':List Value},Gw pl cs ps=some cs'->Instr.fill (pl[·]?) ⟨cs⟩ ps=some ⟨cs'⟩
 | [],cs,cs',h=>by simp [Gw] at h;simp [Instr.fill,h]
 |(i,v)::ps,cs,cs',h=>by
  simp only [Gw] at h;split at h
  ·rename_i off sz hp;split at h
   ·rename_i vs hv;split at h
    ·rename_i hb;split at h
     ·rename_i cs1 hm;have hc:=CL hv;obtain ⟨hle,hcs1⟩:=FQ hm;have hlen:=Nat.eq_of_beq_eq_true hb;simp only [Instr.fill,hp,hc]
      have hn:¬ (vs.toArray.size ≠ sz || decide (off + vs.toArray.size > (⟨cs⟩:Array Value).size))=true:=by
       simp [hlen];omega
      rw [if_neg hn]
      have hfold:(vs.toArray.zipIdx.foldl (fun (a:Array Value) (p:Value × Nat)=>a.setIfInBounds (off + p.2) p.1) ⟨cs⟩)=⟨cs1⟩:=by
       rw [<-Array.foldl_toList,Array.toList_zipIdx,K6 off vs 0 cs (by omega),hcs1];simp
      rw [hfold];exact Ka h
     ·cases h
    ·cases h
   ·cases h
  ·cases h
def HO (tb:EU):List Field->Option (List (Nat × Nat))
 | []=>some []
 |⟨_,ty,off,_,_,_,_⟩::fs=>match tl tb ty with
  |some ti=>match HO tb fs with
   |some r=>some ((off,ti.size)::r)
   |none=>none
  |none=>none
theorem IX (ht:AW P tb) {w:World}:∀ {fs:List Field} {pl:List (Nat × Nat)},HO tb fs=some pl->(fs.mapM (fun f=>(do pure (f.offset,<-sizeOf f.type):Sem (Nat × Nat)))).run P w= .ok pl w
 | [],pl,h=>by simp [HO] at h;subst h;simp
 |⟨_,ty,off,_,_,_,_⟩::fs,pl,h=>by
  simp only [HO] at h;split at h
  ·rename_i ti hti;split at h
   ·rename_i r hr;simp at h;subst h;have h1:=ht.sizeOf hti w;have h2:=IX ht (w:=w) hr;simp [h1];simp at h2;simp [h2]
   ·cases h
  ·cases h
def He (r:Nat->Option Value):List (Nat × Operand)->Option (List (Nat × Value))
 | []=>some []
 |(i,x)::ps=>match ev r x with
  |some v=>match He r ps with
   |some q=>some ((i,v)::q)
   |none=>none
  |none=>none
theorem FS {a:Act} (hrd:Rd a r):∀ {ps:List (Nat × Operand)} {q:List (Nat × Value)},He r ps=some q->ps.map (fun (i,x)=>(i,a.eval x))=q
 | [],q,h=>by simp [He] at h;simp [h]
 |(i,x)::ps,q,h=>by
  simp only [He] at h;split at h
  ·rename_i v hv;split at h
   ·rename_i q' hq;simp at h;subst h;simp [hrd.ev hv];have:=FS hrd hq;simpa using this
   ·cases h
  ·cases h
theorem Bf (ht:AW P tb) {t:TypeId} {ps:List (Nat × Operand)} {fs:Array Field} {ti:TI} {zs cs:List Value} {pl:List (Nat × Nat)} {vs:List (Nat × Value)} (hs:BV n all r o=some (d,.build t ps.toArray)) (hti:tl tb t=some ti) (hd:ti.desc= .struct fs)
 (hz:Da ti.zero=some zs) (hpl:HO tb fs.toList=some pl) (hv:He r ps=some vs) (hb:Gw pl zs vs=some cs):Hw P n w0 all r ol o d (.agg ⟨cs⟩):=
 Gc hs fun a w hrd hh hop=>by
  have h1:=ht.under hti w;rw [hd] at h1;have h2:=ht.zeroOf hti w;have h3:=IX ht (w:=w) hpl;have h4:=Ka hb;have h5:=FS hrd hv
  have h6:(fs.mapM (fun f=>(do pure (f.offset,<-sizeOf f.type):Sem (Nat × Nat)))).run P w= .ok pl.toArray w:=by
   rw [Array.mapM_eq_mapM_toList,map_eq_pure_bind,Sem.run_bind,h3];simp
  have h7:(ps.toArray.map fun (p:Nat × Operand)=>(p.1,a.eval p.2))=vs.toArray:=by
   apply Array.ext';simpa using h5
  have hcz:=CL hz;have hfill:Instr.fill (fun x=>pl[x]?) ⟨zs⟩ vs=some ⟨cs⟩:=h4
  have hbuild:(Instr.build t vs.toArray).run P w= .ok (.agg ⟨cs⟩) w:=by
   unfold Instr.build;rw [Sem.run_bind,h2];simp only [Result.andThen_ok];rw [Sem.run_bind,h1];simp only [Result.andThen_ok];rw [Sem.run_bind,h6];simp only [Result.andThen_ok]
   have e:(fun x:Nat=>pl.toArray[x]?)=(fun x:Nat=>pl[x]?):=by funext x;simp
   rw [hcz,e];have hf2:Instr.fill (fun x=>pl[x]?) zs.toArray vs.toArray.toList=some ⟨cs⟩:=hfill;rw [hf2];rfl
  unfold execOp;simp only [hop,h7,Sem.run_bind,hbuild,Result.andThen_ok,Sem.run_pure]
def Nd (zs:List Value) (sz:Nat):Nat->Nat->Option (List Value)
 |0,_=>some []
 |k + 1,i=>match zs[i % sz]? with
  |some z=>match Nd zs sz k (i + 1) with
   |some q=>some (z::q)
   |none=>none
  |none=>none
theorem N8 {zs:List Value} {sz:Nat}:∀ {k i:Nat} {q:List Value},Nd zs sz k i=some q->q=(List.range' i k).map fun j=>zs.toArray[j % sz]!
 |0,i,q,h=>by simp [Nd] at h;simp [h]
 |k + 1,i,q,h=>by
  simp only [Nd] at h;split at h
  ·rename_i z hz;split at h
   ·rename_i q' hq;simp at h;subst h;rw [List.range'_succ,List.map_cons,<-N8 hq];congr 1;simp [hz]
   ·cases h
  ·cases h
def E3 (sz:Nat):Nat->Nat->List (Nat × Nat)
 |0,_=>[]
 |k + 1,i=>(i * sz,sz)::E3 sz k (i + 1)
theorem IW (sz:Nat):∀ (k i j:Nat),j < k->(E3 sz k i)[j]? =some ((i + j) * sz,sz)
 |0,i,j,h=>by omega
 |k + 1,i,0,h=>by simp [E3]
 |k + 1,i,j + 1,h=>by
  simp only [E3,List.getElem?_cons_succ];rw [IW sz k (i + 1) j (by omega)];rw [show i + 1 + j=i + (j + 1) from by omega]
def Lm (m:Nat):List (Nat × Value)->Bool
 | []=>true
 |(i,_)::ps=>Nat.blt i m && Lm m ps
theorem Gv (ht:AW P tb) {w:World} {t e:TypeId} {m sz:Nat} {ti te:TI} {zs z0 cs:List Value} {vs:List (Nat × Value)} (hti:tl tb t=some ti) (hd:ti.desc= .slice e) (hte:tl tb e=some te) (hsz:te.size=sz) (hz:Da te.zero=some zs) (hzl:zs.length=sz)
 (hr:Nd zs sz (m * sz) 0=some z0) (hb:Gw (E3 sz m 0) z0 vs=some cs) (hlt:Lm m vs=true) (hm:m * sz <= 16777216):
 (Instr.buildSlice t m vs.toArray).run P w= .ok (.slice (some ⟨w.heap.size,0,none⟩) m m) (w.alloc (.cells ⟨cs⟩ e)):=by
 have h1:=ht.under hti w;rw [hd] at h1;have h2:=ht.sizeOf hte w;have h3:=ht.zeroOf hte w;have hcz:=CL hz;have hz0:=N8 hr
 have key:∀ (vs:List (Nat × Value)) (c:Array Value),Lm m vs=true->Instr.fill (fun i=>some (i * sz,sz)) c vs=Instr.fill (fun (x:Nat)=>(E3 sz m 0)[x]?) c vs:=by
  intro vs
  induction vs with
  |nil=>intro c _;rfl
  |cons p vs ih=>
   intro c hp;obtain ⟨i,v⟩:=p;simp only [Lm,Bool.and_eq_true] at hp
   have hi:i < m:=by simpa [Nat.blt_eq] using hp.1
   have e:=IW sz m 0 i hi;simp only [Nat.zero_add] at e;simp only [Instr.fill,e];split
   ·rfl
   ·exact ih _ hp.2
 have hfill:=(key vs ⟨z0⟩ hlt).trans (Ka hb)
 have hno:¬ (m * sz > 2 ^ 24):=by omega
 unfold Instr.buildSlice;rw [Sem.run_bind,h1];simp only [Result.andThen_ok];rw [Sem.run_bind,h2];simp only [Result.andThen_ok,hsz,if_neg hno];have hf2:Instr.fill (fun i=>some (i * sz,sz)) ⟨z0⟩ vs.toArray.toList=some ⟨cs⟩:=hfill;by_cases h0:m * sz=0
 ·rw [if_pos h0]
  have hcells:((Array.range (m * sz)).map fun x=>(#[]:Array Value)[x % (#[]:Array Value).size]!)=⟨z0⟩:=by
   apply Array.ext';rw [Array.toList_map,Array.toList_range,hz0,h0];simp
  rw [Sem.run_bind];simp only [Sem.run_pure,Result.andThen_ok];rw [hcells,hf2];simp [newRow]
 ·rw [if_neg h0,Sem.run_bind,h3];simp only [Result.andThen_ok];rw [Sem.run_bind];simp only [Sem.run_pure,Result.andThen_ok]
  have hcells:((Array.range (m * sz)).map fun x=>te.zero.cells[x % te.zero.cells.size]!)=⟨z0⟩:=by
   apply Array.ext';rw [Array.toList_map,Array.toList_range,hz0,List.range_eq_range',hcz];simp [hzl]
  rw [hcells,hf2];simp [newRow]
theorem AO (ht:AW P tb) {t e:TypeId} {m sz:Nat} {ti te:TI} {ps:List (Nat × Operand)} {zs z0 cs:List Value} {vs:List (Nat × Value)} (hs:BV n all (AP l) o=some (d,.buildSlice t m ps.toArray)) (hti:tl tb t=some ti) (hd:ti.desc= .slice e) (hte:tl tb e=some te) (hsz:te.size=sz) (hz:Da te.zero=some zs) (hzl:Nat.beq zs.length sz=true)
 (hv:He (AP l) ps=some vs) (hr:Nd zs sz (m * sz) 0=some z0) (hb:Gw (E3 sz m 0) z0 vs=some cs) (hlt:Lm m vs=true) (hm:Nat.ble (m * sz) 16777216=true)
 (k:∀ b,w0.heap.size <= b->S P n w0 all os ((d,.slice (some ⟨b,0,none⟩) m m)::l) (.blk b (.cells ⟨cs⟩ e (0,0)) true::ol) K Q):S P n w0 all (o::os) l ol K Q:=by
 obtain ⟨hdst,hlt',hg,hop⟩:=CE hs;refine ⟨fun a w hf hh=>?_⟩;have h5:=FS hf.rd hv
 have h7:(ps.toArray.map fun (p:Nat × Operand)=>(p.1,a.eval p.2))=vs.toArray:=by
  apply Array.ext';simpa using h5
 have hrun:=Gv ht (w:=w) (m:=m) hti hd hte hsz hz (Nat.eq_of_beq_eq_true hzl) hr hb hlt (Nat.le_of_ble_eq_true hm);refine B4 (v:=.slice (some ⟨w.heap.size,0,none⟩) m m) (Bb hf.rd hg) ?_ ?_ (w':=w.alloc (.cells ⟨cs⟩ e))
 ·unfold execOp;simp only [hop,h7,Sem.run_bind,hrun,Result.andThen_ok,Sem.run_pure]
 ·rw [hdst];exact (k w.heap.size hh.size).out _ _ (hf.put hlt' _) (hh.alloc _)
theorem CD (ht:AW P tb) (i:Nat) {t b off:Nat} {ty e:TypeId} {ti:TI} {cs:List Value} {fz:Nat × Nat} {rw_:Bool} (h1:AP l t=some (.pointer (some ⟨b,off,none⟩))) (hi:B9 ol i=some (.blk b (.cells ⟨cs⟩ e fz) rw_)) (hti:tl tb ty=some ti) (hv:IH ti cs off=some v):
 I5 P w0 l ol (.cell t ty) v:=
 ⟨_,h1,fun w hh=>E4 ht hti (hh.own _ (Af hi)) hv⟩
end
def AS (k:IntKind) (n:Int):Prop:=k.min <= n/\n <= k.max
theorem BF {n:Int} (h:AS .u64 n):0 <= n/\n <= 18446744073709551615:=by simpa [AS,IntKind.min,IntKind.max,IntKind.signed,IntKind.bits] using h
theorem Gr {n:Int} (h:AS .u16 n):0 <= n/\n <= 65535:=by simpa [AS,IntKind.min,IntKind.max,IntKind.signed,IntKind.bits] using h
theorem Dv {n:Int} (h:AS .u8 n):0 <= n/\n <= 255:=by simpa [AS,IntKind.min,IntKind.max,IntKind.signed,IntKind.bits] using h
structure WM (k:IntKind) (w:World) (a:Option Addr) (n c:Nat) (zs:List Int):Prop where
 len:zs.length=n
 cap:n <= c
 max:c <= maxLen
 nil:a=none->n=0/\c=0
 fits:∀ z ∈ zs,AS k z
 sl:Sl w 1 a n (zs.map (.int k))
section
variable {P:Program} {tb:EU} {n:Nat} {w0:World} {all:Array Oper} {os:List Oper} {o:Oper} {dl:DL} {ol:OL} {F:DL->Prop} {d:Nat}
theorem Mf (Φ:Value->World->Prop) (hd:o.dst=some d) (hn:d < n) (hg:gd all (rs all o dl) o.guard=some true) (hst:∀ v w w',Φ v w->Below w.heap.size w w'->Φ v w')
 (hr:∀ a w,Rd a (rs all o dl)->(∀ t ∈ o.looksAt all,Lp (lk dl t) a.tmps[t]? w)->Hp w0 w ol->∃ v w',(execOp a.eval o).run P w= .ok (.value v) w'/\Below w.heap.size w w'/\Φ v w')
 (k:D P n w0 all os ((d,.pr Φ)::dl) ol F):D P n w0 all (o::os) dl ol F:=by
 refine Sd (E:=.pr Φ) ⟨fun a w h1 h2 h3 h4=>?_,hst,fun d' hd'=>?_⟩ hd k
 ·have hrd:=KO h4;have hw:=Bb hrd hg;refine ⟨fun _=>?_,(fun hn=>by rw [hw] at hn;cases hn)⟩;obtain ⟨v,w',e1,e2,e3⟩:=hr a w hrd h4 h3;simp only [Oper.wp,e1,Oper.upon];exact ⟨v,rfl,e2,e3⟩
 ·rw [hd] at hd';cases hd';exact hn
end
structure Eh (α:Type) where
 sz:Nat
 agg:Bool
 at_:World->(Nat->Prop)->List Value->α->Prop
 len:∀ {w A cs x},at_ w A cs x->cs.length=sz
 keep:∀ {w w' A B cs x},at_ w A cs x->(∀ k,A k->k < w.heap.size->w'.heap[k]? =w.heap[k]?/\B k)->at_ w' B cs x
structure Vp where
 at_:World->(Nat->Prop)->Value->Prop
 keep:∀ {w w' A B v},at_ w A v->(∀ k,A k->k < w.heap.size->w'.heap[k]? =w.heap[k]?/\B k)->at_ w' B v
abbrev TT:Nat->Prop:=fun _=>True
section
variable {α β:Type}
def Eh.val (R:Eh α) (w:World) (A:Nat->Prop) (v:Value) (x:α):Prop:=
 match R.agg with
 |true=>∃ cs,v= .agg ⟨cs⟩/\R.at_ w A cs x
 |false=>R.at_ w A [v] x
theorem Eh.val_keep (R:Eh α) {w w':World} {A B:Nat->Prop} {v:Value} {x:α} (h:R.val w A v x) (hk:∀ k,A k->k < w.heap.size->w'.heap[k]? =w.heap[k]?/\B k):R.val w' B v x:=by
 unfold Eh.val at h ⊢;split at h
 ·obtain ⟨cs,rfl,h⟩:=h;exact ⟨cs,rfl,R.keep h hk⟩
 ·exact R.keep h hk
def Eh.vp (R:Eh α) (x:α):Vp:=⟨fun w A v=>R.val w A v x,fun h hk=>R.val_keep h hk⟩
theorem Vp.ext (p:Vp) {w w':World} {A:Nat->Prop} {v:Value} (h:p.at_ w A v) (hb:Below w.heap.size w w'):p.at_ w' A v:=
 p.keep h fun k hk hlt=>⟨hb.block k hlt,hk⟩
theorem Vp.mono (p:Vp) {w:World} {A B:Nat->Prop} {v:Value} (h:p.at_ w A v) (hb:∀ k,A k->B k):p.at_ w B v:=
 p.keep h fun k hk hlt=>⟨rfl,hb k hk⟩
theorem Eh.at_mono (R:Eh α) {w:World} {A B:Nat->Prop} {cs:List Value} {x:α} (h:R.at_ w A cs x) (hb:∀ k,A k->B k):R.at_ w B cs x:=R.keep h fun k hk _=>⟨rfl,hb k hk⟩
def A8 (k:IntKind):Eh Int:=⟨1,false,fun w A cs x=>cs= [.int k x]/\AS k x,fun h=>by rw [h.1];rfl,fun h _=>h⟩
def C5 (R:Eh α) (S:Eh β):Eh (α × β):=
 ⟨R.sz + S.sz,true,fun w A cs x=>∃ c1 c2,cs=c1 ++ c2/\R.at_ w A c1 x.1/\S.at_ w A c2 x.2,
  fun ⟨c1,c2,e,h1,h2⟩=>by rw [e,List.length_append,R.len h1,S.len h2],
  fun ⟨c1,c2,e,h1,h2⟩ hk=>⟨c1,c2,e,R.keep h1 hk,S.keep h2 hk⟩⟩
def Xy (R:Eh α):Eh α:=⟨R.sz,true,R.at_,R.len,R.keep⟩
theorem J8 {sz:Nat}:∀ {css:List (List Value)} {i j:Nat} {cs:List Value} {u:Value},(∀ c ∈ css,c.length=sz)->css[i]? =some cs->cs[j]? =some u->css.flatten[i * sz + j]? =some u
 | [],i,j,cs,u,_,h,_=>by simp at h
 |c::css,0,j,cs,u,hs,h,hu=>by
  simp at h;subst h;have hj:j < c.length:=(List.getElem?_eq_some_iff.1 hu).1;rw [List.flatten_cons,Nat.zero_mul,Nat.zero_add,List.getElem?_append_left hj];exact hu
 |c::css,i + 1,j,cs,u,hs,h,hu=>by
  have hc:=hs c (by simp);rw [List.flatten_cons,List.getElem?_append_right (by rw [hc,Nat.add_mul];omega),hc]
  have e:(i + 1) * sz + j - sz=i * sz + j:=by rw [Nat.add_mul];omega
  rw [e];exact J8 (fun c hc=>hs c (List.mem_cons_of_mem _ hc)) (by simpa using h) hu
theorem HY {sz:Nat}:∀ {css:List (List Value)},(∀ c ∈ css,c.length=sz)->css.flatten.length=css.length * sz
 | [],_=>by simp
 |c::css,hs=>by
  rw [List.flatten_cons,List.length_append,hs c (by simp),HY fun c hc=>hs c (List.mem_cons_of_mem _ hc),List.length_cons,Nat.add_mul];omega
theorem K7 {sz:Nat}:∀ {css:List (List Value)} (k:Nat),(∀ c ∈ css,c.length=sz)->(css.take k).flatten=css.flatten.take (k * sz)
 | [],k,_=>by simp
 |c::css,0,hs=>by simp
 |c::css,k + 1,hs=>by
  have hc:=hs c (by simp)
  rw [List.take_succ_cons,List.flatten_cons,List.flatten_cons,K7 k fun c hc=>hs c (List.mem_cons_of_mem _ hc),List.take_append,hc,
   List.take_of_length_le (l:=c) (by rw [hc,Nat.add_mul];omega)]
  congr 2;rw [Nat.add_mul];omega
theorem K8 {sz:Nat}:∀ {css:List (List Value)} (k:Nat),(∀ c ∈ css,c.length=sz)->(css.drop k).flatten=css.flatten.drop (k * sz)
 | [],k,_=>by simp
 |c::css,0,hs=>by simp
 |c::css,k + 1,hs=>by
  have hc:=hs c (by simp);rw [List.drop_succ_cons,List.flatten_cons,K8 k fun c hc=>hs c (List.mem_cons_of_mem _ hc),List.drop_append,hc,List.drop_of_length_le (l:=c) (by rw [hc,Nat.add_mul];omega),List.nil_append];congr 1;rw [Nat.add_mul];omega
structure Br (R:Eh α) (w:World) (A:Nat->Prop) (a:Option Addr) (n c:Nat) (l:List α):Prop where
 len:l.length=n
 cap:n <= c
 max:c <= maxLen
 nil:a=none->n=0/\c=0
 each:∃ css:List (List Value),css.length=n/\(∀ (i:Nat) (cs:List Value) (x:α),css[i]? =some cs->l[i]? =some x->R.at_ w A cs x)/\Sl w R.sz a n css.flatten
 blk:0 < n->∃ b off,a=some ⟨b,off,none⟩/\A b
theorem LZ {R:Eh α} {w:World} {A:Nat->Prop} {l:List α} {css:List (List Value)} (hl:css.length=l.length) (h:∀ (i:Nat) (cs:List Value) (x:α),css[i]? =some cs->l[i]? =some x->R.at_ w A cs x):∀ c ∈ css,c.length=R.sz:=by
 intro c hc;obtain ⟨i,hi⟩:=List.getElem?_of_mem hc
 have hlt:i < l.length:=by rw [<-hl];exact (List.getElem?_eq_some_iff.1 hi).1
 exact R.len (h i c _ hi (List.getElem?_eq_getElem hlt))
theorem Br.keep {R:Eh α} {w w':World} {A B:Nat->Prop} {a:Option Addr} {n c:Nat} {l:List α} (h:Br R w A a n c l) (hk:∀ k,A k->k < w.heap.size->w'.heap[k]? =w.heap[k]?/\B k):Br R w' B a n c l:=by
 obtain ⟨css,h1,h2,h3⟩:=h.each;refine ⟨h.len,h.cap,h.max,h.nil,⟨css,h1,fun i cs x hi hx=>R.keep (h2 i cs x hi hx) hk,h3.len,fun hn=>?_⟩,fun hn=>?_⟩
 ·obtain ⟨b,off,e,hlt,hc⟩:=h3.get hn;obtain ⟨b',off',e',hA⟩:=h.blk hn;rw [e] at e';cases e';have hb:=(hk b hA hlt).1;obtain ⟨x,hx⟩:∃ x,w.heap[b]? =some x:=⟨_,Array.getElem?_eq_getElem hlt⟩;exact ⟨b,off,e,AU (hb.trans hx),fun j u hu=>(World.cell?_of_block (w:=w) (a:=⟨b,off + j,none⟩) hb).trans (hc j u hu)⟩
 ·obtain ⟨b,off,e,hA⟩:=h.blk hn;obtain ⟨b',off',e',hlt,_⟩:=h3.get hn;rw [e] at e';cases e';exact ⟨b,off,e,(hk b hA hlt).2⟩
def Az (R:Eh α):Eh (List α):=
 ⟨1,false,fun w A cs l=>∃ a n c,cs= [.slice a n c]/\Br R w A a n c l,fun ⟨a,n,c,e,_⟩=>by rw [e];rfl,fun ⟨a,n,c,e,h⟩ hk=>⟨a,n,c,e,h.keep hk⟩⟩
variable {R:Eh α} {w w':World} {A B:Nat->Prop} {a:Option Addr} {n c:Nat} {l:List α}
theorem Br.ext (h:Br R w A a n c l) (hb:Below w.heap.size w w'):Br R w' A a n c l:=h.keep fun k hk hlt=>⟨hb.block k hlt,hk⟩
theorem Br.mono (h:Br R w A a n c l) (hb:∀ k,A k->B k):Br R w B a n c l:=h.keep fun k hk _=>⟨rfl,hb k hk⟩
theorem Br.tt (h:Br R w A a n c l):Br R w TT a n c l:=h.mono fun _ _=>trivial
theorem Br.val (h:Br R w A a n c l):(Az R).val w A (.slice a n c) l:=⟨a,n,c,rfl,h⟩
theorem Br.of_val (h:(Az R).val w A (.slice a n c) l):Br R w A a n c l:=by
 obtain ⟨a',n',c',e,h⟩:=h;cases e;exact h
theorem Br.form {v:Value} (h:(Az R).val w A v l):∃ a n c,v= .slice a n c/\Br R w A a n c l:=by
 obtain ⟨a',n',c',e,h⟩:=h;cases e;exact ⟨_,_,_,rfl,h⟩
theorem Br.nil_:Br R w A none 0 0 []:=⟨rfl,Nat.le_refl _,Nat.zero_le _,fun _=>⟨rfl,rfl⟩,⟨[],rfl,fun i cs x h=>by simp at h,Sl.nil_⟩,fun h=>absurd h (by omega)⟩
theorem Br.take (h:Br R w A a n c l) {k:Nat} (hk:k <= n):Br R w A a k c (l.take k):=by
 obtain ⟨css,h1,h2,h3⟩:=h.each;have hs:=LZ (h1.trans h.len.symm) h2;refine ⟨by rw [List.length_take,h.len];omega,Nat.le_trans hk h.cap,h.max,fun e=>⟨by have:=(h.nil e).1;omega,(h.nil e).2⟩,⟨css.take k,by rw [List.length_take];omega,fun i cs x hi hx=>?_,?_⟩,fun hn=>h.blk (by omega)⟩
 ·rw [List.getElem?_take] at hi hx;split at hi
  ·rename_i hlt;rw [if_pos hlt] at hx;exact h2 i cs x hi hx
  ·cases hi
 ·rw [K7 k hs];exact h3.take hk
theorem Br.drop (h:Br R w A a n c l) {k:Nat} (hk:k <= n):Br R w A (if c=k then a else a.map (·.add (k * R.sz))) (n - k) (c - k) (l.drop k):=by
 obtain ⟨css,h1,h2,h3⟩:=h.each;have hs:=LZ (h1.trans h.len.symm) h2;have hcap:=h.cap;have hmax:=h.max;refine ⟨by rw [List.length_drop,h.len],by omega,by omega,fun e=>?_,⟨css.drop k,by rw [List.length_drop];omega,fun i cs x hi hx=>?_,?_⟩,fun hn=>?_⟩
 ·by_cases hck:c=k
  ·omega
  ·rw [if_neg hck,Option.map_eq_none_iff] at e;have:=h.nil e;omega
 ·rw [List.getElem?_drop] at hi hx;exact h2 _ cs x hi hx
 ·rw [K8 k hs];exact h3.drop hk h.cap
 ·obtain ⟨b,off,e,hA⟩:=h.blk (by omega);rw [if_neg (by omega),e];exact ⟨b,off + k * R.sz,by simp [Addr.add_lit],hA⟩
theorem Br.get_ (h:Br R w A a n c l) {i:Nat} (hi:i < l.length):∃ b off cs,a=some ⟨b,off,none⟩/\b < w.heap.size/\R.at_ w A cs l[i]/\cs.length=R.sz/\(∀ j u,cs[j]? =some u->w.cell? ⟨b,off + i * R.sz + j,none⟩=some u)/\A b:=by
 obtain ⟨css,h1,h2,h3⟩:=h.each;have hs:=LZ (h1.trans h.len.symm) h2;have hl:=h.len;obtain ⟨b,off,e,hlt,hc⟩:=h3.get (by omega);obtain ⟨b',off',e',hA⟩:=h.blk (by omega);rw [e] at e';cases e';have hci:css[i]? =some css[i]:=List.getElem?_eq_getElem (by omega);have hat:=h2 i css[i] l[i] hci (List.getElem?_eq_getElem hi);refine ⟨b,off,css[i],e,hlt,hat,R.len hat,fun j u hu=>?_,hA⟩;rw [Nat.add_assoc];exact hc _ u (J8 hs hci hu)
theorem Br.at_ {b off:Nat} (h:Br R w A (some ⟨b,off,none⟩) n c l) {i:Nat} (hi:i < l.length):∃ cs,b < w.heap.size/\R.at_ w A cs l[i]/\cs.length=R.sz/\(∀ j u,cs[j]? =some u->w.cell? ⟨b,off + i * R.sz + j,none⟩=some u)/\A b:=by
 obtain ⟨b',off',cs,e,h1⟩:=h.get_ hi;cases e;exact ⟨cs,h1⟩
structure PX (R:Eh α) (enc:α->List Value) (ok:α->Prop):Prop where
 iff:∀ w A cs x,R.at_ w A cs x ↔ cs=enc x/\ok x
theorem DU (k:IntKind):PX (A8 k) (fun x=>[.int k x]) (AS k):=⟨fun _ _ _ _=>Iff.rfl⟩
theorem Br.flat {enc:α->List Value} {ok:α->Prop} (F:PX R enc ok) (h:Br R w A a n c l):Sl w R.sz a n (l.map enc).flatten/\∀ x ∈ l,ok x:=by
 obtain ⟨css,h1,h2,h3⟩:=h.each
 have e:css=l.map enc:=by
  apply List.ext_getElem?;intro i
  rcases Nat.lt_or_ge i css.length with hi |hi
  ·have hil:i < l.length:=by have:=h.len;omega
   have:=(F.iff _ _ _ _).1 (h2 i _ _ (List.getElem?_eq_getElem hi) (List.getElem?_eq_getElem hil));rw [List.getElem?_eq_getElem hi,this.1,List.getElem?_map,List.getElem?_eq_getElem hil];rfl
  ·rw [List.getElem?_eq_none hi,List.getElem?_eq_none (by rw [List.length_map];have:=h.len;omega)]
 rw [<-e];refine ⟨h3,fun x hx=>?_⟩;obtain ⟨i,hi⟩:=List.getElem?_of_mem hx;have hil:=(List.getElem?_eq_some_iff.1 hi).1
 have hic:i < css.length:=by have:=h.len;omega
 exact ((F.iff _ _ _ _).1 (h2 i _ _ (List.getElem?_eq_getElem hic) hi)).2
theorem Br.of_flat {enc:α->List Value} {ok:α->Prop} (F:PX R enc ok) (hl:l.length=n) (hc:n <= c) (hm:c <= maxLen) (hn:a=none->n=0/\c=0) (hs:Sl w R.sz a n (l.map enc).flatten) (hok:∀ x ∈ l,ok x) (hA:0 < n->∃ b off,a=some ⟨b,off,none⟩/\A b):Br R w A a n c l:=
 ⟨hl,hc,hm,hn,⟨l.map enc,by rw [List.length_map,hl],fun i cs x hi hx=>by
  rw [List.getElem?_map,hx] at hi;simp only [Option.map_some,Option.some.injEq] at hi
  exact (F.iff _ _ _ _).2 ⟨hi.symm,hok x (List.mem_of_getElem? hx)⟩,hs⟩,hA⟩
theorem Br.of_row {enc:α->List Value} {ok:α->Prop} {base:Nat} {e:TypeId} (F:PX R enc ok) (h:w.ownsRow base e R.sz (.slice a n c) n (l.map enc).flatten) (hl:l.length=n) (hok:∀ x ∈ l,ok x) (hA:∀ k,base <= k->(Value.slice a n c).ownBlock=some k->A k):Br R w A a n c l:=by
 obtain ⟨A',C',e',h1,h2⟩:=Cy h;cases e';refine .of_flat F hl h1 h2 (fun ha=>?_) (Sl.of_own h) hok (fun hn=>?_)
 ·obtain ⟨_,h3⟩:=h
  rcases h3 with ⟨e2,_⟩ |⟨g,cap,cur,e2,_⟩
  ·cases e2;exact ⟨rfl,by omega⟩
  ·cases e2;cases ha
 ·obtain ⟨_,h3⟩:=h
  rcases h3 with ⟨e2,_⟩ |⟨g,cap,cur,e2,hb,_⟩
  ·cases e2;omega
  ·cases e2;exact ⟨g,0,rfl,hA g hb rfl⟩
theorem S9 {k:IntKind} (zs:List Int):(zs.map fun x=>[Value.int k x]).flatten=zs.map (.int k):=by
 induction zs with
 |nil=>rfl
 |cons z zs ih=>rw [List.map_cons,List.flatten_cons,ih,List.map_cons];rfl
theorem Br.ints {k:IntKind} {zs:List Int} (h:Br (A8 k) w A a n c zs):WM k w a n c zs:=by
 obtain ⟨h1,h2⟩:=h.flat (DU k);rw [S9] at h1;exact ⟨h.len,h.cap,h.max,h.nil,h2,h1⟩
end
def BB (w0:World) (A:Nat->Prop) (ol:OL) (k:Nat):Prop:=(A k \/ w0.heap.size <= k)/\∀ e ∈ ol,e.ex=true->¬ e.has k
section
variable {w0 w w':World} {A F:Nat->Prop} {ol:OL} {v:Value} {p:Vp}
theorem ET (hh:Hp w0 w ol) {k:Nat} (h:w.heap.size <= k):BB w0 A ol k:=
 ⟨.inr (Nat.le_trans hh.size h),fun e he _ hk=>by have:=hh.lt he hk;omega⟩
theorem Vp.old (hx:p.at_ w0 A v) (hh:Hp w0 w ol) (hn:∀ e ∈ ol,e.ex=true->∀ k,e.has k->w0.heap.size <= k):p.at_ w (BB w0 A ol) v:=
 p.keep hx fun k hk hlt=>⟨(hh.below hn).block k hlt,.inl hk,fun e he hx hh'=>by have:=hn e he hx k hh';omega⟩
theorem Br.old {α:Type} {R:Eh α} {a:Option Addr} {n c:Nat} {l:List α} (hx:Br R w0 A a n c l) (hh:Hp w0 w ol) (hn:∀ e ∈ ol,e.ex=true->∀ k,e.has k->w0.heap.size <= k):Br R w (BB w0 A ol) a n c l:=
 hx.keep fun k hk hlt=>⟨(hh.below hn).block k hlt,.inl hk,fun e he hx hh'=>by have:=hn e he hx k hh';omega⟩
theorem NG {i:Nat} {x e:HE} (hp:ol.Pairwise PZ) (hi:B9 ol i=some x) (he:e ∈ ol) (hx:x.ex=false) (hex:e.ex=true):PZ x e:=by
 have hxm:=Af hi
 have hne:x ≠ e:=fun h=>by rw [h,hex] at hx;cases hx
 clear hi
 induction ol with
 |nil=>cases hxm
 |cons y ys ih=>
  rw [List.pairwise_cons] at hp
  rcases List.mem_cons.1 hxm with h1 |h1
  ·subst h1
   rcases List.mem_cons.1 he with h2 |h2
   ·exact absurd h2.symm hne
   ·exact hp.1 e h2
  ·rcases List.mem_cons.1 he with h2 |h2
   ·subst h2;exact (hp.1 x h1).symm
   ·exact ih hp.2 h2 h1
theorem Vp.fact (hh:Hp w0 w ol) (i:Nat) (hi:B9 ol i=some (.rep (fun w=>p.at_ w F v) F false)) (hF:∀ k,F k->A k \/ w0.heap.size <= k):p.at_ w (BB w0 A ol) v:=
 p.keep (hh.own _ (Af hi)).1 fun k hk hlt=>⟨rfl,hF k hk,fun e he hx hh'=>NG hh.apart hi he rfl hx (by rw [hx];rfl) k hk hh'⟩
theorem Vp.fact0 (hh:Hp w0 w ol) (i:Nat) (hi:B9 ol i=some (.rep (fun w=>p.at_ w F v) F false)):p.at_ w F v:=(hh.own _ (Af hi)).1
theorem Hp.addV (hh:Hp w0 w ol) (h:p.at_ w (BB w0 A ol) v):∃ F:Nat->Prop,(∀ k,F k->A k \/ w0.heap.size <= k)/\p.at_ w F v/\Hp w0 w (.rep (fun w=>p.at_ w F v) F false::ol):=by
 have hF:p.at_ w (fun k=>BB w0 A ol k/\k < w.heap.size) v:=p.keep h fun k hk hlt=>⟨rfl,hk,hlt⟩;refine ⟨fun k=>BB w0 A ol k/\k < w.heap.size,fun k hk=>hk.1.1,hF,hh.more ⟨hF,fun w1 w2 h1 h2=>p.keep h2 fun k hk _=>⟨h1 k hk,hk⟩,fun k hk=>hk.2⟩ fun e he hr k hk hk'=>?_⟩
 have hex:e.ex=true:=by simpa [HE.ex] using hr
 exact hk.1.2 e he hex hk'
end
section
variable {P:Program} {tb:EU} {n:Nat} {w0:World} {all:Array Oper} {os:List Oper} {o:Oper} {l:FL} {dl:DL} {ol:OL} {F:DL->Prop} {K:FL->OL->Prop} {Q:B3} {d:Nat}
theorem Dp (p:Vp) (A:Nat->Prop) {f:FuncId} {vs:List Value} (hs:BL n all (AP l) o=some (d,f,vs)) (hcall:∀ args w,(callFunc f args).run P w= .ok (.enter f args) w)
 (hc:∀ w,Hp w0 w ol->Calls P f vs.toArray w (fun e w'=>∃ v,e= .returned v/\Below w.heap.size w w'/\p.at_ w' (BB w0 A ol) v))
 (k:∀ v F w1,(∀ k,F k->A k \/ w0.heap.size <= k)->p.at_ w1 F v->S P n w0 all os ((d,v)::l) (.rep (fun w=>p.at_ w F v) F false::ol) K Q):S P n w0 all (o::os) l ol K Q:=
 A7 hs hcall fun w hh=>(hc w hh).mono fun e w' ⟨v,he,hb,hp⟩=>by
  obtain ⟨F,h1,h2,h3⟩:=(hh.ext hb).addV hp;exact ⟨v,_,he,h3,k v F w' h1 h2⟩
def PV (p:Vp) (w0:World) (A:Nat->Prop) (ol:OL) (v:Value) (w:World):Prop:=p.at_ w (BB w0 A ol) v
theorem PV.stable {p:Vp} {A:Nat->Prop}:∀ v w w',PV p w0 A ol v w->Below w.heap.size w w'->PV p w0 A ol v w':=fun v w w' h hb=>p.ext h hb
theorem Js (p:Vp) (A:Nat->Prop) {f:FuncId} {Es:List EE} (hs:Kn n all dl o=some (d,f,Es)) (hcall:∀ args w,(callFunc f args).run P w= .ok (.enter f args) w)
 (hc:∀ w vs,Hp w0 w ol->GC Es vs w->Calls P f vs.toArray w (fun e w'=>∃ v,e= .returned v/\Below w.heap.size w w'/\p.at_ w' (BB w0 A ol) v)) (k:D P n w0 all os ((d,.pr (PV p w0 A ol))::dl) ol F):D P n w0 all (o::os) dl ol F:=
 O7 (PV p w0 A ol) hs hcall PV.stable hc k
theorem MP:∀ e ∈ ol,e.ex=true->e ∈ ol:=fun e he _=>he
theorem XF (t:Nat) {p:Vp} {A:Nat->Prop} {ol1:OL} {G:FL->OL->Prop} (h:lk dl t=some (.pr (PV p w0 A ol1))) (hex:∀ e ∈ ol,e.ex=true->e ∈ ol1)
 (k:∀ v F w1,(∀ k,F k->A k \/ w0.heap.size <= k)->p.at_ w1 F v->D P n w0 all [] ((t,.ex v)::dl) (.rep (fun w=>p.at_ w F v) F false::ol) (E0 n w0 (.rep (fun w=>p.at_ w F v) F false::ol) G)):D P n w0 all [] dl ol (E0 n w0 ol G):=
 Na fun w hw f hf=>by
  have h1:p.at_ w (BB w0 A ol1) (f t):=hf t _ h;have h2:p.at_ w (BB w0 A ol) (f t):=p.mono h1 fun k hk=>⟨hk.1,fun e he hx=>hk.2 e (hex e he hx) hx⟩;obtain ⟨F,g1,g2,g3⟩:=hw.addV h2;have hk:=(k (f t) F w g1 g2).out _ (fun _=>rfl);have hk':E0 n w0 (.rep (fun w=>p.at_ w F (f t)) F false::ol) G ((t,.ex (f t))::dl):=hk
  obtain ⟨l',ol',e1,e2,e3⟩:=hk' w g3 f (fun t' Φ ht'=>by
   by_cases htt:t=t'
   ·subst htt;rw [Bl] at ht';cases ht'
   ·rw [BA htt] at ht';exact hf t' Φ ht')
  refine ⟨l',ol',fun t' v hv=>?_,e2,e3⟩;by_cases htt:t=t'
  ·subst htt
   rcases e1 t v hv with e |⟨Φ,e,_⟩
   ·rw [Bl] at e;cases e;exact .inr ⟨_,h,rfl⟩
   ·rw [Bl] at e;cases e
  ·have:=e1 t' v hv
   rwa [BA htt] at this
end
end Go.Proofs.YtidhpofcofknhaaGreat
