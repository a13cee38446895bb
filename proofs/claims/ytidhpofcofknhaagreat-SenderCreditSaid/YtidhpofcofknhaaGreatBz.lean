/-
  A board, plain: groups of numbers, who is in which, their times. Conditions: each theorem's own. A board as an object: its blocks, opened and closed. Conditions: each theorem's own. What a board tells: Has, Count, Next, Tries. Conditions: each theorem's own. A board's Clear, New, Flight. Conditions: each theorem's own. A board's groups without some numbers, plain; and its maps. Conditions: each theorem's own. A board's Take. Conditions: each theorem's own. A board's Send: the plain part, rules. Conditions: each theorem's own. A board's Send. Conditions: each theorem's own. A board's Due: the plain part. Conditions: each theorem's own. A board's Due. Conditions: each theorem's own. A nil board; rules for the statements about boards; the document's example. Conditions: each theorem's own. A board of one's own in a walk: Send, Take, Due as steps; the document's example. Conditions: each the
  Conditions: each theorem's own.
-/
import Derived.Test.YtidhpofcofknhaaGreatPa
namespace Go.Proofs.YtidhpofcofknhaaGreat
open Go Go.RowKit
set_option linter.unusedVariables false
structure BG where
 id:Int
 L:List Int
 tm:Int
 tries:Int
abbrev Aw (gs:List BG):List Int:=gs.flatMap BG.L
def Ml (gs:List BG) (id:Int):Option BG:=gs.find? fun g=>decide (g.id=id)
def EX (gs:List BG) (n:Int):Option BG:=gs.find? fun g=>decide (n ∈ g.L)
def Ga (x:Int):List Int->List Int
 | []=>[x]
 |y::l=>if x < y then x::y::l else if x=y then y::l else y::Ga x l
theorem J2 {x y:Int}:∀ {l:List Int},y ∈ Ga x l ↔ y=x \/ y ∈ l
 | []=>by simp [Ga]
 |z::l=>by
  unfold Ga;split
  ·simp
  split
  ·rename_i h;subst h;simp
  ·rw [List.mem_cons,J2,List.mem_cons];constructor
   ·rintro (h |h |h)
    ·exact .inr (.inl h)
    ·exact .inl h
    ·exact .inr (.inr h)
   ·rintro (h |h |h)
    ·exact .inr (.inl h)
    ·exact .inl h
    ·exact .inr (.inr h)
theorem ML {x:Int}:∀ {l:List Int},l.Pairwise (· < ·)->(Ga x l).Pairwise (· < ·)
 | [],_=>List.pairwise_singleton _ _
 |z::l,h=>by
  rw [List.pairwise_cons] at h;unfold Ga;split
  ·rename_i h1;refine List.pairwise_cons.2 ⟨fun y hy=>?_,List.pairwise_cons.2 h⟩
   rcases List.mem_cons.1 hy with rfl |hy
   ·exact h1
   ·exact Int.lt_trans h1 (h.1 y hy)
  split
  ·exact List.pairwise_cons.2 h
  ·refine List.pairwise_cons.2 ⟨fun y hy=>?_,ML h.2⟩
   rcases J2.1 hy with rfl |hy
   ·omega
   ·exact h.1 y hy
def Bt (l:List Int):List Int:=l.foldl (fun a x=>Ga x a) []
theorem JC (l:List Int):∀ a:List Int,a.Pairwise (· < ·)->(l.foldl (fun a x=>Ga x a) a).Pairwise (· < ·)/\∀ x,x ∈ l.foldl (fun a x=>Ga x a) a ↔ x ∈ a \/ x ∈ l:=by
 induction l with
 |nil=>exact fun a h=>⟨h,fun x=>by simp⟩
 |cons y l ih=>
  intro a h;obtain ⟨h1,h2⟩:=ih (Ga y a) (ML h);refine ⟨h1,fun x=>(h2 x).trans ?_⟩;rw [J2,List.mem_cons];constructor
  ·rintro ((h |h) |h)
   ·exact .inr (.inl h)
   ·exact .inl h
   ·exact .inr (.inr h)
  ·rintro (h |h |h)
   ·exact .inl (.inr h)
   ·exact .inl (.inl h)
   ·exact .inr h
theorem D5 (l:List Int):(Bt l).Pairwise (· < ·):=(JC l [] List.Pairwise.nil).1
theorem Cu {l:List Int} {x:Int}:x ∈ Bt l ↔ x ∈ l:=((JC l [] List.Pairwise.nil).2 x).trans (by simp)
theorem It {l m:List Int} (hm:m.Pairwise (· < ·)) (h:∀ x,x ∈ m ↔ x ∈ l):m=Bt l:=LU hm (D5 l) fun x=>(h x).trans Cu.symm
theorem Pg {l:List Int}:Bt l= [] ↔ l= []:=by
 constructor
 ·intro h
  cases l with
  |nil=>rfl
  |cons x l=>exact absurd (Cu.2 (List.mem_cons_self (a:=x) (l:=l))) (by rw [h];simp)
 ·rintro rfl;rfl
theorem Dj {l:List Int}:(Bt l).length <= l.length:=Ed ((D5 l).imp fun h=>Int.ne_of_lt h) fun x hx=>Cu.1 hx
theorem HV {l:List Int} (h:l.Pairwise (· < ·)):l.Nodup:=h.imp fun h=>Int.ne_of_lt h
def Hs (gs:List BG):List DE:=gs.foldr (fun g a=>NP (g.id,g.tm) a) []
abbrev bT (g:BG):DE:=(g.id,g.tm)
theorem Ek:∀ gs:List BG,(Hs gs).Perm (gs.map bT)
 | []=>List.Perm.refl _
 |g::gs=>(Do _ _).trans ((Ek gs).cons _)
theorem Eg:∀ {gs:List BG},(gs.map BG.id).Nodup->(Hs gs).Pairwise DV
 | [],_=>List.Pairwise.nil
 |g::gs,h=>by
  rw [List.map_cons,List.nodup_cons] at h;refine Ke _ _ (Eg h.2) fun p hp e=>h.1 ?_;obtain ⟨g',hg',rfl⟩:=List.mem_map.1 ((Ek gs).mem_iff.1 hp);exact List.mem_map.2 ⟨g',hg',e⟩
theorem Kg:∀ {l m:List DE},l.Pairwise DV->m.Pairwise DV->l.Perm m->l=m
 | [],m,_,_,h=>(List.nil_perm.1 h).symm
 |x::l,[],_,_,h=>absurd (List.perm_nil.1 h) (by simp)
 |x::l,y::m,hl,hm,h=>by
  rw [List.pairwise_cons] at hl hm
  have hxy:x=y:=by
   rcases List.mem_cons.1 (h.mem_iff.1 List.mem_cons_self) with e |e
   ·exact e
   rcases List.mem_cons.1 (h.mem_iff.2 (List.mem_cons_self (a:=y) (l:=m))) with e2 |e2
   ·exact e2.symm
   ·have h1:=hm.1 x e;have h2:=hl.1 y e2;unfold DV at h1 h2;omega
  subst hxy;rw [Kg hl.2 hm.2 (List.Perm.cons_inv h)]
theorem Ry {gs:List BG} {al:List DE} (hn:(gs.map BG.id).Nodup) (h1:al.Pairwise DV) (h2:al.Perm (gs.map bT)):al=Hs gs:=Kg h1 (Eg hn) (h2.trans (Ek gs).symm)
theorem L3 (gs:List BG):(Hs gs).length=gs.length:=by rw [(Ek gs).length_eq,List.length_map]
theorem PE {l m:List DE} {id tm:Int} (h:l.Perm m):(Gb l id tm).Perm ((id,tm)::m.filter fun p=>decide (p.1 ≠ id)):=(Do _ _).trans ((h.filter _).cons _)
theorem Uz {gs gs':List BG} {id tm:Int} (hn:(gs.map BG.id).Nodup) (hn':(gs'.map BG.id).Nodup) (h:(gs'.map bT).Perm ((id,tm)::(gs.map bT).filter fun p=>decide (p.1 ≠ id))):Gb (Hs gs) id tm=Hs gs':=
 Ry hn' (H7 (Eg hn)) ((PE (Ek gs)).trans h.symm)
theorem PL {gs gs':List BG} {id:Int} (hn:(gs.map BG.id).Nodup) (hn':(gs'.map BG.id).Nodup) (h:(gs'.map bT).Perm ((gs.map bT).filter fun p=>decide (p.1 ≠ id))):Dd (Hs gs) id=Hs gs':=
 Ry hn' (Hk (Eg hn)) (((Ek gs).filter _).trans h.symm)
structure C7 (last:Int) (gs:List BG):Prop where
 ids:(gs.map BG.id).Pairwise (· < ·)
 idb:∀ g ∈ gs,1 <= g.id/\g.id <= last
 srt:∀ g ∈ gs,g.L.Pairwise (· < ·)
 nd:(Aw gs).Nodup
 fit:∀ g ∈ gs,∀ n ∈ g.L,AS .u64 n
 tr:∀ g ∈ gs,1 <= g.tries/\g.tries <= 1099511627776
 tm:∀ g ∈ gs,0 <= g.tm/\g.tm <= 2305843009213693952
 len:(Aw gs).length <= 60000
 lst:0 <= last/\last <= 1099511627776
 cnt:gs.length <= 60000
def Jt (gs:List BG):Prop:=∀ g ∈ gs,g.L ≠ []
theorem C7.nil {last:Int} (h:0 <= last/\last <= 1099511627776):C7 last []:=⟨List.Pairwise.nil,fun g h=>(by cases h),fun g h=>(by cases h),List.nodup_nil,fun g h=>(by cases h),fun g h=>(by cases h),fun g h=>(by cases h),by simp,h,by simp⟩
section
variable {last:Int} {gs:List BG}
theorem C7.idn (h:C7 last gs):(gs.map BG.id).Nodup:=HV h.ids
theorem E9 (h:C7 last gs) {g:BG} (hg:g ∈ gs):Ml gs g.id=some g:=by
 unfold Ml
 obtain ⟨g',hg'⟩:∃ g',gs.find? (fun x=>decide (x.id=g.id))=some g':=by
  cases hf:gs.find? (fun x=>decide (x.id=g.id)) with
  |some g'=>exact ⟨g',rfl⟩
  |none=>exact absurd (List.find?_eq_none.1 hf g hg) (by simp)
 rw [hg'];have h1:=List.mem_of_find?_eq_some hg'
 have h2:g'.id=g.id:=by simpa using List.find?_some hg'
 rw [CU BG.id h.idn h1 hg h2]
theorem MX {id:Int} {g:BG} (h:Ml gs id=some g):g ∈ gs/\g.id=id:=⟨List.mem_of_find?_eq_some h,by simpa using List.find?_some h⟩
theorem Gx {id:Int}:Ml gs id=none ↔ ∀ g ∈ gs,g.id ≠ id:=by
 unfold Ml;rw [List.find?_eq_none];exact ⟨fun h g hg e=>h g hg (by simp [e]),fun h g hg=>by simp [h g hg]⟩
theorem Ea {n:Int} {g:BG} (h:EX gs n=some g):g ∈ gs/\n ∈ g.L:=⟨List.mem_of_find?_eq_some h,by simpa using List.find?_some h⟩
theorem Cw {n:Int}:EX gs n=none ↔ n ∉ Aw gs:=by
 unfold EX;rw [List.find?_eq_none];constructor
 ·intro h hn;obtain ⟨g,hg,hn⟩:=List.mem_flatMap.1 hn;exact h g hg (by simpa using hn)
 ·intro h g hg;have:n ∉ g.L:=fun hn=>h (List.mem_flatMap.2 ⟨g,hg,hn⟩);simp [this]
theorem HP:∀ {gs:List BG},(Aw gs).Nodup->∀ {g g':BG},g ∈ gs->g' ∈ gs->∀ {n:Int},n ∈ g.L->n ∈ g'.L->g=g'
 | [],_,_,_,h,_,_,_,_=>by cases h
 |x::gs,hn,g,g',hg,hg',n,h1,h2=>by
  rw [Aw,List.flatMap_cons,List.nodup_append] at hn
  rcases List.mem_cons.1 hg with rfl |h3<;>rcases List.mem_cons.1 hg' with rfl |h4
  ·rfl
  ·exact absurd rfl (hn.2.2 n h1 n (List.mem_flatMap.2 ⟨g',h4,h2⟩))
  ·exact absurd rfl (hn.2.2 n h2 n (List.mem_flatMap.2 ⟨g,h3,h1⟩))
  ·exact HP hn.2.1 h3 h4 h1 h2
theorem FI (h:C7 last gs) {g:BG} (hg:g ∈ gs) {n:Int} (hn:n ∈ g.L):EX gs n=some g:=by
 cases hf:EX gs n with
 |none=>exact absurd (List.mem_flatMap.2 ⟨g,hg,hn⟩) (Cw.1 hf)
 |some g'=>rw [HP h.nd (Ea hf).1 hg (Ea hf).2 hn]
theorem C7.nfit (h:C7 last gs) {n:Int} (hn:n ∈ Aw gs):AS .u64 n:=by
 obtain ⟨g,hg,hn⟩:=List.mem_flatMap.1 hn;exact h.fit g hg n hn
end
theorem JZ (k:Int) (v:Value) (c:Nat):∀ (M:List ME),k ∉ M.map (·.1)->CV M k v c=(M ++ [(k,v,c)],c + 1)
 | [],_=>MI k v c
 |p::M,h=>by
  rw [List.map_cons,List.mem_cons,not_or] at h;rw [GN,if_neg h.1,JZ k v c M h.2];rfl
theorem JX (k:Int) (v:Value) (c:Nat):∀ (M:List ME),k ∈ M.map (·.1)->(CV M k v c).1.map (·.2.2)=M.map (·.2.2)/\(CV M k v c).2=c
 | [],h=>by cases h
 |p::M,h=>by
  rw [GN];split
  ·exact ⟨rfl,rfl⟩
  ·rename_i hne;rw [List.map_cons,List.mem_cons] at h;have ih:=JX k v c M (h.resolve_left hne);exact ⟨congrArg (p.2.2::·) ih.1,ih.2⟩
theorem Md.put {M:List ME} {c:Nat} (h:Md M c) (k:Int) (v:Value):Md (CV M k v c).1 (CV M k v c).2:=by
 by_cases hk:k ∈ M.map (·.1)
 ·obtain ⟨h1,h2⟩:=JX k v c M hk;refine ⟨JY h.keys,by rw [h1];exact h.borns,fun p hp=>?_⟩;have h3:p.2.2 ∈ (CV M k v c).1.map (·.2.2):=List.mem_map.2 ⟨p,hp,rfl⟩;rw [h1] at h3;obtain ⟨q,hq,e⟩:=List.mem_map.1 h3;rw [h2,<-e];exact h.lt q hq
 ·rw [JZ k v c M hk];refine ⟨?_,?_,fun p hp=>?_⟩
  ·rw [List.map_append,List.nodup_append];refine ⟨h.keys,by simp,fun a ha b hb=>?_⟩;rw [List.map_cons,List.map_nil,List.mem_singleton] at hb;rintro rfl;have e:a=k:=hb;exact hk (e ▸ ha)
  ·rw [List.map_append,List.nodup_append];refine ⟨h.borns,by simp,fun a ha b hb=>?_⟩;rw [List.map_cons,List.map_nil,List.mem_singleton] at hb;rintro rfl;obtain ⟨p,hp,e⟩:=List.mem_map.1 ha;have:=h.lt p hp;rw [e,hb] at this;exact absurd this (Nat.lt_irrefl _)
  ·rcases List.mem_append.1 hp with hp |hp
   ·exact Nat.lt_succ_of_lt (h.lt p hp)
   ·rw [List.mem_singleton] at hp;subst hp;exact Nat.lt_succ_self _
theorem HU (n:Int):∀ (M:List ME),(D7 M n).Sublist M
 | []=>by rw [MJ];exact List.Sublist.refl _
 |p::M=>by
  rw [IG];split
  ·exact List.sublist_cons_self _ _
  ·exact (HU n M).cons_cons p
theorem Md.del {M:List ME} {c:Nat} (h:Md M c) (n:Int):Md (D7 M n) c:=
 ⟨h.keys.sublist ((HU n M).map _),h.borns.sublist ((HU n M).map _),fun p hp=>h.lt p ((HU n M).subset hp)⟩
theorem Km {w:World} {b:Nat} {cs:List Value} {e:TypeId} {fz:Nat × Nat} (h:w.heap[b]? =some (.cells ⟨cs⟩ e fz)) {j:Nat} {u:Value} (hj:cs[j]? =some u):w.cell? ⟨b,0 + j,none⟩=some u:=
 (Sl.of_blk (n:=cs.length) (sz:=1) (off:=0) h (by rw [Nat.mul_one]) (fun j u hu=>by rw [Nat.zero_add];exact hu)).at_ (Nat.lt_of_le_of_lt (Nat.zero_le j) (List.getElem?_eq_some_iff.1 hj).1) hj
theorem N6 {P:Program} {tb:EU} {n:Nat} {w0:World} {all:Array Oper} {o:Oper} {ol:OL} {d:Nat} {r:Nat->Option Value} (ht:AW P tb) {mt kt et:TypeId} {x ix:Operand} {κ:IntKind} {b:Nat} {k:Int} {M:List ME} {c:Nat} {tm tk te:TI} {v:Value} (hs:BV n all r o=some (d,.lookup mt x ix false)) (hx:ev r x=some (.map (some b))) (hi:ev r ix=some (.int κ k))
 (htm:tl tb mt=some tm) (hdm:tm.desc= .map kt et) (htk:tl tb kt=some tk) (hdk:tk.desc= .int κ) (hte:tl tb et=some te) (hb:∀ w,Hp w0 w ol->w.heap[b]? =some (Cb κ M c)) (hg:Dz M k=some v):Hw P n w0 all r ol o d v:=by
 have h:=Il (w0:=w0) (ol:=ol) ht hs hx hi htm hdm htk hdk hte hb;unfold Dz at hg
 cases hm:DR k M 0 with
 |none=>rw [hm] at hg;cases hg
 |some p=>
  obtain ⟨j,u⟩:=p;rw [hm] at h hg;cases hg;exact h
section
variable {P:Program} {tb:EU} {n:Nat} {w0:World} {all:Array Oper} {os:List Oper} {o:Oper} {l:FL} {ol:OL} {K:FL->OL->Prop} {Q:B3}
theorem Lu (ht:AW P tb) (i:Nat) {mt kt et:TypeId} {x ix:Operand} {κ:IntKind} {b:Nat} {k:Int} {M:List ME} {c:Nat} {tm tk:TI} {ol':OL} (hs:KU all (AP l) o=some (.call ⟨.builtin .delete,#[x,ix],#[mt,kt]⟩)) (hx:ev (AP l) x=some (.map (some b))) (hk:ev (AP l) ix=some (.int κ k))
 (hi:B9 ol i=some (.blk b (Cb κ M c) true)) (htm:tl tb mt=some tm) (hdm:tm.desc= .map kt et) (htk:tl tb kt=some tk) (hdk:tk.desc= .int κ) (hp:Dc ol i (.blk b (Cb κ (D7 M k) c) true)=some ol') (kk:S P n w0 all os l ol' K Q):S P n w0 all (o::os) l ol K Q:=by
 obtain ⟨hdst,hg,hop⟩:=GK hs;refine ⟨fun a w hf hh=>?_⟩;have h1:=ht.under' htm;rw [hdm] at h1;have h2:=ht.under' htk;rw [hdk] at h2;have h3:=JK (P:=P) (ty:=o.type) h1 h2 (hh.own _ (Af hi)) k;obtain ⟨pre,post,e1,e2⟩:=CP hi hp;refine B4 (v:=.tuple #[]) (Bb hf.rd hg) (w':={ w with heap:=w.heap.setIfInBounds b (Cb κ (D7 M k) c)}) ?_ ?_
 ·unfold execOp;simp [hop,resolve,invoke,builtin,hf.rd.ev hx,hf.rd.ev hk,h3]
 ·rw [hdst];rw [e1] at hh;rw [e2] at kk;exact kk.out _ _ hf hh.setB
end
theorem Hp.merge {w0 w:World} {ol:OL} {Φ1 Φ2 Ψ:World->Prop} {F1 F2:Nat->Prop} (h:Hp w0 w (.rep Φ1 F1 false::.rep Φ2 F2 false::ol)) (hΨ:Φ1 w->Φ2 w->Ψ w) (hl:PW Ψ fun k=>F1 k \/ F2 k):Hp w0 w (.rep Ψ (fun k=>F1 k \/ F2 k) false::ol):=by
 have o1:=h.own _ (Af (i:=0) rfl);have o2:=h.own _ (Af (i:=1) rfl);have hap:=List.pairwise_cons.1 h.apart;have hap2:=List.pairwise_cons.1 hap.2;refine ⟨h.os,h.tape,h.output,h.size,fun k hk he=>h.old k hk fun e hm hx hh=>?_,fun e hm=>?_,List.pairwise_cons.2 ⟨fun e he hr k hk hk2=>?_,hap2.2⟩⟩
 ·rcases List.mem_cons.1 hm with rfl |hm
  ·cases hx
  rcases List.mem_cons.1 hm with rfl |hm
  ·cases hx
  ·exact he e (List.mem_cons_of_mem _ hm) hx hh
 ·rcases List.mem_cons.1 hm with rfl |hm
  ·refine ⟨hΨ o1.1 o2.1,hl,fun k hk=>?_⟩
   rcases hk with hk |hk
   ·exact o1.2.2 k hk
   ·exact o2.2.2 k hk
  ·exact h.own e (List.mem_cons_of_mem _ (List.mem_cons_of_mem _ hm))
 ·rcases hk with hk |hk
  ·exact hap.1 e (List.mem_cons_of_mem _ he) hr k hk hk2
  ·exact hap2.1 e he hr k hk hk2
abbrev AF (b:Nat):Value:=.pointer (some ⟨b,0,none⟩)
abbrev WU (f m:Int) (gb mb ab:Nat) (last:Int):Obj:=.cells ⟨[.int .i64 f,.int .i64 m,.map (some gb),.map (some mb),AF ab,.int .u64 last]⟩ 138 (0,0)
structure SX where
 a:Option Addr
 n:Nat
 c:Nat
abbrev SX.v (x:SX):Value:=.slice x.a x.n x.c
abbrev SX.s (x:SX):Value:=Bz x.a x.n x.c
abbrev Tk (x:SX) (t:Int):Obj:=.cells ⟨[x.v,.int .i64 t]⟩ 144 (0,0)
def Mk (gs:List BG) (B:Int->Nat) (X:Int->SX):Vp:=
 ⟨fun w F _=>∀ g ∈ gs,w.heap[B g.id]? =some (Tk (X g.id) g.tries)/\F (B g.id),fun h hk g hg=>⟨((hk _ (h g hg).2 (AU (h g hg).1)).1).trans (h g hg).1,(hk _ (h g hg).2 (AU (h g hg).1)).2⟩⟩
def I7 (gs:List BG) (X:Int->SX):Vp:=
 ⟨fun w F _=>∀ g ∈ gs,(By (· ∈ g.L) g.L.length).at_ w F (X g.id).s,fun h hk g hg=>(By _ _).keep (h g hg) hk⟩
structure BH where
 gb:Nat
 mb:Nat
 ab:Nat
 c1:Nat
 c2:Nat
 M1:List ME
 M2:List ME
 B:Int->Nat
 X:Int->SX
 Fa:Nat->Prop
 Fg:Nat->Prop
 Fs:Nat->Prop
structure EF (gs:List BG) (M1 M2:List ME) (c1 c2:Nat) (B:Int->Nat):Prop where
 inj:∀ g ∈ gs,∀ g' ∈ gs,B g.id=B g'.id->g.id=g'.id
 m1:Md M1 c1
 g1:∀ id,Dz M1 id=(Ml gs id).map fun g=>AF (B id)
 m2:Md M2 c2
 g2:∀ n,Dz M2 n=(EX gs n).map fun g=>Value.int .u64 g.id
abbrev PR (f m:Int):Prop:=1 <= f/\f <= m/\m <= 1099511627776
abbrev Ha (bb:Nat) (f m:Int) (gs:List BG) (last:Int) (h:BH) (r s:Bool):OL:=
 [.blk bb (WU f m h.gb h.mb h.ab last) r,.blk h.gb (Cb .u64 h.M1 h.c1) r,.blk h.mb (Cb .u64 h.M2 h.c2) r,.rep (fun w=>(I4 h.ab (Hs gs)).at_ w h.Fa (.bool true)) h.Fa r,.rep (fun w=>(Mk gs h.B h.X).at_ w h.Fg (.bool true)) h.Fg r,.rep (fun w=>(I7 gs h.X).at_ w h.Fs (.bool true)) h.Fs s]
def DJ (bb:Nat) (f m:Int) (gs:List BG) (last:Int):Vp:=
 ⟨fun w F _=>∃ h:BH,PR f m/\(C7 last gs/\Jt gs)/\EF gs h.M1 h.M2 h.c1 h.c2 h.B/\(∀ e ∈ Ha bb f m gs last h true true,e.holds w/\∀ k,e.has k->F k)/\(Ha bb f m gs last h true true).Pairwise PZ,
  fun ⟨h,h1,h2,h3,h4,h5⟩ hk=>⟨h,h1,h2,h3,fun e he=>⟨HE.keep (h4 e he).1 fun k hh=>(hk k ((h4 e he).2 k hh) (HE.lt (h4 e he).1 hh)).1,fun k hh=>(hk k ((h4 e he).2 k hh) (HE.lt (h4 e he).1 hh)).2⟩,h5⟩⟩
section
variable {bb:Nat} {f m last:Int} {gs:List BG} {w w0:World} {F:Nat->Prop} {v:Value} {ol:OL}
theorem UT (h:(DJ bb f m gs last).at_ w F v):PR f m/\C7 last gs/\Jt gs:=by
 obtain ⟨_,h1,h2,_⟩:=h;exact ⟨h1,h2⟩
theorem Ru {h:BH} (h4:∀ e ∈ Ha bb f m gs last h true true,e.holds w/\∀ k,e.has k->F k) (h5:(Ha bb f m gs last h true true).Pairwise PZ) (r s:Bool):Hp w w (Ha bb f m gs last h r s):=by
 refine ⟨rfl,rfl,rfl,Nat.le_refl _,fun _ _ _=>rfl,fun e he=>?_,?_⟩
 ·simp only [Ha,List.mem_cons,List.not_mem_nil,or_false] at he
  rcases he with rfl |rfl |rfl |rfl |rfl |rfl
  ·exact (h4 _ (Af (i:=0) rfl)).1
  ·exact (h4 _ (Af (i:=1) rfl)).1
  ·exact (h4 _ (Af (i:=2) rfl)).1
  ·exact (h4 _ (Af (i:=3) rfl)).1
  ·exact (h4 _ (Af (i:=4) rfl)).1
  ·exact (h4 _ (Af (i:=5) rfl)).1
 ·have ht:∀ {x y x' y':HE},(x'.ex || y'.ex)=true->PZ x' y'->(∀ k,x.has k->x'.has k)->(∀ k,y.has k->y'.has k)->PZ x y:=fun h1 h2 h3 h4 _ k hk hk2=>h2 h1 k (h3 k hk) (h4 k hk2);simp only [Ha,List.pairwise_cons,List.mem_cons,List.not_mem_nil,or_false,forall_eq_or_imp,forall_eq] at h5 ⊢;obtain ⟨⟨a1,a2,a3,a4,a5⟩,⟨b2,b3,b4,b5⟩,⟨c3,c4,c5⟩,⟨d4,d5⟩,e5,_⟩:=h5;refine ⟨⟨?_,?_,?_,?_,?_⟩,⟨?_,?_,?_,?_⟩,⟨?_,?_,?_⟩,⟨?_,?_⟩,?_,fun _ h=>h.elim,List.Pairwise.nil⟩
  ·exact ht rfl a1 (fun k h=>h) fun k h=>h
  ·exact ht rfl a2 (fun k h=>h) fun k h=>h
  ·exact ht rfl a3 (fun k h=>h) fun k h=>h
  ·exact ht rfl a4 (fun k h=>h) fun k h=>h
  ·exact ht rfl a5 (fun k h=>h) fun k h=>h
  ·exact ht rfl b2 (fun k h=>h) fun k h=>h
  ·exact ht rfl b3 (fun k h=>h) fun k h=>h
  ·exact ht rfl b4 (fun k h=>h) fun k h=>h
  ·exact ht rfl b5 (fun k h=>h) fun k h=>h
  ·exact ht rfl c3 (fun k h=>h) fun k h=>h
  ·exact ht rfl c4 (fun k h=>h) fun k h=>h
  ·exact ht rfl c5 (fun k h=>h) fun k h=>h
  ·exact ht rfl d4 (fun k h=>h) fun k h=>h
  ·exact ht rfl d5 (fun k h=>h) fun k h=>h
  ·exact ht rfl e5 (fun k h=>h) fun k h=>h
theorem GT (h:(DJ bb f m gs last).at_ w F v) (r s:Bool):∃ h:BH,PR f m/\C7 last gs/\EF gs h.M1 h.M2 h.c1 h.c2 h.B/\Hp w w (Ha bb f m gs last h r s)/\(∀ e ∈ Ha bb f m gs last h true true,∀ k,e.has k->F k)/\Jt gs:=by
 obtain ⟨h,h1,h2,h3,h4,h5⟩:=h;exact ⟨h,h1,h2.1,h3,Ru h4 h5 r s,fun e he=>(h4 e he).2,h2.2⟩
theorem Rs {h:BH} (hc:∀ e ∈ Ha bb f m gs last h true true,∀ k,e.has k->F k):∀ e ∈ Ha bb f m gs last h true false,e.ex=true->∀ k,e.has k->F k:=fun e he hx k hk=>by
 simp only [Ha,List.mem_cons,List.not_mem_nil,or_false] at he
 rcases he with rfl |rfl |rfl |rfl |rfl |rfl
 ·exact hc _ (Af (i:=0) rfl) k hk
 ·exact hc _ (Af (i:=1) rfl) k hk
 ·exact hc _ (Af (i:=2) rfl) k hk
 ·exact hc _ (Af (i:=3) rfl) k hk
 ·exact hc _ (Af (i:=4) rfl) k hk
 ·cases hx
theorem Ko {h:BH} {G:Nat->Prop} (h0:G bb) (h1:G h.gb) (h2:G h.mb) (h3:∀ k,h.Fa k->G k) (h4:∀ k,h.Fg k->G k) (h5:∀ k,h.Fs k->G k):∀ e ∈ Ha bb f m gs last h true true,∀ k,e.has k->G k:=fun e he k hk=>by
 simp only [Ha,List.mem_cons,List.not_mem_nil,or_false] at he
 rcases he with rfl |rfl |rfl |rfl |rfl |rfl
 ·exact Option.some.inj hk ▸ h0
 ·exact Option.some.inj hk ▸ h1
 ·exact Option.some.inj hk ▸ h2
 ·exact h3 k hk
 ·exact h4 k hk
 ·exact h5 k hk
theorem Hp.pack {A:OL} {F0:Nat->Prop} (h:Hp w0 w (A ++ ol)) (hF0:∀ k,F0 k->k < w0.heap.size) (hol:∀ e ∈ ol,e.ex=true/\∀ k,e.has k->w0.heap.size <= k) (hA:∀ e ∈ A,∀ k,e.has k->F0 k \/ w0.heap.size <= k)
 (p:Vp) (hp:∀ F':Nat->Prop,(∀ e ∈ A,∀ k,e.has k->F' k)->p.at_ w F' (.bool true)):∃ F':Nat->Prop,(∀ k,F0 k->F' k)/\(∀ k,F' k->F0 k \/ w0.heap.size <= k)/\Hp w0 w (.rep (fun w=>p.at_ w F' (.bool true)) F' true::ol):=by
 refine ⟨fun k=>F0 k \/ ∃ e ∈ A,e.has k,fun k hk=>.inl hk,fun k hk=>?_,h.os,h.tape,h.output,h.size,fun k hk he=>h.old k hk fun e hm hx hh=>?_,fun e hm=>?_,?_⟩
 ·rcases hk with hk |⟨e,he,hk⟩
  ·exact .inl hk
  ·exact hA e he k hk
 ·rcases List.mem_append.1 hm with hm |hm
  ·exact he _ List.mem_cons_self rfl (.inr ⟨e,hm,hh⟩)
  ·exact he e (List.mem_cons_of_mem _ hm) hx hh
 ·rcases List.mem_cons.1 hm with rfl |hm
  ·refine ⟨hp _ fun e he k hk=>.inr ⟨e,he,hk⟩,Vp.loc,fun k hk=>?_⟩
   rcases hk with hk |⟨e,he,hk⟩
   ·exact Nat.lt_of_lt_of_le (hF0 k hk) h.size
   ·exact h.lt (List.mem_append.2 (.inl he)) hk
  ·exact h.own e (List.mem_append.2 (.inr hm))
 ·refine List.pairwise_cons.2 ⟨fun e he _ k hk hk2=>?_,(List.pairwise_append.1 h.apart).2.1⟩
  rcases hk with hk |⟨e',he',hk⟩
  ·have h1:=hF0 k hk;have h2:=(hol e he).2 k hk2;omega
  ·exact (List.pairwise_append.1 h.apart).2.2 e' he' e he (by rw [(hol e he).1,Bool.or_true]) k hk hk2
theorem Ib {F0:Nat->Prop} {h:BH} (hh:Hp w0 w (Ha bb f m gs last h true false ++ ol)) (hp:PR f m) (hok:C7 last gs) (hne:Jt gs) (hr:EF gs h.M1 h.M2 h.c1 h.c2 h.B) (hF0:∀ k,F0 k->k < w0.heap.size) (hol:∀ e ∈ ol,e.ex=true/\∀ k,e.has k->w0.heap.size <= k)
 (hA:∀ e ∈ Ha bb f m gs last h true true,∀ k,e.has k->F0 k \/ w0.heap.size <= k):∃ F':Nat->Prop,(∀ k,F0 k->F' k)/\(∀ k,F' k->F0 k \/ w0.heap.size <= k)/\Hp w0 w (.rep (fun w=>(DJ bb f m gs last).at_ w F' (.bool true)) F' true::ol):=by
 refine hh.pack hF0 hol (fun e he k hk=>?_) (DJ bb f m gs last) fun F' hF'=>⟨h,hp,⟨hok,hne⟩,hr,fun e he=>?_,?_⟩
 ·simp only [Ha,List.mem_cons,List.not_mem_nil,or_false] at he
  rcases he with rfl |rfl |rfl |rfl |rfl |rfl
  ·exact hA _ (Af (i:=0) rfl) k hk
  ·exact hA _ (Af (i:=1) rfl) k hk
  ·exact hA _ (Af (i:=2) rfl) k hk
  ·exact hA _ (Af (i:=3) rfl) k hk
  ·exact hA _ (Af (i:=4) rfl) k hk
  ·exact hA _ (Af (i:=5) rfl) k hk
 ·simp only [Ha,List.mem_cons,List.not_mem_nil,or_false] at he
  rcases he with rfl |rfl |rfl |rfl |rfl |rfl
  ·exact ⟨hh.own _ (Af (i:=0) rfl),hF' _ (Af (i:=0) rfl)⟩
  ·exact ⟨hh.own _ (Af (i:=1) rfl),hF' _ (Af (i:=1) rfl)⟩
  ·exact ⟨hh.own _ (Af (i:=2) rfl),hF' _ (Af (i:=2) rfl)⟩
  ·exact ⟨hh.own _ (Af (i:=3) rfl),hF' _ (Af (i:=3) rfl)⟩
  ·exact ⟨hh.own _ (Af (i:=4) rfl),hF' _ (Af (i:=4) rfl)⟩
  ·exact ⟨hh.own (.rep (fun w=>(I7 gs h.X).at_ w h.Fs (.bool true)) h.Fs false) (Af (i:=5) rfl),hF' (.rep (fun w=>(I7 gs h.X).at_ w h.Fs (.bool true)) h.Fs false) (Af (i:=5) rfl)⟩
 ·have h5:=(List.pairwise_append.1 hh.apart).1;simp only [Ha,List.pairwise_cons,List.mem_cons,List.not_mem_nil,or_false,forall_eq_or_imp,forall_eq] at h5 ⊢;obtain ⟨⟨a1,a2,a3,a4,a5⟩,⟨b2,b3,b4,b5⟩,⟨c3,c4,c5⟩,⟨d4,d5⟩,e5,_⟩:=h5;exact ⟨⟨a1,a2,a3,a4,fun _=>a5 rfl⟩,⟨b2,b3,b4,fun _=>b5 rfl⟩,⟨c3,c4,fun _=>c5 rfl⟩,⟨d4,fun _=>d5 rfl⟩,fun _=>e5 rfl,fun _ h=>h.elim,List.Pairwise.nil⟩
end
section
variable {bb:Nat} {f m last:Int} {gs:List BG} {w w0:World} {F:Nat->Prop} {v:Value} {ol:OL}
theorem Rr (h:(DJ bb f m gs last).at_ w F v) (n:Int):Calls Tryz.prog 78 #[AF bb,.int .u64 n] w fun e w'=>e= .returned (.bool (decide (n ∈ Aw gs)))/\Below w.heap.size w w':=by
 obtain ⟨x,hp,hok,hr,hst,_⟩:=GT h false false;refine BO Tryz.func78 rfl rfl hst ?_;repeat (first |refine Ai ?_ |refine Ab ?_ |refine Ag ?_ |refine Ae Aa rfl ?_)
 refine BE (CS Aa rfl rfl rfl rfl rfl) ?_;repeat (first |refine Ai ?_ |refine Ab ?_ |refine Ag ?_ |refine Ad ?_ |refine Ao ?_ |refine AG rfl ?_ |refine Ae Aa rfl ?_ |refine An Aa 0 rfl rfl rfl ?_)
 have hg:=hr.g2 n
 cases hb:EX gs n with
 |some g=>
  rw [hb] at hg;refine BE (Ma Aa rfl rfl rfl rfl rfl rfl rfl rfl (fun w' hw=>hw.own _ (Af (i:=2) rfl)) hg) ?_;repeat (first |refine Ai ?_ |refine Ab ?_ |refine Ag ?_ |refine AC ?_ |refine Ae Aa rfl ?_)
  have hn:n ∈ Aw gs:=List.mem_flatMap.2 ⟨g,Ea hb⟩;exact AZ rfl rfl (fun w' hw=>⟨by rw [decide_eq_true hn],hw.below (by repeat (first |exact Ar |refine CQ ?_ |refine BW ?_))⟩)
 |none=>
  rw [hb] at hg;refine BE (Mb Aa rfl rfl rfl rfl rfl rfl rfl rfl (fun w' hw=>hw.own _ (Af (i:=2) rfl)) hg) ?_;repeat (first |refine Ai ?_ |refine Ab ?_ |refine Ag ?_ |refine AC ?_ |refine Ae Aa rfl ?_)
  exact AZ rfl rfl (fun w' hw=>⟨by rw [decide_eq_false (Cw.1 hb)],hw.below (by repeat (first |exact Ar |refine CQ ?_ |refine BW ?_))⟩)
theorem EF.keys {M1 M2:List ME} {c1 c2:Nat} {B:Int->Nat} (hr:EF gs M1 M2 c1 c2 B) (n:Int):n ∈ M2.map (·.1) ↔ n ∈ Aw gs:=by
 have h1:=hr.g2 n;rw [<-Decidable.not_iff_not,<-QE,h1,<-Cw];cases EX gs n<;>simp
theorem EF.len {M1 M2:List ME} {c1 c2:Nat} {B:Int->Nat} (hr:EF gs M1 M2 c1 c2 B) (hok:C7 last gs):M2.length=(Aw gs).length:=by
 have e:M2.length=(M2.map (·.1)).length:=by rw [List.length_map]
 rw [e];exact (EM hr.m2.keys hok.nd (fun x hx=>(hr.keys x).1 hx) fun x hx=>(hr.keys x).2 hx).length_eq
theorem MT (h:(DJ bb f m gs last).at_ w F v):Calls Tryz.prog 53 #[AF bb] w fun e w'=>e= .returned (.int .i64 ((Aw gs).length:Int))/\Below w.heap.size w w':=by
 obtain ⟨x,hp,hok,hr,hst,_⟩:=GT h false false;refine BZ Tryz.func53 rfl rfl hst ?_;repeat (first |refine Ai ?_ |refine Ab ?_ |refine Ag ?_ |refine Ae Aa rfl ?_)
 refine BE (CS Aa rfl rfl rfl rfl rfl) ?_;repeat (first |refine Ai ?_ |refine Ab ?_ |refine Ag ?_ |refine Ad ?_ |refine Ao ?_ |refine AG rfl ?_ |refine Ae Aa rfl ?_ |refine An Aa 0 rfl rfl rfl ?_)
 refine BE (R7 Aa rfl rfl rfl rfl (fun w' hw=>hw.own _ (Af (i:=2) rfl))) ?_;repeat (first |refine Ag ?_ |refine AC ?_ |refine Ae Aa rfl ?_)
 exact AZ rfl rfl (fun w' hw=>⟨by rw [hr.len hok],hw.below (by repeat (first |exact Ar |refine CQ ?_ |refine BW ?_))⟩)
def Hr (gs:List BG) (n:Int):Int:=match EX gs n with
 |some g=>g.tries
 |none=>0
end
theorem Rw {c1 c2:Nat} {B:Int->Nat}:EF [] [] [] 0 0 B:=⟨fun g h=>(by cases h),Md.nil,fun id=>rfl,Md.nil,fun n=>rfl⟩
section
variable {bb:Nat} {f m last:Int} {gs:List BG} {w w0:World} {F:Nat->Prop} {v:Value} {ol:OL}
theorem Hp.none {w0 w:World} {ol:OL} (h:Hp w0 w ol) {p:Vp} {v:Value} (hp:∀ w,p.at_ w (fun _=>False) v) (r:Bool):Hp w0 w (.rep (fun w=>p.at_ w (fun _=>False) v) (fun _=>False) r::ol):=
 h.more ⟨hp w,Vp.loc,fun _ h=>h.elim⟩ fun e _ _ k hk=>hk.elim
theorem Ic {v1 v2 v3:Value} (hb:w.heap[bb]? =some (.cells ⟨[.int .i64 f,.int .i64 m,v1,v2,v3,.int .u64 last]⟩ 138 (0,0))) (hp:PR f m) (hl:0 <= last/\last <= 1099511627776) (hbF:F bb) (hF:∀ k,F k->k < w.heap.size):
 Calls Tryz.prog 69 #[AF bb] w fun e w'=>e= .returned (.tuple #[])/\Ln w F (DJ bb f m [] last) w':=by
 refine BZ Tryz.func69 rfl rfl (Hp.start true hb) ?_;repeat (first |refine Ai ?_ |refine Ab ?_ |refine Ae Aa rfl ?_)
 refine BE (O3 Aa rfl rfl rfl rfl rfl) ?_;repeat (first |refine Ag ?_ |refine AX rfl ?_ |refine Ae Aa rfl ?_ |refine Ap ?_)
 refine GW rfl .u64 (fun gb hgb=>?_);refine GW rfl .u64 (fun mb hmb=>?_);refine Jr rfl Tryz.call89 (fun w1 h1=>(Wz w1).mono fun e w' ⟨ab,Fa,he,h2,h3⟩=>⟨_,_,Fa,he,h2,h3,fun hN0=>?_⟩);repeat (first |refine Ag ?_ |refine Ae Aa rfl ?_ |refine Ax Aa 3 rfl rfl rfl rfl rfl rfl ?_)
 refine CM rfl (fun w' hw=>⟨rfl,?_⟩);have h9:=(((hw.none (p:=I7 [] fun _=>⟨none,0,0⟩) (v:=.bool true) (fun w g hg=>by cases hg) false).none (p:=Mk [] (fun _=>0) fun _=>⟨none,0,0⟩) (v:=.bool true) (fun w g hg=>by cases hg) true).pm [5,4,3,2,0,1] rfl rfl rfl);refine Ib (h:=⟨gb,mb,ab,0,0,[],[],fun _=>0,fun _=>⟨none,0,0⟩,Fa,fun _=>False,fun _=>False⟩) (ol:=[]) h9 hp (C7.nil hl) (fun g hg=>by cases hg) (Rw (c1:=0) (c2:=0)) hF (fun e he=>by cases he) (fun e he k hk=>?_);simp only [Ha,List.mem_cons,List.not_mem_nil,or_false] at he
 rcases he with rfl |rfl |rfl |rfl |rfl |rfl
 ·exact .inl (Option.some.inj hk ▸ hbF)
 ·exact .inr (Option.some.inj hk ▸ hgb)
 ·exact .inr (Option.some.inj hk ▸ hmb)
 ·exact .inr (hN0 k hk)
 ·exact hk.elim
 ·exact hk.elim
theorem Rt (h:(DJ bb f m gs last).at_ w F (.bool true)) (hF:∀ k,F k->k < w.heap.size):
 Calls Tryz.prog 69 #[AF bb] w fun e w'=>e= .returned (.tuple #[])/\Ln w F (DJ bb f m [] last) w':=by
 obtain ⟨x,hp,hok,hr,h4,h5⟩:=h;exact Ic (h4 _ (Af (i:=0) rfl)).1 hp hok.1.lst ((h4 _ (Af (i:=0) rfl)).2 bb rfl) hF
theorem Hp.blkRep {b:Nat} {x:Obj} (h:Hp w0 w (.blk b x true::ol)):Hp w0 w (.rep (fun w=>w.heap[b]? =some x) (fun k=>some b=some k) true::ol):=by
 have o0:w.heap[b]? =some x:=h.own _ List.mem_cons_self;refine Hp.regroup [.blk b x true] [.rep (fun w=>w.heap[b]? =some x) (fun k=>some b=some k) true] h (fun e he=>?_) (fun e he=>?_) (List.pairwise_singleton _ _) (fun e he k hk=>?_) (fun e he k hk=>?_)
 ·rw [List.mem_singleton] at he;subst he;rfl
 ·rw [List.mem_singleton] at he;subst he;exact ⟨rfl,o0,fun w1 w2 h1 h2=>(h1 b rfl).trans h2,fun k hk=>by rw [<-Option.some.inj hk];exact AU o0⟩
 ·rw [List.mem_singleton] at he;subst he;exact ⟨_,List.mem_cons_self,hk⟩
 ·rw [List.mem_singleton] at he;subst he;exact .inr ⟨_,List.mem_cons_self,hk⟩
theorem Wt (f m:Int) (w:World):Calls Tryz.prog 46 #[.agg #[.int .i64 f,.int .i64 m]] w fun e w'=>if PR f m then ∃ bb F,e= .returned (.tuple #[AF bb,.int .i64 0])/\(∀ k,F k->w.heap.size <= k)/\Hp w w' [.rep (fun w=>(DJ bb f m [] 0).at_ w F (.bool true)) F true]
 else e= .returned (.tuple #[.pointer none,.int .i64 1])/\Below w.heap.size w w':=by
 refine BZ Tryz.func46 rfl rfl (Hp.refl w) ?_;repeat (first |refine Ai ?_ |refine Ab ?_)
 refine AY Aa rfl (fun pb hpb=>?_);repeat (first |refine Ai ?_ |refine Ab ?_ |refine Ag ?_ |refine Ae Aa rfl ?_ |refine An Aa 0 rfl rfl rfl ?_)
 refine Be rfl Tryz.call72 (fun w1 h1=>Mz f m w1) ?_;repeat (first |refine Ag ?_ |refine Ae Aa rfl ?_)
 refine El rfl (fun hn=>?_) (fun hp=>?_)
 ·repeat (first |refine Ai ?_ |refine Ab ?_ |refine Ag ?_ |refine AI ?_ |refine AC ?_ |refine Ae Aa rfl ?_)
  exact Ey rfl rfl rfl (fun w' hw=>by
   rw [if_neg hn]
   exact ⟨rfl,hw.below (by repeat (first |exact Ar |refine AA (by first |assumption |omega) ?_))⟩)
 ·repeat (first |refine Ai ?_ |refine Ab ?_ |refine Ad ?_ |refine Ao ?_ |refine An Aa 0 rfl rfl rfl ?_ |refine BE (Bf Aa rfl rfl rfl rfl rfl rfl rfl) ?_)
  refine AY Aa rfl (fun bb hbb=>?_);repeat (first |refine Ai ?_ |refine Ab ?_ |refine Ag ?_ |refine Ae Aa rfl ?_)
  refine B0 (fun w' h=>h.blkRep) ?_;refine CA 0 rfl Tryz.call69 rfl (fun w1 g=>(Ic (g.own _ (Af (i:=0) rfl)).1 hp (by omega) (F:=fun k=>some bb=some k) rfl (g.own _ (Af (i:=0) rfl)).2.2).mono fun e w' ⟨he,F',g1,g2,g3⟩=>⟨_,_,F',he,g3,g1,g2,_,rfl,?_⟩);have hsz:=g.size;repeat (first |refine Ai ?_ |refine Ab ?_ |refine Ag ?_ |refine AC ?_ |refine Ae Aa rfl ?_)
  have hN:∀ k,F' k->w.heap.size <= k:=fun k hk=>by
   rcases g2 k hk with h |h
   ·rw [<-Option.some.inj h];exact hbb
   ·omega
  exact Ey rfl rfl rfl (fun w' hw=>by
   rw [if_pos hp]
   exact ⟨bb,F',rfl,hN,hw.less (by repeat (first |exact Au.nil |refine Au.keep ?_ |refine Au.dropB (by first |assumption |omega) ?_))⟩)
theorem Lk {M2:List ME} {c2 B mb:Nat} (hM:Md M2 c2) (hl:M2.length <= 60000) (hB:w.heap[B]? =some (.cells ⟨[.map (some mb)]⟩ 134 (0,0))) (hm:w.heap[mb]? =some (Cb .u64 M2 c2)):
 U0 83 #[.pointer (some ⟨B,0,none⟩)] KeepsWalks (fun ss=>ss.Perm (M2.map (·.1))) (fun _=>True) M2.length w:=
 ⟨Tryz.call83,by omega,QP _,MU B mb c2 M2 hM w (AU hB) (by simp [World.cell?,hB]) hm⟩
theorem Lj (h:(DJ bb f m gs last).at_ w F v):Calls Tryz.prog 33 #[AF bb] w fun e w'=>∃ r,e= .returned r/\Below w.heap.size w w'/\(By (· ∈ Aw gs) (Aw gs).length).at_ w' (fun k=>w.heap.size <= k) r:=by
 obtain ⟨x,hp,hok,hr,hst,_⟩:=GT h false false;have hlen:=hr.len hok;have hl6:=hok.len;refine BZ Tryz.func33 rfl rfl hst ?_;repeat (first |refine Ai ?_ |refine Ab ?_)
 refine AY Aa rfl (fun b2 hb2=>?_);repeat (first |refine Ai ?_ |refine Ab ?_ |refine Ag ?_ |refine Ae Aa rfl ?_)
 refine BE (CS Aa rfl rfl rfl rfl rfl) ?_;repeat (first |refine Ai ?_ |refine Ab ?_ |refine Ag ?_ |refine Ad ?_ |refine Ao ?_ |refine AG rfl ?_ |refine Ae Aa rfl ?_ |refine An Aa 1 rfl rfl rfl ?_)
 refine A7 rfl Tryz.call63 (fun w1 h1=>(MV h1).mono fun e w' ⟨B,hB,e1,h2⟩=>⟨_,_,e1,h2,?_⟩);refine A7 rfl Tryz.call62 (fun w1 h1=>?_);refine (Hl (Lk hr.m2 (by omega) (h1.own _ (Af (i:=0) rfl)) (h1.own _ (Af (i:=4) rfl)))).mono fun e w' ⟨v,ss,e1,hp1,hnil,h2⟩=>⟨v,_,e1,h1.fresh (h2.below (Bv h2 0 rfl (Nat.le_refl _) Ar)) (x:=GZ w.heap.size v ss) (Ez (h2.own _ List.mem_cons_self) h1.size) (fun k hk=>(World.ownsRow.lt (h2.own _ List.mem_cons_self) k hk).1),?_⟩;have hmem:∀ n,n ∈ ss ↔ n ∈ Aw gs:=fun n=>hp1.mem_iff.trans (hr.keys n)
 have hsl:ss.length=(Aw gs).length:=by rw [hp1.length_eq,List.length_map,hlen]
 have hfit:∀ n ∈ ss,AS .u64 n:=fun n hn=>hok.nfit ((hmem n).1 hn)
 obtain ⟨a,c,rfl⟩:∃ a c,v= .slice a ss.length c:=by
  obtain ⟨a,c,e2,_⟩:=Cy (h2.own (GZ w1.heap.size v ss) List.mem_cons_self);exact ⟨a,c,e2⟩
 refine Dp (By (· ∈ Aw gs) (Aw gs).length) (fun _=>False) rfl Tryz.call43 (fun w2 h3=>(Vj (A:=TT) a ss.length c ss w2 (Br.of_row (R:=A8 .u64) (DU .u64) (by rw [FD];exact h3.own _ (Af (i:=0) rfl)) rfl hfit fun k _ _=>trivial) (by omega)).mono fun e w' ⟨r,e2,hb,hs⟩=>⟨r,e2,hb,?_⟩) (fun r Fr w3 hFr hr3=>?_)
 ·exact (By _ _).mono (Ew hmem (by omega) hs) fun k hk=>ET h3 hk
 obtain ⟨a',n',c',rfl⟩:=CT hr3;repeat (first |refine Ag ?_ |refine AC ?_ |refine Ax Aa 3 rfl rfl rfl rfl rfl rfl ?_)
 exact AZ rfl (I5.cellO Aa 3 rfl rfl rfl rfl) (fun w' hw=>⟨_,rfl,hw.below (by repeat (first |exact Ar |refine CQ ?_ |refine BW ?_ |refine AA (by first |assumption |omega) ?_ |refine Bv hw 1 rfl (Nat.le_refl _) ?_)),(By _ _).mono (hw.own _ (Af (i:=0) rfl)).1 fun k hk=>(hFr k hk).resolve_left id⟩)
end
def Cg (s:Int->Bool) (g:BG):BG:=⟨g.id,g.L.filter fun n=>!s n,g.tm,g.tries⟩
def D1 (gs:List BG) (s:Int->Bool):List BG:=(gs.map (Cg s)).filter fun g=>!g.L.isEmpty
theorem HM (g:BG) (gs:List BG) (s:Int->Bool):D1 (g::gs) s=if (Cg s g).L= [] then D1 gs s else Cg s g::D1 gs s:=by
 unfold D1;rw [List.map_cons];split
 ·rename_i h;rw [List.filter_cons_of_neg (by rw [h];simp)]
 ·rename_i h;rw [List.filter_cons_of_pos (by simpa using h)]
theorem PF (p q:Int->Bool) (g:BG):Cg q (Cg p g)=Cg (fun n=>p n || q n) g:=by
 unfold Cg;simp only [List.filter_filter,BG.mk.injEq,true_and,and_true]
 exact List.filter_congr fun n _=>by cases p n<;>cases q n<;>rfl
theorem LK (p q:Int->Bool):∀ gs:List BG,D1 (D1 gs p) q=D1 gs fun n=>p n || q n
 | []=>rfl
 |g::gs=>by
  have hc:=PF p q g;rw [HM g gs fun n=>p n || q n,<-hc,HM g gs p];split
  ·rename_i h
   have h2:(Cg q (Cg p g)).L= []:=by
    show List.filter _ (Cg p g).L= [];rw [h];rfl
   rw [if_pos h2,LK p q gs]
  ·rw [HM,LK p q gs]
theorem Iv {p q:Int->Bool} {gs:List BG} (h:∀ n ∈ Aw gs,p n=q n):D1 gs p=D1 gs q:=by
 unfold D1;congr 1;refine List.map_congr_left fun g hg=>?_;unfold Cg;simp only [BG.mk.injEq,true_and,and_true]
 exact List.filter_congr fun n hn=>by rw [h n (List.mem_flatMap.2 ⟨g,hg,hn⟩)]
theorem My {p:Int->Bool}:∀ {gs:List BG},Jt gs->(∀ n ∈ Aw gs,p n=false)->D1 gs p=gs
 | [],_,_=>rfl
 |g::gs,hne,h=>by
  have hc:Cg p g=g:=by
   unfold Cg;rw [List.filter_eq_self.2 fun n hn=>by rw [h n (List.mem_flatMap.2 ⟨g,List.mem_cons_self,hn⟩)];rfl]
  rw [HM,hc,if_neg (hne g List.mem_cons_self),My (fun x hx=>hne x (List.mem_cons_of_mem _ hx)) fun n hn=>h n (by
   obtain ⟨x,hx,hn⟩:=List.mem_flatMap.1 hn
   exact List.mem_flatMap.2 ⟨x,List.mem_cons_of_mem _ hx,hn⟩)]
theorem Nn (gs:List BG) (s:Int->Bool):Jt (D1 gs s):=fun g hg h=>by
 have:=(List.mem_filter.1 hg).2;rw [h] at this;cases this
theorem Fz (s:Int->Bool):∀ gs:List BG,Aw (gs.map (Cg s))=(Aw gs).filter fun n=>!s n
 | []=>rfl
 |g::gs=>by
  have ih:=Fz s gs;simp only [Aw] at ih ⊢;rw [List.map_cons,List.flatMap_cons,List.flatMap_cons,List.filter_append,ih];rfl
theorem Oy:∀ gs:List BG,Aw (gs.filter fun g=>!g.L.isEmpty)=Aw gs
 | []=>rfl
 |g::gs=>by
  have ih:=Oy gs;simp only [Aw] at ih ⊢;by_cases h:g.L= []
  ·rw [List.filter_cons_of_neg (by rw [h];simp),List.flatMap_cons,h,ih];rfl
  ·rw [List.filter_cons_of_pos (by simpa using h),List.flatMap_cons,List.flatMap_cons,ih]
theorem Ec (gs:List BG) (s:Int->Bool):Aw (D1 gs s)=(Aw gs).filter fun n=>!s n:=(Oy _).trans (Fz s gs)
section
variable {last:Int} {gs:List BG}
theorem C7.cut (h:C7 last gs) (s:Int->Bool):C7 last (gs.map (Cg s)) where
 ids:=by
  rw [List.map_map];exact h.ids
 idb:=fun g hg=>by
  obtain ⟨x,hx,rfl⟩:=List.mem_map.1 hg;exact h.idb x hx
 srt:=fun g hg=>by
  obtain ⟨x,hx,rfl⟩:=List.mem_map.1 hg;exact (h.srt x hx).sublist List.filter_sublist
 nd:=by rw [Fz];exact h.nd.sublist List.filter_sublist
 fit:=fun g hg n hn=>by
  obtain ⟨x,hx,rfl⟩:=List.mem_map.1 hg;exact h.fit x hx n (List.mem_filter.1 hn).1
 tr:=fun g hg=>by
  obtain ⟨x,hx,rfl⟩:=List.mem_map.1 hg;exact h.tr x hx
 tm:=fun g hg=>by
  obtain ⟨x,hx,rfl⟩:=List.mem_map.1 hg;exact h.tm x hx
 len:=by rw [Fz];exact Nat.le_trans (List.length_filter_le _ _) h.len
 lst:=h.lst
 cnt:=by rw [List.length_map];exact h.cnt
theorem Fy {l m:List BG} (h:l.Sublist m):(Aw l).Sublist (Aw m):=by
 induction h with
 |slnil=>exact List.Sublist.refl _
 |cons a h ih=>
  simp only [Aw,List.flatMap_cons] at ih ⊢;exact ih.trans (List.sublist_append_right _ _)
 |cons_cons a h ih=>
  simp only [Aw,List.flatMap_cons] at ih ⊢;exact (List.Sublist.refl _).append ih
theorem C7.sub {gs':List BG} (h:C7 last gs) (hs:gs'.Sublist gs):C7 last gs' where
 ids:=h.ids.sublist (hs.map _)
 idb:=fun g hg=>h.idb g (hs.subset hg)
 srt:=fun g hg=>h.srt g (hs.subset hg)
 nd:=h.nd.sublist (Fy hs)
 fit:=fun g hg=>h.fit g (hs.subset hg)
 tr:=fun g hg=>h.tr g (hs.subset hg)
 tm:=fun g hg=>h.tm g (hs.subset hg)
 len:=Nat.le_trans (Fy hs).length_le h.len
 lst:=h.lst
 cnt:=Nat.le_trans hs.length_le h.cnt
theorem C7.rm (h:C7 last gs) (s:Int->Bool):C7 last (D1 gs s):=(h.cut s).sub List.filter_sublist
abbrev I9 (n:Int):Int->Bool:=fun k=>decide (k=n)
theorem IM (h:C7 last gs) {g x:BG} {n:Int} (hg:g ∈ gs) (hn:n ∈ g.L) (hx:x ∈ gs) (hne:x.id ≠ g.id):Cg (I9 n) x=x:=by
 unfold Cg;rw [List.filter_eq_self.2 fun k hk=>?_];have:k ≠ n:=fun e=>hne (by rw [HP h.nd hx hg (e ▸ hk) hn]);simp [I9,this]
theorem SL (h:C7 last gs) (hne:Jt gs) {g:BG} {n:Int} (hg:g ∈ gs) (hn:n ∈ g.L) (hc:(Cg (I9 n) g).L ≠ []):D1 gs (I9 n)=gs.map (Cg (I9 n)):=by
 unfold D1;refine List.filter_eq_self.2 fun y hy=>?_;obtain ⟨x,hx,rfl⟩:=List.mem_map.1 hy;by_cases e:x.id=g.id
 ·obtain rfl:=CU BG.id h.idn hx hg e;simpa using hc
 ·rw [IM h hg hn hx e];simpa using hne x hx
theorem SP (h:C7 last gs) (hne:Jt gs) {g:BG} {n:Int} (hg:g ∈ gs) (hn:n ∈ g.L) (hc:(Cg (I9 n) g).L= []):D1 gs (I9 n)=(gs.map (Cg (I9 n))).filter fun x=>decide (x.id ≠ g.id):=by
 unfold D1;refine List.filter_congr fun y hy=>?_;obtain ⟨x,hx,rfl⟩:=List.mem_map.1 hy;by_cases e:x.id=g.id
 ·obtain rfl:=CU BG.id h.idn hx hg e;rw [hc];simp [Cg]
 ·have e2:(Cg (I9 n) x).id ≠ g.id:=e;rw [IM h hg hn hx e] at e2 ⊢;simp [e,hne x hx]
theorem OO (s:Int->Bool):∀ gs:List BG,Hs (gs.map (Cg s))=Hs gs
 | []=>rfl
 |g::gs=>by
  have ih:=OO s gs;unfold Hs at ih ⊢;rw [List.map_cons,List.foldr_cons,List.foldr_cons,ih];rfl
theorem Rz (h:C7 last gs) (id:Int):Dd (Hs gs) id=Hs (gs.filter fun x=>decide (x.id ≠ id)):=by
 refine PL h.idn (h.sub List.filter_sublist).idn ?_;rw [List.filter_map];exact List.Perm.refl _
section
variable {M1 M2:List ME} {c1 c2:Nat} {B:Int->Nat}
theorem ON (s:Int->Bool) (id:Int):∀ gs:List BG,Ml (gs.map (Cg s)) id=(Ml gs id).map (Cg s)
 | []=>rfl
 |g::gs=>by
  have ih:=ON s id gs;unfold Ml at ih ⊢;rw [List.map_cons,List.find?_cons,List.find?_cons,ih];show (match decide (g.id=id) with |true=>_ |false=>_)=_;cases decide (g.id=id)<;>rfl
theorem EF.cut1 (hr:EF gs M1 M2 c1 c2 B) (hok:C7 last gs) (n:Int):EF (gs.map (Cg (I9 n))) M1 (D7 M2 n) c1 c2 B where
 inj:=fun g hg g' hg' e=>by
  obtain ⟨x,hx,rfl⟩:=List.mem_map.1 hg;obtain ⟨x',hx',rfl⟩:=List.mem_map.1 hg';exact hr.inj x hx x' hx' e
 m1:=hr.m1
 g1:=fun id=>by
  rw [hr.g1,ON,Option.map_map];rfl
 m2:=hr.m2.del n
 g2:=fun k=>by
  rw [HT n k M2 hr.m2.keys];by_cases hk:k=n
  ·rw [if_pos hk];have:EX (gs.map (Cg (I9 n))) k=none:=Cw.2 (by rw [Fz,List.mem_filter];simp [I9,hk]);rw [this];rfl
  ·rw [if_neg hk,hr.g2]
   cases hb:EX gs k with
   |none=>
    have:EX (gs.map (Cg (I9 n))) k=none:=Cw.2 (by rw [Fz,List.mem_filter];exact fun h=>Cw.1 hb h.1);rw [this]
   |some g=>
    have h1:=Ea hb;rw [FI (hok.cut _) (List.mem_map.2 ⟨g,h1.1,rfl⟩) (List.mem_filter.2 ⟨h1.2,by simp [I9,hk]⟩)];rfl
theorem EF.del (hr:EF gs M1 M2 c1 c2 B) (hok:C7 last gs) {id:Int} (hem:∀ g ∈ gs,g.id=id->g.L= []):EF (gs.filter fun x=>decide (x.id ≠ id)) (D7 M1 id) M2 c1 c2 B where
 inj:=fun g hg g' hg'=>hr.inj g (List.mem_filter.1 hg).1 g' (List.mem_filter.1 hg').1
 m1:=hr.m1.del id
 g1:=fun k=>by
  rw [HT id k M1 hr.m1.keys];by_cases hk:k=id
  ·rw [if_pos hk]
   have:Ml (gs.filter fun x=>decide (x.id ≠ id)) k=none:=Gx.2 fun g hg=>by rw [hk];simpa using (List.mem_filter.1 hg).2
   rw [this];rfl
  ·rw [if_neg hk,hr.g1]
   cases hb:Ml gs k with
   |none=>
    have:Ml (gs.filter fun x=>decide (x.id ≠ id)) k=none:=Gx.2 fun g hg=>Gx.1 hb g (List.mem_filter.1 hg).1;rw [this]
   |some g=>
    obtain ⟨h1,rfl⟩:=MX hb;rw [E9 (hok.sub List.filter_sublist) (List.mem_filter.2 ⟨h1,by simpa using hk⟩)]
 m2:=hr.m2
 g2:=fun k=>by
  rw [hr.g2]
  cases hb:EX gs k with
  |none=>
   have:EX (gs.filter fun x=>decide (x.id ≠ id)) k=none:=Cw.2 fun h=>Cw.1 hb ((Fy List.filter_sublist).subset h);rw [this]
  |some g=>
   have h1:=Ea hb
   have hne:g.id ≠ id:=fun e=>by rw [hem g h1.1 e] at h1;cases h1.2
   rw [FI (hok.sub List.filter_sublist) (List.mem_filter.2 ⟨h1.1,by simpa using hne⟩) h1.2]
end
end
theorem S2 {w0 w:World} {ol:OL} {x:Int} {e:TypeId} {v:Value} (hx:AS .u64 x) (h:FZ w0 ol 1 [.int .u64 x] e v w):∃ b,v= .slice (some ⟨b,0,none⟩) 1 1/\Br (A8 .u64) w TT (some ⟨b,0,none⟩) 1 1 [x]:=by
 obtain ⟨b,rfl,h1,h2,_⟩:=h;exact ⟨b,rfl,.of_flat (DU .u64) rfl (Nat.le_refl _) (by decide) (fun h=>by cases h) (Sl.of_blk (xs:=[.int .u64 x]) h1 rfl (fun j u hu=>by rw [Nat.zero_add];exact hu)) (by intro y hy;rw [List.mem_singleton] at hy;subst hy;exact hx) (fun _=>⟨_,_,rfl,trivial⟩)⟩
theorem W2 {w0 w:World} {ol:OL} {x:Int} {e:TypeId} {v:Value} (hx:AS .u64 x) (h:FZ w0 ol 1 [.int .u64 x] e v w):
 Calls Tryz.prog 43 #[v] w fun e w'=>∃ r,e= .returned r/\Below w.heap.size w w'/\(By (fun y=>y=x) 1).at_ w' (fun k=>w.heap.size <= k) r:=by
 obtain ⟨b,rfl,hs⟩:=S2 hx h;exact (Vj _ 1 1 [x] w hs (by decide)).mono fun e w' ⟨r,e1,e2,e3⟩=>⟨r,e1,e2,Ew (fun y=>List.mem_singleton) (Nat.le_refl _) e3⟩
theorem JF {L:List Int} {S:Int->Prop} {Bd:Nat} {w:World} {A:Nat->Prop} {v:Value} (h:(By S Bd).at_ w A v) (hL:L.Pairwise (· < ·)) (hS:∀ x,S x ↔ x ∈ L):(By (· ∈ L) L.length).at_ w A v:=by
 obtain ⟨a,n,c,m,rfl,h1,h2,h3,h4⟩:=Cv h
 have e:Cf m=L:=LU (HZ h1) hL fun x=>by rw [EG,h2,hS]
 have hlen:∀ m:List BS,(∀ r ∈ m,r.1 <= r.2)->m.length <= (Cf m).length:=fun m=>by
  induction m with
  |nil=>exact fun _=>Nat.le_refl _
  |cons r m ih=>
   intro h;rw [FV,List.length_append,Od,List.length_cons];have:=ih fun x hx=>h x (List.mem_cons_of_mem _ hx);have:=h r List.mem_cons_self;omega
 have:=hlen m h1.le;rw [e] at this;exact Ol h1 (fun x=>(h2 x).trans (hS x)) this h4
theorem Hp.mapI {w0 w:World} {ol ol':OL} (i:Nat) {Φ Ψ:World->Prop} {F:Nat->Prop} {r:Bool} (hh:Hp w0 w ol) (hi:B9 ol i=some (.rep Φ F r)) (hΨ:Φ w->Ψ w) (hl:PW Ψ F) (hput:Dc ol i (.rep Ψ F r)=some ol'):Hp w0 w ol':=by
 obtain ⟨pre,post,e1,e2⟩:=CP hi hput;subst e1 e2;have h0:=hh.own _ (List.mem_append.2 (.inr List.mem_cons_self):(.rep Φ F r:HE) ∈ pre ++ .rep Φ F r::post);have ha:=List.pairwise_append.1 hh.apart;have hb:=List.pairwise_cons.1 ha.2.1;refine ⟨hh.os,hh.tape,hh.output,hh.size,fun k hk he=>hh.old k hk fun e hm hx hk2=>?_,fun e hm=>?_,List.pairwise_append.2 ⟨ha.1,List.pairwise_cons.2 ⟨fun e he=>hb.1 e he,hb.2⟩,fun e he e' he'=>?_⟩⟩
 ·rcases List.mem_append.1 hm with hm |hm
  ·exact he e (List.mem_append.2 (.inl hm)) hx hk2
  rcases List.mem_cons.1 hm with rfl |hm
  ·exact he (.rep Ψ F r) (List.mem_append.2 (.inr List.mem_cons_self)) hx hk2
  ·exact he e (List.mem_append.2 (.inr (List.mem_cons_of_mem _ hm))) hx hk2
 ·rcases List.mem_append.1 hm with hm |hm
  ·exact hh.own e (List.mem_append.2 (.inl hm))
  rcases List.mem_cons.1 hm with rfl |hm
  ·exact ⟨hΨ h0.1,hl,h0.2.2⟩
  ·exact hh.own e (List.mem_append.2 (.inr (List.mem_cons_of_mem _ hm)))
 ·rcases List.mem_cons.1 he' with rfl |he'
  ·exact ha.2.2 e he (.rep Φ F r) List.mem_cons_self
  ·exact ha.2.2 e he e' (List.mem_cons_of_mem _ he')
theorem Jj {gs:List BG} {g:BG} (h:g ∈ gs):g.L.length <= (Aw gs).length:=by
 induction gs with
 |nil=>cases h
 |cons x gs ih=>
  rw [Aw,List.flatMap_cons,List.length_append]
  rcases List.mem_cons.1 h with rfl |h
  ·omega
  ·have:=ih h;simp only [Aw] at this;omega
def Jv (X:Int->SX) (id:Int) (x:SX):Int->SX:=fun i=>if i=id then x else X i
def MO (s:Int->Bool) (l:List Int):Int->Bool:=fun n=>s n && decide (n ∈ l)
theorem MN {s:Int->Bool} {l:List Int} {n:Int} (h:s n=false):MO s (l ++ [n])=MO s l:=by
 funext k;unfold MO;by_cases e:k=n
 ·subst e;rw [h];rfl
 ·simp [e]
theorem Q3 {s:Int->Bool} {l:List Int} {n:Int} (h:s n=true):MO s (l ++ [n])=fun k=>MO s l k || I9 n k:=by
 funext k;unfold MO I9;by_cases e:k=n
 ·subst e;simp [h]
 ·simp [e]
theorem Qk {s:Int->Bool} {l:List Int} {n:Int} (gs:List BG) (h:s n=true):D1 gs (MO s (l ++ [n]))=D1 (D1 gs (MO s l)) (I9 n):=by rw [Q3 h,LK]
structure X5 where
 i:Nat
 A:Option Addr
 C:Nat
 c1:Nat
 c2:Nat
 M1:List ME
 M2:List ME
 X:Int->SX
 Fa:Nat->Prop
 Fs:Nat->Prop
abbrev X5.h (j:X5) (gb mb ab:Nat) (B:Int->Nat) (Fg:Nat->Prop):BH:=⟨gb,mb,ab,j.c1,j.c2,j.M1,j.M2,B,j.X,j.Fa,Fg,j.Fs⟩
section
variable {bb:Nat} {f m last:Int} {gs:List BG} {w w0:World} {F:Nat->Prop} {ol:OL}
set_option maxHeartbeats 8000000 in
theorem OJ (h:(DJ bb f m gs last).at_ w F (.bool true)) (hF:∀ k,F k->k < w.heap.size) {a0:Option Addr} {n0 c0:Nat} {s:Int->Bool} {Bd:Nat} {A0:Nat->Prop} (hs:(By (fun n=>s n=true) Bd).at_ w A0 (Bz a0 n0 c0)) (hAF:∀ k,A0 k->¬ F k) (hBd:Bd <= 900000):
 Calls Tryz.prog 36 #[AF bb,Bz a0 n0 c0] w fun e w'=>∃ A C,e= .returned (.slice A (Bt ((Aw gs).filter s)).length C)/\
  ∃ F':Nat->Prop,(∀ k,F k->F' k)/\(∀ k,F' k->F k \/ w.heap.size <= k)/\Hp w w' [.row w.heap.size (.slice A (Bt ((Aw gs).filter s)).length C) 32 1 (Bt ((Aw gs).filter s)).length (Bj (Bt ((Aw gs).filter s))),.rep (fun w=>(DJ bb f m (D1 gs s) last).at_ w F' (.bool true)) F' true]:=by
 obtain ⟨x,hp,hok,hr,hst,hcov,hne⟩:=GT h true false;have hlen:=hr.len hok;have hl6:=hok.len;obtain ⟨Fq,hFq,_,hst2⟩:=hst.addV (p:=By (fun n=>s n=true) Bd) (A:=A0) (v:=Bz a0 n0 c0) ((By _ _).mono hs fun k hk=>⟨.inl hk,fun e he hx hh=>hAF k hk (Rs hcov e he hx k hh)⟩);obtain ⟨gb,mb,ab,c1,c2,M1,M2,Bk,X,Fa,Fg,Fs⟩:=x;dsimp only at hr hst2 hlen;have hFb:F bb:=hcov _ (Af (i:=0) rfl) bb rfl;have hFgb:F gb:=hcov _ (Af (i:=1) rfl) gb rfl;have hFmb:F mb:=hcov _ (Af (i:=2) rfl) mb rfl;have hFa:∀ k,Fa k->F k:=hcov _ (Af (i:=3) rfl);have hFg:∀ k,Fg k->F k:=hcov _ (Af (i:=4) rfl);have hFs:∀ k,Fs k->F k:=hcov _ (Af (i:=5) rfl);clear hst hcov;refine BO Tryz.func36 rfl rfl hst2 ?_;repeat (first |refine Ai ?_ |refine Ab ?_)
 refine AY Aa rfl (fun b3 hb3=>?_);repeat (first |refine Ai ?_ |refine Ab ?_ |refine Ag ?_ |refine Ae Aa rfl ?_)
 refine BE (CS Aa rfl rfl rfl rfl rfl) ?_;repeat (first |refine Ag ?_)
 refine AG rfl ?_;repeat (first |refine Ai ?_ |refine Ab ?_ |refine Ag ?_ |refine Ad ?_ |refine Ao ?_ |refine Ae Aa rfl ?_ |refine An Aa 2 rfl rfl rfl ?_)
 refine A7 rfl Tryz.call63 (fun w1 h1=>(MV h1).mono fun e w' ⟨B,hB,e1,h2⟩=>⟨_,_,e1,h2,?_⟩);refine A7 rfl Tryz.call66 (fun w1 h1=>?_);refine (Pf (Lk hr.m2 (by omega) (h1.own _ (Af (i:=0) rfl)) (h1.own _ (Af (i:=5) rfl))) (fun ss hs=>by have:=hs.length_eq;rw [List.length_map] at this;omega)).mono fun e w' ⟨v,ss,ns,e1,hp1,hp2,hsrt,hnil,h2⟩=>⟨v,_,e1,h1.fresh (h2.below (Bv h2 0 rfl (Nat.le_refl _) Ar)) (x:=GZ w.heap.size v ns) (Ez (h2.own _ List.mem_cons_self) h1.size) (fun k hk=>(World.ownsRow.lt (h2.own _ List.mem_cons_self) k hk).1),?_⟩;have hmem:∀ n,n ∈ ns ↔ n ∈ Aw gs:=fun n=>hp2.mem_iff.trans (hp1.mem_iff.trans (hr.keys n))
 have hnl:ns.length=(Aw gs).length:=by rw [hp2.length_eq,hp1.length_eq,List.length_map,hlen]
 have hnd:ns.Nodup:=hp2.nodup_iff.2 (hp1.nodup_iff.2 hr.m2.keys)
 have hlt:ns.Pairwise (· < ·):=by
  refine (List.Pairwise.and hsrt hnd).imp fun ⟨h1,h2⟩=>?_;omega
 obtain ⟨an,cn,rfl⟩:∃ a c,v= .slice a ns.length c:=by
  obtain ⟨a,c,e2,_⟩:=Cy (h2.own (GZ w1.heap.size v ns) List.mem_cons_self);exact ⟨a,c,e2⟩
 clear h2 hnil e1;have hout:Bt ((Aw gs).filter s)=ns.filter s:=(It (hlt.sublist List.filter_sublist) fun n=>by rw [List.mem_filter,List.mem_filter,hmem]).symm;rw [hout];repeat (first |refine Aq ?_ |refine Ag ?_ |refine Ae Aa rfl ?_)
 have e0:D1 gs (MO s (ns.take 0))=gs:=My hne fun n _=>by simp [MO]
 refine AM (ι:=X5) (fun j=>[(0,AF bb),(3,.pointer (some ⟨b3,0,none⟩)),(17,.slice an ns.length cn),(18,.int .i64 (ns.length:Int)),(19,.int .i64 (j.i:Int)),(5,.slice j.A ((ns.take j.i).filter s).length j.C)])
  (fun j=>Ha bb f m (D1 gs (MO s (ns.take j.i))) last (j.h gb mb ab Bk Fg) true false ++ [.row w.heap.size (.slice j.A ((ns.take j.i).filter s).length j.C) 32 1 ((ns.take j.i).filter s).length (Bj ((ns.take j.i).filter s)),GZ w.heap.size (.slice an ns.length cn) ns,.blk b3 (.cells ⟨[.slice a0 n0 c0]⟩ 52 (0,0)) true,.rep (fun w=>(By (fun n=>s n=true) Bd).at_ w Fq (Bz a0 n0 c0)) Fq false])
  (fun j=>j.i <= ns.length/\EF (D1 gs (MO s (ns.take j.i))) j.M1 j.M2 j.c1 j.c2 Bk/\(∀ k,j.Fa k->F k \/ w.heap.size <= k)/\∀ k,j.Fs k->F k \/ w.heap.size <= k) (fun j=>ns.length - j.i) ⟨0,none,0,c1,c2,M1,M2,X,Fa,Fs⟩ ⟨Nat.zero_le _,by rw [e0];exact hr,fun k hk=>.inl (hFa k hk),fun k hk=>.inl (hFs k hk)⟩ (by repeat (first |exact As.nil |refine As.cons rfl ?_)) (fun w' hw=>?_) ?_
 ·have h9:=hw.nilRow 32 1;rw [e0];exact (h9.pm [5,6,7,8,9,10,0,1,3,4,2] rfl rfl rfl).less (by repeat (first |exact Au.nil |refine Au.keep ?_ |refine Au.dropB (by first |assumption |omega) ?_))
 rintro ⟨i,A,C,c1,c2,M1,M2,X,Fa,Fs⟩ ⟨hi,hr,hFa,hFs⟩;dsimp only at hi hr hFa hFs ⊢;repeat (first |refine Ai ?_ |refine Ab ?_ |refine Ag ?_ |refine Ae Aa rfl ?_)
 refine Ak rfl (fun hlt1=>?_) (fun hge=>?_);rotate_left
 ·have hie:i=ns.length:=by omega
  subst hie;rw [List.take_length] at hr ⊢
  have e9:D1 gs (MO s ns)=D1 gs s:=Iv fun n hn=>by simp [MO,hmem,hn]
  rw [e9] at hr ⊢;repeat (first |refine Ai ?_ |refine Ab ?_ |refine Ag ?_ |refine Ad ?_ |refine AB ?_ |refine Al ?_ |refine AC ?_ |refine AH ?_ |refine Ae Aa rfl ?_)
  exact AZ rfl rfl (fun w' hw=>⟨A,C,rfl,by
   obtain ⟨F',g1,g2,g3⟩:=Ib (F0:=F) (ol:=[.row w.heap.size (.slice A (ns.filter s).length C) 32 1 (ns.filter s).length (Bj (ns.filter s))]) (hw.less (by repeat (first |exact Au.nil |refine Au.keep ?_ |refine Au.dropR ?_ |refine Au.dropB (by first |assumption |omega) ?_ |refine Au.dropW (Nat.le_refl _) ?_))) hp (hok.rm s) (Nn gs s) hr hF (fun e he=>by
    rw [List.mem_singleton] at he;subst he
    exact ⟨rfl,fun k hk=>(World.ownsRow.lt (hw.own _ (Af (i:=6) rfl)) k hk).1⟩) (Ko (.inl hFb) (.inl hFgb) (.inl hFmb) hFa (fun k hk=>.inl (hFg k hk)) hFs)
   exact ⟨F',g1,g2,g3.pm [1,0] rfl rfl rfl⟩⟩)
 have hin:i < ns.length:=by omega
 obtain ⟨n,hn⟩:∃ n,ns[i]? =some n:=⟨_,List.getElem?_eq_getElem hin⟩
 have htk:ns.take (i + 1)=ns.take i ++ [n]:=by
  rw [List.take_succ_eq_append_getElem hin];rw [List.getElem?_eq_getElem hin] at hn;rw [Option.some.inj hn]
 have hnb:n ∈ Aw gs:=(hmem n).1 (List.mem_of_getElem? hn);have hnf:=hok.nfit hnb;repeat (first |refine Ai ?_ |refine Ab ?_ |refine Aq ?_ |refine Ad ?_ |refine Ao ?_)
 refine Fi 7 rfl (by omega) (fun gN hgN=>?_);subst hgN;refine BE (Ay Aa rfl rfl rfl rfl rfl rfl rfl (j:=i) rfl hin) ?_;refine Bh Aa (v:=.int .u64 n) rfl rfl (fun w' hw=>Cn (hw.own _ (Af (i:=7) rfl)) (by omega) (by rw [Nat.zero_add,List.getElem?_map,hn];rfl)) ?_;repeat (first |refine Ai ?_ |refine Ab ?_ |refine Ag ?_ |refine Ae Aa rfl ?_)
 refine An Aa 8 rfl rfl rfl ?_;repeat (first |refine Ae Aa rfl ?_)
 cases hs1:s n with
 |false=>
  refine Be (v:=.bool false) rfl Tryz.call67 (fun w1 h1=>UR n false w1 (h1.own _ (Af (i:=9) rfl)).1 hBd (by rw [hs1])) ?_;repeat (first |refine Ag ?_ |refine Ae Aa rfl ?_)
  refine AX rfl ?_;repeat (first |refine Ab ?_ |refine Ag ?_ |refine Ad ?_ |refine AB ?_ |refine Al ?_ |refine AH ?_ |refine AD Aa rfl (by omega) ?_ |refine Ae Aa rfl ?_)
  exact ⟨⟨i + 1,A,C,c1,c2,M1,M2,X,Fa,Fs⟩,⟨hin,by dsimp only;rw [htk,MN hs1];exact hr,hFa,hFs⟩,(by
   dsimp only;rw [htk,List.filter_append,List.filter_cons_of_neg (by simp [hs1]),List.filter_nil,List.append_nil]
   repeat (first |exact As.nil |refine As.cons rfl ?_)),fun w' hw=>(by
   dsimp only;rw [htk,MN hs1,List.filter_append,List.filter_cons_of_neg (by simp [hs1]),List.filter_nil,List.append_nil]
   exact hw),by dsimp only;omega⟩
 |true=>
  refine Be (v:=.bool true) rfl Tryz.call67 (fun w1 h1=>UR n true w1 (h1.own _ (Af (i:=9) rfl)).1 hBd (by rw [hs1])) ?_;repeat (first |refine Ag ?_ |refine Ae Aa rfl ?_)
  refine AG rfl ?_;repeat (first |refine Ai ?_ |refine Ab ?_ |refine Ad ?_ |refine Ao ?_ |refine Ae Aa rfl ?_)
  obtain ⟨gs1,hgs1⟩:∃ g1,g1=D1 gs (MO s (ns.take i)):=⟨_,rfl⟩
  have hstep:D1 gs (MO s (ns.take (i + 1)))=D1 gs1 (I9 n):=by rw [htk,Qk gs hs1,hgs1]
  have hok1:C7 last gs1:=hgs1 ▸ hok.rm _;have hne1:Jt gs1:=hgs1 ▸ Nn _ _
  have hnt:n ∉ ns.take i:=fun hm=>by
   have h1:(ns.take (i + 1)).Nodup:=hnd.sublist (List.take_sublist _ _);rw [htk,List.nodup_append] at h1;exact h1.2.2 n hm n (List.mem_singleton.2 rfl) rfl
  have hn1:n ∈ Aw gs1:=by rw [hgs1,Ec,List.mem_filter];exact ⟨hnb,by simp [MO,hnt]⟩
  obtain ⟨g,hgm,hgn⟩:=List.mem_flatMap.1 hn1;rw [<-hgs1] at hr ⊢;have hm2:=hr.g2 n;rw [FI hok1 hgm hgn] at hm2;have hm1:=hr.g1 g.id;rw [E9 hok1 hgm] at hm1;have hB2:=hr.cut1 hok1 n
  have hfl:((ns.take i).filter s).length <= 60000:=by
   have h1:=List.length_filter_le s (ns.take i);rw [List.length_take] at h1;omega
  have e5:(ns.take (i + 1)).filter s=(ns.take i).filter s ++ [n]:=by rw [htk,List.filter_append,List.filter_cons_of_pos hs1,List.filter_nil]
  refine AO Aa rfl rfl rfl rfl rfl rfl rfl rfl rfl rfl rfl rfl (fun nb hnb2=>?_);refine AT (ty:=0) (k:=1) (news:=[.int .u64 n]) Aa 7 (sz:=1) rfl rfl rfl rfl rfl rfl rfl rfl rfl (by decide) (fun w' hw=>Sl.of_blk (hw.own _ (Af (i:=0) rfl)) rfl (fun j u hu=>by rw [Nat.zero_add];exact hu)) (fun u hu=>by rw [List.mem_singleton] at hu;subst hu;rfl) (by simp only [maxLen];omega) (by show (_ + _) * 8 <= _;omega) rfl (fun A' C' hA' hC'=>⟨_,rfl,?_⟩);refine B0 (fun w' hw=>hw.dropn hnb2) ?_;repeat (first |refine Ai ?_ |refine Ab ?_ |refine Ag ?_ |refine Ae Aa rfl ?_ |refine An Aa 0 rfl rfl rfl ?_)
  refine BE (N6 (v:=.int .u64 g.id) Aa rfl rfl rfl rfl rfl rfl rfl rfl (fun w' hw=>hw.own _ (Af (i:=2) rfl)) hm2) ?_;repeat (first |refine Ai ?_ |refine Ab ?_ |refine Ag ?_ |refine Ae Aa rfl ?_ |refine An Aa 0 rfl rfl rfl ?_)
  refine Lu Aa 2 rfl rfl rfl rfl rfl rfl rfl rfl rfl ?_;repeat (first |refine Ai ?_ |refine Ab ?_ |refine Ag ?_ |refine Ae Aa rfl ?_ |refine An Aa 0 rfl rfl rfl ?_)
  refine BE (N6 (v:=AF (Bk g.id)) Aa rfl rfl rfl rfl rfl rfl rfl rfl (fun w' hw=>hw.own _ (Af (i:=1) rfl)) hm1) ?_;repeat (first |refine Ai ?_ |refine Ag ?_ |refine Ae Aa rfl ?_)
  refine EY (X:=Fg (Bk g.id)) (fun w' hw=>((hw.own _ (Af (i:=4) rfl)).1 g hgm).2) (fun hFgg=>?_);have hgl:=Jj hgm;have hl1:=hok1.len;obtain ⟨g2,hg2⟩:∃ g2,g2=Cg (I9 n) g:=⟨_,rfl⟩
  have hg2L:g2.L.Pairwise (· < ·):=by rw [hg2];exact (hok1.srt g hgm).sublist List.filter_sublist
  have hg2m:∀ x,(x ∈ g.L/\¬ x=n) ↔ x ∈ g2.L:=fun x=>by rw [hg2];simp [Cg,I9]
  have hg2l:g2.L.length <= g.L.length:=by rw [hg2];exact List.length_filter_le _ _
  refine Cd (by kernel_rfl) 11 rfl (by kernel_rfl) ?_;repeat (first |refine Ah Aa rfl ?_)
  refine In Aa (vs:=[(X g.id).v]) rfl rfl rfl (fun w' hw j u hu=>by
   rw [Addr.add_lit];refine Km ((hw.own _ (Af (i:=4) rfl)).1 g hgm).1 (j:=j) ?_
   cases j with
   |zero=>exact hu
   |succ j=>simp at hu) ?_
  repeat (first |refine Ah Aa rfl ?_)
  refine Lx Aa rfl rfl rfl rfl rfl rfl rfl rfl rfl rfl rfl rfl ?_
  refine Js (By (fun y=>y=n) 1) (fun _=>False) rfl Tryz.call43 (fun w' vs hw' h=>by
   obtain ⟨u1,_,rfl,g1,rfl⟩:=h
   exact (W2 hnf g1).mono fun e w'' ⟨r,e1,e2,e3⟩=>⟨r,e1,e2,Sj hw' e3⟩) ?_
  refine Js (By (· ∈ g2.L) g2.L.length) Fs rfl Tryz.call48 (fun w' vs hw' h=>by
   obtain ⟨u1,_,rfl,rfl,u2,_,rfl,g3,rfl⟩:=h;have h5:=Vp.fact (p:=I7 gs1 X) (v:=.bool true) (A:=Fs) hw' 5 rfl (fun k hk=>.inl hk) g hgm
   exact (QM w' (fun k hk=>ET hw' hk) h5 g3 (by omega)).mono fun e w'' ⟨r,e1,e2,e3⟩=>⟨r,e1,e2,JF e3 hg2L hg2m⟩) ?_
  repeat (first |refine Ah Aa rfl ?_)
  refine XF 56 rfl (by repeat (first |exact MP)) (fun v F2 w2 hF2 hv2=>?_);obtain ⟨a2,n2,c2',rfl⟩:=CT hv2;refine KE rfl ?_;obtain ⟨gs2,hgs2⟩:∃ g2,g2=gs1.map (Cg (I9 n)):=⟨_,rfl⟩;have hok2:C7 last gs2:=hgs2 ▸ hok1.cut _
  have eAl:Hs gs2=Hs gs1:=by rw [hgs2,OO]
  rw [<-hgs2] at hB2
  have hg2m2:g2 ∈ gs2:=by rw [hgs2,hg2];exact List.mem_map.2 ⟨g,hgm,rfl⟩
  have hg2i:g2.id=g.id:=by rw [hg2];rfl
  have hg2t:g2.tries=g.tries:=by rw [hg2];rfl
  obtain ⟨X2,hX2⟩:∃ X2,X2=Jv X g.id ⟨a2,n2,c2'⟩:=⟨_,rfl⟩
  have hX2g:X2 g2.id=⟨a2,n2,c2'⟩:=by rw [hX2,hg2i];unfold Jv;rw [if_pos rfl]
  refine KA Aa 5 (Ψ:=fun w=>(Mk gs2 Bk X2).at_ w Fg (.bool true)) [(X g.id).v,.int .i64 g.tries] [.slice a2 n2 c2',.int .i64 g.tries] 144 rfl rfl (fun u hu=>by rw [List.mem_singleton] at hu;subst hu;rfl) rfl hFgg (fun w h=>(h g hgm).1) rfl (fun w w' h h1 h2 y hy=>?_) Vp.loc rfl ?_
  ·rw [hgs2] at hy;obtain ⟨z,hz,rfl⟩:=List.mem_map.1 hy;show w'.heap[Bk z.id]? =some (Tk (X2 z.id) z.tries)/\Fg (Bk z.id);rw [hX2];unfold Jv;by_cases e:z.id=g.id
   ·obtain rfl:=CU BG.id hok1.idn hz hgm e;rw [if_pos rfl];exact ⟨h2,hFgg⟩
   ·rw [if_neg e];exact ⟨(h1 _ fun e2=>e (hr.inj z hz g hgm e2)).trans (h z hz).1,(h z hz).2⟩
  refine B0 (ol':=Ha bb f m gs2 last ⟨gb,mb,ab,c1,c2,M1,D7 M2 n,Bk,X2,Fa,Fg,fun k=>F2 k \/ Fs k⟩ true false ++ [.row w.heap.size (.slice A' (((ns.take i).filter s).length + 1) C') 32 1 (((ns.take i).filter s).length + 1) (Bj ((ns.take i).filter s) ++ [.int .u64 n]),GZ w.heap.size (.slice (some ⟨gN,0,none⟩) ns.length cn) ns,.blk b3 (.cells ⟨[.slice a0 n0 c0]⟩ 52 (0,0)) true,.rep (fun w=>(By (fun n=>s n=true) Bd).at_ w Fq (Bz a0 n0 c0)) Fq false]) (fun w' hw=>?_) ?_
  ·have h9:=(hw.pm [0,6,1,2,3,4,5] rfl rfl rfl).merge (Ψ:=fun w=>(I7 gs2 X2).at_ w (fun k=>F2 k \/ Fs k) (.bool true)) (fun k1 k2 y hy=>?_) (Vp.loc (p:=I7 gs2 X2))
   ·rw [<-eAl] at h9;exact h9.pm [1,2,3,4,5,0] rfl rfl rfl
   ·rw [hgs2] at hy;obtain ⟨z,hz,rfl⟩:=List.mem_map.1 hy;show (By (· ∈ (Cg (I9 n) z).L) (Cg (I9 n) z).L.length).at_ _ _ (X2 z.id).s;rw [hX2];unfold Jv;by_cases e:z.id=g.id
    ·obtain rfl:=CU BG.id hok1.idn hz hgm e;rw [if_pos rfl,<-hg2];exact (By _ _).mono k1 fun k hk=>.inl hk
    ·rw [if_neg e,IM hok1 hgm hgn hz e];exact (By _ _).mono (k2 z hz) fun k hk=>.inr hk
  repeat (first |refine Ai ?_ |refine Ab ?_ |refine Ag ?_ |refine Ae Aa rfl ?_)
  refine BR Aa (vs:=[(X2 g2.id).v]) rfl rfl rfl (fun w' hw j u hu=>by
   rw [Addr.add_lit,<-hg2i];refine Km ((hw.own _ (Af (i:=4) rfl)).1 g2 hg2m2).1 (j:=j) ?_
   cases j with
   |zero=>exact hu
   |succ j=>simp at hu) ?_
  refine Be (v:=.int .u64 (g2.L.length:Int)) rfl Tryz.call21 (fun w1 h1=>by
   have h5:(I7 gs2 X2).at_ w1 (fun k=>F2 k \/ Fs k) (.bool true):=(h1.own _ (Af (i:=5) rfl)).1
   exact OG (h5 g2 hg2m2) (by omega) hg2L (fun x=>Iff.rfl) (by omega)) ?_
  repeat (first |refine Ag ?_ |refine Ae Aa rfl ?_)
  have hfin:∀ k,F2 k \/ Fs k->F k \/ w.heap.size <= k:=fun k hk=>hk.elim (fun h=>(hF2 k h).elim (hFs k) .inr) (hFs k);refine Ak rfl (fun hz=>?_) (fun hz=>?_)
  ·have hz0:g2.L= []:=List.eq_nil_of_length_eq_zero (by omega)
   have hrm:D1 gs1 (I9 n)=gs2.filter fun x=>decide (x.id ≠ g.id):=by rw [hgs2];exact SP hok1 hne1 hgm hgn (by rw [<-hg2];exact hz0)
   have hB3:=hB2.del hok2 (id:=g.id) (fun y hy e=>by rw [CU BG.id hok2.idn hy hg2m2 (e.trans hg2i.symm)];exact hz0);repeat (first |refine Ai ?_ |refine Ab ?_ |refine Ae Aa rfl ?_ |refine An Aa 0 rfl rfl rfl ?_)
   refine Lu Aa 1 rfl rfl rfl rfl rfl rfl rfl rfl rfl ?_;repeat (first |refine Ag ?_ |refine Ae Aa rfl ?_ |refine Ap ?_ |refine An Aa 0 rfl rfl rfl ?_)
   have hl2:=hok2.cnt;refine CA 3 rfl Tryz.call68 rfl (fun w1 g1=>(RK (g1.own _ (Af (i:=3) rfl)).1 (g1.own _ (Af (i:=3) rfl)).2.2 g.id).mono fun e w' ⟨he,Fa',g2',g3,g4⟩=>⟨_,_,Fa',he,g4,g2',g3,_,rfl,?_⟩);have hsz:=g1.size;repeat (first |refine Ab ?_ |refine Ag ?_ |refine Ad ?_ |refine Am ?_ |refine AD Aa rfl (by omega) ?_ |refine Ae Aa rfl ?_)
   refine ⟨⟨i + 1,A',C',c1,c2,D7 M1 g.id,D7 M2 n,X2,Fa',fun k=>F2 k \/ Fs k⟩,⟨hin,by rw [hstep,hrm];exact hB3,fun k hk=>(g3 k hk).elim (hFa k) fun h=>.inr (Nat.le_trans hsz h),hfin⟩,?_,fun w' hw=>?_,by dsimp only;omega⟩
   ·dsimp only;rw [e5,List.length_append,List.length_singleton];repeat (first |exact As.nil |refine As.cons rfl ?_)
   ·dsimp only;rw [hstep,hrm,e5,List.length_append,List.length_singleton];rw [Rz hok2] at hw;have h8:=hw.mapI 4 rfl (Ψ:=fun w=>(Mk (gs2.filter fun x=>decide (x.id ≠ g.id)) Bk X2).at_ w Fg (.bool true)) (fun h y hy=>h y (List.mem_filter.1 hy).1) (Vp.loc (p:=Mk _ _ _)) rfl;have h9:=h8.mapI 5 rfl (Ψ:=fun w=>(I7 (gs2.filter fun x=>decide (x.id ≠ g.id)) X2).at_ w (fun k=>F2 k \/ Fs k) (.bool true)) (fun h y hy=>h y (List.mem_filter.1 hy).1) (Vp.loc (p:=I7 _ _)) rfl;rw [Bj,List.map_append];exact h9
  ·have hz0:g2.L ≠ []:=fun e=>hz (by rw [e];rfl)
   have hrm:D1 gs1 (I9 n)=gs2:=by rw [hgs2];exact SL hok1 hne1 hgm hgn (by rw [<-hg2];exact hz0)
   repeat (first |refine Ab ?_ |refine Ag ?_ |refine Ad ?_ |refine Am ?_ |refine Ao ?_ |refine AD Aa rfl (by omega) ?_ |refine Ae Aa rfl ?_)
   refine ⟨⟨i + 1,A',C',c1,c2,M1,D7 M2 n,X2,Fa,fun k=>F2 k \/ Fs k⟩,⟨hin,by rw [hstep,hrm];exact hB2,hFa,hfin⟩,?_,fun w' hw=>?_,by dsimp only;omega⟩
   ·dsimp only;rw [e5,List.length_append,List.length_singleton];repeat (first |exact As.nil |refine As.cons rfl ?_)
   ·dsimp only;rw [hstep,hrm,e5,List.length_append,List.length_singleton,Bj,List.map_append];exact hw
end
def FA (gs:List BG) (l:List Int):List Int:=Bt (l.filter fun n=>decide (n ∉ Aw gs))
def B2 (f m:Int) (gs:List BG) (last now:Int) (l:List Int):List BG × Int × Int:=
 if FA gs l= [] then (gs,last,0) else (gs ++ [⟨last + 1,FA gs l,now + W f m 0,1⟩],last + 1,last + 1)
theorem HS {gs:List BG} {l:List Int} {n:Int}:n ∈ FA gs l ↔ n ∈ l/\n ∉ Aw gs:=by unfold FA;rw [Cu,List.mem_filter,decide_eq_true_eq]
section
variable {f m last:Int} {gs:List BG}
theorem C7.push (h:C7 last gs) {g:BG} (hid:g.id=last + 1) (hs:g.L.Pairwise (· < ·)) (hd:∀ n ∈ g.L,n ∉ Aw gs) (hf:∀ n ∈ g.L,AS .u64 n) (ht:g.tries=1) (htm:0 <= g.tm/\g.tm <= 2305843009213693952) (hl:(Aw gs).length + g.L.length <= 60000) (hla:last + 1 <= 1099511627776) (hc:gs.length < 60000):C7 (last + 1) (gs ++ [g]) where
 ids:=by
  rw [List.map_append,List.pairwise_append];refine ⟨h.ids,List.pairwise_singleton _ _,fun a ha b hb=>?_⟩;obtain ⟨x,hx,rfl⟩:=List.mem_map.1 ha;rw [List.map_cons,List.map_nil,List.mem_singleton] at hb;have:=(h.idb x hx).2;omega
 idb:=fun x hx=>by
  rcases List.mem_append.1 hx with hx |hx
  ·have:=h.idb x hx;omega
  ·rw [List.mem_singleton] at hx;subst hx;have:=h.lst;omega
 srt:=fun x hx=>by
  rcases List.mem_append.1 hx with hx |hx
  ·exact h.srt x hx
  ·rw [List.mem_singleton] at hx;subst hx;exact hs
 nd:=by
  rw [Aw,List.flatMap_append,List.nodup_append];refine ⟨h.nd,by simpa using HV hs,fun a ha b hb e=>?_⟩;subst e;exact hd a (by simpa using hb) ha
 fit:=fun x hx n hn=>by
  rcases List.mem_append.1 hx with hx |hx
  ·exact h.fit x hx n hn
  ·rw [List.mem_singleton] at hx;subst hx;exact hf n hn
 tr:=fun x hx=>by
  rcases List.mem_append.1 hx with hx |hx
  ·exact h.tr x hx
  ·rw [List.mem_singleton] at hx;subst hx;omega
 tm:=fun x hx=>by
  rcases List.mem_append.1 hx with hx |hx
  ·exact h.tm x hx
  ·rw [List.mem_singleton] at hx;subst hx;exact htm
 len:=by
  rw [Aw,List.flatMap_append,List.length_append];simpa using hl
 lst:=by have:=h.lst;omega
 cnt:=by rw [List.length_append,List.length_singleton];omega
theorem Rx (h:C7 last gs) {g:BG} (h':C7 (last + 1) (gs ++ [g])) (hid:g.id=last + 1):Gb (Hs gs) g.id g.tm=Hs (gs ++ [g]):=by
 refine Uz h.idn h'.idn ?_;rw [List.map_append,List.filter_eq_self.2 fun p hp=>?_]
 ·exact List.perm_append_comm
 ·obtain ⟨x,hx,rfl⟩:=List.mem_map.1 hp;have:=(h.idb x hx).2;show decide (x.id ≠ g.id)=true;exact decide_eq_true (by omega)
section
variable {M1 M2:List ME} {c1 c2:Nat} {B:Int->Nat}
theorem EF.push (hr:EF gs M1 M2 c1 c2 B) (hok:C7 last gs) {g:BG} (hok':C7 (last + 1) (gs ++ [g])) (hid:g.id=last + 1) {b:Nat} (hb:∀ x ∈ gs,B x.id ≠ b) {M2':List ME} {c2':Nat} (hm:Md M2' c2') (hg:∀ n,Dz M2' n=if n ∈ g.L then some (.int .u64 g.id) else (EX gs n).map fun g=>Value.int .u64 g.id):
 EF (gs ++ [g]) (CV M1 g.id (AF b) c1).1 M2' (CV M1 g.id (AF b) c1).2 c2' (fun i=>if i=g.id then b else B i) where
 inj:=fun x hx y hy e=>by
  have key:∀ z ∈ gs ++ [g],(z ∈ gs/\z.id <= last) \/ z=g:=fun z hz=>by
   rcases List.mem_append.1 hz with hz |hz
   ·exact .inl ⟨hz,(hok.idb z hz).2⟩
   ·exact .inr (List.mem_singleton.1 hz)
  rcases key x hx with ⟨x1,x2⟩ |x1<;>rcases key y hy with ⟨y1,y2⟩ |y1
  ·rw [if_neg (by omega),if_neg (by omega)] at e;exact hr.inj x x1 y y1 e
  ·rw [y1,if_neg (by omega),if_pos rfl] at e;exact absurd e (hb x x1)
  ·rw [x1,if_pos rfl,if_neg (by omega)] at e;exact absurd e.symm (hb y y1)
  ·rw [x1,y1]
 m1:=hr.m1.put _ _
 g1:=fun id=>by
  rw [Gl];by_cases e:id=g.id
  ·subst e;rw [if_pos rfl,E9 hok' (List.mem_append.2 (.inr List.mem_cons_self)),Option.map_some,if_pos rfl]
  ·rw [if_neg e,hr.g1,if_neg e]
   cases hb:Ml gs id with
   |some x=>
    obtain ⟨hx,rfl⟩:=MX hb;rw [E9 hok' (List.mem_append.2 (.inl hx))]
   |none=>
    have:Ml (gs ++ [g]) id=none:=Gx.2 fun x hx=>by
     rcases List.mem_append.1 hx with hx |hx
     ·exact Gx.1 hb x hx
     ·rw [List.mem_singleton] at hx;subst hx;exact fun h=>e h.symm
    rw [this]
 m2:=hm
 g2:=fun n=>by
  rw [hg];by_cases hn:n ∈ g.L
  ·rw [if_pos hn,FI hok' (List.mem_append.2 (.inr List.mem_cons_self)) hn];rfl
  ·rw [if_neg hn]
   cases hb:EX gs n with
   |some x=>
    have h1:=Ea hb;rw [FI hok' (List.mem_append.2 (.inl h1.1)) h1.2]
   |none=>
    have:EX (gs ++ [g]) n=none:=Cw.2 fun h=>by
     rw [Aw,List.flatMap_append,List.mem_append] at h
     rcases h with h |h
     ·exact Cw.1 hb h
     ·exact hn (by simpa using h)
    rw [this]
end
end
section
variable {P:Program} {tb:EU} {n:Nat} {w0:World} {all:Array Oper} {os:List Oper} {o:Oper} {dl:DL} {ol:OL} {F:DL->Prop} {d:Nat}
theorem XJ (tx:Nat) {Φ:Value->World->Prop} (Ψ:Value->World->Prop) (hd:o.dst=some d) (hn:Nat.blt d n=true) (hg:gd all (rs all o dl) o.guard=some true) (htx:(o.looksAt all).contains tx=true) (hx:lk dl tx=some (.pr Φ)) (hst:∀ v w w',Ψ v w->Below w.heap.size w w'->Ψ v w')
 (h:∀ a u w,Rd a (rp (rs all o dl) tx u)->Hp w0 w ol->Φ u w->∃ v w',(execOp a.eval o).run P w= .ok (.value v) w'/\Below w.heap.size w w'/\Ψ v w') (k:D P n w0 all os ((d,.pr Ψ)::dl) ol F):D P n w0 all (o::os) dl ol F:=
 Mf Ψ hd (by simpa [Nat.blt_eq] using hn) hg hst (fun a w hrd h4 h3=>by
  have hs:=h4 tx (by simpa using htx);rw [hx] at hs;obtain ⟨u,hu1,hu2⟩:=hs
  exact h a u w (fun t v hv=>by
   unfold rp at hv;split at hv
   ·rename_i e;subst e;cases hv;exact hu1
   ·exact hrd t v hv) h3 hu2) k
end
def WN (w0:World) (ol:OL) (L:List Int) (v:Value) (w:World):Prop:=∃ x:SX,v= .agg ⟨[x.v,.int .i64 1]⟩/\(By (· ∈ L) L.length).at_ w (BB w0 (fun _=>False) ol) x.s
def UM (w0:World) (ol:OL) (L:List Int) (v:Value) (w:World):Prop:=∃ (b:Nat) (x:SX),v=AF b/\w.heap[b]? =some (Tk x 1)/\w0.heap.size <= b/\(∀ e ∈ ol,¬ e.has b)/\(By (· ∈ L) L.length).at_ w (fun k=>BB w0 (fun _=>False) ol k/\k ≠ b) x.s
theorem WN.stable {w0:World} {ol:OL} {L:List Int}:∀ v w w',WN w0 ol L v w->Below w.heap.size w w'->WN w0 ol L v w':=fun v w w' ⟨x,e,h⟩ hb=>⟨x,e,(By _ _).ext h hb⟩
theorem UM.stable {w0:World} {ol:OL} {L:List Int}:∀ v w w',UM w0 ol L v w->Below w.heap.size w w'->UM w0 ol L v w':=fun v w w' ⟨b,x,e,h1,h2,h3,h4⟩ hb=>⟨b,x,e,(hb.block b (AU h1)).trans h1,h2,h3,(By _ _).ext h4 hb⟩
section
variable {P:Program} {tb:EU} {n:Nat} {w0:World} {all:Array Oper} {os:List Oper} {o:Oper} {dl:DL} {ol:OL} {F:DL->Prop} {d:Nat} {L:List Int}
theorem XH (tx:Nat) (hd:o.dst=some d) (hn:Nat.blt d n=true) (hg:gd all (rs all o dl) o.guard=some true) (htx:(o.looksAt all).contains tx=true) (hx:lk dl tx=some (.pr (PV (By (· ∈ L) L.length) w0 (fun _=>False) ol)))
 (h:∀ ac (x:SX) w,Rd ac (rp (rs all o dl) tx x.s)->(execOp ac.eval o).run P w= .ok (.value (.agg ⟨[x.v,.int .i64 1]⟩)) w) (k:D P n w0 all os ((d,.pr (WN w0 ol L))::dl) ol F):D P n w0 all (o::os) dl ol F:=
 U2 tx (.pr (WN w0 ol L)) hd hn hg htx hx WN.stable (fun ac u w hrd hh hu=>by
  obtain ⟨a1,n1,c1,rfl⟩:=CT hu
  exact ⟨_,h ac ⟨a1,n1,c1⟩ w hrd,⟨a1,n1,c1⟩,rfl,hu⟩) k
theorem XI (tx:Nat) (hd:o.dst=some d) (hn:Nat.blt d n=true) (hg:gd all (rs all o dl) o.guard=some true) (htx:(o.looksAt all).contains tx=true) (hx:lk dl tx=some (.pr (WN w0 ol L)))
 (h:∀ ac (x:SX) w,Rd ac (rp (rs all o dl) tx (.agg ⟨[x.v,.int .i64 1]⟩))->(execOp ac.eval o).run P w= .ok (.value (AF w.heap.size)) (w.alloc (Tk x 1))) (k:D P n w0 all os ((d,.pr (UM w0 ol L))::dl) ol F):D P n w0 all (o::os) dl ol F:=
 XJ tx (UM w0 ol L) hd hn hg htx hx UM.stable (fun ac u w hrd hh hu=>by
  obtain ⟨x,rfl,hx⟩:=hu;have hb:Below w.heap.size w (w.alloc (Tk x 1)):=(Below.refl _ _).alloc (Nat.le_refl _) _
  exact ⟨_,_,h ac x w hrd,hb,w.heap.size,x,rfl,heap_alloc_new w _,hh.size,fun e he hk=>absurd (hh.lt he hk) (Nat.lt_irrefl _),(By _ _).keep hx fun k hk hlt=>⟨hb.block k hlt,hk,Nat.ne_of_lt hlt⟩⟩) k
end
section
variable {w0 w:World} {ol:OL} {gs:List BG} {last:Int}
theorem UM.hp {L:List Int} {v:Value} (h:UM w0 ol L v w) (hh:Hp w0 w ol):∃ b x F2,v=AF b/\w0.heap.size <= b/\(∀ k,F2 k->w0.heap.size <= k)/\Hp w0 w (.rep (fun w=>(By (· ∈ L) L.length).at_ w F2 x.s) F2 false::.blk b (Tk x 1) true::ol):=by
 obtain ⟨b,x,e,h1,h2,h3,h4⟩:=h;have h9:Hp w0 w (.blk b (Tk x 1) true::ol):=hh.more h1 fun e he _ k hk hk2=>h3 e he (by rw [Option.some.inj hk];exact hk2)
 obtain ⟨F2,g1,_,g3⟩:=h9.addV (p:=By (· ∈ L) L.length) (A:=fun _=>False) (v:=x.s) ((By _ _).mono h4 fun k hk=>⟨hk.1.1,fun e he hx hh2=>by
  rcases List.mem_cons.1 he with rfl |he
  ·exact hk.2 (Option.some.inj hh2).symm
  ·exact hk.1.2 e he hx hh2⟩)
 exact ⟨b,x,F2,e,h2,fun k hk=>(g1 k hk).resolve_left id,g3⟩
theorem Uw {B:Int->Nat} {X:Int->SX} {Fg Fs F2:Nat->Prop} {b:Nat} {x:SX} {g:BG} (hok:C7 last gs) (hid:g.id=last + 1) (ht:g.tries=1)
 (hh:Hp w0 w (.rep (fun w=>(By (· ∈ g.L) g.L.length).at_ w F2 x.s) F2 false::.rep (fun w=>(I7 gs X).at_ w Fs (.bool true)) Fs false::.blk b (Tk x 1) true::.rep (fun w=>(Mk gs B X).at_ w Fg (.bool true)) Fg true::ol)):
 Hp w0 w (.rep (fun w=>(Mk (gs ++ [g]) (fun i=>if i=g.id then b else B i) (Jv X g.id x)).at_ w (fun k=>Fg k \/ k=b) (.bool true)) (fun k=>Fg k \/ k=b) true::.rep (fun w=>(I7 (gs ++ [g]) (Jv X g.id x)).at_ w (fun k=>F2 k \/ Fs k) (.bool true)) (fun k=>F2 k \/ Fs k) false::ol):=by
 have h1:=hh.merge (Ψ:=fun w=>(I7 (gs ++ [g]) (Jv X g.id x)).at_ w (fun k=>F2 k \/ Fs k) (.bool true)) (fun k1 k2 y hy=>?_) (Vp.loc (p:=I7 _ _))
 ·have h2:=h1.pm [1,2,0] rfl rfl rfl;have o0:w.heap[b]? =_:=h2.own _ (Af (i:=0) rfl);obtain ⟨o1,_,o3⟩:=h2.own _ (Af (i:=1) rfl);refine Hp.regroup [.blk b (Tk x 1) true,.rep (fun w=>(Mk gs B X).at_ w Fg (.bool true)) Fg true] [.rep (fun w=>(Mk (gs ++ [g]) (fun i=>if i=g.id then b else B i) (Jv X g.id x)).at_ w (fun k=>Fg k \/ k=b) (.bool true)) (fun k=>Fg k \/ k=b) true] h2 (fun e he=>?_) (fun e he=>?_) (List.pairwise_singleton _ _) (fun e he k hk=>?_) (fun e he k hk=>?_)
  ·simp only [List.mem_cons,List.not_mem_nil,or_false] at he
   rcases he with rfl |rfl<;>rfl
  ·rw [List.mem_singleton] at he;subst he;refine ⟨rfl,fun y hy=>?_,Vp.loc (p:=Mk _ _ _),fun k hk=>?_⟩
   ·dsimp only;unfold Jv
    rcases List.mem_append.1 hy with hy |hy
    ·have h4:=(hok.idb y hy).2;rw [if_neg (by omega),if_neg (by omega)];exact ⟨(o1 y hy).1,.inl (o1 y hy).2⟩
    ·rw [List.mem_singleton] at hy;subst hy;rw [if_pos rfl,if_pos rfl,ht];exact ⟨o0,.inr rfl⟩
   ·rcases hk with hk |rfl
    ·exact o3 k hk
    ·exact AU o0
  ·rw [List.mem_singleton] at he;subst he
   rcases hk with hk |rfl
   ·exact ⟨_,List.mem_cons_of_mem _ List.mem_cons_self,hk⟩
   ·exact ⟨_,List.mem_cons_self,rfl⟩
  ·simp only [List.mem_cons,List.not_mem_nil,or_false] at he
   rcases he with rfl |rfl
   ·exact .inr ⟨_,List.mem_cons_self,.inr (Option.some.inj hk).symm⟩
   ·exact .inr ⟨_,List.mem_cons_self,.inl hk⟩
 ·unfold Jv
  rcases List.mem_append.1 hy with hy |hy
  ·have h4:=(hok.idb y hy).2;rw [if_neg (by omega)];exact (By _ _).mono (k2 y hy) fun k hk=>.inr hk
  ·rw [List.mem_singleton] at hy;subst hy;rw [if_pos rfl];exact (By _ _).mono k1 fun k hk=>.inl hk
theorem UU {bb:Nat} {f m:Int} {h:BH} (hh:Hp w0 w (Ha bb f m gs last h true false ++ ol)) (hp:PR f m) (hok:C7 last gs) (hne:Jt gs) (hr:EF gs h.M1 h.M2 h.c1 h.c2 h.B):(DJ bb f m gs last).at_ w (fun k=>∃ e ∈ Ha bb f m gs last h true true,e.has k) (.bool true):=by
 refine ⟨h,hp,⟨hok,hne⟩,hr,fun e he=>⟨?_,fun k hk=>⟨e,he,hk⟩⟩,?_⟩
 ·simp only [Ha,List.mem_cons,List.not_mem_nil,or_false] at he
  rcases he with rfl |rfl |rfl |rfl |rfl |rfl
  ·exact hh.own _ (Af (i:=0) rfl)
  ·exact hh.own _ (Af (i:=1) rfl)
  ·exact hh.own _ (Af (i:=2) rfl)
  ·exact hh.own _ (Af (i:=3) rfl)
  ·exact hh.own _ (Af (i:=4) rfl)
  ·exact hh.own (.rep (fun w=>(I7 gs h.X).at_ w h.Fs (.bool true)) h.Fs false) (Af (i:=5) rfl)
 ·have h5:=(List.pairwise_append.1 hh.apart).1;simp only [Ha,List.pairwise_cons,List.mem_cons,List.not_mem_nil,or_false,forall_eq_or_imp,forall_eq] at h5 ⊢;obtain ⟨⟨a1,a2,a3,a4,a5⟩,⟨b2,b3,b4,b5⟩,⟨c3,c4,c5⟩,⟨d4,d5⟩,e5,_⟩:=h5;exact ⟨⟨a1,a2,a3,a4,fun _=>a5 rfl⟩,⟨b2,b3,b4,fun _=>b5 rfl⟩,⟨c3,c4,fun _=>c5 rfl⟩,⟨d4,fun _=>d5 rfl⟩,fun _=>e5 rfl,fun _ h=>h.elim,List.Pairwise.nil⟩
end
section
variable {bb:Nat} {f m last:Int} {gs:List BG} {w w0:World} {F:Nat->Prop} {ol:OL}
set_option maxHeartbeats 8000000 in
theorem Uv (h:(DJ bb f m gs last).at_ w F (.bool true)) (hF:∀ k,F k->k < w.heap.size) {a:Option Addr} {n c:Nat} {l:List Int} {A0:Nat->Prop} (hl:Br (A8 .u64) w A0 a n c l) (hAF:∀ k,A0 k->¬ F k) {now:Int} (hnow:0 <= now/\now <= 1152921504606846976) (hln:l.length + (Aw gs).length <= 60000) (hcn:gs.length < 60000) (hla:last + 1 <= 1099511627776):
 Calls Tryz.prog 52 #[AF bb,.int .i64 now,.slice a n c] w fun e w'=>e= .returned (.int .u64 (B2 f m gs last now l).2.2)/\Ln w F (DJ bb f m (B2 f m gs last now l).1 (B2 f m gs last now l).2.1) w':=by
 obtain ⟨x,hp,hok,hr,hst,hcov,hne⟩:=GT h true false;obtain rfl:=hl.len;obtain ⟨Fq,hFq,hq2,hst2⟩:=hst.addV (p:=(Az (A8 .u64)).vp l) (A:=A0) (v:=.slice a l.length c) (((Az (A8 .u64)).vp l).mono hl.val fun k hk=>⟨.inl hk,fun e he hx hh=>hAF k hk (Rs hcov e he hx k hh)⟩);obtain ⟨gb,mb,ab,c1,c2,M1,M2,Bk,X,Fa,Fg,Fs⟩:=x;dsimp only at hr hst2;have hFb:F bb:=hcov _ (Af (i:=0) rfl) bb rfl;have hFgb:F gb:=hcov _ (Af (i:=1) rfl) gb rfl;have hFmb:F mb:=hcov _ (Af (i:=2) rfl) mb rfl;have hFa:∀ k,Fa k->F k:=hcov _ (Af (i:=3) rfl);have hFg:∀ k,Fg k->F k:=hcov _ (Af (i:=4) rfl);have hFs:∀ k,Fs k->F k:=hcov _ (Af (i:=5) rfl);have hI:WM .u64 w a l.length c l:=hl.ints;have hfit:=hI.fits;have hlst:=hok.lst;clear hst hcov;obtain ⟨s,hs⟩:∃ s:Int->Bool,s=fun n=>decide (n ∉ Aw gs):=⟨_,rfl⟩;refine EP Tryz.func52 rfl rfl (hst2.pm [1,2,3,4,5,6,0] rfl rfl rfl) ?_;repeat (first |refine Ai ?_ |refine Ab ?_ |refine Ag ?_ |refine Ae Aa rfl ?_)
 refine BE (CS Aa rfl rfl rfl rfl rfl) ?_;repeat (first |refine Ag ?_)
 refine AG rfl ?_;repeat (first |refine Ai ?_ |refine Ab ?_ |refine Ag ?_ |refine Ad ?_ |refine Ao ?_ |refine Ae Aa rfl ?_)
 refine BN (ι:=Option Addr × Nat) (fun _=>True) (fun j=>[(0,AF bb),(1,.int .i64 now),(7,.slice j.1 (l.filter s).length j.2)]) (fun j=>Ha bb f m gs last ⟨gb,mb,ab,c1,c2,M1,M2,Bk,X,Fa,Fg,Fs⟩ true false ++ [.row w.heap.size (.slice j.1 (l.filter s).length j.2) 32 1 (l.filter s).length (Bj (l.filter s))]) ?_ ?_
 ·refine Aq ?_
  refine AM (ι:=Nat × Option Addr × Nat) (fun j=>[(0,AF bb),(1,.int .i64 now),(14,.slice a l.length c),(15,.int .i64 (l.length:Int)),(16,.int .i64 (j.1:Int)),(7,.slice j.2.1 ((l.take j.1).filter s).length j.2.2)])
   (fun j=>Ha bb f m gs last ⟨gb,mb,ab,c1,c2,M1,M2,Bk,X,Fa,Fg,Fs⟩ true false ++ [.row w.heap.size (.slice j.2.1 ((l.take j.1).filter s).length j.2.2) 32 1 ((l.take j.1).filter s).length (Bj ((l.take j.1).filter s)),.rep (fun w=>((Az (A8 .u64)).vp l).at_ w Fq (.slice a l.length c)) Fq false])
   (fun j=>j.1 <= l.length) (fun j=>l.length - j.1) (0,none,0) (Nat.zero_le _) (by repeat (first |exact As.nil |refine As.cons rfl ?_)) (fun w' hw=>?_) ?_
  ·have h9:=(hw.nilRow 32 1).pm [1,2,3,4,5,6,0,7] rfl rfl rfl;exact h9
  rintro ⟨i,A,C⟩ hi;dsimp only at hi ⊢;repeat (first |refine Ai ?_ |refine Ab ?_ |refine Ag ?_ |refine Ae Aa rfl ?_)
  refine Ak rfl (fun hlt1=>?_) (fun hge=>?_);rotate_left
  ·have hie:i=l.length:=by omega
   subst hie;rw [List.take_length];repeat (first |refine Ad ?_ |refine AB ?_ |refine Al ?_ |refine AH ?_)
   exact ⟨(A,C),trivial,(by repeat (first |exact As.nil |refine As.cons rfl ?_)),fun w' hw=>hw.less (by repeat (first |exact Au.nil |refine Au.keep ?_ |refine Au.dropR ?_))⟩
  have hin:i < l.length:=by omega
  obtain ⟨n,hn⟩:∃ n,l[i]? =some n:=⟨_,List.getElem?_eq_getElem hin⟩
  have htk:l.take (i + 1)=l.take i ++ [n]:=by
   rw [List.take_succ_eq_append_getElem hin];rw [List.getElem?_eq_getElem hin] at hn;rw [Option.some.inj hn]
  have hfl:((l.take i).filter s).length <= 60000:=by
   have h1:=List.length_filter_le s (l.take i);rw [List.length_take] at h1;omega
  obtain ⟨ab2,off,cs0,ha,_⟩:=hl.get_ hin;subst ha;repeat (first |refine Ai ?_ |refine Ab ?_ |refine Aq ?_ |refine Ad ?_ |refine Ao ?_)
  refine BE (Bs (sz:=1) Aa rfl rfl rfl rfl rfl rfl rfl (j:=i) rfl hin) ?_;refine Bh Aa (v:=.int .u64 n) rfl rfl (fun w' hw=>(Br.of_val (hw.own _ (Af (i:=7) rfl)).1).ints.sl.at_ (by omega) (by rw [Nat.mul_one,List.getElem?_map,hn];rfl)) ?_;repeat (first |refine Ai ?_ |refine Ab ?_ |refine Ag ?_ |refine Ae Aa rfl ?_)
  refine Be rfl Tryz.call78 (fun w1 h1=>Rr (UU h1 hp hok hne hr) n) ?_
  cases hs1:s n with
  |false=>
   refine Co 22 (v':=.bool true) rfl (congrArg Value.bool (decide_eq_true (by rw [hs] at hs1;simpa using hs1))) ?_;repeat (first |refine Ag ?_ |refine Ae Aa rfl ?_)
   refine AG rfl ?_;repeat (first |refine Ab ?_ |refine Ag ?_ |refine Ad ?_ |refine Am ?_ |refine Ao ?_ |refine AD Aa rfl (by omega) ?_ |refine Ae Aa rfl ?_)
   exact ⟨(i + 1,A,C),hin,(by
    dsimp only;rw [htk,List.filter_append,List.filter_cons_of_neg (by simp [hs1]),List.filter_nil,List.append_nil]
    repeat (first |exact As.nil |refine As.cons rfl ?_)),fun w' hw=>(by
    dsimp only;rw [htk,List.filter_append,List.filter_cons_of_neg (by simp [hs1]),List.filter_nil,List.append_nil]
    exact hw),by dsimp only;omega⟩
  |true=>
   refine Co 22 (v':=.bool false) rfl (congrArg Value.bool (decide_eq_false (by rw [hs] at hs1;simpa using hs1))) ?_;repeat (first |refine Ag ?_ |refine Ae Aa rfl ?_)
   refine AX rfl ?_
   have e5:(l.take (i + 1)).filter s=(l.take i).filter s ++ [n]:=by rw [htk,List.filter_append,List.filter_cons_of_pos hs1,List.filter_nil]
   repeat (first |refine Ae Aa rfl ?_ |refine Ap ?_)
   refine AO Aa rfl rfl rfl rfl rfl rfl rfl rfl rfl rfl rfl rfl (fun nb hnb2=>?_);refine AT (ty:=0) (k:=1) (news:=[.int .u64 n]) Aa 7 (sz:=1) rfl rfl rfl rfl rfl rfl rfl rfl rfl (by decide) (fun w' hw=>Sl.of_blk (hw.own _ (Af (i:=0) rfl)) rfl (fun j u hu=>by rw [Nat.zero_add];exact hu)) (fun u hu=>by rw [List.mem_singleton] at hu;subst hu;rfl) (by simp only [maxLen];omega) (by show (_ + _) * 8 <= _;omega) rfl (fun A' C' hA' hC'=>⟨_,rfl,?_⟩);refine B0 (fun w' hw=>hw.dropn hnb2) ?_;repeat (first |refine Ab ?_ |refine Ag ?_ |refine Ad ?_ |refine Am ?_ |refine AD Aa rfl (by omega) ?_ |refine Ae Aa rfl ?_)
   exact ⟨(i + 1,A',C'),hin,(by
    dsimp only;rw [e5,List.length_append,List.length_singleton]
    repeat (first |exact As.nil |refine As.cons rfl ?_)),fun w' hw=>(by
    dsimp only;rw [e5,List.length_append,List.length_singleton,Bj,List.map_append]
    exact hw),by dsimp only;omega⟩
 rintro ⟨A,C⟩ _;dsimp only;obtain ⟨sm,hsm⟩:∃ sm,sm=l.filter s:=⟨_,rfl⟩;rw [<-hsm]
 have hsml:sm.length <= 60000:=by
  have h1:=List.length_filter_le s l;rw [hsm];omega
 have hnew:FA gs l=Bt sm:=by rw [hsm,hs];rfl
 have hnm:∀ k,k ∈ FA gs l ↔ k ∈ sm:=fun k=>by rw [hnew,Cu]
 have hsmf:∀ k ∈ sm,AS .u64 k:=fun k hk=>hfit k (List.mem_filter.1 (hsm ▸ hk)).1;repeat (first |refine Ai ?_ |refine Ab ?_ |refine Ag ?_ |refine Ae Aa rfl ?_)
 refine Ak rfl (fun h0=>?_) (fun h0=>?_)
 ·have e0:sm= []:=List.eq_nil_of_length_eq_zero (by omega)
  have e1:FA gs l= []:=by rw [hnew,e0];rfl
  have e2:B2 f m gs last now l=(gs,last,0):=if_pos e1;rw [e2];repeat (first |refine Ai ?_ |refine Ab ?_ |refine Ag ?_ |refine AI ?_ |refine AC ?_ |refine Ae Aa rfl ?_)
  exact AZ rfl rfl (fun w' hw=>⟨rfl,Ib (F0:=F) (ol:=[]) (hw.less (by repeat (first |exact Au.nil |refine Au.keep ?_ |refine Au.dropW (Nat.le_refl _) ?_))) hp hok hne hr hF (fun e he=>by cases he) (Ko (.inl hFb) (.inl hFgb) (.inl hFmb) (fun k hk=>.inl (hFa k hk)) (fun k hk=>.inl (hFg k hk)) (fun k hk=>.inl (hFs k hk)))⟩)
 have hne0:FA gs l ≠ []:=fun e=>h0 (by
  have:sm= []:=Pg.1 (hnew ▸ e)
  rw [this];rfl)
 have e2:B2 f m gs last now l=(gs ++ [⟨last + 1,FA gs l,now + W f m 0,1⟩],last + 1,last + 1):=if_neg hne0;rw [e2];obtain ⟨g,hg⟩:∃ g:BG,g=⟨last + 1,FA gs l,now + W f m 0,1⟩:=⟨_,rfl⟩;rw [<-hg];dsimp only
 have hgid:g.id=last + 1:=by rw [hg]
 have hgL:g.L=FA gs l:=by rw [hg]
 have hgt:g.tries=1:=by rw [hg]
 have hgtm:g.tm=now + W f m 0:=by rw [hg]
 have hW:=Hb hp.1 hp.2.1 0;have hp3:=hp.2.2
 have hnl:(FA gs l).length <= sm.length:=by rw [hnew];exact Dj
 have hok':C7 (last + 1) (gs ++ [g]):=hok.push hgid (by rw [hgL];exact D5 _) (fun k hk=>by rw [hgL,HS] at hk;exact hk.2) (fun k hk=>by rw [hgL,hnm] at hk;exact hsmf k hk) hgt (by rw [hgtm];omega) (by
  have h1:=List.length_filter_le s l;rw [<-hsm] at h1;rw [hgL]
  omega) hla hcn
 have hne':Jt (gs ++ [g]):=fun y hy=>by
  rcases List.mem_append.1 hy with hy |hy
  ·exact hne y hy
  ·rw [List.mem_singleton] at hy;subst hy;rw [hgL];exact hne0
 repeat (first |refine Ai ?_ |refine Ab ?_ |refine Ag ?_ |refine Ad ?_ |refine Ao ?_ |refine D2 Aa rfl (by omega) ?_ |refine Ae Aa rfl ?_ |refine An Aa 0 rfl rfl rfl ?_ |refine Ax Aa 0 rfl rfl rfl rfl rfl rfl ?_)
 refine Cd (by kernel_rfl) 12 rfl (by kernel_rfl) ?_;repeat (first |refine Ah Aa rfl ?_ |refine AE Aa 0 rfl rfl rfl ?_)
 refine Js (By (· ∈ g.L) g.L.length) (fun _=>False) rfl Tryz.call43 (fun w' vs hw' h=>by
  obtain ⟨u1,_,rfl,rfl,rfl⟩:=h
  refine (Vj (A:=TT) A sm.length C sm w' (Br.of_row (R:=A8 .u64) (DU .u64) (by rw [FD];exact hw'.own _ (Af (i:=6) rfl)) rfl hsmf fun k _ _=>trivial) (by omega)).mono fun e w'' ⟨r,e1,e2,e3⟩=>⟨r,e1,e2,Sj hw' (JF e3 (by rw [hgL];exact D5 _) fun k=>by rw [hgL,hnm])⟩) ?_
 refine XH 48 rfl rfl rfl rfl rfl (fun ac x1 w1 hrd=>(Bf (n:=100) (d:=49) (w0:=w1) (ol:=[]) (all:=#[]) Aa rfl rfl rfl rfl rfl rfl rfl).run ac w1 hrd (Hp.refl w1)) ?_;refine XI 49 rfl rfl rfl rfl rfl (fun ac x1 w1 hrd=>(KV (n:=100) (d:=50) (all:=#[]) Aa rfl).2.2.2 ac w1 hrd) ?_;refine XK fun w1 hh fv hfv=>?_;obtain ⟨b,x2,F2,eb,hb,hF2,hh2⟩:=UM.hp (hfv 50 _ rfl) hh;refine ⟨_,_,rfl,hh2,?_⟩;dsimp only;rw [eb];refine KB Aa 3 rfl rfl rfl rfl rfl rfl rfl rfl rfl rfl ?_;refine WI (p:=∀ y ∈ gs,Bk y.id ≠ b) (fun w' hw y hy e=>(List.pairwise_cons.1 (List.pairwise_cons.1 hw.apart).2).1 _ (Af (i:=4) rfl) rfl b rfl (e ▸ ((hw.own _ (Af (i:=6) rfl)).1 y hy).2)) (fun hBb=>?_);obtain ⟨M1',hM1'⟩:∃ M1',M1'=(CV M1 g.id (AF b) c1).1:=⟨_,rfl⟩;obtain ⟨c1',hc1'⟩:∃ c1',c1'=(CV M1 g.id (AF b) c1).2:=⟨_,rfl⟩
 obtain ⟨B',hB'⟩:∃ B':Int->Nat,B'=fun i=>if i=g.id then b else Bk i:=⟨_,rfl⟩
 obtain ⟨X',hX'⟩:∃ X',X'=Jv X g.id x2:=⟨_,rfl⟩;refine B0 (ol':=[.blk bb (WU f m gb mb ab (last + 1)) true,.blk gb (Cb .u64 M1' c1') true,.blk mb (Cb .u64 M2 c2) true,.rep (fun w=>(I4 ab (Hs gs)).at_ w Fa (.bool true)) Fa true,.rep (fun w=>(Mk (gs ++ [g]) B' X').at_ w (fun k=>Fg k \/ k=b) (.bool true)) (fun k=>Fg k \/ k=b) true,.rep (fun w=>(I7 (gs ++ [g]) X').at_ w (fun k=>F2 k \/ Fs k) (.bool true)) (fun k=>F2 k \/ Fs k) false,GZ w.heap.size (.slice A sm.length C) sm]) (fun w' hw=>?_) ?_
 ·rw [hB',hX',hM1',hc1',hgid];have h9:=(Uw (ol:=_) hok hgid hgt (hw.pm [0,7,1,6,2,3,4,5] rfl rfl rfl)).pm [2,3,4,5,0,1] rfl rfl rfl;rw [hgid] at h9;exact h9
 repeat (first |refine Ai ?_ |refine Ab ?_ |refine Aq ?_ |refine Ag ?_ |refine Ae Aa rfl ?_)
 refine AM (ι:=Nat × List ME × Nat) (fun j=>[(0,AF bb),(1,.int .i64 now),(51,.slice A sm.length C),(52,.int .i64 (sm.length:Int)),(53,.int .i64 (j.1:Int))])
  (fun j=>[.blk bb (WU f m gb mb ab (last + 1)) true,.blk gb (Cb .u64 M1' c1') true,.blk mb (Cb .u64 j.2.1 j.2.2) true,.rep (fun w=>(I4 ab (Hs gs)).at_ w Fa (.bool true)) Fa true,.rep (fun w=>(Mk (gs ++ [g]) B' X').at_ w (fun k=>Fg k \/ k=b) (.bool true)) (fun k=>Fg k \/ k=b) true,.rep (fun w=>(I7 (gs ++ [g]) X').at_ w (fun k=>F2 k \/ Fs k) (.bool true)) (fun k=>F2 k \/ Fs k) false,GZ w.heap.size (.slice A sm.length C) sm])
  (fun j=>j.1 <= sm.length/\Md j.2.1 j.2.2/\∀ k,Dz j.2.1 k=if k ∈ sm.take j.1 then some (.int .u64 (last + 1)) else (EX gs k).map fun g=>Value.int .u64 g.id) (fun j=>sm.length - j.1) (0,M2,c2) ⟨Nat.zero_le _,hr.m2,fun k=>by rw [hr.g2];simp⟩ (by repeat (first |exact As.nil |refine As.cons rfl ?_)) (fun w' hw=>hw) ?_
 rintro ⟨i,N2,d2⟩ ⟨hi,hN,hNg⟩;dsimp only at hi hN hNg ⊢;repeat (first |refine Ai ?_ |refine Ab ?_ |refine Ag ?_ |refine Ae Aa rfl ?_)
 refine Ak rfl (fun hlt1=>?_) (fun hge=>?_)
 ·have hin:i < sm.length:=by omega
  obtain ⟨k0,hk0⟩:∃ k0,sm[i]? =some k0:=⟨_,List.getElem?_eq_getElem hin⟩
  have htk:sm.take (i + 1)=sm.take i ++ [k0]:=by
   rw [List.take_succ_eq_append_getElem hin];rw [List.getElem?_eq_getElem hin] at hk0;rw [Option.some.inj hk0]
  repeat (first |refine Ai ?_ |refine Ab ?_ |refine Aq ?_ |refine Ad ?_ |refine Ao ?_)
  refine Fi 6 rfl (by omega) (fun gN hgN=>?_);subst hgN;refine BE (Ay Aa rfl rfl rfl rfl rfl rfl rfl (j:=i) rfl hin) ?_;refine Bh Aa (v:=.int .u64 k0) rfl rfl (fun w' hw=>Cn (hw.own _ (Af (i:=6) rfl)) (by omega) (by rw [Nat.zero_add,List.getElem?_map,hk0];rfl)) ?_;repeat (first |refine Ag ?_ |refine Ae Aa rfl ?_)
  refine Ca ?_;refine Cd (by kernel_rfl) 9 rfl (by kernel_rfl) ?_;repeat (first |refine AN rfl ?_ |refine Ah Aa rfl ?_ |refine AE Aa 0 rfl rfl rfl ?_)
  refine KB Aa 2 rfl rfl rfl rfl rfl rfl rfl rfl rfl rfl ?_;repeat (first |refine Ab ?_ |refine Ag ?_ |refine Ad ?_ |refine Am ?_ |refine AD Aa rfl (by omega) ?_ |refine Ae Aa rfl ?_)
  exact ⟨(i + 1,(CV N2 k0 (.int .u64 (last + 1)) d2).1,(CV N2 k0 (.int .u64 (last + 1)) d2).2),⟨hin,hN.put _ _,fun k=>by
   dsimp only;rw [Gl,hNg,htk];by_cases e:k=k0
   ·rw [if_pos e,if_pos (by rw [e];simp)]
   ·rw [if_neg e];by_cases e2:k ∈ sm.take i
    ·rw [if_pos e2,if_pos (List.mem_append.2 (.inl e2))]
    ·rw [if_neg e2,if_neg (fun h=>(List.mem_append.1 h).elim e2 fun h=>e (List.mem_singleton.1 h))]⟩,(by repeat (first |exact As.nil |refine As.cons rfl ?_)),fun w' hw=>hw,by dsimp only;omega⟩
 have hie:i=sm.length:=by omega
 subst hie;rw [List.take_length] at hNg
 have hr':EF (gs ++ [g]) M1' N2 c1' d2 B':=by
  rw [hM1',hc1',hB']
  exact hr.push hok hok' hgid hBb hN fun k=>by
   rw [hNg,hgid,hgL];by_cases e:k ∈ sm
   ·rw [if_pos e,if_pos ((hnm k).2 e)]
   ·rw [if_neg e,if_neg fun h=>e ((hnm k).1 h)]
 repeat (first |refine Ai ?_ |refine Ad ?_ |refine AB ?_ |refine Al ?_ |refine AH ?_)
 refine Cd (by kernel_rfl) 15 rfl (by kernel_rfl) ?_;repeat (first |refine Ah Aa rfl ?_ |refine AE Aa 0 rfl rfl rfl ?_)
 refine Bi (v:=.int .i64 (W f m 0)) rfl Tryz.call74 (fun w' vs hw' h=>by
  obtain ⟨u1,_,rfl,rfl,u2,_,rfl,rfl,rfl⟩:=h
  exact Ng f m 0 w' hp.1 hp.2.2 hp.2.1) ?_
 repeat (first |refine AN rfl ?_ |refine BD Aa rfl (by omega) ?_)
 have hal:=L3 gs;refine CA 3 rfl Tryz.call77 rfl (fun w1 g1=>(RI (g1.own _ (Af (i:=3) rfl)).1 (g1.own _ (Af (i:=3) rfl)).2.2 (by omega) (last + 1) (now + W f m 0)).mono fun e w' ⟨he,Fa',g2',g3,g4⟩=>⟨_,_,Fa',he,g4,g2',g3,_,rfl,?_⟩);have hsz:=g1.size;repeat (first |refine Ai ?_ |refine Ab ?_ |refine Ag ?_ |refine AC ?_ |refine Ae Aa rfl ?_ |refine An Aa 0 rfl rfl rfl ?_)
 refine AZ rfl rfl (fun w' hw=>⟨rfl,?_⟩)
 have e9:Gb (Hs gs) (last + 1) (now + W f m 0)=Hs (gs ++ [g]):=by
  have:=Rx hok hok' hgid;rw [hgid,hgtm] at this;exact this
 rw [e9] at hw;exact Ib (F0:=F) (h:=⟨gb,mb,ab,c1',d2,M1',N2,B',X',Fa',fun k=>Fg k \/ k=b,fun k=>F2 k \/ Fs k⟩) (ol:=[]) (hw.less (by repeat (first |exact Au.nil |refine Au.keep ?_ |refine Au.dropW (Nat.le_refl _) ?_))) hp hok' hne' hr' hF (fun e he=>by cases he) (Ko (.inl hFb) (.inl hFgb) (.inl hFmb) (fun k hk=>(g3 k hk).elim (fun h=>.inl (hFa k h)) fun h=>.inr (Nat.le_trans hsz h)) (fun k hk=>hk.elim (fun h=>.inl (hFg k h)) fun h=>.inr (h ▸ hb)) (fun k hk=>hk.elim (fun h=>.inr (hF2 k h)) fun h=>.inl (hFs k h)))
end
def D8 (gs:List BG) (now:Int):List Int:=Gs (Hs gs) now
def Mj (gs:List BG) (id:Int):List Int:=match Ml gs id with
 |some g=>g.L
 |none=>[]
def DB (gs:List BG) (now:Int):List (List Int):=(D8 gs now).map (Mj gs)
def B1 (f m now:Int) (I:List Int) (g:BG):BG:=if g.id ∈ I then ⟨g.id,g.L,now + W f m g.tries.toNat,g.tries + 1⟩ else g
def EQ (f m now:Int) (gs:List BG):List BG:=gs.map fun g=>if g.tm <= now then ⟨g.id,g.L,now + W f m g.tries.toNat,g.tries + 1⟩ else g
theorem Iq {now:Int}:∀ {l:List DE},l.Pairwise DV->(l.takeWhile fun p=>decide (p.2 <= now))=l.filter (fun p=>decide (p.2 <= now))/\(l.dropWhile fun p=>decide (p.2 <= now))=l.filter fun p=>!decide (p.2 <= now)
 | [],_=>⟨rfl,rfl⟩
 |x::l,h=>by
  rw [List.pairwise_cons] at h;have ih:=Iq (now:=now) h.2;by_cases hx:x.2 <= now
  ·rw [List.takeWhile_cons_of_pos (by simpa using hx),List.dropWhile_cons_of_pos (by simpa using hx),List.filter_cons_of_pos (by simpa using hx),List.filter_cons_of_neg (by simpa using hx),ih.1,ih.2];exact ⟨rfl,rfl⟩
  ·have hl:∀ p ∈ l,¬ p.2 <= now:=fun p hp=>by
    have:=h.1 p hp;unfold DV at this;omega
   rw [List.takeWhile_cons_of_neg (by simpa using hx),List.dropWhile_cons_of_neg (by simpa using hx),List.filter_cons_of_neg (by simpa using hx),List.filter_cons_of_pos (by simpa using hx),List.filter_eq_nil_iff.2 fun p hp=>by simpa using hl p hp,List.filter_eq_self.2 fun p hp=>by simpa using hl p hp];exact ⟨rfl,rfl⟩
section
variable {last f m now:Int} {gs:List BG}
theorem FW {x:DE}:x ∈ Hs gs ↔ ∃ g ∈ gs,bT g=x:=by rw [(Ek gs).mem_iff,List.mem_map]
theorem FH (h:C7 last gs) {g:BG} (hg:g ∈ gs):g.id ∈ D8 gs now ↔ g.tm <= now:=by
 unfold D8 Gs;rw [(Iq (Eg h.idn)).1,List.mem_map];constructor
 ·rintro ⟨p,hp,e⟩;rw [List.mem_filter] at hp;obtain ⟨g',hg',rfl⟩:=FW.1 hp.1;obtain rfl:=CU BG.id h.idn hg' hg e;simpa using hp.2
 ·intro ht;exact ⟨bT g,List.mem_filter.2 ⟨FW.2 ⟨g,hg,rfl⟩,by simpa using ht⟩,rfl⟩
theorem H5 {id:Int} (h:id ∈ D8 gs now):∃ g ∈ gs,g.id=id:=by
 unfold D8 Gs at h;obtain ⟨p,hp,rfl⟩:=List.mem_map.1 h;obtain ⟨g,hg,rfl⟩:=FW.1 ((List.takeWhile_sublist _).subset hp);exact ⟨g,hg,rfl⟩
theorem GR (h:C7 last gs):(D8 gs now).Nodup:=by
 unfold D8 Gs
 have h1:((Hs gs).map (·.1)).Nodup:=by
  rw [((Ek gs).map _).nodup_iff,List.map_map];exact h.idn
 exact h1.sublist ((List.takeWhile_sublist _).map _)
theorem H6:(D8 gs now).length <= gs.length:=by
 unfold D8 Gs;rw [List.length_map];exact Nat.le_trans (List.takeWhile_sublist _).length_le (Nat.le_of_eq (L3 gs))
theorem Jn (h:C7 last gs):gs.map (B1 f m now (D8 gs now))=EQ f m now gs:=by
 unfold EQ B1;refine List.map_congr_left fun g hg=>?_;have:=FH (now:=now) h hg;by_cases ht:g.tm <= now
 ·rw [if_pos (this.2 ht),if_pos ht]
 ·rw [if_neg (fun h=>ht (this.1 h)),if_neg ht]
theorem UA {l:List DE} (hn:(gs.map BG.id).Nodup) (h1:l.Pairwise DV) (h2:∀ x,x ∈ l ↔ ∃ g ∈ gs,bT g=x):l=Hs gs:=by
 have hd:∀ {l:List DE},l.Pairwise DV->l.Nodup:=fun h=>h.imp fun {a b} h e=>by
  subst e;unfold DV at h;omega
 exact Kg h1 (Eg hn) (EM (hd h1) (hd (Eg hn)) (fun x hx=>FW.2 ((h2 x).1 hx)) fun x hx=>(h2 x).2 (FW.1 hx))
theorem Re {l:List DE} {id tm:Int} {x:DE}:x ∈ Gb l id tm ↔ x=(id,tm) \/ (x ∈ l/\x.1 ≠ id):=by
 unfold Gb;rw [(Do _ _).mem_iff,List.mem_cons];unfold Dd;rw [List.mem_filter,decide_eq_true_eq]
theorem Rf {l:List DE} {id tm:Int}:(Gb l id tm).length <= l.length + 1:=by
 unfold Gb;rw [(Do _ _).length_eq,List.length_cons];exact Nat.succ_le_succ (List.length_filter_le _ _)
theorem CC (I:List Int) (g:BG):(B1 f m now I g).id=g.id/\(B1 f m now I g).L=g.L:=by
 unfold B1;split<;>exact ⟨rfl,rfl⟩
section
variable {q:BG->BG} (hq:∀ g,(q g).id=g.id/\(q g).L=g.L)
include hq
theorem Tc:(gs.map q).map BG.id=gs.map BG.id:=by
 rw [List.map_map];exact List.map_congr_left fun g _=>(hq g).1
theorem HQ:∀ gs:List BG,Aw (gs.map q)=Aw gs
 | []=>rfl
 |g::gs=>by
  have ih:=HQ gs;simp only [Aw] at ih ⊢;rw [List.map_cons,List.flatMap_cons,List.flatMap_cons,ih,(hq g).2]
theorem OM (id:Int):∀ gs:List BG,Ml (gs.map q) id=(Ml gs id).map q
 | []=>rfl
 |g::gs=>by
  have ih:=OM id gs;unfold Ml at ih ⊢;rw [List.map_cons,List.find?_cons,List.find?_cons,ih,(hq g).1];cases decide (g.id=id)<;>rfl
theorem MY (n:Int):∀ gs:List BG,EX (gs.map q) n=(EX gs n).map q
 | []=>rfl
 |g::gs=>by
  have ih:=MY n gs;unfold EX at ih ⊢;rw [List.map_cons,List.find?_cons,List.find?_cons,ih,(hq g).2];cases decide (n ∈ g.L)<;>rfl
theorem C7.map_ (h:C7 last gs) (h1:∀ g ∈ gs,1 <= (q g).tries/\(q g).tries <= 1099511627776) (h2:∀ g ∈ gs,0 <= (q g).tm/\(q g).tm <= 2305843009213693952):C7 last (gs.map q) where
 ids:=by rw [Tc hq];exact h.ids
 idb:=fun g hg=>by
  obtain ⟨x,hx,rfl⟩:=List.mem_map.1 hg;rw [(hq x).1];exact h.idb x hx
 srt:=fun g hg=>by
  obtain ⟨x,hx,rfl⟩:=List.mem_map.1 hg;rw [(hq x).2];exact h.srt x hx
 nd:=by rw [HQ hq];exact h.nd
 fit:=fun g hg=>by
  obtain ⟨x,hx,rfl⟩:=List.mem_map.1 hg;rw [(hq x).2];exact h.fit x hx
 tr:=fun g hg=>by
  obtain ⟨x,hx,rfl⟩:=List.mem_map.1 hg;exact h1 x hx
 tm:=fun g hg=>by
  obtain ⟨x,hx,rfl⟩:=List.mem_map.1 hg;exact h2 x hx
 len:=by rw [HQ hq];exact h.len
 lst:=h.lst
 cnt:=by rw [List.length_map];exact h.cnt
theorem Jt.map_ (h:Jt gs):Jt (gs.map q):=fun g hg=>by
 obtain ⟨x,hx,rfl⟩:=List.mem_map.1 hg;rw [(hq x).2];exact h x hx
theorem EF.map_ {M1 M2:List ME} {c1 c2:Nat} {B:Int->Nat} (hr:EF gs M1 M2 c1 c2 B):EF (gs.map q) M1 M2 c1 c2 B where
 inj:=fun g hg g' hg' e=>by
  obtain ⟨x,hx,rfl⟩:=List.mem_map.1 hg;obtain ⟨y,hy,rfl⟩:=List.mem_map.1 hg';rw [(hq x).1,(hq y).1] at e ⊢;exact hr.inj x hx y hy e
 m1:=hr.m1
 g1:=fun id=>by
  rw [hr.g1,OM hq,Option.map_map];rfl
 m2:=hr.m2
 g2:=fun n=>by
  rw [hr.g2,MY hq,Option.map_map];congr 1;funext g;rw [Function.comp_apply,(hq g).1]
theorem SE {X:Int->SX} {w:World} {F:Nat->Prop} {v:Value}:(I7 (gs.map q) X).at_ w F v ↔ (I7 gs X).at_ w F v:=by
 constructor
 ·intro h g hg;have:=h (q g) (List.mem_map.2 ⟨g,hg,rfl⟩);rw [(hq g).1,(hq g).2] at this;exact this
 ·intro h y hy;obtain ⟨g,hg,rfl⟩:=List.mem_map.1 hy;rw [(hq g).1,(hq g).2];exact h g hg
end
theorem Li {I:List Int} {id:Int} (h:C7 last gs) {g:BG} (hg:g ∈ gs) (hid:g.id=id) (hI:id ∉ I):(∀ x ∈ gs,x.id ≠ id->B1 f m now (I ++ [id]) x=B1 f m now I x)/\B1 f m now (I ++ [id]) g=⟨g.id,g.L,now + W f m g.tries.toNat,g.tries + 1⟩/\B1 f m now I g=g:=by
 refine ⟨fun x hx hne=>?_,?_,?_⟩
 ·unfold B1;by_cases e:x.id ∈ I
  ·rw [if_pos e,if_pos (List.mem_append.2 (.inl e))]
  ·rw [if_neg e,if_neg fun h=>(List.mem_append.1 h).elim e fun h=>hne (List.mem_singleton.1 h)]
 ·unfold B1;rw [if_pos (List.mem_append.2 (.inr (List.mem_singleton.2 hid)))]
 ·unfold B1;rw [if_neg (hid ▸ hI)]
end
theorem Hp.pack2 {w0 w:World} {A ol:OL} {F0:Nat->Prop} (h:Hp w0 w (A ++ ol)) (hF0:∀ k,F0 k->k < w0.heap.size) (hol:∀ e ∈ ol,∀ k,e.has k->w0.heap.size <= k) (hd:∀ e' ∈ A,∀ e ∈ ol,(e'.ex || e.ex)=true \/ ∀ k,e'.has k->¬ e.has k) (hA:∀ e ∈ A,∀ k,e.has k->F0 k \/ w0.heap.size <= k)
 (p:Vp) (hp:∀ F':Nat->Prop,(∀ e ∈ A,∀ k,e.has k->F' k)->p.at_ w F' (.bool true)):∃ F':Nat->Prop,(∀ k,F0 k->F' k)/\(∀ k,F' k->F0 k \/ w0.heap.size <= k)/\Hp w0 w (.rep (fun w=>p.at_ w F' (.bool true)) F' true::ol):=by
 refine ⟨fun k=>F0 k \/ ∃ e ∈ A,e.has k,fun k hk=>.inl hk,fun k hk=>?_,h.os,h.tape,h.output,h.size,fun k hk he=>h.old k hk fun e hm hx hh=>?_,fun e hm=>?_,?_⟩
 ·rcases hk with hk |⟨e,he,hk⟩
  ·exact .inl hk
  ·exact hA e he k hk
 ·rcases List.mem_append.1 hm with hm |hm
  ·exact he _ List.mem_cons_self rfl (.inr ⟨e,hm,hh⟩)
  ·exact he e (List.mem_cons_of_mem _ hm) hx hh
 ·rcases List.mem_cons.1 hm with rfl |hm
  ·refine ⟨hp _ fun e he k hk=>.inr ⟨e,he,hk⟩,Vp.loc,fun k hk=>?_⟩
   rcases hk with hk |⟨e,he,hk⟩
   ·exact Nat.lt_of_lt_of_le (hF0 k hk) h.size
   ·exact h.lt (List.mem_append.2 (.inl he)) hk
  ·exact h.own e (List.mem_append.2 (.inr hm))
 ·refine List.pairwise_cons.2 ⟨fun e he _ k hk hk2=>?_,(List.pairwise_append.1 h.apart).2.1⟩
  rcases hk with hk |⟨e',he',hk⟩
  ·have h1:=hF0 k hk;have h2:=hol e he k hk2;omega
  ·rcases hd e' he' e he with hx |hx
   ·exact (List.pairwise_append.1 h.apart).2.2 e' he' e he hx k hk hk2
   ·exact hx k hk hk2
theorem Hp.graftTV {w0 w w':World} {ol ol':OL} (i:Nat) {Φ Ψ Θ:World->Prop} {F F' Fv:Nat->Prop} (hh:Hp w0 w ol) (hi:B9 ol i=some (.rep Φ F true)) (h2:Hp w w' [.rep Θ Fv false,.rep Ψ F' true]) (hv:∀ k,Fv k->w.heap.size <= k) (hF:∀ k,F k->F' k) (hF':∀ k,F' k->F k \/ w.heap.size <= k)
 (hput:Dc ol i (.rep Ψ F' true)=some ol'):Hp w0 w' (.rep Θ Fv false::ol'):=by
 have h3:=hh.graftT i hi h2.dropr hF hF' hput;refine h3.more (h2.own _ List.mem_cons_self) fun e he hr k hk hk'=>?_;have h4:=hv k hk
 have hex:e.ex=true:=by simpa [HE.ex] using hr
 obtain ⟨pre,post,e1,e2⟩:=CP hi hput;rw [e2] at he
 rcases List.mem_append.1 he with he |he
 ·have:=hh.lt (e:=e) (by rw [e1];exact List.mem_append.2 (.inl he)) hk';omega
 ·rcases List.mem_cons.1 he with rfl |he
  ·exact (List.pairwise_cons.1 h2.apart).1 _ List.mem_cons_self rfl k hk hk'
  ·have:=hh.lt (e:=e) (by rw [e1];exact List.mem_append.2 (.inr (List.mem_cons_of_mem _ he))) hk';omega
abbrev PT:Eh (List (List Int)):=Az (Az (A8 .u64))
theorem PK {bb:Nat} {f m last:Int} {gs:List BG} {w w0:World} {ol:OL} {F0:Nat->Prop} {h:BH} (hh:Hp w0 w (Ha bb f m gs last h true false ++ ol)) (hp:PR f m) (hok:C7 last gs) (hne:Jt gs) (hr:EF gs h.M1 h.M2 h.c1 h.c2 h.B) (hF0:∀ k,F0 k->k < w0.heap.size) (hol:∀ e ∈ ol,∀ k,e.has k->w0.heap.size <= k) (hd:∀ e ∈ ol,∀ k,h.Fs k->¬ e.has k)
 (hA:∀ e ∈ Ha bb f m gs last h true true,∀ k,e.has k->F0 k \/ w0.heap.size <= k):∃ F':Nat->Prop,(∀ k,F0 k->F' k)/\(∀ k,F' k->F0 k \/ w0.heap.size <= k)/\Hp w0 w (.rep (fun w=>(DJ bb f m gs last).at_ w F' (.bool true)) F' true::ol):=by
 refine hh.pack2 hF0 hol (fun e' he' e he=>?_) (fun e he k hk=>?_) (DJ bb f m gs last) fun F' hF'=>(DJ bb f m gs last).mono (UU hh hp hok hne hr) fun k hk=>?_
 ·simp only [Ha,List.mem_cons,List.not_mem_nil,or_false] at he'
  rcases he' with rfl |rfl |rfl |rfl |rfl |rfl
  ·exact .inl rfl
  ·exact .inl rfl
  ·exact .inl rfl
  ·exact .inl rfl
  ·exact .inl rfl
  ·exact .inr (hd e he)
 ·simp only [Ha,List.mem_cons,List.not_mem_nil,or_false] at he
  rcases he with rfl |rfl |rfl |rfl |rfl |rfl
  ·exact hA _ (Af (i:=0) rfl) k hk
  ·exact hA _ (Af (i:=1) rfl) k hk
  ·exact hA _ (Af (i:=2) rfl) k hk
  ·exact hA _ (Af (i:=3) rfl) k hk
  ·exact hA _ (Af (i:=4) rfl) k hk
  ·exact hA _ (Af (i:=5) rfl) k hk
 ·obtain ⟨e,he,hk⟩:=hk;exact Ko (G:=F') (hF' _ (Af (i:=0) rfl) bb rfl) (hF' _ (Af (i:=1) rfl) h.gb rfl) (hF' _ (Af (i:=2) rfl) h.mb rfl) (hF' _ (Af (i:=3) rfl)) (hF' _ (Af (i:=4) rfl)) (hF' _ (Af (i:=5) rfl)) e he k hk
structure Yo where
 i:Nat
 A:Option Addr
 C:Nat
 css:List (List Value)
 al:List DE
 Fa:Nat->Prop
 Fo:Nat->Prop
section
variable {bb:Nat} {f m last:Int} {gs:List BG} {w w0:World} {F:Nat->Prop} {ol:OL}
set_option maxHeartbeats 8000000 in
theorem Wu (h:(DJ bb f m gs last).at_ w F (.bool true)) (hF:∀ k,F k->k < w.heap.size) {now:Int} (hnow:0 <= now/\now <= 1152921504606846976) (htr:∀ g ∈ gs,g.tries < 1099511627776):
 Calls Tryz.prog 50 #[AF bb,.int .i64 now] w fun e w'=>∃ v Fv,e= .returned v/\(∀ k,Fv k->w.heap.size <= k)/\∃ F':Nat->Prop,(∀ k,F k->F' k)/\(∀ k,F' k->F k \/ w.heap.size <= k)/\
  Hp w w' [.rep (fun w=>(PT.vp (DB gs now)).at_ w Fv v) Fv false,.rep (fun w=>(DJ bb f m (EQ f m now gs) last).at_ w F' (.bool true)) F' true]:=by
 obtain ⟨x,hp,hok,hr,hst,hcov,hne⟩:=GT h true false;obtain ⟨gb,mb,ab,c1,c2,M1,M2,Bk,X,Fa,Fg,Fs⟩:=x;dsimp only at hr hst;have hFb:F bb:=hcov _ (Af (i:=0) rfl) bb rfl;have hFgb:F gb:=hcov _ (Af (i:=1) rfl) gb rfl;have hFmb:F mb:=hcov _ (Af (i:=2) rfl) mb rfl;have hFa:∀ k,Fa k->F k:=hcov _ (Af (i:=3) rfl);have hFg:∀ k,Fg k->F k:=hcov _ (Af (i:=4) rfl);have hFs:∀ k,Fs k->F k:=hcov _ (Af (i:=5) rfl);clear hcov;have hcnt:=hok.cnt;have hal:=L3 gs;refine BO Tryz.func50 rfl rfl hst ?_;repeat (first |refine Ai ?_ |refine Ab ?_ |refine Ag ?_ |refine Ae Aa rfl ?_)
 refine BE (CS Aa rfl rfl rfl rfl rfl) ?_;repeat (first |refine Ag ?_)
 refine AG rfl ?_;repeat (first |refine Ai ?_ |refine Ab ?_ |refine Ag ?_ |refine Ad ?_ |refine Ao ?_ |refine Ae Aa rfl ?_ |refine An Aa 0 rfl rfl rfl ?_)
 refine Ij 3 rfl Tryz.call75 rfl (fun w1 g1=>(WA (g1.own _ (Af (i:=3) rfl)).1 (g1.own _ (Af (i:=3) rfl)).2.2 (by omega) now).mono fun e w' ⟨A1,C1,he,Fa1,g2,g3,g4⟩=>⟨_,_,Fa1,_,_,_,_,_,he,g4,g2,g3,_,rfl,?_⟩);have hsz:=g1.size;have hFa1:∀ k,Fa1 k->F k \/ w.heap.size <= k:=fun k hk=>(g3 k hk).elim (fun h=>.inl (hFa k h)) fun h=>.inr (Nat.le_trans hsz h);obtain ⟨ids,hids⟩:∃ ids,ids=D8 gs now:=⟨_,rfl⟩;have hids2:Gs (Hs gs) now=ids:=hids.symm;have hil:ids.length <= gs.length:=hids ▸ H6;have hind:ids.Nodup:=hids ▸ GR hok;rw [hids2];clear g4 he g2 g3;repeat (first |refine Aq ?_ |refine Ag ?_ |refine Ae Aa rfl ?_)
 have hnb:∀ I,C7 last (gs.map (B1 f m now I)):=fun I=>hok.map_ (CC I) (fun g hg=>by
  have h1:=hok.tr g hg;have h2:=htr g hg;unfold B1;split
  ·dsimp only;omega
  ·exact h1) (fun g hg=>by
  have h1:=hok.tm g hg;have h2:=Hb hp.1 hp.2.1 g.tries.toNat;have h3:=hp.2.2;unfold B1;split
  ·dsimp only;omega
  ·exact h1)
 have e0:gs.map (B1 f m now (ids.take 0))=gs:=by
  rw [List.take_zero]
  have:∀ g ∈ gs,B1 f m now [] g=id g:=fun g _=>by unfold B1;rw [if_neg (by simp)];rfl
  rw [List.map_congr_left this,List.map_id]
 refine AM (ι:=Yo) (fun j=>[(0,AF bb),(1,.int .i64 now),(16,.slice A1 ids.length C1),(17,.int .i64 (ids.length:Int)),(18,.int .i64 (j.i:Int)),(5,.slice j.A j.i j.C)])
  (fun j=>[.blk bb (WU f m gb mb ab last) true,.blk gb (Cb .u64 M1 c1) true,.blk mb (Cb .u64 M2 c2) true,.rep (fun w=>(I4 ab j.al).at_ w j.Fa (.bool true)) j.Fa true,.rep (fun w=>(Mk (gs.map (B1 f m now (ids.take j.i))) Bk X).at_ w Fg (.bool true)) Fg true,.rep (fun w=>(I7 gs X).at_ w Fs (.bool true)) Fs false,
   .row w.heap.size (.slice j.A j.i j.C) 59 1 j.i j.css.flatten,GZ w.heap.size (.slice A1 ids.length C1) ids,.rep (fun w=>(Cj (Az (A8 .u64)) j.css ((ids.take j.i).map (Mj gs))).at_ w j.Fo (.bool true)) j.Fo false])
  (fun j=>j.i <= ids.length/\j.al.Pairwise DV/\(∀ x,x ∈ j.al ↔ ∃ g ∈ gs.map (B1 f m now (ids.take j.i)),g.id ∉ ids.drop j.i/\bT g=x)/\j.al.length <= gs.length + j.i/\(∀ k,j.Fa k->F k \/ w.heap.size <= k)/\(∀ k,j.Fo k->w.heap.size <= k)/\j.css.flatten.length=j.i)
  (fun j=>ids.length - j.i) ⟨0,none,0,[],Le (Hs gs) now,Fa1,fun _=>False⟩ ⟨Nat.zero_le _,(Eg hok.idn).sublist (List.dropWhile_sublist _),fun x=>?_,?_,hFa1,fun k hk=>hk.elim,rfl⟩ (by repeat (first |exact As.nil |refine As.cons rfl ?_)) (fun w' hw=>?_) ?_
 ·dsimp only;rw [e0,List.drop_zero];unfold Le;rw [(Iq (Eg hok.idn)).2,List.mem_filter,FW];constructor
  ·rintro ⟨⟨g,hg,rfl⟩,h2⟩;refine ⟨g,hg,fun h3=>?_,rfl⟩;have:=(FH hok hg).1 (hids ▸ h3);simp [this] at h2
  ·rintro ⟨g,hg,h2,rfl⟩;refine ⟨⟨g,hg,rfl⟩,?_⟩;have:¬ g.tm <= now:=fun h3=>h2 (hids ▸ (FH hok hg).2 h3);simp [this]
 ·exact Nat.le_trans (List.dropWhile_sublist _).length_le (by rw [hal];exact Nat.le_refl _)
 ·dsimp only;rw [e0];have h9:=((hw.none (p:=Cj (Az (A8 .u64)) [] []) (v:=.bool true) (fun w=>Cj.nil_) false).nilRow 59 1).pm [3,4,5,6,7,8,0,2,1] rfl rfl rfl;exact h9
 rintro ⟨i,A,C,css,al,Fa,Fo⟩ ⟨hi,hsrt,hmem,hall,hFa,hFo,hcss⟩;dsimp only at hi hsrt hmem hall hFa hFo hcss ⊢;repeat (first |refine Ai ?_ |refine Ab ?_ |refine Ag ?_ |refine Ae Aa rfl ?_)
 refine Ak rfl (fun hlt1=>?_) (fun hge=>?_);rotate_left
 ·have hie:i=ids.length:=by omega
  subst hie;rw [List.take_length] at hmem ⊢;rw [List.drop_length] at hmem
  have eg:gs.map (B1 f m now ids)=EQ f m now gs:=by rw [hids];exact Jn hok
  have eal:al=Hs (EQ f m now gs):=UA (by rw [<-eg];exact (hnb ids).idn) hsrt fun x=>by
   rw [hmem,eg];exact ⟨fun ⟨g,h1,_,h3⟩=>⟨g,h1,h3⟩,fun ⟨g,h1,h3⟩=>⟨g,h1,List.not_mem_nil,h3⟩⟩
  repeat (first |refine Ai ?_ |refine Ab ?_ |refine Ag ?_ |refine Ad ?_ |refine AB ?_ |refine Al ?_ |refine AC ?_ |refine AH ?_ |refine Ae Aa rfl ?_)
  refine AZ rfl rfl (fun w' hw=>?_);rw [eal] at hw;obtain ⟨Fr,hFr,h1⟩:=(hw.pm [6,8,0,1,2,3,4,5,7] rfl rfl rfl).share (p:=JN w.heap.size 59 1 ids.length css.flatten) (fun h=>⟨h,fun k hk=>hk⟩);have h2:=h1.merge (Ψ:=fun w=>(PT.vp (DB gs now)).at_ w (fun k=>Fr k \/ Fo k) (.slice A ids.length C)) (fun q1 q2=>?_) (Vp.loc (p:=PT.vp _))
  ·have h3a:Hp w w' [.blk bb (WU f m gb mb ab last) true,.blk gb (Cb .u64 M1 c1) true,.blk mb (Cb .u64 M2 c2) true,.rep (fun w=>(I4 ab (Hs (EQ f m now gs))).at_ w Fa (.bool true)) Fa true,.rep (fun w=>(Mk (gs.map (B1 f m now ids)) Bk X).at_ w Fg (.bool true)) Fg true,.rep (fun w=>(I7 gs X).at_ w Fs (.bool true)) Fs false,.rep (fun w=>(PT.vp (DB gs now)).at_ w (fun k=>Fr k \/ Fo k) (.slice A ids.length C)) (fun k=>Fr k \/ Fo k) false]:=(h2.pm [1,2,3,4,5,6,0,7] rfl rfl rfl).less (by repeat (first |exact Au.nil |refine Au.keep ?_ |refine Au.dropW (Nat.le_refl _) ?_));have h3:=h3a.mapI 4 rfl (Ψ:=fun w=>(Mk (EQ f m now gs) Bk X).at_ w Fg (.bool true)) (fun h=>eg ▸ h) (Vp.loc (p:=Mk _ _ _)) rfl;have h4:=h3.mapI 5 rfl (Ψ:=fun w=>(I7 (EQ f m now gs) X).at_ w Fs (.bool true)) (fun h=>eg ▸ (SE (CC _)).2 h) (Vp.loc (p:=I7 _ _)) rfl
   obtain ⟨F',g1,g2,g3⟩:=PK (F0:=F) (h:=⟨gb,mb,ab,c1,c2,M1,M2,Bk,X,Fa,Fg,Fs⟩) (ol:=[.rep (fun w=>(PT.vp (DB gs now)).at_ w (fun k=>Fr k \/ Fo k) (.slice A ids.length C)) (fun k=>Fr k \/ Fo k) false]) h4 hp (eg ▸ hnb ids) (eg ▸ hne.map_ (CC _)) (eg ▸ hr.map_ (CC _)) hF (fun e he k hk=>by
    rw [List.mem_singleton] at he;subst he
    exact hk.elim (hFr k) (hFo k)) (fun e he k hk hk2=>by
    rw [List.mem_singleton] at he;subst he;have h5:=hF k (hFs k hk);have h6:w.heap.size <= k:=hk2.elim (hFr k) (hFo k)
    omega) (Ko (.inl hFb) (.inl hFgb) (.inl hFmb) hFa (fun k hk=>.inl (hFg k hk)) (fun k hk=>.inl (hFs k hk)))
   exact ⟨_,_,rfl,fun k hk=>hk.elim (hFr k) (hFo k),F',g1,g2,g3.pm [1,0] rfl rfl rfl⟩
  ·have h5:(Cj (Az (A8 .u64)) css (DB gs now)).at_ w' (fun k=>Fr k \/ Fo k) (.bool true):=by
    rw [show DB gs now=ids.map (Mj gs) from by rw [hids];rfl];exact (Cj _ _ _).mono q2 fun k hk=>.inr hk
   exact (Cj.slr h5 (R:=Az (A8 .u64)) q1.1 (by rw [show DB gs now=ids.map (Mj gs) from by rw [hids];rfl,List.length_map]) fun k _ hk=>.inl (q1.2 k hk)).val
 have hin:i < ids.length:=by omega
 obtain ⟨id,hid⟩:∃ id,ids[i]? =some id:=⟨_,List.getElem?_eq_getElem hin⟩
 have htk:ids.take (i + 1)=ids.take i ++ [id]:=by
  rw [List.take_succ_eq_append_getElem hin];rw [List.getElem?_eq_getElem hin] at hid;rw [Option.some.inj hid]
 have hdr:ids.drop i=id::ids.drop (i + 1):=by
  rw [List.drop_eq_getElem_cons hin];rw [List.getElem?_eq_getElem hin] at hid;rw [Option.some.inj hid]
 obtain ⟨g,hgm,hgi⟩:=H5 (hids ▸ List.mem_of_getElem? hid)
 have hnt:id ∉ ids.take i:=fun hm=>by
  have h1:(ids.take (i + 1)).Nodup:=hind.sublist (List.take_sublist _ _);rw [htk,List.nodup_append] at h1;exact h1.2.2 id hm id (List.mem_singleton.2 rfl) rfl
 have hnd:id ∉ ids.drop (i + 1):=fun hm=>by
  have h1:(ids.drop i).Nodup:=hind.sublist (List.drop_sublist _ _);rw [hdr,List.nodup_cons] at h1;exact h1.1 hm
 have hm1:=hr.g1 id;rw [<-hgi,E9 hok hgm,hgi] at hm1;obtain ⟨hb1,hb2,hb3⟩:=Li (f:=f) (m:=m) (now:=now) hok hgm hgi hnt;have hgm2:g ∈ gs.map (B1 f m now (ids.take i)):=List.mem_map.2 ⟨g,hgm,hb3⟩;have hgtr:=hok.tr g hgm;have hgtr2:=htr g hgm;have hW:=Hb hp.1 hp.2.1 g.tries.toNat;have hp3:=hp.2.2;have hgl:=Jj hgm;have hl1:=hok.len
 have hlo:Mj gs id=g.L:=by unfold Mj;rw [<-hgi,E9 hok hgm]
 repeat (first |refine Ai ?_ |refine Ab ?_ |refine Aq ?_ |refine Ad ?_ |refine Ao ?_)
 refine Fi 7 rfl (by omega) (fun gN hgN=>?_);subst hgN;refine BE (Ay Aa rfl rfl rfl rfl rfl rfl rfl (j:=i) rfl hin) ?_;refine Bh Aa (v:=.int .u64 id) rfl rfl (fun w' hw=>Cn (hw.own _ (Af (i:=7) rfl)) (by omega) (by rw [Nat.zero_add,List.getElem?_map,hid];rfl)) ?_;repeat (first |refine Ai ?_ |refine Ab ?_ |refine Ag ?_ |refine Ae Aa rfl ?_ |refine An Aa 0 rfl rfl rfl ?_)
 refine BE (N6 (v:=AF (Bk id)) Aa rfl rfl rfl rfl rfl rfl rfl rfl (fun w' hw=>hw.own _ (Af (i:=1) rfl)) hm1) ?_;repeat (first |refine Ai ?_ |refine Ab ?_ |refine Ag ?_ |refine Ae Aa rfl ?_)
 refine BR Aa (vs:=[(X g.id).v]) rfl rfl rfl (fun w' hw j u hu=>by
  rw [Addr.add_lit,<-hgi];refine Km ((hw.own _ (Af (i:=4) rfl)).1 g hgm2).1 (j:=j) ?_
  cases j with
  |zero=>exact hu
  |succ j=>simp at hu) ?_
 refine Dp (RG g.L) Fs rfl Tryz.call76 (fun w1 h1=>by
  have h5:=Vp.fact (p:=I7 gs X) (v:=.bool true) (A:=Fs) h1 5 rfl (fun k hk=>.inl hk) g hgm
  exact (Xt h5 (by omega) (hok.srt g hgm) (fun x=>Iff.rfl)).mono fun e w'' ⟨r,e1,e2,e3⟩=>⟨r,e1,e2,(RG _).mono e3 fun k hk=>hk.elim (fun h=>h.1) (ET h1)⟩) (fun v1 F1 w2 hF1 hv1=>?_)
 refine Dp ((Az (A8 .u64)).vp g.L) (fun _=>False) rfl Tryz.call62 (fun w1 h1=>(NS (h1.own _ (Af (i:=0) rfl)).1 (by omega)).mono fun e w'' ⟨r,e1,e2,e3⟩=>⟨r,e1,e2,Sj h1 e3⟩) (fun v2 F2 w3 hF2 hv2=>?_);obtain ⟨a2,n2,k2,rfl,_⟩:=Br.form hv2;refine AO Aa rfl rfl rfl rfl rfl rfl rfl rfl rfl rfl rfl rfl (fun nb hnb2=>?_);refine AT (ty:=0) (k:=1) (news:=[.slice a2 n2 k2]) Aa 9 (sz:=1) rfl rfl rfl rfl rfl rfl rfl rfl rfl (by decide) (fun w' hw=>Sl.of_blk (hw.own _ (Af (i:=0) rfl)) rfl (fun j u hu=>by rw [Nat.zero_add];exact hu)) (fun u hu=>by rw [List.mem_singleton] at hu;subst hu;rfl) (by simp only [maxLen];omega) (by show (_ + _) * 24 <= _;omega) rfl (fun A' C' hA' hC'=>⟨_,rfl,?_⟩)
 refine B0 (ol':=[.blk bb (WU f m gb mb ab last) true,.blk gb (Cb .u64 M1 c1) true,.blk mb (Cb .u64 M2 c2) true,.rep (fun w=>(I4 ab al).at_ w Fa (.bool true)) Fa true,.rep (fun w=>(Mk (gs.map (B1 f m now (ids.take i))) Bk X).at_ w Fg (.bool true)) Fg true,.rep (fun w=>(I7 gs X).at_ w Fs (.bool true)) Fs false,
  .row w.heap.size (.slice A' (i + 1) C') 59 1 (i + 1) (css ++ [[Value.slice a2 n2 k2]]).flatten,GZ w.heap.size (.slice (some ⟨gN,0,none⟩) ids.length C1) ids,.rep (fun w=>(Cj (Az (A8 .u64)) (css ++ [[Value.slice a2 n2 k2]]) ((ids.take (i + 1)).map (Mj gs))).at_ w (fun k=>F2 k \/ Fo k) (.bool true)) (fun k=>F2 k \/ Fo k) false]) (fun w' hw=>?_) ?_
 ·have h9:=(hw.pm [1,11,0,2,3,4,5,6,7,8,9,10] rfl rfl rfl).merge (Ψ:=fun w=>(Cj (Az (A8 .u64)) (css ++ [[Value.slice a2 n2 k2]]) ((ids.take (i + 1)).map (Mj gs))).at_ w (fun k=>F2 k \/ Fo k) (.bool true)) (fun q1 q2=>?_) (Vp.loc (p:=Cj _ _ _))
  ·have e9:(css ++ [[Value.slice a2 n2 k2]]).flatten=css.flatten ++ [Value.slice a2 n2 k2]:=by rw [List.flatten_append];rfl
   rw [e9];exact (h9.pm [3,4,5,6,7,8,9,10,0,1,2] rfl rfl rfl).less (by repeat (first |exact Au.nil |refine Au.keep ?_ |refine Au.dropR ?_ |refine Au.dropB (by first |assumption |omega) ?_))
  ·rw [htk,List.map_append,List.map_cons,List.map_nil,hlo];exact Cj.snoc ((Cj _ _ _).mono q2 fun k hk=>.inr hk) ((Az (A8 .u64)).at_mono q1 fun k hk=>.inl hk)
 repeat (first |refine Ai ?_ |refine Ag ?_ |refine Ae Aa rfl ?_)
 refine Cd (by kernel_rfl) 16 rfl (by kernel_rfl) ?_;repeat (first |refine Ah Aa rfl ?_ |refine AE Aa 0 rfl rfl rfl ?_)
 refine Av Aa (v:=.int .i64 g.tries) rfl rfl (fun w' hw=>by
  rw [<-hgi]
  exact Km ((hw.own _ (Af (i:=4) rfl)).1 g hgm2).1 (j:=1) rfl) ?_
 refine Bi (v:=.int .i64 (W f m g.tries.toNat)) rfl Tryz.call74 (fun w' vs hw' h=>by
  obtain ⟨u1,_,rfl,rfl,u2,_,rfl,rfl,rfl⟩:=h
  exact Ng f m g.tries w' hp.1 hp.2.2 hp.2.1) ?_
 repeat (first |refine AN rfl ?_ |refine BD Aa rfl (by omega) ?_)
 refine CA 3 rfl Tryz.call77 rfl (fun w1 g1=>(RI (g1.own _ (Af (i:=3) rfl)).1 (g1.own _ (Af (i:=3) rfl)).2.2 (by omega) id (now + W f m g.tries.toNat)).mono fun e w' ⟨he,Fa',g2',g3,g4⟩=>⟨_,_,Fa',he,g4,g2',g3,_,rfl,?_⟩);have hsz2:=g1.size;clear g4;refine WI (p:=Fg (Bk g.id)) (fun w' hw=>((hw.own _ (Af (i:=4) rfl)).1 g hgm2).2) (fun hFgg=>?_);repeat (first |refine Ag ?_ |refine Ae Aa rfl ?_ |refine Ap ?_)
 refine Bh Aa (v:=.int .i64 g.tries) rfl rfl (fun w' hw=>by
  rw [<-hgi]
  exact Km ((hw.own _ (Af (i:=4) rfl)).1 g hgm2).1 (j:=1) rfl) ?_
 repeat (first |refine AD Aa rfl (by omega) ?_ |refine Ae Aa rfl ?_)
 refine KA Aa 4 (Ψ:=fun w=>(Mk (gs.map (B1 f m now (ids.take (i + 1)))) Bk X).at_ w Fg (.bool true)) [(X g.id).v,.int .i64 g.tries] [(X g.id).v,.int .i64 (g.tries + 1)] 144 rfl rfl (fun u hu=>by rw [List.mem_singleton] at hu;subst hu;rfl) rfl (hgi ▸ hFgg) (fun w h=>hgi ▸ (h g hgm2).1) rfl (fun w w' h h1 h2 y hy=>?_) Vp.loc rfl ?_
 ·obtain ⟨z,hz,rfl⟩:=List.mem_map.1 hy;rw [htk,(CC _ z).1];by_cases e:z.id=id
  ·obtain rfl:=CU BG.id hok.idn hz hgm (e.trans hgi.symm);rw [hb2,hgi];dsimp only;rw [hgi] at h2 hFgg;exact ⟨h2,hFgg⟩
  ·rw [hb1 z hz e];have h7:=h (B1 f m now (ids.take i) z) (List.mem_map.2 ⟨z,hz,rfl⟩);rw [(CC _ z).1] at h7;exact ⟨(h1 _ fun e2=>e ((hr.inj z hz g hgm (e2.trans (by rw [hgi]))).trans hgi)).trans h7.1,h7.2⟩
 repeat (first |refine Ab ?_ |refine Ag ?_ |refine Ad ?_ |refine Am ?_ |refine AD Aa rfl (by omega) ?_ |refine Ae Aa rfl ?_)
 refine ⟨⟨i + 1,A',C',css ++ [[Value.slice a2 n2 k2]],Gb al id (now + W f m g.tries.toNat),Fa',fun k=>F2 k \/ Fo k⟩,⟨hin,H7 hsrt,fun x=>?_,?_,fun k hk=>(g3 k hk).elim (hFa k) fun h=>.inr (Nat.le_trans hsz2 h),fun k hk=>hk.elim (fun h=>(hF2 k h).resolve_left (fun h=>h)) (hFo k),?_⟩,(by repeat (first |exact As.nil |refine As.cons rfl ?_)),fun w' hw=>hw,by dsimp only;omega⟩
 ·dsimp only;rw [Re,hmem];constructor
  ·rintro (rfl |⟨⟨y,hy,h2,rfl⟩,h3⟩)
   ·refine ⟨B1 f m now (ids.take (i + 1)) g,List.mem_map.2 ⟨g,hgm,rfl⟩,?_,?_⟩
    ·rw [(CC _ g).1,hgi];exact hnd
    ·rw [htk,hb2,<-hgi]
   ·obtain ⟨z,hz,rfl⟩:=List.mem_map.1 hy;rw [(CC _ z).1] at h2;have h4:z.id ≠ id:=fun e=>h3 ((CC _ z).1.trans e);refine ⟨B1 f m now (ids.take (i + 1)) z,List.mem_map.2 ⟨z,hz,rfl⟩,?_,?_⟩
    ·rw [(CC _ z).1];exact fun h=>h2 (by rw [hdr];exact List.mem_cons_of_mem _ h)
    ·rw [htk,hb1 z hz h4]
  ·rintro ⟨y,hy,h2,rfl⟩;obtain ⟨z,hz,rfl⟩:=List.mem_map.1 hy;rw [(CC _ z).1] at h2;by_cases e:z.id=id
   ·obtain rfl:=CU BG.id hok.idn hz hgm (e.trans hgi.symm);rw [htk,hb2];exact .inl (by rw [<-hgi])
   ·rw [htk,hb1 z hz e];refine .inr ⟨⟨B1 f m now (ids.take i) z,List.mem_map.2 ⟨z,hz,rfl⟩,?_,rfl⟩,?_⟩
    ·rw [(CC _ z).1,hdr,List.mem_cons];exact fun h=>h.elim e h2
    ·exact fun h=>e ((CC _ z).1.symm.trans h)
 ·have:=Rf (l:=al) (id:=id) (tm:=now + W f m g.tries.toNat);dsimp only;omega
 ·dsimp only;rw [List.flatten_append,List.length_append,hcss];rfl
end
theorem Hp.dis {w0 w:World} {ol:OL} (h:Hp w0 w ol) {x y:HE} (i j:Nat) (hi:B9 ol i=some x) (hj:B9 ol j=some y) (hx:(x.ex || y.ex)=true) (hij:Nat.beq i j=false) {k:Nat} (h1:x.has k) (h2:y.has k):False:=by
 rw [J3] at hi hj;obtain ⟨hi1,hi2⟩:=List.getElem?_eq_some_iff.1 hi;obtain ⟨hj1,hj2⟩:=List.getElem?_eq_some_iff.1 hj;have hne:i ≠ j:=Nat.ne_of_beq_eq_false hij
 rcases Nat.lt_or_gt_of_ne hne with hlt |hlt
 ·have:=List.pairwise_iff_getElem.1 h.apart i j hi1 hj1 hlt;rw [hi2,hj2] at this;exact this hx k h1 h2
 ·have:=List.pairwise_iff_getElem.1 h.apart j i hj1 hi1 hlt;rw [hi2,hj2] at this;exact this (by rw [Bool.or_comm];exact hx) k h2 h1
structure L8 {α:Type} (R:Eh α) (w:World) (A:Nat->Prop) (a:Option Addr) (n c:Nat) (l:List α) (css:List (List Value)):Prop where
 base:Br R w A a n c l
 cl:css.length=n
 at_:∀ (i:Nat) (cs:List Value) (x:α),css[i]? =some cs->l[i]? =some x->R.at_ w A cs x
 sl:Sl w R.sz a n css.flatten
theorem L8.keep {α:Type} {R:Eh α} {w w':World} {A B:Nat->Prop} {a:Option Addr} {n c:Nat} {l:List α} {css:List (List Value)} (h:L8 R w A a n c l css) (hk:∀ k,A k->k < w.heap.size->w'.heap[k]? =w.heap[k]?/\B k):L8 R w' B a n c l css:=by
 refine ⟨h.base.keep hk,h.cl,fun i cs x h1 h2=>R.keep (h.at_ i cs x h1 h2) hk,h.sl.len,fun hn=>?_⟩;obtain ⟨b,off,e,hlt,hc⟩:=h.sl.get hn;obtain ⟨b',off',cs,e',hlt',_,_,_,hA⟩:=h.base.get_ (i:=0) (by rw [h.base.len];exact hn);rw [e] at e';cases e';have h1:=(hk b hA hlt).1;obtain ⟨o,ho⟩:∃ o,w.heap[b]? =some o:=⟨_,Array.getElem?_eq_getElem hlt⟩;exact ⟨b,off,e,AU (h1.trans ho),fun j u hu=>(World.cell?_of_block (w:=w) (a:=⟨b,off + j,none⟩) h1).trans (hc j u hu)⟩
def DI (a:Option Addr) (n c:Nat) (xs:List SX) (L:List (List Int)):Vp:=
 ⟨fun w A _=>L8 (Az (A8 .u64)) w A a n c L (xs.map fun x:SX=>[x.v]),fun h hk=>h.keep hk⟩
theorem Sx {w:World} {A:Nat->Prop} {v:Value} {L:List (List Int)} (h:PT.val w A v L):∃ a n c xs,v= .slice a n c/\(DI a n c xs L).at_ w A (.bool true):=by
 obtain ⟨a,n,c,rfl,h1⟩:=Br.form h;obtain ⟨css,h2,h3,h4⟩:=h1.each
 have hx:∃ xs:List SX,css=xs.map fun x:SX=>[x.v]:=by
  have:∀ cs ∈ css,∃ x:SX,cs= [x.v]:=fun cs hc=>by
   obtain ⟨i,hi⟩:=List.mem_iff_getElem?.1 hc;have hil:=(List.getElem?_eq_some_iff.1 hi).1;obtain ⟨y,hy⟩:∃ y,L[i]? =some y:=⟨_,List.getElem?_eq_getElem (by rw [h1.len,<-h2];exact hil)⟩;obtain ⟨a',n',c',e,_⟩:=h3 i cs y hi hy;exact ⟨⟨a',n',c'⟩,e⟩
  clear h2 h3 h4
  induction css with
  |nil=>exact ⟨[],rfl⟩
  |cons cs css ih=>
   obtain ⟨x,hx⟩:=this cs List.mem_cons_self;obtain ⟨xs,hxs⟩:=ih fun y hy=>this y (List.mem_cons_of_mem _ hy);exact ⟨x::xs,by rw [hx,hxs];rfl⟩
 obtain ⟨xs,rfl⟩:=hx;exact ⟨a,n,c,xs,rfl,h1,h2,h3,h4⟩
theorem Um (xs:List SX):(xs.map fun x:SX=>[x.v]).flatten=xs.map SX.v:=by
 induction xs with
 |nil=>rfl
 |cons x xs ih=>rw [List.map_cons,List.flatten_cons,ih];rfl
theorem DI.len {a:Option Addr} {n c:Nat} {xs:List SX} {L:List (List Int)} {w:World} {A:Nat->Prop} {v:Value} (h:(DI a n c xs L).at_ w A v):L.length=n/\xs.length=n:=by
 have h1:L8 (Az (A8 .u64)) w A a n c L (xs.map fun x:SX=>[x.v]):=h;exact ⟨h1.base.len,by simpa using h1.cl⟩
theorem DI.addr {a:Option Addr} {n c:Nat} {xs:List SX} {L:List (List Int)} {w:World} {A:Nat->Prop} {v:Value} (h:(DI a n c xs L).at_ w A v) (hn:0 < n):∃ b off,a=some ⟨b,off,none⟩:=by
 have h1:L8 (Az (A8 .u64)) w A a n c L (xs.map fun x:SX=>[x.v]):=h;obtain ⟨b,off,e,_⟩:=h1.sl.get hn;exact ⟨b,off,e⟩
theorem DI.cell {b off n c:Nat} {xs:List SX} {L:List (List Int)} {w:World} {A:Nat->Prop} {v:Value} (h:(DI (some ⟨b,off,none⟩) n c xs L).at_ w A v) {i:Nat} {x:SX} (hx:xs[i]? =some x):w.cell? ⟨b,off + i,none⟩=some x.v:=by
 have h1:L8 (Az (A8 .u64)) w A (some ⟨b,off,none⟩) n c L (xs.map fun x:SX=>[x.v]):=h;have h2:=h1.sl;rw [Um] at h2
 have hl:xs.length=n:=by simpa using h1.cl
 have:=(List.getElem?_eq_some_iff.1 hx).1;exact h2.at_ (by omega) (by rw [List.getElem?_map,hx];rfl)
theorem DI.get {a:Option Addr} {n c:Nat} {xs:List SX} {L:List (List Int)} {w:World} {A:Nat->Prop} {v:Value} (h:(DI a n c xs L).at_ w A v) {i:Nat} {x:SX} {l:List Int} (hx:xs[i]? =some x) (hl:L[i]? =some l):Br (A8 .u64) w A x.a x.n x.c l:=by
 have h1:L8 (Az (A8 .u64)) w A a n c L (xs.map fun x:SX=>[x.v]):=h;have h2:(Az (A8 .u64)).val w A x.v l:=h1.at_ i [x.v] l (by rw [List.getElem?_map,hx];rfl) hl;exact Br.of_val h2
instance (k:IntKind) (n:Int):Decidable (AS k n):=by unfold AS;infer_instance
theorem Br.maxn {α:Type} {R:Eh α} {w:World} {A:Nat->Prop} {a:Option Addr} {n c:Nat} {l:List α} (h:Br R w A a n c l):n <= maxLen:=Nat.le_trans h.cap h.max
def Yh (w:World) (F:Nat->Prop) (a:Option Addr) (n c:Nat) (l:List Int):Prop:=∃ A0:Nat->Prop,Br (A8 .u64) w A0 a n c l/\∀ k,A0 k->¬ F k
section
variable {n:Nat} {w0:World} {all:Array Oper} {os:List Oper} {o:Oper} {l:FL} {ol:OL} {K:FL->OL->Prop} {Q:B3} {d bb:Nat} {f m last:Int} {gs:List BG} {F:Nat->Prop}
theorem Ex {w:World} {base:Nat} {e:TypeId} {a:Option Addr} {m c:Nat} {l:List Int} (h:w.ownsRow base e 1 (.slice a m c) m (l.map (.int .u64))) (hl:l.length=m) (hok:∀ x ∈ l,AS .u64 x):Br (A8 .u64) w (fun k=>(Value.slice a m c).ownBlock=some k) a m c l:=
 .of_row (DU .u64) (by rw [FD];exact h) hl hok (fun k _ hk=>hk)
theorem WJ {a a':Option Addr} {n1 c1 n2 c2:Nat} {L M:List Int} (hs:BL n all (AP l) o=some (d,25,[.slice a n1 c1,.slice a' n2 c2])) (h1:∀ w,Hp w0 w ol->Sl w 1 a n1 (L.map (.int .u64))) (h2:∀ w,Hp w0 w ol->Sl w 1 a' n2 (M.map (.int .u64))) (hm:∀ w,Hp w0 w ol->n1 <= maxLen)
 (k:S Tryz.prog n w0 all os ((d,.bool (decide (L=M)))::l) ol K Q):S Tryz.prog n w0 all (o::os) l ol K Q:=
 Be hs Tryz.call25 (fun w1 g=>Kc a a' n1 c1 n2 c2 L M w1 (h1 w1 g) (h2 w1 g) (hm w1 g)) k
theorem Wv {w:World} {b:Nat} {e:TypeId} {fz:Nat × Nat} {cs:List Value} (h:w.heap[b]? =some (.cells ⟨cs⟩ e fz)):Sl w 1 (some ⟨b,0,none⟩) cs.length cs:=Sl.of_blk h (by rw [Nat.mul_one]) fun j u hu=>by rw [Nat.zero_add];exact hu
theorem WK (hp:PR f m) (hs:BL n all (AP l) o=some (d,46,[.agg #[.int .i64 f,.int .i64 m]]))
 (k:∀ bb (F:Nat->Prop),(∀ k,F k->w0.heap.size <= k)->S Tryz.prog n w0 all os ((d,.tuple #[AF bb,.int .i64 0])::l) (.rep (fun w=>(DJ bb f m [] 0).at_ w F (.bool true)) F true::ol) K Q):S Tryz.prog n w0 all (o::os) l ol K Q:=
 Jr hs Tryz.call46 fun w1 h1=>(Wt f m w1).mono fun e w' h=>by
  rw [if_pos hp] at h;obtain ⟨bb,F,e1,e2,e3⟩:=h;exact ⟨_,_,F,e1,e3,e2,fun hN=>k bb F hN⟩
end
end Go.Proofs.YtidhpofcofknhaaGreat
