/-
  A board, plain: groups of numbers, who is in which, their times. Conditions: each theorem's own. A board as an object: its blocks, opened and closed. Conditions: each theorem's own. What a board tells: Has, Count, Next, Tries. Conditions: each theorem's own. A board's Clear, New, Flight. Conditions: each theorem's own. A board's groups without some numbers, plain; and its maps. Conditions: each theorem's own. A board's Take. Conditions: each theorem's own. A board's Send: the plain part, rules. Conditions: each theorem's own. A board's Send. Conditions: each theorem's own. A board's Due: the plain part. Conditions: each theorem's own. A board's Due. Conditions: each theorem's own. A nil board; rules for the statements about boards; the document's example. Conditions: each theorem's own. A board of one's own in a walk: Send, Take, Due as steps; the document's example. Conditions: each the
  Conditions: each theorem's own.
-/
import Derived.Test.YtidhpofcofknhaaGreatPa
namespace Go.Proofs.YtidhpofcofknhaaGreat
open Go Go.RowKit
set_option linter.unusedVariables false
structure BG where
 id:Int
 L:List Int
 tm:Int
 tries:Int
abbrev AA (gs:List BG):List Int:=gs.flatMap BG.L
def Mb (gs:List BG) (id:Int):Option BG:=gs.find? fun g=>decide (g.id=id)
def EW (gs:List BG) (n:Int):Option BG:=gs.find? fun g=>decide (n ∈ g.L)
def Gc (x:Int):List Int->List Int
 | []=>[x]
 |y::l=>if x < y then x::y::l else if x=y then y::l else y::Gc x l
theorem JX {x y:Int}:∀ {l:List Int},y ∈ Gc x l ↔ y=x \/ y ∈ l
 | []=>by simp [Gc]
 |z::l=>by
  unfold Gc;split
  ·simp
  split
  ·rename_i h;subst h;simp
  ·rw [List.mem_cons,JX,List.mem_cons];constructor
   ·rintro (h |h |h)
    ·exact .inr (.inl h)
    ·exact .inl h
    ·exact .inr (.inr h)
   ·rintro (h |h |h)
    ·exact .inr (.inl h)
    ·exact .inl h
    ·exact .inr (.inr h)
theorem MB {x:Int}:∀ {l:List Int},l.Pairwise (· < ·)->(Gc x l).Pairwise (· < ·)
 | [],_=>List.pairwise_singleton _ _
 |z::l,h=>by
  rw [List.pairwise_cons] at h;unfold Gc;split
  ·rename_i h1;refine List.pairwise_cons.2 ⟨fun y hy=>?_,List.pairwise_cons.2 h⟩
   rcases List.mem_cons.1 hy with rfl |hy
   ·exact h1
   ·exact Int.lt_trans h1 (h.1 y hy)
  split
  ·exact List.pairwise_cons.2 h
  ·refine List.pairwise_cons.2 ⟨fun y hy=>?_,MB h.2⟩
   rcases JX.1 hy with rfl |hy
   ·omega
   ·exact h.1 y hy
def By (l:List Int):List Int:=l.foldl (fun a x=>Gc x a) []
theorem Jy (l:List Int):∀ a:List Int,a.Pairwise (· < ·)->(l.foldl (fun a x=>Gc x a) a).Pairwise (· < ·)/\∀ x,x ∈ l.foldl (fun a x=>Gc x a) a ↔ x ∈ a \/ x ∈ l:=by
 induction l with
 |nil=>exact fun a h=>⟨h,fun x=>by simp⟩
 |cons y l ih=>
  intro a h;obtain ⟨h1,h2⟩:=ih (Gc y a) (MB h);refine ⟨h1,fun x=>(h2 x).trans ?_⟩;rw [JX,List.mem_cons];constructor
  ·rintro ((h |h) |h)
   ·exact .inr (.inl h)
   ·exact .inl h
   ·exact .inr (.inr h)
  ·rintro (h |h |h)
   ·exact .inl (.inr h)
   ·exact .inl (.inl h)
   ·exact .inr h
theorem EC (l:List Int):(By l).Pairwise (· < ·):=(Jy l [] List.Pairwise.nil).1
theorem Cw {l:List Int} {x:Int}:x ∈ By l ↔ x ∈ l:=((Jy l [] List.Pairwise.nil).2 x).trans (by simp)
theorem KH {l m:List Int} (hm:m.Pairwise (· < ·)) (h:∀ x,x ∈ m ↔ x ∈ l):m=By l:=LQ hm (EC l) fun x=>(h x).trans Cw.symm
theorem O3 {l:List Int}:By l= [] ↔ l= []:=by
 constructor
 ·intro h
  cases l with
  |nil=>rfl
  |cons x l=>exact absurd (Cw.2 (List.mem_cons_self (a:=x) (l:=l))) (by rw [h];simp)
 ·rintro rfl;rfl
theorem D0 {l:List Int}:(By l).length <= l.length:=D9 ((EC l).imp fun h=>Int.ne_of_lt h) fun x hx=>Cw.1 hx
theorem Mz {l:List Int} (h:l.Pairwise (· < ·)):l.Nodup:=h.imp fun h=>Int.ne_of_lt h
def Ga (gs:List BG):List DE:=gs.foldr (fun g a=>NK (g.id,g.tm) a) []
abbrev bT (g:BG):DE:=(g.id,g.tm)
theorem Ef:∀ gs:List BG,(Ga gs).Perm (gs.map bT)
 | []=>List.Perm.refl _
 |g::gs=>(Dm _ _).trans ((Ef gs).cons _)
theorem DU:∀ {gs:List BG},(gs.map BG.id).Nodup->(Ga gs).Pairwise DI
 | [],_=>List.Pairwise.nil
 |g::gs,h=>by
  rw [List.map_cons,List.nodup_cons] at h;refine J9 _ _ (DU h.2) fun p hp e=>h.1 ?_;obtain ⟨g',hg',rfl⟩:=List.mem_map.1 ((Ef gs).mem_iff.1 hp);exact List.mem_map.2 ⟨g',hg',e⟩
theorem Kb:∀ {l m:List DE},l.Pairwise DI->m.Pairwise DI->l.Perm m->l=m
 | [],m,_,_,h=>(List.nil_perm.1 h).symm
 |x::l,[],_,_,h=>absurd (List.perm_nil.1 h) (by simp)
 |x::l,y::m,hl,hm,h=>by
  rw [List.pairwise_cons] at hl hm
  have hxy:x=y:=by
   rcases List.mem_cons.1 (h.mem_iff.1 List.mem_cons_self) with e |e
   ·exact e
   rcases List.mem_cons.1 (h.mem_iff.2 (List.mem_cons_self (a:=y) (l:=m))) with e2 |e2
   ·exact e2.symm
   ·have h1:=hm.1 x e;have h2:=hl.1 y e2;unfold DI at h1 h2;omega
  subst hxy;rw [Kb hl.2 hm.2 (List.Perm.cons_inv h)]
theorem Ri {gs:List BG} {al:List DE} (hn:(gs.map BG.id).Nodup) (h1:al.Pairwise DI) (h2:al.Perm (gs.map bT)):al=Ga gs:=Kb h1 (DU hn) (h2.trans (Ef gs).symm)
theorem Ib (gs:List BG):(Ga gs).length=gs.length:=by rw [(Ef gs).length_eq,List.length_map]
theorem Pp {l m:List DE} {id tm:Int} (h:l.Perm m):(Gd l id tm).Perm ((id,tm)::m.filter fun p=>decide (p.1 ≠ id)):=(Dm _ _).trans ((h.filter _).cons _)
theorem Um {gs gs':List BG} {id tm:Int} (hn:(gs.map BG.id).Nodup) (hn':(gs'.map BG.id).Nodup) (h:(gs'.map bT).Perm ((id,tm)::(gs.map bT).filter fun p=>decide (p.1 ≠ id))):Gd (Ga gs) id tm=Ga gs':=
 Ri hn' (H5 (DU hn)) ((Pp (Ef gs)).trans h.symm)
theorem Px {gs gs':List BG} {id:Int} (hn:(gs.map BG.id).Nodup) (hn':(gs'.map BG.id).Nodup) (h:(gs'.map bT).Perm ((gs.map bT).filter fun p=>decide (p.1 ≠ id))):Db (Ga gs) id=Ga gs':=
 Ri hn' (Hg (DU hn)) (((Ef gs).filter _).trans h.symm)
structure CU (last:Int) (gs:List BG):Prop where
 ids:(gs.map BG.id).Pairwise (· < ·)
 idb:∀ g ∈ gs,1 <= g.id/\g.id <= last
 srt:∀ g ∈ gs,g.L.Pairwise (· < ·)
 nd:(AA gs).Nodup
 fit:∀ g ∈ gs,∀ n ∈ g.L,AT .u64 n
 tr:∀ g ∈ gs,1 <= g.tries/\g.tries <= 1099511627776
 tm:∀ g ∈ gs,0 <= g.tm/\g.tm <= 2305843009213693952
 len:(AA gs).length <= 60000
 lst:0 <= last/\last <= 1099511627776
 cnt:gs.length <= 60000
def I9 (gs:List BG):Prop:=∀ g ∈ gs,g.L ≠ []
theorem CU.nil {last:Int} (h:0 <= last/\last <= 1099511627776):CU last []:=⟨List.Pairwise.nil,fun g h=>(by cases h),fun g h=>(by cases h),List.nodup_nil,fun g h=>(by cases h),fun g h=>(by cases h),fun g h=>(by cases h),by simp,h,by simp⟩
section
variable {last:Int} {gs:List BG}
theorem CU.idn (h:CU last gs):(gs.map BG.id).Nodup:=Mz h.ids
theorem FW (h:CU last gs) {g:BG} (hg:g ∈ gs):Mb gs g.id=some g:=by
 unfold Mb
 obtain ⟨g',hg'⟩:∃ g',gs.find? (fun x=>decide (x.id=g.id))=some g':=by
  cases hf:gs.find? (fun x=>decide (x.id=g.id)) with
  |some g'=>exact ⟨g',rfl⟩
  |none=>exact absurd (List.find?_eq_none.1 hf g hg) (by simp)
 rw [hg'];have h1:=List.mem_of_find?_eq_some hg'
 have h2:g'.id=g.id:=by simpa using List.find?_some hg'
 rw [CR BG.id h.idn h1 hg h2]
theorem MO {id:Int} {g:BG} (h:Mb gs id=some g):g ∈ gs/\g.id=id:=⟨List.mem_of_find?_eq_some h,by simpa using List.find?_some h⟩
theorem Gx {id:Int}:Mb gs id=none ↔ ∀ g ∈ gs,g.id ≠ id:=by
 unfold Mb;rw [List.find?_eq_none];exact ⟨fun h g hg e=>h g hg (by simp [e]),fun h g hg=>by simp [h g hg]⟩
theorem D5 {n:Int} {g:BG} (h:EW gs n=some g):g ∈ gs/\n ∈ g.L:=⟨List.mem_of_find?_eq_some h,by simpa using List.find?_some h⟩
theorem Cy {n:Int}:EW gs n=none ↔ n ∉ AA gs:=by
 unfold EW;rw [List.find?_eq_none];constructor
 ·intro h hn;obtain ⟨g,hg,hn⟩:=List.mem_flatMap.1 hn;exact h g hg (by simpa using hn)
 ·intro h g hg;have:n ∉ g.L:=fun hn=>h (List.mem_flatMap.2 ⟨g,hg,hn⟩);simp [this]
theorem JP:∀ {gs:List BG},(AA gs).Nodup->∀ {g g':BG},g ∈ gs->g' ∈ gs->∀ {n:Int},n ∈ g.L->n ∈ g'.L->g=g'
 | [],_,_,_,h,_,_,_,_=>by cases h
 |x::gs,hn,g,g',hg,hg',n,h1,h2=>by
  rw [AA,List.flatMap_cons,List.nodup_append] at hn
  rcases List.mem_cons.1 hg with rfl |h3<;>rcases List.mem_cons.1 hg' with rfl |h4
  ·rfl
  ·exact absurd rfl (hn.2.2 n h1 n (List.mem_flatMap.2 ⟨g',h4,h2⟩))
  ·exact absurd rfl (hn.2.2 n h2 n (List.mem_flatMap.2 ⟨g,h3,h1⟩))
  ·exact JP hn.2.1 h3 h4 h1 h2
theorem FF (h:CU last gs) {g:BG} (hg:g ∈ gs) {n:Int} (hn:n ∈ g.L):EW gs n=some g:=by
 cases hf:EW gs n with
 |none=>exact absurd (List.mem_flatMap.2 ⟨g,hg,hn⟩) (Cy.1 hf)
 |some g'=>rw [JP h.nd (D5 hf).1 hg (D5 hf).2 hn]
theorem CU.nfit (h:CU last gs) {n:Int} (hn:n ∈ AA gs):AT .u64 n:=by
 obtain ⟨g,hg,hn⟩:=List.mem_flatMap.1 hn;exact h.fit g hg n hn
end
theorem JU (k:Int) (v:Value) (c:Nat):∀ (M:List ME),k ∉ M.map (·.1)->CZ M k v c=(M ++ [(k,v,c)],c + 1)
 | [],_=>Mx k v c
 |p::M,h=>by
  rw [List.map_cons,List.mem_cons,not_or] at h;rw [GM,if_neg h.1,JU k v c M h.2];rfl
theorem JS (k:Int) (v:Value) (c:Nat):∀ (M:List ME),k ∈ M.map (·.1)->(CZ M k v c).1.map (·.2.2)=M.map (·.2.2)/\(CZ M k v c).2=c
 | [],h=>by cases h
 |p::M,h=>by
  rw [GM];split
  ·exact ⟨rfl,rfl⟩
  ·rename_i hne;rw [List.map_cons,List.mem_cons] at h;have ih:=JS k v c M (h.resolve_left hne);exact ⟨congrArg (p.2.2::·) ih.1,ih.2⟩
theorem L5.put {M:List ME} {c:Nat} (h:L5 M c) (k:Int) (v:Value):L5 (CZ M k v c).1 (CZ M k v c).2:=by
 by_cases hk:k ∈ M.map (·.1)
 ·obtain ⟨h1,h2⟩:=JS k v c M hk;refine ⟨JT h.keys,by rw [h1];exact h.borns,fun p hp=>?_⟩;have h3:p.2.2 ∈ (CZ M k v c).1.map (·.2.2):=List.mem_map.2 ⟨p,hp,rfl⟩;rw [h1] at h3;obtain ⟨q,hq,e⟩:=List.mem_map.1 h3;rw [h2,<-e];exact h.lt q hq
 ·rw [JU k v c M hk];refine ⟨?_,?_,fun p hp=>?_⟩
  ·rw [List.map_append,List.nodup_append];refine ⟨h.keys,by simp,fun a ha b hb=>?_⟩;rw [List.map_cons,List.map_nil,List.mem_singleton] at hb;rintro rfl;have e:a=k:=hb;exact hk (e ▸ ha)
  ·rw [List.map_append,List.nodup_append];refine ⟨h.borns,by simp,fun a ha b hb=>?_⟩;rw [List.map_cons,List.map_nil,List.mem_singleton] at hb;rintro rfl;obtain ⟨p,hp,e⟩:=List.mem_map.1 ha;have:=h.lt p hp;rw [e,hb] at this;exact absurd this (Nat.lt_irrefl _)
  ·rcases List.mem_append.1 hp with hp |hp
   ·exact Nat.lt_succ_of_lt (h.lt p hp)
   ·rw [List.mem_singleton] at hp;subst hp;exact Nat.lt_succ_self _
theorem HT (n:Int):∀ (M:List ME),(D3 M n).Sublist M
 | []=>by rw [My];exact List.Sublist.refl _
 |p::M=>by
  rw [ID];split
  ·exact List.sublist_cons_self _ _
  ·exact (HT n M).cons_cons p
theorem L5.del {M:List ME} {c:Nat} (h:L5 M c) (n:Int):L5 (D3 M n) c:=
 ⟨h.keys.sublist ((HT n M).map _),h.borns.sublist ((HT n M).map _),fun p hp=>h.lt p ((HT n M).subset hp)⟩
theorem IX {w:World} {b:Nat} {cs:List Value} {e:TypeId} {fz:Nat × Nat} (h:w.heap[b]? =some (.cells ⟨cs⟩ e fz)) {j:Nat} {u:Value} (hj:cs[j]? =some u):w.cell? ⟨b,0 + j,none⟩=some u:=
 (Sl.of_blk (n:=cs.length) (sz:=1) (off:=0) h (by rw [Nat.mul_one]) (fun j u hu=>by rw [Nat.zero_add];exact hu)).at_ (Nat.lt_of_le_of_lt (Nat.zero_le j) (List.getElem?_eq_some_iff.1 hj).1) hj
theorem N1 {P:Program} {tb:EU} {n:Nat} {w0:World} {all:Array Oper} {o:Oper} {ol:OL} {d:Nat} {r:Nat->Option Value} (ht:AX P tb) {mt kt et:TypeId} {x ix:Operand} {κ:IntKind} {b:Nat} {k:Int} {M:List ME} {c:Nat} {tm tk te:TI} {v:Value} (hs:BY n all r o=some (d,.lookup mt x ix false)) (hx:ev r x=some (.map (some b))) (hi:ev r ix=some (.int κ k))
 (htm:tl tb mt=some tm) (hdm:tm.desc= .map kt et) (htk:tl tb kt=some tk) (hdk:tk.desc= .int κ) (hte:tl tb et=some te) (hb:∀ w,Hp w0 w ol->w.heap[b]? =some (Cj κ M c)) (hg:DX M k=some v):Ht P n w0 all r ol o d v:=by
 have h:=Kx (w0:=w0) (ol:=ol) ht hs hx hi htm hdm htk hdk hte hb;unfold DX at hg
 cases hm:D2 k M 0 with
 |none=>rw [hm] at hg;cases hg
 |some p=>
  obtain ⟨j,u⟩:=p;rw [hm] at h hg;cases hg;exact h
section
variable {P:Program} {tb:EU} {n:Nat} {w0:World} {all:Array Oper} {os:List Oper} {o:Oper} {l:FL} {ol:OL} {K:FL->OL->Prop} {Q:B1}
theorem Lr (ht:AX P tb) (i:Nat) {mt kt et:TypeId} {x ix:Operand} {κ:IntKind} {b:Nat} {k:Int} {M:List ME} {c:Nat} {tm tk:TI} {ol':OL} (hs:KQ all (AQ l) o=some (.call ⟨.builtin .delete,#[x,ix],#[mt,kt]⟩)) (hx:ev (AQ l) x=some (.map (some b))) (hk:ev (AQ l) ix=some (.int κ k))
 (hi:B9 ol i=some (.blk b (Cj κ M c) true)) (htm:tl tb mt=some tm) (hdm:tm.desc= .map kt et) (htk:tl tb kt=some tk) (hdk:tk.desc= .int κ) (hp:C8 ol i (.blk b (Cj κ (D3 M k) c) true)=some ol') (kk:S P n w0 all os l ol' K Q):S P n w0 all (o::os) l ol K Q:=by
 obtain ⟨hdst,hg,hop⟩:=GJ hs;refine ⟨fun a w hf hh=>?_⟩;have h1:=ht.under' htm;rw [hdm] at h1;have h2:=ht.under' htk;rw [hdk] at h2;have h3:=JF (P:=P) (ty:=o.type) h1 h2 (hh.own _ (Af hi)) k;obtain ⟨pre,post,e1,e2⟩:=CP hi hp;refine B2 (v:=.tuple #[]) (Be hf.rd hg) (w':={ w with heap:=w.heap.setIfInBounds b (Cj κ (D3 M k) c)}) ?_ ?_
 ·unfold execOp;simp [hop,resolve,invoke,builtin,hf.rd.ev hx,hf.rd.ev hk,h3]
 ·rw [hdst];rw [e1] at hh;rw [e2] at kk;exact kk.out _ _ hf hh.setB
end
theorem Hp.merge {w0 w:World} {ol:OL} {Φ1 Φ2 Ψ:World->Prop} {F1 F2:Nat->Prop} (h:Hp w0 w (.rep Φ1 F1 false::.rep Φ2 F2 false::ol)) (hΨ:Φ1 w->Φ2 w->Ψ w) (hl:PH Ψ fun k=>F1 k \/ F2 k):Hp w0 w (.rep Ψ (fun k=>F1 k \/ F2 k) false::ol):=by
 have o1:=h.own _ (Af (i:=0) rfl);have o2:=h.own _ (Af (i:=1) rfl);have hap:=List.pairwise_cons.1 h.apart;have hap2:=List.pairwise_cons.1 hap.2;refine ⟨h.os,h.tape,h.output,h.size,fun k hk he=>h.old k hk fun e hm hx hh=>?_,fun e hm=>?_,List.pairwise_cons.2 ⟨fun e he hr k hk hk2=>?_,hap2.2⟩⟩
 ·rcases List.mem_cons.1 hm with rfl |hm
  ·cases hx
  rcases List.mem_cons.1 hm with rfl |hm
  ·cases hx
  ·exact he e (List.mem_cons_of_mem _ hm) hx hh
 ·rcases List.mem_cons.1 hm with rfl |hm
  ·refine ⟨hΨ o1.1 o2.1,hl,fun k hk=>?_⟩
   rcases hk with hk |hk
   ·exact o1.2.2 k hk
   ·exact o2.2.2 k hk
  ·exact h.own e (List.mem_cons_of_mem _ (List.mem_cons_of_mem _ hm))
 ·rcases hk with hk |hk
  ·exact hap.1 e (List.mem_cons_of_mem _ he) hr k hk hk2
  ·exact hap2.1 e he hr k hk hk2
abbrev AG (b:Nat):Value:=.pointer (some ⟨b,0,none⟩)
abbrev WI (f m:Int) (gb mb ab:Nat) (last:Int):Obj:=.cells ⟨[.int .i64 f,.int .i64 m,.map (some gb),.map (some mb),AG ab,.int .u64 last]⟩ 138 (0,0)
structure SX where
 a:Option Addr
 n:Nat
 c:Nat
abbrev SX.v (x:SX):Value:=.slice x.a x.n x.c
abbrev SX.s (x:SX):Value:=Bz x.a x.n x.c
abbrev S6 (x:SX) (t:Int):Obj:=.cells ⟨[x.v,.int .i64 t]⟩ 144 (0,0)
def Ma (gs:List BG) (B:Int->Nat) (X:Int->SX):Vp:=
 ⟨fun w F _=>∀ g ∈ gs,w.heap[B g.id]? =some (S6 (X g.id) g.tries)/\F (B g.id),fun h hk g hg=>⟨((hk _ (h g hg).2 (AV (h g hg).1)).1).trans (h g hg).1,(hk _ (h g hg).2 (AV (h g hg).1)).2⟩⟩
def I4 (gs:List BG) (X:Int->SX):Vp:=
 ⟨fun w F _=>∀ g ∈ gs,(Bs (· ∈ g.L) g.L.length).at_ w F (X g.id).s,fun h hk g hg=>(Bs _ _).keep (h g hg) hk⟩
structure BH where
 gb:Nat
 mb:Nat
 ab:Nat
 c1:Nat
 c2:Nat
 M1:List ME
 M2:List ME
 B:Int->Nat
 X:Int->SX
 Fa:Nat->Prop
 Fg:Nat->Prop
 Fs:Nat->Prop
structure EB (gs:List BG) (M1 M2:List ME) (c1 c2:Nat) (B:Int->Nat):Prop where
 inj:∀ g ∈ gs,∀ g' ∈ gs,B g.id=B g'.id->g.id=g'.id
 m1:L5 M1 c1
 g1:∀ id,DX M1 id=(Mb gs id).map fun g=>AG (B id)
 m2:L5 M2 c2
 g2:∀ n,DX M2 n=(EW gs n).map fun g=>Value.int .u64 g.id
abbrev PR (f m:Int):Prop:=1 <= f/\f <= m/\m <= 1099511627776
abbrev G6 (bb:Nat) (f m:Int) (gs:List BG) (last:Int) (h:BH) (r s:Bool):OL:=
 [.blk bb (WI f m h.gb h.mb h.ab last) r,.blk h.gb (Cj .u64 h.M1 h.c1) r,.blk h.mb (Cj .u64 h.M2 h.c2) r,.rep (fun w=>(IZ h.ab (Ga gs)).at_ w h.Fa (.bool true)) h.Fa r,.rep (fun w=>(Ma gs h.B h.X).at_ w h.Fg (.bool true)) h.Fg r,.rep (fun w=>(I4 gs h.X).at_ w h.Fs (.bool true)) h.Fs s]
def DF (bb:Nat) (f m:Int) (gs:List BG) (last:Int):Vp:=
 ⟨fun w F _=>∃ h:BH,PR f m/\(CU last gs/\I9 gs)/\EB gs h.M1 h.M2 h.c1 h.c2 h.B/\(∀ e ∈ G6 bb f m gs last h true true,e.holds w/\∀ k,e.has k->F k)/\(G6 bb f m gs last h true true).Pairwise PK,
  fun ⟨h,h1,h2,h3,h4,h5⟩ hk=>⟨h,h1,h2,h3,fun e he=>⟨HE.keep (h4 e he).1 fun k hh=>(hk k ((h4 e he).2 k hh) (HE.lt (h4 e he).1 hh)).1,fun k hh=>(hk k ((h4 e he).2 k hh) (HE.lt (h4 e he).1 hh)).2⟩,h5⟩⟩
section
variable {bb:Nat} {f m last:Int} {gs:List BG} {w w0:World} {F:Nat->Prop} {v:Value} {ol:OL}
theorem Q9 (h:(DF bb f m gs last).at_ w F v):PR f m/\CU last gs/\I9 gs:=by
 obtain ⟨_,h1,h2,_⟩:=h;exact ⟨h1,h2⟩
theorem Re {h:BH} (h4:∀ e ∈ G6 bb f m gs last h true true,e.holds w/\∀ k,e.has k->F k) (h5:(G6 bb f m gs last h true true).Pairwise PK) (r s:Bool):Hp w w (G6 bb f m gs last h r s):=by
 refine ⟨rfl,rfl,rfl,Nat.le_refl _,fun _ _ _=>rfl,fun e he=>?_,?_⟩
 ·simp only [G6,List.mem_cons,List.not_mem_nil,or_false] at he
  rcases he with rfl |rfl |rfl |rfl |rfl |rfl
  ·exact (h4 _ (Af (i:=0) rfl)).1
  ·exact (h4 _ (Af (i:=1) rfl)).1
  ·exact (h4 _ (Af (i:=2) rfl)).1
  ·exact (h4 _ (Af (i:=3) rfl)).1
  ·exact (h4 _ (Af (i:=4) rfl)).1
  ·exact (h4 _ (Af (i:=5) rfl)).1
 ·have ht:∀ {x y x' y':HE},(x'.ex || y'.ex)=true->PK x' y'->(∀ k,x.has k->x'.has k)->(∀ k,y.has k->y'.has k)->PK x y:=fun h1 h2 h3 h4 _ k hk hk2=>h2 h1 k (h3 k hk) (h4 k hk2);simp only [G6,List.pairwise_cons,List.mem_cons,List.not_mem_nil,or_false,forall_eq_or_imp,forall_eq] at h5 ⊢;obtain ⟨⟨a1,a2,a3,a4,a5⟩,⟨b2,b3,b4,b5⟩,⟨c3,c4,c5⟩,⟨d4,d5⟩,e5,_⟩:=h5;refine ⟨⟨?_,?_,?_,?_,?_⟩,⟨?_,?_,?_,?_⟩,⟨?_,?_,?_⟩,⟨?_,?_⟩,?_,fun _ h=>h.elim,List.Pairwise.nil⟩
  ·exact ht rfl a1 (fun k h=>h) fun k h=>h
  ·exact ht rfl a2 (fun k h=>h) fun k h=>h
  ·exact ht rfl a3 (fun k h=>h) fun k h=>h
  ·exact ht rfl a4 (fun k h=>h) fun k h=>h
  ·exact ht rfl a5 (fun k h=>h) fun k h=>h
  ·exact ht rfl b2 (fun k h=>h) fun k h=>h
  ·exact ht rfl b3 (fun k h=>h) fun k h=>h
  ·exact ht rfl b4 (fun k h=>h) fun k h=>h
  ·exact ht rfl b5 (fun k h=>h) fun k h=>h
  ·exact ht rfl c3 (fun k h=>h) fun k h=>h
  ·exact ht rfl c4 (fun k h=>h) fun k h=>h
  ·exact ht rfl c5 (fun k h=>h) fun k h=>h
  ·exact ht rfl d4 (fun k h=>h) fun k h=>h
  ·exact ht rfl d5 (fun k h=>h) fun k h=>h
  ·exact ht rfl e5 (fun k h=>h) fun k h=>h
theorem FV (h:(DF bb f m gs last).at_ w F v) (r s:Bool):∃ h:BH,PR f m/\CU last gs/\EB gs h.M1 h.M2 h.c1 h.c2 h.B/\Hp w w (G6 bb f m gs last h r s)/\(∀ e ∈ G6 bb f m gs last h true true,∀ k,e.has k->F k)/\I9 gs:=by
 obtain ⟨h,h1,h2,h3,h4,h5⟩:=h;exact ⟨h,h1,h2.1,h3,Re h4 h5 r s,fun e he=>(h4 e he).2,h2.2⟩
theorem Rb {h:BH} (hc:∀ e ∈ G6 bb f m gs last h true true,∀ k,e.has k->F k):∀ e ∈ G6 bb f m gs last h true false,e.ex=true->∀ k,e.has k->F k:=fun e he hx k hk=>by
 simp only [G6,List.mem_cons,List.not_mem_nil,or_false] at he
 rcases he with rfl |rfl |rfl |rfl |rfl |rfl
 ·exact hc _ (Af (i:=0) rfl) k hk
 ·exact hc _ (Af (i:=1) rfl) k hk
 ·exact hc _ (Af (i:=2) rfl) k hk
 ·exact hc _ (Af (i:=3) rfl) k hk
 ·exact hc _ (Af (i:=4) rfl) k hk
 ·cases hx
theorem Ki {h:BH} {G:Nat->Prop} (h0:G bb) (h1:G h.gb) (h2:G h.mb) (h3:∀ k,h.Fa k->G k) (h4:∀ k,h.Fg k->G k) (h5:∀ k,h.Fs k->G k):∀ e ∈ G6 bb f m gs last h true true,∀ k,e.has k->G k:=fun e he k hk=>by
 simp only [G6,List.mem_cons,List.not_mem_nil,or_false] at he
 rcases he with rfl |rfl |rfl |rfl |rfl |rfl
 ·exact Option.some.inj hk ▸ h0
 ·exact Option.some.inj hk ▸ h1
 ·exact Option.some.inj hk ▸ h2
 ·exact h3 k hk
 ·exact h4 k hk
 ·exact h5 k hk
theorem Hp.pack {A:OL} {F0:Nat->Prop} (h:Hp w0 w (A ++ ol)) (hF0:∀ k,F0 k->k < w0.heap.size) (hol:∀ e ∈ ol,e.ex=true/\∀ k,e.has k->w0.heap.size <= k) (hA:∀ e ∈ A,∀ k,e.has k->F0 k \/ w0.heap.size <= k)
 (p:Vp) (hp:∀ F':Nat->Prop,(∀ e ∈ A,∀ k,e.has k->F' k)->p.at_ w F' (.bool true)):∃ F':Nat->Prop,(∀ k,F0 k->F' k)/\(∀ k,F' k->F0 k \/ w0.heap.size <= k)/\Hp w0 w (.rep (fun w=>p.at_ w F' (.bool true)) F' true::ol):=by
 refine ⟨fun k=>F0 k \/ ∃ e ∈ A,e.has k,fun k hk=>.inl hk,fun k hk=>?_,h.os,h.tape,h.output,h.size,fun k hk he=>h.old k hk fun e hm hx hh=>?_,fun e hm=>?_,?_⟩
 ·rcases hk with hk |⟨e,he,hk⟩
  ·exact .inl hk
  ·exact hA e he k hk
 ·rcases List.mem_append.1 hm with hm |hm
  ·exact he _ List.mem_cons_self rfl (.inr ⟨e,hm,hh⟩)
  ·exact he e (List.mem_cons_of_mem _ hm) hx hh
 ·rcases List.mem_cons.1 hm with rfl |hm
  ·refine ⟨hp _ fun e he k hk=>.inr ⟨e,he,hk⟩,Vp.loc,fun k hk=>?_⟩
   rcases hk with hk |⟨e,he,hk⟩
   ·exact Nat.lt_of_lt_of_le (hF0 k hk) h.size
   ·exact h.lt (List.mem_append.2 (.inl he)) hk
  ·exact h.own e (List.mem_append.2 (.inr hm))
 ·refine List.pairwise_cons.2 ⟨fun e he _ k hk hk2=>?_,(List.pairwise_append.1 h.apart).2.1⟩
  rcases hk with hk |⟨e',he',hk⟩
  ·have h1:=hF0 k hk;have h2:=(hol e he).2 k hk2;omega
  ·exact (List.pairwise_append.1 h.apart).2.2 e' he' e he (by rw [(hol e he).1,Bool.or_true]) k hk hk2
theorem H9 {F0:Nat->Prop} {h:BH} (hh:Hp w0 w (G6 bb f m gs last h true false ++ ol)) (hp:PR f m) (hok:CU last gs) (hne:I9 gs) (hr:EB gs h.M1 h.M2 h.c1 h.c2 h.B) (hF0:∀ k,F0 k->k < w0.heap.size) (hol:∀ e ∈ ol,e.ex=true/\∀ k,e.has k->w0.heap.size <= k)
 (hA:∀ e ∈ G6 bb f m gs last h true true,∀ k,e.has k->F0 k \/ w0.heap.size <= k):∃ F':Nat->Prop,(∀ k,F0 k->F' k)/\(∀ k,F' k->F0 k \/ w0.heap.size <= k)/\Hp w0 w (.rep (fun w=>(DF bb f m gs last).at_ w F' (.bool true)) F' true::ol):=by
 refine hh.pack hF0 hol (fun e he k hk=>?_) (DF bb f m gs last) fun F' hF'=>⟨h,hp,⟨hok,hne⟩,hr,fun e he=>?_,?_⟩
 ·simp only [G6,List.mem_cons,List.not_mem_nil,or_false] at he
  rcases he with rfl |rfl |rfl |rfl |rfl |rfl
  ·exact hA _ (Af (i:=0) rfl) k hk
  ·exact hA _ (Af (i:=1) rfl) k hk
  ·exact hA _ (Af (i:=2) rfl) k hk
  ·exact hA _ (Af (i:=3) rfl) k hk
  ·exact hA _ (Af (i:=4) rfl) k hk
  ·exact hA _ (Af (i:=5) rfl) k hk
 ·simp only [G6,List.mem_cons,List.not_mem_nil,or_false] at he
  rcases he with rfl |rfl |rfl |rfl |rfl |rfl
  ·exact ⟨hh.own _ (Af (i:=0) rfl),hF' _ (Af (i:=0) rfl)⟩
  ·exact ⟨hh.own _ (Af (i:=1) rfl),hF' _ (Af (i:=1) rfl)⟩
  ·exact ⟨hh.own _ (Af (i:=2) rfl),hF' _ (Af (i:=2) rfl)⟩
  ·exact ⟨hh.own _ (Af (i:=3) rfl),hF' _ (Af (i:=3) rfl)⟩
  ·exact ⟨hh.own _ (Af (i:=4) rfl),hF' _ (Af (i:=4) rfl)⟩
  ·exact ⟨hh.own (.rep (fun w=>(I4 gs h.X).at_ w h.Fs (.bool true)) h.Fs false) (Af (i:=5) rfl),hF' (.rep (fun w=>(I4 gs h.X).at_ w h.Fs (.bool true)) h.Fs false) (Af (i:=5) rfl)⟩
 ·have h5:=(List.pairwise_append.1 hh.apart).1;simp only [G6,List.pairwise_cons,List.mem_cons,List.not_mem_nil,or_false,forall_eq_or_imp,forall_eq] at h5 ⊢;obtain ⟨⟨a1,a2,a3,a4,a5⟩,⟨b2,b3,b4,b5⟩,⟨c3,c4,c5⟩,⟨d4,d5⟩,e5,_⟩:=h5;exact ⟨⟨a1,a2,a3,a4,fun _=>a5 rfl⟩,⟨b2,b3,b4,fun _=>b5 rfl⟩,⟨c3,c4,fun _=>c5 rfl⟩,⟨d4,fun _=>d5 rfl⟩,fun _=>e5 rfl,fun _ h=>h.elim,List.Pairwise.nil⟩
end
section
variable {bb:Nat} {f m last:Int} {gs:List BG} {w w0:World} {F:Nat->Prop} {v:Value} {ol:OL}
theorem Ra (h:(DF bb f m gs last).at_ w F v) (n:Int):Calls Tryz.prog 78 #[AG bb,.int .u64 n] w fun e w'=>e= .returned (.bool (decide (n ∈ AA gs)))/\Below w.heap.size w w':=by
 obtain ⟨x,hp,hok,hr,hst,_⟩:=FV h false false;refine BS Tryz.func78 rfl rfl hst ?_;repeat (first |refine Ai ?_ |refine Ab ?_ |refine Ag ?_ |refine Ae Aa rfl ?_)
 refine BF (Cs Aa rfl rfl rfl rfl rfl) ?_;repeat (first |refine Ai ?_ |refine Ab ?_ |refine Ag ?_ |refine Ad ?_ |refine Ao ?_ |refine AF rfl ?_ |refine Ae Aa rfl ?_ |refine Ap Aa 0 rfl rfl rfl ?_)
 have hg:=hr.g2 n
 cases hb:EW gs n with
 |some g=>
  rw [hb] at hg;refine BF (L2 Aa rfl rfl rfl rfl rfl rfl rfl rfl (fun w' hw=>hw.own _ (Af (i:=2) rfl)) hg) ?_;repeat (first |refine Ai ?_ |refine Ab ?_ |refine Ag ?_ |refine AB ?_ |refine Ae Aa rfl ?_)
  have hn:n ∈ AA gs:=List.mem_flatMap.2 ⟨g,D5 hb⟩;exact AY rfl rfl (fun w' hw=>⟨by rw [decide_eq_true hn],hw.below (by repeat (first |exact An |refine Cg ?_ |refine BE ?_))⟩)
 |none=>
  rw [hb] at hg;refine BF (L3 Aa rfl rfl rfl rfl rfl rfl rfl rfl (fun w' hw=>hw.own _ (Af (i:=2) rfl)) hg) ?_;repeat (first |refine Ai ?_ |refine Ab ?_ |refine Ag ?_ |refine AB ?_ |refine Ae Aa rfl ?_)
  exact AY rfl rfl (fun w' hw=>⟨by rw [decide_eq_false (Cy.1 hb)],hw.below (by repeat (first |exact An |refine Cg ?_ |refine BE ?_))⟩)
theorem EB.keys {M1 M2:List ME} {c1 c2:Nat} {B:Int->Nat} (hr:EB gs M1 M2 c1 c2 B) (n:Int):n ∈ M2.map (·.1) ↔ n ∈ AA gs:=by
 have h1:=hr.g2 n;rw [<-Decidable.not_iff_not,<-Qs,h1,<-Cy];cases EW gs n<;>simp
theorem EB.len {M1 M2:List ME} {c1 c2:Nat} {B:Int->Nat} (hr:EB gs M1 M2 c1 c2 B) (hok:CU last gs):M2.length=(AA gs).length:=by
 have e:M2.length=(M2.map (·.1)).length:=by rw [List.length_map]
 rw [e];exact (EK hr.m2.keys hok.nd (fun x hx=>(hr.keys x).1 hx) fun x hx=>(hr.keys x).2 hx).length_eq
theorem MK (h:(DF bb f m gs last).at_ w F v):Calls Tryz.prog 53 #[AG bb] w fun e w'=>e= .returned (.int .i64 ((AA gs).length:Int))/\Below w.heap.size w w':=by
 obtain ⟨x,hp,hok,hr,hst,_⟩:=FV h false false;refine BL Tryz.func53 rfl rfl hst ?_;repeat (first |refine Ai ?_ |refine Ab ?_ |refine Ag ?_ |refine Ae Aa rfl ?_)
 refine BF (Cs Aa rfl rfl rfl rfl rfl) ?_;repeat (first |refine Ai ?_ |refine Ab ?_ |refine Ag ?_ |refine Ad ?_ |refine Ao ?_ |refine AF rfl ?_ |refine Ae Aa rfl ?_ |refine Ap Aa 0 rfl rfl rfl ?_)
 refine BF (RS Aa rfl rfl rfl rfl (fun w' hw=>hw.own _ (Af (i:=2) rfl))) ?_;repeat (first |refine Ag ?_ |refine AB ?_ |refine Ae Aa rfl ?_)
 exact AY rfl rfl (fun w' hw=>⟨by rw [hr.len hok],hw.below (by repeat (first |exact An |refine Cg ?_ |refine BE ?_))⟩)
theorem Uh (h:(DF bb f m gs last).at_ w F v):Calls Tryz.prog 70 #[AG bb] w fun e w'=>e= .returned (MJ (Ga gs))/\Below w.heap.size w w':=by
 obtain ⟨x,hp,hok,hr,hst,_⟩:=FV h false false;refine BL Tryz.func70 rfl rfl hst ?_;repeat (first |refine Ai ?_ |refine Ab ?_ |refine Ag ?_ |refine Ae Aa rfl ?_)
 refine BF (Cs Aa rfl rfl rfl rfl rfl) ?_;repeat (first |refine Ai ?_ |refine Ab ?_ |refine Ag ?_ |refine Ad ?_ |refine Ao ?_ |refine AF rfl ?_ |refine Ae Aa rfl ?_ |refine Ap Aa 0 rfl rfl rfl ?_)
 refine Bo rfl Tryz.call90 (fun w1 h1=>LY (h1.own _ (Af (i:=3) rfl)).1) ?_;unfold MJ
 cases Ga gs with
 |nil=>
  repeat (first |refine Ag ?_ |refine AB ?_ |refine Ae Aa rfl ?_)
  exact Dw rfl rfl rfl (fun w' hw=>⟨rfl,hw.below (by repeat (first |exact An |refine Cg ?_ |refine BE ?_))⟩)
 |cons p l=>
  repeat (first |refine Ag ?_ |refine AB ?_ |refine Ae Aa rfl ?_)
  exact Dw rfl rfl rfl (fun w' hw=>⟨rfl,hw.below (by repeat (first |exact An |refine Cg ?_ |refine BE ?_))⟩)
def Hl (gs:List BG) (n:Int):Int:=match EW gs n with
 |some g=>g.tries
 |none=>0
end
theorem Rg {c1 c2:Nat} {B:Int->Nat}:EB [] [] [] 0 0 B:=⟨fun g h=>(by cases h),L5.nil,fun id=>rfl,L5.nil,fun n=>rfl⟩
section
variable {bb:Nat} {f m last:Int} {gs:List BG} {w w0:World} {F:Nat->Prop} {v:Value} {ol:OL}
theorem Hp.none {w0 w:World} {ol:OL} (h:Hp w0 w ol) {p:Vp} {v:Value} (hp:∀ w,p.at_ w (fun _=>False) v) (r:Bool):Hp w0 w (.rep (fun w=>p.at_ w (fun _=>False) v) (fun _=>False) r::ol):=
 h.more ⟨hp w,Vp.loc,fun _ h=>h.elim⟩ fun e _ _ k hk=>hk.elim
theorem Ia {v1 v2 v3:Value} (hb:w.heap[bb]? =some (.cells ⟨[.int .i64 f,.int .i64 m,v1,v2,v3,.int .u64 last]⟩ 138 (0,0))) (hp:PR f m) (hl:0 <= last/\last <= 1099511627776) (hbF:F bb) (hF:∀ k,F k->k < w.heap.size):
 Calls Tryz.prog 69 #[AG bb] w fun e w'=>e= .returned (.tuple #[])/\Ll w F (DF bb f m [] last) w':=by
 refine BL Tryz.func69 rfl rfl (Hp.start true hb) ?_;repeat (first |refine Ai ?_ |refine Ab ?_ |refine Ae Aa rfl ?_)
 refine BF (OT Aa rfl rfl rfl rfl rfl) ?_;repeat (first |refine Ag ?_ |refine AN rfl ?_ |refine Ae Aa rfl ?_ |refine Aq ?_)
 refine IL rfl .u64 (fun gb hgb=>?_);refine IL rfl .u64 (fun mb hmb=>?_);refine Jp rfl Tryz.call89 (fun w1 h1=>(Wo w1).mono fun e w' ⟨ab,Fa,he,h2,h3⟩=>⟨_,_,Fa,he,h2,h3,fun hN0=>?_⟩);repeat (first |refine Ag ?_ |refine Ae Aa rfl ?_ |refine Aw Aa 3 rfl rfl rfl rfl rfl rfl ?_)
 refine CM rfl (fun w' hw=>⟨rfl,?_⟩);have h9:=(((hw.none (p:=I4 [] fun _=>⟨none,0,0⟩) (v:=.bool true) (fun w g hg=>by cases hg) false).none (p:=Ma [] (fun _=>0) fun _=>⟨none,0,0⟩) (v:=.bool true) (fun w g hg=>by cases hg) true).pm [5,4,3,2,0,1] rfl rfl rfl);refine H9 (h:=⟨gb,mb,ab,0,0,[],[],fun _=>0,fun _=>⟨none,0,0⟩,Fa,fun _=>False,fun _=>False⟩) (ol:=[]) h9 hp (CU.nil hl) (fun g hg=>by cases hg) (Rg (c1:=0) (c2:=0)) hF (fun e he=>by cases he) (fun e he k hk=>?_);simp only [G6,List.mem_cons,List.not_mem_nil,or_false] at he
 rcases he with rfl |rfl |rfl |rfl |rfl |rfl
 ·exact .inl (Option.some.inj hk ▸ hbF)
 ·exact .inr (Option.some.inj hk ▸ hgb)
 ·exact .inr (Option.some.inj hk ▸ hmb)
 ·exact .inr (hN0 k hk)
 ·exact hk.elim
 ·exact hk.elim
theorem Rc (h:(DF bb f m gs last).at_ w F (.bool true)) (hF:∀ k,F k->k < w.heap.size):
 Calls Tryz.prog 69 #[AG bb] w fun e w'=>e= .returned (.tuple #[])/\Ll w F (DF bb f m [] last) w':=by
 obtain ⟨x,hp,hok,hr,h4,h5⟩:=h;exact Ia (h4 _ (Af (i:=0) rfl)).1 hp hok.1.lst ((h4 _ (Af (i:=0) rfl)).2 bb rfl) hF
theorem Hp.blkRep {b:Nat} {x:Obj} (h:Hp w0 w (.blk b x true::ol)):Hp w0 w (.rep (fun w=>w.heap[b]? =some x) (fun k=>some b=some k) true::ol):=by
 have o0:w.heap[b]? =some x:=h.own _ List.mem_cons_self;refine Hp.regroup [.blk b x true] [.rep (fun w=>w.heap[b]? =some x) (fun k=>some b=some k) true] h (fun e he=>?_) (fun e he=>?_) (List.pairwise_singleton _ _) (fun e he k hk=>?_) (fun e he k hk=>?_)
 ·rw [List.mem_singleton] at he;subst he;rfl
 ·rw [List.mem_singleton] at he;subst he;exact ⟨rfl,o0,fun w1 w2 h1 h2=>(h1 b rfl).trans h2,fun k hk=>by rw [<-Option.some.inj hk];exact AV o0⟩
 ·rw [List.mem_singleton] at he;subst he;exact ⟨_,List.mem_cons_self,hk⟩
 ·rw [List.mem_singleton] at he;subst he;exact .inr ⟨_,List.mem_cons_self,hk⟩
theorem Wi (f m:Int) (w:World):Calls Tryz.prog 46 #[.agg #[.int .i64 f,.int .i64 m]] w fun e w'=>if PR f m then ∃ bb F,e= .returned (.tuple #[AG bb,.int .i64 0])/\(∀ k,F k->w.heap.size <= k)/\Hp w w' [.rep (fun w=>(DF bb f m [] 0).at_ w F (.bool true)) F true]
 else e= .returned (.tuple #[.pointer none,.int .i64 1])/\Below w.heap.size w w':=by
 refine BL Tryz.func46 rfl rfl (Hp.refl w) ?_;repeat (first |refine Ai ?_ |refine Ab ?_)
 refine A5 Aa rfl (fun pb hpb=>?_);repeat (first |refine Ai ?_ |refine Ab ?_ |refine Ag ?_ |refine Ae Aa rfl ?_ |refine Ap Aa 0 rfl rfl rfl ?_)
 refine Bo rfl Tryz.call72 (fun w1 h1=>Mn f m w1) ?_;repeat (first |refine Ag ?_ |refine Ae Aa rfl ?_)
 refine Eg rfl (fun hn=>?_) (fun hp=>?_)
 ·repeat (first |refine Ai ?_ |refine Ab ?_ |refine Ag ?_ |refine AI ?_ |refine AB ?_ |refine Ae Aa rfl ?_)
  exact Dw rfl rfl rfl (fun w' hw=>by
   rw [if_neg hn]
   exact ⟨rfl,hw.below (by repeat (first |exact An |refine Az (by first |assumption |omega) ?_))⟩)
 ·repeat (first |refine Ai ?_ |refine Ab ?_ |refine Ad ?_ |refine Ao ?_ |refine Ap Aa 0 rfl rfl rfl ?_ |refine BF (Bf Aa rfl rfl rfl rfl rfl rfl rfl) ?_)
  refine A5 Aa rfl (fun bb hbb=>?_);repeat (first |refine Ai ?_ |refine Ab ?_ |refine Ag ?_ |refine Ae Aa rfl ?_)
  refine B6 (fun w' h=>h.blkRep) ?_;refine CB 0 rfl Tryz.call69 rfl (fun w1 g=>(Ia (g.own _ (Af (i:=0) rfl)).1 hp (by omega) (F:=fun k=>some bb=some k) rfl (g.own _ (Af (i:=0) rfl)).2.2).mono fun e w' ⟨he,F',g1,g2,g3⟩=>⟨_,_,F',he,g3,g1,g2,_,rfl,?_⟩);have hsz:=g.size;repeat (first |refine Ai ?_ |refine Ab ?_ |refine Ag ?_ |refine AB ?_ |refine Ae Aa rfl ?_)
  have hN:∀ k,F' k->w.heap.size <= k:=fun k hk=>by
   rcases g2 k hk with h |h
   ·rw [<-Option.some.inj h];exact hbb
   ·omega
  exact Dw rfl rfl rfl (fun w' hw=>by
   rw [if_pos hp]
   exact ⟨bb,F',rfl,hN,hw.less (by repeat (first |exact Au.nil |refine Au.keep ?_ |refine Au.dropB (by first |assumption |omega) ?_))⟩)
theorem Lh {M2:List ME} {c2 B mb:Nat} (hM:L5 M2 c2) (hl:M2.length <= 60000) (hB:w.heap[B]? =some (.cells ⟨[.map (some mb)]⟩ 134 (0,0))) (hm:w.heap[mb]? =some (Cj .u64 M2 c2)):
 UN 83 #[.pointer (some ⟨B,0,none⟩)] KeepsWalks (fun ss=>ss.Perm (M2.map (·.1))) (fun _=>True) M2.length w:=
 ⟨Tryz.call83,by omega,QD _,ML B mb c2 M2 hM w (AV hB) (by simp [World.cell?,hB]) hm⟩
theorem Lg (h:(DF bb f m gs last).at_ w F v):Calls Tryz.prog 33 #[AG bb] w fun e w'=>∃ r,e= .returned r/\Below w.heap.size w w'/\(Bs (· ∈ AA gs) (AA gs).length).at_ w' (fun k=>w.heap.size <= k) r:=by
 obtain ⟨x,hp,hok,hr,hst,_⟩:=FV h false false;have hlen:=hr.len hok;have hl6:=hok.len;refine BL Tryz.func33 rfl rfl hst ?_;repeat (first |refine Ai ?_ |refine Ab ?_)
 refine A5 Aa rfl (fun b2 hb2=>?_);repeat (first |refine Ai ?_ |refine Ab ?_ |refine Ag ?_ |refine Ae Aa rfl ?_)
 refine BF (Cs Aa rfl rfl rfl rfl rfl) ?_;repeat (first |refine Ai ?_ |refine Ab ?_ |refine Ag ?_ |refine Ad ?_ |refine Ao ?_ |refine AF rfl ?_ |refine Ae Aa rfl ?_ |refine Ap Aa 1 rfl rfl rfl ?_)
 refine A7 rfl Tryz.call63 (fun w1 h1=>(MM h1).mono fun e w' ⟨B,hB,e1,h2⟩=>⟨_,_,e1,h2,?_⟩);refine A7 rfl Tryz.call62 (fun w1 h1=>?_);refine (Hh (Lh hr.m2 (by omega) (h1.own _ (Af (i:=0) rfl)) (h1.own _ (Af (i:=4) rfl)))).mono fun e w' ⟨v,ss,e1,hp1,hnil,h2⟩=>⟨v,_,e1,h1.fresh (h2.below (Bw h2 0 rfl (Nat.le_refl _) An)) (x:=GU w.heap.size v ss) (Er (h2.own _ List.mem_cons_self) h1.size) (fun k hk=>(World.ownsRow.lt (h2.own _ List.mem_cons_self) k hk).1),?_⟩;have hmem:∀ n,n ∈ ss ↔ n ∈ AA gs:=fun n=>hp1.mem_iff.trans (hr.keys n)
 have hsl:ss.length=(AA gs).length:=by rw [hp1.length_eq,List.length_map,hlen]
 have hfit:∀ n ∈ ss,AT .u64 n:=fun n hn=>hok.nfit ((hmem n).1 hn)
 obtain ⟨a,c,rfl⟩:∃ a c,v= .slice a ss.length c:=by
  obtain ⟨a,c,e2,_⟩:=Cz (h2.own (GU w1.heap.size v ss) List.mem_cons_self);exact ⟨a,c,e2⟩
 refine Dn (Bs (· ∈ AA gs) (AA gs).length) (fun _=>False) rfl Tryz.call43 (fun w2 h3=>(SO (A:=TT) a ss.length c ss w2 (Bq.of_row (R:=A8 .u64) (DR .u64) (by rw [FB];exact h3.own _ (Af (i:=0) rfl)) rfl hfit fun k _ _=>trivial) (by omega)).mono fun e w' ⟨r,e2,hb,hs⟩=>⟨r,e2,hb,?_⟩) (fun r Fr w3 hFr hr3=>?_)
 ·exact (Bs _ _).mono (Ep hmem (by omega) hs) fun k hk=>ET h3 hk
 obtain ⟨a',n',c',rfl⟩:=CQ hr3;repeat (first |refine Ag ?_ |refine AB ?_ |refine Aw Aa 3 rfl rfl rfl rfl rfl rfl ?_)
 exact AY rfl (I0.cellO Aa 3 rfl rfl rfl rfl) (fun w' hw=>⟨_,rfl,hw.below (by repeat (first |exact An |refine Cg ?_ |refine BE ?_ |refine Az (by first |assumption |omega) ?_ |refine Bw hw 1 rfl (Nat.le_refl _) ?_)),(Bs _ _).mono (hw.own _ (Af (i:=0) rfl)).1 fun k hk=>(hFr k hk).resolve_left id⟩)
end
def Ch (s:Int->Bool) (g:BG):BG:=⟨g.id,g.L.filter fun n=>!s n,g.tm,g.tries⟩
def Eh (gs:List BG) (s:Int->Bool):List BG:=(gs.map (Ch s)).filter fun g=>!g.L.isEmpty
theorem HK (g:BG) (gs:List BG) (s:Int->Bool):Eh (g::gs) s=if (Ch s g).L= [] then Eh gs s else Ch s g::Eh gs s:=by
 unfold Eh;rw [List.map_cons];split
 ·rename_i h;rw [List.filter_cons_of_neg (by rw [h];simp)]
 ·rename_i h;rw [List.filter_cons_of_pos (by simpa using h)]
theorem Pq (p q:Int->Bool) (g:BG):Ch q (Ch p g)=Ch (fun n=>p n || q n) g:=by
 unfold Ch;simp only [List.filter_filter,BG.mk.injEq,true_and,and_true]
 exact List.filter_congr fun n _=>by cases p n<;>cases q n<;>rfl
theorem LG (p q:Int->Bool):∀ gs:List BG,Eh (Eh gs p) q=Eh gs fun n=>p n || q n
 | []=>rfl
 |g::gs=>by
  have hc:=Pq p q g;rw [HK g gs fun n=>p n || q n,<-hc,HK g gs p];split
  ·rename_i h
   have h2:(Ch q (Ch p g)).L= []:=by
    show List.filter _ (Ch p g).L= [];rw [h];rfl
   rw [if_pos h2,LG p q gs]
  ·rw [HK,LG p q gs]
theorem Is {p q:Int->Bool} {gs:List BG} (h:∀ n ∈ AA gs,p n=q n):Eh gs p=Eh gs q:=by
 unfold Eh;congr 1;refine List.map_congr_left fun g hg=>?_;unfold Ch;simp only [BG.mk.injEq,true_and,and_true]
 exact List.filter_congr fun n hn=>by rw [h n (List.mem_flatMap.2 ⟨g,hg,hn⟩)]
theorem Mm {p:Int->Bool}:∀ {gs:List BG},I9 gs->(∀ n ∈ AA gs,p n=false)->Eh gs p=gs
 | [],_,_=>rfl
 |g::gs,hne,h=>by
  have hc:Ch p g=g:=by
   unfold Ch;rw [List.filter_eq_self.2 fun n hn=>by rw [h n (List.mem_flatMap.2 ⟨g,List.mem_cons_self,hn⟩)];rfl]
  rw [HK,hc,if_neg (hne g List.mem_cons_self),Mm (fun x hx=>hne x (List.mem_cons_of_mem _ hx)) fun n hn=>h n (by
   obtain ⟨x,hx,hn⟩:=List.mem_flatMap.1 hn
   exact List.mem_flatMap.2 ⟨x,List.mem_cons_of_mem _ hx,hn⟩)]
theorem Ng (gs:List BG) (s:Int->Bool):I9 (Eh gs s):=fun g hg h=>by
 have:=(List.mem_filter.1 hg).2;rw [h] at this;cases this
theorem Fy (s:Int->Bool):∀ gs:List BG,AA (gs.map (Ch s))=(AA gs).filter fun n=>!s n
 | []=>rfl
 |g::gs=>by
  have ih:=Fy s gs;simp only [AA] at ih ⊢;rw [List.map_cons,List.flatMap_cons,List.flatMap_cons,List.filter_append,ih];rfl
theorem Oq:∀ gs:List BG,AA (gs.filter fun g=>!g.L.isEmpty)=AA gs
 | []=>rfl
 |g::gs=>by
  have ih:=Oq gs;simp only [AA] at ih ⊢;by_cases h:g.L= []
  ·rw [List.filter_cons_of_neg (by rw [h];simp),List.flatMap_cons,h,ih];rfl
  ·rw [List.filter_cons_of_pos (by simpa using h),List.flatMap_cons,List.flatMap_cons,ih]
theorem GI (gs:List BG) (s:Int->Bool):AA (Eh gs s)=(AA gs).filter fun n=>!s n:=(Oq _).trans (Fy s gs)
section
variable {last:Int} {gs:List BG}
theorem CU.cut (h:CU last gs) (s:Int->Bool):CU last (gs.map (Ch s)) where
 ids:=by
  rw [List.map_map];exact h.ids
 idb:=fun g hg=>by
  obtain ⟨x,hx,rfl⟩:=List.mem_map.1 hg;exact h.idb x hx
 srt:=fun g hg=>by
  obtain ⟨x,hx,rfl⟩:=List.mem_map.1 hg;exact (h.srt x hx).sublist List.filter_sublist
 nd:=by rw [Fy];exact h.nd.sublist List.filter_sublist
 fit:=fun g hg n hn=>by
  obtain ⟨x,hx,rfl⟩:=List.mem_map.1 hg;exact h.fit x hx n (List.mem_filter.1 hn).1
 tr:=fun g hg=>by
  obtain ⟨x,hx,rfl⟩:=List.mem_map.1 hg;exact h.tr x hx
 tm:=fun g hg=>by
  obtain ⟨x,hx,rfl⟩:=List.mem_map.1 hg;exact h.tm x hx
 len:=by rw [Fy];exact Nat.le_trans (List.length_filter_le _ _) h.len
 lst:=h.lst
 cnt:=by rw [List.length_map];exact h.cnt
theorem Fx {l m:List BG} (h:l.Sublist m):(AA l).Sublist (AA m):=by
 induction h with
 |slnil=>exact List.Sublist.refl _
 |cons a h ih=>
  simp only [AA,List.flatMap_cons] at ih ⊢;exact ih.trans (List.sublist_append_right _ _)
 |cons_cons a h ih=>
  simp only [AA,List.flatMap_cons] at ih ⊢;exact (List.Sublist.refl _).append ih
theorem CU.sub {gs':List BG} (h:CU last gs) (hs:gs'.Sublist gs):CU last gs' where
 ids:=h.ids.sublist (hs.map _)
 idb:=fun g hg=>h.idb g (hs.subset hg)
 srt:=fun g hg=>h.srt g (hs.subset hg)
 nd:=h.nd.sublist (Fx hs)
 fit:=fun g hg=>h.fit g (hs.subset hg)
 tr:=fun g hg=>h.tr g (hs.subset hg)
 tm:=fun g hg=>h.tm g (hs.subset hg)
 len:=Nat.le_trans (Fx hs).length_le h.len
 lst:=h.lst
 cnt:=Nat.le_trans hs.length_le h.cnt
theorem CU.rm (h:CU last gs) (s:Int->Bool):CU last (Eh gs s):=(h.cut s).sub List.filter_sublist
abbrev I7 (n:Int):Int->Bool:=fun k=>decide (k=n)
theorem IK (h:CU last gs) {g x:BG} {n:Int} (hg:g ∈ gs) (hn:n ∈ g.L) (hx:x ∈ gs) (hne:x.id ≠ g.id):Ch (I7 n) x=x:=by
 unfold Ch;rw [List.filter_eq_self.2 fun k hk=>?_];have:k ≠ n:=fun e=>hne (by rw [JP h.nd hx hg (e ▸ hk) hn]);simp [I7,this]
theorem Sw (h:CU last gs) (hne:I9 gs) {g:BG} {n:Int} (hg:g ∈ gs) (hn:n ∈ g.L) (hc:(Ch (I7 n) g).L ≠ []):Eh gs (I7 n)=gs.map (Ch (I7 n)):=by
 unfold Eh;refine List.filter_eq_self.2 fun y hy=>?_;obtain ⟨x,hx,rfl⟩:=List.mem_map.1 hy;by_cases e:x.id=g.id
 ·obtain rfl:=CR BG.id h.idn hx hg e;simpa using hc
 ·rw [IK h hg hn hx e];simpa using hne x hx
theorem Sy (h:CU last gs) (hne:I9 gs) {g:BG} {n:Int} (hg:g ∈ gs) (hn:n ∈ g.L) (hc:(Ch (I7 n) g).L= []):Eh gs (I7 n)=(gs.map (Ch (I7 n))).filter fun x=>decide (x.id ≠ g.id):=by
 unfold Eh;refine List.filter_congr fun y hy=>?_;obtain ⟨x,hx,rfl⟩:=List.mem_map.1 hy;by_cases e:x.id=g.id
 ·obtain rfl:=CR BG.id h.idn hx hg e;rw [hc];simp [Ch]
 ·have e2:(Ch (I7 n) x).id ≠ g.id:=e;rw [IK h hg hn hx e] at e2 ⊢;simp [e,hne x hx]
theorem OF (s:Int->Bool):∀ gs:List BG,Ga (gs.map (Ch s))=Ga gs
 | []=>rfl
 |g::gs=>by
  have ih:=OF s gs;unfold Ga at ih ⊢;rw [List.map_cons,List.foldr_cons,List.foldr_cons,ih];rfl
theorem Rj (h:CU last gs) (id:Int):Db (Ga gs) id=Ga (gs.filter fun x=>decide (x.id ≠ id)):=by
 refine Px h.idn (h.sub List.filter_sublist).idn ?_;rw [List.filter_map];exact List.Perm.refl _
section
variable {M1 M2:List ME} {c1 c2:Nat} {B:Int->Nat}
theorem OE (s:Int->Bool) (id:Int):∀ gs:List BG,Mb (gs.map (Ch s)) id=(Mb gs id).map (Ch s)
 | []=>rfl
 |g::gs=>by
  have ih:=OE s id gs;unfold Mb at ih ⊢;rw [List.map_cons,List.find?_cons,List.find?_cons,ih];show (match decide (g.id=id) with |true=>_ |false=>_)=_;cases decide (g.id=id)<;>rfl
theorem EB.cut1 (hr:EB gs M1 M2 c1 c2 B) (hok:CU last gs) (n:Int):EB (gs.map (Ch (I7 n))) M1 (D3 M2 n) c1 c2 B where
 inj:=fun g hg g' hg' e=>by
  obtain ⟨x,hx,rfl⟩:=List.mem_map.1 hg;obtain ⟨x',hx',rfl⟩:=List.mem_map.1 hg';exact hr.inj x hx x' hx' e
 m1:=hr.m1
 g1:=fun id=>by
  rw [hr.g1,OE,Option.map_map];rfl
 m2:=hr.m2.del n
 g2:=fun k=>by
  rw [HS n k M2 hr.m2.keys];by_cases hk:k=n
  ·rw [if_pos hk];have:EW (gs.map (Ch (I7 n))) k=none:=Cy.2 (by rw [Fy,List.mem_filter];simp [I7,hk]);rw [this];rfl
  ·rw [if_neg hk,hr.g2]
   cases hb:EW gs k with
   |none=>
    have:EW (gs.map (Ch (I7 n))) k=none:=Cy.2 (by rw [Fy,List.mem_filter];exact fun h=>Cy.1 hb h.1);rw [this]
   |some g=>
    have h1:=D5 hb;rw [FF (hok.cut _) (List.mem_map.2 ⟨g,h1.1,rfl⟩) (List.mem_filter.2 ⟨h1.2,by simp [I7,hk]⟩)];rfl
theorem EB.del (hr:EB gs M1 M2 c1 c2 B) (hok:CU last gs) {id:Int} (hem:∀ g ∈ gs,g.id=id->g.L= []):EB (gs.filter fun x=>decide (x.id ≠ id)) (D3 M1 id) M2 c1 c2 B where
 inj:=fun g hg g' hg'=>hr.inj g (List.mem_filter.1 hg).1 g' (List.mem_filter.1 hg').1
 m1:=hr.m1.del id
 g1:=fun k=>by
  rw [HS id k M1 hr.m1.keys];by_cases hk:k=id
  ·rw [if_pos hk]
   have:Mb (gs.filter fun x=>decide (x.id ≠ id)) k=none:=Gx.2 fun g hg=>by rw [hk];simpa using (List.mem_filter.1 hg).2
   rw [this];rfl
  ·rw [if_neg hk,hr.g1]
   cases hb:Mb gs k with
   |none=>
    have:Mb (gs.filter fun x=>decide (x.id ≠ id)) k=none:=Gx.2 fun g hg=>Gx.1 hb g (List.mem_filter.1 hg).1;rw [this]
   |some g=>
    obtain ⟨h1,rfl⟩:=MO hb;rw [FW (hok.sub List.filter_sublist) (List.mem_filter.2 ⟨h1,by simpa using hk⟩)]
 m2:=hr.m2
 g2:=fun k=>by
  rw [hr.g2]
  cases hb:EW gs k with
  |none=>
   have:EW (gs.filter fun x=>decide (x.id ≠ id)) k=none:=Cy.2 fun h=>Cy.1 hb ((Fx List.filter_sublist).subset h);rw [this]
  |some g=>
   have h1:=D5 hb
   have hne:g.id ≠ id:=fun e=>by rw [hem g h1.1 e] at h1;cases h1.2
   rw [FF (hok.sub List.filter_sublist) (List.mem_filter.2 ⟨h1.1,by simpa using hne⟩) h1.2]
end
end
theorem SK {w0 w:World} {ol:OL} {x:Int} {e:TypeId} {v:Value} (hx:AT .u64 x) (h:F4 w0 ol 1 [.int .u64 x] e v w):∃ b,v= .slice (some ⟨b,0,none⟩) 1 1/\Bq (A8 .u64) w TT (some ⟨b,0,none⟩) 1 1 [x]:=by
 obtain ⟨b,rfl,h1,h2,_⟩:=h;exact ⟨b,rfl,.of_flat (DR .u64) rfl (Nat.le_refl _) (by decide) (fun h=>by cases h) (Sl.of_blk (xs:=[.int .u64 x]) h1 rfl (fun j u hu=>by rw [Nat.zero_add];exact hu)) (by intro y hy;rw [List.mem_singleton] at hy;subst hy;exact hx) (fun _=>⟨_,_,rfl,trivial⟩)⟩
theorem WR {w0 w:World} {ol:OL} {x:Int} {e:TypeId} {v:Value} (hx:AT .u64 x) (h:F4 w0 ol 1 [.int .u64 x] e v w):
 Calls Tryz.prog 43 #[v] w fun e w'=>∃ r,e= .returned r/\Below w.heap.size w w'/\(Bs (fun y=>y=x) 1).at_ w' (fun k=>w.heap.size <= k) r:=by
 obtain ⟨b,rfl,hs⟩:=SK hx h;exact (SO _ 1 1 [x] w hs (by decide)).mono fun e w' ⟨r,e1,e2,e3⟩=>⟨r,e1,e2,Ep (fun y=>List.mem_singleton) (Nat.le_refl _) e3⟩
theorem JB {L:List Int} {S:Int->Prop} {Bd:Nat} {w:World} {A:Nat->Prop} {v:Value} (h:(Bs S Bd).at_ w A v) (hL:L.Pairwise (· < ·)) (hS:∀ x,S x ↔ x ∈ L):(Bs (· ∈ L) L.length).at_ w A v:=by
 obtain ⟨a,n,c,m,rfl,h1,h2,h3,h4⟩:=Cx h
 have e:Ce m=L:=LQ (HX h1) hL fun x=>by rw [EE,h2,hS]
 have hlen:∀ m:List BT,(∀ r ∈ m,r.1 <= r.2)->m.length <= (Ce m).length:=fun m=>by
  induction m with
  |nil=>exact fun _=>Nat.le_refl _
  |cons r m ih=>
   intro h;rw [FU,List.length_append,N7,List.length_cons];have:=ih fun x hx=>h x (List.mem_cons_of_mem _ hx);have:=h r List.mem_cons_self;omega
 have:=hlen m h1.le;rw [e] at this;exact Of h1 (fun x=>(h2 x).trans (hS x)) this h4
theorem Hp.mapI {w0 w:World} {ol ol':OL} (i:Nat) {Φ Ψ:World->Prop} {F:Nat->Prop} {r:Bool} (hh:Hp w0 w ol) (hi:B9 ol i=some (.rep Φ F r)) (hΨ:Φ w->Ψ w) (hl:PH Ψ F) (hput:C8 ol i (.rep Ψ F r)=some ol'):Hp w0 w ol':=by
 obtain ⟨pre,post,e1,e2⟩:=CP hi hput;subst e1 e2;have h0:=hh.own _ (List.mem_append.2 (.inr List.mem_cons_self):(.rep Φ F r:HE) ∈ pre ++ .rep Φ F r::post);have ha:=List.pairwise_append.1 hh.apart;have hb:=List.pairwise_cons.1 ha.2.1;refine ⟨hh.os,hh.tape,hh.output,hh.size,fun k hk he=>hh.old k hk fun e hm hx hk2=>?_,fun e hm=>?_,List.pairwise_append.2 ⟨ha.1,List.pairwise_cons.2 ⟨fun e he=>hb.1 e he,hb.2⟩,fun e he e' he'=>?_⟩⟩
 ·rcases List.mem_append.1 hm with hm |hm
  ·exact he e (List.mem_append.2 (.inl hm)) hx hk2
  rcases List.mem_cons.1 hm with rfl |hm
  ·exact he (.rep Ψ F r) (List.mem_append.2 (.inr List.mem_cons_self)) hx hk2
  ·exact he e (List.mem_append.2 (.inr (List.mem_cons_of_mem _ hm))) hx hk2
 ·rcases List.mem_append.1 hm with hm |hm
  ·exact hh.own e (List.mem_append.2 (.inl hm))
  rcases List.mem_cons.1 hm with rfl |hm
  ·exact ⟨hΨ h0.1,hl,h0.2.2⟩
  ·exact hh.own e (List.mem_append.2 (.inr (List.mem_cons_of_mem _ hm)))
 ·rcases List.mem_cons.1 he' with rfl |he'
  ·exact ha.2.2 e he (.rep Φ F r) List.mem_cons_self
  ·exact ha.2.2 e he e' (List.mem_cons_of_mem _ he')
theorem Ji {gs:List BG} {g:BG} (h:g ∈ gs):g.L.length <= (AA gs).length:=by
 induction gs with
 |nil=>cases h
 |cons x gs ih=>
  rw [AA,List.flatMap_cons,List.length_append]
  rcases List.mem_cons.1 h with rfl |h
  ·omega
  ·have:=ih h;simp only [AA] at this;omega
def Jr (X:Int->SX) (id:Int) (x:SX):Int->SX:=fun i=>if i=id then x else X i
def MD (s:Int->Bool) (l:List Int):Int->Bool:=fun n=>s n && decide (n ∈ l)
theorem MC {s:Int->Bool} {l:List Int} {n:Int} (h:s n=false):MD s (l ++ [n])=MD s l:=by
 funext k;unfold MD;by_cases e:k=n
 ·subst e;rw [h];rfl
 ·simp [e]
theorem QM {s:Int->Bool} {l:List Int} {n:Int} (h:s n=true):MD s (l ++ [n])=fun k=>MD s l k || I7 n k:=by
 funext k;unfold MD I7;by_cases e:k=n
 ·subst e;simp [h]
 ·simp [e]
theorem Qa {s:Int->Bool} {l:List Int} {n:Int} (gs:List BG) (h:s n=true):Eh gs (MD s (l ++ [n]))=Eh (Eh gs (MD s l)) (I7 n):=by rw [QM h,LG]
structure XR where
 i:Nat
 A:Option Addr
 C:Nat
 c1:Nat
 c2:Nat
 M1:List ME
 M2:List ME
 X:Int->SX
 Fa:Nat->Prop
 Fs:Nat->Prop
abbrev XR.h (j:XR) (gb mb ab:Nat) (B:Int->Nat) (Fg:Nat->Prop):BH:=⟨gb,mb,ab,j.c1,j.c2,j.M1,j.M2,B,j.X,j.Fa,Fg,j.Fs⟩
section
variable {bb:Nat} {f m last:Int} {gs:List BG} {w w0:World} {F:Nat->Prop} {ol:OL}
set_option maxHeartbeats 8000000 in
theorem OB (h:(DF bb f m gs last).at_ w F (.bool true)) (hF:∀ k,F k->k < w.heap.size) {a0:Option Addr} {n0 c0:Nat} {s:Int->Bool} {Bd:Nat} {A0:Nat->Prop} (hs:(Bs (fun n=>s n=true) Bd).at_ w A0 (Bz a0 n0 c0)) (hAF:∀ k,A0 k->¬ F k) (hBd:Bd <= 900000):
 Calls Tryz.prog 36 #[AG bb,Bz a0 n0 c0] w fun e w'=>∃ A C,e= .returned (.slice A (By ((AA gs).filter s)).length C)/\
  ∃ F':Nat->Prop,(∀ k,F k->F' k)/\(∀ k,F' k->F k \/ w.heap.size <= k)/\Hp w w' [.row w.heap.size (.slice A (By ((AA gs).filter s)).length C) 32 1 (By ((AA gs).filter s)).length (Bj (By ((AA gs).filter s))),.rep (fun w=>(DF bb f m (Eh gs s) last).at_ w F' (.bool true)) F' true]:=by
 obtain ⟨x,hp,hok,hr,hst,hcov,hne⟩:=FV h true false;have hlen:=hr.len hok;have hl6:=hok.len;obtain ⟨Fq,hFq,_,hst2⟩:=hst.addV (p:=Bs (fun n=>s n=true) Bd) (A:=A0) (v:=Bz a0 n0 c0) ((Bs _ _).mono hs fun k hk=>⟨.inl hk,fun e he hx hh=>hAF k hk (Rb hcov e he hx k hh)⟩);obtain ⟨gb,mb,ab,c1,c2,M1,M2,Bk,X,Fa,Fg,Fs⟩:=x;dsimp only at hr hst2 hlen;have hFb:F bb:=hcov _ (Af (i:=0) rfl) bb rfl;have hFgb:F gb:=hcov _ (Af (i:=1) rfl) gb rfl;have hFmb:F mb:=hcov _ (Af (i:=2) rfl) mb rfl;have hFa:∀ k,Fa k->F k:=hcov _ (Af (i:=3) rfl);have hFg:∀ k,Fg k->F k:=hcov _ (Af (i:=4) rfl);have hFs:∀ k,Fs k->F k:=hcov _ (Af (i:=5) rfl);clear hst hcov;refine BS Tryz.func36 rfl rfl hst2 ?_;repeat (first |refine Ai ?_ |refine Ab ?_)
 refine A5 Aa rfl (fun b3 hb3=>?_);repeat (first |refine Ai ?_ |refine Ab ?_ |refine Ag ?_ |refine Ae Aa rfl ?_)
 refine BF (Cs Aa rfl rfl rfl rfl rfl) ?_;repeat (first |refine Ag ?_)
 refine AF rfl ?_;repeat (first |refine Ai ?_ |refine Ab ?_ |refine Ag ?_ |refine Ad ?_ |refine Ao ?_ |refine Ae Aa rfl ?_ |refine Ap Aa 2 rfl rfl rfl ?_)
 refine A7 rfl Tryz.call63 (fun w1 h1=>(MM h1).mono fun e w' ⟨B,hB,e1,h2⟩=>⟨_,_,e1,h2,?_⟩);refine A7 rfl Tryz.call66 (fun w1 h1=>?_);refine (O2 (Lh hr.m2 (by omega) (h1.own _ (Af (i:=0) rfl)) (h1.own _ (Af (i:=5) rfl))) (fun ss hs=>by have:=hs.length_eq;rw [List.length_map] at this;omega)).mono fun e w' ⟨v,ss,ns,e1,hp1,hp2,hsrt,hnil,h2⟩=>⟨v,_,e1,h1.fresh (h2.below (Bw h2 0 rfl (Nat.le_refl _) An)) (x:=GU w.heap.size v ns) (Er (h2.own _ List.mem_cons_self) h1.size) (fun k hk=>(World.ownsRow.lt (h2.own _ List.mem_cons_self) k hk).1),?_⟩;have hmem:∀ n,n ∈ ns ↔ n ∈ AA gs:=fun n=>hp2.mem_iff.trans (hp1.mem_iff.trans (hr.keys n))
 have hnl:ns.length=(AA gs).length:=by rw [hp2.length_eq,hp1.length_eq,List.length_map,hlen]
 have hnd:ns.Nodup:=hp2.nodup_iff.2 (hp1.nodup_iff.2 hr.m2.keys)
 have hlt:ns.Pairwise (· < ·):=by
  refine (List.Pairwise.and hsrt hnd).imp fun ⟨h1,h2⟩=>?_;omega
 obtain ⟨an,cn,rfl⟩:∃ a c,v= .slice a ns.length c:=by
  obtain ⟨a,c,e2,_⟩:=Cz (h2.own (GU w1.heap.size v ns) List.mem_cons_self);exact ⟨a,c,e2⟩
 clear h2 hnil e1;have hout:By ((AA gs).filter s)=ns.filter s:=(KH (hlt.sublist List.filter_sublist) fun n=>by rw [List.mem_filter,List.mem_filter,hmem]).symm;rw [hout];repeat (first |refine Ar ?_ |refine Ag ?_ |refine Ae Aa rfl ?_)
 have e0:Eh gs (MD s (ns.take 0))=gs:=Mm hne fun n _=>by simp [MD]
 refine AM (ι:=XR) (fun j=>[(0,AG bb),(3,.pointer (some ⟨b3,0,none⟩)),(17,.slice an ns.length cn),(18,.int .i64 (ns.length:Int)),(19,.int .i64 (j.i:Int)),(5,.slice j.A ((ns.take j.i).filter s).length j.C)])
  (fun j=>G6 bb f m (Eh gs (MD s (ns.take j.i))) last (j.h gb mb ab Bk Fg) true false ++ [.row w.heap.size (.slice j.A ((ns.take j.i).filter s).length j.C) 32 1 ((ns.take j.i).filter s).length (Bj ((ns.take j.i).filter s)),GU w.heap.size (.slice an ns.length cn) ns,.blk b3 (.cells ⟨[.slice a0 n0 c0]⟩ 52 (0,0)) true,.rep (fun w=>(Bs (fun n=>s n=true) Bd).at_ w Fq (Bz a0 n0 c0)) Fq false])
  (fun j=>j.i <= ns.length/\EB (Eh gs (MD s (ns.take j.i))) j.M1 j.M2 j.c1 j.c2 Bk/\(∀ k,j.Fa k->F k \/ w.heap.size <= k)/\∀ k,j.Fs k->F k \/ w.heap.size <= k) (fun j=>ns.length - j.i) ⟨0,none,0,c1,c2,M1,M2,X,Fa,Fs⟩ ⟨Nat.zero_le _,by rw [e0];exact hr,fun k hk=>.inl (hFa k hk),fun k hk=>.inl (hFs k hk)⟩ (by repeat (first |exact As.nil |refine As.cons rfl ?_)) (fun w' hw=>?_) ?_
 ·have h9:=hw.nilRow 32 1;rw [e0];exact (h9.pm [5,6,7,8,9,10,0,1,3,4,2] rfl rfl rfl).less (by repeat (first |exact Au.nil |refine Au.keep ?_ |refine Au.dropB (by first |assumption |omega) ?_))
 rintro ⟨i,A,C,c1,c2,M1,M2,X,Fa,Fs⟩ ⟨hi,hr,hFa,hFs⟩;dsimp only at hi hr hFa hFs ⊢;repeat (first |refine Ai ?_ |refine Ab ?_ |refine Ag ?_ |refine Ae Aa rfl ?_)
 refine Ak rfl (fun hlt1=>?_) (fun hge=>?_);rotate_left
 ·have hie:i=ns.length:=by omega
  subst hie;rw [List.take_length] at hr ⊢
  have e9:Eh gs (MD s ns)=Eh gs s:=Is fun n hn=>by simp [MD,hmem,hn]
  rw [e9] at hr ⊢;repeat (first |refine Ai ?_ |refine Ab ?_ |refine Ag ?_ |refine Ad ?_ |refine AC ?_ |refine Am ?_ |refine AB ?_ |refine AH ?_ |refine Ae Aa rfl ?_)
  exact AY rfl rfl (fun w' hw=>⟨A,C,rfl,by
   obtain ⟨F',g1,g2,g3⟩:=H9 (F0:=F) (ol:=[.row w.heap.size (.slice A (ns.filter s).length C) 32 1 (ns.filter s).length (Bj (ns.filter s))]) (hw.less (by repeat (first |exact Au.nil |refine Au.keep ?_ |refine Au.dropR ?_ |refine Au.dropB (by first |assumption |omega) ?_ |refine Au.dropW (Nat.le_refl _) ?_))) hp (hok.rm s) (Ng gs s) hr hF (fun e he=>by
    rw [List.mem_singleton] at he;subst he
    exact ⟨rfl,fun k hk=>(World.ownsRow.lt (hw.own _ (Af (i:=6) rfl)) k hk).1⟩) (Ki (.inl hFb) (.inl hFgb) (.inl hFmb) hFa (fun k hk=>.inl (hFg k hk)) hFs)
   exact ⟨F',g1,g2,g3.pm [1,0] rfl rfl rfl⟩⟩)
 have hin:i < ns.length:=by omega
 obtain ⟨n,hn⟩:∃ n,ns[i]? =some n:=⟨_,List.getElem?_eq_getElem hin⟩
 have htk:ns.take (i + 1)=ns.take i ++ [n]:=by
  rw [List.take_succ_eq_append_getElem hin];rw [List.getElem?_eq_getElem hin] at hn;rw [Option.some.inj hn]
 have hnb:n ∈ AA gs:=(hmem n).1 (List.mem_of_getElem? hn);have hnf:=hok.nfit hnb;repeat (first |refine Ai ?_ |refine Ab ?_ |refine Ar ?_ |refine Ad ?_ |refine Ao ?_)
 refine Fi 7 rfl (by omega) (fun gN hgN=>?_);subst hgN;refine BF (Ax Aa rfl rfl rfl rfl rfl rfl rfl (j:=i) rfl hin) ?_;refine Bb Aa (v:=.int .u64 n) rfl rfl (fun w' hw=>Cp (hw.own _ (Af (i:=7) rfl)) (by omega) (by rw [Nat.zero_add,List.getElem?_map,hn];rfl)) ?_;repeat (first |refine Ai ?_ |refine Ab ?_ |refine Ag ?_ |refine Ae Aa rfl ?_)
 refine Ap Aa 8 rfl rfl rfl ?_;repeat (first |refine Ae Aa rfl ?_)
 cases hs1:s n with
 |false=>
  refine Bo (v:=.bool false) rfl Tryz.call67 (fun w1 h1=>UG n false w1 (h1.own _ (Af (i:=9) rfl)).1 hBd (by rw [hs1])) ?_;repeat (first |refine Ag ?_ |refine Ae Aa rfl ?_)
  refine AN rfl ?_;repeat (first |refine Ab ?_ |refine Ag ?_ |refine Ad ?_ |refine AC ?_ |refine Am ?_ |refine AH ?_ |refine AE Aa rfl (by omega) ?_ |refine Ae Aa rfl ?_)
  exact ⟨⟨i + 1,A,C,c1,c2,M1,M2,X,Fa,Fs⟩,⟨hin,by dsimp only;rw [htk,MC hs1];exact hr,hFa,hFs⟩,(by
   dsimp only;rw [htk,List.filter_append,List.filter_cons_of_neg (by simp [hs1]),List.filter_nil,List.append_nil]
   repeat (first |exact As.nil |refine As.cons rfl ?_)),fun w' hw=>(by
   dsimp only;rw [htk,MC hs1,List.filter_append,List.filter_cons_of_neg (by simp [hs1]),List.filter_nil,List.append_nil]
   exact hw),by dsimp only;omega⟩
 |true=>
  refine Bo (v:=.bool true) rfl Tryz.call67 (fun w1 h1=>UG n true w1 (h1.own _ (Af (i:=9) rfl)).1 hBd (by rw [hs1])) ?_;repeat (first |refine Ag ?_ |refine Ae Aa rfl ?_)
  refine AF rfl ?_;repeat (first |refine Ai ?_ |refine Ab ?_ |refine Ad ?_ |refine Ao ?_ |refine Ae Aa rfl ?_)
  obtain ⟨gs1,hgs1⟩:∃ g1,g1=Eh gs (MD s (ns.take i)):=⟨_,rfl⟩
  have hstep:Eh gs (MD s (ns.take (i + 1)))=Eh gs1 (I7 n):=by rw [htk,Qa gs hs1,hgs1]
  have hok1:CU last gs1:=hgs1 ▸ hok.rm _;have hne1:I9 gs1:=hgs1 ▸ Ng _ _
  have hnt:n ∉ ns.take i:=fun hm=>by
   have h1:(ns.take (i + 1)).Nodup:=hnd.sublist (List.take_sublist _ _);rw [htk,List.nodup_append] at h1;exact h1.2.2 n hm n (List.mem_singleton.2 rfl) rfl
  have hn1:n ∈ AA gs1:=by rw [hgs1,GI,List.mem_filter];exact ⟨hnb,by simp [MD,hnt]⟩
  obtain ⟨g,hgm,hgn⟩:=List.mem_flatMap.1 hn1;rw [<-hgs1] at hr ⊢;have hm2:=hr.g2 n;rw [FF hok1 hgm hgn] at hm2;have hm1:=hr.g1 g.id;rw [FW hok1 hgm] at hm1;have hB2:=hr.cut1 hok1 n
  have hfl:((ns.take i).filter s).length <= 60000:=by
   have h1:=List.length_filter_le s (ns.take i);rw [List.length_take] at h1;omega
  have e5:(ns.take (i + 1)).filter s=(ns.take i).filter s ++ [n]:=by rw [htk,List.filter_append,List.filter_cons_of_pos hs1,List.filter_nil]
  refine AO Aa rfl rfl rfl rfl rfl rfl rfl rfl rfl rfl rfl rfl (fun nb hnb2=>?_);refine AU (ty:=0) (k:=1) (news:=[.int .u64 n]) Aa 7 (sz:=1) rfl rfl rfl rfl rfl rfl rfl rfl rfl (by decide) (fun w' hw=>Sl.of_blk (hw.own _ (Af (i:=0) rfl)) rfl (fun j u hu=>by rw [Nat.zero_add];exact hu)) (fun u hu=>by rw [List.mem_singleton] at hu;subst hu;rfl) (by simp only [maxLen];omega) (by show (_ + _) * 8 <= _;omega) rfl (fun A' C' hA' hC'=>⟨_,rfl,?_⟩);refine B6 (fun w' hw=>hw.dropn hnb2) ?_;repeat (first |refine Ai ?_ |refine Ab ?_ |refine Ag ?_ |refine Ae Aa rfl ?_ |refine Ap Aa 0 rfl rfl rfl ?_)
  refine BF (N1 (v:=.int .u64 g.id) Aa rfl rfl rfl rfl rfl rfl rfl rfl (fun w' hw=>hw.own _ (Af (i:=2) rfl)) hm2) ?_;repeat (first |refine Ai ?_ |refine Ab ?_ |refine Ag ?_ |refine Ae Aa rfl ?_ |refine Ap Aa 0 rfl rfl rfl ?_)
  refine Lr Aa 2 rfl rfl rfl rfl rfl rfl rfl rfl rfl ?_;repeat (first |refine Ai ?_ |refine Ab ?_ |refine Ag ?_ |refine Ae Aa rfl ?_ |refine Ap Aa 0 rfl rfl rfl ?_)
  refine BF (N1 (v:=AG (Bk g.id)) Aa rfl rfl rfl rfl rfl rfl rfl rfl (fun w' hw=>hw.own _ (Af (i:=1) rfl)) hm1) ?_;repeat (first |refine Ai ?_ |refine Ag ?_ |refine Ae Aa rfl ?_)
  refine Fh (X:=Fg (Bk g.id)) (fun w' hw=>((hw.own _ (Af (i:=4) rfl)).1 g hgm).2) (fun hFgg=>?_);have hgl:=Ji hgm;have hl1:=hok1.len;obtain ⟨g2,hg2⟩:∃ g2,g2=Ch (I7 n) g:=⟨_,rfl⟩
  have hg2L:g2.L.Pairwise (· < ·):=by rw [hg2];exact (hok1.srt g hgm).sublist List.filter_sublist
  have hg2m:∀ x,(x ∈ g.L/\¬ x=n) ↔ x ∈ g2.L:=fun x=>by rw [hg2];simp [Ch,I7]
  have hg2l:g2.L.length <= g.L.length:=by rw [hg2];exact List.length_filter_le _ _
  refine Cf (by kernel_rfl) 11 rfl (by kernel_rfl) ?_;repeat (first |refine Ah Aa rfl ?_)
  refine Im Aa (vs:=[(X g.id).v]) rfl rfl rfl (fun w' hw j u hu=>by
   rw [Addr.add_lit];refine IX ((hw.own _ (Af (i:=4) rfl)).1 g hgm).1 (j:=j) ?_
   cases j with
   |zero=>exact hu
   |succ j=>simp at hu) ?_
  repeat (first |refine Ah Aa rfl ?_)
  refine Lu Aa rfl rfl rfl rfl rfl rfl rfl rfl rfl rfl rfl rfl ?_
  refine GT (Bs (fun y=>y=n) 1) (fun _=>False) rfl Tryz.call43 (fun w' vs hw' h=>by
   obtain ⟨u1,_,rfl,g1,rfl⟩:=h
   exact (WR hnf g1).mono fun e w'' ⟨r,e1,e2,e3⟩=>⟨r,e1,e2,PM hw' e3⟩) ?_
  refine GT (Bs (· ∈ g2.L) g2.L.length) Fs rfl Tryz.call48 (fun w' vs hw' h=>by
   obtain ⟨u1,_,rfl,rfl,u2,_,rfl,g3,rfl⟩:=h;have h5:=Vp.fact (p:=I4 gs1 X) (v:=.bool true) (A:=Fs) hw' 5 rfl (fun k hk=>.inl hk) g hgm
   exact (Qz w' (fun k hk=>ET hw' hk) h5 g3 (by omega)).mono fun e w'' ⟨r,e1,e2,e3⟩=>⟨r,e1,e2,JB e3 hg2L hg2m⟩) ?_
  repeat (first |refine Ah Aa rfl ?_)
  refine Xu 56 rfl (by repeat (first |exact MF)) (fun v F2 w2 hF2 hv2=>?_);obtain ⟨a2,n2,c2',rfl⟩:=CQ hv2;refine Kz rfl ?_;obtain ⟨gs2,hgs2⟩:∃ g2,g2=gs1.map (Ch (I7 n)):=⟨_,rfl⟩;have hok2:CU last gs2:=hgs2 ▸ hok1.cut _
  have eAl:Ga gs2=Ga gs1:=by rw [hgs2,OF]
  rw [<-hgs2] at hB2
  have hg2m2:g2 ∈ gs2:=by rw [hgs2,hg2];exact List.mem_map.2 ⟨g,hgm,rfl⟩
  have hg2i:g2.id=g.id:=by rw [hg2];rfl
  have hg2t:g2.tries=g.tries:=by rw [hg2];rfl
  obtain ⟨X2,hX2⟩:∃ X2,X2=Jr X g.id ⟨a2,n2,c2'⟩:=⟨_,rfl⟩
  have hX2g:X2 g2.id=⟨a2,n2,c2'⟩:=by rw [hX2,hg2i];unfold Jr;rw [if_pos rfl]
  refine Kv Aa 5 (Ψ:=fun w=>(Ma gs2 Bk X2).at_ w Fg (.bool true)) [(X g.id).v,.int .i64 g.tries] [.slice a2 n2 c2',.int .i64 g.tries] 144 rfl rfl (fun u hu=>by rw [List.mem_singleton] at hu;subst hu;rfl) rfl hFgg (fun w h=>(h g hgm).1) rfl (fun w w' h h1 h2 y hy=>?_) Vp.loc rfl ?_
  ·rw [hgs2] at hy;obtain ⟨z,hz,rfl⟩:=List.mem_map.1 hy;show w'.heap[Bk z.id]? =some (S6 (X2 z.id) z.tries)/\Fg (Bk z.id);rw [hX2];unfold Jr;by_cases e:z.id=g.id
   ·obtain rfl:=CR BG.id hok1.idn hz hgm e;rw [if_pos rfl];exact ⟨h2,hFgg⟩
   ·rw [if_neg e];exact ⟨(h1 _ fun e2=>e (hr.inj z hz g hgm e2)).trans (h z hz).1,(h z hz).2⟩
  refine B6 (ol':=G6 bb f m gs2 last ⟨gb,mb,ab,c1,c2,M1,D3 M2 n,Bk,X2,Fa,Fg,fun k=>F2 k \/ Fs k⟩ true false ++ [.row w.heap.size (.slice A' (((ns.take i).filter s).length + 1) C') 32 1 (((ns.take i).filter s).length + 1) (Bj ((ns.take i).filter s) ++ [.int .u64 n]),GU w.heap.size (.slice (some ⟨gN,0,none⟩) ns.length cn) ns,.blk b3 (.cells ⟨[.slice a0 n0 c0]⟩ 52 (0,0)) true,.rep (fun w=>(Bs (fun n=>s n=true) Bd).at_ w Fq (Bz a0 n0 c0)) Fq false]) (fun w' hw=>?_) ?_
  ·have h9:=(hw.pm [0,6,1,2,3,4,5] rfl rfl rfl).merge (Ψ:=fun w=>(I4 gs2 X2).at_ w (fun k=>F2 k \/ Fs k) (.bool true)) (fun k1 k2 y hy=>?_) (Vp.loc (p:=I4 gs2 X2))
   ·rw [<-eAl] at h9;exact h9.pm [1,2,3,4,5,0] rfl rfl rfl
   ·rw [hgs2] at hy;obtain ⟨z,hz,rfl⟩:=List.mem_map.1 hy;show (Bs (· ∈ (Ch (I7 n) z).L) (Ch (I7 n) z).L.length).at_ _ _ (X2 z.id).s;rw [hX2];unfold Jr;by_cases e:z.id=g.id
    ·obtain rfl:=CR BG.id hok1.idn hz hgm e;rw [if_pos rfl,<-hg2];exact (Bs _ _).mono k1 fun k hk=>.inl hk
    ·rw [if_neg e,IK hok1 hgm hgn hz e];exact (Bs _ _).mono (k2 z hz) fun k hk=>.inr hk
  repeat (first |refine Ai ?_ |refine Ab ?_ |refine Ag ?_ |refine Ae Aa rfl ?_)
  refine BX Aa (vs:=[(X2 g2.id).v]) rfl rfl rfl (fun w' hw j u hu=>by
   rw [Addr.add_lit,<-hg2i];refine IX ((hw.own _ (Af (i:=4) rfl)).1 g2 hg2m2).1 (j:=j) ?_
   cases j with
   |zero=>exact hu
   |succ j=>simp at hu) ?_
  refine Bo (v:=.int .u64 (g2.L.length:Int)) rfl Tryz.call21 (fun w1 h1=>by
   have h5:(I4 gs2 X2).at_ w1 (fun k=>F2 k \/ Fs k) (.bool true):=(h1.own _ (Af (i:=5) rfl)).1
   exact Ue (h5 g2 hg2m2) (by omega) hg2L (fun x=>Iff.rfl) (by omega)) ?_
  repeat (first |refine Ag ?_ |refine Ae Aa rfl ?_)
  have hfin:∀ k,F2 k \/ Fs k->F k \/ w.heap.size <= k:=fun k hk=>hk.elim (fun h=>(hF2 k h).elim (hFs k) .inr) (hFs k);refine Ak rfl (fun hz=>?_) (fun hz=>?_)
  ·have hz0:g2.L= []:=List.eq_nil_of_length_eq_zero (by omega)
   have hrm:Eh gs1 (I7 n)=gs2.filter fun x=>decide (x.id ≠ g.id):=by rw [hgs2];exact Sy hok1 hne1 hgm hgn (by rw [<-hg2];exact hz0)
   have hB3:=hB2.del hok2 (id:=g.id) (fun y hy e=>by rw [CR BG.id hok2.idn hy hg2m2 (e.trans hg2i.symm)];exact hz0);repeat (first |refine Ai ?_ |refine Ab ?_ |refine Ae Aa rfl ?_ |refine Ap Aa 0 rfl rfl rfl ?_)
   refine Lr Aa 1 rfl rfl rfl rfl rfl rfl rfl rfl rfl ?_;repeat (first |refine Ag ?_ |refine Ae Aa rfl ?_ |refine Aq ?_ |refine Ap Aa 0 rfl rfl rfl ?_)
   have hl2:=hok2.cnt;refine CB 3 rfl Tryz.call68 rfl (fun w1 g1=>(Rv (g1.own _ (Af (i:=3) rfl)).1 (g1.own _ (Af (i:=3) rfl)).2.2 g.id).mono fun e w' ⟨he,Fa',g2',g3,g4⟩=>⟨_,_,Fa',he,g4,g2',g3,_,rfl,?_⟩);have hsz:=g1.size;repeat (first |refine Ab ?_ |refine Ag ?_ |refine Ad ?_ |refine Al ?_ |refine AE Aa rfl (by omega) ?_ |refine Ae Aa rfl ?_)
   refine ⟨⟨i + 1,A',C',c1,c2,D3 M1 g.id,D3 M2 n,X2,Fa',fun k=>F2 k \/ Fs k⟩,⟨hin,by rw [hstep,hrm];exact hB3,fun k hk=>(g3 k hk).elim (hFa k) fun h=>.inr (Nat.le_trans hsz h),hfin⟩,?_,fun w' hw=>?_,by dsimp only;omega⟩
   ·dsimp only;rw [e5,List.length_append,List.length_singleton];repeat (first |exact As.nil |refine As.cons rfl ?_)
   ·dsimp only;rw [hstep,hrm,e5,List.length_append,List.length_singleton];rw [Rj hok2] at hw;have h8:=hw.mapI 4 rfl (Ψ:=fun w=>(Ma (gs2.filter fun x=>decide (x.id ≠ g.id)) Bk X2).at_ w Fg (.bool true)) (fun h y hy=>h y (List.mem_filter.1 hy).1) (Vp.loc (p:=Ma _ _ _)) rfl;have h9:=h8.mapI 5 rfl (Ψ:=fun w=>(I4 (gs2.filter fun x=>decide (x.id ≠ g.id)) X2).at_ w (fun k=>F2 k \/ Fs k) (.bool true)) (fun h y hy=>h y (List.mem_filter.1 hy).1) (Vp.loc (p:=I4 _ _)) rfl;rw [Bj,List.map_append];exact h9
  ·have hz0:g2.L ≠ []:=fun e=>hz (by rw [e];rfl)
   have hrm:Eh gs1 (I7 n)=gs2:=by rw [hgs2];exact Sw hok1 hne1 hgm hgn (by rw [<-hg2];exact hz0)
   repeat (first |refine Ab ?_ |refine Ag ?_ |refine Ad ?_ |refine Al ?_ |refine Ao ?_ |refine AE Aa rfl (by omega) ?_ |refine Ae Aa rfl ?_)
   refine ⟨⟨i + 1,A',C',c1,c2,M1,D3 M2 n,X2,Fa,fun k=>F2 k \/ Fs k⟩,⟨hin,by rw [hstep,hrm];exact hB2,hFa,hfin⟩,?_,fun w' hw=>?_,by dsimp only;omega⟩
   ·dsimp only;rw [e5,List.length_append,List.length_singleton];repeat (first |exact As.nil |refine As.cons rfl ?_)
   ·dsimp only;rw [hstep,hrm,e5,List.length_append,List.length_singleton,Bj,List.map_append];exact hw
end
def Gb (gs:List BG) (l:List Int):List Int:=By (l.filter fun n=>decide (n ∉ AA gs))
def B5 (f m:Int) (gs:List BG) (last now:Int) (l:List Int):List BG × Int × Int:=
 if Gb gs l= [] then (gs,last,0) else (gs ++ [⟨last + 1,Gb gs l,now + W f m 0,1⟩],last + 1,last + 1)
theorem HP {gs:List BG} {l:List Int} {n:Int}:n ∈ Gb gs l ↔ n ∈ l/\n ∉ AA gs:=by unfold Gb;rw [Cw,List.mem_filter,decide_eq_true_eq]
section
variable {f m last:Int} {gs:List BG}
theorem CU.push (h:CU last gs) {g:BG} (hid:g.id=last + 1) (hs:g.L.Pairwise (· < ·)) (hd:∀ n ∈ g.L,n ∉ AA gs) (hf:∀ n ∈ g.L,AT .u64 n) (ht:g.tries=1) (htm:0 <= g.tm/\g.tm <= 2305843009213693952) (hl:(AA gs).length + g.L.length <= 60000) (hla:last + 1 <= 1099511627776) (hc:gs.length < 60000):CU (last + 1) (gs ++ [g]) where
 ids:=by
  rw [List.map_append,List.pairwise_append];refine ⟨h.ids,List.pairwise_singleton _ _,fun a ha b hb=>?_⟩;obtain ⟨x,hx,rfl⟩:=List.mem_map.1 ha;rw [List.map_cons,List.map_nil,List.mem_singleton] at hb;have:=(h.idb x hx).2;omega
 idb:=fun x hx=>by
  rcases List.mem_append.1 hx with hx |hx
  ·have:=h.idb x hx;omega
  ·rw [List.mem_singleton] at hx;subst hx;have:=h.lst;omega
 srt:=fun x hx=>by
  rcases List.mem_append.1 hx with hx |hx
  ·exact h.srt x hx
  ·rw [List.mem_singleton] at hx;subst hx;exact hs
 nd:=by
  rw [AA,List.flatMap_append,List.nodup_append];refine ⟨h.nd,by simpa using Mz hs,fun a ha b hb e=>?_⟩;subst e;exact hd a (by simpa using hb) ha
 fit:=fun x hx n hn=>by
  rcases List.mem_append.1 hx with hx |hx
  ·exact h.fit x hx n hn
  ·rw [List.mem_singleton] at hx;subst hx;exact hf n hn
 tr:=fun x hx=>by
  rcases List.mem_append.1 hx with hx |hx
  ·exact h.tr x hx
  ·rw [List.mem_singleton] at hx;subst hx;omega
 tm:=fun x hx=>by
  rcases List.mem_append.1 hx with hx |hx
  ·exact h.tm x hx
  ·rw [List.mem_singleton] at hx;subst hx;exact htm
 len:=by
  rw [AA,List.flatMap_append,List.length_append];simpa using hl
 lst:=by have:=h.lst;omega
 cnt:=by rw [List.length_append,List.length_singleton];omega
theorem Rh (h:CU last gs) {g:BG} (h':CU (last + 1) (gs ++ [g])) (hid:g.id=last + 1):Gd (Ga gs) g.id g.tm=Ga (gs ++ [g]):=by
 refine Um h.idn h'.idn ?_;rw [List.map_append,List.filter_eq_self.2 fun p hp=>?_]
 ·exact List.perm_append_comm
 ·obtain ⟨x,hx,rfl⟩:=List.mem_map.1 hp;have:=(h.idb x hx).2;show decide (x.id ≠ g.id)=true;exact decide_eq_true (by omega)
section
variable {M1 M2:List ME} {c1 c2:Nat} {B:Int->Nat}
theorem EB.push (hr:EB gs M1 M2 c1 c2 B) (hok:CU last gs) {g:BG} (hok':CU (last + 1) (gs ++ [g])) (hid:g.id=last + 1) {b:Nat} (hb:∀ x ∈ gs,B x.id ≠ b) {M2':List ME} {c2':Nat} (hm:L5 M2' c2') (hg:∀ n,DX M2' n=if n ∈ g.L then some (.int .u64 g.id) else (EW gs n).map fun g=>Value.int .u64 g.id):
 EB (gs ++ [g]) (CZ M1 g.id (AG b) c1).1 M2' (CZ M1 g.id (AG b) c1).2 c2' (fun i=>if i=g.id then b else B i) where
 inj:=fun x hx y hy e=>by
  have key:∀ z ∈ gs ++ [g],(z ∈ gs/\z.id <= last) \/ z=g:=fun z hz=>by
   rcases List.mem_append.1 hz with hz |hz
   ·exact .inl ⟨hz,(hok.idb z hz).2⟩
   ·exact .inr (List.mem_singleton.1 hz)
  rcases key x hx with ⟨x1,x2⟩ |x1<;>rcases key y hy with ⟨y1,y2⟩ |y1
  ·rw [if_neg (by omega),if_neg (by omega)] at e;exact hr.inj x x1 y y1 e
  ·rw [y1,if_neg (by omega),if_pos rfl] at e;exact absurd e (hb x x1)
  ·rw [x1,if_pos rfl,if_neg (by omega)] at e;exact absurd e.symm (hb y y1)
  ·rw [x1,y1]
 m1:=hr.m1.put _ _
 g1:=fun id=>by
  rw [HQ];by_cases e:id=g.id
  ·subst e;rw [if_pos rfl,FW hok' (List.mem_append.2 (.inr List.mem_cons_self)),Option.map_some,if_pos rfl]
  ·rw [if_neg e,hr.g1,if_neg e]
   cases hb:Mb gs id with
   |some x=>
    obtain ⟨hx,rfl⟩:=MO hb;rw [FW hok' (List.mem_append.2 (.inl hx))]
   |none=>
    have:Mb (gs ++ [g]) id=none:=Gx.2 fun x hx=>by
     rcases List.mem_append.1 hx with hx |hx
     ·exact Gx.1 hb x hx
     ·rw [List.mem_singleton] at hx;subst hx;exact fun h=>e h.symm
    rw [this]
 m2:=hm
 g2:=fun n=>by
  rw [hg];by_cases hn:n ∈ g.L
  ·rw [if_pos hn,FF hok' (List.mem_append.2 (.inr List.mem_cons_self)) hn];rfl
  ·rw [if_neg hn]
   cases hb:EW gs n with
   |some x=>
    have h1:=D5 hb;rw [FF hok' (List.mem_append.2 (.inl h1.1)) h1.2]
   |none=>
    have:EW (gs ++ [g]) n=none:=Cy.2 fun h=>by
     rw [AA,List.flatMap_append,List.mem_append] at h
     rcases h with h |h
     ·exact Cy.1 hb h
     ·exact hn (by simpa using h)
    rw [this]
end
end
section
variable {P:Program} {tb:EU} {n:Nat} {w0:World} {all:Array Oper} {os:List Oper} {o:Oper} {dl:DL} {ol:OL} {F:DL->Prop} {d:Nat}
theorem Xy (tx:Nat) {Φ:Value->World->Prop} (Ψ:Value->World->Prop) (hd:o.dst=some d) (hn:Nat.blt d n=true) (hg:gd all (rs all o dl) o.guard=some true) (htx:(o.looksAt all).contains tx=true) (hx:lk dl tx=some (.pr Φ)) (hst:∀ v w w',Ψ v w->Below w.heap.size w w'->Ψ v w')
 (h:∀ a u w,Rd a (rp (rs all o dl) tx u)->Hp w0 w ol->Φ u w->∃ v w',(execOp a.eval o).run P w= .ok (.value v) w'/\Below w.heap.size w w'/\Ψ v w') (k:D P n w0 all os ((d,.pr Ψ)::dl) ol F):D P n w0 all (o::os) dl ol F:=
 L7 Ψ hd (by simpa [Nat.blt_eq] using hn) hg hst (fun a w hrd h4 h3=>by
  have hs:=h4 tx (by simpa using htx);rw [hx] at hs;obtain ⟨u,hu1,hu2⟩:=hs
  exact h a u w (fun t v hv=>by
   unfold rp at hv;split at hv
   ·rename_i e;subst e;cases hv;exact hu1
   ·exact hrd t v hv) h3 hu2) k
end
def WB (w0:World) (ol:OL) (L:List Int) (v:Value) (w:World):Prop:=∃ x:SX,v= .agg ⟨[x.v,.int .i64 1]⟩/\(Bs (· ∈ L) L.length).at_ w (BB w0 (fun _=>False) ol) x.s
def UA (w0:World) (ol:OL) (L:List Int) (v:Value) (w:World):Prop:=∃ (b:Nat) (x:SX),v=AG b/\w.heap[b]? =some (S6 x 1)/\w0.heap.size <= b/\(∀ e ∈ ol,¬ e.has b)/\(Bs (· ∈ L) L.length).at_ w (fun k=>BB w0 (fun _=>False) ol k/\k ≠ b) x.s
theorem WB.stable {w0:World} {ol:OL} {L:List Int}:∀ v w w',WB w0 ol L v w->Below w.heap.size w w'->WB w0 ol L v w':=fun v w w' ⟨x,e,h⟩ hb=>⟨x,e,(Bs _ _).ext h hb⟩
theorem UA.stable {w0:World} {ol:OL} {L:List Int}:∀ v w w',UA w0 ol L v w->Below w.heap.size w w'->UA w0 ol L v w':=fun v w w' ⟨b,x,e,h1,h2,h3,h4⟩ hb=>⟨b,x,e,(hb.block b (AV h1)).trans h1,h2,h3,(Bs _ _).ext h4 hb⟩
section
variable {P:Program} {tb:EU} {n:Nat} {w0:World} {all:Array Oper} {os:List Oper} {o:Oper} {dl:DL} {ol:OL} {F:DL->Prop} {d:Nat} {L:List Int}
theorem Xw (tx:Nat) (hd:o.dst=some d) (hn:Nat.blt d n=true) (hg:gd all (rs all o dl) o.guard=some true) (htx:(o.looksAt all).contains tx=true) (hx:lk dl tx=some (.pr (PV (Bs (· ∈ L) L.length) w0 (fun _=>False) ol)))
 (h:∀ ac (x:SX) w,Rd ac (rp (rs all o dl) tx x.s)->(execOp ac.eval o).run P w= .ok (.value (.agg ⟨[x.v,.int .i64 1]⟩)) w) (k:D P n w0 all os ((d,.pr (WB w0 ol L))::dl) ol F):D P n w0 all (o::os) dl ol F:=
 UP tx (.pr (WB w0 ol L)) hd hn hg htx hx WB.stable (fun ac u w hrd hh hu=>by
  obtain ⟨a1,n1,c1,rfl⟩:=CQ hu
  exact ⟨_,h ac ⟨a1,n1,c1⟩ w hrd,⟨a1,n1,c1⟩,rfl,hu⟩) k
theorem Xx (tx:Nat) (hd:o.dst=some d) (hn:Nat.blt d n=true) (hg:gd all (rs all o dl) o.guard=some true) (htx:(o.looksAt all).contains tx=true) (hx:lk dl tx=some (.pr (WB w0 ol L)))
 (h:∀ ac (x:SX) w,Rd ac (rp (rs all o dl) tx (.agg ⟨[x.v,.int .i64 1]⟩))->(execOp ac.eval o).run P w= .ok (.value (AG w.heap.size)) (w.alloc (S6 x 1))) (k:D P n w0 all os ((d,.pr (UA w0 ol L))::dl) ol F):D P n w0 all (o::os) dl ol F:=
 Xy tx (UA w0 ol L) hd hn hg htx hx UA.stable (fun ac u w hrd hh hu=>by
  obtain ⟨x,rfl,hx⟩:=hu;have hb:Below w.heap.size w (w.alloc (S6 x 1)):=(Below.refl _ _).alloc (Nat.le_refl _) _
  exact ⟨_,_,h ac x w hrd,hb,w.heap.size,x,rfl,heap_alloc_new w _,hh.size,fun e he hk=>absurd (hh.lt he hk) (Nat.lt_irrefl _),(Bs _ _).keep hx fun k hk hlt=>⟨hb.block k hlt,hk,Nat.ne_of_lt hlt⟩⟩) k
end
section
variable {w0 w:World} {ol:OL} {gs:List BG} {last:Int}
theorem UA.hp {L:List Int} {v:Value} (h:UA w0 ol L v w) (hh:Hp w0 w ol):∃ b x F2,v=AG b/\w0.heap.size <= b/\(∀ k,F2 k->w0.heap.size <= k)/\Hp w0 w (.rep (fun w=>(Bs (· ∈ L) L.length).at_ w F2 x.s) F2 false::.blk b (S6 x 1) true::ol):=by
 obtain ⟨b,x,e,h1,h2,h3,h4⟩:=h;have h9:Hp w0 w (.blk b (S6 x 1) true::ol):=hh.more h1 fun e he _ k hk hk2=>h3 e he (by rw [Option.some.inj hk];exact hk2)
 obtain ⟨F2,g1,_,g3⟩:=h9.addV (p:=Bs (· ∈ L) L.length) (A:=fun _=>False) (v:=x.s) ((Bs _ _).mono h4 fun k hk=>⟨hk.1.1,fun e he hx hh2=>by
  rcases List.mem_cons.1 he with rfl |he
  ·exact hk.2 (Option.some.inj hh2).symm
  ·exact hk.1.2 e he hx hh2⟩)
 exact ⟨b,x,F2,e,h2,fun k hk=>(g1 k hk).resolve_left id,g3⟩
theorem Ui {B:Int->Nat} {X:Int->SX} {Fg Fs F2:Nat->Prop} {b:Nat} {x:SX} {g:BG} (hok:CU last gs) (hid:g.id=last + 1) (ht:g.tries=1)
 (hh:Hp w0 w (.rep (fun w=>(Bs (· ∈ g.L) g.L.length).at_ w F2 x.s) F2 false::.rep (fun w=>(I4 gs X).at_ w Fs (.bool true)) Fs false::.blk b (S6 x 1) true::.rep (fun w=>(Ma gs B X).at_ w Fg (.bool true)) Fg true::ol)):
 Hp w0 w (.rep (fun w=>(Ma (gs ++ [g]) (fun i=>if i=g.id then b else B i) (Jr X g.id x)).at_ w (fun k=>Fg k \/ k=b) (.bool true)) (fun k=>Fg k \/ k=b) true::.rep (fun w=>(I4 (gs ++ [g]) (Jr X g.id x)).at_ w (fun k=>F2 k \/ Fs k) (.bool true)) (fun k=>F2 k \/ Fs k) false::ol):=by
 have h1:=hh.merge (Ψ:=fun w=>(I4 (gs ++ [g]) (Jr X g.id x)).at_ w (fun k=>F2 k \/ Fs k) (.bool true)) (fun k1 k2 y hy=>?_) (Vp.loc (p:=I4 _ _))
 ·have h2:=h1.pm [1,2,0] rfl rfl rfl;have o0:w.heap[b]? =_:=h2.own _ (Af (i:=0) rfl);obtain ⟨o1,_,o3⟩:=h2.own _ (Af (i:=1) rfl);refine Hp.regroup [.blk b (S6 x 1) true,.rep (fun w=>(Ma gs B X).at_ w Fg (.bool true)) Fg true] [.rep (fun w=>(Ma (gs ++ [g]) (fun i=>if i=g.id then b else B i) (Jr X g.id x)).at_ w (fun k=>Fg k \/ k=b) (.bool true)) (fun k=>Fg k \/ k=b) true] h2 (fun e he=>?_) (fun e he=>?_) (List.pairwise_singleton _ _) (fun e he k hk=>?_) (fun e he k hk=>?_)
  ·simp only [List.mem_cons,List.not_mem_nil,or_false] at he
   rcases he with rfl |rfl<;>rfl
  ·rw [List.mem_singleton] at he;subst he;refine ⟨rfl,fun y hy=>?_,Vp.loc (p:=Ma _ _ _),fun k hk=>?_⟩
   ·dsimp only;unfold Jr
    rcases List.mem_append.1 hy with hy |hy
    ·have h4:=(hok.idb y hy).2;rw [if_neg (by omega),if_neg (by omega)];exact ⟨(o1 y hy).1,.inl (o1 y hy).2⟩
    ·rw [List.mem_singleton] at hy;subst hy;rw [if_pos rfl,if_pos rfl,ht];exact ⟨o0,.inr rfl⟩
   ·rcases hk with hk |rfl
    ·exact o3 k hk
    ·exact AV o0
  ·rw [List.mem_singleton] at he;subst he
   rcases hk with hk |rfl
   ·exact ⟨_,List.mem_cons_of_mem _ List.mem_cons_self,hk⟩
   ·exact ⟨_,List.mem_cons_self,rfl⟩
  ·simp only [List.mem_cons,List.not_mem_nil,or_false] at he
   rcases he with rfl |rfl
   ·exact .inr ⟨_,List.mem_cons_self,.inr (Option.some.inj hk).symm⟩
   ·exact .inr ⟨_,List.mem_cons_self,.inl hk⟩
 ·unfold Jr
  rcases List.mem_append.1 hy with hy |hy
  ·have h4:=(hok.idb y hy).2;rw [if_neg (by omega)];exact (Bs _ _).mono (k2 y hy) fun k hk=>.inr hk
  ·rw [List.mem_singleton] at hy;subst hy;rw [if_pos rfl];exact (Bs _ _).mono k1 fun k hk=>.inl hk
theorem UI {bb:Nat} {f m:Int} {h:BH} (hh:Hp w0 w (G6 bb f m gs last h true false ++ ol)) (hp:PR f m) (hok:CU last gs) (hne:I9 gs) (hr:EB gs h.M1 h.M2 h.c1 h.c2 h.B):(DF bb f m gs last).at_ w (fun k=>∃ e ∈ G6 bb f m gs last h true true,e.has k) (.bool true):=by
 refine ⟨h,hp,⟨hok,hne⟩,hr,fun e he=>⟨?_,fun k hk=>⟨e,he,hk⟩⟩,?_⟩
 ·simp only [G6,List.mem_cons,List.not_mem_nil,or_false] at he
  rcases he with rfl |rfl |rfl |rfl |rfl |rfl
  ·exact hh.own _ (Af (i:=0) rfl)
  ·exact hh.own _ (Af (i:=1) rfl)
  ·exact hh.own _ (Af (i:=2) rfl)
  ·exact hh.own _ (Af (i:=3) rfl)
  ·exact hh.own _ (Af (i:=4) rfl)
  ·exact hh.own (.rep (fun w=>(I4 gs h.X).at_ w h.Fs (.bool true)) h.Fs false) (Af (i:=5) rfl)
 ·have h5:=(List.pairwise_append.1 hh.apart).1;simp only [G6,List.pairwise_cons,List.mem_cons,List.not_mem_nil,or_false,forall_eq_or_imp,forall_eq] at h5 ⊢;obtain ⟨⟨a1,a2,a3,a4,a5⟩,⟨b2,b3,b4,b5⟩,⟨c3,c4,c5⟩,⟨d4,d5⟩,e5,_⟩:=h5;exact ⟨⟨a1,a2,a3,a4,fun _=>a5 rfl⟩,⟨b2,b3,b4,fun _=>b5 rfl⟩,⟨c3,c4,fun _=>c5 rfl⟩,⟨d4,fun _=>d5 rfl⟩,fun _=>e5 rfl,fun _ h=>h.elim,List.Pairwise.nil⟩
end
section
variable {bb:Nat} {f m last:Int} {gs:List BG} {w w0:World} {F:Nat->Prop} {ol:OL}
set_option maxHeartbeats 8000000 in
theorem Ug (h:(DF bb f m gs last).at_ w F (.bool true)) (hF:∀ k,F k->k < w.heap.size) {a:Option Addr} {n c:Nat} {l:List Int} {A0:Nat->Prop} (hl:Bq (A8 .u64) w A0 a n c l) (hAF:∀ k,A0 k->¬ F k) {now:Int} (hnow:0 <= now/\now <= 1152921504606846976) (hln:l.length + (AA gs).length <= 60000) (hcn:gs.length < 60000) (hla:last + 1 <= 1099511627776):
 Calls Tryz.prog 52 #[AG bb,.int .i64 now,.slice a n c] w fun e w'=>e= .returned (.int .u64 (B5 f m gs last now l).2.2)/\Ll w F (DF bb f m (B5 f m gs last now l).1 (B5 f m gs last now l).2.1) w':=by
 obtain ⟨x,hp,hok,hr,hst,hcov,hne⟩:=FV h true false;obtain rfl:=hl.len;obtain ⟨Fq,hFq,hq2,hst2⟩:=hst.addV (p:=(Ay (A8 .u64)).vp l) (A:=A0) (v:=.slice a l.length c) (((Ay (A8 .u64)).vp l).mono hl.val fun k hk=>⟨.inl hk,fun e he hx hh=>hAF k hk (Rb hcov e he hx k hh)⟩);obtain ⟨gb,mb,ab,c1,c2,M1,M2,Bk,X,Fa,Fg,Fs⟩:=x;dsimp only at hr hst2;have hFb:F bb:=hcov _ (Af (i:=0) rfl) bb rfl;have hFgb:F gb:=hcov _ (Af (i:=1) rfl) gb rfl;have hFmb:F mb:=hcov _ (Af (i:=2) rfl) mb rfl;have hFa:∀ k,Fa k->F k:=hcov _ (Af (i:=3) rfl);have hFg:∀ k,Fg k->F k:=hcov _ (Af (i:=4) rfl);have hFs:∀ k,Fs k->F k:=hcov _ (Af (i:=5) rfl);have hI:WA .u64 w a l.length c l:=hl.ints;have hfit:=hI.fits;have hlst:=hok.lst;clear hst hcov;obtain ⟨s,hs⟩:∃ s:Int->Bool,s=fun n=>decide (n ∉ AA gs):=⟨_,rfl⟩;refine EO Tryz.func52 rfl rfl (hst2.pm [1,2,3,4,5,6,0] rfl rfl rfl) ?_;repeat (first |refine Ai ?_ |refine Ab ?_ |refine Ag ?_ |refine Ae Aa rfl ?_)
 refine BF (Cs Aa rfl rfl rfl rfl rfl) ?_;repeat (first |refine Ag ?_)
 refine AF rfl ?_;repeat (first |refine Ai ?_ |refine Ab ?_ |refine Ag ?_ |refine Ad ?_ |refine Ao ?_ |refine Ae Aa rfl ?_)
 refine BP (ι:=Option Addr × Nat) (fun _=>True) (fun j=>[(0,AG bb),(1,.int .i64 now),(7,.slice j.1 (l.filter s).length j.2)]) (fun j=>G6 bb f m gs last ⟨gb,mb,ab,c1,c2,M1,M2,Bk,X,Fa,Fg,Fs⟩ true false ++ [.row w.heap.size (.slice j.1 (l.filter s).length j.2) 32 1 (l.filter s).length (Bj (l.filter s))]) ?_ ?_
 ·refine Ar ?_
  refine AM (ι:=Nat × Option Addr × Nat) (fun j=>[(0,AG bb),(1,.int .i64 now),(14,.slice a l.length c),(15,.int .i64 (l.length:Int)),(16,.int .i64 (j.1:Int)),(7,.slice j.2.1 ((l.take j.1).filter s).length j.2.2)])
   (fun j=>G6 bb f m gs last ⟨gb,mb,ab,c1,c2,M1,M2,Bk,X,Fa,Fg,Fs⟩ true false ++ [.row w.heap.size (.slice j.2.1 ((l.take j.1).filter s).length j.2.2) 32 1 ((l.take j.1).filter s).length (Bj ((l.take j.1).filter s)),.rep (fun w=>((Ay (A8 .u64)).vp l).at_ w Fq (.slice a l.length c)) Fq false])
   (fun j=>j.1 <= l.length) (fun j=>l.length - j.1) (0,none,0) (Nat.zero_le _) (by repeat (first |exact As.nil |refine As.cons rfl ?_)) (fun w' hw=>?_) ?_
  ·have h9:=(hw.nilRow 32 1).pm [1,2,3,4,5,6,0,7] rfl rfl rfl;exact h9
  rintro ⟨i,A,C⟩ hi;dsimp only at hi ⊢;repeat (first |refine Ai ?_ |refine Ab ?_ |refine Ag ?_ |refine Ae Aa rfl ?_)
  refine Ak rfl (fun hlt1=>?_) (fun hge=>?_);rotate_left
  ·have hie:i=l.length:=by omega
   subst hie;rw [List.take_length];repeat (first |refine Ad ?_ |refine AC ?_ |refine Am ?_ |refine AH ?_)
   exact ⟨(A,C),trivial,(by repeat (first |exact As.nil |refine As.cons rfl ?_)),fun w' hw=>hw.less (by repeat (first |exact Au.nil |refine Au.keep ?_ |refine Au.dropR ?_))⟩
  have hin:i < l.length:=by omega
  obtain ⟨n,hn⟩:∃ n,l[i]? =some n:=⟨_,List.getElem?_eq_getElem hin⟩
  have htk:l.take (i + 1)=l.take i ++ [n]:=by
   rw [List.take_succ_eq_append_getElem hin];rw [List.getElem?_eq_getElem hin] at hn;rw [Option.some.inj hn]
  have hfl:((l.take i).filter s).length <= 60000:=by
   have h1:=List.length_filter_le s (l.take i);rw [List.length_take] at h1;omega
  obtain ⟨ab2,off,cs0,ha,_⟩:=hl.get_ hin;subst ha;repeat (first |refine Ai ?_ |refine Ab ?_ |refine Ar ?_ |refine Ad ?_ |refine Ao ?_)
  refine BF (Bu (sz:=1) Aa rfl rfl rfl rfl rfl rfl rfl (j:=i) rfl hin) ?_;refine Bb Aa (v:=.int .u64 n) rfl rfl (fun w' hw=>(Bq.of_val (hw.own _ (Af (i:=7) rfl)).1).ints.sl.at_ (by omega) (by rw [Nat.mul_one,List.getElem?_map,hn];rfl)) ?_;repeat (first |refine Ai ?_ |refine Ab ?_ |refine Ag ?_ |refine Ae Aa rfl ?_)
  refine Bo rfl Tryz.call78 (fun w1 h1=>Ra (UI h1 hp hok hne hr) n) ?_
  cases hs1:s n with
  |false=>
   refine Cb 22 (v':=.bool true) rfl (congrArg Value.bool (decide_eq_true (by rw [hs] at hs1;simpa using hs1))) ?_;repeat (first |refine Ag ?_ |refine Ae Aa rfl ?_)
   refine AF rfl ?_;repeat (first |refine Ab ?_ |refine Ag ?_ |refine Ad ?_ |refine Al ?_ |refine Ao ?_ |refine AE Aa rfl (by omega) ?_ |refine Ae Aa rfl ?_)
   exact ⟨(i + 1,A,C),hin,(by
    dsimp only;rw [htk,List.filter_append,List.filter_cons_of_neg (by simp [hs1]),List.filter_nil,List.append_nil]
    repeat (first |exact As.nil |refine As.cons rfl ?_)),fun w' hw=>(by
    dsimp only;rw [htk,List.filter_append,List.filter_cons_of_neg (by simp [hs1]),List.filter_nil,List.append_nil]
    exact hw),by dsimp only;omega⟩
  |true=>
   refine Cb 22 (v':=.bool false) rfl (congrArg Value.bool (decide_eq_false (by rw [hs] at hs1;simpa using hs1))) ?_;repeat (first |refine Ag ?_ |refine Ae Aa rfl ?_)
   refine AN rfl ?_
   have e5:(l.take (i + 1)).filter s=(l.take i).filter s ++ [n]:=by rw [htk,List.filter_append,List.filter_cons_of_pos hs1,List.filter_nil]
   repeat (first |refine Ae Aa rfl ?_ |refine Aq ?_)
   refine AO Aa rfl rfl rfl rfl rfl rfl rfl rfl rfl rfl rfl rfl (fun nb hnb2=>?_);refine AU (ty:=0) (k:=1) (news:=[.int .u64 n]) Aa 7 (sz:=1) rfl rfl rfl rfl rfl rfl rfl rfl rfl (by decide) (fun w' hw=>Sl.of_blk (hw.own _ (Af (i:=0) rfl)) rfl (fun j u hu=>by rw [Nat.zero_add];exact hu)) (fun u hu=>by rw [List.mem_singleton] at hu;subst hu;rfl) (by simp only [maxLen];omega) (by show (_ + _) * 8 <= _;omega) rfl (fun A' C' hA' hC'=>⟨_,rfl,?_⟩);refine B6 (fun w' hw=>hw.dropn hnb2) ?_;repeat (first |refine Ab ?_ |refine Ag ?_ |refine Ad ?_ |refine Al ?_ |refine AE Aa rfl (by omega) ?_ |refine Ae Aa rfl ?_)
   exact ⟨(i + 1,A',C'),hin,(by
    dsimp only;rw [e5,List.length_append,List.length_singleton]
    repeat (first |exact As.nil |refine As.cons rfl ?_)),fun w' hw=>(by
    dsimp only;rw [e5,List.length_append,List.length_singleton,Bj,List.map_append]
    exact hw),by dsimp only;omega⟩
 rintro ⟨A,C⟩ _;dsimp only;obtain ⟨sm,hsm⟩:∃ sm,sm=l.filter s:=⟨_,rfl⟩;rw [<-hsm]
 have hsml:sm.length <= 60000:=by
  have h1:=List.length_filter_le s l;rw [hsm];omega
 have hnew:Gb gs l=By sm:=by rw [hsm,hs];rfl
 have hnm:∀ k,k ∈ Gb gs l ↔ k ∈ sm:=fun k=>by rw [hnew,Cw]
 have hsmf:∀ k ∈ sm,AT .u64 k:=fun k hk=>hfit k (List.mem_filter.1 (hsm ▸ hk)).1;repeat (first |refine Ai ?_ |refine Ab ?_ |refine Ag ?_ |refine Ae Aa rfl ?_)
 refine Ak rfl (fun h0=>?_) (fun h0=>?_)
 ·have e0:sm= []:=List.eq_nil_of_length_eq_zero (by omega)
  have e1:Gb gs l= []:=by rw [hnew,e0];rfl
  have e2:B5 f m gs last now l=(gs,last,0):=if_pos e1;rw [e2];repeat (first |refine Ai ?_ |refine Ab ?_ |refine Ag ?_ |refine AI ?_ |refine AB ?_ |refine Ae Aa rfl ?_)
  exact AY rfl rfl (fun w' hw=>⟨rfl,H9 (F0:=F) (ol:=[]) (hw.less (by repeat (first |exact Au.nil |refine Au.keep ?_ |refine Au.dropW (Nat.le_refl _) ?_))) hp hok hne hr hF (fun e he=>by cases he) (Ki (.inl hFb) (.inl hFgb) (.inl hFmb) (fun k hk=>.inl (hFa k hk)) (fun k hk=>.inl (hFg k hk)) (fun k hk=>.inl (hFs k hk)))⟩)
 have hne0:Gb gs l ≠ []:=fun e=>h0 (by
  have:sm= []:=O3.1 (hnew ▸ e)
  rw [this];rfl)
 have e2:B5 f m gs last now l=(gs ++ [⟨last + 1,Gb gs l,now + W f m 0,1⟩],last + 1,last + 1):=if_neg hne0;rw [e2];obtain ⟨g,hg⟩:∃ g:BG,g=⟨last + 1,Gb gs l,now + W f m 0,1⟩:=⟨_,rfl⟩;rw [<-hg];dsimp only
 have hgid:g.id=last + 1:=by rw [hg]
 have hgL:g.L=Gb gs l:=by rw [hg]
 have hgt:g.tries=1:=by rw [hg]
 have hgtm:g.tm=now + W f m 0:=by rw [hg]
 have hW:=FH hp.1 hp.2.1 0;have hp3:=hp.2.2
 have hnl:(Gb gs l).length <= sm.length:=by rw [hnew];exact D0
 have hok':CU (last + 1) (gs ++ [g]):=hok.push hgid (by rw [hgL];exact EC _) (fun k hk=>by rw [hgL,HP] at hk;exact hk.2) (fun k hk=>by rw [hgL,hnm] at hk;exact hsmf k hk) hgt (by rw [hgtm];omega) (by
  have h1:=List.length_filter_le s l;rw [<-hsm] at h1;rw [hgL]
  omega) hla hcn
 have hne':I9 (gs ++ [g]):=fun y hy=>by
  rcases List.mem_append.1 hy with hy |hy
  ·exact hne y hy
  ·rw [List.mem_singleton] at hy;subst hy;rw [hgL];exact hne0
 repeat (first |refine Ai ?_ |refine Ab ?_ |refine Ag ?_ |refine Ad ?_ |refine Ao ?_ |refine DY Aa rfl (by omega) ?_ |refine Ae Aa rfl ?_ |refine Ap Aa 0 rfl rfl rfl ?_ |refine Aw Aa 0 rfl rfl rfl rfl rfl rfl ?_)
 refine Cf (by kernel_rfl) 12 rfl (by kernel_rfl) ?_;repeat (first |refine Ah Aa rfl ?_ |refine AD Aa 0 rfl rfl rfl ?_)
 refine GT (Bs (· ∈ g.L) g.L.length) (fun _=>False) rfl Tryz.call43 (fun w' vs hw' h=>by
  obtain ⟨u1,_,rfl,rfl,rfl⟩:=h
  refine (SO (A:=TT) A sm.length C sm w' (Bq.of_row (R:=A8 .u64) (DR .u64) (by rw [FB];exact hw'.own _ (Af (i:=6) rfl)) rfl hsmf fun k _ _=>trivial) (by omega)).mono fun e w'' ⟨r,e1,e2,e3⟩=>⟨r,e1,e2,PM hw' (JB e3 (by rw [hgL];exact EC _) fun k=>by rw [hgL,hnm])⟩) ?_
 refine Xw 48 rfl rfl rfl rfl rfl (fun ac x1 w1 hrd=>(Bf (n:=100) (d:=49) (w0:=w1) (ol:=[]) (all:=#[]) Aa rfl rfl rfl rfl rfl rfl rfl).run ac w1 hrd (Hp.refl w1)) ?_;refine Xx 49 rfl rfl rfl rfl rfl (fun ac x1 w1 hrd=>(KS (n:=100) (d:=50) (all:=#[]) Aa rfl).2.2.2 ac w1 hrd) ?_;refine Xz fun w1 hh fv hfv=>?_;obtain ⟨b,x2,F2,eb,hb,hF2,hh2⟩:=UA.hp (hfv 50 _ rfl) hh;refine ⟨_,_,rfl,hh2,?_⟩;dsimp only;rw [eb];refine MY Aa 3 rfl rfl rfl rfl rfl rfl rfl rfl rfl rfl ?_;refine Uv (p:=∀ y ∈ gs,Bk y.id ≠ b) (fun w' hw y hy e=>(List.pairwise_cons.1 (List.pairwise_cons.1 hw.apart).2).1 _ (Af (i:=4) rfl) rfl b rfl (e ▸ ((hw.own _ (Af (i:=6) rfl)).1 y hy).2)) (fun hBb=>?_);obtain ⟨M1',hM1'⟩:∃ M1',M1'=(CZ M1 g.id (AG b) c1).1:=⟨_,rfl⟩;obtain ⟨c1',hc1'⟩:∃ c1',c1'=(CZ M1 g.id (AG b) c1).2:=⟨_,rfl⟩
 obtain ⟨B',hB'⟩:∃ B':Int->Nat,B'=fun i=>if i=g.id then b else Bk i:=⟨_,rfl⟩
 obtain ⟨X',hX'⟩:∃ X',X'=Jr X g.id x2:=⟨_,rfl⟩;refine B6 (ol':=[.blk bb (WI f m gb mb ab (last + 1)) true,.blk gb (Cj .u64 M1' c1') true,.blk mb (Cj .u64 M2 c2) true,.rep (fun w=>(IZ ab (Ga gs)).at_ w Fa (.bool true)) Fa true,.rep (fun w=>(Ma (gs ++ [g]) B' X').at_ w (fun k=>Fg k \/ k=b) (.bool true)) (fun k=>Fg k \/ k=b) true,.rep (fun w=>(I4 (gs ++ [g]) X').at_ w (fun k=>F2 k \/ Fs k) (.bool true)) (fun k=>F2 k \/ Fs k) false,GU w.heap.size (.slice A sm.length C) sm]) (fun w' hw=>?_) ?_
 ·rw [hB',hX',hM1',hc1',hgid];have h9:=(Ui (ol:=_) hok hgid hgt (hw.pm [0,7,1,6,2,3,4,5] rfl rfl rfl)).pm [2,3,4,5,0,1] rfl rfl rfl;rw [hgid] at h9;exact h9
 repeat (first |refine Ai ?_ |refine Ab ?_ |refine Ar ?_ |refine Ag ?_ |refine Ae Aa rfl ?_)
 refine AM (ι:=Nat × List ME × Nat) (fun j=>[(0,AG bb),(1,.int .i64 now),(51,.slice A sm.length C),(52,.int .i64 (sm.length:Int)),(53,.int .i64 (j.1:Int))])
  (fun j=>[.blk bb (WI f m gb mb ab (last + 1)) true,.blk gb (Cj .u64 M1' c1') true,.blk mb (Cj .u64 j.2.1 j.2.2) true,.rep (fun w=>(IZ ab (Ga gs)).at_ w Fa (.bool true)) Fa true,.rep (fun w=>(Ma (gs ++ [g]) B' X').at_ w (fun k=>Fg k \/ k=b) (.bool true)) (fun k=>Fg k \/ k=b) true,.rep (fun w=>(I4 (gs ++ [g]) X').at_ w (fun k=>F2 k \/ Fs k) (.bool true)) (fun k=>F2 k \/ Fs k) false,GU w.heap.size (.slice A sm.length C) sm])
  (fun j=>j.1 <= sm.length/\L5 j.2.1 j.2.2/\∀ k,DX j.2.1 k=if k ∈ sm.take j.1 then some (.int .u64 (last + 1)) else (EW gs k).map fun g=>Value.int .u64 g.id) (fun j=>sm.length - j.1) (0,M2,c2) ⟨Nat.zero_le _,hr.m2,fun k=>by rw [hr.g2];simp⟩ (by repeat (first |exact As.nil |refine As.cons rfl ?_)) (fun w' hw=>hw) ?_
 rintro ⟨i,N2,d2⟩ ⟨hi,hN,hNg⟩;dsimp only at hi hN hNg ⊢;repeat (first |refine Ai ?_ |refine Ab ?_ |refine Ag ?_ |refine Ae Aa rfl ?_)
 refine Ak rfl (fun hlt1=>?_) (fun hge=>?_)
 ·have hin:i < sm.length:=by omega
  obtain ⟨k0,hk0⟩:∃ k0,sm[i]? =some k0:=⟨_,List.getElem?_eq_getElem hin⟩
  have htk:sm.take (i + 1)=sm.take i ++ [k0]:=by
   rw [List.take_succ_eq_append_getElem hin];rw [List.getElem?_eq_getElem hin] at hk0;rw [Option.some.inj hk0]
  repeat (first |refine Ai ?_ |refine Ab ?_ |refine Ar ?_ |refine Ad ?_ |refine Ao ?_)
  refine Fi 6 rfl (by omega) (fun gN hgN=>?_);subst hgN;refine BF (Ax Aa rfl rfl rfl rfl rfl rfl rfl (j:=i) rfl hin) ?_;refine Bb Aa (v:=.int .u64 k0) rfl rfl (fun w' hw=>Cp (hw.own _ (Af (i:=6) rfl)) (by omega) (by rw [Nat.zero_add,List.getElem?_map,hk0];rfl)) ?_;repeat (first |refine Ag ?_ |refine Ae Aa rfl ?_)
  refine Ca ?_;refine Cf (by kernel_rfl) 9 rfl (by kernel_rfl) ?_;repeat (first |refine AP rfl ?_ |refine Ah Aa rfl ?_ |refine AD Aa 0 rfl rfl rfl ?_)
  refine MY Aa 2 rfl rfl rfl rfl rfl rfl rfl rfl rfl rfl ?_;repeat (first |refine Ab ?_ |refine Ag ?_ |refine Ad ?_ |refine Al ?_ |refine AE Aa rfl (by omega) ?_ |refine Ae Aa rfl ?_)
  exact ⟨(i + 1,(CZ N2 k0 (.int .u64 (last + 1)) d2).1,(CZ N2 k0 (.int .u64 (last + 1)) d2).2),⟨hin,hN.put _ _,fun k=>by
   dsimp only;rw [HQ,hNg,htk];by_cases e:k=k0
   ·rw [if_pos e,if_pos (by rw [e];simp)]
   ·rw [if_neg e];by_cases e2:k ∈ sm.take i
    ·rw [if_pos e2,if_pos (List.mem_append.2 (.inl e2))]
    ·rw [if_neg e2,if_neg (fun h=>(List.mem_append.1 h).elim e2 fun h=>e (List.mem_singleton.1 h))]⟩,(by repeat (first |exact As.nil |refine As.cons rfl ?_)),fun w' hw=>hw,by dsimp only;omega⟩
 have hie:i=sm.length:=by omega
 subst hie;rw [List.take_length] at hNg
 have hr':EB (gs ++ [g]) M1' N2 c1' d2 B':=by
  rw [hM1',hc1',hB']
  exact hr.push hok hok' hgid hBb hN fun k=>by
   rw [hNg,hgid,hgL];by_cases e:k ∈ sm
   ·rw [if_pos e,if_pos ((hnm k).2 e)]
   ·rw [if_neg e,if_neg fun h=>e ((hnm k).1 h)]
 repeat (first |refine Ai ?_ |refine Ad ?_ |refine AC ?_ |refine Am ?_ |refine AH ?_)
 refine Cf (by kernel_rfl) 15 rfl (by kernel_rfl) ?_;repeat (first |refine Ah Aa rfl ?_ |refine AD Aa 0 rfl rfl rfl ?_)
 refine Bc (v:=.int .i64 (W f m 0)) rfl Tryz.call74 (fun w' vs hw' h=>by
  obtain ⟨u1,_,rfl,rfl,u2,_,rfl,rfl,rfl⟩:=h
  exact M8 f m 0 w' hp.1 hp.2.2 hp.2.1) ?_
 repeat (first |refine AP rfl ?_ |refine BD Aa rfl (by omega) ?_)
 have hal:=Ib gs;refine CB 3 rfl Tryz.call77 rfl (fun w1 g1=>(Rt (g1.own _ (Af (i:=3) rfl)).1 (g1.own _ (Af (i:=3) rfl)).2.2 (by omega) (last + 1) (now + W f m 0)).mono fun e w' ⟨he,Fa',g2',g3,g4⟩=>⟨_,_,Fa',he,g4,g2',g3,_,rfl,?_⟩);have hsz:=g1.size;repeat (first |refine Ai ?_ |refine Ab ?_ |refine Ag ?_ |refine AB ?_ |refine Ae Aa rfl ?_ |refine Ap Aa 0 rfl rfl rfl ?_)
 refine AY rfl rfl (fun w' hw=>⟨rfl,?_⟩)
 have e9:Gd (Ga gs) (last + 1) (now + W f m 0)=Ga (gs ++ [g]):=by
  have:=Rh hok hok' hgid;rw [hgid,hgtm] at this;exact this
 rw [e9] at hw;exact H9 (F0:=F) (h:=⟨gb,mb,ab,c1',d2,M1',N2,B',X',Fa',fun k=>Fg k \/ k=b,fun k=>F2 k \/ Fs k⟩) (ol:=[]) (hw.less (by repeat (first |exact Au.nil |refine Au.keep ?_ |refine Au.dropW (Nat.le_refl _) ?_))) hp hok' hne' hr' hF (fun e he=>by cases he) (Ki (.inl hFb) (.inl hFgb) (.inl hFmb) (fun k hk=>(g3 k hk).elim (fun h=>.inl (hFa k h)) fun h=>.inr (Nat.le_trans hsz h)) (fun k hk=>hk.elim (fun h=>.inl (hFg k h)) fun h=>.inr (h ▸ hb)) (fun k hk=>hk.elim (fun h=>.inr (hF2 k h)) fun h=>.inl (hFs k h)))
end
def Ex (gs:List BG) (now:Int):List Int:=Gs (Ga gs) now
def M5 (gs:List BG) (id:Int):List Int:=match Mb gs id with
 |some g=>g.L
 |none=>[]
def Ew (gs:List BG) (now:Int):List (List Int):=(Ex gs now).map (M5 gs)
def B0 (f m now:Int) (I:List Int) (g:BG):BG:=if g.id ∈ I then ⟨g.id,g.L,now + W f m g.tries.toNat,g.tries + 1⟩ else g
def Ej (f m now:Int) (gs:List BG):List BG:=gs.map fun g=>if g.tm <= now then ⟨g.id,g.L,now + W f m g.tries.toNat,g.tries + 1⟩ else g
theorem Io {now:Int}:∀ {l:List DE},l.Pairwise DI->(l.takeWhile fun p=>decide (p.2 <= now))=l.filter (fun p=>decide (p.2 <= now))/\(l.dropWhile fun p=>decide (p.2 <= now))=l.filter fun p=>!decide (p.2 <= now)
 | [],_=>⟨rfl,rfl⟩
 |x::l,h=>by
  rw [List.pairwise_cons] at h;have ih:=Io (now:=now) h.2;by_cases hx:x.2 <= now
  ·rw [List.takeWhile_cons_of_pos (by simpa using hx),List.dropWhile_cons_of_pos (by simpa using hx),List.filter_cons_of_pos (by simpa using hx),List.filter_cons_of_neg (by simpa using hx),ih.1,ih.2];exact ⟨rfl,rfl⟩
  ·have hl:∀ p ∈ l,¬ p.2 <= now:=fun p hp=>by
    have:=h.1 p hp;unfold DI at this;omega
   rw [List.takeWhile_cons_of_neg (by simpa using hx),List.dropWhile_cons_of_neg (by simpa using hx),List.filter_cons_of_neg (by simpa using hx),List.filter_cons_of_pos (by simpa using hx),List.filter_eq_nil_iff.2 fun p hp=>by simpa using hl p hp,List.filter_eq_self.2 fun p hp=>by simpa using hl p hp];exact ⟨rfl,rfl⟩
section
variable {last f m now:Int} {gs:List BG}
theorem E8 {x:DE}:x ∈ Ga gs ↔ ∃ g ∈ gs,bT g=x:=by rw [(Ef gs).mem_iff,List.mem_map]
theorem EP (h:CU last gs) {g:BG} (hg:g ∈ gs):g.id ∈ Ex gs now ↔ g.tm <= now:=by
 unfold Ex Gs;rw [(Io (DU h.idn)).1,List.mem_map];constructor
 ·rintro ⟨p,hp,e⟩;rw [List.mem_filter] at hp;obtain ⟨g',hg',rfl⟩:=E8.1 hp.1;obtain rfl:=CR BG.id h.idn hg' hg e;simpa using hp.2
 ·intro ht;exact ⟨bT g,List.mem_filter.2 ⟨E8.2 ⟨g,hg,rfl⟩,by simpa using ht⟩,rfl⟩
theorem J8 {id:Int} (h:id ∈ Ex gs now):∃ g ∈ gs,g.id=id:=by
 unfold Ex Gs at h;obtain ⟨p,hp,rfl⟩:=List.mem_map.1 h;obtain ⟨g,hg,rfl⟩:=E8.1 ((List.takeWhile_sublist _).subset hp);exact ⟨g,hg,rfl⟩
theorem H3 (h:CU last gs):(Ex gs now).Nodup:=by
 unfold Ex Gs
 have h1:((Ga gs).map (·.1)).Nodup:=by
  rw [((Ef gs).map _).nodup_iff,List.map_map];exact h.idn
 exact h1.sublist ((List.takeWhile_sublist _).map _)
theorem H4:(Ex gs now).length <= gs.length:=by
 unfold Ex Gs;rw [List.length_map];exact Nat.le_trans (List.takeWhile_sublist _).length_le (Nat.le_of_eq (Ib gs))
theorem Jm (h:CU last gs):gs.map (B0 f m now (Ex gs now))=Ej f m now gs:=by
 unfold Ej B0;refine List.map_congr_left fun g hg=>?_;have:=EP (now:=now) h hg;by_cases ht:g.tm <= now
 ·rw [if_pos (this.2 ht),if_pos ht]
 ·rw [if_neg (fun h=>ht (this.1 h)),if_neg ht]
theorem Un {l:List DE} (hn:(gs.map BG.id).Nodup) (h1:l.Pairwise DI) (h2:∀ x,x ∈ l ↔ ∃ g ∈ gs,bT g=x):l=Ga gs:=by
 have hd:∀ {l:List DE},l.Pairwise DI->l.Nodup:=fun h=>h.imp fun {a b} h e=>by
  subst e;unfold DI at h;omega
 exact Kb h1 (DU hn) (EK (hd h1) (hd (DU hn)) (fun x hx=>E8.2 ((h2 x).1 hx)) fun x hx=>(h2 x).2 (E8.1 hx))
theorem QT {l:List DE} {id tm:Int} {x:DE}:x ∈ Gd l id tm ↔ x=(id,tm) \/ (x ∈ l/\x.1 ≠ id):=by
 unfold Gd;rw [(Dm _ _).mem_iff,List.mem_cons];unfold Db;rw [List.mem_filter,decide_eq_true_eq]
theorem QU {l:List DE} {id tm:Int}:(Gd l id tm).length <= l.length + 1:=by
 unfold Gd;rw [(Dm _ _).length_eq,List.length_cons];exact Nat.succ_le_succ (List.length_filter_le _ _)
theorem CE (I:List Int) (g:BG):(B0 f m now I g).id=g.id/\(B0 f m now I g).L=g.L:=by
 unfold B0;split<;>exact ⟨rfl,rfl⟩
section
variable {q:BG->BG} (hq:∀ g,(q g).id=g.id/\(q g).L=g.L)
include hq
theorem SZ:(gs.map q).map BG.id=gs.map BG.id:=by
 rw [List.map_map];exact List.map_congr_left fun g _=>(hq g).1
theorem HN:∀ gs:List BG,AA (gs.map q)=AA gs
 | []=>rfl
 |g::gs=>by
  have ih:=HN gs;simp only [AA] at ih ⊢;rw [List.map_cons,List.flatMap_cons,List.flatMap_cons,ih,(hq g).2]
theorem OD (id:Int):∀ gs:List BG,Mb (gs.map q) id=(Mb gs id).map q
 | []=>rfl
 |g::gs=>by
  have ih:=OD id gs;unfold Mb at ih ⊢;rw [List.map_cons,List.find?_cons,List.find?_cons,ih,(hq g).1];cases decide (g.id=id)<;>rfl
theorem MP (n:Int):∀ gs:List BG,EW (gs.map q) n=(EW gs n).map q
 | []=>rfl
 |g::gs=>by
  have ih:=MP n gs;unfold EW at ih ⊢;rw [List.map_cons,List.find?_cons,List.find?_cons,ih,(hq g).2];cases decide (n ∈ g.L)<;>rfl
theorem CU.map_ (h:CU last gs) (h1:∀ g ∈ gs,1 <= (q g).tries/\(q g).tries <= 1099511627776) (h2:∀ g ∈ gs,0 <= (q g).tm/\(q g).tm <= 2305843009213693952):CU last (gs.map q) where
 ids:=by rw [SZ hq];exact h.ids
 idb:=fun g hg=>by
  obtain ⟨x,hx,rfl⟩:=List.mem_map.1 hg;rw [(hq x).1];exact h.idb x hx
 srt:=fun g hg=>by
  obtain ⟨x,hx,rfl⟩:=List.mem_map.1 hg;rw [(hq x).2];exact h.srt x hx
 nd:=by rw [HN hq];exact h.nd
 fit:=fun g hg=>by
  obtain ⟨x,hx,rfl⟩:=List.mem_map.1 hg;rw [(hq x).2];exact h.fit x hx
 tr:=fun g hg=>by
  obtain ⟨x,hx,rfl⟩:=List.mem_map.1 hg;exact h1 x hx
 tm:=fun g hg=>by
  obtain ⟨x,hx,rfl⟩:=List.mem_map.1 hg;exact h2 x hx
 len:=by rw [HN hq];exact h.len
 lst:=h.lst
 cnt:=by rw [List.length_map];exact h.cnt
theorem I9.map_ (h:I9 gs):I9 (gs.map q):=fun g hg=>by
 obtain ⟨x,hx,rfl⟩:=List.mem_map.1 hg;rw [(hq x).2];exact h x hx
theorem EB.map_ {M1 M2:List ME} {c1 c2:Nat} {B:Int->Nat} (hr:EB gs M1 M2 c1 c2 B):EB (gs.map q) M1 M2 c1 c2 B where
 inj:=fun g hg g' hg' e=>by
  obtain ⟨x,hx,rfl⟩:=List.mem_map.1 hg;obtain ⟨y,hy,rfl⟩:=List.mem_map.1 hg';rw [(hq x).1,(hq y).1] at e ⊢;exact hr.inj x hx y hy e
 m1:=hr.m1
 g1:=fun id=>by
  rw [hr.g1,OD hq,Option.map_map];rfl
 m2:=hr.m2
 g2:=fun n=>by
  rw [hr.g2,MP hq,Option.map_map];congr 1;funext g;rw [Function.comp_apply,(hq g).1]
theorem Sm {X:Int->SX} {w:World} {F:Nat->Prop} {v:Value}:(I4 (gs.map q) X).at_ w F v ↔ (I4 gs X).at_ w F v:=by
 constructor
 ·intro h g hg;have:=h (q g) (List.mem_map.2 ⟨g,hg,rfl⟩);rw [(hq g).1,(hq g).2] at this;exact this
 ·intro h y hy;obtain ⟨g,hg,rfl⟩:=List.mem_map.1 hy;rw [(hq g).1,(hq g).2];exact h g hg
end
theorem Lf {I:List Int} {id:Int} (h:CU last gs) {g:BG} (hg:g ∈ gs) (hid:g.id=id) (hI:id ∉ I):(∀ x ∈ gs,x.id ≠ id->B0 f m now (I ++ [id]) x=B0 f m now I x)/\B0 f m now (I ++ [id]) g=⟨g.id,g.L,now + W f m g.tries.toNat,g.tries + 1⟩/\B0 f m now I g=g:=by
 refine ⟨fun x hx hne=>?_,?_,?_⟩
 ·unfold B0;by_cases e:x.id ∈ I
  ·rw [if_pos e,if_pos (List.mem_append.2 (.inl e))]
  ·rw [if_neg e,if_neg fun h=>(List.mem_append.1 h).elim e fun h=>hne (List.mem_singleton.1 h)]
 ·unfold B0;rw [if_pos (List.mem_append.2 (.inr (List.mem_singleton.2 hid)))]
 ·unfold B0;rw [if_neg (hid ▸ hI)]
end
theorem Hp.pack2 {w0 w:World} {A ol:OL} {F0:Nat->Prop} (h:Hp w0 w (A ++ ol)) (hF0:∀ k,F0 k->k < w0.heap.size) (hol:∀ e ∈ ol,∀ k,e.has k->w0.heap.size <= k) (hd:∀ e' ∈ A,∀ e ∈ ol,(e'.ex || e.ex)=true \/ ∀ k,e'.has k->¬ e.has k) (hA:∀ e ∈ A,∀ k,e.has k->F0 k \/ w0.heap.size <= k)
 (p:Vp) (hp:∀ F':Nat->Prop,(∀ e ∈ A,∀ k,e.has k->F' k)->p.at_ w F' (.bool true)):∃ F':Nat->Prop,(∀ k,F0 k->F' k)/\(∀ k,F' k->F0 k \/ w0.heap.size <= k)/\Hp w0 w (.rep (fun w=>p.at_ w F' (.bool true)) F' true::ol):=by
 refine ⟨fun k=>F0 k \/ ∃ e ∈ A,e.has k,fun k hk=>.inl hk,fun k hk=>?_,h.os,h.tape,h.output,h.size,fun k hk he=>h.old k hk fun e hm hx hh=>?_,fun e hm=>?_,?_⟩
 ·rcases hk with hk |⟨e,he,hk⟩
  ·exact .inl hk
  ·exact hA e he k hk
 ·rcases List.mem_append.1 hm with hm |hm
  ·exact he _ List.mem_cons_self rfl (.inr ⟨e,hm,hh⟩)
  ·exact he e (List.mem_cons_of_mem _ hm) hx hh
 ·rcases List.mem_cons.1 hm with rfl |hm
  ·refine ⟨hp _ fun e he k hk=>.inr ⟨e,he,hk⟩,Vp.loc,fun k hk=>?_⟩
   rcases hk with hk |⟨e,he,hk⟩
   ·exact Nat.lt_of_lt_of_le (hF0 k hk) h.size
   ·exact h.lt (List.mem_append.2 (.inl he)) hk
  ·exact h.own e (List.mem_append.2 (.inr hm))
 ·refine List.pairwise_cons.2 ⟨fun e he _ k hk hk2=>?_,(List.pairwise_append.1 h.apart).2.1⟩
  rcases hk with hk |⟨e',he',hk⟩
  ·have h1:=hF0 k hk;have h2:=hol e he k hk2;omega
  ·rcases hd e' he' e he with hx |hx
   ·exact (List.pairwise_append.1 h.apart).2.2 e' he' e he hx k hk hk2
   ·exact hx k hk hk2
theorem Hp.graftTV {w0 w w':World} {ol ol':OL} (i:Nat) {Φ Ψ Θ:World->Prop} {F F' Fv:Nat->Prop} (hh:Hp w0 w ol) (hi:B9 ol i=some (.rep Φ F true)) (h2:Hp w w' [.rep Θ Fv false,.rep Ψ F' true]) (hv:∀ k,Fv k->w.heap.size <= k) (hF:∀ k,F k->F' k) (hF':∀ k,F' k->F k \/ w.heap.size <= k)
 (hput:C8 ol i (.rep Ψ F' true)=some ol'):Hp w0 w' (.rep Θ Fv false::ol'):=by
 have h3:=hh.graftT i hi h2.dropr hF hF' hput;refine h3.more (h2.own _ List.mem_cons_self) fun e he hr k hk hk'=>?_;have h4:=hv k hk
 have hex:e.ex=true:=by simpa [HE.ex] using hr
 obtain ⟨pre,post,e1,e2⟩:=CP hi hput;rw [e2] at he
 rcases List.mem_append.1 he with he |he
 ·have:=hh.lt (e:=e) (by rw [e1];exact List.mem_append.2 (.inl he)) hk';omega
 ·rcases List.mem_cons.1 he with rfl |he
  ·exact (List.pairwise_cons.1 h2.apart).1 _ List.mem_cons_self rfl k hk hk'
  ·have:=hh.lt (e:=e) (by rw [e1];exact List.mem_append.2 (.inr (List.mem_cons_of_mem _ he))) hk';omega
abbrev PF:Ec (List (List Int)):=Ay (Ay (A8 .u64))
theorem Pw {bb:Nat} {f m last:Int} {gs:List BG} {w w0:World} {ol:OL} {F0:Nat->Prop} {h:BH} (hh:Hp w0 w (G6 bb f m gs last h true false ++ ol)) (hp:PR f m) (hok:CU last gs) (hne:I9 gs) (hr:EB gs h.M1 h.M2 h.c1 h.c2 h.B) (hF0:∀ k,F0 k->k < w0.heap.size) (hol:∀ e ∈ ol,∀ k,e.has k->w0.heap.size <= k) (hd:∀ e ∈ ol,∀ k,h.Fs k->¬ e.has k)
 (hA:∀ e ∈ G6 bb f m gs last h true true,∀ k,e.has k->F0 k \/ w0.heap.size <= k):∃ F':Nat->Prop,(∀ k,F0 k->F' k)/\(∀ k,F' k->F0 k \/ w0.heap.size <= k)/\Hp w0 w (.rep (fun w=>(DF bb f m gs last).at_ w F' (.bool true)) F' true::ol):=by
 refine hh.pack2 hF0 hol (fun e' he' e he=>?_) (fun e he k hk=>?_) (DF bb f m gs last) fun F' hF'=>(DF bb f m gs last).mono (UI hh hp hok hne hr) fun k hk=>?_
 ·simp only [G6,List.mem_cons,List.not_mem_nil,or_false] at he'
  rcases he' with rfl |rfl |rfl |rfl |rfl |rfl
  ·exact .inl rfl
  ·exact .inl rfl
  ·exact .inl rfl
  ·exact .inl rfl
  ·exact .inl rfl
  ·exact .inr (hd e he)
 ·simp only [G6,List.mem_cons,List.not_mem_nil,or_false] at he
  rcases he with rfl |rfl |rfl |rfl |rfl |rfl
  ·exact hA _ (Af (i:=0) rfl) k hk
  ·exact hA _ (Af (i:=1) rfl) k hk
  ·exact hA _ (Af (i:=2) rfl) k hk
  ·exact hA _ (Af (i:=3) rfl) k hk
  ·exact hA _ (Af (i:=4) rfl) k hk
  ·exact hA _ (Af (i:=5) rfl) k hk
 ·obtain ⟨e,he,hk⟩:=hk;exact Ki (G:=F') (hF' _ (Af (i:=0) rfl) bb rfl) (hF' _ (Af (i:=1) rfl) h.gb rfl) (hF' _ (Af (i:=2) rfl) h.mb rfl) (hF' _ (Af (i:=3) rfl)) (hF' _ (Af (i:=4) rfl)) (hF' _ (Af (i:=5) rfl)) e he k hk
structure Yd where
 i:Nat
 A:Option Addr
 C:Nat
 css:List (List Value)
 al:List DE
 Fa:Nat->Prop
 Fo:Nat->Prop
section
variable {bb:Nat} {f m last:Int} {gs:List BG} {w w0:World} {F:Nat->Prop} {ol:OL}
set_option maxHeartbeats 8000000 in
theorem Wj (h:(DF bb f m gs last).at_ w F (.bool true)) (hF:∀ k,F k->k < w.heap.size) {now:Int} (hnow:0 <= now/\now <= 1152921504606846976) (htr:∀ g ∈ gs,g.tries < 1099511627776):
 Calls Tryz.prog 50 #[AG bb,.int .i64 now] w fun e w'=>∃ v Fv,e= .returned v/\(∀ k,Fv k->w.heap.size <= k)/\∃ F':Nat->Prop,(∀ k,F k->F' k)/\(∀ k,F' k->F k \/ w.heap.size <= k)/\
  Hp w w' [.rep (fun w=>(PF.vp (Ew gs now)).at_ w Fv v) Fv false,.rep (fun w=>(DF bb f m (Ej f m now gs) last).at_ w F' (.bool true)) F' true]:=by
 obtain ⟨x,hp,hok,hr,hst,hcov,hne⟩:=FV h true false;obtain ⟨gb,mb,ab,c1,c2,M1,M2,Bk,X,Fa,Fg,Fs⟩:=x;dsimp only at hr hst;have hFb:F bb:=hcov _ (Af (i:=0) rfl) bb rfl;have hFgb:F gb:=hcov _ (Af (i:=1) rfl) gb rfl;have hFmb:F mb:=hcov _ (Af (i:=2) rfl) mb rfl;have hFa:∀ k,Fa k->F k:=hcov _ (Af (i:=3) rfl);have hFg:∀ k,Fg k->F k:=hcov _ (Af (i:=4) rfl);have hFs:∀ k,Fs k->F k:=hcov _ (Af (i:=5) rfl);clear hcov;have hcnt:=hok.cnt;have hal:=Ib gs;refine BS Tryz.func50 rfl rfl hst ?_;repeat (first |refine Ai ?_ |refine Ab ?_ |refine Ag ?_ |refine Ae Aa rfl ?_)
 refine BF (Cs Aa rfl rfl rfl rfl rfl) ?_;repeat (first |refine Ag ?_)
 refine AF rfl ?_;repeat (first |refine Ai ?_ |refine Ab ?_ |refine Ag ?_ |refine Ad ?_ |refine Ao ?_ |refine Ae Aa rfl ?_ |refine Ap Aa 0 rfl rfl rfl ?_)
 refine Ij 3 rfl Tryz.call75 rfl (fun w1 g1=>(Wp (g1.own _ (Af (i:=3) rfl)).1 (g1.own _ (Af (i:=3) rfl)).2.2 (by omega) now).mono fun e w' ⟨A1,C1,he,Fa1,g2,g3,g4⟩=>⟨_,_,Fa1,_,_,_,_,_,he,g4,g2,g3,_,rfl,?_⟩);have hsz:=g1.size;have hFa1:∀ k,Fa1 k->F k \/ w.heap.size <= k:=fun k hk=>(g3 k hk).elim (fun h=>.inl (hFa k h)) fun h=>.inr (Nat.le_trans hsz h);obtain ⟨ids,hids⟩:∃ ids,ids=Ex gs now:=⟨_,rfl⟩;have hids2:Gs (Ga gs) now=ids:=hids.symm;have hil:ids.length <= gs.length:=hids ▸ H4;have hind:ids.Nodup:=hids ▸ H3 hok;rw [hids2];clear g4 he g2 g3;repeat (first |refine Ar ?_ |refine Ag ?_ |refine Ae Aa rfl ?_)
 have hnb:∀ I,CU last (gs.map (B0 f m now I)):=fun I=>hok.map_ (CE I) (fun g hg=>by
  have h1:=hok.tr g hg;have h2:=htr g hg;unfold B0;split
  ·dsimp only;omega
  ·exact h1) (fun g hg=>by
  have h1:=hok.tm g hg;have h2:=FH hp.1 hp.2.1 g.tries.toNat;have h3:=hp.2.2;unfold B0;split
  ·dsimp only;omega
  ·exact h1)
 have e0:gs.map (B0 f m now (ids.take 0))=gs:=by
  rw [List.take_zero]
  have:∀ g ∈ gs,B0 f m now [] g=id g:=fun g _=>by unfold B0;rw [if_neg (by simp)];rfl
  rw [List.map_congr_left this,List.map_id]
 refine AM (ι:=Yd) (fun j=>[(0,AG bb),(1,.int .i64 now),(16,.slice A1 ids.length C1),(17,.int .i64 (ids.length:Int)),(18,.int .i64 (j.i:Int)),(5,.slice j.A j.i j.C)])
  (fun j=>[.blk bb (WI f m gb mb ab last) true,.blk gb (Cj .u64 M1 c1) true,.blk mb (Cj .u64 M2 c2) true,.rep (fun w=>(IZ ab j.al).at_ w j.Fa (.bool true)) j.Fa true,.rep (fun w=>(Ma (gs.map (B0 f m now (ids.take j.i))) Bk X).at_ w Fg (.bool true)) Fg true,.rep (fun w=>(I4 gs X).at_ w Fs (.bool true)) Fs false,
   .row w.heap.size (.slice j.A j.i j.C) 59 1 j.i j.css.flatten,GU w.heap.size (.slice A1 ids.length C1) ids,.rep (fun w=>(Cl (Ay (A8 .u64)) j.css ((ids.take j.i).map (M5 gs))).at_ w j.Fo (.bool true)) j.Fo false])
  (fun j=>j.i <= ids.length/\j.al.Pairwise DI/\(∀ x,x ∈ j.al ↔ ∃ g ∈ gs.map (B0 f m now (ids.take j.i)),g.id ∉ ids.drop j.i/\bT g=x)/\j.al.length <= gs.length + j.i/\(∀ k,j.Fa k->F k \/ w.heap.size <= k)/\(∀ k,j.Fo k->w.heap.size <= k)/\j.css.flatten.length=j.i)
  (fun j=>ids.length - j.i) ⟨0,none,0,[],Lb (Ga gs) now,Fa1,fun _=>False⟩ ⟨Nat.zero_le _,(DU hok.idn).sublist (List.dropWhile_sublist _),fun x=>?_,?_,hFa1,fun k hk=>hk.elim,rfl⟩ (by repeat (first |exact As.nil |refine As.cons rfl ?_)) (fun w' hw=>?_) ?_
 ·dsimp only;rw [e0,List.drop_zero];unfold Lb;rw [(Io (DU hok.idn)).2,List.mem_filter,E8];constructor
  ·rintro ⟨⟨g,hg,rfl⟩,h2⟩;refine ⟨g,hg,fun h3=>?_,rfl⟩;have:=(EP hok hg).1 (hids ▸ h3);simp [this] at h2
  ·rintro ⟨g,hg,h2,rfl⟩;refine ⟨⟨g,hg,rfl⟩,?_⟩;have:¬ g.tm <= now:=fun h3=>h2 (hids ▸ (EP hok hg).2 h3);simp [this]
 ·exact Nat.le_trans (List.dropWhile_sublist _).length_le (by rw [hal];exact Nat.le_refl _)
 ·dsimp only;rw [e0];have h9:=((hw.none (p:=Cl (Ay (A8 .u64)) [] []) (v:=.bool true) (fun w=>Cl.nil_) false).nilRow 59 1).pm [3,4,5,6,7,8,0,2,1] rfl rfl rfl;exact h9
 rintro ⟨i,A,C,css,al,Fa,Fo⟩ ⟨hi,hsrt,hmem,hall,hFa,hFo,hcss⟩;dsimp only at hi hsrt hmem hall hFa hFo hcss ⊢;repeat (first |refine Ai ?_ |refine Ab ?_ |refine Ag ?_ |refine Ae Aa rfl ?_)
 refine Ak rfl (fun hlt1=>?_) (fun hge=>?_);rotate_left
 ·have hie:i=ids.length:=by omega
  subst hie;rw [List.take_length] at hmem ⊢;rw [List.drop_length] at hmem
  have eg:gs.map (B0 f m now ids)=Ej f m now gs:=by rw [hids];exact Jm hok
  have eal:al=Ga (Ej f m now gs):=Un (by rw [<-eg];exact (hnb ids).idn) hsrt fun x=>by
   rw [hmem,eg];exact ⟨fun ⟨g,h1,_,h3⟩=>⟨g,h1,h3⟩,fun ⟨g,h1,h3⟩=>⟨g,h1,List.not_mem_nil,h3⟩⟩
  repeat (first |refine Ai ?_ |refine Ab ?_ |refine Ag ?_ |refine Ad ?_ |refine AC ?_ |refine Am ?_ |refine AB ?_ |refine AH ?_ |refine Ae Aa rfl ?_)
  refine AY rfl rfl (fun w' hw=>?_);rw [eal] at hw;obtain ⟨Fr,hFr,h1⟩:=(hw.pm [6,8,0,1,2,3,4,5,7] rfl rfl rfl).share (p:=JH w.heap.size 59 1 ids.length css.flatten) (fun h=>⟨h,fun k hk=>hk⟩);have h2:=h1.merge (Ψ:=fun w=>(PF.vp (Ew gs now)).at_ w (fun k=>Fr k \/ Fo k) (.slice A ids.length C)) (fun q1 q2=>?_) (Vp.loc (p:=PF.vp _))
  ·have h3a:Hp w w' [.blk bb (WI f m gb mb ab last) true,.blk gb (Cj .u64 M1 c1) true,.blk mb (Cj .u64 M2 c2) true,.rep (fun w=>(IZ ab (Ga (Ej f m now gs))).at_ w Fa (.bool true)) Fa true,.rep (fun w=>(Ma (gs.map (B0 f m now ids)) Bk X).at_ w Fg (.bool true)) Fg true,.rep (fun w=>(I4 gs X).at_ w Fs (.bool true)) Fs false,.rep (fun w=>(PF.vp (Ew gs now)).at_ w (fun k=>Fr k \/ Fo k) (.slice A ids.length C)) (fun k=>Fr k \/ Fo k) false]:=(h2.pm [1,2,3,4,5,6,0,7] rfl rfl rfl).less (by repeat (first |exact Au.nil |refine Au.keep ?_ |refine Au.dropW (Nat.le_refl _) ?_));have h3:=h3a.mapI 4 rfl (Ψ:=fun w=>(Ma (Ej f m now gs) Bk X).at_ w Fg (.bool true)) (fun h=>eg ▸ h) (Vp.loc (p:=Ma _ _ _)) rfl;have h4:=h3.mapI 5 rfl (Ψ:=fun w=>(I4 (Ej f m now gs) X).at_ w Fs (.bool true)) (fun h=>eg ▸ (Sm (CE _)).2 h) (Vp.loc (p:=I4 _ _)) rfl
   obtain ⟨F',g1,g2,g3⟩:=Pw (F0:=F) (h:=⟨gb,mb,ab,c1,c2,M1,M2,Bk,X,Fa,Fg,Fs⟩) (ol:=[.rep (fun w=>(PF.vp (Ew gs now)).at_ w (fun k=>Fr k \/ Fo k) (.slice A ids.length C)) (fun k=>Fr k \/ Fo k) false]) h4 hp (eg ▸ hnb ids) (eg ▸ hne.map_ (CE _)) (eg ▸ hr.map_ (CE _)) hF (fun e he k hk=>by
    rw [List.mem_singleton] at he;subst he
    exact hk.elim (hFr k) (hFo k)) (fun e he k hk hk2=>by
    rw [List.mem_singleton] at he;subst he;have h5:=hF k (hFs k hk);have h6:w.heap.size <= k:=hk2.elim (hFr k) (hFo k)
    omega) (Ki (.inl hFb) (.inl hFgb) (.inl hFmb) hFa (fun k hk=>.inl (hFg k hk)) (fun k hk=>.inl (hFs k hk)))
   exact ⟨_,_,rfl,fun k hk=>hk.elim (hFr k) (hFo k),F',g1,g2,g3.pm [1,0] rfl rfl rfl⟩
  ·have h5:(Cl (Ay (A8 .u64)) css (Ew gs now)).at_ w' (fun k=>Fr k \/ Fo k) (.bool true):=by
    rw [show Ew gs now=ids.map (M5 gs) from by rw [hids];rfl];exact (Cl _ _ _).mono q2 fun k hk=>.inr hk
   exact (Cl.slr h5 (R:=Ay (A8 .u64)) q1.1 (by rw [show Ew gs now=ids.map (M5 gs) from by rw [hids];rfl,List.length_map]) fun k _ hk=>.inl (q1.2 k hk)).val
 have hin:i < ids.length:=by omega
 obtain ⟨id,hid⟩:∃ id,ids[i]? =some id:=⟨_,List.getElem?_eq_getElem hin⟩
 have htk:ids.take (i + 1)=ids.take i ++ [id]:=by
  rw [List.take_succ_eq_append_getElem hin];rw [List.getElem?_eq_getElem hin] at hid;rw [Option.some.inj hid]
 have hdr:ids.drop i=id::ids.drop (i + 1):=by
  rw [List.drop_eq_getElem_cons hin];rw [List.getElem?_eq_getElem hin] at hid;rw [Option.some.inj hid]
 obtain ⟨g,hgm,hgi⟩:=J8 (hids ▸ List.mem_of_getElem? hid)
 have hnt:id ∉ ids.take i:=fun hm=>by
  have h1:(ids.take (i + 1)).Nodup:=hind.sublist (List.take_sublist _ _);rw [htk,List.nodup_append] at h1;exact h1.2.2 id hm id (List.mem_singleton.2 rfl) rfl
 have hnd:id ∉ ids.drop (i + 1):=fun hm=>by
  have h1:(ids.drop i).Nodup:=hind.sublist (List.drop_sublist _ _);rw [hdr,List.nodup_cons] at h1;exact h1.1 hm
 have hm1:=hr.g1 id;rw [<-hgi,FW hok hgm,hgi] at hm1;obtain ⟨hb1,hb2,hb3⟩:=Lf (f:=f) (m:=m) (now:=now) hok hgm hgi hnt;have hgm2:g ∈ gs.map (B0 f m now (ids.take i)):=List.mem_map.2 ⟨g,hgm,hb3⟩;have hgtr:=hok.tr g hgm;have hgtr2:=htr g hgm;have hW:=FH hp.1 hp.2.1 g.tries.toNat;have hp3:=hp.2.2;have hgl:=Ji hgm;have hl1:=hok.len
 have hlo:M5 gs id=g.L:=by unfold M5;rw [<-hgi,FW hok hgm]
 repeat (first |refine Ai ?_ |refine Ab ?_ |refine Ar ?_ |refine Ad ?_ |refine Ao ?_)
 refine Fi 7 rfl (by omega) (fun gN hgN=>?_);subst hgN;refine BF (Ax Aa rfl rfl rfl rfl rfl rfl rfl (j:=i) rfl hin) ?_;refine Bb Aa (v:=.int .u64 id) rfl rfl (fun w' hw=>Cp (hw.own _ (Af (i:=7) rfl)) (by omega) (by rw [Nat.zero_add,List.getElem?_map,hid];rfl)) ?_;repeat (first |refine Ai ?_ |refine Ab ?_ |refine Ag ?_ |refine Ae Aa rfl ?_ |refine Ap Aa 0 rfl rfl rfl ?_)
 refine BF (N1 (v:=AG (Bk id)) Aa rfl rfl rfl rfl rfl rfl rfl rfl (fun w' hw=>hw.own _ (Af (i:=1) rfl)) hm1) ?_;repeat (first |refine Ai ?_ |refine Ab ?_ |refine Ag ?_ |refine Ae Aa rfl ?_)
 refine BX Aa (vs:=[(X g.id).v]) rfl rfl rfl (fun w' hw j u hu=>by
  rw [Addr.add_lit,<-hgi];refine IX ((hw.own _ (Af (i:=4) rfl)).1 g hgm2).1 (j:=j) ?_
  cases j with
  |zero=>exact hu
  |succ j=>simp at hu) ?_
 refine Dn (Rr g.L) Fs rfl Tryz.call76 (fun w1 h1=>by
  have h5:=Vp.fact (p:=I4 gs X) (v:=.bool true) (A:=Fs) h1 5 rfl (fun k hk=>.inl hk) g hgm
  exact (Xk h5 (by omega) (hok.srt g hgm) (fun x=>Iff.rfl)).mono fun e w'' ⟨r,e1,e2,e3⟩=>⟨r,e1,e2,(Rr _).mono e3 fun k hk=>hk.elim (fun h=>h.1) (ET h1)⟩) (fun v1 F1 w2 hF1 hv1=>?_)
 refine Dn ((Ay (A8 .u64)).vp g.L) (fun _=>False) rfl Tryz.call62 (fun w1 h1=>(NN (h1.own _ (Af (i:=0) rfl)).1 (by omega)).mono fun e w'' ⟨r,e1,e2,e3⟩=>⟨r,e1,e2,PM h1 e3⟩) (fun v2 F2 w3 hF2 hv2=>?_);obtain ⟨a2,n2,k2,rfl,_⟩:=Bq.form hv2;refine AO Aa rfl rfl rfl rfl rfl rfl rfl rfl rfl rfl rfl rfl (fun nb hnb2=>?_);refine AU (ty:=0) (k:=1) (news:=[.slice a2 n2 k2]) Aa 9 (sz:=1) rfl rfl rfl rfl rfl rfl rfl rfl rfl (by decide) (fun w' hw=>Sl.of_blk (hw.own _ (Af (i:=0) rfl)) rfl (fun j u hu=>by rw [Nat.zero_add];exact hu)) (fun u hu=>by rw [List.mem_singleton] at hu;subst hu;rfl) (by simp only [maxLen];omega) (by show (_ + _) * 24 <= _;omega) rfl (fun A' C' hA' hC'=>⟨_,rfl,?_⟩)
 refine B6 (ol':=[.blk bb (WI f m gb mb ab last) true,.blk gb (Cj .u64 M1 c1) true,.blk mb (Cj .u64 M2 c2) true,.rep (fun w=>(IZ ab al).at_ w Fa (.bool true)) Fa true,.rep (fun w=>(Ma (gs.map (B0 f m now (ids.take i))) Bk X).at_ w Fg (.bool true)) Fg true,.rep (fun w=>(I4 gs X).at_ w Fs (.bool true)) Fs false,
  .row w.heap.size (.slice A' (i + 1) C') 59 1 (i + 1) (css ++ [[Value.slice a2 n2 k2]]).flatten,GU w.heap.size (.slice (some ⟨gN,0,none⟩) ids.length C1) ids,.rep (fun w=>(Cl (Ay (A8 .u64)) (css ++ [[Value.slice a2 n2 k2]]) ((ids.take (i + 1)).map (M5 gs))).at_ w (fun k=>F2 k \/ Fo k) (.bool true)) (fun k=>F2 k \/ Fo k) false]) (fun w' hw=>?_) ?_
 ·have h9:=(hw.pm [1,11,0,2,3,4,5,6,7,8,9,10] rfl rfl rfl).merge (Ψ:=fun w=>(Cl (Ay (A8 .u64)) (css ++ [[Value.slice a2 n2 k2]]) ((ids.take (i + 1)).map (M5 gs))).at_ w (fun k=>F2 k \/ Fo k) (.bool true)) (fun q1 q2=>?_) (Vp.loc (p:=Cl _ _ _))
  ·have e9:(css ++ [[Value.slice a2 n2 k2]]).flatten=css.flatten ++ [Value.slice a2 n2 k2]:=by rw [List.flatten_append];rfl
   rw [e9];exact (h9.pm [3,4,5,6,7,8,9,10,0,1,2] rfl rfl rfl).less (by repeat (first |exact Au.nil |refine Au.keep ?_ |refine Au.dropR ?_ |refine Au.dropB (by first |assumption |omega) ?_))
  ·rw [htk,List.map_append,List.map_cons,List.map_nil,hlo];exact Cl.snoc ((Cl _ _ _).mono q2 fun k hk=>.inr hk) ((Ay (A8 .u64)).at_mono q1 fun k hk=>.inl hk)
 repeat (first |refine Ai ?_ |refine Ag ?_ |refine Ae Aa rfl ?_)
 refine Cf (by kernel_rfl) 16 rfl (by kernel_rfl) ?_;repeat (first |refine Ah Aa rfl ?_ |refine AD Aa 0 rfl rfl rfl ?_)
 refine Av Aa (v:=.int .i64 g.tries) rfl rfl (fun w' hw=>by
  rw [<-hgi]
  exact IX ((hw.own _ (Af (i:=4) rfl)).1 g hgm2).1 (j:=1) rfl) ?_
 refine Bc (v:=.int .i64 (W f m g.tries.toNat)) rfl Tryz.call74 (fun w' vs hw' h=>by
  obtain ⟨u1,_,rfl,rfl,u2,_,rfl,rfl,rfl⟩:=h
  exact M8 f m g.tries w' hp.1 hp.2.2 hp.2.1) ?_
 repeat (first |refine AP rfl ?_ |refine BD Aa rfl (by omega) ?_)
 refine CB 3 rfl Tryz.call77 rfl (fun w1 g1=>(Rt (g1.own _ (Af (i:=3) rfl)).1 (g1.own _ (Af (i:=3) rfl)).2.2 (by omega) id (now + W f m g.tries.toNat)).mono fun e w' ⟨he,Fa',g2',g3,g4⟩=>⟨_,_,Fa',he,g4,g2',g3,_,rfl,?_⟩);have hsz2:=g1.size;clear g4;refine Uv (p:=Fg (Bk g.id)) (fun w' hw=>((hw.own _ (Af (i:=4) rfl)).1 g hgm2).2) (fun hFgg=>?_);repeat (first |refine Ag ?_ |refine Ae Aa rfl ?_ |refine Aq ?_)
 refine Bb Aa (v:=.int .i64 g.tries) rfl rfl (fun w' hw=>by
  rw [<-hgi]
  exact IX ((hw.own _ (Af (i:=4) rfl)).1 g hgm2).1 (j:=1) rfl) ?_
 repeat (first |refine AE Aa rfl (by omega) ?_ |refine Ae Aa rfl ?_)
 refine Kv Aa 4 (Ψ:=fun w=>(Ma (gs.map (B0 f m now (ids.take (i + 1)))) Bk X).at_ w Fg (.bool true)) [(X g.id).v,.int .i64 g.tries] [(X g.id).v,.int .i64 (g.tries + 1)] 144 rfl rfl (fun u hu=>by rw [List.mem_singleton] at hu;subst hu;rfl) rfl (hgi ▸ hFgg) (fun w h=>hgi ▸ (h g hgm2).1) rfl (fun w w' h h1 h2 y hy=>?_) Vp.loc rfl ?_
 ·obtain ⟨z,hz,rfl⟩:=List.mem_map.1 hy;rw [htk,(CE _ z).1];by_cases e:z.id=id
  ·obtain rfl:=CR BG.id hok.idn hz hgm (e.trans hgi.symm);rw [hb2,hgi];dsimp only;rw [hgi] at h2 hFgg;exact ⟨h2,hFgg⟩
  ·rw [hb1 z hz e];have h7:=h (B0 f m now (ids.take i) z) (List.mem_map.2 ⟨z,hz,rfl⟩);rw [(CE _ z).1] at h7;exact ⟨(h1 _ fun e2=>e ((hr.inj z hz g hgm (e2.trans (by rw [hgi]))).trans hgi)).trans h7.1,h7.2⟩
 repeat (first |refine Ab ?_ |refine Ag ?_ |refine Ad ?_ |refine Al ?_ |refine AE Aa rfl (by omega) ?_ |refine Ae Aa rfl ?_)
 refine ⟨⟨i + 1,A',C',css ++ [[Value.slice a2 n2 k2]],Gd al id (now + W f m g.tries.toNat),Fa',fun k=>F2 k \/ Fo k⟩,⟨hin,H5 hsrt,fun x=>?_,?_,fun k hk=>(g3 k hk).elim (hFa k) fun h=>.inr (Nat.le_trans hsz2 h),fun k hk=>hk.elim (fun h=>(hF2 k h).resolve_left (fun h=>h)) (hFo k),?_⟩,(by repeat (first |exact As.nil |refine As.cons rfl ?_)),fun w' hw=>hw,by dsimp only;omega⟩
 ·dsimp only;rw [QT,hmem];constructor
  ·rintro (rfl |⟨⟨y,hy,h2,rfl⟩,h3⟩)
   ·refine ⟨B0 f m now (ids.take (i + 1)) g,List.mem_map.2 ⟨g,hgm,rfl⟩,?_,?_⟩
    ·rw [(CE _ g).1,hgi];exact hnd
    ·rw [htk,hb2,<-hgi]
   ·obtain ⟨z,hz,rfl⟩:=List.mem_map.1 hy;rw [(CE _ z).1] at h2;have h4:z.id ≠ id:=fun e=>h3 ((CE _ z).1.trans e);refine ⟨B0 f m now (ids.take (i + 1)) z,List.mem_map.2 ⟨z,hz,rfl⟩,?_,?_⟩
    ·rw [(CE _ z).1];exact fun h=>h2 (by rw [hdr];exact List.mem_cons_of_mem _ h)
    ·rw [htk,hb1 z hz h4]
  ·rintro ⟨y,hy,h2,rfl⟩;obtain ⟨z,hz,rfl⟩:=List.mem_map.1 hy;rw [(CE _ z).1] at h2;by_cases e:z.id=id
   ·obtain rfl:=CR BG.id hok.idn hz hgm (e.trans hgi.symm);rw [htk,hb2];exact .inl (by rw [<-hgi])
   ·rw [htk,hb1 z hz e];refine .inr ⟨⟨B0 f m now (ids.take i) z,List.mem_map.2 ⟨z,hz,rfl⟩,?_,rfl⟩,?_⟩
    ·rw [(CE _ z).1,hdr,List.mem_cons];exact fun h=>h.elim e h2
    ·exact fun h=>e ((CE _ z).1.symm.trans h)
 ·have:=QU (l:=al) (id:=id) (tm:=now + W f m g.tries.toNat);dsimp only;omega
 ·dsimp only;rw [List.flatten_append,List.length_append,hcss];rfl
end
theorem Hp.dis {w0 w:World} {ol:OL} (h:Hp w0 w ol) {x y:HE} (i j:Nat) (hi:B9 ol i=some x) (hj:B9 ol j=some y) (hx:(x.ex || y.ex)=true) (hij:Nat.beq i j=false) {k:Nat} (h1:x.has k) (h2:y.has k):False:=by
 rw [JY] at hi hj;obtain ⟨hi1,hi2⟩:=List.getElem?_eq_some_iff.1 hi;obtain ⟨hj1,hj2⟩:=List.getElem?_eq_some_iff.1 hj;have hne:i ≠ j:=Nat.ne_of_beq_eq_false hij
 rcases Nat.lt_or_gt_of_ne hne with hlt |hlt
 ·have:=List.pairwise_iff_getElem.1 h.apart i j hi1 hj1 hlt;rw [hi2,hj2] at this;exact this hx k h1 h2
 ·have:=List.pairwise_iff_getElem.1 h.apart j i hj1 hi1 hlt;rw [hi2,hj2] at this;exact this (by rw [Bool.or_comm];exact hx) k h2 h1
structure MV {α:Type} (R:Ec α) (w:World) (A:Nat->Prop) (a:Option Addr) (n c:Nat) (l:List α) (css:List (List Value)):Prop where
 base:Bq R w A a n c l
 cl:css.length=n
 at_:∀ (i:Nat) (cs:List Value) (x:α),css[i]? =some cs->l[i]? =some x->R.at_ w A cs x
 sl:Sl w R.sz a n css.flatten
theorem MV.keep {α:Type} {R:Ec α} {w w':World} {A B:Nat->Prop} {a:Option Addr} {n c:Nat} {l:List α} {css:List (List Value)} (h:MV R w A a n c l css) (hk:∀ k,A k->k < w.heap.size->w'.heap[k]? =w.heap[k]?/\B k):MV R w' B a n c l css:=by
 refine ⟨h.base.keep hk,h.cl,fun i cs x h1 h2=>R.keep (h.at_ i cs x h1 h2) hk,h.sl.len,fun hn=>?_⟩;obtain ⟨b,off,e,hlt,hc⟩:=h.sl.get hn;obtain ⟨b',off',cs,e',hlt',_,_,_,hA⟩:=h.base.get_ (i:=0) (by rw [h.base.len];exact hn);rw [e] at e';cases e';have h1:=(hk b hA hlt).1;obtain ⟨o,ho⟩:∃ o,w.heap[b]? =some o:=⟨_,Array.getElem?_eq_getElem hlt⟩;exact ⟨b,off,e,AV (h1.trans ho),fun j u hu=>(World.cell?_of_block (w:=w) (a:=⟨b,off + j,none⟩) h1).trans (hc j u hu)⟩
def DG (a:Option Addr) (n c:Nat) (xs:List SX) (L:List (List Int)):Vp:=
 ⟨fun w A _=>MV (Ay (A8 .u64)) w A a n c L (xs.map fun x:SX=>[x.v]),fun h hk=>h.keep hk⟩
theorem Sf {w:World} {A:Nat->Prop} {v:Value} {L:List (List Int)} (h:PF.val w A v L):∃ a n c xs,v= .slice a n c/\(DG a n c xs L).at_ w A (.bool true):=by
 obtain ⟨a,n,c,rfl,h1⟩:=Bq.form h;obtain ⟨css,h2,h3,h4⟩:=h1.each
 have hx:∃ xs:List SX,css=xs.map fun x:SX=>[x.v]:=by
  have:∀ cs ∈ css,∃ x:SX,cs= [x.v]:=fun cs hc=>by
   obtain ⟨i,hi⟩:=List.mem_iff_getElem?.1 hc;have hil:=(List.getElem?_eq_some_iff.1 hi).1;obtain ⟨y,hy⟩:∃ y,L[i]? =some y:=⟨_,List.getElem?_eq_getElem (by rw [h1.len,<-h2];exact hil)⟩;obtain ⟨a',n',c',e,_⟩:=h3 i cs y hi hy;exact ⟨⟨a',n',c'⟩,e⟩
  clear h2 h3 h4
  induction css with
  |nil=>exact ⟨[],rfl⟩
  |cons cs css ih=>
   obtain ⟨x,hx⟩:=this cs List.mem_cons_self;obtain ⟨xs,hxs⟩:=ih fun y hy=>this y (List.mem_cons_of_mem _ hy);exact ⟨x::xs,by rw [hx,hxs];rfl⟩
 obtain ⟨xs,rfl⟩:=hx;exact ⟨a,n,c,xs,rfl,h1,h2,h3,h4⟩
theorem T7 (xs:List SX):(xs.map fun x:SX=>[x.v]).flatten=xs.map SX.v:=by
 induction xs with
 |nil=>rfl
 |cons x xs ih=>rw [List.map_cons,List.flatten_cons,ih];rfl
theorem DG.len {a:Option Addr} {n c:Nat} {xs:List SX} {L:List (List Int)} {w:World} {A:Nat->Prop} {v:Value} (h:(DG a n c xs L).at_ w A v):L.length=n/\xs.length=n:=by
 have h1:MV (Ay (A8 .u64)) w A a n c L (xs.map fun x:SX=>[x.v]):=h;exact ⟨h1.base.len,by simpa using h1.cl⟩
theorem DG.addr {a:Option Addr} {n c:Nat} {xs:List SX} {L:List (List Int)} {w:World} {A:Nat->Prop} {v:Value} (h:(DG a n c xs L).at_ w A v) (hn:0 < n):∃ b off,a=some ⟨b,off,none⟩:=by
 have h1:MV (Ay (A8 .u64)) w A a n c L (xs.map fun x:SX=>[x.v]):=h;obtain ⟨b,off,e,_⟩:=h1.sl.get hn;exact ⟨b,off,e⟩
theorem DG.cell {b off n c:Nat} {xs:List SX} {L:List (List Int)} {w:World} {A:Nat->Prop} {v:Value} (h:(DG (some ⟨b,off,none⟩) n c xs L).at_ w A v) {i:Nat} {x:SX} (hx:xs[i]? =some x):w.cell? ⟨b,off + i,none⟩=some x.v:=by
 have h1:MV (Ay (A8 .u64)) w A (some ⟨b,off,none⟩) n c L (xs.map fun x:SX=>[x.v]):=h;have h2:=h1.sl;rw [T7] at h2
 have hl:xs.length=n:=by simpa using h1.cl
 have:=(List.getElem?_eq_some_iff.1 hx).1;exact h2.at_ (by omega) (by rw [List.getElem?_map,hx];rfl)
theorem DG.get {a:Option Addr} {n c:Nat} {xs:List SX} {L:List (List Int)} {w:World} {A:Nat->Prop} {v:Value} (h:(DG a n c xs L).at_ w A v) {i:Nat} {x:SX} {l:List Int} (hx:xs[i]? =some x) (hl:L[i]? =some l):Bq (A8 .u64) w A x.a x.n x.c l:=by
 have h1:MV (Ay (A8 .u64)) w A a n c L (xs.map fun x:SX=>[x.v]):=h;have h2:(Ay (A8 .u64)).val w A x.v l:=h1.at_ i [x.v] l (by rw [List.getElem?_map,hx];rfl) hl;exact Bq.of_val h2
instance (k:IntKind) (n:Int):Decidable (AT k n):=by unfold AT;infer_instance
theorem Bq.maxn {α:Type} {R:Ec α} {w:World} {A:Nat->Prop} {a:Option Addr} {n c:Nat} {l:List α} (h:Bq R w A a n c l):n <= maxLen:=Nat.le_trans h.cap h.max
def X4 (w:World) (F:Nat->Prop) (a:Option Addr) (n c:Nat) (l:List Int):Prop:=∃ A0:Nat->Prop,Bq (A8 .u64) w A0 a n c l/\∀ k,A0 k->¬ F k
section
variable {n:Nat} {w0:World} {all:Array Oper} {os:List Oper} {o:Oper} {l:FL} {ol:OL} {K:FL->OL->Prop} {Q:B1} {d bb:Nat} {f m last:Int} {gs:List BG} {F:Nat->Prop}
theorem D8 {w:World} {base:Nat} {e:TypeId} {a:Option Addr} {m c:Nat} {l:List Int} (h:w.ownsRow base e 1 (.slice a m c) m (l.map (.int .u64))) (hl:l.length=m) (hok:∀ x ∈ l,AT .u64 x):Bq (A8 .u64) w (fun k=>(Value.slice a m c).ownBlock=some k) a m c l:=
 .of_row (DR .u64) (by rw [FB];exact h) hl hok (fun k _ hk=>hk)
theorem Wx {a a':Option Addr} {n1 c1 n2 c2:Nat} {L M:List Int} (hs:BJ n all (AQ l) o=some (d,25,[.slice a n1 c1,.slice a' n2 c2])) (h1:∀ w,Hp w0 w ol->Sl w 1 a n1 (L.map (.int .u64))) (h2:∀ w,Hp w0 w ol->Sl w 1 a' n2 (M.map (.int .u64))) (hm:∀ w,Hp w0 w ol->n1 <= maxLen)
 (k:S Tryz.prog n w0 all os ((d,.bool (decide (L=M)))::l) ol K Q):S Tryz.prog n w0 all (o::os) l ol K Q:=
 Bo hs Tryz.call25 (fun w1 g=>J6 a a' n1 c1 n2 c2 L M w1 (h1 w1 g) (h2 w1 g) (hm w1 g)) k
theorem Wk {w:World} {b:Nat} {e:TypeId} {fz:Nat × Nat} {cs:List Value} (h:w.heap[b]? =some (.cells ⟨cs⟩ e fz)):Sl w 1 (some ⟨b,0,none⟩) cs.length cs:=Sl.of_blk h (by rw [Nat.mul_one]) fun j u hu=>by rw [Nat.zero_add];exact hu
theorem Wy (hp:PR f m) (hs:BJ n all (AQ l) o=some (d,46,[.agg #[.int .i64 f,.int .i64 m]]))
 (k:∀ bb (F:Nat->Prop),(∀ k,F k->w0.heap.size <= k)->S Tryz.prog n w0 all os ((d,.tuple #[AG bb,.int .i64 0])::l) (.rep (fun w=>(DF bb f m [] 0).at_ w F (.bool true)) F true::ol) K Q):S Tryz.prog n w0 all (o::os) l ol K Q:=
 Jp hs Tryz.call46 fun w1 h1=>(Wi f m w1).mono fun e w' h=>by
  rw [if_pos hp] at h;obtain ⟨bb,F,e1,e2,e3⟩:=h;exact ⟨_,_,F,e1,e3,e2,fun hN=>k bb F hN⟩
end
end Go.Proofs.YtidhpofcofknhaaGreat
