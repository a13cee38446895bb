/-
  A map of u64 keys that is gone through, whatever the order. Conditions: each theorem's own. maps.Keys at one map type, against any loop. Conditions: each theorem's own. (Made by genItC.py.) A set's numbers, one by one: an iterator that may be stopped. Conditions: each theorem's own. slices.Clone, slices.Compact at uint64. Conditions: each theorem's own. Rising lists of numbers: plain. slices.Sort and Compact on a row. Conditions: each theorem's own. A function that holds a range over a function, stepped through up to there; a set's All and its Collect as value predicates. Conditions: each theorem's own.
  Conditions: each theorem's own.
-/
import Derived.Sort.MapsRangeIn
import Derived.Test.YtidhpofcofknhaaGreatRn
namespace Go.Proofs.YtidhpofcofknhaaGreat
open Go Go.RowKit
set_option linter.unusedVariables false
open Go.Shelf
attribute [local go_sem] Oper.semAt_some
structure Md (M:List ME) (c:Nat):Prop where
 keys:(M.map (·.1)).Nodup
 borns:(M.map (·.2.2)).Nodup
 lt:∀ p ∈ M,p.2.2 < c
theorem Md.nil:Md [] 0:=⟨List.nodup_nil,List.nodup_nil,fun p h=>by cases h⟩
structure Ja (b r:Nat) (M:List ME) (c:Nat) (pk:List ME) (w:World):Prop where
 m:w.heap[b]? =some (Cb .u64 M c)
 it:w.heap[r]? =some (.mapIter (some b) c ⟨pk.map (·.2.2)⟩ c)
 sub:∀ p ∈ pk,p ∈ M
 nd:(pk.map (·.2.2)).Nodup
theorem Ja.iter_walk {b r c:Nat} {M pk:List ME} {w:World} (h:Ja b r M c pk w):∃ o:Obj,w.heap[r]? =some o/\o.isWalk=true:=⟨_,h.it,rfl⟩
theorem Ja.walks {b r c:Nat} {M pk:List ME} {w w':World} (h:Ja b r M c pk w) (hk:KeepsWalks w w'):Ja b r M c pk w':=⟨hk.same _ _ h.m rfl,hk.same _ _ h.it rfl,h.sub,h.nd⟩
theorem CU {α β:Type} (f:α->β) {l:List α} (h:(l.map f).Nodup) {x y:α} (hx:x ∈ l) (hy:y ∈ l) (e:f x=f y):x=y:=by
 induction l with
 |nil=>cases hx
 |cons a l ih=>
  rw [List.map_cons,List.nodup_cons] at h
  rcases List.mem_cons.1 hx with rfl |hx
  ·rcases List.mem_cons.1 hy with rfl |hy
   ·rfl
   ·exact absurd (List.mem_map.2 ⟨y,hy,e.symm⟩) h.1
  ·rcases List.mem_cons.1 hy with e1 |hy
   ·exact absurd (List.mem_map.2 ⟨x,hx,by rw [e,e1]⟩) h.1
   ·exact ih h.2 hx hy
theorem FU {α β:Type} (f:α->β) {l:List α} (h:(l.map f).Nodup):l.Nodup:=by
 induction l with
 |nil=>exact List.nodup_nil
 |cons a l ih=>
  rw [List.map_cons,List.nodup_cons] at h;exact List.nodup_cons.2 ⟨fun hm=>h.1 (List.mem_map.2 ⟨a,hm,rfl⟩),ih h.2⟩
theorem Ed {α:Type}:∀ {l m:List α},l.Nodup->(∀ x ∈ l,x ∈ m)->l.length <= m.length
 | [],_,_,_=>Nat.zero_le _
 |a::l,m,hl,hs=>by
  obtain ⟨h1,h2⟩:=List.nodup_cons.1 hl;obtain ⟨s,t,rfl⟩:=List.append_of_mem (hs a (List.mem_cons_self ..))
  have:=Ed (l:=l) (m:=s ++ t) h2 (fun x hx=>by
   have:=hs x (List.mem_cons_of_mem _ hx)
   rcases List.mem_append.1 this with h |h
   ·exact List.mem_append.2 (.inl h)
   ·rcases List.mem_cons.1 h with h |h
    ·subst h;exact absurd hx h1
    ·exact List.mem_append.2 (.inr h))
  simp only [List.length_append,List.length_cons] at this ⊢;omega
theorem EM {α:Type} {l m:List α} (hl:l.Nodup) (hm:m.Nodup) (hs:∀ x ∈ l,x ∈ m) (ht:∀ x ∈ m,x ∈ l):l.Perm m:=
 (List.perm_ext_iff_of_nodup hl hm).2 fun x=>⟨hs x,ht x⟩
theorem QD {κ:IntKind} {M:List ME} {e:MapEntry} (h:e ∈ (⟨M.map (mE κ)⟩:Array MapEntry).toList):∃ p ∈ M,e=mE κ p:=by
 obtain ⟨p,hp,rfl⟩:=List.mem_map.1 (show e ∈ M.map (mE κ) from h);exact ⟨p,hp,rfl⟩
theorem Ja.next {P:Program} {b r c:Nat} {M pk:List ME} {w:World} (hM:Md M c) (h:Ja b r M c pk w) (ty:TypeId):
 ((Instr.next (.pointer (some ⟨r,0,none⟩)) false ty).run P w= .ok (.tuple #[.bool false]) w/\(pk.map (·.1)).Perm (M.map (·.1))) \/
 ∃ p ∈ M,∃ w',(Instr.next (.pointer (some ⟨r,0,none⟩)) false ty).run P w= .ok (.tuple #[.bool true,.int .u64 p.1,p.2.1]) w'/\Ja b r M c (pk ++ [p]) w'/\w'.rangeLeft b r < w.rangeLeft b r/\w.grownBy w' (some r)/\pk.length < M.length/\
  (Instr.entry (.pointer (some ⟨r,0,none⟩))).run P w'= .ok (.tuple #[.int .u64 p.1,p.2.1]) w':=by
 rcases run_next_at (P:=P) w ty r b c c ⟨pk.map (·.2.2)⟩ ⟨M.map (mE .u64)⟩ c h.it h.m (fun x hx=>by obtain ⟨p,hp,rfl⟩:=QD hx;exact hM.lt p hp) (Nat.le_refl _) with ⟨h0,hrun⟩ |⟨e,he,w1,hw1,hrun⟩
 ·refine .inl ⟨hrun,List.Perm.map _ (EM (FU (·.2.2) h.nd) (FU (·.2.2) hM.borns) h.sub fun p hp=>?_)⟩;have hs:=all_seen _ _ h0 (mE .u64 p) (List.mem_map.2 ⟨p,hp,rfl⟩);rw [Array.contains_iff_mem] at hs;obtain ⟨q,hq,e⟩:=List.mem_map.1 (show p.2.2 ∈ pk.map (·.2.2) by simpa using hs);rw [CU (·.2.2) hM.borns hp (h.sub q hq) e.symm];exact hq
 ·obtain ⟨he1,he2⟩:=mem_left he;obtain ⟨p,hp,rfl⟩:=QD he1
  have hnew:p.2.2 ∉ pk.map (·.2.2):=fun hm=>by
   have:(⟨pk.map (·.2.2)⟩:Array Nat).contains p.2.2=true:=by rw [Array.contains_iff_mem];simpa using hm
   rw [show (mE .u64 p).born=p.2.2 from rfl] at he2;rw [this] at he2;cases he2
  have hrb:r ≠ b:=fun e=>by have h1:=h.it;rw [e,h.m] at h1;cases h1
  have hr:r < w.heap.size:=(Array.getElem?_eq_some_iff.1 h.it).1
  have hw1h:w1.heap=w.heap:=by rcases hw1 with rfl |rfl<;>rfl
  have hpush:(⟨pk.map (·.2.2)⟩:Array Nat).push (mE .u64 p).born=⟨(pk ++ [p]).map (·.2.2)⟩:=by
   simp [Array.push]
  have hb':(Go.ChangeMaps.setBlock w1 r (.mapIter (some b) c ((⟨pk.map (·.2.2)⟩:Array Nat).push (mE .u64 p).born) c)).heap[b]? =w.heap[b]? :=by
   simp [Go.ChangeMaps.setBlock,hw1h,hrb]
  have hr':(Go.ChangeMaps.setBlock w1 r (.mapIter (some b) c ((⟨pk.map (·.2.2)⟩:Array Nat).push (mE .u64 p).born) c)).heap[r]? =some (.mapIter (some b) c ((⟨pk.map (·.2.2)⟩:Array Nat).push (mE .u64 p).born) c):=by
   simp [Go.ChangeMaps.setBlock,hw1h,hr]
  have hnd:((pk ++ [p]).map (·.2.2)).Nodup:=by
   rw [List.map_append,List.nodup_append];refine ⟨h.nd,by simp,fun x hx y hy=>?_⟩;simp only [List.map_cons,List.map_nil,List.mem_singleton] at hy;subst hy;exact fun e=>hnew (e ▸ hx)
  have hsub:∀ q ∈ pk ++ [p],q ∈ M:=fun q hq=>by
   rcases List.mem_append.1 hq with hq |hq
   ·exact h.sub q hq
   ·simp only [List.mem_singleton] at hq;subst hq;exact hp
  refine .inr ⟨p,hp,_,hrun,⟨hb'.trans h.m,by rw [hr',hpush],hsub,hnd⟩,?_,?_,?_,?_⟩
  ·unfold World.rangeLeft;rw [hb',hr',h.m,h.it];exact left_shrinks _ _ _ he
  ·rcases hw1 with rfl |rfl
   ·exact ⟨rfl,rfl,rfl,by simp [Go.ChangeMaps.setBlock],fun k hk hne=>by simp [Go.ChangeMaps.setBlock,show r ≠ k from fun e=>hne (by rw [e])]⟩
   ·exact ⟨rfl,rfl,rfl,by simp [Go.ChangeMaps.setBlock,hw1h],fun k hk hne=>by simp [Go.ChangeMaps.setBlock,hw1h,show r ≠ k from fun e=>hne (by rw [e])]⟩
  ·have:=Ed (FU (·.2.2) hnd) hsub;rw [List.length_append] at this;exact this
  ·exact run_entry_at _ r b c _ _ c (mE .u64 p) hr' (hb'.trans h.m) (List.mem_map.2 ⟨p,hp,rfl⟩) (by
    have:((⟨M.map (mE .u64)⟩:Array MapEntry).toList.map (·.born))=M.map (·.2.2):=by simp [List.map_map,Function.comp_def]
    rw [this];exact hM.borns)
section
variable {F:Fence} {n:Nat} {P:Program} {w:World} {ops:Array Oper} {rest:List Oper} {o:Oper} {a:Act} {Q:Exit->Act->World->Prop}
theorem Ip (hg:o.guard=none) (m:Operand) (t:TypeId) (hop:o.op=Op.range t m) (k e:TypeId) (ht:P.underlying t=some (.map k e)) (b:Nat) (M:List ME) (c:Nat)
 (hm:a.eval m= .map (some b)) (hb:w.heap[b]? =some (Cb .u64 M c))
 (hK:∀ w',Ja b w.heap.size M c [] w'->w.grownBy w' none->wpListIn F n P ops Q rest (a.put o.dst (.pointer (some ⟨w.heap.size,0,none⟩))) w'):
 wpListIn F n P ops Q (o::rest) a w:=by
 refine wpListIn_plain hg fun K' hK'=>?_;unfold Oper.wpIn;refine ⟨by simp [Oper.about,hop],?_⟩;rw [Oper.semAt_plain F _ _ (by rw [hop];intro c hc';cases hc')];simp only [execOp,hop,hm,run_range_map w t k e b _ _ ht hb,Sem.run_bind,Result.andThen];refine hK' _ _ (hK _ ⟨?_,World.alloc_heap_new w _,fun p h=>(by cases h),List.nodup_nil⟩ (World.grownBy_alloc w _ none));exact (Go.RowKit.Below.heap_alloc w _ b (Array.getElem?_eq_some_iff.1 hb).1).trans hb
theorem I6 (hg:o.guard=none) (it:Operand) (hop:o.op=Op.next it false) (b r:Nat) (M:List ME) (c:Nat) (pk:List ME) (hM:Md M c) (hit:a.eval it= .pointer (some ⟨r,0,none⟩)) (h:Ja b r M c pk w)
 (hDone:(pk.map (·.1)).Perm (M.map (·.1))->wpListIn F n P ops Q rest (a.put o.dst (.tuple #[.bool false])) w)
 (hMore:∀ (x:Int) (v:Value) (bn:Nat) (w':World),(x,v,bn) ∈ M->Ja b r M c (pk ++ [(x,v,bn)]) w'->w'.rangeLeft b r < w.rangeLeft b r->w.grownBy w' (some r)->pk.length < M.length->
  (Instr.entry (.pointer (some ⟨r,0,none⟩))).run P w'= .ok (.tuple #[.int .u64 x,v]) w'->wpListIn F n P ops Q rest (a.put o.dst (.tuple #[.bool true,.int .u64 x,v])) w'):
 wpListIn F n P ops Q (o::rest) a w:=by
 refine wpListIn_plain hg fun K' hK'=>?_;unfold Oper.wpIn;refine ⟨by simp [Oper.about,hop],?_⟩;rw [Oper.semAt_plain F _ _ (by rw [hop];intro c hc';cases hc')]
 rcases h.next (P:=P) hM o.type with ⟨hrun,hp⟩ |⟨⟨x,v,bn⟩,hp,w',hrun,h2,hlt,hgr,hlen,hen⟩
 ·simp only [execOp,hop,hit,hrun,Sem.run_bind,Result.andThen];exact hK' _ _ (hDone hp)
 ·simp only [execOp,hop,hit,hrun,Sem.run_bind,Result.andThen];exact hK' _ _ (hMore x v bn w' hp h2 hlt hgr hlen hen)
end
open Go.Shelf
attribute [local go_sem] Oper.semAt_some
set_option maxRecDepth 100000 in
set_option maxHeartbeats 4000000 in
theorem Ww (n l Bm b c:Nat) (M:List ME) (hM:Md M c) (J Jx:List Int->World->Prop)
 (hY:∀ pre x W,J pre W->pre.length < M.length->YieldAt Fence.wide (n - 1) Tryz.prog l (NN x) W fun e W'=>(e= .returned (.bool true)/\J (pre ++ [x]) W'/\KeepsWalks W W') \/ (e= .returned (.bool false)/\Jx (pre ++ [x]) W'))
 (W:World) (hJ:AbidesFrom W.heap.size J) (hm:W.cell? ⟨Bm,0,none⟩=some (.map (some b))) (hb:W.heap[b]? =some (Cb .u64 M c)) (h0:J [] W):
 CallsIn Fence.wide n Tryz.prog 83 #[.func (.yield l) #[] #[],.pointer (some ⟨Bm,0,none⟩)] W fun e W'=>(∃ v,e= .returned v)/\((∃ ss,ss.Perm (M.map (·.1))/\J ss W') \/ (∃ pre,True/\Jx pre W')):=by
 refine callsIn_of_wp Tryz.func83 rfl trivial ?_ rfl;simp only [Tryz.ntmps83,List.size_toArray,List.length_cons,List.length_nil,Nat.reduceAdd,Nat.reduceSub,Array.replicate_succ,Array.replicate_zero,List.push_toArray,List.append_toArray,List.nil_append,List.cons_append]
 gi_wp2_with (first
  |(gi_at_range;refine Ip rfl _ 134 rfl _ _ Tryz.underlying134 b M c rfl hb ?_;intro w0 hI0 hg0)
  |gi_in)
 go_frame
 gi_loopw [3] (fun _ wr=>∃ pk,Ja b W.heap.size M c pk wr/\J (pk.map (·.1)) wr) (fun _ wr=>wr.rangeLeft b W.heap.size)
 case atStart=>
  exact ⟨[],hI0,hJ [] W w0 none h0 hg0 (fun r e=>by cases e)⟩
 case round=>
  obtain ⟨pk,hI,hJs⟩:=hrel
  gi_wp2_with (first
   |(gi_at_next;refine I6 rfl _ rfl b W.heap.size M c pk hM rfl hI ?_ ?_)
   |gi_in)
  ·intro hp
   gi_wp2
   go_end0
   exact ⟨⟨_,rfl⟩,.inl ⟨_,hp,hJs⟩⟩
  ·intro x v bn w2 hp hI2 hlt hg2 hlen hen;have hJ2:=hJ _ _ w2 (some W.heap.size) hJs hg2 (fun r e=>by cases e;exact ⟨Nat.le_refl _,hI.iter_walk⟩);obtain ⟨fn,tmps,assign,body,hy,hR⟩:=hY _ x w2 hJ2 (by rw [List.length_map];exact hlen)
   have hsnoc:(pk ++ [(x,v,bn)]).map (·.1)=pk.map (·.1) ++ [x]:=by simp
   gi_wp2
   refine ⟨fun h=>(by cases h),hR.mono ?_⟩;rintro e W3 (⟨rfl,hJ3,hk3⟩ |⟨rfl,hJx3⟩)
   ·gi_wp2
    have hI3:=hI2.walks hk3
    go_roundw
    case rel=>exact ⟨pk ++ [(x,v,bn)],hI3,by rw [hsnoc];exact hJ3⟩
    case measure=>
     have e3:W3.rangeLeft b W.heap.size=w2.rangeLeft b W.heap.size:=by unfold World.rangeLeft;rw [hI3.m,hI3.it,hI2.m,hI2.it]
     rw [e3];exact hlt
   ·gi_wp2
    refine bodyPost_ret (results_none rfl _ _ _) rfl ?_;exact ⟨⟨_,rfl⟩,.inr ⟨_,trivial,hJx3⟩⟩
theorem MU (Bm b c:Nat) (M:List ME) (hM:Md M c) (w:World) (hBm:Bm < w.heap.size) (hm:w.cell? ⟨Bm,0,none⟩=some (.map (some b))) (hb:w.heap[b]? =some (Cb .u64 M c)) (n:Nat):
 SeqStopsK Fence.wide n Tryz.prog 83 #[.pointer (some ⟨Bm,0,none⟩)] NN KeepsWalks (fun ss=>ss.Perm (M.map (·.1))) (fun _=>True) M.length w:=fun l J Jx W hW hJ _ hY h0=>
 Ww n l Bm b c M hM J Jx hY W hJ ((hW.cell (p:=⟨Bm,0,none⟩) hBm).trans hm) ((hW.block b (Array.getElem?_eq_some_iff.1 hb).1).trans hb) h0
theorem MV {mb:Option Nat} {w0 w:World} {ol:OL} (h:Hp w0 w ol):Calls Tryz.prog 63 #[.map mb] w fun e w'=>∃ B,w0.heap.size <= B/\e= .returned (.func (.func 83) #[] #[.pointer (some ⟨B,0,none⟩)])/\Hp w0 w' (.blk B (.cells ⟨[.map mb]⟩ 134 (0,0)) true::ol):=by
 refine E6 Tryz.func63 rfl rfl h ?_;repeat (first |refine Ai ?_ |refine Ab ?_)
 refine AY Aa rfl (fun B hB=>?_);repeat (first |refine Ai ?_ |refine Ab ?_ |refine Ag ?_ |refine Ae Aa rfl ?_)
 refine BE (L9 rfl rfl) ?_;repeat (first |refine Ag ?_ |refine AC ?_ |refine Ae Aa rfl ?_)
 exact AZ rfl rfl (fun w' hw=>⟨B,hB,rfl,hw⟩)
open Go.Shelf
attribute [local go_sem] Oper.semAt_some
def LC (f:Int) (k:Nat):List Int:=(List.range k).map fun i:Nat=>f + (i:Int)
theorem P4 (f:Int):LC f 0= []:=rfl
theorem HA (f:Int) (k:Nat):LC f (k + 1)=LC f k ++ [f + (k:Int)]:=by simp [LC,List.range_succ]
theorem Od (f:Int) (k:Nat):(LC f k).length=k:=by simp [LC]
def Cf (L:List BS):List Int:=L.flatMap fun r=>LC r.1 (r.2 - r.1 + 1).toNat
theorem J9 {L:List BS} {i:Nat} (hi:i < L.length):Cf (L.take (i + 1))=Cf (L.take i) ++ LC L[i].1 (L[i].2 - L[i].1 + 1).toNat:=by
 unfold Cf;rw [List.take_succ_eq_append_getElem hi,List.flatMap_append];simp only [List.flatMap_cons,List.flatMap_nil,List.append_nil]
theorem La {L:List BS} {i k:Nat} (hi:i < L.length) (hk:(k:Int) <= L[i].2 - L[i].1 + 1):Cf (L.take i) ++ LC L[i].1 k <+:Cf L:=by
 have h1:Cf (L.take (i + 1)) <+:Cf L:=by
  refine ⟨Cf (L.drop (i + 1)),?_⟩;unfold Cf;rw [<-List.flatMap_append,List.take_append_drop]
 refine List.IsPrefix.trans ?_ h1;rw [J9 hi,List.prefix_append_right_inj];have e:∃ m,(L[i].2 - L[i].1 + 1).toNat=k + m:=⟨(L[i].2 - L[i].1 + 1).toNat - k,by omega⟩;obtain ⟨m,e⟩:=e;rw [e];refine ⟨(List.range' k m).map (fun j:Nat=>L[i].1 + (j:Int)),?_⟩;unfold LC;rw [<-List.map_append,List.range_eq_range',List.range_eq_range'];have:=List.range'_append_1 (s:=0) (m:=k) (n:=m);rw [Nat.zero_add] at this;rw [this]
structure KR (G:Nat->Prop) (W W':World):Prop where
 size:W.heap.size <= W'.heap.size
 set:∀ k,G k->W'.heap[k]? =W.heap[k]?
 run:∀ (k:Nat) (cur:Array Value) (f:Nat × Nat),W.heap[k]? =some (.cells cur 82 f)->W'.heap[k]? =W.heap[k]?
theorem KR.trans {G:Nat->Prop} {A B C:World} (h:KR G A B) (k:KR G B C):KR G A C:=
 ⟨Nat.le_trans h.size k.size,fun i hi=>(k.set i hi).trans (h.set i hi),fun i cur f hc=>(k.run i cur f ((h.run i cur f hc).trans hc)).trans (h.run i cur f hc)⟩
set_option maxRecDepth 100000 in
set_option maxHeartbeats 4000000 in
theorem X3 (n l Bm len c:Nat) (a:Option Addr) (L:List BS) (G:Nat->Prop) (J Jx:List Int->World->Prop)
 (hY:∀ pre x W,J pre W->pre.length < (Cf L).length->YieldAt Fence.wide (n - 1) Tryz.prog l (NN x) W fun e W'=>(e= .returned (.bool true)/\J (pre ++ [x]) W'/\KR G W W') \/ (e= .returned (.bool false)/\Jx (pre ++ [x]) W'))
 (W:World) (hJ:AbidesFrom W.heap.size J) (hG:∀ k,G k->k < W.heap.size) (hm:W.cell? ⟨Bm,0,none⟩=some (.slice a len c)) (hx:Br Bg W G a len c L) (hn:len <= 1000000) (hle:∀ r ∈ L,r.1 <= r.2) (hok:KT L) (h0:J [] W):
 CallsIn Fence.wide n Tryz.prog 92 #[.func (.yield l) #[] #[],.pointer (some ⟨Bm,0,none⟩)] W fun e W'=>(∃ v,e= .returned v)/\((∃ ss,ss=Cf L/\J ss W') \/ (∃ pre,pre <+:Cf L/\Jx pre W')):=by
 have hlen:=hx.len;refine callsIn_of_wp Tryz.func92 rfl trivial ?_ rfl;simp only [Tryz.ntmps92,List.size_toArray,List.length_cons,List.length_nil,Nat.reduceAdd,Nat.reduceSub,Array.replicate_succ,Array.replicate_zero,List.push_toArray,List.append_toArray,List.nil_append,List.cons_append]
 gi_wp2
 gi_loopw [9] (fun p wr=>∃ i:Nat,p= .int .i64 (i:Int)/\i <= len/\J (Cf (L.take i)) wr/\(∀ k,G k->wr.heap[k]? =W.heap[k]?)/\W.heap.size <= wr.heap.size) (fun p _=>len - (intOf p).toNat)
 case atStart=>exact ⟨0,rfl,Nat.zero_le _,h0,fun _ _=>rfl,Nat.le_refl _⟩
 case round=>
  obtain ⟨i,rfl,hi,hJs,hk,hsz⟩:=hrel;by_cases hlt:i < len
  ·have hiL:i < L.length:=by omega
   obtain ⟨b,off,rfl,hGb⟩:=hx.blk (by omega);have hxr:Br Bg wr G (some ⟨b,off,none⟩) len c L:=hx.keep fun k hkG _=>⟨hk k hkG,hkG⟩;have hf:=EK hxr hiL;have ht:=LI hxr hiL
   gi_wp2
   have hokr:=hok L[i] (List.getElem_mem hiL);have hlr:=hle L[i] (List.getElem_mem hiL);obtain ⟨b4,hb4⟩:∃ b4,b4=wr.heap.size:=⟨_,rfl⟩;obtain ⟨w1,hw1⟩:∃ w1,wr.alloc (Obj.cells #[.int .u64 L[i].1,.int .u64 L[i].2] 82)=w1:=⟨_,rfl⟩
   have hJ1:J (Cf (L.take i) ++ LC L[i].1 0) w1:=by
    rw [P4,List.append_nil,<-hw1];exact hJ _ _ _ none hJs (World.grownBy_alloc wr _ none) (fun r e=>by cases e)
   have hk1:∀ k,G k->w1.heap[k]? =W.heap[k]? :=fun k hkG=>by
    rw [<-hw1,Go.RowKit.Below.heap_alloc _ _ _ (by have:=hG k hkG;omega)];exact hk k hkG
   have hs1:W.heap.size <= w1.heap.size:=by rw [<-hw1];simp;omega
   have hb1:w1.heap[b4]? =some (.cells #[.int .u64 L[i].1,.int .u64 L[i].2] 82 (0,0)):=by rw [<-hw1,hb4];exact World.alloc_heap_new wr _
   rw [hw1,<-hb4];clear hf ht hb4 hw1
   gi_loopw [5] (fun p wi=>∃ k:Nat,p= .int .u64 (L[i].1 + (k:Int))/\L[i].1 + (k:Int) <= L[i].2/\J (Cf (L.take i) ++ LC L[i].1 k) wi/\(∀ k,G k->wi.heap[k]? =W.heap[k]?)/\W.heap.size <= wi.heap.size/\wi.heap[b4]? =some (.cells #[.int .u64 L[i].1,.int .u64 L[i].2] 82 (0,0))) (fun p _=>(L[i].2 - intOf p).toNat)
   case atStart=>exact ⟨0,by simp,by simpa using hlr,hJ1,hk1,hs1,hb1⟩
   case round=>
    obtain ⟨k,rfl,hle1,hJ2,hk2,hs2,hb2⟩:=hrel
    have hpl:(Cf (L.take i) ++ LC L[i].1 k).length < (Cf L).length:=by
     have h1:=(La (L:=L) (i:=i) (k:=k + 1) hiL (by omega)).length_le;rw [HA,<-List.append_assoc,List.length_append] at h1;exact h1
    obtain ⟨fn,tmps,assign,body,hy,hR⟩:=hY _ (L[i].1 + (k:Int)) wr hJ2 hpl
    gi_wp2
    refine ⟨fun h=>(by cases h),hR.mono ?_⟩;rintro e W3 (⟨rfl,hJ3,hk3⟩ |⟨rfl,hJx3⟩)
    ·have hb3:W3.heap[b4]? =some (.cells #[.int .u64 L[i].1,.int .u64 L[i].2] 82 (0,0)):=(hk3.run _ _ _ hb2).trans hb2
     have hc3:W3.cell? ⟨b4,1,none⟩=some (.int .u64 L[i].2):=by simp [World.cell?,hb3]
     have hsn:Cf (L.take i) ++ LC L[i].1 k ++ [L[i].1 + (k:Int)]=Cf (L.take i) ++ LC L[i].1 (k + 1):=by rw [HA,List.append_assoc]
     rw [hsn] at hJ3;by_cases heq:L[i].1 + (k:Int)=L[i].2
     ·gi_wp2
      refine ⟨⟨i + 1,by simp,by omega,?_,fun k' hk'=>(hk3.set k' hk').trans (hk2 k' hk'),Nat.le_trans hs2 hk3.size⟩,by simp [intOf];omega⟩;rw [J9 hiL,show (L[i].2 - L[i].1 + 1).toNat=k + 1 by omega];exact hJ3
     ·gi_wp2
      have hw2:IntKind.u64.wrap (L[i].1 + (k:Int) + 1)=L[i].1 + ((k + 1:Nat):Int):=by
       have h1:=hokr.1.1;have h2:=hokr.2.2;have e1:IntKind.u64.min=0:=rfl;have e2:IntKind.u64.max=18446744073709551615:=rfl;rw [IntWalk.u64_in _ (by omega)];omega
      rw [hw2];refine ⟨⟨k + 1,rfl,by omega,hJ3,fun k' hk'=>(hk3.set k' hk').trans (hk2 k' hk'),Nat.le_trans hs2 hk3.size,hb3⟩,by simp [intOf];omega⟩
    ·gi_wp2
     refine bodyPost_ret (results_none rfl _ _ _) rfl ?_
     exact ⟨⟨_,rfl⟩,.inr ⟨_,by
      have h1:=La (L:=L) (i:=i) (k:=k + 1) hiL (by omega);rw [HA,<-List.append_assoc] at h1
      exact h1,hJx3⟩⟩
  ·obtain rfl:i=len:=by omega
   gi_wp2
   go_end0
   exact ⟨⟨_,rfl⟩,.inl ⟨_,rfl,by rwa [List.take_of_length_le (by omega)] at hJs⟩⟩
theorem W5 {G:Nat->Prop} {n₀:Nat} (hG:∀ k,G k->k < n₀):Me (KR G) n₀:=
 ⟨fun h k=>h.trans k,
  fun W l o o' hl h hc _=>⟨by simp,fun k hk=>World.putObj_heap_other (by have:=hG k hk;omega),fun k cur f hk=>World.putObj_heap_other (fun e=>by subst e;rw [h] at hk;cases hk;cases hc)⟩,
  fun W W' hs h hb=>⟨hs,fun k hk=>hb.block k (hG k hk),fun k cur f hk=>(h k _ hk ⟨fun c g e=>(by cases e),fun c g e=>(by cases e)⟩).trans hk.symm⟩⟩
theorem PO {W:World} {Bm len c:Nat} {a:Option Addr} {L:List BS} {G:Nat->Prop} (hG:∀ k,G k->k < W.heap.size) (hGB:G Bm) (hm:W.cell? ⟨Bm,0,none⟩=some (.slice a len c)) (hx:Br Bg W G a len c L) (hn:len <= 1000000) (hle:∀ r ∈ L,r.1 <= r.2) (hok:KT L) (n:Nat):
 SeqStopsK Fence.wide n Tryz.prog 92 #[.pointer (some ⟨Bm,0,none⟩)] NN (KR G) (fun ss=>ss=Cf L) (fun pre=>pre <+:Cf L) (Cf L).length W:=fun l J Jx W1 hW hJ _ hY h0=>
 X3 n l Bm len c a L G J Jx hY W1 hJ (fun k hk=>Nat.lt_of_lt_of_le (hG k hk) hW.size) ((hW.cell (p:=⟨Bm,0,none⟩) (hG Bm hGB)).trans hm) (hx.keep fun k hk _=>⟨hW.block k (hG k hk),hk⟩) hn hle hok h0
theorem UB {W:World} {Bm len c:Nat} {a:Option Addr} {L:List BS} {G:Nat->Prop} (hG:∀ k,G k->k < W.heap.size) (hGB:G Bm) (hm:W.cell? ⟨Bm,0,none⟩=some (.slice a len c)) (hx:Br Bg W G a len c L) (hn:len <= 1000000) (hle:∀ r ∈ L,r.1 <= r.2) (hok:KT L) (hN:(Cf L).length <= 1000000):
 U0 92 #[.pointer (some ⟨Bm,0,none⟩)] (KR G) (fun ss=>ss=Cf L) (fun pre=>pre <+:Cf L) (Cf L).length W:=
 ⟨Tryz.call92,hN,W5 hG,PO hG hGB hm hx hn hle hok⟩
theorem Wy {w0 w:World} {ol:OL} (a:Option Addr) (n c:Nat) (h:Hp w0 w ol):Calls Tryz.prog 76 #[Bz a n c] w fun e w'=>∃ B,w0.heap.size <= B/\e= .returned (.func (.func 92) #[] #[.pointer (some ⟨B,0,none⟩)])/\Hp w0 w' (.blk B (.cells ⟨[.slice a n c]⟩ 52 (0,0)) true::ol):=by
 refine E6 Tryz.func76 rfl rfl h ?_;repeat (first |refine Ai ?_ |refine Ab ?_)
 refine AY Aa rfl (fun B hB=>?_);repeat (first |refine Ai ?_ |refine Ab ?_ |refine Ag ?_ |refine Ae Aa rfl ?_)
 refine BE (L9 rfl rfl) ?_;repeat (first |refine Ag ?_ |refine AC ?_ |refine Ae Aa rfl ?_)
 exact AZ rfl rfl (fun w' hw=>⟨B,hB,rfl,hw⟩)
open Go.Sort
def XO (d:Array Int):Nat->List Int
 |0=>[d[0]!]
 |k + 1=>XO d k ++ if d[k + 1]! =d[k]! then [] else [d[k + 1]!]
theorem Ut {d:Array Int}:∀ {k:Nat},(XO d k).length <= k + 1
 |0=>by simp [XO]
 |k + 1=>by
  have:=Ut (d:=d) (k:=k);unfold XO;split<;>simp<;>omega
open Go.Sort
theorem LU {l m:List Int} (hl:l.Pairwise (· < ·)) (hm:m.Pairwise (· < ·)) (h:∀ x,x ∈ l ↔ x ∈ m):l=m:=by
 have n1:l.Nodup:=hl.imp (fun h=>by omega);have n2:m.Nodup:=hm.imp (fun h=>by omega);exact List.Perm.eq_of_pairwise (le:=fun a b:Int=>a < b) (fun a b _ _ h1 h2=>by omega) hl hm ((List.perm_ext_iff_of_nodup n1 n2).2 h)
theorem LB {f x:Int} {k:Nat}:x ∈ LC f k ↔ f <= x/\x < f + k:=by
 unfold LC;rw [List.mem_map];constructor
 ·rintro ⟨i,hi,rfl⟩;rw [List.mem_range] at hi;omega
 ·rintro ⟨h1,h2⟩;exact ⟨(x - f).toNat,List.mem_range.2 (by omega),by omega⟩
theorem P5 (f:Int):∀ k,(LC f k).Pairwise (· < ·)
 |0=>List.Pairwise.nil
 |k + 1=>by
  rw [HA,List.pairwise_append];refine ⟨P5 f k,List.pairwise_singleton _ _,fun a ha b hb=>?_⟩;rw [List.mem_singleton] at hb;have:=(LB.1 ha).2;omega
theorem FV (r:BS) (L:List BS):Cf (r::L)=LC r.1 (r.2 - r.1 + 1).toNat ++ Cf L:=rfl
theorem EG {x:Int}:∀ {L:List BS},x ∈ Cf L ↔ Cs L x
 | []=>⟨fun h=>(by cases h),fun h=>absurd h (CB x)⟩
 |r::L=>by
  rw [FV,List.mem_append,LB,EG (L:=L)];constructor
  ·rintro (⟨h1,h2⟩ |⟨s,hs,h⟩)
   ·exact ⟨r,List.mem_cons_self,h1,by omega⟩
   ·exact ⟨s,List.mem_cons_of_mem _ hs,h⟩
  ·rintro ⟨s,hs,h1,h2⟩
   rcases List.mem_cons.1 hs with rfl |hs
   ·exact .inl ⟨h1,by omega⟩
   ·exact .inr ⟨s,hs,h1,h2⟩
theorem HZ:∀ {L:List BS},Eu L->(Cf L).Pairwise (· < ·)
 | [],_=>List.Pairwise.nil
 |r::L,h=>by
  rw [FV,List.pairwise_append];have hg:=List.pairwise_cons.1 h.gap;refine ⟨P5 _ _,HZ ⟨fun s hs=>h.le s (List.mem_cons_of_mem _ hs),hg.2⟩,fun a ha b hb=>?_⟩;have h1:=LB.1 ha;obtain ⟨s,hs,h2,h3⟩:=EG.1 hb;have:=hg.1 s hs;have:=h.le r List.mem_cons_self;omega
theorem K9:∀ {L:List BS},(∀ r ∈ L,r.1 <= r.2)->Hy L=((Cf L).length:Int)
 | [],_=>rfl
 |r::L,h=>by
  have h1:=h r List.mem_cons_self;rw [FV,List.length_append,Od,Hy,K9 fun s hs=>h s (List.mem_cons_of_mem _ hs)];omega
theorem FD (k:IntKind):∀ ss:List Int,(ss.map fun x=>[Value.int k x]).flatten=ss.map (Value.int k)
 | []=>rfl
 |x::ss=>by rw [List.map_cons,List.flatten_cons,FD k ss];rfl
theorem L2 {w:World} {a:Addr} {v:Value} (h:w.cell? a=some v):a.block < w.heap.size:=by
 rcases Nat.lt_or_ge a.block w.heap.size with h1 |h1
 ·exact h1
 ·simp [World.cell?,Array.getElem?_eq_none h1] at h
def RG (X:List Int):Vp:=
 ⟨fun w A v=>∃ B a n c m,v= .func (.func 92) #[] #[.pointer (some ⟨B,0,none⟩)]/\A B/\w.cell? ⟨B,0,none⟩=some (.slice a n c)/\Br Bg w A a n c m/\Eu m/\m.length <= 1000000/\Cf m=X,
  fun ⟨B,a,n,c,m,h1,h2,h3,h4,h5,h6,h7⟩ hk=>⟨B,a,n,c,m,h1,(hk B h2 (L2 h3)).2,(World.cell?_of_block (hk B h2 (L2 h3)).1).trans h3,h4.keep hk,h5,h6,h7⟩⟩
section
variable {S:Int->Prop} {Bd:Nat} {w:World} {A:Nat->Prop} {v:Value} {X:List Int}
theorem Xt (h:(By S Bd).at_ w A v) (hBd:Bd <= 1000000) (hX:X.Pairwise (· < ·)) (hm:∀ x,x ∈ X ↔ S x):
 Calls Tryz.prog 76 #[v] w fun e w'=>∃ r,e= .returned r/\Below w.heap.size w w'/\(RG X).at_ w' (fun k=>(A k/\k < w.heap.size) \/ w.heap.size <= k) r:=by
 obtain ⟨a,n,c,m,rfl,h1,h2,h3,h4⟩:=Cv h;refine (Wy a n c (Hp.refl w)).mono fun e w' ⟨B,hB,e1,hw⟩=>⟨_,e1,hw.below (AA hB Ar),B,a,n,c,m,rfl,.inr hB,by simpa using Bu hw (j:=0) (u:=.slice a n c) rfl,?_,h1,by omega,?_⟩
 ·exact h4.keep fun k hk hlt=>⟨(hw.below (AA hB Ar)).block k hlt,.inl ⟨hk,hlt⟩⟩
 ·exact LU (HZ h1) hX fun x=>by rw [EG,h2,hm]
theorem RF (h:(RG X).at_ w A v) (hX:X.length <= 1000000):∃ B,v= .func (.func 92) #[] #[.pointer (some ⟨B,0,none⟩)]/\
 U0 92 #[.pointer (some ⟨B,0,none⟩)] (KR fun k=>A k/\k < w.heap.size) (fun ss=>ss=X) (fun pre=>pre <+:X) X.length w/\∀ x ∈ X,AS .u64 x:=by
 obtain ⟨B,a,n,c,m,e1,h1,h2,h3,h4,h5,rfl⟩:=h;have hlen:=h3.len;have hok:=Dl h3;refine ⟨B,e1,UB (fun k hk=>hk.2) ⟨h1,L2 h2⟩ h2 (h3.keep fun k hk hlt=>⟨rfl,hk,hlt⟩) (by omega) h4.le hok hX,fun x hx=>?_⟩;obtain ⟨r,hr,h6,h7⟩:=EG.1 hx;have h8:=hok r hr;exact ⟨Int.le_trans h8.1.1 h6,Int.le_trans h7 h8.2.2⟩
theorem NS (h:(RG X).at_ w A v) (hX:X.length <= 1000000):
 Calls Tryz.prog 62 #[v] w fun e w'=>∃ r,e= .returned r/\Below w.heap.size w w'/\((Az (A8 .u64)).vp X).at_ w' (fun k=>w.heap.size <= k) r:=by
 obtain ⟨B,rfl,hi,hok⟩:=RF h hX;refine (Hl hi).mono fun e w' ⟨v,ss,e1,e2,e3,h2⟩=>?_;subst e2;have hr:=h2.own _ List.mem_cons_self;obtain ⟨a,c,rfl,_,_⟩:=Cy hr;refine ⟨_,e1,h2.below (Bv h2 0 rfl (Nat.le_refl _) Ar),Br.val (.of_row (DU .u64) (by rw [FD];exact hr) rfl hok fun k hk _=>hk)⟩
theorem OG (h:(By S Bd).at_ w A v) (hBd:Bd <= 1000000) (hX:X.Pairwise (· < ·)) (hm:∀ x,x ∈ X ↔ S x) (hXl:X.length <= 1000000):
 Calls Tryz.prog 21 #[v] w fun e w'=>e= .returned (.int .u64 (X.length:Int))/\Below w.heap.size w w':=by
 obtain ⟨a,n,c,m,rfl,h1,h2,h3,h4⟩:=Cv h;have hlen:=h4.len;refine (Rj a n c m A w h4 h1 (by omega)).mono fun e w' ⟨e1,e2⟩=>⟨?_,e2⟩
 have e3:Cf m=X:=LU (HZ h1) hX fun x=>by rw [EG,h2,hm]
 have e4:=K9 h1.le;rw [e3] at e4;rw [e1,e4,show min ((X.length:Nat):Int) CG=(X.length:Int) from by unfold CG;omega]
end
end Go.Proofs.YtidhpofcofknhaaGreat
