/-
  An engine of rules for walks, part X: maps whose keys are integers. No program's text; conditions: each theorem's own. What a map with integer keys answers. No program's text; conditions: each theorem's own. Objects that are turned by stores, maps, calls. No program's text; conditions: each theorem's own. slices.Equal of []uint64. Conditions: each theorem's own.
  Conditions: each theorem's own.
-/
import Derived.Test.YtidhpofcofknhaaGreatHp
namespace Go.Proofs.YtidhpofcofknhaaGreat
open Go Go.RowKit
set_option linter.unusedVariables false
abbrev ME:=Int × Value × Nat
abbrev mE (κ:IntKind) (p:ME):MapEntry:=⟨.int κ p.1,p.2.1,p.2.2⟩
abbrev Cb (κ:IntKind) (M:List ME) (clock:Nat):Obj:=.map ⟨M.map (mE κ)⟩ clock
def DR (k:Int):List ME->Nat->Option (Nat × Value)
 | [],_=>none
 |p::M,i=>if k=p.1 then some (i,p.2.1) else DR k M (i + 1)
theorem IZ (κ κ':IntKind) (k:Int):∀ (M:List ME) (i:Nat),Instr.findNow (.int κ') (.int κ k) (M.map (mE κ)) i=some (DR k M i)
 | [],i=>rfl
 |p::M,i=>by
  simp only [List.map_cons,Instr.findNow,Instr.sameNow,DR];by_cases h:k=p.1
  ·subst h;simp
  ·rw [if_neg h]
   have:(k == p.1)=false:=by simpa using h
   simp only [this,if_true];exact IZ κ κ' k M (i + 1)
section
variable {P:Program} {w:World}
theorem Fu {kt:TypeId} {κ:IntKind} (hk:P.underlying kt=some (.int κ)) (b:Bool) (k:Int):(Instr.checkKey b 10000 kt (.int κ k)).run P w= .ok () w:=by
 show (Instr.checkKey b (9999 + 1) kt (.int κ k)).run P w=_;unfold Instr.checkKey;simp [run_underlying hk]
theorem Gf {kt:TypeId} {κ:IntKind} (hk:P.underlying kt=some (.int κ)) (k:Int) (M:List ME):(Instr.findKey kt (.int κ k) (M.map (mE κ))).run P w= .ok (DR k M 0) w:=by
 unfold Instr.findKey;simp [run_underlying hk,IZ]
theorem GI {b:Nat} {es:Array MapEntry} {c:Nat} (h:w.heap[b]? =some (.map es c)):(getObj b).run P w= .ok (.map es c) w:=by
 simp [getObj,Sem.run,h]
theorem Jg {b:Nat} {es:Array MapEntry} {c:Nat} (o:Obj) (h:w.heap[b]? =some (.map es c)):(setObj b o).run P w= .ok () { w with heap:=w.heap.setIfInBounds b o}:=by
 simp [setObj,Sem.run,h]
theorem Nk {mt kt et:TypeId} {κ:IntKind} {b:Nat} {M:List ME} {c:Nat} {z:Value} (hm:P.underlying mt=some (.map kt et)) (hk:P.underlying kt=some (.int κ)) (hb:w.heap[b]? =some (Cb κ M c)) (hz:(zeroValue et).run P w= .ok z w) (k:Int) (ok:Bool):
 (Instr.lookup mt (.map (some b)) (.int κ k) ok).run P w= .ok (let r:=match DR k M 0 with |some (_,v)=>(v,true) |none=>(z,false);if ok then .tuple #[r.1,.bool r.2] else r.1) w:=by
 unfold Instr.lookup;simp only [Sem.run_bind,run_underlying hm,Result.andThen_ok,GI hb,Sem.run_pure,Fu hk,Gf hk]
 cases DR k M 0 with
 |none=>simp [hz]
 |some p=>simp
def CV (M:List ME) (k:Int) (v:Value) (c:Nat):List ME × Nat:=match DR k M 0 with
 |some (i,_)=>(M.modify i (fun p=>(k,v,p.2.2)),c)
 |none=>(M ++ [(k,v,c)],c + 1)
def D7 (M:List ME) (k:Int):List ME:=match DR k M 0 with
 |some (i,_)=>M.eraseIdx i
 |none=>M
theorem IF {k:Int}:∀ {M:List ME} {i j:Nat} {v:Value},DR k M i=some (j,v)->i <= j/\∃ p,M[j - i]? =some p/\p.1=k/\p.2.1=v
 | [],i,j,v,h=>by cases h
 |p::M,i,j,v,h=>by
  unfold DR at h;split at h
  ·rename_i hk;cases h;exact ⟨Nat.le_refl _,p,by rw [Nat.sub_self];rfl,hk.symm,rfl⟩
  ·obtain ⟨h1,q,h2,h3,h4⟩:=IF h;refine ⟨by omega,q,?_,h3,h4⟩;rw [show j - i=(j - (i + 1)) + 1 by omega,List.getElem?_cons_succ];exact h2
theorem Pu {κ:IntKind} {M:List ME} {i:Nat} {k:Int} {v:Value}:(⟨M.map (mE κ)⟩:Array MapEntry).modify i (fun e=>{ e with key:=.int κ k,val:=v})=⟨(M.modify i fun p=>(k,v,p.2.2)).map (mE κ)⟩:=by
 apply Array.ext';rw [Array.toList_modify];apply List.ext_getElem?;intro j;rw [List.getElem?_modify,List.getElem?_map,List.getElem?_map,List.getElem?_modify]
 cases M[j]? with
 |none=>simp
 |some p=>by_cases h:i=j<;>simp [h,mE]
theorem JJ {mt kt et:TypeId} {κ:IntKind} {b:Nat} {M:List ME} {c:Nat} (hm:P.underlying mt=some (.map kt et)) (hk:P.underlying kt=some (.int κ)) (hb:w.heap[b]? =some (Cb κ M c)) (k:Int) (v:Value):
 (Instr.mapUpdate mt (.map (some b)) (.int κ k) v).run P w= .ok () { w with heap:=w.heap.setIfInBounds b (Cb κ (CV M k v c).1 (CV M k v c).2)}:=by
 unfold Instr.mapUpdate;simp only [Sem.run_bind,run_underlying hm,Result.andThen_ok,GI hb,Fu hk,Gf hk];unfold CV
 cases h:DR k M 0 with
 |none=>
  simp only [Jg _ hb];congr 4;simp [mE]
 |some p=>
  obtain ⟨i,u⟩:=p;obtain ⟨_,q,h2,h3,h4⟩:=IF h;rw [Nat.sub_zero] at h2
  have hg:((((⟨M.map (mE κ)⟩:Array MapEntry)[i]?).map (·.key)).getD (.int κ k))= .int κ k:=by
   simp [h2,mE,h3]
  simp only [hg,Instr.keyThatStays,Instr.sameBits,beq_self_eq_true,Bool.and_self,if_true,Sem.run_bind,Sem.run_pure,Result.andThen_ok,Jg _ hb];rw [Pu]
theorem Lb {α β:Type} (f:α->β):∀ (M:List α) (i:Nat),(M.map f).eraseIdx i=(M.eraseIdx i).map f
 | [],i=>rfl
 |p::M,0=>rfl
 |p::M,i + 1=>by rw [List.map_cons,List.eraseIdx_cons_succ,List.eraseIdx_cons_succ,List.map_cons,Lb f M i]
theorem JK {mt kt et ty:TypeId} {κ:IntKind} {b:Nat} {M:List ME} {c:Nat} (hm:P.underlying mt=some (.map kt et)) (hk:P.underlying kt=some (.int κ)) (hb:w.heap[b]? =some (Cb κ M c)) (k:Int):
 (Builtin.delete_ #[mt,kt] ty #[.map (some b),.int κ k]).run P w= .ok (.tuple #[]) { w with heap:=w.heap.setIfInBounds b (Cb κ (D7 M k) c)}:=by
 unfold Builtin.delete_;simp only [Sem.run_bind,run_underlying hm,Result.andThen_ok,GI hb,Fu hk,Gf hk];unfold D7
 cases h:DR k M 0 with
 |none=>simp [Jg _ hb,run_underlying hm,GI hb,Fu hk,Gf hk,h]
 |some p=>
  obtain ⟨i,u⟩:=p;obtain ⟨_,q,h2,h3,h4⟩:=IF h;rw [Nat.sub_zero] at h2;simp [Jg _ hb,run_underlying hm,GI hb,Fu hk,Gf hk,h,Lb]
theorem Nj {mt kt et:TypeId} {κ:IntKind} {b:Nat} {M:List ME} {c:Nat} (hm:P.underlying mt=some (.map kt et)) (hb:w.heap[b]? =some (Cb κ M c)):(Builtin.len_ #[mt] 0 #[.map (some b)]).run P w= .ok (.int .i64 (M.length:Int)) w:=by
 unfold Builtin.len_;simp [run_underlying hm,GI hb,goInt]
end
section
variable {P:Program} {tb:EU} {n:Nat} {w0:World} {all:Array Oper} {os:List Oper} {o:Oper} {l:FL} {ol:OL} {K:FL->OL->Prop} {Q:B3} {d:Nat} {r:Nat->Option Value}
theorem Il (ht:AW P tb) {mt kt et:TypeId} {x ix:Operand} {ok:Bool} {κ:IntKind} {b:Nat} {k:Int} {M:List ME} {c:Nat} {tm tk te:TI} (hs:BV n all r o=some (d,.lookup mt x ix ok)) (hx:ev r x=some (.map (some b))) (hi:ev r ix=some (.int κ k))
 (htm:tl tb mt=some tm) (hdm:tm.desc= .map kt et) (htk:tl tb kt=some tk) (hdk:tk.desc= .int κ) (hte:tl tb et=some te) (hb:∀ w,Hp w0 w ol->w.heap[b]? =some (Cb κ M c)):
 Hw P n w0 all r ol o d (let q:=match DR k M 0 with |some (_,v)=>(v,true) |none=>(te.zero,false);if ok then .tuple #[q.1,.bool q.2] else q.1):=
 Gc hs fun ac w hrd hh hop=>by
  have h1:=ht.under' htm;rw [hdm] at h1;have h2:=ht.under' htk;rw [hdk] at h2;have h3:=Nk h1 h2 (hb w hh) (ht.zeroOf hte w) k ok;unfold execOp;simp only [hop,hrd.ev hx,hrd.ev hi,Sem.run_bind,h3,Result.andThen_ok,Sem.run_pure]
theorem R7 (ht:AW P tb) {mt kt et:TypeId} {x:Operand} {κ:IntKind} {b:Nat} {M:List ME} {c:Nat} {tm:TI} (hs:BV n all r o=some (d,.call ⟨.builtin .len,#[x],#[mt]⟩)) (hx:ev r x=some (.map (some b)))
 (htm:tl tb mt=some tm) (hdm:tm.desc= .map kt et) (hb:∀ w,Hp w0 w ol->w.heap[b]? =some (Cb κ M c)):Hw P n w0 all r ol o d (.int .i64 (M.length:Int)):=
 Gc hs fun ac w hrd hh hop=>by
  have h1:=ht.under' htm;rw [hdm] at h1;have h3:=Nj (P:=P) h1 (hb w hh);have h4:(Builtin.len_ #[mt] o.type #[.map (some b)]).run P w= .ok (.int .i64 (M.length:Int)) w:=h3;unfold execOp;simp [hop,resolve,invoke,builtin,hrd.ev hx,h4]
theorem Hp.setB {w0 w:World} {pre post:OL} {b:Nat} {x y:Obj} (h:Hp w0 w (pre ++ .blk b x true::post)):Hp w0 { w with heap:=w.heap.setIfInBounds b y} (pre ++ .blk b y true::post):=by
 have hb:w.heap[b]? =some x:=h.own _ (List.mem_append.2 (.inr List.mem_cons_self));refine h.turn (x':=.blk b y true) rfl rfl rfl rfl (by simp) (fun k hk hne=>?_) ?_ (fun k hk=>.inl hk) (fun k hk=>.inr hk)
 ·have:b ≠ k:=fun e=>hne (by rw [e];rfl);simp [Array.getElem?_setIfInBounds_ne this]
 ·show ({ w with heap:=w.heap.setIfInBounds b y}:World).heap[b]? =some y;have:=AU hb;simp [this]
def KU (all:Array Oper) (r:Nat->Option Value) (o:Oper):Option Op:=
 match gd all r o.guard with
 |some true=>match o.dst with
  |some _=>none
  |none=>some o.op
 |_=>none
theorem GK {op:Op} (hs:KU all r o=some op):o.dst=none/\gd all r o.guard=some true/\o.op=op:=by
 unfold KU at hs;split at hs
 ·rename_i hg;split at hs
  ·cases hs
  ·rename_i hd;cases hs;exact ⟨hd,hg,rfl⟩
 ·cases hs
theorem KB (ht:AW P tb) (i:Nat) {mt kt et:TypeId} {x ix y:Operand} {κ:IntKind} {b:Nat} {k:Int} {v:Value} {M:List ME} {c:Nat} {tm tk:TI} {ol':OL} (hs:KU all (AP l) o=some (.mapUpdate mt x ix y)) (hx:ev (AP l) x=some (.map (some b))) (hk:ev (AP l) ix=some (.int κ k)) (hy:ev (AP l) y=some v)
 (hi:B9 ol i=some (.blk b (Cb κ M c) true)) (htm:tl tb mt=some tm) (hdm:tm.desc= .map kt et) (htk:tl tb kt=some tk) (hdk:tk.desc= .int κ) (hp:Dc ol i (.blk b (Cb κ (CV M k v c).1 (CV M k v c).2) true)=some ol') (kk:S P n w0 all os l ol' K Q):S P n w0 all (o::os) l ol K Q:=by
 obtain ⟨hdst,hg,hop⟩:=GK hs;refine ⟨fun a w hf hh=>?_⟩;have h1:=ht.under' htm;rw [hdm] at h1;have h2:=ht.under' htk;rw [hdk] at h2;have h3:=JJ (P:=P) h1 h2 (hh.own _ (Af hi)) k v;obtain ⟨pre,post,e1,e2⟩:=CP hi hp;refine Ei (Bb hf.rd hg) (w':={ w with heap:=w.heap.setIfInBounds b (Cb κ (CV M k v c).1 (CV M k v c).2)}) ?_ ?_
 ·unfold execOp;simp [hop,hf.rd.ev hx,hf.rd.ev hk,hf.rd.ev hy,h3]
 ·rw [hdst];rw [e1] at hh;rw [e2] at kk;exact kk.out _ _ hf hh.setB
theorem GW {t:TypeId} (hs:BV n all (AP l) o=some (d,.makeMap t none)) (κ:IntKind) (kk:∀ b,w0.heap.size <= b->S P n w0 all os ((d,.map (some b))::l) (.blk b (Cb κ [] 0) true::ol) K Q):S P n w0 all (o::os) l ol K Q:=by
 obtain ⟨hdst,hlt,hg,hop⟩:=CE hs;refine ⟨fun a w hf hh=>?_⟩;refine B4 (v:=.map (some w.heap.size)) (Bb hf.rd hg) (w':=w.alloc (.map #[] 0)) ?_ ?_
 ·unfold execOp;simp only [hop,Option.map_none,Instr.makeMap,Sem.run_bind,run_newObj,Result.andThen_ok,Sem.run_pure];rfl
 ·rw [hdst];exact (kk w.heap.size hh.size).out _ _ (hf.put hlt _) (hh.alloc _)
end
def Dz (M:List ME) (k:Int):Option Value:=(DR k M 0).map (·.2)
theorem Dy (k:Int):∀ (M:List ME) (i:Nat),DR k M i=(DR k M 0).map fun p=>(p.1 + i,p.2)
 | [],i=>rfl
 |p::M,i=>by
  unfold DR;split
  ·simp
  ·rw [Dy k M (i + 1),Dy k M (0 + 1),Option.map_map];congr 1;funext q;simp only [Function.comp,Prod.mk.injEq,and_true];omega
theorem Gm (k:Int):Dz [] k=none:=rfl
theorem Dm (k:Int) (p:ME) (M:List ME):Dz (p::M) k=if k=p.1 then some p.2.1 else Dz M k:=by
 unfold Dz;rw [DR];split
 ·rfl
 ·rw [Dy,Option.map_map];rfl
theorem QF {M:List ME} (hn:(M.map (·.1)).Nodup) (k:Int) (v:Value):Dz M k=some v ↔ ∃ p ∈ M,p.1=k/\p.2.1=v:=by
 induction M with
 |nil=>simp [Gm]
 |cons p M ih=>
  rw [List.map_cons,List.nodup_cons] at hn;rw [Dm];by_cases h:k=p.1
  ·rw [if_pos h];constructor
   ·intro e;cases e;exact ⟨p,List.mem_cons_self,h.symm,rfl⟩
   ·rintro ⟨q,hq,h1,h2⟩
    rcases List.mem_cons.1 hq with rfl |hq
    ·rw [h2]
    ·exact absurd (List.mem_map.2 ⟨q,hq,h1.trans h⟩) hn.1
  ·rw [if_neg h,ih hn.2];constructor
   ·rintro ⟨q,hq,h1⟩;exact ⟨q,List.mem_cons_of_mem _ hq,h1⟩
   ·rintro ⟨q,hq,h1,h2⟩
    rcases List.mem_cons.1 hq with rfl |hq
    ·exact absurd h1.symm h
    ·exact ⟨q,hq,h1,h2⟩
theorem GN (p:ME) (M:List ME) (k:Int) (v:Value) (c:Nat):CV (p::M) k v c=if k=p.1 then ((k,v,p.2.2)::M,c) else (p::(CV M k v c).1,(CV M k v c).2):=by
 unfold CV;rw [DR];split
 ·rename_i h;split at h
  ·rw [if_pos (by assumption)];cases h;simp
  ·rename_i hne;rw [if_neg hne];rw [Dy] at h
   cases h2:DR k M 0 with
   |none=>rw [h2] at h;cases h
   |some q=>
    rw [h2] at h;cases h;simp
 ·rename_i h;split at h
  ·cases h
  ·rename_i hne;rw [if_neg hne];rw [Dy] at h
   cases h2:DR k M 0 with
   |none=>rfl
   |some q=>rw [h2] at h;cases h
theorem MI (k:Int) (v:Value) (c:Nat):CV [] k v c=([(k,v,c)],c + 1):=rfl
theorem Gl (k:Int) (v:Value) (c:Nat) (k2:Int):∀ (M:List ME),Dz (CV M k v c).1 k2=if k2=k then some v else Dz M k2
 | []=>by rw [MI];exact Dm ..
 |p::M=>by
  rw [GN];by_cases h:k=p.1
  ·rw [if_pos h];dsimp only;rw [Dm,Dm];dsimp only;by_cases h2:k2=k
   ·rw [if_pos h2,if_pos h2]
   ·rw [if_neg h2,if_neg h2,if_neg (by rw [<-h];exact h2)]
  ·rw [if_neg h];dsimp only;rw [Dm,Dm,Gl k v c k2 M];by_cases h2:k2=p.1
   ·rw [if_pos h2,if_pos h2,if_neg (by rw [h2];exact fun e=>h e.symm)]
   ·rw [if_neg h2,if_neg h2]
theorem KZ (k:Int) (v:Value) (c:Nat):∀ (M:List ME),((CV M k v c).1).map (·.1)=if k ∈ M.map (·.1) then M.map (·.1) else M.map (·.1) ++ [k]
 | []=>rfl
 |p::M=>by
  rw [GN];by_cases h:k=p.1
  ·rw [if_pos h,if_pos (by rw [h];exact List.mem_cons_self)];rw [List.map_cons,List.map_cons,h]
  ·rw [if_neg h];dsimp only;rw [List.map_cons,List.map_cons,KZ k v c M];by_cases h2:k ∈ M.map (·.1)
   ·rw [if_pos h2,if_pos (List.mem_cons_of_mem _ h2)]
   ·rw [if_neg h2,if_neg (fun e=>by
     rcases List.mem_cons.1 e with e |e
     ·exact h e
     ·exact h2 e)]
    rfl
theorem JY {k:Int} {v:Value} {c:Nat} {M:List ME} (h:(M.map (·.1)).Nodup):(((CV M k v c).1).map (·.1)).Nodup:=by
 rw [KZ];split
 ·exact h
 ·rename_i hk;rw [List.nodup_append];refine ⟨h,by simp,fun a ha b hb=>?_⟩;rw [List.mem_singleton] at hb;subst hb;exact fun e=>hk (e ▸ ha)
theorem IG (p:ME) (M:List ME) (k:Int):D7 (p::M) k=if k=p.1 then M else p::D7 M k:=by
 unfold D7;rw [DR];split
 ·rename_i h;split at h
  ·rw [if_pos (by assumption)];cases h;rfl
  ·rename_i hne;rw [if_neg hne];rw [Dy] at h
   cases h2:DR k M 0 with
   |none=>rw [h2] at h;cases h
   |some q=>
    rw [h2] at h;cases h;simp
 ·rename_i h;split at h
  ·cases h
  ·rename_i hne;rw [if_neg hne];rw [Dy] at h
   cases h2:DR k M 0 with
   |none=>rfl
   |some q=>rw [h2] at h;cases h
theorem MJ (k:Int):D7 [] k= []:=rfl
theorem K3 (k:Int):∀ (M:List ME),(M.map (·.1)).Nodup->(D7 M k).map (·.1)=(M.map (·.1)).filter (fun x=>decide (x ≠ k))
 | [],_=>rfl
 |p::M,h=>by
  rw [List.map_cons,List.nodup_cons] at h;rw [IG];by_cases hk:k=p.1
  ·rw [if_pos hk,List.map_cons,List.filter_cons_of_neg (by simp [hk])];rw [List.filter_eq_self.2];intro a ha;simp only [ne_eq,decide_not,Bool.not_eq_eq_eq_not,Bool.not_true,decide_eq_false_iff_not];intro e;exact h.1 (by rw [<-hk,<-e];exact ha)
  ·rw [if_neg hk,List.map_cons,List.map_cons,List.filter_cons_of_pos (by simpa using fun e=>hk e.symm),K3 k M h.2]
theorem Nx {k:Int} {M:List ME} (h:(M.map (·.1)).Nodup):((D7 M k).map (·.1)).Nodup:=by
 rw [K3 k M h];exact h.sublist List.filter_sublist
theorem HT (k k2:Int):∀ (M:List ME),(M.map (·.1)).Nodup->Dz (D7 M k) k2=if k2=k then none else Dz M k2
 | [],_=>by rw [MJ,Gm];split<;>rfl
 |p::M,h=>by
  rw [List.map_cons,List.nodup_cons] at h;rw [IG,Dm];by_cases hk:k=p.1
  ·rw [if_pos hk];by_cases h2:k2=k
   ·rw [if_pos h2]
    cases h3:Dz M k2 with
    |none=>rfl
    |some v=>
     obtain ⟨q,hq,h4,_⟩:=(QF h.2 k2 v).1 h3;exact absurd (List.mem_map.2 ⟨q,hq,by rw [h4,h2,hk]⟩) h.1
   ·rw [if_neg h2,if_neg (by rw [<-hk];exact h2)]
  ·rw [if_neg hk,Dm,HT k k2 M h.2];by_cases h2:k2=p.1
   ·rw [if_pos h2,if_pos h2,if_neg (by rw [h2];exact fun e=>hk e.symm)]
   ·rw [if_neg h2,if_neg h2]
theorem QE {M:List ME} {k:Int}:Dz M k=none ↔ k ∉ M.map (·.1):=by
 induction M with
 |nil=>simp [Gm]
 |cons p M ih=>
  rw [Dm,List.map_cons,List.mem_cons,not_or];by_cases h:k=p.1
  ·simp [h]
  ·rw [if_neg h,ih];exact ⟨fun e=>⟨h,e⟩,fun e=>e.2⟩
theorem Hp.turnX {w0 w:World} {ol ol':OL} (i:Nat) {Φ Ψ:World->Prop} {F:Nat->Prop} (hh:Hp w0 w ol) (hi:B9 ol i=some (.rep Φ F true)) (hΨ:Φ w->Ψ w) (hl:PW Ψ F) (hput:Dc ol i (.rep Ψ F true)=some ol'):Hp w0 w ol':=by
 obtain ⟨pre,post,e1,e2⟩:=CP hi hput;obtain ⟨h1,_,h3⟩:=hh.own _ (Af hi);rw [e1] at hh;rw [e2];exact hh.turn (x':=.rep Ψ F true) rfl rfl rfl rfl (Nat.le_refl _) (fun _ _ _=>rfl) ⟨hΨ h1,hl,h3⟩ (fun k hk=>.inl hk) (fun k hk=>.inr hk)
theorem Hp.turnB {w0 w w':World} {ol ol':OL} (i:Nat) {Φ Ψ:World->Prop} {F:Nat->Prop} {b:Nat} (hh:Hp w0 w ol) (hi:B9 ol i=some (.rep Φ F true)) (hb:F b) (h1:w'.os=w.os) (h2:w'.tape=w.tape) (h3:w'.output=w.output) (h4:w.heap.size <= w'.heap.size) (h5:∀ k,k ≠ b->w'.heap[k]? =w.heap[k]?)
 (hΨ:Φ w->Ψ w') (hl:PW Ψ F) (hput:Dc ol i (.rep Ψ F true)=some ol'):Hp w0 w' ol':=by
 obtain ⟨pre,post,e1,e2⟩:=CP hi hput;obtain ⟨g1,_,g3⟩:=hh.own _ (Af hi);rw [e1] at hh;rw [e2];exact hh.turn (x':=.rep Ψ F true) rfl h1 h2 h3 h4 (fun k _ hne=>h5 k fun e=>hne (by rw [e];exact hb)) ⟨hΨ g1,hl,fun k hk=>Nat.lt_of_lt_of_le (g3 k hk) h4⟩ (fun k hk=>.inl hk) (fun k hk=>.inr hk)
section
variable {P:Program} {tb:EU} {n:Nat} {w0:World} {all:Array Oper} {os:List Oper} {o:Oper} {l:FL} {ol:OL} {K:FL->OL->Prop} {Q:B3} {d:Nat} {r:Nat->Option Value}
theorem KA (ht:AW P tb) (i:Nat) {b off sz:Nat} {vs:List Value} {ol':OL} {Φ Ψ:World->Prop} {F:Nat->Prop} (cs cs':List Value) (e:TypeId) (hs:DO tb all (AP l) o=some (b,off,vs,sz)) (hlen:vs.length=sz) (h1:∀ u ∈ vs,u.oneCell'=true)
 (hi:B9 ol i=some (.rep Φ F true)) (hb:F b) (hc:∀ w,Φ w->w.heap[b]? =some (.cells ⟨cs⟩ e (0,0))) (hm:Cp cs off vs=some cs') (hΨ:∀ w w',Φ w->(∀ k,k ≠ b->w'.heap[k]? =w.heap[k]?)->w'.heap[b]? =some (.cells ⟨cs'⟩ e (0,0))->Ψ w') (hL:PW Ψ F)
 (ho:Dc ol i (.rep Ψ F true)=some ol') (k:S P n w0 all os l ol' K Q):S P n w0 all (o::os) l ol K Q:=by
 refine ⟨fun a w hf hh=>?_⟩;unfold DO at hs;split at hs
 ·rename_i hg;split at hs
  ·rename_i hd;split at hs
   ·rename_i t x y hop;split at hs
    ·rename_i ti hti;split at hs
     ·rename_i b' off' hx;split at hs
      ·rename_i v hy;split at hs
       ·rename_i vs' hv;simp at hs;obtain ⟨rfl,rfl,rfl,rfl⟩:=hs;have hb2:=hc w (hh.own _ (Af hi)).1;refine Ei (Bb hf.rd hg) ?_ ?_ (w':=w.setRow b' ⟨cs'⟩)
        ·unfold execOp;simp [hop,hf.rd.ev hx,hf.rd.ev hy,Instr.storeAt,Instr.sureAddr,Ev ht hti hv hlen h1 hb2 hm]
        ·rw [hd];refine k.out _ _ hf ?_;exact hh.turnB i hi hb rfl rfl rfl (by simp) (fun k hk=>setRow_other w b' k ⟨cs'⟩ hk) (fun hΦ=>hΨ w _ hΦ (fun k hk=>setRow_other w b' k ⟨cs'⟩ hk) (setRow_heap w b' ⟨cs⟩ ⟨cs'⟩ e (0,0) hb2)) hL ho
       ·cases hs
      ·cases hs
     ·cases hs
    ·cases hs
   ·cases hs
  ·cases hs
 ·cases hs
theorem Lt (ht:AW P tb) (i:Nat) {mt kt et:TypeId} {x ix:Operand} {κ:IntKind} {b:Nat} {k:Int} {tm tk:TI} {ol':OL} {Φ Ψ:World->Prop} {F:Nat->Prop} (M:List ME) (c:Nat) (hs:KU all (AP l) o=some (.call ⟨.builtin .delete,#[x,ix],#[mt,kt]⟩)) (hx:ev (AP l) x=some (.map (some b))) (hk:ev (AP l) ix=some (.int κ k))
 (htm:tl tb mt=some tm) (hdm:tm.desc= .map kt et) (htk:tl tb kt=some tk) (hdk:tk.desc= .int κ) (hi:B9 ol i=some (.rep Φ F true)) (hb:F b) (hc:∀ w,Φ w->w.heap[b]? =some (Cb κ M c))
 (hΨ:∀ w w',Φ w->(∀ k,k ≠ b->w'.heap[k]? =w.heap[k]?)->w'.heap[b]? =some (Cb κ (D7 M k) c)->Ψ w') (hL:PW Ψ F) (hp:Dc ol i (.rep Ψ F true)=some ol') (kk:S P n w0 all os l ol' K Q):S P n w0 all (o::os) l ol K Q:=by
 obtain ⟨hdst,hg,hop⟩:=GK hs;refine ⟨fun a w hf hh=>?_⟩;have h1:=ht.under' htm;rw [hdm] at h1;have h2:=ht.under' htk;rw [hdk] at h2;have hb2:=hc w (hh.own _ (Af hi)).1;have h3:=JK (P:=P) (ty:=o.type) h1 h2 hb2 k;refine B4 (v:=.tuple #[]) (Bb hf.rd hg) (w':={ w with heap:=w.heap.setIfInBounds b (Cb κ (D7 M k) c)}) ?_ ?_
 ·unfold execOp;simp [hop,resolve,invoke,builtin,hf.rd.ev hx,hf.rd.ev hk,h3]
 ·rw [hdst];have e1:∀ k',k' ≠ b->(w.heap.setIfInBounds b (Cb κ (D7 M k) c))[k']? =w.heap[k']? :=fun k' hk'=>Array.getElem?_setIfInBounds_ne (fun e=>hk' e.symm);exact kk.out _ _ hf (hh.turnB i hi hb rfl rfl rfl (by simp) e1 (fun hΦ=>hΨ w _ hΦ e1 (by have:=AU hb2;simp [this])) hL hp)
theorem PQ (ht:AW P tb) (i:Nat) {mt kt et:TypeId} {x ix y:Operand} {κ:IntKind} {b:Nat} {k:Int} {v:Value} {tm tk:TI} {ol':OL} {Φ Ψ:World->Prop} {F:Nat->Prop} (M:List ME) (c:Nat) (hs:KU all (AP l) o=some (.mapUpdate mt x ix y)) (hx:ev (AP l) x=some (.map (some b))) (hk:ev (AP l) ix=some (.int κ k)) (hy:ev (AP l) y=some v)
 (htm:tl tb mt=some tm) (hdm:tm.desc= .map kt et) (htk:tl tb kt=some tk) (hdk:tk.desc= .int κ) (hi:B9 ol i=some (.rep Φ F true)) (hb:F b) (hc:∀ w,Φ w->w.heap[b]? =some (Cb κ M c))
 (hΨ:∀ w w',Φ w->(∀ k,k ≠ b->w'.heap[k]? =w.heap[k]?)->w'.heap[b]? =some (Cb κ (CV M k v c).1 (CV M k v c).2)->Ψ w') (hL:PW Ψ F) (hp:Dc ol i (.rep Ψ F true)=some ol') (kk:S P n w0 all os l ol' K Q):S P n w0 all (o::os) l ol K Q:=by
 obtain ⟨hdst,hg,hop⟩:=GK hs;refine ⟨fun a w hf hh=>?_⟩;have h1:=ht.under' htm;rw [hdm] at h1;have h2:=ht.under' htk;rw [hdk] at h2;have hb2:=hc w (hh.own _ (Af hi)).1;have h3:=JJ (P:=P) h1 h2 hb2 k v;refine Ei (Bb hf.rd hg) (w':={ w with heap:=w.heap.setIfInBounds b (Cb κ (CV M k v c).1 (CV M k v c).2)}) ?_ ?_
 ·unfold execOp;simp [hop,hf.rd.ev hx,hf.rd.ev hk,hf.rd.ev hy,h3]
 ·rw [hdst];have e1:∀ k',k' ≠ b->(w.heap.setIfInBounds b (Cb κ (CV M k v c).1 (CV M k v c).2))[k']? =w.heap[k']? :=fun k' hk'=>Array.getElem?_setIfInBounds_ne (fun e=>hk' e.symm);exact kk.out _ _ hf (hh.turnB i hi hb rfl rfl rfl (by simp) e1 (fun hΦ=>hΨ w _ hΦ e1 (by have:=AU hb2;simp [this])) hL hp)
theorem Ma (ht:AW P tb) {mt kt et:TypeId} {x ix:Operand} {κ:IntKind} {b:Nat} {k:Int} {M:List ME} {c:Nat} {tm tk te:TI} {v:Value} (hs:BV n all r o=some (d,.lookup mt x ix true)) (hx:ev r x=some (.map (some b))) (hi:ev r ix=some (.int κ k))
 (htm:tl tb mt=some tm) (hdm:tm.desc= .map kt et) (htk:tl tb kt=some tk) (hdk:tk.desc= .int κ) (hte:tl tb et=some te) (hb:∀ w,Hp w0 w ol->w.heap[b]? =some (Cb κ M c)) (hg:Dz M k=some v):
 Hw P n w0 all r ol o d (.tuple #[v,.bool true]):=by
 have h:=Il (w0:=w0) (ol:=ol) ht hs hx hi htm hdm htk hdk hte hb;unfold Dz at hg
 cases hm:DR k M 0 with
 |none=>
  rw [hm] at h hg
  first |exact h |cases hg
 |some p=>
  obtain ⟨j,u⟩:=p;rw [hm] at h hg;cases hg;exact h
theorem Mb (ht:AW P tb) {mt kt et:TypeId} {x ix:Operand} {κ:IntKind} {b:Nat} {k:Int} {M:List ME} {c:Nat} {tm tk te:TI} (hs:BV n all r o=some (d,.lookup mt x ix true)) (hx:ev r x=some (.map (some b))) (hi:ev r ix=some (.int κ k))
 (htm:tl tb mt=some tm) (hdm:tm.desc= .map kt et) (htk:tl tb kt=some tk) (hdk:tk.desc= .int κ) (hte:tl tb et=some te) (hb:∀ w,Hp w0 w ol->w.heap[b]? =some (Cb κ M c)) (hg:Dz M k=none):
 Hw P n w0 all r ol o d (.tuple #[te.zero,.bool false]):=by
 have h:=Il (w0:=w0) (ol:=ol) ht hs hx hi htm hdm htk hdk hte hb;unfold Dz at hg
 cases hm:DR k M 0 with
 |none=>
  rw [hm] at h hg
  first |exact h |cases hg
 |some p=>
  obtain ⟨j,u⟩:=p;rw [hm] at h hg;cases hg
theorem Hp.graftTR {w0 w w':World} {ol ol':OL} (i:Nat) {Φ Ψ:World->Prop} {F F':Nat->Prop} {v:Value} {E:TypeId} {sz m:Nat} {xs:List Value} (hh:Hp w0 w ol) (hi:B9 ol i=some (.rep Φ F true)) (h2:Hp w w' [.row w.heap.size v E sz m xs,.rep Ψ F' true]) (hF:∀ k,F k->F' k) (hF':∀ k,F' k->F k \/ w.heap.size <= k)
 (hput:Dc ol i (.rep Ψ F' true)=some ol'):Hp w0 w' (.row w0.heap.size v E sz m xs::ol'):=by
 have hrow:w'.ownsRow w.heap.size E sz v m xs:=h2.own _ List.mem_cons_self;have hid:∀ k,(HE.row w.heap.size v E sz m xs).has k->w.heap.size <= k:=fun k hk=>(World.ownsRow.lt hrow k hk).1;have h3:=hh.graftT i hi (h2.drop fun _=>hid) hF hF' hput;refine h3.more (x:=.row w0.heap.size v E sz m xs) (Hf hrow hh.size) fun e he _ k hk hk'=>?_;have h4:=hid k hk;obtain ⟨pre,post,e1,e2⟩:=CP hi hput;rw [e2] at he
 rcases List.mem_append.1 he with he |he
 ·have:=hh.lt (e:=e) (by rw [e1];exact List.mem_append.2 (.inl he)) hk';omega
 ·rcases List.mem_cons.1 he with rfl |he
  ·exact (List.pairwise_cons.1 h2.apart).1 _ List.mem_cons_self rfl k hk hk'
  ·have:=hh.lt (e:=e) (by rw [e1];exact List.mem_append.2 (.inr (List.mem_cons_of_mem _ he))) hk';omega
theorem Ij (i:Nat) {f:FuncId} {vs:List Value} {Φ:World->Prop} {F:Nat->Prop} (hs:BL n all (AP l) o=some (d,f,vs)) (hcall:∀ args w,(callFunc f args).run P w= .ok (.enter f args) w) (hi:B9 ol i=some (.rep Φ F true))
 (hc:∀ w,Hp w0 w ol->Calls P f vs.toArray w (fun e w'=>∃ v Ψ F' u E sz m xs,e= .returned v/\Hp w w' [.row w.heap.size u E sz m xs,.rep Ψ F' true]/\(∀ k,F k->F' k)/\(∀ k,F' k->F k \/ w.heap.size <= k)/\∃ ol',Dc ol i (.rep Ψ F' true)=some ol'/\S P n w0 all os ((d,v)::l) (.row w0.heap.size u E sz m xs::ol') K Q)):S P n w0 all (o::os) l ol K Q:=
 A7 hs hcall fun w hh=>(hc w hh).mono fun e w' ⟨v,Ψ,F',u,E,sz,m,xs,he,h2,g1,g2,ol',hput,k⟩=>⟨v,_,he,hh.graftTR i hi h2 g1 g2 hput,k⟩
end
theorem Hp.graftN {w0 w w':World} {ol:OL} {Ψ:World->Prop} {F:Nat->Prop} (hh:Hp w0 w ol) (h2:Hp w w' [.rep Ψ F true]) (hF:∀ k,F k->w.heap.size <= k):Hp w0 w' (.rep Ψ F true::ol):=
 hh.fresh (h2.below fun e he _ k hk=>by
  rw [List.mem_singleton] at he;subst he
  exact hF k hk) (h2.own _ List.mem_cons_self) hF
theorem Jr {P:Program} {n:Nat} {w0:World} {all:Array Oper} {os:List Oper} {o:Oper} {l:FL} {ol:OL} {K:FL->OL->Prop} {Q:B3} {d:Nat} {f:FuncId} {vs:List Value} (hs:BL n all (AP l) o=some (d,f,vs)) (hcall:∀ args w,(callFunc f args).run P w= .ok (.enter f args) w)
 (hc:∀ w,Hp w0 w ol->Calls P f vs.toArray w (fun e w'=>∃ v Ψ F,e= .returned v/\Hp w w' [.rep Ψ F true]/\(∀ k,F k->w.heap.size <= k)/\((∀ k,F k->w0.heap.size <= k)->S P n w0 all os ((d,v)::l) (.rep Ψ F true::ol) K Q))):S P n w0 all (o::os) l ol K Q:=
 A7 hs hcall fun w hh=>(hc w hh).mono fun e w' ⟨v,Ψ,F,he,h2,g1,k⟩=>⟨v,_,he,hh.graftN h2 g1,k fun j hj=>Nat.le_trans hh.size (g1 j hj)⟩
theorem Jz {α:Type} {l m:List α} {k:Nat} (h:l.take k=m.take k) (hl:k < l.length) (hm:k < m.length) (he:l[k]=m[k]):l.take (k + 1)=m.take (k + 1):=by
 rw [List.take_succ_eq_append_getElem hl,List.take_succ_eq_append_getElem hm,h,he]
theorem LE {α:Type} {l m:List α} {k:Nat} (hl:k < l.length) (hm:k < m.length) (he:¬ l[k]=m[k]):¬ l=m:=by
 rintro rfl;exact he rfl
theorem Kc (a a':Option Addr) (n c n' c':Nat) (l m:List Int) (w:World) (hx:Sl w 1 a n (l.map (.int .u64))) (hy:Sl w 1 a' n' (m.map (.int .u64))) (hn:n <= maxLen):
 Calls Tryz.prog 25 #[.slice a n c,.slice a' n' c'] w fun e w'=>e= .returned (.bool (decide (l=m)))/\Below w.heap.size w w':=by
 have hl:=hx.len;have hl':=hy.len;rw [List.length_map,Nat.mul_one] at hl hl';simp only [maxLen] at hn;refine BO Tryz.func25 rfl rfl (Hp.refl w) ?_;repeat (first |refine Ai ?_ |refine Ab ?_ |refine Ag ?_ |refine Ae Aa rfl ?_)
 refine Ak rfl (fun h=>?_) (fun h=>?_)
 ·repeat (first |refine Ai ?_ |refine Ab ?_ |refine Ag ?_ |refine AI ?_ |refine AC ?_ |refine Ae Aa rfl ?_)
  exact AZ rfl rfl (fun w' hw=>⟨I8 (decide_eq_false fun e=>h (by rw [<-hl,<-hl',e])).symm,hw.below Ar⟩)
 have hnn:n=n':=by omega
 subst hnn;repeat (first |refine Ai ?_ |refine Ab ?_ |refine Aq ?_ |refine Ag ?_ |refine Ad ?_ |refine Ao ?_ |refine Ae Aa rfl ?_)
 refine AM (ι:=Nat) (fun i=>[(0,.slice a n c),(1,.slice a' n c'),(12,.int .i64 (n:Int)),(13,.int .i64 (i:Int))])
  (fun i=>[]) (fun i=>i <= n/\l.take i=m.take i) (fun i=>n - i) 0 ⟨Nat.zero_le _,rfl⟩ (by repeat (first |exact As.nil |refine As.cons rfl ?_)) (fun _ hw=>hw) ?_
 rintro k ⟨hk,hkt⟩
 try dsimp only at hk ⊢
 repeat (first |refine Ai ?_ |refine Ab ?_ |refine Ag ?_ |refine Ae Aa rfl ?_)
 refine Ak rfl (fun h=>?_) (fun h=>?_)
 ·have hk1:k < l.length:=by omega
  have hk2:k < m.length:=by omega
  obtain ⟨b,off,rfl,hlt,_⟩:=hx.get (by omega);obtain ⟨b2,off2,rfl,hlt2,_⟩:=hy.get (by omega)
  have e1:(l.map (Value.int .u64))[k]? =some (.int .u64 l[k]):=by rw [List.getElem?_map,List.getElem?_eq_getElem hk1];rfl
  have e2:(m.map (Value.int .u64))[k]? =some (.int .u64 m[k]):=by rw [List.getElem?_map,List.getElem?_eq_getElem hk2];rfl
  repeat (first |refine A5 (by kernel_rfl) (by kernel_rfl) ?_ |refine Ah Aa rfl ?_ |refine Ai ?_ |refine Ab ?_ |refine Aq ?_ |refine Ag ?_ |refine Ad ?_ |refine Ao ?_ |refine Ae Aa rfl ?_)
  refine Bx (Ay Aa rfl rfl rfl rfl rfl rfl rfl (j:=k) rfl (by omega)) ?_;refine Av Aa (v:=.int .u64 l[k]) rfl rfl (fun w' hw=>(hx.ext (hw.below Ar)).at_ (by omega) e1) ?_;repeat (first |refine Ah Aa rfl ?_)
  refine Bx (Ay Aa rfl rfl rfl rfl rfl rfl rfl (j:=k) rfl (by omega)) ?_;refine Av Aa (v:=.int .u64 m[k]) rfl rfl (fun w' hw=>(hy.ext (hw.below Ar)).at_ (by omega) e2) ?_;repeat (first |refine AN rfl ?_ |refine Ah Aa rfl ?_)
  refine Ak rfl (fun h1=>?_) (fun h1=>?_)
  ·repeat (first |refine Ai ?_ |refine Ab ?_ |refine Ag ?_ |refine BQ ?_ |refine AI ?_ |refine AC ?_ |refine Ae Aa rfl ?_)
   exact AZ rfl rfl (fun w' hw=>⟨I8 (decide_eq_false (LE hk1 hk2 h1)).symm,hw.below Ar⟩)
  ·repeat (first |refine Ab ?_ |refine Ag ?_ |refine Ad ?_ |refine Am ?_ |refine Ao ?_ |refine AD Aa rfl (by omega) ?_ |refine Ae Aa rfl ?_)
   exact ⟨k + 1,⟨by omega,Jz hkt hk1 hk2 (Decidable.not_not.1 h1)⟩,by repeat (first |exact As.nil |refine As.cons rfl ?_),fun _ h=>h,by omega⟩
 ·repeat (first |refine Ai ?_ |refine Ab ?_ |refine Ag ?_ |refine Ad ?_ |refine AB ?_ |refine Al ?_ |refine AC ?_ |refine AH ?_ |refine Ae Aa rfl ?_)
  have e:k=n:=by omega
  subst e;rw [List.take_of_length_le (by omega),List.take_of_length_le (by omega)] at hkt;exact AZ rfl rfl (fun w' hw=>⟨I8 (decide_eq_true hkt).symm,hw.below Ar⟩)
end Go.Proofs.YtidhpofcofknhaaGreat
