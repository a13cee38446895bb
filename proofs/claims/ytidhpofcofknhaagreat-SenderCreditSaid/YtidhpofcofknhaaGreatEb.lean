/-
  An engine of rules for walks, part J: structs of two integers compared; small rules for what is dropped. No program's text; conditions: each theorem's own. An engine of rules for walks, part K: places in the list of what is known, found step by step. No program's text; conditions: each theorem's own. An engine of rules for walks, part L: ends of regions that draw. No program's text; conditions: each theorem's own. An engine of rules for walks, part M: regions that draw, whose heap's list goes by what is done. No program's text; conditions: each theorem's own. An engine of rules for walks, part N: the region's rule over part M; a store. No program's text; conditions: each theorem's own. An engine of rules for walks, part O: regions that draw, whose heap's list goes by what is done and what it answered. No program's text; conditions: each theorem's own. An engine of rules for walks, part P
  Conditions: each theorem's own.
-/
import Derived.Laws.Externs
import Derived.Laws.MakeOwn
import Derived.Laws.StructEq
import Derived.Lib.AppendZeros
import Derived.Test.YtidhpofcofknhaaGreatEa
import Derived.Test.YtidhpofcofknhaaGreatTab
namespace Go.Proofs.YtidhpofcofknhaaGreat
open Go Go.RowKit
set_option linter.unusedVariables false
section
variable {P:Program} {tb:EU} {n:Nat} {w0:World} {all:Array Oper} {os:List Oper} {o:Oper} {l:FL} {ol:OL} {r:Nat->Option Value} {d:Nat}
theorem Up (ht:AW P tb) {w:World} {t:TypeId} {k0 k1:IntKind} {a0 a1 b0 b1:Int} {f0 f1:Field} {ti t0 t1:TI} (hti:tl tb t=some ti) (hd:ti.desc= .struct #[f0,f1]) (h0:tl tb f0.type=some t0) (h1:tl tb f1.type=some t1) (d0:t0.desc= .int k0) (d1:t1.desc= .int k1)
 (o0:f0.offset=0) (o1:f1.offset=1) (n0:f0.name ≠ "_") (n1:f1.name ≠ "_") (hsh:P.stoodInHeld t=false):
 (Op.equalIn 10000 t (.agg ⟨[.int k0 a0,.int k1 a1]⟩) (.agg ⟨[.int k0 b0,.int k1 b1]⟩)).run P w= .ok (decide (a0=b0/\a1=b1)) w:=by
 have hu:=(ht t ti hti).1;rw [hd] at hu
 have hfo:P.fieldsOf t= #[f0,f1]:=by unfold Program.fieldsOf;rw [hu]
 rw [run_equalIn_agg w 9999 t _ _ (by rw [hfo];exact hu) hsh,hfo];have p0:∀ x y,(part f0.type ⟨[x,y]⟩ f0.offset).run P w= .ok x w:=fun x y=>JT ht h0 (by rw [o0];simp [MC,d0,Eo]);have p1:∀ x y,(part f1.type ⟨[x,y]⟩ f1.offset).run P w= .ok y w:=fun x y=>JT ht h1 (by rw [o1];simp [MC,d1,Eo]);have u0:=(ht _ _ h0).1;have u1:=(ht _ _ h1).1;rw [d0] at u0;rw [d1] at u1;simp only [Op.eqFields,n0,n1,ne_eq,not_false_eq_true,if_true,Sem.run_bind,p0,p1,Result.andThen_ok,run_equalIn_int w 9998 _ k0 k0 a0 b0 u0,run_equalIn_int w 9998 _ k1 k1 a1 b1 u1,Sem.run_ite,Sem.run_pure];by_cases e0:a0=b0<;>by_cases e1:a1=b1<;>simp [e0,e1]
theorem R6 (ht:AW P tb) {t t':TypeId} {x y:Operand} {k0 k1:IntKind} {a0 a1 b0 b1:Int} {f0 f1:Field} {ti t0 t1:TI} (hs:BV n all r o=some (d,.binOp .neq t x y t')) (hx:ev r x=some (.agg ⟨[.int k0 a0,.int k1 a1]⟩)) (hy:ev r y=some (.agg ⟨[.int k0 b0,.int k1 b1]⟩))
 (hti:tl tb t=some ti) (hd:ti.desc= .struct #[f0,f1]) (h0:tl tb f0.type=some t0) (h1:tl tb f1.type=some t1) (d0:t0.desc= .int k0) (d1:t1.desc= .int k1)
 (o0:f0.offset=0) (o1:f1.offset=1) (n0:f0.name ≠ "_") (n1:f1.name ≠ "_") (hsh:P.stoodInHeld t=false) (hg:P.eqGuardType P.depth t=false):Hw P n w0 all r ol o d (.bool (!decide (a0=b0/\a1=b1))):=
 Gc hs fun ac w hrd hh hop=>by
  have h2:=Up ht (w:=w) (a0:=a0) (a1:=a1) (b0:=b0) (b1:=b1) hti hd h0 h1 d0 d1 o0 o1 n0 n1 hsh;unfold execOp;simp [hop,hrd.ev hx,hrd.ev hy,run_eqGuard_agg w _ t _ _ _ _ hg,run_neq_struct,h2]
end
theorem Hp.dropn {w0 w:World} {b:Nat} {x:Obj} {r:Bool} {o:OL} (h:Hp w0 w (.blk b x r::o)) (hb:w0.heap.size <= b):Hp w0 w o:=
 h.drop fun _ k hk=>by simp only [HE.has,Option.some.injEq] at hk;omega
theorem Hp.dropr {w0 w:World} {Φ:World->Prop} {F:Nat->Prop} {o:OL} (h:Hp w0 w (.rep Φ F false::o)):Hp w0 w o:=
 h.drop fun hx=>by cases hx
theorem Hf {w:World} {b b':Nat} {e:TypeId} {sz m:Nat} {v:Value} {xs:List Value} (h:w.ownsRow b e sz v m xs) (hb:b' <= b):w.ownsRow b' e sz v m xs:=by
 obtain ⟨e1,e2⟩:=h;refine ⟨e1,?_⟩
 rcases e2 with e2 |⟨g,cap,cur,e3,e4,e5⟩
 ·exact .inl e2
 ·exact .inr ⟨g,cap,cur,e3,Nat.le_trans hb e4,e5⟩
theorem Bv {w0 w:World} {base:Nat} {v:Value} {t:TypeId} {sz m:Nat} {xs:List Value} {ol o:OL} (hw:Hp w0 w o) (i:Nat) (hm:B9 o i=some (.row base v t sz m xs)) (h:w0.heap.size <= base) (hs:∀ e ∈ ol,e.ex=true->∀ k,e.has k->w0.heap.size <= k):
 ∀ e ∈ HE.row base v t sz m xs::ol,e.ex=true->∀ k,e.has k->w0.heap.size <= k:=hw.new_row (Af hm) h hs
section
variable {P:Program} {tb:EU} {n:Nat} {w0:World} {all:Array Oper} {os:List Oper} {o:Oper} {dl:DL} {ol:OL} {F:DL->Prop}
theorem In (ht:AW P tb) {d:Nat} {t:TypeId} {ti:TI} {ad:Addr} {vs:List Value} (hs:Dn tb n all (rs all o dl) o=some (d,t,ti,ad)) (ha:Eo ti.desc=true) (hl:vs.length=ti.size) (hv:∀ w,Hp w0 w ol->∀ j u,vs[j]? =some u->w.cell? (ad.add j)=some u)
 (k:D P n w0 all os ((d,.ex (.agg ⟨vs⟩))::dl) ol F):D P n w0 all (o::os) dl ol F:=
 IQ ht hs (fun hti w hh=>Gn ht hti ha hl (hv w hh)) k
end
section
variable {P:Program} {n:Nat} {w0:World} {all:Array Oper} {os:List Oper} {o:Oper} {l:FL} {ol:OL} {K:FL->OL->Prop} {Q:B3}
theorem Eb {d m sz:Nat} {f:FuncId} {vs xs:List Value} {E:TypeId} (hs:BL n all (AP l) o=some (d,f,vs)) (hcall:∀ args w,(callFunc f args).run P w= .ok (.enter f args) w)
 (hc:∀ w,Hp w0 w ol->Calls P f vs.toArray w (fun e w'=>∃ a c,e= .returned (.slice a m c)/\Below w.heap.size w w'/\w'.ownsRow w.heap.size E sz (.slice a m c) m xs))
 (k:∀ a c,m <= c->c <= maxLen->S P n w0 all os ((d,.slice a m c)::l) (.row w0.heap.size (.slice a m c) E sz m xs::ol) K Q):S P n w0 all (o::os) l ol K Q:=
 A7 hs hcall fun w hh=>(hc w hh).mono fun e w' ⟨a,c,he,hb,hr⟩=>⟨_,_,he,hh.fresh hb (x:=.row w0.heap.size (.slice a m c) E sz m xs) (Hf hr hh.size) (fun j hj=>(World.ownsRow.lt hr j hj).1),(by obtain ⟨A,C,e1,h1,h2⟩:=Cy hr;cases e1;exact k a c h1 h2)⟩
end
section
variable {P:Program} {tb:EU} {n:Nat} {w0:World} {all:Array Oper} {os:List Oper} {o:Oper} {l:FL} {dl:DL} {ol:OL} {K:FL->OL->Prop} {Q:B3} {F:DL->Prop} {r:Nat->Option Value} {d:Nat}
theorem GY (R:Value->Prop) {f:FuncId} {vs:List Value} (hs:BL n all (AP l) o=some (d,f,vs)) (hcall:∀ args w,(callFunc f args).run P w= .ok (.enter f args) w)
 (hc:∀ w,Hp w0 w ol->Calls P f vs.toArray w (fun e w'=>∃ v,e= .returned v/\Below w.heap.size w w'/\R v)) (k:∀ v,R v->S P n w0 all os ((d,v)::l) ol K Q):S P n w0 all (o::os) l ol K Q:=
 A7 hs hcall fun w hh=>(hc w hh).mono fun e w' ⟨v,he,hb,hR⟩=>⟨v,ol,he,hh.ext hb,k v hR⟩
theorem OY {ι:Type} (I:ι->Prop) (p:ι->Vp) (A:Nat->Prop) {f:FuncId} {vs:List Value} (hs:BL n all (AP l) o=some (d,f,vs)) (hcall:∀ args w,(callFunc f args).run P w= .ok (.enter f args) w)
 (hc:∀ w,Hp w0 w ol->Calls P f vs.toArray w (fun e w'=>∃ v i,e= .returned v/\Below w.heap.size w w'/\I i/\(p i).at_ w' (BB w0 A ol) v))
 (k:∀ i v F w1,I i->(∀ k,F k->A k \/ w0.heap.size <= k)->(p i).at_ w1 F v->S P n w0 all os ((d,v)::l) (.rep (fun w=>(p i).at_ w F v) F false::ol) K Q):S P n w0 all (o::os) l ol K Q:=
 A7 hs hcall fun w hh=>(hc w hh).mono fun e w' ⟨v,i,he,hb,hi,hp⟩=>by
  obtain ⟨F,h1,h2,h3⟩:=(hh.ext hb).addV hp;exact ⟨v,_,he,h3,k i v F w' hi h1 h2⟩
theorem L9 {fn:Fn} {cs:Array Operand} {vs:List Value} (hs:BV n all r o=some (d,.makeFunc fn #[] cs)) (hv:evs r cs.toList=some vs):Hw P n w0 all r ol o d (.func fn #[] ⟨vs⟩):=
 Gc hs fun ac w hrd hh hop=>by
  have h:=hrd.evs hv
  have hm:cs.map ac.eval=vs.toArray:=by
   apply Array.ext';simpa using h
  unfold execOp;simp [hop,Instr.makeFunc,hm]
theorem UI {f:Operand} {asx:Array Operand} {ts:Array TypeId} {g:FuncId} {caps:Array Value} {vs:List Value} (hs:BV n all (AP l) o=some (d,.call ⟨.value f,asx,ts⟩)) (hf:ev (AP l) f=some (.func (.func g) #[] caps)) (ha:evs (AP l) asx.toList=some vs) (hcall:∀ args w,(callFunc g args).run P w= .ok (.enter g args) w)
 (hc:∀ w,Hp w0 w ol->Calls P g (vs.toArray ++ caps) w (fun e w'=>∃ v ol',e= .returned v/\Hp w0 w' ol'/\S P n w0 all os ((d,v)::l) ol' K Q)):S P n w0 all (o::os) l ol K Q:=by
 obtain ⟨hdst,hlt,hg,hop⟩:=CE hs;refine ⟨fun a w hfr hh=>?_⟩
 have hm:asx.map a.eval=vs.toArray:=by
  apply Array.ext';simpa using hfr.rd.evs ha
 have hr:(execOp a.eval o).run P w= .ok (.enter g (vs.toArray ++ caps)) w:=by
  unfold execOp;simp [hop,resolve,hfr.rd.ev hf,Deferred.ofValue,invoke,hm,hcall]
 unfold wpList;rw [if_pos (Bb hfr.rd hg)];left;simp only [Oper.wp,hr,Oper.upon];refine (hc w hh).mono ?_;rintro e w' ⟨v,ol',rfl,hh',k⟩;show wpList P all _ os (a.put o.dst v) w';rw [hdst];exact k.out _ _ (hfr.put hlt _) hh'
theorem M8 {f:Operand} {asx:Array Operand} {ts:Array TypeId} {g:FuncId} {caps:Array Value} {vs:List Value} {v:Value} (hs:BV n all (AP l) o=some (d,.call ⟨.value f,asx,ts⟩)) (hf:ev (AP l) f=some (.func (.func g) #[] caps)) (ha:evs (AP l) asx.toList=some vs) (hcall:∀ args w,(callFunc g args).run P w= .ok (.enter g args) w)
 (hc:∀ w,Hp w0 w ol->Calls P g (vs.toArray ++ caps) w (fun e w'=>e= .returned v/\Below w.heap.size w w')) (k:S P n w0 all os ((d,v)::l) ol K Q):S P n w0 all (o::os) l ol K Q:=
 UI hs hf ha hcall fun w hh=>(hc w hh).mono fun e w' ⟨he,hb⟩=>⟨v,ol,he,hh.ext hb,k⟩
theorem WL (ht:AW P tb) {t tn e:TypeId} {s x:Operand} {k kn:IntKind} {m sz:Nat} {i:Int} {ti tni te:TI} (hs:BV n all (AP l) o=some (d,.call ⟨.builtin .append,#[s,x],#[t,tn]⟩)) (hv:ev (AP l) s=some (.slice none 0 0)) (hx:ev (AP l) x=some (.int k i)) (hi:i=(m:Int)) (h0:0 < m)
 (hti:tl tb t=some ti) (hd:ti.desc= .slice e) (htn:tl tb tn=some tni) (hdn:tni.desc= .int kn) (hte:tl tb e=some te) (hsz:te.size=sz) (hpos:0 < sz) (hzs:te.zero.cells.size=sz) (hmax:m <= maxLen) (hbytes:m * te.bytes <= 281474976710656)
 (kk:∀ b c cs,w0.heap.size <= b->m <= c->c <= maxLen->cs.length=c * sz->S P n w0 all os ((d,.slice (some ⟨b,0,none⟩) m c)::l) (.blk b (.cells ⟨cs⟩ e (0,0)) true::ol) K Q):S P n w0 all (o::os) l ol K Q:=by
 obtain ⟨hdst,hlt,hg,hop⟩:=CE hs;refine ⟨fun a w hf hh=>?_⟩;obtain ⟨inf,hinf,hz,hs1,hs2⟩:=(ht e te hte).2;have hu:=ht.under' hti;rw [hd] at hu;have hun:=ht.under' htn;rw [hdn] at hun;subst hi
 have hm9:(m:Int) <= 9223372036854775807:=by simp only [maxLen] at hmax;omega
 have hr:=Lib.run_append_nil_zeros (P:=P) w t tn o.type e inf te.zero k kn hu hun hinf hz m h0 (by rw [hs1,hsz];exact hpos) hm9 (by rw [hs2];exact hbytes);have hge:=grownCap_ge w m 0 e;have hcm:=grownCap_le_maxLen w m 0 e hmax;refine B4 (v:=.slice (some ⟨w.heap.size,0,none⟩) m (grownCap w m 0 e)) (Bb hf.rd hg) ?_ ?_ (w':=w.drew.alloc (.cells (Builtin.zeroCells te.zero.cells m ++ Builtin.zeroCells te.zero.cells (grownCap w m 0 e - m)) e))
 ·unfold execOp;simp [hop,resolve,invoke,builtin,hf.rd.ev hv,hf.rd.ev hx,hr]
 ·rw [hdst];refine (kk w.heap.size (grownCap w m 0 e) (Builtin.zeroCells te.zero.cells m ++ Builtin.zeroCells te.zero.cells (grownCap w m 0 e - m)).toList hh.size hge hcm ?_).out _ _ (hf.put hlt _) (hh.drew.alloc _);simp only [Array.length_toList,Array.size_append,size_zeroCells,hzs,<-Nat.add_mul];congr 1;omega
end
section
variable {P:Program} {tb:EU} {n:Nat} {w0:World} {all:Array Oper} {os:List Oper} {o:Oper} {dl:DL} {ol:OL} {F:DL->Prop} {d:Nat}
def FZ (w0:World) (ol:OL) (m:Nat) (cs:List Value) (e:TypeId) (v:Value) (w:World):Prop:=∃ b,v= .slice (some ⟨b,0,none⟩) m m/\w.heap[b]? =some (.cells ⟨cs⟩ e (0,0))/\w0.heap.size <= b/\∀ e ∈ ol,¬ e.has b
theorem FZ.stable {m:Nat} {cs:List Value} {e:TypeId}:∀ v w w',FZ w0 ol m cs e v w->Below w.heap.size w w'->FZ w0 ol m cs e v w':=by
 rintro v w w' ⟨b,h1,h2,h3,h4⟩ hb;exact ⟨b,h1,(hb.block b (AU h2)).trans h2,h3,h4⟩
theorem Lx (ht:AW P tb) {t e:TypeId} {m sz:Nat} {ti te:TI} {ps:List (Nat × Operand)} {zs z0 cs:List Value} {vs:List (Nat × Value)} (hs:BV n all (rs all o dl) o=some (d,.buildSlice t m ps.toArray)) (hti:tl tb t=some ti) (hd:ti.desc= .slice e) (hte:tl tb e=some te) (hsz:te.size=sz) (hz:Da te.zero=some zs) (hzl:Nat.beq zs.length sz=true)
 (hv:He (rs all o dl) ps=some vs) (hr:Nd zs sz (m * sz) 0=some z0) (hb:Gw (E3 sz m 0) z0 vs=some cs) (hlt:Lm m vs=true) (hm:Nat.ble (m * sz) 16777216=true)
 (k:D P n w0 all os ((d,.pr (FZ w0 ol m cs e))::dl) ol F):D P n w0 all (o::os) dl ol F:=by
 obtain ⟨hdst,hlt',hg,hop⟩:=CE hs;refine Mf (FZ w0 ol m cs e) hdst hlt' hg FZ.stable (fun a w hrd _ hh=>?_) k;have h5:=FS hrd hv
 have h7:(ps.toArray.map fun (p:Nat × Operand)=>(p.1,a.eval p.2))=vs.toArray:=by
  apply Array.ext';simpa using h5
 have hrun:=Gv ht (w:=w) (m:=m) hti hd hte hsz hz (Nat.eq_of_beq_eq_true hzl) hr hb hlt (Nat.le_of_ble_eq_true hm);refine ⟨_,w.alloc (.cells ⟨cs⟩ e),?_,(Below.refl _ _).alloc (Nat.le_refl _) _,w.heap.size,rfl,heap_alloc_new w _,hh.size,fun e he hk=>?_⟩
 ·unfold execOp;simp only [hop,h7,Sem.run_bind,hrun,Result.andThen_ok,Sem.run_pure]
 ·have:=hh.lt he hk;omega
theorem WO (t:Nat) {m:Nat} {cs:List Value} {e:TypeId} {ol1:OL} {G:FL->OL->Prop} (h:lk dl t=some (.pr (FZ w0 ol1 m cs e))) (hex:∀ e ∈ ol,e.ex=true->e ∈ ol1)
 (k:∀ b,w0.heap.size <= b->D P n w0 all [] ((t,.ex (.slice (some ⟨b,0,none⟩) m m))::dl) (.blk b (.cells ⟨cs⟩ e (0,0)) false::ol) (E0 n w0 (.blk b (.cells ⟨cs⟩ e (0,0)) false::ol) G)):D P n w0 all [] dl ol (E0 n w0 ol G):=
 Na fun w hw f hf=>by
  obtain ⟨b,h1,h2,h3,h4⟩:=hf t _ h
  have g3:Hp w0 w (.blk b (.cells ⟨cs⟩ e (0,0)) false::ol):=hw.more h2 fun e he hr k hk hk'=>by
   simp only [HE.has,Option.some.injEq] at hk;subst hk;exact h4 e (hex e he (by simpa [HE.ex] using hr)) hk'
  have hk:=(k b h3).out _ (fun _=>rfl);have hk':E0 n w0 (.blk b (.cells ⟨cs⟩ e (0,0)) false::ol) G ((t,.ex (.slice (some ⟨b,0,none⟩) m m))::dl):=hk
  obtain ⟨l',ol',e1,e2,e3⟩:=hk' w g3 f (fun t' Φ ht'=>by
   by_cases htt:t=t'
   ·subst htt;rw [Bl] at ht';cases ht'
   ·rw [BA htt] at ht';exact hf t' Φ ht')
  refine ⟨l',ol',fun t' v hv=>?_,e2,e3⟩;by_cases htt:t=t'
  ·subst htt
   rcases e1 t v hv with e |⟨Φ,e,_⟩
   ·rw [Bl] at e;cases e;exact .inr ⟨_,h,h1⟩
   ·rw [Bl] at e;cases e
  ·have:=e1 t' v hv
   rwa [BA htt] at this
end
def Sg (k:Nat):FL->FL
 | []=>[]
 |(j,v)::l=>match Nat.beq j k with
  |true=>Sg k l
  |false=>(j,v)::Sg k l
theorem JP {k:Nat}:∀ {l:FL} {t:Nat} {v:Value},AP (Sg k l) t=some v->t ≠ k/\AP l t=some v
 | [],t,v,h=>by simp [Sg,AP] at h
 |(j,u)::l,t,v,h=>by
  simp only [Sg] at h;split at h
  ·rename_i hb;have ih:=JP (l:=l) h;refine ⟨ih.1,?_⟩;have hjk:=Nat.eq_of_beq_eq_true hb;rw [BU (fun e=>ih.1 (by rw [<-e,hjk]))];exact ih.2
  ·rename_i hb;by_cases hjt:j=t
   ·subst hjt;rw [B6] at h ⊢;refine ⟨fun e=>?_,h⟩;rw [e] at hb;simp at hb
   ·rw [BU hjt] at h ⊢;exact JP h
def Un:DL->FL
 | []=>[]
 |(k,E)::dl=>match E with
  | .ex v=>(k,v)::Un dl
  | .pr _=>Sg k (Un dl)
theorem Kb:∀ {dl:DL} {t:Nat} {v:Value},AP (Un dl) t=some v->lk dl t=some (.ex v)
 | [],t,v,h=>by simp [Un,AP] at h
 |(k,E)::dl,t,v,h=>by
  cases E with
  |ex u=>
   have h:AP ((k,u)::Un dl) t=some v:=h;by_cases hkt:k=t
   ·subst hkt;rw [B6] at h;cases h;rw [Bl]
   ·rw [BU hkt] at h;rw [BA hkt];exact Kb h
  |pr Φ=>
   have h:AP (Sg k (Un dl)) t=some v:=h;obtain ⟨h1,h2⟩:=JP h;rw [BA (Ne.symm h1)];exact Kb h2
def Qj (k:Nat):FL->Option FL
 | []=>some []
 |(j,v)::l=>match Qj k l with
  |some r=>match Nat.beq j k with
   |true=>some r
   |false=>some ((j,v)::r)
  |none=>none
theorem Ot {k:Nat}:∀ {l r:FL},Qj k l=some r->r=Sg k l
 | [],r,h=>by simp [Qj] at h;subst h;rfl
 |(j,v)::l,r,h=>by
  simp only [Qj] at h;split at h
  ·rename_i q hq;have ih:=Ot hq
   cases hb:Nat.beq j k with
   |true=>rw [hb] at h;simp at h;simp [Sg,hb,<-h,ih]
   |false=>rw [hb] at h;simp at h;simp [Sg,hb,<-h,ih]
  ·cases h
def Q7:DL->Option FL
 | []=>some []
 |(k,E)::dl=>match Q7 dl with
  |some r=>match E with
   | .ex v=>some ((k,v)::r)
   | .pr _=>match Qj k r with
    |some q=>some q
    |none=>none
  |none=>none
theorem OE:∀ {dl:DL} {r:FL},Q7 dl=some r->r=Un dl
 | [],r,h=>by simp [Q7] at h;subst h;rfl
 |(k,E)::dl,r,h=>by
  simp only [Q7] at h;split at h
  ·rename_i q hq;have ih:=OE hq
   cases E with
   |ex v=>simp at h;simp [Un,<-h,ih]
   |pr Φ=>
    simp only at h;split at h
    ·rename_i z hz;have:=Ot hz;simp at h;simp [Un,<-h,this,ih]
    ·cases h
  ·cases h
theorem KE {P:Program} {n:Nat} {w0:World} {all:Array Oper} {dl:DL} {ol:OL} {G:FL->OL->Prop} {l':FL} (hl:Q7 dl=some l') (h:G l' ol):D P n w0 all [] dl ol (E0 n w0 ol G):=
 Se l' (fun t v hv=>Kb (by rw [<-OE hl];exact hv)) h
theorem Hp.fewer {w0 w:World} {o o':OL} (h:Hp w0 w o) (hn:∀ e ∈ o,e.ex=true->∀ k,e.has k->w0.heap.size <= k) (hs:o'.Sublist o):Hp w0 w o':=
 ⟨h.os,h.tape,h.output,h.size,fun k hk _=>h.old k hk fun e he hx hh=>by have:=hn e he hx k hh;omega,fun e he=>h.own e (hs.subset he),h.apart.sublist hs⟩
theorem Hp.addN {w0 w:World} {o:OL} {v:Value} (p:Vp) (h:Hp w0 w o) (hp:∀ w,p.at_ w (fun _=>False) v):Hp w0 w (.rep (fun w=>p.at_ w (fun _=>False) v) (fun _=>False) false::o):=
 h.more ⟨hp w,fun w1 w2 _ _=>hp w2,fun k hk=>hk.elim⟩ fun e he hr k hk=>hk.elim
section
variable {P:Program} {tb:EU} {n:Nat} {w0:World} {all:Array Oper} {os:List Oper} {o:Oper} {dl:DL} {ol:OL} {F:DL->Prop} {d:Nat}
def Hx (w0:World) (ol:OL) (cs:List Value) (e:TypeId) (v:Value) (w:World):Prop:=∃ b,v= .pointer (some ⟨b,0,none⟩)/\w.heap[b]? =some (.cells ⟨cs⟩ e (0,0))/\w0.heap.size <= b/\∀ e ∈ ol,¬ e.has b
theorem Hx.stable {cs:List Value} {e:TypeId}:∀ v w w',Hx w0 ol cs e v w->Below w.heap.size w w'->Hx w0 ol cs e v w':=by
 rintro v w w' ⟨b,h1,h2,h3,h4⟩ hb;exact ⟨b,h1,(hb.block b (AU h2)).trans h2,h3,h4⟩
theorem KV (ht:AW P tb) {r:Nat->Option Value} {e:TypeId} {vs:List Value} (hs:JV tb n all r o=some (d,e,vs)):gd all r o.guard=some true/\o.dst=some d/\d < n/\∀ a w,Rd a r->(execOp a.eval o).run P w= .ok (.value (.pointer (some ⟨w.heap.size,0,none⟩))) (w.alloc (.cells ⟨vs⟩ e (0,0))):=by
 unfold JV at hs;split at hs
 ·rename_i hg;split at hs
  ·rename_i d' hd;split at hs
   ·rename_i hb;split at hs
    ·rename_i e' hop;split at hs
     ·rename_i ti hti;split at hs
      ·rename_i vs' hv;simp at hs;obtain ⟨rfl,rfl,rfl⟩:=hs;refine ⟨hg,hd,by simpa [Nat.blt_eq] using hb,fun a w hrd=>?_⟩;have h1:=ht.zeroOf hti w;unfold execOp;simp [hop,Instr.alloc,h1,newVar,newRow,CL hv]
      ·cases hs
     ·cases hs
    ·rename_i e' x hop;split at hs
     ·rename_i v hx;split at hs
      ·rename_i vs' hv;simp at hs;obtain ⟨rfl,rfl,rfl⟩:=hs;refine ⟨hg,hd,by simpa [Nat.blt_eq] using hb,fun a w hrd=>?_⟩;unfold execOp;simp [hop,hrd.ev hx,Instr.box,newVar,newRow,CL hv]
      ·cases hs
     ·cases hs
    ·cases hs
   ·cases hs
  ·cases hs
 ·cases hs
theorem XG (ht:AW P tb) {e:TypeId} {vs:List Value} (hs:JV tb n all (rs all o dl) o=some (d,e,vs)) (k:D P n w0 all os ((d,.pr (Hx w0 ol vs e))::dl) ol F):D P n w0 all (o::os) dl ol F:=by
 obtain ⟨hg,hd,hlt,hr⟩:=KV ht hs;refine Mf (Hx w0 ol vs e) hd hlt hg Hx.stable (fun a w hrd _ hh=>?_) k;refine ⟨_,_,hr a w hrd,(Below.refl _ _).alloc (Nat.le_refl _) _,w.heap.size,rfl,heap_alloc_new w _,hh.size,fun e he hk=>?_⟩;have:=hh.lt he hk;omega
theorem WP (t:Nat) {cs:List Value} {e:TypeId} {G:FL->OL->Prop} (h:lk dl t=some (.pr (Hx w0 ol cs e)))
 (k:∀ b,w0.heap.size <= b->D P n w0 all [] ((t,.ex (.pointer (some ⟨b,0,none⟩)))::dl) (.blk b (.cells ⟨cs⟩ e (0,0)) true::ol) (E0 n w0 (.blk b (.cells ⟨cs⟩ e (0,0)) true::ol) G)):D P n w0 all [] dl ol (E0 n w0 ol G):=
 Na fun w hw f hf=>by
  obtain ⟨b,h1,h2,h3,h4⟩:=hf t _ h
  have g3:Hp w0 w (.blk b (.cells ⟨cs⟩ e (0,0)) true::ol):=hw.more h2 fun e he hr k hk hk'=>by
   simp only [HE.has,Option.some.injEq] at hk;subst hk;exact h4 e he hk'
  have hk:=(k b h3).out _ (fun _=>rfl);have hk':E0 n w0 (.blk b (.cells ⟨cs⟩ e (0,0)) true::ol) G ((t,.ex (.pointer (some ⟨b,0,none⟩)))::dl):=hk
  obtain ⟨l',ol',e1,e2,e3⟩:=hk' w g3 f (fun t' Φ ht'=>by
   by_cases htt:t=t'
   ·subst htt;rw [Bl] at ht';cases ht'
   ·rw [BA htt] at ht';exact hf t' Φ ht')
  refine ⟨l',ol',fun t' v hv=>?_,e2,e3⟩;by_cases htt:t=t'
  ·subst htt
   rcases e1 t v hv with e |⟨Φ,e,_⟩
   ·rw [Bl] at e;cases e;exact .inr ⟨_,h,h1⟩
   ·rw [Bl] at e;cases e
  ·have:=e1 t' v hv
   rwa [BA htt] at this
end
theorem Hp.share {w0 w:World} {o:OL} {p:Vp} {v:Value} {e:TypeId} {sz n:Nat} {xs:List Value} (h:Hp w0 w (.row w0.heap.size v e sz n xs::o)) (hp:w.ownsRow w0.heap.size e sz v n xs->p.at_ w (fun k=>v.ownBlock=some k) v):
 ∃ F:Nat->Prop,(∀ k,F k->w0.heap.size <= k)/\Hp w0 w (.rep (fun w=>p.at_ w F v) F false::o):=by
 have hr:w.ownsRow w0.heap.size e sz v n xs:=h.own _ List.mem_cons_self;have hlt:∀ k,v.ownBlock=some k->w0.heap.size <= k/\k < w.heap.size:=fun k hk=>World.ownsRow.lt hr k hk;refine ⟨fun k=>v.ownBlock=some k,fun k hk=>(hlt k hk).1,(h.drop fun _ k hk=>(hlt k hk).1).more ⟨hp hr,fun w1 w2 h1 h2=>p.keep h2 fun k hk _=>⟨h1 k hk,hk⟩,fun k hk=>(hlt k hk).2⟩ fun e he _ k hk hk'=>?_⟩;exact (List.pairwise_cons.1 h.apart).1 e he rfl k hk hk'
theorem L5 {P:Program} {n:Nat} {w0:World} {c:Code} {l:FL} {ol:OL} {Q:B3} (p:Vp) {v:Value} {e:TypeId} {sz m:Nat} {xs:List Value} (hp:∀ w,w.ownsRow w0.heap.size e sz v m xs->p.at_ w (fun k=>v.ownBlock=some k) v)
 (k:∀ F:Nat->Prop,(∀ k,F k->w0.heap.size <= k)->T P n w0 c l (.rep (fun w=>p.at_ w F v) F false::ol) Q):T P n w0 c l (.row w0.heap.size v e sz m xs::ol) Q:=
 ⟨fun a w hf hh=>by
  obtain ⟨F,h1,h2⟩:=hh.share (hp w)
  exact (k F h1).out a w hf h2⟩
theorem OW {P:Program} {n:Nat} {w0:World} {all:Array Oper} {os:List Oper} {l:FL} {ol:OL} {K:FL->OL->Prop} {Q:B3} (p:Vp) {v:Value} {e:TypeId} {sz m:Nat} {xs:List Value} (hp:∀ w,w.ownsRow w0.heap.size e sz v m xs->p.at_ w (fun k=>v.ownBlock=some k) v)
 (k:∀ F:Nat->Prop,(∀ k,F k->w0.heap.size <= k)->S P n w0 all os l (.rep (fun w=>p.at_ w F v) F false::ol) K Q):S P n w0 all os l (.row w0.heap.size v e sz m xs::ol) K Q:=
 ⟨fun a w hf hh=>by
  obtain ⟨F,h1,h2⟩:=hh.share (hp w)
  exact (k F h1).out a w hf h2⟩
theorem L7 {P:Program} {n:Nat} {w0:World} {c:Code} {l:FL} {ol:OL} {Q:B3} (p:Vp) (A:Nat->Prop) {v:Value} (h:∀ w,Hp w0 w ol->p.at_ w (BB w0 A ol) v)
 (k:∀ F:Nat->Prop,(∀ k,F k->A k \/ w0.heap.size <= k)->T P n w0 c l (.rep (fun w=>p.at_ w F v) F false::ol) Q):T P n w0 c l ol Q:=
 ⟨fun a w hf hh=>by
  obtain ⟨F,h1,_,h2⟩:=hh.addV (h w hh)
  exact (k F h1).out a w hf h2⟩
theorem UX {P:Program} {n:Nat} {w0:World} {all:Array Oper} {os:List Oper} {o:Oper} {l:FL} {ol:OL} {K:FL->OL->Prop} {Q:B3} {d:Nat} {f:FuncId} {vs:List Value} {v:Value} (hs:BL n all (AP l) o=some (d,f,vs)) (hrun:∀ w,(callFunc f vs.toArray).run P w= .ok (.value v) w)
 (k:S P n w0 all os ((d,v)::l) ol K Q):S P n w0 all (o::os) l ol K Q:=by
 refine ⟨fun a w hf hh=>?_⟩;unfold BL at hs;split at hs
 ·rename_i hg;split at hs
  ·rename_i d' hd;split at hs
   ·rename_i hb;split at hs
    ·rename_i f' asx ts hop;split at hs
     ·rename_i vs' hx;simp at hs;obtain ⟨rfl,rfl,rfl⟩:=hs
      have hm:asx.map a.eval=vs'.toArray:=by
       apply Array.ext';simpa using hf.rd.evs hx
      refine B4 (v:=v) (w':=w) (Bb hf.rd hg) ?_ ?_
      ·unfold execOp;simp [hop,resolve,Act.eval,Deferred.ofValue,invoke,hm,hrun]
      ·rw [hd];exact k.out _ w (hf.put (by simpa [Nat.blt_eq] using hb) _) hh
     ·cases hs
    ·cases hs
   ·cases hs
  ·cases hs
 ·cases hs
theorem Nl {P:Program} {f:FuncId} {fn:Func} (hf:P.funcs[f]? =some fn) (hname:(fn.name == "runtime.NumGoroutine")=false) (hb:fn.body.isNone=true) (hn:Extern.findNext fn=none) (he:Extern.find fn=some add64Entry) {x y:Int} (hx:0 <= x) (hy:0 <= y) (w:World):
 (callFunc f #[.int .u64 x,.int .u64 y,.int .u64 0]).run P w= .ok (.value (.tuple #[.int .u64 ((x + y) % 18446744073709551616),.int .u64 ((x + y) / 18446744073709551616)])) w:=by
 rw [run_callFunc_extern hf hname hb hn he,run_add64 x y 0 hx hy (by decide) (by decide) w];simp [Result.andThen]
section
variable {P:Program} {n:Nat} {w0:World} {ops:List Oper}
theorem Lp.anyw {E:Option EE} {x:Option Value} {w w':World} (he:∀ E',E=some E'->∃ v,E'= .ex v) (h:Lp E x w):Lp E x w':=by
 cases E with
 |none=>trivial
 |some E=>
  obtain ⟨v,h1,h2⟩:=h;obtain ⟨u,rfl⟩:=he _ rfl;exact ⟨v,h1,h2⟩
structure AK (P:Program) (n:Nat) (w0:World) (all:Array Oper) (o1 o2:OL) (dl:DL) (o:Oper) (v:Value):Prop where
 ok:∀ a w,a.defers= []->a.tmps.size=n->Hp w0 w o1->(∀ t ∈ o.looksAt all,Lp (lk dl t) a.tmps[t]? w)->
  (Region.wanted o (yielded all a.tmps)=true->o.wp P a w (fun a' w'=>a'=a.put o.dst v/\Hp w0 w' o2) (fun _ _ _=>False))/\(Region.wanted o (yielded all a.tmps)=false->v=undef/\Hp w0 w o2)
 lt:∀ d,o.dst=some d->d < n
theorem AK.of {all:Array Oper} {ol:OL} {dl:DL} {o:Oper} {v:Value} (h:XL P n w0 all ol dl o (.ex v)):AK P n w0 all ol ol dl o v:=
 ⟨fun a w h1 h2 h3 h4=>by
  obtain ⟨g1,g2⟩:=h.ok a w h1 h2 h3 h4
  exact ⟨fun hw=>Oper.wp_mono2 (fun a' w' ⟨u,e1,e2,e3⟩=>⟨by rw [e1];cases e3;rfl,h3.ext e2⟩) (fun _ _ _ h=>h) (g1 hw),fun hw=>⟨(g2 hw).symm,h3⟩⟩,h.lt⟩
theorem Rb:∀ (os:List Oper) (i:Nat) (vs:List Value) (dl:DL),(∀ t E,lk dl t=some E->∃ v,E= .ex v)->∀ t E,lk (BM (vs.map .ex) os i dl) t=some E->∃ v,E= .ex v
 | [],i,vs,dl,h2=>by cases i<;>cases vs<;>exact h2
 |o::os,0,vs,dl,h2=>by rw [DG];exact h2
 |o::os,i + 1,[],dl,h2=>h2
 |o::os,i + 1,v::vs,dl,h2=>by
  simp only [List.map_cons,BM];refine Rb os i vs _ fun t E' h=>?_
  cases hd:o.dst with
  |none=>rw [hd] at h;exact h2 t E' h
  |some d=>
   rw [hd] at h;simp only [Hz] at h;by_cases hdt:d=t
   ·subst hdt;rw [Bl] at h;cases h;exact ⟨_,rfl⟩
   ·rw [BA hdt] at h;exact h2 t E' h
variable {Es:List EE} {dl:DL} {L:Nat->Bool} {a:Act} {w:World} {m:Nat} {olf:(Nat->Bool)->OL}
theorem O5.stepS (hI:O5 n w0 ops Es (olf L) dl L a w) (hR:UK ops m) (hex:∀ i t E,lk (BM Es ops i dl) t=some E->∃ v,E= .ex v) {k:Nat} {o:Oper} (ho:ops[k]? =some o) (hk:L k=false)
 (hpre:∀ e ∈ o.after.toList,Region.binds .any e=true->L e.on=true) {v:Value} (hE:Es[k]? =some (.ex v)) (hlt:∀ d,o.dst=some d->d < n) {w':World} (hp':Hp w0 w' (olf (add L k))):
 O5 n w0 ops Es (olf (add L k)) dl (add L k) (a.put o.dst v) w':=by
 have hkl:k < ops.length:=(List.getElem?_eq_some_iff.1 ho).1;refine ⟨?_,?_,hp',Hu hI.closed ho hpre,fun i t hi hc=>?_⟩
 ·cases hd:o.dst<;>simp [Act.put,hI.defers]
 ·cases hd:o.dst<;>simp [Act.put,hI.size]
 ·by_cases hdt:o.dst=some t
  ·have hki:k < i:=(hc k o ho hdt).2 (by simp [add])
   have he:lk (BM Es ops i dl) t=some (.ex v):=by
    refine EB (k:=k) ho hE hdt hki fun j p hj hji hp hd=>?_
    have hLj:L j=true:=by
     have:=(hc j p hp hd).1 hji;unfold add at this
     rwa [if_neg (by omega)] at this
    rcases hR.ahead L hI.closed j p hp (hI.closed j p hp hLj) k o ho hj with h' |⟨_,h'⟩
    ·rw [hk] at h';cases h'
    ·exact E8 hdt (.inr hd) h'
   rw [he];refine ⟨v,?_,rfl⟩;have:=hlt t hdt;rw [hdt];simp [Act.put,hI.size,this]
  ·have hsame:(a.put o.dst v).tmps[t]? =a.tmps[t]? :=by
    cases hd:o.dst with
    |none=>rfl
    |some d=>
     have hne:d ≠ t:=fun e=>hdt (by rw [hd,e]);simp [Act.put,Array.getElem?_setIfInBounds_ne hne]
   rw [hsame];refine Lp.anyw (hex i t) (hI.sat i t hi fun j p hp hd=>?_);rw [hc j p hp hd];unfold add;by_cases hjk:j=k
   ·subst hjk;rw [ho] at hp;cases hp;exact absurd hd hdt
   ·rw [if_neg hjk]
theorem MZ {vs:List Value} (hEv:Es=vs.map .ex) {Q:Exit->Act->World->Prop} (hR:UK ops m) (hm:m <= ops.length) (hEs:Es.length=m)
 (hok:∀ i o v,i < m->ops[i]? =some o->vs[i]? =some v->∀ L,Et ops L->L i=false->(∀ e ∈ o.after.toList,Region.binds .any e=true->L e.on=true)->AK P n w0 ops.toArray (olf L) (olf (add L i)) (BM Es ops i dl) o v) (hex:∀ i t E,lk (BM Es ops i dl) t=some E->∃ v,E= .ex v)
 (hQ:∀ L a w,(∀ j,j < m->L j=true)->a.defers= []->a.tmps.size=n->Hp w0 w (olf L)->(∀ t,Lp (lk (BM Es ops m dl) t) a.tmps[t]? w)->wpList P ops.toArray Q (ops.drop m) a w):
 ∀ (fuel:Nat) (listed:Array Bool) (a:Act) (w:World),fuel=(ops.length - m) + ((List.range m).filter fun j=>!listed.getD j true).length->listed.size=ops.length->
  (∀ j,j < ops.length->m <= j->listed.getD j true=false)->O5 n w0 ops Es (olf (fun j=>decide (j < ops.length) && listed.getD j true)) dl (fun j=>decide (j < ops.length) && listed.getD j true) a w->wpAny P .any ops.toArray Q fuel listed a w:=by
 intro fuel
 induction fuel with
 |zero=>
  intro listed a w hf hs htail hI
  have hmm:ops.length=m:=by omega
  have hall:∀ j,j < m->listed.getD j true=true:=by
   intro j hj
   cases hb:listed.getD j true with
   |true=>rfl
   |false=>
    have h1:j ∈ (List.range m).filter fun j=>!listed.getD j true:=by rw [List.mem_filter];exact ⟨by simpa using hj,by rw [hb];rfl⟩
    have h2:=List.length_pos_of_mem h1;omega
  refine EJ hR 0 m listed a w (by omega) (Nat.le_refl _) hs (fun j hj=>⟨fun _=>by omega,fun hj'=>hall j hj'⟩) (hQ _ a w (fun j hj=>by simp [hall j hj];omega) hI.defers hI.size hI.hp fun t=>?_)
  exact hI.sat m t hm fun j o ho _=>by
   have:=(List.getElem?_eq_some_iff.1 ho).1;simp [this,hall j (by omega)];omega
 |succ fuel ih=>
  intro listed a w hf hs htail hI;by_cases hdone:∀ j,j < m->listed.getD j true=true
  ·have hz:((List.range m).filter fun j=>!listed.getD j true).length=0:=by
    rw [List.length_eq_zero_iff,List.filter_eq_nil_iff];intro j hj;have:=hdone j (by simpa using hj);rw [this];simp
   refine EJ hR (fuel + 1) m listed a w (by omega) (Nat.le_refl _) hs (fun j hj=>⟨fun h=>?_,fun hj'=>hdone j hj'⟩) (hQ _ a w (fun j hj=>by simp [hdone j hj];omega) hI.defers hI.size hI.hp fun t=>?_)
   ·rcases Nat.lt_or_ge j m with h' |h'
    ·exact h'
    ·rw [htail j hj h'] at h;cases h
   ·exact hI.sat m t hm fun j o ho _=>by
     have hj:=(List.getElem?_eq_some_iff.1 ho).1
     rcases Nat.lt_or_ge j m with h' |h'
     ·simp [hj,hdone j h',h']
     ·simp [htail j hj h'];omega
  ·
    have hready:∀ i ∈ Region.ready .any ops.toArray listed,∃ o,ops[i]? =some o/\i < ops.length/\listed.getD i true=false/\(∀ e ∈ o.after.toList,Region.binds .any e=true->(decide (e.on < ops.length) && listed.getD e.on true)=true):=by
     intro i hi;unfold Region.ready at hi;rw [List.mem_filter] at hi;obtain ⟨h1,h2⟩:=hi
     have hi':i < ops.length:=by simpa using h1
     obtain ⟨oi,hoi⟩:∃ oi,ops[i]? =some oi:=⟨_,List.getElem?_eq_getElem hi'⟩
     have hoi':ops.toArray[i]? =some oi:=by simpa using hoi
     simp only [Bool.and_eq_true,hoi',Option.map_some,Option.getD_some] at h2;obtain ⟨h2,h3⟩:=h2;rw [Array.all_eq_true_iff_forall_mem] at h3;refine ⟨oi,hoi,hi',by simpa using h2,fun e he hb=>?_⟩;have h4:=h3 e (by simpa using he);have h5:=hR.edges i oi hoi e he hb;simp only [hb,Bool.not_true,Bool.false_or] at h4
     have h6:e.on < listed.size:=by omega
     have h7:listed.getD e.on true=true:=by
      simp only [Array.getD,h6,dite_true] at h4 ⊢;exact h4
     simp [h7];omega
    refine ⟨fun h0=>?_,fun i hi=>?_⟩
    ·exfalso
     have hex:∃ j,j < m/\listed.getD j true=false:=by
      false_or_by_contra
      rename_i hne
      exact hdone fun j hj=>by
       cases hb:listed.getD j true with
       |true=>rfl
       |false=>exact absurd ⟨j,hj,hb⟩ hne
     obtain ⟨j,hj,hjb⟩:=hex
     have key:∀ j,j < m->listed.getD j true=false->False:=by
      intro j
      induction j using Nat.strongRecOn with
      |_ j ihj=>
       intro hj hjb
       have hjl:j < ops.length:=by omega
       obtain ⟨o,ho⟩:∃ o,ops[j]? =some o:=⟨_,List.getElem?_eq_getElem hjl⟩
       have hmem:j ∈ Region.ready .any ops.toArray listed:=by
        unfold Region.ready;rw [List.mem_filter];refine ⟨by simpa using hjl,?_⟩
        have ho':ops.toArray[j]? =some o:=by simpa using ho
        simp only [hjb,ho',Option.map_some,Option.getD_some,Bool.not_false,Bool.true_and];rw [Array.all_eq_true_iff_forall_mem];intro e he
        cases hb:Region.binds .any e with
        |false=>simp
        |true=>
         have h1:=hR.edges j o ho e (by simpa using he) hb
         have h3:e.on < listed.size:=by omega
         cases hb2:listed.getD e.on true with
         |true=>
          simp only [Array.getD,h3,dite_true] at hb2 ⊢;have h4:listed[e.on]=true:=hb2;simp [h4]
         |false=>exact (ihj e.on h1 (by omega) hb2).elim
       rw [h0] at hmem;cases hmem
     exact key j hj hjb
    ·obtain ⟨o,ho,hil,hib,hpre⟩:=hready i hi
     have him:i < m:=by
      rcases Nat.lt_or_ge i m with h' |h'
      ·exact h'
      ·exfalso;refine hdone fun j hj=>?_;obtain ⟨p,hp⟩:∃ p,ops[j]? =some p:=⟨_,List.getElem?_eq_getElem (by omega)⟩
       rcases hR.ahead _ hI.closed i o ho hpre j p hp (by omega) with h2 |⟨h2,_⟩
       ·simp only [Bool.and_eq_true] at h2;exact h2.2
       ·omega
     obtain ⟨v,hv⟩:∃ v,vs[i]? =some v:=⟨_,List.getElem?_eq_getElem (by rw [hEv,List.length_map] at hEs;omega)⟩
     have hE:Es[i]? =some (.ex v):=by rw [hEv,List.getElem?_map,hv];rfl
     have hLi:(decide (i < ops.length) && listed.getD i true)=false:=by rw [hib];simp
     have hD:=hok i o v him ho hv _ hI.closed hLi hpre;have hlooks:=hI.looks hR ho hLi hpre;obtain ⟨hyes,hno⟩:=hD.ok a w hI.defers hI.size hI.hp hlooks
     have hLadd:(fun j=>decide (j < ops.length) && (listed.setIfInBounds i true).getD j true)=add (fun j=>decide (j < ops.length) && listed.getD j true) i:=by
      funext j;unfold add;by_cases hji:j=i
      ·subst hji;simp [Array.getD,hs,hil]
      ·rw [if_neg hji];simp [Array.getD_eq_getD_getElem?,Array.getElem?_setIfInBounds_ne (Ne.symm hji)]
     have hnext:∀ w',Hp w0 w' (olf (add (fun j=>decide (j < ops.length) && listed.getD j true) i))->wpAny P .any ops.toArray Q fuel (listed.setIfInBounds i true) (a.put o.dst v) w':=by
      intro w' hp';refine ih _ _ _ ?_ (by simpa using hs) (fun j hj hmj=>?_) ?_
      ·have:((List.range m).filter fun j=>!(listed.setIfInBounds i true).getD j true).length + 1=((List.range m).filter fun j=>!listed.getD j true).length:=by
        have e1:((List.range m).filter fun j=>!listed.getD j true)=(List.range m).filter fun j=>!listed.getD j true:=rfl
        have hperm:=Dw (List.range m) List.nodup_range i (by simpa using him) (fun j=>!listed.getD j true) (fun j=>!(listed.setIfInBounds i true).getD j true) (by simp [hib]) (by simp [Array.getD,hs,hil]) (fun j hj=>by
         simp [Array.getD_eq_getD_getElem?,Array.getElem?_setIfInBounds_ne (Ne.symm hj)])
        exact hperm
       omega
      ·have hji:j ≠ i:=by omega
       have:=htail j hj hmj;simp only [Array.getD_eq_getD_getElem?] at this ⊢;rw [Array.getElem?_setIfInBounds_ne (Ne.symm hji)];exact this
      ·rw [hLadd];exact hI.stepS hR hex ho hLi hpre hE hD.lt hp'
     unfold wpOp
     have ho':ops.toArray[i]? =some o:=by simpa using ho
     simp only [ho'];split
     ·rename_i hw;left;exact Oper.wp_mono2 (fun a' w' ⟨h1,h2⟩=>by rw [h1];exact hnext w' h2) (fun _ _ _ h=>h.elim) (hyes hw)
     ·rename_i hw;obtain ⟨hu,h2⟩:=hno (by simpa using hw);rw [<-hu];exact hnext w h2
end
section
variable {P:Program} {tb:EU} {n:Nat} {w0:World} {all:Array Oper} {o:Oper} {dl:DL} {ol:OL} {l:FL} {K:FL->OL->Prop} {Q:B3} {v:Value}
theorem AK.ofD {d:Nat} (hd:o.dst=some d) (h:D P n w0 all [o] dl ol (fun dl'=>lk dl' d=some (.ex v))):AK P n w0 all ol ol dl o v:=by
 obtain ⟨E,h1,h2⟩:=h.out dl (fun _=>rfl);have h3:lk (Hz dl o.dst E) d=some (.ex v):=h2;rw [hd,Hz,Bl] at h3;cases h3;exact AK.of h1
theorem Aj {d:Nat}:D P n w0 all [] ((d,.ex v)::dl) ol (fun dl'=>lk dl' d=some (.ex v)):=
 U3 fun dl' he=>by rw [he];exact Bl _ _ _
theorem AK.store (ht:AW P tb) (i:Nat) {b off sz:Nat} {vs cs cs':List Value} {e:TypeId} {ol':OL} (hs:DO tb all (rs all o dl) o=some (b,off,vs,sz)) (hlen:vs.length=sz) (h1:∀ u ∈ vs,u.oneCell'=true)
 (hi:B9 ol i=some (.blk b (.cells ⟨cs⟩ e (0,0)) true)) (hm:Cp cs off vs=some cs') (ho:Dc ol i (.blk b (.cells ⟨cs'⟩ e (0,0)) true)=some ol'):AK P n w0 all ol ol' dl o undef:=by
 unfold DO at hs;split at hs
 ·rename_i hg;split at hs
  ·rename_i hd;split at hs
   ·rename_i t x y hop;split at hs
    ·rename_i ti hti;split at hs
     ·rename_i b' off' hx;split at hs
      ·rename_i v hy;split at hs
       ·rename_i vs' hv;simp at hs;obtain ⟨rfl,rfl,rfl,rfl⟩:=hs;obtain ⟨pre,post,e1,e2⟩:=CP hi ho;refine ⟨fun a w g1 g2 hh g4=>?_,fun d hd'=>by rw [hd] at hd';cases hd'⟩;have hrd:=KO g4;have hw:=Bb hrd hg;have hb:=hh.own _ (Af hi);refine ⟨fun _=>?_,(fun hn=>by rw [hw] at hn;cases hn)⟩
        have hr:(execOp a.eval o).run P w= .ok .skip (w.setRow b' ⟨cs'⟩):=by
         unfold execOp;simp [hop,hrd.ev hx,hrd.ev hy,Instr.storeAt,Instr.sureAddr,Ev ht hti hv hlen h1 hb hm]
        simp only [Oper.wp,hr,Oper.upon];refine ⟨trivial,?_⟩;rw [e1] at hh;rw [e2];exact hh.setRow rfl
       ·cases hs
      ·cases hs
     ·cases hs
    ·cases hs
   ·cases hs
  ·cases hs
 ·cases hs
def WR (Pr:Nat->Oper->Value->Prop):Nat->List Oper->List Value->Prop
 |_,[],_=>True
 |_,_::_,[]=>False
 |i,o::os,v::vs=>Pr i o v/\WR Pr (i + 1) os vs
theorem OP {Pr:Nat->Oper->Value->Prop}:∀ {os:List Oper} {vs:List Value} {k:Nat},WR Pr k os vs->∀ i o v,os[i]? =some o->vs[i]? =some v->Pr (k + i) o v
 | [],_,_,_,i,o,v,ho,_=>by simp at ho
 |_::_,[],_,h,_,_,_,_,_=>h.elim
 |x::os,y::vs,k,h,0,o,v,ho,hv=>by
  simp at ho hv;subst ho;subst hv;exact h.1
 |x::os,y::vs,k,h,i + 1,o,v,ho,hv=>by
  have:=OP h.2 i o v (by simpa using ho) (by simpa using hv)
  rwa [show k + (i + 1)=k + 1 + i by omega]
theorem Ci {id:Nat} {ops:List Oper} (hmix:P.follows .mixedOrders=true) (hreg:HN ops ops.length=true) (vs:List Value) (hvs:vs.length=ops.length) (olf:(Nat->Bool)->OL) (h0:olf (fun _=>false)=ol)
 (hok:WR (fun i o v=>∀ L,Et ops L->L i=false->(∀ e ∈ o.after.toList,Region.binds .any e=true->L e.on=true)->AK P n w0 ops.toArray (olf L) (olf (add L i)) (BM (vs.map .ex) ops i (Cl l)) o v) 0 ops vs)
 {l':FL} {ol':OL} (hend:∀ L,(∀ j,j < ops.length->L j=true)->olf L=ol') (hl:∀ t v,AP l' t=some v->lk (BM (vs.map .ex) ops ops.length (Cl l)) t=some (.ex v)) (k:K l' ol'):T P n w0 (.region id ops.toArray true) l ol (BK K Q):=by
 refine ⟨fun a w hf hh=>?_⟩;have hR:=Np hreg;refine wp_region_any hmix (MZ (n:=n) (w0:=w0) (olf:=olf) (Es:=vs.map .ex) (dl:=Cl l) (m:=ops.length) rfl hR (Nat.le_refl _) (by rw [List.length_map,hvs]) (fun i o v hi ho hv L h1 h2 h3=>?_) (fun i t E h=>Rb ops i vs (Cl l) (fun t E h=>?_) t E h) (fun L a w hL h1 h2 h3 h4=>?_) _ _ _ _ ?_ (by simp) ?_ ?_)
 ·have:=OP hok i o v ho hv;rw [Nat.zero_add] at this;exact this L h1 h2 h3
 ·rw [HW] at h
  cases hx:AP l t with
  |none=>rw [hx] at h;cases h
  |some u=>rw [hx] at h;cases h;exact ⟨u,rfl⟩
 ·rw [List.drop_length];rw [hend L hL] at h3;refine (Ag (P:=P) (n:=n) (w0:=w0) (all:=ops.toArray) (l:=l') (ol:=ol') (K:=K) (Q:=Q) k).out a w ⟨h1,h2,fun t v hv=>?_⟩ h3;have:=h4 t;rw [hl t v hv] at this;obtain ⟨u,hu,hu'⟩:=this;rw [hu,hu']
 ·simp only [List.size_toArray]
  have:((List.range ops.length).filter fun j=>!(Array.replicate ops.length false).getD j true)=List.range ops.length:=by
   rw [List.filter_eq_self];intro j hj
   have:j < ops.length:=by have:=List.mem_range.1 hj;omega
   simp [Array.getD,this]
  rw [this,List.length_range];omega
 ·intro j hj _;simp [Array.getD,hj]
 ·have hz:(fun j=>decide (j < ops.length) && (Array.replicate ops.length false).getD j true)=fun _=>false:=by
   funext j;by_cases hj:j < ops.length
   ·simp [Array.getD,hj]
   ·simp [hj]
  simp only [List.size_toArray];rw [hz,h0];refine ⟨hf.defers,hf.size,hh.drew,fun i o ho hi=>(by cases hi),fun i t hi hc=>?_⟩
  have hnone:lk (BM (vs.map .ex) ops i (Cl l)) t=lk (Cl l) t:=DT fun j o hj ho hd=>by
   have:=(hc j o ho hd).1 hj;cases this
  rw [hnone];exact JI hf t
end
section
variable {γ:Type} {P:Program} {n:Nat} {w0:World} {ops:List Oper}
def BT (f:Nat->Value × γ) (k:Nat) (v:Value × γ):Nat->Value × γ:=fun j=>if j=k then v else f j
def GB (ops:List Oper) (td:Nat->Option Value) (f:Nat->Value × γ):List EE:=(List.range ops.length).map fun i=>.ex ((td i).getD (f i).1)
theorem Uo {td:Nat->Option Value} {f:Nat->Value × γ} {i:Nat} (h:i < ops.length):(GB ops td f)[i]? =some (.ex ((td i).getD (f i).1)):=by
 unfold GB;rw [List.getElem?_map,List.getElem?_range h];rfl
theorem Ui {t:Option Value} {v:Value} (h:∀ u,t=some u->v=u):t.getD v=v:=by
 cases t with
 |none=>rfl
 |some u=>exact (h u rfl).symm
theorem Wn {td:Nat->Option Value} {f:Nat->Value × γ} {k:Nat} {v:Value × γ} (h:k < ops.length) (hv:∀ u,td k=some u->v.1=u):(GB ops td (BT f k v))[k]? =some (.ex v.1):=by
 rw [Uo h,BT,if_pos rfl,Ui hv]
theorem Gp {t k:Nat}:∀ (os:List Oper) (i:Nat) (A B:List EE) (dl dl':DL),A.length=B.length->(∀ j,j ≠ k->A[j]? =B[j]?)->(∀ o,os[k]? =some o->o.dst ≠ some t)->lk dl t=lk dl' t->lk (BM A os i dl) t=lk (BM B os i dl') t
 | [],i,A,B,dl,dl',_,_,_,h=>by cases i<;>cases A<;>cases B<;>exact h
 |o::os,0,A,B,dl,dl',_,_,_,h=>by rw [DG,DG];exact h
 |o::os,i + 1,[],[],dl,dl',_,_,_,h=>h
 |o::os,i + 1,[],y::B,dl,dl',hl,_,_,h=>by simp at hl
 |o::os,i + 1,x::A,[],dl,dl',hl,_,_,h=>by simp at hl
 |o::os,i + 1,x::A,y::B,dl,dl',hl,hab,ho,h=>by
  simp only [BM]
  have hdl:lk (Hz dl o.dst x) t=lk (Hz dl' o.dst y) t:=by
   cases hd:o.dst with
   |none=>exact h
   |some d=>
    by_cases hdt:d=t
    ·subst hdt
     cases k with
     |zero=>exact absurd hd (ho o rfl)
     |succ k=>
      have:=hab 0 (by omega);simp at this;rw [Hz,Hz,Bl,Bl,this]
    ·rw [Hz,Hz,BA hdt,BA hdt];exact h
  cases k with
  |zero=>
   have e:A=B:=List.ext_getElem? fun j=>by have:=hab (j + 1) (by omega);simpa using this
   subst e
   exact Gp (k:=A.length + os.length) os i A A _ _ rfl (fun _ _=>rfl) (fun o h=>by
    have:=(List.getElem?_eq_some_iff.1 h).1
    omega) hdl
  |succ k=>
   exact Gp (k:=k) os i A B _ _ (by simpa using hl) (fun j hj=>by have:=hab (j + 1) (by omega);simpa using this) (fun o h=>ho o (by simpa using h)) hdl
theorem Wm {td:Nat->Option Value} {f:Nat->Value × γ} {k i t:Nat} {v:Value × γ} {o:Oper} {dl:DL} (ho:ops[k]? =some o) (hd:¬ o.dst=some t):lk (BM (GB ops td (BT f k v)) ops i dl) t=lk (BM (GB ops td f) ops i dl) t:=
 Gp (k:=k) ops i _ _ dl dl (by simp [GB]) (fun j hj=>by
  unfold GB;rw [List.getElem?_map,List.getElem?_map]
  cases h:(List.range ops.length)[j]? with
  |none=>rfl
  |some x=>
   have:=(List.getElem?_eq_some_iff.1 h).2;rw [List.getElem_range] at this;subst this
   simp [BT,hj]) (fun o' h=>by rw [ho] at h;cases h;exact hd) rfl
structure Mm (P:Program) (n:Nat) (w0:World) (all:Array Oper) (o1:OL) (o2:Value × γ->OL) (dl:DL) (o:Oper) (tk:Option Value):Prop where
 ok:∀ a w,a.defers= []->a.tmps.size=n->Hp w0 w o1->(∀ t ∈ o.looksAt all,Lp (lk dl t) a.tmps[t]? w)->
  (Region.wanted o (yielded all a.tmps)=true->o.wp P a w (fun a' w'=>∃ v:Value × γ,(∀ u,tk=some u->v.1=u)/\a'=a.put o.dst v.1/\Hp w0 w' (o2 v)) (fun _ _ _=>False))/\(Region.wanted o (yielded all a.tmps)=false->(∀ u,tk=some u->undef=u)/\∃ g,Hp w0 w (o2 (undef,g)))
 lt:∀ d,o.dst=some d->d < n
variable {dl:DL} {L:Nat->Bool} {td:Nat->Option Value} {f:Nat->Value × γ} {a:Act} {w:World} {m:Nat} {olf:(Nat->Bool)->(Nat->Value × γ)->OL}
theorem O5.stepF (hI:O5 n w0 ops (GB ops td f) (olf L f) dl L a w) (hR:UK ops m) (hex:∀ (f:Nat->Value × γ) i t E,lk (BM (GB ops td f) ops i dl) t=some E->∃ v,E= .ex v) {k:Nat} {o:Oper} (ho:ops[k]? =some o) (hk:L k=false)
 (hpre:∀ e ∈ o.after.toList,Region.binds .any e=true->L e.on=true) {v:Value × γ} (hv:∀ u,td k=some u->v.1=u) (hlt:∀ d,o.dst=some d->d < n) {w':World} (hp':Hp w0 w' (olf (add L k) (BT f k v))):
 O5 n w0 ops (GB ops td (BT f k v)) (olf (add L k) (BT f k v)) dl (add L k) (a.put o.dst v.1) w':=by
 have hkl:k < ops.length:=(List.getElem?_eq_some_iff.1 ho).1;have hE:(GB ops td (BT f k v))[k]? =some (.ex v.1):=Wn hkl hv;refine ⟨?_,?_,hp',Hu hI.closed ho hpre,fun i t hi hc=>?_⟩
 ·cases hd:o.dst<;>simp [Act.put,hI.defers]
 ·cases hd:o.dst<;>simp [Act.put,hI.size]
 ·by_cases hdt:o.dst=some t
  ·have hki:k < i:=(hc k o ho hdt).2 (by simp [add])
   have he:lk (BM (GB ops td (BT f k v)) ops i dl) t=some (.ex v.1):=by
    refine EB (k:=k) ho hE hdt hki fun j p hj hji hp hd=>?_
    have hLj:L j=true:=by
     have:=(hc j p hp hd).1 hji;unfold add at this
     rwa [if_neg (by omega)] at this
    rcases hR.ahead L hI.closed j p hp (hI.closed j p hp hLj) k o ho hj with h' |⟨_,h'⟩
    ·rw [hk] at h';cases h'
    ·exact E8 hdt (.inr hd) h'
   rw [he];refine ⟨v.1,?_,rfl⟩;have:=hlt t hdt;rw [hdt];simp [Act.put,hI.size,this]
  ·have hsame:(a.put o.dst v.1).tmps[t]? =a.tmps[t]? :=by
    cases hd:o.dst with
    |none=>rfl
    |some d=>
     have hne:d ≠ t:=fun e=>hdt (by rw [hd,e]);simp [Act.put,Array.getElem?_setIfInBounds_ne hne]
   rw [hsame];rw [Wm ho hdt];refine Lp.anyw (hex f i t) (hI.sat i t hi fun j p hp hd=>?_);rw [hc j p hp hd];unfold add;by_cases hjk:j=k
   ·subst hjk;rw [ho] at hp;cases hp;exact absurd hd hdt
   ·rw [if_neg hjk]
theorem M0 {Q:Exit->Act->World->Prop} (hR:UK ops m) (hm:m <= ops.length) (hml:m=ops.length)
 (hok:∀ i o,i < m->ops[i]? =some o->∀ L f,Et ops L->L i=false->(∀ e ∈ o.after.toList,Region.binds .any e=true->L e.on=true)->Mm P n w0 ops.toArray (olf L f) (fun v=>olf (add L i) (BT f i v)) (BM (GB ops td f) ops i dl) o (td i)) (hex:∀ (f:Nat->Value × γ) i t E,lk (BM (GB ops td f) ops i dl) t=some E->∃ v,E= .ex v)
 (hQ:∀ L f a w,(∀ j,j < m->L j=true)->a.defers= []->a.tmps.size=n->Hp w0 w (olf L f)->(∀ t,Lp (lk (BM (GB ops td f) ops m dl) t) a.tmps[t]? w)->wpList P ops.toArray Q (ops.drop m) a w):
 ∀ (fuel:Nat) (f:Nat->Value × γ) (listed:Array Bool) (a:Act) (w:World),fuel=(ops.length - m) + ((List.range m).filter fun j=>!listed.getD j true).length->listed.size=ops.length->
  (∀ j,j < ops.length->m <= j->listed.getD j true=false)->O5 n w0 ops (GB ops td f) (olf (fun j=>decide (j < ops.length) && listed.getD j true) f) dl (fun j=>decide (j < ops.length) && listed.getD j true) a w->wpAny P .any ops.toArray Q fuel listed a w:=by
 intro fuel
 induction fuel with
 |zero=>
  intro f listed a w hf hs htail hI
  have hmm:ops.length=m:=by omega
  have hall:∀ j,j < m->listed.getD j true=true:=by
   intro j hj
   cases hb:listed.getD j true with
   |true=>rfl
   |false=>
    have h1:j ∈ (List.range m).filter fun j=>!listed.getD j true:=by rw [List.mem_filter];exact ⟨by simpa using hj,by rw [hb];rfl⟩
    have h2:=List.length_pos_of_mem h1;omega
  refine EJ hR 0 m listed a w (by omega) (Nat.le_refl _) hs (fun j hj=>⟨fun _=>by omega,fun hj'=>hall j hj'⟩) (hQ _ f a w (fun j hj=>by simp [hall j hj];omega) hI.defers hI.size hI.hp fun t=>?_)
  exact hI.sat m t hm fun j o ho _=>by
   have:=(List.getElem?_eq_some_iff.1 ho).1;simp [this,hall j (by omega)];omega
 |succ fuel ih=>
  intro f listed a w hf hs htail hI;by_cases hdone:∀ j,j < m->listed.getD j true=true
  ·have hz:((List.range m).filter fun j=>!listed.getD j true).length=0:=by
    rw [List.length_eq_zero_iff,List.filter_eq_nil_iff];intro j hj;have:=hdone j (by simpa using hj);rw [this];simp
   refine EJ hR (fuel + 1) m listed a w (by omega) (Nat.le_refl _) hs (fun j hj=>⟨fun h=>?_,fun hj'=>hdone j hj'⟩) (hQ _ f a w (fun j hj=>by simp [hdone j hj];omega) hI.defers hI.size hI.hp fun t=>?_)
   ·rcases Nat.lt_or_ge j m with h' |h'
    ·exact h'
    ·rw [htail j hj h'] at h;cases h
   ·exact hI.sat m t hm fun j o ho _=>by
     have hj:=(List.getElem?_eq_some_iff.1 ho).1
     rcases Nat.lt_or_ge j m with h' |h'
     ·simp [hj,hdone j h',h']
     ·simp [htail j hj h'];omega
  ·
    have hready:∀ i ∈ Region.ready .any ops.toArray listed,∃ o,ops[i]? =some o/\i < ops.length/\listed.getD i true=false/\(∀ e ∈ o.after.toList,Region.binds .any e=true->(decide (e.on < ops.length) && listed.getD e.on true)=true):=by
     intro i hi;unfold Region.ready at hi;rw [List.mem_filter] at hi;obtain ⟨h1,h2⟩:=hi
     have hi':i < ops.length:=by simpa using h1
     obtain ⟨oi,hoi⟩:∃ oi,ops[i]? =some oi:=⟨_,List.getElem?_eq_getElem hi'⟩
     have hoi':ops.toArray[i]? =some oi:=by simpa using hoi
     simp only [Bool.and_eq_true,hoi',Option.map_some,Option.getD_some] at h2;obtain ⟨h2,h3⟩:=h2;rw [Array.all_eq_true_iff_forall_mem] at h3;refine ⟨oi,hoi,hi',by simpa using h2,fun e he hb=>?_⟩;have h4:=h3 e (by simpa using he);have h5:=hR.edges i oi hoi e he hb;simp only [hb,Bool.not_true,Bool.false_or] at h4
     have h6:e.on < listed.size:=by omega
     have h7:listed.getD e.on true=true:=by
      simp only [Array.getD,h6,dite_true] at h4 ⊢;exact h4
     simp [h7];omega
    refine ⟨fun h0=>?_,fun i hi=>?_⟩
    ·exfalso
     have hex:∃ j,j < m/\listed.getD j true=false:=by
      false_or_by_contra
      rename_i hne
      exact hdone fun j hj=>by
       cases hb:listed.getD j true with
       |true=>rfl
       |false=>exact absurd ⟨j,hj,hb⟩ hne
     obtain ⟨j,hj,hjb⟩:=hex
     have key:∀ j,j < m->listed.getD j true=false->False:=by
      intro j
      induction j using Nat.strongRecOn with
      |_ j ihj=>
       intro hj hjb
       have hjl:j < ops.length:=by omega
       obtain ⟨o,ho⟩:∃ o,ops[j]? =some o:=⟨_,List.getElem?_eq_getElem hjl⟩
       have hmem:j ∈ Region.ready .any ops.toArray listed:=by
        unfold Region.ready;rw [List.mem_filter];refine ⟨by simpa using hjl,?_⟩
        have ho':ops.toArray[j]? =some o:=by simpa using ho
        simp only [hjb,ho',Option.map_some,Option.getD_some,Bool.not_false,Bool.true_and];rw [Array.all_eq_true_iff_forall_mem];intro e he
        cases hb:Region.binds .any e with
        |false=>simp
        |true=>
         have h1:=hR.edges j o ho e (by simpa using he) hb
         have h3:e.on < listed.size:=by omega
         cases hb2:listed.getD e.on true with
         |true=>
          simp only [Array.getD,h3,dite_true] at hb2 ⊢;have h4:listed[e.on]=true:=hb2;simp [h4]
         |false=>exact (ihj e.on h1 (by omega) hb2).elim
       rw [h0] at hmem;cases hmem
     exact key j hj hjb
    ·obtain ⟨o,ho,hil,hib,hpre⟩:=hready i hi
     have him:i < m:=by
      rcases Nat.lt_or_ge i m with h' |h'
      ·exact h'
      ·exfalso;refine hdone fun j hj=>?_;obtain ⟨p,hp⟩:∃ p,ops[j]? =some p:=⟨_,List.getElem?_eq_getElem (by omega)⟩
       rcases hR.ahead _ hI.closed i o ho hpre j p hp (by omega) with h2 |⟨h2,_⟩
       ·simp only [Bool.and_eq_true] at h2;exact h2.2
       ·omega
     have hLi:(decide (i < ops.length) && listed.getD i true)=false:=by rw [hib];simp
     have hD:=hok i o him ho _ f hI.closed hLi hpre;have hlooks:=hI.looks hR ho hLi hpre;obtain ⟨hyes,hno⟩:=hD.ok a w hI.defers hI.size hI.hp hlooks
     have hLadd:(fun j=>decide (j < ops.length) && (listed.setIfInBounds i true).getD j true)=add (fun j=>decide (j < ops.length) && listed.getD j true) i:=by
      funext j;unfold add;by_cases hji:j=i
      ·subst hji;simp [Array.getD,hs,hil]
      ·rw [if_neg hji];simp [Array.getD_eq_getD_getElem?,Array.getElem?_setIfInBounds_ne (Ne.symm hji)]
     have hnext:∀ (v:Value × γ) w',(∀ u,td i=some u->v.1=u)->Hp w0 w' (olf (add (fun j=>decide (j < ops.length) && listed.getD j true) i) (BT f i v))->wpAny P .any ops.toArray Q fuel (listed.setIfInBounds i true) (a.put o.dst v.1) w':=by
      intro v w' hv hp';refine ih (BT f i v) _ _ _ ?_ (by simpa using hs) (fun j hj hmj=>?_) ?_
      ·have:((List.range m).filter fun j=>!(listed.setIfInBounds i true).getD j true).length + 1=((List.range m).filter fun j=>!listed.getD j true).length:=by
        have e1:((List.range m).filter fun j=>!listed.getD j true)=(List.range m).filter fun j=>!listed.getD j true:=rfl
        have hperm:=Dw (List.range m) List.nodup_range i (by simpa using him) (fun j=>!listed.getD j true) (fun j=>!(listed.setIfInBounds i true).getD j true) (by simp [hib]) (by simp [Array.getD,hs,hil]) (fun j hj=>by
         simp [Array.getD_eq_getD_getElem?,Array.getElem?_setIfInBounds_ne (Ne.symm hj)])
        exact hperm
       omega
      ·have hji:j ≠ i:=by omega
       have:=htail j hj hmj;simp only [Array.getD_eq_getD_getElem?] at this ⊢;rw [Array.getElem?_setIfInBounds_ne (Ne.symm hji)];exact this
      ·rw [hLadd];exact hI.stepF hR hex ho hLi hpre hv hD.lt hp'
     unfold wpOp
     have ho':ops.toArray[i]? =some o:=by simpa using ho
     simp only [ho'];split
     ·rename_i hw;left;exact Oper.wp_mono2 (fun a' w' ⟨v,hv,h1,h2⟩=>by rw [h1];exact hnext v w' hv h2) (fun _ _ _ h=>h.elim) (hyes hw)
     ·rename_i hw;obtain ⟨h1,g,h2⟩:=hno (by simpa using hw);exact hnext (undef,g) w h1 h2
end
section
variable {γ:Type} {P:Program} {tb:EU} {n:Nat} {w0:World} {all:Array Oper} {o:Oper} {dl:DL} {ol:OL} {l:FL} {K:FL->OL->Prop} {Q:B3} {v:Value}
def Nb (Pr:Nat->Oper->Prop):Nat->List Oper->Prop
 |_,[]=>True
 |i,o::os=>Pr i o/\Nb Pr (i + 1) os
theorem OQ {Pr:Nat->Oper->Prop}:∀ {os:List Oper} {k:Nat},Nb Pr k os->∀ i o,os[i]? =some o->Pr (k + i) o
 | [],_,_,i,o,ho=>by simp at ho
 |x::os,k,h,0,o,ho=>by
  simp at ho;subst ho;exact h.1
 |x::os,k,h,i + 1,o,ho=>by
  have:=OQ h.2 i o (by simpa using ho)
  rwa [show k + (i + 1)=k + 1 + i by omega]
def Is (tds:List (Option Value)) (i:Nat):Option Value:=match tds[i]? with
 |some (some v)=>some v
 |_=>none
theorem L6 {id:Nat} {ops:List Oper} (hmix:P.follows .mixedOrders=true) (hreg:HN ops ops.length=true) (γ0:γ) (olf:(Nat->Bool)->(Nat->Value × γ)->OL) (h0:olf (fun _=>false) (fun _=>(undef,γ0))=ol)
 (tds:List (Option Value)) (hok:Nb (fun i o=>∀ L f,Et ops L->L i=false->(∀ e ∈ o.after.toList,Region.binds .any e=true->L e.on=true)->Mm P n w0 ops.toArray (olf L f) (fun v=>olf (add L i) (BT f i v)) (BM (GB ops (Is tds) f) ops i (Cl l)) o (Is tds i)) 0 ops)
 (hend:∀ L f w,(∀ j,j < ops.length->L j=true)->Hp w0 w (olf L f)->∃ l' ol',Bc l' (BM (GB ops (Is tds) f) ops ops.length (Cl l))/\Hp w0 w ol'/\K l' ol'):T P n w0 (.region id ops.toArray true) l ol (BK K Q):=by
 refine ⟨fun a w hf hh=>?_⟩;have hR:=Np hreg;refine wp_region_any hmix (M0 (n:=n) (w0:=w0) (olf:=olf) (td:=Is tds) (dl:=Cl l) (m:=ops.length) hR (Nat.le_refl _) rfl (fun i o hi ho L f h1 h2 h3=>?_) (fun f i t E h=>Rb ops i ((List.range ops.length).map fun i=>(Is tds i).getD (f i).1) (Cl l) (fun t E h=>?_) t E (by rw [List.map_map];exact h)) (fun L f a w hL h1 h2 h3 h4=>?_) _ (fun _=>(undef,γ0)) _ _ _ ?_ (by simp) ?_ ?_)
 ·have:=OQ hok i o ho;rw [Nat.zero_add] at this;exact this L f h1 h2 h3
 ·rw [HW] at h
  cases hx:AP l t with
  |none=>rw [hx] at h;cases h
  |some u=>rw [hx] at h;cases h;exact ⟨u,rfl⟩
 ·rw [List.drop_length];obtain ⟨l',ol',e1,e2,e3⟩:=hend L f w hL h3;refine (Ag (P:=P) (n:=n) (w0:=w0) (all:=ops.toArray) (l:=l') (ol:=ol') (K:=K) (Q:=Q) e3).out a w ⟨h1,h2,fun t v hv=>?_⟩ e2;have:=h4 t;rw [e1 t v hv] at this;obtain ⟨u,hu,hu'⟩:=this;rw [hu,hu']
 ·simp only [List.size_toArray]
  have:((List.range ops.length).filter fun j=>!(Array.replicate ops.length false).getD j true)=List.range ops.length:=by
   rw [List.filter_eq_self];intro j hj
   have:j < ops.length:=by have:=List.mem_range.1 hj;omega
   simp [Array.getD,this]
  rw [this,List.length_range];omega
 ·intro j hj _;simp [Array.getD,hj]
 ·have hz:(fun j=>decide (j < ops.length) && (Array.replicate ops.length false).getD j true)=fun _=>false:=by
   funext j;by_cases hj:j < ops.length
   ·simp [Array.getD,hj]
   ·simp [hj]
  simp only [List.size_toArray];rw [hz,h0];refine ⟨hf.defers,hf.size,hh.drew,fun i o ho hi=>(by cases hi),fun i t hi hc=>?_⟩
  have hnone:lk (BM (GB ops (Is tds) fun _=>(undef,γ0)) ops i (Cl l)) t=lk (Cl l) t:=DT fun j o hj ho hd=>by
   have:=(hc j o ho hd).1 hj;cases this
  rw [hnone];exact JI hf t
end
def H0 (p:Prop):HE:=.rep (fun _=>p) (fun _=>False) false
theorem Hp.addF {w0 w:World} {o:OL} {p:Prop} (h:Hp w0 w o) (hp:p):Hp w0 w (H0 p::o):=
 h.more ⟨hp,fun _ _ _ _=>hp,fun k hk=>hk.elim⟩ fun e he hr k hk=>hk.elim
theorem Hp.fact {w0 w:World} {o:OL} {p:Prop} (h:Hp w0 w o) (i:Nat) (hi:B9 o i=some (H0 p)):p:=(h.own _ (Af hi)).1
section
variable {γ:Type} {P:Program} {tb:EU} {n:Nat} {w0:World} {all:Array Oper} {o:Oper} {dl:DL} {ol:OL} {o2:Value × γ->OL} {tk:Option Value}
theorem Mm.pre {X:Prop} (hx:∀ w,Hp w0 w ol->X) (hl:∀ d,o.dst=some d->d < n) (h:X->Mm P n w0 all ol o2 dl o tk):Mm P n w0 all ol o2 dl o tk:=
 ⟨fun a w h1 h2 h3 h4=>(h (hx w h3)).ok a w h1 h2 h3 h4,hl⟩
end
section
variable {γ:Type} {P:Program} {n:Nat} {w0:World} {all:Array Oper} {o:Oper} {dl dl':DL} {ol:OL} {o2:Value × γ->OL} {tk:Option Value}
end
inductive Au (w0:World):OL->OL->Prop
 |nil:Au w0 [] []
 |keep {e:HE} {o' o:OL}:Au w0 o' o->Au w0 (e::o') (e::o)
 |dropB {b:Nat} {x:Obj} {r:Bool} {o' o:OL}:w0.heap.size <= b->Au w0 o' o->Au w0 o' (.blk b x r::o)
 |dropR {Φ:World->Prop} {F:Nat->Prop} {o' o:OL}:Au w0 o' o->Au w0 o' (.rep Φ F false::o)
 |dropW {base:Nat} {v:Value} {e:TypeId} {sz n:Nat} {xs:List Value} {o' o:OL}:w0.heap.size <= base->Au w0 o' o->Au w0 o' (.row base v e sz n xs::o)
theorem Au.sub {w0:World} {o' o:OL} (h:Au w0 o' o):o'.Sublist o:=by
 induction h with
 |nil=>exact List.Sublist.slnil
 |keep _ ih=>exact ih.cons_cons _
 |dropB _ _ ih=>exact ih.cons _
 |dropR _ ih=>exact ih.cons _
 |dropW _ _ ih=>exact ih.cons _
theorem Au.new {w0 w:World} {o' o:OL} (h:Au w0 o' o) (ho:∀ e ∈ o,e.holds w):∀ e ∈ o,e ∈ o' \/ (e.ex=true->∀ k,e.has k->w0.heap.size <= k):=by
 induction h with
 |nil=>exact fun e he=>(by cases he)
 |keep _ ih=>
  intro e he
  rcases List.mem_cons.1 he with rfl |he
  ·exact .inl List.mem_cons_self
  ·exact (ih (fun e he=>ho e (List.mem_cons_of_mem _ he)) e he).imp (List.mem_cons_of_mem _) id
 |dropB hb _ ih=>
  intro e he
  rcases List.mem_cons.1 he with rfl |he
  ·exact .inr fun _ k hk=>by simp only [HE.has,Option.some.injEq] at hk;omega
  ·exact ih (fun e he=>ho e (List.mem_cons_of_mem _ he)) e he
 |dropR _ ih=>
  intro e he
  rcases List.mem_cons.1 he with rfl |he
  ·exact .inr fun hx=>(by cases hx)
  ·exact ih (fun e he=>ho e (List.mem_cons_of_mem _ he)) e he
 |dropW hb _ ih=>
  intro e he
  rcases List.mem_cons.1 he with rfl |he
  ·exact .inr fun _ k hk=>Nat.le_trans hb (World.ownsRow.lt (ho _ List.mem_cons_self) k hk).1
  ·exact ih (fun e he=>ho e (List.mem_cons_of_mem _ he)) e he
theorem Hp.less {w0 w:World} {o' o:OL} (h:Hp w0 w o) (hl:Au w0 o' o):Hp w0 w o':=
 ⟨h.os,h.tape,h.output,h.size,fun k hk hk'=>h.old k hk fun e he hx hh=>by
  rcases hl.new h.own e he with h1 |h1
  ·exact hk' e h1 hx hh
  ·have:=h1 hx k hh
   omega,fun e he=>h.own e (hl.sub.subset he),h.apart.sublist hl.sub⟩
theorem Hp.startV {w:World} {b:Nat} {x:Obj} {p:Vp} {A:Nat->Prop} {v:Value} (hb:w.heap[b]? =some x) (hv:p.at_ w A v) (ha:¬ A b):∃ F:Nat->Prop,(∀ k,F k->A k)/\Hp w w [.blk b x true,.rep (fun w=>p.at_ w F v) F false]:=by
 obtain ⟨F,hF0⟩:∃ F:Nat->Prop,F=fun k=>A k/\k < w.heap.size:=⟨_,rfl⟩;have hF:p.at_ w F v:=p.keep hv fun k hk hlt=>⟨rfl,by rw [hF0];exact ⟨hk,hlt⟩⟩
 have h1:Hp w w [.rep (fun w=>p.at_ w F v) F false]:=
  (Hp.refl w).more ⟨hF,fun w1 w2 h1 h2=>p.keep h2 fun k hk _=>⟨h1 k hk,hk⟩,fun k hk=>by rw [hF0] at hk;exact hk.2⟩ fun e he=>(by cases he)
 refine ⟨F,fun k hk=>by rw [hF0] at hk;exact hk.1,h1.more (x:=.blk b x true) hb fun e he _ k hk hk'=>?_⟩;rw [List.mem_singleton] at he;subst he;simp only [HE.has,Option.some.injEq] at hk;subst hk;have hk2:F b:=hk';rw [hF0] at hk2;exact ha hk2.1
theorem Qz {n:Int} (h:-9223372036854775808 <= n/\n <= 9223372036854775807):AS .i64 n:=by simpa [AS,IntKind.min,IntKind.max,IntKind.signed,IntKind.bits] using h
theorem Vn {n:Int} (h:0 <= n/\n <= 18446744073709551615):AS .u64 n:=by simpa [AS,IntKind.min,IntKind.max,IntKind.signed,IntKind.bits] using h
theorem EY {P:Program} {n:Nat} {w0:World} {c:Code} {l:FL} {ol:OL} {Q:B3} {X:Prop} (hx:∀ w,Hp w0 w ol->X) (k:X->T P n w0 c l ol Q):T P n w0 c l ol Q:=
 ⟨fun a w hf hh=>(k (hx w hh)).out a w hf hh⟩
theorem WI {P:Program} {n:Nat} {w0:World} {all:Array Oper} {os:List Oper} {l:FL} {ol:OL} {K:FL->OL->Prop} {Q:B3} {p:Prop} (h:∀ w,Hp w0 w ol->p) (k:p->S P n w0 all os l ol K Q):S P n w0 all os l ol K Q:=
 ⟨fun a w hf hh=>(k (h w hh)).out a w hf hh⟩
theorem Fi {P:Program} {n:Nat} {w0:World} {all:Array Oper} {os:List Oper} {l:FL} {ol:OL} {K:FL->OL->Prop} {Q:B3} (i:Nat) {a:Option Addr} {m c base sz:Nat} {e:TypeId} {xs:List Value} (hi:B9 ol i=some (.row base (.slice a m c) e sz m xs)) (hm:0 < m)
 (k:∀ b,a=some ⟨b,0,none⟩->S P n w0 all os l ol K Q):S P n w0 all os l ol K Q:=
 ⟨fun ac w hf hh=>by
  obtain ⟨_,h2⟩:w.ownsRow base e sz (.slice a m c) m xs:=hh.own _ (Af hi)
  rcases h2 with ⟨h2,h3⟩ |⟨g,cap,cur,h2,_⟩
  ·omega
  ·cases h2
   exact (k g rfl).out ac w hf hh⟩
def Cj {α:Type} (R:Eh α) (css:List (List Value)) (l:List α):Vp:=
 ⟨fun w A _=>css.length=l.length/\∀ (i:Nat) (cs:List Value) (x:α),css[i]? =some cs->l[i]? =some x->R.at_ w A cs x,
  fun ⟨h1,h2⟩ hk=>⟨h1,fun i cs x hi hx=>R.keep (h2 i cs x hi hx) hk⟩⟩
theorem Cj.nil_ {α:Type} {R:Eh α} {w:World} {A:Nat->Prop} {v:Value}:(Cj R [] ([]:List α)).at_ w A v:=⟨rfl,fun i cs x h=>by simp at h⟩
theorem Cj.snoc {α:Type} {R:Eh α} {w:World} {A:Nat->Prop} {v u:Value} {css:List (List Value)} {l:List α} {cs:List Value} {x:α} (h:(Cj R css l).at_ w A v) (hx:R.at_ w A cs x):(Cj R (css ++ [cs]) (l ++ [x])).at_ w A u:=by
 obtain ⟨h1,h2⟩:=h;refine ⟨by simp [h1],fun i ds y hi hy=>?_⟩
 rcases Nat.lt_or_ge i css.length with h |h
 ·rw [List.getElem?_append_left h] at hi;rw [List.getElem?_append_left (by omega)] at hy;exact h2 i ds y hi hy
 ·rw [List.getElem?_append_right h] at hi;rw [List.getElem?_append_right (by omega)] at hy
  have hi0:i - css.length=0:=by
   have:=(List.getElem?_eq_some_iff.1 hi).1;simp at this;omega
  rw [<-h1] at hy;rw [hi0] at hi hy;simp only [List.getElem?_cons_zero,Option.some.injEq] at hi hy;subst hi;subst hy;exact hx
theorem Cj.szs {α:Type} {R:Eh α} {w:World} {A:Nat->Prop} {v:Value} {css:List (List Value)} {l:List α} (h:(Cj R css l).at_ w A v):∀ c ∈ css,c.length=R.sz:=LZ h.1 h.2
theorem Cj.slr {α:Type} {R:Eh α} {w:World} {F:Nat->Prop} {v:Value} {css:List (List Value)} {l:List α} {base:Nat} {E:TypeId} {a:Option Addr} {n c:Nat} (h:(Cj R css l).at_ w F v) (hr:w.ownsRow base E R.sz (.slice a n c) n css.flatten) (hn:l.length=n) (hA:∀ k,base <= k->(Value.slice a n c).ownBlock=some k->F k):Br R w F a n c l:=by
 obtain ⟨A',C',e',h1,h2⟩:=Cy hr;cases e';refine ⟨hn,h1,h2,fun ha=>?_,⟨css,h.1.trans hn,h.2,Sl.of_own hr⟩,fun hn=>?_⟩
 ·obtain ⟨_,h3⟩:=hr
  rcases h3 with ⟨e2,_⟩ |⟨g,cap,cur,e2,_⟩
  ·cases e2;exact ⟨rfl,by omega⟩
  ·cases e2;cases ha
 ·obtain ⟨_,h3⟩:=hr
  rcases h3 with ⟨e2,_⟩ |⟨g,cap,cur,e2,hb,_⟩
  ·cases e2;omega
  ·cases e2;exact ⟨g,0,rfl,hA g hb rfl⟩
theorem Cn {w:World} {base:Nat} {e:TypeId} {sz b c n:Nat} {xs:List Value} (h:w.ownsRow base e sz (.slice (some ⟨b,0,none⟩) n c) n xs) (hn:0 < n) {j:Nat} {u:Value} (hu:xs[j]? =some u):w.cell? ⟨b,j,none⟩=some u:=by
 obtain ⟨b',off,e,_,hc⟩:=(Sl.of_own h).get hn;cases e;have:=hc j u hu
 rwa [Nat.zero_add] at this
inductive D0 (ts:List Tmp) (dl:DL):FL->Prop
 |nil:D0 ts dl []
 |cons {t:Nat} {v:Value} {l:FL} (h1:ts.contains t=true) (h2:lk dl t=some (.ex v)) (h:D0 ts dl l):D0 ts dl ((t,v)::l)
theorem D0.get {ts:List Tmp} {dl:DL} {l:FL} (h:D0 ts dl l) {t:Nat} {v:Value} (hl:AP l t=some v):t ∈ ts/\lk dl t=some (.ex v):=by
 induction h with
 |nil=>cases hl
 | @cons k u l h1 h2 h ih=>
  by_cases hkt:k=t
  ·subst hkt;rw [B6] at hl;cases hl;exact ⟨by simpa using h1,h2⟩
  ·rw [BU hkt] at hl;exact ih hl
theorem Oper.wp_put {P:Program} {o:Oper} {a:Act} {w:World} {R:Act->World->Prop} {Q:Exit->Act->World->Prop} (h:o.wp P a w R Q) (hd:∀ a' w',R a' w'->a'.defers= []) (hq:∀ e a w,e ≠ Exit.normal->Q e a w->False) (ha:a.defers= []):o.wp P a w (fun a' w'=>(∃ v,a'=a.put o.dst v)/\R a' w') (fun _ _ _=>False):=by
 unfold Oper.wp at *;generalize (execOp a.eval o).run P w=r at *
 cases r with
 |ok x w'=>
  cases x<;>simp only [Oper.upon] at h ⊢<;>try exact ⟨⟨_,rfl⟩,h⟩
  ·refine Calls.mono h fun e w'' he=>?_
   cases e with
   |returned v=>exact ⟨⟨_,rfl⟩,he⟩
   |panicked c=>exact hq _ _ _ (fun h=>by cases h) he
   |outgrown=>obtain ⟨a',w3,h3⟩:=he;exact (hq _ _ _ (fun h=>by cases h) h3).elim
  ·have:=hd _ _ h;cases hdst:o.dst<;>rw [hdst] at this<;>simp [Act.put] at this
  ·exact Rows.mono h fun v w'' he=>⟨⟨_,rfl⟩,he⟩
 |halt x w'=>
  cases x<;>simp only [Oper.upon] at h ⊢;exact hq _ _ _ (fun h=>by cases h) h
section
variable {γ:Type} {P:Program} {n:Nat} {w0:World} {all:Array Oper} {o:Oper} {dl:DL} {ol:OL} {o2:Value × γ->OL} {tk:Option Value}
theorem Mm.ofS {l:FL} {d:Nat} (hd:o.dst=some d) (hn:d < n) (hl:D0 (o.looksAt all) dl l)
 (h:S P n w0 all [o] l ol (fun l' ol'=>∃ v g,AP l' d=some v/\(∀ u,tk=some u->v=u)/\∀ w,Hp w0 w ol'->Hp w0 w (o2 (v,g))) (fun _ _ _=>False)):Mm P n w0 all ol o2 dl o tk:=by
 refine ⟨fun a w h1 h2 h3 h4=>?_,fun d' hd'=>by rw [hd] at hd';cases hd';exact hn⟩
 have hfr:Fr a n l:=⟨h1,h2,fun t v ht=>by
  obtain ⟨g1,g2⟩:=hl.get ht;have:=h4 t g1;rw [g2] at this;obtain ⟨u,hu1,hu2⟩:=this
  rw [hu1,hu2]⟩
 have hw:=h.out a w hfr h3;obtain ⟨K,hK⟩:∃ K:FL->OL->Prop,K=fun l' ol'=>∃ v g,AP l' d=some v/\(∀ u,tk=some u->v=u)/\∀ w,Hp w0 w ol'->Hp w0 w (o2 (v,g)):=⟨_,rfl⟩;rw [<-hK] at hw
 have hno:∀ e a w,e ≠ Exit.normal->Cr n w0 (BK K (fun _ _ _=>False)) e a w->False:=fun e a w he hh=>by
  unfold Cr BK at hh;obtain ⟨l',o',_,_,h9⟩:=hh
  cases e<;>first |exact he rfl |exact h9
 unfold wpList at hw
 have hput:∀ v,(a.put o.dst v).tmps[d]? =some v:=fun v=>by
  rw [hd];simp [Act.put,h2,hn]
 constructor
 ·intro hwant;rw [if_pos hwant] at hw
  have hw2:o.wp P a w (wpList P all (Cr n w0 (BK K (fun _ _ _=>False))) []) (Cr n w0 (BK K (fun _ _ _=>False))):=by
   rcases hw with hw |⟨_,a',w',h9⟩
   ·exact hw
   ·exact (hno _ _ _ (fun h=>by cases h) h9).elim
  refine Oper.wp_mono2 (fun a' w' hr=>?_) (fun _ _ _ h=>h) (Oper.wp_put hw2 (fun a' w' hr=>by
   unfold wpList Cr at hr;obtain ⟨l',o',hf,_,_⟩:=hr
   exact hf.defers) hno h1)
  unfold wpList Cr BK at hr;obtain ⟨⟨v,hv⟩,l',o',hf,hh,hk⟩:=hr;dsimp only at hk;rw [hK] at hk;obtain ⟨u,g,g1,g2,g3⟩:=hk
  have hvu:v=u:=by
   have e1:=hf.get d u g1;rw [hv,hput v] at e1;exact Option.some.inj e1
  subst hvu;exact ⟨(v,g),g2,hv,g3 w' hh⟩
 ·intro hwant;rw [if_neg (by rw [hwant];decide)] at hw;unfold wpList Cr BK at hw;obtain ⟨l',o',hf,hh,hk⟩:=hw;dsimp only at hk;rw [hK] at hk;obtain ⟨u,g,g1,g2,g3⟩:=hk
  have hvu:undef=u:=by
   have e1:=hf.get d u g1;rw [hput undef] at e1;exact Option.some.inj e1
  subst hvu;exact ⟨g2,g,g3 w hh⟩
end
theorem Ca {P:Program} {n:Nat} {w0:World} {c:Code} {l:FL} {ol:OL} {Q:B3} (h:T P n w0 c l ol (BK (fun l o=>Q .normal l o) Q)):T P n w0 c l ol Q:=
 WC h fun e l o hq=>by
  unfold BK at hq;cases e<;>exact hq
theorem Hp.regroup {w0 w:World} (A A':OL) {ol:OL} (h:Hp w0 w (A ++ ol)) (hA:∀ e ∈ A,e.ex=true) (hA':∀ e ∈ A',e.ex=true/\e.holds w) (hd:A'.Pairwise PZ) (h1:∀ e ∈ A',∀ k,e.has k->∃ e' ∈ A,e'.has k) (h2:∀ e ∈ A,∀ k,e.has k->w0.heap.size <= k \/ ∃ e' ∈ A',e'.has k):Hp w0 w (A' ++ ol):=by
 have hap:=List.pairwise_append.1 h.apart;refine ⟨h.os,h.tape,h.output,h.size,fun k hk he=>h.old k hk fun e hm hx hh=>?_,fun e hm=>?_,List.pairwise_append.2 ⟨hd,hap.2.1,fun e he e2 he2 _ k hk hk2=>?_⟩⟩
 ·rcases List.mem_append.1 hm with hm |hm
  ·rcases h2 e hm k hh with h3 |⟨e',he',h3⟩
   ·omega
   ·exact he e' (List.mem_append_left _ he') (hA' e' he').1 h3
  ·exact he e (List.mem_append_right _ hm) hx hh
 ·rcases List.mem_append.1 hm with hm |hm
  ·exact (hA' e hm).2
  ·exact h.own e (List.mem_append_right _ hm)
 ·obtain ⟨e',he',h3⟩:=h1 e he k hk;exact hap.2.2 e' he' e2 he2 (by rw [hA e' he'];rfl) k h3 hk2
theorem IB {w0:World} {Φ:World->Prop} {F:Nat->Prop} {r:Bool} {ol:OL} (h:∀ k,F k->w0.heap.size <= k) (hs:∀ e ∈ ol,e.ex=true->∀ k,e.has k->w0.heap.size <= k):∀ e ∈ HE.rep Φ F r::ol,e.ex=true->∀ k,e.has k->w0.heap.size <= k:=fun e he=>by
 rcases List.mem_cons.1 he with rfl |he
 ·exact fun _ k hk=>h k hk
 ·exact hs e he
theorem M6 {P:Program} {n:Nat} {w0:World} {c:Code} {l:FL} {ol:OL} {Q:B3} {ι:Type} (I:ι->Prop) (O:ι->OL) (h:∀ w,Hp w0 w ol->∃ i,I i/\Hp w0 w (O i)) (k:∀ i,I i->T P n w0 c l (O i) Q):T P n w0 c l ol Q:=
 ⟨fun a w hf hh=>by
  obtain ⟨i,h1,h2⟩:=h w hh
  exact (k i h1).out a w hf h2⟩
theorem Lq {P:Program} {n:Nat} {w0:World} {all:Array Oper} {os:List Oper} {l:FL} {ol:OL} {K:FL->OL->Prop} {Q:B3} {ι:Type} (I:ι->Prop) (O:ι->OL) (h:∀ w,Hp w0 w ol->∃ i,I i/\Hp w0 w (O i)) (k:∀ i,I i->S P n w0 all os l (O i) K Q):S P n w0 all os l ol K Q:=
 ⟨fun a w hf hh=>by
  obtain ⟨i,h1,h2⟩:=h w hh
  exact (k i h1).out a w hf h2⟩
section
variable {P:Program} {tb:EU} {n:Nat} {w0:World} {all:Array Oper} {os:List Oper} {o:Oper} {l:FL} {ol:OL} {K:FL->OL->Prop} {Q:B3} {d:Nat}
theorem WH (ht:AW P tb) {t e:TypeId} {x y:Operand} {kl kc:IntKind} {m c:Nat} {li ci:Int} {ti te:TI} (hs:BV n all (AP l) o=some (d,.makeSlice t x y)) (hx:ev (AP l) x=some (.int kl li)) (hy:ev (AP l) y=some (.int kc ci)) (hti:tl tb t=some ti) (hd:ti.desc= .slice e) (hte:tl tb e=some te)
 (hl:li=(m:Int)) (hc:ci=(c:Int)) (hmc:m <= c) (hbytes:te.bytes * c <= 281474976710656) (h63:c <= 9223372036854775807)
 (k:∀ b,w0.heap.size <= b->S P n w0 all os ((d,.slice (some ⟨b,0,none⟩) m c)::l) (.blk b (.cells ⟨(madeCells te.zero.cells (c * te.size)).toList⟩ e (0,0)) true::ol) K Q):S P n w0 all (o::os) l ol K Q:=by
 obtain ⟨hdst,hlt,hg,hop⟩:=CE hs;refine ⟨fun a w hf hh=>?_⟩;obtain ⟨inf,hinf,hz,hs1,hs2⟩:=(ht e te hte).2;have hu:=ht.under' hti;rw [hd] at hu;subst hl;subst hc
 have hb':(inf.bytes:Int) * (c:Int) <= 281474976710656:=by
  rw [hs2]
  have h:((te.bytes * c:Nat):Int) <= 281474976710656:=by omega
  rwa [Int.natCast_mul] at h
 have hr:=run_make (P:=P) w t e inf te.zero hu hinf hz kl kc (m:Int) (c:Int) (by omega) (by omega) hb' (by omega);simp only [Int.toNat_natCast,hs1] at hr;refine B4 (v:=.slice (some ⟨w.heap.size,0,none⟩) m c) (Bb hf.rd hg) ?_ ?_ (w':=w.alloc (.cells (madeCells te.zero.cells (c * te.size)) e))
 ·unfold execOp;simp only [hop,hf.rd.ev hx,hf.rd.ev hy,Sem.run_bind,hr,Result.andThen_ok,Sem.run_pure]
 ·rw [hdst];exact (k w.heap.size hh.size).out _ _ (hf.put hlt _) (hh.alloc _)
end
end Go.Proofs.YtidhpofcofknhaaGreat
