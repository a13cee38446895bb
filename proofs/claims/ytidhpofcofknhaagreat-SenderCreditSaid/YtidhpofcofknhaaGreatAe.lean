/-
  An engine of rules for walks, part Ae: a region that draws, as in Ad, whose last operation in the fixed order waits for all others: a block that it turns may be asked till then. No program's text; conditions: each theorem's own. An engine of rules for walks, part Af: a region that draws, of whose operations some have effects and stand in a partial order: whichever of them may come next is stepped by the ordinary rules; all others compute from slots, or from blocks that stay as long as they are asked. No program's text; conditions: each theorem's own.
  Conditions: each theorem's own.
-/
import Derived.Test.YtidhpofcofknhaaGreatSa
namespace Go.Proofs.YtidhpofcofknhaaGreat
open Go Go.RowKit
set_option linter.unusedVariables false
section
variable {P:Program} {n:Nat} {w0:World} {ops:List Oper} {K:FL->OL->Prop} {Q:B3} {l:FL} {ol:OL}
def SN (P:Program) (n:Nat) (w0:World) (ops:List Oper) (l:FL) (td:Nat->Option Value) (B:OL) (K:FL->OL->Prop):List Nat->(Nat->Value × OL)->OL->Prop
 | [],f,ol=>∃ l',Bc l' (BM (GB ops td f) ops ops.length (Cl l))/\K l' ol
 |i::r,f,ol=>Di w0 B ol/\∃ o lo,ops[i]? =some o/\D0 (o.looksAt ops.toArray) (BM (GB ops td f) ops i (Cl l)) lo/\S P n w0 ops.toArray [o] lo ol (fun l' ol'=>∃ v,Gh o l' v/\(∀ u,td i=some u->v=u)/\SN P n w0 ops l td B K r (BT f i (v,ol')) ol') (fun _ _ _=>False)
theorem SN.base {td:Nat->Option Value} {B:OL} {i:Nat} {r:List Nat} {f:Nat->Value × OL} {ol:OL} (h:SN P n w0 ops l td B K (i::r) f ol):Di w0 B ol:=by
 unfold SN at h;exact h.1
theorem SN.congr {td:Nat->Option Value} {B:OL}:∀ {r:List Nat} {f g:Nat->Value × OL} {ol:OL},(∀ j,(∃ u,td j=some u) \/ f j=g j)->SN P n w0 ops l td B K r f ol->SN P n w0 ops l td B K r g ol
 | [],f,g,ol,hfg,h=>by
  unfold SN at h ⊢;rw [<-Jl hfg];exact h
 |i::r,f,g,ol,hfg,h=>by
  unfold SN at h ⊢;rw [<-Jl hfg];obtain ⟨h1,o,lo,h2,h3,h5⟩:=h;refine ⟨h1,o,lo,h2,h3,⟨fun a w hf hh=>?_⟩⟩;have:=h5.out a w hf hh;refine C8 (fun e a w hl=>FC (fun e l o he=>?_) e a w hl) _ _ _ this;unfold BK at he ⊢
  cases e with
  |normal=>
   obtain ⟨v,q1,q2,q3⟩:=he
   exact ⟨v,q1,q2,SN.congr (fun j=>by
    unfold BT;by_cases e:j=i
    ·rw [if_pos e,if_pos e];exact .inr rfl
    ·rw [if_neg e,if_neg e];exact hfg j) q3⟩
  |_=>exact he
theorem Lg {L:Nat->Bool}:∀ {sp:List Nat},Ck L sp=sp.length->∀ j ∈ sp,L j=true
 | [],_,j,hj=>by cases hj
 |a::sp,h,j,hj=>by
  rw [Ck] at h
  cases ha:L a with
  |false=>rw [ha] at h;cases h
  |true=>
   rw [ha] at h
   rcases List.mem_cons.1 hj with rfl |hj
   ·exact ha
   ·exact Lg (Nat.succ.inj h) j hj
theorem OT {id:Nat} (hmix:P.follows .mixedOrders=true) (hreg:HN ops ops.length=true) (sp:List Nat) (hsp:GE (CN ops []) sp=true) (hin:(sp.all fun i=>Nat.blt i ops.length)=true) (hdst:(ops.all fun o=>match o.dst with |some d=>Nat.blt d n |none=>true)=true) (B:OL) (hB:∀ e ∈ B,e.ex=false) (tds:List (Option Value)) (la:Nat) (hla:sp.getLast? =some la) (hwa:((List.range ops.length).all fun i=>sp.contains i || ((CN ops [])[la]?.getD 0).testBit i)=true)
 (hfl:Nb (fun i o=>sp.contains i=true \/ ∃ d v,o.dst=some d/\Is tds i=some v/\∀ w (f:Nat->Value × OL),D P n w ops.toArray [o] (BM (GB ops (Is tds) f) ops i (Cl l)) B (fun dl'=>lk dl' d=some (.ex v))) 0 ops)
 (hrun:SN P n w0 ops l (Is tds) B K sp (fun _=>(undef,[])) ol):T P n w0 (.region id ops.toArray true) l ol (BK K Q):=by
 refine Gy (fun w h=>h.addF hrun) ?_
 refine L6 hmix hreg ([]:OL) (fun L f=>H0 (SN P n w0 ops l (Is tds) B K (sp.drop (Ck L sp)) f (MF ol sp f (Ck L sp)))::MF ol sp f (Ck L sp)) (by
  have:Ck (fun _=>false) sp=0:=by cases sp<;>rfl
  rw [this]
  rfl) tds ?_ ?_
 ·refine GU (fun i o ho hpr=>?_) hfl;rw [Nat.zero_add] at hpr ⊢;intro L f hc hl hp
  have hlt:∀ d,o.dst=some d->d < n:=fun d hd=>by
   have:=List.all_eq_true.1 hdst o (List.mem_of_getElem? ho);rw [hd] at this;simpa [Nat.blt_eq] using this
  by_cases hmem:i ∈ sp
  ·obtain ⟨pre,post,e⟩:=List.append_of_mem hmem;have hpre:∀ j ∈ pre,L j=true:=fun j hj=>FP hc hsp e hj ho hp
   have h1:Ck L sp=pre.length:=by rw [e];exact Jp hpre hl
   have h2:Ck (add L i) sp=pre.length + 1:=by
    have e2:sp=(pre ++ [i]) ++ post:=by rw [e];simp
    have hp2:∀ j ∈ pre ++ [i],add L i j=true:=fun j hj=>by
     unfold add
     rcases List.mem_append.1 hj with hj |hj
     ·split
      ·rfl
      ·exact hpre j hj
     ·rw [if_pos (List.mem_singleton.1 hj)]
    cases post with
    |nil=>
     rw [e2,List.append_nil,H9 hp2,List.length_append];rfl
    |cons j post=>
     rw [e2,Jp hp2,List.length_append]
     ·rfl
     ·have h4:=HD (i:=i) (j:=j) (pre:=pre ++ [i]) (post:=post) hsp e2 (by simp);unfold add;rw [if_neg (by omega)]
      have hjl:j < ops.length:=by
       have:=List.all_eq_true.1 hin j (by rw [e2];simp);simpa [Nat.blt_eq] using this
      cases hLj:L j with
      |false=>rfl
      |true=>
       have:=FP hc hsp e2 (i:=i) (by simp) (List.getElem?_eq_getElem hjl) (fun e he hb=>hc j _ (List.getElem?_eq_getElem hjl) hLj e he hb);rw [hl] at this;cases this
   have h3:sp[pre.length]? =some i:=by rw [e];simp
   have h5:sp.drop pre.length=i::post:=by rw [e];simp
   have h6:sp.drop (pre.length + 1)=post:=by rw [e];simp
   have h7:∀ v,MF ol sp (BT f i v) (pre.length + 1)=v.2:=fun v=>by
    show (BT f i v (sp[pre.length]?.getD 0)).2=v.2;rw [h3];show (BT f i v i).2=v.2;rw [BT,if_pos rfl]
   rw [h1,h2,h5,h6];refine Mm.pre (X:=SN P n w0 ops l (Is tds) B K (i::post) f (MF ol sp f pre.length)) (fun w hw=>hw.fact 0 rfl) hlt (fun hX=>?_);unfold SN at hX;obtain ⟨_,o',lo,ho',hlo,hS⟩:=hX;rw [ho] at ho';cases ho'
   cases hd:o.dst with
   |some d=>
    refine Mm.ofS hd (hlt d hd) hlo (B0 (fun w h=>h.dropr) (GV hS fun l' ol' ⟨v,q1,q2,q3⟩=>?_));unfold Gh at q1;rw [hd] at q1;refine ⟨v,ol',q1,q2,fun w hw=>?_⟩;rw [h7];exact hw.addF q3
   |none=>
    refine Mm.ofSn hd hlo (B0 (fun w h=>h.dropr) (GV hS fun l' ol' ⟨v,q1,q2,q3⟩=>?_));unfold Gh at q1;rw [hd] at q1;subst q1;refine ⟨ol',q2,fun w hw=>?_⟩;rw [h7];exact hw.addF q3
  ·have hs:i ∉ sp:=hmem;obtain ⟨d,v,hd,ht,hD⟩:=hpr.resolve_left fun h=>hs (by simpa using h)
   have h1:Ck (add L i) sp=Ck L sp:=Ki fun j hj=>by
    have hne:j ≠ i:=fun e=>hs (e ▸ hj);unfold add;rw [if_neg hne]
   have h2:∀ y,MF ol sp (BT f i y) (Ck L sp)=MF ol sp f (Ck L sp):=fun y=>by
    have h3:=L1 L sp
    cases hk:Ck L sp with
    |zero=>rfl
    |succ k=>
     have h4:k < sp.length:=by omega
     show (BT f i y (sp[k]?.getD 0)).2=(f (sp[k]?.getD 0)).2;rw [List.getElem?_eq_getElem h4];show (BT f i y sp[k]).2=(f sp[k]).2;have hne:sp[k] ≠ i:=fun e=>hs (e ▸ List.getElem_mem h4);rw [BT,if_neg hne]
   rw [h1];refine ⟨fun a w g1 g2 g3 g4=>?_,hlt⟩;have hX:=g3.fact 0 rfl
   have hlt2:Ck L sp < sp.length:=Nat.lt_of_le_of_ne (L1 L sp) fun he=>by
    have hLla:L la=true:=Lg he la (List.mem_of_getLast? hla);have hil:=(List.getElem?_eq_some_iff.1 ho).1;have hbit:=List.all_eq_true.1 hwa i (List.mem_range.2 hil);rw [show sp.contains i=false from by simpa using hs,Bool.false_or] at hbit;have hM:=Gk ops [] [] rfl (fun i m hi=>by simp at hi);rw [List.nil_append] at hM
    have hlal:la < ops.length:=by
     have:=List.all_eq_true.1 hin la (List.mem_of_getLast? hla);simpa [Nat.blt_eq] using this
    cases hm:(CN ops [])[la]? with
    |none=>rw [hm] at hbit;simp at hbit
    |some m=>
     rw [hm] at hbit;have:=DH hM hc la m hm _ (List.getElem?_eq_getElem hlal) (fun e he hb=>hc la _ (List.getElem?_eq_getElem hlal) hLla e he hb) i hbit;rw [hl] at this;cases this
   have hXb:Di w0 B (MF ol sp f (Ck L sp)):=by
    have hX2:=hX;rw [List.drop_eq_getElem_cons hlt2] at hX2;exact hX2.base
   have hb:Hp w w B:=⟨rfl,rfl,rfl,Nat.le_refl _,fun _ _ _=>rfl,hXb w g3.dropr,List.pairwise_iff_getElem.2 fun i j hi hj _ hx=>by
    rw [hB _ (List.getElem_mem hi),hB _ (List.getElem_mem hj)] at hx
    cases hx⟩
   have hnext:∀ w',Hp w w' B->Hp w0 w' (H0 (SN P n w0 ops l (Is tds) B K (sp.drop (Ck L sp)) (BT f i (v,[])) (MF ol sp (BT f i (v,[])) (Ck L sp)))::MF ol sp (BT f i (v,[])) (Ck L sp)):=fun w' hw'=>by
    rw [h2]
    exact (g3.dropr.ext (hw'.below fun e he hx=>by rw [hB e he] at hx;cases hx)).addF (SN.congr (f:=f) (g:=BT f i (v,[])) (fun j=>by
     by_cases hj:j=i
     ·subst hj;exact .inl ⟨v,ht⟩
     ·rw [BT,if_neg hj];exact .inr rfl) hX)
   obtain ⟨q1,q2⟩:=(AK.ofD hd (hD w f)).ok a w g1 g2 hb g4;refine ⟨fun hw=>Oper.wp_mono2 (fun a' w' ⟨e1,e2⟩=>⟨(v,[]),fun u hu=>by rw [ht] at hu;cases hu;rfl,e1,hnext w' e2⟩) (fun _ _ _ h=>h) (q1 hw),fun hw=>?_⟩;obtain ⟨e1,e2⟩:=q2 hw;subst e1;exact ⟨fun u hu=>by rw [ht] at hu;cases hu;rfl,[],hnext w e2⟩
 ·intro L f w hL hw
  have h1:Ck L sp=sp.length:=H9 fun j hj=>hL j (by
   have:=List.all_eq_true.1 hin j hj
   simpa [Nat.blt_eq] using this)
  rw [h1,List.drop_length] at hw;have hX:=hw.fact 0 rfl;unfold SN at hX;obtain ⟨l',q1,q2⟩:=hX;exact ⟨l',_,q1,hw.dropr,q2⟩
theorem ED {td:Nat->Option Value} {B:OL} {i:Nat} {r:List Nat} {f:Nat->Value × OL} {o:Oper} (lo:FL) (hb:Di w0 B ol) (ho:ops[i]? =some o) (hlo:D0 (o.looksAt ops.toArray) (BM (GB ops td f) ops i (Cl l)) lo)
 (hS:S P n w0 ops.toArray [o] lo ol (fun l' ol'=>∃ v,Gh o l' v/\(∀ u,td i=some u->v=u)/\SN P n w0 ops l td B K r (BT f i (v,ol')) ol') (fun _ _ _=>False)):SN P n w0 ops l td B K (i::r) f ol:=by
 unfold SN;exact ⟨hb,o,lo,ho,hlo,hS⟩
theorem R1 {td:Nat->Option Value} {B:OL} {f:Nat->Value × OL} (l':FL) (hl:Bc l' (BM (GB ops td f) ops ops.length (Cl l))) (hk:K l' ol):SN P n w0 ops l td B K [] f ol:=by
 unfold SN;exact ⟨l',hl,hk⟩
end
section
variable {P:Program} {n:Nat} {w0:World} {ops:List Oper} {K:FL->OL->Prop} {Q:B3} {l:FL} {ol:OL}
abbrev KF (f:Nat->Value) (k:Nat) (v:Value):Nat->Value:=fun j=>if j=k then v else f j
abbrev PY (ops:List Oper) (td:Nat->Option Value) (f:Nat->Value):List EE:=GB (γ:=Unit) ops td fun i=>(f i,())
def Oz (ops:List Oper) (sp rem:List Nat):Bool:=(List.range ops.length).any fun i=>!(sp.contains i || sp.any fun la=>!rem.contains la && ((CN ops [])[la]?.getD 0).testBit i)
def SB (P:Program) (n:Nat) (w0:World) (ops:List Oper) (l:FL) (td:Nat->Option Value) (B:OL) (sp:List Nat) (K:FL->OL->Prop):Nat->List Nat->(Nat->Value)->OL->Prop
 |0,_,f,ol=>∃ l',Bc l' (BM (PY ops td f) ops ops.length (Cl l))/\K l' ol
 |k + 1,rem,f,ol=>(Oz ops sp rem=false \/ Di w0 B ol)/\∀ i ∈ rem,(∀ j ∈ rem,((CN ops [])[i]?.getD 0).testBit j=false)->∃ o lo,ops[i]? =some o/\D0 (o.looksAt ops.toArray) (BM (PY ops td f) ops i (Cl l)) lo/\S P n w0 ops.toArray [o] lo ol (fun l' ol'=>∃ v,Gh o l' v/\(∀ u,td i=some u->v=u)/\SB P n w0 ops l td B sp K k (rem.filter fun j=>!Nat.beq j i) (KF f i v) ol') (fun _ _ _=>False)
theorem OF {td:Nat->Option Value} {f g:Nat->Value} (h:∀ j,(∃ u,td j=some u) \/ f j=g j):PY ops td f=PY ops td g:=by
 unfold PY GB;refine List.map_congr_left fun j _=>?_
 rcases h j with ⟨u,hu⟩ |h
 ·rw [hu];rfl
 ·show EE.ex ((td j).getD (f j))=EE.ex ((td j).getD (g j));rw [h]
theorem SB.congr {td:Nat->Option Value} {B:OL} {sp:List Nat}:∀ {k:Nat} {r:List Nat} {f g:Nat->Value} {ol:OL},(∀ j,(∃ u,td j=some u) \/ f j=g j)->SB P n w0 ops l td B sp K k r f ol->SB P n w0 ops l td B sp K k r g ol
 |0,r,f,g,ol,hfg,h=>by
  unfold SB at h ⊢;rw [<-OF hfg];exact h
 |k + 1,r,f,g,ol,hfg,h=>by
  unfold SB at h ⊢;rw [<-OF hfg];refine ⟨h.1,fun i hi hm=>?_⟩;obtain ⟨o,lo,h2,h3,h5⟩:=h.2 i hi hm;refine ⟨o,lo,h2,h3,⟨fun a w hf hh=>?_⟩⟩;have:=h5.out a w hf hh;refine C8 (fun e a w hl=>FC (fun e l o he=>?_) e a w hl) _ _ _ this;unfold BK at he ⊢
  cases e with
  |normal=>
   obtain ⟨v,q1,q2,q3⟩:=he
   exact ⟨v,q1,q2,SB.congr (fun j=>by
    by_cases e:j=i
    ·right;show (if j=i then v else f j)=(if j=i then v else g j);rw [if_pos e,if_pos e]
    ·rcases hfg j with h |h
     ·exact .inl h
     ·right;show (if j=i then v else f j)=(if j=i then v else g j);rw [if_neg e,if_neg e];exact h) q3⟩
  |_=>exact he
def D4 (ol0:OL) (L:Nat->Bool) (f:Nat->Value × (Nat × OL)):List Nat->Nat × OL
 | []=>(0,ol0)
 |i::r=>if L i=true/\(D4 ol0 L f r).1 < (f i).2.1 then (f i).2 else D4 ol0 L f r
theorem Ir {ol0:OL} {L:Nat->Bool} {f:Nat->Value × (Nat × OL)} {i:Nat} {y:Value × (Nat × OL)}:∀ {sp:List Nat},i ∉ sp->D4 ol0 (add L i) (BT f i y) sp=D4 ol0 L f sp
 | [],_=>rfl
 |a::r,h=>by
  rw [List.mem_cons,not_or] at h
  have e1:add L i a=L a:=by unfold add;rw [if_neg (Ne.symm h.1)]
  have e2:BT f i y a=f a:=by unfold BT;rw [if_neg (Ne.symm h.1)]
  rw [D4,D4,e1,e2,Ir h.2]
theorem Sw {ol0:OL} {L:Nat->Bool} {f:Nat->Value × (Nat × OL)} {a:Nat} {r:List Nat}:(D4 ol0 L f r).1 <= (D4 ol0 L f (a::r)).1/\(L a=true->(f a).2.1 <= (D4 ol0 L f (a::r)).1):=by
 rw [D4];split
 ·rename_i h;exact ⟨Nat.le_of_lt h.2,fun _=>Nat.le_refl _⟩
 ·rename_i h;exact ⟨Nat.le_refl _,fun h1=>Nat.le_of_not_lt fun h2=>h ⟨h1,h2⟩⟩
theorem Mt {ol0:OL} {L:Nat->Bool} {f:Nat->Value × (Nat × OL)} {i:Nat} {y:Value × (Nat × OL)} (hL:L i=false):∀ {sp:List Nat},sp.Nodup->i ∈ sp->(D4 ol0 L f sp).1 < y.2.1->D4 ol0 (add L i) (BT f i y) sp=y.2
 | [],_,h,_=>by cases h
 |a::r,hn,h,hlt=>by
  rw [List.nodup_cons] at hn;have hge:=@Sw ol0 L f a r;by_cases e:a=i
  ·subst e;rw [D4,Ir hn.1,if_pos]
   ·unfold BT;rw [if_pos rfl]
   ·refine ⟨by unfold add;rw [if_pos rfl],?_⟩;unfold BT;rw [if_pos rfl];omega
  ·have hr:=(List.mem_cons.1 h).resolve_left fun h=>e h.symm
   have e1:add L i a=L a:=by unfold add;rw [if_neg e]
   have e2:BT f i y a=f a:=by unfold BT;rw [if_neg e]
   rw [D4,e1,e2,Mt hL hn.2 hr (by omega),if_neg fun h9=>by
    have:=hge.2 h9.1
    omega]
theorem Qa {ol0:OL} {L:Nat->Bool} {f:Nat->Value × (Nat × OL)} (h:∀ i,L i=false) (sp:List Nat):D4 ol0 L f sp=(0,ol0):=by
 induction sp with
 |nil=>rfl
 |cons a r ih=>rw [D4,ih,if_neg fun h9=>by rw [h a] at h9;cases h9.1]
theorem KW {i j:Nat} (h:j ≠ i):Nat.beq j i=false:=by
 cases h9:Nat.beq j i with
 |false=>rfl
 |true=>exact absurd (Nat.eq_of_beq_eq_true h9) h
def LS:List Nat->Bool
 | []=>true
 |a::r=>!(r.any fun b=>Nat.beq b a) && LS r
theorem HR:∀ {l:List Nat},LS l=true->l.Nodup
 | [],_=>List.nodup_nil
 |a::r,h=>by
  rw [LS,Bool.and_eq_true,Bool.not_eq_true',List.any_eq_false] at h;exact List.nodup_cons.2 ⟨fun hm=>h.1 a hm (Nat.beq_refl a),HR h.2⟩
theorem Ii {id:Nat} (hmix:P.follows .mixedOrders=true) (hreg:HN ops ops.length=true) (sp:List Nat) (hnd:LS sp=true) (hin:(sp.all fun i=>Nat.blt i ops.length)=true) (hdst:(ops.all fun o=>match o.dst with |some d=>Nat.blt d n |none=>true)=true) (hwa:((List.range ops.length).all fun i=>sp.contains i || sp.any fun la=>((CN ops [])[la]?.getD 0).testBit i)=true)
 (B:OL) (hB:∀ e ∈ B,e.ex=false) (tds:List (Option Value))
 (hfl:Nb (fun i o=>sp.contains i=true \/ ∃ d v,o.dst=some d/\Is tds i=some v/\∀ w (f:Nat->Value),D P n w ops.toArray [o] (BM (PY ops (Is tds) f) ops i (Cl l)) B (fun dl'=>lk dl' d=some (.ex v))) 0 ops)
 (hrun:SB P n w0 ops l (Is tds) B sp K sp.length sp (fun _=>undef) ol):T P n w0 (.region id ops.toArray true) l ol (BK K Q):=by
 have hM:=Gk ops [] [] rfl (fun i m hi=>by simp at hi);rw [List.nil_append] at hM;have hnd':=HR hnd
 have hinl:∀ i ∈ sp,i < ops.length:=fun i hi=>by
  have:=List.all_eq_true.1 hin i hi;simpa [Nat.blt_eq] using this
 obtain ⟨olf,holf⟩:∃ olf:(Nat->Bool)->(Nat->Value × (Nat × OL))->OL,olf=fun L f=>H0 (SB P n w0 ops l (Is tds) B sp K (sp.filter fun i=>!L i).length (sp.filter fun i=>!L i) (fun i=>(f i).1) (D4 ol L f sp).2)::(D4 ol L f sp).2:=⟨_,rfl⟩;refine Gy (fun w h=>h.addF hrun) ?_
 refine L6 hmix hreg ((0,[]):Nat × OL) olf (by
  rw [holf];dsimp only;rw [Qa (fun _=>rfl)];have:(sp.filter fun i=>!(fun _=>false:Nat->Bool) i)=sp:=List.filter_eq_self.2 fun _ _=>rfl
  rw [this]) tds ?_ ?_
 ·refine GU (fun i o ho hpr=>?_) hfl;rw [Nat.zero_add] at hpr ⊢;intro L f hc hl hp
  have hlt:∀ d,o.dst=some d->d < n:=fun d hd=>by
   have:=List.all_eq_true.1 hdst o (List.mem_of_getElem? ho);rw [hd] at this;simpa [Nat.blt_eq] using this
  rw [holf];dsimp only;by_cases hmem:i ∈ sp
  ·obtain ⟨rem,hrem⟩:∃ rem,rem=sp.filter fun i=>!L i:=⟨_,rfl⟩
   have hir:i ∈ rem:=by rw [hrem,List.mem_filter,hl];exact ⟨hmem,rfl⟩
   have hrn:rem.Nodup:=hrem ▸ hnd'.sublist List.filter_sublist
   have hmin:∀ j ∈ rem,((CN ops [])[i]?.getD 0).testBit j=false:=fun j hj=>by
    cases hb:((CN ops [])[i]?.getD 0).testBit j with
    |false=>rfl
    |true=>
     cases hm:(CN ops [])[i]? with
     |none=>rw [hm] at hb;simp at hb
     |some m=>
      rw [hm] at hb;have h1:=DH hM hc i m hm o ho hp j hb;rw [hrem,List.mem_filter,h1] at hj;cases hj.2
   have hrem2:(sp.filter fun j=>!add L i j)=rem.filter fun j=>!Nat.beq j i:=by
    rw [hrem,List.filter_filter];refine List.filter_congr fun j _=>?_;unfold add;by_cases e:j=i
    ·subst e;rw [if_pos rfl,Nat.beq_refl];rfl
    ·rw [if_neg e,KW e];simp
   have hk:∃ k,rem.length=k + 1/\(rem.filter fun j=>!Nat.beq j i).length=k:=by
    refine ⟨rem.length - 1,?_,?_⟩
    ·have:=List.length_pos_of_mem hir;omega
    ·have e1:(rem.filter fun j=>!Nat.beq j i)=rem.erase i:=by
      rw [hrn.erase_eq_filter];refine List.filter_congr fun j _=>?_;by_cases e:j=i
      ·subst e;rw [Nat.beq_refl];simp
      ·rw [KW e];simp [e]
     rw [e1,List.length_erase_of_mem hir]
   obtain ⟨k,hk1,hk2⟩:=hk;rw [<-hrem];obtain ⟨top,htop⟩:∃ top,top=D4 ol L f sp:=⟨_,rfl⟩;rw [<-htop];have hne:∀ v ol',D4 ol (add L i) (BT f i (v,(top.1 + 1,ol'))) sp=(top.1 + 1,ol'):=fun v ol'=>Mt hl hnd' hmem (by rw [<-htop];exact Nat.lt_succ_self _)
   have hvals:∀ v c,(fun j=>(BT f i (v,c) j).1)=KF (fun j=>(f j).1) i v:=fun v c=>by
    funext j;unfold BT KF;split<;>rfl
   refine Mm.pre (X:=SB P n w0 ops l (Is tds) B sp K rem.length rem (fun j=>(f j).1) top.2) (fun w hw=>hw.fact 0 rfl) hlt (fun hX=>?_);rw [hk1] at hX;unfold SB at hX;obtain ⟨o',lo,ho',hlo,hS⟩:=hX.2 i hir hmin;rw [ho] at ho';cases ho';have hlo':D0 (o.looksAt ops.toArray) (BM (GB ops (Is tds) f) ops i (Cl l)) lo:=hlo
   have hnext:∀ v ol',SB P n w0 ops l (Is tds) B sp K k (rem.filter fun j=>!Nat.beq j i) (KF (fun j=>(f j).1) i v) ol'->∀ w,Hp w0 w ol'->Hp w0 w (H0 (SB P n w0 ops l (Is tds) B sp K (sp.filter fun j=>!add L i j).length (sp.filter fun j=>!add L i j) (fun j=>(BT f i (v,(top.1 + 1,ol')) j).1) (D4 ol (add L i) (BT f i (v,(top.1 + 1,ol'))) sp).2)::(D4 ol (add L i) (BT f i (v,(top.1 + 1,ol'))) sp).2):=fun v ol' q3 w hw=>by
    rw [hne,hvals,hrem2,hk2];exact hw.addF q3
   cases hd:o.dst with
   |some d=>
    refine Mm.ofS hd (hlt d hd) hlo' (B0 (fun w h=>h.dropr) (GV hS fun l' ol' ⟨v,q1,q2,q3⟩=>?_));unfold Gh at q1;rw [hd] at q1;exact ⟨v,(top.1 + 1,ol'),q1,q2,hnext v ol' q3⟩
   |none=>
    refine Mm.ofSn hd hlo' (B0 (fun w h=>h.dropr) (GV hS fun l' ol' ⟨v,q1,q2,q3⟩=>?_));unfold Gh at q1;rw [hd] at q1;subst q1;exact ⟨(top.1 + 1,ol'),q2,hnext undef ol' q3⟩
  ·have hs:i ∉ sp:=hmem;obtain ⟨d,v,hd,ht,hD⟩:=hpr.resolve_left fun h=>hs (by simpa using h)
   have hrem2:(sp.filter fun j=>!add L i j)=sp.filter fun j=>!L j:=by
    refine List.filter_congr fun j hj=>?_;unfold add;rw [if_neg fun e:j=i=>hs (e ▸ hj)]
   rw [hrem2];refine ⟨fun a w g1 g2 g3 g4=>?_,hlt⟩;have hX:=g3.fact 0 rfl
   have hne:(sp.filter fun i=>!L i) ≠ []:=fun he=>by
    have hall:∀ j ∈ sp,L j=true:=fun j hj=>by
     cases hLj:L j with
     |true=>rfl
     |false=>
      have:j ∈ sp.filter fun i=>!L i:=List.mem_filter.2 ⟨hj,by rw [hLj];rfl⟩;rw [he] at this;cases this
    have hil:=(List.getElem?_eq_some_iff.1 ho).1;have hbit:=List.all_eq_true.1 hwa i (List.mem_range.2 hil);rw [show sp.contains i=false from by simpa using hs,Bool.false_or,List.any_eq_true] at hbit;obtain ⟨la,hla,hbit⟩:=hbit
    cases hm:(CN ops [])[la]? with
    |none=>rw [hm] at hbit;simp at hbit
    |some m=>
     rw [hm] at hbit;have:=DH hM hc la m hm _ (List.getElem?_eq_getElem (hinl la hla)) (fun e he hb=>hc la _ (List.getElem?_eq_getElem (hinl la hla)) (hall la hla) e he hb) i hbit;rw [hl] at this;cases this
   obtain ⟨k,hk⟩:∃ k,(sp.filter fun i=>!L i).length=k + 1:=⟨(sp.filter fun i=>!L i).length - 1,by
    have:=List.length_pos_iff.2 hne
    omega⟩
   have hXb:Di w0 B (D4 ol L f sp).2:=by
    have hX2:=hX;rw [hk] at hX2;unfold SB at hX2;refine hX2.1.resolve_left fun hnb=>?_;have hil:=(List.getElem?_eq_some_iff.1 ho).1;have hbit:=(List.any_eq_false.1 hnb) i (List.mem_range.2 hil);rw [show sp.contains i=false from by simpa using hs,Bool.false_or,Bool.not_eq_true,Bool.not_eq_false',List.any_eq_true] at hbit;obtain ⟨la,hla,hbit⟩:=hbit;rw [Bool.and_eq_true,Bool.not_eq_true'] at hbit
    have hLla:L la=true:=by
     cases hLj:L la with
     |true=>rfl
     |false=>
      have:la ∈ sp.filter fun i=>!L i:=List.mem_filter.2 ⟨hla,by rw [hLj];rfl⟩;have h9:=hbit.1;rw [show (sp.filter fun i=>!L i).contains la=true from by simpa using this] at h9;cases h9
    have hbit2:=hbit.2
    cases hm:(CN ops [])[la]? with
    |none=>rw [hm] at hbit2;simp at hbit2
    |some m=>
     rw [hm] at hbit2;have:=DH hM hc la m hm _ (List.getElem?_eq_getElem (hinl la hla)) (fun e he hb=>hc la _ (List.getElem?_eq_getElem (hinl la hla)) hLla e he hb) i hbit2;rw [hl] at this;cases this
   have hb:Hp w w B:=⟨rfl,rfl,rfl,Nat.le_refl _,fun _ _ _=>rfl,hXb w g3.dropr,List.pairwise_iff_getElem.2 fun i j hi hj _ hx=>by
    rw [hB _ (List.getElem_mem hi),hB _ (List.getElem_mem hj)] at hx
    cases hx⟩
   have htop:∀ y,D4 ol (add L i) (BT f i y) sp=D4 ol L f sp:=fun y=>Ir hs
   have hnext:∀ w',Hp w w' B->Hp w0 w' (H0 (SB P n w0 ops l (Is tds) B sp K (sp.filter fun i=>!L i).length (sp.filter fun i=>!L i) (fun j=>(BT f i (v,(0,[])) j).1) (D4 ol (add L i) (BT f i (v,(0,[]))) sp).2)::(D4 ol (add L i) (BT f i (v,(0,[]))) sp).2):=fun w' hw'=>by
    rw [htop]
    exact (g3.dropr.ext (hw'.below fun e he hx=>by rw [hB e he] at hx;cases hx)).addF (SB.congr (fun j=>by
     by_cases hj:j=i
     ·subst hj;exact .inl ⟨v,ht⟩
     ·right;unfold BT
      rw [if_neg hj]) hX)
   obtain ⟨q1,q2⟩:=(AK.ofD hd (hD w fun j=>(f j).1)).ok a w g1 g2 hb g4;refine ⟨fun hw=>Oper.wp_mono2 (fun a' w' ⟨e1,e2⟩=>⟨(v,(0,[])),fun u hu=>by rw [ht] at hu;cases hu;rfl,e1,hnext w' e2⟩) (fun _ _ _ h=>h) (q1 hw),fun hw=>?_⟩;obtain ⟨e1,e2⟩:=q2 hw;subst e1;exact ⟨fun u hu=>by rw [ht] at hu;cases hu;rfl,(0,[]),hnext w e2⟩
 ·intro L f w hL hw
  have he:(sp.filter fun i=>!L i)= []:=List.filter_eq_nil_iff.2 fun j hj=>by rw [hL j (hinl j hj)];decide
  rw [holf] at hw;dsimp only at hw;rw [he] at hw;have hX:=hw.fact 0 rfl;unfold SB at hX;obtain ⟨l',q1,q2⟩:=hX;exact ⟨l',_,q1,hw.dropr,q2⟩
theorem AQ {td:Nat->Option Value} {B:OL} {sp:List Nat} {k i:Nat} {rem:List Nat} {f:Nat->Value} {o:Oper} (lo:FL) (hb:Oz ops sp rem=false \/ Di w0 B ol) (hc:(rem.filter fun i=>rem.all fun j=>!((CN ops [])[i]?.getD 0).testBit j)= [i]) (ho:ops[i]? =some o) (hlo:D0 (o.looksAt ops.toArray) (BM (PY ops td f) ops i (Cl l)) lo)
 (hS:S P n w0 ops.toArray [o] lo ol (fun l' ol'=>∃ v,Gh o l' v/\(∀ u,td i=some u->v=u)/\SB P n w0 ops l td B sp K k (rem.filter fun j=>!Nat.beq j i) (KF f i v) ol') (fun _ _ _=>False)):SB P n w0 ops l td B sp K (k + 1) rem f ol:=by
 unfold SB;refine ⟨hb,fun i' hi' hm=>?_⟩;have:i' ∈ rem.filter fun i=>rem.all fun j=>!((CN ops [])[i]?.getD 0).testBit j:=List.mem_filter.2 ⟨hi',List.all_eq_true.2 fun j hj=>by rw [hm j hj];rfl⟩;rw [hc,List.mem_singleton] at this;subst this;exact ⟨o,lo,ho,hlo,hS⟩
theorem DD {td:Nat->Option Value} {B:OL} {sp:List Nat} {k i i2:Nat} {rem:List Nat} {f:Nat->Value} {o o2:Oper} (lo lo2:FL) (hb:Oz ops sp rem=false \/ Di w0 B ol) (hc:(rem.filter fun i=>rem.all fun j=>!((CN ops [])[i]?.getD 0).testBit j)= [i,i2]) (ho:ops[i]? =some o) (ho2:ops[i2]? =some o2) (hlo:D0 (o.looksAt ops.toArray) (BM (PY ops td f) ops i (Cl l)) lo) (hlo2:D0 (o2.looksAt ops.toArray) (BM (PY ops td f) ops i2 (Cl l)) lo2)
 (hS:S P n w0 ops.toArray [o] lo ol (fun l' ol'=>∃ v,Gh o l' v/\(∀ u,td i=some u->v=u)/\SB P n w0 ops l td B sp K k (rem.filter fun j=>!Nat.beq j i) (KF f i v) ol') (fun _ _ _=>False))
 (hS2:S P n w0 ops.toArray [o2] lo2 ol (fun l' ol'=>∃ v,Gh o2 l' v/\(∀ u,td i2=some u->v=u)/\SB P n w0 ops l td B sp K k (rem.filter fun j=>!Nat.beq j i2) (KF f i2 v) ol') (fun _ _ _=>False)):SB P n w0 ops l td B sp K (k + 1) rem f ol:=by
 unfold SB;refine ⟨hb,fun i' hi' hm=>?_⟩;have:i' ∈ rem.filter fun i=>rem.all fun j=>!((CN ops [])[i]?.getD 0).testBit j:=List.mem_filter.2 ⟨hi',List.all_eq_true.2 fun j hj=>by rw [hm j hj];rfl⟩;rw [hc,List.mem_cons,List.mem_singleton] at this
 rcases this with rfl |rfl
 ·exact ⟨o,lo,ho,hlo,hS⟩
 ·exact ⟨o2,lo2,ho2,hlo2,hS2⟩
theorem Ct {td:Nat->Option Value} {B:OL} {sp:List Nat} {f:Nat->Value} {rem:List Nat} (l':FL) (hl:Bc l' (BM (PY ops td f) ops ops.length (Cl l))) (hk:K l' ol):SB P n w0 ops l td B sp K 0 rem f ol:=by
 unfold SB;exact ⟨l',hl,hk⟩
end
end Go.Proofs.YtidhpofcofknhaaGreat
