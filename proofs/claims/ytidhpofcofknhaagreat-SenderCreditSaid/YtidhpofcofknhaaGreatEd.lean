/-
  An engine of rules for walks, part Ad: a region that draws, of whose operations some stand in a fixed order and are stepped through in it; all others compute from slots, or from blocks that stay. No program's text; conditions: each theorem's own.
  Conditions: each theorem's own.
-/
import Derived.Test.YtidhpofcofknhaaGreatBz
namespace Go.Proofs.YtidhpofcofknhaaGreat
open Go Go.RowKit
set_option linter.unusedVariables false
section
variable {γ:Type} {P:Program} {n:Nat} {w0:World} {all:Array Oper} {o:Oper} {dl:DL} {ol:OL} {o2:Value × γ->OL} {tk:Option Value}
def Gh (o:Oper) (l:FL) (v:Value):Prop:=match o.dst with
 |some d=>AP l d=some v
 |none=>v=undef
theorem Mm.ofSn {l:FL} (hd:o.dst=none) (hl:D0 (o.looksAt all) dl l)
 (h:S P n w0 all [o] l ol (fun l' ol'=>∃ g,(∀ u,tk=some u->undef=u)/\∀ w,Hp w0 w ol'->Hp w0 w (o2 (undef,g))) (fun _ _ _=>False)):Mm P n w0 all ol o2 dl o tk:=by
 refine ⟨fun a w h1 h2 h3 h4=>?_,fun d' hd'=>by rw [hd] at hd';cases hd'⟩
 have hfr:Fr a n l:=⟨h1,h2,fun t v ht=>by
  obtain ⟨g1,g2⟩:=hl.get ht;have:=h4 t g1;rw [g2] at this;obtain ⟨u,hu1,hu2⟩:=this
  rw [hu1,hu2]⟩
 have hw:=h.out a w hfr h3;obtain ⟨K,hK⟩:∃ K:FL->OL->Prop,K=fun l' ol'=>∃ g,(∀ u,tk=some u->undef=u)/\∀ w,Hp w0 w ol'->Hp w0 w (o2 (undef,g)):=⟨_,rfl⟩;rw [<-hK] at hw
 have hno:∀ e a w,e ≠ Exit.normal->Cr n w0 (BK K (fun _ _ _=>False)) e a w->False:=fun e a w he hh=>by
  unfold Cr BK at hh;obtain ⟨l',o',_,_,h9⟩:=hh
  cases e<;>first |exact he rfl |exact h9
 unfold wpList at hw
 have hput:∀ v,a.put o.dst v=a.put o.dst undef:=fun v=>by rw [hd];rfl
 constructor
 ·intro hwant;rw [if_pos hwant] at hw
  have hw2:o.wp P a w (wpList P all (Cr n w0 (BK K (fun _ _ _=>False))) []) (Cr n w0 (BK K (fun _ _ _=>False))):=by
   rcases hw with hw |⟨_,a',w',h9⟩
   ·exact hw
   ·exact (hno _ _ _ (fun h=>by cases h) h9).elim
  refine Oper.wp_mono2 (fun a' w' hr=>?_) (fun _ _ _ h=>h) (Oper.wp_put hw2 (fun a' w' hr=>by
   unfold wpList Cr at hr;obtain ⟨l',o',hf,_,_⟩:=hr
   exact hf.defers) hno h1)
  unfold wpList Cr BK at hr;obtain ⟨⟨v,hv⟩,l',o',hf,hh,hk⟩:=hr;dsimp only at hk;rw [hK] at hk;obtain ⟨g,g2,g3⟩:=hk;exact ⟨(undef,g),g2,hv.trans (hput v),g3 w' hh⟩
 ·intro hwant;rw [if_neg (by rw [hwant];decide)] at hw;unfold wpList Cr BK at hw;obtain ⟨l',o',hf,hh,hk⟩:=hw;dsimp only at hk;rw [hK] at hk;obtain ⟨g,g2,g3⟩:=hk;exact ⟨g2,g,g3 w hh⟩
end
section
variable {P:Program} {n:Nat} {w0:World} {ops:List Oper} {K:FL->OL->Prop} {Q:B3} {l:FL} {ol:OL}
def Di (w0:World) (B ol:OL):Prop:=∀ w,Hp w0 w ol->∀ e ∈ B,e.holds w
def SM (P:Program) (n:Nat) (w0:World) (ops:List Oper) (l:FL) (td:Nat->Option Value) (B:OL) (K:FL->OL->Prop):List Nat->(Nat->Value × OL)->OL->Prop
 | [],f,ol=>Di w0 B ol/\∃ l',Bc l' (BM (GB ops td f) ops ops.length (Cl l))/\K l' ol
 |i::r,f,ol=>Di w0 B ol/\∃ o lo,ops[i]? =some o/\D0 (o.looksAt ops.toArray) (BM (GB ops td f) ops i (Cl l)) lo/\S P n w0 ops.toArray [o] lo ol (fun l' ol'=>∃ v,Gh o l' v/\(∀ u,td i=some u->v=u)/\SM P n w0 ops l td B K r (BT f i (v,ol')) ol') (fun _ _ _=>False)
theorem SM.base {td:Nat->Option Value} {B:OL}:∀ {r:List Nat} {f:Nat->Value × OL} {ol:OL},SM P n w0 ops l td B K r f ol->Di w0 B ol
 | [],_,_,h=>by unfold SM at h;exact h.1
 |_::_,_,_,h=>by unfold SM at h;exact h.1
theorem Jl {td:Nat->Option Value} {f g:Nat->Value × OL} (h:∀ j,(∃ u,td j=some u) \/ f j=g j):GB ops td f=GB ops td g:=by
 unfold GB;refine List.map_congr_left fun j _=>?_
 rcases h j with ⟨u,hu⟩ |h
 ·rw [hu];rfl
 ·rw [h]
theorem SM.congr {td:Nat->Option Value} {B:OL}:∀ {r:List Nat} {f g:Nat->Value × OL} {ol:OL},(∀ j,(∃ u,td j=some u) \/ f j=g j)->SM P n w0 ops l td B K r f ol->SM P n w0 ops l td B K r g ol
 | [],f,g,ol,hfg,h=>by
  unfold SM at h ⊢;rw [<-Jl hfg];exact h
 |i::r,f,g,ol,hfg,h=>by
  unfold SM at h ⊢;rw [<-Jl hfg];obtain ⟨h1,o,lo,h2,h3,h5⟩:=h;refine ⟨h1,o,lo,h2,h3,⟨fun a w hf hh=>?_⟩⟩;have:=h5.out a w hf hh;refine C8 (fun e a w hl=>FC (fun e l o he=>?_) e a w hl) _ _ _ this;unfold BK at he ⊢
  cases e with
  |normal=>
   obtain ⟨v,q1,q2,q3⟩:=he
   exact ⟨v,q1,q2,SM.congr (fun j=>by
    unfold BT;by_cases e:j=i
    ·rw [if_pos e,if_pos e];exact .inr rfl
    ·rw [if_neg e,if_neg e];exact hfg j) q3⟩
  |_=>exact he
def Ck (L:Nat->Bool):List Nat->Nat
 | []=>0
 |i::r=>match L i with
  |true=>Ck L r + 1
  |false=>0
def GE (M:List Nat):List Nat->Bool
 |i::r=>(r.all fun j=>Nat.blt i j && (M[j]?.getD 0).testBit i) && GE M r
 | []=>true
def MF (ol0:OL) (sp:List Nat) (f:Nat->Value × OL):Nat->OL
 |0=>ol0
 |k + 1=>(f (sp[k]?.getD 0)).2
theorem HD {M:List Nat}:∀ {sp pre post:List Nat} {i j:Nat},GE M sp=true->sp=pre ++ j::post->i ∈ pre->i < j/\(M[j]?.getD 0).testBit i=true
 | [],pre,post,i,j,_,e,_=>by cases pre<;>cases e
 |a::sp,[],post,i,j,_,_,hi=>by cases hi
 |a::sp,b::pre,post,i,j,h,e,hi=>by
  simp only [GE,Bool.and_eq_true,List.all_eq_true] at h;rw [List.cons_append,List.cons.injEq] at e;obtain ⟨rfl,e⟩:=e
  rcases List.mem_cons.1 hi with rfl |hi
  ·have:=h.1 j (by rw [e];simp);exact ⟨by simpa [Nat.blt_eq] using this.1,this.2⟩
  ·exact HD h.2 e hi
theorem FP {L:Nat->Bool} (hc:Et ops L) {sp pre post:List Nat} {i j:Nat} {o:Oper} (h:GE (CN ops []) sp=true) (e:sp=pre ++ j::post) (hi:i ∈ pre) (ho:ops[j]? =some o) (hp:∀ e ∈ o.after.toList,Region.binds .any e=true->L e.on=true):L i=true:=by
 have hM:=Gk ops [] [] rfl (fun i m hi=>by simp at hi);rw [List.nil_append] at hM;have h1:=(HD h e hi).2
 cases hm:(CN ops [])[j]? with
 |none=>rw [hm] at h1;simp at h1
 |some m=>
  rw [hm] at h1;exact DH hM hc j m hm o ho hp i h1
theorem Jp {L:Nat->Bool} {pre post:List Nat} {i:Nat}:(∀ j ∈ pre,L j=true)->L i=false->Ck L (pre ++ i::post)=pre.length:=by
 intro h1 h2
 induction pre with
 |nil=>rw [List.nil_append,Ck,h2];rfl
 |cons a pre ih=>
  rw [List.cons_append,Ck,h1 a List.mem_cons_self];show Ck L (pre ++ i::post) + 1=_;rw [ih fun j hj=>h1 j (List.mem_cons_of_mem _ hj)];rfl
theorem H9 {L:Nat->Bool} {sp:List Nat}:(∀ j ∈ sp,L j=true)->Ck L sp=sp.length:=by
 intro h1
 induction sp with
 |nil=>rfl
 |cons a sp ih=>
  rw [Ck,h1 a List.mem_cons_self];show Ck L sp + 1=_;rw [ih fun j hj=>h1 j (List.mem_cons_of_mem _ hj)];rfl
theorem Ki {L L':Nat->Bool} {sp:List Nat}:(∀ j ∈ sp,L j=L' j)->Ck L sp=Ck L' sp:=by
 intro h
 induction sp with
 |nil=>rfl
 |cons a sp ih=>rw [Ck,Ck,h a List.mem_cons_self,ih fun j hj=>h j (List.mem_cons_of_mem _ hj)]
theorem L1 (L:Nat->Bool) (sp:List Nat):Ck L sp <= sp.length:=by
 induction sp with
 |nil=>exact Nat.le_refl _
 |cons a sp ih=>
  rw [Ck]
  cases L a with
  |true=>exact Nat.succ_le_succ ih
  |false=>exact Nat.zero_le _
theorem GV {all:Array Oper} {os:List Oper} {K':FL->OL->Prop} (h:S P n w0 all os l ol K Q) (hk:∀ l o,K l o->K' l o):S P n w0 all os l ol K' Q:=
 ⟨fun a w hf hh=>C8 (fun e a w hl=>FC (fun e l o he=>by
  unfold BK at he ⊢
  cases e with
  |normal=>exact hk l o he
  |_=>exact he) e a w hl) _ _ _ (h.out a w hf hh)⟩
theorem GU {Pr Pr':Nat->Oper->Prop}:∀ {os:List Oper} {k:Nat},(∀ i o,os[i]? =some o->Pr' (k + i) o->Pr (k + i) o)->Nb Pr' k os->Nb Pr k os
 | [],_,_,_=>trivial
 |o::os,k,h,hp=>⟨h 0 o rfl hp.1,GU (k:=k + 1) (fun i o ho hq=>by
  have:=h (i + 1) o (by simpa using ho);rw [show k + (i + 1)=k + 1 + i by omega] at this
  exact this hq) hp.2⟩
theorem OU {id:Nat} (hmix:P.follows .mixedOrders=true) (hreg:HN ops ops.length=true) (sp:List Nat) (hsp:GE (CN ops []) sp=true) (hin:(sp.all fun i=>Nat.blt i ops.length)=true) (hdst:(ops.all fun o=>match o.dst with |some d=>Nat.blt d n |none=>true)=true) (B:OL) (hB:∀ e ∈ B,e.ex=false) (tds:List (Option Value))
 (hfl:Nb (fun i o=>sp.contains i=true \/ ∃ d v,o.dst=some d/\Is tds i=some v/\∀ w (f:Nat->Value × OL),D P n w ops.toArray [o] (BM (GB ops (Is tds) f) ops i (Cl l)) B (fun dl'=>lk dl' d=some (.ex v))) 0 ops)
 (hrun:SM P n w0 ops l (Is tds) B K sp (fun _=>(undef,[])) ol):T P n w0 (.region id ops.toArray true) l ol (BK K Q):=by
 refine Gy (fun w h=>h.addF hrun) ?_
 refine L6 hmix hreg ([]:OL) (fun L f=>H0 (SM P n w0 ops l (Is tds) B K (sp.drop (Ck L sp)) f (MF ol sp f (Ck L sp)))::MF ol sp f (Ck L sp)) (by
  have:Ck (fun _=>false) sp=0:=by cases sp<;>rfl
  rw [this]
  rfl) tds ?_ ?_
 ·refine GU (fun i o ho hpr=>?_) hfl;rw [Nat.zero_add] at hpr ⊢;intro L f hc hl hp
  have hlt:∀ d,o.dst=some d->d < n:=fun d hd=>by
   have:=List.all_eq_true.1 hdst o (List.mem_of_getElem? ho);rw [hd] at this;simpa [Nat.blt_eq] using this
  by_cases hmem:i ∈ sp
  ·obtain ⟨pre,post,e⟩:=List.append_of_mem hmem;have hpre:∀ j ∈ pre,L j=true:=fun j hj=>FP hc hsp e hj ho hp
   have h1:Ck L sp=pre.length:=by rw [e];exact Jp hpre hl
   have h2:Ck (add L i) sp=pre.length + 1:=by
    have e2:sp=(pre ++ [i]) ++ post:=by rw [e];simp
    have hp2:∀ j ∈ pre ++ [i],add L i j=true:=fun j hj=>by
     unfold add
     rcases List.mem_append.1 hj with hj |hj
     ·split
      ·rfl
      ·exact hpre j hj
     ·rw [if_pos (List.mem_singleton.1 hj)]
    cases post with
    |nil=>
     rw [e2,List.append_nil,H9 hp2,List.length_append];rfl
    |cons j post=>
     rw [e2,Jp hp2,List.length_append]
     ·rfl
     ·have h4:=HD (i:=i) (j:=j) (pre:=pre ++ [i]) (post:=post) hsp e2 (by simp);unfold add;rw [if_neg (by omega)]
      have hjl:j < ops.length:=by
       have:=List.all_eq_true.1 hin j (by rw [e2];simp);simpa [Nat.blt_eq] using this
      cases hLj:L j with
      |false=>rfl
      |true=>
       have:=FP hc hsp e2 (i:=i) (by simp) (List.getElem?_eq_getElem hjl) (fun e he hb=>hc j _ (List.getElem?_eq_getElem hjl) hLj e he hb);rw [hl] at this;cases this
   have h3:sp[pre.length]? =some i:=by rw [e];simp
   have h5:sp.drop pre.length=i::post:=by rw [e];simp
   have h6:sp.drop (pre.length + 1)=post:=by rw [e];simp
   have h7:∀ v,MF ol sp (BT f i v) (pre.length + 1)=v.2:=fun v=>by
    show (BT f i v (sp[pre.length]?.getD 0)).2=v.2;rw [h3];show (BT f i v i).2=v.2;rw [BT,if_pos rfl]
   rw [h1,h2,h5,h6];refine Mm.pre (X:=SM P n w0 ops l (Is tds) B K (i::post) f (MF ol sp f pre.length)) (fun w hw=>hw.fact 0 rfl) hlt (fun hX=>?_);unfold SM at hX;obtain ⟨_,o',lo,ho',hlo,hS⟩:=hX;rw [ho] at ho';cases ho'
   cases hd:o.dst with
   |some d=>
    refine Mm.ofS hd (hlt d hd) hlo (B0 (fun w h=>h.dropr) (GV hS fun l' ol' ⟨v,q1,q2,q3⟩=>?_));unfold Gh at q1;rw [hd] at q1;refine ⟨v,ol',q1,q2,fun w hw=>?_⟩;rw [h7];exact hw.addF q3
   |none=>
    refine Mm.ofSn hd hlo (B0 (fun w h=>h.dropr) (GV hS fun l' ol' ⟨v,q1,q2,q3⟩=>?_));unfold Gh at q1;rw [hd] at q1;subst q1;refine ⟨ol',q2,fun w hw=>?_⟩;rw [h7];exact hw.addF q3
  ·have hs:i ∉ sp:=hmem;obtain ⟨d,v,hd,ht,hD⟩:=hpr.resolve_left fun h=>hs (by simpa using h)
   have h1:Ck (add L i) sp=Ck L sp:=Ki fun j hj=>by
    have hne:j ≠ i:=fun e=>hs (e ▸ hj);unfold add;rw [if_neg hne]
   have h2:∀ y,MF ol sp (BT f i y) (Ck L sp)=MF ol sp f (Ck L sp):=fun y=>by
    have h3:=L1 L sp
    cases hk:Ck L sp with
    |zero=>rfl
    |succ k=>
     have h4:k < sp.length:=by omega
     show (BT f i y (sp[k]?.getD 0)).2=(f (sp[k]?.getD 0)).2;rw [List.getElem?_eq_getElem h4];show (BT f i y sp[k]).2=(f sp[k]).2;have hne:sp[k] ≠ i:=fun e=>hs (e ▸ List.getElem_mem h4);rw [BT,if_neg hne]
   rw [h1];refine ⟨fun a w g1 g2 g3 g4=>?_,hlt⟩;have hX:=g3.fact 0 rfl
   have hb:Hp w w B:=⟨rfl,rfl,rfl,Nat.le_refl _,fun _ _ _=>rfl,hX.base w g3.dropr,List.pairwise_iff_getElem.2 fun i j hi hj _ hx=>by
    rw [hB _ (List.getElem_mem hi),hB _ (List.getElem_mem hj)] at hx
    cases hx⟩
   have hnext:∀ w',Hp w w' B->Hp w0 w' (H0 (SM P n w0 ops l (Is tds) B K (sp.drop (Ck L sp)) (BT f i (v,[])) (MF ol sp (BT f i (v,[])) (Ck L sp)))::MF ol sp (BT f i (v,[])) (Ck L sp)):=fun w' hw'=>by
    rw [h2]
    exact (g3.dropr.ext (hw'.below fun e he hx=>by rw [hB e he] at hx;cases hx)).addF (SM.congr (f:=f) (g:=BT f i (v,[])) (fun j=>by
     by_cases hj:j=i
     ·subst hj;exact .inl ⟨v,ht⟩
     ·rw [BT,if_neg hj];exact .inr rfl) hX)
   obtain ⟨q1,q2⟩:=(AK.ofD hd (hD w f)).ok a w g1 g2 hb g4;refine ⟨fun hw=>Oper.wp_mono2 (fun a' w' ⟨e1,e2⟩=>⟨(v,[]),fun u hu=>by rw [ht] at hu;cases hu;rfl,e1,hnext w' e2⟩) (fun _ _ _ h=>h) (q1 hw),fun hw=>?_⟩;obtain ⟨e1,e2⟩:=q2 hw;subst e1;exact ⟨fun u hu=>by rw [ht] at hu;cases hu;rfl,[],hnext w e2⟩
 ·intro L f w hL hw
  have h1:Ck L sp=sp.length:=H9 fun j hj=>hL j (by
   have:=List.all_eq_true.1 hin j hj
   simpa [Nat.blt_eq] using this)
  rw [h1,List.drop_length] at hw;have hX:=hw.fact 0 rfl;unfold SM at hX;obtain ⟨_,l',q1,q2⟩:=hX;exact ⟨l',_,q1,hw.dropr,q2⟩
theorem FY {td:Nat->Option Value} {B:OL} {i:Nat} {r:List Nat} {f:Nat->Value × OL} {o:Oper} (lo:FL) (hb:Di w0 B ol) (ho:ops[i]? =some o) (hlo:D0 (o.looksAt ops.toArray) (BM (GB ops td f) ops i (Cl l)) lo)
 (hS:S P n w0 ops.toArray [o] lo ol (fun l' ol'=>∃ v,Gh o l' v/\(∀ u,td i=some u->v=u)/\SM P n w0 ops l td B K r (BT f i (v,ol')) ol') (fun _ _ _=>False)):SM P n w0 ops l td B K (i::r) f ol:=by
 unfold SM;exact ⟨hb,o,lo,ho,hlo,hS⟩
theorem R3 {td:Nat->Option Value} {B:OL} {f:Nat->Value × OL} (l':FL) (hb:Di w0 B ol) (hl:Bc l' (BM (GB ops td f) ops ops.length (Cl l))) (hk:K l' ol):SM P n w0 ops l td B K [] f ol:=by
 unfold SM;exact ⟨hb,l',hl,hk⟩
theorem AV:Di w0 [] ol:=fun w hw e he=>by cases he
theorem AL {B:OL} (i:Nat) {b:Nat} {x:Obj} {r:Bool} (hi:B9 ol i=some (.blk b x r)) (h:Di w0 B ol):Di w0 (.blk b x false::B) ol:=fun w hw=>List.forall_mem_cons.2 ⟨hw.own (.blk b x r) (Af hi),h w hw⟩
theorem DQ:∀ e ∈ ([]:OL),e.ex=false:=fun e he=>by cases he
theorem CF {B:OL} {b:Nat} {x:Obj} (h:∀ e ∈ B,e.ex=false):∀ e ∈ (.blk b x false::B:OL),e.ex=false:=List.forall_mem_cons.2 ⟨rfl,h⟩
end
end Go.Proofs.YtidhpofcofknhaaGreat
