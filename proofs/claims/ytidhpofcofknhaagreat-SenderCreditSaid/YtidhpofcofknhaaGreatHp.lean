/-
  Methods called through an interface value; objects that a callee turns. No program's text; conditions: each theorem's own. Walks of container/heap's functions, for any object. Conditions: each theorem's own. Walks of container/heap's up, Init, Fix. Conditions: each theorem's own. The plain law of heaps, over lists. Conditions: each theorem's own. The walk of container/heap's Remove; the plain law of Fix and Remove at any place. Conditions: each theorem's own. Methods of pointers, found. No program's text; conditions: each theorem's own.
  Conditions: each theorem's own.
-/
import Derived.Test.YtidhpofcofknhaaGreatSr
namespace Go.Proofs.YtidhpofcofknhaaGreat
open Go Go.RowKit
set_option linter.unusedVariables false
def EZ (P:Program) (iv:Value) (name:String) (vs:List Value) (w:World) (Q:Ending->World->Prop):Prop:=
 ∃ g asx,(callMethod iv name vs.toArray).run P w= .ok (.enter g asx) w/\Calls P g asx w Q
theorem EZ.mono {P:Program} {iv:Value} {name:String} {vs:List Value} {w:World} {Q R:Ending->World->Prop} (h:EZ P iv name vs w Q) (hq:∀ e w',Q e w'->R e w'):EZ P iv name vs w R:=by
 obtain ⟨g,asx,h1,h2⟩:=h;exact ⟨g,asx,h1,h2.mono hq⟩
theorem Hp.graftT {w0 w w':World} {ol ol':OL} (i:Nat) {Φ Ψ:World->Prop} {F F':Nat->Prop} (hh:Hp w0 w ol) (hi:B9 ol i=some (.rep Φ F true)) (h2:Hp w w' [.rep Ψ F' true]) (hF:∀ k,F k->F' k) (hF':∀ k,F' k->F k \/ w.heap.size <= k)
 (hput:Dc ol i (.rep Ψ F' true)=some ol'):Hp w0 w' ol':=by
 obtain ⟨pre,post,e1,e2⟩:=CP hi hput;rw [e1] at hh;rw [e2];refine hh.turn (x':=.rep Ψ F' true) rfl h2.os h2.tape h2.output h2.size (fun j hj hne=>h2.old j hj fun e he _ hk=>?_) (h2.own _ List.mem_cons_self) hF' (fun k hk=>.inr (hF k hk));rw [List.mem_singleton] at he;subst he
 rcases hF' j hk with h |h
 ·exact hne h
 ·omega
theorem Hp.startO {w:World} {p:Vp} {v:Value} {F:Nat->Prop} (hv:p.at_ w F v) (hF:∀ k,F k->k < w.heap.size):Hp w w [.rep (fun w=>p.at_ w F v) F true]:=
 (Hp.refl w).more ⟨hv,fun w1 w2 h1 h2=>p.keep h2 fun k hk _=>⟨h1 k hk,hk⟩,hF⟩ fun e he=>(by cases he)
section
variable {P:Program} {n:Nat} {w0:World} {all:Array Oper} {os:List Oper} {o:Oper} {l:FL} {ol:OL} {K:FL->OL->Prop} {Q:B3} {d:Nat}
theorem RY {x:Operand} {name:String} {asx:Array Operand} {ts:Array TypeId} {iv:Value} {vs:List Value} (hs:BV n all (AP l) o=some (d,.call ⟨.invoke x name,asx,ts⟩)) (hx:ev (AP l) x=some iv) (ha:evs (AP l) asx.toList=some vs)
 (hc:∀ w,Hp w0 w ol->EZ P iv name vs w (fun e w'=>∃ v ol',e= .returned v/\Hp w0 w' ol'/\S P n w0 all os ((d,v)::l) ol' K Q)):S P n w0 all (o::os) l ol K Q:=by
 obtain ⟨hdst,hlt,hg,hop⟩:=CE hs;refine ⟨fun a w hfr hh=>?_⟩
 have hm:asx.map a.eval=vs.toArray:=by
  apply Array.ext';simpa using hfr.rd.evs ha
 obtain ⟨g,as',hcall,hcs⟩:=hc w hh
 have hr:(execOp a.eval o).run P w= .ok (.enter g as') w:=by
  unfold execOp;simp [hop,resolve,hfr.rd.ev hx,invoke,hm];exact hcall
 unfold wpList;rw [if_pos (Bb hfr.rd hg)];left;simp only [Oper.wp,hr,Oper.upon];refine hcs.mono ?_;rintro e w' ⟨v,ol',rfl,hh',k⟩;show wpList P all _ os (a.put o.dst v) w';rw [hdst];exact k.out _ _ (hfr.put hlt _) hh'
theorem FX {x:Operand} {name:String} {asx:Array Operand} {ts:Array TypeId} {iv v:Value} {vs:List Value} (hs:BV n all (AP l) o=some (d,.call ⟨.invoke x name,asx,ts⟩)) (hx:ev (AP l) x=some iv) (ha:evs (AP l) asx.toList=some vs)
 (hc:∀ w,Hp w0 w ol->EZ P iv name vs w (fun e w'=>e= .returned v/\Below w.heap.size w w')) (k:S P n w0 all os ((d,v)::l) ol K Q):S P n w0 all (o::os) l ol K Q:=
 RY hs hx ha fun w hh=>(hc w hh).mono fun e w' ⟨he,hb⟩=>⟨v,ol,he,hh.ext hb,k⟩
theorem Gz (i:Nat) {x:Operand} {name:String} {asx:Array Operand} {ts:Array TypeId} {iv:Value} {vs:List Value} {Φ:World->Prop} {F:Nat->Prop} (hs:BV n all (AP l) o=some (d,.call ⟨.invoke x name,asx,ts⟩)) (hx:ev (AP l) x=some iv) (ha:evs (AP l) asx.toList=some vs) (hi:B9 ol i=some (.rep Φ F true))
 (hc:∀ w,Hp w0 w ol->EZ P iv name vs w (fun e w'=>∃ v Ψ F',e= .returned v/\Hp w w' [.rep Ψ F' true]/\(∀ k,F k->F' k)/\(∀ k,F' k->F k \/ w.heap.size <= k)/\∃ ol',Dc ol i (.rep Ψ F' true)=some ol'/\S P n w0 all os ((d,v)::l) ol' K Q)):S P n w0 all (o::os) l ol K Q:=
 RY hs hx ha fun w hh=>(hc w hh).mono fun e w' ⟨v,Ψ,F',he,h2,g1,g2,ol',hput,k⟩=>⟨v,ol',he,hh.graftT i hi h2 g1 g2 hput,k⟩
theorem CA (i:Nat) {f:FuncId} {vs:List Value} {Φ:World->Prop} {F:Nat->Prop} (hs:BL n all (AP l) o=some (d,f,vs)) (hcall:∀ args w,(callFunc f args).run P w= .ok (.enter f args) w) (hi:B9 ol i=some (.rep Φ F true))
 (hc:∀ w,Hp w0 w ol->Calls P f vs.toArray w (fun e w'=>∃ v Ψ F',e= .returned v/\Hp w w' [.rep Ψ F' true]/\(∀ k,F k->F' k)/\(∀ k,F' k->F k \/ w.heap.size <= k)/\∃ ol',Dc ol i (.rep Ψ F' true)=some ol'/\S P n w0 all os ((d,v)::l) ol' K Q)):S P n w0 all (o::os) l ol K Q:=
 A7 hs hcall fun w hh=>(hc w hh).mono fun e w' ⟨v,Ψ,F',he,h2,g1,g2,ol',hput,k⟩=>⟨v,ol',he,hh.graftT i hi h2 g1 g2 hput,k⟩
end
structure DK (P:Program) (iv:Value) (St:Type) where
 p:St->Vp
 len:St->Nat
 lt:St->Nat->Nat->Bool
 sw:St->Nat->Nat->St
 lenSw:∀ s i j,len (sw s i j)=len s
 hle:∀ {s w F},(p s).at_ w F (.bool true)->len s <= 1073741824
 hlen:∀ {s w F},(p s).at_ w F (.bool true)->EZ P iv "Len" [] w fun e w'=>e= .returned (.int .i64 (len s:Int))/\Below w.heap.size w w'
 hlt:∀ {s w F} {i j:Nat},(p s).at_ w F (.bool true)->i < len s->j < len s->EZ P iv "Less" [.int .i64 (i:Int),.int .i64 (j:Int)] w fun e w'=>e= .returned (.bool (lt s i j))/\Below w.heap.size w w'
 hsw:∀ {s w F} {i j:Nat},(p s).at_ w F (.bool true)->(∀ k,F k->k < w.heap.size)->i < len s->j < len s->EZ P iv "Swap" [.int .i64 (i:Int),.int .i64 (j:Int)] w fun e w'=>e= .returned (.tuple #[])/\Hp w w' [.rep (fun w=>(p (sw s i j)).at_ w F (.bool true)) F true]
section
variable {P:Program} {iv:Value} {St:Type} (O:DK P iv St)
def DK.ch (n:Nat) (s:St) (i:Nat):Nat:=if 2 * i + 2 < n/\O.lt s (2 * i + 2) (2 * i + 1)=true then 2 * i + 2 else 2 * i + 1
def DK.dn (n:Nat):Nat->St->Nat->St × Nat
 |0,s,i=>(s,i)
 |f + 1,s,i=>if n <= 2 * i + 1 then (s,i) else if O.lt s (O.ch n s i) i=true then DK.dn n f (O.sw s i (O.ch n s i)) (O.ch n s i) else (s,i)
def DK.up:Nat->St->Nat->St
 |0,s,j=>s
 |f + 1,s,j=>if (j - 1) / 2=j then s else if O.lt s j ((j - 1) / 2)=true then DK.up f (O.sw s ((j - 1) / 2) j) ((j - 1) / 2) else s
theorem DK.ch_lt {n:Nat} {s:St} {i:Nat} (h:2 * i + 1 < n):O.ch n s i < n/\i < O.ch n s i:=by
 unfold DK.ch;split<;>omega
theorem DK.dn_len (n:Nat):∀ (f:Nat) (s:St) (i:Nat),O.len (O.dn n f s i).1=O.len s
 |0,s,i=>rfl
 |f + 1,s,i=>by
  unfold DK.dn;split
  ·rfl
  ·split
   ·rw [DK.dn_len n f,O.lenSw]
   ·rfl
end
section
variable {P:Program} {iv:Value} {St:Type} (O:DK P iv St)
theorem DK.hltI {s:St} {w:World} {F:Nat->Prop} {x y:Int} (i j:Nat) (h:(O.p s).at_ w F (.bool true)) (hx:x=(i:Int)) (hy:y=(j:Int)) (hi:i < O.len s) (hj:j < O.len s):EZ P iv "Less" [.int .i64 x,.int .i64 y] w fun e w'=>e= .returned (.bool (O.lt s i j))/\Below w.heap.size w w':=by
 subst hx;subst hy;exact O.hlt h hi hj
theorem DK.hswI {s:St} {w:World} {F:Nat->Prop} {x y:Int} (i j:Nat) (h:(O.p s).at_ w F (.bool true)) (hF:∀ k,F k->k < w.heap.size) (hx:x=(i:Int)) (hy:y=(j:Int)) (hi:i < O.len s) (hj:j < O.len s):EZ P iv "Swap" [.int .i64 x,.int .i64 y] w fun e w'=>e= .returned (.tuple #[])/\Hp w w' [.rep (fun w=>(O.p (O.sw s i j)).at_ w F (.bool true)) F true]:=by
 subst hx;subst hy;exact O.hsw h hF hi hj
end
set_option maxHeartbeats 1000000 in
theorem QU {iv:Value} {St:Type} (O:DK Tryz.prog iv St) (s:St) (i n:Nat) (F:Nat->Prop) (w:World) (h:(O.p s).at_ w F (.bool true)) (hF:∀ k,F k->k < w.heap.size) (hn:n <= O.len s) (hi:i <= 1073741824):
 Calls Tryz.prog 97 #[iv,.int .i64 (i:Int),.int .i64 (n:Int)] w fun e w'=>e= .returned (.bool (decide (i < (O.dn n n s i).2)))/\Hp w w' [.rep (fun w=>(O.p (O.dn n n s i).1).at_ w F (.bool true)) F true]:=by
 have hle:=O.hle h;obtain ⟨R,hR⟩:∃ R,O.dn n n s i=R:=⟨_,rfl⟩;rw [hR];refine EP Tryz.func97 rfl rfl (Hp.startO h hF) ?_;repeat (first |refine Ai ?_ |refine Ab ?_ |refine Ag ?_ |refine Ae Aa rfl ?_)
 refine BN (ι:=Unit) (fun _=>True) (fun _=>[(1,.int .i64 (i:Int)),(7,.int .i64 (R.2:Int))]) (fun _=>[.rep (fun w=>(O.p R.1).at_ w F (.bool true)) F true]) ?_ ?_
 ·refine Aq ?_
  refine AM (ι:=St × Nat × Nat)
   (fun x=>[(0,iv),(1,.int .i64 (i:Int)),(2,.int .i64 (n:Int)),(7,.int .i64 (x.2.1:Int))])
   (fun x=>[.rep (fun w=>(O.p x.1).at_ w F (.bool true)) F true])
   (fun x=>O.len x.1=O.len s/\x.2.1 <= 1073741824/\n - x.2.1 <= x.2.2/\O.dn n x.2.2 x.1 x.2.1=R) (fun x=>n - x.2.1) (s,i,n) ⟨rfl,hi,Nat.sub_le _ _,hR⟩ (by repeat (first |exact As.nil |refine As.cons rfl ?_))
   (fun w' hw=>hw) ?_
  rintro ⟨s1,i1,f1⟩ ⟨hl1,hi1,hf1,hR1⟩;dsimp only at hl1 hi1 hf1 hR1 ⊢;repeat (first |refine Ai ?_ |refine Ab ?_ |refine Aq ?_ |refine Ag ?_ |refine AD Aa rfl (by omega) ?_ |refine Ae Aa rfl ?_)
  refine BI rfl rfl (fun h=>?_) (fun h=>?_)
  ·repeat (first |refine Ag ?_ |refine Ae Aa rfl ?_ |refine Bn rfl rfl rfl ?_)
   refine AX rfl ?_
   have hR2:R=(s1,i1):=by
    rw [<-hR1]
    cases f1 with
    |zero=>rfl
    |succ f=>rw [DK.dn,if_pos (by omega)]
   subst hR2;repeat (first |refine Al ?_ |refine AH ?_)
   refine Cx rfl ?_;repeat (first |refine Ad ?_ |refine AB ?_ |refine Al ?_)
   exact ⟨(),trivial,by repeat (first |exact As.nil |refine As.cons rfl ?_),fun w' hw=>hw⟩
  ·repeat (first |refine Ag ?_ |refine Ae Aa rfl ?_)
   refine Ak rfl (fun h2=>absurd h2 (by omega)) (fun h2=>?_);repeat (first |refine Ai ?_ |refine Ab ?_ |refine Ag ?_ |refine Ad ?_ |refine Ao ?_ |refine AD Aa rfl (by omega) ?_ |refine Ae Aa rfl ?_)
   refine BI rfl rfl (fun h3=>?_) (fun h3=>?_)
   ·repeat (first |refine Ae Aa rfl ?_)
    refine FX rfl rfl rfl (fun w1 g=>O.hltI (2 * i1 + 2) (2 * i1 + 1) (g.own _ (Af (i:=0) rfl)).1 (by omega) (by omega) (by omega) (by omega)) ?_;repeat (first |refine Ag ?_ |refine Ae Aa rfl ?_)
    cases hl2:O.lt s1 (2 * i1 + 2) (2 * i1 + 1) with
    |true=>
     refine AX rfl ?_;have hch:=O.ch_lt (n:=n) (s:=s1) (i:=i1) (by omega);obtain ⟨k,hk⟩:∃ k,O.ch n s1 i1=k:=⟨_,rfl⟩;rw [hk] at hch
     have hkv:k=2 * i1 + 2:=by rw [<-hk];unfold DK.ch;exact if_pos ⟨by omega,hl2⟩
     obtain ⟨f2,rfl⟩:∃ f2,f1=f2 + 1:=⟨f1 - 1,by omega⟩;rw [DK.dn,if_neg (by omega),hk] at hR1;repeat (first |refine Ai ?_ |refine Ab ?_ |refine Ag ?_ |refine Ae Aa rfl ?_)
     refine FX rfl rfl rfl (fun w1 g=>O.hltI k i1 (g.own _ (Af (i:=0) rfl)).1 (by omega) rfl (by omega) (by omega)) ?_;repeat (first |refine Ag ?_ |refine Ae Aa rfl ?_)
     cases hlt:O.lt s1 k i1 with
     |false=>
      rw [hlt,if_neg (by decide)] at hR1;subst hR1;refine AX rfl ?_;repeat (first |refine Al ?_ |refine AH ?_)
      refine Cx rfl ?_;repeat (first |refine Ad ?_ |refine AB ?_ |refine Al ?_)
      exact ⟨(),trivial,by repeat (first |exact As.nil |refine As.cons rfl ?_),fun w' hw=>hw⟩
     |true=>
      rw [hlt,if_pos rfl] at hR1;refine AG rfl ?_;repeat (first |refine Ai ?_ |refine Ab ?_ |refine Ad ?_ |refine Ao ?_ |refine Ae Aa rfl ?_)
      refine Gz 0 rfl rfl rfl rfl (fun w1 g=>(O.hswI i1 k (g.own _ (Af (i:=0) rfl)).1 (g.own _ (Af (i:=0) rfl)).2.2 rfl (by omega) (by omega) (by omega)).mono fun e w' ⟨he,g2⟩=>⟨_,_,F,he,g2,fun _ h=>h,fun _ h=>.inl h,_,rfl,?_⟩);repeat (first |refine Ag ?_ |refine Ad ?_ |refine Am ?_ |refine Ae Aa rfl ?_ |refine Ap ?_)
      exact ⟨(O.sw s1 i1 k,k,f2),⟨(O.lenSw _ _ _).trans hl1,by dsimp only;omega,by dsimp only;omega,hR1⟩,by dsimp only;repeat (first |exact As.nil |refine As.cons rfl ?_ |refine As.cons_int rfl (by omega) ?_),fun w' hw=>hw,by dsimp only;omega⟩
    |false=>
     refine AG rfl ?_;have hch:=O.ch_lt (n:=n) (s:=s1) (i:=i1) (by omega);obtain ⟨k,hk⟩:∃ k,O.ch n s1 i1=k:=⟨_,rfl⟩;rw [hk] at hch
     have hkv:k=2 * i1 + 1:=by rw [<-hk];unfold DK.ch;exact if_neg (fun h=>by rw [hl2] at h;exact absurd h.2 (by decide))
     obtain ⟨f2,rfl⟩:∃ f2,f1=f2 + 1:=⟨f1 - 1,by omega⟩;rw [DK.dn,if_neg (by omega),hk] at hR1;repeat (first |refine Ai ?_ |refine Ab ?_ |refine Ad ?_ |refine Ao ?_ |refine Ae Aa rfl ?_)
     refine FX rfl rfl rfl (fun w1 g=>O.hltI k i1 (g.own _ (Af (i:=0) rfl)).1 (by omega) rfl (by omega) (by omega)) ?_;repeat (first |refine Ag ?_ |refine Ae Aa rfl ?_)
     cases hlt:O.lt s1 k i1 with
     |false=>
      rw [hlt,if_neg (by decide)] at hR1;subst hR1;refine AX rfl ?_;repeat (first |refine Al ?_ |refine AH ?_)
      refine Cx rfl ?_;repeat (first |refine Ad ?_ |refine AB ?_ |refine Al ?_)
      exact ⟨(),trivial,by repeat (first |exact As.nil |refine As.cons rfl ?_),fun w' hw=>hw⟩
     |true=>
      rw [hlt,if_pos rfl] at hR1;refine AG rfl ?_;repeat (first |refine Ai ?_ |refine Ab ?_ |refine Ad ?_ |refine Ao ?_ |refine Ae Aa rfl ?_)
      refine Gz 0 rfl rfl rfl rfl (fun w1 g=>(O.hswI i1 k (g.own _ (Af (i:=0) rfl)).1 (g.own _ (Af (i:=0) rfl)).2.2 rfl (by omega) (by omega) (by omega)).mono fun e w' ⟨he,g2⟩=>⟨_,_,F,he,g2,fun _ h=>h,fun _ h=>.inl h,_,rfl,?_⟩);repeat (first |refine Ag ?_ |refine Ad ?_ |refine Am ?_ |refine Ae Aa rfl ?_ |refine Ap ?_)
      exact ⟨(O.sw s1 i1 k,k,f2),⟨(O.lenSw _ _ _).trans hl1,by dsimp only;omega,by dsimp only;omega,hR1⟩,by dsimp only;repeat (first |exact As.nil |refine As.cons rfl ?_ |refine As.cons_int rfl (by omega) ?_),fun w' hw=>hw,by dsimp only;omega⟩
   ·repeat (first |refine Ag ?_ |refine Ae Aa rfl ?_ |refine Bn rfl rfl rfl ?_)
    refine AG rfl ?_;have hch:=O.ch_lt (n:=n) (s:=s1) (i:=i1) (by omega);obtain ⟨k,hk⟩:∃ k,O.ch n s1 i1=k:=⟨_,rfl⟩;rw [hk] at hch
    have hkv:k=2 * i1 + 1:=by rw [<-hk];unfold DK.ch;exact if_neg (fun h=>absurd h.1 (by omega))
    obtain ⟨f2,rfl⟩:∃ f2,f1=f2 + 1:=⟨f1 - 1,by omega⟩;rw [DK.dn,if_neg (by omega),hk] at hR1;repeat (first |refine Ai ?_ |refine Ab ?_ |refine Ad ?_ |refine Ao ?_ |refine Ae Aa rfl ?_)
    refine FX rfl rfl rfl (fun w1 g=>O.hltI k i1 (g.own _ (Af (i:=0) rfl)).1 (by omega) rfl (by omega) (by omega)) ?_;repeat (first |refine Ag ?_ |refine Ae Aa rfl ?_)
    cases hlt:O.lt s1 k i1 with
    |false=>
     rw [hlt,if_neg (by decide)] at hR1;subst hR1;refine AX rfl ?_;repeat (first |refine Al ?_ |refine AH ?_)
     refine Cx rfl ?_;repeat (first |refine Ad ?_ |refine AB ?_ |refine Al ?_)
     exact ⟨(),trivial,by repeat (first |exact As.nil |refine As.cons rfl ?_),fun w' hw=>hw⟩
    |true=>
     rw [hlt,if_pos rfl] at hR1;refine AG rfl ?_;repeat (first |refine Ai ?_ |refine Ab ?_ |refine Ad ?_ |refine Ao ?_ |refine Ae Aa rfl ?_)
     refine Gz 0 rfl rfl rfl rfl (fun w1 g=>(O.hswI i1 k (g.own _ (Af (i:=0) rfl)).1 (g.own _ (Af (i:=0) rfl)).2.2 rfl (by omega) (by omega) (by omega)).mono fun e w' ⟨he,g2⟩=>⟨_,_,F,he,g2,fun _ h=>h,fun _ h=>.inl h,_,rfl,?_⟩);repeat (first |refine Ag ?_ |refine Ad ?_ |refine Am ?_ |refine Ae Aa rfl ?_ |refine Ap ?_)
     exact ⟨(O.sw s1 i1 k,k,f2),⟨(O.lenSw _ _ _).trans hl1,by dsimp only;omega,by dsimp only;omega,hR1⟩,by dsimp only;repeat (first |exact As.nil |refine As.cons rfl ?_ |refine As.cons_int rfl (by omega) ?_),fun w' hw=>hw,by dsimp only;omega⟩
 ·rintro ⟨⟩ _;repeat (first |refine Ai ?_ |refine Ab ?_ |refine Ag ?_ |refine AC ?_ |refine Ae Aa rfl ?_)
  exact AZ rfl rfl (fun w' hw=>⟨congrArg (fun b=>Ending.returned (Value.bool b)) (by rw [decide_eq_decide];omega),hw⟩)
section
variable {P:Program} {iv:Value} {St:Type} (O:DK P iv St)
def DK.fx (s:St) (i:Nat):St:=if i < (O.dn (O.len s) (O.len s) s i).2 then (O.dn (O.len s) (O.len s) s i).1 else O.up (i + 1) (O.dn (O.len s) (O.len s) s i).1 i
end
theorem Tg (j:Nat) (hj:j <= 1073741824):IntKind.i64.wrap (((j:Int) - 1).tdiv 2)=(((j - 1) / 2:Nat):Int):=by
 rcases Nat.eq_zero_or_pos j with h |h
 ·subst h;rfl
 ·rw [Int.tdiv_eq_ediv_of_nonneg (by omega),IntWalk.i64_in _ (by omega)];omega
set_option maxHeartbeats 1000000 in
theorem NC {iv:Value} {St:Type} (O:DK Tryz.prog iv St) (s:St) (j:Nat) (F:Nat->Prop) (w:World) (h:(O.p s).at_ w F (.bool true)) (hF:∀ k,F k->k < w.heap.size) (hj:j < O.len s):
 Calls Tryz.prog 98 #[iv,.int .i64 (j:Int)] w fun e w'=>e= .returned (.tuple #[])/\Hp w w' [.rep (fun w=>(O.p (O.up (j + 1) s j)).at_ w F (.bool true)) F true]:=by
 have hle:=O.hle h;obtain ⟨R,hR⟩:∃ R,O.up (j + 1) s j=R:=⟨_,rfl⟩;rw [hR];refine BO Tryz.func98 rfl rfl (Hp.startO h hF) ?_;refine Aq ?_
 refine AM (ι:=St × Nat × Nat)
  (fun x=>[(0,iv),(1,.int .i64 (x.2.1:Int))])
  (fun x=>[.rep (fun w=>(O.p x.1).at_ w F (.bool true)) F true])
  (fun x=>O.len x.1=O.len s/\x.2.1 < O.len s/\x.2.1 < x.2.2/\O.up x.2.2 x.1 x.2.1=R) (fun x=>x.2.2) (s,j,j + 1) ⟨rfl,hj,Nat.lt_succ_self _,hR⟩ (by repeat (first |exact As.nil |refine As.cons rfl ?_))
  (fun w' hw=>hw) ?_
 rintro ⟨s1,j1,f1⟩ ⟨hl1,hj1,hf1,hR1⟩;dsimp only at hl1 hj1 hf1 hR1 ⊢;obtain ⟨f2,rfl⟩:∃ f2,f1=f2 + 1:=⟨f1 - 1,by omega⟩;rw [DK.up] at hR1;obtain ⟨i1,hi1⟩:∃ i1,(j1 - 1) / 2=i1:=⟨_,rfl⟩;have hh:=Tg j1 (by omega);rw [hi1] at hh hR1;repeat (first |refine Ai ?_ |refine Ab ?_ |refine Aq ?_ |refine AD Aa rfl (by omega) ?_ |refine Ae Aa rfl ?_)
 refine BE (UY rfl rfl rfl (by decide)) ?_;rw [hh];repeat (first |refine Ai ?_ |refine Ab ?_ |refine Ag ?_ |refine Ae Aa rfl ?_)
 refine BI rfl rfl (fun h=>?_) (fun h=>?_)
 ·repeat (first |refine Ag ?_ |refine Ae Aa rfl ?_ |refine Bn rfl rfl rfl ?_)
  refine AX rfl ?_;rw [if_pos (by omega)] at hR1;subst hR1;repeat (first |refine Al ?_ |refine AH ?_)
  refine Cx rfl ?_;repeat (first |refine AB ?_ |refine Al ?_)
  exact CM rfl (fun w' hw=>⟨rfl,hw⟩)
 ·rw [if_neg (by omega)] at hR1;repeat (first |refine Ae Aa rfl ?_)
  refine FX rfl rfl rfl (fun w1 g=>O.hltI j1 i1 (g.own _ (Af (i:=0) rfl)).1 rfl rfl (by omega) (by omega)) ?_;repeat (first |refine Ag ?_ |refine Ae Aa rfl ?_)
  cases hlt:O.lt s1 j1 i1 with
  |false=>
   rw [hlt,if_neg (by decide)] at hR1;subst hR1;refine AX rfl ?_;repeat (first |refine Al ?_ |refine AH ?_)
   refine Cx rfl ?_;repeat (first |refine AB ?_ |refine Al ?_)
   exact CM rfl (fun w' hw=>⟨rfl,hw⟩)
  |true=>
   rw [hlt,if_pos rfl] at hR1;refine AG rfl ?_;repeat (first |refine Ai ?_ |refine Ab ?_ |refine Ad ?_ |refine Ao ?_ |refine Ae Aa rfl ?_)
   refine Gz 0 rfl rfl rfl rfl (fun w1 g=>(O.hswI i1 j1 (g.own _ (Af (i:=0) rfl)).1 (g.own _ (Af (i:=0) rfl)).2.2 rfl rfl (by omega) (by omega)).mono fun e w' ⟨he,g2⟩=>⟨_,_,F,he,g2,fun _ h=>h,fun _ h=>.inl h,_,rfl,?_⟩);repeat (first |refine Ag ?_ |refine Ad ?_ |refine Am ?_ |refine Ae Aa rfl ?_ |refine Ap ?_)
   exact ⟨(O.sw s1 i1 j1,i1,f2),⟨(O.lenSw _ _ _).trans hl1,by dsimp only;omega,by dsimp only;omega,hR1⟩,by dsimp only;repeat (first |exact As.nil |refine As.cons rfl ?_),fun w' hw=>hw,by dsimp only;omega⟩
theorem NE {iv:Value} {St:Type} (O:DK Tryz.prog iv St) (s:St) (i n:Nat) (F:Nat->Prop) (w:World) (h:(O.p s).at_ w F (.bool true)) (hF:∀ k,F k->k < w.heap.size) (hn:n <= O.len s) (hi:i <= 1073741824) {x y:Int} (hx:x=(i:Int)) (hy:y=(n:Int)):
 Calls Tryz.prog 97 #[iv,.int .i64 x,.int .i64 y] w fun e w'=>e= .returned (.bool (decide (i < (O.dn n n s i).2)))/\Hp w w' [.rep (fun w=>(O.p (O.dn n n s i).1).at_ w F (.bool true)) F true]:=by
 subst hx;subst hy;exact QU O s i n F w h hF hn hi
set_option maxHeartbeats 1000000 in
theorem Te {iv:Value} {St:Type} (O:DK Tryz.prog iv St) (s:St) (i:Nat) (F:Nat->Prop) (w:World) (h:(O.p s).at_ w F (.bool true)) (hF:∀ k,F k->k < w.heap.size) (hi:i < O.len s):
 Calls Tryz.prog 93 #[iv,.int .i64 (i:Int)] w fun e w'=>e= .returned (.tuple #[])/\Hp w w' [.rep (fun w=>(O.p (O.fx s i)).at_ w F (.bool true)) F true]:=by
 have hle:=O.hle h;refine BO Tryz.func93 rfl rfl (Hp.startO h hF) ?_;repeat (first |refine Ai ?_ |refine Ab ?_ |refine Ae Aa rfl ?_)
 refine FX rfl rfl rfl (fun w1 g=>O.hlen (g.own _ (Af (i:=0) rfl)).1) ?_;skip;refine CA 0 rfl Tryz.call97 rfl (fun w1 g=>(NE O s i (O.len s) F w1 (g.own _ (Af (i:=0) rfl)).1 (g.own _ (Af (i:=0) rfl)).2.2 (Nat.le_refl _) (by omega) rfl rfl).mono fun e w' ⟨he,g2⟩=>⟨_,_,F,he,g2,fun _ h=>h,fun _ h=>.inl h,_,rfl,?_⟩);have hdl:=O.dn_len (O.len s) (O.len s) s i;unfold DK.fx;by_cases hd:i < (O.dn (O.len s) (O.len s) s i).2
 ·rw [decide_eq_true hd,if_pos hd];repeat (first |refine Ag ?_ |refine Ae Aa rfl ?_)
  refine AG rfl ?_;repeat (first |refine Ao ?_)
  exact CM rfl (fun w' hw=>⟨rfl,hw⟩)
 ·rw [decide_eq_false hd,if_neg hd];repeat (first |refine Ag ?_ |refine Ae Aa rfl ?_)
  refine AX rfl ?_;repeat (first |refine Ae Aa rfl ?_ |refine Ap ?_)
  refine CA 0 rfl Tryz.call98 rfl (fun w1 g=>(NC O (O.dn (O.len s) (O.len s) s i).1 i F w1 (g.own _ (Af (i:=0) rfl)).1 (g.own _ (Af (i:=0) rfl)).2.2 (by omega)).mono fun e w' ⟨he,g2⟩=>⟨_,_,F,he,g2,fun _ h=>h,fun _ h=>.inl h,_,rfl,?_⟩);repeat (first |refine Ag ?_)
  exact CM rfl (fun w' hw=>⟨rfl,hw⟩)
def DK.pp {P:Program} {iv:Value} {St:Type} (O:DK P iv St) (s:St):St:=(O.dn (O.len s - 1) (O.len s - 1) (O.sw s 0 (O.len s - 1)) 0).1
set_option maxHeartbeats 1000000 in
theorem Td {iv:Value} {St:Type} (O:DK Tryz.prog iv St) (s:St) (F:Nat->Prop) (w:World) (h:(O.p s).at_ w F (.bool true)) (hF:∀ k,F k->k < w.heap.size) (hi:0 < O.len s) (u:Value) (q:Vp)
 (hp:∀ w1,(O.p (O.pp s)).at_ w1 F (.bool true)->(∀ k,F k->k < w1.heap.size)->EZ Tryz.prog iv "Pop" [] w1 fun e w'=>e= .returned u/\Hp w1 w' [.rep (fun w=>q.at_ w F (.bool true)) F true]):
 Calls Tryz.prog 91 #[iv] w fun e w'=>e= .returned u/\Hp w w' [.rep (fun w=>q.at_ w F (.bool true)) F true]:=by
 have hle:=O.hle h;refine BZ Tryz.func91 rfl rfl (Hp.startO h hF) ?_;repeat (first |refine Ai ?_ |refine Ab ?_ |refine Ag ?_ |refine Ae Aa rfl ?_)
 refine FX rfl rfl rfl (fun w1 g=>O.hlen (g.own _ (Af (i:=0) rfl)).1) ?_;repeat (first |refine Ai ?_ |refine Ab ?_ |refine Ag ?_ |refine AD Aa rfl (by omega) ?_ |refine Ae Aa rfl ?_)
 refine Gz 0 rfl rfl rfl rfl (fun w1 g=>(O.hswI 0 (O.len s - 1) (g.own _ (Af (i:=0) rfl)).1 (g.own _ (Af (i:=0) rfl)).2.2 rfl (by omega) (by omega) (by omega)).mono fun e w' ⟨he,g2⟩=>⟨_,_,F,he,g2,fun _ h=>h,fun _ h=>.inl h,_,rfl,?_⟩);repeat (first |refine Ai ?_ |refine Ab ?_ |refine Ag ?_ |refine Ae Aa rfl ?_)
 refine CA 0 rfl Tryz.call97 rfl (fun w1 g=>(NE O (O.sw s 0 (O.len s - 1)) 0 (O.len s - 1) F w1 (g.own _ (Af (i:=0) rfl)).1 (g.own _ (Af (i:=0) rfl)).2.2 (by rw [O.lenSw];omega) (by omega) rfl (by omega)).mono fun e w' ⟨he,g2⟩=>⟨_,_,F,he,g2,fun _ h=>h,fun _ h=>.inl h,_,rfl,?_⟩);repeat (first |refine Ai ?_ |refine Ab ?_ |refine Ag ?_ |refine Ae Aa rfl ?_)
 refine Gz 0 rfl rfl rfl rfl (fun w1 g=>(hp w1 (g.own _ (Af (i:=0) rfl)).1 (g.own _ (Af (i:=0) rfl)).2.2).mono fun e w' ⟨he,g2⟩=>⟨_,_,F,he,g2,fun _ h=>h,fun _ h=>.inl h,_,rfl,?_⟩);repeat (first |refine Ag ?_ |refine AC ?_ |refine Ae Aa rfl ?_)
 exact AZ rfl rfl (fun w' hw=>⟨rfl,hw⟩)
def FB {α:Type} (r:α->α->Bool) (s:List α) (i j:Nat):Bool:=match s[i]?,s[j]? with |some a,some b=>r a b |_,_=>false
def Nc {α:Type} (s:List α) (i j:Nat):List α:=match s[i]?,s[j]? with |some a,some b=>(s.set i b).set j a |_,_=>s
def tr (i j a:Nat):Nat:=if a=i then j else if a=j then i else a
theorem C0 {α:Type} (s:List α) (i j:Nat):(Nc s i j).length=s.length:=by
 unfold Nc;split<;>simp
theorem FO {α:Type} {s:List α} {i j:Nat} (hi:i < s.length) (hj:j < s.length) (a:Nat):(Nc s i j)[a]? =s[tr i j a]? :=by
 unfold Nc tr;rw [List.getElem?_eq_getElem hi,List.getElem?_eq_getElem hj];dsimp only;rw [List.getElem?_set,List.getElem?_set,List.length_set];by_cases h1:a=i
 ·subst h1;rw [if_pos rfl];by_cases h2:j=a
  ·subst h2;simp [List.getElem?_eq_getElem hi,hi]
  ·rw [if_neg h2,if_pos rfl,if_pos hi,List.getElem?_eq_getElem hj]
 ·rw [if_neg h1];by_cases h2:a=j
  ·subst h2;rw [if_pos rfl,if_pos hj,if_pos rfl,List.getElem?_eq_getElem hi]
  ·rw [if_neg (fun h=>h2 h.symm),if_neg (fun h=>h1 h.symm),if_neg h2]
theorem JE {α:Type}:∀ {s:List α} {i:Nat} {a:α},s[i]? =some a->s.set i a=s
 | [],i,a,h=>by simp at h
 |x::s,0,a,h=>by simp at h;simp [h]
 |x::s,i + 1,a,h=>by
  rw [List.getElem?_cons_succ] at h;rw [List.set_cons_succ,JE h]
theorem Ge {α:Type} (s:List α) (i j:Nat):(Nc s i j).Perm s:=by
 unfold Nc;split
 ·rename_i a b ha hb;have hi:=(List.getElem?_eq_some_iff.1 ha);have hj:=(List.getElem?_eq_some_iff.1 hb);obtain ⟨hi,rfl⟩:=hi;obtain ⟨hj,rfl⟩:=hj;exact List.set_set_perm hi hj
 ·exact List.Perm.refl _
structure SW {α:Type} (r:α->α->Bool):Prop where
 asym:∀ a b,r a b=true->r b a=false
 ntr:∀ a b c,r a b=false->r b c=false->r a c=false
section
variable {α:Type} {r:α->α->Bool} (hr:SW r)
include hr
theorem DS {s:List α} {i j:Nat} (h:FB r s i j=true):FB r s j i=false:=by
 unfold FB at h ⊢;split at h
 ·rename_i a b ha hb;rw [ha,hb];exact hr.asym _ _ h
 ·cases h
theorem EA {s:List α} {i j k:Nat} (hj:j < s.length) (h1:FB r s i j=false) (h2:FB r s j k=false):FB r s i k=false:=by
 unfold FB at h1 h2 ⊢;rw [List.getElem?_eq_getElem hj] at h1 h2
 cases ha:s[i]? with
 |none=>rfl
 |some a=>
  cases hc:s[k]? with
  |none=>rfl
  |some c=>
   rw [ha] at h1;rw [hc] at h2;exact hr.ntr _ _ _ h1 h2
end
theorem Hi {α:Type} {r:α->α->Bool} {s:List α} {i j:Nat} (hi:i < s.length) (hj:j < s.length) (a b:Nat):FB r (Nc s i j) a b=FB r s (tr i j a) (tr i j b):=by
 unfold FB;rw [FO hi hj,FO hi hj]
theorem P7 (i j:Nat):tr i j i=j:=if_pos rfl
theorem Pa (i j:Nat):tr i j j=i:=by
 unfold tr;split
 ·assumption
 ·exact if_pos rfl
theorem G0 {i j a:Nat} (h1:a ≠ i) (h2:a ≠ j):tr i j a=a:=by unfold tr;rw [if_neg h1,if_neg h2]
def Hd {α:Type} (r:α->α->Bool) (s:List α) (n lo:Nat):Prop:=∀ j,0 < j->j < n->lo <= (j - 1) / 2->FB r s j ((j - 1) / 2)=false
def Dk {α:Type} (r:α->α->Bool) (s:List α) (n lo i:Nat):Prop:=∀ j,0 < j->j < n->lo <= (j - 1) / 2->((j - 1) / 2 ≠ i->FB r s j ((j - 1) / 2)=false)/\((j - 1) / 2=i->0 < i->lo <= (i - 1) / 2->FB r s j ((i - 1) / 2)=false)
def Uk {α:Type} (r:α->α->Bool) (s:List α) (n i:Nat):Prop:=∀ j,0 < j->j < n->(j ≠ i->FB r s j ((j - 1) / 2)=false)/\((j - 1) / 2=i->0 < i->FB r s j ((i - 1) / 2)=false)
def Dh {α:Type} (r:α->α->Bool) (s:List α):Prop:=∀ j,0 < j->j < s.length->(j - 1) / 2 ≠ 0->FB r s j ((j - 1) / 2)=false
theorem Hd.dh {α:Type} {r:α->α->Bool} {s:List α} (h:Hd r s s.length 0):Dh r s:=fun j h0 hj _=>h j h0 hj (Nat.zero_le _)
structure XT {P:Program} {iv:Value} {α:Type} (O:DK P iv (List α)) (r:α->α->Bool):Prop where
 len:∀ s,O.len s=s.length
 lt:∀ s i j,O.lt s i j=FB r s i j
 sw:∀ s i j,O.sw s i j=Nc s i j
section
variable {P:Program} {iv:Value} {α:Type} {O:DK P iv (List α)} {r:α->α->Bool} (hO:XT O r)
include hO
theorem E7 (n:Nat):∀ (f:Nat) (s:List α) (i:Nat),(O.dn n f s i).1.Perm s
 |0,s,i=>List.Perm.refl _
 |f + 1,s,i=>by
  unfold DK.dn;split
  ·exact List.Perm.refl _
  ·split
   ·rw [hO.sw];exact (E7 n f _ _).trans (Ge _ _ _)
   ·exact List.Perm.refl _
theorem Jc:∀ (f:Nat) (s:List α) (i:Nat),(O.up f s i).Perm s
 |0,s,i=>List.Perm.refl _
 |f + 1,s,i=>by
  unfold DK.up;split
  ·exact List.Perm.refl _
  ·split
   ·rw [hO.sw];exact (Jc f _ _).trans (Ge _ _ _)
   ·exact List.Perm.refl _
theorem Uj (s:List α) (i:Nat):(O.fx s i).Perm s:=by
 unfold DK.fx;split
 ·exact E7 hO ..
 ·exact (Jc hO ..).trans (E7 hO ..)
theorem LP (s:List α):(O.pp s).Perm s:=by
 unfold DK.pp;rw [hO.sw];exact (E7 hO ..).trans (Ge ..)
theorem LY (n:Nat):∀ (f:Nat) (s:List α) (i k:Nat),n <= s.length->n <= k->(O.dn n f s i).1[k]? =s[k]?
 |0,s,i,k,_,_=>rfl
 |f + 1,s,i,k,hs,hk=>by
  unfold DK.dn;split
  ·rfl
  ·rename_i hn;have hc:=O.ch_lt (n:=n) (s:=s) (i:=i) (by omega);split
   ·rw [hO.sw,LY n f _ _ _ (by rw [C0];exact hs) hk,FO (by omega) (by omega),G0 (by omega) (by omega)]
   ·rfl
theorem Jo (hr:SW r) (n lo:Nat):∀ (f:Nat) (s:List α) (i:Nat),n <= s.length->n - i <= f->Dk r s n lo i->Hd r (O.dn n f s i).1 n lo
 |0,s,i,hs,hf,hk=>fun j h0 hj hl=>(hk j h0 hj hl).1 (by omega)
 |f + 1,s,i,hs,hf,hk=>by
  unfold DK.dn;by_cases hn:n <= 2 * i + 1
  ·rw [if_pos hn];exact fun j h0 hj hl=>(hk j h0 hj hl).1 (by omega)
  ·rw [if_neg hn];have hc:=O.ch_lt (n:=n) (s:=s) (i:=i) (by omega)
   have hcv:(O.ch n s i=2 * i + 1 \/ O.ch n s i=2 * i + 2)/\∀ j,0 < j->j < n->(j - 1) / 2=i->FB r s j (O.ch n s i)=false:=by
    unfold DK.ch;split
    ·rename_i h;rw [hO.lt] at h;refine ⟨.inr rfl,fun j h0 hj hp=>?_⟩
     rcases (show j=2 * i + 1 \/ j=2 * i + 2 by omega) with h1 |h1
     ·rw [h1];exact DS hr h.2
     ·rw [h1]
      cases h2:FB r s (2 * i + 2) (2 * i + 2) with
      |false=>rfl
      |true=>rw [DS hr h2] at h2;cases h2
    ·rename_i h;rw [hO.lt] at h;refine ⟨.inl rfl,fun j h0 hj hp=>?_⟩
     rcases (show j=2 * i + 1 \/ j=2 * i + 2 by omega) with h1 |h1
     ·rw [h1]
      cases h2:FB r s (2 * i + 1) (2 * i + 1) with
      |false=>rfl
      |true=>rw [DS hr h2] at h2;cases h2
     ·subst h1
      cases h2:FB r s (2 * i + 2) (2 * i + 1) with
      |false=>rfl
      |true=>exact absurd ⟨hj,h2⟩ h
   rw [hO.lt];generalize O.ch n s i=c at hc hcv;obtain ⟨hcv,hcl⟩:=hcv;by_cases hlt:FB r s c i=true
   ·rw [if_pos hlt,hO.sw];refine Jo hr n lo f _ _ (by rw [C0];exact hs) (by omega) fun j h0 hj hl=>⟨fun hp=>?_,fun hp hc0 hl2=>?_⟩
    ·rw [Hi (by omega) (by omega)];by_cases hpi:(j - 1) / 2=i
     ·rw [hpi,P7];by_cases hjc:j=c
      ·rw [hjc,Pa];exact DS hr hlt
      ·rw [G0 (by omega) hjc];exact hcl j h0 hj hpi
     ·rw [G0 hpi hp];by_cases hji:j=i
      ·rw [hji,P7];subst hji;exact (hk c (by omega) (by omega) (by omega)).2 (by omega) h0 hl
      ·rw [G0 hji (by omega)];exact (hk j h0 hj hl).1 hpi
    ·rw [Hi (by omega) (by omega),show (c - 1) / 2=i by omega,P7,G0 (by omega) (by omega)];have:=(hk j h0 hj hl).1 (by omega);rw [hp] at this;exact this
   ·rw [if_neg hlt];intro j h0 hj hl;by_cases hpi:(j - 1) / 2=i
    ·rw [hpi];exact EA (s:=s) hr (show c < s.length by omega) (hcl j h0 hj hpi) (by simpa using hlt)
    ·exact (hk j h0 hj hl).1 hpi
theorem Jd (hr:SW r) (n:Nat):∀ (f:Nat) (s:List α) (i:Nat),n <= s.length->i < n->i < f->Uk r s n i->Hd r (O.up f s i) n 0
 |0,s,i,hs,hi,hf,hk=>by omega
 |f + 1,s,i,hs,hi,hf,hk=>by
  unfold DK.up;by_cases h0:(i - 1) / 2=i
  ·rw [if_pos h0];exact fun j h1 hj _=>(hk j h1 hj).1 (by omega)
  ·rw [if_neg h0,hO.lt];obtain ⟨q,hq⟩:∃ q,(i - 1) / 2=q:=⟨_,rfl⟩;rw [hq] at h0 ⊢;by_cases hlt:FB r s i q=true
   ·rw [if_pos hlt,hO.sw];refine Jd hr n f _ _ (by rw [C0];exact hs) (by omega) (by omega) fun j h1 hj=>⟨fun hp=>?_,fun hp hq0=>?_⟩
    ·rw [Hi (by omega) (by omega)];by_cases hji:j=i
     ·rw [hji,hq,Pa,P7];exact DS hr hlt
     ·rw [G0 hp hji];by_cases h2:(j - 1) / 2=q
      ·rw [h2,P7];have:=(hk j h1 hj).1 hji;rw [h2] at this;exact EA hr (by omega) this (DS hr hlt)
      ·by_cases h3:(j - 1) / 2=i
       ·rw [h3,Pa];have:=(hk j h1 hj).2 h3 (by omega);rw [hq] at this;exact this
       ·rw [G0 h2 h3];exact (hk j h1 hj).1 hji
    ·rw [Hi (by omega) (by omega),G0 (a:=(q - 1) / 2) (by omega) (by omega)];have hqq:=(hk q hq0 (by omega)).1 (by omega);by_cases hji:j=i
     ·rw [hji,Pa];exact hqq
     ·rw [G0 (by omega) hji];have:=(hk j h1 hj).1 hji;rw [hp] at this;exact EA hr (by omega) this hqq
   ·rw [if_neg hlt];intro j h1 hj _;by_cases hji:j=i
    ·rw [hji,hq];simpa using hlt
    ·exact (hk j h1 hj).1 hji
theorem Xk (hr:SW r) (s:List α) (h:Dh r s):Hd r (O.fx s 0) s.length 0:=by
 unfold DK.fx;rw [hO.len];have h1:=Jo hO hr s.length 0 s.length s 0 (Nat.le_refl _) (Nat.sub_le _ _) (fun j h0 hj hl=>⟨h j h0 hj,fun hp h2=>by omega⟩);split
 ·exact h1
 ·rw [DK.up,if_pos (by decide)];exact h1
theorem Ow (s:List α) (h:0 < s.length):(O.pp s)[s.length - 1]? =s[0]? :=by
 unfold DK.pp;rw [hO.len,hO.sw,LY hO _ _ _ _ _ (by rw [C0];omega) (Nat.le_refl _),FO h (by omega),Pa]
theorem SU (hr:SW r) (s:List α) (h:Dh r s) (h0:0 < s.length):Hd r (O.pp s) (s.length - 1) 0:=by
 unfold DK.pp;rw [hO.len,hO.sw];refine Jo hO hr _ 0 _ _ _ (by rw [C0];omega) (Nat.sub_le _ _) fun j h1 hj hl=>⟨fun hp=>?_,fun hp h2=>by omega⟩;rw [Hi (by omega) (by omega),G0 (by omega) (by omega),G0 (by omega) (by omega)];exact h j h1 (by omega) hp
end
theorem Tf {α:Type} {r:α->α->Bool} (hr:SW r) {s:List α} {n:Nat} (hs:n <= s.length) (h:Hd r s n 0):∀ (i:Nat),i < n->FB r s i 0=false:=by
 intro i
 induction i using Nat.strongRecOn with
 |ind i ih=>
  intro hi;by_cases h0:i=0
  ·subst h0
   cases h2:FB r s 0 0 with
   |false=>rfl
   |true=>rw [DS hr h2] at h2;cases h2
  ·exact EA hr (j:=(i - 1) / 2) (by omega) (h i (by omega) hi (Nat.zero_le _)) (ih _ (by omega) (by omega))
theorem OA {α:Type} {r:α->α->Bool} {s:List α} {n:Nat} (h:Hd r s n 0) (hn:n <= s.length):Hd r (s.take n) n 0:=by
 intro j h0 hj hl;have:=h j h0 hj hl;unfold FB at this ⊢;rw [List.getElem?_take_of_lt hj,List.getElem?_take_of_lt (by omega)];exact this
def DK.rm {P:Program} {iv:Value} {St:Type} (O:DK P iv St) (s:St) (i:Nat):St:=
 if O.len s - 1=i then s else
  if i < (O.dn (O.len s - 1) (O.len s - 1) (O.sw s i (O.len s - 1)) i).2 then (O.dn (O.len s - 1) (O.len s - 1) (O.sw s i (O.len s - 1)) i).1
  else O.up (i + 1) (O.dn (O.len s - 1) (O.len s - 1) (O.sw s i (O.len s - 1)) i).1 i
set_option maxHeartbeats 1000000 in
theorem ND {iv:Value} {St:Type} (O:DK Tryz.prog iv St) (s:St) (i:Nat) (F:Nat->Prop) (w:World) (h:(O.p s).at_ w F (.bool true)) (hF:∀ k,F k->k < w.heap.size) (hi:i < O.len s) (u:Value) (q:Vp)
 (hp:∀ w1,(O.p (O.rm s i)).at_ w1 F (.bool true)->(∀ k,F k->k < w1.heap.size)->EZ Tryz.prog iv "Pop" [] w1 fun e w'=>e= .returned u/\Hp w1 w' [.rep (fun w=>q.at_ w F (.bool true)) F true]):
 Calls Tryz.prog 88 #[iv,.int .i64 (i:Int)] w fun e w'=>e= .returned u/\Hp w w' [.rep (fun w=>q.at_ w F (.bool true)) F true]:=by
 have hle:=O.hle h;refine BO Tryz.func88 rfl rfl (Hp.startO h hF) ?_;repeat (first |refine Ai ?_ |refine Ab ?_ |refine Ag ?_ |refine Ae Aa rfl ?_)
 refine FX rfl rfl rfl (fun w1 g=>O.hlen (g.own _ (Af (i:=0) rfl)).1) ?_;repeat (first |refine Ai ?_ |refine Ab ?_ |refine Ag ?_ |refine AD Aa rfl (by omega) ?_ |refine Ae Aa rfl ?_)
 refine BN (ι:=Unit) (fun _=>True) (fun _=>[(0,iv)]) (fun _=>[.rep (fun w=>(O.p (O.rm s i)).at_ w F (.bool true)) F true]) ?_ ?_
 ·refine Ak rfl (fun hne=>?_) (fun heq=>?_)
  ·obtain ⟨R,hR⟩:∃ R,O.rm s i=R:=⟨_,rfl⟩;rw [hR];unfold DK.rm at hR;rw [if_neg (by omega)] at hR;have hdl:=O.dn_len (O.len s - 1) (O.len s - 1) (O.sw s i (O.len s - 1)) i;rw [O.lenSw] at hdl;repeat (first |refine Ai ?_ |refine Ab ?_ |refine Ae Aa rfl ?_)
   refine Gz 0 rfl rfl rfl rfl (fun w1 g=>(O.hswI i (O.len s - 1) (g.own _ (Af (i:=0) rfl)).1 (g.own _ (Af (i:=0) rfl)).2.2 rfl (by omega) hi (by omega)).mono fun e w' ⟨he,g2⟩=>⟨_,_,F,he,g2,fun _ h=>h,fun _ h=>.inl h,_,rfl,?_⟩);repeat (first |refine Ai ?_ |refine Ab ?_ |refine Ag ?_ |refine Ae Aa rfl ?_)
   refine CA 0 rfl Tryz.call97 rfl (fun w1 g=>(NE O (O.sw s i (O.len s - 1)) i (O.len s - 1) F w1 (g.own _ (Af (i:=0) rfl)).1 (g.own _ (Af (i:=0) rfl)).2.2 (by rw [O.lenSw];omega) (by omega) rfl (by omega)).mono fun e w' ⟨he,g2⟩=>⟨_,_,F,he,g2,fun _ h=>h,fun _ h=>.inl h,_,rfl,?_⟩);by_cases hd:i < (O.dn (O.len s - 1) (O.len s - 1) (O.sw s i (O.len s - 1)) i).2
   ·rw [decide_eq_true hd];rw [if_pos hd] at hR;rw [hR];repeat (first |refine Ag ?_ |refine Ae Aa rfl ?_)
    refine AG rfl ?_;repeat (first |refine Ad ?_ |refine Ao ?_)
    exact ⟨(),trivial,by repeat (first |exact As.nil |refine As.cons rfl ?_),fun w' hw=>hw⟩
   ·rw [decide_eq_false hd];rw [if_neg hd] at hR;repeat (first |refine Ag ?_ |refine Ae Aa rfl ?_)
    refine AX rfl ?_;repeat (first |refine Ab ?_ |refine Ae Aa rfl ?_)
    refine CA 0 rfl Tryz.call98 rfl (fun w1 g=>(NC O (O.dn (O.len s - 1) (O.len s - 1) (O.sw s i (O.len s - 1)) i).1 i F w1 (g.own _ (Af (i:=0) rfl)).1 (g.own _ (Af (i:=0) rfl)).2.2 (by omega)).mono fun e w' ⟨he,g2⟩=>⟨_,_,F,he,g2,fun _ h=>h,fun _ h=>.inl h,_,rfl,?_⟩);rw [hR];repeat (first |refine Ag ?_)
    exact ⟨(),trivial,by repeat (first |exact As.nil |refine As.cons rfl ?_),fun w' hw=>hw⟩
  ·have hR:O.rm s i=s:=if_pos (by omega);rw [hR];repeat (first |refine Ad ?_ |refine Ao ?_)
   exact ⟨(),trivial,by repeat (first |exact As.nil |refine As.cons rfl ?_),fun w' hw=>hw⟩
 ·rintro ⟨⟩ _;repeat (first |refine Ai ?_ |refine Ab ?_ |refine Ae Aa rfl ?_)
  refine Gz 0 rfl rfl rfl rfl (fun w1 g=>(hp w1 (g.own _ (Af (i:=0) rfl)).1 (g.own _ (Af (i:=0) rfl)).2.2).mono fun e w' ⟨he,g2⟩=>⟨_,_,F,he,g2,fun _ h=>h,fun _ h=>.inl h,_,rfl,?_⟩);repeat (first |refine Ag ?_ |refine AC ?_ |refine Ae Aa rfl ?_)
  exact AZ rfl rfl (fun w' hw=>⟨rfl,hw⟩)
def Fk {α:Type} (r:α->α->Bool) (s:List α) (n i:Nat):Prop:=∀ j,0 < j->j < n->(j ≠ i->(j - 1) / 2 ≠ i->FB r s j ((j - 1) / 2)=false)/\((j - 1) / 2=i->0 < i->FB r s j ((i - 1) / 2)=false)
section
variable {P:Program} {iv:Value} {α:Type} {O:DK P iv (List α)} {r:α->α->Bool} (hO:XT O r)
include hO
theorem Us (n:Nat):∀ (f:Nat) (s:List α) (i:Nat),(∀ j,0 < j->j < n->(j - 1) / 2=i->FB r s j i=false)->O.dn n f s i=(s,i)
 |0,s,i,_=>rfl
 |f + 1,s,i,h=>by
  unfold DK.dn;split
  ·rfl
  ·rename_i hn;have hc:=O.ch_lt (n:=n) (s:=s) (i:=i) (by omega)
   have hcv:O.ch n s i=2 * i + 1 \/ O.ch n s i=2 * i + 2:=by
    unfold DK.ch;split
    ·exact .inr rfl
    ·exact .inl rfl
   rw [hO.lt,h _ (by omega) hc.1 (by omega),if_neg (by decide)]
theorem KX (hr:SW r) (n:Nat) (s:List α) (i:Nat) (hs:n <= s.length) (hi:i < n) (h:Fk r s n i):Hd r (if i < (O.dn n n s i).2 then (O.dn n n s i).1 else O.up (i + 1) (O.dn n n s i).1 i) n 0:=by
 have hup:∀ t:List α,n <= t.length->Hd r t n 0->Hd r (O.up (i + 1) t i) n 0:=fun t ht hd=>Jd hO hr n (i + 1) t i ht hi (Nat.lt_succ_self _) fun k h0 hk=>⟨fun _=>hd k h0 hk (Nat.zero_le _),fun hp hi0=>by
  have e1:=hd k h0 hk (Nat.zero_le _);have e2:=hd i hi0 hi (Nat.zero_le _);rw [hp] at e1
  exact EA hr (by omega) e1 e2⟩
 have hln:(O.dn n n s i).1.length=s.length:=(E7 hO n n s i).length_eq;by_cases hc:0 < i/\FB r s i ((i - 1) / 2)=true
 ·have hst:=Us hO n n s i fun j h0 hj hp=>by
   have e1:=(h j h0 hj).2 hp hc.1;exact EA hr (by omega) e1 (DS hr hc.2)
  rw [hst];dsimp only;rw [if_neg (Nat.lt_irrefl _)];refine Jd hO hr n (i + 1) s i hs hi (Nat.lt_succ_self _) fun k h0 hk=>⟨fun hki=>?_,fun hp hi0=>(h k h0 hk).2 hp hi0⟩;by_cases hp:(k - 1) / 2=i
  ·rw [hp];exact EA hr (by omega) ((h k h0 hk).2 hp hc.1) (DS hr hc.2)
  ·exact (h k h0 hk).1 hki hp
 ·have hd:Hd r (O.dn n n s i).1 n 0:=Jo hO hr n 0 n s i hs (Nat.sub_le _ _) fun j h0 hj hl=>⟨fun hp=>?_,fun hp hi0 _=>(h j h0 hj).2 hp hi0⟩
  ·split
   ·exact hd
   ·exact hup _ (by omega) hd
  ·by_cases hji:j=i
   ·subst hji
    cases h9:FB r s j ((j - 1) / 2) with
    |false=>rfl
    |true=>exact absurd ⟨h0,h9⟩ hc
   ·exact (h j h0 hj).1 hji hp
theorem Ul (hr:SW r) (s:List α) (i:Nat) (hi:i < s.length) (h:Fk r s s.length i):Hd r (O.fx s i) s.length 0:=by
 unfold DK.fx;rw [hO.len];exact KX hO hr s.length s i (Nat.le_refl _) hi h
theorem LJ (s:List α) (i:Nat):(O.rm s i).Perm s:=by
 unfold DK.rm;rw [hO.sw];split
 ·exact List.Perm.refl _
 ·split
  ·exact (E7 hO ..).trans (Ge ..)
  ·exact (Jc hO ..).trans ((E7 hO ..).trans (Ge ..))
theorem Oc:∀ (f:Nat) (s:List α) (i k:Nat),i < s.length->i < k->(O.up f s i)[k]? =s[k]?
 |0,s,i,k,_,_=>rfl
 |f + 1,s,i,k,hs,hk=>by
  unfold DK.up;split
  ·rfl
  ·split
   ·rw [hO.sw,Oc f _ _ _ (by rw [C0];omega) (by omega),FO (by omega) (by omega),G0 (by omega) (by omega)]
   ·rfl
theorem Ou (s:List α) (i:Nat) (hi:i < s.length):(O.rm s i)[s.length - 1]? =s[i]? :=by
 unfold DK.rm;rw [hO.len,hO.sw];split
 ·rename_i h;rw [h]
 ·have h1:((O.dn (s.length - 1) (s.length - 1) (Nc s i (s.length - 1)) i).1)[s.length - 1]? =s[i]? :=by
   rw [LY hO _ _ _ _ _ (by rw [C0];omega) (Nat.le_refl _),FO hi (by omega),Pa]
  split
  ·exact h1
  ·rw [Oc hO _ _ _ _ (by rw [(E7 hO ..).length_eq,C0];omega) (by omega)];exact h1
theorem SO (hr:SW r) (s:List α) (i:Nat) (hi:i < s.length) (h:Hd r s s.length 0):Hd r (O.rm s i) (s.length - 1) 0:=by
 unfold DK.rm;rw [hO.len,hO.sw];split
 ·exact fun j h0 hj hl=>h j h0 (by omega) hl
 ·rename_i hne;refine KX hO hr (s.length - 1) (Nc s i (s.length - 1)) i (by rw [C0];omega) (by omega) fun j h0 hj=>⟨fun hji hp=>?_,fun hp hi0=>?_⟩
  ·rw [Hi hi (by omega),G0 hji (by omega),G0 hp (by omega)];exact h j h0 (by omega) (Nat.zero_le _)
  ·rw [Hi hi (by omega),G0 (by omega) (by omega),G0 (by omega) (by omega)];have e1:=h j h0 (by omega) (Nat.zero_le _);have e2:=h i hi0 hi (Nat.zero_le _);rw [hp] at e1;exact EA hr (by omega) e1 e2
end
theorem Hd.fk {α:Type} {r:α->α->Bool} (hr:SW r) {s:List α} (h:Hd r s s.length 0) {i:Nat} (hi:i < s.length) (x:α):Fk r (s.set i x) (s.set i x).length i:=by
 have hg:∀ a b,a ≠ i->b ≠ i->FB r (s.set i x) a b=FB r s a b:=fun a b ha hb=>by
  unfold FB;rw [List.getElem?_set_ne (fun h=>ha h.symm),List.getElem?_set_ne (fun h=>hb h.symm)]
 intro j h0 hj;rw [List.length_set] at hj;refine ⟨fun hji hp=>by rw [hg _ _ hji hp];exact h j h0 hj (Nat.zero_le _),fun hp hi0=>?_⟩;rw [hg _ _ (by omega) (by omega)];have e1:=h j h0 hj (Nat.zero_le _);have e2:=h i hi0 hi (Nat.zero_le _);rw [hp] at e1;exact EA hr hi e1 e2
theorem Vk {P:Program} (A:Array TypeId) (T:TypeId) (a:Addr) (x y:String) (w:World):(Builtin.ssaWrapNilChk_ A T #[.pointer (some a),strVal x,strVal y]).run P w= .ok (.pointer (some a)) w:=rfl
theorem Nv {P:Program} {T u:TypeId} {inf:TypeInfo} {m:Method} {f:Nat} {name:String} (ht:P.info? T=some inf) (hm:inf.methods.find? (·.name == name)=some m) (hp:m.path= #[]) (hf:m.func=some (f,false)) (hu:P.underlying T=some (.pointer u))
 {a:Addr} {w:World} {r:Value} (hl:(loadVar u a).run P w= .ok r w) (k:Nat):(method (k + 1) T (.pointer (some a)) name).run P w= .ok (f,r) w:=by
 unfold method;simp [typeInfo,ht,hm,hp,hf,follow,receiverAt,underlying,hu,Place.get,Vk,asAddr,hl]
theorem QA {P:Program} {T u:TypeId} {inf:TypeInfo} {m:Method} {f:Nat} {name:String} (ht:P.info? T=some inf) (hm:inf.methods.find? (·.name == name)=some m) (hp:m.path= #[]) (hf:m.func=some (f,false)) (hu:P.underlying T=some (.pointer u))
 (hc:∀ args w,(callFunc f args).run P w= .ok (.enter f args) w) {a:Addr} {w:World} {r:Value} (hl:(loadVar u a).run P w= .ok r w) {vs:List Value} {Q:Ending->World->Prop} (h:Calls P f (#[r] ++ vs.toArray) w Q):EZ P (.iface T (.pointer (some a))) name vs w Q:=by
 refine ⟨f,#[r] ++ vs.toArray,?_,h⟩;have h1:=Nv (name:=name) ht hm hp hf hu hl (P.types.size + 99);unfold callMethod;simp only [Sem.run_bind,run_program,Result.andThen_ok];rw [show P.types.size + Made.depth=P.types.size + 99 + 1 from rfl,h1];exact hc _ _
def S7 (P:Program) (T:TypeId) (name:String):Option (Array FieldStep × Option (FuncId × Bool)):=
 match P.info? T with
 |none=>none
 |some inf=>match inf.methods.find? (·.name == name) with
  |none=>none
  |some m=>some (m.path,m.func)
theorem IC {P:Program} {T u:TypeId} {f:Nat} {name:String} (hm:S7 P T name=some (#[],some (f,false))) (hu:P.underlying T=some (.pointer u))
 (hc:∀ args w,(callFunc f args).run P w= .ok (.enter f args) w) {a:Addr} {w:World} {r:Value} (hl:(loadVar u a).run P w= .ok r w) {vs:List Value} {Q:Ending->World->Prop} (h:Calls P f (#[r] ++ vs.toArray) w Q):EZ P (.iface T (.pointer (some a))) name vs w Q:=by
 unfold S7 at hm;split at hm
 ·cases hm
 ·rename_i inf h1;split at hm
  ·cases hm
  ·rename_i m h2;simp only [Option.some.injEq,Prod.mk.injEq] at hm;exact QA h1 h2 hm.1 hm.2 hu hc hl h
theorem Nw {P:Program} {T u:TypeId} {inf:TypeInfo} {m:Method} {f:Nat} {name:String} (ht:P.info? T=some inf) (hm:inf.methods.find? (·.name == name)=some m) (hp:m.path= #[]) (hf:m.func=some (f,true)) (hu:P.underlying T=some (.pointer u))
 {a:Addr} {w:World} (k:Nat):(method (k + 1) T (.pointer (some a)) name).run P w= .ok (f,.pointer (some a)) w:=by
 unfold method;simp [typeInfo,ht,hm,hp,hf,follow,receiverAt,underlying,hu,Place.get]
theorem MG {P:Program} {T u:TypeId} {f:Nat} {name:String} (hm:S7 P T name=some (#[],some (f,true))) (hu:P.underlying T=some (.pointer u))
 (hc:∀ args w,(callFunc f args).run P w= .ok (.enter f args) w) {a:Addr} {w:World} {vs:List Value} {Q:Ending->World->Prop} (h:Calls P f (#[.pointer (some a)] ++ vs.toArray) w Q):EZ P (.iface T (.pointer (some a))) name vs w Q:=by
 unfold S7 at hm;split at hm
 ·cases hm
 ·rename_i inf h1;split at hm
  ·cases hm
  ·rename_i m h2;simp only [Option.some.injEq,Prod.mk.injEq] at hm;refine ⟨f,_,?_,h⟩;have h4:=Nw (a:=a) (w:=w) h1 h2 hm.1 hm.2 hu (P.types.size + 99);unfold callMethod;simp only [Sem.run_bind,run_program,Result.andThen_ok];rw [show P.types.size + Made.depth=P.types.size + 99 + 1 from rfl,h4];exact hc _ _
theorem Db:∀ {cs:List Value} {off:Nat} {v:Value},off < cs.length->Cp cs off [v]=some (cs.set off v)
 |c::cs,0,v,h=>by cases cs<;>rfl
 |c::cs,k + 1,v,h=>by
  simp only [Cp,Db (cs:=cs) (off:=k) (by simpa using h),List.set_cons_succ]
theorem Du {w0 w:World} {ol:OL} {b:Nat} {e:TypeId} {cs:List Value} (hw:Hp w0 w (.blk b (.cells ⟨cs⟩ e (0,0)) true::ol)) {j:Nat} {u:Value} (hj:cs[j]? =some u):w.cell? ⟨b,0 + j,none⟩=some u:=
 (Sl.of_blk (n:=cs.length) (sz:=1) (xs:=cs) (hw.own _ (Af (i:=0) rfl)) (by rw [Nat.mul_one]) (fun j u hu=>by rw [Nat.zero_add];exact hu)).at_ (by have:=(List.getElem?_eq_some_iff.1 hj).1;omega) hj
theorem Hp.widen {w w':World} {x:HE} {Ψ:World->Prop} {F:Nat->Prop} (h:Hp w w' [x]) (hF:∀ k,x.has k->F k) (hΨ:Ψ w') (hl:PW Ψ F) (hlt:∀ k,F k->k < w.heap.size):Hp w w' [.rep Ψ F true]:=
 ⟨h.os,h.tape,h.output,h.size,fun k hk he=>h.old k hk fun e hm hx hh=>by
  rw [List.mem_singleton] at hm;subst hm
  exact he _ List.mem_cons_self rfl (hF k hh),
  fun e hm=>by
   rw [List.mem_singleton] at hm;subst hm
   exact ⟨hΨ,hl,fun k hk=>Nat.lt_of_lt_of_le (hlt k hk) h.size⟩,
  List.pairwise_singleton _ _⟩
theorem Vp.loc {p:Vp} {F:Nat->Prop} {v:Value}:PW (fun w=>p.at_ w F v) F:=fun w w' h1 h2=>p.keep h2 fun k hk _=>⟨h1 k hk,hk⟩
theorem JU {w w':World} {base:Nat} {e:TypeId} {sz n:Nat} {v:Value} {xs:List Value} (h:w.ownsRow base e sz v n xs) (hk:∀ k,v.ownBlock=some k->w'.heap[k]? =w.heap[k]?):w'.ownsRow base e sz v n xs:=by
 obtain ⟨h1,h2⟩:=h;refine ⟨h1,?_⟩
 rcases h2 with h2 |⟨g,cap,cur,h2,h3,h4,h5⟩
 ·exact .inl h2
 ·exact .inr ⟨g,cap,cur,h2,h3,(hk g (by rw [h2];rfl)).trans h4,h5⟩
theorem IP {P:Program} {tb:EU} {n:Nat} {w0:World} {all:Array Oper} {r:Nat->Option Value} {ol:OL} {o:Oper} {d:Nat} (ht:AW P tb) {t:TypeId} {x:Operand} {v:Value} {ti:TI} (hs:BV n all r o=some (d,.makeInterface t x)) (hx:ev r x=some v) (hti:tl tb t=some ti)
 (hd:(match ti.desc with | .interface _=>false |_=>true)=true):Hw P n w0 all r ol o d (.iface t v):=
 Gc hs fun ac w hrd hh hop=>by
  have h1:=ht.under hti w
  have h2:(Instr.makeInterface t v).run P w= .ok (.iface t v) w:=by
   unfold Instr.makeInterface;simp only [Sem.run_bind,h1,Result.andThen_ok];split
   ·rename_i h;rw [h] at hd;cases hd
   ·rfl
  unfold execOp;simp [hop,hrd.ev hx,h2]
end Go.Proofs.YtidhpofcofknhaaGreat
