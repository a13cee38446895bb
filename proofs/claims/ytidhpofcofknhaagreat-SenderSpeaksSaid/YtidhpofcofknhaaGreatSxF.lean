/-
  A slice of one's own that begins within its block: what it is, append onto it, its rest. Conditions: each theorem's own.
-/
import Derived.Test.YtidhpofcofknhaaGreatSxE
namespace Go.Proofs.YtidhpofcofknhaaGreat
open Go Go.RowKit
set_option linter.unusedVariables false
def FS (w:World) (e:TypeId) (sz:Nat) (v:Value) (n:Nat) (xs:List Value):Prop:=
 xs.length=n * sz/\((v= .slice none 0 0/\n=0) \/ ∃ g off cap cur,v= .slice (some ⟨g,off,none⟩) n cap/\w.heap[g]? =some (.cells cur e (0,0))/\n <= cap/\cap <= maxLen/\off + cap * sz <= cur.size/\(cur.toList.drop off).take (n * sz)=xs)
theorem Gl {w:World} {e:TypeId} {sz n:Nat} {v:Value} {xs:List Value} (h:FS w e sz v n xs):∃ A c,v= .slice A n c/\n <= c/\c <= maxLen:=by
 obtain ⟨_,⟨rfl,rfl⟩ |⟨g,off,cap,cur,rfl,_,h1,h2,_⟩⟩:=h
 ·exact ⟨none,0,rfl,Nat.le_refl _,Nat.zero_le _⟩
 ·exact ⟨_,cap,rfl,h1,h2⟩
theorem KO {w:World} {e:TypeId} {sz n c:Nat} {A:Option Addr} {xs:List Value} (h:FS w e sz (.slice A n c) n xs):Sl w sz A n xs:=by
 obtain ⟨h0,⟨h1,rfl⟩ |⟨g,off,cap,cur,h1,h2,h3,h4,h5,h6⟩⟩:=h
 ·have:xs= []:=List.eq_nil_of_length_eq_zero (by simpa using h0);subst this;exact Sl.nil_
 ·cases h1;refine ⟨h0,fun hn=>⟨g,off,rfl,AV h2,fun j u hu=>?_⟩⟩;rw [cell_of_row w g (off + j) cur e (0,0) h2];rw [<-h6,List.getElem?_take] at hu;split at hu
  ·rw [List.getElem?_drop] at hu;simpa using hu
  ·cases hu
theorem Iv {w:World} {base:Nat} {e:TypeId} {sz n:Nat} {v:Value} {xs:List Value} (h:w.ownsRow base e sz v n xs):FS w e sz v n xs:=by
 obtain ⟨h0,h1 |⟨g,cap,cur,h1,h2,h3,h4,h5,h6,h7⟩⟩:=h
 ·exact ⟨h0,.inl h1⟩
 ·exact ⟨h0,.inr ⟨g,0,cap,cur,h1,h3,h4,h5,by omega,by rw [List.drop_zero];exact h7⟩⟩
def R4 (e:TypeId) (sz n:Nat) (xs:List Value):Vp:=
 ⟨fun w A v=>FS w e sz v n xs/\∀ k,v.ownBlock=some k->A k,fun {w w' A B v} ⟨⟨h0,h1⟩,h2⟩ hk=>by
  refine ⟨⟨h0,?_⟩,?_⟩
  ·rcases h1 with h1 |⟨g,off,cap,cur,rfl,h3,h4⟩
   ·exact .inl h1
   ·exact .inr ⟨g,off,cap,cur,rfl,((hk g (h2 g rfl) (AV h3)).1).trans h3,h4⟩
  ·rcases h1 with ⟨rfl,_⟩ |⟨g,off,cap,cur,rfl,h3,h4⟩
   ·intro k hk;simp [Value.ownBlock] at hk
   ·intro k hk2;have:k=g:=(Option.some.inj hk2).symm;subst this
    exact (hk k (h2 k rfl) (AV h3)).2⟩
theorem Pd {w:World} {e:TypeId} {sz n:Nat} {v:Value} {xs:List Value} (h:FS w e sz v n xs) {k:Nat} (hk:v.ownBlock=some k):k < w.heap.size:=by
 obtain ⟨_,⟨rfl,rfl⟩ |⟨g,off,cap,cur,rfl,h1,_⟩⟩:=h
 ·simp [Value.ownBlock] at hk
 ·exact Option.some.inj hk ▸ AV h1
section
variable {P:Program}
theorem HH (w:World) (t ty e:TypeId) (i:TypeInfo) (ht:P.underlying t=some (.slice e)) (hi:P.info? e=some i)
 (g off sLen sCap:Nat) (cur:Array Value) (hg:w.heap[g]? =some (.cells cur e (0,0)))
 (a:Addr) (m c:Nat) (news:List Value) (hl:news.length=m * i.size) (hnews:∀ j u,news[j]? =some u->w.cell? (a.add j)=some u) (h1:∀ u ∈ news,u.oneCell'=true)
 (hroom:sLen + m <= sCap) (hfit:off + sLen * i.size + news.length <= cur.size):
 (Builtin.append_ #[t,t] ty #[.slice (some ⟨g,off,none⟩) sLen sCap,.slice (some a) m c]).run P w=
  .ok (.slice (some ⟨g,off,none⟩) (sLen + m) sCap) (w.setRow g (cur.toList.take (off + sLen * i.size) ++ news ++ cur.toList.drop (off + sLen * i.size + news.length)).toArray):=by
 have hf:=run_firstCells_some (P:=P) w i.size m a m c news hl hnews;have hst:=run_storeCells_at P g (off + sLen * i.size) e news 0 cur w hg (by simpa using hfit) h1;simp only [Nat.add_zero] at hst;simp [Builtin.append_,run_underlying ht,sizeOf,typeInfo,hi,Builtin.lenOf,hroom,hf,Addr.add_lit,hst]
theorem KB (w:World) (t ty e:TypeId) (i:TypeInfo) (z:Value) (size bytes:Nat) (ht:P.underlying t=some (.slice e)) (hi:P.info? e=some i) (hz:i.zero=some z)
 (hsize:i.size=size) (hby:i.bytes=bytes) (hzs:z.cells.size=size) (hsz:0 < size)
 (v:Value) (n:Nat) (xs:List Value) (hown:FS w e size v n xs)
 (A:Option Addr) (m c:Nat) (news:List Value) (hr:Sl w size A m news) (h1:∀ u ∈ news,u.oneCell'=true)
 (h63:n + m <= maxLen) (hbytes:(n + m) * bytes <= 140737488355328):
 ∃ v' w',(Builtin.append_ #[t,t] ty #[v,.slice A m c]).run P w= .ok v' w'/\FS w' e size v' (n + m) (xs ++ news)/\w.grownBy w' v.ownBlock/\
  ∀ k,v'.ownBlock=some k->v.ownBlock=some k \/ w.heap.size <= k:=by
 obtain ⟨h0,⟨rfl,rfl⟩ |⟨g,off,cap,cur,rfl,hg,hnc,hcm,hcs,htk⟩⟩:=hown
 ·obtain ⟨v',w',e1,e2,e3,e4⟩:=EJ (P:=P) w w.heap.size t ty e i z size bytes ht hi hz hsize hby hzs hsz (.slice none 0 0) 0 xs ⟨h0,.inl ⟨rfl,rfl⟩⟩ A m c news hr h1 h63 hbytes (Nat.le_refl _);refine ⟨v',w',e1,Iv e2,e3,fun k hk=>e4.imp (fun e=>by rw [<-e];exact hk) fun e=>?_⟩;rw [e] at hk;exact Nat.le_of_eq (Option.some.inj hk)
 ·subst hsize
  rcases Nat.eq_zero_or_pos m with hm |hm
  ·subst hm;have hn:news= []:=List.eq_nil_of_length_eq_zero (by simpa using hr.len);subst hn;exact ⟨_,w,DN w t ty e i ht hi _ A n cap c hnc,by rw [Nat.add_zero,List.append_nil];exact ⟨h0,.inr ⟨g,off,cap,cur,rfl,hg,hnc,hcm,hcs,htk⟩⟩,World.grownBy.refl w _,fun k hk=>.inl hk⟩
  ·obtain ⟨b,o2,rfl,hlt,hc⟩:=hr.get hm
   have hnews:∀ j u,news[j]? =some u->w.cell? ((⟨b,o2,none⟩:Addr).add j)=some u:=fun j u hu=>by rw [Addr.add_lit];exact hc j u hu
   by_cases hroom:n + m <= cap
   ·have hmul:(n + m) * i.size <= cap * i.size:=Nat.mul_le_mul_right _ hroom;rw [Nat.add_mul] at hmul;have hl:=hr.len;have hrun:=HH (P:=P) w t ty e i ht hi g off n cap cur hg ⟨b,o2,none⟩ m c news hl hnews h1 hroom (by omega);refine ⟨_,_,hrun,⟨by rw [List.length_append,h0,hl,Nat.add_mul],.inr ⟨g,off,cap,_,rfl,setRow_heap w g cur _ e _ hg,hroom,hcm,?_,?_⟩⟩,?_,fun k hk=>.inl hk⟩
    ·simp only [List.size_toArray,List.length_append,List.length_take,List.length_drop,Array.length_toList];omega
    ·have h7:(cur.toList.take (off + n * i.size)).length=off + n * i.size:=by rw [List.length_take,Array.length_toList];omega
     show ((cur.toList.take (off + n * i.size) ++ news ++ cur.toList.drop (off + n * i.size + news.length)).drop off).take ((n + m) * i.size)=xs ++ news;rw [List.append_assoc,List.drop_append_of_le_length (by rw [h7];omega),<-List.append_assoc]
     have h8:(cur.toList.take (off + n * i.size)).drop off=xs:=by
      rw [List.drop_take,Nat.add_sub_cancel_left];exact htk
     rw [h8,List.take_left' (by rw [List.length_append,h0,hl,Nat.add_mul])]
    ·refine ⟨rfl,rfl,rfl,?_,fun k hk hne=>?_⟩
     ·simp [World.setRow]
     ·exact setRow_other w g k _ (fun e=>hne (by rw [e];rfl))
   ·obtain ⟨v',w',e1,e2,e3⟩:=run_append_arg_grows (P:=P) w t ty e i z i.size bytes ht hi hz rfl hby hzs hsz ⟨g,off,none⟩ n cap xs h0 (fun j u hu=>by
     rw [Addr.add_lit]
     exact (KO ⟨h0,.inr ⟨g,off,cap,cur,rfl,hg,hnc,hcm,hcs,htk⟩⟩).at_ (by
      rcases Nat.eq_zero_or_pos n with e |e
      ·subst e;have:xs= []:=List.eq_nil_of_length_eq_zero (by simpa using h0);subst this;cases hu
      ·exact e) hu) ⟨b,o2,none⟩ m c news hr.len hnews (by omega) h63 hbytes
    exact ⟨v',w',e1,Iv e2,⟨e3.os,e3.tape,e3.output,e3.size,fun k hk _=>e3.block k hk (by simp)⟩,fun k hk=>.inr (World.ownsRow.lt e2 k hk).1⟩
end
section
variable {P:Program} {tb:EU} {n:Nat} {w0:World} {all:Array Oper} {os:List Oper} {o:Oper} {l:FL} {ol:OL} {K:FL->OL->Prop} {Q:B1} {d:Nat}
theorem NY (ht:AX P tb) (i:Nat) {t e:TypeId} {ty:TypeId} {s x:Operand} {v:Value} {m k c sz:Nat} {A:Option Addr} {xs news:List Value} {ti te:TI} {F:Nat->Prop}
 (hs:BY n all (AQ l) o=some (d,.call ⟨.builtin .append,#[s,x],#[t,t]⟩)) (hv:ev (AQ l) s=some v) (hx:ev (AQ l) x=some (.slice A k c))
 (hi:B9 ol i=some (.rep (fun w=>(R4 e sz m xs).at_ w F v) F true)) (hti:tl tb t=some ti) (hd:ti.desc= .slice e) (hte:tl tb e=some te) (hsz:te.size=sz) (hzs:te.zero.cells.size=sz) (hpos:0 < sz)
 (hr:∀ w,Hp w0 w ol->Sl w sz A k news) (h1:∀ u ∈ news,u.oneCell'=true) (hmax:m + k <= maxLen) (hbytes:(m + k) * te.bytes <= 140737488355328)
 (kk:∀ A' c' (F':Nat->Prop),m + k <= c'->c' <= maxLen->(∀ k,F' k->F k \/ w0.heap.size <= k)->∃ ol',C8 ol i (.rep (fun w=>(R4 e sz (m + k) (xs ++ news)).at_ w F' (.slice A' (m + k) c')) F' true)=some ol'/\S P n w0 all os ((d,.slice A' (m + k) c')::l) ol' K Q):
 S P n w0 all (o::os) l ol K Q:=by
 obtain ⟨hdst,hlt,hg,hop⟩:=CG hs;refine ⟨fun a w hf hh=>?_⟩;obtain ⟨inf,hinf,hz,hs1,hs2⟩:=(ht e te hte).2;have hown:=hh.own _ (Af hi);have hu:=ht.under' hti;rw [hd] at hu;obtain ⟨v',w',hrun,h2,h3,h4⟩:=KB (P:=P) w t o.type e inf te.zero sz te.bytes hu hinf hz (hs1.trans hsz) hs2 hzs hpos v m xs hown.1.1 A k c news (hr w hh) h1 hmax hbytes;obtain ⟨A',c',rfl,hmc,hcm⟩:=Gl h2;obtain ⟨ol',hput,kS⟩:=kk A' c' (fun j=>F j \/ (Value.slice A' (m + k) c').ownBlock=some j) hmc hcm (fun j hj=>hj.elim .inl fun hj=>(h4 j hj).elim (fun h=>.inl (hown.1.2 j h)) fun h=>.inr (Nat.le_trans hh.size h));refine B2 (v:=.slice A' (m + k) c') (Be hf.rd hg) ?_ ?_ (w':=w')
 ·unfold execOp;simp [hop,resolve,invoke,builtin,hf.rd.ev hv,hf.rd.ev hx,hrun]
 ·rw [hdst];refine kS.out _ _ (hf.put hlt _) ?_;obtain ⟨pre,post,e1,e2⟩:=CP hi hput;rw [e1] at hh;rw [e2];refine hh.turn rfl h3.os h3.tape h3.output h3.size (fun j hj hne=>h3.block j hj (fun hh=>hne (hown.1.2 j hh.symm))) ⟨⟨h2,fun j hj=>.inr hj⟩,Vp.loc (p:=R4 _ _ _ _),fun j hj=>hj.elim (fun h=>Nat.lt_of_lt_of_le (hown.2.2 j h) h3.size) (Pd h2)⟩ (fun j hj=>?_) (fun j hj=>.inr (.inl hj));exact hj.elim .inl fun hj=>(h4 j hj).imp (hown.1.2 j) id
end
end Go.Proofs.YtidhpofcofknhaaGreat
