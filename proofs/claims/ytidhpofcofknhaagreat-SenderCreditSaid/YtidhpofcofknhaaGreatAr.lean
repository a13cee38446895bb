/-
  What an argument that reads as data is, by its type's shape. Conditions: each theorem's own. Arguments of whatever shape as readings put together out of parts. Conditions: each theorem's own.
  Conditions: each theorem's own.
-/
import Derived.ChangeOld
import Derived.Lib.SmallJoins
import Derived.OpenShut
import Derived.ProofKit
import Derived.ShutString
import Derived.Test.YtidhpofcofknhaaGreatEb
namespace Go.Proofs.YtidhpofcofknhaaGreat
open Go Go.RowKit
set_option linter.unusedVariables false
open Go.ChangeShapes Go.WideShapes Go.ChangeAt Go.Joins Go.Deep
section
variable {H:Type} {enc:TypeId × Value->H} {P:Program} {W:World} {base:Nat}
theorem EO {k:IntKind} {n:Int} (h:(Lit.int k n).wf=true):AS k n:=by
 simpa [Lit.wf,AS] using h
theorem Jq {t:TypeId} {k:IntKind} {v:Value} {d:DataW H} {p:List MemPlace} (ht:P.underlying t=some (.int k)) (hv:Value.okWide P W .any base t v) (h:DataW.Trod enc P W 0 (fun _=>true) true t v d p):
 ∃ a,v= .int k a/\AS k a:=by
 obtain ⟨a,rfl,_,_,w⟩:=open_int ht hv h;exact ⟨a,rfl,EO w⟩
theorem Xq {t e:TypeId} {k:IntKind} {v:Value} {d:DataW H} {p:List MemPlace} (ht:P.underlying t=some (.slice e)) (he:P.underlying e=some (.int k)) (hC:P.cellsOf e=1) (hv:Value.okWide P W .any base t v) (h:DataW.Trod enc P W 0 (fun _=>true) true t v d p):
 ∃ a n c zs,v= .slice a n c/\WM k W a n c zs:=by
 obtain ⟨a0,len0,cap0,rfl⟩:=okWide_slice ht hv;obtain ⟨fuel,hf⟩:=h
 rcases open_ints ht he hC hf with ⟨hcs,_⟩ |⟨x,l,c,zs,hcs,_,hl,hm,hz,_,hcell,hwz⟩
 ·simp [Value.cells] at hcs;obtain ⟨rfl,rfl,rfl⟩:=hcs;exact ⟨_,_,_,[],rfl,⟨rfl,Nat.le_refl _,Nat.zero_le _,fun _=>⟨rfl,rfl⟩,fun z hz=>by simp at hz,Sl.nil_⟩⟩
 ·simp [Value.cells] at hcs;obtain ⟨rfl,rfl,rfl⟩:=hcs
  have hzl:zs.length=cap0:=by simpa using hz
  refine ⟨_,_,_,zs.take len0,rfl,⟨by rw [List.length_take];omega,hl,hm,fun h=>(by cases h),fun z hz=>EO (hwz z (List.mem_of_mem_take hz)),⟨by rw [List.length_map,List.length_take];omega,fun hn=>?_⟩⟩⟩;obtain ⟨b,off,spot⟩:=x;have h0:=hcell 0 (by omega)
  have hspot:spot=none:=by simpa [Addr.add] using World.cell?_spot h0
  subst hspot;refine ⟨b,off,rfl,?_,fun j u hu=>?_⟩
  ·have:=World.block_lt_of_cell? W _ h0;simpa [Addr.add] using this
  ·rw [List.getElem?_map,List.getElem?_take] at hu;split at hu
   ·rename_i hj
    have hjl:j < zs.length:=by omega
    have:=hcell j hjl;rw [Addr.add_lit] at this;rw [this];simp only [List.getElem?_eq_getElem hjl,Option.map_some,Option.some.injEq] at hu;rw [<-hu];simp [List.getD,List.getElem?_eq_getElem hjl]
   ·cases hu
theorem Xr {t:TypeId} {f0 f1:Field} {k0 k1:IntKind} {v:Value} {d:DataW H} {p:List MemPlace} (ht:P.underlying t=some (.struct #[f0,f1])) (hone:oneCellFields P #[f0,f1]=true) (hC:P.cellsOf t=2) (h0:P.underlying f0.type=some (.int k0)) (h1:P.underlying f1.type=some (.int k1))
 (hv:Value.okWide P W .any base t v) (h:DataW.Trod enc P W 0 (fun _=>true) true t v d p):∃ a b,v= .agg #[.int k0 a,.int k1 b]/\AS k0 a/\AS k1 b:=by
 obtain ⟨c0,c1,y0,y1,m,rfl,_,_,hy0,hy1⟩:=open_agg2 ht hone hC hv h;obtain ⟨a,e0,_,wa⟩:=DataW.trod_int h0 hy0;obtain ⟨b,e1,_,wb⟩:=DataW.trod_int h1 hy1;simp at e0 e1;subst e0;subst e1;exact ⟨a,b,rfl,EO wa,EO wb⟩
end
open Go.ChangeShapes Go.WideShapes Go.ChangeAt Go.Joins Go.Deep
theorem QL {α:Type} {Q:Nat->α->Prop}:∀ n:Nat,(∀ i,i < n->∃ x,Q i x)->∃ l:List α,l.length=n/\∀ i x,l[i]? =some x->Q i x
 |0,_=>⟨[],rfl,fun i x h=>by simp at h⟩
 |n + 1,h=>by
  obtain ⟨l,hl,hq⟩:=QL n fun i hi=>h i (Nat.lt_succ_of_lt hi);obtain ⟨y,hy⟩:=h n (Nat.lt_succ_self n);refine ⟨l ++ [y],by simp [hl],fun i x hx=>?_⟩
  rcases Nat.lt_or_ge i l.length with h1 |h1
  ·rw [List.getElem?_append_left h1] at hx;exact hq i x hx
  ·rw [List.getElem?_append_right h1] at hx
   have hi:i - l.length=0:=by
    rcases Nat.eq_zero_or_pos (i - l.length) with h0 |h0
    ·exact h0
    ·rw [List.getElem?_eq_none (by simp;omega)] at hx;cases hx
   rw [hi] at hx;simp at hx;subst hx;rw [show i=n from by omega];exact hy
section
variable {H:Type} {enc:TypeId × Value->H} {P:Program} {W:World} {base:Nat} {α β:Type} {R:Eh α} {S:Eh β}
structure So (enc:TypeId × Value->H) (P:Program) (W:World) (t:TypeId) (R:Eh α):Prop where
 sz:P.cellsOf t=R.sz
 out:∀ fuel cs y,DataW.trod enc P W 0 (fun _=>true) true fuel t cs=some y->cs.length=R.sz->∃ x,R.at_ W TT cs x
theorem Cq {t:TypeId} {k:IntKind} (ht:P.underlying t=some (.int k)) (hC:P.cellsOf t=1):So enc P W t (A8 k):=
 ⟨hC,fun fuel cs y h _=>by
  obtain ⟨a,e,_,w⟩:=DataW.trod_int ht h
  exact ⟨a,e,EO w⟩⟩
theorem Fx {t e:TypeId} (ht:P.underlying t=some (.slice e)) (hC:P.cellsOf t=1) (hsz:0 < R.sz) (he:So enc P W e R):So enc P W t (Az R):=
 ⟨hC,fun fuel cs y hf _=>by
  rcases DataW.trod_slice ht hf with ⟨hcs,_⟩ |⟨x,l,c,elems,rest,m,_,hcs,_,_,hl,hm,hlen,hel,_,_⟩
  ·exact ⟨[],none,0,0,hcs,Br.nil_⟩
  ·have each:∀ i,i < l->∃ q:List Value × α,R.at_ W TT q.1 q.2/\∀ j u,q.1[j]? =some u->W.cell? ((x.add (i * R.sz)).add j)=some u:=by
    intro i hi;have g1:=hel i hi
    have hi':i < elems.length:=by omega
    rw [he.sz,List.getElem?_eq_getElem hi',Option.bind_eq_some_iff] at g1;obtain ⟨cs',hcs',hy⟩:=g1;obtain ⟨_,hl2,hcell⟩:=World.cells?_some hcs';obtain ⟨z,hz⟩:=he.out _ _ _ hy hl2;refine ⟨(cs',z),hz,fun j u hu=>?_⟩;have hj:=(List.getElem?_eq_some_iff.1 hu).1;have hj:j < cs'.length:=hj;have:=hcell j (by omega);rw [this];exact hu
   obtain ⟨ps,hpl,hps⟩:=QL l each
   have hsp:0 < l->0 < R.sz->∃ b off,x=⟨b,off,none⟩/\b < W.heap.size:=by
    intro hn hsz;obtain ⟨b,off,spot⟩:=x;obtain ⟨q0,h0,h1⟩:=each 0 hn;have hl0:=R.len h0;have hg:=h1 0 (q0.1[0]'(by omega)) (List.getElem?_eq_getElem (by omega))
    have hspot:spot=none:=by simpa [Addr.add] using World.cell?_spot hg
    subst hspot;refine ⟨b,off,rfl,?_⟩;have:=World.block_lt_of_cell? W _ hg;simpa [Addr.add] using this
   refine ⟨ps.map (·.2),some x,l,c,hcs,by rw [List.length_map,hpl],hl,hm,fun h=>(by cases h),⟨ps.map (·.1),by rw [List.length_map,hpl],fun i cs z hi hz=>?_,?_⟩,fun hn=>?_⟩
   ·rw [List.getElem?_map,Option.map_eq_some_iff] at hi hz;obtain ⟨q,hq,rfl⟩:=hi;obtain ⟨q',hq',rfl⟩:=hz;rw [hq] at hq';cases hq';exact (hps i q hq).1
   ·have hs:∀ c ∈ ps.map (·.1),c.length=R.sz:=by
     intro c hc;obtain ⟨q,hq,rfl⟩:=List.mem_map.1 hc;obtain ⟨i,hi⟩:=List.getElem?_of_mem hq;exact R.len (hps i q hi).1
    refine ⟨by rw [HY hs,List.length_map,hpl],fun hn=>?_⟩;obtain ⟨b,off,rfl,hb⟩:=hsp hn hsz;refine ⟨b,off,rfl,hb,fun j u hu=>?_⟩;have hjl:=(List.getElem?_eq_some_iff.1 hu).1;rw [HY hs,List.length_map,hpl] at hjl;have hdiv:j / R.sz < l:=Nat.div_lt_of_lt_mul (by rw [Nat.mul_comm];exact hjl);have hq:ps[j / R.sz]? =some ps[j / R.sz]:=List.getElem?_eq_getElem (by omega);obtain ⟨g1,g2⟩:=hps _ _ hq
    have hml:j % R.sz < (ps[j / R.sz]).1.length:=by rw [R.len g1];exact Nat.mod_lt _ hsz
    have g3:=g2 (j % R.sz) _ (List.getElem?_eq_getElem hml);have hf:=J8 (css:=ps.map (·.1)) (i:=j / R.sz) hs (by rw [List.getElem?_map,hq];rfl) (List.getElem?_eq_getElem hml)
    have hjj:j / R.sz * R.sz + j % R.sz=j:=by rw [Nat.mul_comm];exact Nat.div_add_mod _ _
    rw [hjj] at hf;rw [hu] at hf;cases hf;rw [Addr.add_lit,Addr.add_lit,Nat.add_assoc,hjj] at g3;exact g3
   ·obtain ⟨b,off,rfl,hb⟩:=hsp hn hsz
    exact ⟨b,off,rfl,trivial⟩⟩
def XR (enc:TypeId × Value->H) (P:Program) (W:World) (fs:List Field) (off:Nat) (R:Eh α):Prop:=
 ∀ cs:List Value,off + R.sz <= cs.length->(∀ f ∈ fs,∃ n y,DataW.trod enc P W 0 (fun _=>true) true n f.type ((cs.drop f.offset).take (P.cellsOf f.type))=some y)->∃ x,R.at_ W TT ((cs.drop off).take R.sz) x
theorem GJ {f:Field} {off:Nat} (h:So enc P W f.type R) (ho:f.offset=off):XR enc P W [f] off R:=by
 intro cs hl hf;obtain ⟨n,y,hy⟩:=hf f (by simp);rw [h.sz,ho] at hy;exact h.out _ _ _ hy (by rw [List.length_take,List.length_drop];omega)
theorem Ce {f:Field} {fs:List Field} {off:Nat} (h:So enc P W f.type R) (ho:f.offset=off) (hs:XR enc P W fs (off + R.sz) S):XR enc P W (f::fs) off (C5 R S):=by
 intro cs hl hf;have hl:off + (R.sz + S.sz) <= cs.length:=hl;obtain ⟨n,y,hy⟩:=hf f (by simp);rw [h.sz,ho] at hy;obtain ⟨x1,h1⟩:=h.out _ _ _ hy (by rw [List.length_take,List.length_drop];omega);obtain ⟨x2,h2⟩:=hs cs (by omega) fun g hg=>hf g (List.mem_cons_of_mem _ hg);refine ⟨(x1,x2),_,_,?_,h1,h2⟩;show (cs.drop off).take (R.sz + S.sz)=_;rw [List.take_add,List.drop_drop]
theorem D6 {t:TypeId} {fs:List Field} (ht:P.underlying t=some (.struct fs.toArray)) (hC:P.cellsOf t=R.sz) (h:XR enc P W fs 0 R):So enc P W t R:=
 ⟨hC,fun fuel cs y hf hl=>by
  obtain ⟨xs,n,_,rfl,_,hlen,hg⟩:=DataW.trod_struct ht hf
  have:=h cs (by omega) fun f hf=>by
   obtain ⟨i,hi⟩:=List.getElem?_of_mem hf;have hi':=(List.getElem?_eq_some_iff.1 hi).1
   have hx:i < xs.length:=by simpa [hlen] using hi'
   exact ⟨n,_,(hg i f (by simpa using hi)).trans (List.getElem?_eq_getElem hx)⟩
  rw [List.drop_zero,List.take_of_length_le (by omega)] at this
  exact this⟩
theorem XN {t:TypeId} (h:So enc P W t R):So enc P W t (Xy R):=⟨h.sz,h.out⟩
theorem Ps {t e:TypeId} {v:Value} {d:DataW H} {p:List MemPlace} (ht:P.underlying t=some (.slice e)) (h1:So enc P W t (Az R)) (hv:Value.okWide P W .any base t v) (h:DataW.Trod enc P W 0 (fun _=>true) true t v d p):∃ x,(Az R).val W TT v x:=by
 obtain ⟨a0,len0,cap0,rfl⟩:=okWide_slice ht hv;obtain ⟨fuel,hf⟩:=h;exact h1.out _ _ _ hf rfl
theorem Vh {t:TypeId} {fs:Array Field} {v:Value} {d:DataW H} {p:List MemPlace} (ht:P.underlying t=some (.struct fs)) (h1:So enc P W t R) (hag:R.agg=true) (hv:Value.okWide P W .any base t v) (h:DataW.Trod enc P W 0 (fun _=>true) true t v d p):∃ x,R.val W TT v x:=by
 obtain ⟨cs,rfl,hsz⟩:=okWide_struct ht hv;obtain ⟨fuel,hf⟩:=h;obtain ⟨x,hx⟩:=h1.out _ _ _ hf (by rw [<-h1.sz,<-hsz];simp [Value.cells]);refine ⟨x,?_⟩;unfold Eh.val;rw [hag];exact ⟨cs.toList,rfl,hx⟩
end
end Go.Proofs.YtidhpofcofknhaaGreat
