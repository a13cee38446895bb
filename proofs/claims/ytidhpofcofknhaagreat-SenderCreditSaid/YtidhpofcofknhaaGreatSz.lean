/-
  A sender, plain: what it tells stays within its credit. Conditions: each theorem's own. The law SenderCredit: the search in what is queued; lists. Conditions: each theorem's own. The law SenderCredit: its walk. Conditions: each theorem's own.
  Conditions: each theorem's own.
-/
import Derived.Test.YtidhpofcofknhaaGreatSy
namespace Go.Proofs.YtidhpofcofknhaaGreat
open Go Go.RowKit
set_option linter.unusedVariables false
abbrev D3 (z:Int->Int) (l:List Int):Int:=(l.map z).sum
theorem N9 {z:Int->Int} (hz:∀ n,0 <= z n):∀ l:List Int,0 <= D3 z l
 | []=>Int.le_refl _
 |a::l=>by
  have:=N9 hz l;have:=hz a;show 0 <= z a + D3 z l;omega
theorem IR {z:Int->Int} (hz:∀ n,0 <= z n) (c:Int->Bool):∀ l:List Int,D3 z (l.filter c) <= D3 z l
 | []=>Int.le_refl _
 |a::l=>by
  have h1:=IR hz c l;have h2:=hz a;have e:D3 z (a::l)=z a + D3 z l:=rfl;rw [List.filter_cons];split
  ·show z a + D3 z (l.filter c) <= _;omega
  ·omega
theorem IS (z:Int->Int) (a b:List Int):D3 z (a ++ b)=D3 z a + D3 z b:=by
 unfold D3;rw [List.map_append,List.sum_append]
structure Sq (p:Int) (z:Int->Int) (L:List Int):Prop where
 len:(L.length:Int) <= p
 sum:1 < L.length->D3 z L <= 60000
theorem Sq.filter {p:Int} {z:Int->Int} {L:List Int} (hz:∀ n,0 <= z n) (h:Sq p z L) (c:Int->Bool):Sq p z (L.filter c):=by
 have h1:=List.length_filter_le c L;have h2:=IR hz c L;refine ⟨by have:=h.len;omega,fun h3=>?_⟩;have:=h.sum (by omega);omega
structure Jb (s:Bo) (ql:List (Int × Int)) (last:Int) (z:Int->Int):Prop where
 lim:∀ n ∈ Aw s.gs,n <= s.lim
 shut:s.op=false->s.lim=0/\s.gs= []
 cnt:((Aw s.gs).length:Int) <= s.q
 old:∀ n ∈ Aw s.gs,n <= last
 z0:∀ n,0 <= z n
 zq:∀ x ∈ ql,z x.1=x.2
 grp:∀ g ∈ s.gs,Sq s.p z g.L
theorem Jb.rm {s:Bo} {ql:List (Int × Int)} {last:Int} {z:Int->Int} (h:Jb s ql last z) (c:Int->Bool):Jb { s with gs:=D1 s.gs c} ql last z where
 lim:=fun n hn=>h.lim n (by
  have h1:n ∈ Aw (D1 s.gs c):=hn;rw [Ec] at h1
  exact (List.mem_filter.1 h1).1)
 shut:=fun ho=>⟨(h.shut ho).1,by
  show D1 s.gs c= [];rw [(h.shut ho).2]
  rfl⟩
 cnt:=by
  have h1:=h.cnt;have h2:=List.length_filter_le (fun n=>!c n) (Aw s.gs);show ((Aw (D1 s.gs c)).length:Int) <= s.q;rw [Ec];omega
 old:=fun n hn=>h.old n (by
  have h1:n ∈ Aw (D1 s.gs c):=hn;rw [Ec] at h1
  exact (List.mem_filter.1 h1).1)
 z0:=h.z0
 zq:=h.zq
 grp:=fun g hg=>by
  obtain ⟨x,hx,rfl⟩:=Gg hg;exact (h.grp x hx).filter h.z0 _
theorem Jb.begin {s:Bo} {ql:List (Int × Int)} {last:Int} {z:Int->Int} (h:Jb s ql last z) (op:Bool) (inc lim:Int) (hl:op=false->lim=0) (hq:0 <= s.q):Jb (s.begin_ op inc lim) ql last z:=
 ⟨fun n hn=>(by cases hn),fun ho=>⟨hl ho,rfl⟩,hq,fun n hn=>(by cases hn),h.z0,h.zq,fun g hg=>(by cases hg)⟩
theorem Jb.rcv {s:Bo} {ql:List (Int × Int)} {last:Int} {z:Int->Int} (h:Jb s ql last z) (hq:0 <= s.q) (x:Fm) (rl:List BS):Jb (s.rcv x rl) ql last z:=by
 have h1:Jb (s.ack_ x.cum rl) ql last z:=h.rm _;unfold Bo.rcv;split
 ·rename_i hk;split
  ·exact h1.begin true _ _ (fun e=>by cases e) hq
  ·rename_i hb;split
   ·exact h1.begin false _ _ (fun _=>rfl) hq
   ·refine ⟨fun n hn=>?_,fun ho=>?_,h1.cnt,h1.old,h1.z0,h1.zq,h1.grp⟩
    ·have:=h1.lim n hn;have e:(s.ack_ x.cum rl).lim=s.lim:=rfl;show n <= max s.lim x.lim;omega
    ·have ho:s.op=false:=ho;refine absurd ?_ hb;refine ⟨hk.1.resolve_right (fun h2=>by rw [ho] at h2;cases h2.2),.inr ho⟩
 ·exact h
def Mo (ql:List (Int × Int)) (n:Int):Int:=match ql.find? fun x=>decide (x.1=n) with
 |some x=>x.2
 |none=>0
theorem Mn:∀ {ql:List (Int × Int)},(ql.map (·.1)).Pairwise (· < ·)->∀ x ∈ ql,Mo ql x.1=x.2
 |y::ql,h,x,hx=>by
  unfold Mo;rw [List.find?_cons];rw [List.map_cons,List.pairwise_cons] at h
  rcases List.mem_cons.1 hx with rfl |hx
  ·rw [decide_eq_true rfl]
  ·have h1:=h.1 x.1 (List.mem_map.2 ⟨x,hx,rfl⟩);rw [decide_eq_false (by omega)];exact Mn h.2 x hx
theorem Sr {ql:List (Int × Int)} (h:∀ x ∈ ql,0 <= x.2) (n:Int):0 <= Mo ql n:=by
 unfold Mo;split
 ·rename_i x hx;exact h x (List.mem_of_find?_eq_some hx)
 ·exact Int.le_refl _
theorem Jb.change {s:Bo} {ql ql':List (Int × Int)} {last last':Int} {z:Int->Int} {M M':Nat} (h:Jb s ql last z) (hq:QB M ql last) (hq':QB M' ql' last') (hs:G7 ql last ql' last'):∃ z',Jb s ql' last' z':=by
 refine ⟨fun n=>if n <= last then z n else Mo ql' n,h.lim,h.shut,h.cnt,fun n hn=>Int.le_trans (h.old n hn) hs.le,fun n=>?_,fun x hx=>?_,fun g hg=>⟨(h.grp g hg).len,fun h1=>?_⟩⟩
 ·show 0 <= if n <= last then z n else Mo ql' n
  split
  ·exact h.z0 n
  ·exact Sr (fun x hx=>(hq'.sz x hx).1) n
 ·show (if x.1 <= last then z x.1 else Mo ql' x.1)=x.2
  rcases hs.mem x hx with h1 |h1
  ·rw [if_pos (hq.le x h1).2];exact h.zq x h1
  ·rw [if_neg (by omega)];exact Mn hq'.srt x hx
 ·have h2:=(h.grp g hg).sum h1
  have e:D3 (fun n=>if n <= last then z n else Mo ql' n) g.L=D3 z g.L:=by
   unfold D3;congr 1;exact List.map_congr_left fun n hn=>if_pos (h.old n (List.mem_flatMap.2 ⟨g,hg,hn⟩))
  rw [e];exact h2
structure Sa (p:Int) (z:Int->Int) (st:CW):Prop where
 out:∀ L ∈ st.out,Sq p z L
 cur:Sq p z st.cur
 sum:st.sum=D3 z st.cur
theorem Sa.add {p:Int} {z:Int->Int} {st:CW} {x:Int × Int} (hp:1 <= p) (h:Sa p z st) (hx:z x.1=x.2):Sa p z (CI x (BJ p x st))/\(CI x (BJ p x st)).out.flatten ++ (CI x (BJ p x st)).cur=st.out.flatten ++ st.cur ++ [x.1]:=by
 unfold BJ;split
 ·refine ⟨⟨fun L hL=>?_,⟨by show ((1:Nat):Int) <= p;omega,fun h1=>absurd h1 (by show ¬ 1 < 1;omega)⟩,?_⟩,?_⟩
  ·have hL:L ∈ st.out ++ [st.cur]:=hL
   rcases List.mem_append.1 hL with hL |hL
   ·exact h.out L hL
   ·rw [List.mem_singleton] at hL;rw [hL];exact h.cur
  ·show 0 + x.2=D3 z [x.1];rw [<-hx];show 0 + z x.1=z x.1 + 0;omega
  ·show (st.out ++ [st.cur]).flatten ++ ([] ++ [x.1])=_;rw [List.flatten_append];simp
 ·rename_i hf;have h1:(st.cur.length:Int) ≠ p:=fun e=>hf (.inl e);have h2:=h.cur.len
  have e:D3 z (st.cur ++ [x.1])=st.sum + x.2:=by
   rw [IS,h.sum,<-hx];show _ + (z x.1 + 0)=_;omega
  have hl:(st.cur ++ [x.1]).length=st.cur.length + 1:=by rw [List.length_append];rfl
  refine ⟨⟨h.out,⟨by show ((st.cur ++ [x.1]).length:Int) <= p;omega,fun h3=>?_⟩,e.symm⟩,?_⟩
  ·have h3:1 < (st.cur ++ [x.1]).length:=h3;show D3 z (st.cur ++ [x.1]) <= 60000;rw [e];by_cases h4:60000 < st.sum + x.2
   ·exact absurd (.inr ⟨by omega,h4⟩) hf
   ·omega
  ·show st.out.flatten ++ (st.cur ++ [x.1])=_;rw [List.append_assoc]
theorem LV {p lim:Int} {z:Int->Int} {nums:List Int} (hp:1 <= p):∀ (l:List (Int × Int)) (st:CW),(∀ x ∈ l,z x.1=x.2)->Sa p z st->Sa p z (DA p lim nums l st)/\∃ m:List Int,m.Sublist (l.map (·.1))/\(∀ n ∈ m,n <= lim/\n ∉ nums)/\(DA p lim nums l st).out.flatten ++ (DA p lim nums l st).cur=st.out.flatten ++ st.cur ++ m
 | [],st,_,h=>⟨h,[],List.Sublist.refl _,fun n hn=>(by cases hn),(List.append_nil _).symm⟩
 |x::l,st,hz,h=>by
  have hz':∀ y ∈ l,z y.1=y.2:=fun y hy=>hz y (List.mem_cons_of_mem _ hy);rw [DA];split
  ·exact ⟨h,[],List.nil_sublist _,fun n hn=>(by cases hn),(List.append_nil _).symm⟩
  ·rename_i h1;split
   ·obtain ⟨h2,m,h3,h4,h5⟩:=LV (lim:=lim) (nums:=nums) hp l st hz' h;exact ⟨h2,m,List.Sublist.cons _ h3,h4,h5⟩
   ·rename_i hn;obtain ⟨a1,a2⟩:=h.add hp (hz x List.mem_cons_self);obtain ⟨h2,m,h3,h4,h5⟩:=LV (lim:=lim) (nums:=nums) hp l _ hz' a1;refine ⟨h2,x.1::m,List.Sublist.cons_cons _ h3,fun n hn'=>?_,?_⟩
    ·rcases List.mem_cons.1 hn' with rfl |hn'
     ·exact ⟨by have:¬ lim < x.1:=fun e=>h1 (.inr e);omega,hn⟩
     ·exact h4 n hn'
    ·rw [h5,a2];simp
structure XM (p lim:Int) (z:Int->Int) (nums qs:List Int) (LL:List (List Int)):Prop where
 each:∀ L ∈ LL,Sq p z L
 sub:LL.flatten.Sublist qs
 lim:∀ n ∈ LL.flatten,n <= lim/\n ∉ nums
theorem Q4 {p q lim:Int} {z:Int->Int} {nums:List Int} {l:List (Int × Int)} (hp:1 <= p) (hz:∀ x ∈ l,z x.1=x.2):XM p lim z nums (l.map (·.1)) (CR p q lim nums l):=by
 obtain ⟨h1,m,h2,h3,h4⟩:=LV (p:=p) (lim:=lim) (z:=z) (nums:=nums) hp l (CH q nums) hz ⟨(fun L hL=>by cases hL),⟨by show ((0:Nat):Int) <= p;omega,fun h=>absurd h (by show ¬ 1 < 0;omega)⟩,rfl⟩
 have e:(CR p q lim nums l).flatten=m:=by
  unfold CR;have h5:(DA p lim nums l (CH q nums)).out.flatten ++ (DA p lim nums l (CH q nums)).cur=m:=h4;rw [List.flatten_append,<-h5];congr 1;split
  ·simp
  ·rename_i h6;have:(DA p lim nums l (CH q nums)).cur= []:=List.eq_nil_of_length_eq_zero (by omega);rw [this];rfl
 refine ⟨fun L hL=>?_,by rw [e];exact h2,fun n hn=>h3 n (by rw [<-e];exact hn)⟩;unfold CR at hL
 rcases List.mem_append.1 hL with hL |hL
 ·exact h1.out L hL
 ·split at hL
  ·rw [List.mem_singleton] at hL;rw [hL];exact h1.cur
  ·cases hL
theorem JH (now:Int):∀ (LL:List (List Int)) (s:Bo),LL.flatten.Pairwise (· < ·)->(∀ n ∈ LL.flatten,n ∉ Aw s.gs)->Aw (s.sendAll now LL).gs=Aw s.gs ++ LL.flatten/\∀ g ∈ (s.sendAll now LL).gs,g ∈ s.gs \/ g.L ∈ LL
 | [],s,_,_=>⟨(List.append_nil _).symm,fun g hg=>.inl hg⟩
 |L::LL,s,h,hd=>by
  rw [List.flatten_cons,List.pairwise_append] at h
  have hL:FA s.gs L=L:=by
   unfold FA;rw [List.filter_eq_self.2 fun n hn=>decide_eq_true (hd n (by rw [List.flatten_cons];exact List.mem_append.2 (.inl hn)))];exact (It h.1 fun x=>Iff.rfl).symm
  have hs:Aw (s.send_ now L).gs=Aw s.gs ++ L/\∀ g ∈ (s.send_ now L).gs,g ∈ s.gs \/ g.L=L:=by
   show Aw (B2 s.f s.m s.gs s.last now L).1=_/\∀ g ∈ (B2 s.f s.m s.gs s.last now L).1,_;unfold B2;rw [hL];split
   ·rename_i e;rw [e];exact ⟨(List.append_nil _).symm,fun g hg=>.inl hg⟩
   ·refine ⟨by show Aw (s.gs ++ [_])=_;unfold Aw;rw [List.flatMap_append];simp,fun g hg=>?_⟩
    rcases List.mem_append.1 hg with hg |hg
    ·exact .inl hg
    ·rw [List.mem_singleton] at hg;rw [hg];exact .inr rfl
  obtain ⟨h1,h2⟩:=JH now LL (s.send_ now L) h.2.1 (fun n hn=>by
   rw [hs.1];intro hm
   rcases List.mem_append.1 hm with hm |hm
   ·exact hd n (by rw [List.flatten_cons];exact List.mem_append.2 (.inr hn)) hm
   ·exact Int.lt_irrefl n (h.2.2 n hm n hn))
  refine ⟨?_,fun g hg=>?_⟩
  ·show Aw ((s.send_ now L).sendAll now LL).gs=_;rw [h1,hs.1,List.flatten_cons,List.append_assoc]
  ·rcases h2 g hg with hg |hg
   ·exact (hs.2 g hg).imp id fun e=>by rw [e];exact List.mem_cons_self
   ·exact .inr (List.mem_cons_of_mem _ hg)
theorem Ur {last now:Int} {gs:List BG} (h:C7 last gs):(DB gs now).flatten.Nodup/\∀ L ∈ DB gs now,∃ g ∈ gs,g.L=L:=by
 have hl:∀ id ∈ D8 gs now,∃ g ∈ gs,g.id=id/\Mj gs id=g.L:=fun id hid=>by
  obtain ⟨g,hg,e⟩:=H5 hid;refine ⟨g,hg,e,?_⟩;unfold Mj;rw [<-e,E9 h hg]
 refine ⟨?_,fun L hL=>?_⟩
 ·unfold DB;rw [<-List.flatMap_def];refine List.pairwise_flatMap.2 ⟨fun id hid=>?_,?_⟩
  ·obtain ⟨g,hg,_,e⟩:=hl id hid;rw [e];exact HV (h.srt g hg)
  ·have h1:(D8 gs now).Pairwise fun a b=>a ∈ D8 gs now/\b ∈ D8 gs now/\a ≠ b:=List.Pairwise.and_mem.1 (GR h);refine h1.imp fun {a b} ⟨ha,hb,hab⟩ x hx y hy e=>?_;obtain ⟨g,hg,i1,e1⟩:=hl a ha;obtain ⟨g',hg',i2,e2⟩:=hl b hb;rw [e1] at hx;rw [e2] at hy;subst e;have:=HP h.nd hg hg' hx hy;exact hab (by rw [<-i1,<-i2,this])
 ·obtain ⟨id,hid,rfl⟩:=List.mem_map.1 hL;obtain ⟨g,hg,_,e⟩:=hl id hid;exact ⟨g,hg,e.symm⟩
structure Xv (s:Bo) (ql:List (Int × Int)) (z:Int->Int) (TL:List (Int × List Int)):Prop where
 kind:∀ x ∈ TL,(x.1=1/\s.op=false/\x.2= []) \/ (x.1=3/\s.op=true)
 each:∀ x ∈ TL,Sq s.p z x.2
 mem:∀ x ∈ TL,∀ n ∈ x.2,n ∈ ql.map (·.1)/\n <= s.lim
 nd:(TL.flatMap (·.2)).Nodup
theorem Jb.try_ {s:Bo} {ql:List (Int × Int)} {last:Int} {z:Int->Int} (h:Jb s ql last z) (now:Int):Jb (s.try_ now) ql last z:=by
 unfold Bo.try_;split
 ·exact ⟨h.lim,h.shut,h.cnt,h.old,h.z0,h.zq,h.grp⟩
 ·exact h
theorem Jb.tick {s:Bo} {ql:List (Int × Int)} {last now:Int} {z:Int->Int} {M:Nat} (h:Jb s ql last z) (hok:C7 s.last s.gs) (hq:QB M ql last) (hp:1 <= s.p):Jb (s.tick now ql) ql last z/\Xv s ql z (s.told now ql):=by
 obtain ⟨s1,hs1⟩:∃ s1,s1=s.keep_ (ql.map (·.1)):=⟨_,rfl⟩
 have h1:Jb s1 ql last z:=by rw [hs1];exact h.rm _
 have hok1:C7 s1.last s1.gs:=by rw [hs1];exact hok.rm _
 have en:Aw s1.gs=(Aw s.gs).filter fun n=>decide (n ∈ ql.map (·.1)):=by
  rw [hs1];show Aw (D1 s.gs _)=_;rw [Ec];simp
 have elim:s1.lim=s.lim:=by rw [hs1];rfl
 have ep:s1.p=s.p:=by rw [hs1];rfl
 have eop:s1.op=s.op:=by rw [hs1];rfl
 cases ho:s.op with
 |false=>
  unfold Bo.tick Bo.told;rw [if_neg (by rw [ho];decide),if_neg (by rw [ho];decide),<-hs1];refine ⟨h1.try_ now,?_⟩;split
  ·refine ⟨fun x hx=>?_,fun x hx=>?_,fun x hx=>?_,List.nodup_nil⟩
   ·rw [List.mem_singleton] at hx;rw [hx];exact .inl ⟨rfl,ho,rfl⟩
   ·rw [List.mem_singleton] at hx;rw [hx];exact ⟨by show ((0:Nat):Int) <= s.p;omega,fun h=>absurd h (by show ¬ 1 < 0;omega)⟩
   ·rw [List.mem_singleton] at hx;rw [hx];intro n hn;cases hn
  ·exact ⟨(fun x hx=>by cases hx),(fun x hx=>by cases hx),(fun x hx=>by cases hx),List.nodup_nil⟩
 |true=>
  obtain ⟨s2,hs2⟩:∃ s2,s2=s1.due_ now:=⟨_,rfl⟩
  have en2:Aw s2.gs=Aw s1.gs:=by rw [hs2];exact GQ _ _ _ _
  have h2:Jb s2 ql last z:=by
   refine ⟨fun n hn=>?_,fun ho2=>?_,?_,fun n hn=>?_,h1.z0,h1.zq,fun g hg=>?_⟩
   ·rw [en2] at hn;have:=h1.lim n hn;rw [hs2];exact this
   ·rw [hs2] at ho2;have ho2:s1.op=false:=ho2;rw [eop,ho] at ho2;cases ho2
   ·rw [en2,hs2];exact h1.cnt
   ·rw [en2] at hn;exact h1.old n hn
   ·rw [hs2] at hg;obtain ⟨x,hx,rfl⟩:=List.mem_map.1 hg;have:=h1.grp x hx;rw [hs2];split<;>exact this
  have e2p:s2.p=s.p:=by rw [hs2];exact ep
  have e2l:s2.lim=s.lim:=by rw [hs2];exact elim
  have e2o:s2.op=true:=by rw [hs2];exact eop.trans ho
  obtain ⟨LL,hLL⟩:∃ LL,LL=s2.batch now ql:=⟨_,rfl⟩
  have hb:XM s2.p s2.lim z (Aw s2.gs) (ql.map (·.1)) LL:=by
   rw [hLL];exact Q4 (by rw [e2p];exact hp) h2.zq
  have hroom:LL.flatten.length <= (s2.q - ((Aw s2.gs).length:Int)).toNat:=by rw [hLL];exact J4 _ _ _ _ _
  have hsrt:LL.flatten.Pairwise (· < ·):=hq.srt.sublist hb.sub;obtain ⟨g1,g2⟩:=JH now LL s2 hsrt (fun n hn=>(hb.lim n hn).2);obtain ⟨a1,a2,a3,a4,a5,a6,a7,a8,_⟩:=Bo.sendAll_eq now LL s2;obtain ⟨s3,hs3⟩:∃ s3,s3=s2.sendAll now LL:=⟨_,rfl⟩;rw [<-hs3] at g1 g2 a1 a2 a3 a4 a5 a6 a7 a8
  have eo:s.open_ now ql=s3:=by
   rw [hs3,hLL,hs2,hs1];rfl
  have hql:∀ n ∈ ql.map (·.1),n <= last:=fun n hn=>by
   obtain ⟨x,hx,rfl⟩:=List.mem_map.1 hn;exact (hq.le x hx).2
  have h3:Jb s3 ql last z:=by
   refine ⟨fun n hn=>?_,fun ho3=>?_,?_,fun n hn=>?_,h2.z0,h2.zq,fun g hg=>?_⟩
   ·rw [g1] at hn;rw [a8];exact (List.mem_append.1 hn).elim (h2.lim n) fun hn=>(hb.lim n hn).1
   ·rw [a6,e2o] at ho3;cases ho3
   ·have:=h2.cnt;rw [g1,List.length_append,a4];omega
   ·rw [g1] at hn;exact (List.mem_append.1 hn).elim (h2.old n) fun hn=>hql n (hb.sub.subset hn)
   ·rw [a3];exact (g2 g hg).elim (h2.grp g) (hb.each g.L)
  have hT:Xv s ql z (s.told now ql):=by
   have hdue:=Ur (now:=now) hok1
   have hdm:∀ L ∈ DB s1.gs now,Sq s.p z L/\∀ n ∈ L,n ∈ Aw s1.gs:=fun L hL=>by
    obtain ⟨g,hg,rfl⟩:=hdue.2 L hL;refine ⟨?_,fun n hn=>List.mem_flatMap.2 ⟨g,hg,hn⟩⟩;rw [<-ep];exact h1.grp g hg
   have hpr:∀ x ∈ (if s.busy now ql then [] else if s.tm <= now then [((3:Int),([]:List Int))] else []),x=(3,[]):=fun x hx=>by
    split at hx
    ·cases hx
    ·split at hx
     ·exact List.mem_singleton.1 hx
     ·cases hx
   have hin:∀ x ∈ s.told now ql,x=(3,[]) \/ ∃ L,x=(3,L)/\(L ∈ DB s1.gs now \/ L ∈ LL):=fun x hx=>by
    unfold Bo.told at hx;rw [if_pos ho] at hx
    rcases List.mem_append.1 hx with hx |hx
    ·unfold Bo.outs at hx;obtain ⟨L,hL,rfl⟩:=List.mem_map.1 hx;rw [<-hs1,<-hs2,<-hLL] at hL;exact .inr ⟨L,rfl,List.mem_append.1 hL⟩
    ·exact .inl (hpr x hx)
   have h0:Sq s.p z []:=⟨by show ((0:Nat):Int) <= s.p;omega,fun h=>absurd h (by show ¬ 1 < 0;omega)⟩;refine ⟨fun x hx=>?_,fun x hx=>?_,fun x hx=>?_,?_⟩
   ·rcases hin x hx with rfl |⟨L,rfl,_⟩
    ·exact .inr ⟨rfl,ho⟩
    ·exact .inr ⟨rfl,ho⟩
   ·rcases hin x hx with rfl |⟨L,rfl,hL |hL⟩
    ·exact h0
    ·exact (hdm L hL).1
    ·have:=hb.each L hL;rw [e2p] at this;exact this
   ·rcases hin x hx with rfl |⟨L,rfl,hL |hL⟩
    ·intro n hn;cases hn
    ·intro n hn;have h5:=(hdm L hL).2 n hn;rw [en] at h5;have h6:=List.mem_filter.1 h5;exact ⟨of_decide_eq_true h6.2,h.lim n h6.1⟩
    ·intro n hn;have h5:n ∈ LL.flatten:=List.mem_flatten.2 ⟨L,hL,hn⟩;exact ⟨hb.sub.subset h5,by have:=(hb.lim n h5).1;rw [e2l] at this;exact this⟩
   ·have e:(s.told now ql).flatMap (·.2)=(DB s1.gs now).flatten ++ LL.flatten:=by
     unfold Bo.told;rw [if_pos ho,List.flatMap_append]
     have e1:(if s.busy now ql then [] else if s.tm <= now then [((3:Int),([]:List Int))] else []).flatMap (·.2)= []:=by
      split
      ·rfl
      ·split<;>rfl
     rw [e1,List.append_nil];unfold Bo.outs;rw [<-hs1,<-hs2,<-hLL,List.flatMap_map,List.flatMap_append];show (DB s1.gs now).flatMap (fun l=>l) ++ LL.flatMap (fun l=>l)=_;rw [List.flatMap_def,List.flatMap_def];simp
    rw [e];refine List.nodup_append.2 ⟨hdue.1,HV hsrt,fun a ha b hb2 e=>?_⟩;subst e;obtain ⟨L,hL,hn⟩:=List.mem_flatten.1 ha;have h5:=(hdm L hL).2 a hn;rw [<-en2] at h5;exact (hb.lim a hb2).2 h5
  unfold Bo.tick;rw [if_pos ho];refine ⟨?_,hT⟩;split
  ·rw [eo];exact ⟨h3.lim,h3.shut,h3.cnt,h3.old,h3.z0,h3.zq,h3.grp⟩
  ·rw [eo];exact h3.try_ now
def MM (s s':Bo) (G:Int):Int:=if ¬ (s'.inc=s.inc) \/ s'.op=false then 0 else G
theorem Q0 {s s':Bo} {G:Int} (h1:s'.inc=s.inc) (h2:s'.op=true):MM s s' G=G:=if_neg fun h=>h.elim (fun h=>h h1) fun h=>by rw [h2] at h;cases h
abbrev Tj (d ep inc:Int) (s':Bo):Prop:=d % 7=3/\ep=1/\inc=s'.inc/\s'.op=true
def Py (d:Int) (x:Fm) (s s':Bo) (G:Int):Int:=if Tj d x.ep x.inc s' then max (MM s s' G) x.lim else MM s s' G
theorem QX {s s':Bo} {x:Fm} {d G:Int} (h1:s'.inc=s.inc) (h2:s'.op=true) (h3:s'.lim=max s.lim x.lim) (hd:d % 7=3) (he:x.ep=1) (hi:x.inc=s.inc) (hG:s.lim <= G):s'.lim <= Py d x s s' G:=by
 unfold Py;rw [if_pos ⟨hd,he,hi.trans h1.symm,h2⟩,Q0 h1 h2,h3];omega
theorem QY {s:Bo} {ql:List (Int × Int)} {last G now:Int} {z:Int->Int} {y:Ac} {xl:List BS} (h:Jb s ql last z) (hG:s.lim <= G) (h0:0 <= G) (he:s.ep=1) (hd:2 < y.d % 7):(doS y xl ⟨s,ql,last,now⟩).lim <= Py y.d y.x s (doS y xl ⟨s,ql,last,now⟩) G:=by
 have hA:∀ s':Bo,0 <= MM s s' G:=fun s'=>by
  unfold MM;split
  ·exact Int.le_refl _
  ·exact h0
 have hself:s.lim <= MM s s G:=by
  unfold MM;split
  ·rename_i h1
   rcases h1 with h1 |h1
   ·exact absurd rfl h1
   ·rw [(h.shut h1).1];exact Int.le_refl _
  ·exact hG
 have hup:∀ s':Bo,MM s s' G <= Py y.d y.x s s' G:=fun s'=>by
  unfold Py;split
  ·omega
  ·exact Int.le_refl _
 unfold doS;rw [if_neg (by omega)];split
 ·rename_i h3;dsimp only;unfold Bo.rcv;split
  ·rename_i hk;have hep:y.x.ep=1:=hk.2.1.trans he;split
   ·unfold Py;rw [if_pos (show Tj y.d y.x.ep y.x.inc _ from ⟨h3,hep,rfl,rfl⟩)];show y.x.lim <= max _ y.x.lim;omega
   ·rename_i hb;split
    ·refine Int.le_trans ?_ (hup _);exact hA _
    ·rename_i hlt
     have ho:s.op=true:=by
      cases ho:s.op with
      |true=>rfl
      |false=>exact absurd ⟨hk.1.resolve_right (fun h2=>by rw [ho] at h2;cases h2.2),.inr ho⟩ hb
     have hinc:y.x.inc=s.inc:=by
      have:=hk.2.2;have hlt:¬ s.inc < y.x.inc:=hlt;have this:s.inc <= y.x.inc:=this;omega
     exact QX rfl ho rfl h3 hep hinc hG
  ·exact Int.le_trans hself (hup _)
 ·exact Int.le_trans hself (hup _)
theorem Sz (s:Bo) (now:Int) (ql:List (Int × Int)):(s.tick now ql).inc=s.inc/\(s.tick now ql).lim=s.lim:=by
 obtain ⟨_,_,_,_,_,_,a7,a8,_⟩:=Bo.sendAll_eq now (((s.keep_ (ql.map (·.1))).due_ now).batch now ql) ((s.keep_ (ql.map (·.1))).due_ now);have h1:(s.open_ now ql).inc=s.inc/\(s.open_ now ql).lim=s.lim:=⟨a7,a8⟩
 have h2:∀ t:Bo,(t.try_ now).inc=t.inc/\(t.try_ now).lim=t.lim:=fun t=>by
  unfold Bo.try_;split<;>exact ⟨rfl,rfl⟩
 unfold Bo.tick;split
 ·split
  ·exact h1
  ·rw [(h2 _).1,(h2 _).2];exact h1
 ·rw [(h2 _).1,(h2 _).2];exact ⟨rfl,rfl⟩
theorem Sy (s:Bo) (now:Int) (ql:List (Int × Int)):(s.tick now ql).op=s.op:=by
 obtain ⟨_,_,_,_,_,a6,_⟩:=Bo.sendAll_eq now (((s.keep_ (ql.map (·.1))).due_ now).batch now ql) ((s.keep_ (ql.map (·.1))).due_ now);have h1:(s.open_ now ql).op=s.op:=a6
 have h2:∀ t:Bo,(t.try_ now).op=t.op:=fun t=>by
  unfold Bo.try_;split<;>rfl
 unfold Bo.tick;split
 ·split
  ·exact h1
  ·rw [h2];exact h1
 ·rw [h2];rfl
theorem Oa {z:Int->Int}:∀ {l:List Int},(∀ n ∈ l,z n <= 4112)->D3 z l <= 4112 * (l.length:Int)
 | [],_=>Int.le_refl _
 |a::l,h=>by
  have h1:=Oa (l:=l) fun n hn=>h n (List.mem_cons_of_mem _ hn);have h2:=h a List.mem_cons_self;rw [List.length_cons];show z a + D3 z l <= _;omega
theorem O9 {w:World} {A:Nat->Prop} {b off n c:Nat} {l:List Int} (h:Br (A8 .u64) w A (some ⟨b,off,none⟩) n c l) {j:Nat} (hj:j < l.length):w.cell? ⟨b,off + j,none⟩=some (.int .u64 l[j]):=by
 obtain ⟨cs,_,⟨rfl,_⟩,_,h3,_⟩:=h.at_ hj;have h4:=h3 0 _ rfl
 have e:off + j * (A8 .u64).sz + 0=off + j:=by show off + j * 1 + 0=_;omega
 rw [e] at h4;exact h4
theorem W4 {TL:List (Int × List Int)} (h:(TL.flatMap (·.2)).Nodup) {i:Nat} {x:Int × List Int} (hx:TL[i]? =some x) {j:Nat} (hj:j < x.2.length):x.2[j] ∉ (TL.take i).flatMap (·.2)/\x.2[j] ∉ x.2.take j:=by
 obtain ⟨hi,rfl⟩:=List.getElem?_eq_some_iff.1 hx
 have e:TL=TL.take i ++ TL[i]::TL.drop (i + 1):=by
  rw [<-List.drop_eq_getElem_cons hi,List.take_append_drop]
 rw [e,List.flatMap_append,List.flatMap_cons] at h;obtain ⟨_,h2,h3⟩:=List.nodup_append.1 h;have hm:TL[i].2[j] ∈ TL[i].2:=List.getElem_mem hj;refine ⟨fun hn=>h3 _ hn _ (List.mem_append.2 (.inl hm)) rfl,fun hn=>?_⟩;have h4:=(List.nodup_append.1 h2).1
 have e2:TL[i].2=TL[i].2.take j ++ TL[i].2[j]::TL[i].2.drop (j + 1):=by
  rw [<-List.drop_eq_getElem_cons hj,List.take_append_drop]
 rw [e2] at h4;exact (List.nodup_append.1 h4).2.2 _ hn _ List.mem_cons_self rfl
theorem Pd {TL:List (Int × List Int)} {i:Nat} {x:Int × List Int} (hx:TL[i]? =some x):(TL.take (i + 1)).flatMap (·.2)=(TL.take i).flatMap (·.2) ++ x.2:=by
 obtain ⟨hi,rfl⟩:=List.getElem?_eq_some_iff.1 hx;rw [List.take_succ_eq_append_getElem hi,List.flatMap_append];simp
theorem SS {ql:List (Int × Int)} (h:(ql.map (·.1)).Pairwise (· < ·)) {n:Int} (hn:n ∈ ql.map (·.1)):∃ k,∃ hk:k < ql.length,ql[k].1=n/\∀ j,(hj:j < k)->(ql[j]'(by omega)).1 ≠ n:=by
 obtain ⟨x,hx,rfl⟩:=List.mem_map.1 hn;obtain ⟨k,hk,rfl⟩:=List.mem_iff_getElem.1 hx;refine ⟨k,hk,rfl,fun j hj e=>?_⟩;have h1:=List.pairwise_iff_getElem.1 h j k (by rw [List.length_map];omega) (by rw [List.length_map];exact hk) hj;rw [List.getElem_map,List.getElem_map] at h1;omega
theorem Wq (b:Nat) (n:Int) (y:Int × Int) (w:World) (hb:w.heap[b]? =some (.cells ⟨[.int .u64 n]⟩ 32 (0,0))):Calls Tryz.prog 20 #[.agg ⟨EV y⟩,.pointer (some ⟨b,0,none⟩)] w fun e w'=>e= .returned (.bool (decide (y.1=n)))/\Below w.heap.size w w':=by
 refine BO Tryz.func20 rfl rfl (Hp.start false hb) ?_;repeat (first |refine Ai ?_ |refine Ab ?_)
 refine AY Aa rfl (fun b2 hb2=>?_);repeat (first |refine Ai ?_ |refine Ab ?_ |refine Ag ?_ |refine AC ?_ |refine Ae Aa rfl ?_ |refine An Aa 0 rfl rfl rfl ?_ |refine An Aa 1 rfl rfl rfl ?_)
 exact AZ rfl rfl (fun w' hw=>⟨rfl,hw.below (by repeat (first |exact Ar |refine CQ ?_ |refine AA (by first |assumption |omega) ?_))⟩)
set_option maxHeartbeats 4000000 in
theorem Vr {w:World} {A:Nat->Prop} {a:Option Addr} {m c b:Nat} {ql:List (Int × Int)} {n:Int} (hq:Br Em w A a m c ql) (hb:w.heap[b]? =some (.cells ⟨[.int .u64 n]⟩ 32 (0,0))) {k:Nat} (hk:k < ql.length) (hkn:ql[k].1=n) (hmin:∀ j,(hj:j < k)->(ql[j]'(by omega)).1 ≠ n):
 Calls Tryz.prog 19 #[.slice a m c,.func (.func 20) #[] #[.pointer (some ⟨b,0,none⟩)]] w fun e w'=>e= .returned (.int .i64 (k:Int))/\Below w.heap.size w w':=by
 have hl:=hq.len;have hmx:=hq.maxn;simp only [maxLen] at hmx;obtain ⟨ab,off,cs,rfl,hlt,_⟩:=hq.get_ hk;refine BO Tryz.func19 rfl rfl (Hp.refl w) ?_;repeat (first |refine Ai ?_ |refine Ab ?_ |refine Aq ?_ |refine Ag ?_ |refine Ae Aa rfl ?_)
 refine AM (ι:=Nat) (fun i=>[(0,.slice (some ⟨ab,off,none⟩) m c),(1,.func (.func 20) #[] #[.pointer (some ⟨b,0,none⟩)]),(7,.int .i64 (m:Int)),(8,.int .i64 (i:Int))]) (fun _=>[]) (fun i=>i <= k) (fun i=>k - i) 0 (Nat.zero_le _) (by repeat (first |exact As.nil |refine As.cons rfl ?_)) (fun w' hw=>hw) ?_;intro i hi
 have hi':i < ql.length:=by omega
 repeat (first |refine Ai ?_ |refine Ab ?_ |refine Ag ?_ |refine Ae Aa rfl ?_)
 refine Ak rfl (fun _=>?_) (fun h=>absurd (show (i:Int) < (m:Int) by omega) h);repeat (first |refine Ai ?_ |refine Ab ?_ |refine Aq ?_ |refine Ag ?_ |refine Ad ?_ |refine Ao ?_ |refine Ae Aa rfl ?_)
 refine BE (Bs (sz:=2) Aa rfl rfl rfl rfl rfl rfl rfl rfl (j:=i) (by omega)) ?_;refine BR Aa (vs:=EV ql[i]) rfl rfl rfl (fun w' hw=>DF (hq.ext (hw.below Ar)) hi') ?_;skip;refine M8 (v:=.bool (decide (ql[i].1=n))) rfl rfl rfl Tryz.call20 (fun w1 h1=>Wq b n ql[i] w1 (((h1.below Ar).block b (AU hb)).trans hb)) ?_;repeat (first |refine Ag ?_)
 refine Ak rfl (fun h=>?_) (fun h=>?_)
 ·have hik:i=k:=by
   rcases Nat.lt_or_ge i k with h1 |h1
   ·exact absurd h (hmin i h1)
   ·omega
  subst hik;repeat (first |refine Ai ?_ |refine Ab ?_ |refine Ag ?_ |refine BQ ?_ |refine AI ?_ |refine AC ?_ |refine Ae Aa rfl ?_)
  exact AZ rfl rfl (fun w' hw=>⟨rfl,hw.below Ar⟩)
 ·have hik:i ≠ k:=fun e=>by
   subst e;exact h hkn
  repeat (first |refine Ab ?_ |refine Ag ?_ |refine Ad ?_ |refine Am ?_ |refine Ao ?_ |refine AD Aa rfl (by omega) ?_ |refine Ae Aa rfl ?_)
  exact ⟨i + 1,by omega,(by repeat (first |exact As.nil |refine As.cons rfl ?_)),fun w' hw=>hw,by omega⟩
structure Yp where
 i:Nat
 s:Bo
 ql:List (Int × Int)
 last:Int
 now:Int
 qa:Option Addr
 qc:Nat
 F1:Nat->Prop
 F2:Nat->Prop
 Fq:Nat->Prop
 G:Int
 z:Int->Int
theorem OB {d G:Int} {x:Fm} {s s':Bo} (hG:AS .u64 G) (hx:AS .u64 x.lim):AS .u64 (Py d x s s' G):=by
 have hA:AS .u64 (MM s s' G):=by
  unfold MM;split
  ·decide
  ·exact hG
 unfold Py;split
 ·rcases Int.le_total (MM s s' G) x.lim with h |h
  ·rw [Int.max_eq_right h];exact hx
  ·rw [Int.max_eq_left h];exact hA
 ·exact hA
set_option maxHeartbeats 32000000 in
theorem HH (fi mo ba fl:Int) (v4:Value) (acts:List Sf) (W0:World) (hfi:AS .u16 fi) (hmo:AS .u16 mo) (hba:AS .u8 ba) (hfl:AS .u8 fl) (hv4:(Az R5).val W0 TT v4 acts):
 Calls Tryz.prog 5 #[.int .u16 fi,.int .u16 mo,.int .u8 ba,.int .u8 fl,v4] W0 fun e W'=>e= .returned (.bool true)/\Below W0.heap.size W0 W':=by
 obtain ⟨a5,n5,c5,rfl,h0⟩:=Br.form hv4;have hLl:=h0.len;have hmx:=h0.maxn;simp only [maxLen] at hmx;have hfi':=Gr hfi;have hmo':=Gr hmo;have hba':=Dv hba;have hfl':=Dv hfl;refine Q8 Tryz.func5 rfl rfl (Hp.refl W0) ?_;repeat (first |refine Ai ?_ |refine Ab ?_ |refine Ag ?_ |refine Ae Aa rfl ?_)
 refine Be (v:=.bool true) rfl Tryz.call7 (fun w1 h1=>NV w1) ?_;repeat (first |refine Ag ?_ |refine Ae Aa rfl ?_)
 refine AG rfl ?_;repeat (first |refine Ai ?_ |refine Ab ?_ |refine Ad ?_ |refine Ao ?_ |refine Ae Aa rfl ?_)
 refine Be (v:=.agg #[.int .i64 (1 + fi % 20),.int .i64 (1 + fi % 20 + mo % 200),.int .i64 (1 + ba % 8),.int .i64 (1 + fl % 20)]) rfl Tryz.call8 (fun w1 h1=>PH fi mo ba fl hfi hmo hba hfl w1) ?_;refine AY Aa rfl (fun b11 hb11=>?_);repeat (first |refine Ai ?_ |refine Ab ?_ |refine Ag ?_ |refine An Aa 0 rfl rfl rfl ?_ |refine Ax Aa 0 rfl rfl rfl rfl rfl rfl ?_)
 obtain ⟨f,hf⟩:∃ f,f=1 + fi % 20:=⟨_,rfl⟩;obtain ⟨m,hm⟩:∃ m,m=1 + fi % 20 + mo % 200:=⟨_,rfl⟩;obtain ⟨p,hp⟩:∃ p,p=1 + ba % 8:=⟨_,rfl⟩;obtain ⟨q,hq⟩:∃ q,q=1 + fl % 20:=⟨_,rfl⟩;rw [<-hm,<-hf,<-hp,<-hq];have hc:cR f m p q:=⟨⟨by omega,by omega,by omega⟩,by omega,by omega,by omega,by omega⟩;refine A7 rfl Tryz.call9 (fun w1 g1=>(ST (ep:=1) g1 hc ⟨by decide,by decide⟩).mono fun e w' ⟨pb,sb,xb,F1,F2,he,hpb,hN1,hN2,h9⟩=>⟨_,_,he,h9,?_⟩);repeat (first |refine Ai ?_ |refine Ab ?_ |refine Aq ?_ |refine Ag ?_ |refine Ae Aa rfl ?_)
 refine AM (ι:=Yp) (fun z=>[(11,.pointer (some ⟨b11,0,none⟩)),(12,AF pb),(13,.int .u64 z.G),(14,.int .u64 z.s.inc),(35,.slice a5 n5 c5),(36,.int .i64 (n5:Int)),(37,.int .i64 (z.i:Int))])
  (fun z=>Mi pb sb xb z.s z.ql z.last z.now z.qa z.qc z.F1 z.F2 z.Fq ++ [.blk b11 (.cells ⟨[.int .i64 f,.int .i64 m,.int .i64 p,.int .i64 q]⟩ 28 (0,0)) true])
  (fun z=>(z.i <= n5/\z.i <= 50)/\z.s.cf=(f,m,p,q,1)/\Jb z.s z.ql z.last z.z/\(z.s.lim <= z.G/\0 <= z.G/\AS .u64 z.G)/\FN (2 * z.i) z.s/\QB z.i z.ql z.last/\(0 <= z.now/\z.now <= 255 * (z.i:Int))/\(∀ k,z.F1 k->W0.heap.size <= k)/\(∀ k,z.F2 k->W0.heap.size <= k)/\∀ k,z.Fq k->W0.heap.size <= k) (fun z=>n5 - z.i)
  ⟨0,⟨f,m,p,q,1,false,0,0,0,0,[],0⟩,[],0,0,none,0,F1,F2,fun _=>False,0,fun _=>0⟩ ⟨⟨Nat.zero_le _,Nat.zero_le _⟩,rfl,⟨(fun n hn=>by cases hn),fun _=>⟨rfl,rfl⟩,(by show (0:Int) <= q;omega),(fun n hn=>by cases hn),fun _=>Int.le_refl _,(fun x hx=>by cases hx),fun g hg=>by cases hg⟩,⟨Int.le_refl _,Int.le_refl _,(show AS .u64 0 by decide)⟩,⟨Nat.zero_le _,(by show (0:Int) <= _;omega),(fun g hg=>by cases hg),(by show (0:Int) <= _;omega)⟩,QB.nil,⟨Int.le_refl _,by show (0:Int) <= _;omega⟩,hN1,hN2,fun k hk=>hk.elim⟩ (by repeat (first |exact As.nil |refine As.cons rfl ?_)) (fun w' hw=>hw.less (by repeat (first |exact Au.nil |refine Au.keep ?_))) ?_
 rintro ⟨i,s,ql,last,now,qa,qc,G1,G2,Gq,G,z⟩ ⟨⟨hi,hi50⟩,hcf,hci,⟨hGl,hG0,hGf⟩,hsb,hqb,hnow,hG1,hG2,hGq⟩;dsimp only at hi hi50 hcf hci hGl hG0 hGf hsb hqb hnow hG1 hG2 hGq ⊢;refine EY (fun w1 g1=>show Ep s/\C7 s.last s.gs/\Jt s.gs from UP (g1.own _ (Af (i:=2) rfl)).1) (fun ⟨hsok,hbok,_⟩=>?_);have hq1024:=hsok.conf.2.2.2.2;have hsp:s.p=p:=congrArg (·.2.2.1) hcf;have hsq:s.q=q:=congrArg (·.2.2.2.1) hcf;have hep:s.ep=1:=congrArg (·.2.2.2.2) hcf;repeat (first |refine Ai ?_ |refine Ab ?_ |refine Ag ?_ |refine Ae Aa rfl ?_)
 refine Ak rfl (fun hlt=>?_) (fun hge=>?_);rotate_left
 ·repeat (first |refine Ai ?_ |refine Ab ?_ |refine Ag ?_ |refine Ad ?_ |refine AB ?_ |refine Al ?_ |refine AC ?_ |refine AH ?_ |refine Ae Aa rfl ?_)
  exact AZ rfl rfl (fun w' hw=>⟨rfl,hw.below (by repeat (first |exact Ar |refine IB (by assumption) ?_ |refine AA (by first |assumption |omega) ?_))⟩)
 have hil:i < acts.length:=by omega
 obtain ⟨ab,off,y,yl,rl,rfl,hy,hyl,hrl,hce⟩:=RT h0 hil;refine L7 ((Az Bg).vp rl) TT (v:=.slice y.ra y.rn y.rc) (fun w' hw=>Vp.old (Br.val hrl) hw (by repeat (first |exact Ar |refine IB (by assumption) ?_ |refine AA (by first |assumption |omega) ?_))) (fun Fr hFr=>?_);refine L7 ((Az Bg).vp yl) TT (v:=.slice y.x.ra y.x.rn y.x.rc) (fun w' hw=>Vp.old (Br.val hyl) hw (by repeat (first |exact Ar |refine BW ?_ |refine IB (by assumption) ?_ |refine AA (by first |assumption |omega) ?_))) (fun Fg hFg=>?_);repeat (first |refine Ai ?_ |refine Ab ?_ |refine Aq ?_ |refine Ad ?_ |refine Ao ?_ |refine Ae Aa rfl ?_)
 refine BE (Bs (sz:=14) Aa rfl rfl rfl rfl rfl rfl rfl (j:=i) rfl (by omega)) ?_
 refine BR Aa (vs:=y.cs) rfl rfl rfl (fun w' hw jj u hu=>by
  rw [Addr.add_lit]
  exact hce w' (hw.below (by repeat (first |exact Ar |refine BW ?_ |refine IB (by assumption) ?_ |refine AA (by first |assumption |omega) ?_))) jj u hu) ?_
 refine AY Aa rfl (fun b16 hb16=>?_);repeat (first |refine Ai ?_ |refine Ab ?_ |refine Ag ?_ |refine Ae Aa rfl ?_ |refine Ax Aa 0 rfl rfl rfl rfl rfl rfl ?_)
 refine Ak rfl (fun h50=>?_) (fun h50=>?_)
 ·repeat (first |refine Al ?_ |refine AH ?_)
  refine Cx rfl ?_;repeat (first |refine Ai ?_ |refine Ab ?_ |refine Ag ?_ |refine Ad ?_ |refine AB ?_ |refine Al ?_ |refine AC ?_ |refine Ae Aa rfl ?_)
  exact AZ rfl rfl (fun w' hw=>⟨rfl,hw.below (by repeat (first |exact Ar |refine BW ?_ |refine IB (by assumption) ?_ |refine AA (by first |assumption |omega) ?_))⟩)
 have hla':=Dv hy.la;have hd':=Dv hy.d;repeat (first |refine Ai ?_ |refine Ab ?_ |refine Ad ?_ |refine Ao ?_ |refine Ae Aa rfl ?_ |refine An Aa 0 rfl rfl rfl ?_)
 refine BE (Er rfl rfl rfl (by decide) hd'.1) ?_;repeat (first |refine Ag ?_ |refine Ae Aa rfl ?_)
 refine Ak rfl (fun hd2=>?_) (fun hd2=>?_)
 ·repeat (first |refine Ai ?_ |refine Ab ?_ |refine Ae Aa rfl ?_ |refine An Aa 0 rfl rfl rfl ?_)
  refine B0 (fun w' hw=>hw.pm [3,4,5,6,1,2,0,7] rfl rfl rfl) ?_;refine A7 rfl Tryz.call10 (fun w1 g1=>(WY (p:=⟨s,ql,last,now⟩) (y:=y) (xl:=yl) (rl:=rl) g1 hG1 hG2 hGq hsb (by omega) hqb (by omega) (by dsimp only;omega) hy.d hy.la hy.nn hy.sz hy.k hy.cum hy.inc hy.lim).mono fun e w' ⟨ql2,last2,qa2,qc2,H1,H2,Hq,he,k1,ku,⟨k3,k4,k5⟩,h9⟩=>⟨_,_,he,h9,?_⟩);have hgr:=QY (y:=y) (xl:=yl) (now:=now) hci hGl hG0 hep hd2;have hcf2:=(Wp y yl ⟨s,ql,last,now⟩).trans hcf
  have hsb2:FN (2 * (i + 1)) (doS y yl ⟨s,ql,last,now⟩):=by
   have:=FN.doS (y:=y) (xl:=yl) (p:=⟨s,ql,last,now⟩) hsb hq1024 hqb (by omega);exact this
  have hc0:Jb (doS y yl ⟨s,ql,last,now⟩) ql last z:=by
   unfold doS;rw [if_neg (by omega)];split
   ·exact hci.rcv (by rw [hsq];omega) _ _
   ·exact hci
  obtain ⟨z2,hc2⟩:=hc0.change hqb k1 ku;dsimp only;obtain ⟨s',hs'⟩:∃ s',s'=doS y yl ⟨s,ql,last,now⟩:=⟨_,rfl⟩;rw [<-hs'] at hgr hcf2 hsb2 hc2 ⊢;refine B0 (fun w' hw=>(hw.pm [6,0,1,2,3,7,4,5] rfl rfl rfl).less (o':=.blk b16 (.cells ⟨y.cs⟩ 38 (0,0)) true::(Mi pb sb xb s' ql2 last2 (now + y.la) qa2 qc2 H1 H2 Hq ++ [.blk b11 (.cells ⟨[.int .i64 f,.int .i64 m,.int .i64 p,.int .i64 q]⟩ 28 (0,0)) true])) (by repeat (first |exact Au.nil |refine Au.keep ?_ |refine Au.dropR ?_))) ?_;repeat (first |refine Ai ?_ |refine Ab ?_ |refine Ag ?_ |refine Ae Aa rfl ?_ |refine An Aa 1 rfl rfl rfl ?_)
  refine FK (ι:=Unit) (fun _=>True) (fun _=>[(11,.pointer (some ⟨b11,0,none⟩)),(12,AF pb),(13,.int .u64 G),(14,.int .u64 s.inc),(16,.pointer (some ⟨b16,0,none⟩)),(35,.slice (some ⟨ab,off,none⟩) n5 c5),(36,.int .i64 (n5:Int)),(37,.int .i64 (i:Int)),(65,.bool (decide (¬ (s'.inc=s.inc) \/ s'.op=false)))]) (fun _=>.blk b16 (.cells ⟨y.cs⟩ 38 (0,0)) true::(Mi pb sb xb s' ql2 last2 (now + y.la) qa2 qc2 H1 H2 Hq ++ [.blk b11 (.cells ⟨[.int .i64 f,.int .i64 m,.int .i64 p,.int .i64 q]⟩ 28 (0,0)) true])) ?_ ?_
  ·refine Be (v:=.int .u64 s'.inc) rfl Tryz.call14 (fun w1 g1=>Qf (g1.own _ (Af (i:=2) rfl)).1) ?_;repeat (first |refine Ae Aa rfl ?_)
   by_cases c1:s'.inc=s.inc
   ·refine Co 58 (v':=.bool false) rfl (congrArg Value.bool (by simp [c1])) ?_;repeat (first |refine Ae Aa rfl ?_ |refine An Aa 1 rfl rfl rfl ?_)
    refine Be (v:=.bool s'.op) rfl Tryz.call12 (fun w1 g1=>GH (g1.own _ (Af (i:=2) rfl)).1) ?_;repeat (first |refine Ag ?_ |refine Ae Aa rfl ?_)
    have e:decide (¬ (s'.inc=s.inc) \/ s'.op=false)=!s'.op:=by
     by_cases ho:s'.op=true
     ·rw [ho]
      exact decide_eq_false fun h=>h.elim (fun h=>h c1) fun h=>by cases h
     ·have ho:s'.op=false:=by simpa using ho
      exact (decide_eq_true (.inr ho)).trans (by rw [ho];rfl)
    exact ⟨(),trivial,(by rw [e];repeat (first |exact As.nil |refine As.cons rfl ?_)),fun w' hw=>hw⟩
   ·refine Co 58 (v':=.bool true) rfl (congrArg Value.bool (by simp [c1])) ?_;repeat (first |refine Ag ?_ |refine Ae Aa rfl ?_ |refine Bn rfl rfl rfl ?_)
    exact ⟨(),trivial,(by rw [decide_eq_true (show ¬ (s'.inc=s.inc) \/ s'.op=false from .inl c1)];repeat (first |exact As.nil |refine As.cons rfl ?_)),fun w' hw=>hw⟩
  intro _ _;skip;refine BN (ι:=Unit) (fun _=>True) (fun _=>[(11,.pointer (some ⟨b11,0,none⟩)),(12,AF pb),(13,.int .u64 (MM s s' G)),(14,.int .u64 s'.inc),(16,.pointer (some ⟨b16,0,none⟩)),(35,.slice (some ⟨ab,off,none⟩) n5 c5),(36,.int .i64 (n5:Int)),(37,.int .i64 (i:Int))]) (fun _=>.blk b16 (.cells ⟨y.cs⟩ 38 (0,0)) true::(Mi pb sb xb s' ql2 last2 (now + y.la) qa2 qc2 H1 H2 Hq ++ [.blk b11 (.cells ⟨[.int .i64 f,.int .i64 m,.int .i64 p,.int .i64 q]⟩ 28 (0,0)) true])) ?_ ?_
  ·refine Ak rfl (fun c=>?_) (fun c=>?_)
   ·repeat (first |refine Ab ?_ |refine Ae Aa rfl ?_ |refine An Aa 1 rfl rfl rfl ?_)
    refine Be (v:=.int .u64 s'.inc) rfl Tryz.call14 (fun w1 g1=>Qf (g1.own _ (Af (i:=2) rfl)).1) ?_;repeat (first |refine Ag ?_ |refine Ae Aa rfl ?_)
    exact ⟨(),trivial,(by rw [show MM s s' G=0 from if_pos c];repeat (first |exact As.nil |refine As.cons rfl ?_)),fun w' hw=>hw⟩
   ·repeat (first |refine Ad ?_ |refine Ao ?_)
    exact ⟨(),trivial,(by rw [show MM s s' G=G from if_neg c,show s'.inc=s.inc from Classical.not_not.1 fun h=>c (.inl h)];repeat (first |exact As.nil |refine As.cons rfl ?_)),fun w' hw=>hw⟩
  intro _ _;repeat (first |refine Ai ?_ |refine Ab ?_ |refine Ae Aa rfl ?_ |refine An Aa 0 rfl rfl rfl ?_)
  refine BE (Er rfl rfl rfl (by decide) hd'.1) ?_;repeat (first |refine Ae Aa rfl ?_)
  refine FK (ι:=Unit) (fun _=>True) (fun _=>[(11,.pointer (some ⟨b11,0,none⟩)),(12,AF pb),(13,.int .u64 (MM s s' G)),(14,.int .u64 s'.inc),(16,.pointer (some ⟨b16,0,none⟩)),(35,.slice (some ⟨ab,off,none⟩) n5 c5),(36,.int .i64 (n5:Int)),(37,.int .i64 (i:Int)),(94,.bool (decide (Tj y.d y.x.ep y.x.inc s')))]) (fun _=>.blk b16 (.cells ⟨y.cs⟩ 38 (0,0)) true::(Mi pb sb xb s' ql2 last2 (now + y.la) qa2 qc2 H1 H2 Hq ++ [.blk b11 (.cells ⟨[.int .i64 f,.int .i64 m,.int .i64 p,.int .i64 q]⟩ 28 (0,0)) true])) ?_ ?_
  ·refine BI rfl rfl (fun c3=>?_) (fun c3=>?_);rotate_left
   ·repeat (first |refine Ag ?_ |refine Ae Aa rfl ?_ |refine Bn rfl rfl rfl ?_)
    exact ⟨(),trivial,(by rw [decide_eq_false (fun h:Tj y.d y.x.ep y.x.inc s'=>c3 h.1)];repeat (first |exact As.nil |refine As.cons rfl ?_)),fun w' hw=>hw⟩
   repeat (first |refine Ae Aa rfl ?_ |refine An Aa 0 rfl rfl rfl ?_)
   refine BI rfl rfl (fun c4=>?_) (fun c4=>?_);rotate_left
   ·repeat (first |refine Ag ?_ |refine Ae Aa rfl ?_ |refine Bn rfl rfl rfl ?_)
    exact ⟨(),trivial,(by rw [decide_eq_false (fun h:Tj y.d y.x.ep y.x.inc s'=>c4 h.2.1)];repeat (first |exact As.nil |refine As.cons rfl ?_)),fun w' hw=>hw⟩
   repeat (first |refine Ae Aa rfl ?_ |refine An Aa 0 rfl rfl rfl ?_)
   refine BI rfl rfl (fun c5=>?_) (fun c5=>?_);rotate_left
   ·repeat (first |refine Ag ?_ |refine Ae Aa rfl ?_ |refine Bn rfl rfl rfl ?_)
    exact ⟨(),trivial,(by rw [decide_eq_false (fun h:Tj y.d y.x.ep y.x.inc s'=>c5 h.2.2.1)];repeat (first |exact As.nil |refine As.cons rfl ?_)),fun w' hw=>hw⟩
   repeat (first |refine Ae Aa rfl ?_ |refine An Aa 1 rfl rfl rfl ?_)
   refine Be (v:=.bool s'.op) rfl Tryz.call12 (fun w1 g1=>GH (g1.own _ (Af (i:=2) rfl)).1) ?_;repeat (first |refine Ag ?_ |refine Ae Aa rfl ?_)
   have e:decide (Tj y.d y.x.ep y.x.inc s')=s'.op:=by
    by_cases ho:s'.op=true
    ·exact (decide_eq_true (show Tj y.d y.x.ep y.x.inc s' from ⟨c3,c4,c5,ho⟩)).trans ho.symm
    ·have ho2:s'.op=false:=by simpa using ho
     exact (decide_eq_false (fun h:Tj y.d y.x.ep y.x.inc s'=>ho h.2.2.2)).trans ho2.symm
   exact ⟨(),trivial,(by rw [e];repeat (first |exact As.nil |refine As.cons rfl ?_)),fun w' hw=>hw⟩
  intro _ _;skip;refine BN (ι:=Unit) (fun _=>True) (fun _=>[(11,.pointer (some ⟨b11,0,none⟩)),(12,AF pb),(13,.int .u64 (Py y.d y.x s s' G)),(14,.int .u64 s'.inc),(35,.slice (some ⟨ab,off,none⟩) n5 c5),(36,.int .i64 (n5:Int)),(37,.int .i64 (i:Int))]) (fun _=>.blk b16 (.cells ⟨y.cs⟩ 38 (0,0)) true::(Mi pb sb xb s' ql2 last2 (now + y.la) qa2 qc2 H1 H2 Hq ++ [.blk b11 (.cells ⟨[.int .i64 f,.int .i64 m,.int .i64 p,.int .i64 q]⟩ 28 (0,0)) true])) ?_ ?_
  ·refine Ak rfl (fun c=>?_) (fun c=>?_)
   ·repeat (first |refine Ab ?_ |refine Ag ?_ |refine Ae Aa rfl ?_ |refine An Aa 0 rfl rfl rfl ?_)
    exact ⟨(),trivial,(by rw [show Py y.d y.x s s' G=max (MM s s' G) y.x.lim from if_pos c];repeat (first |exact As.nil |refine As.cons rfl ?_)),fun w' hw=>hw⟩
   ·repeat (first |refine Ad ?_ |refine Ao ?_)
    exact ⟨(),trivial,(by rw [show Py y.d y.x s s' G=MM s s' G from if_neg c];repeat (first |exact As.nil |refine As.cons rfl ?_)),fun w' hw=>hw⟩
  intro _ _;have hB0:0 <= Py y.d y.x s s' G:=(BF (OB (d:=y.d) (s:=s) (s':=s') hGf hy.lim)).1;repeat (first |refine Ab ?_ |refine Ag ?_ |refine Ad ?_ |refine AB ?_ |refine Al ?_ |refine AH ?_ |refine AD Aa rfl (by omega) ?_ |refine Ae Aa rfl ?_)
  refine ⟨⟨i + 1,s',ql2,last2,now + y.la,qa2,qc2,H1,H2,Hq,Py y.d y.x s s' G,z2⟩,⟨⟨by show i + 1 <= n5;omega,by show i + 1 <= 50;omega⟩,hcf2,hc2,⟨hgr,hB0,OB hGf hy.lim⟩,hsb2,k1,by dsimp only;omega,k3,k4,k5⟩,(by repeat (first |exact As.nil |refine As.cons rfl ?_)),fun w' hw=>hw.less (by repeat (first |exact Au.nil |refine Au.keep ?_ |refine Au.dropB (by first |assumption |omega) ?_)),by show n5 - (i + 1) < n5 - i;omega⟩
 repeat (first |refine Ai ?_ |refine Ad ?_ |refine Ao ?_)
 refine Cd (by kernel_rfl) 8 rfl (by kernel_rfl) ?_;repeat (first |refine AN rfl ?_ |refine BD Aa rfl (by omega) ?_ |refine Ah Aa rfl ?_ |refine AE Aa 0 rfl rfl rfl ?_ |refine AE Aa 3 rfl rfl rfl ?_ |refine Ai ?_ |refine Ab ?_ |refine Ag ?_ |refine Ae Aa rfl ?_ |refine Ax Aa 3 rfl rfl rfl rfl rfl rfl ?_)
 refine B0 (fun w' hw=>hw.pm [3,4,5,6,0,1,2,7] rfl rfl rfl) ?_;refine A7 rfl Tryz.call13 (fun w1 g1=>(Ov (p:=⟨s,ql,last,now + y.la⟩) g1 hG1 hG2 hsb (by omega) hqb (by omega) (by dsimp only;omega)).mono fun e w' ⟨v,Fv,I1,I2,he,hFv,j1,j2,h9⟩=>⟨_,_,he,h9,?_⟩);obtain ⟨hct,hT⟩:=hci.tick (now:=now + y.la) hbok hqb (by rw [hsp];omega);obtain ⟨eti,etl⟩:=Sz s (now + y.la) ql;have eto:=Sy s (now + y.la) ql;have hcf2:=(Oe s (now + y.la) ql).trans hcf;have hql:=hqb.len;have hsb2:FN (2 * (i + 1)) (s.tick (now + y.la) ql):=hsb.tick hq1024 (now + y.la) (ql:=ql) (by omega);dsimp only;obtain ⟨TL,hTL⟩:∃ TL,TL=s.told (now + y.la) ql:=⟨_,rfl⟩;obtain ⟨s',hs'⟩:∃ s',s'=s.tick (now + y.la) ql:=⟨_,rfl⟩;rw [<-hs'] at hct eti etl eto hcf2 hsb2 ⊢;rw [<-hTL] at hT ⊢
 refine Lq (ι:=Option Addr × Nat × List (Int × SX)) (fun r=>v= .slice r.1 TL.length r.2.1/\r.2.2.length=TL.length)
  (fun r=>.rep (fun w=>(Ft .u8 r.1 TL.length r.2.1 r.2.2 TL).at_ w Fv (.bool true)) Fv false::(Mi pb sb xb s' ql last (now + y.la) qa qc I1 I2 Gq ++ [.blk b11 (.cells ⟨[.int .i64 f,.int .i64 m,.int .i64 p,.int .i64 q]⟩ 28 (0,0)) true])) (fun w' hw=>?_) ?_
 ·obtain ⟨a1,n1,c1,y1,e1,h1⟩:=U7 (k:=.u8) (hw.own _ (Af (i:=0) rfl)).1;obtain ⟨rfl,l1⟩:=Ft.len h1;refine ⟨(a1,c1,y1),⟨e1,l1⟩,?_⟩;have g1:=hw.mapI 0 rfl (Ψ:=fun w=>(Ft .u8 a1 TL.length c1 y1 TL).at_ w Fv (.bool true)) (fun _=>h1) (Vp.loc (p:=Ft _ _ _ _ _ _)) rfl;exact g1.less (by repeat (first |exact Au.nil |refine Au.keep ?_ |refine Au.dropR ?_ |refine Au.dropB (by first |assumption |omega) ?_))
 rintro ⟨a1,c1,y1⟩ ⟨rfl,hy1⟩;dsimp only at hy1 ⊢;repeat (first |refine Ai ?_ |refine Ab ?_ |refine Ag ?_ |refine Ae Aa rfl ?_ |refine An Aa 1 rfl rfl rfl ?_)
 refine Be (v:=.int .u64 s'.lim) rfl Tryz.call16 (fun w1 g1=>Vb (g1.own _ (Af (i:=2) rfl)).1) ?_;repeat (first |refine Ag ?_ |refine Ae Aa rfl ?_)
 refine Ak rfl (fun h=>absurd h (by omega)) (fun _=>?_);repeat (first |refine Ai ?_ |refine Ab ?_ |refine Ad ?_ |refine Ao ?_)
 refine GW rfl .u64 (fun bm hbm=>?_);repeat (first |refine Ai ?_ |refine Ab ?_ |refine Aq ?_ |refine Ag ?_ |refine Ae Aa rfl ?_)
 refine AM (ι:=Nat × List ME × Nat) (fun r=>[(11,.pointer (some ⟨b11,0,none⟩)),(12,AF pb),(13,.int .u64 G),(14,.int .u64 s.inc),(19,.map (some bm)),(35,.slice (some ⟨ab,off,none⟩) n5 c5),(36,.int .i64 (n5:Int)),(37,.int .i64 (i:Int)),(127,.slice a1 TL.length c1),(128,.int .i64 (TL.length:Int)),(129,.int .i64 (r.1:Int))])
  (fun r=>.blk bm (Cb .u64 r.2.1 r.2.2) true::.rep (fun w=>(Ft .u8 a1 TL.length c1 y1 TL).at_ w Fv (.bool true)) Fv false::(Mi pb sb xb s' ql last (now + y.la) qa qc I1 I2 Gq ++ [.blk b11 (.cells ⟨[.int .i64 f,.int .i64 m,.int .i64 p,.int .i64 q]⟩ 28 (0,0)) true]))
  (fun r=>r.1 <= TL.length/\∀ n,n ∉ (TL.take r.1).flatMap (·.2)->Dz r.2.1 n=none) (fun r=>TL.length - r.1) (0,[],0) ⟨Nat.zero_le _,fun n _=>Gm n⟩ (by repeat (first |exact As.nil |refine As.cons rfl ?_)) (fun w' hw=>hw) ?_
 rintro ⟨i2,M,c⟩ ⟨hi2,hM⟩;dsimp only at hi2 hM ⊢;repeat (first |refine Ai ?_ |refine Ab ?_ |refine Ag ?_ |refine Ae Aa rfl ?_)
 refine Ak rfl (fun hlt2=>?_) (fun hge2=>?_);rotate_left
 ·have hN:((Bt (Aw s'.gs)).length:Int) <= q:=by
   have h1:=Dj (l:=Aw s'.gs);have h2:=hct.cnt;rw [show s'.q=q from congrArg (·.2.2.2.1) hcf2] at h2;omega
  obtain ⟨N,hNe⟩:∃ N,N=(Bt (Aw s'.gs)).length:=⟨_,rfl⟩;rw [<-hNe] at hN;have hnl:=hsb2.nums
  have hN2:N <= 1000000:=by
   have h1:=Dj (l:=Aw s'.gs);omega
  repeat (first |refine A5 (by kernel_rfl) (by kernel_rfl) ?_ |refine Ah Aa rfl ?_ |refine AE Aa 2 rfl rfl rfl ?_ |refine Ai ?_ |refine Ad ?_ |refine AB ?_ |refine Al ?_ |refine AH ?_)
  refine Js (By (· ∈ Aw s'.gs) (Aw s'.gs).length) (fun _=>False) rfl Tryz.call15 (fun w' vs hw' h=>by
   obtain ⟨u1,_,rfl,rfl,rfl⟩:=h
   exact (Pl (hw'.own _ (Af (i:=3) rfl)).1).mono fun e w2 ⟨r,e1,e2,e3⟩=>⟨r,e1,e2,Sj hw' e3⟩) ?_
  refine Bi (v:=.int .u64 (N:Int)) rfl Tryz.call21 (fun w' vs hw' h=>by
   obtain ⟨u1,_,rfl,hu1,rfl⟩:=h;rw [hNe]
   exact OG (X:=Bt (Aw s'.gs)) hu1 (by omega) (D5 _) (fun x=>Cu) (by omega)) ?_
  repeat (first |refine Ah Aa rfl ?_)
  refine AE Aa 6 rfl rfl rfl ?_;repeat (first |refine O6 Aa rfl (by omega) ?_ |refine Ah Aa rfl ?_)
  refine KE rfl ?_;skip;refine Ak rfl (fun h=>absurd h (by omega)) (fun _=>?_);repeat (first |refine Ab ?_ |refine Ag ?_ |refine Ad ?_ |refine Am ?_ |refine Ao ?_ |refine AD Aa rfl (by omega) ?_ |refine Ae Aa rfl ?_)
  refine ⟨⟨i + 1,s',ql,last,now + y.la,qa,qc,I1,I2,Gq,G,z⟩,⟨⟨by show i + 1 <= n5;omega,by show i + 1 <= 50;omega⟩,hcf2,hct,⟨by show s'.lim <= G;omega,hG0,hGf⟩,hsb2,hqb.up (Nat.le_succ _),by dsimp only;omega,j1,j2,hGq⟩,(by rw [<-eti];repeat (first |exact As.nil |refine As.cons rfl ?_)),fun w' hw=>hw.less (by repeat (first |exact Au.nil |refine Au.keep ?_ |refine Au.dropR ?_ |refine Au.dropB (by first |assumption |omega) ?_)),by show n5 - (i + 1) < n5 - i;omega⟩
 have hi2':i2 < TL.length:=by omega
 obtain ⟨x,hx⟩:∃ x,TL[i2]? =some x:=⟨_,List.getElem?_eq_getElem hi2'⟩;obtain ⟨y2,hy2⟩:∃ y2,y1[i2]? =some y2:=⟨_,List.getElem?_eq_getElem (by omega)⟩;have hxm:x ∈ TL:=List.mem_of_getElem? hx
 refine EY (X:=(∃ b off,a1=some ⟨b,off,none⟩)/\(y2.1=x.1/\AS .u8 x.1)/\x.2.length=y2.2.n/\TL.length <= maxLen) (fun w1 g1=>by
  have o1:=(g1.own _ (Af (i:=1) rfl)).1;obtain ⟨e1,e2,e3⟩:=Ft.get o1 hy2 hx
  exact ⟨Ft.addr o1 (by omega),⟨e1,e2⟩,e3.len,(L8.base (show L8 (RO .u8) _ _ _ _ _ _ _ from o1)).maxn⟩) (fun ⟨⟨b1,o1,e1⟩,⟨hyx,hfx⟩,hxl,hTm⟩=>?_)
 simp only [maxLen] at hTm;subst e1;have hLk:=hT.each x hxm;have hLlen:=hLk.len;rw [hsp] at hLlen;have hmem:=hT.mem x hxm;repeat (first |refine Ai ?_ |refine Ab ?_ |refine Aq ?_ |refine Ad ?_ |refine Ao ?_)
 refine BE (Bs (sz:=2) Aa rfl rfl rfl rfl rfl rfl rfl (j:=i2) rfl hi2') ?_
 refine BR Aa (vs:=[.int .u8 y2.1,y2.2.v]) rfl rfl rfl (fun w' hw j u hu=>by
  rw [Addr.add_lit]
  exact Ft.cell (hw.own _ (Af (i:=1) rfl)).1 hy2 hu) ?_
 refine AY Aa rfl (fun b21 hb21=>?_);repeat (first |refine Ai ?_ |refine Ab ?_ |refine Ag ?_ |refine Ae Aa rfl ?_ |refine An Aa 0 rfl rfl rfl ?_ |refine Ax Aa 0 rfl rfl rfl rfl rfl rfl ?_)
 refine FK (ι:=Unit) (fun _=>True) (fun _=>[(11,.pointer (some ⟨b11,0,none⟩)),(12,AF pb),(13,.int .u64 G),(14,.int .u64 s.inc),(19,.map (some bm)),(21,.pointer (some ⟨b21,0,none⟩)),(35,.slice (some ⟨ab,off,none⟩) n5 c5),(36,.int .i64 (n5:Int)),(37,.int .i64 (i:Int)),(127,.slice (some ⟨b1,o1,none⟩) TL.length c1),(128,.int .i64 (TL.length:Int)),(129,.int .i64 (i2:Int)),(169,.bool false)])
  (fun _=>.blk b21 (.cells ⟨[.int .u8 y2.1,y2.2.v]⟩ 61 (0,0)) true::.blk bm (Cb .u64 M c) true::.rep (fun w=>(Ft .u8 (some ⟨b1,o1,none⟩) TL.length c1 y1 TL).at_ w Fv (.bool true)) Fv false::(Mi pb sb xb s' ql last (now + y.la) qa qc I1 I2 Gq ++ [.blk b11 (.cells ⟨[.int .i64 f,.int .i64 m,.int .i64 p,.int .i64 q]⟩ 28 (0,0)) true])) ?_ ?_
 ·rcases hT.kind x hxm with ⟨hk,ho,hxe⟩ |⟨hk,ho⟩
  ·have hk1:y2.1=1:=hyx.trans hk
   have hn0:y2.2.n=0:=by rw [<-hxl,hxe];rfl
   refine Co 136 (v':=.bool true) rfl (congrArg Value.bool (decide_eq_true hk1)) ?_;repeat (first |refine Ae Aa rfl ?_ |refine An Aa 3 rfl rfl rfl ?_)
   refine Be (v:=.bool false) rfl Tryz.call12 (fun w1 g1=>by
    rw [<-ho,<-eto]
    exact GH (g1.own _ (Af (i:=4) rfl)).1) ?_
   repeat (first |refine Ae Aa rfl ?_ |refine An Aa 0 rfl rfl rfl ?_)
   refine Co 149 (v':=.bool false) rfl (congrArg Value.bool (decide_eq_false (by omega))) ?_;repeat (first |refine Ae Aa rfl ?_ |refine An Aa 0 rfl rfl rfl ?_)
   refine Co 153 (v':=.bool false) rfl (congrArg Value.bool (decide_eq_false (by omega))) ?_;repeat (first |refine Ae Aa rfl ?_ |refine Bn rfl rfl rfl ?_ |refine An Aa 0 rfl rfl rfl ?_)
   refine An Aa 7 rfl rfl rfl ?_;repeat (first |refine Ag ?_ |refine Ae Aa rfl ?_)
   exact ⟨(),trivial,(by rw [show false=decide (p < (y2.2.n:Int)) from (decide_eq_false (by omega)).symm];repeat (first |exact As.nil |refine As.cons rfl ?_)),fun w' hw=>hw⟩
  ·have hk3:y2.1=3:=hyx.trans hk;refine Co 136 (v':=.bool false) rfl (congrArg Value.bool (decide_eq_false (by omega))) ?_;repeat (first |refine Ae Aa rfl ?_ |refine Bn rfl rfl rfl ?_ |refine An Aa 0 rfl rfl rfl ?_)
   refine Co 153 (v':=.bool true) rfl (congrArg Value.bool (decide_eq_true hk3)) ?_;repeat (first |refine Ae Aa rfl ?_ |refine An Aa 3 rfl rfl rfl ?_)
   refine Be (v:=.bool true) rfl Tryz.call12 (fun w1 g1=>by
    rw [<-ho,<-eto]
    exact GH (g1.own _ (Af (i:=4) rfl)).1) ?_
   repeat (first |refine Ae Aa rfl ?_ |refine An Aa 0 rfl rfl rfl ?_)
   refine An Aa 7 rfl rfl rfl ?_;repeat (first |refine Ag ?_ |refine Ae Aa rfl ?_)
   exact ⟨(),trivial,(by rw [show false=decide (p < (y2.2.n:Int)) from (decide_eq_false (by omega)).symm];repeat (first |exact As.nil |refine As.cons rfl ?_)),fun w' hw=>hw⟩
 intro _ _;skip;refine AG rfl ?_;repeat (first |refine Ai ?_ |refine Ab ?_ |refine Aq ?_ |refine Ag ?_ |refine Ad ?_ |refine Ao ?_ |refine Ae Aa rfl ?_ |refine An Aa 0 rfl rfl rfl ?_)
 refine AM (ι:=Nat × List ME × Nat) (fun r=>[(11,.pointer (some ⟨b11,0,none⟩)),(12,AF pb),(13,.int .u64 G),(14,.int .u64 s.inc),(19,.map (some bm)),(21,.pointer (some ⟨b21,0,none⟩)),(22,.int .i64 (D3 z (x.2.take r.1))),(35,.slice (some ⟨ab,off,none⟩) n5 c5),(36,.int .i64 (n5:Int)),(37,.int .i64 (i:Int)),(127,.slice (some ⟨b1,o1,none⟩) TL.length c1),(128,.int .i64 (TL.length:Int)),(129,.int .i64 (i2:Int)),(171,.slice y2.2.a y2.2.n y2.2.c),(172,.int .i64 (y2.2.n:Int)),(173,.int .i64 (r.1:Int))])
  (fun r=>.blk bm (Cb .u64 r.2.1 r.2.2) true::.blk b21 (.cells ⟨[.int .u8 y2.1,y2.2.v]⟩ 61 (0,0)) true::.rep (fun w=>(Ft .u8 (some ⟨b1,o1,none⟩) TL.length c1 y1 TL).at_ w Fv (.bool true)) Fv false::(Mi pb sb xb s' ql last (now + y.la) qa qc I1 I2 Gq ++ [.blk b11 (.cells ⟨[.int .i64 f,.int .i64 m,.int .i64 p,.int .i64 q]⟩ 28 (0,0)) true]))
  (fun r=>r.1 <= x.2.length/\∀ n,n ∉ (TL.take i2).flatMap (·.2)->n ∉ x.2.take r.1->Dz r.2.1 n=none) (fun r=>x.2.length - r.1) (0,M,c) ⟨Nat.zero_le _,fun n h _=>hM n h⟩ (by repeat (first |exact As.nil |refine As.cons rfl ?_)) (fun w' hw=>(hw.pm [1,0,2,3,4,5,6,7] rfl rfl rfl).less (by repeat (first |exact Au.nil |refine Au.keep ?_))) ?_
 rintro ⟨j,M3,c3⟩ ⟨hj,hM3⟩;dsimp only at hj hM3 ⊢;repeat (first |refine Ai ?_ |refine Ab ?_ |refine Ag ?_ |refine Ae Aa rfl ?_)
 refine Ak rfl (fun hlt3=>?_) (fun hge3=>?_);rotate_left
 ·have hje:j=x.2.length:=by omega
  subst hje;rw [List.take_length];repeat (first |refine Ai ?_ |refine Ab ?_ |refine Ad ?_ |refine AB ?_ |refine Al ?_ |refine AH ?_ |refine Ae Aa rfl ?_ |refine An Aa 1 rfl rfl rfl ?_)
  refine FK (ι:=Unit) (fun _=>True) (fun _=>[(11,.pointer (some ⟨b11,0,none⟩)),(12,AF pb),(13,.int .u64 G),(14,.int .u64 s.inc),(19,.map (some bm)),(35,.slice (some ⟨ab,off,none⟩) n5 c5),(36,.int .i64 (n5:Int)),(37,.int .i64 (i:Int)),(127,.slice (some ⟨b1,o1,none⟩) TL.length c1),(128,.int .i64 (TL.length:Int)),(129,.int .i64 (i2:Int)),(215,.bool false)])
   (fun _=>.blk bm (Cb .u64 M3 c3) true::.blk b21 (.cells ⟨[.int .u8 y2.1,y2.2.v]⟩ 61 (0,0)) true::.rep (fun w=>(Ft .u8 (some ⟨b1,o1,none⟩) TL.length c1 y1 TL).at_ w Fv (.bool true)) Fv false::(Mi pb sb xb s' ql last (now + y.la) qa qc I1 I2 Gq ++ [.blk b11 (.cells ⟨[.int .i64 f,.int .i64 m,.int .i64 p,.int .i64 q]⟩ 28 (0,0)) true])) ?_ ?_
  ·refine BI rfl rfl (fun h1=>?_) (fun h1=>?_)
   ·have hs6:=hLk.sum (by omega);repeat (first |refine Ag ?_ |refine Ae Aa rfl ?_)
    exact ⟨(),trivial,(by rw [show false=decide ((60000:Int) < D3 z x.2) from (decide_eq_false (by omega)).symm];repeat (first |exact As.nil |refine As.cons rfl ?_)),fun w' hw=>hw⟩
   ·repeat (first |refine Ag ?_ |refine Ae Aa rfl ?_ |refine Bn rfl rfl rfl ?_)
    exact ⟨(),trivial,(by repeat (first |exact As.nil |refine As.cons rfl ?_)),fun w' hw=>hw⟩
  intro _ _;skip;refine AG rfl ?_;repeat (first |refine Ab ?_ |refine Ag ?_ |refine Ad ?_ |refine Am ?_ |refine Ao ?_ |refine AD Aa rfl (by omega) ?_ |refine Ae Aa rfl ?_)
  refine ⟨(i2 + 1,M3,c3),⟨hi2',fun n hn=>?_⟩,(by repeat (first |exact As.nil |refine As.cons rfl ?_)),fun w' hw=>hw.less (by repeat (first |exact Au.nil |refine Au.keep ?_ |refine Au.dropB (by first |assumption |omega) ?_)),by show TL.length - (i2 + 1) < TL.length - i2;omega⟩;dsimp only at hn;rw [Pd hx] at hn;exact hM3 n (fun h=>hn (List.mem_append.2 (.inl h))) (fun h=>hn (List.mem_append.2 (.inr (by rw [List.take_length] at h;exact h))))
 have hj':j < x.2.length:=by omega
 obtain ⟨hnq,hnl⟩:=hmem _ (List.getElem_mem hj');obtain ⟨k,hk,hkn,hmin⟩:=SS hqb.srt hnq;obtain ⟨hnd1,hnd2⟩:=W4 hT.nd hx hj';have hget:=hM3 _ hnd1 hnd2
 have hzk:z x.2[j]=ql[k].2:=by
  have:=hct.zq ql[k] (List.getElem_mem hk);rw [hkn] at this;exact this
 have hsz:=hqb.sz ql[k] (List.getElem_mem hk)
 have hsum:0 <= D3 z (x.2.take j)/\D3 z (x.2.take j) <= 4112 * 64:=by
  refine ⟨N9 hct.z0 _,?_⟩
  have h1:=Oa (z:=z) (l:=x.2.take j) fun n hn=>by
   obtain ⟨w,hw,e⟩:=List.mem_map.1 (hmem n (List.mem_of_mem_take hn)).1;have h2:=hct.zq w hw;rw [e] at h2;have:=hqb.sz w hw;omega
  have h3:(x.2.take j).length <= 64:=by rw [List.length_take];omega
  omega
 have hstep:D3 z (x.2.take (j + 1))=D3 z (x.2.take j) + ql[k].2:=by
  rw [List.take_succ_eq_append_getElem hj',IS,<-hzk];show _ + (z x.2[j] + 0)=_;omega
 have hok:=hqb.ok (by omega)
 refine EY (X:=(∃ b off,y2.2.a=some ⟨b,off,none⟩)/\∃ b off,qa=some ⟨b,off,none⟩) (fun w1 g1=>by
  have o1:=(Ft.get (g1.own _ (Af (i:=2) rfl)).1 hy2 hx).2.2;obtain ⟨b,off,_,e,_⟩:=o1.get_ hj';obtain ⟨b2,off2,_,e2,_⟩:=(IV (g1.own _ (Af (i:=6) rfl)).1 hok).get_ hk
  exact ⟨⟨b,off,e⟩,⟨b2,off2,e2⟩⟩) (fun ⟨⟨b3,o3,e3⟩,⟨b4,o4,e4⟩⟩=>?_)
 subst e4;obtain ⟨n,hn⟩:∃ n,n=x.2[j]:=⟨_,rfl⟩;rw [<-hn] at hkn hget hzk hnl hmin;rw [e3];repeat (first |refine Ai ?_ |refine Ab ?_ |refine Aq ?_ |refine Ad ?_ |refine Ao ?_)
 refine BE (Ay Aa rfl rfl rfl rfl rfl rfl rfl (j:=j) rfl (by omega)) ?_
 refine Bh Aa (v:=.int .u64 n) rfl rfl (fun w' hw=>by
  have o1:=(Ft.get (hw.own _ (Af (i:=2) rfl)).1 hy2 hx).2.2;rw [e3] at o1;rw [hn]
  exact O9 o1 hj') ?_
 refine AY Aa rfl (fun b24 hb24=>?_);repeat (first |refine Ai ?_ |refine Ab ?_ |refine Ag ?_ |refine Ae Aa rfl ?_ |refine An Aa 4 rfl rfl rfl ?_ |refine Ax Aa 0 rfl rfl rfl rfl rfl rfl ?_)
 refine BE (L9 rfl rfl) ?_;refine Be (v:=.int .i64 (k:Int)) rfl Tryz.call19 (fun w1 g1=>Vr (IV (g1.own _ (Af (i:=7) rfl)).1 hok) (g1.own _ (Af (i:=0) rfl)) hk hkn hmin) ?_;repeat (first |refine Ai ?_ |refine Ab ?_ |refine Ag ?_ |refine Ae Aa rfl ?_ |refine An Aa 0 rfl rfl rfl ?_)
 refine Co 185 (v':=.bool false) rfl (congrArg Value.bool (decide_eq_false (by omega))) ?_;skip
 refine BE ((Il Aa rfl rfl rfl rfl rfl rfl rfl rfl (fun w' hw=>hw.own (.blk bm (Cb .u64 M3 c3) true) (Af (i:=1) rfl))).eq (v':=.bool false) (by
  have hg2:DR n M3 0=none:=by
   unfold Dz at hget
   cases hm:DR n M3 0 with
   |none=>rfl
   |some p=>rw [hm] at hget;cases hget
  simp only [hg2]
  rfl)) ?_
 repeat (first |refine Ag ?_ |refine Ae Aa rfl ?_ |refine An Aa 0 rfl rfl rfl ?_)
 refine Ak rfl (fun h=>absurd h (by omega)) (fun _=>?_);repeat (first |refine Ai ?_ |refine Ab ?_ |refine Ad ?_ |refine Ao ?_ |refine Ae Aa rfl ?_ |refine An Aa 0 rfl rfl rfl ?_)
 refine KB Aa 1 rfl rfl rfl rfl rfl rfl rfl rfl rfl rfl ?_;repeat (first |refine Ag ?_ |refine Ae Aa rfl ?_ |refine Ap ?_ |refine An Aa 4 rfl rfl rfl ?_)
 refine BE (Bs (sz:=2) Aa rfl rfl rfl rfl rfl rfl rfl rfl (j:=k) hk) ?_;repeat (first |refine Ae Aa rfl ?_)
 refine Bh Aa (v:=.int .i64 ql[k].2) rfl rfl (fun w' hw=>by
  have:=DF (IV (hw.own _ (Af (i:=7) rfl)).1 hok) hk 1 _ rfl;rw [Addr.add_lit] at this
  exact this) ?_
 repeat (first |refine Ab ?_ |refine Ag ?_ |refine Ad ?_ |refine Am ?_ |refine AD Aa rfl (by omega) ?_ |refine Ae Aa rfl ?_)
 refine ⟨(j + 1,(CV M3 n (.bool true) c3).1,(CV M3 n (.bool true) c3).2),⟨hj',fun n' h1 h2=>?_⟩,(by dsimp only;rw [hstep];repeat (first |exact As.nil |refine As.cons rfl ?_)),fun w' hw=>hw.less (by repeat (first |exact Au.nil |refine Au.keep ?_ |refine Au.dropB (by first |assumption |omega) ?_)),by show x.2.length - (j + 1) < x.2.length - j;omega⟩;dsimp only at h2 ⊢;rw [List.take_succ_eq_append_getElem hj',<-hn] at h2;rw [Gl];rw [if_neg (fun e=>h2 (List.mem_append.2 (.inr (by rw [e];exact List.mem_singleton.2 rfl))))];exact hM3 n' h1 fun h=>h2 (List.mem_append.2 (.inl h))
end Go.Proofs.YtidhpofcofknhaaGreat
