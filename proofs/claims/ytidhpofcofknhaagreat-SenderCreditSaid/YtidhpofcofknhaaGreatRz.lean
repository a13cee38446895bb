/-
  The document's board: rising lists of numbers; who is in some runs; a wait. Conditions: each theorem's own. The document's board, read: Tries, Has, All; who is in some runs. Conditions: each theorem's own. The document's board as an object; Send. Conditions: each theorem's own. The document's board: Send. Conditions: each theorem's own. The document's board: Take. Conditions: each theorem's own. The document's board: who is due, plain. Conditions: each theorem's own. The document's board: Due. Conditions: each theorem's own. The document's board beside a board: steps; the law's like. Conditions: each theorem's own.
  Conditions: each theorem's own.
-/
import Derived.Test.YtidhpofcofknhaaGreatAe
namespace Go.Proofs.YtidhpofcofknhaaGreat
open Go Go.RowKit
set_option linter.unusedVariables false
theorem K5 {x:Int}:∀ {i:Nat} {l:List Int},(∀ p ∈ l.take i,p < x)->(∀ p,l[i]? =some p->x < p)->i <= l.length->Ga x l=l.take i ++ x::l.drop i
 |0,[],_,_,_=>rfl
 |0,y::l,_,h2,_=>by
  unfold Ga;rw [if_pos (h2 y rfl)];rfl
 |i + 1,[],_,_,h3=>absurd h3 (Nat.not_succ_le_zero _)
 |i + 1,y::l,h1,h2,h3=>by
  have hy:=h1 y (by rw [List.take_succ_cons];exact List.mem_cons_self);unfold Ga;rw [if_neg (by omega),if_neg (by omega),K5 (i:=i) (fun p hp=>h1 p (by rw [List.take_succ_cons];exact List.mem_cons_of_mem _ hp)) (fun p hp=>h2 p (by rw [List.getElem?_cons_succ];exact hp)) (by simpa using h3)];rfl
theorem J1 {x:Int}:∀ {i:Nat} {l:List Int},(∀ p ∈ l.take i,p < x)->l[i]? =some x->Ga x l=l
 |0,[],_,h2=>by cases h2
 |0,y::l,_,h2=>by
  cases h2;unfold Ga;rw [if_neg (by omega),if_pos rfl]
 |i + 1,[],_,h2=>by cases h2
 |i + 1,y::l,h1,h2=>by
  have hy:=h1 y (by rw [List.take_succ_cons];exact List.mem_cons_self);unfold Ga;rw [if_neg (by omega),if_neg (by omega),J1 (i:=i) (fun p hp=>h1 p (by rw [List.take_succ_cons];exact List.mem_cons_of_mem _ hp)) (by rw [List.getElem?_cons_succ] at h2;exact h2)]
theorem Nh (l:List Int) (x:Int):Bt (l ++ [x])=Ga x (Bt l):=by
 unfold Bt;rw [List.foldl_append];rfl
theorem HB {l:List Int} {i:Nat} (h:i < l.length):(Bj l)[i]? =some (.int .u64 l[i]):=by
 show (l.map (Value.int .u64))[i]? =_;rw [List.getElem?_map,List.getElem?_eq_getElem h];rfl
theorem Ej {l:List Int} {u:Value} (hu:u ∈ Bj l):u.oneCell'=true:=by
 obtain ⟨z,_,rfl⟩:=List.mem_map.1 hu;rfl
theorem LD {w:World} {A:Nat->Prop} {a:Option Addr} {n c:Nat} {l:List Int} (h:Br (A8 .u64) w A a n c l) {i:Nat} (hi:i < l.length):∃ b off,a=some ⟨b,off,none⟩/\∀ w',Below w.heap.size w w'->w'.cell? ⟨b,off + i,none⟩=some (.int .u64 l[i]):=by
 obtain ⟨b,off,cs,e,hlt,hat,_,hce,_⟩:=h.get_ hi;obtain ⟨rfl,_⟩:=hat
 exact ⟨b,off,e,fun w' hb=>by
  have:=hce 0 _ rfl;rw [show (A8 .u64).sz=1 from rfl,Nat.mul_one,Nat.add_zero] at this
  exact (hb.cell (p:=⟨b,off + i,none⟩) hlt).trans this⟩
structure XP where
 j:Nat
 a:Option Addr
 c:Nat
set_option maxHeartbeats 4000000 in
theorem FR {a:Option Addr} {n c:Nat} {l:List Int} {A:Nat->Prop} (w:World) (hx:Br (A8 .u64) w A a n c l) (hn:n <= 1000000):Calls Tryz.prog 71 #[.slice a n c] w fun e w'=>∃ a' c',e= .returned (.slice a' (Bt l).length c')/\Below w.heap.size w w'/\w'.ownsRow w.heap.size 32 1 (.slice a' (Bt l).length c') (Bt l).length (Bj (Bt l)):=by
 have hl:=hx.len;refine BZ Tryz.func71 rfl rfl (Hp.refl w) ?_;repeat (first |refine Ai ?_ |refine Ab ?_ |refine Aq ?_ |refine Ag ?_ |refine Ae Aa rfl ?_)
 refine AM (ι:=XP) (fun i=>[(8,.slice a n c),(9,.int .i64 (n:Int)),(10,.int .i64 (i.j:Int)),(3,.slice i.a (Bt (l.take i.j)).length i.c)])
  (fun i=>[.row w.heap.size (.slice i.a (Bt (l.take i.j)).length i.c) 32 1 (Bt (l.take i.j)).length (Bj (Bt (l.take i.j)))])
  (fun i=>i.j <= n/\(Bt (l.take i.j)).length <= i.c) (fun i=>n - i.j) ⟨0,none,0⟩ ⟨Nat.zero_le _,Nat.zero_le _⟩ (by repeat (first |exact As.nil |refine As.cons rfl ?_)) (fun w' hw=>hw.nilRow _ _) ?_
 rintro ⟨j,a1,c1⟩ ⟨hj,hc1⟩;dsimp only at hj hc1 ⊢;have hcl:=@Dj (l.take j);rw [List.length_take] at hcl;repeat (first |refine Ai ?_ |refine Ab ?_ |refine Ag ?_ |refine Ae Aa rfl ?_)
 refine Ak rfl (fun hlt=>?_) (fun hge=>?_);rotate_left
 ·repeat (first |refine Ai ?_ |refine Ab ?_ |refine Ag ?_ |refine Ad ?_ |refine AB ?_ |refine Al ?_ |refine AC ?_ |refine AH ?_ |refine Ae Aa rfl ?_)
  have e:j=n:=by omega
  refine AZ rfl rfl (fun w' hw=>?_);rw [show l.take j=l by rw [e,<-hl,List.take_length]] at hw ⊢;exact ⟨_,_,rfl,hw.below (by repeat (first |exact Ar |refine Bv hw 0 rfl (Nat.le_refl _) ?_)),hw.own _ (Af (i:=0) rfl)⟩
 have hjl:j < l.length:=by omega
 obtain ⟨ab,off,rfl,hcell⟩:=LD hx hjl
 have hs:Bt (l.take (j + 1))=Ga l[j] (Bt (l.take j)):=by rw [List.take_succ_eq_append_getElem hjl,Nh]
 obtain ⟨x,hxe⟩:∃ x,x=l[j]:=⟨_,rfl⟩;rw [<-hxe] at hcell hs;obtain ⟨L,hL⟩:∃ L,L=Bt (l.take j):=⟨_,rfl⟩;rw [<-hL] at hs hcl hc1 ⊢;repeat (first |refine Ai ?_ |refine Ab ?_ |refine Aq ?_ |refine Ad ?_ |refine Ao ?_)
 refine BE (Bs (sz:=1) Aa rfl rfl rfl rfl rfl rfl rfl rfl (j:=j) (by omega)) ?_;skip;refine Bh Aa (v:=.int .u64 x) rfl rfl (fun w' hw=>by rw [Nat.mul_one];exact hcell w' (hw.below (by repeat (first |exact Ar |refine Bv hw 0 rfl (Nat.le_refl _) ?_)))) ?_;repeat (first |refine Ai ?_ |refine Ab ?_ |refine Ag ?_ |refine Ae Aa rfl ?_)
 refine BN (ι:=Nat) (fun i=>i <= L.length/\(∀ p ∈ L.take i,p < x)/\∀ p,L[i]? =some p->x <= p) (fun i=>[(8,.slice (some ⟨ab,off,none⟩) n c),(9,.int .i64 (n:Int)),(10,.int .i64 (j:Int)),(3,.slice a1 L.length c1),(5,.int .u64 x),(6,.int .i64 (i:Int))])
  (fun i=>[.row w.heap.size (.slice a1 L.length c1) 32 1 L.length (Bj L)]) ?_ ?_
 ·refine Aq ?_
  refine AM (ι:=Nat) (fun i=>[(8,.slice (some ⟨ab,off,none⟩) n c),(9,.int .i64 (n:Int)),(10,.int .i64 (j:Int)),(3,.slice a1 L.length c1),(5,.int .u64 x),(6,.int .i64 (i:Int))])
   (fun i=>[.row w.heap.size (.slice a1 L.length c1) 32 1 L.length (Bj L)]) (fun i=>i <= L.length/\∀ p ∈ L.take i,p < x) (fun i=>L.length - i) 0 ⟨Nat.zero_le _,by simp⟩ (by repeat (first |exact As.nil |refine As.cons rfl ?_)) (fun w' hw=>hw) ?_
  rintro i ⟨hi,hb⟩;repeat (first |refine Ai ?_ |refine Ab ?_ |refine Ae Aa rfl ?_)
  refine BI rfl rfl (fun h0=>?_) (fun h0=>?_)
  ·have hi':i < L.length:=by omega
   have e1:=HB hi';refine Fi 0 rfl (by omega) (fun bS hbS=>?_);subst hbS;repeat (first |refine Ae Aa rfl ?_)
   refine BE (Bs (sz:=1) Aa rfl rfl rfl rfl rfl rfl rfl rfl (j:=i) (by omega)) ?_;skip;refine Bh Aa (v:=.int .u64 L[i]) rfl rfl (fun w' hw=>by rw [Nat.zero_add,Nat.mul_one];exact Cn (hw.own _ (Af (i:=0) rfl)) (by omega) e1) ?_;repeat (first |refine Ag ?_ |refine Ae Aa rfl ?_)
   refine Ak rfl (fun h3=>?_) (fun h3=>?_)
   ·repeat (first |refine Aq ?_ |refine Ag ?_ |refine Ad ?_ |refine Am ?_ |refine Ao ?_ |refine AD Aa rfl (by omega) ?_ |refine Ae Aa rfl ?_ |refine Ap ?_)
    exact ⟨i + 1,⟨by omega,fun p hp=>by
     rw [List.take_succ_eq_append_getElem hi',List.mem_append,List.mem_singleton] at hp
     rcases hp with hp |rfl
     ·exact hb p hp
     ·exact h3⟩,by repeat (first |exact As.nil |refine As.cons rfl ?_),fun w' hw=>hw,by omega⟩
   ·repeat (first |refine Ad ?_ |refine AB ?_ |refine Al ?_ |refine AH ?_)
    exact ⟨i,⟨hi,hb,fun p hp=>by
     rw [List.getElem?_eq_getElem hi'] at hp;cases hp
     omega⟩,by repeat (first |exact As.nil |refine As.cons rfl ?_),fun w' hw=>hw⟩
  ·have e:i=L.length:=by omega
   subst e;repeat (first |refine Ag ?_ |refine Ae Aa rfl ?_ |refine Bn rfl rfl rfl ?_)
   refine AG rfl ?_;repeat (first |refine Ad ?_ |refine AB ?_ |refine Al ?_ |refine AH ?_)
   exact ⟨L.length,⟨Nat.le_refl _,hb,fun p hp=>by rw [List.getElem?_eq_none (Nat.le_refl _)] at hp;cases hp⟩,by repeat (first |exact As.nil |refine As.cons rfl ?_),fun w' hw=>hw⟩
 rintro i ⟨hi,hb1,hb2⟩
 have hnx:Bt (l.take (j + 1))=(if L[i]? =some x then L else L.take i ++ x::L.drop i):=by
  rw [hs];split
  ·rename_i h9;exact J1 hb1 h9
  ·rename_i h9
   exact K5 hb1 (fun p hp=>by
    have:=hb2 p hp;have:p ≠ x:=fun e=>h9 (e ▸ hp)
    omega) hi
 have hgo:∀ (hne:L[i]? ≠ some x),Bt (l.take (j + 1))=L.take i ++ x::L.drop i:=fun hne=>by rw [hnx,if_neg hne]
 have hback:L[i]? =some x->Bt (l.take (j + 1))=L:=fun h9=>by rw [hnx,if_pos h9]
 have htl:(L.take i).length=i:=by rw [List.length_take];omega
 have hdl:(L.drop i).length=L.length - i:=List.length_drop
 have hall:(L.take i ++ x::L.drop i).length=L.length + 1:=by simp [htl,hdl];omega
 repeat (first |refine Ai ?_ |refine Ab ?_ |refine Ae Aa rfl ?_)
 refine FK (ι:=Bool) (fun b=>b=true ↔ L[i]? =some x) (fun b=>[(8,.slice (some ⟨ab,off,none⟩) n c),(9,.int .i64 (n:Int)),(10,.int .i64 (j:Int)),(3,.slice a1 L.length c1),(5,.int .u64 x),(6,.int .i64 (i:Int)),(39,.bool b)])
  (fun _=>[.row w.heap.size (.slice a1 L.length c1) 32 1 L.length (Bj L)]) ?_ ?_
 ·refine BI rfl rfl (fun h0=>?_) (fun h0=>?_)
  ·have hi':i < L.length:=by omega
   have e1:=HB hi';refine Fi 0 rfl (by omega) (fun bS hbS=>?_);subst hbS;repeat (first |refine Ae Aa rfl ?_)
   refine BE (Bs (sz:=1) Aa rfl rfl rfl rfl rfl rfl rfl rfl (j:=i) (by omega)) ?_;skip;refine Bh Aa (v:=.int .u64 L[i]) rfl rfl (fun w' hw=>by rw [Nat.zero_add,Nat.mul_one];exact Cn (hw.own _ (Af (i:=0) rfl)) (by omega) e1) ?_;repeat (first |refine Ag ?_ |refine Ae Aa rfl ?_)
   exact ⟨decide (L[i]=x),by rw [decide_eq_true_iff,List.getElem?_eq_getElem hi',Option.some.injEq],by repeat (first |exact As.nil |refine As.cons rfl ?_),fun w' hw=>hw⟩
  ·repeat (first |refine Ag ?_ |refine Ae Aa rfl ?_ |refine Bn rfl rfl rfl ?_)
   exact ⟨false,⟨(fun h=>by cases h),fun h=>by rw [List.getElem?_eq_none (by omega)] at h;cases h⟩,by repeat (first |exact As.nil |refine As.cons rfl ?_),fun w' hw=>hw⟩
 intro b hb
 cases b with
 |true=>
  refine AX rfl ?_;repeat (first |refine Ab ?_ |refine Ag ?_ |refine Ad ?_ |refine AB ?_ |refine Al ?_ |refine AH ?_ |refine AD Aa rfl (by omega) ?_ |refine Ae Aa rfl ?_)
  have h9:=hback (hb.1 rfl);refine ⟨⟨j + 1,a1,c1⟩,⟨by show j + 1 <= n;omega,?_⟩,?_,fun w' hw=>?_,by show n - (j + 1) < n - j;omega⟩
  all_goals dsimp only;rw [h9]
  ·exact hc1
  ·repeat (first |exact As.nil |refine As.cons rfl ?_)
  ·exact hw
 |false=>
  refine AG rfl ?_;have h9:=hgo (fun h=>by have:=hb.2 h;cases this);repeat (first |refine Ai ?_ |refine Ab ?_ |refine Ad ?_ |refine Ao ?_ |refine Ae Aa rfl ?_)
  refine AO Aa rfl rfl rfl rfl rfl rfl rfl rfl rfl rfl rfl rfl (fun b41 hb41=>?_);refine B0 (fun w' h=>Hp.closeRow (pre:=[]) (n:=1) (c:=1) (sz:=1) (cs:=[.int .u64 x]) h hb41 (by decide) (by decide) rfl) ?_;repeat (first |refine Ae Aa rfl ?_)
  refine BE (GA Aa rfl rfl rfl rfl rfl rfl rfl (L:=i) rfl hi hc1) ?_;skip
  refine AT (ty:=0) Aa 0 (news:=Bj (L.drop i)) rfl rfl rfl rfl rfl rfl rfl rfl rfl (by decide) (fun w' hw=>by
   have:=(Sl.of_own (hw.own _ (Af (i:=1) rfl))).drop (k:=i) hi hc1;rw [show Bj (L.drop i)=(Bj L).drop (i * 1) by rw [Nat.mul_one];exact List.map_drop]
   exact this) (fun u hu=>Ej hu) (by simp only [maxLen];omega) (by show (_ + _) * 8 <= _;omega) rfl (fun A1 C1 hc2 hd2=>⟨_,rfl,?_⟩)
  rw [show List.take (1 * 1) [Value.int .u64 x] ++ Bj (L.drop i)=Bj (x::L.drop i) from rfl];repeat (first |refine Ag ?_ |refine Ae Aa rfl ?_ |refine Ap ?_)
  refine AO Aa rfl rfl rfl rfl rfl rfl rfl rfl rfl rfl rfl rfl (fun b46 hb46=>?_);refine B0 (fun w' h=>Hp.closeRow (pre:=[]) (n:=0) (c:=0) (sz:=1) (cs:=[]) h hb46 (by decide) (by decide) rfl) ?_;repeat (first |refine Ae Aa rfl ?_)
  refine BE (EH Aa rfl rfl rfl rfl rfl rfl (H:=i) rfl (by omega)) ?_;skip
  refine AT (ty:=0) Aa 0 (news:=Bj (L.take i)) rfl rfl rfl rfl rfl rfl rfl rfl rfl (by decide) (fun w' hw=>by
   have:=(Sl.of_own (hw.own _ (Af (i:=2) rfl))).take (k:=i) hi;rw [show Bj (L.take i)=(Bj L).take (i * 1) by rw [Nat.mul_one];exact List.map_take]
   exact this) (fun u hu=>Ej hu) (by simp only [maxLen];omega) (by show (_ + _) * 8 <= _;omega) rfl (fun A2 C2 hc3 hd3=>⟨_,rfl,?_⟩)
  rw [show List.take (0 * 1) ([]:List Value) ++ Bj (L.take i)=Bj (L.take i) from rfl,Nat.zero_add];repeat (first |refine Ae Aa rfl ?_)
  refine AT (ty:=0) Aa 0 (news:=Bj (x::L.drop i)) rfl rfl rfl rfl rfl rfl rfl rfl rfl (by decide) (fun w' hw=>Sl.of_own (hw.own _ (Af (i:=1) rfl))) (fun u hu=>Ej hu) (by simp only [maxLen];omega) (by show (_ + _) * 8 <= _;omega) rfl (fun A3 C3 hc4 hd4=>⟨_,rfl,?_⟩);rw [show Bj (L.take i) ++ Bj (x::L.drop i)=Bj (L.take i ++ x::L.drop i) from (List.map_append).symm,show i + (1 + (L.length - i))=L.length + 1 by omega];repeat (first |refine Ab ?_ |refine Ag ?_ |refine Ad ?_ |refine Am ?_ |refine AD Aa rfl (by omega) ?_ |refine Ae Aa rfl ?_)
  refine ⟨⟨j + 1,A3,C3⟩,⟨by show j + 1 <= n;omega,?_⟩,?_,fun w' hw=>?_,by show n - (j + 1) < n - j;omega⟩
  all_goals dsimp only;rw [h9,hall]
  ·omega
  ·repeat (first |exact As.nil |refine As.cons rfl ?_)
  ·exact hw.less (by repeat (first |exact Au.nil |refine Au.keep ?_ |refine Au.dropW (Nat.le_refl _) ?_))
abbrev X7:Eh (Int × List Int × Int × Int):=C5 (A8 .u64) (C5 (Az (A8 .u64)) (C5 (A8 .i64) (A8 .i64)))
abbrev tG (g:BG):Int × List Int × Int × Int:=(g.id,g.L,g.tm,g.tries)
abbrev Mh (f m:Int) (a:Option Addr) (n c:Nat) (last:Int):Obj:=.cells ⟨[.int .i64 f,.int .i64 m,.slice a n c,.int .u64 last]⟩ 122 (0,0)
def Sh (xb:Nat) (f m last:Int) (gs:List BG) (a:Option Addr) (c:Nat):Vp:=
 ⟨fun w F _=>(w.heap[xb]? =some (Mh f m a gs.length c last)/\F xb)/\Br X7 w F a gs.length c (gs.map tG),
  fun {w w' F G v} ⟨⟨h1,h2⟩,h3⟩ hk=>⟨⟨((hk xb h2 (AU h1)).1).trans h1,(hk xb h2 (AU h1)).2⟩,h3.keep hk⟩⟩
theorem QW {w:World} {A:Nat->Prop} {a:Option Addr} {n c:Nat} {gs:List BG} (h:Br X7 w A a n c (gs.map tG)) {i:Nat} {g:BG} (hg:gs[i]? =some g):∃ ab off xa xc,a=some ⟨ab,off,none⟩/\Br (A8 .u64) w A xa g.L.length xc g.L/\∀ w',Below w.heap.size w w'->∀ j u,[Value.int .u64 g.id,.slice xa g.L.length xc,.int .i64 g.tm,.int .i64 g.tries][j]? =some u->w'.cell? ⟨ab,off + i * 4 + j,none⟩=some u:=by
 have hi:=(List.getElem?_eq_some_iff.1 hg).1;obtain ⟨ab,off,cs,e,hlt,hat,_,hce,_⟩:=h.get_ (i:=i) (by rw [List.length_map];exact hi);rw [List.getElem_map] at hat;rw [List.getElem?_eq_getElem hi] at hg;rw [Option.some.inj hg] at hat;obtain ⟨_,_,rfl,⟨rfl,_⟩,_,_,rfl,⟨xa,xn,xc,rfl,hz⟩,_,_,rfl,⟨rfl,_⟩,rfl,_⟩:=hat;obtain rfl:=hz.len;exact ⟨ab,off,xa,xc,e,hz,fun w' hb j u hu=>(hb.cell (p:=⟨ab,off + i * 4 + j,none⟩) hlt).trans (hce j u hu)⟩
section
variable {xb:Nat} {f m last:Int} {gs:List BG} {a:Option Addr} {c:Nat} {w:World} {A:Nat->Prop} {v:Value}
theorem Sh.cell (h:(Sh xb f m last gs a c).at_ w A v) {w':World} (hb:Below w.heap.size w w') {j:Nat} {u:Value} (hu:[Value.int .i64 f,.int .i64 m,.slice a gs.length c,.int .u64 last][j]? =some u):w'.cell? ⟨xb,0 + j,none⟩=some u:=
 Km ((hb.block xb (AU h.1.1)).trans h.1.1) hu
set_option maxHeartbeats 2000000 in
theorem Mw (h:(Sh xb f m last gs a c).at_ w A v) (hok:C7 last gs) (n:Int):Calls Tryz.prog 81 #[AF xb,.int .u64 n] w fun e w'=>e= .returned (.int .i64 (Hr gs n))/\Below w.heap.size w w':=by
 have hcn:=hok.cnt;refine BO Tryz.func81 rfl rfl (Hp.refl w) ?_;repeat (first |refine Ai ?_ |refine Ab ?_ |refine Ag ?_ |refine Ae Aa rfl ?_)
 refine Bh Aa (v:=.slice a gs.length c) rfl rfl (fun w' hw=>Sh.cell h (hw.below (by repeat (first |exact Ar))) (j:=2) rfl) ?_;repeat (first |refine Aq ?_ |refine Ag ?_ |refine Ae Aa rfl ?_)
 refine AM (ι:=Nat) (fun i=>[(1,.int .u64 n),(12,.slice a gs.length c),(13,.int .i64 (gs.length:Int)),(14,.int .i64 (i:Int))]) (fun _=>[]) (fun i=>i <= gs.length/\∀ g ∈ gs.take i,n ∉ g.L) (fun i=>gs.length - i) 0 ⟨Nat.zero_le _,by simp⟩ (by repeat (first |exact As.nil |refine As.cons rfl ?_)) (fun _ hw=>hw) ?_;rintro i ⟨hi,hno⟩;repeat (first |refine Ai ?_ |refine Ab ?_ |refine Ag ?_ |refine Ae Aa rfl ?_)
 refine Ak rfl (fun hlt=>?_) (fun hge=>?_);rotate_left
 ·repeat (first |refine Ai ?_ |refine Ab ?_ |refine Ag ?_ |refine Ad ?_ |refine AB ?_ |refine Al ?_ |refine AC ?_ |refine AH ?_ |refine Ae Aa rfl ?_)
  have hb:Hr gs n=0:=by
   unfold Hr
   rw [Cw.2 fun hn=>by
    obtain ⟨g,hg,hx⟩:=List.mem_flatMap.1 hn
    exact hno g (by rw [List.take_of_length_le (by omega)];exact hg) hx]
  exact AZ rfl rfl (fun w' hw=>⟨by rw [hb],hw.below (by repeat (first |exact Ar))⟩)
 obtain ⟨g,hg⟩:∃ g,gs[i]? =some g:=⟨_,List.getElem?_eq_getElem (by omega)⟩;have hgm:=List.mem_of_getElem? hg;obtain ⟨ab,off,xa,xc,rfl,hz,hce⟩:=QW h.2 hg
 have hgl:g.L.length <= 60000:=by
  have h1:=hok.len
  have h2:g.L.length <= (Aw gs).length:=(Fy (List.singleton_sublist.2 hgm)).length_le |> fun h=>by simpa [Aw] using h
  omega
 repeat (first |refine Ai ?_ |refine Ab ?_ |refine Aq ?_ |refine Ad ?_ |refine Ao ?_)
 refine BE (Bs (sz:=4) Aa rfl rfl rfl rfl rfl rfl rfl (j:=i) rfl (by omega)) ?_
 refine BR Aa (vs:=[.int .u64 g.id,.slice xa g.L.length xc,.int .i64 g.tm,.int .i64 g.tries]) rfl rfl rfl (fun w' hw jj u hu=>by
  rw [Addr.add_lit]
  exact hce w' (hw.below (by repeat (first |exact Ar))) jj u hu) ?_
 refine AY Aa rfl (fun b6 hb6=>?_);repeat (first |refine Ai ?_ |refine Ab ?_ |refine Ag ?_ |refine Ae Aa rfl ?_ |refine An Aa 0 rfl rfl rfl ?_ |refine Ax Aa 0 rfl rfl rfl rfl rfl rfl ?_)
 refine Ca ?_;refine BN (ι:=Unit) (fun _=>n ∉ g.L) (fun _=>[(1,.int .u64 n),(12,.slice (some ⟨ab,off,none⟩) gs.length c),(13,.int .i64 (gs.length:Int)),(14,.int .i64 (i:Int))]) (fun _=>[]) ?_ ?_
 ·refine Aq ?_;refine AM (ι:=Nat) (fun j=>[(1,.int .u64 n),(12,.slice (some ⟨ab,off,none⟩) gs.length c),(13,.int .i64 (gs.length:Int)),(14,.int .i64 (i:Int)),(6,.pointer (some ⟨b6,0,none⟩)),(19,.slice xa g.L.length xc),(20,.int .i64 (g.L.length:Int)),(21,.int .i64 (j:Int))]) (fun _=>[.blk b6 (.cells ⟨[.int .u64 g.id,.slice xa g.L.length xc,.int .i64 g.tm,.int .i64 g.tries]⟩ 146 (0,0)) true]) (fun j=>j <= g.L.length/\n ∉ g.L.take j) (fun j=>g.L.length - j) 0 ⟨Nat.zero_le _,by simp⟩ (by repeat (first |exact As.nil |refine As.cons rfl ?_)) (fun _ hw=>hw) ?_;rintro j ⟨hj,hnj⟩;repeat (first |refine Ai ?_ |refine Ab ?_ |refine Ag ?_ |refine Ae Aa rfl ?_)
  refine Ak rfl (fun hlt2=>?_) (fun hge2=>?_);rotate_left
  ·repeat (first |refine Ad ?_ |refine AB ?_ |refine Al ?_ |refine AH ?_)
   exact ⟨(),by rw [List.take_of_length_le (by omega)] at hnj;exact hnj,by repeat (first |exact As.nil |refine As.cons rfl ?_),fun w' hw=>hw.less (by repeat (first |exact Au.nil |refine Au.dropB (by first |assumption |omega) ?_))⟩
  have hjl:j < g.L.length:=by omega
  obtain ⟨lb,lo,rfl,hlc⟩:=LD hz hjl;repeat (first |refine Ai ?_ |refine Ab ?_ |refine Aq ?_ |refine Ad ?_ |refine Ao ?_)
  refine BE (Bs (sz:=1) Aa rfl rfl rfl rfl rfl rfl rfl (j:=j) rfl hjl) ?_;refine Bh Aa (v:=.int .u64 g.L[j]) rfl rfl (fun w' hw=>by rw [Nat.mul_one];exact hlc w' (hw.below (by repeat (first |exact Ar |refine AA (by first |assumption |omega) ?_)))) ?_;repeat (first |refine Ai ?_ |refine Ab ?_ |refine Ag ?_ |refine Ae Aa rfl ?_)
  refine Ak rfl (fun he=>?_) (fun he=>?_)
  ·repeat (first |refine Ai ?_ |refine Ab ?_ |refine Ag ?_ |refine BQ ?_ |refine AI ?_ |refine AC ?_ |refine Ae Aa rfl ?_ |refine An Aa 0 rfl rfl rfl ?_)
   refine AZ rfl rfl (fun w' hw=>⟨?_,hw.below (by repeat (first |exact Ar |refine AA (by first |assumption |omega) ?_))⟩);unfold Hr;rw [FI hok hgm (by rw [<-he];exact List.getElem_mem hjl)]
  ·repeat (first |refine Ab ?_ |refine Ag ?_ |refine Ad ?_ |refine Am ?_ |refine Ao ?_ |refine AD Aa rfl (by omega) ?_ |refine Ae Aa rfl ?_)
   exact ⟨j + 1,⟨by omega,fun h9=>by
    rw [List.take_succ_eq_append_getElem hjl,List.mem_append,List.mem_singleton] at h9
    rcases h9 with h9 |h9
    ·exact hnj h9
    ·exact he h9.symm⟩,by repeat (first |exact As.nil |refine As.cons rfl ?_),fun w' hw=>hw,by omega⟩
 intro _ hng;repeat (first |refine Ab ?_ |refine Ag ?_ |refine Ad ?_ |refine Am ?_ |refine AD Aa rfl (by omega) ?_ |refine Ae Aa rfl ?_)
 exact ⟨i + 1,⟨by omega,fun g' hg'=>by
  rw [List.take_add_one,List.mem_append,hg] at hg'
  rcases hg' with hg' |hg'
  ·exact hno g' hg'
  ·rw [Option.toList_some,List.mem_singleton] at hg';subst hg'
   exact hng⟩,by repeat (first |exact As.nil |refine As.cons rfl ?_),fun w' hw=>hw,by omega⟩
theorem Iw (h:(Sh xb f m last gs a c).at_ w A v) (hok:C7 last gs) (n:Int):Calls Tryz.prog 60 #[AF xb,.int .u64 n] w fun e w'=>e= .returned (.bool (decide (n ∈ Aw gs)))/\Below w.heap.size w w':=by
 have hd:decide (0 < Hr gs n)=decide (n ∈ Aw gs):=decide_eq_decide.2 (by
  unfold Hr
  cases hb:EX gs n with
  |none=>exact ⟨fun h=>absurd h (by decide),fun h=>(Cw.1 hb h).elim⟩
  |some g=>
   obtain ⟨h1,h2⟩:=Ea hb;have:=hok.tr g h1
   exact ⟨fun _=>List.mem_flatMap.2 ⟨g,h1,h2⟩,fun _=>by show 0 < g.tries;omega⟩)
 refine BO Tryz.func60 rfl rfl (Hp.refl w) ?_;repeat (first |refine Ai ?_ |refine Ab ?_ |refine Ag ?_ |refine Ae Aa rfl ?_)
 refine Be (v:=.int .i64 (Hr gs n)) rfl Tryz.call81 (fun w1 h1=>Mw ((Sh xb f m last gs a c).ext h (h1.below (by repeat (first |exact Ar)))) hok n) ?_;repeat (first |refine Ag ?_ |refine AC ?_ |refine Ae Aa rfl ?_)
 exact AZ rfl rfl (fun w' hw=>⟨by rw [hd],hw.below (by repeat (first |exact Ar))⟩)
set_option maxHeartbeats 2000000 in
theorem KP (h:(Sh xb f m last gs a c).at_ w A v) (hok:C7 last gs):Calls Tryz.prog 44 #[AF xb] w fun e w'=>∃ a' c',e= .returned (.slice a' (Bt (Aw gs)).length c')/\Below w.heap.size w w'/\w'.ownsRow w.heap.size 32 1 (.slice a' (Bt (Aw gs)).length c') (Bt (Aw gs)).length (Bj (Bt (Aw gs))):=by
 have hcn:=hok.cnt;have hbl:=hok.len;refine BZ Tryz.func44 rfl rfl (Hp.refl w) ?_;repeat (first |refine Ai ?_ |refine Ab ?_ |refine Ag ?_ |refine Ae Aa rfl ?_)
 refine Bh Aa (v:=.slice a gs.length c) rfl rfl (fun w' hw=>Sh.cell h (hw.below (by repeat (first |exact Ar))) (j:=2) rfl) ?_;repeat (first |refine Aq ?_ |refine Ag ?_ |refine Ae Aa rfl ?_)
 refine AM (ι:=XP) (fun i=>[(9,.slice a gs.length c),(10,.int .i64 (gs.length:Int)),(11,.int .i64 (i.j:Int)),(3,.slice i.a (Aw (gs.take i.j)).length i.c)]) (fun i=>[.row w.heap.size (.slice i.a (Aw (gs.take i.j)).length i.c) 32 1 (Aw (gs.take i.j)).length (Bj (Aw (gs.take i.j)))]) (fun i=>i.j <= gs.length) (fun i=>gs.length - i.j) ⟨0,none,0⟩ (Nat.zero_le _) (by repeat (first |exact As.nil |refine As.cons rfl ?_)) (fun w' hw=>hw.nilRow _ _) ?_;rintro ⟨i,a1,c1⟩ hi;dsimp only at hi ⊢;repeat (first |refine Ai ?_ |refine Ab ?_ |refine Ag ?_ |refine Ae Aa rfl ?_)
 refine Ak rfl (fun hlt=>?_) (fun hge=>?_);rotate_left
 ·rw [List.take_of_length_le (show gs.length <= i by omega)];repeat (first |refine Ai ?_ |refine Ab ?_ |refine Ad ?_ |refine AB ?_ |refine Al ?_ |refine AH ?_ |refine Ae Aa rfl ?_)
  refine Eb rfl Tryz.call71 (fun w1 h1=>FR w1 (Ex (h1.own _ (Af (i:=0) rfl)) rfl (fun x hx=>hok.nfit hx)) (by omega)) (fun a2 c2 hc2 hd2=>?_);repeat (first |refine Ag ?_ |refine AC ?_ |refine Ae Aa rfl ?_)
  exact AZ rfl rfl (fun w' hw=>⟨_,_,rfl,hw.below (by repeat (first |exact Ar |refine Bv hw 0 rfl (Nat.le_refl _) ?_ |refine Bv hw 1 rfl (Nat.le_refl _) ?_)),hw.own _ (Af (i:=0) rfl)⟩)
 obtain ⟨g,hg⟩:∃ g,gs[i]? =some g:=⟨_,List.getElem?_eq_getElem (by omega)⟩;have hgm:=List.mem_of_getElem? hg;obtain ⟨ab,off,xa,xc,rfl,hz,hce⟩:=QW h.2 hg
 have hsn:Aw (gs.take (i + 1))=Aw (gs.take i) ++ g.L:=by
  rw [List.take_add_one,hg,Aw,List.flatMap_append];simp
 have hbi:(Aw (gs.take (i + 1))).length <= 60000:=Nat.le_trans (Fy (List.take_sublist _ _)).length_le hbl;rw [hsn,List.length_append] at hbi;repeat (first |refine Ai ?_ |refine Ab ?_ |refine Aq ?_ |refine Ad ?_ |refine Ao ?_)
 refine BE (Bs (sz:=4) Aa rfl rfl rfl rfl rfl rfl rfl (j:=i) rfl (by omega)) ?_
 refine BR Aa (vs:=[.int .u64 g.id,.slice xa g.L.length xc,.int .i64 g.tm,.int .i64 g.tries]) rfl rfl rfl (fun w' hw jj u hu=>by
  rw [Addr.add_lit]
  exact hce w' (hw.below (by repeat (first |exact Ar |refine Bv hw 0 rfl (Nat.le_refl _) ?_))) jj u hu) ?_
 refine AY Aa rfl (fun b5 hb5=>?_);repeat (first |refine Ag ?_ |refine Ae Aa rfl ?_ |refine Ap ?_ |refine An Aa 0 rfl rfl rfl ?_ |refine Ax Aa 0 rfl rfl rfl rfl rfl rfl ?_)
 refine AT (ty:=0) Aa 1 (news:=Bj g.L) rfl rfl rfl rfl rfl rfl rfl rfl rfl (by decide) (fun w' hw=>(hz.ext (hw.below (by repeat (first |exact Ar |refine AA (by first |assumption |omega) ?_ |refine Bv hw 1 rfl (Nat.le_refl _) ?_)))).ints.sl) (fun u hu=>Ej hu) (by simp only [maxLen];omega) (by show (_ + _) * 8 <= _;omega) rfl (fun A1 C1 hc2 hd2=>⟨_,rfl,?_⟩);rw [show Bj (Aw (gs.take i)) ++ Bj g.L=Bj (Aw (gs.take i) ++ g.L) from List.map_append.symm,<-List.length_append,<-hsn];repeat (first |refine Ab ?_ |refine Ag ?_ |refine Ad ?_ |refine Am ?_ |refine AD Aa rfl (by omega) ?_ |refine Ae Aa rfl ?_)
 exact ⟨⟨i + 1,A1,C1⟩,by show i + 1 <= gs.length;omega,by repeat (first |exact As.nil |refine As.cons rfl ?_),fun w' hw=>hw.less (by repeat (first |exact Au.nil |refine Au.keep ?_ |refine Au.dropB (by first |assumption |omega) ?_)),by show gs.length - (i + 1) < gs.length - i;omega⟩
end
theorem Qm (a:Option Addr) (n c:Nat) (l:List BS) (x:Int) (A:Nat->Prop) (w:World) (hx:Br Bg w A a n c l) (hn:n <= 1000000) {s:Int->Bool} (hs:∀ x,s x=true ↔ Cs l x):
 Calls Tryz.prog 79 #[.slice a n c,.int .u64 x] w fun e w'=>e= .returned (.bool (s x))/\Below w.heap.size w w':=by
 have hl:=hx.len;refine BO Tryz.func79 rfl rfl (Hp.refl w) ?_;repeat (first |refine Ai ?_ |refine Ab ?_ |refine Aq ?_ |refine Ag ?_ |refine Ae Aa rfl ?_)
 refine AM (ι:=Nat) (fun i=>[(0,.slice a n c),(1,.int .u64 x),(7,.slice a n c),(8,.int .i64 (n:Int)),(9,.int .i64 (i:Int))])
  (fun i=>[]) (fun i=>i <= n/\¬ Cs (l.take i) x) (fun i=>n - i) 0 ⟨Nat.zero_le _,by rw [List.take_zero];exact CB x⟩ (by repeat (first |exact As.nil |refine As.cons rfl ?_)) (fun w' hw=>hw) ?_
 rintro k ⟨hk,hT⟩;repeat (first |refine Ai ?_ |refine Ab ?_ |refine Ag ?_ |refine Ae Aa rfl ?_)
 refine Ak rfl (fun h=>?_) (fun h=>?_)
 ·have hk':k < l.length:=by omega
  obtain ⟨ab,off,cs,rfl,hlt,_⟩:=hx.get_ hk';repeat (first |refine Ai ?_ |refine Ab ?_ |refine Aq ?_ |refine Ad ?_ |refine Ao ?_)
  refine BE (Bs (sz:=2) Aa rfl rfl rfl rfl rfl rfl rfl rfl (j:=k) (by omega)) ?_;refine BR Aa (vs:=C6 l[k]) rfl rfl rfl (fun w' hw=>B7 (hx.ext (hw.below (by repeat (first |exact Ar)))) hk') ?_;refine AY Aa rfl (fun b5 hb5=>?_);refine Ax Aa 0 rfl rfl rfl rfl rfl rfl ?_;refine Ag ?_;repeat (refine Ai ?_)
  refine BN (ι:=Bool) (fun q=>q=true ↔ (l[k].1 <= x/\x <= l[k].2)) (fun q=>[(0,.slice (some ⟨ab,off,none⟩) n c),(1,.int .u64 x),(7,.slice (some ⟨ab,off,none⟩) n c),(8,.int .i64 (n:Int)),(9,.int .i64 (k:Int)),(22,.bool q)]) (fun q=>[]) ?_ ?_
  ·repeat (first |refine Ab ?_ |refine Ae Aa rfl ?_ |refine An Aa 0 rfl rfl rfl ?_)
   refine BI rfl rfl (fun h2=>?_) (fun h2=>?_)
   ·repeat (first |refine Ag ?_ |refine Ae Aa rfl ?_ |refine An Aa 0 rfl rfl rfl ?_)
    exact ⟨_,⟨fun h=>⟨h2,of_decide_eq_true h⟩,fun h=>decide_eq_true h.2⟩,by repeat (first |exact As.nil |refine As.cons rfl ?_),fun _ h=>h.dropn hb5⟩
   ·repeat (first |refine Ag ?_ |refine Ae Aa rfl ?_ |refine Bn rfl rfl rfl ?_)
    exact ⟨false,⟨fun h=>(by cases h),fun h=>absurd h.1 h2⟩,by repeat (first |exact As.nil |refine As.cons rfl ?_),fun _ h=>h.dropn hb5⟩
  ·intro q hq;refine CK rfl (fun h2=>?_) (fun h2=>?_)
   ·repeat (first |refine Ai ?_ |refine Ab ?_ |refine Ag ?_ |refine BQ ?_ |refine AI ?_ |refine AC ?_ |refine Ae Aa rfl ?_)
    exact AZ rfl rfl (fun w' hw=>⟨by rw [(hs x).2 ⟨_,List.getElem_mem hk',hq.1 h2⟩],hw.below (by repeat (first |exact Ar))⟩)
   ·repeat (first |refine Ab ?_ |refine Ag ?_ |refine Ad ?_ |refine Am ?_ |refine Ao ?_ |refine AD Aa rfl (by omega) ?_ |refine Ae Aa rfl ?_)
    exact ⟨k + 1,⟨by omega,fun h=>by
     rw [CX hk'] at h
     rcases h with h |h
     ·exact hT h
     ·rw [hq.2 h] at h2
      cases h2⟩,by repeat (first |exact As.nil |refine As.cons rfl ?_),fun w' hw=>hw,by omega⟩
 ·have e:k=n:=by omega
  subst e;rw [List.take_of_length_le (by omega)] at hT;repeat (first |refine Ai ?_ |refine Ab ?_ |refine Ag ?_ |refine Ad ?_ |refine AB ?_ |refine Al ?_ |refine AC ?_ |refine AH ?_ |refine Ae Aa rfl ?_)
  exact AZ rfl rfl (fun w' hw=>⟨by rw [show s x=false from Bool.eq_false_iff.2 fun h=>hT ((hs x).1 h)],hw.below (by repeat (first |exact Ar))⟩)
section
variable {P:Program} {tb:EU} {n:Nat} {w0:World} {all:Array Oper} {os:List Oper} {o:Oper} {l:FL} {ol:OL} {K:FL->OL->Prop} {Q:B3}
theorem M7 (ht:AW P tb) (i:Nat) {b off m c base szr:Nat} {u:Value} {e:TypeId} {xs:List Value} {ol':OL} (hs:DO tb all (AP l) o=some (b,off,[u],1)) (h1:u.oneCell'=true) (hi:B9 ol i=some (.row base (.slice (some ⟨b,0,none⟩) m c) e szr m xs)) (hoff:off < xs.length)
 (ho:Dc ol i (.row base (.slice (some ⟨b,0,none⟩) m c) e szr m (xs.set off u))=some ol') (k:S P n w0 all os l ol' K Q):S P n w0 all (o::os) l ol K Q:=by
 refine ⟨fun a w hf hh=>?_⟩;unfold DO at hs;split at hs
 ·rename_i hg;split at hs
  ·rename_i hd;split at hs
   ·rename_i t x y hop;split at hs
    ·rename_i ti hti;split at hs
     ·rename_i b' off' hx;split at hs
      ·rename_i v hy;split at hs
       ·rename_i vs' hv;simp at hs;obtain ⟨rfl,rfl,rfl,hsz⟩:=hs;obtain ⟨pre,post,e1,e2⟩:=CP hi ho;have hr:w.ownsRow base e szr (.slice (some ⟨b',0,none⟩) m c) m xs:=hh.own _ (Af hi);obtain ⟨hl,hr⟩:=hr
        rcases hr with ⟨h9,_⟩ |⟨g,cap,cur,h9,hb,hg2,hnc,hcm,hcs,htk⟩
        ·cases h9
        cases h9;obtain ⟨cur⟩:=cur
        have hlt:off' < cur.length:=by
         have:xs.length <= cur.length:=by rw [<-htk];exact List.length_take_le' _ _
         omega
        have hm:=Db (v:=u) hlt;refine Ei (Bb hf.rd hg) ?_ ?_ (w':=w.setRow b' ⟨cur.set off' u⟩)
        ·unfold execOp;simp [hop,hf.rd.ev hx,hf.rd.ev hy,Instr.storeAt,Instr.sureAddr,Ev ht hti hv (by rw [hsz];rfl) (fun z hz=>by rw [List.mem_singleton] at hz;subst hz;exact h1) hg2 hm]
        ·rw [hd];refine k.out _ _ hf ?_;rw [e1] at hh;rw [e2];refine hh.turn rfl rfl rfl rfl (by simp) (fun k hk hne=>setRow_other w b' k _ (fun e=>hne (by rw [e];rfl))) ?_ (fun k hk=>.inl hk) (fun k hk=>.inr hk);refine ⟨by rw [List.length_set];exact hl,.inr ⟨b',c,⟨cur.set off' u⟩,rfl,hb,setRow_heap w b' ⟨cur⟩ _ e (0,0) hg2,hnc,hcm,?_,?_⟩⟩
         ·show (cur.set off' u).length=_;rw [List.length_set];exact hcs
         ·show (cur.set off' u).take _=_;rw [List.take_set];exact congrArg (fun z=>List.set z off' u) htk
       ·cases hs
      ·cases hs
     ·cases hs
    ·cases hs
   ·cases hs
  ·cases hs
 ·cases hs
end
structure GX where
 g:BG
 x:SX
abbrev DN (K:List GX):List BG:=K.map GX.g
abbrev ER (p:GX):List Value:=[.int .u64 p.g.id,p.x.v,.int .i64 p.g.tm,.int .i64 p.g.tries]
def Bw (K:List GX):List Value:=(K.map ER).flatten
theorem Kk (K:List GX):(Bw K).length=K.length * 4:=by
 unfold Bw
 induction K with
 |nil=>rfl
 |cons p K ih=>
  rw [List.map_cons,List.flatten_cons,List.length_append,ih];show 4 + K.length * 4=(K.length + 1) * 4;omega
theorem Kl (K L:List GX):Bw (K ++ L)=Bw K ++ Bw L:=by
 unfold Bw;rw [List.map_append,List.flatten_append]
theorem Hn {K:List GX} {u:Value} (hu:u ∈ Bw K):u.oneCell'=true:=by
 unfold Bw at hu;obtain ⟨c,hc,huc⟩:=List.mem_flatten.1 hu;obtain ⟨p,_,rfl⟩:=List.mem_map.1 hc;simp only [List.mem_cons,List.not_mem_nil,or_false] at huc
 rcases huc with rfl |rfl |rfl |rfl<;>rfl
def G8 (K:List GX):Vp:=⟨fun w F _=>∀ p ∈ K,Br (A8 .u64) w F p.x.a p.x.n p.x.c p.g.L,fun h hk p hp=>(h p hp).keep hk⟩
abbrev Mg (base xb:Nat) (f m last:Int) (K:List GX) (a:Option Addr) (c:Nat) (G:Nat->Prop) (s:Bool):OL:=[.blk xb (Mh f m a K.length c last) true,.row base (.slice a K.length c) 146 4 K.length (Bw K),.rep (fun w=>(G8 K).at_ w G (.bool true)) G s]
def DM (xb:Nat) (f m:Int) (gs:List BG) (last:Int):Vp:=
 ⟨fun w F _=>∃ (K:List GX) (a:Option Addr) (c:Nat) (G:Nat->Prop),(DN K=gs/\PR f m/\C7 last gs/\Jt gs)/\(∀ e ∈ Mg 0 xb f m last K a c G true,e.holds w/\∀ k,e.has k->F k)/\(Mg 0 xb f m last K a c G true).Pairwise PZ,
  fun ⟨K,a,c,G,h1,h4,h5⟩ hk=>⟨K,a,c,G,h1,fun e he=>⟨HE.keep (h4 e he).1 fun k hh=>(hk k ((h4 e he).2 k hh) (HE.lt (h4 e he).1 hh)).1,fun k hh=>(hk k ((h4 e he).2 k hh) (HE.lt (h4 e he).1 hh)).2⟩,h5⟩⟩
section
variable {xb:Nat} {f m last:Int} {gs:List BG} {K:List GX} {a:Option Addr} {c:Nat} {w w0:World} {F G:Nat->Prop} {v:Value} {ol:OL}
theorem Jh (h:(DM xb f m gs last).at_ w F v):∃ (K:List GX) (a:Option Addr) (c:Nat) (G:Nat->Prop),(DN K=gs/\PR f m/\C7 last gs/\Jt gs)/\Hp w w (Mg 0 xb f m last K a c G false)/\(∀ e ∈ Mg 0 xb f m last K a c G false,∀ k,e.has k->F k):=by
 obtain ⟨K,a,c,G,h1,h4,h5⟩:=h;refine ⟨K,a,c,G,h1,⟨rfl,rfl,rfl,Nat.le_refl _,fun _ _ _=>rfl,fun e he=>?_,?_⟩,fun e he k hk=>?_⟩
 ·simp only [Mg,List.mem_cons,List.not_mem_nil,or_false] at he
  rcases he with rfl |rfl |rfl
  ·exact (h4 _ (Af (i:=0) rfl)).1
  ·exact (h4 _ (Af (i:=1) rfl)).1
  ·exact (h4 _ (Af (i:=2) rfl)).1
 ·simp only [Mg,List.pairwise_cons,List.mem_cons,List.not_mem_nil,or_false,forall_eq_or_imp,forall_eq] at h5 ⊢;obtain ⟨⟨a1,a2⟩,b2,_⟩:=h5;exact ⟨⟨fun _=>a1 rfl,fun _=>a2 rfl⟩,fun _=>b2 rfl,fun _ h=>h.elim,List.Pairwise.nil⟩
 ·simp only [Mg,List.mem_cons,List.not_mem_nil,or_false] at he
  rcases he with rfl |rfl |rfl
  ·exact (h4 _ (Af (i:=0) rfl)).2 k hk
  ·exact (h4 _ (Af (i:=1) rfl)).2 k hk
  ·exact (h4 _ (Af (i:=2) rfl)).2 k hk
theorem Gi {base:Nat} {F0:Nat->Prop} (X:OL) (hh:Hp w0 w (Mg base xb f m last K a c G false ++ X ++ ol)) (hgs:DN K=gs) (hp:PR f m) (hok:C7 last gs) (hne:Jt gs) (hF0:∀ k,F0 k->k < w0.heap.size) (hol:∀ e ∈ ol,∀ k,e.has k->w0.heap.size <= k) (hd:∀ e ∈ ol,e.ex=true \/ ∀ k,G k->¬ e.has k)
 (hA:∀ e ∈ Mg base xb f m last K a c G false,∀ k,e.has k->F0 k \/ w0.heap.size <= k) (hX:∀ e ∈ X,e.ex=true/\∀ k,e.has k->F0 k \/ w0.heap.size <= k):∃ F':Nat->Prop,(∀ k,F0 k->F' k)/\(∀ k,F' k->F0 k \/ w0.heap.size <= k)/\Hp w0 w (.rep (fun w=>(DM xb f m gs last).at_ w F' (.bool true)) F' true::ol):=by
 refine hh.pack2 hF0 hol (fun e' he' e he=>?_) (fun e he=>(List.mem_append.1 he).elim (hA e) fun h=>(hX e h).2) (DM xb f m gs last) fun F' hF'=>⟨K,a,c,G,⟨hgs,hp,hok,hne⟩,fun e he=>?_,?_⟩
 ·rcases List.mem_append.1 he' with he' |he'
  ·simp only [Mg,List.mem_cons,List.not_mem_nil,or_false] at he'
   rcases he' with rfl |rfl |rfl
   ·exact .inl rfl
   ·exact .inl rfl
   ·rcases hd e he with h |h
    ·exact .inl (by rw [h,Bool.or_true])
    ·exact .inr h
  ·exact .inl (by rw [(hX e' he').1,Bool.true_or])
 ·have hF2:∀ e ∈ Mg base xb f m last K a c G false,∀ k,e.has k->F' k:=fun e he=>hF' e (List.mem_append.2 (.inl he));simp only [Mg,List.mem_cons,List.not_mem_nil,or_false] at he
  rcases he with rfl |rfl |rfl
  ·exact ⟨hh.own _ (Af (i:=0) rfl),hF2 _ (Af (i:=0) rfl)⟩
  ·exact ⟨Hf (hh.own _ (Af (i:=1) rfl)) (Nat.zero_le _),hF2 (.row base (.slice a K.length c) 146 4 K.length (Bw K)) (Af (i:=1) rfl)⟩
  ·exact ⟨hh.own (.rep (fun w=>(G8 K).at_ w G (.bool true)) G false) (Af (i:=2) rfl),hF2 (.rep (fun w=>(G8 K).at_ w G (.bool true)) G false) (Af (i:=2) rfl)⟩
 ·have h5:=(List.pairwise_append.1 (List.pairwise_append.1 hh.apart).1).1;simp only [Mg,List.pairwise_cons,List.mem_cons,List.not_mem_nil,or_false,forall_eq_or_imp,forall_eq] at h5 ⊢;obtain ⟨⟨a1,a2⟩,b2,_⟩:=h5;exact ⟨⟨fun _=>a1 rfl,fun _=>a2 rfl⟩,fun _=>b2 rfl,fun _ h=>h.elim,List.Pairwise.nil⟩
theorem JR {base:Nat} {X:Nat->Prop} (h0:X xb) (h1:∀ k,(Value.slice a K.length c).ownBlock=some k->X k) (h2:∀ k,G k->X k):∀ e ∈ Mg base xb f m last K a c G false,∀ k,e.has k->X k:=fun e he k hk=>by
 simp only [Mg,List.mem_cons,List.not_mem_nil,or_false] at he
 rcases he with rfl |rfl |rfl
 ·exact Option.some.inj hk ▸ h0
 ·exact h1 k hk
 ·exact h2 k hk
theorem X0 {A:Nat->Prop} (h:(G8 K).at_ w A v) (hok:C7 last (DN K)):(Cj X7 (K.map ER) ((DN K).map tG)).at_ w A (.bool true):=by
 refine ⟨by simp,fun i cs x hc hx=>?_⟩;rw [List.getElem?_map] at hc;rw [List.getElem?_map,List.getElem?_map] at hx
 cases hp:K[i]? with
 |none=>rw [hp] at hc;cases hc
 |some p=>
  rw [hp] at hc hx;cases hc;cases hx;have hpm:=List.mem_of_getElem? hp;have hg:p.g ∈ DN K:=List.mem_map.2 ⟨p,hpm,rfl⟩;have h1:=hok.idb _ hg;have h2:=hok.lst;have h3:=hok.tm _ hg;have h4:=hok.tr _ hg;exact ⟨[.int .u64 p.g.id],_,rfl,⟨rfl,Vn (n:=p.g.id) (by omega)⟩,[p.x.v],_,rfl,(h p hpm).val,[.int .i64 p.g.tm],[.int .i64 p.g.tries],rfl,⟨rfl,Qz (n:=p.g.tm) (by omega)⟩,rfl,Qz (n:=p.g.tries) (by omega)⟩
theorem LO {base:Nat} (hb:w.heap[xb]? =some (Mh f m a K.length c last)) (hr:w.ownsRow base 146 4 (.slice a K.length c) K.length (Bw K)) (hk:(G8 K).at_ w G v) (hok:C7 last (DN K)):(Sh xb f m last (DN K) a c).at_ w TT v:=by
 have e:(DN K).length=K.length:=List.length_map _;refine ⟨⟨by rw [e];exact hb,trivial⟩,?_⟩;rw [e];exact Cj.slr (X0 ((G8 K).mono hk fun _ _=>trivial) hok) hr (by rw [List.length_map,e]) fun _ _ _=>trivial
theorem Hp.rowG {g:BG} {ao:Option Addr} {no co:Nat} (h:Hp w0 w (.row w0.heap.size (.slice ao no co) 32 1 no (Bj g.L)::.rep (fun w=>(G8 K).at_ w G (.bool true)) G false::ol)) (hf:∀ x ∈ g.L,AS .u64 x) (hn:g.L.length=no):∃ G':Nat->Prop,(∀ k,G' k->G k \/ w0.heap.size <= k)/\Hp w0 w (.rep (fun w=>(G8 (K ++ [⟨g,⟨ao,no,co⟩⟩])).at_ w G' (.bool true)) G' false::ol):=by
 obtain ⟨Fr,hFr,h1⟩:=h.share (p:=(Az (A8 .u64)).vp g.L) (fun h=>(Ex h hn hf).val);have h2:=h1.merge (Ψ:=fun w=>(G8 (K ++ [⟨g,⟨ao,no,co⟩⟩])).at_ w (fun k=>Fr k \/ G k) (.bool true)) (fun q1 q2 p hp=>?_) (Vp.loc (p:=G8 _))
 ·exact ⟨_,fun k hk=>hk.elim (fun h=>.inr (hFr k h)) .inl,h2⟩
 ·rcases List.mem_append.1 hp with hp |hp
  ·exact (q2 p hp).mono fun k hk=>.inr hk
  ·rw [List.mem_singleton] at hp;subst hp;exact (Br.of_val q1).mono fun k hk=>.inl hk
end
theorem S6 (gs:List BG) (l:List Int):(Bt l).filter (fun n=>decide (n ∉ Aw gs))=FA gs l:=
 It ((D5 l).sublist List.filter_sublist) fun x=>by
  rw [List.mem_filter,List.mem_filter,Cu]
theorem Nu {gs:List BG} {l:List Int}:(FA gs l).length <= l.length:=Nat.le_trans Dj (List.length_filter_le _ _)
section
variable {xb:Nat} {f m last:Int} {gs:List BG} {w:World} {F:Nat->Prop}
set_option maxHeartbeats 4000000 in
theorem SR (h:(DM xb f m gs last).at_ w F (.bool true)) (hF:∀ k,F k->k < w.heap.size) {la:Option Addr} {ln lc:Nat} {l:List Int} {A:Nat->Prop} (hl:Br (A8 .u64) w A la ln lc l) (hAF:∀ k,A k->¬ F k) {now:Int} (hnow:0 <= now/\now <= 1152921504606846976) (hln:l.length + (Aw gs).length <= 60000) (hcn:gs.length < 60000) (hla:last + 1 <= 1099511627776):
 Calls Tryz.prog 61 #[AF xb,.int .i64 now,.slice la ln lc] w fun e w'=>e= .returned (.int .u64 (B2 f m gs last now l).2.2)/\Ln w F (DM xb f m (B2 f m gs last now l).1 (B2 f m gs last now l).2.1) w':=by
 obtain ⟨K,a,c,G,⟨rfl,hp,hok,hne⟩,hst,hcov⟩:=Jh h
 have hKl:K.length < 60000:=by rwa [List.length_map] at hcn
 have hFx:F xb:=hcov _ (Af (i:=0) rfl) xb rfl;have hFr:∀ k,(Value.slice a K.length c).ownBlock=some k->F k:=hcov _ (Af (i:=1) rfl);have hFG:∀ k,G k->F k:=hcov _ (Af (i:=2) rfl);obtain ⟨Fl,hFl,_,hst2⟩:=hst.addV (p:=(Az (A8 .u64)).vp l) (A:=A) (v:=.slice la ln lc) (((Az (A8 .u64)).vp l).mono hl.val fun k hk=>⟨.inl hk,fun e he hex hh=>hAF k hk (hcov e he k hh)⟩);have hlst:=hok.lst;have hll:=hl.len;have hSl:=@Dj l;refine EP Tryz.func61 rfl rfl hst2 ?_;repeat (first |refine Ai ?_ |refine Ab ?_ |refine Ag ?_ |refine Ae Aa rfl ?_)
 refine Eb rfl Tryz.call71 (fun w1 h1=>FR w1 (Br.of_val (h1.own _ (Af (i:=0) rfl)).1) (by omega)) (fun a1 c1 hc1 hd1=>?_);obtain ⟨S,hS⟩:∃ S,S=Bt l:=⟨_,rfl⟩;have hN:=S6 (DN K) l;rw [<-hS] at hSl hc1 hN ⊢
 have hSf:∀ x ∈ S,AS .u64 x:=fun x hx=>by
  rw [hS,Cu] at hx;exact (hl.flat (DU .u64)).2 x hx
 obtain ⟨flt,hflt⟩:∃ flt:Nat->List Int,flt=fun j=>(S.take j).filter fun n=>decide (n ∉ Aw (DN K)):=⟨_,rfl⟩
 have hf0:flt 0= []:=by rw [hflt];rfl
 have hfl:flt S.length=FA (DN K) l:=by rw [hflt];dsimp only;rw [List.take_length];exact hN
 have hfs:∀ j (hj:j < S.length),flt (j + 1)=flt j ++ if S[j] ∈ Aw (DN K) then [] else [S[j]]:=fun j hj=>by
  rw [hflt];dsimp only;rw [List.take_succ_eq_append_getElem hj,List.filter_append];congr 1;by_cases h9:S[j] ∈ Aw (DN K)
  ·rw [if_pos h9,List.filter_cons_of_neg (by rw [decide_eq_true_iff];exact fun h=>h h9)];rfl
  ·rw [if_neg h9,List.filter_cons_of_pos (by rw [decide_eq_true_iff];exact h9)];rfl
 have hfb:∀ j,(flt j).length <= S.length:=fun j=>by
  rw [hflt];exact Nat.le_trans (List.length_filter_le _ _) (by rw [List.length_take];omega)
 repeat (first |refine Aq ?_ |refine Ag ?_ |refine Ae Aa rfl ?_)
 refine AM (ι:=XP) (fun i=>[(0,AF xb),(1,.int .i64 now),(11,.slice a1 S.length c1),(12,.int .i64 (S.length:Int)),(13,.int .i64 (i.j:Int)),(7,.slice i.a (flt i.j).length i.c)])
  (fun i=>[.row w.heap.size (.slice i.a (flt i.j).length i.c) 32 1 (flt i.j).length (Bj (flt i.j)),.row w.heap.size (.slice a1 S.length c1) 32 1 S.length (Bj S),.blk xb (Mh f m a K.length c last) true,.row 0 (.slice a K.length c) 146 4 K.length (Bw K),.rep (fun w=>(G8 K).at_ w G (.bool true)) G false])
  (fun i=>i.j <= S.length) (fun i=>S.length - i.j) ⟨0,none,0⟩ (Nat.zero_le _) (by dsimp only;rw [hf0];repeat (first |exact As.nil |refine As.cons rfl ?_)) (fun w' hw=>by dsimp only;rw [hf0];exact (hw.less (o':=[.row w.heap.size (.slice a1 S.length c1) 32 1 S.length (Bj S),.blk xb (Mh f m a K.length c last) true,.row 0 (.slice a K.length c) 146 4 K.length (Bw K),.rep (fun w=>(G8 K).at_ w G (.bool true)) G false]) (by repeat (first |exact Au.nil |refine Au.keep ?_ |refine Au.dropR ?_))).nilRow _ _) ?_
 rintro ⟨j,a2,c2⟩ hj;dsimp only at hj ⊢;have hbj:=hfb j;repeat (first |refine Ai ?_ |refine Ab ?_ |refine Ag ?_ |refine Ae Aa rfl ?_)
 refine Ak rfl (fun hlt=>?_) (fun hge=>?_)
 ·have hjl:j < S.length:=by omega
  have hs1:=hfs j hjl;have e1:=HB hjl;refine Gy (fun w h=>h) ?_;repeat (first |refine Ai ?_ |refine Ab ?_ |refine Aq ?_ |refine Ad ?_ |refine Ao ?_)
  refine Fi 1 rfl (by omega) (fun bS hbS=>?_);subst hbS;refine BE (Bs (sz:=1) Aa rfl rfl rfl rfl rfl rfl rfl (j:=j) rfl hjl) ?_;refine Bh Aa (v:=.int .u64 S[j]) rfl rfl (fun w' hw=>by rw [Nat.zero_add,Nat.mul_one];exact Cn (hw.own _ (Af (i:=1) rfl)) (by omega) e1) ?_;repeat (first |refine Ai ?_ |refine Ab ?_ |refine Ag ?_ |refine Ae Aa rfl ?_)
  by_cases hin:S[j] ∈ Aw (DN K)
  ·rw [if_pos hin,List.append_nil] at hs1
   refine Be (v:=.bool true) rfl Tryz.call60 (fun w1 h1=>by
    rw [<-decide_eq_true hin]
    exact Iw (LO (h1.own _ (Af (i:=2) rfl)) (h1.own _ (Af (i:=3) rfl)) (h1.own _ (Af (i:=4) rfl)).1 hok) hok S[j]) ?_
   repeat (first |refine Ag ?_ |refine Ae Aa rfl ?_)
   refine AG rfl ?_;repeat (first |refine Ab ?_ |refine Ag ?_ |refine Ad ?_ |refine Am ?_ |refine Ao ?_ |refine AD Aa rfl (by omega) ?_ |refine Ae Aa rfl ?_)
   exact ⟨⟨j + 1,a2,c2⟩,by show j + 1 <= S.length;omega,by dsimp only;rw [hs1];repeat (first |exact As.nil |refine As.cons rfl ?_),fun w' hw=>by dsimp only;rw [hs1];exact hw,by show S.length - (j + 1) < S.length - j;omega⟩
  ·rw [if_neg hin] at hs1
   refine Be (v:=.bool false) rfl Tryz.call60 (fun w1 h1=>by
    rw [<-decide_eq_false hin]
    exact Iw (LO (h1.own _ (Af (i:=2) rfl)) (h1.own _ (Af (i:=3) rfl)) (h1.own _ (Af (i:=4) rfl)).1 hok) hok S[j]) ?_
   repeat (first |refine Ag ?_ |refine Ae Aa rfl ?_)
   refine AX rfl ?_;repeat (first |refine Ae Aa rfl ?_ |refine Ap ?_)
   refine AO Aa rfl rfl rfl rfl rfl rfl rfl rfl rfl rfl rfl rfl (fun b23 hb23=>?_);refine AT (ty:=0) Aa 1 (k:=1) (news:=Bj [S[j]]) rfl rfl rfl rfl rfl rfl rfl rfl rfl (by decide) (fun w' hw=>Sl.of_blk (hw.own _ (Af (i:=0) rfl)) rfl (fun j u hu=>by rw [Nat.zero_add];exact hu)) (fun u hu=>Ej hu) (by simp only [maxLen];omega) (by show (_ + _) * 8 <= _;omega) rfl (fun A1 C1 hc3 hd3=>⟨_,rfl,?_⟩);rw [show Bj (flt j) ++ Bj [S[j]]=Bj (flt (j + 1)) from by rw [hs1];exact List.map_append.symm,show (flt j).length + 1=(flt (j + 1)).length from by rw [hs1,List.length_append];rfl];repeat (first |refine Ab ?_ |refine Ag ?_ |refine Ad ?_ |refine Am ?_ |refine AD Aa rfl (by omega) ?_ |refine Ae Aa rfl ?_)
   exact ⟨⟨j + 1,A1,C1⟩,by show j + 1 <= S.length;omega,by repeat (first |exact As.nil |refine As.cons rfl ?_),fun w' hw=>hw.less (by repeat (first |exact Au.nil |refine Au.keep ?_ |refine Au.dropB (by first |assumption |omega) ?_)),by show S.length - (j + 1) < S.length - j;omega⟩
 have hje:j=S.length:=by omega
 subst hje;rw [hfl] at hbj ⊢;obtain ⟨N,hNe⟩:∃ N,N=FA (DN K) l:=⟨_,rfl⟩;rw [<-hNe] at hbj ⊢;repeat (first |refine Ai ?_ |refine Ab ?_ |refine Ag ?_ |refine Ad ?_ |refine AB ?_ |refine Al ?_ |refine AH ?_ |refine Ae Aa rfl ?_)
 refine Ak rfl (fun h0=>?_) (fun h0=>?_)
 ·have hb:B2 f m (DN K) last now l=(DN K,last,0):=by
   unfold B2;rw [if_pos (by rw [<-hNe];exact List.length_eq_zero_iff.1 (by omega))]
  rw [hb];repeat (first |refine Ai ?_ |refine Ab ?_ |refine Ag ?_ |refine AI ?_ |refine AC ?_ |refine Ae Aa rfl ?_)
  refine AZ rfl rfl (fun w' hw=>⟨rfl,?_⟩);exact Gi (F0:=F) (ol:=[]) [] (hw.less (o':=Mg 0 xb f m last K a c G false) (by repeat (first |exact Au.nil |refine Au.keep ?_ |refine Au.dropW (Nat.le_refl _) ?_))) rfl hp hok hne hF (fun e he=>by cases he) (fun e he=>by cases he) (JR (.inl hFx) (fun k hk=>.inl (hFr k hk)) fun k hk=>.inl (hFG k hk)) (fun e he=>by cases he)
 have hNn:N ≠ []:=fun e=>h0 (by rw [e];rfl)
 have hb:B2 f m (DN K) last now l=(DN K ++ [⟨last + 1,N,now + W f m 0,1⟩],last + 1,last + 1):=by
  unfold B2;rw [if_neg (by rw [<-hNe];exact hNn),<-hNe]
 rw [hb];dsimp only;have hW:=Hb hp.1 hp.2.1 0;have hp3:=hp.2.2;repeat (first |refine Ai ?_ |refine Ab ?_ |refine Ag ?_ |refine Ad ?_ |refine Ao ?_ |refine D2 Aa rfl (by omega) ?_ |refine Ae Aa rfl ?_ |refine An Aa 2 rfl rfl rfl ?_ |refine Ax Aa 2 rfl rfl rfl rfl rfl rfl ?_)
 refine OT (by kernel_rfl) (by kernel_rfl) [1,6,21,24,25,28] (by kernel_rfl) (by kernel_rfl) (by kernel_rfl) [.blk xb (Mh f m a K.length c (last + 1)) false] (CF DQ)
  [some (AF xb),none,some (AF xb),some (AF xb),some (.pointer (some ⟨xb,0 + 2,none⟩)),some (.slice a K.length c),none,some (AF xb),some (AF xb),some (.pointer (some ⟨xb,0 + 3,none⟩)),some (.int .u64 (last + 1)),some (.slice a2 N.length c2),some (.int .i64 now),some (AF xb),some (AF xb),some (.pointer (some ⟨xb,0 + 0,none⟩)),some (.int .i64 f),some (AF xb),some (AF xb),some (.pointer (some ⟨xb,0 + 1,none⟩)),some (.int .i64 m),some (.int .i64 (W f m 0)),some (.int .i64 (now + W f m 0)),some (.agg ⟨[.int .u64 (last + 1),.slice a2 N.length c2,.int .i64 (now + W f m 0),.int .i64 1]⟩),none,none,some (AF xb),some (.pointer (some ⟨xb,0 + 2,none⟩)),none]
  28 (by kernel_rfl) (by kernel_rfl)
  ⟨.inr ⟨_,_,rfl,rfl,fun w f=>Ah Aa rfl Aj⟩,.inl rfl,.inr ⟨_,_,rfl,rfl,fun w f=>Ah Aa rfl Aj⟩,.inr ⟨_,_,rfl,rfl,fun w f=>Ah Aa rfl Aj⟩,.inr ⟨_,_,rfl,rfl,fun w f=>Ah Aa rfl Aj⟩,.inr ⟨_,_,rfl,rfl,fun w f=>AE Aa 0 rfl rfl rfl Aj⟩,.inl rfl,.inr ⟨_,_,rfl,rfl,fun w f=>Ah Aa rfl Aj⟩,.inr ⟨_,_,rfl,rfl,fun w f=>Ah Aa rfl Aj⟩,.inr ⟨_,_,rfl,rfl,fun w f=>Ah Aa rfl Aj⟩,.inr ⟨_,_,rfl,rfl,fun w f=>AE Aa 0 rfl rfl rfl Aj⟩,.inr ⟨_,_,rfl,rfl,fun w f=>Ah Aa rfl Aj⟩,.inr ⟨_,_,rfl,rfl,fun w f=>Ah Aa rfl Aj⟩,.inr ⟨_,_,rfl,rfl,fun w f=>Ah Aa rfl Aj⟩,.inr ⟨_,_,rfl,rfl,fun w f=>Ah Aa rfl Aj⟩,.inr ⟨_,_,rfl,rfl,fun w f=>Ah Aa rfl Aj⟩,.inr ⟨_,_,rfl,rfl,fun w f=>AE Aa 0 rfl rfl rfl Aj⟩,.inr ⟨_,_,rfl,rfl,fun w f=>Ah Aa rfl Aj⟩,.inr ⟨_,_,rfl,rfl,fun w f=>Ah Aa rfl Aj⟩,.inr ⟨_,_,rfl,rfl,fun w f=>Ah Aa rfl Aj⟩,.inr ⟨_,_,rfl,rfl,fun w f=>AE Aa 0 rfl rfl rfl Aj⟩,.inl rfl,.inr ⟨_,_,rfl,rfl,fun w f=>BD Aa rfl (by omega) Aj⟩,.inr ⟨_,_,rfl,rfl,fun w f=>Bx (Bf Aa rfl rfl rfl rfl rfl rfl rfl) Aj⟩,.inl rfl,.inl rfl,.inr ⟨_,_,rfl,rfl,fun w f=>Ah Aa rfl Aj⟩,.inr ⟨_,_,rfl,rfl,fun w f=>Ah Aa rfl Aj⟩,.inl rfl,trivial⟩ ?_
 refine ED [] (AL 2 rfl AV) rfl .nil ?_;refine AO Aa rfl rfl rfl rfl rfl rfl rfl rfl rfl rfl rfl rfl (fun b37 hb37=>?_);refine Ag ⟨_,rfl,(fun u h=>by cases h),?_⟩;refine ED [(37,.slice (some ⟨b37,0,none⟩) 0 0),(41,.slice a K.length c)] (AL 3 rfl AV) rfl (.cons rfl rfl (.cons rfl rfl .nil)) ?_;refine B0 (fun w' h=>Hp.closeRow (pre:=[]) (n:=0) (c:=0) (sz:=4) (cs:=[]) h hb37 (by decide) (by decide) rfl) ?_;refine AT (ty:=0) Aa 0 (k:=K.length) (news:=Bw K) rfl rfl rfl rfl rfl rfl rfl rfl rfl (by decide) (fun w' hw=>Sl.of_own (hw.own _ (Af (i:=4) rfl))) (fun u hu=>Hn hu) (by simp only [maxLen];omega) (by show (_ + _) * 48 <= _;omega) rfl (fun A1 C1 hc3 hd3=>⟨_,rfl,?_⟩);rw [show List.take (0 * 4) ([]:List Value) ++ Bw K=Bw K from rfl,Nat.zero_add];refine Ag ⟨_,rfl,(fun u h=>by cases h),?_⟩;refine ED [(52,.int .i64 f),(56,.int .i64 m)] (AL 3 rfl AV) rfl (.cons rfl rfl (.cons rfl rfl .nil)) ?_;refine Be (v:=.int .i64 (W f m 0)) rfl Tryz.call80 (fun w1 g1=>Lz f m 0 w1 hp.1 hp.2.2 hp.2.1 (by decide)) ?_;refine Ag ⟨_,rfl,(fun u h=>by cases h;rfl),?_⟩;refine ED [(59,.agg ⟨[.int .u64 (last + 1),.slice a2 N.length c2,.int .i64 (now + W f m 0),.int .i64 1]⟩)] (AL 3 rfl AV) rfl (.cons rfl rfl .nil) ?_;refine AO Aa rfl rfl rfl rfl rfl rfl rfl rfl rfl rfl rfl rfl (fun b60 hb60=>?_);refine Ag ⟨_,rfl,(fun u h=>by cases h),?_⟩;refine ED [(42,.slice A1 K.length C1),(60,.slice (some ⟨b60,0,none⟩) 1 1)] (AL 4 rfl AV) rfl (.cons rfl rfl (.cons rfl rfl .nil)) ?_
 refine AT (ty:=0) Aa 1 (k:=1) (news:=Bw [⟨⟨last + 1,N,now + W f m 0,1⟩,⟨a2,N.length,c2⟩⟩]) rfl rfl rfl rfl rfl rfl rfl rfl rfl (by decide) (fun w' hw=>Sl.of_blk (hw.own _ (Af (i:=0) rfl)) rfl (fun j u hu=>by rw [Nat.zero_add];exact hu)) (fun u hu=>Hn hu) (by simp only [maxLen];omega) (by show (_ + _) * 48 <= _;omega) rfl (fun A2 C2 hc4 hd4=>⟨_,rfl,?_⟩);rw [<-Kl];refine Ag ⟨_,rfl,(fun u h=>by cases h),?_⟩;refine ED [(63,.pointer (some ⟨xb,0 + 2,none⟩)),(61,.slice A2 (K.length + 1) C2)] (AL 4 rfl AV) rfl (.cons rfl rfl (.cons rfl rfl .nil)) ?_;refine Ax Aa 4 rfl rfl rfl rfl rfl rfl ?_;refine Ag ⟨_,rfl,(fun u h=>by cases h),?_⟩;refine R1 [(0,AF xb)] (by repeat (first |exact Bc.nil |refine Bc.cons rfl ?_)) ?_;repeat (first |refine Ai ?_ |refine Ab ?_ |refine Ag ?_ |refine AC ?_ |refine Ae Aa rfl ?_ |refine An Aa 4 rfl rfl rfl ?_)
 refine AZ rfl rfl (fun w' hw=>⟨rfl,?_⟩)
 obtain ⟨G',hG',h9⟩:=Hp.rowG (g:=⟨last + 1,N,now + W f m 0,1⟩) (hw.pm [2,6,4,1,0,3,5] rfl rfl rfl) (fun x hx=>by
  have:x ∈ FA (DN K) l:=hNe ▸ hx
  exact (hl.flat (DU .u64)).2 x (HS.1 this).1) rfl
 obtain ⟨K',hK'⟩:∃ K',K'=K ++ [(⟨⟨last + 1,N,now + W f m 0,1⟩,⟨a2,N.length,c2⟩⟩:GX)]:=⟨_,rfl⟩
 have hKl':K'.length=K.length + 1:=by rw [hK',List.length_append];rfl
 rw [<-hK',<-hKl'] at h9
 have hgs:DN K'=DN K ++ [⟨last + 1,N,now + W f m 0,1⟩]:=by rw [hK'];show List.map GX.g (K ++ _)=_;rw [List.map_append];rfl
 have hNl:N.length <= l.length:=hNe ▸ Nu
 refine Gi (base:=w.heap.size) (F0:=F) (K:=K') (a:=A2) (c:=C2) (ol:=[]) [.row 0 (.slice a K.length c) 146 4 K.length (Bw K)] ((h9.pm [1,2,0,5,3,4] rfl rfl rfl).less (o':=Mg w.heap.size xb f m (last + 1) K' A2 C2 G' false ++ [.row 0 (.slice a K.length c) 146 4 K.length (Bw K)]) (by repeat (first |exact Au.nil |refine Au.keep ?_ |refine Au.dropB (by first |assumption |omega) ?_ |refine Au.dropW (Nat.le_refl _) ?_))) hgs hp (hok.push rfl ?_ (fun n hn=>?_) (fun n hn=>?_) rfl ?_ ?_ hla hcn) (fun g hg=>?_) hF (fun e he=>by cases he) (fun e he=>by cases he) (JR (.inl hFx) (fun k hk=>.inr ?_) fun k hk=>(hG' k hk).imp (hFG k) id) (fun e he=>by
  rw [List.mem_singleton] at he;subst he
  exact ⟨rfl,fun k hk=>.inl (hFr k hk)⟩)
 ·rw [hNe];exact D5 _
 ·rw [hNe] at hn;exact (HS.1 hn).2
 ·rw [hNe] at hn;exact (hl.flat (DU .u64)).2 n (HS.1 hn).1
 ·show 0 <= now + W f m 0/\now + W f m 0 <= 2305843009213693952;omega
 ·show (Aw (DN K)).length + N.length <= 60000;omega
 ·rcases List.mem_append.1 hg with hg |hg
  ·exact hne g hg
  ·rw [List.mem_singleton] at hg;subst hg;exact hNn
 ·have o2:w'.ownsRow w.heap.size 146 4 (.slice A2 K'.length C2) K'.length (Bw K'):=h9.own _ (Af (i:=2) rfl);exact (World.ownsRow.lt o2 k hk).1
end
theorem DC {j:Nat} {u:Value} {p:GX}:∀ {K:List GX} {i:Nat},K[i]? =some p->(ER p)[j]? =some u->(Bw K)[i * 4 + j]? =some u
 | [],_,h,_=>by simp at h
 |q::K,0,h,hu=>by
  rw [List.getElem?_cons_zero] at h;cases h;have hj:=(List.getElem?_eq_some_iff.1 hu).1;show (ER p ++ Bw K)[0 * 4 + j]? =_;rw [Nat.zero_mul,Nat.zero_add,List.getElem?_append_left hj];exact hu
 |q::K,i + 1,h,hu=>by
  rw [List.getElem?_cons_succ] at h;have ih:=DC (K:=K) (i:=i) h hu;show (ER q ++ Bw K)[(i + 1) * 4 + j]? =_;rw [List.getElem?_append_right (by show 4 <= _;omega),show (i + 1) * 4 + j - (ER q).length=i * 4 + j by show (i + 1) * 4 + j - 4=_;omega];exact ih
theorem P6 {w:World} {A:Nat->Prop} {b off n c:Nat} {l:List Int} (h:Br (A8 .u64) w A (some ⟨b,off,none⟩) n c l) {i:Nat} (hi:i < l.length):w.cell? ⟨b,off + i,none⟩=some (.int .u64 l[i]):=by
 obtain ⟨b',off',e,h1⟩:=LD h hi;cases e;exact h1 w (Below.refl _ _)
theorem Ql (gs:List BG) (g:BG) (s:Int->Bool):D1 (gs ++ [g]) s=D1 gs s ++ if (Cg s g).L= [] then [] else [Cg s g]:=by
 unfold D1;rw [List.map_append,List.filter_append];congr 1;by_cases h:(Cg s g).L= []
 ·rw [if_pos h,List.map_cons,List.map_nil,List.filter_cons_of_neg (by rw [h];decide)];rfl
 ·rw [if_neg h,List.map_cons,List.map_nil,List.filter_cons_of_pos (by simpa using h)];rfl
theorem FE {l:List Int} {j:Nat} (h:j < l.length) (s:Int->Bool):(l.take (j + 1)).filter s=(l.take j).filter s ++ if s l[j]=true then [l[j]] else []:=by
 rw [List.take_succ_eq_append_getElem h,List.filter_append];congr 1;by_cases hs:s l[j]=true
 ·rw [if_pos hs,List.filter_cons_of_pos hs];rfl
 ·rw [if_neg hs,List.filter_cons_of_neg hs];rfl
theorem Qv {w:World} {K:List GX} {G Fr:Nat->Prop} {g:BG} {x:SX} (h1:((Az (A8 .u64)).vp g.L).at_ w Fr (.slice x.a x.n x.c)) (h2:(G8 K).at_ w G (.bool true)):(G8 (K ++ [⟨g,x⟩])).at_ w (fun k=>Fr k \/ G k) (.bool true):=fun p hp=>by
 rcases List.mem_append.1 hp with hp |hp
 ·exact (h2 p hp).mono fun k hk=>.inr hk
 ·rw [List.mem_singleton] at hp;subst hp;exact (Br.of_val h1).mono fun k hk=>.inl hk
structure Yn where
 i:Nat
 a5:Option Addr
 c5:Nat
 KL:List GX
 a6:Option Addr
 c6:Nat
 GL:Nat->Prop
structure Yg where
 j:Nat
 a5:Option Addr
 c5:Nat
 a9:Option Addr
 c9:Nat
section
variable {xb:Nat} {f m last:Int} {gs:List BG} {w:World} {F:Nat->Prop}
set_option maxHeartbeats 8000000 in
theorem SQ (h:(DM xb f m gs last).at_ w F (.bool true)) (hF:∀ k,F k->k < w.heap.size) {la:Option Addr} {ln lc:Nat} {rl:List BS} {A:Nat->Prop} (hl:Br Bg w A la ln lc rl) (hAF:∀ k,A k->¬ F k) (hln:ln <= 1000000) {s:Int->Bool} (hs:∀ x,s x=true ↔ Cs rl x):
 Calls Tryz.prog 55 #[AF xb,.slice la ln lc] w fun e w'=>∃ A C,e= .returned (.slice A (Bt ((Aw gs).filter s)).length C)/\
  ∃ F':Nat->Prop,(∀ k,F k->F' k)/\(∀ k,F' k->F k \/ w.heap.size <= k)/\Hp w w' [.row w.heap.size (.slice A (Bt ((Aw gs).filter s)).length C) 32 1 (Bt ((Aw gs).filter s)).length (Bj (Bt ((Aw gs).filter s))),.rep (fun w=>(DM xb f m (D1 gs s) last).at_ w F' (.bool true)) F' true]:=by
 obtain ⟨K,a,c,G,⟨rfl,hp,hok,hne⟩,hst,hcov⟩:=Jh h;have hcnt:=hok.cnt;have hlen:=hok.len;rw [List.length_map] at hcnt;have hFx:F xb:=hcov _ (Af (i:=0) rfl) xb rfl;have hFr:∀ k,(Value.slice a K.length c).ownBlock=some k->F k:=hcov _ (Af (i:=1) rfl);have hFG:∀ k,G k->F k:=hcov _ (Af (i:=2) rfl);obtain ⟨Fl,hFl,_,hst2⟩:=hst.addV (p:=(Az Bg).vp rl) (A:=A) (v:=.slice la ln lc) (((Az Bg).vp rl).mono hl.val fun k hk=>⟨.inl hk,fun e he hex hh=>hAF k hk (hcov e he k hh)⟩);obtain ⟨outs,houts⟩:∃ outs:Nat->List Int,outs=fun i=>(Aw ((DN K).take i)).filter s:=⟨_,rfl⟩
 have ho0:outs 0= []:=by rw [houts];rfl
 have hol:outs K.length=(Aw (DN K)).filter s:=by rw [houts];dsimp only;rw [List.take_of_length_le (by rw [List.length_map];exact Nat.le_refl _)]
 have hob:∀ i,(outs i).length <= 60000:=fun i=>by
  rw [houts];exact Nat.le_trans (List.length_filter_le _ _) (Nat.le_trans (Fy (List.take_sublist _ _)).length_le hlen)
 refine BO Tryz.func55 rfl rfl hst2 ?_;repeat (first |refine Ai ?_ |refine Ab ?_ |refine Aq ?_ |refine Ag ?_ |refine Ae Aa rfl ?_ |refine An Aa 1 rfl rfl rfl ?_)
 refine AM (ι:=Yn) (fun i=>[(0,AF xb),(1,.slice la ln lc),(15,.slice a K.length c),(16,.int .i64 (K.length:Int)),(17,.int .i64 (i.i:Int)),(5,.slice i.a5 (outs i.i).length i.c5),(6,.slice i.a6 i.KL.length i.c6)])
  (fun i=>[.row w.heap.size (.slice i.a6 i.KL.length i.c6) 146 4 i.KL.length (Bw i.KL),.rep (fun w=>(G8 i.KL).at_ w i.GL (.bool true)) i.GL false,.row w.heap.size (.slice i.a5 (outs i.i).length i.c5) 32 1 (outs i.i).length (Bj (outs i.i)),.rep (fun w=>((Az Bg).vp rl).at_ w Fl (.slice la ln lc)) Fl false,.blk xb (Mh f m a K.length c last) true,.row 0 (.slice a K.length c) 146 4 K.length (Bw K),.rep (fun w=>(G8 K).at_ w G (.bool true)) G false])
  (fun i=>i.i <= K.length/\DN i.KL=D1 ((DN K).take i.i) s/\i.KL.length <= i.i/\∀ k,i.GL k->w.heap.size <= k) (fun i=>K.length - i.i) ⟨0,none,0,[],none,0,fun _=>False⟩ ⟨Nat.zero_le _,rfl,Nat.le_refl _,fun k hk=>hk.elim⟩ (by dsimp only;rw [ho0];repeat (first |exact As.nil |refine As.cons rfl ?_)) (fun w' hw=>?_) ?_
 ·dsimp only;rw [ho0];exact (((hw.nilRow 32 1).none (p:=G8 []) (v:=.bool true) (fun w p hp=>by cases hp) false).nilRow 146 4)
 rintro ⟨i,a5,c5,KL,a6,c6,GL⟩ ⟨hi,hKL,hKLl,hGL⟩;dsimp only at hi hKL hKLl hGL ⊢;have hbi:=hob i;repeat (first |refine Ai ?_ |refine Ab ?_ |refine Ag ?_ |refine Ae Aa rfl ?_)
 refine Ak rfl (fun hlt=>?_) (fun hge=>?_);rotate_left
 ·have hie:i=K.length:=by omega
  subst hie;rw [hol] at hbi ⊢;rw [List.take_of_length_le (by rw [List.length_map];exact Nat.le_refl _)] at hKL;repeat (first |refine Ai ?_ |refine Ab ?_ |refine Ag ?_ |refine Ad ?_ |refine AB ?_ |refine Al ?_ |refine AH ?_ |refine Ae Aa rfl ?_ |refine Ax Aa 4 rfl rfl rfl rfl rfl rfl ?_)
  refine Eb rfl Tryz.call71 (fun w1 h1=>FR w1 (Ex (h1.own _ (Af (i:=2) rfl)) rfl (fun x hx=>hok.nfit (List.mem_filter.1 hx).1)) (by omega)) (fun a2 c2 hc2 hd2=>?_);repeat (first |refine Ag ?_ |refine AC ?_ |refine Ae Aa rfl ?_)
  refine AZ rfl rfl (fun w' hw=>?_)
  obtain ⟨F',g1,g2,g3⟩:=Gi (base:=w.heap.size) (F0:=F) (K:=KL) (a:=a6) (c:=c6) (G:=GL) (f:=f) (m:=m) (last:=last) (xb:=xb) (gs:=D1 (DN K) s) (ol:=[.row w.heap.size (.slice a2 (Bt ((Aw (DN K)).filter s)).length c2) 32 1 (Bt ((Aw (DN K)).filter s)).length (Bj (Bt ((Aw (DN K)).filter s)))]) [.row 0 (.slice a K.length c) 146 4 K.length (Bw K)] ((hw.pm [5,1,2,6,0,3,4,7] rfl rfl rfl).less (by repeat (first |exact Au.nil |refine Au.keep ?_ |refine Au.dropR ?_ |refine Au.dropW (Nat.le_refl _) ?_))) hKL hp (hok.rm s) (Nn _ _) hF (fun e he k hk=>by
   rw [List.mem_singleton] at he;subst he
   exact (World.ownsRow.lt (hw.own _ (Af (i:=0) rfl)) k hk).1) (fun e he=>by
   rw [List.mem_singleton] at he;subst he
   exact .inl rfl) (JR (.inl hFx) (fun k hk=>.inr (World.ownsRow.lt (hw.own _ (Af (i:=1) rfl)) k hk).1) fun k hk=>.inr (hGL k hk)) (fun e he=>by
   rw [List.mem_singleton] at he;subst he
   exact ⟨rfl,fun k hk=>.inl (hFr k hk)⟩)
  exact ⟨_,_,rfl,F',g1,g2,g3.pm [1,0] rfl rfl rfl⟩
 obtain ⟨⟨g,xa,xn,xc⟩,hpi⟩:∃ p,K[i]? =some p:=⟨_,List.getElem?_eq_getElem (by omega)⟩;have hpm:=List.mem_of_getElem? hpi
 have hgi:(DN K)[i]? =some g:=by rw [List.getElem?_map,hpi];rfl
 have hgm:g ∈ DN K:=List.mem_of_getElem? hgi
 have htk:(DN K).take (i + 1)=(DN K).take i ++ [g]:=by rw [List.take_add_one,hgi];rfl
 refine EY (fun w1 g1=>((g1.own _ (Af (i:=6) rfl)).1 _ hpm).len) (fun hpn=>?_);dsimp only at hpn;subst hpn;have hgl:g.L.length <= 60000:=Nat.le_trans (Jj hgm) hlen
 have hnx:outs (i + 1)=outs i ++ g.L.filter s:=by
  rw [houts];dsimp only;rw [htk,Aw,List.flatMap_append,List.filter_append];simp
 have hbi1:=hob (i + 1);rw [hnx,List.length_append] at hbi1;have hrm:=Ql ((DN K).take i) g s;rw [<-htk,<-hKL] at hrm;repeat (first |refine Ai ?_ |refine Ab ?_ |refine Aq ?_ |refine Ad ?_ |refine Ao ?_)
 refine Fi 5 rfl (by omega) (fun bK hbK=>?_);subst hbK;refine BE (Bs (sz:=4) Aa rfl rfl rfl rfl rfl rfl rfl (j:=i) rfl (by omega)) ?_
 refine BR Aa (vs:=ER ⟨g,⟨xa,g.L.length,xc⟩⟩) rfl rfl rfl (fun w' hw jj u hu=>by
  rw [Addr.add_lit,Nat.zero_add]
  exact Cn (hw.own _ (Af (i:=5) rfl)) (by omega) (DC hpi hu)) ?_
 refine AY Aa rfl (fun b8 hb8=>?_);repeat (first |refine Ai ?_ |refine Ab ?_ |refine Ag ?_ |refine Ae Aa rfl ?_ |refine An Aa 0 rfl rfl rfl ?_ |refine Ax Aa 0 rfl rfl rfl rfl rfl rfl ?_)
 refine BN (ι:=Yg) (fun i=>True) (fun jj=>[(0,AF xb),(1,.slice la ln lc),(15,.slice (some ⟨bK,0,none⟩) K.length c),(16,.int .i64 (K.length:Int)),(17,.int .i64 (i:Int)),(6,.slice a6 KL.length c6),(8,.pointer (some ⟨b8,0,none⟩)),(5,.slice jj.a5 (outs (i + 1)).length jj.c5),(9,.slice jj.a9 (Cg s g).L.length jj.c9)])
  (fun jj=>[.row w.heap.size (.slice jj.a9 (Cg s g).L.length jj.c9) 32 1 (Cg s g).L.length (Bj (Cg s g).L),.row w.heap.size (.slice jj.a5 (outs (i + 1)).length jj.c5) 32 1 (outs (i + 1)).length (Bj (outs (i + 1))),.blk b8 (.cells ⟨ER ⟨g,⟨xa,g.L.length,xc⟩⟩⟩ 146 (0,0)) true,.row w.heap.size (.slice a6 KL.length c6) 146 4 KL.length (Bw KL),.rep (fun w=>(G8 KL).at_ w GL (.bool true)) GL false,.rep (fun w=>((Az Bg).vp rl).at_ w Fl (.slice la ln lc)) Fl false,.blk xb (Mh f m (some ⟨bK,0,none⟩) K.length c last) true,.row 0 (.slice (some ⟨bK,0,none⟩) K.length c) 146 4 K.length (Bw K),.rep (fun w=>(G8 K).at_ w G (.bool true)) G false]) ?_ ?_
 ·have hi0:(g.L.take 0).filter s= []:=rfl;refine Aq ?_
  refine AM (ι:=Yg) (fun jj=>[(0,AF xb),(1,.slice la ln lc),(15,.slice (some ⟨bK,0,none⟩) K.length c),(16,.int .i64 (K.length:Int)),(17,.int .i64 (i:Int)),(6,.slice a6 KL.length c6),(8,.pointer (some ⟨b8,0,none⟩)),(22,.slice xa g.L.length xc),(23,.int .i64 (g.L.length:Int)),(24,.int .i64 (jj.j:Int)),(5,.slice jj.a5 (outs i ++ (g.L.take jj.j).filter s).length jj.c5),(9,.slice jj.a9 ((g.L.take jj.j).filter fun n=>!s n).length jj.c9)])
   (fun jj=>[.row w.heap.size (.slice jj.a9 ((g.L.take jj.j).filter fun n=>!s n).length jj.c9) 32 1 ((g.L.take jj.j).filter fun n=>!s n).length (Bj ((g.L.take jj.j).filter fun n=>!s n)),.blk b8 (.cells ⟨ER ⟨g,⟨xa,g.L.length,xc⟩⟩⟩ 146 (0,0)) true,.row w.heap.size (.slice a6 KL.length c6) 146 4 KL.length (Bw KL),.rep (fun w=>(G8 KL).at_ w GL (.bool true)) GL false,.row w.heap.size (.slice jj.a5 (outs i ++ (g.L.take jj.j).filter s).length jj.c5) 32 1 (outs i ++ (g.L.take jj.j).filter s).length (Bj (outs i ++ (g.L.take jj.j).filter s)),.rep (fun w=>((Az Bg).vp rl).at_ w Fl (.slice la ln lc)) Fl false,.blk xb (Mh f m (some ⟨bK,0,none⟩) K.length c last) true,.row 0 (.slice (some ⟨bK,0,none⟩) K.length c) 146 4 K.length (Bw K),.rep (fun w=>(G8 K).at_ w G (.bool true)) G false])
   (fun jj=>jj.j <= g.L.length) (fun jj=>g.L.length - jj.j) ⟨0,a5,c5,none,0⟩ (Nat.zero_le _) (by dsimp only;rw [hi0,List.append_nil];repeat (first |exact As.nil |refine As.cons rfl ?_)) (fun w' hw=>by dsimp only;rw [hi0,List.append_nil];exact hw.nilRow _ _) ?_
  rintro ⟨j,e5,d5,e9,d9⟩ hj;dsimp only at hj ⊢;have hfl1:=List.length_filter_le s (g.L.take j);have hfl2:=List.length_filter_le (fun n=>!s n) (g.L.take j);rw [List.length_take] at hfl1 hfl2;repeat (first |refine Ai ?_ |refine Ab ?_ |refine Ag ?_ |refine Ae Aa rfl ?_)
  refine Ak rfl (fun hlt2=>?_) (fun hge2=>?_);rotate_left
  ·have hje:j=g.L.length:=by omega
   subst hje;repeat (first |refine Ad ?_ |refine AB ?_ |refine Al ?_ |refine AH ?_)
   refine ⟨⟨0,e5,d5,e9,d9⟩,trivial,?_,fun w' hw=>?_⟩
   ·dsimp only;rw [hnx,show (Cg s g).L=(g.L.take g.L.length).filter fun n=>!s n from by rw [List.take_length];rfl,List.take_length];repeat (first |exact As.nil |refine As.cons rfl ?_)
   ·dsimp only;rw [hnx,show (Cg s g).L=(g.L.take g.L.length).filter fun n=>!s n from by rw [List.take_length];rfl];rw [List.take_length] at hw ⊢;exact hw.pm [0,4,1,2,3,5,6,7,8] rfl rfl rfl
  have hjl:j < g.L.length:=by omega
  have hs1:=FE hjl s;have hs2:=FE hjl fun n=>!s n;refine EY (X:=∃ lb lo,xa=some ⟨lb,lo,none⟩) (fun w1 g1=>(LD ((g1.own _ (Af (i:=8) rfl)).1 _ hpm) hjl).imp fun _ h=>h.imp fun _ h=>h.1) (fun ⟨lb,lo,hlb⟩=>?_);subst hlb;repeat (first |refine Ai ?_ |refine Ab ?_ |refine Aq ?_ |refine Ad ?_ |refine Ao ?_)
  refine BE (Bs (sz:=1) Aa rfl rfl rfl rfl rfl rfl rfl (j:=j) rfl hjl) ?_;refine Bh Aa (v:=.int .u64 g.L[j]) rfl rfl (fun w' hw=>by rw [Nat.mul_one];exact P6 ((hw.own _ (Af (i:=8) rfl)).1 _ hpm) hjl) ?_;repeat (first |refine Ai ?_ |refine Ab ?_ |refine Ag ?_ |refine Ae Aa rfl ?_)
  have hhas:∀ w1 ol1,Hp w w1 ol1->B9 ol1 5=some (.rep (fun w=>((Az Bg).vp rl).at_ w Fl (.slice la ln lc)) Fl false)->Calls Tryz.prog 79 #[.slice la ln lc,.int .u64 g.L[j]] w1 fun e w'=>e= .returned (.bool (s g.L[j]))/\Below w1.heap.size w1 w':=fun w1 ol1 h1 h5=>Qm la ln lc rl _ _ w1 (Br.of_val (h1.own _ (Af h5)).1) hln hs
  cases hsx:s g.L[j] with
  |true=>
   rw [hsx] at hs1 hs2 hhas;rw [if_pos rfl] at hs1;rw [if_neg (by decide),List.append_nil] at hs2;refine Be (v:=.bool true) rfl Tryz.call79 (fun w1 h1=>hhas w1 _ h1 rfl) ?_;repeat (first |refine Ag ?_)
   refine AX rfl ?_;repeat (first |refine Ae Aa rfl ?_ |refine Ap ?_)
   refine AO Aa rfl rfl rfl rfl rfl rfl rfl rfl rfl rfl rfl rfl (fun b33 hb33=>?_);refine AT (ty:=0) Aa 5 (k:=1) (news:=Bj [g.L[j]]) rfl rfl rfl rfl rfl rfl rfl rfl rfl (by decide) (fun w' hw=>Sl.of_blk (hw.own _ (Af (i:=0) rfl)) rfl (fun j u hu=>by rw [Nat.zero_add];exact hu)) (fun u hu=>Ej hu) (by rw [List.length_append];simp only [maxLen];omega) (by show (_ + _) * 8 <= _;rw [List.length_append];omega) rfl (fun A1 C1 hc3 hd3=>⟨_,rfl,?_⟩);rw [show Bj (outs i ++ (g.L.take j).filter s) ++ Bj [g.L[j]]=Bj (outs i ++ (g.L.take (j + 1)).filter s) from by rw [hs1,<-List.append_assoc];exact List.map_append.symm,show (outs i ++ (g.L.take j).filter s).length + 1=(outs i ++ (g.L.take (j + 1)).filter s).length from by rw [hs1,<-List.append_assoc,List.length_append (bs:=[_])];rfl];repeat (first |refine Ab ?_ |refine Ag ?_ |refine Ad ?_ |refine Am ?_ |refine AD Aa rfl (by omega) ?_ |refine Ae Aa rfl ?_)
   exact ⟨⟨j + 1,A1,C1,e9,d9⟩,hjl,by dsimp only;rw [hs2];repeat (first |exact As.nil |refine As.cons rfl ?_),fun w' hw=>by dsimp only;rw [hs2];exact hw.less (by repeat (first |exact Au.nil |refine Au.keep ?_ |refine Au.dropB (by first |assumption |omega) ?_)),by show g.L.length - (j + 1) < g.L.length - j;omega⟩
  |false=>
   rw [hsx] at hs1 hs2 hhas;rw [if_neg (by decide),List.append_nil] at hs1;rw [if_pos (by decide)] at hs2;refine Be (v:=.bool false) rfl Tryz.call79 (fun w1 h1=>hhas w1 _ h1 rfl) ?_;repeat (first |refine Ag ?_)
   refine AG rfl ?_;repeat (first |refine Ae Aa rfl ?_ |refine Ap ?_)
   refine AO Aa rfl rfl rfl rfl rfl rfl rfl rfl rfl rfl rfl rfl (fun b37 hb37=>?_);refine AT (ty:=0) Aa 1 (k:=1) (news:=Bj [g.L[j]]) rfl rfl rfl rfl rfl rfl rfl rfl rfl (by decide) (fun w' hw=>Sl.of_blk (hw.own _ (Af (i:=0) rfl)) rfl (fun j u hu=>by rw [Nat.zero_add];exact hu)) (fun u hu=>Ej hu) (by simp only [maxLen];omega) (by show (_ + _) * 8 <= _;omega) rfl (fun A1 C1 hc3 hd3=>⟨_,rfl,?_⟩);rw [show Bj ((g.L.take j).filter fun n=>!s n) ++ Bj [g.L[j]]=Bj ((g.L.take (j + 1)).filter fun n=>!s n) from by rw [hs2];exact List.map_append.symm,show ((g.L.take j).filter fun n=>!s n).length + 1=((g.L.take (j + 1)).filter fun n=>!s n).length from by rw [hs2,List.length_append];rfl];repeat (first |refine Ab ?_ |refine Ag ?_ |refine Ad ?_ |refine Am ?_ |refine AD Aa rfl (by omega) ?_ |refine Ae Aa rfl ?_)
   exact ⟨⟨j + 1,e5,d5,A1,C1⟩,hjl,by dsimp only;rw [hs1];repeat (first |exact As.nil |refine As.cons rfl ?_),fun w' hw=>by dsimp only;rw [hs1];exact hw.less (by repeat (first |exact Au.nil |refine Au.keep ?_ |refine Au.dropB (by first |assumption |omega) ?_)),by show g.L.length - (j + 1) < g.L.length - j;omega⟩
 rintro ⟨_,b5,d5,b9,d9⟩ _;dsimp only;repeat (first |refine Ai ?_ |refine Ab ?_ |refine Ag ?_ |refine Ae Aa rfl ?_)
 refine Ak rfl (fun h0=>?_) (fun h0=>?_)
 ·have hne':(Cg s g).L ≠ []:=fun e=>by rw [e] at h0;exact absurd h0 (by decide)
  rw [if_neg hne'] at hrm;refine L5 ((Az (A8 .u64)).vp (Cg s g).L) (fun w' h=>(Ex h rfl (fun x hx=>hok.fit g hgm x (List.mem_filter.1 hx).1)).val) (fun Fo hFo=>?_);repeat (first |refine Ai ?_ |refine Ab ?_ |refine Ag ?_ |refine Ae Aa rfl ?_ |refine Ap ?_ |refine An Aa 2 rfl rfl rfl ?_ |refine Ax Aa 2 rfl rfl rfl rfl rfl rfl ?_)
  refine AO Aa rfl rfl rfl rfl rfl rfl rfl rfl rfl rfl rfl rfl (fun b47 hb47=>?_);refine AT (ty:=0) Aa 4 (k:=1) (news:=Bw [⟨Cg s g,⟨b9,(Cg s g).L.length,d9⟩⟩]) rfl rfl rfl rfl rfl rfl rfl rfl rfl (by decide) (fun w' hw=>Sl.of_blk (hw.own _ (Af (i:=0) rfl)) rfl (fun j u hu=>by rw [Nat.zero_add];exact hu)) (fun u hu=>Hn hu) (by simp only [maxLen];omega) (by show (_ + _) * 48 <= _;omega) rfl (fun A1 C1 hc3 hd3=>⟨_,rfl,?_⟩);rw [<-Kl];repeat (first |refine Ab ?_ |refine Ag ?_ |refine Ad ?_ |refine Am ?_ |refine AD Aa rfl (by omega) ?_ |refine Ae Aa rfl ?_)
  obtain ⟨KL',hKL'⟩:∃ KL',KL'=KL ++ [(⟨Cg s g,⟨b9,(Cg s g).L.length,d9⟩⟩:GX)]:=⟨_,rfl⟩
  have hKLn:KL'.length=KL.length + 1:=by rw [hKL',List.length_append];rfl
  rw [<-hKL',<-hKLn];skip
  exact ⟨⟨i + 1,b5,d5,KL',A1,C1,fun k=>Fo k \/ GL k⟩,⟨by show i + 1 <= K.length;omega,by rw [hrm,hKL'];show List.map GX.g (KL ++ _)=_;rw [List.map_append];rfl,by show KL'.length <= i + 1;omega,fun k hk=>hk.elim (hFo k) (hGL k)⟩,by repeat (first |exact As.nil |refine As.cons rfl ?_),fun w' hw=>by
   dsimp only
   exact (((hw.pm [1,5,4,2,6,7,8,9,3,0] rfl rfl rfl).merge (Ψ:=fun w=>(G8 KL').at_ w (fun k=>Fo k \/ GL k) (.bool true)) (fun q1 q2=>hKL' ▸ Qv q1 q2) (Vp.loc (p:=G8 _))).pm [1,0,2,3,4,5,6,7,8] rfl rfl rfl).less (by repeat (first |exact Au.nil |refine Au.keep ?_ |refine Au.dropB (by first |assumption |omega) ?_)),by show K.length - (i + 1) < K.length - i;omega⟩
 ·have hne':(Cg s g).L= []:=List.length_eq_zero_iff.1 (by omega);rw [if_pos hne',List.append_nil] at hrm;repeat (first |refine Ab ?_ |refine Ag ?_ |refine Ad ?_ |refine Am ?_ |refine Ao ?_ |refine AD Aa rfl (by omega) ?_ |refine Ae Aa rfl ?_)
  exact ⟨⟨i + 1,b5,d5,KL,a6,c6,GL⟩,⟨by show i + 1 <= K.length;omega,hrm.symm,by show KL.length <= i + 1;omega,hGL⟩,by repeat (first |exact As.nil |refine As.cons rfl ?_),fun w' hw=>by
   dsimp only
   exact (hw.pm [3,4,1,5,6,7,8,0,2] rfl rfl rfl).less (by repeat (first |exact Au.nil |refine Au.keep ?_ |refine Au.dropB (by first |assumption |omega) ?_ |refine Au.dropW (Nat.le_refl _) ?_)),by show K.length - (i + 1) < K.length - i;omega⟩
end
theorem IA {l:List Int} (h:l.Nodup) {i j:Nat} {hi:i < l.length} {hj:j < l.length} (e:l[i]=l[j]):i=j:=by
 rcases Nat.lt_trichotomy i j with h1 |h1 |h1
 ·exact absurd e (List.pairwise_iff_getElem.1 h i j hi hj h1)
 ·exact h1
 ·exact absurd e.symm (List.pairwise_iff_getElem.1 h j i hj hi h1)
def Dg (gs:List BG) (dn:List Int) (now:Int) (i:Nat):Option Nat->Prop
 |none=>∀ (j:Nat) (g:BG),j < i->gs[j]? =some g->g.id ∉ dn->¬ g.tm <= now
 |some j=>j < i/\∃ g,gs[j]? =some g/\g.id ∉ dn/\g.tm <= now/\∀ (j':Nat) (g':BG),j' < i->gs[j']? =some g'->g'.id ∉ dn->g'.tm <= now->g.tm < g'.tm \/ (g.tm=g'.tm/\j <= j')
section
variable {gs:List BG} {dn:List Int} {now last:Int} {i:Nat} {b:Option Nat} {g:BG}
theorem Dg.zero:Dg gs dn now 0 none:=fun j g h=>absurd h (Nat.not_lt_zero _)
theorem Dg.skip (h:Dg gs dn now i b) (hg:gs[i]? =some g) (hno:g.id ∈ dn \/ ¬ g.tm <= now):Dg gs dn now (i + 1) b:=by
 cases b with
 |none=>
  intro j g' hj hg' hd;by_cases e:j=i
  ·subst e;rw [hg] at hg';cases hg';exact hno.resolve_left hd
  ·exact h j g' (by omega) hg' hd
 |some b=>
  obtain ⟨h1,gb,h2,h3,h4,h5⟩:=h;refine ⟨by omega,gb,h2,h3,h4,fun j g' hj hg' hd ht=>?_⟩;by_cases e:j=i
  ·subst e;rw [hg] at hg';cases hg';exact (hno.elim hd fun h=>h ht).elim
  ·exact h5 j g' (by omega) hg' hd ht
theorem Dg.first (h:Dg gs dn now i none) (hg:gs[i]? =some g) (hd:g.id ∉ dn) (ht:g.tm <= now):Dg gs dn now (i + 1) (some i):=by
 refine ⟨Nat.lt_succ_self _,g,hg,hd,ht,fun j g' hj hg' hd' ht'=>?_⟩;by_cases e:j=i
 ·subst e;rw [hg] at hg';cases hg';exact .inr ⟨rfl,Nat.le_refl _⟩
 ·exact absurd ht' (h j g' (by omega) hg' hd')
theorem Dg.better {j:Nat} {gj:BG} (h:Dg gs dn now i (some j)) (hj:gs[j]? =some gj) (hg:gs[i]? =some g) (hd:g.id ∉ dn) (ht:g.tm <= now) (hlt:g.tm < gj.tm):Dg gs dn now (i + 1) (some i):=by
 obtain ⟨h1,gb,h2,h3,h4,h5⟩:=h;rw [hj] at h2;cases h2;refine ⟨Nat.lt_succ_self _,g,hg,hd,ht,fun j' g' hj' hg' hd' ht'=>?_⟩;by_cases e:j'=i
 ·subst e;rw [hg] at hg';cases hg';exact .inr ⟨rfl,Nat.le_refl _⟩
 ·have:=h5 j' g' (by omega) hg' hd' ht';exact .inl (by omega)
theorem Dg.worse {j:Nat} {gj:BG} (h:Dg gs dn now i (some j)) (hj:gs[j]? =some gj) (hg:gs[i]? =some g) (hlt:¬ g.tm < gj.tm):Dg gs dn now (i + 1) (some j):=by
 obtain ⟨h1,gb,h2,h3,h4,h5⟩:=h;rw [hj] at h2;cases h2;refine ⟨by omega,gj,hj,h3,h4,fun j' g' hj' hg' hd' ht'=>?_⟩;by_cases e:j'=i
 ·subst e;rw [hg] at hg';cases hg';by_cases e2:gj.tm=g.tm
  ·exact .inr ⟨e2,by omega⟩
  ·exact .inl (by omega)
 ·exact h5 j' g' (by omega) hg' hd' ht'
theorem NB (hok:C7 last gs) {i j:Nat} {g g':BG} (h1:gs[i]? =some g) (h2:gs[j]? =some g') (h:i < j):g.id < g'.id:=by
 have hi:=(List.getElem?_eq_some_iff.1 h1);have hj:=(List.getElem?_eq_some_iff.1 h2);obtain ⟨hil,rfl⟩:=hi;obtain ⟨hjl,rfl⟩:=hj;have:=List.pairwise_iff_getElem.1 hok.ids i j (by rw [List.length_map];exact hil) (by rw [List.length_map];exact hjl) h
 rwa [List.getElem_map,List.getElem_map] at this
theorem Dg.none_end (hok:C7 last gs) {k:Nat} (hk:k <= (D8 gs now).length) (h:Dg gs ((D8 gs now).take k) now gs.length none):k=(D8 gs now).length:=by
 refine Nat.le_antisymm hk (Nat.le_of_not_lt fun hlt=>?_);have hx:=List.getElem_mem hlt;obtain ⟨g,hg,hgi⟩:=H5 hx;obtain ⟨j,hj⟩:=List.mem_iff_getElem?.1 hg;refine h j g (List.getElem?_eq_some_iff.1 hj).1 hj (fun hm=>?_) ((FH hok hg).1 (hgi ▸ hx));obtain ⟨i,hi,e⟩:=List.getElem_of_mem hm;rw [List.length_take] at hi;rw [List.getElem_take,hgi] at e;have:=IA (GR hok (now:=now)) e;omega
theorem Dg.some_end (hok:C7 last gs) {k j:Nat} (hk:k <= (D8 gs now).length) (h:Dg gs ((D8 gs now).take k) now gs.length (some j)) (hg:gs[j]? =some g):(D8 gs now)[k]? =some g.id:=by
 obtain ⟨h1,gb,h2,h3,h4,h5⟩:=h;rw [hg] at h2;cases h2;have hgm:=List.mem_of_getElem? hg;have hin:=(FH hok hgm).2 h4;obtain ⟨i,hi,e⟩:=List.getElem_of_mem hin
 have hki:k <= i:=Nat.le_of_not_lt fun hlt=>h3 (by
  rw [<-e]
  exact List.mem_take_iff_getElem.2 ⟨i,by omega,rfl⟩)
 rcases Nat.lt_or_eq_of_le hki with hlt |rfl
 ·exfalso;have hx:=List.getElem_mem (show k < (D8 gs now).length by omega);obtain ⟨g',hg',hgi'⟩:=H5 hx;obtain ⟨j',hj'⟩:=List.mem_iff_getElem?.1 hg';have ht':=(FH hok hg').1 (hgi' ▸ hx)
  have hd':g'.id ∉ (D8 gs now).take k:=fun hm=>by
   obtain ⟨i',hi',e'⟩:=List.getElem_of_mem hm;rw [List.length_take] at hi';rw [List.getElem_take,hgi'] at e';have:=IA (GR hok (now:=now)) e';omega
  have h6:=h5 j' g' (List.getElem?_eq_some_iff.1 hj').1 hj' hd' ht';obtain ⟨T,hT⟩:∃ T,T=(Hs gs).takeWhile fun p=>decide (p.2 <= now):=⟨_,rfl⟩
  have hTI:D8 gs now=T.map (·.1):=by rw [hT];rfl
  have hTs:T.Pairwise DV:=hT ▸ (Eg hok.idn).sublist (List.takeWhile_sublist _);have hTm:∀ p ∈ T,∃ x ∈ gs,bT x=p:=fun p hp=>FW.1 ((List.takeWhile_sublist _).subset (hT ▸ hp))
  have hil:i < T.length:=by rw [hTI,List.length_map] at hi;exact hi
  have hbef:=List.pairwise_iff_getElem.1 hTs k i (by omega) hil hlt;obtain ⟨x,hx1,hx2⟩:=hTm _ (List.getElem_mem (show k < T.length by omega));obtain ⟨y,hy1,hy2⟩:=hTm _ (List.getElem_mem hil)
  have e1:x.id=g'.id:=by
   have:(D8 gs now)[k]'(by omega)=T[k].1:=by simp only [hTI,List.getElem_map]
   rw [hgi',this,<-hx2]
  have e2:y.id=g.id:=by
   have:(D8 gs now)[i]=T[i].1:=by simp only [hTI,List.getElem_map]
   rw [<-e,this,<-hy2]
  obtain rfl:=CU BG.id hok.idn hx1 hg' e1;obtain rfl:=CU BG.id hok.idn hy1 hgm e2;rw [<-hx2,<-hy2] at hbef;unfold DV at hbef;dsimp only at hbef
  rcases h6 with h6 |⟨h6,h7⟩
  ·omega
  ·rcases Nat.lt_or_eq_of_le h7 with h7 |rfl
   ·have:=NB hok hg hj' h7;omega
   ·rw [hg] at hj';cases hj';have:=IA (GR hok (now:=now)) (e.trans hgi');omega
 ·rw [List.getElem?_eq_getElem hi,e]
end
def bv (b:Option Nat):Int:=match b with
 |some j=>(j:Int)
 |none=>-1
structure X9 where
 k:Nat
 K:List GX
 ds:List Bool
 a5:Option Addr
 c5:Nat
 css:List (List Value)
 Fo:Nat->Prop
structure X8 where
 i:Nat
 b:Option Nat
section
variable {xb:Nat} {f m last:Int} {gs:List BG} {w:World} {F:Nat->Prop}
theorem Kj {g':BG} {x:SX}:∀ {K:List GX} {j:Nat} {p:GX},K[j]? =some p->p.x=x->p.g.id=g'.id->Bw (K.set j ⟨g',x⟩)=((Bw K).set (j * 4 + 2) (.int .i64 g'.tm)).set (j * 4 + 3) (.int .i64 g'.tries)
 | [],_,_,h,_,_=>by simp at h
 |q::K,0,p,h,hx,hi=>by
  rw [List.getElem?_cons_zero] at h;cases h;subst hx;show [Value.int .u64 g'.id,_,_,_] ++ Bw K=((ER q ++ Bw K).set _ _).set _ _;rw [<-hi];rfl
 |q::K,j + 1,p,h,hx,hi=>by
  rw [List.getElem?_cons_succ] at h;have ih:=Kj (K:=K) (j:=j) h hx hi;show ER q ++ Bw (K.set j ⟨g',x⟩)=((ER q ++ Bw K).set ((j + 1) * 4 + 2) _).set ((j + 1) * 4 + 3) _;rw [ih,List.set_append_right _ _ (by show 4 <= _;omega),List.set_append_right _ _ (by show 4 <= _;omega),show (j + 1) * 4 + 2 - (ER q).length=j * 4 + 2 by show (j + 1) * 4 + 2 - 4=_;omega,show (j + 1) * 4 + 3 - (ER q).length=j * 4 + 3 by show (j + 1) * 4 + 3 - 4=_;omega]
set_option maxHeartbeats 8000000 in
theorem Vg (h:(DM xb f m gs last).at_ w F (.bool true)) (hF:∀ k,F k->k < w.heap.size) {now:Int} (hnow:0 <= now/\now <= 1152921504606846976) (htr:∀ g ∈ gs,g.tries < 1099511627776):
 Calls Tryz.prog 59 #[AF xb,.int .i64 now] w fun e w'=>∃ v Fv,e= .returned v/\(∀ k,Fv k->w.heap.size <= k)/\∃ F':Nat->Prop,(∀ k,F k->F' k)/\(∀ k,F' k->F k \/ w.heap.size <= k)/\
  Hp w w' [.rep (fun w=>(PT.vp (DB gs now)).at_ w Fv v) Fv false,.rep (fun w=>(DM xb f m (EQ f m now gs) last).at_ w F' (.bool true)) F' true]:=by
 obtain ⟨K0,a,c,G,⟨rfl,hp,hok,hne⟩,hst,hcov⟩:=Jh h;have hcnt:=hok.cnt;have hlen:=hok.len;rw [List.length_map] at hcnt;have hFx:F xb:=hcov _ (Af (i:=0) rfl) xb rfl;have hFr:∀ k,(Value.slice a K0.length c).ownBlock=some k->F k:=hcov _ (Af (i:=1) rfl);have hFG:∀ k,G k->F k:=hcov _ (Af (i:=2) rfl);obtain ⟨ids,hids⟩:∃ ids,ids=D8 (DN K0) now:=⟨_,rfl⟩
 have hil:ids.length <= K0.length:=by
  have:=hids ▸ (H6 (gs:=DN K0) (now:=now))
  rwa [List.length_map] at this
 have hind:ids.Nodup:=hids ▸ GR hok;refine BO Tryz.func59 rfl rfl hst ?_;repeat (first |refine Ai ?_ |refine Ab ?_ |refine Ag ?_ |refine Ae Aa rfl ?_ |refine An Aa 0 rfl rfl rfl ?_)
 refine WH Aa (m:=K0.length) (c:=K0.length) rfl rfl rfl rfl rfl rfl rfl rfl (Nat.le_refl _) (by show 1 * _ <= _;omega) (by omega) (fun bd hbd=>?_)
 have hz:(madeCells #[.bool false] (K0.length * 1)).toList=(List.replicate K0.length false).map .bool:=by rw [toList_madeCells_one,List.map_replicate,Nat.mul_one]
 refine B0 (ol':=[.blk bd (.cells ⟨(List.replicate K0.length false).map .bool⟩ 4 (0,0)) true,.blk xb (Mh f m a K0.length c last) true,.row 0 (.slice a K0.length c) 146 4 K0.length (Bw K0),.rep (fun w=>(G8 K0).at_ w G (.bool true)) G false]) (fun w h=>by rw [<-hz];exact h) ?_
 have e0:∀ g:BG,B1 f m now (ids.take 0) g=g:=fun g=>by unfold B1;rw [if_neg (by simp)]
 repeat (first |refine Ag ?_ |refine Ae Aa rfl ?_)
 refine Aq ?_
 refine AM (ι:=X9) (fun q=>[(0,AF xb),(1,.int .i64 now),(6,.slice (some ⟨bd,0,none⟩) K0.length K0.length),(5,.slice q.a5 q.k q.c5)])
  (fun q=>[.row w.heap.size (.slice q.a5 q.k q.c5) 59 1 q.k q.css.flatten,.rep (fun w=>(Cj (Az (A8 .u64)) q.css ((ids.take q.k).map (Mj (DN K0)))).at_ w q.Fo (.bool true)) q.Fo false,.blk bd (.cells ⟨q.ds.map .bool⟩ 4 (0,0)) true,.blk xb (Mh f m a K0.length c last) true,.row 0 (.slice a K0.length c) 146 4 K0.length (Bw q.K),.rep (fun w=>(G8 K0).at_ w G (.bool true)) G false])
  (fun q=>q.k <= ids.length/\q.K.length=K0.length/\(∀ (i:Nat) (p:GX),K0[i]? =some p->q.K[i]? =some ⟨B1 f m now (ids.take q.k) p.g,p.x⟩/\q.ds[i]? =some (decide (p.g.id ∈ ids.take q.k)))/\q.ds.length=K0.length/\q.css.flatten.length=q.k/\∀ j,q.Fo j->w.heap.size <= j)
  (fun q=>ids.length - q.k) ⟨0,K0,List.replicate K0.length false,none,0,[],fun _=>False⟩ ⟨Nat.zero_le _,rfl,fun i p hpi=>⟨by dsimp only;rw [e0];exact hpi,by
   have:=(List.getElem?_eq_some_iff.1 hpi).1;dsimp only;rw [List.getElem?_replicate,if_pos this,List.take_zero]
   rfl⟩,List.length_replicate,rfl,fun j hj=>hj.elim⟩ (by repeat (first |exact As.nil |refine As.cons rfl ?_)) (fun w' hw=>((hw.none (p:=Cj (Az (A8 .u64)) [] []) (v:=.bool true) (fun w=>Cj.nil_) false).nilRow 59 1)) ?_
 rintro ⟨k,K,ds,a5,c5,css,Fo⟩ ⟨hk,hKn,hKp,hdn,hcss,hFo⟩;dsimp only at hk hKn hKp hdn hcss hFo ⊢;refine Aq ?_;repeat (first |refine Ai ?_ |refine Ab ?_ |refine Ag ?_ |refine Ae Aa rfl ?_ |refine An Aa 3 rfl rfl rfl ?_)
 refine BN (ι:=Option Nat) (fun b=>Dg (DN K0) (ids.take k) now K0.length b) (fun b=>[(0,AF xb),(1,.int .i64 now),(6,.slice (some ⟨bd,0,none⟩) K0.length K0.length),(5,.slice a5 k c5),(7,.int .i64 (bv b))])
  (fun b=>[.row w.heap.size (.slice a5 k c5) 59 1 k css.flatten,.rep (fun w=>(Cj (Az (A8 .u64)) css ((ids.take k).map (Mj (DN K0)))).at_ w Fo (.bool true)) Fo false,.blk bd (.cells ⟨ds.map .bool⟩ 4 (0,0)) true,.blk xb (Mh f m a K0.length c last) true,.row 0 (.slice a K0.length c) 146 4 K0.length (Bw K),.rep (fun w=>(G8 K0).at_ w G (.bool true)) G false]) ?_ ?_
 ·refine Aq ?_
  refine AM (ι:=X8) (fun q=>[(0,AF xb),(1,.int .i64 now),(6,.slice (some ⟨bd,0,none⟩) K0.length K0.length),(5,.slice a5 k c5),(7,.int .i64 (bv q.b)),(20,.slice a K0.length c),(21,.int .i64 (K0.length:Int)),(22,.int .i64 (q.i:Int))])
   (fun q=>[.row w.heap.size (.slice a5 k c5) 59 1 k css.flatten,.rep (fun w=>(Cj (Az (A8 .u64)) css ((ids.take k).map (Mj (DN K0)))).at_ w Fo (.bool true)) Fo false,.blk bd (.cells ⟨ds.map .bool⟩ 4 (0,0)) true,.blk xb (Mh f m a K0.length c last) true,.row 0 (.slice a K0.length c) 146 4 K0.length (Bw K),.rep (fun w=>(G8 K0).at_ w G (.bool true)) G false])
   (fun q=>q.i <= K0.length/\Dg (DN K0) (ids.take k) now q.i q.b) (fun q=>K0.length - q.i) ⟨0,none⟩ ⟨Nat.zero_le _,Dg.zero⟩ (by repeat (first |exact As.nil |refine As.cons rfl ?_)) (fun w' hw=>hw) ?_
  rintro ⟨i,b⟩ ⟨hi,hb⟩;dsimp only at hi hb ⊢;repeat (first |refine Ai ?_ |refine Ab ?_ |refine Ag ?_ |refine Ae Aa rfl ?_)
  refine Ak rfl (fun hlt=>?_) (fun hge=>?_);rotate_left
  ·have hie:i=K0.length:=by omega
   subst hie;repeat (first |refine Ad ?_ |refine AB ?_ |refine Al ?_ |refine AH ?_)
   exact ⟨b,hb,by repeat (first |exact As.nil |refine As.cons rfl ?_),fun w' hw=>hw⟩
  obtain ⟨⟨g,x⟩,hpi⟩:∃ p,K0[i]? =some p:=⟨_,List.getElem?_eq_getElem (by omega)⟩
  have hgi:(DN K0)[i]? =some g:=by rw [List.getElem?_map,hpi];rfl
  obtain ⟨hKi,hdi⟩:=hKp i _ hpi;dsimp only at hKi hdi;repeat (first |refine Ai ?_ |refine Ab ?_ |refine Aq ?_ |refine Ad ?_ |refine Ao ?_ |refine Ae Aa rfl ?_)
  refine Fi 4 rfl (by omega) (fun bK hbK=>?_);subst hbK;refine BE (Bs (sz:=4) Aa rfl rfl rfl rfl rfl rfl rfl (j:=i) rfl (by omega)) ?_
  refine BR Aa (vs:=ER ⟨B1 f m now (ids.take k) g,x⟩) rfl rfl rfl (fun w' hw jj u hu=>by
   rw [Addr.add_lit,Nat.zero_add]
   exact Cn (hw.own _ (Af (i:=4) rfl)) (by omega) (DC hKi hu)) ?_
  refine AY Aa rfl (fun b9 hb9=>?_);repeat (first |refine A5 (by kernel_rfl) (by kernel_rfl) ?_ |refine Ah Aa rfl ?_ |refine Ai ?_ |refine Ag ?_ |refine Ae Aa rfl ?_ |refine Ax Aa 0 rfl rfl rfl rfl rfl rfl ?_)
  refine Bx (Bs (sz:=1) Aa rfl rfl rfl rfl rfl rfl rfl (j:=i) rfl (by omega)) ?_
  refine Av Aa (v:=.bool (decide (g.id ∈ ids.take k))) rfl rfl (fun w' hw=>by
   rw [Nat.mul_one]
   exact Km (hw.own _ (Af (i:=3) rfl)) (by rw [List.getElem?_map,hdi];rfl)) ?_
  by_cases hd:g.id ∈ ids.take k
  ·refine BX 30 (v':=.bool true) rfl (congrArg Value.bool (decide_eq_true hd)) ?_;repeat (first |refine AN rfl ?_ |refine Ah Aa rfl ?_ |refine BP rfl rfl rfl ?_)
   refine AG rfl ?_;repeat (first |refine Ab ?_ |refine Ag ?_ |refine Ad ?_ |refine Am ?_ |refine Ao ?_ |refine AD Aa rfl (by omega) ?_ |refine Ae Aa rfl ?_)
   exact ⟨⟨i + 1,b⟩,⟨by show i + 1 <= K0.length;omega,hb.skip hgi (.inl hd)⟩,by repeat (first |exact As.nil |refine As.cons rfl ?_),fun w' hw=>hw.less (by repeat (first |exact Au.nil |refine Au.keep ?_ |refine Au.dropB (by first |assumption |omega) ?_)),by show K0.length - (i + 1) < K0.length - i;omega⟩
  have hgb:B1 f m now (ids.take k) g=g:=by unfold B1;rw [if_neg hd]
  rw [hgb];dsimp only;refine BX 30 (v':=.bool false) rfl (congrArg Value.bool (decide_eq_false hd)) ?_;repeat (first |refine Ah Aa rfl ?_ |refine AE Aa 0 rfl rfl rfl ?_)
  by_cases ht:g.tm <= now;rotate_left
  ·refine BX 38 (v':=.bool false) rfl (congrArg Value.bool (decide_eq_false ht)) ?_;repeat (first |refine AN rfl ?_ |refine Ah Aa rfl ?_ |refine BP rfl rfl rfl ?_)
   refine AG rfl ?_;repeat (first |refine Ab ?_ |refine Ag ?_ |refine Ad ?_ |refine Am ?_ |refine Ao ?_ |refine AD Aa rfl (by omega) ?_ |refine Ae Aa rfl ?_)
   exact ⟨⟨i + 1,b⟩,⟨by show i + 1 <= K0.length;omega,hb.skip hgi (.inr ht)⟩,by repeat (first |exact As.nil |refine As.cons rfl ?_),fun w' hw=>hw.less (by repeat (first |exact Au.nil |refine Au.keep ?_ |refine Au.dropB (by first |assumption |omega) ?_)),by show K0.length - (i + 1) < K0.length - i;omega⟩
  refine BX 38 (v':=.bool true) rfl (congrArg Value.bool (decide_eq_true ht)) ?_;repeat (first |refine Ah Aa rfl ?_)
  cases b with
  |none=>
   refine BX 41 (v':=.bool true) rfl rfl ?_;repeat (first |refine AN rfl ?_ |refine Ah Aa rfl ?_ |refine BP rfl rfl rfl ?_)
   refine AX rfl ?_;repeat (first |refine Ab ?_ |refine Ag ?_ |refine Ad ?_ |refine Am ?_ |refine AD Aa rfl (by omega) ?_ |refine Ae Aa rfl ?_ |refine Ap ?_)
   exact ⟨⟨i + 1,some i⟩,⟨by show i + 1 <= K0.length;omega,hb.first hgi hd ht⟩,by repeat (first |exact As.nil |refine As.cons rfl ?_),fun w' hw=>hw.less (by repeat (first |exact Au.nil |refine Au.keep ?_ |refine Au.dropB (by first |assumption |omega) ?_)),by show K0.length - (i + 1) < K0.length - i;omega⟩
  |some j=>
   have hb2:=hb;obtain ⟨hji,gj,hgj,hdj,htj,_⟩:=hb2;obtain ⟨⟨gj',xj⟩,hpj⟩:∃ p,K0[j]? =some p:=⟨_,List.getElem?_eq_getElem (by omega)⟩
   obtain rfl:gj'=gj:=by
    rw [List.getElem?_map,hpj] at hgj;exact Option.some.inj hgj
   obtain ⟨hKj,hdsj⟩:=hKp j _ hpj;dsimp only at hKj hdsj;rw [show B1 f m now (ids.take k) gj'=gj' from by unfold B1;rw [if_neg hdj]] at hKj;refine BX 41 (v':=.bool false) rfl (congrArg Value.bool (decide_eq_false (show ¬ ((j:Nat):Int) < 0 by omega))) ?_;repeat (first |refine Ah Aa rfl ?_ |refine AE Aa 0 rfl rfl rfl ?_ |refine AE Aa 4 rfl rfl rfl ?_)
   refine Bx (Bs (sz:=4) Aa rfl rfl rfl rfl rfl rfl rfl (j:=j) rfl (by omega)) ?_;repeat (first |refine Ah Aa rfl ?_)
   refine Av Aa (v:=.int .i64 gj'.tm) rfl rfl (fun w' hw=>by
    rw [Nat.zero_add]
    exact Cn (hw.own _ (Af (i:=5) rfl)) (by omega) (DC (j:=2) hKj rfl)) ?_
   repeat (first |refine AN rfl ?_ |refine Ah Aa rfl ?_)
   by_cases hlt3:g.tm < gj'.tm
   ·refine Ak rfl (fun _=>?_) (fun h=>absurd hlt3 h);repeat (first |refine Ab ?_ |refine Ag ?_ |refine Ad ?_ |refine Am ?_ |refine AD Aa rfl (by omega) ?_ |refine Ae Aa rfl ?_ |refine Ap ?_)
    exact ⟨⟨i + 1,some i⟩,⟨by show i + 1 <= K0.length;omega,hb.better hgj hgi hd ht hlt3⟩,by repeat (first |exact As.nil |refine As.cons rfl ?_),fun w' hw=>hw.less (by repeat (first |exact Au.nil |refine Au.keep ?_ |refine Au.dropB (by first |assumption |omega) ?_)),by show K0.length - (i + 1) < K0.length - i;omega⟩
   ·refine Ak rfl (fun h=>absurd h hlt3) (fun _=>?_);repeat (first |refine Ab ?_ |refine Ag ?_ |refine Ad ?_ |refine Am ?_ |refine Ao ?_ |refine AD Aa rfl (by omega) ?_ |refine Ae Aa rfl ?_)
    exact ⟨⟨i + 1,some j⟩,⟨by show i + 1 <= K0.length;omega,hb.worse hgj hgi hlt3⟩,by repeat (first |exact As.nil |refine As.cons rfl ?_),fun w' hw=>hw.less (by repeat (first |exact Au.nil |refine Au.keep ?_ |refine Au.dropB (by first |assumption |omega) ?_)),by show K0.length - (i + 1) < K0.length - i;omega⟩
 intro b hb;have hn0:(DN K0).length=K0.length:=List.length_map _;repeat (first |refine Ai ?_ |refine Ab ?_ |refine Ag ?_ |refine Ae Aa rfl ?_)
 cases b with
 |none=>
  have hke:k=ids.length:=by
   rw [hids] at hb hk ⊢;exact Dg.none_end hok hk (by rw [hn0];exact hb)
  subst hke;refine AX rfl ?_;repeat (first |refine Ai ?_ |refine Ab ?_ |refine Ag ?_ |refine BQ ?_ |refine AI ?_ |refine AC ?_ |refine Ae Aa rfl ?_)
  refine AZ rfl rfl (fun w' hw=>?_);obtain ⟨Fr,hFr2,h1⟩:=hw.share (p:=JN w.heap.size 59 1 ids.length css.flatten) (fun h=>⟨h,fun k hk=>hk⟩)
  have eI:ids.map (Mj (DN K0))=DB (DN K0) now:=by rw [hids];rfl
  rw [List.take_length] at h1 hKp;rw [eI] at h1;have h2:=h1.merge (Ψ:=fun w=>(PT.vp (DB (DN K0) now)).at_ w (fun k=>Fr k \/ Fo k) (.slice a5 ids.length c5)) (fun q1 q2=>(Cj.slr ((Cj _ _ _).mono q2 fun k hk=>.inr hk) (R:=Az (A8 .u64)) q1.1 (by rw [<-eI,List.length_map]) fun k _ hk=>.inl (q1.2 k hk)).val) (Vp.loc (p:=PT.vp _))
  have hKg:DN K=EQ f m now (DN K0):=by
   rw [<-Jn hok,<-hids];refine List.ext_getElem? fun i=>?_;rw [List.getElem?_map,List.getElem?_map,List.getElem?_map]
   cases hpi:K0[i]? with
   |none=>rw [List.getElem?_eq_none (by rw [hKn];exact List.getElem?_eq_none_iff.1 hpi)];rfl
   |some p=>rw [(hKp i p hpi).1];rfl
  have h3:=h2.mapI 4 rfl (Ψ:=fun w=>(G8 K).at_ w G (.bool true)) (fun h p hp=>by
   obtain ⟨i,hpi⟩:=List.mem_iff_getElem?.1 hp;obtain ⟨p0,hp0⟩:∃ p0,K0[i]? =some p0:=⟨_,List.getElem?_eq_getElem (by rw [<-hKn];exact (List.getElem?_eq_some_iff.1 hpi).1)⟩;have h8:=(hKp i p0 hp0).1;rw [hpi] at h8;cases h8;have h9:Br (A8 .u64) w' G p0.x.a p0.x.n p0.x.c p0.g.L:=h p0 (List.mem_of_getElem? hp0);show Br (A8 .u64) w' G p0.x.a p0.x.n p0.x.c (B1 f m now ids p0.g).L;rw [(CC ids p0.g).2]
   exact h9) (Vp.loc (p:=G8 _)) rfl
  rw [<-hKn] at h3
  have hbk:C7 last (EQ f m now (DN K0)):=Jn hok ▸ hok.map_ (CC _) (fun g hg=>by
   have h1:=hok.tr g hg;have h2:=htr g hg;unfold B1;split
   ·dsimp only;omega
   ·exact h1) (fun g hg=>by
   have h1:=hok.tm g hg;have h2:=Hb hp.1 hp.2.1 g.tries.toNat;have h3:=hp.2.2;unfold B1;split
   ·dsimp only;omega
   ·exact h1)
  have h4:=h3.pm [2,3,4,1,0] rfl rfl rfl
  obtain ⟨F',g1,g2,g3⟩:=Gi (base:=0) (F0:=F) (K:=K) (a:=a) (c:=c) (G:=G) (gs:=EQ f m now (DN K0)) (ol:=[.rep (fun w=>(PT.vp (DB (DN K0) now)).at_ w (fun k=>Fr k \/ Fo k) (.slice a5 ids.length c5)) (fun k=>Fr k \/ Fo k) false]) [.blk bd (.cells ⟨ds.map .bool⟩ 4 (0,0)) true] h4 hKg hp hbk (Jn hok ▸ hne.map_ (CC _)) hF (fun e he k hk=>by
   rw [List.mem_singleton] at he;subst he
   exact hk.elim (hFr2 k) (hFo k)) (fun e he=>by
   rw [List.mem_singleton] at he;subst he
   exact .inr fun k hk hk2=>by
    have h5:=hF k (hFG k hk);have h6:w.heap.size <= k:=hk2.elim (hFr2 k) (hFo k)
    omega) (JR (.inl hFx) (fun k hk=>.inl (hFr k (hKn ▸ hk))) fun k hk=>.inl (hFG k hk)) (fun e he=>by
   rw [List.mem_singleton] at he;subst he
   exact ⟨rfl,fun k hk=>.inr (Option.some.inj hk ▸ hbd)⟩)
  exact ⟨_,_,rfl,fun k hk=>hk.elim (hFr2 k) (hFo k),F',g1,g2,g3.pm [1,0] rfl rfl rfl⟩
 |some j=>
  have hb2:=hb;obtain ⟨hji,g,hgj,hdj,htj,_⟩:=hb2;obtain ⟨⟨g',⟨xa,xn,xc⟩⟩,hpj⟩:∃ p,K0[j]? =some p:=⟨_,List.getElem?_eq_getElem (by omega)⟩
  obtain rfl:g'=g:=by
   rw [List.getElem?_map,hpj] at hgj;exact Option.some.inj hgj
  have hpm:=List.mem_of_getElem? hpj;have hgm:g' ∈ DN K0:=List.mem_of_getElem? hgj
  have hidk:ids[k]? =some g'.id:=by
   rw [hids] at hb hk ⊢;exact Dg.some_end hok hk (by rw [hn0];exact hb) hgj
  have hkl:k < ids.length:=(List.getElem?_eq_some_iff.1 hidk).1
  have htk:ids.take (k + 1)=ids.take k ++ [g'.id]:=by rw [List.take_add_one,hidk];rfl
  obtain ⟨hKj,hdsj⟩:=hKp j _ hpj;dsimp only at hKj hdsj;obtain ⟨hb1,hb3,hb4⟩:=Li (f:=f) (m:=m) (now:=now) hok hgm rfl hdj;rw [hb4] at hKj;have htr':=htr g' hgm;have htr2:=hok.tr g' hgm;have hW:=Hb hp.1 hp.2.1 g'.tries.toNat;have hp3:=hp.2.2;have hgl:=Jj hgm
  have hlo:Mj (DN K0) g'.id=g'.L:=by unfold Mj;rw [E9 hok hgm]
  refine EY (fun w1 g1=>((g1.own _ (Af (i:=5) rfl)).1 _ hpm).len) (fun hpn=>?_);dsimp only at hpn;subst hpn;refine AG (by exact congrArg some (congrArg Value.bool (decide_eq_false (show ¬ ((j:Nat):Int) < 0 by omega)))) ?_;repeat (first |refine Ai ?_ |refine Ab ?_ |refine Ad ?_ |refine Ao ?_ |refine Ae Aa rfl ?_)
  refine BE (Bs (sz:=1) Aa rfl rfl rfl rfl rfl rfl rfl (j:=j) rfl (by omega)) ?_;refine Kz Aa 2 rfl rfl (fun u hu=>by rw [List.mem_singleton] at hu;subst hu;rfl) rfl (Db (by rw [List.length_map];omega)) rfl ?_;rw [show (ds.map Value.bool).set (0 + j * 1) (.bool true)=(ds.set j true).map .bool from by rw [Nat.zero_add,Nat.mul_one,List.map_set]];repeat (first |refine Ai ?_ |refine Ab ?_ |refine Ag ?_ |refine Ae Aa rfl ?_ |refine An Aa 3 rfl rfl rfl ?_)
  refine Fi 4 rfl (by omega) (fun bK hbK=>?_);subst hbK;refine BE (Bs (sz:=4) Aa rfl rfl rfl rfl rfl rfl rfl (j:=j) rfl (by omega)) ?_;repeat (first |refine Ai ?_ |refine Ab ?_ |refine Ag ?_ |refine Ae Aa rfl ?_)
  refine AO Aa rfl rfl rfl rfl rfl rfl rfl rfl rfl rfl rfl rfl (fun b70 hb70=>?_);refine B0 (fun w' h=>Hp.closeRow (pre:=[]) (n:=0) (c:=0) (sz:=1) (cs:=[]) h hb70 (by decide) (by decide) rfl) ?_;repeat (first |refine Ae Aa rfl ?_)
  refine Bh Aa (v:=.slice xa g'.L.length xc) rfl rfl (fun w' hw=>by
   rw [Nat.zero_add]
   exact Cn (hw.own _ (Af (i:=5) rfl)) (by omega) (DC (j:=1) hKj rfl)) ?_
  refine AT (ty:=0) Aa 0 (k:=g'.L.length) (news:=Bj g'.L) rfl rfl rfl rfl rfl rfl rfl rfl rfl (by decide) (fun w' hw=>((hw.own _ (Af (i:=6) rfl)).1 _ hpm).ints.sl) (fun u hu=>Ej hu) (by simp only [maxLen];omega) (by show (_ + _) * 8 <= _;omega) rfl (fun A1 C1 hc3 hd3=>⟨_,rfl,?_⟩);rw [show List.take (0 * 1) ([]:List Value) ++ Bj g'.L=Bj g'.L from rfl,Nat.zero_add];refine OW ((Az (A8 .u64)).vp g'.L) (fun w' h=>(Ex h rfl (fun x hx=>hok.fit g' hgm x hx)).val) (fun Fc hFc=>?_);refine AO Aa rfl rfl rfl rfl rfl rfl rfl rfl rfl rfl rfl rfl (fun b76 hb76=>?_);refine AT (ty:=0) Aa 2 (k:=1) (news:=[.slice A1 g'.L.length C1]) rfl rfl rfl rfl rfl rfl rfl rfl rfl (by decide) (fun w' hw=>Sl.of_blk (hw.own _ (Af (i:=0) rfl)) rfl (fun j u hu=>by rw [Nat.zero_add];exact hu)) (fun u hu=>by rw [List.mem_singleton] at hu;subst hu;rfl) (by simp only [maxLen];omega) (by show (_ + _) * 24 <= _;omega) rfl (fun A2 C2 hc4 hd4=>⟨_,rfl,?_⟩);repeat (first |refine Ai ?_ |refine Ag ?_ |refine Ae Aa rfl ?_)
  have e9:(css ++ [[Value.slice A1 g'.L.length C1]]).flatten=css.flatten ++ [Value.slice A1 g'.L.length C1]:=by rw [List.flatten_append];rfl
  refine Gy (ol':=[.row w.heap.size (.slice A2 (k + 1) C2) 59 1 (k + 1) (css ++ [[Value.slice A1 g'.L.length C1]]).flatten,.rep (fun w=>(Cj (Az (A8 .u64)) (css ++ [[Value.slice A1 g'.L.length C1]]) ((ids.take (k + 1)).map (Mj (DN K0)))).at_ w (fun k=>Fc k \/ Fo k) (.bool true)) (fun k=>Fc k \/ Fo k) false,.blk bd (.cells ⟨(ds.set j true).map .bool⟩ 4 (0,0)) true,.blk xb (Mh f m (some ⟨bK,0,none⟩) K0.length c last) true,.row 0 (.slice (some ⟨bK,0,none⟩) K0.length c) 146 4 K0.length (Bw K),.rep (fun w=>(G8 K0).at_ w G (.bool true)) G false]) (fun w' hw=>?_) ?_
  ·rw [e9];have h8:=hw.pm [1,3,2,4,5,6,7,0] rfl rfl rfl
   have h9:=h8.merge (Ψ:=fun w=>(Cj (Az (A8 .u64)) (css ++ [[Value.slice A1 g'.L.length C1]]) ((ids.take (k + 1)).map (Mj (DN K0)))).at_ w (fun k=>Fc k \/ Fo k) (.bool true)) (fun q1 q2=>by
    rw [htk,List.map_append,List.map_cons,List.map_nil,hlo]
    exact Cj.snoc ((Cj _ _ _).mono q2 fun k hk=>.inr hk) ((Az (A8 .u64)).at_mono q1 fun k hk=>.inl hk)) (Vp.loc (p:=Cj _ _ _))
   exact (h9.pm [1,0,2,3,4,5,6] rfl rfl rfl).less (by repeat (first |exact Au.nil |refine Au.keep ?_ |refine Au.dropB (by first |assumption |omega) ?_))
  refine Cd (by kernel_rfl) 16 rfl (by kernel_rfl) ?_;repeat (first |refine Ah Aa rfl ?_ |refine AE Aa 3 rfl rfl rfl ?_)
  refine Av Aa (v:=.int .i64 g'.tries) rfl rfl (fun w' hw=>by
   rw [Nat.zero_add]
   exact Cn (hw.own _ (Af (i:=4) rfl)) (by omega) (DC (j:=3) hKj rfl)) ?_
  refine Bi (v:=.int .i64 (W f m g'.tries.toNat)) rfl Tryz.call80 (fun w' vs hw' h=>by
   obtain ⟨u1,_,rfl,rfl,u2,_,rfl,rfl,u3,_,rfl,rfl,rfl⟩:=h
   exact Lz f m g'.tries w' hp.1 hp.2.2 hp.2.1 (by omega)) ?_
  repeat (first |refine AN rfl ?_ |refine BD Aa rfl (by omega) ?_ |refine Ae Aa rfl ?_)
  refine M7 Aa 4 rfl rfl rfl (by rw [Kk];omega) rfl ?_;rw [show 0 + j * 4 + 2=j * 4 + 2 by omega];repeat (first |refine Ag ?_ |refine Ae Aa rfl ?_ |refine Ap ?_)
  refine Bh Aa (v:=.int .i64 g'.tries) rfl rfl (fun w' hw=>by
   rw [Nat.zero_add]
   exact Cn (hw.own _ (Af (i:=4) rfl)) (by omega) (by rw [List.getElem?_set_ne (by omega)];exact DC (j:=3) hKj rfl)) ?_
  repeat (first |refine AD Aa rfl (by omega) ?_ |refine Ae Aa rfl ?_)
  refine M7 Aa 4 rfl rfl rfl (by rw [List.length_set,Kk];omega) rfl ?_;rw [show 0 + j * 4 + 3=j * 4 + 3 by omega];have hcs:=Kj (g':=⟨g'.id,g'.L,now + W f m g'.tries.toNat,g'.tries + 1⟩) hKj rfl rfl;dsimp only at hcs;rw [<-hcs];repeat (first |refine Ag ?_ |refine Ad ?_ |refine Am ?_)
  refine ⟨⟨k + 1,K.set j ⟨⟨g'.id,g'.L,now + W f m g'.tries.toNat,g'.tries + 1⟩,⟨xa,g'.L.length,xc⟩⟩,ds.set j true,A2,C2,css ++ [[Value.slice A1 g'.L.length C1]],fun k=>Fc k \/ Fo k⟩,⟨hkl,by dsimp only;rw [List.length_set];exact hKn,fun i p hpi=>?_,by dsimp only;rw [List.length_set];exact hdn,by dsimp only;rw [e9,List.length_append,hcss];rfl,fun j hj=>hj.elim (hFc j) (hFo j)⟩,by repeat (first |exact As.nil |refine As.cons rfl ?_),fun w' hw=>hw,by show ids.length - (k + 1) < ids.length - k;omega⟩;obtain ⟨h5,h6⟩:=hKp i p hpi;dsimp only;by_cases hij:j=i
  ·subst hij;rw [hpj] at hpi;cases hpi;rw [List.getElem?_set_self (by omega),List.getElem?_set_self (by omega),htk];dsimp only;rw [hb3];exact ⟨rfl,by rw [decide_eq_true (List.mem_append.2 (.inr (List.mem_singleton.2 rfl)))]⟩
  ·have hpg:p.g ∈ DN K0:=List.mem_map.2 ⟨p,List.mem_of_getElem? hpi,rfl⟩
   have hpi2:(DN K0)[i]? =some p.g:=by rw [List.getElem?_map,hpi];rfl
   have hne2:p.g.id ≠ g'.id:=fun e=>by
    rcases Nat.lt_trichotomy i j with h |h |h
    ·have:=NB hok hpi2 hgj h;omega
    ·exact hij h.symm
    ·have:=NB hok hgj hpi2 h;omega
   rw [List.getElem?_set_ne hij,List.getElem?_set_ne hij,htk,hb1 p.g hpg hne2];refine ⟨h5,?_⟩;rw [h6];exact congrArg some (decide_eq_decide.2 ⟨fun h=>List.mem_append.2 (.inl h),fun h=>(List.mem_append.1 h).resolve_right fun h=>hne2 (List.mem_singleton.1 h)⟩)
end
def Ya (w:World) (F:Nat->Prop) (a:Option Addr) (n c:Nat) (rl:List BS):Prop:=∃ A0:Nat->Prop,Br Bg w A0 a n c rl/\∀ k,A0 k->¬ F k
theorem Qn {xb:Nat} {f m last:Int} {gs:List BG} {w:World} {F:Nat->Prop} {v:Value} (h:(DM xb f m gs last).at_ w F v):C7 last gs/\Jt gs/\∃ a c,(Sh xb f m last gs a c).at_ w TT (.bool true):=by
 obtain ⟨K,a,c,G,⟨rfl,hp,hok,hne⟩,hst,hcov⟩:=Jh h;exact ⟨hok,hne,a,c,LO (hst.own _ (Af (i:=0) rfl)) (hst.own _ (Af (i:=1) rfl)) (hst.own _ (Af (i:=2) rfl)).1 hok⟩
theorem LG {l:List Int} (h:l.Nodup):(Bt l).length=l.length:=Nat.le_antisymm Dj (Ed h fun x hx=>Cu.2 hx)
end Go.Proofs.YtidhpofcofknhaaGreat
