/-
  The document's sender: what it is, New, tried, Next; a sender's Next. Conditions: each theorem's own. The document's sender, plain: what goes for the first time. Conditions: each theorem's own. The document's sender: Tick. Conditions: each theorem's own. Runs: the document's Plain and Same. Conditions: each theorem's own. The document's sender: Receive. Conditions: each theorem's own. A slice of one's own that begins within its block: what it is, append onto it, its rest. Conditions: each theorem's own.
  Conditions: each theorem's own.
-/
import Derived.Test.YtidhpofcofknhaaGreatSb
namespace Go.Proofs.YtidhpofcofknhaaGreat
open Go Go.RowKit
set_option linter.unusedVariables false
abbrev F5 (xb:Nat) (s:Bo):Obj:=.cells ⟨[.int .i64 s.f,.int .i64 s.m,.int .i64 s.p,.int .i64 s.q,.int .u64 s.ep,.bool s.op,.int .u64 s.inc,.int .u64 s.lim,AF xb,.int .i64 s.tm,.int .i64 s.tr]⟩ 107 (0,0)
def JL (sb:Nat) (s:Bo):Vp:=
 ⟨fun w F _=>∃ (bb:Nat) (Fb:Nat->Prop),Ep s/\(w.heap[sb]? =some (F5 bb s)/\F sb)/\(DM bb s.f s.m s.gs s.last).at_ w Fb (.bool true)/\(∀ k,Fb k->F k)/\(∀ k,Fb k->k < w.heap.size)/\¬ Fb sb,
  fun {w w' A B v} ⟨bb,Fb,h1,h2,h3,h4,h5,h6⟩ hk=>⟨bb,fun k=>(Fb k/\B k)/\k < w'.heap.size,h1,⟨((hk sb h2.2 (AU h2.1)).1).trans h2.1,(hk sb h2.2 (AU h2.1)).2⟩,
   (DM _ _ _ _ _).keep h3 fun k hf hlt=>⟨(hk k (h4 k hf) hlt).1,⟨hf,(hk k (h4 k hf) hlt).2⟩,by
    have:=(hk k (h4 k hf) hlt).1;have h7:=Array.getElem?_eq_getElem hlt;rw [h7] at this
    exact AU this⟩,fun k h=>h.1.2,fun k h=>h.2,fun h=>h6 h.1.1⟩⟩
abbrev XX (sb bb:Nat) (s:Bo) (Fb:Nat->Prop) (r:Bool):OL:=[.blk sb (F5 bb s) r,.rep (fun w=>(DM bb s.f s.m s.gs s.last).at_ w Fb (.bool true)) Fb r]
section
variable {sb:Nat} {s:Bo} {w w0:World} {F:Nat->Prop} {v:Value} {ol:OL}
theorem Qo {xb:Nat} {f m last:Int} {gs:List BG} (h:(DM xb f m gs last).at_ w F v):PR f m/\C7 last gs/\Jt gs:=by
 obtain ⟨_,_,_,_,⟨_,h1,h2,h3⟩,_⟩:=h;exact ⟨h1,h2,h3⟩
theorem UP (h:(JL sb s).at_ w F v):Ep s/\C7 s.last s.gs/\Jt s.gs:=by
 obtain ⟨bb,Fb,h1,_,h3,_⟩:=h;exact ⟨h1,(Qo h3).2⟩
theorem Oo (h:(JL sb s).at_ w F v) (r:Bool):∃ (bb:Nat) (Fb:Nat->Prop),Ep s/\Hp w w (XX sb bb s Fb r)/\F sb/\∀ k,Fb k->F k:=by
 obtain ⟨bb,Fb,h1,h2,h3,h4,h5,h6⟩:=h;refine ⟨bb,Fb,h1,⟨rfl,rfl,rfl,Nat.le_refl _,fun _ _ _=>rfl,fun e he=>?_,?_⟩,h2.2,h4⟩
 ·rcases List.mem_cons.1 he with rfl |he
  ·exact h2.1
  ·rw [List.mem_singleton] at he;subst he;exact ⟨h3,Vp.loc,h5⟩
 ·refine List.pairwise_cons.2 ⟨fun e he _ k hk hk2=>?_,List.pairwise_singleton _ _⟩;rw [List.mem_singleton] at he;subst he;exact h6 (Option.some.inj hk ▸ hk2)
theorem HK {bb:Nat} {Fb F0:Nat->Prop} (hh:Hp w0 w (XX sb bb s Fb true ++ ol)) (hok:Ep s) (hF0:∀ k,F0 k->k < w0.heap.size) (hol:∀ e ∈ ol,∀ k,e.has k->w0.heap.size <= k) (h1:F0 sb \/ w0.heap.size <= sb) (h2:∀ k,Fb k->F0 k \/ w0.heap.size <= k):
 ∃ F':Nat->Prop,(∀ k,F0 k->F' k)/\(∀ k,F' k->F0 k \/ w0.heap.size <= k)/\Hp w0 w (.rep (fun w=>(JL sb s).at_ w F' (.bool true)) F' true::ol):=by
 have o0:w.heap[sb]? =some (F5 bb s):=hh.own _ (Af (i:=0) rfl);have o1:=hh.own _ (Af (i:=1) rfl)
 refine hh.pack2 hF0 hol (fun e' he' e he=>.inl (by
  rcases List.mem_cons.1 he' with rfl |he'
  ·rfl
  ·rw [List.mem_singleton] at he';subst he'
   rfl)) (fun e he k hk=>?_) (JL sb s) fun F' hF'=>⟨bb,Fb,hok,⟨o0,hF' _ (Af (i:=0) rfl) sb rfl⟩,o1.1,hF' _ (Af (i:=1) rfl),o1.2.2,fun h=>?_⟩
 ·rcases List.mem_cons.1 he with rfl |he
  ·exact Option.some.inj hk ▸ h1
  ·rw [List.mem_singleton] at he;subst he;exact h2 k hk
 ·exact hh.dis 0 1 rfl rfl rfl rfl (show (HE.blk sb (F5 bb s) true).has sb from rfl) h
theorem Bo.tryR_same (s:Bo) (now:Int) (bb:Nat):DM bb (s.try_ now).f (s.try_ now).m (s.try_ now).gs (s.try_ now).last=DM bb s.f s.m s.gs s.last:=by
 unfold Bo.try_;split<;>rfl
theorem Vd (f m p q ep:Int) (hc:cR f m p q) (he:AS .u64 ep/\ep ≠ 0) (w:World):Calls Tryz.prog 26 #[.int .i64 f,.int .i64 m,.int .i64 p,.int .i64 q,.int .u64 ep] w fun e w'=>∃ (sb:Nat) (F:Nat->Prop),e= .returned (AF sb)/\(∀ k,F k->w.heap.size <= k)/\Hp w w' [.rep (fun w=>(JL sb ⟨f,m,p,q,ep,false,0,0,0,0,[],0⟩).at_ w F (.bool true)) F true]:=by
 refine Q8 Tryz.func26 rfl rfl (Hp.refl w) ?_;repeat (first |refine Ai ?_ |refine Ab ?_ |refine Ag ?_ |refine Ae Aa rfl ?_ |refine BE (Bf Aa rfl rfl rfl rfl rfl rfl rfl) ?_)
 refine AY Aa rfl (fun xb hxb=>?_);repeat (first |refine BE (Bf Aa rfl rfl rfl rfl rfl rfl rfl) ?_)
 refine AY Aa rfl (fun sb hsb=>?_);repeat (first |refine Ag ?_ |refine AC ?_ |refine Ae Aa rfl ?_)
 refine AZ rfl rfl (fun w' hw=>?_);have h1:=((hw.nilRow 146 4).none (p:=G8 []) (v:=.bool true) (fun w p hp=>by cases hp) false).pm [3,1,0,2] rfl rfl rfl
 obtain ⟨Fb,g1,g2,g3⟩:=Gi (base:=w.heap.size) (F0:=fun _=>False) (K:=[]) (a:=none) (c:=0) (G:=fun _=>False) (f:=f) (m:=m) (last:=0) (xb:=xb) (gs:=[]) (ol:=[.blk sb (F5 xb ⟨f,m,p,q,ep,false,0,0,0,0,[],0⟩) true]) [] h1 rfl hc.1 (C7.nil (by decide)) (fun g hg=>by cases hg) (fun k hk=>hk.elim) (fun e he k hk=>by
  rw [List.mem_singleton] at he;subst he
  exact Option.some.inj hk ▸ hsb) (fun e he=>by
  rw [List.mem_singleton] at he;subst he
  exact .inl rfl) (JR (.inr hxb) (fun k hk=>by cases hk) fun k hk=>hk.elim) (fun e he=>by cases he)
 have h2:=g3.pm [1,0] rfl rfl rfl;obtain ⟨F',j1,j2,j3⟩:=HK (F0:=fun _=>False) (ol:=[]) (s:=⟨f,m,p,q,ep,false,0,0,0,0,[],0⟩) h2 ⟨hc,he,(show AS .u64 0 by decide),(show AS .u64 0 by decide),(show (0:Int) <= 0/\(0:Int) <= 2305843009213693952 by decide),(show (0:Int) <= 0/\(0:Int) <= 1099511627776 by decide)⟩ (fun k h=>h.elim) (fun e he=>by cases he) (.inr hsb) (fun k hk=>.inr ((g2 k hk).resolve_left id));exact ⟨sb,F',rfl,fun k hk=>(j2 k hk).resolve_left id,j3⟩
set_option maxHeartbeats 1000000 in
theorem KN {bb:Nat} {rest:OL} (h:Hp w0 w (.blk sb (F5 bb s) true::rest)) {now:Int} (hp:PR s.f s.m) (hnow:0 <= now/\now <= 1152921504606846976) (htr:0 <= s.tr/\s.tr < 1099511627776):Calls Tryz.prog 58 #[AF sb,.int .i64 now] w fun e w'=>e= .returned (.bool (decide (s.tm <= now)))/\Hp w0 w' (.blk sb (F5 bb (s.try_ now)) true::rest):=by
 have hW:=Hb hp.1 hp.2.1 s.tr.toNat;refine GP Tryz.func58 rfl rfl h ?_;repeat (first |refine Ai ?_ |refine Ab ?_ |refine Ag ?_ |refine Ae Aa rfl ?_ |refine An Aa 0 rfl rfl rfl ?_)
 refine Ak rfl (fun h1=>?_) (fun h1=>?_)
 ·repeat (first |refine Ai ?_ |refine Ab ?_ |refine Ag ?_ |refine AI ?_ |refine AC ?_ |refine Ae Aa rfl ?_)
  exact AZ rfl rfl (fun w' hw=>⟨by rw [decide_eq_false (by omega)],by rw [Bo.try_,if_neg (by omega)];exact hw⟩)
 ·repeat (first |refine Ai ?_ |refine Ad ?_ |refine Ao ?_)
  refine Cd (by kernel_rfl) 16 rfl (by kernel_rfl) ?_;repeat (first |refine Ah Aa rfl ?_ |refine AE Aa 0 rfl rfl rfl ?_)
  refine Bi (v:=.int .i64 (W s.f s.m s.tr.toNat)) rfl Tryz.call80 (fun w' vs hw' h=>by
   obtain ⟨u1,_,rfl,rfl,u2,_,rfl,rfl,u3,_,rfl,rfl,rfl⟩:=h
   exact Lz s.f s.m s.tr w' hp.1 hp.2.2 hp.2.1 (by omega)) ?_
  have hm:=hp.2.2;repeat (first |refine AN rfl ?_ |refine BD Aa rfl (by omega) ?_ |refine Ai ?_ |refine Ab ?_ |refine Ag ?_ |refine AC ?_ |refine AD Aa rfl (by omega) ?_ |refine Ae Aa rfl ?_ |refine An Aa 0 rfl rfl rfl ?_ |refine Ax Aa 0 rfl rfl rfl rfl rfl rfl ?_)
  exact AZ rfl rfl (fun w' hw=>⟨by rw [decide_eq_true (by omega)],by rw [Bo.try_,if_pos (by omega)];exact hw⟩)
end
abbrev Jk (p:Int) (x:Int × Int) (st:CW):Prop:=0 < (st.cur.length:Int)/\(p <= (st.cur.length:Int) \/ 60000 < st.sum + x.2)
def Cc (p:Int) (x:Int × Int) (st:CW):CW:=if Jk p x st then { st with out:=st.out ++ [st.cur],cur:=[],sum:=0} else st
abbrev NH (lim:Int) (nums:List Int) (x:Int × Int) (st:CW):Prop:=x.1 ∈ nums \/ lim < x.1 \/ st.room <= 0
def Ee (p lim:Int) (nums:List Int) (st:CW) (x:Int × Int):CW:=if NH lim nums x st then st else CI x (Cc p x st)
def F4 (p lim:Int) (nums:List Int) (l:List (Int × Int)) (st:CW):CW:=l.foldl (Ee p lim nums) st
theorem J7 {p lim:Int} {nums:List Int}:∀ {l:List (Int × Int)} {st:CW},(∀ x ∈ l,NH lim nums x st)->F4 p lim nums l st=st
 | [],_,_=>rfl
 |x::l,st,h=>by
  show F4 p lim nums l (Ee p lim nums st x)=st;rw [Ee,if_pos (h x List.mem_cons_self)];exact J7 fun y hy=>h y (List.mem_cons_of_mem _ hy)
theorem NI {p:Int} {x:Int × Int} {st:CW} (hp:1 <= p) (h:(st.cur.length:Int) <= p):BJ p x st=Cc p x st:=by
 unfold BJ Cc;by_cases h1:LW p x st
 ·rw [if_pos h1,if_pos]
  rcases h1 with h1 |h1
  ·exact ⟨by omega,.inl (by omega)⟩
  ·exact ⟨h1.1,.inr h1.2⟩
 ·rw [if_neg h1,if_neg];rintro ⟨h2,h3⟩;refine h1 ?_
  rcases h3 with h3 |h3
  ·exact .inl (by omega)
  ·exact .inr ⟨h2,h3⟩
theorem NJ {p:Int} {x:Int × Int} {st:CW} (hp:1 <= p) (h:(st.cur.length:Int) <= p):((BJ p x st).cur.length:Int) < p:=by
 unfold BJ;by_cases h1:LW p x st
 ·rw [if_pos h1];show ((0:Nat):Int) < p;omega
 ·rw [if_neg h1];have:(st.cur.length:Int) ≠ p:=fun e=>h1 (.inl e);omega
theorem J5 {p lim:Int} {nums:List Int} (hp:1 <= p):∀ {l:List (Int × Int)} {st:CW},(l.map (·.1)).Pairwise (· < ·)->(st.cur.length:Int) <= p->DA p lim nums l st=F4 p lim nums l st
 | [],_,_,_=>rfl
 |x::l,st,hs,hc=>by
  rw [List.map_cons,List.pairwise_cons] at hs;rw [DA];by_cases h1:st.room <= 0 \/ lim < x.1
  ·rw [if_pos h1,J7];intro y hy
   rcases h1 with h1 |h1
   ·exact .inr (.inr h1)
   ·rcases List.mem_cons.1 hy with rfl |hy
    ·exact .inr (.inl h1)
    ·have:=hs.1 y.1 (List.mem_map.2 ⟨y,hy,rfl⟩);exact .inr (.inl (by omega))
  ·rw [if_neg h1];show _=F4 p lim nums l (Ee p lim nums st x);by_cases h2:x.1 ∈ nums
   ·rw [if_pos h2,Ee,if_pos (.inl h2)];exact J5 hp hs.2 hc
   ·rw [if_neg h2,Ee,if_neg (fun h=>h.elim h2 fun h=>h1 h.symm),<-NI hp hc];refine J5 hp hs.2 ?_;have:=NJ (x:=x) hp hc;show (((BJ p x st).cur ++ [x.1]).length:Int) <= p;rw [List.length_append];show (((BJ p x st).cur.length + 1:Nat):Int) <= p;omega
structure Im (p q:Int) (nn:Nat) (st:CW) (i:Nat):Prop where
 out:st.out.length <= i
 fl:st.out.flatten.length + st.cur.length <= i
 sum:0 <= st.sum/\st.sum <= (i:Int) * 1099511627776
 room:st.room=q - ((nn + (st.out.flatten ++ st.cur).length:Nat):Int)
 fit:∀ n ∈ st.out.flatten ++ st.cur,AS .u64 n
theorem HX {p:Int} {x:Int × Int} {st:CW}:(Cc p x st).out.flatten ++ (Cc p x st).cur=st.out.flatten ++ st.cur/\(Cc p x st).room=st.room:=by
 unfold Cc;by_cases h:Jk p x st
 ·rw [if_pos h];refine ⟨?_,rfl⟩;show (st.out ++ [st.cur]).flatten ++ []=_;rw [List.append_nil,List.flatten_append];simp
 ·rw [if_neg h];exact ⟨rfl,rfl⟩
theorem Hj {x:Int × Int} {st:CW}:(CI x st).out.flatten ++ (CI x st).cur=(st.out.flatten ++ st.cur) ++ [x.1]:=by
 show st.out.flatten ++ (st.cur ++ [x.1])=_;rw [List.append_assoc]
theorem Im.step {p q:Int} {nn:Nat} {st:CW} {i:Nat} {x:Int × Int} (h:Im p q nn st i) (hz:0 <= x.2/\x.2 <= 1099511627776) (hx:AS .u64 x.1):Im p q nn (CI x (Cc p x st)) (i + 1):=by
 obtain ⟨e1,e2⟩:=@HX p x st;have h1:=h.out;have h2:=h.fl;have h3:=h.sum;have h4:=h.room;have e3:=@Hj x (Cc p x st);rw [e1] at e3
 have e4:(CI x (Cc p x st)).out.flatten.length + (CI x (Cc p x st)).cur.length=st.out.flatten.length + st.cur.length + 1:=by
  rw [<-List.length_append,e3,List.length_append,List.length_append];rfl
 refine ⟨?_,by omega,?_,?_,fun n hn=>?_⟩
 ·show (Cc p x st).out.length <= i + 1;unfold Cc;split
  ·show (st.out ++ [st.cur]).length <= _;rw [List.length_append];exact Nat.succ_le_succ h1
  ·omega
 ·show 0 <= (Cc p x st).sum + x.2/\(Cc p x st).sum + x.2 <= ((i + 1:Nat):Int) * 1099511627776;unfold Cc;split
  ·show 0 <= 0 + x.2/\0 + x.2 <= _;omega
  ·omega
 ·show (Cc p x st).room - 1=_;rw [e2,e3,h4,List.length_append (bs:=[x.1])];show _=q - ((nn + ((st.out.flatten ++ st.cur).length + 1):Nat):Int);omega
 ·rw [e3] at hn
  rcases List.mem_append.1 hn with hn |hn
  ·exact h.fit n hn
  ·rw [List.mem_singleton] at hn;subst hn;exact hx
theorem Im.up {p q:Int} {nn:Nat} {st:CW} {i j:Nat} (h:Im p q nn st i) (hij:i <= j):Im p q nn st j:=⟨Nat.le_trans h.out hij,Nat.le_trans h.fl hij,⟨h.sum.1,by have:=h.sum.2;omega⟩,h.room,h.fit⟩
theorem PB {p q lim:Int} {nums:List Int} {l:List (Int × Int)} (hp:1 <= p) (hs:(l.map (·.1)).Pairwise (· < ·)):CR p q lim nums l=(F4 p lim nums l (CH q nums)).out ++ if 0 < ((F4 p lim nums l (CH q nums)).cur.length:Int) then [(F4 p lim nums l (CH q nums)).cur] else []:=by
 unfold CR;rw [J5 hp hs (by show ((0:Nat):Int) <= p;omega)]
theorem NK {p lim:Int} {nums:List Int} {l:List (Int × Int)} {x:Int × Int} {st:CW}:F4 p lim nums (l ++ [x]) st=Ee p lim nums (F4 p lim nums l st) x:=by
 unfold F4;rw [List.foldl_append];rfl
def S8 (rl:List BS) (n:Int):Bool:=rl.any fun r=>decide (r.1 <= n) && decide (n <= r.2)
theorem MH {rl:List BS} {n:Int}:S8 rl n=true ↔ Cs rl n:=by
 unfold S8 Cs;rw [List.any_eq_true];constructor
 ·rintro ⟨r,hr,h⟩;simp only [Bool.and_eq_true,decide_eq_true_eq] at h;exact ⟨r,hr,h⟩
 ·rintro ⟨r,hr,h⟩;exact ⟨r,hr,by simpa using h⟩
def Dq (U qs:List Int):List BS:=(U.filter fun n=>!decide (n ∈ qs)).map fun n=>(n,n)
theorem Pz {U qs:List Int} {n:Int}:Cs (Dq U qs) n ↔ n ∈ U/\n ∉ qs:=by
 unfold Cs Dq;constructor
 ·rintro ⟨r,hr,h1,h2⟩;obtain ⟨k,hk,rfl⟩:=List.mem_map.1 hr
  obtain rfl:k=n:=by dsimp only at h1 h2;omega
  rw [List.mem_filter] at hk;exact ⟨hk.1,by simpa using hk.2⟩
 ·rintro ⟨h1,h2⟩;exact ⟨(n,n),List.mem_map.2 ⟨n,List.mem_filter.2 ⟨h1,by simpa using h2⟩,rfl⟩,Int.le_refl _,Int.le_refl _⟩
abbrev KC:Eh (Int × List Int):=C5 (A8 .i64) (Az (A8 .u64))
abbrev Hc:Eh (List (Int × List Int)):=Az KC
def Df (x:SX):List Value:=[.int .i64 3,x.v]
theorem US {w:World} {A:Nat->Prop} {v:Value} {a:Option Addr} {n c:Nat} {xs:List SX} {L:List (List Int)} (h:(DI a n c xs L).at_ w A v):(Cj KC (xs.map Df) (L.map fun l=>((3:Int),l))).at_ w A (.bool true):=by
 have hl:=DI.len h;refine ⟨by rw [List.length_map,List.length_map];omega,fun i cs x hc hx=>?_⟩;rw [List.getElem?_map] at hc hx
 cases h1:xs[i]? with
 |none=>rw [h1] at hc;cases hc
 |some y=>
  cases h2:L[i]? with
  |none=>rw [h2] at hx;cases hx
  |some l=>
   rw [h1] at hc;rw [h2] at hx;cases hc;cases hx;exact ⟨[.int .i64 3],[y.v],rfl,⟨rfl,(show AS .i64 3 by decide)⟩,(DI.get h h1 h2).val⟩
theorem MD {w:World} {F:Nat->Prop} {k:Int} (hk:AS .i64 k):(Cj KC [[.int .i64 k,.slice none 0 0]] [((k:Int),([]:List Int))]).at_ w F (.bool true):=
 ⟨rfl,fun i cs x h1 h2=>by
  match i,h1,h2 with
  |0,h1,h2=>
   cases h1;cases h2;exact ⟨[.int .i64 k],[.slice none 0 0],rfl,⟨rfl,hk⟩,_,_,_,rfl,Br.nil_⟩
  |i + 1,h1,_=>simp at h1⟩
section
variable {n:Nat} {w0:World} {all:Array Oper} {os:List Oper} {o:Oper} {l:FL} {ol:OL} {K:FL->OL->Prop} {Q:B3} {d bb:Nat} {f m last:Int} {gs:List BG} {F:Nat->Prop}
theorem RX (i:Nat) {now:Int} (hs:BL n all (AP l) o=some (d,59,[AF bb,.int .i64 now])) (hi:B9 ol i=some (.rep (fun w=>(DM bb f m gs last).at_ w F (.bool true)) F true)) (hnow:0 <= now/\now <= 1152921504606846976) (htr:∀ g ∈ gs,g.tries < 1099511627776)
 (k:∀ a ln c xs (Fv F':Nat->Prop),(∀ k,Fv k->w0.heap.size <= k)->(∀ k,F' k->F k \/ w0.heap.size <= k)->(DB gs now).length=ln/\xs.length=ln->∃ ol',Dc ol i (.rep (fun w=>(DM bb f m (EQ f m now gs) last).at_ w F' (.bool true)) F' true)=some ol'/\S Tryz.prog n w0 all os ((d,.slice a ln c)::l) (.rep (fun w=>(DI a ln c xs (DB gs now)).at_ w Fv (.bool true)) Fv false::ol') K Q):S Tryz.prog n w0 all (o::os) l ol K Q:=
 A7 hs Tryz.call59 fun w g=>(Vg (g.own _ (Af hi)).1 (g.own _ (Af hi)).2.2 hnow htr).mono fun e w' ⟨v,Fv,he,hv,F',g1,g2,g3⟩=>by
  obtain ⟨a,ln,c,xs,rfl,hx⟩:=Sx (g3.own _ (Af (i:=0) rfl)).1;have g4:=g3.mapI 0 rfl (Ψ:=fun w=>(DI a ln c xs (DB gs now)).at_ w Fv (.bool true)) (fun _=>hx) (Vp.loc (p:=DI _ _ _ _ _)) rfl;obtain ⟨ol',e1,e2⟩:=k a ln c xs Fv F' (fun j hj=>Nat.le_trans g.size (hv j hj)) (fun j hj=>(g2 j hj).imp id (Nat.le_trans g.size)) (DI.len hx);exact ⟨_,_,he,g.graftTV i hi g4 hv g1 g2 e1,e2⟩
theorem PP (i:Nat) {a:Option Addr} {ln c:Nat} {now:Int} {L:List Int} (hs:BL n all (AP l) o=some (d,61,[AF bb,.int .i64 now,.slice a ln c])) (hi:B9 ol i=some (.rep (fun w=>(DM bb f m gs last).at_ w F (.bool true)) F true))
 (hl:∀ w,Hp w0 w ol->Yh w F a ln c L) (hnow:0 <= now/\now <= 1152921504606846976) (hln:L.length + (Aw gs).length <= 60000) (hcn:gs.length < 60000) (hla:last + 1 <= 1099511627776)
 (k:∀ F':Nat->Prop,(∀ k,F' k->F k \/ w0.heap.size <= k)->∃ ol',Dc ol i (.rep (fun w=>(DM bb f m (B2 f m gs last now L).1 (B2 f m gs last now L).2.1).at_ w F' (.bool true)) F' true)=some ol'/\S Tryz.prog n w0 all os ((d,.int .u64 (B2 f m gs last now L).2.2)::l) ol' K Q):S Tryz.prog n w0 all (o::os) l ol K Q:=
 CA i hs Tryz.call61 hi fun w g=>by
  obtain ⟨A0,h1,h2⟩:=hl w g
  exact (SR (g.own _ (Af hi)).1 (g.own _ (Af hi)).2.2 h1 h2 hnow hln hcn hla).mono fun e w' ⟨he,F',g1,g2,g3⟩=>by
   obtain ⟨ol',e1,e2⟩:=k F' fun j hj=>(g2 j hj).imp id (Nat.le_trans g.size);exact ⟨_,_,F',he,g3,g1,g2,ol',e1,e2⟩
theorem Lr (i:Nat) {a:Option Addr} {ln c:Nat} {rl:List BS} {s:Int->Bool} (hs:BL n all (AP l) o=some (d,55,[AF bb,.slice a ln c])) (hi:B9 ol i=some (.rep (fun w=>(DM bb f m gs last).at_ w F (.bool true)) F true))
 (hl:∀ w,Hp w0 w ol->Ya w F a ln c rl) (hln:ln <= 1000000) (hsr:∀ x,s x=true ↔ Cs rl x)
 (k:∀ A C (F':Nat->Prop),(∀ k,F' k->F k \/ w0.heap.size <= k)->∃ ol',Dc ol i (.rep (fun w=>(DM bb f m (D1 gs s) last).at_ w F' (.bool true)) F' true)=some ol'/\S Tryz.prog n w0 all os ((d,.slice A (Bt ((Aw gs).filter s)).length C)::l) (.row w0.heap.size (.slice A (Bt ((Aw gs).filter s)).length C) 32 1 (Bt ((Aw gs).filter s)).length (Bj (Bt ((Aw gs).filter s)))::ol') K Q):S Tryz.prog n w0 all (o::os) l ol K Q:=
 Ij i hs Tryz.call55 hi fun w g=>by
  obtain ⟨A0,h1,h2⟩:=hl w g
  exact (SQ (g.own _ (Af hi)).1 (g.own _ (Af hi)).2.2 h1 h2 hln hsr).mono fun e w' ⟨A,C,he,F',g1,g2,g3⟩=>by
   obtain ⟨ol',e1,e2⟩:=k A C F' fun j hj=>(g2 j hj).imp id (Nat.le_trans g.size);exact ⟨_,_,F',_,_,_,_,_,he,g3,g1,g2,ol',e1,e2⟩
theorem OX (i:Nat) (hs:BL n all (AP l) o=some (d,44,[AF bb])) (hi:B9 ol i=some (.rep (fun w=>(DM bb f m gs last).at_ w F (.bool true)) F true))
 (k:∀ a c,(Bt (Aw gs)).length <= c->c <= maxLen->S Tryz.prog n w0 all os ((d,.slice a (Bt (Aw gs)).length c)::l) (.row w0.heap.size (.slice a (Bt (Aw gs)).length c) 32 1 (Bt (Aw gs)).length (Bj (Bt (Aw gs)))::ol) K Q):S Tryz.prog n w0 all (o::os) l ol K Q:=
 Eb hs Tryz.call44 (fun w1 h1=>by
  obtain ⟨hok,_,a,c,hR⟩:=Qn (h1.own _ (Af hi)).1
  exact KP hR hok) k
end
theorem WQ {P:Program} {tb:EU} {n d:Nat} {w0:World} {all:Array Oper} {os:List Oper} {o:Oper} {dl:DL} {ol:OL} {F:DL->Prop} (ht:AW P tb) (tx:Nat) {m:Nat} {v:Value} (hd:o.dst=some d) (hn:Nat.blt d n=true) (hg:gd all (rs all o dl) o.guard=some true) (htx:(o.looksAt all).contains tx=true) (hx:lk dl tx=some (.pr fun v _=>∃ a c,v= .slice a m c))
 (hp:∀ a c,Ji tb (rp (rs all o dl) tx (.slice a m c)) o.op=some v) (k:D P n w0 all os ((d,.ex v)::dl) ol F):D P n w0 all (o::os) dl ol F:=by
 refine U2 tx (.ex v) hd hn hg htx hx trivial (fun ac u w hrd hh hu=>?_) k;obtain ⟨a,c,rfl⟩:=hu;exact ⟨v,JS ht hrd (hp a c) w,rfl⟩
structure XQ where
 i:Nat
 a16:Option Addr
 c16:Nat
 a17:Option Addr
 c17:Nat
 a18:Option Addr
 c18:Nat
 css:List (List Value)
 Fo:Nat->Prop
theorem NF {U qs:List Int} {j:Nat} (h:j < U.length):Dq (U.take (j + 1)) qs=Dq (U.take j) qs ++ if U[j] ∈ qs then [] else [(U[j],U[j])]:=by
 unfold Dq;rw [List.take_succ_eq_append_getElem h,List.filter_append,List.map_append];congr 1;by_cases hm:U[j] ∈ qs
 ·rw [if_pos hm,List.filter_cons_of_neg (by simpa using hm)];rfl
 ·rw [if_neg hm,List.filter_cons_of_pos (by simpa using hm)];rfl
section
variable {sb:Nat} {s:Bo} {w w0:World} {F:Nat->Prop} {ol:OL}
set_option maxHeartbeats 16000000 in
theorem SK (h:(JL sb s).at_ w F (.bool true)) (hF:∀ k,F k->k < w.heap.size) {now:Int} (hnow:0 <= now/\now <= 1152921504606846976) {qa:Option Addr} {qn qc:Nat} {ql:List (Int × Int)} {A:Nat->Prop} (hq:Br Em w A qa qn qc ql) (hAF:∀ k,A k->¬ F k) (hqz:∀ x ∈ ql,0 <= x.2/\x.2 <= 1099511627776) (hqs:(ql.map (·.1)).Pairwise (· < ·))
 (hb1:(Aw s.gs).length + qn <= 60000) (hb2:s.gs.length + qn < 59999) (hb3:s.last + (qn:Int) + 1 <= 1099511627776) (htr:∀ g ∈ s.gs,g.tries < 1099511627776) (hstr:s.tr < 1099511627776):
 Calls Tryz.prog 32 #[AF sb,.int .i64 now,.slice qa qn qc] w fun e w'=>∃ (v:Value) (Fv F':Nat->Prop),e= .returned v/\(∀ k,Fv k->w.heap.size <= k)/\(∀ k,F k->F' k)/\(∀ k,F' k->F k \/ w.heap.size <= k)/\
  Hp w w' [.rep (fun w=>(Hc.vp (s.told now ql)).at_ w Fv v) Fv false,.rep (fun w=>(JL sb (s.tick now ql)).at_ w F' (.bool true)) F' true]:=by
 obtain ⟨bb,Fb,hok,hst,hFsb,hFb⟩:=Oo h true
 obtain ⟨Fq,hFq,_,hst2⟩:=hst.addV (p:=(Az Em).vp ql) (A:=A) (v:=.slice qa qn qc) (((Az Em).vp ql).mono hq.val fun k hk=>⟨.inl hk,fun e he hex hh=>hAF k hk (by
  rcases List.mem_cons.1 he with rfl |he
  ·exact Option.some.inj hh ▸ hFsb
  ·rw [List.mem_singleton] at he;subst he
   exact hFb k hh)⟩)
 have hst3:Hp w w [.blk sb (F5 bb s) true,.rep (fun w=>(DM bb s.f s.m s.gs s.last).at_ w Fb (.bool true)) Fb true,.rep (fun w=>((Az Em).vp ql).at_ w Fq (.slice qa qn qc)) Fq false]:=hst2.pm [1,2,0] rfl rfl rfl;have hql:=hq.len;have hqok:∀ (i:Nat) (hi:i < ql.length),Vi ql[i]:=fun i hi=>(hq.flat EN).2 _ (List.getElem_mem hi);obtain ⟨qs,hqs0⟩:∃ q,q=ql.map (·.1):=⟨_,rfl⟩;rw [<-hqs0] at hqs
 have hqsl:qs.length=qn:=by rw [hqs0,List.length_map];exact hql
 refine Ef Tryz.func32 rfl rfl hst3 ?_;refine EY (fun w1 g1=>(Qo (g1.own _ (Af (i:=1) rfl)).1).2) (fun ⟨hbok,hbne⟩=>?_);have hbl:=hbok.len;repeat (first |refine Ai ?_ |refine Ab ?_ |refine Ag ?_ |refine Ae Aa rfl ?_ |refine An Aa 0 rfl rfl rfl ?_)
 refine OX 1 rfl rfl (fun a1 c1 hc1 hd1=>?_);obtain ⟨U,hU⟩:∃ U,U=Bt (Aw s.gs):=⟨_,rfl⟩
 have hUl:U.length <= 60000:=by have:=@Dj (Aw s.gs);rw [hU];omega
 rw [<-hU] at hc1 ⊢;repeat (first |refine Aq ?_ |refine Ag ?_ |refine Ae Aa rfl ?_)
 refine AM (ι:=XP) (fun q=>[(0,AF sb),(1,.int .i64 now),(2,.slice qa qn qc),(28,.slice a1 U.length c1),(29,.int .i64 (U.length:Int)),(30,.int .i64 (q.j:Int)),(7,.slice q.a (Dq (U.take q.j) qs).length q.c)])
  (fun q=>[.row w.heap.size (.slice q.a (Dq (U.take q.j) qs).length q.c) 83 2 (Dq (U.take q.j) qs).length (Bq (Dq (U.take q.j) qs)),.row w.heap.size (.slice a1 U.length c1) 32 1 U.length (Bj U),.blk sb (F5 bb s) true,.rep (fun w=>(DM bb s.f s.m s.gs s.last).at_ w Fb (.bool true)) Fb true,.rep (fun w=>((Az Em).vp ql).at_ w Fq (.slice qa qn qc)) Fq false])
  (fun q=>q.j <= U.length) (fun q=>U.length - q.j) ⟨0,none,0⟩ (Nat.zero_le _) (by repeat (first |exact As.nil |refine As.cons rfl ?_)) (fun w' hw=>hw.nilRow _ _) ?_
 rintro ⟨j,a7,c7⟩ hj;dsimp only at hj ⊢
 have hgl:(Dq (U.take j) qs).length <= U.length:=by
  unfold Dq;rw [List.length_map];exact Nat.le_trans (List.length_filter_le _ _) (by rw [List.length_take];omega)
 repeat (first |refine Ai ?_ |refine Ab ?_ |refine Ag ?_ |refine Ae Aa rfl ?_)
 refine Ak rfl (fun hlt=>?_) (fun hge=>?_)
 ·have hjl:j < U.length:=by omega
  repeat (first |refine Ai ?_ |refine Ab ?_ |refine Aq ?_ |refine Ad ?_ |refine Ao ?_)
  refine Fi 1 rfl (by omega) (fun bU hbU=>?_);subst hbU;refine BE (Bs (sz:=1) Aa rfl rfl rfl rfl rfl rfl rfl (j:=j) rfl hjl) ?_;refine Bh Aa (v:=.int .u64 U[j]) rfl rfl (fun w' hw=>by rw [Nat.zero_add,Nat.mul_one];exact Cn (hw.own _ (Af (i:=1) rfl)) (by omega) (HB hjl)) ?_;repeat (first |refine Ai ?_ |refine Ab ?_ |refine Ag ?_ |refine Ae Aa rfl ?_)
  refine BN (ι:=Unit) (fun _=>True) (fun _=>[(0,AF sb),(1,.int .i64 now),(2,.slice qa qn qc),(28,.slice (some ⟨bU,0,none⟩) U.length c1),(29,.int .i64 (U.length:Int)),(30,.int .i64 (j:Int)),(7,.slice a7 (Dq (U.take j) qs).length c7),(9,.int .u64 U[j]),(10,.bool (decide (U[j] ∈ qs)))])
   (fun _=>[.row w.heap.size (.slice a7 (Dq (U.take j) qs).length c7) 83 2 (Dq (U.take j) qs).length (Bq (Dq (U.take j) qs)),.row w.heap.size (.slice (some ⟨bU,0,none⟩) U.length c1) 32 1 U.length (Bj U),.blk sb (F5 bb s) true,.rep (fun w=>(DM bb s.f s.m s.gs s.last).at_ w Fb (.bool true)) Fb true,.rep (fun w=>((Az Em).vp ql).at_ w Fq (.slice qa qn qc)) Fq false]) ?_ ?_
  ·refine Aq ?_
   refine AM (ι:=Nat) (fun i=>[(0,AF sb),(1,.int .i64 now),(2,.slice qa qn qc),(28,.slice (some ⟨bU,0,none⟩) U.length c1),(29,.int .i64 (U.length:Int)),(30,.int .i64 (j:Int)),(7,.slice a7 (Dq (U.take j) qs).length c7),(9,.int .u64 U[j]),(10,.bool (decide (U[j] ∈ qs.take i))),(34,.slice qa qn qc),(35,.int .i64 (qn:Int)),(36,.int .i64 (i:Int))])
    (fun _=>[.row w.heap.size (.slice a7 (Dq (U.take j) qs).length c7) 83 2 (Dq (U.take j) qs).length (Bq (Dq (U.take j) qs)),.row w.heap.size (.slice (some ⟨bU,0,none⟩) U.length c1) 32 1 U.length (Bj U),.blk sb (F5 bb s) true,.rep (fun w=>(DM bb s.f s.m s.gs s.last).at_ w Fb (.bool true)) Fb true,.rep (fun w=>((Az Em).vp ql).at_ w Fq (.slice qa qn qc)) Fq false])
    (fun i=>i <= qn) (fun i=>qn - i) 0 (Nat.zero_le _) (by rw [show decide (U[j] ∈ qs.take 0)=false from by rw [List.take_zero];exact decide_eq_false (by simp)];repeat (first |exact As.nil |refine As.cons rfl ?_)) (fun w' hw=>hw) ?_
   intro i hi;repeat (first |refine Ai ?_ |refine Ab ?_ |refine Ag ?_ |refine Ae Aa rfl ?_)
   refine Ak rfl (fun hlt2=>?_) (fun hge2=>?_);rotate_left
   ·rw [List.take_of_length_le (show qs.length <= i by omega)];repeat (first |refine Ad ?_ |refine AB ?_ |refine Al ?_ |refine AH ?_)
    exact ⟨(),trivial,(by repeat (first |exact As.nil |refine As.cons rfl ?_)),fun w' hw=>hw⟩
   have hi':i < ql.length:=by omega
   have hqi:qs[i]? =some ql[i].1:=by rw [hqs0,List.getElem?_map,List.getElem?_eq_getElem hi'];rfl
   have hmem:U[j] ∈ qs.take (i + 1) ↔ U[j] ∈ qs.take i \/ ql[i].1=U[j]:=by
    rw [List.take_add_one,hqi,List.mem_append,Option.toList_some,List.mem_singleton];exact or_congr Iff.rfl ⟨Eq.symm,Eq.symm⟩
   obtain ⟨ab,off,cs,hqae,hlt3,_⟩:=hq.get_ hi';subst hqae;repeat (first |refine Ai ?_ |refine Ab ?_ |refine Aq ?_ |refine Ad ?_ |refine Ao ?_)
   refine BE (Bs (sz:=2) Aa rfl rfl rfl rfl rfl rfl rfl rfl (j:=i) (by omega)) ?_;refine BR Aa (vs:=EV ql[i]) rfl rfl rfl (fun w' hw=>DF (Br.of_val (hw.own _ (Af (i:=4) rfl)).1) hi') ?_;refine AY Aa rfl (fun b12 hb12=>?_);repeat (first |refine Ag ?_ |refine Ae Aa rfl ?_ |refine Ap ?_ |refine Ax Aa 0 rfl rfl rfl rfl rfl rfl ?_)
   by_cases hm:U[j] ∈ qs.take i
   ·refine Co 41 (v':=.bool true) rfl (congrArg Value.bool (decide_eq_true hm)) ?_;repeat (first |refine Ab ?_ |refine Ag ?_ |refine Ad ?_ |refine Am ?_ |refine AD Aa rfl (by omega) ?_ |refine Ae Aa rfl ?_ |refine Bn rfl rfl rfl ?_)
    refine ⟨i + 1,by show i + 1 <= qn;omega,?_,fun w' hw=>hw.less (by repeat (first |exact Au.nil |refine Au.keep ?_ |refine Au.dropB (by first |assumption |omega) ?_)),by show qn - (i + 1) < qn - i;omega⟩;rw [decide_eq_true (hmem.2 (.inl hm))];repeat (first |exact As.nil |refine As.cons rfl ?_)
   ·refine Co 41 (v':=.bool false) rfl (congrArg Value.bool (decide_eq_false hm)) ?_;repeat (first |refine Ab ?_ |refine Ag ?_ |refine Ad ?_ |refine Am ?_ |refine AD Aa rfl (by omega) ?_ |refine Ae Aa rfl ?_ |refine An Aa 0 rfl rfl rfl ?_)
    refine ⟨i + 1,by show i + 1 <= qn;omega,?_,fun w' hw=>hw.less (by repeat (first |exact Au.nil |refine Au.keep ?_ |refine Au.dropB (by first |assumption |omega) ?_)),by show qn - (i + 1) < qn - i;omega⟩;rw [show decide (U[j] ∈ qs.take (i + 1))=decide (ql[i].1=U[j]) from decide_eq_decide.2 (hmem.trans ⟨fun h=>h.resolve_left hm,.inr⟩)];repeat (first |exact As.nil |refine As.cons rfl ?_)
  intro _ _;have hgs:=NF (qs:=qs) hjl;repeat (first |refine Ai ?_ |refine Ab ?_ |refine Ag ?_ |refine Ae Aa rfl ?_)
  refine CK rfl (fun h1=>?_) (fun h1=>?_)
  ·have hno:U[j] ∉ qs:=by simpa using h1
   rw [if_neg hno] at hgs;repeat (first |refine Ae Aa rfl ?_ |refine Ap ?_ |refine BE (Bf Aa rfl rfl rfl rfl rfl rfl rfl) ?_)
   refine AO Aa rfl rfl rfl rfl rfl rfl rfl rfl rfl rfl rfl rfl (fun b54 hb54=>?_);refine AT (ty:=0) Aa 1 (k:=1) (news:=Bq [(U[j],U[j])]) rfl rfl rfl rfl rfl rfl rfl rfl rfl (by decide) (fun w' hw=>Sl.of_blk (hw.own _ (Af (i:=0) rfl)) rfl (fun j u hu=>by rw [Nat.zero_add];exact hu)) (De _) (by simp only [maxLen];omega) (by show (_ + _) * 16 <= _;omega) rfl (fun A1 C1 hc3 hd3=>⟨_,rfl,?_⟩);rw [<-CY,<-hgs,show (Dq (U.take j) qs).length + 1=(Dq (U.take (j + 1)) qs).length from by rw [hgs,List.length_append];rfl];repeat (first |refine Ab ?_ |refine Ag ?_ |refine Ad ?_ |refine Am ?_ |refine AD Aa rfl (by omega) ?_ |refine Ae Aa rfl ?_)
   exact ⟨⟨j + 1,A1,C1⟩,by show j + 1 <= U.length;omega,(by repeat (first |exact As.nil |refine As.cons rfl ?_)),fun w' hw=>hw.less (by repeat (first |exact Au.nil |refine Au.keep ?_ |refine Au.dropB (by first |assumption |omega) ?_)),by show U.length - (j + 1) < U.length - j;omega⟩
  ·have hyes:U[j] ∈ qs:=by simpa using h1
   rw [if_pos hyes,List.append_nil] at hgs;repeat (first |refine Ab ?_ |refine Ag ?_ |refine Ad ?_ |refine Am ?_ |refine Ao ?_ |refine AD Aa rfl (by omega) ?_ |refine Ae Aa rfl ?_)
   exact ⟨⟨j + 1,a7,c7⟩,by show j + 1 <= U.length;omega,(by dsimp only;rw [hgs];repeat (first |exact As.nil |refine As.cons rfl ?_)),fun w' hw=>by dsimp only;rw [hgs];exact hw,by show U.length - (j + 1) < U.length - j;omega⟩
 have hje:j=U.length:=by omega
 subst hje;rw [List.take_length];rw [List.take_length] at hgl;obtain ⟨gr,hgr⟩:∃ gr,gr=Dq U qs:=⟨_,rfl⟩;rw [<-hgr] at hgl ⊢
 have hrm:D1 s.gs (S8 gr)=(s.keep_ qs).gs:=Iv fun n hn=>by
  have h1:=@MH gr n;rw [hgr,Pz] at h1
  have hU2:n ∈ U:=by rw [hU,Cu];exact hn
  by_cases h:n ∈ qs
  ·rw [decide_eq_true h];exact Bool.eq_false_iff.2 fun h9=>(h1.1 (hgr ▸ h9)).2 h
  ·rw [decide_eq_false h];exact hgr ▸ h1.2 ⟨hU2,h⟩
 have hgrf:∀ r ∈ gr,UQ r:=fun r hr=>by
  rw [hgr] at hr;obtain ⟨k,hk,rfl⟩:=List.mem_map.1 hr;have:=hbok.nfit (Cu.1 (hU ▸ (List.mem_filter.1 hk).1));exact ⟨this,this⟩
 repeat (first |refine Ai ?_ |refine Ab ?_ |refine Ad ?_ |refine AB ?_ |refine Al ?_ |refine AH ?_ |refine Ae Aa rfl ?_ |refine An Aa 2 rfl rfl rfl ?_)
 refine Lr 3 (rl:=gr) (s:=S8 gr) rfl rfl (fun w1 g1=>⟨fun k=>(Value.slice a7 gr.length c7).ownBlock=some k,Br.of_row Cz (g1.own (.row w.heap.size (.slice a7 gr.length c7) 83 2 gr.length (Bq gr)) (Af (i:=0) rfl)) rfl hgrf (fun k _ hk=>hk),fun k hk hF=>g1.dis 0 3 rfl rfl rfl rfl hk hF⟩) (by omega) (fun x=>MH) (fun A3 C3 Fb2' hFb2'=>⟨_,rfl,?_⟩);obtain ⟨Fb2,hFb2e⟩:∃ Fb2,Fb2=Fb2':=⟨_,rfl⟩;rw [hrm,<-hFb2e];have hFb2:∀ k,Fb2 k->F k \/ w.heap.size <= k:=fun k hk=>(hFb2' k (hFb2e ▸ hk)).imp (hFb k) id;refine B0 (fun w' hw=>Hp.less (o':=[.blk sb (F5 bb s) true,.rep (fun w=>(DM bb s.f s.m (s.keep_ qs).gs s.last).at_ w Fb2 (.bool true)) Fb2 true,.rep (fun w=>((Az Em).vp ql).at_ w Fq (.slice qa qn qc)) Fq false]) hw (by repeat (first |exact Au.nil |refine Au.keep ?_ |refine Au.dropW (Nat.le_refl _) ?_))) ?_
 have fin:∀ (s':Bo) (Fb' Fv:Nat->Prop) (w':World) (v:Value),Hp w w' [.blk sb (F5 bb s') true,.rep (fun w=>(DM bb s'.f s'.m s'.gs s'.last).at_ w Fb' (.bool true)) Fb' true,.rep (fun w=>(Hc.vp (s.told now ql)).at_ w Fv v) Fv false]->Ep s'->(∀ k,Fb' k->F k \/ w.heap.size <= k)->(∀ k,Fv k->w.heap.size <= k)->s.tick now ql=s'->
  ∃ (v':Value) (Fv F':Nat->Prop),Ending.returned v= .returned v'/\(∀ k,Fv k->w.heap.size <= k)/\(∀ k,F k->F' k)/\(∀ k,F' k->F k \/ w.heap.size <= k)/\Hp w w' [.rep (fun w=>(Hc.vp (s.told now ql)).at_ w Fv v') Fv false,.rep (fun w=>(JL sb (s.tick now ql)).at_ w F' (.bool true)) F' true]:=fun s' Fb' Fv w' v hw hok' hFb' hFv e=>by
  rw [e]
  obtain ⟨F',j1,j2,j3⟩:=HK (F0:=F) (ol:=[.rep (fun w=>(Hc.vp (s.told now ql)).at_ w Fv v) Fv false]) hw hok' hF (fun e he k hk=>by
   rw [List.mem_singleton] at he;subst he
   exact hFv k hk) (.inl hFsb) hFb'
  exact ⟨_,Fv,F',rfl,hFv,j1,j2,j3.pm [1,0] rfl rfl rfl⟩
 have hokk:Ep (s.keep_ qs):=⟨hok.conf,hok.ep,hok.inc,hok.lim,hok.tm,hok.tr⟩
 have htrk:∀ g ∈ (s.keep_ qs).gs,g.tries < 1099511627776:=fun g hg=>by
  obtain ⟨x,hx,rfl⟩:=Gg hg;exact htr x hx
 repeat (first |refine Ai ?_ |refine Ab ?_ |refine Ag ?_ |refine Ae Aa rfl ?_ |refine An Aa 0 rfl rfl rfl ?_)
 refine CK rfl (fun h1=>?_) (fun h1=>?_)
 ·have hop:s.op=false:=by simpa using h1
  have htk:s.tick now ql=(s.keep_ qs).try_ now:=by unfold Bo.tick;rw [if_neg (by rw [hop];decide),hqs0]
  have hto:s.told now ql=if s.tm <= now then [(1,[])] else []:=by unfold Bo.told;rw [if_neg (by rw [hop];decide)]
  repeat (first |refine Ai ?_ |refine Ab ?_ |refine Ae Aa rfl ?_)
  refine A7 rfl Tryz.call58 (fun w1 g1=>(KN (s:=s.keep_ qs) g1 hok.conf.1 hnow ⟨hok.tr.1,hstr⟩).mono fun e w' ⟨he,h9⟩=>⟨_,_,he,h9,?_⟩);repeat (first |refine Ag ?_)
  refine Ak rfl (fun h2=>?_) (fun h2=>?_)
  ·rw [if_pos (show s.tm <= now from h2)] at hto;repeat (first |refine Ai ?_ |refine Ab ?_ |refine BE (Bf Aa rfl rfl rfl rfl rfl rfl rfl) ?_)
   refine AO Aa rfl rfl rfl rfl rfl rfl rfl rfl rfl rfl rfl rfl (fun nb hnb=>?_);repeat (first |refine Ag ?_ |refine AI ?_ |refine AC ?_ |refine Ae Aa rfl ?_)
   refine AZ rfl rfl (fun w' hw=>?_);have o0:=hw.own _ (Af (i:=0) rfl);have h9:=hw.blkV hnb (Hc.vp [(1,[])]) (v:=.slice (some ⟨nb,0,none⟩) 1 1) (Kq (R:=KC) (F:=fun k=>k=nb) (css:=[[.int .i64 1,.slice none 0 0]]) (v:=.bool true) o0 (MD (by decide)) rfl (by show 1 <= maxLen;decide)).val;refine fin ((s.keep_ qs).try_ now) Fb2 (fun k=>k=nb) w' (.slice (some ⟨nb,0,none⟩) 1 1) ?_ (hokk.try_ hnow hstr) hFb2 (fun k h=>by rw [h];exact hnb) htk;rw [Bo.tryR_same,hto];exact (h9.pm [1,2,0,3] rfl rfl rfl).less (by repeat (first |exact Au.nil |refine Au.keep ?_ |refine Au.dropR ?_))
  ·rw [if_neg (show ¬ s.tm <= now from h2)] at hto;repeat (first |refine Ai ?_ |refine Ab ?_ |refine Ag ?_ |refine Ad ?_ |refine AI ?_ |refine Ao ?_ |refine AC ?_ |refine Ae Aa rfl ?_)
   refine AZ rfl rfl (fun w' hw=>?_);refine fin ((s.keep_ qs).try_ now) Fb2 (fun _=>False) w' _ ?_ (hokk.try_ hnow hstr) hFb2 (fun k h=>h.elim) htk;rw [Bo.tryR_same,hto];exact ((Hp.none (hw.less (o':=[.blk sb (F5 bb ((s.keep_ qs).try_ now)) true,.rep (fun w=>(DM bb s.f s.m (s.keep_ qs).gs s.last).at_ w Fb2 (.bool true)) Fb2 true]) (by repeat (first |exact Au.nil |refine Au.keep ?_ |refine Au.dropR ?_))) (p:=Hc.vp []) (v:=.slice none 0 0) (fun w=>Br.nil_.val) false).pm [1,2,0] rfl rfl rfl)
 have hop:s.op=true:=by simpa using h1
 repeat (first |refine Ai ?_ |refine Ab ?_ |refine Ag ?_ |refine Ad ?_ |refine Ao ?_ |refine Ae Aa rfl ?_ |refine An Aa 0 rfl rfl rfl ?_)
 refine RX 1 rfl rfl hnow htrk (fun d1 dn dc xs Fd Fb3 hFd hFb3 hdl=>⟨_,rfl,?_⟩);obtain ⟨DL,hDL⟩:∃ DL,DL=DB (s.keep_ qs).gs now:=⟨_,rfl⟩;rw [<-hDL] at hdl ⊢;obtain ⟨rfl,hxl⟩:=hdl;have hFb4:∀ k,Fb3 k->F k \/ w.heap.size <= k:=fun k hk=>(hFb3 k hk).elim (hFb2 k) .inr
 have hDb:DL.length <= s.gs.length:=by
  have h1:(DB (s.keep_ qs).gs now).length <= (s.keep_ qs).gs.length:=by unfold DB;rw [List.length_map];exact H6
  rw [<-hDL] at h1;have h2:(s.keep_ qs).gs.length <= s.gs.length:=Nat.le_trans (List.length_filter_le _ _) (by rw [List.length_map];exact Nat.le_refl _);omega
 repeat (first |refine Aq ?_ |refine Ag ?_ |refine Ae Aa rfl ?_)
 refine AM (ι:=Nat × Option Addr × Nat) (fun j=>[(0,AF sb),(1,.int .i64 now),(2,.slice qa qn qc),(13,.slice j.2.1 j.1 j.2.2),(78,.slice d1 DL.length dc),(79,.int .i64 (DL.length:Int)),(80,.int .i64 (j.1:Int))])
  (fun j=>[.row w.heap.size (.slice j.2.1 j.1 j.2.2) 94 2 j.1 ((xs.take j.1).map Df).flatten,.rep (fun w=>(DI d1 DL.length dc xs DL).at_ w Fd (.bool true)) Fd false,.blk sb (F5 bb s) true,.rep (fun w=>(DM bb s.f s.m (EQ s.f s.m now (s.keep_ qs).gs) s.last).at_ w Fb3 (.bool true)) Fb3 true,.rep (fun w=>((Az Em).vp ql).at_ w Fq (.slice qa qn qc)) Fq false])
  (fun j=>j.1 <= DL.length) (fun j=>DL.length - j.1) (0,none,0) (Nat.zero_le _) (by repeat (first |exact As.nil |refine As.cons rfl ?_)) (fun w' hw=>hw.nilRow 94 2) ?_
 rintro ⟨j,A1,C1⟩ hj;dsimp only at hj ⊢;repeat (first |refine Ai ?_ |refine Ab ?_ |refine Ag ?_ |refine Ae Aa rfl ?_)
 refine Ak rfl (fun hlt1=>?_) (fun hge1=>?_)
 ·have hin:j < DL.length:=by omega
  obtain ⟨⟨xa,xn,xc⟩,hx⟩:∃ x,xs[j]? =some x:=⟨_,List.getElem?_eq_getElem (by omega)⟩;refine EY (X:=∃ b off,d1=some ⟨b,off,none⟩) (fun w1 g1=>DI.addr (g1.own _ (Af (i:=1) rfl)).1 (by omega)) (fun ⟨b5,o5,e5⟩=>?_);subst e5;repeat (first |refine Ai ?_ |refine Ab ?_ |refine Aq ?_ |refine Ad ?_ |refine Ao ?_)
  refine BE (Bs (sz:=1) Aa rfl rfl rfl rfl rfl rfl rfl (j:=j) rfl hin) ?_;refine Bh Aa (v:=.slice xa xn xc) rfl rfl (fun w1 h1=>by rw [Nat.mul_one];exact DI.cell (h1.own _ (Af (i:=1) rfl)).1 hx) ?_;repeat (first |refine Ag ?_ |refine Ae Aa rfl ?_ |refine Ap ?_ |refine BE (Bf Aa rfl rfl rfl rfl rfl rfl rfl) ?_)
  refine AO Aa rfl rfl rfl rfl rfl rfl rfl rfl rfl rfl rfl rfl (fun nb hnb=>?_)
  refine AT (ty:=0) (k:=1) (news:=[.int .i64 3,.slice xa xn xc]) Aa 1 (sz:=2) rfl rfl rfl rfl rfl rfl rfl rfl rfl (by decide) (fun w' hw=>Sl.of_blk (hw.own _ (Af (i:=0) rfl)) rfl (fun j u hu=>by rw [Nat.zero_add];exact hu)) (fun u hu=>by
   simp only [List.mem_cons,List.not_mem_nil,or_false] at hu
   rcases hu with rfl |rfl<;>rfl) (by simp only [maxLen];omega) (by show (_ + _) * 32 <= _;omega) rfl (fun A' C' hA' hC'=>⟨_,rfl,?_⟩)
  repeat (first |refine Ab ?_ |refine Ag ?_ |refine Ad ?_ |refine Am ?_ |refine AD Aa rfl (by omega) ?_ |refine Ae Aa rfl ?_)
  refine ⟨(j + 1,A',C'),hin,(by repeat (first |exact As.nil |refine As.cons rfl ?_)),fun w' hw=>?_,by dsimp only;omega⟩
  have e9:((xs.take (j + 1)).map Df).flatten=((xs.take j).map Df).flatten ++ [.int .i64 3,.slice xa xn xc]:=by
   rw [List.getElem?_eq_some_iff] at hx;obtain ⟨hx1,hx2⟩:=hx;rw [List.take_succ_eq_append_getElem hx1,hx2,List.map_append,List.flatten_append];rfl
  dsimp only;rw [e9];exact hw.less (by repeat (first |exact Au.nil |refine Au.keep ?_ |refine Au.dropB (by first |assumption |omega) ?_))
 have hje:j=DL.length:=by omega
 subst hje;rw [List.take_of_length_le (by omega)];obtain ⟨s2,hs2⟩:∃ t,t=(s.keep_ qs).due_ now:=⟨_,rfl⟩
 have hok2:Ep s2:=by rw [hs2];exact ⟨hok.conf,hok.ep,hok.inc,hok.lim,hok.tm,hok.tr⟩
 have hs2g:s2.gs.length <= s.gs.length/\(Aw s2.gs).length <= (Aw s.gs).length/\s2.last=s.last:=by
  rw [hs2];refine ⟨?_,?_,rfl⟩
  ·show ((s.keep_ qs).gs.map _).length <= _;rw [List.length_map];exact Nat.le_trans (List.length_filter_le _ _) (by rw [List.length_map];exact Nat.le_refl _)
  ·show (Aw (EQ s.f s.m now (s.keep_ qs).gs)).length <= _;rw [GQ,show Aw (s.keep_ qs).gs=(Aw s.gs).filter fun n=>!!decide (n ∈ qs) from Ec _ _];exact List.length_filter_le _ _
 have e20:DM bb s.f s.m (EQ s.f s.m now (s.keep_ qs).gs) s.last=DM bb s2.f s2.m s2.gs s2.last:=by rw [hs2];rfl
 have e21:F5 bb s=F5 bb s2:=by rw [hs2];rfl
 rw [e20,e21];obtain ⟨nums,hnums⟩:∃ nums,nums=Aw s2.gs:=⟨_,rfl⟩;have hp1:1 <= s2.p:=hok2.conf.2.1;have hp64:s2.p <= 64:=hok2.conf.2.2.1;have hq1024:=hok2.conf.2.2.2.2;obtain ⟨stO,hstO⟩:∃ stO:Nat->CW,stO=fun i=>F4 s2.p s2.lim nums (ql.take i) (CH s2.q nums):=⟨_,rfl⟩
 have hst0:stO 0=CH s2.q nums:=by rw [hstO];rfl
 have hfr0:Im s2.p s2.q nums.length (stO 0) 0:=by
  rw [hst0];exact ⟨Nat.le_refl _,Nat.le_refl _,⟨Int.le_refl _,by show (0:Int) <= _;omega⟩,rfl,fun n hn=>by cases hn⟩
 repeat (first |refine Ai ?_ |refine Ab ?_ |refine Ag ?_ |refine Ad ?_ |refine AB ?_ |refine Al ?_ |refine AH ?_ |refine Ae Aa rfl ?_)
 refine BN (ι:=XQ) (fun q=>q.css.flatten.length=(stO qn).out.length/\(∀ k,q.Fo k->w.heap.size <= k)/\Im s2.p s2.q nums.length (stO qn) qn) (fun q=>[(0,AF sb),(1,.int .i64 now),(2,.slice qa qn qc),(13,.slice A1 DL.length C1),(17,.slice q.a17 (stO qn).cur.length q.c17),(18,.slice q.a18 (stO qn).out.length q.c18)])
  (fun q=>[.blk sb (F5 bb s2) true,.rep (fun w=>(DM bb s2.f s2.m s2.gs s2.last).at_ w Fb3 (.bool true)) Fb3 true,.row w.heap.size (.slice q.a17 (stO qn).cur.length q.c17) 32 1 (stO qn).cur.length (Bj (stO qn).cur),.row w.heap.size (.slice q.a18 (stO qn).out.length q.c18) 59 1 (stO qn).out.length q.css.flatten,.rep (fun w=>(Cj (Az (A8 .u64)) q.css (stO qn).out).at_ w q.Fo (.bool true)) q.Fo false,.row w.heap.size (.slice A1 DL.length C1) 94 2 DL.length (xs.map Df).flatten,.rep (fun w=>(DI d1 DL.length dc xs DL).at_ w Fd (.bool true)) Fd false]) ?_ ?_
 ·refine Aq ?_
  refine AM (ι:=XQ) (fun q=>[(0,AF sb),(1,.int .i64 now),(2,.slice qa qn qc),(13,.slice A1 DL.length C1),(16,.slice q.a16 ((stO q.i).out.flatten ++ (stO q.i).cur).length q.c16),(17,.slice q.a17 (stO q.i).cur.length q.c17),(18,.slice q.a18 (stO q.i).out.length q.c18),(19,.int .i64 (stO q.i).sum),(90,.slice qa qn qc),(91,.int .i64 (qn:Int)),(92,.int .i64 (q.i:Int))])
   (fun q=>[.blk sb (F5 bb s2) true,.rep (fun w=>(DM bb s2.f s2.m s2.gs s2.last).at_ w Fb3 (.bool true)) Fb3 true,.rep (fun w=>((Az Em).vp ql).at_ w Fq (.slice qa qn qc)) Fq false,.row w.heap.size (.slice q.a16 ((stO q.i).out.flatten ++ (stO q.i).cur).length q.c16) 32 1 ((stO q.i).out.flatten ++ (stO q.i).cur).length (Bj ((stO q.i).out.flatten ++ (stO q.i).cur)),.row w.heap.size (.slice q.a17 (stO q.i).cur.length q.c17) 32 1 (stO q.i).cur.length (Bj (stO q.i).cur),.row w.heap.size (.slice q.a18 (stO q.i).out.length q.c18) 59 1 (stO q.i).out.length q.css.flatten,.rep (fun w=>(Cj (Az (A8 .u64)) q.css (stO q.i).out).at_ w q.Fo (.bool true)) q.Fo false,.row w.heap.size (.slice A1 DL.length C1) 94 2 DL.length (xs.map Df).flatten,.rep (fun w=>(DI d1 DL.length dc xs DL).at_ w Fd (.bool true)) Fd false])
   (fun q=>q.i <= qn/\q.css.flatten.length=(stO q.i).out.length/\(∀ k,q.Fo k->w.heap.size <= k)/\Im s2.p s2.q nums.length (stO q.i) q.i) (fun q=>qn - q.i) ⟨0,none,0,none,0,none,0,[],fun _=>False⟩ ⟨Nat.zero_le _,by rw [hst0];rfl,fun k hk=>hk.elim,hfr0⟩ (by dsimp only;rw [hst0];repeat (first |exact As.nil |refine As.cons rfl ?_)) (fun w' hw=>?_) ?_
  ·dsimp only;rw [hst0];exact (((((hw.pm [2,3,4,0,1] rfl rfl rfl).none (p:=Cj (Az (A8 .u64)) [] []) (v:=.bool true) (fun w=>Cj.nil_) false).nilRow 59 1).nilRow 32 1).nilRow 32 1).pm [4,5,6,0,1,2,3,7,8] rfl rfl rfl
  rintro ⟨i,a16,c16,a17,c17,a18,c18,css,Fo⟩ ⟨hi,hcss,hFo,hfr⟩;dsimp only at hi hcss hFo hfr ⊢;obtain ⟨st,hst⟩:∃ st,st=stO i:=⟨_,rfl⟩;rw [<-hst] at hcss hfr ⊢;have hfo1:=hfr.out;have hfo2:=hfr.fl;have hfo3:=hfr.sum;have hfo4:=hfr.room;have hfl2:(st.out.flatten ++ st.cur).length=st.out.flatten.length + st.cur.length:=List.length_append
  have hnn:nums.length <= 60000:=by rw [hnums];omega
  repeat (first |refine Ai ?_ |refine Ab ?_ |refine Ag ?_ |refine Ae Aa rfl ?_)
  refine Ak rfl (fun hlt1=>?_) (fun hge2=>?_);rotate_left
  ·have hie:i=qn:=by omega
   subst hie;repeat (first |refine Ad ?_ |refine AB ?_ |refine Al ?_ |refine AH ?_)
   exact ⟨⟨0,none,0,a17,c17,a18,c18,css,Fo⟩,⟨by rw [<-hst];exact hcss,hFo,by rw [<-hst];exact hfr⟩,(by dsimp only;rw [<-hst];repeat (first |exact As.nil |refine As.cons rfl ?_)),fun w' hw=>by
    dsimp only;rw [<-hst]
    exact (hw.pm [0,1,4,5,6,7,8,2,3] rfl rfl rfl).less (by repeat (first |exact Au.nil |refine Au.keep ?_ |refine Au.dropR ?_ |refine Au.dropW (Nat.le_refl _) ?_))⟩
  have hi':i < ql.length:=by omega
  have hokk2:=hqok i hi';have hzz:=hqz _ (List.getElem_mem hi')
  have hstS:stO (i + 1)=Ee s2.p s2.lim nums st ql[i]:=by
   rw [hst,hstO];dsimp only;rw [List.take_succ_eq_append_getElem hi',NK]
  obtain ⟨ab,off,cs,hqae,hlt3,_⟩:=hq.get_ hi';subst hqae;repeat (first |refine Ai ?_ |refine Ab ?_ |refine Aq ?_ |refine Ad ?_ |refine Ao ?_)
  refine BE (Bs (sz:=2) Aa rfl rfl rfl rfl rfl rfl rfl rfl (j:=i) (by omega)) ?_;refine BR Aa (vs:=EV ql[i]) rfl rfl rfl (fun w' hw=>DF (Br.of_val (hw.own _ (Af (i:=2) rfl)).1) hi') ?_;refine AY Aa rfl (fun b21 hb21=>?_);obtain ⟨x,hx⟩:∃ x,x=ql[i]:=⟨_,rfl⟩;rw [<-hx] at hokk2 hzz hstS ⊢;repeat (first |refine A5 (by kernel_rfl) (by kernel_rfl) ?_ |refine Ah Aa rfl ?_ |refine AE Aa 0 rfl rfl rfl ?_ |refine AE Aa 1 rfl rfl rfl ?_ |refine Ai ?_ |refine Ag ?_ |refine Ax Aa 0 rfl rfl rfl rfl rfl rfl ?_)
  refine Bi (v:=.bool (decide (x.1 ∈ nums))) rfl Tryz.call60 (fun w' vs hw' h=>by
   obtain ⟨u1,_,rfl,rfl,u2,_,rfl,rfl,rfl⟩:=h;obtain ⟨hok',_,a,c,hR⟩:=Qn (hw'.own _ (Af (i:=2) rfl)).1;rw [hnums]
   exact Iw hR hok' x.1) ?_
  repeat (first |refine Ah Aa rfl ?_)
  have hskip:NH s2.lim nums x st->stO (i + 1)=st:=fun h=>by rw [hstS,Ee,if_pos h]
  by_cases hin1:x.1 ∈ nums
  ·refine BX 103 (v':=.bool true) rfl (congrArg Value.bool (decide_eq_true hin1)) ?_;repeat (first |refine AN rfl ?_ |refine Ah Aa rfl ?_ |refine BP rfl rfl rfl ?_)
   refine AX rfl ?_;repeat (first |refine Ab ?_ |refine Ag ?_ |refine Ad ?_ |refine AB ?_ |refine Al ?_ |refine AH ?_ |refine AD Aa rfl (by omega) ?_ |refine Ae Aa rfl ?_)
   exact ⟨⟨i + 1,a16,c16,a17,c17,a18,c18,css,Fo⟩,⟨by show i + 1 <= qn;omega,by rw [hskip (.inl hin1)];exact hcss,hFo,by rw [hskip (.inl hin1)];exact hfr.up (Nat.le_succ _)⟩,(by dsimp only;rw [hskip (.inl hin1)];repeat (first |exact As.nil |refine As.cons rfl ?_)),fun w' hw=>by dsimp only;rw [hskip (.inl hin1)];exact hw.less (by repeat (first |exact Au.nil |refine Au.keep ?_ |refine Au.dropB (by first |assumption |omega) ?_)),by show qn - (i + 1) < qn - i;omega⟩
  refine BX 103 (v':=.bool false) rfl (congrArg Value.bool (decide_eq_false hin1)) ?_;repeat (first |refine Ah Aa rfl ?_ |refine AE Aa 0 rfl rfl rfl ?_ |refine AE Aa 1 rfl rfl rfl ?_)
  by_cases hlim:s2.lim < x.1
  ·refine BX 112 (v':=.bool true) rfl (congrArg Value.bool (decide_eq_true hlim)) ?_;repeat (first |refine AN rfl ?_ |refine Ah Aa rfl ?_ |refine BP rfl rfl rfl ?_)
   refine AX rfl ?_;repeat (first |refine Ab ?_ |refine Ag ?_ |refine Ad ?_ |refine AB ?_ |refine Al ?_ |refine AH ?_ |refine AD Aa rfl (by omega) ?_ |refine Ae Aa rfl ?_)
   exact ⟨⟨i + 1,a16,c16,a17,c17,a18,c18,css,Fo⟩,⟨by show i + 1 <= qn;omega,by rw [hskip (.inr (.inl hlim))];exact hcss,hFo,by rw [hskip (.inr (.inl hlim))];exact hfr.up (Nat.le_succ _)⟩,(by dsimp only;rw [hskip (.inr (.inl hlim))];repeat (first |exact As.nil |refine As.cons rfl ?_)),fun w' hw=>by dsimp only;rw [hskip (.inr (.inl hlim))];exact hw.less (by repeat (first |exact Au.nil |refine Au.keep ?_ |refine Au.dropB (by first |assumption |omega) ?_)),by show qn - (i + 1) < qn - i;omega⟩
  refine BX 112 (v':=.bool false) rfl (congrArg Value.bool (decide_eq_false hlim)) ?_;repeat (first |refine Ah Aa rfl ?_ |refine AE Aa 1 rfl rfl rfl ?_)
  refine O7 (fun v _=>∃ a c,v= .slice a nums.length c) rfl Tryz.call44 (fun v w w' h _=>h) (fun w' vs hw' h=>by
   obtain ⟨u1,_,rfl,rfl,rfl⟩:=h;obtain ⟨hok',_,a,c,hR⟩:=Qn (hw'.own _ (Af (i:=2) rfl)).1;refine (KP hR hok').mono fun e w2 ⟨a',c',e1,e2,_⟩=>⟨_,e1,e2,a',c',?_⟩
   rw [hnums,LG hok'.nd]) ?_
  refine WQ Aa 117 (m:=nums.length) (v:=.int .i64 (nums.length:Int)) rfl rfl rfl rfl rfl (fun a c=>rfl) ?_;repeat (first |refine BD Aa rfl (by omega) ?_ |refine Ah Aa rfl ?_ |refine AE Aa 1 rfl rfl rfl ?_)
  refine KE rfl ?_;skip;by_cases hroom:st.room <= 0
  ·refine Ak rfl (fun _=>?_) (fun h=>absurd (show s2.q <= (nums.length:Int) + ((st.out.flatten ++ st.cur).length:Int) by omega) h);repeat (first |refine Ab ?_ |refine Ag ?_ |refine Ad ?_ |refine AB ?_ |refine Al ?_ |refine AH ?_ |refine AD Aa rfl (by omega) ?_ |refine Ae Aa rfl ?_)
   exact ⟨⟨i + 1,a16,c16,a17,c17,a18,c18,css,Fo⟩,⟨by show i + 1 <= qn;omega,by rw [hskip (.inr (.inr hroom))];exact hcss,hFo,by rw [hskip (.inr (.inr hroom))];exact hfr.up (Nat.le_succ _)⟩,(by dsimp only;rw [hskip (.inr (.inr hroom))];repeat (first |exact As.nil |refine As.cons rfl ?_)),fun w' hw=>by dsimp only;rw [hskip (.inr (.inr hroom))];exact hw.less (by repeat (first |exact Au.nil |refine Au.keep ?_ |refine Au.dropB (by first |assumption |omega) ?_)),by show qn - (i + 1) < qn - i;omega⟩
  refine Ak rfl (fun h=>absurd h (show ¬ s2.q <= (nums.length:Int) + ((st.out.flatten ++ st.cur).length:Int) by omega)) (fun _=>?_)
  have hstN:stO (i + 1)=CI x (Cc s2.p x st):=by rw [hstS,Ee,if_neg (fun h=>h.elim hin1 fun h=>h.elim hlim hroom)]
  have hfrN:=hfr.step hzz hokk2.1 (x:=x);rw [<-hstN] at hfrN;obtain ⟨st1,hst1⟩:∃ st1,st1=Cc s2.p x st:=⟨_,rfl⟩;obtain ⟨hfe1,hfe2⟩:=@HX s2.p x st;rw [<-hst1] at hstN hfe1 hfe2;repeat (first |refine Ai ?_ |refine Ab ?_ |refine Ad ?_ |refine Ao ?_ |refine Ae Aa rfl ?_)
  refine FK (ι:=Bool) (fun b=>b=true ↔ Jk s2.p x st) (fun b=>[(0,AF sb),(1,.int .i64 now),(2,.slice (some ⟨ab,off,none⟩) qn qc),(13,.slice A1 DL.length C1),(90,.slice (some ⟨ab,off,none⟩) qn qc),(91,.int .i64 (qn:Int)),(92,.int .i64 (i:Int)),(21,.pointer (some ⟨b21,0,none⟩)),(16,.slice a16 (st.out.flatten ++ st.cur).length c16),(17,.slice a17 st.cur.length c17),(18,.slice a18 st.out.length c18),(19,.int .i64 st.sum),(146,.bool b)])
   (fun _=>[.blk b21 (.cells ⟨[.int .u64 x.1,.int .i64 x.2]⟩ 90 (0,0)) true,.blk sb (F5 bb s2) true,.rep (fun w=>(DM bb s2.f s2.m s2.gs s2.last).at_ w Fb3 (.bool true)) Fb3 true,.rep (fun w=>((Az Em).vp ql).at_ w Fq (.slice (some ⟨ab,off,none⟩) qn qc)) Fq false,.row w.heap.size (.slice a16 (st.out.flatten ++ st.cur).length c16) 32 1 (st.out.flatten ++ st.cur).length (Bj (st.out.flatten ++ st.cur)),.row w.heap.size (.slice a17 (st.cur).length c17) 32 1 (st.cur).length (Bj (st.cur)),.row w.heap.size (.slice a18 (st.out).length c18) 59 1 (st.out).length css.flatten,.rep (fun w=>(Cj (Az (A8 .u64)) css (st.out)).at_ w Fo (.bool true)) Fo false,.row w.heap.size (.slice A1 DL.length C1) 94 2 DL.length (xs.map Df).flatten,.rep (fun w=>(DI d1 DL.length dc xs DL).at_ w Fd (.bool true)) Fd false]) ?_ ?_
  ·by_cases hc0:0 < (st.cur.length:Int)
   ·refine Co 131 (v':=.bool true) rfl (congrArg Value.bool (decide_eq_true hc0)) ?_;repeat (first |refine Ae Aa rfl ?_ |refine An Aa 1 rfl rfl rfl ?_)
    by_cases hc1:s2.p <= (st.cur.length:Int)
    ·refine Co 139 (v':=.bool true) rfl (congrArg Value.bool (decide_eq_true hc1)) ?_;repeat (first |refine Ag ?_ |refine Ae Aa rfl ?_ |refine Bn rfl rfl rfl ?_)
     exact ⟨true,⟨fun _=>⟨hc0,.inl hc1⟩,fun _=>rfl⟩,(by repeat (first |exact As.nil |refine As.cons rfl ?_)),fun w hw=>hw⟩
    ·refine Co 139 (v':=.bool false) rfl (congrArg Value.bool (decide_eq_false hc1)) ?_;repeat (first |refine Ag ?_ |refine AD Aa rfl (by omega) ?_ |refine Ae Aa rfl ?_ |refine An Aa 0 rfl rfl rfl ?_)
     exact ⟨decide (60000 < st.sum + x.2),⟨fun h=>⟨hc0,.inr (of_decide_eq_true h)⟩,fun h=>decide_eq_true (h.2.resolve_left hc1)⟩,(by repeat (first |exact As.nil |refine As.cons rfl ?_)),fun w hw=>hw⟩
   ·refine Co 131 (v':=.bool false) rfl (congrArg Value.bool (decide_eq_false hc0)) ?_;repeat (first |refine Ag ?_ |refine Ae Aa rfl ?_ |refine Bn rfl rfl rfl ?_)
    exact ⟨false,⟨(fun h=>by cases h),fun h=>(hc0 h.1).elim⟩,(by repeat (first |exact As.nil |refine As.cons rfl ?_)),fun w hw=>hw⟩
  intro b hb
  refine BN (ι:=XQ) (fun q=>q.css.flatten.length=st1.out.length/\∀ k,q.Fo k->w.heap.size <= k) (fun q=>[(0,AF sb),(1,.int .i64 now),(2,.slice (some ⟨ab,off,none⟩) qn qc),(13,.slice A1 DL.length C1),(90,.slice (some ⟨ab,off,none⟩) qn qc),(91,.int .i64 (qn:Int)),(92,.int .i64 (i:Int)),(21,.pointer (some ⟨b21,0,none⟩)),(16,.slice a16 (st.out.flatten ++ st.cur).length c16),(17,.slice q.a17 st1.cur.length q.c17),(18,.slice q.a18 st1.out.length q.c18),(19,.int .i64 st1.sum)])
   (fun q=>[.blk b21 (.cells ⟨[.int .u64 x.1,.int .i64 x.2]⟩ 90 (0,0)) true,.blk sb (F5 bb s2) true,.rep (fun w=>(DM bb s2.f s2.m s2.gs s2.last).at_ w Fb3 (.bool true)) Fb3 true,.rep (fun w=>((Az Em).vp ql).at_ w Fq (.slice (some ⟨ab,off,none⟩) qn qc)) Fq false,.row w.heap.size (.slice a16 (st.out.flatten ++ st.cur).length c16) 32 1 (st.out.flatten ++ st.cur).length (Bj (st.out.flatten ++ st.cur)),.row w.heap.size (.slice q.a17 (st1.cur).length q.c17) 32 1 (st1.cur).length (Bj (st1.cur)),.row w.heap.size (.slice q.a18 (st1.out).length q.c18) 59 1 (st1.out).length q.css.flatten,.rep (fun w=>(Cj (Az (A8 .u64)) q.css (st1.out)).at_ w q.Fo (.bool true)) q.Fo false,.row w.heap.size (.slice A1 DL.length C1) 94 2 DL.length (xs.map Df).flatten,.rep (fun w=>(DI d1 DL.length dc xs DL).at_ w Fd (.bool true)) Fd false]) ?_ ?_
  ·cases b with
   |false=>
    have hnf:¬ Jk s2.p x st:=fun h=>by have:=hb.2 h;cases this
    have e1:st1=st:=by rw [hst1,Cc,if_neg hnf]
    rw [e1];refine AG rfl ?_;repeat (first |refine Ad ?_ |refine Ao ?_)
    exact ⟨⟨0,none,0,a17,c17,a18,c18,css,Fo⟩,⟨hcss,hFo⟩,(by repeat (first |exact As.nil |refine As.cons rfl ?_)),fun w' hw=>hw⟩
   |true=>
    have e1:st1= { st with out:=st.out ++ [st.cur],cur:=[],sum:=0}:=by rw [hst1,Cc,if_pos (hb.1 rfl)]
    rw [e1];dsimp only;refine AX rfl ?_;refine Gy (fun w' hw=>hw.pm [5,0,1,2,3,4,6,7,8,9] rfl rfl rfl) ?_;refine L5 ((Az (A8 .u64)).vp st.cur) (fun w' h=>(Ex h rfl (fun n hn=>hfr.fit n (List.mem_append.2 (.inr hn)))).val) (fun Fl hFl=>?_);repeat (first |refine Ai ?_ |refine Ab ?_ |refine Ae Aa rfl ?_)
    refine AO Aa rfl rfl rfl rfl rfl rfl rfl rfl rfl rfl rfl rfl (fun b49 hb49=>?_);refine AT (ty:=0) Aa 7 (k:=1) (news:=[.slice a17 st.cur.length c17]) rfl rfl rfl rfl rfl rfl rfl rfl rfl (by decide) (fun w' hw=>Sl.of_blk (hw.own _ (Af (i:=0) rfl)) rfl (fun j u hu=>by rw [Nat.zero_add];exact hu)) (fun u hu=>by rw [List.mem_singleton] at hu;subst hu;rfl) (by simp only [maxLen];omega) (by show (_ + _) * 24 <= _;omega) rfl (fun A' C' hA' hC'=>⟨_,rfl,?_⟩);repeat (first |refine Ab ?_ |refine Ag ?_ |refine Ae Aa rfl ?_)
    have e9:(css ++ [[Value.slice a17 st.cur.length c17]]).flatten=css.flatten ++ [Value.slice a17 st.cur.length c17]:=by rw [List.flatten_append];rfl
    have e8:(st.out ++ [st.cur]).length=st.out.length + 1:=by rw [List.length_append];rfl
    refine ⟨⟨0,none,0,none,0,A',C',css ++ [[.slice a17 st.cur.length c17]],fun k=>Fl k \/ Fo k⟩,⟨by dsimp only;rw [e9,e8,List.length_append,hcss];rfl,fun k hk=>hk.elim (hFl k) (hFo k)⟩,(by dsimp only;rw [e8];repeat (first |exact As.nil |refine As.cons rfl ?_)),fun w' hw=>?_⟩;dsimp only;rw [e8,e9];have h8:=(hw.pm [1,8,2,3,4,5,6,7,9,10,0] rfl rfl rfl).merge (Ψ:=fun w=>(Cj (Az (A8 .u64)) (css ++ [[Value.slice a17 st.cur.length c17]]) (st.out ++ [st.cur])).at_ w (fun k=>Fl k \/ Fo k) (.bool true)) (fun q1 q2=>Cj.snoc ((Cj _ _ _).mono q2 fun k hk=>.inr hk) ((Az (A8 .u64)).at_mono q1 fun k hk=>.inl hk)) (Vp.loc (p:=Cj _ _ _));exact ((h8.nilRow 32 1).pm [2,3,4,5,6,0,7,1,8,9,10] rfl rfl rfl).less (by repeat (first |exact Au.nil |refine Au.keep ?_ |refine Au.dropB (by first |assumption |omega) ?_))
  rintro ⟨_,_,_,a17,c17,a18,c18,css,Fo⟩ ⟨hcss,hFo⟩;dsimp only at hcss hFo ⊢;repeat (first |refine Ai ?_)
  have hfe3:(st1.out.flatten ++ st1.cur).length=st1.out.flatten.length + st1.cur.length:=List.length_append;rw [hfe1] at hfe3;have hsm:=hfrN.sum;rw [hstN] at hsm;change 0 <= st1.sum + x.2/\st1.sum + x.2 <= ((i + 1:Nat):Int) * 1099511627776 at hsm
  have eN1:((CI x st1).out.flatten ++ (CI x st1).cur).length=(st.out.flatten ++ st.cur).length + 1:=by rw [Hj,hfe1,List.length_append (bs:=[x.1])];rfl
  have eN2:(CI x st1).cur.length=st1.cur.length + 1:=by show (st1.cur ++ [x.1]).length=_;rw [List.length_append];rfl
  have eN3:Bj ((CI x st1).out.flatten ++ (CI x st1).cur)=Bj (st.out.flatten ++ st.cur) ++ [.int .u64 x.1]:=by rw [Hj,hfe1];unfold Bj;rw [List.map_append];rfl
  have eN4:Bj (CI x st1).cur=Bj st1.cur ++ [.int .u64 x.1]:=by show Bj (st1.cur ++ [x.1])=_;unfold Bj;rw [List.map_append];rfl
  refine Ii (by kernel_rfl) (by kernel_rfl) [3,4,8,9,10,11] (by kernel_rfl) (by kernel_rfl) (by kernel_rfl) (by kernel_rfl) [.blk b21 (.cells ⟨[.int .u64 x.1,.int .i64 x.2]⟩ 90 (0,0)) false] (CF DQ)
   [some (.slice a17 st1.cur.length c17),some (.pointer (some ⟨b21,0 + 0,none⟩)),some (.int .u64 x.1),none,none,some (.slice a16 (st.out.flatten ++ st.cur).length c16),some (.pointer (some ⟨b21,0 + 0,none⟩)),some (.int .u64 x.1),none,none,none,none]
   ⟨.inr ⟨_,_,rfl,rfl,fun w f=>Ah Aa rfl Aj⟩,.inr ⟨_,_,rfl,rfl,fun w f=>Ah Aa rfl Aj⟩,.inr ⟨_,_,rfl,rfl,fun w f=>AE Aa 0 rfl rfl rfl Aj⟩,.inl rfl,.inl rfl,.inr ⟨_,_,rfl,rfl,fun w f=>Ah Aa rfl Aj⟩,.inr ⟨_,_,rfl,rfl,fun w f=>Ah Aa rfl Aj⟩,.inr ⟨_,_,rfl,rfl,fun w f=>AE Aa 0 rfl rfl rfl Aj⟩,.inl rfl,.inl rfl,.inl rfl,.inl rfl,trivial⟩ ?_
  refine DD (i:=3) (i2:=8) [(153,.int .u64 x.1)] [(158,.int .u64 x.1)] (.inr (AL 0 rfl AV)) (by kernel_rfl) rfl rfl (.cons rfl rfl .nil) (.cons rfl rfl .nil) ?_ ?_
  ·refine AO Aa rfl rfl rfl rfl rfl rfl rfl rfl rfl rfl rfl rfl (fun b3 hb3=>?_);refine Ag ⟨_,rfl,(fun u h=>by cases h),?_⟩;refine DD (i:=4) (i2:=8) [(151,.slice a17 st1.cur.length c17),(154,.slice (some ⟨b3,0,none⟩) 1 1)] [(158,.int .u64 x.1)] (.inr (AL 1 rfl AV)) (by kernel_rfl) rfl rfl (.cons rfl rfl (.cons rfl rfl .nil)) (.cons rfl rfl .nil) ?_ ?_
   ·refine AT (ty:=0) Aa 6 (k:=1) (news:=[.int .u64 x.1]) rfl rfl rfl rfl rfl rfl rfl rfl rfl (by decide) (fun w' hw=>Sl.of_blk (hw.own _ (Af (i:=0) rfl)) rfl (fun j u hu=>by rw [Nat.zero_add];exact hu)) (fun u hu=>by rw [List.mem_singleton] at hu;subst hu;rfl) (by simp only [maxLen];omega) (by show (_ + _) * 8 <= _;omega) rfl (fun A4 C4 hA' hC'=>⟨_,rfl,?_⟩);refine Ag ⟨_,rfl,(fun u h=>by cases h),?_⟩;refine AQ (i:=8) [(158,.int .u64 x.1)] (.inr (AL 1 rfl AV)) (by kernel_rfl) rfl (.cons rfl rfl .nil) ?_;refine AO Aa rfl rfl rfl rfl rfl rfl rfl rfl rfl rfl rfl rfl (fun b8 hb8=>?_);refine Ag ⟨_,rfl,(fun u h=>by cases h),?_⟩;refine AQ (i:=9) [(156,.slice a16 (st.out.flatten ++ st.cur).length c16),(159,.slice (some ⟨b8,0,none⟩) 1 1)] (.inr (AL 2 rfl AV)) (by kernel_rfl) rfl (.cons rfl rfl (.cons rfl rfl .nil)) ?_;refine AT (ty:=0) Aa 6 (k:=1) (news:=[.int .u64 x.1]) rfl rfl rfl rfl rfl rfl rfl rfl rfl (by decide) (fun w' hw=>Sl.of_blk (hw.own _ (Af (i:=0) rfl)) rfl (fun j u hu=>by rw [Nat.zero_add];exact hu)) (fun u hu=>by rw [List.mem_singleton] at hu;subst hu;rfl) (by simp only [maxLen];omega) (by show (_ + _) * 8 <= _;omega) rfl (fun A9 C9 hA' hC'=>⟨_,rfl,?_⟩);refine Ag ⟨_,rfl,(fun u h=>by cases h),?_⟩;refine AQ (i:=10) [(155,.slice A4 (st1.cur.length + 1) C4)] (.inr (AL 2 rfl AV)) (by kernel_rfl) rfl (.cons rfl rfl .nil) ?_;refine Ae Aa rfl ?_;refine Ag ⟨_,rfl,(fun u h=>by cases h),?_⟩
    refine AQ (i:=11) [(160,.slice A9 ((st.out.flatten ++ st.cur).length + 1) C9)] (.inl (by kernel_rfl)) (by kernel_rfl) rfl (.cons rfl rfl .nil) ?_;refine Ae Aa rfl ?_;refine Ag ⟨_,rfl,(fun u h=>by cases h),?_⟩;refine Ct [(0,AF sb),(1,.int .i64 now),(2,.slice (some ⟨ab,off,none⟩) qn qc),(13,.slice A1 DL.length C1),(90,.slice (some ⟨ab,off,none⟩) qn qc),(91,.int .i64 (qn:Int)),(92,.int .i64 (i:Int)),(21,.pointer (some ⟨b21,0,none⟩)),(16,.slice A9 ((st.out.flatten ++ st.cur).length + 1) C9),(17,.slice A4 (st1.cur.length + 1) C4),(18,.slice a18 st1.out.length c18),(19,.int .i64 st1.sum)] (by repeat (first |exact Bc.nil |refine Bc.cons rfl ?_)) ?_;repeat (first |refine Ab ?_ |refine Ag ?_ |refine Ad ?_ |refine Am ?_ |refine AD Aa rfl (by omega) ?_ |refine Ae Aa rfl ?_ |refine Ap ?_ |refine An Aa 2 rfl rfl rfl ?_)
    refine ⟨⟨i + 1,A9,C9,A4,C4,a18,c18,css,Fo⟩,⟨by show i + 1 <= qn;omega,by rw [hstN];exact hcss,hFo,hfrN⟩,(by dsimp only;rw [hstN,eN1,eN2];repeat (first |exact As.nil |refine As.cons rfl ?_)),fun w' hw=>?_,by show qn - (i + 1) < qn - i;omega⟩;dsimp only;rw [hstN,eN1,eN2,eN3,eN4];exact (hw.pm [3,4,5,6,7,8,9,10,11,2,0,1] rfl rfl rfl).less (by repeat (first |exact Au.nil |refine Au.keep ?_ |refine Au.dropB (by first |assumption |omega) ?_))
   ·refine AO Aa rfl rfl rfl rfl rfl rfl rfl rfl rfl rfl rfl rfl (fun b8 hb8=>?_);refine Ag ⟨_,rfl,(fun u h=>by cases h),?_⟩;refine AQ (i:=4) [(151,.slice a17 st1.cur.length c17),(154,.slice (some ⟨b3,0,none⟩) 1 1)] (.inr (AL 2 rfl AV)) (by kernel_rfl) rfl (.cons rfl rfl (.cons rfl rfl .nil)) ?_;refine AT (ty:=0) Aa 7 (k:=1) (news:=[.int .u64 x.1]) rfl rfl rfl rfl rfl rfl rfl rfl rfl (by decide) (fun w' hw=>Sl.of_blk (hw.own _ (Af (i:=1) rfl)) rfl (fun j u hu=>by rw [Nat.zero_add];exact hu)) (fun u hu=>by rw [List.mem_singleton] at hu;subst hu;rfl) (by simp only [maxLen];omega) (by show (_ + _) * 8 <= _;omega) rfl (fun A4 C4 hA' hC'=>⟨_,rfl,?_⟩);refine Ag ⟨_,rfl,(fun u h=>by cases h),?_⟩;refine AQ (i:=9) [(156,.slice a16 (st.out.flatten ++ st.cur).length c16),(159,.slice (some ⟨b8,0,none⟩) 1 1)] (.inr (AL 2 rfl AV)) (by kernel_rfl) rfl (.cons rfl rfl (.cons rfl rfl .nil)) ?_;refine AT (ty:=0) Aa 6 (k:=1) (news:=[.int .u64 x.1]) rfl rfl rfl rfl rfl rfl rfl rfl rfl (by decide) (fun w' hw=>Sl.of_blk (hw.own _ (Af (i:=0) rfl)) rfl (fun j u hu=>by rw [Nat.zero_add];exact hu)) (fun u hu=>by rw [List.mem_singleton] at hu;subst hu;rfl) (by simp only [maxLen];omega) (by show (_ + _) * 8 <= _;omega) rfl (fun A9 C9 hA' hC'=>⟨_,rfl,?_⟩);refine Ag ⟨_,rfl,(fun u h=>by cases h),?_⟩;refine AQ (i:=10) [(155,.slice A4 (st1.cur.length + 1) C4)] (.inr (AL 2 rfl AV)) (by kernel_rfl) rfl (.cons rfl rfl .nil) ?_;refine Ae Aa rfl ?_;refine Ag ⟨_,rfl,(fun u h=>by cases h),?_⟩
    refine AQ (i:=11) [(160,.slice A9 ((st.out.flatten ++ st.cur).length + 1) C9)] (.inl (by kernel_rfl)) (by kernel_rfl) rfl (.cons rfl rfl .nil) ?_;refine Ae Aa rfl ?_;refine Ag ⟨_,rfl,(fun u h=>by cases h),?_⟩;refine Ct [(0,AF sb),(1,.int .i64 now),(2,.slice (some ⟨ab,off,none⟩) qn qc),(13,.slice A1 DL.length C1),(90,.slice (some ⟨ab,off,none⟩) qn qc),(91,.int .i64 (qn:Int)),(92,.int .i64 (i:Int)),(21,.pointer (some ⟨b21,0,none⟩)),(16,.slice A9 ((st.out.flatten ++ st.cur).length + 1) C9),(17,.slice A4 (st1.cur.length + 1) C4),(18,.slice a18 st1.out.length c18),(19,.int .i64 st1.sum)] (by repeat (first |exact Bc.nil |refine Bc.cons rfl ?_)) ?_;repeat (first |refine Ab ?_ |refine Ag ?_ |refine Ad ?_ |refine Am ?_ |refine AD Aa rfl (by omega) ?_ |refine Ae Aa rfl ?_ |refine Ap ?_ |refine An Aa 2 rfl rfl rfl ?_)
    refine ⟨⟨i + 1,A9,C9,A4,C4,a18,c18,css,Fo⟩,⟨by show i + 1 <= qn;omega,by rw [hstN];exact hcss,hFo,hfrN⟩,(by dsimp only;rw [hstN,eN1,eN2];repeat (first |exact As.nil |refine As.cons rfl ?_)),fun w' hw=>?_,by show qn - (i + 1) < qn - i;omega⟩;dsimp only;rw [hstN,eN1,eN2,eN3,eN4];exact (hw.pm [3,4,5,6,7,8,9,10,11,2,0,1] rfl rfl rfl).less (by repeat (first |exact Au.nil |refine Au.keep ?_ |refine Au.dropB (by first |assumption |omega) ?_))
  ·refine AO Aa rfl rfl rfl rfl rfl rfl rfl rfl rfl rfl rfl rfl (fun b8 hb8=>?_);refine Ag ⟨_,rfl,(fun u h=>by cases h),?_⟩;refine AQ (i:=3) [(153,.int .u64 x.1)] (.inr (AL 1 rfl AV)) (by kernel_rfl) rfl (.cons rfl rfl .nil) ?_;refine AO Aa rfl rfl rfl rfl rfl rfl rfl rfl rfl rfl rfl rfl (fun b3 hb3=>?_);refine Ag ⟨_,rfl,(fun u h=>by cases h),?_⟩;refine AQ (i:=4) [(151,.slice a17 st1.cur.length c17),(154,.slice (some ⟨b3,0,none⟩) 1 1)] (.inr (AL 2 rfl AV)) (by kernel_rfl) rfl (.cons rfl rfl (.cons rfl rfl .nil)) ?_;refine AT (ty:=0) Aa 7 (k:=1) (news:=[.int .u64 x.1]) rfl rfl rfl rfl rfl rfl rfl rfl rfl (by decide) (fun w' hw=>Sl.of_blk (hw.own _ (Af (i:=0) rfl)) rfl (fun j u hu=>by rw [Nat.zero_add];exact hu)) (fun u hu=>by rw [List.mem_singleton] at hu;subst hu;rfl) (by simp only [maxLen];omega) (by show (_ + _) * 8 <= _;omega) rfl (fun A4 C4 hA' hC'=>⟨_,rfl,?_⟩);refine Ag ⟨_,rfl,(fun u h=>by cases h),?_⟩;refine AQ (i:=9) [(156,.slice a16 (st.out.flatten ++ st.cur).length c16),(159,.slice (some ⟨b8,0,none⟩) 1 1)] (.inr (AL 2 rfl AV)) (by kernel_rfl) rfl (.cons rfl rfl (.cons rfl rfl .nil)) ?_;refine AT (ty:=0) Aa 6 (k:=1) (news:=[.int .u64 x.1]) rfl rfl rfl rfl rfl rfl rfl rfl rfl (by decide) (fun w' hw=>Sl.of_blk (hw.own _ (Af (i:=1) rfl)) rfl (fun j u hu=>by rw [Nat.zero_add];exact hu)) (fun u hu=>by rw [List.mem_singleton] at hu;subst hu;rfl) (by simp only [maxLen];omega) (by show (_ + _) * 8 <= _;omega) rfl (fun A9 C9 hA' hC'=>⟨_,rfl,?_⟩)
   refine Ag ⟨_,rfl,(fun u h=>by cases h),?_⟩;refine AQ (i:=10) [(155,.slice A4 (st1.cur.length + 1) C4)] (.inr (AL 2 rfl AV)) (by kernel_rfl) rfl (.cons rfl rfl .nil) ?_;refine Ae Aa rfl ?_;refine Ag ⟨_,rfl,(fun u h=>by cases h),?_⟩;refine AQ (i:=11) [(160,.slice A9 ((st.out.flatten ++ st.cur).length + 1) C9)] (.inl (by kernel_rfl)) (by kernel_rfl) rfl (.cons rfl rfl .nil) ?_;refine Ae Aa rfl ?_;refine Ag ⟨_,rfl,(fun u h=>by cases h),?_⟩;refine Ct [(0,AF sb),(1,.int .i64 now),(2,.slice (some ⟨ab,off,none⟩) qn qc),(13,.slice A1 DL.length C1),(90,.slice (some ⟨ab,off,none⟩) qn qc),(91,.int .i64 (qn:Int)),(92,.int .i64 (i:Int)),(21,.pointer (some ⟨b21,0,none⟩)),(16,.slice A9 ((st.out.flatten ++ st.cur).length + 1) C9),(17,.slice A4 (st1.cur.length + 1) C4),(18,.slice a18 st1.out.length c18),(19,.int .i64 st1.sum)] (by repeat (first |exact Bc.nil |refine Bc.cons rfl ?_)) ?_;repeat (first |refine Ab ?_ |refine Ag ?_ |refine Ad ?_ |refine Am ?_ |refine AD Aa rfl (by omega) ?_ |refine Ae Aa rfl ?_ |refine Ap ?_ |refine An Aa 2 rfl rfl rfl ?_)
   refine ⟨⟨i + 1,A9,C9,A4,C4,a18,c18,css,Fo⟩,⟨by show i + 1 <= qn;omega,by rw [hstN];exact hcss,hFo,hfrN⟩,(by dsimp only;rw [hstN,eN1,eN2];repeat (first |exact As.nil |refine As.cons rfl ?_)),fun w' hw=>?_,by show qn - (i + 1) < qn - i;omega⟩;dsimp only;rw [hstN,eN1,eN2,eN3,eN4];exact (hw.pm [3,4,5,6,7,8,9,10,11,2,0,1] rfl rfl rfl).less (by repeat (first |exact Au.nil |refine Au.keep ?_ |refine Au.dropB (by first |assumption |omega) ?_))
 rintro ⟨_,_,_,a17,c17,a18,c18,css,Fo⟩ ⟨hcss,hFo,hfr⟩;dsimp only at hcss hFo hfr ⊢
 have hstq:stO qn=F4 s2.p s2.lim nums ql (CH s2.q nums):=by
  rw [hstO];dsimp only;rw [List.take_of_length_le (by omega)]
 obtain ⟨st,hst⟩:∃ st,st=stO qn:=⟨_,rfl⟩;obtain ⟨FL,hFL⟩:∃ t,t=s2.batch now ql:=⟨_,rfl⟩
 have hFLe:FL=st.out ++ if 0 < (st.cur.length:Int) then [st.cur] else []:=by
  rw [hFL,hst,hstq];show CR s2.p s2.q s2.lim (Aw s2.gs) ql=_;rw [<-hnums];exact PB hp1 (hqs0 ▸ hqs)
 rw [<-hst] at hcss hfr ⊢;have hfo1:=hfr.out;have hfo2:=hfr.fl;have hFll:=II s2.p s2.q s2.lim (Aw s2.gs) ql;rw [show CR s2.p s2.q s2.lim (Aw s2.gs) ql=FL from hFL.symm,hql] at hFll;repeat (first |refine Ai ?_ |refine Ab ?_ |refine Ag ?_ |refine Ae Aa rfl ?_)
 refine BN (ι:=XQ) (fun q=>q.css.flatten.length=FL.length/\∀ k,q.Fo k->w.heap.size <= k) (fun q=>[(0,AF sb),(1,.int .i64 now),(2,.slice qa qn qc),(13,.slice A1 DL.length C1),(18,.slice q.a18 FL.length q.c18)])
  (fun q=>[.row w.heap.size (.slice q.a18 FL.length q.c18) 59 1 FL.length q.css.flatten,.rep (fun w=>(Cj (Az (A8 .u64)) q.css FL).at_ w q.Fo (.bool true)) q.Fo false,.blk sb (F5 bb s2) true,.rep (fun w=>(DM bb s2.f s2.m s2.gs s2.last).at_ w Fb3 (.bool true)) Fb3 true,.row w.heap.size (.slice A1 DL.length C1) 94 2 DL.length (xs.map Df).flatten,.rep (fun w=>(DI d1 DL.length dc xs DL).at_ w Fd (.bool true)) Fd false]) ?_ ?_
 ·refine Ak rfl (fun hlt=>?_) (fun hge=>?_)
  ·rw [if_pos hlt] at hFLe
   have e8:FL.length=st.out.length + 1:=by rw [hFLe,List.length_append];rfl
   refine Gy (fun w' hw=>hw.pm [2,0,1,3,4,5,6] rfl rfl rfl) ?_;refine L5 ((Az (A8 .u64)).vp st.cur) (fun w' h=>(Ex h rfl (fun n hn=>hfr.fit n (List.mem_append.2 (.inr hn)))).val) (fun Fl hFl=>?_);repeat (first |refine Ab ?_ |refine Ae Aa rfl ?_)
   refine AO Aa rfl rfl rfl rfl rfl rfl rfl rfl rfl rfl rfl rfl (fun b49 hb49=>?_);refine AT (ty:=0) Aa 4 (k:=1) (news:=[.slice a17 st.cur.length c17]) rfl rfl rfl rfl rfl rfl rfl rfl rfl (by decide) (fun w' hw=>Sl.of_blk (hw.own _ (Af (i:=0) rfl)) rfl (fun j u hu=>by rw [Nat.zero_add];exact hu)) (fun u hu=>by rw [List.mem_singleton] at hu;subst hu;rfl) (by simp only [maxLen];omega) (by show (_ + _) * 24 <= _;omega) rfl (fun A' C' hA' hC'=>⟨_,rfl,?_⟩);repeat (first |refine Ag ?_ |refine Ae Aa rfl ?_)
   have e9:(css ++ [[Value.slice a17 st.cur.length c17]]).flatten=css.flatten ++ [Value.slice a17 st.cur.length c17]:=by rw [List.flatten_append];rfl
   refine ⟨⟨0,none,0,none,0,A',C',css ++ [[.slice a17 st.cur.length c17]],fun k=>Fl k \/ Fo k⟩,⟨by dsimp only;rw [e9,e8,List.length_append,hcss];rfl,fun k hk=>hk.elim (hFl k) (hFo k)⟩,(by dsimp only;rw [e8];repeat (first |exact As.nil |refine As.cons rfl ?_)),fun w' hw=>?_⟩;dsimp only;rw [e8,e9,hFLe];have h8:=(hw.pm [1,5,0,2,3,4,6,7] rfl rfl rfl).merge (Ψ:=fun w=>(Cj (Az (A8 .u64)) (css ++ [[Value.slice a17 st.cur.length c17]]) (st.out ++ [st.cur])).at_ w (fun k=>Fl k \/ Fo k) (.bool true)) (fun q1 q2=>Cj.snoc ((Cj _ _ _).mono q2 fun k hk=>.inr hk) ((Az (A8 .u64)).at_mono q1 fun k hk=>.inl hk)) (Vp.loc (p:=Cj _ _ _));exact (h8.pm [4,0,2,3,5,6,1] rfl rfl rfl).less (by repeat (first |exact Au.nil |refine Au.keep ?_ |refine Au.dropB (by first |assumption |omega) ?_))
  ·rw [if_neg hge,List.append_nil] at hFLe;repeat (first |refine Ad ?_ |refine Ao ?_)
   exact ⟨⟨0,none,0,none,0,a18,c18,css,Fo⟩,⟨by rw [hFLe];exact hcss,hFo⟩,(by dsimp only;rw [hFLe];repeat (first |exact As.nil |refine As.cons rfl ?_)),fun w' hw=>by
    dsimp only;rw [hFLe]
    exact (hw.pm [3,4,0,1,5,6,2] rfl rfl rfl).less (by repeat (first |exact Au.nil |refine Au.keep ?_ |refine Au.dropW (Nat.le_refl _) ?_))⟩
 rintro ⟨_,_,_,_,_,e1,ec_,css,Fo⟩ ⟨hcss,hFo⟩;dsimp only at hcss hFo ⊢;refine M6 (ι:=List SX × (Nat->Prop)) (fun q=>(∀ k,q.2 k->w.heap.size <= k)/\q.1.length=FL.length) (fun q=>[.rep (fun w=>(DI e1 FL.length ec_ q.1 FL).at_ w q.2 (.bool true)) q.2 false,.blk sb (F5 bb s2) true,.rep (fun w=>(DM bb s2.f s2.m s2.gs s2.last).at_ w Fb3 (.bool true)) Fb3 true,.row w.heap.size (.slice A1 DL.length C1) 94 2 DL.length (xs.map Df).flatten,.rep (fun w=>(DI d1 DL.length dc xs DL).at_ w Fd (.bool true)) Fd false]) (fun w' hw=>?_) ?_
 ·obtain ⟨Fr,hFr,h1⟩:=hw.share (p:=JN w.heap.size 59 1 FL.length css.flatten) (fun h=>⟨h,fun k hk=>hk⟩);have h2:=h1.merge (Ψ:=fun w=>((Az (Az (A8 .u64))).vp FL).at_ w (fun k=>Fr k \/ Fo k) (.slice e1 FL.length ec_)) (fun q1 q2=>(Cj.slr (R:=Az (A8 .u64)) ((Cj _ _ _).mono q2 fun k hk=>.inr hk) q1.1 rfl fun k _ hk=>.inl (q1.2 k hk)).val) (Vp.loc (p:=(Az (Az (A8 .u64))).vp _));obtain ⟨a,ln,c,ys,he,hx⟩:=Sx (h2.own _ (Af (i:=0) rfl)).1;cases he;exact ⟨(ys,fun k=>Fr k \/ Fo k),⟨fun k hk=>hk.elim (hFr k) (hFo k),(DI.len hx).2⟩,h2.mapI 0 rfl (Ψ:=fun w=>(DI e1 FL.length ec_ ys FL).at_ w (fun k=>Fr k \/ Fo k) (.bool true)) (fun _=>hx) (Vp.loc (p:=DI _ _ _ _ _)) rfl⟩
 rintro ⟨ys,Ff⟩ ⟨hFf,hyl⟩;dsimp only at hFf hyl ⊢;have hsl:=fun (j:Nat)=>Bo.sendAll_len now (FL.take j) s2;repeat (first |refine Ai ?_ |refine Ab ?_ |refine Aq ?_ |refine Ag ?_ |refine Ae Aa rfl ?_)
 refine AM (ι:=Nat × Option Addr × Nat × (Nat->Prop)) (fun j=>[(0,AF sb),(1,.int .i64 now),(2,.slice qa qn qc),(13,.slice j.2.1 (DL.length + j.1) j.2.2.1),(173,.slice e1 FL.length ec_),(174,.int .i64 (FL.length:Int)),(175,.int .i64 (j.1:Int))])
  (fun j=>[.rep (fun w=>(DI e1 FL.length ec_ ys FL).at_ w Ff (.bool true)) Ff false,.row w.heap.size (.slice j.2.1 (DL.length + j.1) j.2.2.1) 94 2 (DL.length + j.1) ((xs ++ ys.take j.1).map Df).flatten,.rep (fun w=>(DI d1 DL.length dc xs DL).at_ w Fd (.bool true)) Fd false,.blk sb (F5 bb s2) true,.rep (fun w=>(DM bb s2.f s2.m (s2.sendAll now (FL.take j.1)).gs (s2.sendAll now (FL.take j.1)).last).at_ w j.2.2.2 (.bool true)) j.2.2.2 true])
  (fun j=>j.1 <= FL.length/\∀ k,j.2.2.2 k->F k \/ w.heap.size <= k) (fun j=>FL.length - j.1) (0,A1,C1,Fb3) ⟨Nat.zero_le _,hFb4⟩ (by repeat (first |exact As.nil |refine As.cons rfl ?_)) (fun w' hw=>?_) ?_
 ·dsimp only;rw [List.take_zero (l:=ys),List.append_nil];exact hw.pm [0,3,4,1,2] rfl rfl rfl
 rintro ⟨j,A2,C2,Fj⟩ ⟨hj,hFj⟩;dsimp only at hj hFj ⊢;repeat (first |refine Ai ?_ |refine Ab ?_ |refine Ag ?_ |refine Ae Aa rfl ?_)
 refine Ak rfl (fun hlt1=>?_) (fun hge2=>?_)
 ·have hin:j < FL.length:=by omega
  obtain ⟨l',hl'⟩:∃ l',FL[j]? =some l':=⟨_,List.getElem?_eq_getElem hin⟩;obtain ⟨⟨ya,yn,yc⟩,hy⟩:∃ x,ys[j]? =some x:=⟨_,List.getElem?_eq_getElem (by omega)⟩;have hslj:=hsl j
  have htk:FL.take (j + 1)=FL.take j ++ [l']:=by
   rw [List.take_succ_eq_append_getElem hin];rw [List.getElem?_eq_getElem hin] at hl';rw [Option.some.inj hl']
  have hfl:(FL.take j).flatten.length + l'.length <= qn:=by
   have h1:((FL.take j).flatten ++ l').length <= FL.flatten.length:=by
    have h2:((FL.take (j + 1)).flatten).length <= FL.flatten.length:=by
     conv=>rhs;rw [<-List.take_append_drop (j + 1) FL,List.flatten_append,List.length_append]
     omega
    rw [htk,List.flatten_append] at h2;simpa using h2
   rw [List.length_append] at h1;omega
  have htl:(FL.take j).length=j:=by rw [List.length_take];omega
  rw [htl] at hslj;refine EY (X:=(∃ b off,e1=some ⟨b,off,none⟩)/\l'.length=yn) (fun w1 g1=>⟨DI.addr (g1.own _ (Af (i:=0) rfl)).1 (by omega),(DI.get (g1.own _ (Af (i:=0) rfl)).1 hy hl').len⟩) (fun ⟨⟨b5,o5,e5⟩,hyn⟩=>?_);subst e5 hyn;repeat (first |refine Ai ?_ |refine Ab ?_ |refine Aq ?_ |refine Ad ?_ |refine Ao ?_)
  refine BE (Bs (sz:=1) Aa rfl rfl rfl rfl rfl rfl rfl (j:=j) rfl hin) ?_;refine Bh Aa (v:=.slice ya l'.length yc) rfl rfl (fun w1 h1=>by rw [Nat.mul_one];exact DI.cell (h1.own _ (Af (i:=0) rfl)).1 hy) ?_;repeat (first |refine Ai ?_ |refine Ab ?_ |refine Ag ?_ |refine Ae Aa rfl ?_ |refine An Aa 3 rfl rfl rfl ?_)
  refine PP 4 (L:=l') rfl rfl (fun w1 g1=>⟨Ff,DI.get (g1.own _ (Af (i:=0) rfl)).1 hy hl',fun k hk hF=>g1.dis 0 4 rfl rfl rfl rfl hk hF⟩) hnow (by omega) (by omega) (by omega) (fun F7 hF7=>⟨_,rfl,?_⟩);repeat (first |refine Ag ?_ |refine Ae Aa rfl ?_ |refine Ap ?_ |refine BE (Bf Aa rfl rfl rfl rfl rfl rfl rfl) ?_)
  refine AO Aa rfl rfl rfl rfl rfl rfl rfl rfl rfl rfl rfl rfl (fun nb hnb=>?_)
  refine AT (ty:=0) (k:=1) (news:=[.int .i64 3,.slice ya l'.length yc]) Aa 2 (sz:=2) rfl rfl rfl rfl rfl rfl rfl rfl rfl (by decide) (fun w' hw=>Sl.of_blk (hw.own _ (Af (i:=0) rfl)) rfl (fun j u hu=>by rw [Nat.zero_add];exact hu)) (fun u hu=>by
   simp only [List.mem_cons,List.not_mem_nil,or_false] at hu
   rcases hu with rfl |rfl<;>rfl) (by simp only [maxLen];omega) (by show (_ + _) * 32 <= _;omega) rfl (fun A' C' hA' hC'=>⟨_,rfl,?_⟩)
  repeat (first |refine Ab ?_ |refine Ag ?_ |refine Ad ?_ |refine Am ?_ |refine AD Aa rfl (by omega) ?_ |refine Ae Aa rfl ?_)
  refine ⟨(j + 1,A',C',F7),⟨hin,fun k hk=>(hF7 k hk).elim (hFj k) .inr⟩,(by repeat (first |exact As.nil |refine As.cons rfl ?_)),fun w' hw=>?_,by dsimp only;omega⟩
  have e9:((xs ++ ys.take (j + 1)).map Df).flatten=((xs ++ ys.take j).map Df).flatten ++ [.int .i64 3,.slice ya l'.length yc]:=by
   rw [List.getElem?_eq_some_iff] at hy;obtain ⟨hy1,hy2⟩:=hy;rw [List.take_succ_eq_append_getElem hy1,hy2,<-List.append_assoc,List.map_append,List.flatten_append];rfl
  obtain ⟨q1,q2,_⟩:=Bo.sendAll_eq now (FL.take j) s2
  have e10:DM bb s2.f s2.m (s2.sendAll now (FL.take (j + 1))).gs (s2.sendAll now (FL.take (j + 1))).last=DM bb s2.f s2.m (B2 s2.f s2.m (s2.sendAll now (FL.take j)).gs (s2.sendAll now (FL.take j)).last now l').1 (B2 s2.f s2.m (s2.sendAll now (FL.take j)).gs (s2.sendAll now (FL.take j)).last now l').2.1:=by
   rw [htk,Bo.sendAll_snoc];show DM bb s2.f s2.m (B2 (s2.sendAll now (FL.take j)).f (s2.sendAll now (FL.take j)).m _ _ now l').1 (B2 (s2.sendAll now (FL.take j)).f (s2.sendAll now (FL.take j)).m _ _ now l').2.1=_;rw [q1,q2]
  dsimp only;rw [e9,e10];exact hw.less (by repeat (first |exact Au.nil |refine Au.keep ?_ |refine Au.dropB (by first |assumption |omega) ?_))
 have hje:j=FL.length:=by omega
 subst hje;obtain ⟨s3,hs3⟩:∃ t,t=s2.sendAll now FL:=⟨_,rfl⟩;rw [List.take_length,<-hs3,List.take_of_length_le (show ys.length <= FL.length by omega)];obtain ⟨a1,a2,a3,a4,a5,a6,a7,a8,a9,a10⟩:=Bo.sendAll_eq now FL s2;rw [<-hs3] at a1 a2 a3 a4 a5 a6 a7 a8 a9 a10
 have e3:F5 bb s2=F5 bb s3:=by
  unfold F5;rw [a1,a2,a3,a4,a5,a6,a7,a8,a9,a10]
 have hok3:Ep s3:=⟨by rw [a1,a2,a3,a4];exact hok2.conf,by rw [a5];exact hok2.ep,by rw [a7];exact hok2.inc,by rw [a8];exact hok2.lim,by rw [a9];exact hok2.tm,by rw [a10];exact hok2.tr⟩
 have hs3o:s.open_ now ql=s3:=by rw [hs3,hFL,hs2,hqs0];rfl
 have hs3t:s3.tr=s.tr:=by rw [a10,hs2];rfl
 have hs3u:s3.tm=s.tm:=by rw [a9,hs2];rfl
 have hout:s.outs now ql=(DL ++ FL).map fun l=>((3:Int),l):=by rw [hDL,hFL,hs2,hqs0];rfl
 have fin2:∀ (s4:Bo) (w':World) (A:Option Addr) (C:Nat) (ec:List (List Value)) (eo:List (Int × List Int)),(∀ F:Nat->Prop,(Cj KC ec eo).at_ w' F (.bool true))->s.told now ql=s.outs now ql ++ eo->s.tick now ql=s4->Ep s4->DM bb s4.f s4.m s4.gs s4.last=DM bb s2.f s2.m s3.gs s3.last->
  Hp w w' [.blk sb (F5 bb s4) true,.rep (fun w=>(DI e1 FL.length ec_ ys FL).at_ w Ff (.bool true)) Ff false,.row w.heap.size (.slice A (DL.length + FL.length + eo.length) C) 94 2 (DL.length + FL.length + eo.length) ((xs ++ ys).map Df ++ ec).flatten,.rep (fun w=>(DI d1 DL.length dc xs DL).at_ w Fd (.bool true)) Fd false,.rep (fun w=>(DM bb s2.f s2.m s3.gs s3.last).at_ w Fj (.bool true)) Fj true]->
  ∃ (v':Value) (Fv F':Nat->Prop),Ending.returned (.slice A (DL.length + FL.length + eo.length) C)= .returned v'/\(∀ k,Fv k->w.heap.size <= k)/\(∀ k,F k->F' k)/\(∀ k,F' k->F k \/ w.heap.size <= k)/\Hp w w' [.rep (fun w=>(Hc.vp (s.told now ql)).at_ w Fv v') Fv false,.rep (fun w=>(JL sb (s.tick now ql)).at_ w F' (.bool true)) F' true]:=fun s4 w' A C ec eo hec hto htk hok4 ebo hw=>by
  obtain ⟨Fr,hFr,h1⟩:=(hw.pm [2,0,1,3,4] rfl rfl rfl).share (p:=JN w.heap.size 94 2 (DL.length + FL.length + eo.length) ((xs ++ ys).map Df ++ ec).flatten) (fun h=>⟨h,fun k hk=>hk⟩)
  have h2:=(h1.pm [2,3,0,1,4] rfl rfl rfl).merge (Ψ:=fun w=>(Cj KC ((xs ++ ys).map Df ++ ec) (s.told now ql)).at_ w (fun k=>Ff k \/ Fd k) (.bool true)) (fun q1 q2=>by
   rw [hto,hout,List.map_append,List.map_append]
   exact Cj.append (Cj.append ((Cj _ _ _).mono (US q2) fun k hk=>.inr hk) ((Cj _ _ _).mono (US q1) fun k hk=>.inl hk)) (hec _)) (Vp.loc (p:=Cj _ _ _))
  have h3:=(h2.pm [1,0,2,3] rfl rfl rfl).merge (Ψ:=fun w=>(Hc.vp (s.told now ql)).at_ w (fun k=>Fr k \/ (Ff k \/ Fd k)) (.slice A (DL.length + FL.length + eo.length) C)) (fun q1 q2=>(Cj.slr (R:=KC) ((Cj _ _ _).mono q2 fun k hk=>.inr hk) q1.1 (by rw [hto,hout,List.length_append,List.length_map,List.length_append]) fun k _ hk=>.inl (q1.2 k hk)).val) (Vp.loc (p:=Hc.vp _));refine fin s4 Fj (fun k=>Fr k \/ (Ff k \/ Fd k)) w' _ ?_ hok4 hFj (fun k hk=>hk.elim (hFr k) fun h=>h.elim (hFf k) (hFd k)) htk;rw [ebo];exact h3.pm [1,2,0] rfl rfl rfl
 have hslN:=hsl FL.length;rw [List.take_length,<-hs3] at hslN;rw [e3];repeat (first |refine Ai ?_ |refine Ab ?_ |refine Ad ?_ |refine AB ?_ |refine Al ?_ |refine AH ?_ |refine Ae Aa rfl ?_ |refine An Aa 3 rfl rfl rfl ?_)
 refine OX 4 rfl rfl (fun a9' c9' hc9 hd9=>?_);obtain ⟨U9,hU9⟩:∃ U9,U9=Bt (Aw s3.gs):=⟨_,rfl⟩;rw [<-hU9] at hc9 ⊢
 have hbusy:s.busy now ql ↔ (0 < ((Aw s3.gs).length:Int) \/ (ql.length:Int)=0):=by show (0 < ((Aw (s.open_ now ql).gs).length:Int) \/ _) ↔ _;rw [hs3o]
 have hU0:U9.length=0 ↔ (Aw s3.gs).length=0:=by
  rw [List.length_eq_zero_iff,List.length_eq_zero_iff,List.eq_nil_iff_forall_not_mem,List.eq_nil_iff_forall_not_mem];exact forall_congr' fun n=>not_congr (by rw [hU9];exact Cu)
 refine FK (ι:=Bool) (fun b=>b=true ↔ ¬ s.busy now ql) (fun b=>[(0,AF sb),(1,.int .i64 now),(13,.slice A2 (DL.length + FL.length) C2),(203,.bool b)])
  (fun b=>[.blk sb (F5 bb s3) true,.rep (fun w=>(DI e1 FL.length ec_ ys FL).at_ w Ff (.bool true)) Ff false,.row w.heap.size (.slice A2 (DL.length + FL.length) C2) 94 2 (DL.length + FL.length) ((xs ++ ys).map Df).flatten,.rep (fun w=>(DI d1 DL.length dc xs DL).at_ w Fd (.bool true)) Fd false,.rep (fun w=>(DM bb s2.f s2.m s3.gs s3.last).at_ w Fj (.bool true)) Fj true]) ?_ ?_
 ·repeat (first |refine Ae Aa rfl ?_)
  by_cases h4:(U9.length:Int)=0
  ·refine Co 199 (v':=.bool true) rfl (congrArg Value.bool (decide_eq_true h4)) ?_;repeat (first |refine Ag ?_ |refine Ae Aa rfl ?_)
   refine ⟨decide (0 < (qn:Int)),?_,(by repeat (first |exact As.nil |refine As.cons rfl ?_)),fun w hw=>(hw.pm [4,1,2,3,5,0] rfl rfl rfl).less (by repeat (first |exact Au.nil |refine Au.keep ?_ |refine Au.dropW (Nat.le_refl _) ?_))⟩;have h5:=hU0.1 (by omega);rw [decide_eq_true_iff,hbusy,h5,hql];omega
  ·refine Co 199 (v':=.bool false) rfl (congrArg Value.bool (decide_eq_false h4)) ?_;repeat (first |refine Ag ?_ |refine Ae Aa rfl ?_ |refine Bn rfl rfl rfl ?_)
   refine ⟨false,⟨(fun h=>by cases h),fun h=>(h (hbusy.2 (.inl ?_))).elim⟩,(by repeat (first |exact As.nil |refine As.cons rfl ?_)),fun w hw=>(hw.pm [4,1,2,3,5,0] rfl rfl rfl).less (by repeat (first |exact Au.nil |refine Au.keep ?_ |refine Au.dropW (Nat.le_refl _) ?_))⟩;have h5:(Aw s3.gs).length ≠ 0:=fun e=>h4 (by rw [hU0.2 e];rfl);omega
 intro b hb
 have hto0:s.told now ql=s.outs now ql ++ (if s.busy now ql then [] else if s.tm <= now then [(3,[])] else []):=by unfold Bo.told;rw [if_pos hop]
 have htk0:s.tick now ql=if s.busy now ql then s3.calm_ else s3.try_ now:=by
  unfold Bo.tick;rw [if_pos hop];by_cases h:s.busy now ql
  ·rw [if_pos h,if_pos h,hs3o]
  ·rw [if_neg h,if_neg h,hs3o]
 skip;refine CK rfl (fun h5=>?_) (fun h5=>?_)
 ·have hnb:=hb.1 h5;rw [if_neg hnb] at hto0 htk0;repeat (first |refine Ai ?_ |refine Ab ?_ |refine Ae Aa rfl ?_)
  refine A7 rfl Tryz.call58 (fun w1 g1=>(KN (s:=s3) g1 hok3.conf.1 hnow ⟨hok3.tr.1,by rw [hs3t];exact hstr⟩).mono fun e w' ⟨he,h9⟩=>⟨_,_,he,h9,?_⟩);repeat (first |refine Ag ?_)
  refine Ak rfl (fun h6=>?_) (fun h6=>?_)
  ·rw [if_pos (show s.tm <= now by rw [<-hs3u];exact h6)] at hto0;repeat (first |refine Ab ?_ |refine Ae Aa rfl ?_ |refine BE (Bf Aa rfl rfl rfl rfl rfl rfl rfl) ?_)
   refine AO Aa rfl rfl rfl rfl rfl rfl rfl rfl rfl rfl rfl rfl (fun nb hnb2=>?_)
   refine AT (ty:=0) (k:=1) (news:=[.int .i64 3,.slice none 0 0]) Aa 3 (sz:=2) rfl rfl rfl rfl rfl rfl rfl rfl rfl (by decide) (fun w' hw=>Sl.of_blk (hw.own _ (Af (i:=0) rfl)) rfl (fun j u hu=>by rw [Nat.zero_add];exact hu)) (fun u hu=>by
    simp only [List.mem_cons,List.not_mem_nil,or_false] at hu
    rcases hu with rfl |rfl<;>rfl) (by simp only [maxLen];omega) (by show (_ + _) * 32 <= _;omega) rfl (fun A' C' hA' hC'=>⟨_,rfl,?_⟩)
   repeat (first |refine Ai ?_ |refine Ab ?_ |refine Ag ?_ |refine AI ?_ |refine AC ?_ |refine Ae Aa rfl ?_)
   exact AZ rfl rfl (fun w' hw=>fin2 (s3.try_ now) w' A' C' [[.int .i64 3,.slice none 0 0]] [(3,[])] (fun F=>MD (by decide)) hto0 htk0 (hok3.try_ hnow (by rw [hs3t];exact hstr)) (by rw [Bo.tryR_same,a1,a2]) (by
    rw [List.flatten_append]
    exact hw.less (by repeat (first |exact Au.nil |refine Au.keep ?_ |refine Au.dropB (by first |assumption |omega) ?_))))
  ·rw [if_neg (show ¬ s.tm <= now by rw [<-hs3u];exact h6)] at hto0;repeat (first |refine Ai ?_ |refine Ab ?_ |refine Ag ?_ |refine Ad ?_ |refine AI ?_ |refine Ao ?_ |refine AC ?_ |refine Ae Aa rfl ?_)
   exact AZ rfl rfl (fun w' hw=>fin2 (s3.try_ now) w' A2 C2 [] [] (fun F=>Cj.nil_) hto0 htk0 (hok3.try_ hnow (by rw [hs3t];exact hstr)) (by rw [Bo.tryR_same,a1,a2]) (by rw [List.append_nil];exact hw))
 ·have hbz:s.busy now ql:=Classical.byContradiction fun h=>by have:=hb.2 h;rw [h5] at this;cases this
  rw [if_pos hbz] at hto0 htk0;repeat (first |refine Ai ?_ |refine Ab ?_ |refine Ag ?_ |refine Ad ?_ |refine Ao ?_ |refine AC ?_ |refine Ae Aa rfl ?_ |refine Ax Aa 0 rfl rfl rfl rfl rfl rfl ?_)
  exact AZ rfl rfl (fun w' hw=>fin2 s3.calm_ w' A2 C2 [] [] (fun F=>Cj.nil_) hto0 htk0 ⟨hok3.conf,hok3.ep,hok3.inc,hok3.lim,(show (0:Int) <= 0/\(0:Int) <= 2305843009213693952 by decide),(show (0:Int) <= 0/\(0:Int) <= 1099511627776 by decide)⟩ (by show DM bb s3.f s3.m s3.gs s3.last=_;rw [a1,a2]) (by rw [List.append_nil];exact hw))
end
def KD (l:List BS) (x k:Int):Prop:=
 (k= -1/\∀ r ∈ l,r.1 <= r.2->r.2 < x) \/ ∃ (j:Nat) (hj:j < l.length),k=j/\l[j].1 <= l[j].2/\x <= l[j].2/\∀ r ∈ l,r.1 <= r.2->x <= r.2->l[j].1 <= r.1
theorem QI {l:List BS} {x k:Int} {i:Nat} (hi:i < l.length) (h:KD (l.take i) x k) (hno:¬ (l[i].1 <= l[i].2/\x <= l[i].2/\(k < 0 \/ ∀ (j:Nat) (hj:j < l.length),k=j->l[i].1 < l[j].1))):KD (l.take (i + 1)) x k:=by
 have hmem:∀ r ∈ l.take (i + 1),r ∈ l.take i \/ r=l[i]:=fun r hr=>by
  rw [List.take_succ_eq_append_getElem hi,List.mem_append,List.mem_singleton] at hr;exact hr
 rcases h with ⟨rfl,h⟩ |⟨j,hj,rfl,h1,h2,h3⟩
 ·refine .inl ⟨rfl,fun r hr hv=>?_⟩
  rcases hmem r hr with hr |rfl
  ·exact h r hr hv
  ·have:¬ x <= l[i].2:=fun hx=>hno ⟨hv,hx,.inl (by omega)⟩;omega
 ·have hj':j < i:=by rw [List.length_take] at hj;omega
  rw [List.getElem_take] at h1 h2;refine .inr ⟨j,by rw [List.length_take];omega,rfl,by rw [List.getElem_take];exact h1,by rw [List.getElem_take];exact h2,fun r hr hv hx=>?_⟩;rw [List.getElem_take]
  rcases hmem r hr with hr |rfl
  ·have:=h3 r hr hv hx;rw [List.getElem_take] at this;exact this
  ·have:¬ (l[i].1 < l[j].1):=fun hlt=>hno ⟨hv,hx,.inr fun j' hj' e=>(by obtain rfl:j=j':=(by omega);exact hlt)⟩;omega
theorem QH {l:List BS} {x k:Int} {i:Nat} (hi:i < l.length) (h:KD (l.take i) x k) (h1:l[i].1 <= l[i].2) (h2:x <= l[i].2) (h3:k < 0 \/ ∀ (j:Nat) (hj:j < l.length),k=j->l[i].1 < l[j].1):KD (l.take (i + 1)) x i:=by
 refine .inr ⟨i,by rw [List.length_take];omega,rfl,by rw [List.getElem_take];exact h1,by rw [List.getElem_take];exact h2,fun r hr hv hx=>?_⟩;rw [List.getElem_take];rw [List.take_succ_eq_append_getElem hi,List.mem_append,List.mem_singleton] at hr
 rcases hr with hr |rfl
 ·rcases h with ⟨rfl,h⟩ |⟨j,hj,rfl,g1,g2,g3⟩
  ·have:=h r hr hv;omega
  ·have hj':j < l.length:=by rw [List.length_take] at hj;omega
   have:=g3 r hr hv hx;rw [List.getElem_take] at this
   rcases h3 with h3 |h3
   ·omega
   ·have:=h3 j hj' rfl;omega
 ·exact Int.le_refl _
theorem QG (a:Option Addr) (n c:Nat) (l:List BS) (x:Int) (A:Nat->Prop) (w:World) (hx:Br Bg w A a n c l) (hn:n <= 1000000):
 Calls Tryz.prog 57 #[.slice a n c,.int .u64 x] w fun e w'=>∃ v,e= .returned v/\Below w.heap.size w w'/\∃ k,v= .int .i64 k/\KD l x k:=by
 have hl:=hx.len;have hok:=Dl hx;refine BO Tryz.func57 rfl rfl (Hp.refl w) ?_;repeat (first |refine Ai ?_ |refine Ab ?_ |refine Aq ?_ |refine Ag ?_ |refine Ae Aa rfl ?_)
 refine AM (ι:=Nat × Int) (fun i=>[(0,.slice a n c),(1,.int .u64 x),(5,.int .i64 i.2),(8,.slice a n c),(9,.int .i64 (n:Int)),(10,.int .i64 (i.1:Int))])
  (fun i=>[]) (fun i=>i.1 <= n/\KD (l.take i.1) x i.2) (fun i=>n - i.1) (0,-1) ⟨Nat.zero_le _,.inl ⟨rfl,fun r hr=>by cases hr⟩⟩ (by repeat (first |exact As.nil |refine As.cons rfl ?_)) (fun w' hw=>hw) ?_
 rintro ⟨k,best⟩ ⟨hk,hb⟩;dsimp only at hk hb ⊢;repeat (first |refine Ai ?_ |refine Ab ?_ |refine Ag ?_ |refine Ae Aa rfl ?_)
 refine Ak rfl (fun h=>?_) (fun h=>?_)
 ·have hk':k < l.length:=by omega
  obtain ⟨ab,off,cs,rfl,hlt,_⟩:=hx.get_ hk';repeat (first |refine Ai ?_ |refine Ad ?_ |refine Ao ?_)
  refine Aq ?_;repeat (first |refine Ai ?_ |refine Ab ?_ |refine Ae Aa rfl ?_)
  refine BE (Bs (sz:=2) Aa rfl rfl rfl rfl rfl rfl rfl rfl (j:=k) (by omega)) ?_;refine BR Aa (vs:=C6 l[k]) rfl rfl rfl (fun w' hw=>B7 (hx.ext (hw.below (by repeat (first |exact Ar)))) hk') ?_;refine AY Aa rfl (fun b7 hb7=>?_);repeat (first |refine Ai ?_ |refine Ag ?_ |refine Ae Aa rfl ?_ |refine Ax Aa 0 rfl rfl rfl rfl rfl rfl ?_)
  refine BN (ι:=Bool) (fun q=>q=true ↔ (l[k].1 <= l[k].2/\x <= l[k].2/\(best < 0 \/ ∀ (j:Nat) (hj:j < l.length),best=j->l[k].1 < l[j].1))) (fun q=>[(0,.slice (some ⟨ab,off,none⟩) n c),(1,.int .u64 x),(5,.int .i64 best),(6,.int .i64 (k:Int)),(8,.slice (some ⟨ab,off,none⟩) n c),(9,.int .i64 (n:Int)),(10,.int .i64 (k:Int)),(39,.bool q)]) (fun _=>[.blk b7 (.cells ⟨C6 l[k]⟩ 83 (0,0)) true]) ?_ ?_
  ·rcases hb with ⟨rfl,hb⟩ |⟨j,hj,rfl,g1,g2,g3⟩
   ·repeat (first |refine A5 (by kernel_rfl) (by kernel_rfl) ?_ |refine Ah Aa rfl ?_ |refine AE Aa 0 rfl rfl rfl ?_)
    refine Fh rfl rfl (fun h1=>?_) (fun h1=>?_)
    ·repeat (first |refine Ah Aa rfl ?_ |refine AE Aa 0 rfl rfl rfl ?_)
     refine Fh rfl rfl (fun h2=>?_) (fun h2=>?_)
     ·repeat (first |refine AN rfl ?_ |refine Ah Aa rfl ?_ |refine BP rfl rfl rfl ?_)
      exact ⟨true,⟨fun _=>⟨h1,by omega,.inl (by omega)⟩,fun _=>rfl⟩,by repeat (first |exact As.nil |refine As.cons rfl ?_),fun _ h=>h⟩
     ·repeat (first |refine AN rfl ?_ |refine Ah Aa rfl ?_ |refine BP rfl rfl rfl ?_)
      exact ⟨false,⟨fun h=>(by cases h),fun h=>by omega⟩,by repeat (first |exact As.nil |refine As.cons rfl ?_),fun _ h=>h⟩
    ·repeat (first |refine AN rfl ?_ |refine Ah Aa rfl ?_ |refine BP rfl rfl rfl ?_)
     exact ⟨false,⟨fun h=>(by cases h),fun h=>by omega⟩,by repeat (first |exact As.nil |refine As.cons rfl ?_),fun _ h=>h⟩
   ·have hj':j < l.length:=by rw [List.length_take] at hj;omega
    repeat (first |refine A5 (by kernel_rfl) (by kernel_rfl) ?_ |refine Ah Aa rfl ?_ |refine AE Aa 0 rfl rfl rfl ?_)
    refine Fh rfl rfl (fun h1=>?_) (fun h1=>?_)
    ·repeat (first |refine Ah Aa rfl ?_ |refine AE Aa 0 rfl rfl rfl ?_)
     refine Fh rfl rfl (fun h2=>?_) (fun h2=>?_)
     ·repeat (first |refine Ah Aa rfl ?_ |refine AE Aa 0 rfl rfl rfl ?_)
      refine Bx (Bs (sz:=2) Aa rfl rfl rfl rfl rfl rfl rfl (j:=j) rfl (by omega)) ?_;repeat (first |refine Ah Aa rfl ?_)
      refine Av Aa (v:=.int .u64 l[j].1) rfl rfl (fun w' hw=>EK (hx.ext (hw.below (by repeat (first |exact Ar |refine AA (by first |assumption |omega) ?_)))) hj') ?_;repeat (first |refine AN rfl ?_ |refine Ah Aa rfl ?_)
      refine ⟨_,?_,by repeat (first |exact As.nil |refine As.cons rfl ?_),fun _ h=>h⟩;rw [decide_eq_true_iff];exact ⟨fun h=>⟨h1,by omega,.inr fun j' _ e=>(by obtain rfl:j=j':=(by omega);exact h)⟩,fun h=>h.2.2.resolve_left (by omega) j hj' rfl⟩
     ·repeat (first |refine AN rfl ?_ |refine Ah Aa rfl ?_ |refine BP rfl rfl rfl ?_)
      exact ⟨false,⟨fun h=>(by cases h),fun h=>by omega⟩,by repeat (first |exact As.nil |refine As.cons rfl ?_),fun _ h=>h⟩
    ·repeat (first |refine AN rfl ?_ |refine Ah Aa rfl ?_ |refine BP rfl rfl rfl ?_)
     exact ⟨false,⟨fun h=>(by cases h),fun h=>by omega⟩,by repeat (first |exact As.nil |refine As.cons rfl ?_),fun _ h=>h⟩
  ·intro q hq;refine CK rfl (fun h1=>?_) (fun h1=>?_)
   ·obtain ⟨g1,g2,g3⟩:=hq.1 h1;repeat (first |refine Ab ?_ |refine Ag ?_ |refine Ad ?_ |refine Am ?_ |refine AD Aa rfl (by omega) ?_ |refine Ae Aa rfl ?_ |refine Ap ?_)
    exact ⟨(k + 1,(k:Int)),⟨by dsimp only;omega,QH hk' hb g1 g2 g3⟩,by repeat (first |exact As.nil |refine As.cons rfl ?_),fun w' hw=>hw.dropn hb7,by dsimp only;omega⟩
   ·repeat (first |refine Ab ?_ |refine Ag ?_ |refine Ad ?_ |refine Am ?_ |refine Ao ?_ |refine AD Aa rfl (by omega) ?_ |refine Ae Aa rfl ?_)
    exact ⟨(k + 1,best),⟨by dsimp only;omega,QI hk' hb fun h=>by rw [h1] at hq;exact absurd (hq.2 h) (by decide)⟩,by repeat (first |exact As.nil |refine As.cons rfl ?_),fun w' hw=>hw.dropn hb7,by dsimp only;omega⟩
 ·have e:k=n:=by omega
  subst e;rw [List.take_of_length_le (by omega)] at hb;repeat (first |refine Ai ?_ |refine Ab ?_ |refine Ag ?_ |refine Ad ?_ |refine AB ?_ |refine Al ?_ |refine AC ?_ |refine AH ?_ |refine Ae Aa rfl ?_)
  exact AZ rfl rfl (fun w' hw=>⟨_,rfl,hw.below (by repeat (first |exact Ar)),_,rfl,hb⟩)
def cnt (l:List BS) (b:Int):Nat:=(l.filter (fun r=>decide (b < r.2))).length
theorem Rl (l:List BS) {b b':Int} (h:b <= b'):cnt l b' <= cnt l b:=by
 induction l with
 |nil=>exact Nat.le_refl _
 |cons r l ih=>
  unfold cnt at ih ⊢;rw [List.filter_cons,List.filter_cons];by_cases h1:b' < r.2
  ·rw [if_pos (by simpa using h1),if_pos (by simp;omega)];simp only [List.length_cons];omega
  ·rw [if_neg (by simpa using h1)];split
   ·simp only [List.length_cons];omega
   ·exact ih
theorem NT:∀ {l:List BS} {b b':Int},b <= b'->(∃ r ∈ l,b < r.2/\r.2 <= b')->cnt l b' < cnt l b
 | [],_,_,_,⟨r,hr,_⟩=>by cases hr
 |s::l,b,b',h,⟨r,hr,h1,h2⟩=>by
  have hle:=Rl l h;unfold cnt at hle ⊢;rw [List.filter_cons,List.filter_cons]
  rcases List.mem_cons.1 hr with rfl |hr
  ·rw [if_neg (by simp;omega),if_pos (by simpa using h1)];simp only [List.length_cons];omega
  ·have ih:=NT h ⟨r,hr,h1,h2⟩;unfold cnt at ih;by_cases h3:b' < s.2
   ·rw [if_pos (by simpa using h3),if_pos (by simp;omega)];simp only [List.length_cons];omega
   ·rw [if_neg (by simpa using h3)];split
    ·simp only [List.length_cons];omega
    ·exact ih
theorem Uu (l:List BS) (b:Int):cnt l b <= l.length:=List.length_filter_le _ _
def N7 (r:BS) (b:Int):Prop:=r.1 <= r.2/\b < r.2/\r.1 <= b + 1
structure XD (l out:List BS) (x:Int):Prop where
 can:Eu out
 ok:KT out
 lt:∀ s ∈ out,s.2 < x
 mem:∀ y,y < x->(Cs out y ↔ Cs l y)
 at0:(x=0/\out= []) \/ ¬ Cs l x
 len:out.length + cnt l (x - 1) <= l.length
 bd:0 <= x/\x <= CG
structure WW (l:List BS) (r0 b:Int):Prop where
 le:r0 <= b
 mem:∀ y,r0 <= y->y <= b->Cs l y
 bd:0 <= b/\b <= CG
structure Yb (l m:List BS):Prop where
 can:Eu m
 ok:KT m
 mem:∀ x,Cs m x ↔ Cs l x
 len:m.length <= l.length
theorem Qt {l:List BS} (hok:KT l):XD l [] 0:=
 ⟨DY,fun r hr=>(by cases hr),fun s hs=>(by cases hs),fun y hy=>⟨fun h=>absurd h (CB y),fun ⟨r,hr,h1,h2⟩=>by
  have:=BF (hok r hr).1
  omega⟩,.inl ⟨rfl,rfl⟩,by have:=Uu l (0 - 1);simpa using this,by unfold CG;omega⟩
theorem SZ {l out:List BS} {x:Int} (h:XD l out x) (hn:∀ r ∈ l,r.1 <= r.2->r.2 < x):Yb l out:=
 ⟨h.can,h.ok,fun y=>by
  rcases Int.lt_or_le y x with h1 |h1
  ·exact h.mem y h1
  ·constructor
   ·rintro ⟨s,hs,h2,h3⟩;have:=h.lt s hs;omega
   ·rintro ⟨r,hr,h2,h3⟩;have:=hn r hr (by omega)
    omega,by have:=h.len;omega⟩
theorem QZ {l:List BS} {x:Int} {j:Nat} (hok:KT l) (hj:j < l.length) (h1:l[j].1 <= l[j].2) (h2:x <= l[j].2):WW l (max l[j].1 x) l[j].2:=
 ⟨by omega,fun y h3 h4=>⟨_,List.getElem_mem hj,by omega,h4⟩,by have:=BF (hok _ (List.getElem_mem hj)).2;unfold CG;omega⟩
theorem Ti {l:List BS} {r0 b:Int} {i:Nat} (hok:KT l) (hi:i < l.length) (h:WW l r0 b) (he:N7 l[i] b):WW l r0 l[i].2:=
 ⟨by have:=h.le;have:=he.2.1;omega,fun y h3 h4=>by
  rcases Int.lt_or_le b y with h5 |h5
  ·have:=he.2.2;exact ⟨_,List.getElem_mem hi,by omega,h4⟩
  ·exact h.mem y h3 h5,by have:=BF (hok _ (List.getElem_mem hi)).2;unfold CG;omega⟩
theorem SY {l out:List BS} {x b:Int} {j:Nat} (hok:KT l) (h:XD l out x) (hj:j < l.length) (h1:l[j].1 <= l[j].2) (h2:x <= l[j].2) (h3:∀ r ∈ l,r.1 <= r.2->x <= r.2->l[j].1 <= r.1) (hg:WW l (max l[j].1 x) b) (hb:l[j].2 <= b) (hne:∀ r ∈ l,¬ N7 r b):
 (b=CG->Yb l (out ++ [(max l[j].1 x,b)]))/\(b < CG->XD l (out ++ [(max l[j].1 x,b)]) (b + 1)/\cnt l (b + 1 - 1) < cnt l (x - 1)):=by
 have hc0:cnt l b < cnt l (x - 1):=NT (by omega) ⟨_,List.getElem_mem hj,by omega,hb⟩
 have hgap:∀ s ∈ out,s.2 + 1 < max l[j].1 x:=by
  intro s hs;have e1:=h.lt s hs
  rcases h.at0 with ⟨_,e⟩ |e
  ·subst e;cases hs
  ·have:¬ l[j].1 <= x:=fun hh=>e ⟨_,List.getElem_mem hj,hh,h2⟩;omega
 have hcan:Eu (out ++ [(max l[j].1 x,b)]):=D9.2 ⟨h.can,CJ.2 ⟨hg.le,fun s hs=>(by cases hs),DY⟩,fun r hr s hs=>by
  rw [List.mem_singleton] at hs;subst hs
  exact hgap r hr⟩
 have hfit:∀ z:Int,0 <= z->z <= CG->AS .u64 z:=fun z e1 e2=>by unfold CG at e2;simpa [AS,IntKind.min,IntKind.max,IntKind.signed,IntKind.bits] using And.intro e1 e2
 have hokk:KT (out ++ [(max l[j].1 x,b)]):=fun r hr=>by
  rcases List.mem_append.1 hr with hr |hr
  ·exact h.ok r hr
  ·rw [List.mem_singleton] at hr;subst hr;have e1:=h.bd;have e2:=hg.bd;have e3:=hg.le;exact ⟨hfit _ (by show 0 <= max l[j].1 x;omega) (by show max l[j].1 x <= CG;omega),hfit _ e2.1 e2.2⟩
 have hmem:∀ y,y <= b->(Cs (out ++ [(max l[j].1 x,b)]) y ↔ Cs l y):=by
  intro y hy;rw [mem_append,GM]
  rcases Int.lt_or_le y x with h4 |h4
  ·rw [h.mem y h4];exact ⟨fun h5=>h5.elim id fun h6=>by have:=h6.1;omega,.inl⟩
  ·constructor
   ·rintro (⟨s,hs,g1,g2⟩ |⟨g1,g2⟩)
    ·have:=h.lt s hs;omega
    ·exact hg.mem y g1 hy
   ·rintro ⟨r,hr,g1,g2⟩;have:=h3 r hr (by omega) (by omega);exact .inr ⟨by show max l[j].1 x <= y;omega,hy⟩
 have hlen:=h.len;refine ⟨fun e=>⟨hcan,hokk,fun y=>?_,by simp only [List.length_append,List.length_cons,List.length_nil];omega⟩,fun e=>⟨⟨hcan,hokk,fun s hs=>?_,fun y hy=>hmem y (by omega),.inr ?_,?_,by have:=hg.bd;omega⟩,?_⟩⟩
 ·rcases Int.lt_or_le b y with h4 |h4
  ·constructor
   ·rintro ⟨s,hs,g1,g2⟩;have:=BF (hokk s hs).2;unfold CG at e;omega
   ·rintro ⟨s,hs,g1,g2⟩;have:=BF (hok s hs).2;unfold CG at e;omega
  ·exact hmem y h4
 ·rcases List.mem_append.1 hs with hs |hs
  ·have:=h.lt s hs;omega
  ·rw [List.mem_singleton] at hs;subst hs;show b < b + 1;omega
 ·rintro ⟨r,hr,g1,g2⟩;exact hne r hr ⟨by omega,by omega,g1⟩
 ·simp only [List.length_append,List.length_cons,List.length_nil]
  have e1:b + 1 - 1=b:=by omega
  rw [e1];omega
 ·have e1:b + 1 - 1=b:=by omega
  rw [e1];exact hc0
set_option maxHeartbeats 1000000 in
theorem Qs (a:Option Addr) (n c:Nat) (l:List BS) (A:Nat->Prop) (w:World) (hx:Br Bg w A a n c l) (hn:n <= 1000000):
 Calls Tryz.prog 31 #[.slice a n c] w fun e w'=>∃ v m,e= .returned v/\Below w.heap.size w w'/\Yb l m/\(Az Bg).val w' (fun k=>w.heap.size <= k) v m:=by
 have hl:=hx.len;have hok:=Dl hx;refine BZ Tryz.func31 rfl rfl (Hp.refl w) ?_;repeat (first |refine Ai ?_ |refine Ab ?_ |refine Aq ?_ |refine Ag ?_ |refine Ae Aa rfl ?_)
 refine AM (ι:=List BS × Int × Option Addr × Nat) (fun i=>[(0,.slice a n c),(3,.slice i.2.2.1 i.1.length i.2.2.2),(4,.int .u64 i.2.1)])
  (fun i=>[.row w.heap.size (.slice i.2.2.1 i.1.length i.2.2.2) 83 2 i.1.length (Bq i.1)]) (fun i=>XD l i.1 i.2.1) (fun i=>cnt l (i.2.1 - 1)) ([],0,none,0) (Qt hok) (by repeat (first |exact As.nil |refine As.cons rfl ?_)) (fun w' hw=>hw.nilRow _ _) ?_
 rintro ⟨out,x,a1,c1⟩ hI;dsimp only at hI ⊢;have hbd:=hI.bd;have hlen:=hI.len;unfold CG at hbd;repeat (first |refine Ai ?_ |refine Ab ?_ |refine Aq ?_ |refine Ae Aa rfl ?_)
 refine GY (fun v=>∃ k,v= .int .i64 k/\KD l x k) rfl Tryz.call57 (fun w1 h1=>QG a n c l x A w1 (hx.ext (h1.below (by repeat (first |exact Ar |refine Bv h1 0 rfl (Nat.le_refl _) ?_)))) hn) (fun v hv=>?_);obtain ⟨k,rfl,⟨rfl,hno⟩ |⟨j,hj,rfl,g1,g2,g3⟩⟩:=hv
 ·have ho:=SZ hI hno;repeat (first |refine Ai ?_ |refine Ab ?_ |refine Ag ?_ |refine BQ ?_ |refine AI ?_ |refine AC ?_ |refine AX rfl ?_ |refine Ae Aa rfl ?_)
  exact AZ rfl rfl (fun w' hw=>⟨_,out,rfl,hw.below (by repeat (first |exact Ar |refine Bv hw 0 rfl (Nat.le_refl _) ?_)),ho,Br.val (.of_row Cz (hw.own _ (Af (i:=0) rfl)) rfl ho.ok fun k hk _=>hk)⟩)
 ·obtain ⟨ab,off,cs,rfl,hlt,_⟩:=hx.get_ hj;repeat (first |refine Ai ?_ |refine Ab ?_ |refine Ag ?_ |refine Ae Aa rfl ?_)
  refine AG rfl ?_;repeat (first |refine Ai ?_ |refine Ad ?_ |refine Ao ?_)
  refine Cd (by kernel_rfl) 14 rfl (by kernel_rfl) ?_;repeat (first |refine Ah Aa rfl ?_)
  refine Bx (Bs (sz:=2) Aa rfl rfl rfl rfl rfl rfl rfl (j:=j) rfl (by omega)) ?_;repeat (first |refine Ah Aa rfl ?_)
  refine Av Aa (v:=.int .u64 l[j].1) rfl rfl (fun w' hw=>EK (hx.ext (hw.below (by repeat (first |exact Ar |refine Bv hw 0 rfl (Nat.le_refl _) ?_)))) hj) ?_;repeat (first |refine Ah Aa rfl ?_)
  refine Bx (Bs (sz:=2) Aa rfl rfl rfl rfl rfl rfl rfl (j:=j) rfl (by omega)) ?_;repeat (first |refine Ah Aa rfl ?_)
  refine Av Aa (v:=.int .u64 l[j].2) rfl rfl (fun w' hw=>LI (hx.ext (hw.below (by repeat (first |exact Ar |refine Bv hw 0 rfl (Nat.le_refl _) ?_)))) hj) ?_;repeat (first |refine Bx (Bf Aa rfl rfl rfl rfl rfl rfl rfl) ?_)
  refine XG Aa rfl ?_;refine WP 6 rfl (fun b6 hb6=>?_);refine KE rfl ?_;repeat (first |refine Ai ?_ |refine Ab ?_ |refine Ag ?_ |refine Ae Aa rfl ?_ |refine Ax Aa 0 rfl rfl rfl rfl rfl rfl ?_)
  refine Aq ?_;obtain ⟨r0,hr0⟩:∃ r0,r0=max l[j].1 x:=⟨_,rfl⟩;rw [<-hr0]
  refine AM (ι:=Int × Bool) (fun i=>[(0,.slice (some ⟨ab,off,none⟩) n c),(3,.slice a1 out.length c1),(4,.int .u64 x),(6,.pointer (some ⟨b6,0,none⟩)),(7,.bool i.2)])
   (fun i=>[.blk b6 (.cells ⟨[.int .u64 r0,.int .u64 i.1]⟩ 83 (0,0)) true,.row w.heap.size (.slice a1 out.length c1) 83 2 out.length (Bq out)]) (fun i=>WW l r0 i.1/\l[j].2 <= i.1/\(i.2=false->∀ r ∈ l,¬ N7 r i.1)) (fun i=>2 * cnt l i.1 + (if i.2=true then 1 else 0)) (l[j].2,true) ⟨by rw [hr0];exact QZ hok hj g1 g2,Int.le_refl _,fun h=>by cases h⟩ (by repeat (first |exact As.nil |refine As.cons rfl ?_)) (fun w' hw=>hw) ?_
  rintro ⟨b,g⟩ ⟨hG,hjb,hno⟩;dsimp only at hG hjb hno ⊢;repeat (first |refine Ai ?_ |refine Ab ?_ |refine Ag ?_ |refine Ae Aa rfl ?_)
  refine CK rfl (fun h1=>?_) (fun h1=>?_)
  ·subst h1;repeat (first |refine Ai ?_ |refine Ab ?_ |refine Aq ?_ |refine Ag ?_ |refine Ad ?_ |refine Ao ?_ |refine Ae Aa rfl ?_)
   refine AM (ι:=Nat × Int × Bool) (fun i=>[(0,.slice (some ⟨ab,off,none⟩) n c),(3,.slice a1 out.length c1),(4,.int .u64 x),(6,.pointer (some ⟨b6,0,none⟩)),(7,.bool i.2.2),(30,.slice (some ⟨ab,off,none⟩) n c),(31,.int .i64 (n:Int)),(32,.int .i64 (i.1:Int))])
    (fun i=>[.blk b6 (.cells ⟨[.int .u64 r0,.int .u64 i.2.1]⟩ 83 (0,0)) true,.row w.heap.size (.slice a1 out.length c1) 83 2 out.length (Bq out)]) (fun i=>i.1 <= n/\WW l r0 i.2.1/\b <= i.2.1/\(i.2.2=false->i.2.1=b/\∀ (j:Nat) (hj:j < l.length),j < i.1->¬ N7 l[j] b)/\(i.2.2=true->cnt l i.2.1 < cnt l b)) (fun i=>n - i.1) (0,b,false) ⟨Nat.zero_le _,hG,Int.le_refl _,fun _=>⟨rfl,fun j hj h=>by omega⟩,fun h=>by cases h⟩ (by repeat (first |exact As.nil |refine As.cons rfl ?_)) (fun w' hw=>hw) ?_
   rintro ⟨i,b',g'⟩ ⟨hi,hG',hbb,hf,ht⟩;dsimp only at hi hG' hbb hf ht ⊢;have hGb:=hG'.bd;unfold CG at hGb;repeat (first |refine Ai ?_ |refine Ab ?_ |refine Ag ?_ |refine Ae Aa rfl ?_)
   refine Ak rfl (fun h=>?_) (fun h=>?_)
   ·have hi':i < l.length:=by omega
    have hu1:=BF (hok _ (List.getElem_mem hi')).1;repeat (first |refine Ai ?_ |refine Ad ?_ |refine Ao ?_)
    refine Aq ?_;repeat (first |refine Ai ?_ |refine Ab ?_)
    refine BE (Bs (sz:=2) Aa rfl rfl rfl rfl rfl rfl rfl rfl (j:=i) (by omega)) ?_;refine BR Aa (vs:=C6 l[i]) rfl rfl rfl (fun w' hw=>B7 (hx.ext (hw.below (by repeat (first |exact Ar |refine AA (by first |assumption |omega) ?_ |refine Bv hw 1 rfl (Nat.le_refl _) ?_)))) hi') ?_;refine AY Aa rfl (fun b9 hb9=>?_);refine Ax Aa 0 rfl rfl rfl rfl rfl rfl ?_;refine Ag ?_;refine Ai ?_
    refine BN (ι:=Bool) (fun q=>q=true ↔ N7 l[i] b') (fun q=>[(0,.slice (some ⟨ab,off,none⟩) n c),(3,.slice a1 out.length c1),(4,.int .u64 x),(6,.pointer (some ⟨b6,0,none⟩)),(7,.bool g'),(9,.pointer (some ⟨b9,0,none⟩)),(30,.slice (some ⟨ab,off,none⟩) n c),(31,.int .i64 (n:Int)),(32,.int .i64 (i:Int)),(62,.bool q)])
     (fun q=>[.blk b9 (.cells ⟨C6 l[i]⟩ 83 (0,0)) true,.blk b6 (.cells ⟨[.int .u64 r0,.int .u64 b']⟩ 83 (0,0)) true,.row w.heap.size (.slice a1 out.length c1) 83 2 out.length (Bq out)]) ?_ ?_
    ·unfold N7;repeat (first |refine Ab ?_ |refine Ae Aa rfl ?_ |refine An Aa 0 rfl rfl rfl ?_)
     refine BI rfl rfl (fun h2=>?_) (fun h2=>?_)
     ·repeat (first |refine Ae Aa rfl ?_ |refine An Aa 0 rfl rfl rfl ?_ |refine An Aa 1 rfl rfl rfl ?_)
      refine BI rfl rfl (fun h3=>?_) (fun h3=>?_)
      ·repeat (first |refine Ae Aa rfl ?_ |refine An Aa 0 rfl rfl rfl ?_ |refine An Aa 1 rfl rfl rfl ?_)
       refine BI rfl rfl (fun h4=>?_) (fun h4=>?_)
       ·repeat (first |refine Ag ?_ |refine Ae Aa rfl ?_ |refine Bn rfl rfl rfl ?_)
        exact ⟨true,⟨fun _=>⟨h2,h3,by omega⟩,fun _=>rfl⟩,by repeat (first |exact As.nil |refine As.cons rfl ?_),fun _ h=>h⟩
       ·repeat (first |refine Ag ?_ |refine D2 Aa rfl (by omega) ?_ |refine Ae Aa rfl ?_ |refine An Aa 0 rfl rfl rfl ?_ |refine An Aa 1 rfl rfl rfl ?_)
        refine ⟨_,?_,by repeat (first |exact As.nil |refine As.cons rfl ?_),fun _ h=>h⟩;rw [decide_eq_true_iff];exact ⟨fun h=>⟨h2,h3,by omega⟩,fun h=>by omega⟩
      ·repeat (first |refine Ag ?_ |refine Ae Aa rfl ?_ |refine Bn rfl rfl rfl ?_)
       exact ⟨false,⟨fun h=>(by cases h),fun h=>by omega⟩,by repeat (first |exact As.nil |refine As.cons rfl ?_),fun _ h=>h⟩
     ·repeat (first |refine Ag ?_ |refine Ae Aa rfl ?_ |refine Bn rfl rfl rfl ?_)
      exact ⟨false,⟨fun h=>(by cases h),fun h=>by omega⟩,by repeat (first |exact As.nil |refine As.cons rfl ?_),fun _ h=>h⟩
    ·intro q hq;refine CK rfl (fun h2=>?_) (fun h2=>?_)
     ·have he:=hq.1 h2;repeat (first |refine Ab ?_ |refine Ag ?_ |refine Ad ?_ |refine Am ?_ |refine AD Aa rfl (by omega) ?_ |refine Ae Aa rfl ?_ |refine Ap ?_ |refine An Aa 0 rfl rfl rfl ?_ |refine Ax Aa 1 rfl rfl rfl rfl rfl rfl ?_)
      exact ⟨(i + 1,l[i].2,true),⟨by dsimp only;omega,Ti hok hi' hG' he,by have:=he.2.1;dsimp only;omega,fun h=>(by cases h),fun _=>by
       have h5:cnt l l[i].2 < cnt l b':=NT (by have:=he.2.1;omega) ⟨_,List.getElem_mem hi',he.2.1,Int.le_refl _⟩;have h6:=Rl l hbb;dsimp only
       omega⟩,by repeat (first |exact As.nil |refine As.cons rfl ?_),fun w' hw=>hw.dropn hb9,by dsimp only;omega⟩
     ·have hne:¬ N7 l[i] b':=fun h=>by rw [h2] at hq;exact absurd (hq.2 h) (by decide)
      repeat (first |refine Ab ?_ |refine Ag ?_ |refine Ad ?_ |refine Am ?_ |refine Ao ?_ |refine AD Aa rfl (by omega) ?_ |refine Ae Aa rfl ?_)
      refine ⟨(i + 1,b',g'),⟨by dsimp only;omega,hG',hbb,fun h=>⟨(hf h).1,fun j hj hji=>?_⟩,ht⟩,by repeat (first |exact As.nil |refine As.cons rfl ?_),fun w' hw=>hw.dropn hb9,by dsimp only;omega⟩;by_cases e:j=i
      ·subst e;rw [<-(hf h).1];exact hne
      ·exact (hf h).2 j hj (by dsimp only at hji;omega)
   ·have e:i=n:=by omega
    subst e;repeat (first |refine Ad ?_ |refine Am ?_ |refine AB ?_ |refine Al ?_ |refine AH ?_)
    refine ⟨(b',g'),⟨hG',by dsimp only;omega,fun h r hr=>?_⟩,by repeat (first |exact As.nil |refine As.cons rfl ?_),fun w' hw=>hw,?_⟩
    ·obtain ⟨j',hj',rfl⟩:=List.getElem_of_mem hr;dsimp only at h ⊢;rw [(hf h).1];exact (hf h).2 j' hj' (by omega)
    ·dsimp only
     cases g' with
     |false=>have e1:=(hf rfl).1;subst e1;simp
     |true=>have e1:=ht rfl;simp;omega
  ·subst h1;have hGb:=hG.bd;unfold CG at hGb;obtain ⟨p1,p2⟩:=SY hok hI hj g1 g2 g3 (hr0 ▸ hG) hjb (hno rfl);rw [<-hr0] at p1 p2;repeat (first |refine Ai ?_ |refine Ab ?_ |refine Ad ?_ |refine AB ?_ |refine Al ?_ |refine AH ?_ |refine Ae Aa rfl ?_ |refine An Aa 0 rfl rfl rfl ?_)
   refine AO Aa rfl rfl rfl rfl rfl rfl rfl rfl rfl rfl rfl rfl (fun b8 hb8=>?_);refine AT (ty:=0) Aa 2 rfl rfl rfl rfl rfl rfl rfl rfl rfl (by decide) (fun w' hw=>Sl.of_blk (xs:=C6 (r0,b)) (hw.own _ (Af (i:=0) rfl)) rfl (fun j u hu=>by rw [Nat.zero_add];exact hu)) (by intro u hu;exact De [(r0,b)] u (by simpa [Bq] using hu)) (by simp only [maxLen];omega) (by show (_ + _) * 16 <= _;omega) rfl (fun A' c' h1 h2=>⟨_,rfl,?_⟩)
   have ec:Bq out ++ C6 (r0,b)=Bq (out ++ [(r0,b)]):=by rw [CY];simp [Bq]
   have el:out.length + 1=(out ++ [(r0,b)]).length:=by rw [List.length_append];rfl
   rw [ec,el];repeat (first |refine Ai ?_ |refine Ab ?_ |refine Ag ?_ |refine Ae Aa rfl ?_ |refine An Aa 1 rfl rfl rfl ?_)
   refine Ak rfl (fun h2=>?_) (fun h2=>?_)
   ·have ho:=p1 h2;repeat (first |refine Ai ?_ |refine Ab ?_ |refine Ag ?_ |refine BQ ?_ |refine AI ?_ |refine AC ?_ |refine Ae Aa rfl ?_)
    refine AZ rfl rfl (fun w' hw=>⟨_,_,rfl,hw.below (by repeat (first |exact Ar |refine AA (by first |assumption |omega) ?_ |refine Bv hw 2 rfl (Nat.le_refl _) ?_)),ho,Br.val (.of_row Cz (hw.own _ (Af (i:=2) rfl)) rfl ho.ok fun k hk _=>hk)⟩)
   ·obtain ⟨q1,q2⟩:=p2 (by unfold CG;omega);repeat (first |refine Ag ?_ |refine Ad ?_ |refine Am ?_ |refine Ao ?_ |refine D2 Aa rfl (by omega) ?_ |refine Ae Aa rfl ?_ |refine Ap ?_ |refine An Aa 1 rfl rfl rfl ?_)
    exact ⟨(out ++ [(r0,b)],b + 1,A',c'),q1,by repeat (first |exact As.nil |refine As.cons rfl ?_),fun w' hw=>(hw.dropn hb8).dropn hb6,q2⟩
section
variable {S T:Int->Prop} {B C:Nat} {v u:Value} {A D:Nat->Prop}
theorem SV (l:List BS) (w:World) (h:(Az Bg).val w A v l) (hB:l.length <= 900000):
 Calls Tryz.prog 31 #[v] w fun e w'=>∃ r,e= .returned r/\Below w.heap.size w w'/\(JD (Cs l) l.length).at_ w' (fun k=>w.heap.size <= k) r:=by
 obtain ⟨a,n,c,rfl,h4⟩:=Br.form h;have hl:=h4.len;exact (Qs a n c l A w h4 (by omega)).mono fun e w' ⟨v,m,e1,e2,e3,e4⟩=>⟨v,e1,e2,m,e3.can,e3.mem,e3.len,e4⟩
theorem SI (w:World) (h:(JD S B).at_ w A v) (k:(JD T C).at_ w D u) (hST:∀ x,S x ↔ T x):Calls Tryz.prog 30 #[v,u] w fun e w'=>e= .returned (.bool true)/\Below w.heap.size w w':=
 (SJ w h k).mono fun e w' ⟨v,e1,e2,q,e3,e4⟩=>by
  obtain rfl:=Ws e4 hST;exact ⟨by rw [e1,e3],e2⟩
end
theorem Hp.toRow {w0 w:World} {ol:OL} {b n sz:Nat} {cs:List Value} {e:TypeId} (h:Hp w0 w (.blk b (.cells ⟨cs⟩ e (0,0)) true::ol)) (hb:w0.heap.size <= b) (hl:cs.length=n * sz) (hn:n <= maxLen):Hp w0 w (.row w0.heap.size (.slice (some ⟨b,0,Option.none⟩) n n) e sz n cs::ol):=
 ⟨h.os,h.tape,h.output,h.size,fun k hk he=>h.old k hk fun e' hm hx hh=>by
  rcases List.mem_cons.1 hm with rfl |hm
  ·exact absurd (Option.some.inj hh) (by omega)
  ·exact he e' (List.mem_cons_of_mem _ hm) hx hh,fun e' hm=>by
  rcases List.mem_cons.1 hm with rfl |hm
  ·exact ⟨hl,.inr ⟨b,n,⟨cs⟩,rfl,hb,h.own _ List.mem_cons_self,Nat.le_refl _,hn,hl,by rw [<-hl];exact List.take_length⟩⟩
  ·exact h.own e' (List.mem_cons_of_mem _ hm),List.pairwise_cons.2 ⟨fun e' he hr k hk hk2=>(List.pairwise_cons.1 h.apart).1 e' he rfl k hk hk2,(List.pairwise_cons.1 h.apart).2⟩⟩
theorem Hp.open1 {w0 w:World} {ol:OL} {b:Nat} {x:Obj} {Φ:World->Prop} {F:Nat->Prop} (h:Hp w0 w (.rep Φ F true::ol)) (hx:w.heap[b]? =some x) (hF:F b):Hp w0 w (.blk b x true::.rep (fun _=>True) (fun k=>F k/\k ≠ b) true::ol):=by
 have hap:=List.pairwise_cons.1 h.apart;have o0:=h.own _ (List.mem_cons_self (l:=ol) (a:=HE.rep Φ F true));refine ⟨h.os,h.tape,h.output,h.size,fun k hk he=>h.old k hk fun e' hm hx' hh=>?_,fun e' hm=>?_,List.pairwise_cons.2 ⟨fun e' he hr k hk hk2=>?_,List.pairwise_cons.2 ⟨fun e' he hr k hk hk2=>hap.1 e' he rfl k hk.1 hk2,hap.2⟩⟩⟩
 ·rcases List.mem_cons.1 hm with rfl |hm
  ·by_cases e:k=b
   ·exact he _ List.mem_cons_self rfl (by rw [e];exact rfl)
   ·exact he _ (List.mem_cons_of_mem _ List.mem_cons_self) rfl ⟨hh,e⟩
  ·exact he e' (List.mem_cons_of_mem _ (List.mem_cons_of_mem _ hm)) hx' hh
 ·rcases List.mem_cons.1 hm with rfl |hm
  ·exact hx
  ·rcases List.mem_cons.1 hm with rfl |hm
   ·exact ⟨trivial,fun _ _ _ _=>trivial,fun k hk=>o0.2.2 k hk.1⟩
   ·exact h.own e' (List.mem_cons_of_mem _ hm)
 ·have hkb:k=b:=(Option.some.inj hk).symm;subst hkb
  rcases List.mem_cons.1 he with rfl |he
  ·exact hk2.2 rfl
  ·exact hap.1 e' he rfl k hF hk2
theorem Hp.close1 {w0 w:World} {ol:OL} {b:Nat} {x:Obj} {Φ Ψ:World->Prop} {G:Nat->Prop} (h:Hp w0 w (.blk b x true::.rep Φ G true::ol)) (hΨ:Ψ w) (hl:PW Ψ fun k=>k=b \/ G k):Hp w0 w (.rep Ψ (fun k=>k=b \/ G k) true::ol):=by
 have hap:=List.pairwise_cons.1 h.apart;have hap2:=List.pairwise_cons.1 hap.2;have o0:w.heap[b]? =some x:=h.own _ (Af (i:=0) rfl);have o1:=h.own _ (Af (i:=1) rfl);refine ⟨h.os,h.tape,h.output,h.size,fun k hk he=>h.old k hk fun e' hm hx' hh=>?_,fun e' hm=>?_,List.pairwise_cons.2 ⟨fun e' he hr k hk hk2=>?_,hap2.2⟩⟩
 ·rcases List.mem_cons.1 hm with rfl |hm
  ·exact he _ List.mem_cons_self rfl (.inl (Option.some.inj hh).symm)
  ·rcases List.mem_cons.1 hm with rfl |hm
   ·exact he _ List.mem_cons_self rfl (.inr hh)
   ·exact he e' (List.mem_cons_of_mem _ hm) hx' hh
 ·rcases List.mem_cons.1 hm with rfl |hm
  ·exact ⟨hΨ,hl,fun k hk=>hk.elim (fun e=>by rw [e];exact AU o0) (o1.2.2 k)⟩
  ·exact h.own e' (List.mem_cons_of_mem _ (List.mem_cons_of_mem _ hm))
 ·rcases hk with rfl |hk
  ·exact hap.1 e' (List.mem_cons_of_mem _ he) rfl k rfl hk2
  ·exact hap2.1 e' he rfl k hk hk2
theorem Qq {xb:Nat} {f m last:Int} {gs:List BG} {w:World} {F:Nat->Prop} {v:Value} (h:(DM xb f m gs last).at_ w F v):∃ (a:Option Addr) (n c:Nat),w.heap[xb]? =some (Mh f m a n c last)/\F xb:=by
 obtain ⟨K,a,c,G,_,h4,_⟩:=h;exact ⟨a,K.length,c,(h4 _ (Af (i:=0) rfl)).1,(h4 _ (Af (i:=0) rfl)).2 xb rfl⟩
theorem Qp {xb:Nat} {f m last:Int} {w:World} {F:Nat->Prop} (hp:PR f m) (hla:0 <= last/\last <= 1099511627776) (h:w.heap[xb]? =some (Mh f m none 0 0 last)) (hF:F xb):(DM xb f m [] last).at_ w F (.bool true):=by
 refine ⟨[],none,0,fun _=>False,⟨rfl,hp,C7.nil hla,fun g hg=>by cases hg⟩,fun e he=>?_,?_⟩
 ·simp only [Mg,List.mem_cons,List.not_mem_nil,or_false] at he
  rcases he with rfl |rfl |rfl
  ·exact ⟨h,fun k hk=>Option.some.inj hk ▸ hF⟩
  ·exact ⟨World.ownsRow_nil w _ _ _,fun k hk=>by simp [HE.has,Value.ownBlock] at hk⟩
  ·exact ⟨⟨(fun p hp=>by cases hp),Vp.loc (p:=G8 []) (v:=.bool true),fun k hk=>hk.elim⟩,fun k hk=>hk.elim⟩
 ·refine List.pairwise_cons.2 ⟨fun e he _ k hk hk2=>?_,List.pairwise_cons.2 ⟨fun e he _ k hk hk2=>?_,List.pairwise_singleton _ _⟩⟩
  ·simp only [List.mem_cons,List.not_mem_nil,or_false] at he
   rcases he with rfl |rfl
   ·simp [HE.has,Value.ownBlock] at hk2
   ·exact hk2
  ·simp [HE.has,Value.ownBlock] at hk
abbrev Fm.cs2 (x:Fm):List Value:=[.int .i64 x.k,.int .u64 x.ep,.int .u64 x.inc,.int .u64 x.cum,.int .u64 x.lim,.slice x.ra x.rn x.rc]
section
variable {sb:Nat} {s:Bo} {w w0:World} {F:Nat->Prop} {ol:OL}
set_option maxHeartbeats 16000000 in
theorem Nm (h:(JL sb s).at_ w F (.bool true)) (hF:∀ k,F k->k < w.heap.size) (x:Fm) {rl:List BS} {A:Nat->Prop} (hx:Br Bg w A x.ra x.rn x.rc rl) (hAF:∀ k,A k->¬ F k) (hn:x.rn <= 800000) (hcum:AS .u64 x.cum) (hinc:AS .u64 x.inc) (hlim:AS .u64 x.lim):
 Calls Tryz.prog 27 #[AF sb,.agg ⟨x.cs2⟩] w fun e w'=>∃ (v:Value) (Fv F':Nat->Prop),e= .returned (.tuple #[v,.bool (decide (Ch s x))])/\(∀ k,Fv k->w.heap.size <= k)/\(∀ k,F k->F' k)/\(∀ k,F' k->F k \/ w.heap.size <= k)/\
  Hp w w' [.rep (fun w=>((Az Bg).vp (if Ch s x then (0,x.cum)::rl else [])).at_ w Fv v) Fv false,.rep (fun w=>(JL sb (s.rcv x rl)).at_ w F' (.bool true)) F' true]:=by
 obtain ⟨bb,Fb,hok,hst,hFsb,hFb⟩:=Oo h true
 obtain ⟨Fq,hFq,_,hst2⟩:=hst.addV (p:=(Az Bg).vp rl) (A:=A) (v:=.slice x.ra x.rn x.rc) (((Az Bg).vp rl).mono hx.val fun k hk=>⟨.inl hk,fun e he hex hh=>hAF k hk (by
  rcases List.mem_cons.1 he with rfl |he
  ·exact Option.some.inj hh ▸ hFsb
  ·rw [List.mem_singleton] at he;subst he
   exact hFb k hh)⟩)
 have hst3:Hp w w [.blk sb (F5 bb s) true,.rep (fun w=>(DM bb s.f s.m s.gs s.last).at_ w Fb (.bool true)) Fb true,.rep (fun w=>((Az Bg).vp rl).at_ w Fq (.slice x.ra x.rn x.rc)) Fq false]:=hst2.pm [1,2,0] rfl rfl rfl;have hrl:=hx.len;have hrok:=Dl hx;refine GP Tryz.func27 rfl rfl hst3 ?_;refine EY (fun w1 g1=>(Qo (g1.own _ (Af (i:=1) rfl)).1).2) (fun ⟨hbok,hbne⟩=>?_);repeat (first |refine Ai ?_ |refine Ab ?_)
 refine AY Aa rfl (fun b3 hb3=>?_);repeat (first |refine Ai ?_ |refine Ag ?_ |refine Ae Aa rfl ?_)
 refine BN (ι:=Bool) (fun b=>b=true ↔ ¬ Ch s x) (fun b=>[(0,AF sb),(3,.pointer (some ⟨b3,0,none⟩)),(4,.slice none 0 0),(5,.bool false),(45,.bool b)])
  (fun _=>[.blk b3 (.cells ⟨x.cs2⟩ 78 (0,0)) true,.blk sb (F5 bb s) true,.rep (fun w=>(DM bb s.f s.m s.gs s.last).at_ w Fb (.bool true)) Fb true,.rep (fun w=>((Az Bg).vp rl).at_ w Fq (.slice x.ra x.rn x.rc)) Fq false]) ?_ ?_
 ·refine Ca ?_;repeat (first |refine A5 (by kernel_rfl) (by kernel_rfl) ?_ |refine Ah Aa rfl ?_ |refine AE Aa 0 rfl rfl rfl ?_)
  by_cases k2:x.k=2
  ·refine BX 11 (v':=.bool false) rfl (congrArg Value.bool (by simp [k2])) ?_;repeat (first |refine Ah Aa rfl ?_ |refine BP rfl rfl rfl ?_ |refine AE Aa 0 rfl rfl rfl ?_ |refine AE Aa 1 rfl rfl rfl ?_)
   by_cases e1:x.ep=s.ep
   ·refine BX 25 (v':=.bool false) rfl (congrArg Value.bool (by simp [e1])) ?_;repeat (first |refine Ah Aa rfl ?_ |refine AE Aa 0 rfl rfl rfl ?_ |refine AE Aa 1 rfl rfl rfl ?_)
    by_cases e2:x.inc < s.inc
    ·refine BX 34 (v':=.bool true) rfl (congrArg Value.bool (decide_eq_true e2)) ?_;repeat (first |refine AN rfl ?_ |refine Ah Aa rfl ?_ |refine BP rfl rfl rfl ?_ |refine Ad ?_)
     exact ⟨true,⟨fun _ h=>absurd h.2.2 (by omega),fun _=>rfl⟩,(by repeat (first |exact As.nil |refine As.cons rfl ?_)),fun w hw=>hw⟩
    ·refine BX 34 (v':=.bool false) rfl (congrArg Value.bool (decide_eq_false e2)) ?_;repeat (first |refine Ah Aa rfl ?_ |refine AE Aa 0 rfl rfl rfl ?_)
     (refine BX 38 (v':=.bool false) rfl (congrArg Value.bool (by simp [k2])) ?_;(repeat (first |refine AN rfl ?_ |refine Ah Aa rfl ?_ |refine BP rfl rfl rfl ?_ |refine Ad ?_));exact ⟨false,⟨(fun h=>by cases h),fun h=>(h ⟨.inl k2,e1,by omega⟩).elim⟩,(by repeat (first |exact As.nil |refine As.cons rfl ?_)),fun w hw=>hw⟩)
   ·refine BX 25 (v':=.bool true) rfl (congrArg Value.bool (by simp [e1])) ?_;repeat (first |refine AN rfl ?_ |refine Ah Aa rfl ?_ |refine BP rfl rfl rfl ?_ |refine Ad ?_)
    exact ⟨true,⟨fun _ h=>e1 h.2.1,fun _=>rfl⟩,(by repeat (first |exact As.nil |refine As.cons rfl ?_)),fun w hw=>hw⟩
  by_cases k4:x.k=4
  ·refine BX 11 (v':=.bool true) rfl (congrArg Value.bool (by simp [k2])) ?_;repeat (first |refine Ah Aa rfl ?_ |refine AE Aa 0 rfl rfl rfl ?_)
   refine BX 16 (v':=.bool false) rfl (congrArg Value.bool (by simp [k4])) ?_;repeat (first |refine Ah Aa rfl ?_ |refine AE Aa 0 rfl rfl rfl ?_ |refine AE Aa 1 rfl rfl rfl ?_)
   by_cases e1:x.ep=s.ep
   ·refine BX 25 (v':=.bool false) rfl (congrArg Value.bool (by simp [e1])) ?_;repeat (first |refine Ah Aa rfl ?_ |refine AE Aa 0 rfl rfl rfl ?_ |refine AE Aa 1 rfl rfl rfl ?_)
    by_cases e2:x.inc < s.inc
    ·refine BX 34 (v':=.bool true) rfl (congrArg Value.bool (decide_eq_true e2)) ?_;repeat (first |refine AN rfl ?_ |refine Ah Aa rfl ?_ |refine BP rfl rfl rfl ?_ |refine Ad ?_)
     exact ⟨true,⟨fun _ h=>absurd h.2.2 (by omega),fun _=>rfl⟩,(by repeat (first |exact As.nil |refine As.cons rfl ?_)),fun w hw=>hw⟩
    ·refine BX 34 (v':=.bool false) rfl (congrArg Value.bool (decide_eq_false e2)) ?_;repeat (first |refine Ah Aa rfl ?_ |refine AE Aa 0 rfl rfl rfl ?_)
     (refine BX 38 (v':=.bool true) rfl (congrArg Value.bool (by simp [k4])) ?_;(repeat (first |refine AN rfl ?_ |refine Ah Aa rfl ?_ |refine AE Aa 1 rfl rfl rfl ?_ |refine Ad ?_));exact ⟨!s.op,⟨(fun h1 h2=>by rw [(h2.1.resolve_left k2).2] at h1;cases h1),fun h=>by cases hop:s.op with |false=>rfl |true=>exact (h ⟨.inr ⟨k4,hop⟩,e1,by omega⟩).elim⟩,(by repeat (first |exact As.nil |refine As.cons rfl ?_)),fun w hw=>hw⟩)
   ·refine BX 25 (v':=.bool true) rfl (congrArg Value.bool (by simp [e1])) ?_;repeat (first |refine AN rfl ?_ |refine Ah Aa rfl ?_ |refine BP rfl rfl rfl ?_ |refine Ad ?_)
    exact ⟨true,⟨fun _ h=>e1 h.2.1,fun _=>rfl⟩,(by repeat (first |exact As.nil |refine As.cons rfl ?_)),fun w hw=>hw⟩
  ·refine BX 11 (v':=.bool true) rfl (congrArg Value.bool (by simp [k2])) ?_;repeat (first |refine Ah Aa rfl ?_ |refine AE Aa 0 rfl rfl rfl ?_)
   refine BX 16 (v':=.bool true) rfl (congrArg Value.bool (by simp [k4])) ?_;repeat (first |refine AN rfl ?_ |refine Ah Aa rfl ?_ |refine BP rfl rfl rfl ?_ |refine Ad ?_)
   exact ⟨true,⟨fun _ h=>h.1.elim k2 fun h=>k4 h.1,fun _=>rfl⟩,(by repeat (first |exact As.nil |refine As.cons rfl ?_)),fun w hw=>hw⟩
 intro b hb;refine CK rfl (fun h1=>?_) (fun h1=>?_)
 ·have hk:=hb.1 h1;repeat (first |refine Ai ?_ |refine Ab ?_ |refine Ag ?_ |refine AI ?_ |refine AC ?_ |refine Ae Aa rfl ?_)
  refine Ey rfl rfl rfl (fun w' hw=>?_);have e1:s.rcv x rl=s:=if_neg hk;have h9:Hp w w' (XX sb bb s Fb true ++ []):=hw.less (by repeat (first |exact Au.nil |refine Au.keep ?_ |refine Au.dropR ?_ |refine Au.dropB (by first |assumption |omega) ?_));obtain ⟨F',j1,j2,j3⟩:=HK (F0:=F) h9 hok hF (fun e he=>by cases he) (.inl hFsb) (fun k hk=>.inl (hFb k hk));refine ⟨_,fun _=>False,F',by rw [decide_eq_false hk],(fun k h=>h.elim),j1,j2,?_⟩;rw [e1,if_neg hk];exact j3.none (p:=(Az Bg).vp []) (v:=.slice none 0 0) (fun w=>Br.nil_.val) false
 have hk:Ch s x:=Classical.byContradiction fun h=>by have:=hb.2 h;rw [h1] at this;cases this
 obtain ⟨k,ag,ep,inc,base,cum,lim,ra,rn,rc,xa,xn,xc⟩:=x;dsimp only at hx hn hcum hinc hlim hrl hk ⊢
 have hmem:∀ y,decide (EC cum rl y)=true ↔ Cs ((0,cum)::rl) y:=fun y=>by
  rw [decide_eq_true_iff];unfold EC Cs;simp
 repeat (first |refine Ai ?_ |refine Ab ?_ |refine Ad ?_ |refine Ao ?_ |refine Ae Aa rfl ?_ |refine An Aa 0 rfl rfl rfl ?_ |refine BE (Bf Aa rfl rfl rfl rfl rfl rfl rfl) ?_)
 refine AO Aa rfl rfl rfl rfl rfl rfl rfl rfl rfl rfl rfl rfl (fun b49 hb49=>?_);repeat (first |refine Ae Aa rfl ?_ |refine An Aa 1 rfl rfl rfl ?_)
 refine B0 (fun w' hw=>hw.toRow (n:=1) (sz:=2) hb49 rfl (by decide)) ?_;refine AT (ty:=0) Aa 0 (k:=rn) (news:=Bq rl) rfl rfl rfl rfl rfl rfl rfl rfl rfl (by decide) (fun w' hw=>((Br.of_val (hw.own _ (Af (i:=4) rfl)).1).flat Cz).1) (De _) (by simp only [maxLen];omega) (by show (_ + _) * 16 <= _;omega) rfl (fun A1 C1 hc3 hd3=>⟨_,rfl,?_⟩)
 have hrl1:((0,cum)::rl).length=1 + rn:=by rw [List.length_cons];omega
 have hok1:∀ r ∈ (0,cum)::rl,UQ r:=fun r hr=>by
  rcases List.mem_cons.1 hr with rfl |hr
  ·exact ⟨(show AS .u64 0 by decide),hcum⟩
  ·exact hrok r hr
 repeat (first |refine Ai ?_ |refine Ab ?_ |refine Ag ?_ |refine Ae Aa rfl ?_ |refine An Aa 2 rfl rfl rfl ?_)
 refine Lr 3 (rl:=(0,cum)::rl) (s:=fun n=>decide (EC cum rl n)) rfl rfl (fun w1 g1=>⟨fun k=>(Value.slice A1 (1 + rn) C1).ownBlock=some k,Br.of_row Cz (g1.own (.row w.heap.size (.slice A1 (1 + rn) C1) 83 2 (1 + rn) (Bq ((0,cum)::rl))) (Af (i:=0) rfl)) hrl1 hok1 (fun k _ hk=>hk),fun k hk hF=>g1.dis 0 3 rfl rfl rfl rfl hk hF⟩) (by omega) hmem (fun A3 C3 Fb2' hFb2'=>⟨_,rfl,?_⟩);obtain ⟨Fb2,hFb2e⟩:∃ Fb2,Fb2=Fb2':=⟨_,rfl⟩;rw [<-hFb2e];have hFb2:∀ k,Fb2 k->F k \/ w.heap.size <= k:=fun k hk=>(hFb2' k (hFb2e ▸ hk)).imp (hFb k) id;refine B0 (fun w' hw=>Hp.less (o':=[.row w.heap.size (.slice A1 (1 + rn) C1) 83 2 (1 + rn) (Bq ((0,cum)::rl)),.blk b3 (.cells ⟨Fm.cs2 ⟨k,ag,ep,inc,base,cum,lim,ra,rn,rc,xa,xn,xc⟩⟩ 78 (0,0)) true,.blk sb (F5 bb s) true,.rep (fun w=>(DM bb s.f s.m (D1 s.gs fun n=>decide (EC cum rl n)) s.last).at_ w Fb2 (.bool true)) Fb2 true]) hw (by repeat (first |exact Au.nil |refine Au.keep ?_ |refine Au.dropR ?_ |refine Au.dropW (Nat.le_refl _) ?_))) ?_;repeat (first |refine A5 (by kernel_rfl) (by kernel_rfl) ?_ |refine AN rfl ?_ |refine Ah Aa rfl ?_ |refine AE Aa 1 rfl rfl rfl ?_ |refine AE Aa 2 rfl rfl rfl ?_ |refine Ai ?_ |refine Ab ?_ |refine Ag ?_ |refine Ae Aa rfl ?_ |refine An Aa 1 rfl rfl rfl ?_)
 refine FK (ι:=Bool) (fun b=>b=true ↔ (k=2/\(s.inc < inc \/ s.op=false))) (fun b=>[(0,AF sb),(3,.pointer (some ⟨b3,0,none⟩)),(6,.slice A1 (1 + rn) C1),(7,.bool (decide (s.inc < inc))),(78,.bool b)])
  (fun b=>[.blk sb (F5 bb s) true,.blk b3 (.cells ⟨Fm.cs2 ⟨k,ag,ep,inc,base,cum,lim,ra,rn,rc,xa,xn,xc⟩⟩ 78 (0,0)) true,.rep (fun w=>(DM bb s.f s.m (D1 s.gs fun n=>decide (EC cum rl n)) s.last).at_ w Fb2 (.bool true)) Fb2 true,.row w.heap.size (.slice A1 (1 + rn) C1) 83 2 (1 + rn) (Bq ((0,cum)::rl))]) ?_ ?_
 ·by_cases k2:k=2
  ·refine Co 69 (v':=.bool true) rfl (congrArg Value.bool (decide_eq_true k2)) ?_;repeat (first |refine Ae Aa rfl ?_ |refine An Aa 2 rfl rfl rfl ?_)
   by_cases hop:s.op=true
   ·refine Co 75 (v':=.bool false) rfl (congrArg Value.bool (by rw [hop];rfl)) ?_;repeat (first |refine Ag ?_ |refine Ae Aa rfl ?_)
    exact ⟨decide (s.inc < inc),⟨fun h=>⟨k2,.inl (of_decide_eq_true h)⟩,fun h=>decide_eq_true (h.2.resolve_right fun h=>by rw [hop] at h;cases h)⟩,(by repeat (first |exact As.nil |refine As.cons rfl ?_)),fun w hw=>hw.pm [2,1,3,0] rfl rfl rfl⟩
   ·have hop2:s.op=false:=by simpa using hop
    refine Co 75 (v':=.bool true) rfl (congrArg Value.bool (by rw [hop2];rfl)) ?_;repeat (first |refine Ag ?_ |refine Ae Aa rfl ?_ |refine Bn rfl rfl rfl ?_)
    exact ⟨true,⟨fun _=>⟨k2,.inr hop2⟩,fun _=>rfl⟩,(by repeat (first |exact As.nil |refine As.cons rfl ?_)),fun w hw=>hw.pm [2,1,3,0] rfl rfl rfl⟩
  ·refine Co 69 (v':=.bool false) rfl (congrArg Value.bool (decide_eq_false k2)) ?_;repeat (first |refine Ag ?_ |refine Ae Aa rfl ?_ |refine Bn rfl rfl rfl ?_)
   exact ⟨false,⟨(fun h=>by cases h),fun h=>(k2 h.1).elim⟩,(by repeat (first |exact As.nil |refine As.cons rfl ?_)),fun w hw=>hw.pm [2,1,3,0] rfl rfl rfl⟩
 clear hb h1 b;intro b hb
 have fin:∀ (s':Bo) (Fb':Nat->Prop) (w':World),Hp w w' [.blk sb (F5 bb s') true,.rep (fun w=>(DM bb s'.f s'.m s'.gs s'.last).at_ w Fb' (.bool true)) Fb' true,.row w.heap.size (.slice A1 (1 + rn) C1) 83 2 (1 + rn) (Bq ((0,cum)::rl))]->
  Ep s'->(∀ k,Fb' k->Fb2 k \/ w.heap.size <= k)->s.rcv ⟨k,ag,ep,inc,base,cum,lim,ra,rn,rc,xa,xn,xc⟩ rl=s'->
  ∃ (v:Value) (Fv F':Nat->Prop),Ending.returned (.tuple #[.slice A1 (1 + rn) C1,.bool true])= .returned (.tuple #[v,.bool (decide (Ch s ⟨k,ag,ep,inc,base,cum,lim,ra,rn,rc,xa,xn,xc⟩))])/\(∀ k,Fv k->w.heap.size <= k)/\(∀ k,F k->F' k)/\(∀ k,F' k->F k \/ w.heap.size <= k)/\
   Hp w w' [.rep (fun w=>((Az Bg).vp (if Ch s ⟨k,ag,ep,inc,base,cum,lim,ra,rn,rc,xa,xn,xc⟩ then (0,cum)::rl else [])).at_ w Fv v) Fv false,.rep (fun w=>(JL sb (s.rcv ⟨k,ag,ep,inc,base,cum,lim,ra,rn,rc,xa,xn,xc⟩ rl)).at_ w F' (.bool true)) F' true]:=fun s' Fb' w' hw hok' hFb' e=>by
  rw [e,if_pos hk];obtain ⟨Fr,hFr,h1⟩:=(hw.pm [2,0,1] rfl rfl rfl).share (p:=(Az Bg).vp ((0,cum)::rl)) (fun h=>(Br.of_row Cz h hrl1 hok1 fun k _ hk=>hk).val)
  obtain ⟨F',j1,j2,j3⟩:=HK (F0:=F) (ol:=[.rep (fun w=>((Az Bg).vp ((0,cum)::rl)).at_ w Fr (.slice A1 (1 + rn) C1)) Fr false]) (show Hp w w' [.blk sb (F5 bb s') true,.rep (fun w=>(DM bb s'.f s'.m s'.gs s'.last).at_ w Fb' (.bool true)) Fb' true,.rep (fun w=>((Az Bg).vp ((0,cum)::rl)).at_ w Fr (.slice A1 (1 + rn) C1)) Fr false] from h1.pm [1,2,0] rfl rfl rfl) hok' hF (fun e he k hk=>by
   rw [List.mem_singleton] at he;subst he
   exact hFr k hk) (.inl hFsb) (fun k hk=>(hFb' k hk).elim (hFb2 k) .inr)
  exact ⟨_,Fr,F',by rw [decide_eq_true hk],hFr,j1,j2,j3.pm [1,0] rfl rfl rfl⟩
 have hrcv:s.rcv ⟨k,ag,ep,inc,base,cum,lim,ra,rn,rc,xa,xn,xc⟩ rl=if k=2/\(s.inc < inc \/ s.op=false) then (s.ack_ cum rl).begin_ true inc lim else if s.inc < inc then (s.ack_ cum rl).begin_ false inc 0 else { s.ack_ cum rl with lim:=max s.lim lim}:=if_pos hk
 refine CK rfl (fun hb1=>?_) (fun hb1=>?_)
 ·repeat (first |refine Ai ?_ |refine Ab ?_ |refine Ae Aa rfl ?_ |refine An Aa 0 rfl rfl rfl ?_)
  refine Lq (ι:=Option Addr × Nat × Nat) (fun _=>Fb2 bb) (fun q=>[.blk bb (Mh s.f s.m q.1 q.2.1 q.2.2 s.last) true,.rep (fun _=>True) (fun k=>Fb2 k/\k ≠ bb) true,.blk sb (F5 bb s) true,.blk b3 (.cells ⟨Fm.cs2 ⟨k,ag,ep,inc,base,cum,lim,ra,rn,rc,xa,xn,xc⟩⟩ 78 (0,0)) true,.row w.heap.size (.slice A1 (1 + rn) C1) 83 2 (1 + rn) (Bq ((0,cum)::rl))]) (fun w' hw=>by
   obtain ⟨a,n,c,h1,h2⟩:=Qq (hw.own _ (Af (i:=2) rfl)).1
   exact ⟨(a,n,c),h2,(hw.pm [2,0,1,3] rfl rfl rfl).open1 h1 h2⟩) ?_
  rintro ⟨a0,n0,c0⟩ hFbb;dsimp only;refine Ax Aa 0 rfl rfl rfl rfl rfl rfl ?_;refine B0 (fun w' hw=>hw.close1 (Ψ:=fun w=>(DM bb s.f s.m [] s.last).at_ w (fun k=>k=bb \/ (Fb2 k/\k ≠ bb)) (.bool true)) (Qp hok.conf.1 hbok.lst (hw.own _ (Af (i:=0) rfl)) (.inl rfl)) (Vp.loc (p:=DM _ _ _ _ _))) ?_;repeat (first |refine Ag ?_)
  refine Ca ?_
  refine Ii (by kernel_rfl) (by kernel_rfl) [11,14,17,20,23] (by kernel_rfl) (by kernel_rfl) (by kernel_rfl) (by kernel_rfl) [.blk b3 (.cells ⟨Fm.cs2 ⟨k,ag,ep,inc,base,cum,lim,ra,rn,rc,xa,xn,xc⟩⟩ 78 (0,0)) false] (CF DQ)
   [some (AF sb),some (AF sb),some (AF sb),some (AF sb),some (AF sb),some (.pointer (some ⟨b3,0 + 2,none⟩)),some (.int .u64 inc),some (.pointer (some ⟨b3,0 + 4,none⟩)),some (.int .u64 lim),some (.pointer (some ⟨sb,0,none⟩)),some (.pointer (some ⟨sb,0 + 5,none⟩)),none,some (.pointer (some ⟨sb,0,none⟩)),some (.pointer (some ⟨sb,0 + 6,none⟩)),none,some (.pointer (some ⟨sb,0,none⟩)),some (.pointer (some ⟨sb,0 + 7,none⟩)),none,some (.pointer (some ⟨sb,0,none⟩)),some (.pointer (some ⟨sb,0 + 9,none⟩)),none,some (.pointer (some ⟨sb,0,none⟩)),some (.pointer (some ⟨sb,0 + 10,none⟩)),none]
   ⟨.inr ⟨_,_,rfl,rfl,fun w f=>Ah Aa rfl Aj⟩,.inr ⟨_,_,rfl,rfl,fun w f=>Ah Aa rfl Aj⟩,.inr ⟨_,_,rfl,rfl,fun w f=>Ah Aa rfl Aj⟩,.inr ⟨_,_,rfl,rfl,fun w f=>Ah Aa rfl Aj⟩,.inr ⟨_,_,rfl,rfl,fun w f=>Ah Aa rfl Aj⟩,.inr ⟨_,_,rfl,rfl,fun w f=>Ah Aa rfl Aj⟩,.inr ⟨_,_,rfl,rfl,fun w f=>AE Aa 0 rfl rfl rfl Aj⟩,.inr ⟨_,_,rfl,rfl,fun w f=>Ah Aa rfl Aj⟩,.inr ⟨_,_,rfl,rfl,fun w f=>AE Aa 0 rfl rfl rfl Aj⟩,.inr ⟨_,_,rfl,rfl,fun w f=>Ah Aa rfl Aj⟩,.inr ⟨_,_,rfl,rfl,fun w f=>Ah Aa rfl Aj⟩,.inl rfl,.inr ⟨_,_,rfl,rfl,fun w f=>Ah Aa rfl Aj⟩,.inr ⟨_,_,rfl,rfl,fun w f=>Ah Aa rfl Aj⟩,.inl rfl,.inr ⟨_,_,rfl,rfl,fun w f=>Ah Aa rfl Aj⟩,.inr ⟨_,_,rfl,rfl,fun w f=>Ah Aa rfl Aj⟩,.inl rfl,.inr ⟨_,_,rfl,rfl,fun w f=>Ah Aa rfl Aj⟩,.inr ⟨_,_,rfl,rfl,fun w f=>Ah Aa rfl Aj⟩,.inl rfl,.inr ⟨_,_,rfl,rfl,fun w f=>Ah Aa rfl Aj⟩,.inr ⟨_,_,rfl,rfl,fun w f=>Ah Aa rfl Aj⟩,.inl rfl,trivial⟩ ?_
  refine AQ (i:=11) [(95,.pointer (some ⟨sb,0 + 5,none⟩))] (.inr (AL 2 rfl AV)) (by kernel_rfl) rfl (.cons rfl rfl .nil) ?_;refine Ax Aa 1 rfl rfl rfl rfl rfl rfl ?_;refine Ag ⟨_,rfl,(fun u h=>by cases h),?_⟩;refine AQ (i:=14) [(97,.pointer (some ⟨sb,0 + 6,none⟩)),(91,.int .u64 inc)] (.inr (AL 2 rfl AV)) (by kernel_rfl) rfl (.cons rfl rfl (.cons rfl rfl .nil)) ?_;refine Ax Aa 1 rfl rfl rfl rfl rfl rfl ?_;refine Ag ⟨_,rfl,(fun u h=>by cases h),?_⟩;refine AQ (i:=17) [(99,.pointer (some ⟨sb,0 + 7,none⟩)),(93,.int .u64 lim)] (.inr (AL 2 rfl AV)) (by kernel_rfl) rfl (.cons rfl rfl (.cons rfl rfl .nil)) ?_;refine Ax Aa 1 rfl rfl rfl rfl rfl rfl ?_;refine Ag ⟨_,rfl,(fun u h=>by cases h),?_⟩;refine AQ (i:=20) [(101,.pointer (some ⟨sb,0 + 9,none⟩))] (.inr (AL 2 rfl AV)) (by kernel_rfl) rfl (.cons rfl rfl .nil) ?_;refine Ax Aa 1 rfl rfl rfl rfl rfl rfl ?_;refine Ag ⟨_,rfl,(fun u h=>by cases h),?_⟩;refine AQ (i:=23) [(103,.pointer (some ⟨sb,0 + 10,none⟩))] (.inr (AL 2 rfl AV)) (by kernel_rfl) rfl (.cons rfl rfl .nil) ?_;refine Ax Aa 1 rfl rfl rfl rfl rfl rfl ?_;refine Ag ⟨_,rfl,(fun u h=>by cases h),?_⟩;refine Ct [(0,AF sb),(3,.pointer (some ⟨b3,0,none⟩)),(6,.slice A1 (1 + rn) C1)] (by repeat (first |exact Bc.nil |refine Bc.cons rfl ?_)) ?_;repeat (first |refine Ai ?_ |refine Ab ?_ |refine Ag ?_ |refine Ad ?_ |refine AC ?_ |refine Ae Aa rfl ?_)
  exact Ey rfl rfl rfl (fun w' hw=>fin ((s.ack_ cum rl).begin_ true inc lim) (fun k=>k=bb \/ (Fb2 k/\k ≠ bb)) w' ((hw.pm [1,0,3,2] rfl rfl rfl).less (by repeat (first |exact Au.nil |refine Au.keep ?_ |refine Au.dropB (by first |assumption |omega) ?_))) ⟨hok.conf,hok.ep,hinc,hlim,(show (0:Int) <= 0/\(0:Int) <= 2305843009213693952 by decide),(show (0:Int) <= 0/\(0:Int) <= 1099511627776 by decide)⟩ (fun k h=>.inl (h.elim (fun e=>e ▸ hFbb) fun h=>h.1)) (hrcv.trans (if_pos (hb.1 hb1))))
 have hb2:¬ (k=2/\(s.inc < inc \/ s.op=false)):=fun h=>by
  have:=hb.2 h;rw [hb1] at this;cases this
 repeat (first |refine Ai ?_ |refine Ab ?_ |refine Ag ?_ |refine Ae Aa rfl ?_)
 refine Ak rfl (fun h3=>?_) (fun h3=>?_)
 ·repeat (first |refine Ai ?_ |refine Ab ?_ |refine Ae Aa rfl ?_ |refine An Aa 0 rfl rfl rfl ?_)
  refine Lq (ι:=Option Addr × Nat × Nat) (fun _=>Fb2 bb) (fun q=>[.blk bb (Mh s.f s.m q.1 q.2.1 q.2.2 s.last) true,.rep (fun _=>True) (fun k=>Fb2 k/\k ≠ bb) true,.blk sb (F5 bb s) true,.blk b3 (.cells ⟨Fm.cs2 ⟨k,ag,ep,inc,base,cum,lim,ra,rn,rc,xa,xn,xc⟩⟩ 78 (0,0)) true,.row w.heap.size (.slice A1 (1 + rn) C1) 83 2 (1 + rn) (Bq ((0,cum)::rl))]) (fun w' hw=>by
   obtain ⟨a,n,c,h1,h2⟩:=Qq (hw.own _ (Af (i:=2) rfl)).1
   exact ⟨(a,n,c),h2,(hw.pm [2,0,1,3] rfl rfl rfl).open1 h1 h2⟩) ?_
  rintro ⟨a0,n0,c0⟩ hFbb;dsimp only;refine Ax Aa 0 rfl rfl rfl rfl rfl rfl ?_;refine B0 (fun w' hw=>hw.close1 (Ψ:=fun w=>(DM bb s.f s.m [] s.last).at_ w (fun k=>k=bb \/ (Fb2 k/\k ≠ bb)) (.bool true)) (Qp hok.conf.1 hbok.lst (hw.own _ (Af (i:=0) rfl)) (.inl rfl)) (Vp.loc (p:=DM _ _ _ _ _))) ?_;repeat (first |refine Ag ?_)
  refine Ca ?_
  refine Ii (by kernel_rfl) (by kernel_rfl) [9,12,15,18,21] (by kernel_rfl) (by kernel_rfl) (by kernel_rfl) (by kernel_rfl) [.blk b3 (.cells ⟨Fm.cs2 ⟨k,ag,ep,inc,base,cum,lim,ra,rn,rc,xa,xn,xc⟩⟩ 78 (0,0)) false] (CF DQ)
   [some (AF sb),some (AF sb),some (AF sb),some (AF sb),some (AF sb),some (.pointer (some ⟨b3,0 + 2,none⟩)),some (.int .u64 inc),some (.pointer (some ⟨sb,0,none⟩)),some (.pointer (some ⟨sb,0 + 5,none⟩)),none,some (.pointer (some ⟨sb,0,none⟩)),some (.pointer (some ⟨sb,0 + 6,none⟩)),none,some (.pointer (some ⟨sb,0,none⟩)),some (.pointer (some ⟨sb,0 + 7,none⟩)),none,some (.pointer (some ⟨sb,0,none⟩)),some (.pointer (some ⟨sb,0 + 9,none⟩)),none,some (.pointer (some ⟨sb,0,none⟩)),some (.pointer (some ⟨sb,0 + 10,none⟩)),none]
   ⟨.inr ⟨_,_,rfl,rfl,fun w f=>Ah Aa rfl Aj⟩,.inr ⟨_,_,rfl,rfl,fun w f=>Ah Aa rfl Aj⟩,.inr ⟨_,_,rfl,rfl,fun w f=>Ah Aa rfl Aj⟩,.inr ⟨_,_,rfl,rfl,fun w f=>Ah Aa rfl Aj⟩,.inr ⟨_,_,rfl,rfl,fun w f=>Ah Aa rfl Aj⟩,.inr ⟨_,_,rfl,rfl,fun w f=>Ah Aa rfl Aj⟩,.inr ⟨_,_,rfl,rfl,fun w f=>AE Aa 0 rfl rfl rfl Aj⟩,.inr ⟨_,_,rfl,rfl,fun w f=>Ah Aa rfl Aj⟩,.inr ⟨_,_,rfl,rfl,fun w f=>Ah Aa rfl Aj⟩,.inl rfl,.inr ⟨_,_,rfl,rfl,fun w f=>Ah Aa rfl Aj⟩,.inr ⟨_,_,rfl,rfl,fun w f=>Ah Aa rfl Aj⟩,.inl rfl,.inr ⟨_,_,rfl,rfl,fun w f=>Ah Aa rfl Aj⟩,.inr ⟨_,_,rfl,rfl,fun w f=>Ah Aa rfl Aj⟩,.inl rfl,.inr ⟨_,_,rfl,rfl,fun w f=>Ah Aa rfl Aj⟩,.inr ⟨_,_,rfl,rfl,fun w f=>Ah Aa rfl Aj⟩,.inl rfl,.inr ⟨_,_,rfl,rfl,fun w f=>Ah Aa rfl Aj⟩,.inr ⟨_,_,rfl,rfl,fun w f=>Ah Aa rfl Aj⟩,.inl rfl,trivial⟩ ?_
  refine AQ (i:=9) [(119,.pointer (some ⟨sb,0 + 5,none⟩))] (.inr (AL 2 rfl AV)) (by kernel_rfl) rfl (.cons rfl rfl .nil) ?_;refine Ax Aa 1 rfl rfl rfl rfl rfl rfl ?_;refine Ag ⟨_,rfl,(fun u h=>by cases h),?_⟩;refine AQ (i:=12) [(121,.pointer (some ⟨sb,0 + 6,none⟩)),(117,.int .u64 inc)] (.inr (AL 2 rfl AV)) (by kernel_rfl) rfl (.cons rfl rfl (.cons rfl rfl .nil)) ?_;refine Ax Aa 1 rfl rfl rfl rfl rfl rfl ?_;refine Ag ⟨_,rfl,(fun u h=>by cases h),?_⟩;refine AQ (i:=15) [(123,.pointer (some ⟨sb,0 + 7,none⟩))] (.inr (AL 2 rfl AV)) (by kernel_rfl) rfl (.cons rfl rfl .nil) ?_;refine Ax Aa 1 rfl rfl rfl rfl rfl rfl ?_;refine Ag ⟨_,rfl,(fun u h=>by cases h),?_⟩;refine AQ (i:=18) [(125,.pointer (some ⟨sb,0 + 9,none⟩))] (.inr (AL 2 rfl AV)) (by kernel_rfl) rfl (.cons rfl rfl .nil) ?_;refine Ax Aa 1 rfl rfl rfl rfl rfl rfl ?_;refine Ag ⟨_,rfl,(fun u h=>by cases h),?_⟩;refine AQ (i:=21) [(127,.pointer (some ⟨sb,0 + 10,none⟩))] (.inr (AL 2 rfl AV)) (by kernel_rfl) rfl (.cons rfl rfl .nil) ?_;refine Ax Aa 1 rfl rfl rfl rfl rfl rfl ?_;refine Ag ⟨_,rfl,(fun u h=>by cases h),?_⟩;refine Ct [(0,AF sb),(3,.pointer (some ⟨b3,0,none⟩)),(6,.slice A1 (1 + rn) C1)] (by repeat (first |exact Bc.nil |refine Bc.cons rfl ?_)) ?_;repeat (first |refine Ai ?_ |refine Ab ?_ |refine Ag ?_ |refine Ad ?_ |refine AC ?_ |refine Ae Aa rfl ?_)
  exact Ey rfl rfl rfl (fun w' hw=>fin ((s.ack_ cum rl).begin_ false inc 0) (fun k=>k=bb \/ (Fb2 k/\k ≠ bb)) w' ((hw.pm [1,0,3,2] rfl rfl rfl).less (by repeat (first |exact Au.nil |refine Au.keep ?_ |refine Au.dropB (by first |assumption |omega) ?_))) ⟨hok.conf,hok.ep,hinc,(show AS .u64 0 by decide),(show (0:Int) <= 0/\(0:Int) <= 2305843009213693952 by decide),(show (0:Int) <= 0/\(0:Int) <= 1099511627776 by decide)⟩ (fun k h=>.inl (h.elim (fun e=>e ▸ hFbb) fun h=>h.1)) (hrcv.trans ((if_neg hb2).trans (if_pos h3))))
 ·repeat (first |refine A5 (by kernel_rfl) (by kernel_rfl) ?_ |refine AN rfl ?_ |refine Ah Aa rfl ?_ |refine AE Aa 0 rfl rfl rfl ?_ |refine AE Aa 1 rfl rfl rfl ?_ |refine Ai ?_)
  refine Ak rfl (fun h4=>?_) (fun h4=>?_)
  ·repeat (first |refine Ai ?_ |refine Ab ?_ |refine Ag ?_ |refine AC ?_ |refine Ae Aa rfl ?_ |refine An Aa 1 rfl rfl rfl ?_ |refine Ax Aa 0 rfl rfl rfl rfl rfl rfl ?_)
   have hmx:max s.lim lim=lim:=Int.max_eq_right (Int.le_of_lt (show s.lim < lim from h4));exact Ey rfl rfl rfl (fun w' hw=>fin { s.ack_ cum rl with lim:=max s.lim lim} Fb2 w' (by rw [hmx];exact hw.less (by repeat (first |exact Au.nil |refine Au.keep ?_ |refine Au.dropB (by first |assumption |omega) ?_))) ⟨hok.conf,hok.ep,hok.inc,by rw [hmx];exact hlim,hok.tm,hok.tr⟩ (fun k h=>.inl h) (hrcv.trans ((if_neg hb2).trans (if_neg h3))))
  ·repeat (first |refine Ai ?_ |refine Ab ?_ |refine Ag ?_ |refine Ad ?_ |refine Ao ?_ |refine AC ?_ |refine Ae Aa rfl ?_)
   have hmx:max s.lim lim=s.lim:=Int.max_eq_left (Int.not_lt.1 (show ¬ s.lim < lim from h4));exact Ey rfl rfl rfl (fun w' hw=>fin { s.ack_ cum rl with lim:=max s.lim lim} Fb2 w' (by rw [hmx];exact hw.less (by repeat (first |exact Au.nil |refine Au.keep ?_ |refine Au.dropB (by first |assumption |omega) ?_))) ⟨hok.conf,hok.ep,hok.inc,by rw [hmx];exact hok.lim,hok.tm,hok.tr⟩ (fun k h=>.inl h) (hrcv.trans ((if_neg hb2).trans (if_neg h3))))
end
def FT (w:World) (e:TypeId) (sz:Nat) (v:Value) (n:Nat) (xs:List Value):Prop:=
 xs.length=n * sz/\((v= .slice none 0 0/\n=0) \/ ∃ g off cap cur,v= .slice (some ⟨g,off,none⟩) n cap/\w.heap[g]? =some (.cells cur e (0,0))/\n <= cap/\cap <= maxLen/\off + cap * sz <= cur.size/\(cur.toList.drop off).take (n * sz)=xs)
theorem Gj {w:World} {e:TypeId} {sz n:Nat} {v:Value} {xs:List Value} (h:FT w e sz v n xs):∃ A c,v= .slice A n c/\n <= c/\c <= maxLen:=by
 obtain ⟨_,⟨rfl,rfl⟩ |⟨g,off,cap,cur,rfl,_,h1,h2,_⟩⟩:=h
 ·exact ⟨none,0,rfl,Nat.le_refl _,Nat.zero_le _⟩
 ·exact ⟨_,cap,rfl,h1,h2⟩
theorem KS {w:World} {e:TypeId} {sz n c:Nat} {A:Option Addr} {xs:List Value} (h:FT w e sz (.slice A n c) n xs):Sl w sz A n xs:=by
 obtain ⟨h0,⟨h1,rfl⟩ |⟨g,off,cap,cur,h1,h2,h3,h4,h5,h6⟩⟩:=h
 ·have:xs= []:=List.eq_nil_of_length_eq_zero (by simpa using h0);subst this;exact Sl.nil_
 ·cases h1;refine ⟨h0,fun hn=>⟨g,off,rfl,AU h2,fun j u hu=>?_⟩⟩;rw [cell_of_row w g (off + j) cur e (0,0) h2];rw [<-h6,List.getElem?_take] at hu;split at hu
  ·rw [List.getElem?_drop] at hu;simpa using hu
  ·cases hu
theorem Ix {w:World} {base:Nat} {e:TypeId} {sz n:Nat} {v:Value} {xs:List Value} (h:w.ownsRow base e sz v n xs):FT w e sz v n xs:=by
 obtain ⟨h0,h1 |⟨g,cap,cur,h1,h2,h3,h4,h5,h6,h7⟩⟩:=h
 ·exact ⟨h0,.inl h1⟩
 ·exact ⟨h0,.inr ⟨g,0,cap,cur,h1,h3,h4,h5,by omega,by rw [List.drop_zero];exact h7⟩⟩
def Si (e:TypeId) (sz n:Nat) (xs:List Value):Vp:=
 ⟨fun w A v=>FT w e sz v n xs/\∀ k,v.ownBlock=some k->A k,fun {w w' A B v} ⟨⟨h0,h1⟩,h2⟩ hk=>by
  refine ⟨⟨h0,?_⟩,?_⟩
  ·rcases h1 with h1 |⟨g,off,cap,cur,rfl,h3,h4⟩
   ·exact .inl h1
   ·exact .inr ⟨g,off,cap,cur,rfl,((hk g (h2 g rfl) (AU h3)).1).trans h3,h4⟩
  ·rcases h1 with ⟨rfl,_⟩ |⟨g,off,cap,cur,rfl,h3,h4⟩
   ·intro k hk;simp [Value.ownBlock] at hk
   ·intro k hk2;have:k=g:=(Option.some.inj hk2).symm;subst this
    exact (hk k (h2 k rfl) (AU h3)).2⟩
theorem Pq {w:World} {e:TypeId} {sz n:Nat} {v:Value} {xs:List Value} (h:FT w e sz v n xs) {k:Nat} (hk:v.ownBlock=some k):k < w.heap.size:=by
 obtain ⟨_,⟨rfl,rfl⟩ |⟨g,off,cap,cur,rfl,h1,_⟩⟩:=h
 ·simp [Value.ownBlock] at hk
 ·exact Option.some.inj hk ▸ AU h1
section
variable {P:Program}
theorem HJ (w:World) (t ty e:TypeId) (i:TypeInfo) (ht:P.underlying t=some (.slice e)) (hi:P.info? e=some i)
 (g off sLen sCap:Nat) (cur:Array Value) (hg:w.heap[g]? =some (.cells cur e (0,0)))
 (a:Addr) (m c:Nat) (news:List Value) (hl:news.length=m * i.size) (hnews:∀ j u,news[j]? =some u->w.cell? (a.add j)=some u) (h1:∀ u ∈ news,u.oneCell'=true)
 (hroom:sLen + m <= sCap) (hfit:off + sLen * i.size + news.length <= cur.size):
 (Builtin.append_ #[t,t] ty #[.slice (some ⟨g,off,none⟩) sLen sCap,.slice (some a) m c]).run P w=
  .ok (.slice (some ⟨g,off,none⟩) (sLen + m) sCap) (w.setRow g (cur.toList.take (off + sLen * i.size) ++ news ++ cur.toList.drop (off + sLen * i.size + news.length)).toArray):=by
 have hf:=run_firstCells_some (P:=P) w i.size m a m c news hl hnews;have hst:=run_storeCells_at P g (off + sLen * i.size) e news 0 cur w hg (by simpa using hfit) h1;simp only [Nat.add_zero] at hst;simp [Builtin.append_,run_underlying ht,sizeOf,typeInfo,hi,Builtin.lenOf,hroom,hf,Addr.add_lit,hst]
theorem KG (w:World) (t ty e:TypeId) (i:TypeInfo) (z:Value) (size bytes:Nat) (ht:P.underlying t=some (.slice e)) (hi:P.info? e=some i) (hz:i.zero=some z)
 (hsize:i.size=size) (hby:i.bytes=bytes) (hzs:z.cells.size=size) (hsz:0 < size)
 (v:Value) (n:Nat) (xs:List Value) (hown:FT w e size v n xs)
 (A:Option Addr) (m c:Nat) (news:List Value) (hr:Sl w size A m news) (h1:∀ u ∈ news,u.oneCell'=true)
 (h63:n + m <= maxLen) (hbytes:(n + m) * bytes <= 140737488355328):
 ∃ v' w',(Builtin.append_ #[t,t] ty #[v,.slice A m c]).run P w= .ok v' w'/\FT w' e size v' (n + m) (xs ++ news)/\w.grownBy w' v.ownBlock/\
  ∀ k,v'.ownBlock=some k->v.ownBlock=some k \/ w.heap.size <= k:=by
 obtain ⟨h0,⟨rfl,rfl⟩ |⟨g,off,cap,cur,rfl,hg,hnc,hcm,hcs,htk⟩⟩:=hown
 ·obtain ⟨v',w',e1,e2,e3,e4⟩:=EL (P:=P) w w.heap.size t ty e i z size bytes ht hi hz hsize hby hzs hsz (.slice none 0 0) 0 xs ⟨h0,.inl ⟨rfl,rfl⟩⟩ A m c news hr h1 h63 hbytes (Nat.le_refl _);refine ⟨v',w',e1,Ix e2,e3,fun k hk=>e4.imp (fun e=>by rw [<-e];exact hk) fun e=>?_⟩;rw [e] at hk;exact Nat.le_of_eq (Option.some.inj hk)
 ·subst hsize
  rcases Nat.eq_zero_or_pos m with hm |hm
  ·subst hm;have hn:news= []:=List.eq_nil_of_length_eq_zero (by simpa using hr.len);subst hn;exact ⟨_,w,DP w t ty e i ht hi _ A n cap c hnc,by rw [Nat.add_zero,List.append_nil];exact ⟨h0,.inr ⟨g,off,cap,cur,rfl,hg,hnc,hcm,hcs,htk⟩⟩,World.grownBy.refl w _,fun k hk=>.inl hk⟩
  ·obtain ⟨b,o2,rfl,hlt,hc⟩:=hr.get hm
   have hnews:∀ j u,news[j]? =some u->w.cell? ((⟨b,o2,none⟩:Addr).add j)=some u:=fun j u hu=>by rw [Addr.add_lit];exact hc j u hu
   by_cases hroom:n + m <= cap
   ·have hmul:(n + m) * i.size <= cap * i.size:=Nat.mul_le_mul_right _ hroom;rw [Nat.add_mul] at hmul;have hl:=hr.len;have hrun:=HJ (P:=P) w t ty e i ht hi g off n cap cur hg ⟨b,o2,none⟩ m c news hl hnews h1 hroom (by omega);refine ⟨_,_,hrun,⟨by rw [List.length_append,h0,hl,Nat.add_mul],.inr ⟨g,off,cap,_,rfl,setRow_heap w g cur _ e _ hg,hroom,hcm,?_,?_⟩⟩,?_,fun k hk=>.inl hk⟩
    ·simp only [List.size_toArray,List.length_append,List.length_take,List.length_drop,Array.length_toList];omega
    ·have h7:(cur.toList.take (off + n * i.size)).length=off + n * i.size:=by rw [List.length_take,Array.length_toList];omega
     show ((cur.toList.take (off + n * i.size) ++ news ++ cur.toList.drop (off + n * i.size + news.length)).drop off).take ((n + m) * i.size)=xs ++ news;rw [List.append_assoc,List.drop_append_of_le_length (by rw [h7];omega),<-List.append_assoc]
     have h8:(cur.toList.take (off + n * i.size)).drop off=xs:=by
      rw [List.drop_take,Nat.add_sub_cancel_left];exact htk
     rw [h8,List.take_left' (by rw [List.length_append,h0,hl,Nat.add_mul])]
    ·refine ⟨rfl,rfl,rfl,?_,fun k hk hne=>?_⟩
     ·simp [World.setRow]
     ·exact setRow_other w g k _ (fun e=>hne (by rw [e];rfl))
   ·obtain ⟨v',w',e1,e2,e3⟩:=run_append_arg_grows (P:=P) w t ty e i z i.size bytes ht hi hz rfl hby hzs hsz ⟨g,off,none⟩ n cap xs h0 (fun j u hu=>by
     rw [Addr.add_lit]
     exact (KS ⟨h0,.inr ⟨g,off,cap,cur,rfl,hg,hnc,hcm,hcs,htk⟩⟩).at_ (by
      rcases Nat.eq_zero_or_pos n with e |e
      ·subst e;have:xs= []:=List.eq_nil_of_length_eq_zero (by simpa using h0);subst this;cases hu
      ·exact e) hu) ⟨b,o2,none⟩ m c news hr.len hnews (by omega) h63 hbytes
    exact ⟨v',w',e1,Ix e2,⟨e3.os,e3.tape,e3.output,e3.size,fun k hk _=>e3.block k hk (by simp)⟩,fun k hk=>.inr (World.ownsRow.lt e2 k hk).1⟩
end
section
variable {P:Program} {tb:EU} {n:Nat} {w0:World} {all:Array Oper} {os:List Oper} {o:Oper} {l:FL} {ol:OL} {K:FL->OL->Prop} {Q:B3} {d:Nat}
theorem N4 (ht:AW P tb) (i:Nat) {t e:TypeId} {ty:TypeId} {s x:Operand} {v:Value} {m k c sz:Nat} {A:Option Addr} {xs news:List Value} {ti te:TI} {F:Nat->Prop}
 (hs:BV n all (AP l) o=some (d,.call ⟨.builtin .append,#[s,x],#[t,t]⟩)) (hv:ev (AP l) s=some v) (hx:ev (AP l) x=some (.slice A k c))
 (hi:B9 ol i=some (.rep (fun w=>(Si e sz m xs).at_ w F v) F true)) (hti:tl tb t=some ti) (hd:ti.desc= .slice e) (hte:tl tb e=some te) (hsz:te.size=sz) (hzs:te.zero.cells.size=sz) (hpos:0 < sz)
 (hr:∀ w,Hp w0 w ol->Sl w sz A k news) (h1:∀ u ∈ news,u.oneCell'=true) (hmax:m + k <= maxLen) (hbytes:(m + k) * te.bytes <= 140737488355328)
 (kk:∀ A' c' (F':Nat->Prop),m + k <= c'->c' <= maxLen->(∀ k,F' k->F k \/ w0.heap.size <= k)->∃ ol',Dc ol i (.rep (fun w=>(Si e sz (m + k) (xs ++ news)).at_ w F' (.slice A' (m + k) c')) F' true)=some ol'/\S P n w0 all os ((d,.slice A' (m + k) c')::l) ol' K Q):
 S P n w0 all (o::os) l ol K Q:=by
 obtain ⟨hdst,hlt,hg,hop⟩:=CE hs;refine ⟨fun a w hf hh=>?_⟩;obtain ⟨inf,hinf,hz,hs1,hs2⟩:=(ht e te hte).2;have hown:=hh.own _ (Af hi);have hu:=ht.under' hti;rw [hd] at hu;obtain ⟨v',w',hrun,h2,h3,h4⟩:=KG (P:=P) w t o.type e inf te.zero sz te.bytes hu hinf hz (hs1.trans hsz) hs2 hzs hpos v m xs hown.1.1 A k c news (hr w hh) h1 hmax hbytes;obtain ⟨A',c',rfl,hmc,hcm⟩:=Gj h2;obtain ⟨ol',hput,kS⟩:=kk A' c' (fun j=>F j \/ (Value.slice A' (m + k) c').ownBlock=some j) hmc hcm (fun j hj=>hj.elim .inl fun hj=>(h4 j hj).elim (fun h=>.inl (hown.1.2 j h)) fun h=>.inr (Nat.le_trans hh.size h));refine B4 (v:=.slice A' (m + k) c') (Bb hf.rd hg) ?_ ?_ (w':=w')
 ·unfold execOp;simp [hop,resolve,invoke,builtin,hf.rd.ev hv,hf.rd.ev hx,hrun]
 ·rw [hdst];refine kS.out _ _ (hf.put hlt _) ?_;obtain ⟨pre,post,e1,e2⟩:=CP hi hput;rw [e1] at hh;rw [e2];refine hh.turn rfl h3.os h3.tape h3.output h3.size (fun j hj hne=>h3.block j hj (fun hh=>hne (hown.1.2 j hh.symm))) ⟨⟨h2,fun j hj=>.inr hj⟩,Vp.loc (p:=Si _ _ _ _),fun j hj=>hj.elim (fun h=>Nat.lt_of_lt_of_le (hown.2.2 j h) h3.size) (Pq h2)⟩ (fun j hj=>?_) (fun j hj=>.inr (.inl hj));exact hj.elim .inl fun hj=>(h4 j hj).imp (hown.1.2 j) id
end
end Go.Proofs.YtidhpofcofknhaaGreat
