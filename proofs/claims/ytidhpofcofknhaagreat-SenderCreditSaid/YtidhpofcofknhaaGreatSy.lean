/-
  A pair of senders: what bounds hold while it goes on. Conditions: each theorem's own. A pair of senders: what it is; its tick. Conditions: each theorem's own. A pair of senders: both are alike. Conditions: each theorem's own. A pair of senders: what is queued changes. Conditions: each theorem's own. A pair of senders: a frame as the document has it. Conditions: each theorem's own. A pair of senders: an act. Conditions: each theorem's own. A pair of senders is made; what acts are. Conditions: each theorem's own. A pair of senders: acts, sound; what a frame's cells are. Conditions: each theorem's own. A pair of senders: what stays. Conditions: each theorem's own.
  Conditions: each theorem's own.
-/
import Derived.Test.YtidhpofcofknhaaGreatSx
namespace Go.Proofs.YtidhpofcofknhaaGreat
open Go Go.RowKit
set_option linter.unusedVariables false
theorem OK:∀ {gs:List BG},Jt gs->gs.length <= (Aw gs).length
 | [],_=>Nat.zero_le _
 |g::gs,h=>by
  have ih:=OK (gs:=gs) fun x hx=>h x (List.mem_cons_of_mem _ hx);have h1:g.L.length ≠ 0:=fun e=>h g List.mem_cons_self (List.eq_nil_of_length_eq_zero e)
  have h2:(Aw (g::gs)).length=g.L.length + (Aw gs).length:=by unfold Aw;simp
  rw [h2,List.length_cons];omega
theorem IJ (p lim:Int) (nums:List Int):∀ (l:List (Int × Int)) (st:CW),(DA p lim nums l st).out.flatten.length + (DA p lim nums l st).cur.length <= st.out.flatten.length + st.cur.length + st.room.toNat
 | [],st=>Nat.le_add_right _ _
 |x::l,st=>by
  rw [DA];split
  ·exact Nat.le_add_right _ _
  ·rename_i h;split
   ·exact IJ p lim nums l st
   ·refine Nat.le_trans (IJ p lim nums l _) ?_
    have h1:(BJ p x st).out.flatten.length + (BJ p x st).cur.length=st.out.flatten.length + st.cur.length/\(BJ p x st).room=st.room:=by
     unfold BJ;split
     ·refine ⟨?_,rfl⟩;show (st.out ++ [st.cur]).flatten.length + 0=_;rw [List.flatten_append,List.length_append];simp
     ·exact ⟨rfl,rfl⟩
    have h2:¬ st.room <= 0:=fun e=>h (.inl e);show (BJ p x st).out.flatten.length + ((BJ p x st).cur ++ [x.1]).length + ((BJ p x st).room - 1).toNat <= _;rw [List.length_append,h1.2];show (BJ p x st).out.flatten.length + ((BJ p x st).cur.length + 1) + (st.room - 1).toNat <= _;omega
theorem J4 (p q lim:Int) (nums:List Int) (l:List (Int × Int)):(CR p q lim nums l).flatten.length <= (q - (nums.length:Int)).toNat:=by
 have h:=IJ p lim nums l (CH q nums);unfold CR;rw [List.flatten_append,List.length_append]
 have h1:((if 0 < ((DA p lim nums l (CH q nums)).cur.length:Int) then [(DA p lim nums l (CH q nums)).cur] else []):List (List Int)).flatten.length <= (DA p lim nums l (CH q nums)).cur.length:=by
  split<;>simp
 have h2:(CH q nums).out.flatten.length + (CH q nums).cur.length + (CH q nums).room.toNat=(q - (nums.length:Int)).toNat:=by
  show 0 + 0 + (q - (nums.length:Int)).toNat=_;omega
 omega
structure FN (N:Nat) (s:Bo):Prop where
 nums:(Aw s.gs).length <= 1024
 last:s.last <= (N:Int) * 1024
 tries:∀ g ∈ s.gs,g.tries <= (N:Int) + 1
 tr:s.tr <= (N:Int)
theorem FN.up {N M:Nat} {s:Bo} (h:FN N s) (hm:N <= M):FN M s:=⟨h.nums,by have:=h.last;omega,fun g hg=>by have:=h.tries g hg;omega,by have:=h.tr;omega⟩
theorem Bo.sendAll_tries (now B:Int) (hB:1 <= B):∀ (LL:List (List Int)) (s:Bo),(∀ g ∈ s.gs,g.tries <= B)->∀ g ∈ (s.sendAll now LL).gs,g.tries <= B
 | [],_,h=>h
 |L::LL,s,h=>Bo.sendAll_tries now B hB LL (s.send_ now L) fun g hg=>by
  have h1:g ∈ (B2 s.f s.m s.gs s.last now L).1:=hg;unfold B2 at h1;split at h1
  ·exact h g h1
  ·rcases List.mem_append.1 h1 with h1 |h1
   ·exact h g h1
   ·rw [List.mem_singleton] at h1;rw [h1];exact hB
theorem FN.keep {N:Nat} {s:Bo} (h:FN N s) (qs:List Int):FN N (s.keep_ qs) where
 nums:=by
  show (Aw (D1 s.gs _)).length <= _;rw [Ec];exact Nat.le_trans (List.length_filter_le _ _) h.nums
 last:=h.last
 tries:=fun g hg=>by
  obtain ⟨x,hx,rfl⟩:=Gg hg;exact h.tries x hx
 tr:=h.tr
theorem FN.due {N:Nat} {s:Bo} (h:FN N s) (now:Int):FN (N + 1) (s.due_ now) where
 nums:=by
  show (Aw (EQ s.f s.m now s.gs)).length <= _;rw [GQ];exact h.nums
 last:=by have:=h.last;show s.last <= _;omega
 tries:=fun g hg=>by
  obtain ⟨x,hx,rfl⟩:=List.mem_map.1 hg;have:=h.tries x hx;split
  ·show x.tries + 1 <= _;omega
  ·omega
 tr:=by have:=h.tr;show s.tr <= _;omega
theorem FN.try_ {N:Nat} {s:Bo} (h:FN N s) (now:Int):FN (N + 1) (s.try_ now):=by
 unfold Bo.try_;have h1:=h.last;have h2:=h.tr;split
 ·exact ⟨h.nums,by show s.last <= _;omega,fun g hg=>by have:=h.tries g hg;omega,by show s.tr + 1 <= _;omega⟩
 ·exact h.up (Nat.le_succ _)
theorem FN.calm {N:Nat} {s:Bo} (h:FN N s):FN N s.calm_:=⟨h.nums,h.last,h.tries,by show (0:Int) <= _;omega⟩
theorem FN.open_ {N:Nat} {s:Bo} (h:FN N s) (hq:s.q <= 1024) (now:Int) {ql:List (Int × Int)} (hl:ql.length <= 1000):FN (N + 1) (s.open_ now ql):=by
 obtain ⟨s2,hs2⟩:∃ s2,s2=(s.keep_ (ql.map (·.1))).due_ now:=⟨_,rfl⟩
 have h2:FN (N + 1) s2:=by rw [hs2];exact (h.keep _).due now
 have hq2:s2.q <= 1024:=by rw [hs2];exact hq
 have hl2:s2.last=s.last:=by rw [hs2];rfl
 have ht2:s2.tr=s.tr:=by rw [hs2];rfl
 obtain ⟨FL,hFL⟩:∃ t,t=s2.batch now ql:=⟨_,rfl⟩
 have e:s.open_ now ql=s2.sendAll now FL:=by rw [hFL,hs2];rfl
 have h3:=Bo.sendAll_len now FL s2
 have h4:FL.flatten.length <= (s2.q - ((Aw s2.gs).length:Int)).toNat:=by rw [hFL];exact J4 _ _ _ _ _
 have h5:=II s2.p s2.q s2.lim (Aw s2.gs) ql;rw [show CR s2.p s2.q s2.lim (Aw s2.gs) ql=FL from hFL.symm] at h5;have h6:=h2.nums;have h7:=h.last;have h8:=h.tr;obtain ⟨a1,a2,a3,a4,a5,a6,a7,a8,a9,a10⟩:=Bo.sendAll_eq now FL s2;rw [e];exact ⟨by omega,by omega,Bo.sendAll_tries now _ (by omega) FL s2 h2.tries,by rw [a10,ht2];omega⟩
theorem FN.tick {N:Nat} {s:Bo} (h:FN N s) (hq:s.q <= 1024) (now:Int) {ql:List (Int × Int)} (hl:ql.length <= 1000):FN (N + 2) (s.tick now ql):=by
 unfold Bo.tick;split
 ·split
  ·exact (h.open_ hq now hl).calm.up (Nat.le_succ _)
  ·exact (h.open_ hq now hl).try_ now
 ·exact ((h.keep _).try_ now).up (Nat.le_succ _)
theorem FN.ack {N:Nat} {s:Bo} (h:FN N s) (cum:Int) (rl:List BS):FN N (s.ack_ cum rl) where
 nums:=by
  show (Aw (D1 s.gs _)).length <= _;rw [Ec];exact Nat.le_trans (List.length_filter_le _ _) h.nums
 last:=h.last
 tries:=fun g hg=>by
  obtain ⟨x,hx,rfl⟩:=Gg hg;exact h.tries x hx
 tr:=h.tr
theorem FN.begin {N:Nat} {s:Bo} (h:FN N s) (op:Bool) (inc lim:Int):FN N (s.begin_ op inc lim):=⟨Nat.zero_le _,h.last,fun g hg=>(by cases hg),by show (0:Int) <= _;omega⟩
theorem FN.rcv {N:Nat} {s:Bo} (h:FN N s) (x:Fm) (rl:List BS):FN N (s.rcv x rl):=by
 unfold Bo.rcv;split
 ·split
  ·exact (h.ack _ _).begin _ _ _
  ·split
   ·exact (h.ack _ _).begin _ _ _
   ·exact ⟨(h.ack _ _).nums,h.last,(h.ack x.cum rl).tries,h.tr⟩
 ·exact h
structure QB (N:Nat) (ql:List (Int × Int)) (last:Int):Prop where
 srt:(ql.map (·.1)).Pairwise (· < ·)
 le:∀ x ∈ ql,0 <= x.1/\x.1 <= last
 sz:∀ x ∈ ql,0 <= x.2/\x.2 <= 4112
 len:ql.length <= N * 11
 last:0 <= last/\last <= (N:Int) * 22
theorem QB.nil:QB 0 [] 0:=⟨List.Pairwise.nil,fun x h=>(by cases h),fun x h=>(by cases h),Nat.zero_le _,by decide⟩
theorem QB.up {N M:Nat} {ql:List (Int × Int)} {last:Int} (h:QB N ql last) (hm:N <= M):QB M ql last:=⟨h.srt,h.le,h.sz,by have:=h.len;omega,by have:=h.last;omega⟩
theorem QB.ok {N:Nat} {ql:List (Int × Int)} {last:Int} (h:QB N ql last) (hN:N <= 1000000):∀ x ∈ ql,Vi x:=fun x hx=>by
 have h1:=h.le x hx;have h2:=h.sz x hx;have h3:=h.last;refine ⟨?_,?_⟩
 ·simp only [AS,IntKind.min,IntKind.max,IntKind.signed,IntKind.bits];simp;omega
 ·simp only [AS,IntKind.min,IntKind.max,IntKind.signed,IntKind.bits];simp;omega
theorem QB.sub {N:Nat} {ql ql':List (Int × Int)} {last:Int} (h:QB N ql last) (hs:ql'.Sublist ql):QB N ql' last:=⟨h.srt.sublist (hs.map _),fun x hx=>h.le x (hs.subset hx),fun x hx=>h.sz x (hs.subset hx),Nat.le_trans hs.length_le h.len,h.last⟩
theorem Bp {w0:World}:∀ (o:OL),Au w0 o o
 | []=>Au.nil
 |_::o=>Au.keep (Bp o)
abbrev RO (k:IntKind):Eh (Int × List Int):=C5 (A8 k) (Az (A8 .u64))
def Kh (k:IntKind) (ys:List (Int × SX)):List (List Value):=ys.map fun y=>[.int k y.1,y.2.v]
def Ft (k:IntKind) (a:Option Addr) (n c:Nat) (ys:List (Int × SX)) (TL:List (Int × List Int)):Vp:=
 ⟨fun w A _=>L8 (RO k) w A a n c TL (Kh k ys),fun h hk=>h.keep hk⟩
theorem Oq {k:IntKind} {w:World} {A:Nat->Prop} {cs:List Value} {x:Int × List Int} (h:(RO k).at_ w A cs x):∃ y:SX,cs= [.int k x.1,y.v]/\AS k x.1/\Br (A8 .u64) w A y.a y.n y.c x.2:=by
 obtain ⟨c1,c2,rfl,⟨rfl,h1⟩,a,n,c,rfl,h2⟩:=h;exact ⟨⟨a,n,c⟩,rfl,h1,h2⟩
theorem U7 {k:IntKind} {w:World} {A:Nat->Prop} {v:Value} {TL:List (Int × List Int)} (h:((Az (RO k)).vp TL).at_ w A v):∃ a n c ys,v= .slice a n c/\(Ft k a n c ys TL).at_ w A (.bool true):=by
 obtain ⟨a,n,c,rfl,h1⟩:=Br.form h;obtain ⟨css,h2,h3,h4⟩:=h1.each
 have hx:∃ ys:List (Int × SX),css=Kh k ys:=by
  have:∀ cs ∈ css,∃ y:Int × SX,cs= [.int k y.1,y.2.v]:=fun cs hc=>by
   obtain ⟨i,hi⟩:=List.mem_iff_getElem?.1 hc;have hil:=(List.getElem?_eq_some_iff.1 hi).1;obtain ⟨y,hy⟩:∃ y,TL[i]? =some y:=⟨_,List.getElem?_eq_getElem (by rw [h1.len,<-h2];exact hil)⟩;obtain ⟨s,e,_⟩:=Oq (h3 i cs y hi hy);exact ⟨(y.1,s),e⟩
  clear h2 h3 h4
  induction css with
  |nil=>exact ⟨[],rfl⟩
  |cons cs css ih=>
   obtain ⟨x,hx⟩:=this cs List.mem_cons_self;obtain ⟨xs,hxs⟩:=ih fun y hy=>this y (List.mem_cons_of_mem _ hy);exact ⟨x::xs,by rw [hx,hxs];rfl⟩
 obtain ⟨ys,rfl⟩:=hx;exact ⟨a,n,c,ys,rfl,h1,h2,h3,h4⟩
section
variable {k:IntKind} {a:Option Addr} {n c:Nat} {ys:List (Int × SX)} {TL:List (Int × List Int)} {w:World} {A:Nat->Prop} {v:Value}
theorem Ft.len (h:(Ft k a n c ys TL).at_ w A v):TL.length=n/\ys.length=n:=by
 have h1:L8 (RO k) w A a n c TL (Kh k ys):=h;exact ⟨h1.base.len,by simpa [Kh] using h1.cl⟩
theorem Ft.get (h:(Ft k a n c ys TL).at_ w A v) {i:Nat} {y:Int × SX} {x:Int × List Int} (hy:ys[i]? =some y) (hx:TL[i]? =some x):y.1=x.1/\AS k x.1/\Br (A8 .u64) w A y.2.a y.2.n y.2.c x.2:=by
 have h1:L8 (RO k) w A a n c TL (Kh k ys):=h;obtain ⟨s,e,h2,h3⟩:=Oq (h1.at_ i [.int k y.1,y.2.v] x (by unfold Kh;rw [List.getElem?_map,hy];rfl) hx);obtain ⟨y1,⟨ya,yn,yc⟩⟩:=y;obtain ⟨sa,sn,sc⟩:=s;simp only [List.cons.injEq,Value.int.injEq,Value.slice.injEq,and_true,true_and] at e;obtain ⟨e1,rfl,rfl,rfl⟩:=e;exact ⟨e1,h2,h3⟩
theorem Ft.addr (h:(Ft k a n c ys TL).at_ w A v) (hn:0 < n):∃ b off,a=some ⟨b,off,none⟩:=by
 have h1:L8 (RO k) w A a n c TL (Kh k ys):=h;obtain ⟨b,off,e,_⟩:=h1.sl.get hn;exact ⟨b,off,e⟩
theorem Ri {i j:Nat} {y:Int × SX} {u:Value} (hy:ys[i]? =some y) (hu:[Value.int k y.1,y.2.v][j]? =some u):(Kh k ys).flatten[i * 2 + j]? =some u:=by
 induction ys generalizing i with
 |nil=>simp at hy
 |cons z zs ih=>
  cases i with
  |zero=>
   rw [List.getElem?_cons_zero] at hy;cases hy;show ([Value.int k y.1,y.2.v] ++ (Kh k zs).flatten)[0 * 2 + j]? =_;rw [Nat.zero_mul,Nat.zero_add,List.getElem?_append_left (List.getElem?_eq_some_iff.1 hu).1];exact hu
  |succ i=>
   rw [List.getElem?_cons_succ] at hy;show ([Value.int k z.1,z.2.v] ++ (Kh k zs).flatten)[(i + 1) * 2 + j]? =_;rw [List.getElem?_append_right (by show 2 <= _;omega),show (i + 1) * 2 + j - [Value.int k z.1,z.2.v].length=i * 2 + j from by show (i + 1) * 2 + j - 2=_;omega];exact ih hy
end
theorem Ft.cell {k:IntKind} {b off n c:Nat} {ys:List (Int × SX)} {TL:List (Int × List Int)} {w:World} {A:Nat->Prop} {v:Value} (h:(Ft k (some ⟨b,off,none⟩) n c ys TL).at_ w A v) {i j:Nat} {y:Int × SX} {u:Value} (hy:ys[i]? =some y) (hu:[Value.int k y.1,y.2.v][j]? =some u):w.cell? ⟨b,off + i * 2 + j,none⟩=some u:=by
 have h1:L8 (RO k) w A (some ⟨b,off,none⟩) n c TL (Kh k ys):=h;have hl:=(Ft.len h).2;have:=(List.getElem?_eq_some_iff.1 hy).1;rw [Nat.add_assoc];exact h1.sl.at_ (by omega) (Ri hy hu)
abbrev DX (ql:List (Int × Int)):List Value:=(ql.map EV).flatten
theorem Wr (ql:List (Int × Int)):∀ u ∈ DX ql,u.oneCell'=true:=by
 intro u hu;obtain ⟨c,hc,hu⟩:=List.mem_flatten.1 hu;obtain ⟨x,_,rfl⟩:=List.mem_map.1 hc;simp only [EV,List.mem_cons,List.not_mem_nil,or_false] at hu
 rcases hu with rfl |rfl<;>rfl
theorem Gt (ql:List (Int × Int)) (x:Int × Int):DX (ql ++ [x])=DX ql ++ EV x:=by
 unfold DX;rw [List.map_append,List.flatten_append];simp
theorem IV {w:World} {e:TypeId} {c:Nat} {a:Option Addr} {ql:List (Int × Int)} {F:Nat->Prop} (h:(Si e 2 ql.length (DX ql)).at_ w F (.slice a ql.length c)) (hok:∀ x ∈ ql,Vi x):Br Em w F a ql.length c ql:=by
 obtain ⟨h1,h2⟩:=h;obtain ⟨A',C',e',h3,h4⟩:=Gj h1;cases e';refine .of_flat EN rfl h3 h4 (fun ha=>?_) (KS h1) hok (fun hn=>?_)
 ·obtain ⟨_,⟨h5,h6⟩ |⟨g,off,cap,cur,h5,_⟩⟩:=h1
  ·injection h5 with _ _ e3
   exact ⟨h6,e3⟩
  ·cases h5;cases ha
 ·obtain ⟨_,⟨h5,h6⟩ |⟨g,off,cap,cur,h5,_⟩⟩:=h1
  ·omega
  ·cases h5;exact ⟨g,off,rfl,h2 g rfl⟩
structure UZ where
 s:Bo
 ql:List (Int × Int)
 last:Int
 now:Int
abbrev XY (sb xb:Nat) (p:UZ) (qa:Option Addr) (qc:Nat):Obj:=.cells ⟨[AF sb,AF xb,.slice qa p.ql.length qc,.int .u64 p.last,.int .i64 p.now]⟩ 45 (0,0)
abbrev qE (F:Nat->Prop) (qa:Option Addr) (qc:Nat) (ql:List (Int × Int)):HE:=.rep (fun w=>(Si 64 2 ql.length (DX ql)).at_ w F (.slice qa ql.length qc)) F true
abbrev Qr (pb sb xb:Nat) (p:UZ) (qa:Option Addr) (qc:Nat) (F1 F2 Fq:Nat->Prop):OL:=[.blk pb (XY sb xb p qa qc) true,.rep (fun w=>(Io sb p.s).at_ w F1 (.bool true)) F1 true,.rep (fun w=>(JL xb p.s).at_ w F2 (.bool true)) F2 true,qE Fq qa qc p.ql]
section
variable {n:Nat} {w0:World} {all:Array Oper} {os:List Oper} {o:Oper} {l:FL} {ol:OL} {K:FL->OL->Prop} {Q:B3} {d sb:Nat} {s:Bo} {F:Nat->Prop}
theorem UG (i:Nat) {now:Int} {qa:Option Addr} {qn qc:Nat} (ql:List (Int × Int)) (hs:BL n all (AP l) o=some (d,32,[AF sb,.int .i64 now,.slice qa qn qc])) (hi:B9 ol i=some (.rep (fun w=>(JL sb s).at_ w F (.bool true)) F true)) (hN:∀ k,F k->w0.heap.size <= k)
 (hq:∀ w,Hp w0 w ol->PU w F qa qn qc ql) (hnow:0 <= now/\now <= 1152921504606846976) (hqz:∀ x ∈ ql,0 <= x.2/\x.2 <= 1099511627776) (hqs:(ql.map (·.1)).Pairwise (· < ·)) (hb1:(Aw s.gs).length + qn <= 60000) (hb2:s.gs.length + qn < 59999) (hb3:s.last + (qn:Int) + 1 <= 1099511627776) (htr:∀ g ∈ s.gs,g.tries < 1099511627776) (hstr:s.tr < 1099511627776)
 (k:∀ (v:Value) (Fv F':Nat->Prop),(∀ k,Fv k->w0.heap.size <= k)->(∀ k,F' k->w0.heap.size <= k)->∃ ol',Dc ol i (.rep (fun w=>(JL sb (s.tick now ql)).at_ w F' (.bool true)) F' true)=some ol'/\S Tryz.prog n w0 all os ((d,v)::l) (.rep (fun w=>(Hc.vp (s.told now ql)).at_ w Fv v) Fv false::ol') K Q):S Tryz.prog n w0 all (o::os) l ol K Q:=
 A7 hs Tryz.call32 fun w g=>by
  obtain ⟨A0,h1,h2⟩:=hq w g
  exact (SK (g.own _ (Af hi)).1 (g.own _ (Af hi)).2.2 hnow h1 h2 hqz hqs hb1 hb2 hb3 htr hstr).mono fun e w' ⟨v,Fv,F',he,hv,g1,g2,g3⟩=>by
   obtain ⟨ol',e1,e2⟩:=k v Fv F' (fun j hj=>Nat.le_trans g.size (hv j hj)) (fun j hj=>(g2 j hj).elim (hN j) (Nat.le_trans g.size));exact ⟨_,_,he,g.graftTV i hi g3 hv g1 g2 e1,e2⟩
end
section
variable {w0 w:World} {rest:OL} {pb sb xb qc:Nat} {p:UZ} {qa:Option Addr} {F1 F2 Fq:Nat->Prop}
set_option maxHeartbeats 8000000 in
theorem Ov (h:Hp w0 w (Qr pb sb xb p qa qc F1 F2 Fq ++ rest)) (hN1:∀ k,F1 k->w0.heap.size <= k) (hN2:∀ k,F2 k->w0.heap.size <= k) {N M:Nat} (hsb:FN N p.s) (hN:N <= 100000) (hqb:QB M p.ql p.last) (hM:M <= 80) (hnow:0 <= p.now/\p.now <= 1152921504606846976):
 Calls Tryz.prog 13 #[AF pb] w fun e w'=>∃ (v:Value) (Fv F1' F2':Nat->Prop),e= .returned (.tuple #[v,.bool true])/\(∀ k,Fv k->w0.heap.size <= k)/\(∀ k,F1' k->w0.heap.size <= k)/\(∀ k,F2' k->w0.heap.size <= k)/\
  Hp w0 w' (.rep (fun w=>(Ik.vp (p.s.told p.now p.ql)).at_ w Fv v) Fv false::(Qr pb sb xb ⟨p.s.tick p.now p.ql,p.ql,p.last,p.now⟩ qa qc F1' F2' Fq ++ rest)):=by
 obtain ⟨s,ql,last,now⟩:=p;dsimp only at hsb hqb hnow ⊢;have hok:=hqb.ok (by omega)
 have hqz:∀ x ∈ ql,0 <= x.2/\x.2 <= 1099511627776:=fun x hx=>by have:=hqb.sz x hx;omega
 have hql:=hqb.len;have hnums:=hsb.nums;have hlast:=hsb.last
 have htr:∀ g ∈ s.gs,g.tries < 1099511627776:=fun g hg=>by have:=hsb.tries g hg;omega
 have hstr:s.tr < 1099511627776:=by have:=hsb.tr;omega
 refine E6 Tryz.func13 rfl rfl h ?_;refine EY (fun w1 g1=>(show Ep s/\C7 s.last s.gs/\Jt s.gs from UP (g1.own _ (Af (i:=2) rfl)).1)) (fun ⟨hsok,hbok,hbne⟩=>?_);have hgl:=OK hbne;repeat (first |refine Ai ?_ |refine Ab ?_ |refine Aq ?_ |refine Ag ?_ |refine Ae Aa rfl ?_ |refine An Aa 0 rfl rfl rfl ?_)
 refine AM (ι:=Nat × Option Addr × Nat) (fun q=>[(0,AF pb),(14,.slice qa ql.length qc),(15,.int .i64 (ql.length:Int)),(16,.int .i64 (q.1:Int)),(4,.slice q.2.1 q.1 q.2.2)])
  (fun q=>.row w0.heap.size (.slice q.2.1 q.1 q.2.2) 90 2 q.1 (DX (ql.take q.1))::(Qr pb sb xb ⟨s,ql,last,now⟩ qa qc F1 F2 Fq ++ rest)) (fun q=>q.1 <= ql.length) (fun q=>ql.length - q.1) (0,none,0) (Nat.zero_le _) (by repeat (first |exact As.nil |refine As.cons rfl ?_)) (fun w' hw=>hw.nilRow _ _) ?_
 rintro ⟨i,a4,c4⟩ hi;dsimp only at hi ⊢;repeat (first |refine Ai ?_ |refine Ab ?_ |refine Ag ?_ |refine Ae Aa rfl ?_)
 refine Ak rfl (fun hlt=>?_) (fun hge=>?_)
 ·have hi':i < ql.length:=by omega
  refine EY (X:=∃ b off,qa=some ⟨b,off,none⟩) (fun w1 g1=>by
   obtain ⟨b,off,cs,e,_⟩:=(IV (g1.own _ (Af (i:=4) rfl)).1 hok).get_ hi'
   exact ⟨b,off,e⟩) (fun ⟨ab,off,hqe⟩=>?_)
  subst hqe;repeat (first |refine Ai ?_ |refine Ab ?_ |refine Aq ?_ |refine Ad ?_ |refine Ao ?_)
  refine BE (Bs (sz:=2) Aa rfl rfl rfl rfl rfl rfl rfl rfl (j:=i) (by omega)) ?_;refine BR Aa (vs:=EV ql[i]) rfl rfl rfl (fun w' hw=>DF (IV (hw.own _ (Af (i:=4) rfl)).1 hok) hi') ?_;refine AY Aa rfl (fun b6 hb6=>?_);repeat (first |refine Ag ?_ |refine Ae Aa rfl ?_ |refine Ap ?_ |refine An Aa 0 rfl rfl rfl ?_ |refine Ax Aa 0 rfl rfl rfl rfl rfl rfl ?_)
  refine AO Aa rfl rfl rfl rfl rfl rfl rfl rfl rfl rfl rfl rfl (fun b22 hb22=>?_)
  refine AT (ty:=0) Aa 2 (k:=1) (news:=EV ql[i]) rfl rfl rfl rfl rfl rfl rfl rfl rfl (by decide) (fun w' hw=>Sl.of_blk (hw.own _ (Af (i:=0) rfl)) rfl (fun j u hu=>by rw [Nat.zero_add];exact hu)) (fun u hu=>by
   simp only [EV,List.mem_cons,List.not_mem_nil,or_false] at hu
   rcases hu with rfl |rfl<;>rfl) (by simp only [maxLen];omega) (by show (_ + _) * 16 <= _;omega) rfl (fun A1 C1 hc3 hd3=>⟨_,rfl,?_⟩)
  rw [<-Gt,<-List.take_succ_eq_append_getElem hi'];repeat (first |refine Ab ?_ |refine Ag ?_ |refine Ad ?_ |refine Am ?_ |refine AD Aa rfl (by omega) ?_ |refine Ae Aa rfl ?_)
  exact ⟨(i + 1,A1,C1),hi',(by repeat (first |exact As.nil |refine As.cons rfl ?_)),fun w' hw=>hw.less (by repeat (first |refine Au.keep ?_ |refine Au.dropB (by first |assumption |omega) ?_ |exact Bp _)),by dsimp only;omega⟩
 have hie:i=ql.length:=by omega
 subst hie;rw [List.take_length];repeat (first |refine Ai ?_ |refine Ad ?_ |refine AB ?_ |refine Al ?_ |refine AH ?_)
 refine OU (by kernel_rfl) (by kernel_rfl) [12,22,23,24] (by kernel_rfl) (by kernel_rfl) (by kernel_rfl) [.blk pb (XY sb xb ⟨s,ql,last,now⟩ qa qc) false] (CF DQ)
  [some (AF pb),some (.pointer (some ⟨pb,0,none⟩)),some (.pointer (some ⟨pb,0 + 0,none⟩)),some (AF sb),some (AF pb),some (.pointer (some ⟨pb,0,none⟩)),some (.pointer (some ⟨pb,0 + 4,none⟩)),some (.int .i64 now),some (AF pb),some (.pointer (some ⟨pb,0,none⟩)),some (.pointer (some ⟨pb,0 + 2,none⟩)),some (.slice qa ql.length qc),none,
   some (AF pb),some (.pointer (some ⟨pb,0,none⟩)),some (.pointer (some ⟨pb,0 + 1,none⟩)),some (AF xb),some (AF pb),some (.pointer (some ⟨pb,0,none⟩)),some (.pointer (some ⟨pb,0 + 4,none⟩)),some (.int .i64 now),some (.slice a4 ql.length c4),none,none,none]
  ⟨.inr ⟨_,_,rfl,rfl,fun w f=>Ah Aa rfl Aj⟩,.inr ⟨_,_,rfl,rfl,fun w f=>Ah Aa rfl Aj⟩,.inr ⟨_,_,rfl,rfl,fun w f=>Ah Aa rfl Aj⟩,.inr ⟨_,_,rfl,rfl,fun w f=>AE Aa 0 rfl rfl rfl Aj⟩,.inr ⟨_,_,rfl,rfl,fun w f=>Ah Aa rfl Aj⟩,.inr ⟨_,_,rfl,rfl,fun w f=>Ah Aa rfl Aj⟩,.inr ⟨_,_,rfl,rfl,fun w f=>Ah Aa rfl Aj⟩,.inr ⟨_,_,rfl,rfl,fun w f=>AE Aa 0 rfl rfl rfl Aj⟩,.inr ⟨_,_,rfl,rfl,fun w f=>Ah Aa rfl Aj⟩,.inr ⟨_,_,rfl,rfl,fun w f=>Ah Aa rfl Aj⟩,.inr ⟨_,_,rfl,rfl,fun w f=>Ah Aa rfl Aj⟩,.inr ⟨_,_,rfl,rfl,fun w f=>AE Aa 0 rfl rfl rfl Aj⟩,.inl rfl,.inr ⟨_,_,rfl,rfl,fun w f=>Ah Aa rfl Aj⟩,.inr ⟨_,_,rfl,rfl,fun w f=>Ah Aa rfl Aj⟩,.inr ⟨_,_,rfl,rfl,fun w f=>Ah Aa rfl Aj⟩,.inr ⟨_,_,rfl,rfl,fun w f=>AE Aa 0 rfl rfl rfl Aj⟩,.inr ⟨_,_,rfl,rfl,fun w f=>Ah Aa rfl Aj⟩,.inr ⟨_,_,rfl,rfl,fun w f=>Ah Aa rfl Aj⟩,.inr ⟨_,_,rfl,rfl,fun w f=>Ah Aa rfl Aj⟩,.inr ⟨_,_,rfl,rfl,fun w f=>AE Aa 0 rfl rfl rfl Aj⟩,.inr ⟨_,_,rfl,rfl,fun w f=>Ah Aa rfl Aj⟩,.inl rfl,.inl rfl,.inl rfl,trivial⟩ ?_
 refine FY [(28,AF sb),(32,.int .i64 now),(36,.slice qa ql.length qc)] (AL 1 rfl AV) rfl (.cons rfl rfl (.cons rfl rfl (.cons rfl rfl .nil))) ?_;refine WE 2 ql rfl rfl hN1 (fun w1 g1=>⟨Fq,IV (g1.own _ (Af (i:=4) rfl)).1 hok,fun k hk hF=>g1.dis 4 2 rfl rfl rfl rfl hk hF⟩) hnow hqz (show (Aw s.gs).length + ql.length <= 60000 by omega) (show s.gs.length + ql.length < 59999 by omega) (show s.last + (ql.length:Int) + 1 <= 1099511627776 by omega) htr hstr (fun v1 Fv1 G1 hFv1 hG1=>⟨_,rfl,?_⟩);refine Ag ⟨_,rfl,(fun u h=>by cases h),?_⟩;refine FY [(41,AF xb),(45,.int .i64 now),(46,.slice a4 ql.length c4)] (AL 2 rfl AV) rfl (.cons rfl rfl (.cons rfl rfl (.cons rfl rfl .nil))) ?_;refine UG 4 ql rfl rfl hN2 (fun w1 g1=>⟨fun k=>(Value.slice a4 ql.length c4).ownBlock=some k,Br.of_row EN (g1.own (.row w0.heap.size (.slice a4 ql.length c4) 90 2 ql.length (DX ql)) (Af (i:=1) rfl)) rfl hok (fun k _ hk=>hk),fun k hk hF=>g1.dis 1 4 rfl rfl rfl rfl hk hF⟩) hnow hqz hqb.srt (show (Aw s.gs).length + ql.length <= 60000 by omega) (show s.gs.length + ql.length < 59999 by omega) (show s.last + (ql.length:Int) + 1 <= 1099511627776 by omega) htr hstr (fun v2 Fv2 G2 hFv2 hG2=>⟨_,rfl,?_⟩);refine Ag ⟨_,rfl,(fun u h=>by cases h),?_⟩;refine FY [(37,v1)] (AL 3 rfl AV) rfl (.cons rfl rfl .nil) ?_;refine Ae Aa rfl ?_;refine Ag ⟨_,rfl,(fun u h=>by cases h),?_⟩;refine FY [(47,v2)] (AL 3 rfl AV) rfl (.cons rfl rfl .nil) ?_;refine Ae Aa rfl ?_;refine Ag ⟨_,rfl,(fun u h=>by cases h),?_⟩
 refine R3 [(0,AF pb),(7,v1),(8,v2)] (AL 3 rfl AV) (by repeat (first |exact Bc.nil |refine Bc.cons rfl ?_)) ?_;obtain ⟨TL,hTL⟩:∃ TL,TL=s.told now ql:=⟨_,rfl⟩;obtain ⟨s',hs'⟩:∃ s',s'=s.tick now ql:=⟨_,rfl⟩;rw [<-hTL,<-hs']
 refine M6 (ι:=(Option Addr × Nat × List (Int × SX)) × (Option Addr × Nat × List (Int × SX))) (fun q=>(v1= .slice q.1.1 TL.length q.1.2.1/\q.1.2.2.length=TL.length)/\(v2= .slice q.2.1 TL.length q.2.2.1/\q.2.2.2.length=TL.length))
  (fun q=>.rep (fun w=>(Ft .i64 q.2.1 TL.length q.2.2.1 q.2.2.2 TL).at_ w Fv2 (.bool true)) Fv2 false::.rep (fun w=>(Ft .u8 q.1.1 TL.length q.1.2.1 q.1.2.2 TL).at_ w Fv1 (.bool true)) Fv1 false::(Qr pb sb xb ⟨s',ql,last,now⟩ qa qc G1 G2 Fq ++ rest)) (fun w' hw=>?_) ?_
 ·obtain ⟨a1,n1,c1,y1,e1,h1⟩:=U7 (k:=.u8) (hw.own _ (Af (i:=1) rfl)).1;obtain ⟨a2,n2,c2,y2,e2,h2⟩:=U7 (k:=.i64) (hw.own _ (Af (i:=0) rfl)).1;obtain ⟨rfl,l1⟩:=Ft.len h1;obtain ⟨l3,l2⟩:=Ft.len h2;subst l3;refine ⟨((a1,c1,y1),(a2,c2,y2)),⟨⟨e1,l1⟩,e2,l2⟩,?_⟩;have g1:=hw.mapI 0 rfl (Ψ:=fun w=>(Ft .i64 a2 TL.length c2 y2 TL).at_ w Fv2 (.bool true)) (fun _=>h2) (Vp.loc (p:=Ft _ _ _ _ _ _)) rfl;have g2:=g1.mapI 1 rfl (Ψ:=fun w=>(Ft .u8 a1 TL.length c1 y1 TL).at_ w Fv1 (.bool true)) (fun _=>h1) (Vp.loc (p:=Ft _ _ _ _ _ _)) rfl;exact g2.less (by repeat (first |refine Au.keep ?_ |refine Au.dropW (Nat.le_refl _) ?_ |exact Bp _))
 rintro ⟨⟨a1,c1,y1⟩,⟨a2,c2,y2⟩⟩ ⟨⟨rfl,hy1⟩,rfl,hy2⟩;dsimp only at hy1 hy2 ⊢;repeat (first |refine Ai ?_ |refine Ab ?_ |refine Ag ?_ |refine Ae Aa rfl ?_)
 refine Ak rfl (fun h=>absurd rfl h) (fun _=>?_);repeat (first |refine Ai ?_ |refine Ab ?_ |refine Aq ?_ |refine Ag ?_ |refine Ad ?_ |refine Ao ?_ |refine Ae Aa rfl ?_)
 refine AM (ι:=Nat) (fun i=>[(0,AF pb),(7,.slice a1 TL.length c1),(8,.slice a2 TL.length c2),(53,.slice a1 TL.length c1),(54,.int .i64 (TL.length:Int)),(55,.int .i64 (i:Int))])
  (fun _=>.rep (fun w=>(Ft .i64 a2 TL.length c2 y2 TL).at_ w Fv2 (.bool true)) Fv2 false::.rep (fun w=>(Ft .u8 a1 TL.length c1 y1 TL).at_ w Fv1 (.bool true)) Fv1 false::(Qr pb sb xb ⟨s',ql,last,now⟩ qa qc G1 G2 Fq ++ rest)) (fun i=>i <= TL.length) (fun i=>TL.length - i) 0 (Nat.zero_le _) (by repeat (first |exact As.nil |refine As.cons rfl ?_)) (fun w' hw=>hw) ?_
 intro i hi;repeat (first |refine Ai ?_ |refine Ab ?_ |refine Ag ?_ |refine Ae Aa rfl ?_)
 refine Ak rfl (fun hlt=>?_) (fun hge=>?_);rotate_left
 ·have hie:i=TL.length:=by omega
  subst hie;repeat (first |refine Ai ?_ |refine Ab ?_ |refine Ag ?_ |refine Ad ?_ |refine AB ?_ |refine Al ?_ |refine AC ?_ |refine AH ?_ |refine Ae Aa rfl ?_)
  refine Ey rfl rfl rfl (fun w' hw=>?_);have g1:=hw.mapI 1 rfl (Ψ:=fun w=>(Ik.vp TL).at_ w Fv1 (.slice a1 TL.length c1)) (fun h=>(L8.base (show L8 (RO .u8) _ _ _ _ _ _ _ from h)).val) (Vp.loc (p:=Ik.vp TL)) rfl;exact ⟨_,Fv1,G1,G2,rfl,hFv1,hG1,hG2,g1.less (by repeat (first |refine Au.keep ?_ |refine Au.dropR ?_ |exact Bp _))⟩
 have hi':i < TL.length:=by omega
 obtain ⟨x,hx⟩:∃ x,TL[i]? =some x:=⟨_,List.getElem?_eq_getElem hi'⟩;obtain ⟨y,hy⟩:∃ y,y1[i]? =some y:=⟨_,List.getElem?_eq_getElem (by omega)⟩;obtain ⟨z,hz⟩:∃ z,y2[i]? =some z:=⟨_,List.getElem?_eq_getElem (by omega)⟩
 refine EY (X:=((∃ b off,a1=some ⟨b,off,none⟩)/\∃ b off,a2=some ⟨b,off,none⟩)/\(y.1=x.1/\AS .u8 x.1)/\z.1=x.1/\y.2.n <= maxLen/\TL.length <= maxLen) (fun w1 g1=>by
  have o1:=(g1.own _ (Af (i:=1) rfl)).1;have o2:=(g1.own _ (Af (i:=0) rfl)).1;obtain ⟨e1,e2,e3⟩:=Ft.get o1 hy hx;obtain ⟨e4,_,_⟩:=Ft.get o2 hz hx
  exact ⟨⟨Ft.addr o1 (by omega),Ft.addr o2 (by omega)⟩,⟨e1,e2⟩,e4,e3.maxn,(L8.base (show L8 (RO .u8) _ _ _ _ _ _ _ from o1)).maxn⟩) (fun ⟨⟨⟨b1,o1,e1⟩,⟨b2,o2,e2⟩⟩,⟨hyx,hfx⟩,hzx,hym,hTm⟩=>?_)
 simp only [maxLen] at hTm;subst e1 e2;have hfx':=Dv hfx;repeat (first |refine Ai ?_ |refine Ab ?_ |refine Aq ?_ |refine Ad ?_ |refine Ao ?_ |refine Ae Aa rfl ?_)
 refine BE (Bs (sz:=2) Aa rfl rfl rfl rfl rfl rfl rfl (j:=i) rfl hi') ?_
 refine BR Aa (vs:=[.int .u8 y.1,y.2.v]) rfl rfl rfl (fun w' hw j u hu=>by
  rw [Addr.add_lit]
  exact Ft.cell (hw.own _ (Af (i:=1) rfl)).1 hy hu) ?_
 refine AY Aa rfl (fun b10 hb10=>?_);repeat (first |refine A5 (by kernel_rfl) (by kernel_rfl) ?_ |refine BD Aa rfl (by omega) ?_ |refine Ah Aa rfl ?_ |refine AE Aa 0 rfl rfl rfl ?_ |refine Ai ?_ |refine Ag ?_ |refine Ae Aa rfl ?_ |refine Ax Aa 0 rfl rfl rfl rfl rfl rfl ?_)
 refine Bx (Bs (sz:=2) Aa rfl rfl rfl rfl rfl rfl rfl (j:=i) rfl hi') ?_;repeat (first |refine Ah Aa rfl ?_)
 refine Av Aa (v:=.int .i64 z.1) rfl rfl (fun w' hw=>Ft.cell (hw.own _ (Af (i:=1) rfl)).1 hz (j:=0) rfl) ?_;repeat (first |refine Ah Aa rfl ?_)
 refine BX 69 (v':=.bool false) rfl (congrArg Value.bool (decide_eq_false fun h=>h (by rw [hyx,hzx]))) ?_;repeat (first |refine Ah Aa rfl ?_ |refine AE Aa 0 rfl rfl rfl ?_)
 refine Bx (Bs (sz:=2) Aa rfl rfl rfl rfl rfl rfl rfl (j:=i) rfl hi') ?_;repeat (first |refine Ah Aa rfl ?_)
 refine Av Aa (v:=z.2.v) rfl rfl (fun w' hw=>Ft.cell (hw.own _ (Af (i:=1) rfl)).1 hz (j:=1) rfl) ?_
 refine Bi (v:=.bool true) rfl Tryz.call25 (fun w' vs hw' h=>by
  obtain ⟨u1,_,rfl,rfl,u2,_,rfl,rfl,rfl⟩:=h;have r1:=(Ft.get (hw'.own _ (Af (i:=2) rfl)).1 hy hx).2.2;have r2:=(Ft.get (hw'.own _ (Af (i:=1) rfl)).1 hz hx).2.2;rw [show Value.bool true=Value.bool (decide (x.2=x.2)) from congrArg Value.bool (decide_eq_true rfl).symm]
  exact Kc y.2.a z.2.a y.2.n y.2.c z.2.n z.2.c x.2 x.2 w' r1.ints.sl r2.ints.sl hym) ?_
 repeat (first |refine AN rfl ?_ |refine Ah Aa rfl ?_)
 refine AG rfl ?_;repeat (first |refine Ab ?_ |refine Ag ?_ |refine Ad ?_ |refine Am ?_ |refine Ao ?_ |refine AD Aa rfl (by omega) ?_ |refine Ae Aa rfl ?_)
 exact ⟨i + 1,hi',(by repeat (first |exact As.nil |refine As.cons rfl ?_)),fun w' hw=>hw.less (by repeat (first |refine Au.keep ?_ |refine Au.dropB (by first |assumption |omega) ?_ |exact Bp _)),by omega⟩
end
structure Ac where
 d:Int
 la:Int
 x:Fm
 nn:Int
 sz:Int
 ra:Option Addr
 rn:Nat
 rc:Nat
abbrev Ac.cs (y:Ac):List Value:=[.int .u8 y.d,.int .u8 y.la,.int .u8 y.x.k,.int .i64 y.x.ag,.int .u64 y.x.ep,.int .u64 y.x.inc,.int .u64 y.x.base,.int .u64 y.x.cum,.int .u64 y.x.lim,.slice y.x.ra y.x.rn y.x.rc,.slice y.x.xa y.x.xn y.x.xc,.int .u8 y.nn,.int .u16 y.sz,.slice y.ra y.rn y.rc]
structure QJ (M j:Nat) (ql:List (Int × Int)) (last:Int):Prop where
 srt:(ql.map (·.1)).Pairwise (· < ·)
 le:∀ x ∈ ql,0 <= x.1/\x.1 <= last
 sz:∀ x ∈ ql,0 <= x.2/\x.2 <= 4112
 len:ql.length <= M * 11 + j
 last:0 <= last/\last <= (M:Int) * 22 + 2 * (j:Int)
structure G7 (ql:List (Int × Int)) (last:Int) (ql':List (Int × Int)) (last':Int):Prop where
 le:last <= last'
 mem:∀ x ∈ ql',x ∈ ql \/ last < x.1
theorem G7.sub {ql ql':List (Int × Int)} {last:Int} (h:ql'.Sublist ql):G7 ql last ql' last:=⟨Int.le_refl _,fun x hx=>.inl (h.subset hx)⟩
theorem G7.step {ql ql1:List (Int × Int)} {last last1 n z:Int} (h:G7 ql last ql1 last1) (hn:last1 < n):G7 ql last (ql1 ++ [(n,z)]) n:=⟨by have:=h.le;omega,fun x hx=>by
 rcases List.mem_append.1 hx with hx |hx
 ·exact h.mem x hx
 ·rw [List.mem_singleton] at hx;subst hx;have:=h.le
  exact .inr (by show last < n;omega)⟩
theorem QJ.of {M:Nat} {ql:List (Int × Int)} {last:Int} (h:QB M ql last):QJ M 0 ql last:=⟨h.srt,h.le,h.sz,h.len,by have:=h.last;omega⟩
theorem QJ.qb {M j:Nat} {ql:List (Int × Int)} {last:Int} (h:QJ M j ql last) (hj:j <= 11):QB (M + 1) ql last:=⟨h.srt,h.le,h.sz,by have:=h.len;omega,by have:=h.last;omega⟩
theorem QJ.step {M j:Nat} {ql:List (Int × Int)} {last n z:Int} (h:QJ M j ql last) (hn:last < n/\n <= last + 2) (hz:0 <= z/\z <= 4112):QJ M (j + 1) (ql ++ [(n,z)]) n:=by
 have h1:=h.last;refine ⟨?_,fun x hx=>?_,fun x hx=>?_,?_,by omega⟩
 ·rw [List.map_append,List.pairwise_append];refine ⟨h.srt,List.pairwise_singleton _ _,fun a ha b hb=>?_⟩;obtain ⟨y,hy,rfl⟩:=List.mem_map.1 ha
  have hb2:b=n:=by simpa using hb
  have:=h.le y hy;omega
 ·rcases List.mem_append.1 hx with hx |hx
  ·have:=h.le x hx;omega
  ·rw [List.mem_singleton] at hx;subst hx;dsimp only;omega
 ·rcases List.mem_append.1 hx with hx |hx
  ·exact h.sz x hx
  ·rw [List.mem_singleton] at hx;subst hx;exact hz
 ·rw [List.length_append];have:=h.len;show ql.length + 1 <= _;omega
theorem IY {w:World} {e:TypeId} {n c:Nat} {a:Option Addr} {xs:List Value} (h:FT w e 2 (.slice a n c) n xs) (hn:0 < n):FT w e 2 (.slice (if c=1 then a else a.map (·.add (1 * 2))) (n - 1) (c - 1)) (n - 1) (xs.drop 2)/\∀ k,(Value.slice (if c=1 then a else a.map (·.add (1 * 2))) (n - 1) (c - 1)).ownBlock=some k->(Value.slice a n c).ownBlock=some k:=by
 obtain ⟨h0,⟨_,h1⟩ |⟨g,off,cap,cur,h1,h2,h3,h4,h5,h6⟩⟩:=h
 ·omega
 ·cases h1;by_cases hc:c=1
  ·subst hc
   have hn1:n=1:=by omega
   subst hn1;rw [if_pos rfl];refine ⟨⟨by rw [List.length_drop,h0],.inr ⟨g,off,0,cur,rfl,h2,Nat.le_refl _,Nat.zero_le _,by omega,?_⟩⟩,fun k hk=>hk⟩
   have hx2:xs.length <= 2:=by rw [h0];exact Nat.le_refl _
   rw [List.drop_eq_nil_of_le hx2];simp
  ·rw [if_neg hc];refine ⟨⟨by rw [List.length_drop,h0];omega,.inr ⟨g,off + 2,c - 1,cur,by simp [Addr.add_lit],h2,by omega,by omega,by omega,?_⟩⟩,fun k hk=>hk⟩;rw [<-h6,List.drop_take,List.drop_drop];congr 1;omega
abbrev Mi (pb sb xb:Nat) (s:Bo) (ql:List (Int × Int)) (last now:Int) (qa:Option Addr) (qc:Nat) (F1 F2 Fq:Nat->Prop):OL:=[.blk pb (.cells ⟨[AF sb,AF xb,.slice qa ql.length qc,.int .u64 last,.int .i64 now]⟩ 45 (0,0)) true,.rep (fun w=>(Io sb s).at_ w F1 (.bool true)) F1 true,.rep (fun w=>(JL xb s).at_ w F2 (.bool true)) F2 true,qE Fq qa qc ql]
theorem Hp.rowQ {w0 w:World} {ol:OL} {v:Value} {e:TypeId} {sz n:Nat} {xs:List Value} (h:Hp w0 w (.row w0.heap.size v e sz n xs::ol)):Hp w0 w (.rep (fun w=>(Si e sz n xs).at_ w (fun k=>v.ownBlock=some k) v) (fun k=>v.ownBlock=some k) true::ol):=
 have o:=h.own _ (List.mem_cons_self (l:=ol) (a:=HE.row w0.heap.size v e sz n xs))
 ⟨h.os,h.tape,h.output,h.size,fun k hk he=>h.old k hk fun e' hm hx hh=>by
  rcases List.mem_cons.1 hm with rfl |hm
  ·exact he _ List.mem_cons_self rfl hh
  ·exact he e' (List.mem_cons_of_mem _ hm) hx hh,fun e' hm=>by
  rcases List.mem_cons.1 hm with rfl |hm
  ·exact ⟨⟨Ix o,fun k hk=>hk⟩,Vp.loc (p:=Si _ _ _ _),fun k hk=>(World.ownsRow.lt o k hk).2⟩
  ·exact h.own e' (List.mem_cons_of_mem _ hm),List.pairwise_cons.2 ⟨fun e' he hr k hk hk2=>(List.pairwise_cons.1 h.apart).1 e' he rfl k hk hk2,(List.pairwise_cons.1 h.apart).2⟩⟩
structure Yq where
 j:Nat
 ql:List (Int × Int)
 last:Int
 qa:Option Addr
 qc:Nat
 Fq:Nat->Prop
section
variable {w0 w:World} {rest:OL} {pb sb xb qc:Nat} {p:UZ} {qa:Option Addr} {F1 F2 Fq Fr:Nat->Prop}
set_option maxHeartbeats 16000000 in
theorem Pn {y:Ac} {rl:List BS} (h:Hp w0 w (Qr pb sb xb p qa qc F1 F2 Fq ++ .rep (fun w=>((Az Bg).vp rl).at_ w Fr (.slice y.ra y.rn y.rc)) Fr false::rest)) (hNq:∀ k,Fq k->w0.heap.size <= k) {M:Nat} (hqb:QB M p.ql p.last) (hM:M <= 80) (hd:AS .u8 y.d) (hnn:AS .u8 y.nn) (hsz:AS .u16 y.sz):
 Calls Tryz.prog 11 #[AF pb,.agg ⟨y.cs⟩] w fun e w'=>∃ (ql':List (Int × Int)) (last':Int) (qa':Option Addr) (qc':Nat) (Fq':Nat->Prop),e= .returned (.tuple #[])/\QB (M + 1) ql' last'/\G7 p.ql p.last ql' last'/\(∀ k,Fq' k->w0.heap.size <= k)/\
  Hp w0 w' (Qr pb sb xb ⟨p.s,ql',last',p.now⟩ qa' qc' F1 F2 Fq' ++ .rep (fun w=>((Az Bg).vp rl).at_ w Fr (.slice y.ra y.rn y.rc)) Fr false::rest):=by
 obtain ⟨s,ql,last,now⟩:=p;dsimp only at hqb ⊢;have hd':=Dv hd;have hnn':=Dv hnn;have hsz':=Gr hsz;have h':Hp w0 w (Mi pb sb xb s ql last now qa qc F1 F2 Fq ++ .rep (fun w=>((Az Bg).vp rl).at_ w Fr (.slice y.ra y.rn y.rc)) Fr false::rest):=h;refine GP Tryz.func11 rfl rfl h' ?_;repeat (first |refine Ai ?_ |refine Ab ?_)
 refine AY Aa rfl (fun b3 hb3=>?_);repeat (first |refine Ai ?_ |refine Ab ?_ |refine Ag ?_ |refine Ae Aa rfl ?_ |refine An Aa 0 rfl rfl rfl ?_)
 refine BE (Er rfl rfl rfl (by decide) hd'.1) ?_;repeat (first |refine Ai ?_ |refine Ab ?_ |refine Aq ?_ |refine Ag ?_ |refine Ae Aa rfl ?_)
 refine Ak rfl (fun h4=>?_) (fun h4=>?_)
 ·repeat (first |refine Ai ?_ |refine Ab ?_ |refine Ae Aa rfl ?_ |refine An Aa 0 rfl rfl rfl ?_)
  refine BE (Er rfl rfl rfl (by decide) hnn'.1) ?_;repeat (first |refine Aq ?_ |refine Ag ?_ |refine AD Aa rfl (by omega) ?_ |refine Ae Aa rfl ?_)
  obtain ⟨L,hL⟩:∃ L:Nat,y.nn % 12=(L:Int):=⟨(y.nn % 12).toNat,by omega⟩
  have hL11:L <= 11:=by omega
  rw [hL]
  refine AM (ι:=Yq) (fun q=>[(0,AF pb),(3,.pointer (some ⟨b3,0,none⟩)),(19,.int .i64 (L:Int)),(20,.int .i64 (q.j:Int))])
   (fun q=>.blk b3 (.cells ⟨y.cs⟩ 38 (0,0)) true::(Mi pb sb xb s q.ql q.last now q.qa q.qc F1 F2 q.Fq ++ .rep (fun w=>((Az Bg).vp rl).at_ w Fr (.slice y.ra y.rn y.rc)) Fr false::rest))
   (fun q=>q.j <= L/\QJ M q.j q.ql q.last/\G7 ql last q.ql q.last/\∀ k,q.Fq k->w0.heap.size <= k) (fun q=>L - q.j) ⟨0,ql,last,qa,qc,Fq⟩ ⟨Nat.zero_le _,QJ.of hqb,G7.sub (List.Sublist.refl _),hNq⟩ (by repeat (first |exact As.nil |refine As.cons rfl ?_)) (fun w' hw=>hw) ?_
  rintro ⟨j,ql1,last1,qa1,qc1,Fq1⟩ ⟨hj,hqj,hqu,hN1⟩;dsimp only at hj hqj hqu hN1 ⊢;have hla:=hqj.last;have hle:=hqj.len;repeat (first |refine Ai ?_ |refine Ab ?_ |refine Ag ?_ |refine Ae Aa rfl ?_)
  refine Ak rfl (fun hlt=>?_) (fun hge=>?_);rotate_left
  ·repeat (first |refine Am ?_ |refine AB ?_ |refine Al ?_ |refine AH ?_)
   exact CM rfl (fun w' hw=>⟨ql1,last1,qa1,qc1,Fq1,rfl,hqj.qb (by omega),hqu,hN1,hw.less (by repeat (first |refine Au.keep ?_ |refine Au.dropB (by first |assumption |omega) ?_ |exact Bp _))⟩)
  repeat (first |refine Ai ?_ |refine Ab ?_ |refine Aq ?_ |refine Ag ?_ |refine Ad ?_ |refine Ao ?_ |refine Ae Aa rfl ?_ |refine An Aa 1 rfl rfl rfl ?_)
  refine BE (Er rfl rfl rfl (by decide) (by omega)) ?_;repeat (first |refine Ag ?_ |refine D2 Aa rfl (by omega) ?_ |refine Ae Aa rfl ?_ |refine Ax Aa 1 rfl rfl rfl rfl rfl rfl ?_)
  have hj2:0 <= (j:Int) % 2/\(j:Int) % 2 <= 1:=by omega
  obtain ⟨r3,hr3⟩:∃ r3,r3=(j:Int) % 3:=⟨_,rfl⟩
  have hr3':0 <= r3/\r3 <= 2:=by omega
  have hmul:0 <= y.sz * r3/\y.sz * r3 <= 131070:=by
   have hc:r3=0 \/ r3=1 \/ r3=2:=by omega
   rcases hc with e |e |e<;>rw [e]<;>omega
  obtain ⟨nl,hnl⟩:∃ nl,nl=last1 + (1 + (j:Int) % 2):=⟨_,rfl⟩;rw [<-hnl];have hqs:=hqj.step (n:=nl) (z:=(y.sz * r3) % 4113) (by omega) (by omega);skip;refine Ca ?_
  refine OT (by kernel_rfl) (by kernel_rfl) [17,18,21] (by kernel_rfl) (by kernel_rfl) (by kernel_rfl) [.blk pb (.cells ⟨[AF sb,AF xb,.slice qa1 ql1.length qc1,.int .u64 nl,.int .i64 now]⟩ 45 (0,0)) false,.blk b3 (.cells ⟨y.cs⟩ 38 (0,0)) false] (CF (CF DQ))
   [some (AF pb),some (AF pb),some (.pointer (some ⟨pb,0,none⟩)),some (.pointer (some ⟨pb,0 + 2,none⟩)),some (.slice qa1 ql1.length qc1),some (AF pb),some (.pointer (some ⟨pb,0,none⟩)),some (.pointer (some ⟨pb,0 + 3,none⟩)),some (.int .u64 nl),some (.pointer (some ⟨b3,0 + 12,none⟩)),some (.int .u16 y.sz),some (.int .i64 y.sz),some (.int .i64 (j:Int)),some (.int .i64 ((j:Int) % 3)),some (.int .i64 (y.sz * ((j:Int) % 3))),some (.int .i64 ((y.sz * ((j:Int) % 3)) % 4113)),some (.agg ⟨EV (nl,(y.sz * ((j:Int) % 3)) % 4113)⟩),none,none,some (.pointer (some ⟨pb,0,none⟩)),some (.pointer (some ⟨pb,0 + 2,none⟩)),none]
   21 rfl (by kernel_rfl) ⟨.inr ⟨_,_,rfl,rfl,fun w f=>Ah Aa rfl Aj⟩,.inr ⟨_,_,rfl,rfl,fun w f=>Ah Aa rfl Aj⟩,.inr ⟨_,_,rfl,rfl,fun w f=>Ah Aa rfl Aj⟩,.inr ⟨_,_,rfl,rfl,fun w f=>Ah Aa rfl Aj⟩,.inr ⟨_,_,rfl,rfl,fun w f=>AE Aa 0 rfl rfl rfl Aj⟩,.inr ⟨_,_,rfl,rfl,fun w f=>Ah Aa rfl Aj⟩,.inr ⟨_,_,rfl,rfl,fun w f=>Ah Aa rfl Aj⟩,.inr ⟨_,_,rfl,rfl,fun w f=>Ah Aa rfl Aj⟩,.inr ⟨_,_,rfl,rfl,fun w f=>AE Aa 0 rfl rfl rfl Aj⟩,.inr ⟨_,_,rfl,rfl,fun w f=>Ah Aa rfl Aj⟩,.inr ⟨_,_,rfl,rfl,fun w f=>AE Aa 1 rfl rfl rfl Aj⟩,.inr ⟨_,_,rfl,rfl,fun w f=>BD Aa rfl (by omega) Aj⟩,.inr ⟨_,_,rfl,rfl,fun w f=>Ah Aa rfl Aj⟩,.inr ⟨_,_,rfl,rfl,fun w f=>Bx (Er rfl rfl rfl (by decide) (by omega)) Aj⟩,.inr ⟨_,_,rfl,rfl,fun w f=>BD Aa rfl (by rw [<-hr3];omega) Aj⟩,.inr ⟨_,_,rfl,rfl,fun w f=>Bx (Er rfl rfl rfl (by decide) (by rw [<-hr3];exact hmul.1)) Aj⟩,.inr ⟨_,_,rfl,rfl,fun w f=>Bx (Bf Aa rfl rfl rfl rfl rfl rfl rfl) Aj⟩,.inl rfl,.inl rfl,.inr ⟨_,_,rfl,rfl,fun w f=>Ah Aa rfl Aj⟩,.inr ⟨_,_,rfl,rfl,fun w f=>Ah Aa rfl Aj⟩,.inl rfl,trivial⟩ ?_
  rw [<-hr3];refine ED [(50,.agg ⟨EV (nl,(y.sz * r3) % 4113)⟩)] (AL 1 rfl (AL 0 rfl AV)) rfl (.cons rfl rfl .nil) ?_;refine AO Aa rfl rfl rfl rfl rfl rfl rfl rfl rfl rfl rfl rfl (fun b51 hb51=>?_);refine Ag ⟨_,rfl,(fun u h=>by cases h),?_⟩;refine ED [(38,.slice qa1 ql1.length qc1),(51,.slice (some ⟨b51,0,none⟩) 1 1)] (AL 2 rfl (AL 1 rfl AV)) rfl (.cons rfl rfl (.cons rfl rfl .nil)) ?_
  refine N4 (ty:=0) Aa 5 (k:=1) (news:=EV (nl,(y.sz * r3) % 4113)) rfl rfl rfl rfl rfl rfl rfl rfl rfl (by decide) (fun w' hw=>Sl.of_blk (hw.own _ (Af (i:=0) rfl)) rfl (fun j u hu=>by rw [Nat.zero_add];exact hu)) (fun u hu=>by
   simp only [EV,List.mem_cons,List.not_mem_nil,or_false] at hu
   rcases hu with rfl |rfl<;>rfl) (by simp only [maxLen];omega) (by show (_ + _) * 16 <= _;omega) (fun A2 C2 Fq2 hc3 hd3 hF2=>⟨_,rfl,?_⟩)
  refine Ag ⟨_,rfl,(fun u h=>by cases h),?_⟩;refine ED [(54,.pointer (some ⟨pb,0 + 2,none⟩)),(52,.slice A2 (ql1.length + 1) C2)] (AL 2 rfl (AL 1 rfl AV)) rfl (.cons rfl rfl (.cons rfl rfl .nil)) ?_;refine Ax Aa 2 rfl rfl rfl rfl rfl rfl ?_;refine Ag ⟨_,rfl,(fun u h=>by cases h),?_⟩;refine R1 [(0,AF pb),(3,.pointer (some ⟨b3,0,none⟩)),(19,.int .i64 (L:Int)),(20,.int .i64 (j:Int))] (by repeat (first |exact Bc.nil |refine Bc.cons rfl ?_)) ?_;repeat (first |refine Ab ?_ |refine Ag ?_ |refine Ad ?_ |refine Am ?_ |refine AD Aa rfl (by omega) ?_ |refine Ae Aa rfl ?_)
  have e1:(ql1 ++ [(nl,(y.sz * r3) % 4113)]).length=ql1.length + 1:=by rw [List.length_append];rfl
  refine ⟨⟨j + 1,ql1 ++ [(nl,(y.sz * r3) % 4113)],nl,A2,C2,Fq2⟩,⟨by show j + 1 <= L;omega,hqs,hqu.step (by omega),fun k hk=>(hF2 k hk).elim (hN1 k) id⟩,(by repeat (first |exact As.nil |refine As.cons rfl ?_)),fun w' hw=>?_,by show L - (j + 1) < L - j;omega⟩;dsimp only [Mi,qE];rw [e1,Gt];exact hw.less (by repeat (first |refine Au.keep ?_ |refine Au.dropB (by first |assumption |omega) ?_ |exact Bp _))
 ·repeat (first |refine Ai ?_ |refine Ab ?_ |refine Ag ?_ |refine Ae Aa rfl ?_)
  refine Ak rfl (fun h5=>?_) (fun h5=>?_)
  ·repeat (first |refine Ai ?_ |refine Ab ?_ |refine Ag ?_ |refine Ae Aa rfl ?_ |refine An Aa 1 rfl rfl rfl ?_)
   refine Ak rfl (fun h7=>?_) (fun h7=>?_)
   ·refine EY (X:=ql.length <= qc) (fun w1 g1=>by
     obtain ⟨_,_,e,h1,_⟩:=Gj (g1.own _ (Af (i:=4) rfl)).1.1;cases e
     exact h1) (fun hlc=>?_)
    repeat (first |refine Ae Aa rfl ?_ |refine Ap ?_ |refine An Aa 1 rfl rfl rfl ?_)
    refine BE (GA (L:=1) (sz:=2) Aa rfl rfl rfl rfl rfl rfl rfl rfl (by omega) hlc) ?_;repeat (first |refine Ag ?_ |refine Am ?_ |refine Ae Aa rfl ?_ |refine Ax Aa 1 rfl rfl rfl rfl rfl rfl ?_)
    refine CM rfl (fun w' hw=>⟨ql.drop 1,last,(if qc=1 then qa else qa.map (·.add (1 * 2))),qc - 1,Fq,rfl,(hqb.sub (List.drop_sublist 1 ql)).up (Nat.le_succ _),G7.sub (List.drop_sublist 1 ql),hNq,?_⟩);dsimp only [Qr,XY,qE];rw [show (ql.drop 1).length=ql.length - 1 from List.length_drop]
    have hpos:0 < ql.length:=by omega
    have e2:DX (ql.drop 1)=(DX ql).drop 2:=by
     cases ql with
     |nil=>rfl
     |cons x t=>rfl
    rw [e2];have g1:=hw.mapI 4 rfl (Ψ:=fun w=>(Si 64 2 (ql.length - 1) ((DX ql).drop 2)).at_ w Fq (.slice (if qc=1 then qa else qa.map (·.add (1 * 2))) (ql.length - 1) (qc - 1))) (fun h=>⟨(IY h.1 hpos).1,fun k hk=>h.2 k ((IY h.1 hpos).2 k hk)⟩) (Vp.loc (p:=Si _ _ _ _)) rfl;exact g1.less (by repeat (first |refine Au.keep ?_ |refine Au.dropB (by first |assumption |omega) ?_ |exact Bp _))
   ·repeat (first |refine Am ?_ |refine Ao ?_)
    exact CM rfl (fun w' hw=>⟨ql,last,qa,qc,Fq,rfl,hqb.up (Nat.le_succ _),G7.sub (List.Sublist.refl _),hNq,hw.less (by repeat (first |refine Au.keep ?_ |refine Au.dropB (by first |assumption |omega) ?_ |exact Bp _))⟩)
  ·repeat (first |refine Ai ?_ |refine Ab ?_ |refine Ag ?_ |refine Ae Aa rfl ?_)
   refine Ak rfl (fun h6=>?_) (fun h6=>?_)
   ·repeat (first |refine Ai ?_ |refine Ab ?_ |refine Aq ?_ |refine Ag ?_ |refine Ae Aa rfl ?_ |refine An Aa 1 rfl rfl rfl ?_)
    obtain ⟨d,la,x,nn,sz,ra,rn,rc⟩:=y;dsimp only at hd hnn hsz hd' hnn' hsz' h4 h5 h6 ⊢;have hok:=hqb.ok (by omega);have hql:=hqb.len
    refine EY (X:=rl.length=rn/\rn <= maxLen/\∀ r ∈ rl,UQ r) (fun w1 g1=>by
     have h9:Br Bg w1 Fr ra rn rc rl:=Br.of_val (g1.own _ (Af (i:=5) rfl)).1
     exact ⟨h9.len,h9.maxn,Dl h9⟩) (fun ⟨hrl,hrm,hrok⟩=>?_)
    simp only [maxLen] at hrm;obtain ⟨fl,hfl⟩:∃ fl:Nat->List (Int × Int),fl=fun i=>(ql.take i).filter fun z=>!decide (Cs rl z.1):=⟨_,rfl⟩
    have hf0:fl 0= []:=by rw [hfl];rfl
    have hfll:∀ i,(fl i).length <= ql.length:=fun i=>by
     rw [hfl];exact Nat.le_trans (List.length_filter_le _ _) (by rw [List.length_take];omega)
    refine AM (ι:=Nat × Option Addr × Nat) (fun q=>[(0,AF pb),(3,.pointer (some ⟨b3,0,none⟩)),(77,.slice qa ql.length qc),(78,.int .i64 (ql.length:Int)),(79,.int .i64 (q.1:Int)),(5,.slice q.2.1 (fl q.1).length q.2.2)])
     (fun q=>.row w0.heap.size (.slice q.2.1 (fl q.1).length q.2.2) 64 2 (fl q.1).length (DX (fl q.1))::.blk b3 (.cells ⟨Ac.cs ⟨d,la,x,nn,sz,ra,rn,rc⟩⟩ 38 (0,0)) true::(Mi pb sb xb s ql last now qa qc F1 F2 Fq ++ .rep (fun w=>((Az Bg).vp rl).at_ w Fr (.slice ra rn rc)) Fr false::rest))
     (fun q=>q.1 <= ql.length) (fun q=>ql.length - q.1) (0,none,0) (Nat.zero_le _) (by dsimp only;rw [hf0];repeat (first |exact As.nil |refine As.cons rfl ?_)) (fun w' hw=>by dsimp only;rw [hf0];exact hw.nilRow _ _) ?_
    rintro ⟨i,a5,c5⟩ hi;dsimp only at hi ⊢;have hfi:=hfll i;repeat (first |refine Ai ?_ |refine Ab ?_ |refine Ag ?_ |refine Ae Aa rfl ?_)
    refine Ak rfl (fun hlt=>?_) (fun hge=>?_);rotate_left
    ·have hie:i=ql.length:=by omega
     repeat (first |refine Ag ?_ |refine Ad ?_ |refine Am ?_ |refine AB ?_ |refine Al ?_ |refine AH ?_ |refine Ae Aa rfl ?_ |refine Ap ?_ |refine Ax Aa 2 rfl rfl rfl rfl rfl rfl ?_)
     refine CM rfl (fun w' hw=>⟨fl i,last,a5,c5,fun k=>(Value.slice a5 (fl i).length c5).ownBlock=some k,rfl,(hqb.sub ?_).up (Nat.le_succ _),G7.sub ?_,fun k hk=>?_,?_⟩)
     ·rw [hfl];exact List.filter_sublist.trans (List.take_sublist _ _)
     ·rw [hfl];exact List.filter_sublist.trans (List.take_sublist _ _)
     ·exact (World.ownsRow.lt (hw.own (.row w0.heap.size (.slice a5 (fl i).length c5) 64 2 (fl i).length (DX (fl i))) List.mem_cons_self) k hk).1
     ·have g1:=((hw.rowQ.pm [5,0,1,2,3,4] rfl rfl rfl).drop (fun _ k hk=>hNq k hk)).pm [2,3,4,0,5,1] rfl rfl rfl;exact g1.less (by repeat (first |refine Au.keep ?_ |refine Au.dropB (by first |assumption |omega) ?_ |exact Bp _))
    have hi':i < ql.length:=by omega
    refine EY (X:=∃ b off,qa=some ⟨b,off,none⟩) (fun w1 g1=>by
     obtain ⟨b,off,cs,e,_⟩:=(IV (g1.own _ (Af (i:=5) rfl)).1 hok).get_ hi'
     exact ⟨b,off,e⟩) (fun ⟨ab,off,hqe⟩=>?_)
    subst hqe;repeat (first |refine Ai ?_ |refine Ab ?_ |refine Aq ?_ |refine Ad ?_ |refine Ao ?_)
    refine BE (Bs (sz:=2) Aa rfl rfl rfl rfl rfl rfl rfl rfl (j:=i) (by omega)) ?_;refine BR Aa (vs:=EV ql[i]) rfl rfl rfl (fun w' hw=>DF (IV (hw.own _ (Af (i:=5) rfl)).1 hok) hi') ?_;refine AY Aa rfl (fun b7 hb7=>?_);obtain ⟨z,hz⟩:∃ z,z=ql[i]:=⟨_,rfl⟩
    have hfs:fl (i + 1)=fl i ++ if Cs rl z.1 then [] else [z]:=by
     rw [hfl,hz];dsimp only;rw [List.take_succ_eq_append_getElem hi',List.filter_append];congr 1;by_cases hm:Cs rl ql[i].1
     ·rw [if_pos hm,List.filter_cons_of_neg (by simpa using hm)];rfl
     ·rw [if_neg hm,List.filter_cons_of_pos (by simpa using hm)];rfl
    rw [<-hz];repeat (first |refine Ai ?_ |refine Ab ?_ |refine Aq ?_ |refine Ag ?_ |refine Ae Aa rfl ?_ |refine An Aa 2 rfl rfl rfl ?_ |refine Ax Aa 0 rfl rfl rfl rfl rfl rfl ?_)
    refine AM (ι:=Nat) (fun j=>[(0,AF pb),(3,.pointer (some ⟨b3,0,none⟩)),(77,.slice (some ⟨ab,off,none⟩) ql.length qc),(78,.int .i64 (ql.length:Int)),(79,.int .i64 (i:Int)),(5,.slice a5 (fl i).length c5),(7,.pointer (some ⟨b7,0,none⟩)),(8,.bool (decide (Cs (rl.take j) z.1))),(84,.slice ra rn rc),(85,.int .i64 (rn:Int)),(86,.int .i64 (j:Int))])
     (fun _=>.blk b7 (.cells ⟨[.int .u64 z.1,.int .i64 z.2]⟩ 64 (0,0)) true::.row w0.heap.size (.slice a5 (fl i).length c5) 64 2 (fl i).length (DX (fl i))::.blk b3 (.cells ⟨Ac.cs ⟨d,la,x,nn,sz,ra,rn,rc⟩⟩ 38 (0,0)) true::(Mi pb sb xb s ql last now (some ⟨ab,off,none⟩) qc F1 F2 Fq ++ .rep (fun w=>((Az Bg).vp rl).at_ w Fr (.slice ra rn rc)) Fr false::rest))
     (fun j=>j <= rn) (fun j=>rn - j) 0 (Nat.zero_le _) (by rw [show decide (Cs (rl.take 0) z.1)=false from decide_eq_false (CB _)];repeat (first |exact As.nil |refine As.cons rfl ?_)) (fun w' hw=>hw) ?_
    intro j hj;repeat (first |refine Ai ?_ |refine Ab ?_ |refine Ag ?_ |refine Ae Aa rfl ?_)
    refine Ak rfl (fun hlt2=>?_) (fun hge2=>?_);rotate_left
    ·rw [List.take_of_length_le (show rl.length <= j by omega)];repeat (first |refine Ai ?_ |refine Ab ?_ |refine Ag ?_ |refine Ad ?_ |refine AB ?_ |refine Al ?_ |refine AH ?_ |refine Ae Aa rfl ?_)
     refine CK rfl (fun h1=>?_) (fun h1=>?_)
     ·have hno:¬ Cs rl z.1:=by simpa using h1
      rw [if_neg hno] at hfs
      have e1:(fl (i + 1)).length=(fl i).length + 1:=by rw [hfs,List.length_append];rfl
      repeat (first |refine Ae Aa rfl ?_ |refine Ap ?_ |refine An Aa 0 rfl rfl rfl ?_)
      refine AO Aa rfl rfl rfl rfl rfl rfl rfl rfl rfl rfl rfl rfl (fun b11 hb11=>?_)
      refine AT (ty:=0) Aa 2 (k:=1) (news:=EV z) rfl rfl rfl rfl rfl rfl rfl rfl rfl (by decide) (fun w' hw=>Sl.of_blk (hw.own _ (Af (i:=0) rfl)) rfl (fun j u hu=>by rw [Nat.zero_add];exact hu)) (fun u hu=>by
       simp only [EV,List.mem_cons,List.not_mem_nil,or_false] at hu
       rcases hu with rfl |rfl<;>rfl) (by simp only [maxLen];omega) (by show (_ + _) * 16 <= _;omega) rfl (fun A1 C1 hc3 hd3=>⟨_,rfl,?_⟩)
      rw [<-Gt,<-hfs,<-e1];repeat (first |refine Ab ?_ |refine Ag ?_ |refine Ad ?_ |refine Am ?_ |refine AD Aa rfl (by omega) ?_ |refine Ae Aa rfl ?_)
      exact ⟨(i + 1,A1,C1),hi',(by repeat (first |exact As.nil |refine As.cons rfl ?_)),fun w' hw=>hw.less (by repeat (first |refine Au.keep ?_ |refine Au.dropB (by first |assumption |omega) ?_ |exact Bp _)),by dsimp only;omega⟩
     ·have hyes:Cs rl z.1:=by simpa using h1
      rw [if_pos hyes,List.append_nil] at hfs;repeat (first |refine Ab ?_ |refine Ag ?_ |refine Ad ?_ |refine Am ?_ |refine Ao ?_ |refine AD Aa rfl (by omega) ?_ |refine Ae Aa rfl ?_)
      exact ⟨(i + 1,a5,c5),hi',(by dsimp only;rw [hfs];repeat (first |exact As.nil |refine As.cons rfl ?_)),fun w' hw=>by dsimp only;rw [hfs];exact hw.less (by repeat (first |refine Au.keep ?_ |refine Au.dropB (by first |assumption |omega) ?_ |exact Bp _)),by dsimp only;omega⟩
    have hj':j < rl.length:=by omega
    have hms:=CX hj' z.1
    refine EY (X:=∃ b off,ra=some ⟨b,off,none⟩) (fun w1 g1=>by
     have h9:Br Bg w1 Fr ra rn rc rl:=Br.of_val (g1.own _ (Af (i:=7) rfl)).1;obtain ⟨b,off,cs,e,_⟩:=h9.get_ hj'
     exact ⟨b,off,e⟩) (fun ⟨rb,ro,hre⟩=>?_)
    subst hre;repeat (first |refine Ai ?_ |refine Ab ?_ |refine Aq ?_ |refine Ad ?_ |refine Ao ?_)
    refine BE (Bs (sz:=2) Aa rfl rfl rfl rfl rfl rfl rfl (j:=j) rfl (by omega)) ?_;refine BR Aa (vs:=C6 rl[j]) rfl rfl rfl (fun w' hw=>B7 (Br.of_val (hw.own _ (Af (i:=7) rfl)).1) hj') ?_;refine AY Aa rfl (fun b10 hb10=>?_);repeat (first |refine Ag ?_ |refine Ae Aa rfl ?_ |refine Ap ?_ |refine Ax Aa 0 rfl rfl rfl rfl rfl rfl ?_)
    have go:∀ b:Bool,(b=true ↔ Cs (rl.take (j + 1)) z.1)->b=decide (Cs (rl.take (j + 1)) z.1):=fun b hb=>by
     cases b with
     |true=>exact (decide_eq_true (hb.1 rfl)).symm
     |false=>exact (decide_eq_false fun h=>by have:=hb.2 h;cases this).symm
    by_cases m1:Cs (rl.take j) z.1
    ·refine Co 91 (v':=.bool true) rfl (congrArg Value.bool (decide_eq_true m1)) ?_;repeat (first |refine Ab ?_ |refine Ag ?_ |refine Ad ?_ |refine Am ?_ |refine AD Aa rfl (by omega) ?_ |refine Ae Aa rfl ?_ |refine Bn rfl rfl rfl ?_)
     refine ⟨j + 1,by show j + 1 <= rn;omega,?_,fun w' hw=>hw.less (by repeat (first |refine Au.keep ?_ |refine Au.dropB (by first |assumption |omega) ?_ |exact Bp _)),by show rn - (j + 1) < rn - j;omega⟩;rw [<-go true ⟨fun _=>hms.2 (.inl m1),fun _=>rfl⟩];repeat (first |exact As.nil |refine As.cons rfl ?_)
    ·refine Co 91 (v':=.bool false) rfl (congrArg Value.bool (decide_eq_false m1)) ?_;repeat (first |refine Ae Aa rfl ?_ |refine An Aa 0 rfl rfl rfl ?_ |refine An Aa 1 rfl rfl rfl ?_)
     by_cases m2:rl[j].1 <= z.1
     ·refine Co 97 (v':=.bool true) rfl (congrArg Value.bool (decide_eq_true m2)) ?_;repeat (first |refine Ab ?_ |refine Ag ?_ |refine Ad ?_ |refine Am ?_ |refine AD Aa rfl (by omega) ?_ |refine Ae Aa rfl ?_ |refine An Aa 0 rfl rfl rfl ?_ |refine An Aa 1 rfl rfl rfl ?_)
      refine ⟨j + 1,by show j + 1 <= rn;omega,?_,fun w' hw=>hw.less (by repeat (first |refine Au.keep ?_ |refine Au.dropB (by first |assumption |omega) ?_ |exact Bp _)),by show rn - (j + 1) < rn - j;omega⟩;rw [<-go (decide (z.1 <= rl[j].2)) ⟨fun h=>hms.2 (.inr ⟨m2,of_decide_eq_true h⟩),fun h=>decide_eq_true ((hms.1 h).resolve_left m1).2⟩];repeat (first |exact As.nil |refine As.cons rfl ?_)
     ·refine Co 97 (v':=.bool false) rfl (congrArg Value.bool (decide_eq_false m2)) ?_;repeat (first |refine Ab ?_ |refine Ag ?_ |refine Ad ?_ |refine Am ?_ |refine AD Aa rfl (by omega) ?_ |refine Ae Aa rfl ?_ |refine Bn rfl rfl rfl ?_)
      refine ⟨j + 1,by show j + 1 <= rn;omega,?_,fun w' hw=>hw.less (by repeat (first |refine Au.keep ?_ |refine Au.dropB (by first |assumption |omega) ?_ |exact Bp _)),by show rn - (j + 1) < rn - j;omega⟩;rw [<-go false ⟨(fun h=>by cases h),fun h=>(m2 ((hms.1 h).resolve_left m1).1).elim⟩];repeat (first |exact As.nil |refine As.cons rfl ?_)
   ·repeat (first |refine Am ?_ |refine Ao ?_)
    exact CM rfl (fun w' hw=>⟨ql,last,qa,qc,Fq,rfl,hqb.up (Nat.le_succ _),G7.sub (List.Sublist.refl _),hNq,hw.less (by repeat (first |refine Au.keep ?_ |refine Au.dropB (by first |assumption |omega) ?_ |exact Bp _))⟩)
end
section
variable {w:World} {A:Nat->Prop}
set_option maxHeartbeats 4000000 in
theorem PN {x:Fm} {rl:List BS} (hx:Br Bg w A x.ra x.rn x.rc rl) (hk:AS .u8 x.k) (hn:x.rn <= 800000):Calls Tryz.prog 28 #[.agg ⟨x.cs⟩] w fun e w'=>∃ (a':Option Addr) (c':Nat),e= .returned (.agg ⟨Fm.cs2 { x with ra:=a',rc:=c'}⟩)/\Below w.heap.size w w'/\Br Bg w' (fun k=>w.heap.size <= k) a' x.rn c' rl:=by
 obtain ⟨k,ag,ep,inc,base,cum,lim,ra,rn,rc,xa,xn,xc⟩:=x;dsimp only at hx hk hn ⊢;have hk':=Dv hk;have hk2:0 <= (Fm.mk k ag ep inc base cum lim ra rn rc xa xn xc).k/\(Fm.mk k ag ep inc base cum lim ra rn rc xa xn xc).k <= 255:=hk';have hrl:=hx.len;have hrok:=Dl hx;refine BZ Tryz.func28 rfl rfl (Hp.refl w) ?_;repeat (first |refine Ai ?_ |refine Ab ?_)
 refine AY Aa rfl (fun b1 hb1=>?_);skip;refine AY Aa rfl (fun b2 hb2=>?_);repeat (first |refine Ai ?_ |refine Ab ?_ |refine Ag ?_ |refine AD Aa rfl (by omega) ?_ |refine Ae Aa rfl ?_ |refine An Aa 1 rfl rfl rfl ?_ |refine BE (Bf Aa rfl rfl rfl rfl rfl rfl rfl) ?_)
 refine AY Aa rfl (fun b3 hb3=>?_);repeat (first |refine Ai ?_ |refine Ab ?_ |refine Aq ?_ |refine Ag ?_ |refine Ae Aa rfl ?_ |refine An Aa 2 rfl rfl rfl ?_ |refine Ax Aa 0 rfl rfl rfl rfl rfl rfl ?_)
 refine AM (ι:=Nat × Option Addr × Nat) (fun q=>[(1,.pointer (some ⟨b1,0,none⟩)),(2,.pointer (some ⟨b2,0,none⟩)),(3,.pointer (some ⟨b3,0,none⟩)),(19,.slice ra rn rc),(20,.int .i64 (rn:Int)),(21,.int .i64 (q.1:Int))])
  (fun q=>[.row w.heap.size (.slice q.2.1 q.1 q.2.2) 83 2 q.1 (Bq (rl.take q.1)),.blk b3 (.cells ⟨Fm.cs2 ⟨k,ag,ep,inc,base,cum,lim,q.2.1,q.1,q.2.2,xa,xn,xc⟩⟩ 78 (0,0)) true,.blk b2 (.cells ⟨[.int .i64 0,.int .u64 0,.int .u64 0,.int .u64 0,.int .u64 0,.slice none 0 0]⟩ 78 (0,0)) true])
  (fun q=>q.1 <= rn) (fun q=>rn - q.1) (0,none,0) (Nat.zero_le _) (by repeat (first |exact As.nil |refine As.cons rfl ?_)) (fun w' hw=>(hw.nilRow 83 2).less (by repeat (first |exact Au.nil |refine Au.keep ?_ |refine Au.dropB (by first |assumption |omega) ?_))) ?_
 rintro ⟨i,a5,c5⟩ hi;dsimp only at hi ⊢;repeat (first |refine Ai ?_ |refine Ab ?_ |refine Ag ?_ |refine Ae Aa rfl ?_)
 refine Ak rfl (fun hlt=>?_) (fun hge=>?_);rotate_left
 ·have hie:i=rn:=by omega
  subst hie;repeat (first |refine Ai ?_ |refine Ab ?_ |refine Ag ?_ |refine Ad ?_ |refine AB ?_ |refine Al ?_ |refine AC ?_ |refine AH ?_ |refine An Aa 1 rfl rfl rfl ?_ |refine Ax Aa 2 rfl rfl rfl rfl rfl rfl ?_)
  refine AZ rfl (CD Aa 2 rfl rfl rfl rfl) (fun w' hw=>⟨a5,c5,rfl,hw.below (by repeat (first |exact Ar |refine AA (by first |assumption |omega) ?_ |refine Bv hw 0 rfl (Nat.le_refl _) ?_)),?_⟩);have o0:=hw.own (.row w.heap.size (.slice a5 i c5) 83 2 i (Bq (rl.take i))) (Af (i:=0) rfl);rw [List.take_of_length_le (by omega)] at o0;exact Br.of_row Cz o0 hrl hrok (fun k hk _=>hk)
 have hi':i < rl.length:=by omega
 obtain ⟨ab,off,cs,rfl,hlt2,_⟩:=hx.get_ hi';repeat (first |refine Ai ?_ |refine Ab ?_ |refine Aq ?_ |refine Ad ?_ |refine Ao ?_)
 refine BE (Bs (sz:=2) Aa rfl rfl rfl rfl rfl rfl rfl rfl (j:=i) (by omega)) ?_;refine BR Aa (vs:=C6 rl[i]) rfl rfl rfl (fun w' hw=>B7 (hx.ext (hw.below (by repeat (first |exact Ar |refine AA (by first |assumption |omega) ?_ |refine Bv hw 0 rfl (Nat.le_refl _) ?_)))) hi') ?_;refine AY Aa rfl (fun b5 hb5=>?_);repeat (first |refine Ag ?_ |refine Ae Aa rfl ?_ |refine Ap ?_ |refine An Aa 0 rfl rfl rfl ?_ |refine An Aa 2 rfl rfl rfl ?_ |refine Ax Aa 0 rfl rfl rfl rfl rfl rfl ?_)
 refine AO Aa rfl rfl rfl rfl rfl rfl rfl rfl rfl rfl rfl rfl (fun b6 hb6=>?_);refine AT (ty:=0) Aa 2 (k:=1) (news:=Bq [rl[i]]) rfl rfl rfl rfl rfl rfl rfl rfl rfl (by decide) (fun w' hw=>Sl.of_blk (hw.own _ (Af (i:=0) rfl)) rfl (fun j u hu=>by rw [Nat.zero_add];exact hu)) (De _) (by simp only [maxLen];omega) (by show (_ + _) * 16 <= _;omega) rfl (fun A1 C1 hc3 hd3=>⟨_,rfl,?_⟩);rw [<-CY,<-List.take_succ_eq_append_getElem hi'];repeat (first |refine Ab ?_ |refine Ag ?_ |refine Ad ?_ |refine Am ?_ |refine AD Aa rfl (by omega) ?_ |refine Ae Aa rfl ?_ |refine Ax Aa 3 rfl rfl rfl rfl rfl rfl ?_)
 exact ⟨(i + 1,A1,C1),by show i + 1 <= rn;omega,(by repeat (first |exact As.nil |refine As.cons rfl ?_)),fun w' hw=>hw.less (by repeat (first |exact Au.nil |refine Au.keep ?_ |refine Au.dropB (by first |assumption |omega) ?_)),by show rn - (i + 1) < rn - i;omega⟩
end
section
variable {P:Program} {n:Nat} {w0:World} {ops:List Oper} {K:FL->OL->Prop} {l:FL} {ol:OL}
theorem R4 {td:Nat->Option Value} {B:OL} {sp:List Nat} {k i i2 i3:Nat} {rem:List Nat} {f:Nat->Value} {o o2 o3:Oper} (lo lo2 lo3:FL) (hb:Oz ops sp rem=false \/ Di w0 B ol) (hc:(rem.filter fun i=>rem.all fun j=>!((CN ops [])[i]?.getD 0).testBit j)= [i,i2,i3]) (ho:ops[i]? =some o) (ho2:ops[i2]? =some o2) (ho3:ops[i3]? =some o3) (hlo:D0 (o.looksAt ops.toArray) (BM (PY ops td f) ops i (Cl l)) lo) (hlo2:D0 (o2.looksAt ops.toArray) (BM (PY ops td f) ops i2 (Cl l)) lo2) (hlo3:D0 (o3.looksAt ops.toArray) (BM (PY ops td f) ops i3 (Cl l)) lo3)
 (hS:S P n w0 ops.toArray [o] lo ol (fun l' ol'=>∃ v,Gh o l' v/\(∀ u,td i=some u->v=u)/\SB P n w0 ops l td B sp K k (rem.filter fun j=>!Nat.beq j i) (KF f i v) ol') (fun _ _ _=>False))
 (hS2:S P n w0 ops.toArray [o2] lo2 ol (fun l' ol'=>∃ v,Gh o2 l' v/\(∀ u,td i2=some u->v=u)/\SB P n w0 ops l td B sp K k (rem.filter fun j=>!Nat.beq j i2) (KF f i2 v) ol') (fun _ _ _=>False))
 (hS3:S P n w0 ops.toArray [o3] lo3 ol (fun l' ol'=>∃ v,Gh o3 l' v/\(∀ u,td i3=some u->v=u)/\SB P n w0 ops l td B sp K k (rem.filter fun j=>!Nat.beq j i3) (KF f i3 v) ol') (fun _ _ _=>False)):SB P n w0 ops l td B sp K (k + 1) rem f ol:=by
 unfold SB;refine ⟨hb,fun i' hi' hm=>?_⟩;have:i' ∈ rem.filter fun i=>rem.all fun j=>!((CN ops [])[i]?.getD 0).testBit j:=List.mem_filter.2 ⟨hi',List.all_eq_true.2 fun j hj=>by rw [hm j hj];rfl⟩;rw [hc,List.mem_cons,List.mem_cons,List.mem_singleton] at this
 rcases this with rfl |rfl |rfl
 ·exact ⟨o,lo,ho,hlo,hS⟩
 ·exact ⟨o2,lo2,ho2,hlo2,hS2⟩
 ·exact ⟨o3,lo3,ho3,hlo3,hS3⟩
end
def Xs (x:Fm) (rl:List BS):Vp:=
 ⟨fun w A v=>∃ (a':Option Addr) (c':Nat),v= .agg ⟨Fm.cs2 { x with ra:=a',rc:=c'}⟩/\Br Bg w A a' x.rn c' rl,fun ⟨a',c',e,h⟩ hk=>⟨a',c',e,h.keep hk⟩⟩
theorem RE {x:Fm} {rl:List BS} {w:World} {A:Nat->Prop} {a:Option Addr} {c:Nat} (h:(Xs x rl).at_ w A (.agg ⟨Fm.cs2 { x with ra:=a,rc:=c}⟩)):Br Bg w A a x.rn c rl:=by
 obtain ⟨a',c',e,h1⟩:=h;simp only [Fm.cs2,Value.agg.injEq,Array.mk.injEq,List.cons.injEq,Value.slice.injEq,and_true,true_and] at e;obtain ⟨rfl,rfl⟩:=e;exact h1
section
variable {n:Nat} {w0:World} {all:Array Oper} {os:List Oper} {o:Oper} {l:FL} {ol:OL} {K:FL->OL->Prop} {Q:B3} {d sb:Nat} {s:Bo} {F:Nat->Prop}
theorem UH (i:Nat) (x:Fm) (rl:List BS) (hs:BL n all (AP l) o=some (d,27,[AF sb,.agg ⟨x.cs2⟩])) (hi:B9 ol i=some (.rep (fun w=>(JL sb s).at_ w F (.bool true)) F true)) (hN:∀ k,F k->w0.heap.size <= k)
 (hx:∀ w,Hp w0 w ol->XE w F x rl) (hn:x.rn <= 800000) (hcum:AS .u64 x.cum) (hinc:AS .u64 x.inc) (hlim:AS .u64 x.lim)
 (k:∀ (a:Option Addr) (ln c:Nat) (Fv F':Nat->Prop),(∀ k,Fv k->w0.heap.size <= k)->(∀ k,F' k->w0.heap.size <= k)->∃ ol',Dc ol i (.rep (fun w=>(JL sb (s.rcv x rl)).at_ w F' (.bool true)) F' true)=some ol'/\S Tryz.prog n w0 all os ((d,.tuple #[.slice a ln c,.bool (decide (Ch s x))])::l) (.rep (fun w=>((Az Bg).vp (if Ch s x then (0,x.cum)::rl else [])).at_ w Fv (.slice a ln c)) Fv false::ol') K Q):S Tryz.prog n w0 all (o::os) l ol K Q:=
 A7 hs Tryz.call27 fun w g=>by
  obtain ⟨A0,h1,h2⟩:=hx w g
  exact (Nm (g.own _ (Af hi)).1 (g.own _ (Af hi)).2.2 x h1 h2 hn hcum hinc hlim).mono fun e w' ⟨v,Fv,F',he,hv,g1,g2,g3⟩=>by
   obtain ⟨a,ln,c,rfl,_⟩:=Br.form (show (Az Bg).val w' Fv v _ from (g3.own _ (Af (i:=0) rfl)).1);obtain ⟨ol',e1,e2⟩:=k a ln c Fv F' (fun j hj=>Nat.le_trans g.size (hv j hj)) (fun j hj=>(g2 j hj).elim (hN j) (Nat.le_trans g.size));exact ⟨_,_,he,g.graftTV i hi g3 hv g1 g2 e1,e2⟩
end
abbrev X2 (y:Ac):Fm:={ y.x with rn:=min y.x.rn 40}
def doS (y:Ac) (xl:List BS) (p:UZ):Bo:=if y.d % 7 <= 2 then p.s.tick (p.now + y.la) p.ql else if y.d % 7=3 then p.s.rcv { y.x with rn:=min y.x.rn 40} (xl.take 40) else p.s
theorem FN.doS {N M:Nat} {y:Ac} {xl:List BS} {p:UZ} (h:FN N p.s) (hq:p.s.q <= 1024) (hqb:QB M p.ql p.last) (hM:M <= 80):FN (N + 2) (doS y xl p):=by
 have hl:=hqb.len;unfold Proofs.YtidhpofcofknhaaGreat.doS;split
 ·exact h.tick hq _ (by omega)
 ·split
  ·exact (h.rcv _ _).up (by omega)
  ·exact h.up (by omega)
abbrev G4 (F:Nat->Prop) (a:Option Addr) (n c:Nat) (rl:List BS):HE:=.rep (fun w=>((Az Bg).vp rl).at_ w F (.slice a n c)) F false
section
variable {w0 w:World} {rest:OL} {pb sb xb qc:Nat} {p:UZ} {qa:Option Addr} {F1 F2 Fq Ff Fr:Nat->Prop}
set_option maxHeartbeats 16000000 in
theorem WY {y:Ac} {xl rl:List BS} (h:Hp w0 w (Qr pb sb xb p qa qc F1 F2 Fq ++ G4 Ff y.x.ra y.x.rn y.x.rc xl::G4 Fr y.ra y.rn y.rc rl::rest)) (hN1:∀ k,F1 k->w0.heap.size <= k) (hN2:∀ k,F2 k->w0.heap.size <= k) (hNq:∀ k,Fq k->w0.heap.size <= k) {N M:Nat} (hsb:FN N p.s) (hN:N <= 100000) (hqb:QB M p.ql p.last) (hM:M <= 80) (hnow:0 <= p.now/\p.now <= 1000000000)
 (hd:AS .u8 y.d) (hla:AS .u8 y.la) (hnn:AS .u8 y.nn) (hsz:AS .u16 y.sz) (hk:AS .u8 y.x.k) (hcum:AS .u64 y.x.cum) (hinc:AS .u64 y.x.inc) (hlim:AS .u64 y.x.lim):
 Calls Tryz.prog 10 #[AF pb,.agg ⟨y.cs⟩] w fun e w'=>∃ (ql':List (Int × Int)) (last':Int) (qa':Option Addr) (qc':Nat) (F1' F2' Fq':Nat->Prop),e= .returned (.bool true)/\QB (M + 1) ql' last'/\G7 p.ql p.last ql' last'/\((∀ k,F1' k->w0.heap.size <= k)/\(∀ k,F2' k->w0.heap.size <= k)/\∀ k,Fq' k->w0.heap.size <= k)/\
  Hp w0 w' (Qr pb sb xb ⟨doS y xl p,ql',last',p.now + y.la⟩ qa' qc' F1' F2' Fq' ++ G4 Ff y.x.ra y.x.rn y.x.rc xl::G4 Fr y.ra y.rn y.rc rl::rest):=by
 obtain ⟨s,ql,last,now⟩:=p;dsimp only at hsb hqb hnow ⊢;have h':Hp w0 w (Mi pb sb xb s ql last now qa qc F1 F2 Fq ++ G4 Ff y.x.ra y.x.rn y.x.rc xl::G4 Fr y.ra y.rn y.rc rl::rest):=h;have hd':=Dv hd;have hla':=Dv hla;refine GP Tryz.func10 rfl rfl h' ?_;repeat (first |refine Ai ?_ |refine Ab ?_)
 refine AY Aa rfl (fun b3 hb3=>?_);repeat (first |refine Ai ?_ |refine Ag ?_ |refine Ae Aa rfl ?_)
 refine Cd (by kernel_rfl) 8 rfl (by kernel_rfl) ?_;repeat (first |refine AN rfl ?_ |refine BD Aa rfl (by omega) ?_ |refine Ah Aa rfl ?_ |refine AE Aa 0 rfl rfl rfl ?_ |refine AE Aa 1 rfl rfl rfl ?_ |refine Ai ?_ |refine Ab ?_ |refine Ag ?_ |refine Ae Aa rfl ?_ |refine An Aa 0 rfl rfl rfl ?_ |refine Ax Aa 1 rfl rfl rfl rfl rfl rfl ?_)
 refine BE (Er rfl rfl rfl (by decide) hd'.1) ?_;repeat (first |refine Ag ?_)
 refine Aq ?_;refine Ai ?_;repeat (first |refine Ai ?_ |refine Ab ?_ |refine Ag ?_ |refine Ae Aa rfl ?_)
 refine BN (ι:=Bool) (fun b=>b=true ↔ y.d % 7 <= 2) (fun b=>[(0,AF pb),(3,.pointer (some ⟨b3,0,none⟩)),(27,.int .u8 (y.d % 7)),(28,.bool b)])
  (fun _=>.blk b3 (.cells ⟨y.cs⟩ 38 (0,0)) true::(Mi pb sb xb s ql last (now + y.la) qa qc F1 F2 Fq ++ G4 Ff y.x.ra y.x.rn y.x.rc xl::G4 Fr y.ra y.rn y.rc rl::rest)) ?_ ?_
 ·refine Ak rfl (fun h1=>?_) (fun h1=>?_)
  ·repeat (first |refine Ad ?_ |refine Ao ?_)
   exact ⟨true,⟨fun _=>by omega,fun _=>rfl⟩,(by rw [show true=decide (y.d % 7=0) from (decide_eq_true h1).symm];repeat (first |exact As.nil |refine As.cons rfl ?_)),fun w' hw=>hw⟩
  ·repeat (first |refine Ai ?_ |refine Ab ?_ |refine Ag ?_ |refine Ae Aa rfl ?_)
   refine Ak rfl (fun h2=>?_) (fun h2=>?_)
   ·repeat (first |refine Ad ?_ |refine Ao ?_)
    exact ⟨true,⟨fun _=>by omega,fun _=>rfl⟩,(by rw [show true=decide (y.d % 7=1) from (decide_eq_true h2).symm];repeat (first |exact As.nil |refine As.cons rfl ?_)),fun w' hw=>hw⟩
   ·repeat (first |refine Ab ?_ |refine Ag ?_ |refine Ae Aa rfl ?_)
    exact ⟨decide (y.d % 7=2),⟨fun h=>by have:=of_decide_eq_true h;omega,fun h=>decide_eq_true (by omega)⟩,(by repeat (first |exact As.nil |refine As.cons rfl ?_)),fun w' hw=>hw⟩
 intro b hb;refine CK rfl (fun h1=>?_) (fun h1=>?_)
 ·have hle:=hb.1 h1;repeat (first |refine Ai ?_ |refine Ab ?_ |refine Ae Aa rfl ?_)
  refine B0 (fun w' hw=>hw.pm [1,2,3,4,0,5,6] rfl rfl rfl) ?_;refine A7 rfl Tryz.call13 (fun w1 g1=>(Ov (p:=⟨s,ql,last,now + y.la⟩) g1 hN1 hN2 hsb hN hqb hM (by dsimp only;omega)).mono fun e w' ⟨v,Fv,G1,G2,he,hv,k1,k2,h9⟩=>⟨_,_,he,h9,?_⟩);repeat (first |refine Ai ?_ |refine Ab ?_ |refine Ag ?_ |refine BQ ?_ |refine AI ?_ |refine AC ?_ |refine Ae Aa rfl ?_)
  refine AZ rfl rfl (fun w' hw=>⟨ql,last,qa,qc,G1,G2,Fq,rfl,hqb.up (Nat.le_succ _),G7.sub (List.Sublist.refl _),⟨k1,k2,hNq⟩,?_⟩);rw [doS,if_pos hle];exact hw.less (by repeat (first |refine Au.keep ?_ |refine Au.dropR ?_ |refine Au.dropB (by first |assumption |omega) ?_ |exact Bp _))
 have hgt:¬ y.d % 7 <= 2:=fun h=>by have:=hb.2 h;rw [h1] at this;cases this
 repeat (first |refine Ai ?_ |refine Ab ?_ |refine Ag ?_ |refine Ae Aa rfl ?_)
 refine Ak rfl (fun h3=>?_) (fun h3=>?_)
 ·repeat (first |refine Ai ?_ |refine Ab ?_ |refine Ae Aa rfl ?_ |refine An Aa 0 rfl rfl rfl ?_)
  refine AY Aa rfl (fun b7 hb7=>?_)
  refine WI (fun w1 g1=>show xl.length=y.x.rn/\y.x.rn <= y.x.rc/\y.x.rc <= maxLen by
   have h9:Br Bg w1 Ff y.x.ra y.x.rn y.x.rc xl:=Br.of_val (g1.own _ (Af (i:=6) rfl)).1
   exact ⟨h9.len,h9.cap,h9.max⟩) (fun ⟨hxl,hxc,hxm⟩=>?_)
  simp only [maxLen] at hxm;repeat (first |refine Ai ?_ |refine Ab ?_ |refine Ag ?_ |refine Ae Aa rfl ?_ |refine An Aa 0 rfl rfl rfl ?_ |refine Ax Aa 0 rfl rfl rfl rfl rfl rfl ?_)
  refine BE (EH (H:=min y.x.rn 40) Aa rfl rfl rfl rfl rfl rfl (by omega) (by omega)) ?_;repeat (first |refine Ai ?_ |refine Ag ?_ |refine Ae Aa rfl ?_ |refine Ax Aa 0 rfl rfl rfl rfl rfl rfl ?_)
  have hn2:(X2 y).rn <= 800000:=by show min y.x.rn 40 <= _;omega
  have hcum2:AS .u64 (X2 y).cum:=hcum;have hinc2:AS .u64 (X2 y).inc:=hinc;have hlim2:AS .u64 (X2 y).lim:=hlim
  have hx2:∀ w1:World,((Az Bg).vp xl).at_ w1 Ff (.slice y.x.ra y.x.rn y.x.rc)->Br Bg w1 Ff (X2 y).ra (X2 y).rn (X2 y).rc (xl.take 40):=fun w1 h1=>by
   have h2:=(Br.of_val h1).take (k:=min y.x.rn 40) (by omega);rw [show xl.take 40=xl.take (min y.x.rn 40) from by rw [<-hxl,List.take_eq_take_iff];omega];exact h2
  refine BN (ι:=Option Addr × Nat × Nat × (Nat->Prop) × (Nat->Prop) × Nat) (fun q=>(∀ k,q.2.2.2.1 k->w0.heap.size <= k)/\(∀ k,q.2.2.2.2.1 k->w0.heap.size <= k)/\w0.heap.size <= q.2.2.2.2.2) (fun q=>[(0,AF pb),(7,.pointer (some ⟨b7,0,none⟩)),(8,.pointer (some ⟨q.2.2.2.2.2,0,none⟩)),(9,.bool (decide (Ch s (X2 y))))])
   (fun q=>.rep (fun w=>(By (fun z=>Ch s (X2 y)/\EC (X2 y).cum (xl.take 40) z) ((X2 y).rn + 1)).at_ w q.2.2.2.1 (Bz q.1 q.2.1 q.2.2.1)) q.2.2.2.1 false::.blk q.2.2.2.2.2 (.cells ⟨[.slice q.1 q.2.1 q.2.2.1]⟩ 52 (0,0)) true::.blk b7 (.cells ⟨(X2 y).cs⟩ 36 (0,0)) true::.blk b3 (.cells ⟨y.cs⟩ 38 (0,0)) true::.blk pb (.cells ⟨[AF sb,AF xb,.slice qa ql.length qc,.int .u64 last,.int .i64 (now + y.la)]⟩ 45 (0,0)) true::.rep (fun w=>(Io sb (s.rcv (X2 y) (xl.take 40))).at_ w q.2.2.2.2.1 (.bool true)) q.2.2.2.2.1 true::.rep (fun w=>(JL xb s).at_ w F2 (.bool true)) F2 true::qE Fq qa qc ql::G4 Ff y.x.ra y.x.rn y.x.rc xl::G4 Fr y.ra y.rn y.rc rl::rest) ?_ ?_
  ·refine Ca ?_
   refine Ii (by kernel_rfl) (by kernel_rfl) [9,10,11,12,13,14,15] (by kernel_rfl) (by kernel_rfl) (by kernel_rfl) (by kernel_rfl) [.blk pb (.cells ⟨[AF sb,AF xb,.slice qa ql.length qc,.int .u64 last,.int .i64 (now + y.la)]⟩ 45 (0,0)) false,.blk b7 (.cells ⟨(X2 y).cs⟩ 36 (0,0)) false] (CF (CF DQ))
    [some (AF pb),some (.pointer (some ⟨pb,0,none⟩)),some (.pointer (some ⟨pb,0 + 0,none⟩)),some (AF sb),some (AF pb),some (.pointer (some ⟨pb,0,none⟩)),some (.pointer (some ⟨pb,0 + 4,none⟩)),some (.int .i64 (now + y.la)),some (.agg ⟨(X2 y).cs⟩),none,none,none,none,none,none,none]
    ⟨.inr ⟨_,_,rfl,rfl,fun w f=>Ah Aa rfl Aj⟩,.inr ⟨_,_,rfl,rfl,fun w f=>Ah Aa rfl Aj⟩,.inr ⟨_,_,rfl,rfl,fun w f=>Ah Aa rfl Aj⟩,.inr ⟨_,_,rfl,rfl,fun w f=>AE Aa 0 rfl rfl rfl Aj⟩,.inr ⟨_,_,rfl,rfl,fun w f=>Ah Aa rfl Aj⟩,.inr ⟨_,_,rfl,rfl,fun w f=>Ah Aa rfl Aj⟩,.inr ⟨_,_,rfl,rfl,fun w f=>Ah Aa rfl Aj⟩,.inr ⟨_,_,rfl,rfl,fun w f=>AE Aa 0 rfl rfl rfl Aj⟩,.inr ⟨_,_,rfl,rfl,fun w f=>AE Aa 1 rfl rfl rfl Aj⟩,.inl rfl,.inl rfl,.inl rfl,.inl rfl,.inl rfl,.inl rfl,.inl rfl,trivial⟩ ?_
   refine DD (i:=9) (i2:=13) [(54,AF sb),(58,.int .i64 (now + y.la)),(59,.agg ⟨(X2 y).cs⟩)] [] (.inr (AL 2 rfl (AL 0 rfl AV))) (by kernel_rfl) rfl rfl (.cons rfl rfl (.cons rfl rfl (.cons rfl rfl .nil))) .nil ?_ ?_
   ·refine N3 3 (X2 y) (xl.take 40) rfl rfl hN1 (fun w1 g1=>⟨Ff,hx2 w1 (g1.own _ (Af (i:=6) rfl)).1,fun k hk hF=>g1.dis 6 3 rfl rfl rfl rfl hk hF⟩) hn2 hcum2 hinc2 hlim2 (fun a8 n8 c8 Fv G1 hFv hG1=>⟨_,rfl,?_⟩);refine Ag ⟨_,rfl,(fun u h=>by cases h),?_⟩;refine DD (i:=10) (i2:=13) [(60,.tuple #[Bz a8 n8 c8,.bool (decide (Ch s (X2 y)))])] [] (.inl (by kernel_rfl)) (by kernel_rfl) rfl rfl (.cons rfl rfl .nil) .nil ?_ ?_
    ·refine Ae Aa rfl ?_;refine Ag ⟨_,rfl,(fun u h=>by cases h),?_⟩;refine R4 (i:=11) (i2:=12) (i3:=13) [(50,.tuple #[Bz a8 n8 c8,.bool (decide (Ch s (X2 y)))])] [(50,.tuple #[Bz a8 n8 c8,.bool (decide (Ch s (X2 y)))])] [] (.inl (by kernel_rfl)) (by kernel_rfl) rfl rfl rfl (.cons rfl rfl .nil) (.cons rfl rfl .nil) .nil ?_ ?_ ?_
     ·refine Ae Aa rfl ?_;refine Ag ⟨_,rfl,(fun u h=>by cases h),?_⟩;refine DD (i:=12) (i2:=13) [(50,.tuple #[Bz a8 n8 c8,.bool (decide (Ch s (X2 y)))])] [] (.inl (by kernel_rfl)) (by kernel_rfl) rfl rfl (.cons rfl rfl .nil) .nil ?_ ?_
      ·refine Ae Aa rfl ?_;refine Ag ⟨_,rfl,(fun u h=>by cases h),?_⟩;refine AQ (i:=13) [] (.inl (by kernel_rfl)) (by kernel_rfl) rfl .nil ?_;refine AY Aa rfl (fun b8 hb8=>?_);refine Ag ⟨_,rfl,(fun u h=>by cases h),?_⟩;refine AQ (i:=14) [(8,.pointer (some ⟨b8,0,none⟩)),(61,Bz a8 n8 c8)] (.inl (by kernel_rfl)) (by kernel_rfl) rfl (.cons rfl rfl (.cons rfl rfl .nil)) ?_;refine Ax Aa 0 rfl rfl rfl rfl rfl rfl ?_;refine Ag ⟨_,rfl,(fun u h=>by cases h),?_⟩;refine AQ (i:=15) [(62,.bool (decide (Ch s (X2 y))))] (.inl (by kernel_rfl)) (by kernel_rfl) rfl (.cons rfl rfl .nil) ?_;refine Ae Aa rfl ?_;refine Ag ⟨_,rfl,(fun u h=>by cases h),?_⟩;refine Ct [(0,AF pb),(7,.pointer (some ⟨b7,0,none⟩)),(8,.pointer (some ⟨b8,0,none⟩)),(9,.bool (decide (Ch s (X2 y))))] (by repeat (first |exact Bc.nil |refine Bc.cons rfl ?_)) ?_;refine Ad ?_;exact ⟨(a8,n8,c8,Fv,G1,b8),⟨hFv,hG1,hb8⟩,(by repeat (first |exact As.nil |refine As.cons rfl ?_)),fun w' hw=>hw.pm [1,0] rfl rfl rfl⟩
      ·refine AY Aa rfl (fun b8 hb8=>?_);refine Ag ⟨_,rfl,(fun u h=>by cases h),?_⟩;refine DD (i:=12) (i2:=14) [(50,.tuple #[Bz a8 n8 c8,.bool (decide (Ch s (X2 y)))])] [(8,.pointer (some ⟨b8,0,none⟩)),(61,Bz a8 n8 c8)] (.inl (by kernel_rfl)) (by kernel_rfl) rfl rfl (.cons rfl rfl .nil) (.cons rfl rfl (.cons rfl rfl .nil)) ?_ ?_
       ·refine Ae Aa rfl ?_;refine Ag ⟨_,rfl,(fun u h=>by cases h),?_⟩;refine AQ (i:=14) [(8,.pointer (some ⟨b8,0,none⟩)),(61,Bz a8 n8 c8)] (.inl (by kernel_rfl)) (by kernel_rfl) rfl (.cons rfl rfl (.cons rfl rfl .nil)) ?_;refine Ax Aa 0 rfl rfl rfl rfl rfl rfl ?_;refine Ag ⟨_,rfl,(fun u h=>by cases h),?_⟩;refine AQ (i:=15) [(62,.bool (decide (Ch s (X2 y))))] (.inl (by kernel_rfl)) (by kernel_rfl) rfl (.cons rfl rfl .nil) ?_;refine Ae Aa rfl ?_;refine Ag ⟨_,rfl,(fun u h=>by cases h),?_⟩;refine Ct [(0,AF pb),(7,.pointer (some ⟨b7,0,none⟩)),(8,.pointer (some ⟨b8,0,none⟩)),(9,.bool (decide (Ch s (X2 y))))] (by repeat (first |exact Bc.nil |refine Bc.cons rfl ?_)) ?_;refine Ad ?_;exact ⟨(a8,n8,c8,Fv,G1,b8),⟨hFv,hG1,hb8⟩,(by repeat (first |exact As.nil |refine As.cons rfl ?_)),fun w' hw=>hw.pm [1,0] rfl rfl rfl⟩
       ·refine Ax Aa 0 rfl rfl rfl rfl rfl rfl ?_;refine Ag ⟨_,rfl,(fun u h=>by cases h),?_⟩;refine AQ (i:=12) [(50,.tuple #[Bz a8 n8 c8,.bool (decide (Ch s (X2 y)))])] (.inl (by kernel_rfl)) (by kernel_rfl) rfl (.cons rfl rfl .nil) ?_;refine Ae Aa rfl ?_;refine Ag ⟨_,rfl,(fun u h=>by cases h),?_⟩;refine AQ (i:=15) [(62,.bool (decide (Ch s (X2 y))))] (.inl (by kernel_rfl)) (by kernel_rfl) rfl (.cons rfl rfl .nil) ?_;refine Ae Aa rfl ?_;refine Ag ⟨_,rfl,(fun u h=>by cases h),?_⟩;refine Ct [(0,AF pb),(7,.pointer (some ⟨b7,0,none⟩)),(8,.pointer (some ⟨b8,0,none⟩)),(9,.bool (decide (Ch s (X2 y))))] (by repeat (first |exact Bc.nil |refine Bc.cons rfl ?_)) ?_;refine Ad ?_;exact ⟨(a8,n8,c8,Fv,G1,b8),⟨hFv,hG1,hb8⟩,(by repeat (first |exact As.nil |refine As.cons rfl ?_)),fun w' hw=>hw.pm [1,0] rfl rfl rfl⟩
     ·refine Ae Aa rfl ?_;refine Ag ⟨_,rfl,(fun u h=>by cases h),?_⟩;refine DD (i:=11) (i2:=13) [(50,.tuple #[Bz a8 n8 c8,.bool (decide (Ch s (X2 y)))])] [] (.inl (by kernel_rfl)) (by kernel_rfl) rfl rfl (.cons rfl rfl .nil) .nil ?_ ?_
      ·refine Ae Aa rfl ?_;refine Ag ⟨_,rfl,(fun u h=>by cases h),?_⟩;refine AQ (i:=13) [] (.inl (by kernel_rfl)) (by kernel_rfl) rfl .nil ?_;refine AY Aa rfl (fun b8 hb8=>?_);refine Ag ⟨_,rfl,(fun u h=>by cases h),?_⟩;refine AQ (i:=14) [(8,.pointer (some ⟨b8,0,none⟩)),(61,Bz a8 n8 c8)] (.inl (by kernel_rfl)) (by kernel_rfl) rfl (.cons rfl rfl (.cons rfl rfl .nil)) ?_;refine Ax Aa 0 rfl rfl rfl rfl rfl rfl ?_;refine Ag ⟨_,rfl,(fun u h=>by cases h),?_⟩;refine AQ (i:=15) [(62,.bool (decide (Ch s (X2 y))))] (.inl (by kernel_rfl)) (by kernel_rfl) rfl (.cons rfl rfl .nil) ?_;refine Ae Aa rfl ?_;refine Ag ⟨_,rfl,(fun u h=>by cases h),?_⟩;refine Ct [(0,AF pb),(7,.pointer (some ⟨b7,0,none⟩)),(8,.pointer (some ⟨b8,0,none⟩)),(9,.bool (decide (Ch s (X2 y))))] (by repeat (first |exact Bc.nil |refine Bc.cons rfl ?_)) ?_;refine Ad ?_;exact ⟨(a8,n8,c8,Fv,G1,b8),⟨hFv,hG1,hb8⟩,(by repeat (first |exact As.nil |refine As.cons rfl ?_)),fun w' hw=>hw.pm [1,0] rfl rfl rfl⟩
      ·refine AY Aa rfl (fun b8 hb8=>?_);refine Ag ⟨_,rfl,(fun u h=>by cases h),?_⟩;refine AQ (i:=11) [(50,.tuple #[Bz a8 n8 c8,.bool (decide (Ch s (X2 y)))])] (.inl (by kernel_rfl)) (by kernel_rfl) rfl (.cons rfl rfl .nil) ?_;refine Ae Aa rfl ?_;refine Ag ⟨_,rfl,(fun u h=>by cases h),?_⟩;refine AQ (i:=14) [(8,.pointer (some ⟨b8,0,none⟩)),(61,Bz a8 n8 c8)] (.inl (by kernel_rfl)) (by kernel_rfl) rfl (.cons rfl rfl (.cons rfl rfl .nil)) ?_;refine Ax Aa 0 rfl rfl rfl rfl rfl rfl ?_;refine Ag ⟨_,rfl,(fun u h=>by cases h),?_⟩;refine AQ (i:=15) [(62,.bool (decide (Ch s (X2 y))))] (.inl (by kernel_rfl)) (by kernel_rfl) rfl (.cons rfl rfl .nil) ?_;refine Ae Aa rfl ?_;refine Ag ⟨_,rfl,(fun u h=>by cases h),?_⟩;refine Ct [(0,AF pb),(7,.pointer (some ⟨b7,0,none⟩)),(8,.pointer (some ⟨b8,0,none⟩)),(9,.bool (decide (Ch s (X2 y))))] (by repeat (first |exact Bc.nil |refine Bc.cons rfl ?_)) ?_;refine Ad ?_;exact ⟨(a8,n8,c8,Fv,G1,b8),⟨hFv,hG1,hb8⟩,(by repeat (first |exact As.nil |refine As.cons rfl ?_)),fun w' hw=>hw.pm [1,0] rfl rfl rfl⟩
     ·refine AY Aa rfl (fun b8 hb8=>?_);refine Ag ⟨_,rfl,(fun u h=>by cases h),?_⟩;refine DD (i:=11) (i2:=12) [(50,.tuple #[Bz a8 n8 c8,.bool (decide (Ch s (X2 y)))])] [(50,.tuple #[Bz a8 n8 c8,.bool (decide (Ch s (X2 y)))])] (.inl (by kernel_rfl)) (by kernel_rfl) rfl rfl (.cons rfl rfl .nil) (.cons rfl rfl .nil) ?_ ?_
      ·refine Ae Aa rfl ?_;refine Ag ⟨_,rfl,(fun u h=>by cases h),?_⟩;refine DD (i:=12) (i2:=14) [(50,.tuple #[Bz a8 n8 c8,.bool (decide (Ch s (X2 y)))])] [(8,.pointer (some ⟨b8,0,none⟩)),(61,Bz a8 n8 c8)] (.inl (by kernel_rfl)) (by kernel_rfl) rfl rfl (.cons rfl rfl .nil) (.cons rfl rfl (.cons rfl rfl .nil)) ?_ ?_
       ·refine Ae Aa rfl ?_;refine Ag ⟨_,rfl,(fun u h=>by cases h),?_⟩;refine AQ (i:=14) [(8,.pointer (some ⟨b8,0,none⟩)),(61,Bz a8 n8 c8)] (.inl (by kernel_rfl)) (by kernel_rfl) rfl (.cons rfl rfl (.cons rfl rfl .nil)) ?_;refine Ax Aa 0 rfl rfl rfl rfl rfl rfl ?_;refine Ag ⟨_,rfl,(fun u h=>by cases h),?_⟩;refine AQ (i:=15) [(62,.bool (decide (Ch s (X2 y))))] (.inl (by kernel_rfl)) (by kernel_rfl) rfl (.cons rfl rfl .nil) ?_;refine Ae Aa rfl ?_;refine Ag ⟨_,rfl,(fun u h=>by cases h),?_⟩;refine Ct [(0,AF pb),(7,.pointer (some ⟨b7,0,none⟩)),(8,.pointer (some ⟨b8,0,none⟩)),(9,.bool (decide (Ch s (X2 y))))] (by repeat (first |exact Bc.nil |refine Bc.cons rfl ?_)) ?_;refine Ad ?_;exact ⟨(a8,n8,c8,Fv,G1,b8),⟨hFv,hG1,hb8⟩,(by repeat (first |exact As.nil |refine As.cons rfl ?_)),fun w' hw=>hw.pm [1,0] rfl rfl rfl⟩
       ·refine Ax Aa 0 rfl rfl rfl rfl rfl rfl ?_;refine Ag ⟨_,rfl,(fun u h=>by cases h),?_⟩;refine AQ (i:=12) [(50,.tuple #[Bz a8 n8 c8,.bool (decide (Ch s (X2 y)))])] (.inl (by kernel_rfl)) (by kernel_rfl) rfl (.cons rfl rfl .nil) ?_;refine Ae Aa rfl ?_;refine Ag ⟨_,rfl,(fun u h=>by cases h),?_⟩;refine AQ (i:=15) [(62,.bool (decide (Ch s (X2 y))))] (.inl (by kernel_rfl)) (by kernel_rfl) rfl (.cons rfl rfl .nil) ?_;refine Ae Aa rfl ?_;refine Ag ⟨_,rfl,(fun u h=>by cases h),?_⟩;refine Ct [(0,AF pb),(7,.pointer (some ⟨b7,0,none⟩)),(8,.pointer (some ⟨b8,0,none⟩)),(9,.bool (decide (Ch s (X2 y))))] (by repeat (first |exact Bc.nil |refine Bc.cons rfl ?_)) ?_;refine Ad ?_;exact ⟨(a8,n8,c8,Fv,G1,b8),⟨hFv,hG1,hb8⟩,(by repeat (first |exact As.nil |refine As.cons rfl ?_)),fun w' hw=>hw.pm [1,0] rfl rfl rfl⟩
      ·refine Ae Aa rfl ?_;refine Ag ⟨_,rfl,(fun u h=>by cases h),?_⟩;refine AQ (i:=11) [(50,.tuple #[Bz a8 n8 c8,.bool (decide (Ch s (X2 y)))])] (.inl (by kernel_rfl)) (by kernel_rfl) rfl (.cons rfl rfl .nil) ?_;refine Ae Aa rfl ?_;refine Ag ⟨_,rfl,(fun u h=>by cases h),?_⟩;refine AQ (i:=14) [(8,.pointer (some ⟨b8,0,none⟩)),(61,Bz a8 n8 c8)] (.inl (by kernel_rfl)) (by kernel_rfl) rfl (.cons rfl rfl (.cons rfl rfl .nil)) ?_;refine Ax Aa 0 rfl rfl rfl rfl rfl rfl ?_;refine Ag ⟨_,rfl,(fun u h=>by cases h),?_⟩;refine AQ (i:=15) [(62,.bool (decide (Ch s (X2 y))))] (.inl (by kernel_rfl)) (by kernel_rfl) rfl (.cons rfl rfl .nil) ?_;refine Ae Aa rfl ?_;refine Ag ⟨_,rfl,(fun u h=>by cases h),?_⟩;refine Ct [(0,AF pb),(7,.pointer (some ⟨b7,0,none⟩)),(8,.pointer (some ⟨b8,0,none⟩)),(9,.bool (decide (Ch s (X2 y))))] (by repeat (first |exact Bc.nil |refine Bc.cons rfl ?_)) ?_;refine Ad ?_;exact ⟨(a8,n8,c8,Fv,G1,b8),⟨hFv,hG1,hb8⟩,(by repeat (first |exact As.nil |refine As.cons rfl ?_)),fun w' hw=>hw.pm [1,0] rfl rfl rfl⟩
    ·refine AY Aa rfl (fun b8 hb8=>?_);refine Ag ⟨_,rfl,(fun u h=>by cases h),?_⟩;refine AQ (i:=10) [(60,.tuple #[Bz a8 n8 c8,.bool (decide (Ch s (X2 y)))])] (.inl (by kernel_rfl)) (by kernel_rfl) rfl (.cons rfl rfl .nil) ?_;refine Ae Aa rfl ?_;refine Ag ⟨_,rfl,(fun u h=>by cases h),?_⟩;refine DD (i:=11) (i2:=12) [(50,.tuple #[Bz a8 n8 c8,.bool (decide (Ch s (X2 y)))])] [(50,.tuple #[Bz a8 n8 c8,.bool (decide (Ch s (X2 y)))])] (.inl (by kernel_rfl)) (by kernel_rfl) rfl rfl (.cons rfl rfl .nil) (.cons rfl rfl .nil) ?_ ?_
     ·refine Ae Aa rfl ?_;refine Ag ⟨_,rfl,(fun u h=>by cases h),?_⟩;refine DD (i:=12) (i2:=14) [(50,.tuple #[Bz a8 n8 c8,.bool (decide (Ch s (X2 y)))])] [(8,.pointer (some ⟨b8,0,none⟩)),(61,Bz a8 n8 c8)] (.inl (by kernel_rfl)) (by kernel_rfl) rfl rfl (.cons rfl rfl .nil) (.cons rfl rfl (.cons rfl rfl .nil)) ?_ ?_
      ·refine Ae Aa rfl ?_;refine Ag ⟨_,rfl,(fun u h=>by cases h),?_⟩;refine AQ (i:=14) [(8,.pointer (some ⟨b8,0,none⟩)),(61,Bz a8 n8 c8)] (.inl (by kernel_rfl)) (by kernel_rfl) rfl (.cons rfl rfl (.cons rfl rfl .nil)) ?_;refine Ax Aa 0 rfl rfl rfl rfl rfl rfl ?_;refine Ag ⟨_,rfl,(fun u h=>by cases h),?_⟩;refine AQ (i:=15) [(62,.bool (decide (Ch s (X2 y))))] (.inl (by kernel_rfl)) (by kernel_rfl) rfl (.cons rfl rfl .nil) ?_;refine Ae Aa rfl ?_;refine Ag ⟨_,rfl,(fun u h=>by cases h),?_⟩;refine Ct [(0,AF pb),(7,.pointer (some ⟨b7,0,none⟩)),(8,.pointer (some ⟨b8,0,none⟩)),(9,.bool (decide (Ch s (X2 y))))] (by repeat (first |exact Bc.nil |refine Bc.cons rfl ?_)) ?_;refine Ad ?_;exact ⟨(a8,n8,c8,Fv,G1,b8),⟨hFv,hG1,hb8⟩,(by repeat (first |exact As.nil |refine As.cons rfl ?_)),fun w' hw=>hw.pm [1,0] rfl rfl rfl⟩
      ·refine Ax Aa 0 rfl rfl rfl rfl rfl rfl ?_;refine Ag ⟨_,rfl,(fun u h=>by cases h),?_⟩;refine AQ (i:=12) [(50,.tuple #[Bz a8 n8 c8,.bool (decide (Ch s (X2 y)))])] (.inl (by kernel_rfl)) (by kernel_rfl) rfl (.cons rfl rfl .nil) ?_;refine Ae Aa rfl ?_;refine Ag ⟨_,rfl,(fun u h=>by cases h),?_⟩;refine AQ (i:=15) [(62,.bool (decide (Ch s (X2 y))))] (.inl (by kernel_rfl)) (by kernel_rfl) rfl (.cons rfl rfl .nil) ?_;refine Ae Aa rfl ?_;refine Ag ⟨_,rfl,(fun u h=>by cases h),?_⟩;refine Ct [(0,AF pb),(7,.pointer (some ⟨b7,0,none⟩)),(8,.pointer (some ⟨b8,0,none⟩)),(9,.bool (decide (Ch s (X2 y))))] (by repeat (first |exact Bc.nil |refine Bc.cons rfl ?_)) ?_;refine Ad ?_;exact ⟨(a8,n8,c8,Fv,G1,b8),⟨hFv,hG1,hb8⟩,(by repeat (first |exact As.nil |refine As.cons rfl ?_)),fun w' hw=>hw.pm [1,0] rfl rfl rfl⟩
     ·refine Ae Aa rfl ?_;refine Ag ⟨_,rfl,(fun u h=>by cases h),?_⟩;refine AQ (i:=11) [(50,.tuple #[Bz a8 n8 c8,.bool (decide (Ch s (X2 y)))])] (.inl (by kernel_rfl)) (by kernel_rfl) rfl (.cons rfl rfl .nil) ?_;refine Ae Aa rfl ?_;refine Ag ⟨_,rfl,(fun u h=>by cases h),?_⟩;refine AQ (i:=14) [(8,.pointer (some ⟨b8,0,none⟩)),(61,Bz a8 n8 c8)] (.inl (by kernel_rfl)) (by kernel_rfl) rfl (.cons rfl rfl (.cons rfl rfl .nil)) ?_;refine Ax Aa 0 rfl rfl rfl rfl rfl rfl ?_;refine Ag ⟨_,rfl,(fun u h=>by cases h),?_⟩;refine AQ (i:=15) [(62,.bool (decide (Ch s (X2 y))))] (.inl (by kernel_rfl)) (by kernel_rfl) rfl (.cons rfl rfl .nil) ?_;refine Ae Aa rfl ?_;refine Ag ⟨_,rfl,(fun u h=>by cases h),?_⟩;refine Ct [(0,AF pb),(7,.pointer (some ⟨b7,0,none⟩)),(8,.pointer (some ⟨b8,0,none⟩)),(9,.bool (decide (Ch s (X2 y))))] (by repeat (first |exact Bc.nil |refine Bc.cons rfl ?_)) ?_;refine Ad ?_;exact ⟨(a8,n8,c8,Fv,G1,b8),⟨hFv,hG1,hb8⟩,(by repeat (first |exact As.nil |refine As.cons rfl ?_)),fun w' hw=>hw.pm [1,0] rfl rfl rfl⟩
   ·refine AY Aa rfl (fun b8 hb8=>?_);refine Ag ⟨_,rfl,(fun u h=>by cases h),?_⟩;refine AQ (i:=9) [(54,AF sb),(58,.int .i64 (now + y.la)),(59,.agg ⟨(X2 y).cs⟩)] (.inr (AL 3 rfl (AL 1 rfl AV))) (by kernel_rfl) rfl (.cons rfl rfl (.cons rfl rfl (.cons rfl rfl .nil))) ?_;refine N3 4 (X2 y) (xl.take 40) rfl rfl hN1 (fun w1 g1=>⟨Ff,hx2 w1 (g1.own _ (Af (i:=7) rfl)).1,fun k hk hF=>g1.dis 7 4 rfl rfl rfl rfl hk hF⟩) hn2 hcum2 hinc2 hlim2 (fun a8 n8 c8 Fv G1 hFv hG1=>⟨_,rfl,?_⟩);refine Ag ⟨_,rfl,(fun u h=>by cases h),?_⟩;refine AQ (i:=10) [(60,.tuple #[Bz a8 n8 c8,.bool (decide (Ch s (X2 y)))])] (.inl (by kernel_rfl)) (by kernel_rfl) rfl (.cons rfl rfl .nil) ?_;refine Ae Aa rfl ?_;refine Ag ⟨_,rfl,(fun u h=>by cases h),?_⟩;refine DD (i:=11) (i2:=12) [(50,.tuple #[Bz a8 n8 c8,.bool (decide (Ch s (X2 y)))])] [(50,.tuple #[Bz a8 n8 c8,.bool (decide (Ch s (X2 y)))])] (.inl (by kernel_rfl)) (by kernel_rfl) rfl rfl (.cons rfl rfl .nil) (.cons rfl rfl .nil) ?_ ?_
    ·refine Ae Aa rfl ?_;refine Ag ⟨_,rfl,(fun u h=>by cases h),?_⟩;refine DD (i:=12) (i2:=14) [(50,.tuple #[Bz a8 n8 c8,.bool (decide (Ch s (X2 y)))])] [(8,.pointer (some ⟨b8,0,none⟩)),(61,Bz a8 n8 c8)] (.inl (by kernel_rfl)) (by kernel_rfl) rfl rfl (.cons rfl rfl .nil) (.cons rfl rfl (.cons rfl rfl .nil)) ?_ ?_
     ·refine Ae Aa rfl ?_;refine Ag ⟨_,rfl,(fun u h=>by cases h),?_⟩;refine AQ (i:=14) [(8,.pointer (some ⟨b8,0,none⟩)),(61,Bz a8 n8 c8)] (.inl (by kernel_rfl)) (by kernel_rfl) rfl (.cons rfl rfl (.cons rfl rfl .nil)) ?_;refine Ax Aa 1 rfl rfl rfl rfl rfl rfl ?_;refine Ag ⟨_,rfl,(fun u h=>by cases h),?_⟩;refine AQ (i:=15) [(62,.bool (decide (Ch s (X2 y))))] (.inl (by kernel_rfl)) (by kernel_rfl) rfl (.cons rfl rfl .nil) ?_;refine Ae Aa rfl ?_;refine Ag ⟨_,rfl,(fun u h=>by cases h),?_⟩;refine Ct [(0,AF pb),(7,.pointer (some ⟨b7,0,none⟩)),(8,.pointer (some ⟨b8,0,none⟩)),(9,.bool (decide (Ch s (X2 y))))] (by repeat (first |exact Bc.nil |refine Bc.cons rfl ?_)) ?_;refine Ad ?_;exact ⟨(a8,n8,c8,Fv,G1,b8),⟨hFv,hG1,hb8⟩,(by repeat (first |exact As.nil |refine As.cons rfl ?_)),fun w' hw=>hw⟩
     ·refine Ax Aa 1 rfl rfl rfl rfl rfl rfl ?_;refine Ag ⟨_,rfl,(fun u h=>by cases h),?_⟩;refine AQ (i:=12) [(50,.tuple #[Bz a8 n8 c8,.bool (decide (Ch s (X2 y)))])] (.inl (by kernel_rfl)) (by kernel_rfl) rfl (.cons rfl rfl .nil) ?_;refine Ae Aa rfl ?_;refine Ag ⟨_,rfl,(fun u h=>by cases h),?_⟩;refine AQ (i:=15) [(62,.bool (decide (Ch s (X2 y))))] (.inl (by kernel_rfl)) (by kernel_rfl) rfl (.cons rfl rfl .nil) ?_;refine Ae Aa rfl ?_;refine Ag ⟨_,rfl,(fun u h=>by cases h),?_⟩;refine Ct [(0,AF pb),(7,.pointer (some ⟨b7,0,none⟩)),(8,.pointer (some ⟨b8,0,none⟩)),(9,.bool (decide (Ch s (X2 y))))] (by repeat (first |exact Bc.nil |refine Bc.cons rfl ?_)) ?_;refine Ad ?_;exact ⟨(a8,n8,c8,Fv,G1,b8),⟨hFv,hG1,hb8⟩,(by repeat (first |exact As.nil |refine As.cons rfl ?_)),fun w' hw=>hw⟩
    ·refine Ae Aa rfl ?_;refine Ag ⟨_,rfl,(fun u h=>by cases h),?_⟩;refine AQ (i:=11) [(50,.tuple #[Bz a8 n8 c8,.bool (decide (Ch s (X2 y)))])] (.inl (by kernel_rfl)) (by kernel_rfl) rfl (.cons rfl rfl .nil) ?_;refine Ae Aa rfl ?_;refine Ag ⟨_,rfl,(fun u h=>by cases h),?_⟩;refine AQ (i:=14) [(8,.pointer (some ⟨b8,0,none⟩)),(61,Bz a8 n8 c8)] (.inl (by kernel_rfl)) (by kernel_rfl) rfl (.cons rfl rfl (.cons rfl rfl .nil)) ?_;refine Ax Aa 1 rfl rfl rfl rfl rfl rfl ?_;refine Ag ⟨_,rfl,(fun u h=>by cases h),?_⟩;refine AQ (i:=15) [(62,.bool (decide (Ch s (X2 y))))] (.inl (by kernel_rfl)) (by kernel_rfl) rfl (.cons rfl rfl .nil) ?_;refine Ae Aa rfl ?_;refine Ag ⟨_,rfl,(fun u h=>by cases h),?_⟩;refine Ct [(0,AF pb),(7,.pointer (some ⟨b7,0,none⟩)),(8,.pointer (some ⟨b8,0,none⟩)),(9,.bool (decide (Ch s (X2 y))))] (by repeat (first |exact Bc.nil |refine Bc.cons rfl ?_)) ?_;refine Ad ?_;exact ⟨(a8,n8,c8,Fv,G1,b8),⟨hFv,hG1,hb8⟩,(by repeat (first |exact As.nil |refine As.cons rfl ?_)),fun w' hw=>hw⟩
  rintro ⟨a8,n8,c8,Fv,G1,b8⟩ ⟨hFv,hG1,hb8⟩;dsimp only at hFv hG1 hb8 ⊢;repeat (first |refine Ai ?_)
  refine BN (ι:=Option Addr × Nat × Nat × (Nat->Prop) × (Nat->Prop)) (fun q=>(∀ k,q.2.2.2.1 k->w0.heap.size <= k)/\∀ k,q.2.2.2.2 k->w0.heap.size <= k) (fun q=>[(0,AF pb),(8,.pointer (some ⟨b8,0,none⟩)),(9,.bool (decide (Ch s (X2 y)))),(10,.slice q.1 q.2.1 q.2.2.1),(11,.bool (decide (Ch s (X2 y))))])
   (fun q=>.rep (fun w=>((Az Bg).vp (if Ch s (X2 y) then (0,y.x.cum)::xl.take 40 else [])).at_ w q.2.2.2.1 (.slice q.1 q.2.1 q.2.2.1)) q.2.2.2.1 false::.rep (fun w=>(By (fun z=>Ch s (X2 y)/\EC (X2 y).cum (xl.take 40) z) ((X2 y).rn + 1)).at_ w Fv (Bz a8 n8 c8)) Fv false::.blk b8 (.cells ⟨[.slice a8 n8 c8]⟩ 52 (0,0)) true::.blk pb (.cells ⟨[AF sb,AF xb,.slice qa ql.length qc,.int .u64 last,.int .i64 (now + y.la)]⟩ 45 (0,0)) true::.rep (fun w=>(Io sb (s.rcv (X2 y) (xl.take 40))).at_ w G1 (.bool true)) G1 true::.rep (fun w=>(JL xb (s.rcv (X2 y) (xl.take 40))).at_ w q.2.2.2.2 (.bool true)) q.2.2.2.2 true::qE Fq qa qc ql::G4 Ff y.x.ra y.x.rn y.x.rc xl::G4 Fr y.ra y.rn y.rc rl::rest) ?_ ?_
  ·refine Ca ?_
   refine Ii (by kernel_rfl) (by kernel_rfl) [5,6,7,8,9,10,11] (by kernel_rfl) (by kernel_rfl) (by kernel_rfl) (by kernel_rfl) [.blk pb (.cells ⟨[AF sb,AF xb,.slice qa ql.length qc,.int .u64 last,.int .i64 (now + y.la)]⟩ 45 (0,0)) false,.blk b7 (.cells ⟨(X2 y).cs⟩ 36 (0,0)) false] (CF (CF DQ))
    [some (AF pb),some (.pointer (some ⟨pb,0,none⟩)),some (.pointer (some ⟨pb,0 + 1,none⟩)),some (AF xb),some (.agg ⟨(X2 y).cs⟩),none,none,none,none,none,none,none]
    ⟨.inr ⟨_,_,rfl,rfl,fun w f=>Ah Aa rfl Aj⟩,.inr ⟨_,_,rfl,rfl,fun w f=>Ah Aa rfl Aj⟩,.inr ⟨_,_,rfl,rfl,fun w f=>Ah Aa rfl Aj⟩,.inr ⟨_,_,rfl,rfl,fun w f=>AE Aa 0 rfl rfl rfl Aj⟩,.inr ⟨_,_,rfl,rfl,fun w f=>AE Aa 1 rfl rfl rfl Aj⟩,.inl rfl,.inl rfl,.inl rfl,.inl rfl,.inl rfl,.inl rfl,.inl rfl,trivial⟩ ?_
   refine AQ (i:=5) [(68,.agg ⟨(X2 y).cs⟩)] (.inr (AL 4 rfl (AL 2 rfl AV))) (by kernel_rfl) rfl (.cons rfl rfl .nil) ?_;refine Dp (Xs (X2 y) (xl.take 40)) (fun _=>False) rfl Tryz.call28 (fun w1 g1=>(PN (x:=X2 y) (hx2 w1 (g1.own _ (Af (i:=8) rfl)).1) hk hn2).mono fun e w' ⟨a',c',e1,e2,e3⟩=>⟨_,e1,e2,Sj g1 ⟨a',c',rfl,e3⟩⟩) (fun v9 Fa w9 hFa hv9=>?_);obtain ⟨a9,c9,rfl,_⟩:=hv9;refine Ag ⟨_,rfl,(fun u h=>by cases h),?_⟩;refine AQ (i:=6) [(67,AF xb),(69,.agg ⟨Fm.cs2 { X2 y with ra:=a9,rc:=c9}⟩)] (.inr (AL 5 rfl (AL 3 rfl AV))) (by kernel_rfl) rfl (.cons rfl rfl (.cons rfl rfl .nil)) ?_;refine UH 7 { X2 y with ra:=a9,rc:=c9} (xl.take 40) rfl rfl hN2 (fun w1 g1=>⟨Fa,RE (x:=X2 y) (g1.own _ (Af (i:=0) rfl)).1,fun k hk hF=>g1.dis 0 7 rfl rfl rfl rfl hk hF⟩) hn2 hcum2 hinc2 hlim2 (fun a10 n10 c10 Fw G2 hFw hG2=>⟨_,rfl,?_⟩);refine Ag ⟨_,rfl,(fun u h=>by cases h),?_⟩;refine AQ (i:=7) [(70,.tuple #[.slice a10 n10 c10,.bool (decide (Ch s (X2 y)))])] (.inl (by kernel_rfl)) (by kernel_rfl) rfl (.cons rfl rfl .nil) ?_;refine Ae Aa rfl ?_;refine Ag ⟨_,rfl,(fun u h=>by cases h),?_⟩;refine DD (i:=8) (i2:=9) [(63,.tuple #[.slice a10 n10 c10,.bool (decide (Ch s (X2 y)))])] [(63,.tuple #[.slice a10 n10 c10,.bool (decide (Ch s (X2 y)))])] (.inl (by kernel_rfl)) (by kernel_rfl) rfl rfl (.cons rfl rfl .nil) (.cons rfl rfl .nil) ?_ ?_
   ·refine Ae Aa rfl ?_;refine Ag ⟨_,rfl,(fun u h=>by cases h),?_⟩;refine DD (i:=9) (i2:=10) [(63,.tuple #[.slice a10 n10 c10,.bool (decide (Ch s (X2 y)))])] [(71,.slice a10 n10 c10)] (.inl (by kernel_rfl)) (by kernel_rfl) rfl rfl (.cons rfl rfl .nil) (.cons rfl rfl .nil) ?_ ?_
    ·refine Ae Aa rfl ?_;refine Ag ⟨_,rfl,(fun u h=>by cases h),?_⟩;refine AQ (i:=10) [(71,.slice a10 n10 c10)] (.inl (by kernel_rfl)) (by kernel_rfl) rfl (.cons rfl rfl .nil) ?_;refine Ae Aa rfl ?_;refine Ag ⟨_,rfl,(fun u h=>by cases h),?_⟩;refine AQ (i:=11) [(72,.bool (decide (Ch s (X2 y))))] (.inl (by kernel_rfl)) (by kernel_rfl) rfl (.cons rfl rfl .nil) ?_;refine Ae Aa rfl ?_;refine Ag ⟨_,rfl,(fun u h=>by cases h),?_⟩;refine Ct [(0,AF pb),(8,.pointer (some ⟨b8,0,none⟩)),(9,.bool (decide (Ch s (X2 y)))),(10,.slice a10 n10 c10),(11,.bool (decide (Ch s (X2 y))))] (by repeat (first |exact Bc.nil |refine Bc.cons rfl ?_)) ?_;refine Ad ?_;exact ⟨(a10,n10,c10,Fw,G2),⟨hFw,hG2⟩,(by repeat (first |exact As.nil |refine As.cons rfl ?_)),fun w' hw=>hw.less (by repeat (first |refine Au.keep ?_ |refine Au.dropR ?_ |refine Au.dropB (by first |assumption |omega) ?_ |exact Bp _))⟩
    ·refine Ae Aa rfl ?_;refine Ag ⟨_,rfl,(fun u h=>by cases h),?_⟩;refine AQ (i:=9) [(63,.tuple #[.slice a10 n10 c10,.bool (decide (Ch s (X2 y)))])] (.inl (by kernel_rfl)) (by kernel_rfl) rfl (.cons rfl rfl .nil) ?_;refine Ae Aa rfl ?_;refine Ag ⟨_,rfl,(fun u h=>by cases h),?_⟩;refine AQ (i:=11) [(72,.bool (decide (Ch s (X2 y))))] (.inl (by kernel_rfl)) (by kernel_rfl) rfl (.cons rfl rfl .nil) ?_;refine Ae Aa rfl ?_;refine Ag ⟨_,rfl,(fun u h=>by cases h),?_⟩;refine Ct [(0,AF pb),(8,.pointer (some ⟨b8,0,none⟩)),(9,.bool (decide (Ch s (X2 y)))),(10,.slice a10 n10 c10),(11,.bool (decide (Ch s (X2 y))))] (by repeat (first |exact Bc.nil |refine Bc.cons rfl ?_)) ?_;refine Ad ?_;exact ⟨(a10,n10,c10,Fw,G2),⟨hFw,hG2⟩,(by repeat (first |exact As.nil |refine As.cons rfl ?_)),fun w' hw=>hw.less (by repeat (first |refine Au.keep ?_ |refine Au.dropR ?_ |refine Au.dropB (by first |assumption |omega) ?_ |exact Bp _))⟩
   ·refine Ae Aa rfl ?_;refine Ag ⟨_,rfl,(fun u h=>by cases h),?_⟩;refine AQ (i:=8) [(63,.tuple #[.slice a10 n10 c10,.bool (decide (Ch s (X2 y)))])] (.inl (by kernel_rfl)) (by kernel_rfl) rfl (.cons rfl rfl .nil) ?_;refine Ae Aa rfl ?_;refine Ag ⟨_,rfl,(fun u h=>by cases h),?_⟩;refine AQ (i:=10) [(71,.slice a10 n10 c10)] (.inl (by kernel_rfl)) (by kernel_rfl) rfl (.cons rfl rfl .nil) ?_;refine Ae Aa rfl ?_;refine Ag ⟨_,rfl,(fun u h=>by cases h),?_⟩;refine AQ (i:=11) [(72,.bool (decide (Ch s (X2 y))))] (.inl (by kernel_rfl)) (by kernel_rfl) rfl (.cons rfl rfl .nil) ?_;refine Ae Aa rfl ?_;refine Ag ⟨_,rfl,(fun u h=>by cases h),?_⟩;refine Ct [(0,AF pb),(8,.pointer (some ⟨b8,0,none⟩)),(9,.bool (decide (Ch s (X2 y)))),(10,.slice a10 n10 c10),(11,.bool (decide (Ch s (X2 y))))] (by repeat (first |exact Bc.nil |refine Bc.cons rfl ?_)) ?_;refine Ad ?_;exact ⟨(a10,n10,c10,Fw,G2),⟨hFw,hG2⟩,(by repeat (first |exact As.nil |refine As.cons rfl ?_)),fun w' hw=>hw.less (by repeat (first |refine Au.keep ?_ |refine Au.dropR ?_ |refine Au.dropB (by first |assumption |omega) ?_ |exact Bp _))⟩
  rintro ⟨a10,n10,c10,Fw,G2⟩ ⟨hFw,hG2⟩;dsimp only at hFw hG2 ⊢
  obtain ⟨L,hL⟩:∃ L,L=if Ch s (X2 y) then (0,y.x.cum)::xl.take 40 else []:=⟨_,rfl⟩
  have hLm:∀ z,Cs L z ↔ Ch s (X2 y)/\EC (X2 y).cum (xl.take 40) z:=fun z=>by
   rw [hL];by_cases hkn:Ch s (X2 y)
   ·rw [if_pos hkn]
    have h9:Cs ((0,y.x.cum)::xl.take 40) z ↔ EC (X2 y).cum (xl.take 40) z:=by
     unfold EC Cs;simp
    exact h9.trans ⟨fun h=>⟨hkn,h⟩,fun h=>h.2⟩
   ·rw [if_neg hkn];exact ⟨fun h=>absurd h (CB z),fun h=>absurd h.1 hkn⟩
  have hLl:L.length <= 41:=by
   rw [hL];split
   ·rw [List.length_cons,List.length_take];omega
   ·exact Nat.zero_le _
  rw [<-hL];repeat (first |refine Ai ?_ |refine Ab ?_ |refine Ag ?_ |refine Ae Aa rfl ?_ |refine An Aa 2 rfl rfl rfl ?_)
  refine Dp (JD (fun z=>Ch s (X2 y)/\EC (X2 y).cum (xl.take 40) z) ((X2 y).rn + 1)) (fun _=>False) rfl Tryz.call29 (fun w1 g1=>(Vc w1 (g1.own _ (Af (i:=1) rfl)).1 (by omega)).mono fun e w' ⟨r,e1,e2,e3⟩=>⟨r,e1,e2,Sj g1 e3⟩) (fun v13 Fs w13 hFs hv13=>?_);obtain ⟨a13,n13,c13,rfl⟩:=Mv hv13
  refine Lq (ι:=List BS) (fun m=>(Eu m/\∀ z,Cs m z ↔ Ch s (X2 y)/\EC (X2 y).cum (xl.take 40) z)/\m.length=n13/\n13 <= 41/\KT m) (fun m=>.rep (fun w=>((Az Bg).vp m).at_ w Fs (.slice a13 n13 c13)) Fs false::.rep (fun w=>((Az Bg).vp L).at_ w Fw (.slice a10 n10 c10)) Fw false::.blk pb (.cells ⟨[AF sb,AF xb,.slice qa ql.length qc,.int .u64 last,.int .i64 (now + y.la)]⟩ 45 (0,0)) true::.rep (fun w=>(Io sb (s.rcv (X2 y) (xl.take 40))).at_ w G1 (.bool true)) G1 true::.rep (fun w=>(JL xb (s.rcv (X2 y) (xl.take 40))).at_ w G2 (.bool true)) G2 true::qE Fq qa qc ql::G4 Ff y.x.ra y.x.rn y.x.rc xl::G4 Fr y.ra y.rn y.rc rl::rest) (fun w' hw=>by
   obtain ⟨a',n',c',m,e,h1,h2,h3,h4⟩:=GF (hw.own _ (Af (i:=0) rfl)).1;cases e
   have hrn:(X2 y).rn + 1 <= 41:=by show min y.x.rn 40 + 1 <= 41;omega
   exact ⟨m,⟨⟨h1,h2⟩,h4.len,by have:=h4.len;omega,Dl h4⟩,(hw.mapI 0 rfl (Ψ:=fun w=>((Az Bg).vp m).at_ w Fs (.slice a13 n13 c13)) (fun _=>h4.val) (Vp.loc (p:=(Az Bg).vp m)) rfl).less (by repeat (first |refine Au.keep ?_ |refine Au.dropR ?_ |refine Au.dropB (by first |assumption |omega) ?_ |exact Bp _))⟩) ?_
  rintro m ⟨⟨hcan,hmm⟩,hml,hn41,hmok⟩;repeat (first |refine Aq ?_ |refine Ag ?_ |refine Ae Aa rfl ?_)
  refine AM (ι:=Nat × Option Addr × Nat) (fun q=>[(0,AF pb),(9,.bool (decide (Ch s (X2 y)))),(10,.slice a10 n10 c10),(11,.bool (decide (Ch s (X2 y)))),(74,.slice a13 n13 c13),(75,.int .i64 (n13:Int)),(76,.int .i64 (q.1:Int)),(12,.slice q.2.1 q.1 q.2.2)])
   (fun q=>.row w0.heap.size (.slice q.2.1 q.1 q.2.2) 83 2 q.1 (Bq (m.take q.1))::.rep (fun w=>((Az Bg).vp m).at_ w Fs (.slice a13 n13 c13)) Fs false::.rep (fun w=>((Az Bg).vp L).at_ w Fw (.slice a10 n10 c10)) Fw false::.blk pb (.cells ⟨[AF sb,AF xb,.slice qa ql.length qc,.int .u64 last,.int .i64 (now + y.la)]⟩ 45 (0,0)) true::.rep (fun w=>(Io sb (s.rcv (X2 y) (xl.take 40))).at_ w G1 (.bool true)) G1 true::.rep (fun w=>(JL xb (s.rcv (X2 y) (xl.take 40))).at_ w G2 (.bool true)) G2 true::qE Fq qa qc ql::G4 Ff y.x.ra y.x.rn y.x.rc xl::G4 Fr y.ra y.rn y.rc rl::rest)
   (fun q=>q.1 <= n13) (fun q=>n13 - q.1) (0,none,0) (Nat.zero_le _) (by repeat (first |exact As.nil |refine As.cons rfl ?_)) (fun w' hw=>hw.nilRow _ _) ?_
  rintro ⟨i,a12,c12⟩ hi;dsimp only at hi ⊢;repeat (first |refine Ai ?_ |refine Ab ?_ |refine Ag ?_ |refine Ae Aa rfl ?_)
  refine Ak rfl (fun hlt=>?_) (fun hge=>?_)
  ·have hi':i < m.length:=by omega
   refine EY (X:=∃ b off,a13=some ⟨b,off,none⟩) (fun w1 g1=>by
    have h9:Br Bg w1 Fs a13 n13 c13 m:=Br.of_val (g1.own _ (Af (i:=1) rfl)).1;obtain ⟨b,off,cs,e,_⟩:=h9.get_ hi'
    exact ⟨b,off,e⟩) (fun ⟨rb,ro,hre⟩=>?_)
   subst hre;repeat (first |refine Ai ?_ |refine Ab ?_ |refine Aq ?_ |refine Ad ?_ |refine Ao ?_)
   refine BE (Bs (sz:=2) Aa rfl rfl rfl rfl rfl rfl rfl rfl (j:=i) (by omega)) ?_;refine BR Aa (vs:=C6 m[i]) rfl rfl rfl (fun w' hw=>B7 (Br.of_val (hw.own _ (Af (i:=1) rfl)).1) hi') ?_;refine AY Aa rfl (fun b14 hb14=>?_);repeat (first |refine Ag ?_ |refine Ae Aa rfl ?_ |refine Ap ?_ |refine An Aa 0 rfl rfl rfl ?_ |refine Ax Aa 0 rfl rfl rfl rfl rfl rfl ?_)
   refine AO Aa rfl rfl rfl rfl rfl rfl rfl rfl rfl rfl rfl rfl (fun b15 hb15=>?_);refine AT (ty:=0) Aa 2 (k:=1) (news:=Bq [m[i]]) rfl rfl rfl rfl rfl rfl rfl rfl rfl (by decide) (fun w' hw=>Sl.of_blk (hw.own _ (Af (i:=0) rfl)) rfl (fun j u hu=>by rw [Nat.zero_add];exact hu)) (De _) (by simp only [maxLen];omega) (by show (_ + _) * 16 <= _;omega) rfl (fun A1 C1 hc3 hd3=>⟨_,rfl,?_⟩);rw [<-CY,<-List.take_succ_eq_append_getElem hi'];repeat (first |refine Ab ?_ |refine Ag ?_ |refine Ad ?_ |refine Am ?_ |refine AD Aa rfl (by omega) ?_ |refine Ae Aa rfl ?_)
   exact ⟨(i + 1,A1,C1),by show i + 1 <= n13;omega,(by repeat (first |exact As.nil |refine As.cons rfl ?_)),fun w' hw=>hw.less (by repeat (first |refine Au.keep ?_ |refine Au.dropB (by first |assumption |omega) ?_ |exact Bp _)),by show n13 - (i + 1) < n13 - i;omega⟩
  have hie:i=n13:=by omega
  subst hie;rw [List.take_of_length_le (by omega)];repeat (first |refine Ai ?_ |refine Ab ?_ |refine Ad ?_ |refine AB ?_ |refine Al ?_ |refine AH ?_ |refine Ae Aa rfl ?_)
  refine BE (XC Aa rfl rfl rfl rfl rfl) ?_;repeat (first |refine Ae Aa rfl ?_)
  refine Co 88 (v':=.bool true) rfl (congrArg Value.bool (by simp)) ?_;repeat (first |refine Ae Aa rfl ?_)
  refine Dp (JD (Cs L) L.length) (fun _=>False) rfl Tryz.call31 (fun w1 g1=>(SV L w1 (g1.own _ (Af (i:=2) rfl)).1 (by omega)).mono fun e w' ⟨r,e1,e2,e3⟩=>⟨r,e1,e2,Sj g1 e3⟩) (fun v16 Fp w16 hFp hv16=>?_);obtain ⟨a16,n16,c16,rfl⟩:=Mv hv16;refine Be (v:=.bool true) rfl Tryz.call30 (fun w1 g1=>SI w1 (Oj (B:=m.length) (S:=fun z=>Ch s (X2 y)/\EC (X2 y).cum (xl.take 40) z) (A:=TT) hcan hmm (Nat.le_refl _) (Br.of_row Cz (g1.own (.row w0.heap.size (.slice a12 i c12) 83 2 i (Bq m)) (Af (i:=1) rfl)) hml hmok (fun _ _ _=>trivial))) (g1.own _ (Af (i:=0) rfl)).1 fun z=>(hLm z).symm) ?_;repeat (first |refine Ag ?_ |refine BQ ?_ |refine AI ?_ |refine AC ?_ |refine Ae Aa rfl ?_)
  refine AZ rfl rfl (fun w' hw=>⟨ql,last,qa,qc,G1,G2,Fq,rfl,hqb.up (Nat.le_succ _),G7.sub (List.Sublist.refl _),⟨hG1,hG2,hNq⟩,?_⟩);rw [doS,if_neg hgt,if_pos h3];exact hw.less (by repeat (first |refine Au.keep ?_ |refine Au.dropR ?_ |refine Au.dropW (Nat.le_refl _) ?_ |exact Bp _))
 ·repeat (first |refine Ai ?_ |refine Ab ?_ |refine Ad ?_ |refine Am ?_ |refine Ao ?_ |refine Ae Aa rfl ?_ |refine An Aa 0 rfl rfl rfl ?_)
  refine B0 (fun w' hw=>hw.pm [1,2,3,4,6,0,5] rfl rfl rfl) ?_;refine A7 rfl Tryz.call11 (fun w1 g1=>(Pn (p:=⟨s,ql,last,now + y.la⟩) (y:=y) (rl:=rl) g1 hNq hqb hM hd hnn hsz).mono fun e w' ⟨ql2,last2,qa2,qc2,Fq2,he,k1,ku,k2,h9⟩=>⟨_,_,he,h9,?_⟩);repeat (first |refine Ai ?_ |refine Ab ?_ |refine Ag ?_ |refine AC ?_ |refine Ae Aa rfl ?_)
  refine AZ rfl rfl (fun w' hw=>⟨ql2,last2,qa2,qc2,F1,F2,Fq2,rfl,k1,ku,⟨hN1,hN2,k2⟩,?_⟩);rw [doS,if_neg hgt,if_neg (by omega)];exact (hw.pm [0,1,2,3,6,4,5] rfl rfl rfl).less (by repeat (first |refine Au.keep ?_ |refine Au.dropB (by first |assumption |omega) ?_ |exact Bp _))
end
section
variable {n:Nat} {w0 w:World} {all:Array Oper} {os:List Oper} {o:Oper} {l:FL} {ol rest:OL} {K:FL->OL->Prop} {Q:B3} {d:Nat}
theorem WG {f m p q ep:Int} (hc:cR f m p q) (he:AS .u64 ep/\ep ≠ 0) (hs:BL n all (AP l) o=some (d,26,[.int .i64 f,.int .i64 m,.int .i64 p,.int .i64 q,.int .u64 ep]))
 (k:∀ sb (F:Nat->Prop),(∀ k,F k->w0.heap.size <= k)->S Tryz.prog n w0 all os ((d,AF sb)::l) (.rep (fun w=>(JL sb ⟨f,m,p,q,ep,false,0,0,0,0,[],0⟩).at_ w F (.bool true)) F true::ol) K Q):S Tryz.prog n w0 all (o::os) l ol K Q:=
 Jr hs Tryz.call26 fun w1 h1=>(Vd f m p q ep hc he w1).mono fun e w' ⟨sb,F,e1,e2,e3⟩=>⟨_,_,F,e1,e3,e2,fun hN=>k sb F hN⟩
set_option maxHeartbeats 4000000 in
theorem ST (h:Hp w0 w rest) {f m p q ep:Int} (hc:cR f m p q) (he:AS .u64 ep/\ep ≠ 0):Calls Tryz.prog 9 #[.agg ⟨[.int .i64 f,.int .i64 m,.int .i64 p,.int .i64 q]⟩,.int .u64 ep] w fun e w'=>∃ (pb sb xb:Nat) (F1 F2:Nat->Prop),e= .returned (AF pb)/\w0.heap.size <= pb/\(∀ k,F1 k->w0.heap.size <= k)/\(∀ k,F2 k->w0.heap.size <= k)/\
 Hp w0 w' (Qr pb sb xb ⟨⟨f,m,p,q,ep,false,0,0,0,0,[],0⟩,[],0,0⟩ none 0 F1 F2 (fun _=>False) ++ rest):=by
 refine GP Tryz.func9 rfl rfl h ?_;repeat (first |refine Ai ?_ |refine Ab ?_)
 refine AY Aa rfl (fun b2 hb2=>?_);repeat (first |refine Ai ?_ |refine Ab ?_ |refine Ag ?_ |refine Ae Aa rfl ?_ |refine An Aa 0 rfl rfl rfl ?_)
 refine RW ⟨hc,he.2⟩ he.1 rfl (fun sb F1 hN1=>?_);repeat (first |refine Ai ?_ |refine Ab ?_ |refine Ag ?_ |refine Ae Aa rfl ?_)
 refine Ak rfl (fun h=>absurd rfl h) (fun _=>?_);repeat (first |refine Ai ?_ |refine Ab ?_ |refine Ad ?_ |refine Ao ?_ |refine Ae Aa rfl ?_ |refine An Aa 1 rfl rfl rfl ?_)
 refine WG hc he rfl (fun xb F2 hN2=>?_);repeat (first |refine BE (Bf Aa rfl rfl rfl rfl rfl rfl rfl) ?_)
 refine AY Aa rfl (fun pb hpb=>?_);repeat (first |refine Ag ?_ |refine AC ?_ |refine Ae Aa rfl ?_)
 refine AZ rfl rfl (fun w' hw=>⟨pb,sb,xb,F1,F2,rfl,hpb,hN1,hN2,?_⟩);exact ((hw.none (p:=Si 64 2 0 []) (v:=.slice none 0 0) (fun w=>⟨⟨rfl,.inl ⟨rfl,rfl⟩⟩,fun k hk=>by simp [Value.ownBlock] at hk⟩) true).pm [1,3,2,0] rfl rfl rfl).less (by repeat (first |refine Au.keep ?_ |refine Au.dropB (by first |assumption |omega) ?_ |exact Bp _))
end
abbrev U1:=Int × (Int × (Int × (Int × (Int × (Int × (Int × (List BS × List (Int × (Int × List Int)))))))))
abbrev Xz:Eh (Int × (Int × List Int)):=C5 (A8 .u64) (C5 (A8 .i64) (Az (A8 .u8)))
abbrev XA:Eh U1:=C5 (A8 .u8) (C5 (A8 .i64) (C5 (A8 .u64) (C5 (A8 .u64) (C5 (A8 .u64) (C5 (A8 .u64) (C5 (A8 .u64) (C5 (Az Bg) (Az Xz))))))))
abbrev Sf:=Int × (Int × (U1 × (Int × (Int × List BS))))
abbrev R5:Eh Sf:=C5 (A8 .u8) (C5 (A8 .u8) (C5 XA (C5 (A8 .u8) (C5 (A8 .u16) (Az Bg)))))
structure Yf (y:Ac):Prop where
 d:AS .u8 y.d
 la:AS .u8 y.la
 nn:AS .u8 y.nn
 sz:AS .u16 y.sz
 k:AS .u8 y.x.k
 ep:AS .u64 y.x.ep
 inc:AS .u64 y.x.inc
 cum:AS .u64 y.x.cum
 lim:AS .u64 y.x.lim
theorem RT {w:World} {A:Nat->Prop} {a:Option Addr} {n c:Nat} {acts:List Sf} (h:Br R5 w A a n c acts) {i:Nat} (hi:i < acts.length):∃ (ab off:Nat) (y:Ac) (xl rl:List BS),a=some ⟨ab,off,none⟩/\Yf y/\Br Bg w A y.x.ra y.x.rn y.x.rc xl/\Br Bg w A y.ra y.rn y.rc rl/\∀ w':World,Below w.heap.size w w'->∀ j u,y.cs[j]? =some u->w'.cell? ⟨ab,off + i * 14 + j,none⟩=some u:=by
 obtain ⟨ab,off,cs,e,hlt,hat,_,hce,_⟩:=h.get_ (i:=i) hi;obtain ⟨_,_,rfl,⟨rfl,h1⟩,_,_,rfl,⟨rfl,h2⟩,_,_,rfl,⟨_,_,rfl,⟨rfl,g1⟩,_,_,rfl,⟨rfl,g2⟩,_,_,rfl,⟨rfl,g3⟩,_,_,rfl,⟨rfl,g4⟩,_,_,rfl,⟨rfl,g5⟩,_,_,rfl,⟨rfl,g6⟩,_,_,rfl,⟨rfl,g7⟩,_,_,rfl,⟨fa,fn,fc,rfl,hf⟩,xa,xn,xc,rfl,hx⟩,_,_,rfl,⟨rfl,h3⟩,_,_,rfl,⟨rfl,h4⟩,ra,rn,rc,rfl,hr⟩:=hat;exact ⟨ab,off,⟨acts[i].1,acts[i].2.1,⟨acts[i].2.2.1.1,acts[i].2.2.1.2.1,acts[i].2.2.1.2.2.1,acts[i].2.2.1.2.2.2.1,acts[i].2.2.1.2.2.2.2.1,acts[i].2.2.1.2.2.2.2.2.1,acts[i].2.2.1.2.2.2.2.2.2.1,fa,fn,fc,xa,xn,xc⟩,acts[i].2.2.2.1,acts[i].2.2.2.2.1,ra,rn,rc⟩,_,_,e,⟨h1,h2,h3,h4,g1,g3,g4,g6,g7⟩,hf,hr,fun w' hb j u hu=>(hb.cell (p:=⟨ab,off + i * 14 + j,none⟩) hlt).trans (hce j u hu)⟩
def Bo.cf (s:Bo):Int × Int × Int × Int × Int:=(s.f,s.m,s.p,s.q,s.ep)
theorem Oe (s:Bo) (now:Int) (ql:List (Int × Int)):(s.tick now ql).cf=s.cf:=by
 have h1:(s.open_ now ql).cf=s.cf:=by
  obtain ⟨a1,a2,a3,a4,a5,_⟩:=Bo.sendAll_eq now (((s.keep_ (ql.map (·.1))).due_ now).batch now ql) ((s.keep_ (ql.map (·.1))).due_ now);show (_,_,_,_,_)=(_,_,_,_,_);unfold Bo.open_;rw [a1,a2,a3,a4,a5];rfl
 have h2:∀ t:Bo,(t.try_ now).cf=t.cf:=fun t=>by
  unfold Bo.try_;split<;>rfl
 unfold Bo.tick;split
 ·split
  ·exact h1
  ·rw [h2];exact h1
 ·rw [h2];rfl
theorem Vf (s:Bo) (x:Fm) (rl:List BS):(s.rcv x rl).cf=s.cf:=by
 unfold Bo.rcv;split
 ·split
  ·rfl
  ·split<;>rfl
 ·rfl
theorem Wp (y:Ac) (xl:List BS) (p:UZ):(doS y xl p).cf=p.s.cf:=by
 unfold doS;split
 ·exact Oe _ _ _
 ·split
  ·exact Vf _ _ _
  ·rfl
end Go.Proofs.YtidhpofcofknhaaGreat
