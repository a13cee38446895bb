/-
  A pair of senders: what bounds hold while it goes on. Conditions: each theorem's own.
-/
import Derived.Test.YtidhpofcofknhaaGreatSxF
namespace Go.Proofs.YtidhpofcofknhaaGreat
open Go Go.RowKit
set_option linter.unusedVariables false
theorem OC:∀ {gs:List BG},I9 gs->gs.length <= (AA gs).length
 | [],_=>Nat.zero_le _
 |g::gs,h=>by
  have ih:=OC (gs:=gs) fun x hx=>h x (List.mem_cons_of_mem _ hx);have h1:g.L.length ≠ 0:=fun e=>h g List.mem_cons_self (List.eq_nil_of_length_eq_zero e)
  have h2:(AA (g::gs)).length=g.L.length + (AA gs).length:=by unfold AA;simp
  rw [h2,List.length_cons];omega
theorem IG (p lim:Int) (nums:List Int):∀ (l:List (Int × Int)) (st:De),(Ev p lim nums l st).out.flatten.length + (Ev p lim nums l st).cur.length <= st.out.flatten.length + st.cur.length + st.room.toNat
 | [],st=>Nat.le_add_right _ _
 |x::l,st=>by
  rw [Ev];split
  ·exact Nat.le_add_right _ _
  ·rename_i h;split
   ·exact IG p lim nums l st
   ·refine Nat.le_trans (IG p lim nums l _) ?_
    have h1:(BR p x st).out.flatten.length + (BR p x st).cur.length=st.out.flatten.length + st.cur.length/\(BR p x st).room=st.room:=by
     unfold BR;split
     ·refine ⟨?_,rfl⟩;show (st.out ++ [st.cur]).flatten.length + 0=_;rw [List.flatten_append,List.length_append];simp
     ·exact ⟨rfl,rfl⟩
    have h2:¬ st.room <= 0:=fun e=>h (.inl e);show (BR p x st).out.flatten.length + ((BR p x st).cur ++ [x.1]).length + ((BR p x st).room - 1).toNat <= _;rw [List.length_append,h1.2];show (BR p x st).out.flatten.length + ((BR p x st).cur.length + 1) + (st.room - 1).toNat <= _;omega
theorem NB (p q lim:Int) (nums:List Int) (l:List (Int × Int)):(Dy p q lim nums l).flatten.length <= (q - (nums.length:Int)).toNat:=by
 have h:=IG p lim nums l (Da q nums);unfold Dy;rw [List.flatten_append,List.length_append]
 have h1:((if 0 < ((Ev p lim nums l (Da q nums)).cur.length:Int) then [(Ev p lim nums l (Da q nums)).cur] else []):List (List Int)).flatten.length <= (Ev p lim nums l (Da q nums)).cur.length:=by
  split<;>simp
 have h2:(Da q nums).out.flatten.length + (Da q nums).cur.length + (Da q nums).room.toNat=(q - (nums.length:Int)).toNat:=by
  show 0 + 0 + (q - (nums.length:Int)).toNat=_;omega
 omega
structure FM (N:Nat) (s:Bn):Prop where
 nums:(AA s.gs).length <= 1024
 last:s.last <= (N:Int) * 1024
 tries:∀ g ∈ s.gs,g.tries <= (N:Int) + 1
 tr:s.tr <= (N:Int)
theorem FM.up {N M:Nat} {s:Bn} (h:FM N s) (hm:N <= M):FM M s:=⟨h.nums,by have:=h.last;omega,fun g hg=>by have:=h.tries g hg;omega,by have:=h.tr;omega⟩
theorem Bn.sendAll_tries (now B:Int) (hB:1 <= B):∀ (LL:List (List Int)) (s:Bn),(∀ g ∈ s.gs,g.tries <= B)->∀ g ∈ (s.sendAll now LL).gs,g.tries <= B
 | [],_,h=>h
 |L::LL,s,h=>Bn.sendAll_tries now B hB LL (s.send_ now L) fun g hg=>by
  have h1:g ∈ (B5 s.f s.m s.gs s.last now L).1:=hg;unfold B5 at h1;split at h1
  ·exact h g h1
  ·rcases List.mem_append.1 h1 with h1 |h1
   ·exact h g h1
   ·rw [List.mem_singleton] at h1;rw [h1];exact hB
theorem FM.keep {N:Nat} {s:Bn} (h:FM N s) (qs:List Int):FM N (s.keep_ qs) where
 nums:=by
  show (AA (Eh s.gs _)).length <= _;rw [GI];exact Nat.le_trans (List.length_filter_le _ _) h.nums
 last:=h.last
 tries:=fun g hg=>by
  obtain ⟨x,hx,rfl⟩:=Gi hg;exact h.tries x hx
 tr:=h.tr
theorem FM.due {N:Nat} {s:Bn} (h:FM N s) (now:Int):FM (N + 1) (s.due_ now) where
 nums:=by
  show (AA (Ej s.f s.m now s.gs)).length <= _;rw [II];exact h.nums
 last:=by have:=h.last;show s.last <= _;omega
 tries:=fun g hg=>by
  obtain ⟨x,hx,rfl⟩:=List.mem_map.1 hg;have:=h.tries x hx;split
  ·show x.tries + 1 <= _;omega
  ·omega
 tr:=by have:=h.tr;show s.tr <= _;omega
theorem FM.try_ {N:Nat} {s:Bn} (h:FM N s) (now:Int):FM (N + 1) (s.try_ now):=by
 unfold Bn.try_;have h1:=h.last;have h2:=h.tr;split
 ·exact ⟨h.nums,by show s.last <= _;omega,fun g hg=>by have:=h.tries g hg;omega,by show s.tr + 1 <= _;omega⟩
 ·exact h.up (Nat.le_succ _)
theorem FM.calm {N:Nat} {s:Bn} (h:FM N s):FM N s.calm_:=⟨h.nums,h.last,h.tries,by show (0:Int) <= _;omega⟩
theorem FM.open_ {N:Nat} {s:Bn} (h:FM N s) (hq:s.q <= 1024) (now:Int) {ql:List (Int × Int)} (hl:ql.length <= 1000):FM (N + 1) (s.open_ now ql):=by
 obtain ⟨s2,hs2⟩:∃ s2,s2=(s.keep_ (ql.map (·.1))).due_ now:=⟨_,rfl⟩
 have h2:FM (N + 1) s2:=by rw [hs2];exact (h.keep _).due now
 have hq2:s2.q <= 1024:=by rw [hs2];exact hq
 have hl2:s2.last=s.last:=by rw [hs2];rfl
 have ht2:s2.tr=s.tr:=by rw [hs2];rfl
 obtain ⟨FL,hFL⟩:∃ t,t=s2.batch now ql:=⟨_,rfl⟩
 have e:s.open_ now ql=s2.sendAll now FL:=by rw [hFL,hs2];rfl
 have h3:=Bn.sendAll_len now FL s2
 have h4:FL.flatten.length <= (s2.q - ((AA s2.gs).length:Int)).toNat:=by rw [hFL];exact NB _ _ _ _ _
 have h5:=IF s2.p s2.q s2.lim (AA s2.gs) ql;rw [show Dy s2.p s2.q s2.lim (AA s2.gs) ql=FL from hFL.symm] at h5;have h6:=h2.nums;have h7:=h.last;have h8:=h.tr;obtain ⟨a1,a2,a3,a4,a5,a6,a7,a8,a9,a10⟩:=Bn.sendAll_eq now FL s2;rw [e];exact ⟨by omega,by omega,Bn.sendAll_tries now _ (by omega) FL s2 h2.tries,by rw [a10,ht2];omega⟩
theorem FM.tick {N:Nat} {s:Bn} (h:FM N s) (hq:s.q <= 1024) (now:Int) {ql:List (Int × Int)} (hl:ql.length <= 1000):FM (N + 2) (s.tick now ql):=by
 unfold Bn.tick;split
 ·split
  ·exact (h.open_ hq now hl).calm.up (Nat.le_succ _)
  ·exact (h.open_ hq now hl).try_ now
 ·exact ((h.keep _).try_ now).up (Nat.le_succ _)
theorem FM.ack {N:Nat} {s:Bn} (h:FM N s) (cum:Int) (rl:List BT):FM N (s.ack_ cum rl) where
 nums:=by
  show (AA (Eh s.gs _)).length <= _;rw [GI];exact Nat.le_trans (List.length_filter_le _ _) h.nums
 last:=h.last
 tries:=fun g hg=>by
  obtain ⟨x,hx,rfl⟩:=Gi hg;exact h.tries x hx
 tr:=h.tr
theorem FM.begin {N:Nat} {s:Bn} (h:FM N s) (op:Bool) (inc lim:Int):FM N (s.begin_ op inc lim):=⟨Nat.zero_le _,h.last,fun g hg=>(by cases hg),by show (0:Int) <= _;omega⟩
theorem FM.rcv {N:Nat} {s:Bn} (h:FM N s) (x:Fm) (rl:List BT):FM N (s.rcv x rl):=by
 unfold Bn.rcv;split
 ·split
  ·exact (h.ack _ _).begin _ _ _
  ·split
   ·exact (h.ack _ _).begin _ _ _
   ·exact ⟨(h.ack _ _).nums,h.last,(h.ack x.cum rl).tries,h.tr⟩
 ·exact h
structure QB (N:Nat) (ql:List (Int × Int)) (last:Int):Prop where
 srt:(ql.map (·.1)).Pairwise (· < ·)
 le:∀ x ∈ ql,0 <= x.1/\x.1 <= last
 sz:∀ x ∈ ql,0 <= x.2/\x.2 <= 4112
 len:ql.length <= N * 11
 last:0 <= last/\last <= (N:Int) * 22
theorem QB.nil:QB 0 [] 0:=⟨List.Pairwise.nil,fun x h=>(by cases h),fun x h=>(by cases h),Nat.zero_le _,by decide⟩
theorem QB.up {N M:Nat} {ql:List (Int × Int)} {last:Int} (h:QB N ql last) (hm:N <= M):QB M ql last:=⟨h.srt,h.le,h.sz,by have:=h.len;omega,by have:=h.last;omega⟩
theorem QB.ok {N:Nat} {ql:List (Int × Int)} {last:Int} (h:QB N ql last) (hN:N <= 1000000):∀ x ∈ ql,U7 x:=fun x hx=>by
 have h1:=h.le x hx;have h2:=h.sz x hx;have h3:=h.last;refine ⟨?_,?_⟩
 ·simp only [AT,IntKind.min,IntKind.max,IntKind.signed,IntKind.bits];simp;omega
 ·simp only [AT,IntKind.min,IntKind.max,IntKind.signed,IntKind.bits];simp;omega
theorem QB.sub {N:Nat} {ql ql':List (Int × Int)} {last:Int} (h:QB N ql last) (hs:ql'.Sublist ql):QB N ql' last:=⟨h.srt.sublist (hs.map _),fun x hx=>h.le x (hs.subset hx),fun x hx=>h.sz x (hs.subset hx),Nat.le_trans hs.length_le h.len,h.last⟩
end Go.Proofs.YtidhpofcofknhaaGreat
