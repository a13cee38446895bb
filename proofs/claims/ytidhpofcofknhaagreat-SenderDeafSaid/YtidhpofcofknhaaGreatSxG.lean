/-
  A pair of senders: what bounds hold while it goes on. Conditions: each theorem's own.
-/
import Derived.Test.YtidhpofcofknhaaGreatSxF
namespace Go.Proofs.YtidhpofcofknhaaGreat
open Go Go.RowKit
set_option linter.unusedVariables false
theorem OD:∀ {gs:List BG},Jo gs->gs.length <= (Az gs).length
 | [],_=>Nat.zero_le _
 |g::gs,h=>by
  have ih:=OD (gs:=gs) fun x hx=>h x (List.mem_cons_of_mem _ hx);have h1:g.L.length ≠ 0:=fun e=>h g List.mem_cons_self (List.eq_nil_of_length_eq_zero e)
  have h2:(Az (g::gs)).length=g.L.length + (Az gs).length:=by unfold Az;simp
  rw [h2,List.length_cons];omega
theorem IF (p lim:Int) (nums:List Int):∀ (l:List (Int × Int)) (st:Dm),(Ez p lim nums l st).out.flatten.length + (Ez p lim nums l st).cur.length <= st.out.flatten.length + st.cur.length + st.room.toNat
 | [],st=>Nat.le_add_right _ _
 |x::l,st=>by
  rw [Ez];split
  ·exact Nat.le_add_right _ _
  ·rename_i h;split
   ·exact IF p lim nums l st
   ·refine Nat.le_trans (IF p lim nums l _) ?_
    have h1:(BU p x st).out.flatten.length + (BU p x st).cur.length=st.out.flatten.length + st.cur.length/\(BU p x st).room=st.room:=by
     unfold BU;split
     ·refine ⟨?_,rfl⟩;show (st.out ++ [st.cur]).flatten.length + 0=_;rw [List.flatten_append,List.length_append];simp
     ·exact ⟨rfl,rfl⟩
    have h2:¬ st.room <= 0:=fun e=>h (.inl e);show (BU p x st).out.flatten.length + ((BU p x st).cur ++ [x.1]).length + ((BU p x st).room - 1).toNat <= _;rw [List.length_append,h1.2];show (BU p x st).out.flatten.length + ((BU p x st).cur.length + 1) + (st.room - 1).toNat <= _;omega
theorem NF (p q lim:Int) (nums:List Int) (l:List (Int × Int)):(DB p q lim nums l).flatten.length <= (q - (nums.length:Int)).toNat:=by
 have h:=IF p lim nums l (Dg q nums);unfold DB;rw [List.flatten_append,List.length_append]
 have h1:((if 0 < ((Ez p lim nums l (Dg q nums)).cur.length:Int) then [(Ez p lim nums l (Dg q nums)).cur] else []):List (List Int)).flatten.length <= (Ez p lim nums l (Dg q nums)).cur.length:=by
  split<;>simp
 have h2:(Dg q nums).out.flatten.length + (Dg q nums).cur.length + (Dg q nums).room.toNat=(q - (nums.length:Int)).toNat:=by
  show 0 + 0 + (q - (nums.length:Int)).toNat=_;omega
 omega
structure Gb (N:Nat) (s:BI):Prop where
 nums:(Az s.gs).length <= 1024
 last:s.last <= (N:Int) * 1024
 tries:∀ g ∈ s.gs,g.tries <= (N:Int) + 1
 tr:s.tr <= (N:Int)
theorem Gb.up {N M:Nat} {s:BI} (h:Gb N s) (hm:N <= M):Gb M s:=⟨h.nums,by have:=h.last;omega,fun g hg=>by have:=h.tries g hg;omega,by have:=h.tr;omega⟩
theorem BI.sendAll_tries (now B:Int) (hB:1 <= B):∀ (LL:List (List Int)) (s:BI),(∀ g ∈ s.gs,g.tries <= B)->∀ g ∈ (s.sendAll now LL).gs,g.tries <= B
 | [],_,h=>h
 |L::LL,s,h=>BI.sendAll_tries now B hB LL (s.send_ now L) fun g hg=>by
  have h1:g ∈ (Ce s.f s.m s.gs s.last now L).1:=hg;unfold Ce at h1;split at h1
  ·exact h g h1
  ·rcases List.mem_append.1 h1 with h1 |h1
   ·exact h g h1
   ·rw [List.mem_singleton] at h1;rw [h1];exact hB
theorem Gb.keep {N:Nat} {s:BI} (h:Gb N s) (qs:List Int):Gb N (s.keep_ qs) where
 nums:=by
  show (Az (Et s.gs _)).length <= _;rw [GK];exact Nat.le_trans (List.length_filter_le _ _) h.nums
 last:=h.last
 tries:=fun g hg=>by
  obtain ⟨x,hx,rfl⟩:=HJ hg;exact h.tries x hx
 tr:=h.tr
theorem Gb.due {N:Nat} {s:BI} (h:Gb N s) (now:Int):Gb (N + 1) (s.due_ now) where
 nums:=by
  show (Az (ES s.f s.m now s.gs)).length <= _;rw [IH];exact h.nums
 last:=by have:=h.last;show s.last <= _;omega
 tries:=fun g hg=>by
  obtain ⟨x,hx,rfl⟩:=List.mem_map.1 hg;have:=h.tries x hx;split
  ·show x.tries + 1 <= _;omega
  ·omega
 tr:=by have:=h.tr;show s.tr <= _;omega
theorem Gb.try_ {N:Nat} {s:BI} (h:Gb N s) (now:Int):Gb (N + 1) (s.try_ now):=by
 unfold BI.try_;have h1:=h.last;have h2:=h.tr;split
 ·exact ⟨h.nums,by show s.last <= _;omega,fun g hg=>by have:=h.tries g hg;omega,by show s.tr + 1 <= _;omega⟩
 ·exact h.up (Nat.le_succ _)
theorem Gb.calm {N:Nat} {s:BI} (h:Gb N s):Gb N s.calm_:=⟨h.nums,h.last,h.tries,by show (0:Int) <= _;omega⟩
theorem Gb.open_ {N:Nat} {s:BI} (h:Gb N s) (hq:s.q <= 1024) (now:Int) {ql:List (Int × Int)} (hl:ql.length <= 1000):Gb (N + 1) (s.open_ now ql):=by
 obtain ⟨s2,hs2⟩:∃ s2,s2=(s.keep_ (ql.map (·.1))).due_ now:=⟨_,rfl⟩
 have h2:Gb (N + 1) s2:=by rw [hs2];exact (h.keep _).due now
 have hq2:s2.q <= 1024:=by rw [hs2];exact hq
 have hl2:s2.last=s.last:=by rw [hs2];rfl
 have ht2:s2.tr=s.tr:=by rw [hs2];rfl
 obtain ⟨FL,hFL⟩:∃ t,t=s2.batch now ql:=⟨_,rfl⟩
 have e:s.open_ now ql=s2.sendAll now FL:=by rw [hFL,hs2];rfl
 have h3:=BI.sendAll_len now FL s2
 have h4:FL.flatten.length <= (s2.q - ((Az s2.gs).length:Int)).toNat:=by rw [hFL];exact NF _ _ _ _ _
 have h5:=IE s2.p s2.q s2.lim (Az s2.gs) ql;rw [show DB s2.p s2.q s2.lim (Az s2.gs) ql=FL from hFL.symm] at h5;have h6:=h2.nums;have h7:=h.last;have h8:=h.tr;obtain ⟨a1,a2,a3,a4,a5,a6,a7,a8,a9,a10⟩:=BI.sendAll_eq now FL s2;rw [e];exact ⟨by omega,by omega,BI.sendAll_tries now _ (by omega) FL s2 h2.tries,by rw [a10,ht2];omega⟩
theorem Gb.tick {N:Nat} {s:BI} (h:Gb N s) (hq:s.q <= 1024) (now:Int) {ql:List (Int × Int)} (hl:ql.length <= 1000):Gb (N + 2) (s.tick now ql):=by
 unfold BI.tick;split
 ·split
  ·exact (h.open_ hq now hl).calm.up (Nat.le_succ _)
  ·exact (h.open_ hq now hl).try_ now
 ·exact ((h.keep _).try_ now).up (Nat.le_succ _)
theorem Gb.ack {N:Nat} {s:BI} (h:Gb N s) (cum:Int) (rl:List BX):Gb N (s.ack_ cum rl) where
 nums:=by
  show (Az (Et s.gs _)).length <= _;rw [GK];exact Nat.le_trans (List.length_filter_le _ _) h.nums
 last:=h.last
 tries:=fun g hg=>by
  obtain ⟨x,hx,rfl⟩:=HJ hg;exact h.tries x hx
 tr:=h.tr
theorem Gb.begin {N:Nat} {s:BI} (h:Gb N s) (op:Bool) (inc lim:Int):Gb N (s.begin_ op inc lim):=⟨Nat.zero_le _,h.last,fun g hg=>(by cases hg),by show (0:Int) <= _;omega⟩
theorem Gb.rcv {N:Nat} {s:BI} (h:Gb N s) (x:Fm) (rl:List BX):Gb N (s.rcv x rl):=by
 unfold BI.rcv;split
 ·split
  ·exact (h.ack _ _).begin _ _ _
  ·split
   ·exact (h.ack _ _).begin _ _ _
   ·exact ⟨(h.ack _ _).nums,h.last,(h.ack x.cum rl).tries,h.tr⟩
 ·exact h
structure QB (N:Nat) (ql:List (Int × Int)) (last:Int):Prop where
 srt:(ql.map (·.1)).Pairwise (· < ·)
 le:∀ x ∈ ql,0 <= x.1/\x.1 <= last
 sz:∀ x ∈ ql,0 <= x.2/\x.2 <= 4112
 len:ql.length <= N * 11
 last:0 <= last/\last <= (N:Int) * 22
theorem QB.nil:QB 0 [] 0:=⟨List.Pairwise.nil,fun x h=>(by cases h),fun x h=>(by cases h),Nat.zero_le _,by decide⟩
theorem QB.up {N M:Nat} {ql:List (Int × Int)} {last:Int} (h:QB N ql last) (hm:N <= M):QB M ql last:=⟨h.srt,h.le,h.sz,by have:=h.len;omega,by have:=h.last;omega⟩
theorem QB.ok {N:Nat} {ql:List (Int × Int)} {last:Int} (h:QB N ql last) (hN:N <= 1000000):∀ x ∈ ql,U4 x:=fun x hx=>by
 have h1:=h.le x hx;have h2:=h.sz x hx;have h3:=h.last;refine ⟨?_,?_⟩
 ·simp only [AV,IntKind.min,IntKind.max,IntKind.signed,IntKind.bits];simp;omega
 ·simp only [AV,IntKind.min,IntKind.max,IntKind.signed,IntKind.bits];simp;omega
theorem QB.sub {N:Nat} {ql ql':List (Int × Int)} {last:Int} (h:QB N ql last) (hs:ql'.Sublist ql):QB N ql' last:=⟨h.srt.sublist (hs.map _),fun x hx=>h.le x (hs.subset hx),fun x hx=>h.sz x (hs.subset hx),Nat.le_trans hs.length_le h.len,h.last⟩
end Go.Proofs.YtidhpofcofknhaaGreat
