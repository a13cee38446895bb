/-
  A pair of senders: acts, sound; what a frame's cells are. Conditions: each theorem's own.
-/
import Derived.Test.YtidhpofcofknhaaGreatSxM
namespace Go.Proofs.YtidhpofcofknhaaGreat
open Go Go.RowKit
set_option linter.unusedVariables false
abbrev UO:=Int × (Int × (Int × (Int × (Int × (Int × (Int × (List BT × List (Int × (Int × List Int)))))))))
abbrev Xp:Ec (Int × (Int × List Int)):=CY (A8 .u64) (CY (A8 .i64) (Ay (A8 .u8)))
abbrev Xq:Ec UO:=CY (A8 .u8) (CY (A8 .i64) (CY (A8 .u64) (CY (A8 .u64) (CY (A8 .u64) (CY (A8 .u64) (CY (A8 .u64) (CY (Ay Bi) (Ay Xp))))))))
abbrev R1:=Int × (Int × (UO × (Int × (Int × List BT))))
abbrev RQ:Ec R1:=CY (A8 .u8) (CY (A8 .u8) (CY Xq (CY (A8 .u8) (CY (A8 .u16) (Ay Bi)))))
structure X1 (y:Ac):Prop where
 d:AT .u8 y.d
 la:AT .u8 y.la
 nn:AT .u8 y.nn
 sz:AT .u16 y.sz
 k:AT .u8 y.x.k
 ep:AT .u64 y.x.ep
 inc:AT .u64 y.x.inc
 cum:AT .u64 y.x.cum
 lim:AT .u64 y.x.lim
theorem RD {w:World} {A:Nat->Prop} {a:Option Addr} {n c:Nat} {acts:List R1} (h:Bq RQ w A a n c acts) {i:Nat} (hi:i < acts.length):∃ (ab off:Nat) (y:Ac) (xl rl:List BT),a=some ⟨ab,off,none⟩/\X1 y/\Bq Bi w A y.x.ra y.x.rn y.x.rc xl/\Bq Bi w A y.ra y.rn y.rc rl/\∀ w':World,Below w.heap.size w w'->∀ j u,y.cs[j]? =some u->w'.cell? ⟨ab,off + i * 14 + j,none⟩=some u:=by
 obtain ⟨ab,off,cs,e,hlt,hat,_,hce,_⟩:=h.get_ (i:=i) hi;obtain ⟨_,_,rfl,⟨rfl,h1⟩,_,_,rfl,⟨rfl,h2⟩,_,_,rfl,⟨_,_,rfl,⟨rfl,g1⟩,_,_,rfl,⟨rfl,g2⟩,_,_,rfl,⟨rfl,g3⟩,_,_,rfl,⟨rfl,g4⟩,_,_,rfl,⟨rfl,g5⟩,_,_,rfl,⟨rfl,g6⟩,_,_,rfl,⟨rfl,g7⟩,_,_,rfl,⟨fa,fn,fc,rfl,hf⟩,xa,xn,xc,rfl,hx⟩,_,_,rfl,⟨rfl,h3⟩,_,_,rfl,⟨rfl,h4⟩,ra,rn,rc,rfl,hr⟩:=hat;exact ⟨ab,off,⟨acts[i].1,acts[i].2.1,⟨acts[i].2.2.1.1,acts[i].2.2.1.2.1,acts[i].2.2.1.2.2.1,acts[i].2.2.1.2.2.2.1,acts[i].2.2.1.2.2.2.2.1,acts[i].2.2.1.2.2.2.2.2.1,acts[i].2.2.1.2.2.2.2.2.2.1,fa,fn,fc,xa,xn,xc⟩,acts[i].2.2.2.1,acts[i].2.2.2.2.1,ra,rn,rc⟩,_,_,e,⟨h1,h2,h3,h4,g1,g3,g4,g6,g7⟩,hf,hr,fun w' hb j u hu=>(hb.cell (p:=⟨ab,off + i * 14 + j,none⟩) hlt).trans (hce j u hu)⟩
theorem Yf (e:Int):AT .u64 (bits .or .u64 e 1)/\bits .or .u64 e 1 ≠ 0:=by
 have h1:bits .or .u64 e 1=IntKind.u64.wrap ((BitVec.ofInt 64 e |||1#64).toNat:Int):=rfl;obtain ⟨N,hN⟩:∃ N,N=(BitVec.ofInt 64 e |||1#64).toNat:=⟨_,rfl⟩
 have hlt:N < 18446744073709551616:=by rw [hN];exact BitVec.isLt _
 have hne:N ≠ 0:=by
  intro h0;rw [hN,BitVec.toNat_or] at h0;have h2:=congrArg (fun n=>Nat.testBit n 0) h0;simp at h2
 rw [h1,<-hN,IntWalk.u64_in _ ⟨by omega,by omega⟩];refine ⟨?_,by omega⟩;simp only [AT,IntKind.min,IntKind.max,IntKind.signed,IntKind.bits];simp;omega
structure Yc where
 i:Nat
 s:Bn
 ql:List (Int × Int)
 last:Int
 now:Int
 qa:Option Addr
 qc:Nat
 F1:Nat->Prop
 F2:Nat->Prop
 Fq:Nat->Prop
end Go.Proofs.YtidhpofcofknhaaGreat
