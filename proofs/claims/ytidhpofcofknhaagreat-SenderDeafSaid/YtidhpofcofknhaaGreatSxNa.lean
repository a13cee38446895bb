/-
  A pair of senders: acts, sound; what a frame's cells are. Conditions: each theorem's own.
-/
import Derived.Test.YtidhpofcofknhaaGreatSxM
namespace Go.Proofs.YtidhpofcofknhaaGreat
open Go Go.RowKit
set_option linter.unusedVariables false
abbrev OY:=Int × (Int × (Int × (Int × (Int × (Int × (Int × (List BX × List (Int × (Int × List Int)))))))))
abbrev Xl:Ef (Int × (Int × List Int)):=C5 (Bc .u64) (C5 (Bc .i64) (Ax (Bc .u8)))
abbrev RT:Ef OY:=C5 (Bc .u8) (C5 (Bc .i64) (C5 (Bc .u64) (C5 (Bc .u64) (C5 (Bc .u64) (C5 (Bc .u64) (C5 (Bc .u64) (C5 (Ax Bh) (Ax Xl))))))))
abbrev R5:=Int × (Int × (OY × (Int × (Int × List BX))))
abbrev RU:Ef R5:=C5 (Bc .u8) (C5 (Bc .u8) (C5 RT (C5 (Bc .u8) (C5 (Bc .u16) (Ax Bh)))))
structure XZ (y:Ac):Prop where
 d:AV .u8 y.d
 la:AV .u8 y.la
 nn:AV .u8 y.nn
 sz:AV .u16 y.sz
 k:AV .u8 y.x.k
 ep:AV .u64 y.x.ep
 inc:AV .u64 y.x.inc
 cum:AV .u64 y.x.cum
 lim:AV .u64 y.x.lim
theorem RH {w:World} {A:Nat->Prop} {a:Option Addr} {n c:Nat} {acts:List R5} (h:Bq RU w A a n c acts) {i:Nat} (hi:i < acts.length):∃ (ab off:Nat) (y:Ac) (xl rl:List BX),a=some ⟨ab,off,none⟩/\XZ y/\Bq Bh w A y.x.ra y.x.rn y.x.rc xl/\Bq Bh w A y.ra y.rn y.rc rl/\∀ w':World,Below w.heap.size w w'->∀ j u,y.cs[j]? =some u->w'.cell? ⟨ab,off + i * 14 + j,none⟩=some u:=by
 obtain ⟨ab,off,cs,e,hlt,hat,_,hce,_⟩:=h.get_ (i:=i) hi;obtain ⟨_,_,rfl,⟨rfl,h1⟩,_,_,rfl,⟨rfl,h2⟩,_,_,rfl,⟨_,_,rfl,⟨rfl,g1⟩,_,_,rfl,⟨rfl,g2⟩,_,_,rfl,⟨rfl,g3⟩,_,_,rfl,⟨rfl,g4⟩,_,_,rfl,⟨rfl,g5⟩,_,_,rfl,⟨rfl,g6⟩,_,_,rfl,⟨rfl,g7⟩,_,_,rfl,⟨fa,fn,fc,rfl,hf⟩,xa,xn,xc,rfl,hx⟩,_,_,rfl,⟨rfl,h3⟩,_,_,rfl,⟨rfl,h4⟩,ra,rn,rc,rfl,hr⟩:=hat;exact ⟨ab,off,⟨acts[i].1,acts[i].2.1,⟨acts[i].2.2.1.1,acts[i].2.2.1.2.1,acts[i].2.2.1.2.2.1,acts[i].2.2.1.2.2.2.1,acts[i].2.2.1.2.2.2.2.1,acts[i].2.2.1.2.2.2.2.2.1,acts[i].2.2.1.2.2.2.2.2.2.1,fa,fn,fc,xa,xn,xc⟩,acts[i].2.2.2.1,acts[i].2.2.2.2.1,ra,rn,rc⟩,_,_,e,⟨h1,h2,h3,h4,g1,g3,g4,g6,g7⟩,hf,hr,fun w' hb j u hu=>(hb.cell (p:=⟨ab,off + i * 14 + j,none⟩) hlt).trans (hce j u hu)⟩
theorem Yc (e:Int):AV .u64 (bits .or .u64 e 1)/\bits .or .u64 e 1 ≠ 0:=by
 have h1:bits .or .u64 e 1=IntKind.u64.wrap ((BitVec.ofInt 64 e |||1#64).toNat:Int):=rfl;obtain ⟨N,hN⟩:∃ N,N=(BitVec.ofInt 64 e |||1#64).toNat:=⟨_,rfl⟩
 have hlt:N < 18446744073709551616:=by rw [hN];exact BitVec.isLt _
 have hne:N ≠ 0:=by
  intro h0;rw [hN,BitVec.toNat_or] at h0;have h2:=congrArg (fun n=>Nat.testBit n 0) h0;simp at h2
 rw [h1,<-hN,IntWalk.u64_in _ ⟨by omega,by omega⟩];refine ⟨?_,by omega⟩;simp only [AV,IntKind.min,IntKind.max,IntKind.signed,IntKind.bits];simp;omega
structure X9 where
 i:Nat
 s:BI
 ql:List (Int × Int)
 last:Int
 now:Int
 qa:Option Addr
 qc:Nat
 F1:Nat->Prop
 F2:Nat->Prop
 Fq:Nat->Prop
end Go.Proofs.YtidhpofcofknhaaGreat
