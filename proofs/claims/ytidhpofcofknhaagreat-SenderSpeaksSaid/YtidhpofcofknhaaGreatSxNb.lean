/-
  A pair of senders: what stays. Conditions: each theorem's own.
-/
import Derived.Test.YtidhpofcofknhaaGreatSxNa
namespace Go.Proofs.YtidhpofcofknhaaGreat
open Go Go.RowKit
set_option linter.unusedVariables false
def Bn.cf (s:Bn):Int × Int × Int × Int × Int:=(s.f,s.m,s.p,s.q,s.ep)
theorem N8 (s:Bn) (now:Int) (ql:List (Int × Int)):(s.tick now ql).cf=s.cf:=by
 have h1:(s.open_ now ql).cf=s.cf:=by
  obtain ⟨a1,a2,a3,a4,a5,_⟩:=Bn.sendAll_eq now (((s.keep_ (ql.map (·.1))).due_ now).batch now ql) ((s.keep_ (ql.map (·.1))).due_ now);show (_,_,_,_,_)=(_,_,_,_,_);unfold Bn.open_;rw [a1,a2,a3,a4,a5];rfl
 have h2:∀ t:Bn,(t.try_ now).cf=t.cf:=fun t=>by
  unfold Bn.try_;split<;>rfl
 unfold Bn.tick;split
 ·split
  ·exact h1
  ·rw [h2];exact h1
 ·rw [h2];rfl
theorem U4 (s:Bn) (x:Fm) (rl:List BT):(s.rcv x rl).cf=s.cf:=by
 unfold Bn.rcv;split
 ·split
  ·rfl
  ·split<;>rfl
 ·rfl
theorem Wg (y:Ac) (xl:List BT) (p:R9):(doS y xl p).cf=p.s.cf:=by
 unfold doS;split
 ·exact N8 _ _ _
 ·split
  ·exact U4 _ _ _
  ·rfl
end Go.Proofs.YtidhpofcofknhaaGreat
