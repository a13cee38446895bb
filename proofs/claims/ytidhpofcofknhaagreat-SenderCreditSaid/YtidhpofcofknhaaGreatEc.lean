/-
  An engine of rules, more: calls from any world of the caller's; what is known, in any order, by a list of places. No program's text; conditions: each theorem's own.
  Conditions: each theorem's own.
-/
import Derived.Test.YtidhpofcofknhaaGreatEb
namespace Go.Proofs.YtidhpofcofknhaaGreat
open Go Go.RowKit
set_option linter.unusedVariables false
section
variable {P:Program} {f:FuncId} {fn:Func} {c:Code} {w0 w:World} {R:Ending->World->Prop}
theorem FG {args:Array Value} {l:FL} {o:OL} (hf:P.funcs[f]? =some fn) (hb:fn.body=some c) (ho:Hp w0 w o)
 (hl:Fr { tmps:=args ++ Array.replicate (fn.ntmps - args.size) undef,defers:=[]} fn.ntmps l)
 (h:T P fn.ntmps w0 c l o (DZ P fn fn.ntmps w0 R)):Calls P f args w R:=by
 refine calls_of_wp hf hb (wp_mono (h.out _ w hl ho) ?_);unfold Cr DZ;rintro e a w ⟨l,o,h1,h2,h3⟩
 cases e with
 |normal=>obtain ⟨v,hr,hR⟩:=h3 a w h1 h2;exact ⟨h1.defers,v,hr,hR⟩
 |ret=>obtain ⟨v,hr,hR⟩:=h3 a w h1 h2;exact ⟨h1.defers,v,hr,hR⟩
 |_=>exact h3.elim
theorem E6 {v0:Value} (hf:P.funcs[f]? =some fn) (hb:fn.body=some c) (hn:Nat.ble 1 fn.ntmps=true) {o:OL} (ho:Hp w0 w o) (h:T P fn.ntmps w0 c [(0,v0)] o (DZ P fn fn.ntmps w0 R)):Calls P f #[v0] w R:=
 FG hf hb ho (Q5 (args:=[v0]) (Nat.le_of_ble_eq_true hn)) h
theorem GP {v0 v1:Value} (hf:P.funcs[f]? =some fn) (hb:fn.body=some c) (hn:Nat.ble 2 fn.ntmps=true) {o:OL} (ho:Hp w0 w o) (h:T P fn.ntmps w0 c [(0,v0),(1,v1)] o (DZ P fn fn.ntmps w0 R)):Calls P f #[v0,v1] w R:=
 FG hf hb ho (Q5 (args:=[v0,v1]) (Nat.le_of_ble_eq_true hn)) h
theorem Ef {v0 v1 v2:Value} (hf:P.funcs[f]? =some fn) (hb:fn.body=some c) (hn:Nat.ble 3 fn.ntmps=true) {o:OL} (ho:Hp w0 w o) (h:T P fn.ntmps w0 c [(0,v0),(1,v1),(2,v2)] o (DZ P fn fn.ntmps w0 R)):Calls P f #[v0,v1,v2] w R:=
 FG hf hb ho (Q5 (args:=[v0,v1,v2]) (Nat.le_of_ble_eq_true hn)) h
theorem GO {v0 v1 v2 v3:Value} (hf:P.funcs[f]? =some fn) (hb:fn.body=some c) (hn:Nat.ble 4 fn.ntmps=true) {o:OL} (ho:Hp w0 w o) (h:T P fn.ntmps w0 c [(0,v0),(1,v1),(2,v2),(3,v3)] o (DZ P fn fn.ntmps w0 R)):Calls P f #[v0,v1,v2,v3] w R:=
 FG hf hb ho (Q5 (args:=[v0,v1,v2,v3]) (Nat.le_of_ble_eq_true hn)) h
theorem Uq {v0 v1 v2 v3 v4:Value} (hf:P.funcs[f]? =some fn) (hb:fn.body=some c) (hn:Nat.ble 5 fn.ntmps=true) {o:OL} (ho:Hp w0 w o) (h:T P fn.ntmps w0 c [(0,v0),(1,v1),(2,v2),(3,v3),(4,v4)] o (DZ P fn fn.ntmps w0 R)):Calls P f #[v0,v1,v2,v3,v4] w R:=
 FG hf hb ho (Q5 (args:=[v0,v1,v2,v3,v4]) (Nat.le_of_ble_eq_true hn)) h
end
theorem CQ {w0:World} {b:Nat} {x:Obj} {o:OL} (h:∀ e ∈ o,e.ex=true->∀ k,e.has k->w0.heap.size <= k):∀ e ∈ (.blk b x false::o:OL),e.ex=true->∀ k,e.has k->w0.heap.size <= k:=fun e he hx=>by
 rcases List.mem_cons.1 he with rfl |he
 ·cases hx
 ·exact h e he hx
theorem At {ops:List Oper} {L:Nat->Bool} (hc:Et ops L) {j:Nat} {p:Oper} (hj:ops[j]? =some p) (e:Edge) (he:e ∈ p.after.toList) (hb:Region.binds .any e=true) (hl:L e.on=false):L j=false:=by
 cases h:L j with
 |false=>rfl
 |true=>rw [hc j p hj h e he hb] at hl;cases hl
def JB:Nat->OL->Option (OL × OL)
 |0,o=>some ([],o)
 |_ + 1,[]=>none
 |k + 1,e::o=>match JB k o with
  |some (a,r)=>some (e::a,r)
  |none=>none
theorem KM:∀ {k:Nat} {o a r:OL},JB k o=some (a,r)->o=a ++ r/\a.length=k
 |0,o,a,r,h=>by
  simp only [JB,Option.some.injEq,Prod.mk.injEq] at h;obtain ⟨rfl,rfl⟩:=h;exact ⟨rfl,rfl⟩
 |k + 1,[],a,r,h=>by cases h
 |k + 1,e::o,a,r,h=>by
  simp only [JB] at h;split at h
  ·rename_i a' r' h';simp only [Option.some.injEq,Prod.mk.injEq] at h;obtain ⟨rfl,rfl⟩:=h;obtain ⟨h1,h2⟩:=KM h';exact ⟨by rw [h1];rfl,by rw [List.length_cons,h2]⟩
  ·cases h
def MB (a:OL):List Nat->Option OL
 | []=>some []
 |i::is=>match B9 a i with
  |some e=>match MB a is with
   |some q=>some (e::q)
   |none=>none
  |none=>none
theorem J3:∀ {o:OL} {i:Nat},B9 o i=o[i]?
 | [],i=>rfl
 |e::o,0=>rfl
 |e::o,i + 1=>by rw [B9,J3,List.getElem?_cons_succ]
theorem MA {a:OL}:∀ {is:List Nat} {q:OL},MB a is=some q->q.map some=is.map fun i=>a[i]?
 | [],q,h=>by
  simp only [MB,Option.some.injEq] at h;rw [<-h];rfl
 |i::is,q,h=>by
  simp only [MB] at h;split at h
  ·rename_i e he;split at h
   ·rename_i q' hq;simp only [Option.some.injEq] at h;rw [<-h,List.map_cons,List.map_cons,MA hq,<-he,J3]
   ·cases h
  ·cases h
theorem Hp.pm {w0 w:World} {o a r q:OL} (is:List Nat) (h:Hp w0 w o) (hs:JB is.length o=some (a,r)) (hp:is.isPerm (List.range is.length)=true) (hq:MB a is=some q):Hp w0 w (q ++ r):=by
 obtain ⟨h1,h2⟩:=KM hs;subst h1;refine h.perm (List.Perm.append_right _ ?_);have e1:(is.map fun i=>a[i]?).Perm ((List.range is.length).map fun i=>a[i]?):=(List.isPerm_iff.1 hp).map _
 have e2:(List.range is.length).map (fun i=>a[i]?)=a.map some:=by
  rw [<-h2];refine List.ext_getElem? fun i=>?_;rw [List.getElem?_map,List.getElem?_map];by_cases h3:i < a.length
  ·simp [h3]
  ·simp [h3]
 rw [e2,<-MA hq] at e1;have e3:=(e1.symm).filterMap id;rw [List.filterMap_map,List.filterMap_map] at e3;simpa using e3
end Go.Proofs.YtidhpofcofknhaaGreat
