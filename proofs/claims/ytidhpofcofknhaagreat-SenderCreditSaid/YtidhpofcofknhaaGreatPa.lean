/-
  Contracts of package pause. Conditions: each theorem's own. An engine of rules for walks, part Ab: in a region that draws: places in a slice of which something is true; two blocks that a callee turns. No program's text; conditions: each theorem's own.
  Conditions: each theorem's own.
-/
import Derived.Test.YtidhpofcofknhaaGreatIt
namespace Go.Proofs.YtidhpofcofknhaaGreat
open Go Go.RowKit
set_option linter.unusedVariables false
theorem Mz (f m:Int) (w:World):Calls Tryz.prog 72 #[.agg #[.int .i64 f,.int .i64 m]] w fun e w'=>e= .returned (.bool (decide (1 <= f/\f <= m/\m <= 1099511627776)))/\Below w.heap.size w w':=by
 refine BZ Tryz.func72 rfl rfl (Hp.refl w) ?_;repeat (first |refine Ai ?_ |refine Ab ?_)
 refine AY Aa rfl (fun b hb=>?_);repeat (first |refine Ai ?_ |refine Ab ?_ |refine Ag ?_ |refine Ae Aa rfl ?_ |refine An Aa 0 rfl rfl rfl ?_)
 refine BI rfl rfl (fun h=>?_) (fun h=>?_)
 all_goals
  repeat (first |refine Ag ?_ |refine AC ?_ |refine Ae Aa rfl ?_ |refine Bn rfl rfl rfl ?_ |refine An Aa 0 rfl rfl rfl ?_)
  try refine BI rfl rfl (fun h=>?_) (fun h=>?_)
 all_goals
  repeat (first |refine Ag ?_ |refine AC ?_ |refine Ae Aa rfl ?_ |refine Bn rfl rfl rfl ?_ |refine An Aa 0 rfl rfl rfl ?_)
  refine AZ rfl rfl (fun w' hw=>⟨I8 (by first |rfl |exact decide_eq_true (by omega) |exact decide_eq_false (by omega) |exact Rc (by omega) |exact PC (by omega) |exact true_dec (by omega)),hw.below (by repeat (first |exact Ar |refine AA (by omega) ?_))⟩)
def KK (f m t:Int):Int:=if 40 < max t 0 \/ m / 2 ^ (max t 0).toNat < f then m else IntKind.i64.wrap (f * 2 ^ (max t 0).toNat)
theorem Ss (f m t:Int) (w:World):Calls Tryz.prog 74 #[.agg #[.int .i64 f,.int .i64 m],.int .i64 t] w fun e w'=>e= .returned (.int .i64 (KK f m t))/\Below w.heap.size w w':=by
 refine BO Tryz.func74 rfl rfl (Hp.refl w) ?_;repeat (first |refine Ai ?_ |refine Ab ?_)
 refine AY Aa rfl (fun b hb=>?_);repeat (first |refine A5 (by kernel_rfl) (by kernel_rfl) ?_ |refine Ah Aa rfl ?_ |refine Ai ?_ |refine Ab ?_ |refine Ag ?_ |refine Ae Aa rfl ?_)
 refine Fh rfl rfl (fun h=>?_) (fun h=>?_)
 ·repeat (first |refine AN rfl ?_ |refine Ah Aa rfl ?_ |refine BP rfl rfl rfl ?_ |refine Ai ?_ |refine Ab ?_ |refine Ag ?_ |refine AI ?_ |refine AC ?_ |refine AX rfl ?_ |refine Ae Aa rfl ?_ |refine An Aa 0 rfl rfl rfl ?_)
  refine AZ rfl rfl (fun w' hw=>⟨No (by unfold KK;rw [if_pos (.inl h)]),hw.below (by repeat (first |exact Ar |refine AA (by omega) ?_))⟩)
 ·repeat (first |refine Ah Aa rfl ?_ |refine AE Aa 0 rfl rfl rfl ?_)
  refine Bx (O0 rfl rfl rfl (by simp only [IntKind.bits];omega)) ?_;repeat (first |refine AN rfl ?_ |refine Ah Aa rfl ?_)
  refine Ak rfl (fun h2=>?_) (fun h2=>?_)
  ·repeat (first |refine Ai ?_ |refine Ab ?_ |refine Ag ?_ |refine AI ?_ |refine AC ?_ |refine Ae Aa rfl ?_ |refine An Aa 0 rfl rfl rfl ?_)
   refine AZ rfl rfl (fun w' hw=>⟨No (by unfold KK;rw [if_pos (.inr h2)]),hw.below (by repeat (first |exact Ar |refine AA (by omega) ?_))⟩)
  ·repeat (first |refine Ai ?_ |refine Ab ?_ |refine Ad ?_ |refine Ao ?_ |refine Ae Aa rfl ?_ |refine An Aa 0 rfl rfl rfl ?_)
   refine BE (O2 rfl rfl rfl (by simp only [IntKind.bits];omega)) ?_;repeat (first |refine Ag ?_ |refine AC ?_ |refine Ae Aa rfl ?_)
   refine AZ rfl rfl (fun w' hw=>⟨No (by unfold KK;rw [if_neg (by rintro (h3 |h3)<;>contradiction)]),hw.below (by repeat (first |exact Ar |refine AA (by omega) ?_))⟩)
def CZ (f m:Int):Nat->Int
 |0=>f
 |k + 1=>if CZ f m k < m then 2 * CZ f m k else CZ f m k
theorem IT {f m:Int} (hf:1 <= f) (hm:m <= 1099511627776) (hfm:f <= m):∀ k,1 <= CZ f m k/\CZ f m k <= 2 * m
 |0=>by unfold CZ;omega
 |k + 1=>by
  have:=IT hf hm hfm k;unfold CZ;split<;>omega
theorem Ju {f m:Int} {k:Nat} (h:¬ CZ f m k < m):∀ j,CZ f m (k + j)=CZ f m k
 |0=>rfl
 |j + 1=>by
  have:=Ju h j;rw [<-Nat.add_assoc,CZ,this,if_neg h]
theorem P3 (f m t:Int) (w:World) (hf:1 <= f) (hm:m <= 1099511627776) (hfm:f <= m) (ht:t <= 9223372036854775807):Calls Tryz.prog 80 #[.int .i64 f,.int .i64 m,.int .i64 t] w fun e w'=>e= .returned (.int .i64 (min m (CZ f m t.toNat)))/\Below w.heap.size w w':=by
 refine EP Tryz.func80 rfl rfl (Hp.refl w) ?_;repeat (first |refine Ai ?_ |refine Ab ?_ |refine Aq ?_ |refine Ag ?_ |refine Ae Aa rfl ?_)
 refine AM (ι:=Nat) (fun k=>[(0,.int .i64 f),(1,.int .i64 m),(2,.int .i64 t),(7,.int .i64 (CZ f m k)),(8,.int .i64 (k:Int))]) (fun _=>[]) (fun k=>(k:Int) <= max t 0) (fun k=>(t - k).toNat) 0 (by omega) (by repeat (first |exact As.nil |refine As.cons rfl ?_)) (fun _ h=>h) ?_;intro k hk;have hb:=IT hf hm hfm k
 have fin:∀ x:Int,x=CZ f m k->(¬ (k:Int) < t \/ ¬ CZ f m k < m)->CZ f m t.toNat=x:=by
  rintro x rfl h
  rcases h with h |h
  ·have:t.toNat=k \/ (t <= 0/\k=0):=by omega
   rcases this with e |⟨e1,e2⟩
   ·rw [e]
   ·rw [show t.toNat=0 from by omega,e2]
  ·rcases Nat.lt_or_ge k t.toNat with h1 |h1
   ·rw [show t.toNat=k + (t.toNat - k) from by omega,Ju h]
   ·rw [show t.toNat=k from by omega]
 repeat (first |refine Ai ?_ |refine Ab ?_ |refine Ae Aa rfl ?_)
 refine BI rfl rfl (fun h=>?_) (fun h=>?_)
 ·repeat (first |refine Ag ?_ |refine Ae Aa rfl ?_)
  refine Ak rfl (fun h2=>?_) (fun h2=>?_)
  ·repeat (first |refine Ai ?_ |refine Ab ?_ |refine Aq ?_ |refine Ag ?_ |refine Ad ?_ |refine Am ?_ |refine Ao ?_ |refine AD Aa rfl (by omega) ?_ |refine Ae Aa rfl ?_ |refine Ap ?_)
   refine ⟨k + 1,by omega,?_,fun _ h=>h,by omega⟩
   have e:CZ f m (k + 1)=2 * CZ f m k:=by rw [CZ,if_pos h2]
   rw [e];repeat (first |exact As.nil |refine As.cons rfl ?_ |refine As.cons_int rfl (by omega) ?_)
  ·have hx:=fin _ rfl (.inr h2);repeat (first |refine Ai ?_ |refine Ab ?_ |refine Ag ?_ |refine Ad ?_ |refine AB ?_ |refine Al ?_ |refine AH ?_ |refine Ae Aa rfl ?_)
   refine Ak rfl (fun h3=>?_) (fun h3=>?_)
   ·repeat (first |refine Ai ?_ |refine Ab ?_ |refine Ag ?_ |refine AI ?_ |refine AC ?_ |refine Ae Aa rfl ?_)
    refine AZ rfl rfl (fun w' hw=>⟨No (by omega),hw.below (by repeat (first |exact Ar))⟩)
   ·repeat (first |refine Ai ?_ |refine Ab ?_ |refine Ag ?_ |refine Ad ?_ |refine Ao ?_ |refine AC ?_ |refine Ae Aa rfl ?_)
    refine AZ rfl rfl (fun w' hw=>⟨No (by omega),hw.below (by repeat (first |exact Ar))⟩)
 ·have hx:=fin _ rfl (.inl h);repeat (first |refine Ai ?_ |refine Ab ?_ |refine Ag ?_ |refine Ad ?_ |refine AB ?_ |refine Al ?_ |refine AH ?_ |refine AG rfl ?_ |refine Ae Aa rfl ?_ |refine Bn rfl rfl rfl ?_)
  refine Ak rfl (fun h3=>?_) (fun h3=>?_)
  ·repeat (first |refine Ai ?_ |refine Ab ?_ |refine Ag ?_ |refine AI ?_ |refine AC ?_ |refine Ae Aa rfl ?_)
   refine AZ rfl rfl (fun w' hw=>⟨No (by omega),hw.below (by repeat (first |exact Ar))⟩)
  ·repeat (first |refine Ai ?_ |refine Ab ?_ |refine Ag ?_ |refine Ad ?_ |refine Ao ?_ |refine AC ?_ |refine Ae Aa rfl ?_)
   refine AZ rfl rfl (fun w' hw=>⟨No (by omega),hw.below (by repeat (first |exact Ar))⟩)
def W (f m:Int) (k:Nat):Int:=min m (f * 2 ^ k)
def Xx (f m:Int):Nat->Int
 |0=>0
 |k + 1=>Xx f m k + W f m k
theorem pow_pos (k:Nat):(1:Int) <= 2 ^ k:=by
 have:(0:Int) < 2 ^ k:=Int.pow_pos (by decide);omega
theorem Hb {f m:Int} (hf:1 <= f) (hfm:f <= m) (k:Nat):1 <= W f m k/\W f m k <= m:=by
 have h1:=pow_pos k;have h2:1 * 1 <= f * 2 ^ k:=Int.mul_le_mul hf h1 (by decide) (by omega);unfold W;omega
theorem RU {f m:Int} (hf:1 <= f) (k:Nat) (h:W f m k=m):W f m (k + 1)=m:=by
 unfold W at *;have h1:=pow_pos k;have h2:1 * 1 <= f * 2 ^ k:=Int.mul_le_mul hf h1 (by decide) (by omega);rw [Int.pow_succ,<-Int.mul_assoc];omega
theorem RV {f m:Int} (hf:1 <= f) {k:Nat} (h:W f m k=m):∀ j,W f m (k + j)=m
 |0=>h
 |j + 1=>RU hf (k + j) (RV hf h j)
theorem UF {f m:Int} (hf:1 <= f) (hm:m <= 1099511627776):W f m 40=m:=by
 unfold W;have:f * 2 ^ 40=f * 1099511627776:=rfl;rw [this];omega
theorem Su {f m:Int} (hf:1 <= f) (hm:m <= 1099511627776) (hfm:f <= m) (t:Int):KK f m t=W f m t.toNat:=by
 have ht:(max t 0).toNat=t.toNat:=by omega
 unfold KK;rw [ht];have h1:=pow_pos t.toNat;by_cases h40:40 < max t 0
 ·rw [if_pos (.inl h40)];have:=RV hf (UF (m:=m) hf hm) (t.toNat - 40);rw [show 40 + (t.toNat - 40)=t.toNat from by omega] at this;rw [this]
 ·by_cases h:m / 2 ^ t.toNat < f
  ·rw [if_pos (.inr h)];have:=(Int.ediv_lt_iff_lt_mul (by omega:(0:Int) < 2 ^ t.toNat)).1 h;unfold W;omega
  ·rw [if_neg (by omega)];have h2:¬ m < f * 2 ^ t.toNat:=fun hh=>h ((Int.ediv_lt_iff_lt_mul (by omega:(0:Int) < 2 ^ t.toNat)).2 hh);have h3:=Hb hf hfm t.toNat;unfold W at h3 ⊢;rw [IntWalk.i64_in _ (by omega)];omega
theorem Ob {f m:Int} (hf:1 <= f) (hfm:f <= m):∀ k:Nat,min m (CZ f m k)=W f m k/\(CZ f m k < m->CZ f m k=f * 2 ^ k)
 |0=>by simp [CZ,W]
 |k + 1=>by
  obtain ⟨h1,h2⟩:=Ob hf hfm k;unfold CZ;split
  ·rename_i h;have h3:=h2 h
   have e:f * 2 ^ (k + 1)=2 * (f * 2 ^ k):=by rw [Int.pow_succ,<-Int.mul_assoc,Int.mul_comm]
   unfold W;rw [h3,e];omega
  ·rename_i h
   have h4:W f m k=m:=by omega
   have h5:=RU hf k h4;omega
theorem Ng (f m t:Int) (w:World) (hf:1 <= f) (hm:m <= 1099511627776) (hfm:f <= m):Calls Tryz.prog 74 #[.agg #[.int .i64 f,.int .i64 m],.int .i64 t] w fun e w'=>e= .returned (.int .i64 (W f m t.toNat))/\Below w.heap.size w w':=
 (Ss f m t w).mono fun e w' ⟨h1,h2⟩=>⟨by rw [h1,Su hf hm hfm],h2⟩
theorem Lz (f m t:Int) (w:World) (hf:1 <= f) (hm:m <= 1099511627776) (hfm:f <= m) (ht:t <= 9223372036854775807):Calls Tryz.prog 80 #[.int .i64 f,.int .i64 m,.int .i64 t] w fun e w'=>e= .returned (.int .i64 (W f m t.toNat))/\Below w.heap.size w w':=
 (P3 f m t w hf hm hfm ht).mono fun e w' ⟨h1,h2⟩=>⟨by rw [h1,(Ob hf hfm _).1],h2⟩
section
variable {P:Program} {tb:EU} {n:Nat} {w0:World} {all:Array Oper} {os:List Oper} {o:Oper} {dl:DL} {ol:OL} {F:DL->Prop} {d:Nat}
def rp (r:Nat->Option Value) (tx:Nat) (u:Value):Nat->Option Value:=fun t=>if t=tx then some u else r t
theorem U2 (tx:Nat) {Φ:Value->World->Prop} (E:EE) (hd:o.dst=some d) (hn:Nat.blt d n=true) (hg:gd all (rs all o dl) o.guard=some true) (htx:(o.looksAt all).contains tx=true) (hx:lk dl tx=some (.pr Φ)) (hst:E.Stable)
 (h:∀ a u w,Rd a (rp (rs all o dl) tx u)->Hp w0 w ol->Φ u w->∃ v,(execOp a.eval o).run P w= .ok (.value v) w/\E.at v w) (k:D P n w0 all os ((d,E)::dl) ol F):D P n w0 all (o::os) dl ol F:=by
 have hn':d < n:=by simpa [Nat.blt_eq] using hn
 refine Sd (E:=E) ⟨fun a w h1 h2 h3 h4=>?_,hst,fun d' hd'=>?_⟩ hd k
 ·have hrd:=KO h4;have hw:=Bb hrd hg;refine ⟨fun _=>?_,(fun hn=>by rw [hw] at hn;cases hn)⟩;have hs:=h4 tx (by simpa using htx);rw [hx] at hs;obtain ⟨u,hu1,hu2⟩:=hs
  obtain ⟨v,e1,e2⟩:=h a u w (fun t v hv=>by
   unfold rp at hv;split at hv
   ·rename_i e;subst e;cases hv;exact hu1
   ·exact hrd t v hv) h3 hu2
  simp only [Oper.wp,e1,Oper.upon];exact ⟨v,rfl,Below.refl _ _,e2⟩
 ·rw [hd] at hd';cases hd';exact hn'
end
theorem I5.cellO {P:Program} {tb:EU} {w0:World} {l:FL} {o:OL} (ht:AW P tb) (i:Nat) {t ty b:Nat} {ti:TI} {cs:List Value} {e:TypeId} {fz:Nat × Nat} {r:Bool} {v:Value} (hl:AP l t=some (.pointer (some ⟨b,0,none⟩))) (hti:tl tb ty=some ti) (hi:B9 o i=some (.blk b (.cells ⟨cs⟩ e fz) r)) (hv:IH ti cs 0=some v):I5 P w0 l o (.cell t ty) v:=
 ⟨_,hl,fun w hw=>E4 ht hti (hw.own _ (Af hi)) hv⟩
end Go.Proofs.YtidhpofcofknhaaGreat
