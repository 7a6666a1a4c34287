/- Texts bound together: QLast QVar1 FreeW. -/
import Derived.Test.YthgekdlegbmehaaGreatBq17

set_option linter.all false
set_option maxHeartbeats 1000000
set_option maxRecDepth 100000
namespace Go.Proofs.YthgekdlegbmehaaGreat

section

open Go.RowKit

theorem zpf {P:Program} {o:Oper} {a:Act} {K:Act->World->Prop} {Q0 Q:Exit->Act->World->Prop} {r:Result Next} (h:o.upon P a K Q0 r) (hq:∀ e a w,e≠ .normal->Q0 e a w->Q e a w):o.upon P a K Q r:=by
 match r,h with
 | .ok (.value v) w',h=> exact h
 | .ok .skip w',h=> exact h
 | .ok (.defer d) w',h=> exact h
 | .ok (.enter f args) w',h=>
  refine Calls.mono h fun e w'' he=> ?_
  match e,he with
  | .returned v,he=> exact he
  | .panicked chain,he=> exact hq _ _ _ (fun e=> by cases e) he
  | .outgrown,⟨b,u,hb⟩=> exact ⟨b,u,hq _ _ _ (fun e=> by cases e) hb⟩
 | .ok (.row row args) w',h=> exact h
 | .halt (.panic v) w',h=> exact hq _ _ _ (fun e=> by cases e) h
def lastB (l0:List Oper) (last:Oper):Bool:=
 (l0.all fun o=> o.guard.isNone && o.after.all fun e=> !Region.binds .any e || decide (e.on < l0.length)) && ((List.range l0.length).all fun i=> match l0[i]? with | some o=> o.after.all fun e=> !Region.binds .any e || decide (e.on < i) | none=> true) &&
  ((List.range l0.length).all fun j=> (last.after.any fun e=> Region.binds .any e && e.on==j) || (List.range l0.length).any fun k=> decide (j < k) && match l0[k]? with | some o=> o.after.any fun e=> Region.binds .any e && e.on==j | none=> false) && (last.after.all fun e=> !Region.binds .any e || decide (e.on < l0.length))
section

variable {P:Program} {l0:List Oper} {last:Oper} {Q Q0:Exit->Act->World->Prop}

theorem zp6 {i:Nat} (h:i < l0.length):(l0 ++ [last]).toArray[i]?=l0.toArray[i]?:=by simp [h,List.getElem?_append_left]
theorem zhz:(l0 ++ [last]).toArray[l0.length]?=some last:=by simp
theorem zgp {listed:Array Bool} {i:Nat} {d:Bool} (h:i < listed.size):(listed.push false).getD i d=listed.getD i d:=by
 have hp:i < (listed.push false).size:=by simp;omega
 simp only [Array.getD_eq_getD_getElem?,Array.getElem?_eq_getElem h,Array.getElem?_eq_getElem hp,Option.getD_some]
 rw [Array.getElem_push_lt h]
def z5j (l0:List Oper) (listed:Array Bool):Prop:=∀ k o,l0[k]?=some o->listed.getD k false=true->∀ e ∈ o.after,Region.binds .any e=true->listed.getD e.on false=true
theorem z4m {listed:Array Bool} {i:Nat} (hs:z5j l0 listed) (hi:i ∈ Region.ready .any l0.toArray listed):z5j l0 (listed.setIfInBounds i true):=by
 intro k o ho hk e he hb
 have hlt:=zfh (mem_ready.1 hi).1
 rw [gset hlt] at hk ⊢
 by_cases e1:k=i
 ·subst e1
  obtain ⟨_,o',ho',hall⟩:=mem_ready.1 hi
  have:l0[k]?=some o':=by simpa using ho'
  rw [ho] at this
  obtain rfl:=Option.some.inj this
  rw [hall e he hb,Bool.or_true]
 ·rw [decide_eq_false e1,Bool.false_or] at hk
  rw [hs k o ho hk e he hb,Bool.or_true]
theorem zgf (hl:lastB l0 last=true) {listed:Array Bool} (hz:listed.size=l0.length) (hsh:z5j l0 listed) (i:Nat):
  i ∈ Region.ready .any (l0 ++ [last]).toArray (listed.push false)↔(i ∈ Region.ready .any l0.toArray listed)\/(i=l0.length/\∀ j,j < l0.length->listed.getD j false=true):=by
 simp only [lastB,Bool.and_eq_true] at hl
 obtain ⟨⟨⟨hl1,hl2⟩,hl3⟩,hl4⟩:=hl
 rw [mem_ready,mem_ready]
 constructor
 ·rintro ⟨hu,o,ho,hall⟩
  rcases Nat.lt_trichotomy i l0.length with hi | hi | hi
  ·rw [zp6 hi] at ho
   refine .inl ⟨by rw [zgp (by omega)] at hu;exact hu,o,ho,fun e he hb=> ?_⟩
   have:=hall e he hb
   have ho':o ∈ l0:=by
    have:l0[i]?=some o:=by simpa using ho
    exact List.mem_of_getElem? this
   have h1:=List.all_eq_true.1 hl1 o ho'
   simp only [Bool.and_eq_true] at h1
   have h2:=(Array.all_eq_true_iff_forall_mem.1 h1.2) e he
   have h3:e.on < l0.length:=by simpa [hb] using h2
   rwa [zgp (by omega)] at this
  ·subst hi
   rw [zhz] at ho
   obtain rfl:=Option.some.inj ho
   refine .inr ⟨rfl,?_⟩
   have key:∀ d j,j < l0.length->l0.length<=j + d->listed.getD j false=true:=by
    intro d
    induction d with
    | zero=> intro j hj hd;omega
    | succ d ih=>
     intro j hj hd
     have h1:=List.all_eq_true.1 hl3 j (List.mem_range.2 hj)
     simp only [Bool.or_eq_true] at h1
     rcases h1 with h1 | h1
     ·obtain ⟨k,hk,hu2⟩:=Array.any_eq_true.1 h1
      simp only [Bool.and_eq_true,beq_iff_eq] at hu2
      have:=hall _ (Array.getElem_mem hk) hu2.1
      rw [hu2.2,zgp (by omega)] at this
      exact this
     ·obtain ⟨k,hk,h2⟩:=List.any_eq_true.1 h1
      have hk:=List.mem_range.1 hk
      simp only [Bool.and_eq_true,decide_eq_true_eq] at h2
      have h3:=h2.2
      have hok:l0[k]?=some l0[k]:=List.getElem?_eq_getElem hk
      rw [hok] at h3
      obtain ⟨u,hu,hu2⟩:=Array.any_eq_true.1 h3
      simp only [Bool.and_eq_true,beq_iff_eq] at hu2
      have:=hsh k _ hok (ih k hk (by omega)) _ (Array.getElem_mem hu) hu2.1
      rw [hu2.2] at this
      exact this
   exact fun j hj=> key l0.length j hj (by omega)
  ·have:(l0 ++ [last]).toArray[i]?=none:=by simp;omega
   rw [this] at ho;cases ho
 ·rintro (⟨hu,o,ho,hall⟩ | ⟨rfl,hall⟩)
  ·have hi:i < l0.length:=by
    have:=(Array.getElem?_eq_some_iff.1 ho).1
    simpa using this
   refine ⟨by rw [zgp (by omega)];exact hu,o,by rw [zp6 hi];exact ho,fun e he hb=> ?_⟩
   have ho':o ∈ l0:=by
    have:l0[i]?=some o:=by simpa using ho
    exact List.mem_of_getElem? this
   have h1:=List.all_eq_true.1 hl1 o ho'
   simp only [Bool.and_eq_true] at h1
   have h2:=(Array.all_eq_true_iff_forall_mem.1 h1.2) e he
   have h3:e.on < l0.length:=by simpa [hb] using h2
   rw [zgp (by omega)]
   exact hall e he hb
  ·refine ⟨?_,last,zhz,fun e he hb=> ?_⟩
   ·rw [<- hz,Array.getD_eq_getD_getElem?,Array.getElem?_push_size];rfl
   ·have h2:=(Array.all_eq_true_iff_forall_mem.1 hl4) e he
    have h3:e.on < l0.length:=by simpa [hb] using h2
    rw [zgp (by omega)]
    exact hall _ h3
theorem zje (hl:lastB l0 last=true) {listed:Array Bool} (hz:listed.size=l0.length) (h:Region.ready .any l0.toArray listed= []):∀ n i,i < n->i < l0.length->listed.getD i false=true:=by
 simp only [lastB,Bool.and_eq_true] at hl
 obtain ⟨⟨⟨hl1,hl2⟩,hl3⟩,hl4⟩:=hl
 intro n
 induction n with
 | zero=> intro i hi;omega
 | succ n ih=>
  intro i hi hlen
  rcases Bool.eq_false_or_eq_true (listed.getD i true) with e | e
  ·have hlt:i < listed.size:=by omega
   simp only [Array.getD_eq_getD_getElem?,Array.getElem?_eq_getElem hlt,Option.getD_some] at e ⊢
   exact e
  ·have ho:l0.toArray[i]?=some l0.toArray[i]:=Array.getElem?_eq_getElem (by rw [List.size_toArray];exact hlen)
   have hm:i ∈ Region.ready .any l0.toArray listed:=mem_ready.2 ⟨e,_,ho,fun ed he hbi=> by
    have h1:=List.all_eq_true.1 hl2 i (List.mem_range.2 hlen)
    have ho':l0[i]?=some l0.toArray[i]:=by simp
    rw [ho'] at h1
    have h2:=(Array.all_eq_true_iff_forall_mem.1 h1) ed he
    have h3:ed.on < i:=by simpa [hbi] using h2
    exact ih ed.on (by omega) (by omega)⟩
   rw [h] at hm;cases hm
theorem z7e {listed:Array Bool} {i:Nat} (h:i < listed.size):(listed.push false).setIfInBounds i true=(listed.setIfInBounds i true).push false:=by
 apply Array.ext
 ·simp
 ·intro j h1 h2
  simp only [Array.size_setIfInBounds,Array.size_push] at h1
  rw [Array.getElem_setIfInBounds (by simpa using h1)]
  by_cases hj:j < listed.size
  ·rw [Array.getElem_push_lt hj,Array.getElem_push_lt (by simpa using hj),Array.getElem_setIfInBounds hj]
  ·have:j=listed.size:=by omega
   subst this
   have hne:¬ i=listed.size:=by omega
   rw [if_neg hne,Array.getElem_push_eq]
   have:=Array.getElem_push_eq (xs:=listed.setIfInBounds i true) (x:=false)
   simp [Array.getElem_push]
theorem z01 {listed:Array Bool} (hz:listed.size=l0.length) (hall:∀ j,j < l0.length->listed.getD j false=true):Region.ready .any (l0 ++ [last]).toArray ((listed.push false).setIfInBounds l0.length true)= []:=by
 apply List.eq_nil_iff_forall_not_mem.2
 intro i hi
 obtain ⟨hu,o,ho,_⟩:=mem_ready.1 hi
 have hi2:i < l0.length + 1:=by
  have:=(Array.getElem?_eq_some_iff.1 ho).1
  simpa using this
 by_cases e:i=l0.length
 ·subst e
  have hp:l0.length < ((listed.push false).setIfInBounds l0.length true).size:=by simp;omega
  simp only [Array.getD_eq_getD_getElem?,Array.getElem?_eq_getElem hp,Option.getD_some] at hu
  rw [Array.getElem_setIfInBounds_self] at hu
  cases hu
 ·have hil:i < l0.length:=by omega
  have h1:=hall i hil
  have hne:l0.length≠i:=fun e2=> e e2.symm
  rw [Array.getD_eq_getD_getElem?,Array.getElem?_setIfInBounds_ne hne,<- Array.getD_eq_getD_getElem?,zgp (by omega)] at hu
  have:=getD_both hu
  rw [h1] at this;cases this
theorem zkz (hl:lastB l0 last=true) (hq:∀ e a w,e≠ .normal->Q0 e a w->Q e a w) (hn:∀ a w,Q0 .normal a w->wpOp P (l0 ++ [last]).toArray Q l0.length (fun a' w'=> Q .normal a' w') a w) (fuel:Nat):
  ∀ (listed:Array Bool) (a:Act) (w:World),listed.size=l0.length->z5j l0 listed->wpAny P .any l0.toArray Q0 fuel listed a w->wpAny P .any (l0 ++ [last]).toArray Q (fuel + 1) (listed.push false) a w:=by
 have stop:∀ (f:Nat) (listed:Array Bool) (a:Act) (w:World),listed.size=l0.length->Region.ready .any l0.toArray listed= []->Q0 .normal a w->
   wpOp P (l0 ++ [last]).toArray Q l0.length (wpAny P .any (l0 ++ [last]).toArray Q f ((listed.push false).setIfInBounds l0.length true)) a w:=fun f listed a w hz h0 hQ=> by
  refine wpOp_mono (fun a' w' hq'=> ?_) (hn a w hQ)
  have hd:=z01 (last:=last) hz (fun j hj=> zje hl hz h0 (j + 1) j (by omega) hj)
  cases f with
  | zero=> exact ⟨hd,hq'⟩
  | succ f=> exact ⟨fun _=> hq',fun i hi=> by rw [hd] at hi;cases hi⟩
 induction fuel with
 | zero=>
  intro listed a w hz hsh h
  refine ⟨fun h0=> ?_,fun i hi=> ?_⟩
  ·have:l0.length ∈ Region.ready .any (l0 ++ [last]).toArray (listed.push false):=(zgf hl hz hsh _).2 (.inr ⟨rfl,fun j hj=> zje hl hz h.1 (j + 1) j (by omega) hj⟩)
   rw [h0] at this;cases this
  ·rcases (zgf hl hz hsh i).1 hi with hi | ⟨rfl,_⟩
   ·rw [h.1] at hi;cases hi
   ·exact stop 0 listed a w hz h.1 h.2
 | succ fuel ih=>
  intro listed a w hz hsh h
  refine ⟨fun h0=> ?_,fun i hi=> ?_⟩
  ·rcases hr:Region.ready .any l0.toArray listed with _ | ⟨j,js⟩
   ·have:l0.length ∈ Region.ready .any (l0 ++ [last]).toArray (listed.push false):=(zgf hl hz hsh _).2 (.inr ⟨rfl,fun j hj=> zje hl hz hr (j + 1) j (by omega) hj⟩)
    rw [h0] at this;cases this
   ·have:j ∈ Region.ready .any (l0 ++ [last]).toArray (listed.push false):=(zgf hl hz hsh _).2 (.inl (by rw [hr];exact List.mem_cons_self ..))
    rw [h0] at this;cases this
  ·rcases (zgf hl hz hsh i).1 hi with hi | ⟨rfl,hall⟩
   ·have h1:=h.2 i hi
    obtain ⟨hu,o,ho,_⟩:=mem_ready.1 hi
    have hil:i < l0.length:=by
     have:=(Array.getElem?_eq_some_iff.1 ho).1
     simpa using this
    have hg:o.guard=none:=by
     simp only [lastB,Bool.and_eq_true] at hl
     have ho':o ∈ l0:=List.mem_of_getElem? (by simpa using ho:l0[i]?=some o)
     have:=List.all_eq_true.1 hl.1.1.1 o ho'
     simp only [Bool.and_eq_true,Option.isNone_iff_eq_none] at this
     exact this.1
    have hw:∀ k,Region.wanted o k=true:=fun k=> by unfold Region.wanted;rw [hg]
    rw [z7e (by omega)]
    have h2:=wpOp_mono (fun a' w' hh=> ih (listed.setIfInBounds i true) a' w' (by simpa using hz) (z4m hsh hi) hh) h1
    unfold wpOp at h2 ⊢
    rw [ho] at h2
    rw [zp6 hil,ho]
    simp only [hw,if_true] at h2 ⊢
    rcases h2 with h2 | ⟨h2,b,u,h3⟩
    ·exact .inl (zpf h2 hq)
    ·exact .inr ⟨h2,b,u,hq _ _ _ (fun e=> by cases e) h3⟩
   ·have h0:Region.ready .any l0.toArray listed= []:=by
     apply List.eq_nil_iff_forall_not_mem.2
     intro k hk
     obtain ⟨hu,o,ho,_⟩:=mem_ready.1 hk
     have hkl:k < l0.length:=by
      have:=(Array.getElem?_eq_some_iff.1 ho).1
      simpa using this
     have h1:=hall k hkl
     have:=getD_both hu
     rw [h1] at this;cases this
    exact stop (fuel + 1) listed a w hz h0 (h.1 h0)
theorem zcx {id:Nat} {a:Act} {W:World} {x:zd0} {ld:Nat} {v:Value} {K0 K1:World->Prop} {l l':List Oper} {ts:List Nat} (n:Nat) (hm:P.follows .mixedOrders=true) (hd:l.drop n= [last]) (hla:lastB (l.take n) last=true)
  (hl:zfq x ld v 0 (l.take n)=l') (hB:Region.lexB .any l'.toArray=true) (hf:zrg (l.take n).toArray x ld=true) (hsel:Region.noSelect (l.take n).toArray=true)
  (hn:x.al≠x.st/\x.al≠ld/\x.st≠ld/\x.src≠x.d) (hin:ld < (l.take n).toArray.size/\(x.al < (l.take n).toArray.size↔x.st < (l.take n).toArray.size)) (hso:x.so≠x.al/\x.so≠x.st) (hsl:x.al < (l.take n).toArray.size->x.so≠ld) (hw:zsq (l.take n).toArray x ld ts=true) (hts:x.d ∉ ts) (hfit:x.d < a.tmps.size)
  (hc:zn6 W K0/\zn6 W K1) (h0:K0 W.drew)
  (hall:∃ aF,(∀ B,K0 B\/K1 B->W.heap.size<=B.heap.size->wpQuiet P l'.toArray (fun w'=> ∃ e:Ext B,w'=e.w) (fun a'=> a'=aF) l' a)/\(x.al < (l.take n).toArray.size->∀ Q0,ze2 P (l.take n) Q0 aF x)/\(∀ Q0,zij P (l.take n) Q0 aF W ld v ts K0 K1)/\
   ∀ a w M,zni W x K1 (l.take n).toArray.size aF a w M->wpList P l.toArray Q [last] a w):(Code.region id l.toArray true).wp P Q a W:=by
 have hll:l=l.take n ++ [last]:=by rw [<- hd,List.take_append_drop]
 obtain ⟨aF,h1,h2,h3,h4⟩:=hall
 generalize hl0:l.take n=l0 at *
 subst hll
 have hz:(l0 ++ [last]).toArray.size=l0.toArray.size + 1:=by simp
 have hg:last.guard=none\/True:= .inr trivial
 have h5:=zqg (P:=P) (Q:=fun e a w=> match e with | .normal=> wpList P (l0 ++ [last]).toArray Q [last] a w | e=> Q e a w) hl hB hf hsel hn hin hso hsl hw hts hfit hc h0 ⟨aF,h1,fun hx=> h2 hx _,h3 _,h4⟩
 have h6:=zkz (P:=P) (Q:=Q) hla (fun e a w hne hq=> by cases e <;> first | exact absurd rfl hne | exact hq) (fun a w hq=> ?_) l0.toArray.size (Array.replicate l0.toArray.size false) a W.drew (by simp) (fun k o _ hk=> by rw [getD_replicate_false] at hk;cases hk) h5
 ·refine wp_region_any hm ?_
  rw [hz]
  have hr:(Array.replicate l0.toArray.size false).push false=Array.replicate (l0.toArray.size + 1) false:=by rw [Array.replicate_succ]
  rw [<- hr]
  exact h6
 ·unfold wpOp
  rw [zhz]
  exact hq
end

end

section

open Go.RowKit

section

variable {P:Program} {l:List Oper} {md:Region.Mode} {aF:Act} {W:World} {Q:Exit->Act->World->Prop} {x y:zd0}

structure z1h (W:World) (x:zd0) (aF a:Act) (w:World) (M:Nat):Prop where
 state:a=aF.put (some x.d) (vptr M)
 below:Below W.heap.size W w
 new:W.heap.size<=M
 one:w.heap[M]?=some (.cells x.val x.t (0,0))
theorem yga (hf:z2q l.toArray x y=true) (hsel:Region.noSelect l.toArray=true) (hp:zlh x y) (hx:ze2 P l Q aF x)
  (hin:x.al < l.toArray.size/\x.st < l.toArray.size/\l.toArray.size<=y.al/\l.toArray.size<=y.st)
  (hso:ownB x y x.so=false)
  (hend:∀ a w M,z1h W x aF a w M->Q .normal a w) (fuel:Nat):∀ (listed:Array Bool) (aQ a:Act) (w:World),listed.size=l.toArray.size->zhy W x y listed aQ a w->
  (∀ B,Below W.heap.size W B->wpAnyQ P .any (nopL x y l).toArray (zhc B) (fun a=> a=aF) fuel listed aQ)->wpAny P .any l.toArray Q fuel listed a w:=by
 have fin:∀ (listed:Array Bool) (aQ a:Act) (w:World),listed.size=l.toArray.size->zhy W x y listed aQ a w->Region.ready .any l.toArray listed= []->aQ=aF->Q .normal a w:=by
  intro listed aQ a w hz hr h0 e
  have hall:∀ i,i < l.toArray.size->listed.getD i false=true:=fun i hi=> by
   have:=all_in hf hz h0 (i + 1) i (by omega) hi
   have hlt:i < listed.size:=by omega
   simp only [Array.getD_eq_getD_getElem?,Array.getElem?_eq_getElem hlt,Option.getD_some] at this ⊢
   exact this
  have hno:listed.getD y.al false=false:=by
   have:listed.size<=y.al:=by omega
   simp [Array.getElem?_eq_none this]
  obtain ⟨M,N,h1,h2,h3,h4⟩:=hr.there
  rw [hall _ hin.1,hno,e] at h1
  obtain ⟨k1,k2⟩:=h2 (hall _ hin.1)
  rw [hall _ hin.2.1] at k2
  exact hend a w M ⟨h1,hr.below,k1,by simpa using k2⟩
 induction fuel with
 | zero=>
  intro listed aQ a w hz hr h
  have h1:=h W br
  have h0:Region.ready .any l.toArray listed= []:=by rw [<- zne (x:=x) (y:=y)];exact h1.1
  exact ⟨h0,fin listed aQ a w hz hr h0 h1.2⟩
 | succ fuel ih=>
  intro listed aQ a w hz hr h
  refine ⟨fun h0=> fin listed aQ a w hz hr h0 ((h W br).1 (by rw [zne];exact h0)),fun i hi=> ?_⟩
  have hi':i ∈ Region.ready .any (nopL x y l).toArray listed:=by rw [zne];exact hi
  obtain ⟨hun,o,ho,hedge⟩:=mem_ready.1 hi
  have hlt:=zfh hun
  have hil:i < l.toArray.size:=(Array.getElem?_eq_some_iff.1 ho).1
  have hz':(listed.setIfInBounds i true).size=l.toArray.size:=by simpa using hz
  cases hown:ownB x y i with
  | true=>
   have hK:∀ B,Below W.heap.size W B->wpAnyQ P .any (nopL x y l).toArray (zhc B) (fun a=> a=aF) fuel (listed.setIfInBounds i true) aQ:=fun B hB=>
    ycl hown ⟨o,ho⟩ ((h B hB).2 i hi')
   have src:∀ z:zd0,ze2 P l Q aF z->ownB x y z.so=false->listed.getD z.so false=true->aQ.eval (.tmp z.src)=aF.eval (.tmp z.src):=fun z hz ho hl=> by
    obtain ⟨oz,k1,k2⟩:=hz.src
    have h1:(nopL x y l).toArray[z.so]?=some oz:=by rw [zmy,k1];simp [ho]
    have:=zph h1 k2 (zpl hf k1 _ k2) _ listed aQ hl (h W br)
    show aQ.tmps.getD z.src undef=aF.tmps.getD z.src undef
    rw [Array.getD_eq_getD_getElem?,Array.getD_eq_getD_getElem?,this]
   have hc:i=x.al\/i=x.st:=by
    simp only [ownB,Bool.or_eq_true,beq_iff_eq] at hown
    omega
   rcases hc with e | e <;> subst e
   ·exact wpOp_mono (fun a' w' hr'=> ih _ _ _ _ hz' hr' hK) (z7g hp hx hr hun)
   ·exact wpOp_mono (fun a' w' hr'=> ih _ _ _ _ hz' hr' hK) (z6q hp hx hr hi (src x hx hso (hx.waits _ hi).2))
  | false=>
   obtain ⟨qg,qx,qy,lx,ly⟩:=(zm4 hf ho).quiet hown
   have h0:(nopL x y l).toArray[i]?=some o:=by rw [zmy,ho];simp [hown]
   obtain ⟨v,hyv,hKv⟩:=yieldsIn_of_qOp h0 ((h w hr.below).2 i hi')
   have hv:=zqc h0 (zpl hf ho) hlt hKv
   have hK:∀ B,Below W.heap.size W B->wpAnyQ P .any (nopL x y l).toArray (zhc B) (fun a=> a=aF) fuel (listed.setIfInBounds i true) (aQ.put o.dst v):=fun B hB=> by
    obtain ⟨u,_,hKu⟩:=yieldsIn_of_qOp h0 ((h B hB).2 i hi')
    have hu:=zqc h0 (zpl hf ho) hlt hKu
    rw [hv,<- hu];exact hKu
   have hwant:∀ k,Region.wanted o k=true:=fun k=> by unfold Region.wanted;rw [qg]
   have hq:∀ w',zhc w w'->o.quietAt P aQ (zhc w) w' v:=by
    rcases hyv with ⟨_,h2⟩ | ⟨h2,_⟩
    ·exact h2
    ·rw [hwant] at h2;cases h2
   obtain ⟨M,N,h1,_⟩:=hr.there
   have hex:execOp a.eval o=execOp aQ.eval o:=execOp_congr o (fun cs b=> Region.noSelect_spec hsel i o cs b ho) fun z hz=> by
    rw [h1,zfk (zmk lx z hz),zfk (zmk ly z hz)]
   unfold wpOp
   rw [ho]
   simp only [hwant,if_true]
   refine .inl (Oper.wp_of_quiet (C:=zhc w) (K:=fun a'=> a'=a.put o.dst v) br (fun a' w' hw' e=> ih _ _ _ _ hz' (z1u hlt hr hown qx qy hw' e) hK) ⟨v,fun w' hw'=> ?_,rfl⟩)
   have:=hq w' hw'
   unfold Oper.quietAt at *
   rw [hex];exact this
theorem zkt {id:Nat} {a:Act} {l':List Oper} (hm:P.follows .mixedOrders=true) (hl:nopF x y 0 l=l') (hB:Region.lexB .any l'.toArray=true) (hf:z2q l.toArray x y=true) (hsel:Region.noSelect l.toArray=true) (hp:zlh x y)
  (hin:x.al < l.toArray.size/\x.st < l.toArray.size/\l.toArray.size<=y.al/\l.toArray.size<=y.st) (hso:ownB x y x.so=false) (hfit:x.d < a.tmps.size/\y.d < a.tmps.size)
  (hall:∃ aF,(∀ B,Below W.heap.size W B->wpQuiet P l'.toArray (fun w'=> ∃ e:Ext B,w'=e.w) (fun a'=> a'=aF) l' a)/\ze2 P l Q aF x/\
   ∀ a w M,z1h W x aF a w M->Q .normal a w):(Code.region id l.toArray true).wp P Q a W:=by
 subst hl
 obtain ⟨aF,h,hx,hend⟩:=hall
 rw [<- ycp] at hB h
 simp only [Region.lexB,Bool.and_eq_true] at hB
 have hlen:(nopL x y l).length=l.toArray.size:=by simp [nopL]
 refine wp_region_any hm (yga (W:=W.drew) hf hsel hp hx hin hso (fun a w M hf=> hend a w M ⟨hf.state,⟨hf.below.os,hf.below.tape,hf.below.output,hf.below.size,hf.below.block⟩,hf.new,hf.one⟩) l.toArray.size _ a a _ (by simp) ⟨Below.refl _ _,hfit,⟨fun e=> ?_,fun e=> ?_⟩,⟨0,0,?_,fun e=> ?_,fun e=> ?_,fun e=> ?_⟩⟩ fun B hb=> ?_)
 ·rw [getD_replicate_false] at e;cases e
 ·rw [getD_replicate_false] at e;cases e
 ·rw [getD_replicate_false,getD_replicate_false];rfl
 ·rw [getD_replicate_false] at e;cases e
 ·rw [getD_replicate_false] at e;cases e
 ·rw [getD_replicate_false] at e;cases e
 ·have h3:=h B ⟨hb.os,hb.tape,hb.output,hb.size,hb.block⟩
  rw [<- zsj] at h3
  have:=wpAnyQ_lex (C:=zhc B) (md:= .any) hB.1 (nopL x y l) 0 (Array.replicate l.toArray.size false) a (by simp) (by
   have h2:=hB.2
   simpa [nopL] using h2) h3
  rw [hlen] at this
  exact this
end

end

section

open Go.RowKit

attribute [local go_sem ↓] Go.wp_at_zero Go.wp_at_succ

def za7 (s:Sh) (t:Fe) (pv:Value):Array Value:= #[.int .i64 s.p,.int .i64 s.c,.int .i64 s.m,.int .i64 t.c,.int .i64 t.a,.int .i64 t.page,.int .i64 t.slot,.int .u64 t.word,.int .i64 t.pk,.int .i64 t.pa,.int .i64 t.pb,.int .i64 t.next,.int .i64 t.i,pv,.bool t.gave,.bool t.done]
structure FeAt (w:World) (q q2:Nat) (s:Sh) (t:Fe):Prop where
 row:zaa w q (za7 s t (ptrV t.put q2)) 123
 inn:∀ x,t.put=some x->zaa w q2 (zeh s x) 208/\q≠q2
theorem zkw (q:Nat) (cs:Array Value) (v:Bool) (w:World) (h:zaa w q cs 123) (hv:cs[15]?=some (.bool v)):Calls Tryz.prog 66 #[.pointer (some ⟨q,0,.none⟩)] w fun e w'=> e= .returned (.bool v)/\w'=w:=by
 have c:=(h.cell 15).trans hv
 clear h hv
 go_enter Tryz.func66,Tryz.ntmps66
 go_wp2_with fail
 go_returns
 exact ⟨rfl,rfl⟩
theorem zh8 (q:Nat) (cs:Array Value) (v:Bool) (w:World) (h:zaa w q cs 123) (hv:cs[14]?=some (.bool v)):Calls Tryz.prog 67 #[.pointer (some ⟨q,0,.none⟩)] w fun e w'=> e= .returned (.bool v)/\w'=w:=by
 have c:=(h.cell 14).trans hv
 clear h hv
 go_enter Tryz.func67,Tryz.ntmps67
 go_wp2_with fail
 go_returns
 exact ⟨rfl,rfl⟩
theorem zoc (w:World):Calls Tryz.prog 67 #[.pointer none] w fun e w'=> e= .returned (.bool false)/\w'=w:=by
 go_enter Tryz.func67,Tryz.ntmps67
 go_wp2_with fail
 go_returns
 exact ⟨rfl,rfl⟩
theorem zxk (s:Sh) (a:Int) (w:World):Calls Tryz.prog 35 #[.agg #[.int .i64 s.p,.int .i64 s.c,.int .i64 s.m],.int .i64 a] w fun e w'=> e= .returned (.tuple #[.int .i64 (if spB s a=true then a / 64 else 0),.int .i64 (if spB s a=true then a % 64 else 0),.bool (spB s a)])/\Below w.heap.size w w':=by
 refine (z0r s.p s.c s.m a w).mono ?_
 rintro e w' ⟨rfl,hb⟩
 refine ⟨?_,hb⟩
 have h:splitB s.p s.c s.m a=spB s a:=rfl
 rw [h]
 cases spB s a <;> rfl
theorem zq9 (s:Sh) (c a:Int) (w:World):
  Calls Tryz.prog 39 #[.agg #[.int .i64 s.p,.int .i64 s.c,.int .i64 s.m],.int .i64 c,.int .i64 a] w fun e w'=> Born w w' e (za7 s (zc2 s c a) (.pointer none)) 123:=by
 have hg:=fun W=> zau s.p s.c s.m c W
 have hsp:=fun W=> zxk s a W
 have hn:za7 s (zc2 s c a) (.pointer none)= #[.int .i64 s.p,.int .i64 s.c,.int .i64 s.m,.int .i64 c,.int .i64 a,.int .i64 (if spB s a=true then a / 64 else 0),.int .i64 0,.int .u64 0,.int .i64 0,.int .i64 0,.int .i64 0,.int .i64 0,.int .i64 0,.pointer none,.bool false,.bool (!spB s a || decide (zae s.p s.c s.m c < 0))]:=rfl
 rw [hn]
 clear hn
 generalize zae s.p s.c s.m c=sx at *
 generalize (if spB s a=true then a / 64 else 0)=d at *
 generalize (if spB s a=true then a % 64 else 0)=f at *
 generalize spB s a=g at *
 obtain ⟨sp,sc,sm⟩:=s
 dsimp only at hg hsp ⊢
 replace hg:=hd' hg
 replace hsp:=hd' hsp
 have hb0:=(Below.refl w.heap.size w).alloc lr (.cells #[.int .i64 sp,.int .i64 sc,.int .i64 sm] 24)
 have t0:=heap_alloc_new w (.cells #[.int .i64 sp,.int .i64 sc,.int .i64 sm] 24)
 go_enter Tryz.func39,Tryz.ntmps39
 go_upto_region 1 with fail
 generalize w.alloc (.cells #[.int .i64 sp,.int .i64 sc,.int .i64 sm] 24)=W at *
 obtain ⟨H,hH,hH'⟩:=hidv w.heap.size
 rw [<- hH'] at t0 ⊢
 have lH:H < W.heap.size:=(Array.getElem?_eq_some_iff.1 t0).1
 have c0:W.cell? ⟨H,0,.none⟩=some (.int .i64 sp):=zac t0 0
 have c1:W.cell? ⟨H,1,.none⟩=some (.int .i64 sc):=zac t0 1
 have c2:W.cell? ⟨H,2,.none⟩=some (.int .i64 sm):=zac t0 2
 clear hH' t0
 go_upto_region 2 with (first
  | (go_at_call 35;(with_reducible refine (hsp.out _).mono ?_);rintro r w1 ⟨rfl,hb1⟩;have d0:=zai hb1 _ _ _ c0;have d1:=zai hb1 _ _ _ c1;have d2:=zai hb1 _ _ _ c2;have lH1:=zqe d0)
  | fail)
 clear c0 c1 c2
 rcases (by cases g <;> simp <;> omega:g=false\/(g=true/\sx < 0)\/(g=true/\¬ sx < 0)) with rfl | ⟨rfl,h1⟩ | ⟨rfl,h1⟩
 all_goals
  try have q1:=decide_eq_false h1
  refine zad 13 (by kernel_rfl) (by kernel_rfl) ?_
  dsimp only [List.take,List.drop]
  repeat (go_big_quiet_step ((first | (go_at_call 14;exact zam (hg.out _)) | fail)))
  refine wpQuiet_nil ?_
  rintro _ ⟨e',rfl⟩
  have hbe:=e'.below
  generalize e'.w=X at *
  change wpList _ _ _ _ _ X
  go_wp2_with fail
  go_returns
 ·exact za6 hb0 (zab hb1 hbe) rfl
 ·exact za6 hb0 (zab hb1 hbe) (by simp [h1])
 ·exact za6 hb0 (zab hb1 hbe) (by simp [h1])
theorem zoz (q q2:Nat) (s:Sh) (t:Fe) (x:Pu) (w:World) (h:FeAt w q q2 s t) (hx:t.put=some x):
  Calls Tryz.prog 141 #[.pointer (some ⟨q,0,.none⟩)] w fun e w'=> Turned q w w' e (za7 s t.kept (.pointer (some ⟨q2,0,.none⟩))) 123:=by
 obtain ⟨hin,hne⟩:=h.inn x hx
 have hput:=z4h q2 (zeh s x) x.put w hin rfl
 have hdone:=zxw q2 (zeh s x) x.done w hin rfl
 have h0:At1 q w w (za7 s t (.pointer (some ⟨q2,0,.none⟩))) 123:=At1.start (by have:=h.row;rw [hx] at this;exact this)
 have hk:=zcv t x hx
 obtain ⟨t2,ht2⟩:∃ t2,t2=t.kept:=⟨_,rfl⟩
 rw [<- ht2] at hk ⊢
 clear ht2 h hx hin
 generalize zeh s x=ics at *
 generalize x.put=g at *
 generalize x.done=d at *
 obtain ⟨sp,sc,sm⟩:=s
 obtain ⟨tc,ta,tg,tl,tw,pk,pa,pb,tn,ti,tput,tgave,tdone⟩:=t
 dsimp only at hk
 replace hput:=hd' hput
 replace hdone:=hd' hdone
 have c11:=ci tn (h0.cell 11)
 have c13:=ce (.pointer (some ⟨q2,0,.none⟩)) (h0.cell 13)
 have c15:=ce (.bool tdone) (h0.cell 15)
 have zf:=h0.free
 rcases hk with ⟨rfl,ht2⟩ | ⟨rfl,rfl,ht2⟩ | ⟨rfl,rfl,ht2⟩
 all_goals
  replace ht2:=hd' ht2
  go_enter Tryz.func141,Tryz.ntmps141
  go_wp2_with (first
   | (go_at_call 146;(with_reducible refine hput.out.mono ?_);rintro r w2 ⟨rfl,hw2⟩;obtain rfl:=hw2.symm)
   | (go_at_call 147;(with_reducible refine hdone.out.mono ?_);rintro r w3 ⟨rfl,hw3⟩;obtain rfl:=hw3.symm)
   | fail)
  go_returns
 ·exact (h0.set 15 _).fin (by rw [ht2.out];rfl)
 ·exact (h0.set 11 _).fin (by rw [ht2.out];rfl)
 ·exact h0.fin (by rw [ht2.out])
theorem zvp (q p b:Nat) (s:Sh) (t:Fe) (pv:Value) (m:Mem) (w:World) (h0:At3 q p b w w (za7 s t pv) 123 m) (hf:Fits s m) (hs:m.st < 1000000000) (hpg:0<=t.page/\t.page < s.p) (hpa:1<=t.pa/\t.pa<=8/\t.pa<=s.p - t.page) (hi:0<=t.i/\t.i < t.pa):
  Calls Tryz.prog 145 #[.pointer (some ⟨q,0,.none⟩),.pointer (some ⟨p,0,.none⟩)] w fun e w'=> e= .returned (.tuple #[])/\At3 q p b w w' (za7 s (if t.i=t.pa - 1 then { t with done:=true } else { t with i:=t.i + 1 }) pv) 123 (if t.i=t.pa - 1 then m.store t.c (zak s.p s.c s.m t.page) 0 else m.store t.c (zak s.p s.c s.m (t.page + t.i + 1)) 0):=by
 have hbd:=hf.bd
 have w1:=wrp (t.pa - 1)
 have w2:=wrp (t.i + 1)
 have w3:=wrp (t.page + t.i)
 have w4:=wrp (t.page + t.i + 1)
 by_cases hcs:t.i=t.pa - 1
 ·rw [if_pos hcs,if_pos hcs]
  have hcb:(t.i==t.pa - 1)=true:=by simpa using hcs
  obtain ⟨hpx,hph⟩:=hf.page hpg
  have hcpp:=fun Y=> planPage_any s.p s.c s.m t.page Y
  rw [hpx] at hcpp ⊢
  have hst:=fun Y (hY:zaq Y p b m)=> zba p b m t.c (s.c + t.page) 0 Y hY hph (by decide) hs
  generalize s.c + t.page=pg at *
  clear hpx hph hpg hpa hi hbd hf w2 w3 w4 hcs
  obtain ⟨sp,sc,sm⟩:=s
  obtain ⟨tc,ta,tg,tl,tw,pk,pa,pb,tn,ti,tput,tgave,tdone⟩:=t
  dsimp only at hcpp hst w1 hcb ⊢
  replace hcpp:=hd' hcpp
  replace hst:=hd' hst
  have lq:=h0.lt
  obtain ⟨c0,c1,c2,c3,c4,c5,c6⟩:=ci7 sp sc sm tc ta tg tl h0.cell
  have c7:=ce (.int .u64 tw) (h0.cell 7)
  have c8:=ci pk (h0.cell 8)
  have c9:=ci pa (h0.cell 9)
  have c10:=ci pb (h0.cell 10)
  have c11:=ci tn (h0.cell 11)
  have c12:=ci ti (h0.cell 12)
  have c13:=ce (pv) (h0.cell 13)
  have c14:=ce (.bool tgave) (h0.cell 14)
  have c15:=ce (.bool tdone) (h0.cell 15)
  go_enter Tryz.func145,Tryz.ntmps145
  go_upto_region 0 with fail
  refine zaj (by kernel_rfl) (by kernel_rfl) ?_
  repeat (go_big_quiet_step (fail))
  refine wpQuiet_nil ?_
  rintro _ ⟨e',rfl⟩
  have hX:=h0.below e'.below
  generalize e'.w=X at *
  clear c0 c1 c2 c3 c4 c5 c6 c7 c8 c9 c10 c11 c12 c13 c14 c15 lq
  obtain ⟨k0,k1,k2,k3⟩:=ci4 sp sc sm tc hX.cell
  have k5:=ci tg (hX.cell 5)
  go_upto_region 1 with fail
  have lX:=hX.lt
  refine zad 14 (by kernel_rfl) (by kernel_rfl) ?_
  dsimp only [List.take,List.drop]
  repeat (go_big_quiet_step ((first | (go_at_call 59;exact zam (hcpp.out _)) | fail)))
  refine wpQuiet_nil ?_
  rintro _ ⟨e',rfl⟩
  have hZ:=hX.below e'.below
  generalize e'.w=Z at *
  change wpList _ _ _ _ _ Z
  clear k0 k1 k2 k3 k5 hX lX
  go_wp2_with (first | (go_at_call 118;(with_reducible refine (hst.out _ hZ.wds).mono ?_);rintro r w2 ⟨rfl,hw2,ho2⟩;have hA:=hZ.access hw2 ho2;have z15:=ce (.bool tdone) (hA.cell 15);have zf:=hA.free) | fail)
  go_returns
  exact ⟨rfl,hA.set 15 _⟩
 ·rw [if_neg hcs,if_neg hcs]
  have hcb:(t.i==t.pa - 1)=false:=by simpa using hcs
  obtain ⟨hpx,hph⟩:=hf.page (x:=t.page + t.i + 1) (by omega)
  have hcpp:=fun Y=> planPage_any s.p s.c s.m (t.page + t.i + 1) Y
  rw [hpx] at hcpp ⊢
  have hst:=fun Y (hY:zaq Y p b m)=> zba p b m t.c (s.c + (t.page + t.i + 1)) 0 Y hY hph (by decide) hs
  generalize s.c + (t.page + t.i + 1)=pg at *
  clear hpx hph hpg hpa hi hbd hf hcs
  obtain ⟨sp,sc,sm⟩:=s
  obtain ⟨tc,ta,tg,tl,tw,pk,pa,pb,tn,ti,tput,tgave,tdone⟩:=t
  dsimp only at hcpp hst w1 w2 w3 w4 hcb ⊢
  replace hcpp:=hd' hcpp
  replace hst:=hd' hst
  have lq:=h0.lt
  obtain ⟨c0,c1,c2,c3,c4,c5,c6⟩:=ci7 sp sc sm tc ta tg tl h0.cell
  have c7:=ce (.int .u64 tw) (h0.cell 7)
  have c8:=ci pk (h0.cell 8)
  have c9:=ci pa (h0.cell 9)
  have c10:=ci pb (h0.cell 10)
  have c11:=ci tn (h0.cell 11)
  have c12:=ci ti (h0.cell 12)
  have c13:=ce (pv) (h0.cell 13)
  have c14:=ce (.bool tgave) (h0.cell 14)
  have c15:=ce (.bool tdone) (h0.cell 15)
  go_enter Tryz.func145,Tryz.ntmps145
  go_upto_region 0 with fail
  refine zaj (by kernel_rfl) (by kernel_rfl) ?_
  repeat (go_big_quiet_step (fail))
  refine wpQuiet_nil ?_
  rintro _ ⟨e',rfl⟩
  have hX:=h0.below e'.below
  generalize e'.w=X at *
  clear c0 c1 c2 c3 c4 c5 c6 c7 c8 c9 c10 c11 c12 c13 c14 c15 lq
  obtain ⟨k0,k1,k2,k3⟩:=ci4 sp sc sm tc hX.cell
  have k5:=ci tg (hX.cell 5)
  have k12:=ci ti (hX.cell 12)
  go_upto_region 3 with fail
  have lX:=hX.lt
  refine zad 20 (by kernel_rfl) (by kernel_rfl) ?_
  dsimp only [List.take,List.drop]
  repeat (go_big_quiet_step ((first | (go_at_call 59;exact zam (hcpp.out _)) | fail)))
  refine wpQuiet_nil ?_
  rintro _ ⟨e',rfl⟩
  have hZ:=hX.below e'.below
  generalize e'.w=Z at *
  change wpList _ _ _ _ _ Z
  clear k0 k1 k2 k3 k5 k12 hX lX
  go_wp2_with (first | (go_at_call 118;(with_reducible refine (hst.out _ hZ.wds).mono ?_);rintro r w2 ⟨rfl,hw2,ho2⟩;have hA:=hZ.access hw2 ho2;have z12:=ci ti (hA.cell 12);have zf:=hA.free) | fail)
  go_returns
  exact ⟨rfl,hA.set 12 _⟩
end

end Go.Proofs.YthgekdlegbmehaaGreat
