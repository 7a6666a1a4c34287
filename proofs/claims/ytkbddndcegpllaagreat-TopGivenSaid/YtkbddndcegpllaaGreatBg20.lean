/- Texts bound together: QLast QVar1 FreeW. -/
import Derived.Test.YtkbddndcegpllaaGreatBg19

set_option linter.all false
set_option maxHeartbeats 1000000
set_option maxRecDepth 100000
namespace Go.Proofs.YtkbddndcegpllaaGreat

section

open Go.RowKit

theorem zpf{P:Program}{o:Oper}{a:Act}{K:Act->World->Prop}{Q0 Q:Exit->Act->World->Prop}{r:Result Next}(h:o.upon P a K Q0 r)(j:∀ e a w,e≠ .normal->Q0 e a w->Q e a w):o.upon P a K Q r:=by
 match r,h with
 | .ok (.value v) w',h=>exact h
 | .ok .skip w',h=>exact h
 | .ok (.defer d) w',h=>exact h
 | .ok (.enter f args) w',h=>
  refine Calls.mono h fun e m i=>?_
  match e,i with
  | .returned v,i=>exact i
  | .panicked chain,i=>exact j _ _ _ (fun e=>by cases e) i
  | .outgrown,⟨b,u,hb⟩=>exact⟨b,u,j _ _ _ (fun e=>by cases e) hb⟩
 | .ok (.row row args) w',h=>exact h
 | .halt (.panic v) w',h=>exact j _ _ _ (fun e=>by cases e) h
def lastB (l0:List Oper) (last:Oper):Bool:=
 (l0.all fun o=> o.guard.isNone && o.after.all fun e=> !Region.binds .any e || decide (e.on < l0.length)) && ((List.range l0.length).all fun i=> match l0[i]? with | some o=> o.after.all fun e=> !Region.binds .any e || decide (e.on < i) | none=> true) &&
  ((List.range l0.length).all fun j=> (last.after.any fun e=> Region.binds .any e && e.on==j) || (List.range l0.length).any fun k=> decide (j < k) && match l0[k]? with | some o=> o.after.any fun e=> Region.binds .any e && e.on==j | none=> false) && (last.after.all fun e=> !Region.binds .any e || decide (e.on < l0.length))
section

variable {P:Program} {l0:List Oper} {last:Oper} {Q Q0:Exit->Act->World->Prop}

theorem zp6{i:Nat}(h:i<l0.length):(l0++[last]).toArray[i]?=l0.toArray[i]?:=by simp[h,List.getElem?_append_left]
theorem zhz:(l0++[last]).toArray[l0.length]?=some last:=by simp
theorem zgp{listed:Array Bool}{i:Nat}{d:Bool}(h:i<listed.size):(listed.push false).getD i d=listed.getD i d:=by
 have b:i<(listed.push false).size:=by simp;omega
 simp only[Array.getD_eq_getD_getElem?,Array.getElem?_eq_getElem h,Array.getElem?_eq_getElem b,Option.getD_some];rw[Array.getElem_push_lt h]
def z5j (l0:List Oper) (listed:Array Bool):Prop:=∀ k o,l0[k]?=some o->listed.getD k false=true->∀ e ∈ o.after,Region.binds .any e=true->listed.getD e.on false=true
theorem z4m{listed:Array Bool}{i:Nat}(hs:z5j l0 listed)(hi:i ∈ Region.ready .any l0.toArray listed):z5j l0 (listed.setIfInBounds i true):=by
 intro k o q f e p hb;have j:=zfh (mem_ready.1 hi).1;rw[gset j]at f ⊢;by_cases n:k=i
 ·subst n;obtain⟨_,r,m,b⟩:=mem_ready.1 hi;have:l0[k]?=some r:=by simpa using m
  rw[q]at this;obtain rfl:=Option.some.inj this;rw[b e p hb,Bool.or_true]
 rw[decide_eq_false n,Bool.false_or]at f;rw[hs k o q f e p hb,Bool.or_true]
theorem zgf(G:lastB l0 last=true){listed:Array Bool}(I:listed.size=l0.length)(F:z5j l0 listed)(i:Nat):
  i ∈ Region.ready .any (l0++[last]).toArray (listed.push false)↔(i ∈ Region.ready .any l0.toArray listed)\/(i=l0.length/\∀ j,j<l0.length->listed.getD j false=true):=by
 simp only[lastB,Bool.and_eq_true]at G;obtain⟨⟨⟨z,H⟩,D⟩,E⟩:=G;rw[mem_ready,mem_ready];constructor
 ·rintro⟨hu,o,n,b⟩;rcases Nat.lt_trichotomy i l0.length with hi|hi|hi
  ·rw[zp6 hi]at n;refine .inl ⟨by rw[zgp (by omega)]at hu;exact hu,o,n,fun e q hb=>?_⟩;have:=b e q hb;have r:o ∈ l0:=by
    have:l0[i]?=some o:=by simpa using n
    exact List.mem_of_getElem? this
   have m:=List.all_eq_true.1 z o r;simp only[Bool.and_eq_true]at m;have p:=(Array.all_eq_true_iff_forall_mem.1 m.2) e q;have s:e.on<l0.length:=by simpa[hb] using p
   rwa [zgp (by omega)]at this
  ·subst hi;rw[zhz]at n;obtain rfl:=Option.some.inj n;refine .inr ⟨rfl,?_⟩
   have key:∀ d j,j<l0.length->l0.length<=j+d->listed.getD j false=true:=by
    intro d
    induction d with
    |zero=>intro j C hd;omega
    |succ d J=>
     intro j C hd
     have m:=List.all_eq_true.1 D j (List.mem_range.2 C)
     simp only[Bool.or_eq_true]at m
     rcases m with m|m
     ·obtain⟨k,t,f⟩:=Array.any_eq_true.1 m
      simp only[Bool.and_eq_true,beq_iff_eq]at f
      have:=b _ (Array.getElem_mem t) f.1
      rw[f.2,zgp (by omega)]at this
      exact this
     ·obtain⟨k,t,p⟩:=List.any_eq_true.1 m
      have t:=List.mem_range.1 t
      simp only[Bool.and_eq_true,decide_eq_true_eq]at p
      have s:=p.2
      have B:l0[k]?=some l0[k]:=List.getElem?_eq_getElem t
      rw[B]at s
      obtain⟨u,hu,f⟩:=Array.any_eq_true.1 s
      simp only[Bool.and_eq_true,beq_iff_eq]at f
      have:=F k _ B (J k t (by omega)) _ (Array.getElem_mem hu) f.1
      rw[f.2]at this
      exact this
   exact fun j C=>key l0.length j C (by omega)
  have:(l0++[last]).toArray[i]?=none:=by simp;omega
  rw[this]at n;cases n
 rintro(⟨hu,o,n,b⟩|⟨rfl,b⟩)
 ·have hi:i<l0.length:=by have:=(Array.getElem?_eq_some_iff.1 n).1;simpa using this
  refine⟨by rw[zgp (by omega)];exact hu,o,by rw[zp6 hi];exact n,fun e q hb=>?_⟩;have r:o ∈ l0:=by
   have:l0[i]?=some o:=by simpa using n
   exact List.mem_of_getElem? this
  have m:=List.all_eq_true.1 z o r;simp only[Bool.and_eq_true]at m;have p:=(Array.all_eq_true_iff_forall_mem.1 m.2) e q;have s:e.on<l0.length:=by simpa[hb] using p
  rw[zgp (by omega)];exact b e q hb
 refine⟨?_,last,zhz,fun e q hb=>?_⟩
 ·rw[<-I,Array.getD_eq_getD_getElem?,Array.getElem?_push_size];rfl
 have p:=(Array.all_eq_true_iff_forall_mem.1 E) e q;have s:e.on<l0.length:=by simpa[hb] using p
 rw[zgp (by omega)];exact b _ s
theorem zje(r:lastB l0 last=true){listed:Array Bool}(H:listed.size=l0.length)(h:Region.ready .any l0.toArray listed= []):∀ n i,i<n->i<l0.length->listed.getD i false=true:=by
 simp only[lastB,Bool.and_eq_true]at r;obtain⟨⟨⟨B,m⟩,C⟩,D⟩:=r;intro n;induction n with
 |zero=>intro i hi;omega;|succ n F=>
  intro i hi b;rcases Bool.eq_false_or_eq_true (listed.getD i true) with e|e
  ·have o:i<listed.size:=by omega
   simp only[Array.getD_eq_getD_getElem?,Array.getElem?_eq_getElem o,Option.getD_some]at e ⊢;exact e
  have E:l0.toArray[i]?=some l0.toArray[i]:=Array.getElem?_eq_getElem (by rw[List.size_toArray];exact b)
  have s:i ∈ Region.ready .any l0.toArray listed:=mem_ready.2 ⟨e,_,E,fun f z j=>by
   have q:=List.all_eq_true.1 m i (List.mem_range.2 b)
   have p:l0[i]?=some l0.toArray[i]:=by simp
   rw[p]at q
   have t:=(Array.all_eq_true_iff_forall_mem.1 q) f z
   have G:f.on<i:=by simpa[j] using t
   exact F f.on (by omega) (by omega)⟩
  rw[h]at s;cases s
theorem z7e{listed:Array Bool}{i:Nat}(h:i<listed.size):(listed.push false).setIfInBounds i true=(listed.setIfInBounds i true).push false:=by
 apply Array.ext
 ·simp
 intro j m n;simp only[Array.size_setIfInBounds,Array.size_push]at m;rw[Array.getElem_setIfInBounds (by simpa using m)];by_cases b:j<listed.size
 ·rw[Array.getElem_push_lt b,Array.getElem_push_lt (by simpa using b),Array.getElem_setIfInBounds b]
 have:j=listed.size:=by omega
 subst this;have f:¬ i=listed.size:=by omega
 rw[if_neg f,Array.getElem_push_eq];have:=Array.getElem_push_eq (xs:=listed.setIfInBounds i true) (x:=false);simp[Array.getElem_push]
theorem z01{listed:Array Bool}(t:listed.size=l0.length)(b:∀ j,j<l0.length->listed.getD j false=true):Region.ready .any (l0++[last]).toArray ((listed.push false).setIfInBounds l0.length true)= []:=by
 apply List.eq_nil_iff_forall_not_mem.2;intro i hi;obtain⟨hu,o,r,_⟩:=mem_ready.1 hi;have q:i<l0.length+1:=by have:=(Array.getElem?_eq_some_iff.1 r).1;simpa using this
 by_cases e:i=l0.length
 ·subst e;have s:l0.length<((listed.push false).setIfInBounds l0.length true).size:=by simp;omega
  simp only[Array.getD_eq_getD_getElem?,Array.getElem?_eq_getElem s,Option.getD_some]at hu;rw[Array.getElem_setIfInBounds_self]at hu;cases hu
 have f:i<l0.length:=by omega
 have p:=b i f;have m:l0.length≠i:=fun n=>e n.symm;rw[Array.getD_eq_getD_getElem?,Array.getElem?_setIfInBounds_ne m,<- Array.getD_eq_getD_getElem?,zgp (by omega)]at hu;have:=getD_both hu;rw[p]at this;cases this
theorem zkz(q:lastB l0 last=true)(J:∀ e a w,e≠ .normal->Q0 e a w->Q e a w)(S:∀ a w,Q0 .normal a w->wpOp P (l0++[last]).toArray Q l0.length (fun E w'=>Q .normal E w') a w)(m:Nat):
  ∀ (listed:Array Bool) (a:Act) (w:World),listed.size=l0.length->z5j l0 listed->wpAny P .any l0.toArray Q0 m listed a w->wpAny P .any (l0++[last]).toArray Q (m+1) (listed.push false) a w:=by
 have t:∀ (f:Nat) (listed:Array Bool) (a:Act) (w:World),listed.size=l0.length->Region.ready .any l0.toArray listed= []->Q0 .normal a w->
   wpOp P (l0++[last]).toArray Q l0.length (wpAny P .any (l0++[last]).toArray Q f ((listed.push false).setIfInBounds l0.length true)) a w:=fun f listed a w p r M=>by
  refine wpOp_mono (fun E w' D=>?_) (S a w M)
  have hd:=z01 (last:=last) p (fun j C=>zje q p r (j+1) j (by omega) C)
  cases f with
  |zero=>exact⟨hd,D⟩
  |succ f=>exact⟨fun _=>D,fun i hi=>by rw[hd]at hi;cases hi⟩
 induction m with
 |zero=>
  intro listed a w p n h;refine⟨fun r=>?_,fun i hi=>?_⟩
  ·have:l0.length ∈ Region.ready .any (l0++[last]).toArray (listed.push false):=(zgf q p n _).2 (.inr ⟨rfl,fun j C=>zje q p h.1 (j+1) j (by omega) C⟩);rw[r]at this;cases this
  rcases(zgf q p n i).1 hi with hi|⟨rfl,_⟩
  ·rw[h.1]at hi;cases hi
  exact t 0 listed a w p h.1 h.2
 |succ m U=>
  intro listed a w p n h;refine⟨fun r=>?_,fun i hi=>?_⟩
  ·rcases hr:Region.ready .any l0.toArray listed with _|⟨j,V⟩
   ·have:l0.length ∈ Region.ready .any (l0++[last]).toArray (listed.push false):=(zgf q p n _).2 (.inr ⟨rfl,fun j C=>zje q p hr (j+1) j (by omega) C⟩);rw[r]at this;cases this
   have:j ∈ Region.ready .any (l0++[last]).toArray (listed.push false):=(zgf q p n _).2 (.inl (by rw[hr];exact List.mem_cons_self ..));rw[r]at this;cases this
  rcases(zgf q p n i).1 hi with hi|⟨rfl,B⟩
  ·have F:=h.2 i hi;obtain⟨hu,o,z,_⟩:=mem_ready.1 hi;have G:i<l0.length:=by have:=(Array.getElem?_eq_some_iff.1 z).1;simpa using this
   have N:o.guard=none:=by simp only[lastB,Bool.and_eq_true]at q;have I:o ∈ l0:=List.mem_of_getElem? (by simpa using z:l0[i]?=some o);have:=List.all_eq_true.1 q.1.1.1 o I;simp only[Bool.and_eq_true,Option.isNone_iff_eq_none]at this;exact this.1
   have T:∀ k,Region.wanted o k=true:=fun k=>by unfold Region.wanted;rw[N]
   rw[z7e (by omega)];have s:=wpOp_mono (fun E w' O=>U (listed.setIfInBounds i true) E w' (by simpa using p) (z4m n hi) O) F;unfold wpOp at s ⊢;rw[z]at s;rw[zp6 G,z];simp only[T,if_true]at s ⊢;rcases s with s|⟨s,b,u,L⟩
   ·exact .inl (zpf s J)
   exact .inr ⟨s,b,u,J _ _ _ (fun e=>by cases e) L⟩
  have r:Region.ready .any l0.toArray listed= []:=by
   apply List.eq_nil_iff_forall_not_mem.2;intro k R;obtain⟨hu,o,z,_⟩:=mem_ready.1 R;have H:k<l0.length:=by have:=(Array.getElem?_eq_some_iff.1 z).1;simpa using this
   have F:=B k H;have:=getD_both hu;rw[F]at this;cases this
  exact t (m+1) listed a w p r (h.1 r)
theorem zcx{id:Nat}{a:Act}{W:World}{x:zd0}{ld:Nat}{v:Value}{K0 K1:World->Prop}{l l':List Oper}{ts:List Nat}(n:Nat)(T:P.follows .mixedOrders=true)(hd:l.drop n= [last])(m:lastB (l.take n) last=true)
  (R:zfq x ld v 0 (l.take n)=l') (N:Region.lexB .any l'.toArray=true) (O:zrg (l.take n).toArray x ld=true) (i:Region.noSelect (l.take n).toArray=true)
  (U:x.al≠x.st/\x.al≠ld/\x.st≠ld/\x.src≠x.d) (j:ld<(l.take n).toArray.size/\(x.al<(l.take n).toArray.size↔x.st<(l.take n).toArray.size)) (t:x.so≠x.al/\x.so≠x.st) (s:x.al<(l.take n).toArray.size->x.so≠ld) (X:zsq (l.take n).toArray x ld ts=true) (z:x.d ∉ ts) (f:x.d<a.tmps.size)
  (hc:zn6 W K0/\zn6 W K1) (E:K0 W.drew)
  (b:∃ aF,(∀ B,K0 B\/K1 B->W.heap.size<=B.heap.size->wpQuiet P l'.toArray (fun w'=>∃ e:Ext B,w'=e.w) (fun D=>D=aF) l' a)/\(x.al<(l.take n).toArray.size->∀ Q0,ze2 P (l.take n) Q0 aF x)/\(∀ Q0,zij P (l.take n) Q0 aF W ld v ts K0 K1)/\
   ∀ a w M,zni W x K1 (l.take n).toArray.size aF a w M->wpList P l.toArray Q [last] a w):(Code.region id l.toArray true).wp P Q a W:=by
 have p:l=l.take n++[last]:=by rw[<-hd,List.take_append_drop]
 obtain⟨aF,F,G,H,I⟩:=b;generalize S:l.take n=l0 at *;subst p;have Z:(l0++[last]).toArray.size=l0.toArray.size+1:=by simp
 have hg:last.guard=none\/True:= .inr trivial;have J:=zqg (P:=P) (Q:=fun e a w=>match e with | .normal=>wpList P (l0++[last]).toArray Q [last] a w|e=>Q e a w) R N O i U j t s X z f hc E ⟨aF,F,fun Y=>G Y _,H _,I⟩;have L:=zkz (P:=P) (Q:=Q) m (fun e a w q r=>by cases e<;>first|exact absurd rfl q|exact r) (fun a w r=>?_) l0.toArray.size (Array.replicate l0.toArray.size false) a W.drew (by simp) (fun k o _ C=>by rw[getD_replicate_false]at C;cases C) J
 ·refine wp_region_any T ?_;rw[Z];have V:(Array.replicate l0.toArray.size false).push false=Array.replicate (l0.toArray.size+1) false:=by rw[Array.replicate_succ]
  rw[<-V];exact L
 unfold wpOp;rw[zhz];exact r
end

end

section

open Go.RowKit

section

variable {P:Program} {l:List Oper} {md:Region.Mode} {aF:Act} {W:World} {Q:Exit->Act->World->Prop} {x y:zd0}

structure z1h (W:World) (x:zd0) (aF a:Act) (w:World) (M:Nat):Prop where
 state:a=aF.put (some x.d) (vptr M)
 below:Below W.heap.size W w
 new:W.heap.size<=M
 one:w.heap[M]?=some (.cells x.val x.t (0,0))
theorem yga(O:z2q l.toArray x y=true)(R:Region.noSelect l.toArray=true)(hp:zlh x y)(X:ze2 P l Q aF x)
  (E:x.al<l.toArray.size/\x.st<l.toArray.size/\l.toArray.size<=y.al/\l.toArray.size<=y.st)
  (b3:ownB x y x.so=false)
  (L:∀ a w M,z1h W x aF a w M->Q .normal a w) (f:Nat):∀ (listed:Array Bool) (aQ a:Act) (w:World),listed.size=l.toArray.size->zhy W x y listed aQ a w->
  (∀ B,Below W.heap.size W B->wpAnyQ P .any (nopL x y l).toArray (zhc B) (fun a=>a=aF) f listed aQ)->wpAny P .any l.toArray Q f listed a w:=by
 have fin:∀ (listed:Array Bool) (aQ a:Act) (w:World),listed.size=l.toArray.size->zhy W x y listed aQ a w->Region.ready .any l.toArray listed= []->aQ=aF->Q .normal a w:=by
  intro listed aQ a w r p j e;have m:∀ i,i<l.toArray.size->listed.getD i false=true:=fun i hi=>by
   have:=all_in O r j (i+1) i (by omega) hi;have n:i<listed.size:=by omega
   simp only[Array.getD_eq_getD_getElem?,Array.getElem?_eq_getElem n,Option.getD_some]at this ⊢;exact this
  have b2:listed.getD y.al false=false:=by
   have:listed.size<=y.al:=by omega
   simp[Array.getElem?_eq_none this]
  obtain⟨M,N,t,I,h3,h4⟩:=p.there;rw[m _ E.1,b2,e]at t;obtain⟨k1,T⟩:=I (m _ E.1);rw[m _ E.2.1]at T;exact L a w M ⟨t,p.below,k1,by simpa using T⟩
 induction f with
 |zero=>
  intro listed aQ a w r p h;have t:=h W br;have j:Region.ready .any l.toArray listed= []:=by rw[<-zne (x:=x) (y:=y)];exact t.1
  exact⟨j,fin listed aQ a w r p j t.2⟩
 |succ f ih=>
  intro listed aQ a w r p h
  refine⟨fun j=>fin listed aQ a w r p j ((h W br).1 (by rw[zne];exact j)),fun i hi=>?_⟩
  have D:i ∈ Region.ready .any (nopL x y l).toArray listed:=by rw[zne];exact hi
  obtain⟨S,o,s,b0⟩:=mem_ready.1 hi
  have n:=zfh S
  have b5:i<l.toArray.size:=(Array.getElem?_eq_some_iff.1 s).1
  have H:(listed.setIfInBounds i true).size=l.toArray.size:=by simpa using r
  cases hown:ownB x y i with
  |true=>
   have V:∀ B,Below W.heap.size W B->wpAnyQ P .any (nopL x y l).toArray (zhc B) (fun a=>a=aF) f (listed.setIfInBounds i true) aQ:=fun B Y=>
    ycl hown ⟨o,s⟩ ((h B Y).2 i D)
   have src:∀ z:zd0,ze2 P l Q aF z->ownB x y z.so=false->listed.getD z.so false=true->aQ.eval (.tmp z.src)=aF.eval (.tmp z.src):=fun z r s hl=>by
    obtain⟨oz,k1,T⟩:=r.src
    have t:(nopL x y l).toArray[z.so]?=some oz:=by rw[zmy,k1];simp[s]
    have:=zph t T (zpl O k1 _ T) _ listed aQ hl (h W br)
    show aQ.tmps.getD z.src undef=aF.tmps.getD z.src undef
    rw[Array.getD_eq_getD_getElem?,Array.getD_eq_getD_getElem?,this]
   have hc:i=x.al\/i=x.st:=by
    simp only[ownB,Bool.or_eq_true,beq_iff_eq]at hown
    omega
   rcases hc with e|e<;>subst e
   ·exact wpOp_mono (fun U w' F=>ih _ _ _ _ H F V) (z7g hp X p S)
   ·exact wpOp_mono (fun U w' F=>ih _ _ _ _ H F V) (z6q hp X p hi (src x X b3 (X.waits _ hi).2))
  |false=>
   obtain⟨qg,qx,qy,lx,ly⟩:=(zm4 O s).quiet hown
   have j:(nopL x y l).toArray[i]?=some o:=by rw[zmy,s];simp[hown]
   obtain⟨v,b4,Z⟩:=yieldsIn_of_qOp j ((h w p.below).2 i D)
   have hv:=zqc j (zpl O s) n Z
   have V:∀ B,Below W.heap.size W B->wpAnyQ P .any (nopL x y l).toArray (zhc B) (fun a=>a=aF) f (listed.setIfInBounds i true) (aQ.put o.dst v):=fun B Y=>by
    obtain⟨u,_,J⟩:=yieldsIn_of_qOp j ((h B Y).2 i D)
    have hu:=zqc j (zpl O s) n J
    rw[hv,<- hu];exact J
   have q:∀ k,Region.wanted o k=true:=fun k=>by unfold Region.wanted;rw[qg]
   have hq:∀ w',zhc w w'->o.quietAt P aQ (zhc w) w' v:=by
    rcases b4 with⟨_,I⟩|⟨I,_⟩
    ·exact I
    ·rw[q]at I;cases I
   obtain⟨M,N,t,_⟩:=p.there
   have b1:execOp a.eval o=execOp aQ.eval o:=execOp_congr o (fun cs b=>Region.noSelect_spec R i o cs b s) fun z r=>by
    rw[t,zfk (zmk lx z r),zfk (zmk ly z r)]
   unfold wpOp
   rw[s]
   simp only[q,if_true]
   refine .inl (Oper.wp_of_quiet (C:=zhc w) (K:=fun U=>U=a.put o.dst v) br (fun U w' G e=>ih _ _ _ _ H (z1u n p hown qx qy G e) V) ⟨v,fun w' G=>?_,rfl⟩)
   have:=hq w' G
   unfold Oper.quietAt at *
   rw[b1];exact this
theorem zkt{G:Nat}{a:Act}{l':List Oper}(D:P.follows .mixedOrders=true)(z:nopF x y 0 l=l')(o:Region.lexB .any l'.toArray=true)(b:z2q l.toArray x y=true)(n:Region.noSelect l.toArray=true)(E:zlh x y)
  (p:x.al<l.toArray.size/\x.st<l.toArray.size/\l.toArray.size<=y.al/\l.toArray.size<=y.st) (q:ownB x y x.so=false) (j:x.d<a.tmps.size/\y.d<a.tmps.size)
  (f:∃ aF,(∀ B,Below W.heap.size W B->wpQuiet P l'.toArray (fun w'=>∃ e:Ext B,w'=e.w) (fun s=>s=aF) l' a)/\ze2 P l Q aF x/\
   ∀ a w M,z1h W x aF a w M->Q .normal a w):(Code.region G l.toArray true).wp P Q a W:=by
 subst z;obtain⟨aF,h,F,i⟩:=f;rw[<-ycp]at o h;simp only[Region.lexB,Bool.and_eq_true]at o;have m:(nopL x y l).length=l.toArray.size:=by simp[nopL]
 refine wp_region_any D (yga (W:=W.drew) b n E F p q (fun a w M b=>i a w M ⟨b.state,⟨b.below.os,b.below.tape,b.below.output,b.below.size,b.below.block⟩,b.new,b.one⟩) l.toArray.size _ a a _ (by simp) ⟨Below.refl _ _,j,⟨fun e=>?_,fun e=>?_⟩,⟨0,0,?_,fun e=>?_,fun e=>?_,fun e=>?_⟩⟩ fun B hb=>?_)
 ·rw[getD_replicate_false]at e;cases e
 ·rw[getD_replicate_false]at e;cases e
 ·rw[getD_replicate_false,getD_replicate_false];rfl
 ·rw[getD_replicate_false]at e;cases e
 ·rw[getD_replicate_false]at e;cases e
 ·rw[getD_replicate_false]at e;cases e
 have r:=h B ⟨hb.os,hb.tape,hb.output,hb.size,hb.block⟩;rw[<-zsj]at r
 have:=wpAnyQ_lex (C:=zhc B) (md:= .any) o.1 (nopL x y l) 0 (Array.replicate l.toArray.size false) a (by simp) (by
  have t:=o.2
  simpa[nopL] using t) r
 rw[m]at this;exact this
end

end

section

open Go.RowKit

attribute [local go_sem ↓] Go.wp_at_zero Go.wp_at_succ

def za7 (s:Sh) (t:Fe) (pv:Value):Array Value:= #[.int .i64 s.p,.int .i64 s.c,.int .i64 s.m,.int .i64 t.c,.int .i64 t.a,.int .i64 t.page,.int .i64 t.slot,.int .u64 t.word,.int .i64 t.pk,.int .i64 t.pa,.int .i64 t.pb,.int .i64 t.next,.int .i64 t.i,pv,.bool t.gave,.bool t.done]
structure FeAt (w:World) (q q2:Nat) (s:Sh) (t:Fe):Prop where
 row:zaa w q (za7 s t (ptrV t.put q2)) 276
 inn:∀ x,t.put=some x->zaa w q2 (zeh s x) 356/\q≠q2
theorem zkw(q:Nat)(cs:Array Value)(v:Bool)(w:World)(h:zaa w q cs 276)(b:cs[15]?=some (.bool v)):Calls Tryz.prog 193 #[.pointer (some ⟨q,0,.none⟩)] w fun e w'=>e= .returned (.bool v)/\w'=w:=by
 have c:=(h.cell 15).trans b;clear h b;go_in;go_wp2_with fail;go_returns;exact⟨rfl,rfl⟩
theorem zh8(q:Nat)(cs:Array Value)(v:Bool)(w:World)(h:zaa w q cs 276)(b:cs[14]?=some (.bool v)):Calls Tryz.prog 194 #[.pointer (some ⟨q,0,.none⟩)] w fun e w'=>e= .returned (.bool v)/\w'=w:=by
 have c:=(h.cell 14).trans b;clear h b;go_in;go_wp2_with fail;go_returns;exact⟨rfl,rfl⟩
theorem zoc(w:World):Calls Tryz.prog 194 #[.pointer none] w fun e w'=>e= .returned (.bool false)/\w'=w:=by
 go_in;go_wp2_with fail;go_returns;exact⟨rfl,rfl⟩
theorem zxk(s:Sh)(a:Int)(w:World):Calls Tryz.prog 147 #[.agg #[.int .i64 s.p,.int .i64 s.c,.int .i64 s.m],.int .i64 a] w fun e w'=>e= .returned (.tuple #[.int .i64 (if spB s a=true then a/64 else 0),.int .i64 (if spB s a=true then a%64 else 0),.bool (spB s a)])/\Below w.heap.size w w':=by
 refine(z0r s.p s.c s.m a w).mono ?_;rintro e w' ⟨rfl,hb⟩;refine⟨?_,hb⟩;have h:splitB s.p s.c s.m a=spB s a:=rfl;rw[h];cases spB s a<;>rfl
theorem zq9(s:Sh)(c a:Int)(w:World):
  Calls Tryz.prog 150 #[.agg #[.int .i64 s.p,.int .i64 s.c,.int .i64 s.m],.int .i64 c,.int .i64 a] w fun e w'=>Born w w' e (za7 s (zc2 s c a) (.pointer none)) 276:=by
 have q:=fun W=>zau s.p s.c s.m c W;have i:=fun W=>zxk s a W;have D:za7 s (zc2 s c a) (.pointer none)= #[.int .i64 s.p,.int .i64 s.c,.int .i64 s.m,.int .i64 c,.int .i64 a,.int .i64 (if spB s a=true then a/64 else 0),.int .i64 0,.int .u64 0,.int .i64 0,.int .i64 0,.int .i64 0,.int .i64 0,.int .i64 0,.pointer none,.bool false,.bool (!spB s a||decide (zae s.p s.c s.m c<0))]:=rfl;rw[D];clear D;generalize zae s.p s.c s.m c=E at *;generalize (if spB s a=true then a/64 else 0)=d at *;generalize (if spB s a=true then a%64 else 0)=f at *;generalize spB s a=g at *;obtain⟨sp,z,B⟩:=s;dsimp only at q i ⊢;replace q:=hd' q;replace i:=hd' i;have j:=(Below.refl w.heap.size w).alloc lr (.cells #[.int .i64 sp,.int .i64 z,.int .i64 B] 23);have t0:=heap_alloc_new w (.cells #[.int .i64 sp,.int .i64 z,.int .i64 B] 23);go_in;go_upto_region 1 with fail;generalize w.alloc (.cells #[.int .i64 sp,.int .i64 z,.int .i64 B] 23)=W at *;obtain⟨H,I,o⟩:=hidv w.heap.size;rw[<-o]at t0 ⊢;have J:H<W.heap.size:=(Array.getElem?_eq_some_iff.1 t0).1;have c0:W.cell? ⟨H,0,.none⟩=some (.int .i64 sp):=zac t0 0;have c1:W.cell? ⟨H,1,.none⟩=some (.int .i64 z):=zac t0 1;have c2:W.cell? ⟨H,2,.none⟩=some (.int .i64 B):=zac t0 2;clear o t0;go_upto_region 2 with(first|(go_at_call 147;(with_reducible refine(i.out _).mono ?_);rintro r L ⟨rfl,b⟩;have F:=zai b _ _ _ c0;have d1:=zai b _ _ _ c1;have d2:=zai b _ _ _ c2;have G:=zqe F));clear c0 c1 c2;rcases(by cases g<;>simp<;>omega:g=false\/(g=true/\E<0)\/(g=true/\¬ E<0)) with rfl|⟨rfl,h1⟩|⟨rfl,h1⟩;all_goals
  try have q1:=decide_eq_false h1
  refine zad 13 (by kernel_rfl) (by kernel_rfl) ?_;dsimp only[List.take,List.drop];repeat (go_big_quiet_step (((go_at_call 57;exact zam (q.out _)))))
  refine wpQuiet_nil ?_;rintro _ ⟨C,rfl⟩;have n:=C.below;generalize C.w=X at *;change wpList _ _ _ _ _ X;go_wp2_with fail;go_returns
 ·exact za6 j (zab b n) rfl
 ·exact za6 j (zab b n) (by simp[h1])
 exact za6 j (zab b n) (by simp[h1])
theorem zoz(q q2:Nat)(s:Sh)(t:Fe)(x:Pu)(w:World)(h:FeAt w q q2 s t)(p:t.put=some x):
  Calls Tryz.prog 272 #[.pointer (some ⟨q,0,.none⟩)] w fun e w'=>Turned q w w' e (za7 s t.kept (.pointer (some ⟨q2,0,.none⟩))) 276:=by
 obtain⟨n,J⟩:=h.inn x p;have j:=z4h q2 (zeh s x) x.put w n rfl;have i:=zxw q2 (zeh s x) x.done w n rfl;have m:At1 q w w (za7 s t (.pointer (some ⟨q2,0,.none⟩))) 276:=At1.start (by have:=h.row;rw[p]at this;exact this);have z:=zcv t x p;obtain⟨E,b⟩:∃ E,E=t.kept:=⟨_,rfl⟩;rw[<-b]at z ⊢;clear b h p n;generalize zeh s x=L at *;generalize x.put=g at *;generalize x.done=d at *;obtain⟨sp,N,O⟩:=s;obtain⟨S,R,T,V,X,pk,pa,pb,M,U,F,D,o⟩:=t;dsimp only at z;replace j:=hd' j;replace i:=hd' i;have G:=ci M (m.cell 11);have H:=ce (.pointer (some ⟨q2,0,.none⟩)) (m.cell 13);have I:=ce (.bool o) (m.cell 15);have zf:=m.free;rcases z with⟨rfl,b⟩|⟨rfl,rfl,b⟩|⟨rfl,rfl,b⟩;all_goals replace b:=hd' b;go_in;go_wp2_with (first|(go_at_call 277;(with_reducible refine j.out.mono ?_);rintro r Y ⟨rfl,B⟩;obtain rfl:=B.symm)|(go_at_call 278;(with_reducible refine i.out.mono ?_);rintro r Z ⟨rfl,C⟩;obtain rfl:=C.symm));go_returns
 ·exact(m.set 15 _).fin (by rw[b.out];rfl)
 ·exact(m.set 11 _).fin (by rw[b.out];rfl)
 exact m.fin (by rw[b.out])
theorem zvp(q p b:Nat)(s:Sh)(t:Fe)(pv:Value)(m:Mem)(w:World)(n:At3 q p b w w (za7 s t pv) 276 m)(hf:Fits s m)(hs:m.st<1000000000)(T:0<=t.page/\t.page<s.p)(b1:1<=t.pa/\t.pa<=8/\t.pa<=s.p-t.page)(hi:0<=t.i/\t.i<t.pa):
  Calls Tryz.prog 276 #[.pointer (some ⟨q,0,.none⟩),.pointer (some ⟨p,0,.none⟩)] w fun e w'=>e= .returned (.tuple #[])/\At3 q p b w w' (za7 s (if t.i=t.pa-1 then {t with done:=true} else {t with i:=t.i+1}) pv) 276 (if t.i=t.pa-1 then m.store t.c (zak s.p s.c s.m t.page) 0 else m.store t.c (zak s.p s.c s.m (t.page+t.i+1)) 0):=by
 have b0:=hf.bd;have w1:=wrp (t.pa-1);have w2:=wrp (t.i+1);have w3:=wrp (t.page+t.i);have w4:=wrp (t.page+t.i+1);by_cases B:t.i=t.pa-1
 ·rw[if_pos B,if_pos B];have R:(t.i==t.pa-1)=true:=by simpa using B
  obtain⟨G,F⟩:=hf.page T;have j:=fun Y=>planPage_any s.p s.c s.m t.page Y;rw[G]at j ⊢;have o:=fun Y (hY:zaq Y p b m)=>zba p b m t.c (s.c+t.page) 0 Y hY F (by decide) hs;generalize s.c+t.page=pg at *;clear G F T b1 hi b0 hf w2 w3 w4 B;obtain⟨sp,sc,sm⟩:=s;obtain⟨tc,ta,tg,tl,tw,pk,pa,pb,tn,ti,b2,C,z⟩:=t;dsimp only at j o w1 R ⊢;replace j:=hd' j;replace o:=hd' o;have lq:=n.lt;obtain⟨c0,c1,c2,c3,c4,c5,c6⟩:=ci7 sp sc sm tc ta tg tl n.cell;have c7:=ce (.int .u64 tw) (n.cell 7);have c8:=ci pk (n.cell 8);have c9:=ci pa (n.cell 9);have H:=ci pb (n.cell 10);have I:=ci tn (n.cell 11);have J:=ci ti (n.cell 12);have L:=ce (pv) (n.cell 13);have M:=ce (.bool C) (n.cell 14);have N:=ce (.bool z) (n.cell 15);go_in;go_upto_region 0 with fail;refine zaj (by kernel_rfl) (by kernel_rfl) ?_;repeat (go_big_quiet_step (fail))
  refine wpQuiet_nil ?_;rintro _ ⟨E,rfl⟩;have D:=n.below E.below;generalize E.w=X at *;clear c0 c1 c2 c3 c4 c5 c6 c7 c8 c9 H I J L M N lq;obtain⟨k0,k1,k2,k3⟩:=ci4 sp sc sm tc D.cell;have k5:=ci tg (D.cell 5);go_upto_region 1 with fail;have lX:=D.lt;refine zad 14 (by kernel_rfl) (by kernel_rfl) ?_;dsimp only[List.take,List.drop];repeat (go_big_quiet_step (((go_at_call 119;exact zam (j.out _)))))
  refine wpQuiet_nil ?_;rintro _ ⟨E,rfl⟩;have V:=D.below E.below;generalize E.w=Z at *;change wpList _ _ _ _ _ Z;clear k0 k1 k2 k3 k5 D lX;go_wp2_with (go_at_call 257;(with_reducible refine(o.out _ V.wds).mono ?_);rintro r w2 ⟨rfl,U,S⟩;have O:=V.access U S;have b5:=ce (.bool z) (O.cell 15);have zf:=O.free);go_returns;exact⟨rfl,O.set 15 _⟩
 rw[if_neg B,if_neg B];have R:(t.i==t.pa-1)=false:=by simpa using B
 obtain⟨G,F⟩:=hf.page (x:=t.page+t.i+1) (by omega);have j:=fun Y=>planPage_any s.p s.c s.m (t.page+t.i+1) Y;rw[G]at j ⊢;have o:=fun Y (hY:zaq Y p b m)=>zba p b m t.c (s.c+(t.page+t.i+1)) 0 Y hY F (by decide) hs;generalize s.c+(t.page+t.i+1)=pg at *;clear G F T b1 hi b0 hf B;obtain⟨sp,sc,sm⟩:=s;obtain⟨tc,ta,tg,tl,tw,pk,pa,pb,tn,ti,b2,C,z⟩:=t;dsimp only at j o w1 w2 w3 w4 R ⊢;replace j:=hd' j;replace o:=hd' o;have lq:=n.lt;obtain⟨c0,c1,c2,c3,c4,c5,c6⟩:=ci7 sp sc sm tc ta tg tl n.cell;have c7:=ce (.int .u64 tw) (n.cell 7);have c8:=ci pk (n.cell 8);have c9:=ci pa (n.cell 9);have H:=ci pb (n.cell 10);have I:=ci tn (n.cell 11);have J:=ci ti (n.cell 12);have L:=ce (pv) (n.cell 13);have M:=ce (.bool C) (n.cell 14);have N:=ce (.bool z) (n.cell 15);go_in;go_upto_region 0 with fail;refine zaj (by kernel_rfl) (by kernel_rfl) ?_;repeat (go_big_quiet_step (fail))
 refine wpQuiet_nil ?_;rintro _ ⟨E,rfl⟩;have D:=n.below E.below;generalize E.w=X at *;clear c0 c1 c2 c3 c4 c5 c6 c7 c8 c9 H I J L M N lq;obtain⟨k0,k1,k2,k3⟩:=ci4 sp sc sm tc D.cell;have k5:=ci tg (D.cell 5);have b3:=ci ti (D.cell 12);go_upto_region 3 with fail;have lX:=D.lt;refine zad 20 (by kernel_rfl) (by kernel_rfl) ?_;dsimp only[List.take,List.drop];repeat (go_big_quiet_step (((go_at_call 119;exact zam (j.out _)))))
 refine wpQuiet_nil ?_;rintro _ ⟨E,rfl⟩;have V:=D.below E.below;generalize E.w=Z at *;change wpList _ _ _ _ _ Z;clear k0 k1 k2 k3 k5 b3 D lX;go_wp2_with (go_at_call 257;(with_reducible refine(o.out _ V.wds).mono ?_);rintro r w2 ⟨rfl,U,S⟩;have O:=V.access U S;have b4:=ci ti (O.cell 12);have zf:=O.free);go_returns;exact⟨rfl,O.set 12 _⟩
end

end Go.Proofs.YtkbddndcegpllaaGreat
