
import Derived.Test.YtkilokkopbajkaaGreatBw11

import Derived.Test.YtkilokkopbajkaaGreatBw13

set_option linter.all false
set_option maxHeartbeats 2000000
set_option maxRecDepth 100000
namespace Go.Proofs.YtkilokkopbajkaaGreat

open RowKit

attribute [local go_sem ↓] wp_at_zero wp_at_succ

attribute [local go_sem] yE

theorem zyw(q p b:Nat)(s:Sh)(t:Bn)(m:Mem)(w:World)(hq:aA w q (yE s t) 294)(hw:oA w p b m)(bj:q≠p)(bi:q≠b)(hf:Fits s m)(ho:bnOk s t)(hs:m.st<1000000000):
  Calls Tryz.prog 276 #[some q,some p] w λe w'=>Stepped q p b w w' e (yE s (YD s t m).1) 294 (YD s t m).2:=by
 have h0:=At3.start hq hw bj bi;clear hq hw;rcases jB t.done with hd|hd
 .have B:YD s t m=(t,m):=by unfold YD;rw[jP hd]
  rw[B];clear B;have c8:w.cell? ⟨q,8,.none⟩=some (.bool true):=by rw[<-hd];exact h0.cell 8
  clear ho hd hf;go_in;go_wp2_with fail;go_returns;exact h0.fin rfl rfl
 obtain⟨hc,I,hk,hi,U⟩:=ho.cl hd;have b3:=hf.bd;have b4:=pH hk;obtain⟨T,b1⟩:=hf.page I;have y:=λY=>JB s.p s.c s.m t.page Y;rw[T]at y;have E:=λY=>WF 2 t.k t.c Y;have C:=λY=>tE 1 t.k Y;have D:=λY=>tE 2 t.c Y;have l:=λY=>gD t.k Y;have j:=λY=>uE s.p s.c s.m t.page t.i Y;obtain⟨r,B⟩:∃r,r=YD s t m:=⟨_,rfl⟩;rw[<-B];unfold YD at B;rw[jN (by rw[hd];decide)]at B;have b7:Hid (BB t.k=VA 1 t.k):=hd' rfl;have b8:Hid (wayW t.c=VA 2 t.c):=hd' rfl;rw[<-b7]at C;rw[<-b8]at D;have V:0<=QA 2 t.k t.c/\QA 2 t.k t.c<18446744073709551616:=sF _ _ _;have b0:0<=BB t.k/\BB t.k<18446744073709551616:=IE _ _;have b2:0<=wayW t.c/\wayW t.c<18446744073709551616:=IE _ _;clear b7 b8;rw[T]at B;have w1:=wrp (t.i-1);have w2:=wrp (t.i+1);have w3:=wrp (mA t.k-1);rcases jB t.bound with hb|hb
 .rw[jP hb]at B;have bh:=U hb;obtain⟨L,J⟩:=hf.slot I (i:=t.i) (by omega);rw[L]at j B;have n:=λY (hY:oA Y p b m)=>tC p b m t.c (s.c+s.p+t.page*16+t.i) (BB t.k) Y hY J b0 hs;generalize s.c+s.p+t.page*16+t.i=sa at j n B;generalize BB t.k=ow at*;generalize mA t.k=sv at*;clear y E D L J b1 T ho hf hc I U V b0 b2 w2 w3 b3 b4 hk hi bh;obtain⟨R,F,o⟩:∃R:Bn,Hid (R={t with i:=t.i-1,done:=decide (t.i-1=0)})/\R=_:=⟨_,hd' rfl,rfl⟩;rw[<-o]at B;clear o;subst B;obtain⟨tc,tg,tk,ti,G,S⟩:=t;obtain⟨sp,sc,sm⟩:=s;dsimp only at hd hb n j C l F w1|-;subst hd hb;replace n:=hd' n;replace j:=hd' j;replace C:=hd' C;replace l:=hd' l;have lq:=h0.lt;have b9:=h0.cell;have c8:=ce (.bool false) (h0.cell 8);go_in;go_upto_region 2 with(go_at_call 75;(with_reducible refine(l _).mono ?_);rintro r w1 ⟨rfl,rfl⟩);refine wre ?_;repeat (go_big_quiet_step (((go_at_call 114;exact AA (j _)))))
  refine wqn λX z=>?_;have H:=h0.below z;clear b9 c8 h0 lq;have ba:=H.cell;go_upto_region 6 with fail;have lX:=H.lt;refine wret 12 ?_;repeat (go_big_quiet_step (((go_at_call 141;exact AA (C _)))))
  refine wqn λZ z=>?_;have hZ:=H.below z;clear ba H lX;go_wp2_with (go_at_call 218;(with_reducible refine(n _ hZ.wds).mono ?_);rintro r w2 ⟨rfl,O,N⟩;have M:=hZ.access O N;have bn:=M.cell;have zf:=M.free);go_returns;exact((M.set 6 _).set 8 _).fin (by rw[F];rfl) rfl
 rw[jN (by rw[hb];decide)]at B;rcases(by omega:t.i=16\/(¬t.i=16/\t.i<mA t.k)\/(¬t.i=16/\¬t.i<mA t.k)) with hi6|⟨hi6,hlt⟩|⟨hi6,hlt⟩
 .rw[jP hi6]at B;have n:=λY (hY:oA Y p b m)=>tC p b m t.c (s.c+t.page) (QA 2 t.k t.c) Y hY b1 V hs;generalize s.c+t.page=pa at y n B;generalize QA 2 t.k t.c=pw at*;generalize bB s.p s.c s.m t.page t.i=sa at*;generalize mA t.k=sv at*;clear C D b1 T ho hf hc I U V b0 b2 w1 w2 b3 b4 hk hi;obtain⟨R,F,o⟩:∃R:Bn,Hid (R={t with bound:=true,i:=sv-1})/\R=_:=⟨_,hd' rfl,rfl⟩;rw[<-o]at B;clear o;subst B;obtain⟨tc,tg,tk,ti,G,S⟩:=t;obtain⟨sp,sc,sm⟩:=s;dsimp only at hd hb n j y E l F w3 hi6|-;subst hd hb hi6;replace n:=hd' n;replace j:=hd' j;replace y:=hd' y;replace E:=hd' E;replace l:=hd' l;have lq:=h0.lt;have bb:=h0.cell;have c8:=ce (.bool false) (h0.cell 8);go_in;go_upto_region 2 with(go_at_call 75;(with_reducible refine(l _).mono ?_);rintro r w1 ⟨rfl,rfl⟩);refine wre ?_;repeat (go_big_quiet_step (((go_at_call 114;exact AA (j _)))))
  refine wqn λX z=>?_;have H:=h0.below z;clear bb c8 h0 lq;have bc:=H.cell;go_upto_region 10 with fail;have lX:=H.lt;refine wret 24 ?_;repeat (go_big_quiet_step ((first|(go_at_call 112;exact AA (y _))|(go_at_call 139;exact AA (E _)))))
  refine wqn λZ z=>?_;have hZ:=H.below z;clear bc H lX;go_wp2_with (go_at_call 218;(with_reducible refine(n _ hZ.wds).mono ?_);rintro r w2 ⟨rfl,O,N⟩;have M:=hZ.access O N;have bp:=M.cell;have zf:=M.free);go_returns;exact((M.set 7 _).set 6 _).fin (by rw[F];rfl) rfl
 .rw[jN hi6,jP hlt]at B;obtain⟨L,J⟩:=hf.slot I (i:=t.i) (by omega);rw[L]at j B;have n:=λY (hY:oA Y p b m)=>tC p b m t.c (s.c+s.p+t.page*16+t.i) (wayW t.c) Y hY J b2 hs;have b5:(t.i==16)=false:=by simpa using hi6
  generalize s.c+s.p+t.page*16+t.i=sa at j n B;generalize wayW t.c=ww at*;generalize mA t.k=sv at*;clear y E C L J b1 T ho hf hc I U V b0 b2 w1 w3 b3 b4 hk hi hi6;obtain⟨R,F,o⟩:∃R:Bn,Hid (R={t with i:=t.i+1})/\R=_:=⟨_,hd' rfl,rfl⟩;rw[<-o]at B;clear o;subst B;obtain⟨tc,tg,tk,ti,G,S⟩:=t;obtain⟨sp,sc,sm⟩:=s;dsimp only at hd hb n j D l F w2 b5 hlt|-;subst hd hb;replace n:=hd' n;replace j:=hd' j;replace D:=hd' D;replace l:=hd' l;have lq:=h0.lt;have bf:=h0.cell;have c8:=ce (.bool false) (h0.cell 8);go_in;go_upto_region 2 with(go_at_call 75;(with_reducible refine(l _).mono ?_);rintro r w1 ⟨rfl,rfl⟩);refine wre ?_;repeat (go_big_quiet_step (((go_at_call 114;exact AA (j _)))))
  refine wqn λX z=>?_;have H:=h0.below z;clear bf c8 h0 lq;have bg:=H.cell;go_upto_region 13 with fail;have lX:=H.lt;refine wret 12 ?_;repeat (go_big_quiet_step (((go_at_call 141;exact AA (D _)))))
  refine wqn λZ z=>?_;have hZ:=H.below z;clear bg H lX;go_wp2_with (go_at_call 218;(with_reducible refine(n _ hZ.wds).mono ?_);rintro r w2 ⟨rfl,O,N⟩;have M:=hZ.access O N;have bq:=M.cell;have zf:=M.free);go_returns;exact(M.set 6 _).fin (by rw[F];rfl) rfl
 rw[jN hi6,jN hlt]at B;obtain⟨L,J⟩:=hf.slot I (i:=t.i) (by omega);rw[L]at j B;have n:=λY (hY:oA Y p b m)=>tC p b m t.c (s.c+s.p+t.page*16+t.i) 0 Y hY J (by decide) hs;have b5:(t.i==16)=false:=by simpa using hi6
 generalize s.c+s.p+t.page*16+t.i=sa at j n B;generalize mA t.k=sv at*;clear y E C D L J b1 T ho hf hc I U V b0 b2 w1 w3 b3 b4 hk hi hi6;obtain⟨R,F,o⟩:∃R:Bn,Hid (R={t with i:=t.i+1})/\R=_:=⟨_,hd' rfl,rfl⟩;rw[<-o]at B;clear o;subst B;obtain⟨tc,tg,tk,ti,G,S⟩:=t;obtain⟨sp,sc,sm⟩:=s;dsimp only at hd hb n j l F w2 b5 hlt|-;subst hd hb;replace n:=hd' n;replace j:=hd' j;replace l:=hd' l;have lq:=h0.lt;have b6:=h0.cell;have c8:=ce (.bool false) (h0.cell 8);go_in;go_upto_region 2 with(go_at_call 75;(with_reducible refine(l _).mono ?_);rintro r w1 ⟨rfl,rfl⟩);refine wre ?_;repeat (go_big_quiet_step (((go_at_call 114;exact AA (j _)))))
 refine wqn λX z=>?_;have H:=h0.below z;clear b6 c8 h0 lq;have bk:=H.cell;go_wp2_with (go_at_call 218;(with_reducible refine(n _ H.wds).mono ?_);rintro r w2 ⟨rfl,O,N⟩;have M:=H.access O N;have bm:=M.cell;have zf:=M.free);go_returns;exact(M.set 6 _).fin (by rw[F];rfl) rfl
theorem TV{P:Program}{o:Oper}{a:Act}{K:Act->World->Prop}{Q0 Q:Exit->Act->World->Prop}{r:Result Next}(h:o.upon P a K Q0 r)(j:∀e a w,e≠.normal->Q0 e a w->Q e a w):o.upon P a K Q r:=by
 match r,h with
 |.ok (.value v) w',h=>exact h
 |.ok .skip w',h=>exact h
 |.ok (.defer d) w',h=>exact h
 |.ok (.enter f args) w',h=>
  refine Calls.mono h λe l i=>?_
  match e,i with
  |.returned v,i=>exact i
  |.panicked chain,i=>exact j _ _ _ (λe=>by cases e) i
  |.outgrown,⟨b,u,hb⟩=>exact⟨b,u,j _ _ _ (λe=>by cases e) hb⟩
 |.ok (.row row args) w',h=>exact h
 |.halt (.panic v) w',h=>exact j _ _ _ (λe=>by cases e) h
def lastB (l0:List Oper) (last:Oper):Bool:=
 (l0.all λo=>o.guard.isNone&&o.after.all λe=>!Region.binds .any e||decide (e.on<l0.length))&&((List.range l0.length).all λi=>match l0[i]? with|some o=>o.after.all λe=>!Region.binds .any e||decide (e.on<i)|none=>true) &&
  ((List.range l0.length).all λj=>(last.after.any λe=>Region.binds .any e&&e.on==j)||(List.range l0.length).any λk=>decide (j<k)&&match l0[k]? with|some o=>o.after.any λe=>Region.binds .any e&&e.on==j|none=>false)&&(last.after.all λe=>!Region.binds .any e||decide (e.on<l0.length))
section

variable {P:Program}{l0:List Oper}{last:Oper}{Q Q0:Exit->Act->World->Prop}

theorem eQ{i:Nat}(h:i<l0.length):(l0++[last]).toArray[i]?=l0.toArray[i]?:=by simp[h,List.getElem?_append_left]
theorem kK:(l0++[last]).toArray[l0.length]?=some last:=by simp
theorem YH{listed:Array Bool}{i:Nat}{d:Bool}(h:i<listed.size):(listed.push false).getD i d=listed.getD i d:=by
 have b:i<(listed.push false).size:=by simp;omega
 simp only[Array.getD_eq_getD_getElem?,Array.getElem?_eq_getElem h,Array.getElem?_eq_getElem b,Option.getD_some];rw[Array.getElem_push_lt h]
def pL (l0:List Oper) (listed:Array Bool):Prop:=∀k o,l0[k]?=some o->listed.getD k false=true->∀e∈o.after,Region.binds .any e=true->listed.getD e.on false=true
theorem z4m{listed:Array Bool}{i:Nat}(hs:pL l0 listed)(hi:i∈Region.ready .any l0.toArray listed):pL l0 (listed.setIfInBounds i true):=by
 intro k o p f e n hb;have j:=VJ (mem_ready.1 hi).1;rw[gset j]at f|-;by_cases m:k=i
 .subst m;obtain⟨_,q,l,b⟩:=mem_ready.1 hi;have:l0[k]?=some q:=by simpa using l
  rw[p]at this;obtain rfl:=Option.some.inj this;rw[b e n hb,Bool.or_true]
 rw[jF m,Bool.false_or]at f;rw[hs k o p f e n hb,Bool.or_true]
theorem XJ(B:lastB l0 last=true){listed:Array Bool}(D:listed.size=l0.length)(z:pL l0 listed)(i:Nat):
  i∈Region.ready .any (l0++[last]).toArray (listed.push false)↔(i∈Region.ready .any l0.toArray listed)\/(i=l0.length/\∀j,j<l0.length->listed.getD j false=true):=by
 simp only[lastB,jC]at B;obtain⟨⟨⟨q,C⟩,t⟩,y⟩:=B;rw[mem_ready,mem_ready];constructor
 .rintro⟨hu,o,l,b⟩;rcases Nat.lt_trichotomy i l0.length with hi|hi|hi
  .rw[eQ hi]at l;refine .inl ⟨by rw[YH (by omega)]at hu;exact hu,o,l,λe m hb=>?_⟩;have:=b e m hb;have n:o∈l0:=by
    have:l0[i]?=some o:=by simpa using l
    exact List.mem_of_getElem? this
   have h1:=List.all_eq_true.1 q o n;simp only[jC]at h1;have h2:=(Array.all_eq_true_iff_forall_mem.1 h1.2) e m;have h3:e.on<l0.length:=by simpa[hb] using h2
   rwa [YH (by omega)]at this
  .subst hi;rw[kK]at l;obtain rfl:=Option.some.inj l;refine .inr ⟨rfl,?_⟩
   have key:∀d j,j<l0.length->l0.length<=j+d->listed.getD j false=true:=by
    intro d
    induction d with
    |zero=>intro j s hd;omega
    |succ d E=>
     intro j s hd
     have h1:=List.all_eq_true.1 t j (List.mem_range.2 s)
     simp only[Bool.or_eq_true]at h1
     rcases h1 with h1|h1
     .obtain⟨k,p,f⟩:=Array.any_eq_true.1 h1
      simp only[jC,beq_iff_eq]at f
      have:=b _ (Array.getElem_mem p) f.1
      rw[f.2,YH (by omega)]at this
      exact this
     .obtain⟨k,p,h2⟩:=List.any_eq_true.1 h1
      have p:=List.mem_range.1 p
      simp only[jC,decide_eq_true_eq]at h2
      have h3:=h2.2
      have r:l0[k]?=some l0[k]:=List.getElem?_eq_getElem p
      rw[r]at h3
      obtain⟨u,hu,f⟩:=Array.any_eq_true.1 h3
      simp only[jC,beq_iff_eq]at f
      have:=z k _ r (E k p (by omega)) _ (Array.getElem_mem hu) f.1
      rw[f.2]at this
      exact this
   exact λj s=>key l0.length j s (by omega)
  have:(l0++[last]).toArray[i]?=none:=by simp;omega
  rw[this]at l;cases l
 rintro(⟨hu,o,l,b⟩|⟨rfl,b⟩)
 .have hi:i<l0.length:=by have:=(jE l);simpa using this
  refine⟨by rw[YH (by omega)];exact hu,o,by rw[eQ hi];exact l,λe m hb=>?_⟩;have n:o∈l0:=by
   have:l0[i]?=some o:=by simpa using l
   exact List.mem_of_getElem? this
  have h1:=List.all_eq_true.1 q o n;simp only[jC]at h1;have h2:=(Array.all_eq_true_iff_forall_mem.1 h1.2) e m;have h3:e.on<l0.length:=by simpa[hb] using h2
  rw[YH (by omega)];exact b e m hb
 refine⟨?_,last,kK,λe m hb=>?_⟩
 .rw[<-D,Array.getD_eq_getD_getElem?,Array.getElem?_push_size];rfl
 have h2:=(Array.all_eq_true_iff_forall_mem.1 y) e m;have h3:e.on<l0.length:=by simpa[hb] using h2
 rw[YH (by omega)];exact b _ h3
theorem sP(p:lastB l0 last=true){listed:Array Bool}(C:listed.size=l0.length)(h:Region.ready .any l0.toArray listed=[]):∀n i,i<n->i<l0.length->listed.getD i false=true:=by
 simp only[lastB,jC]at p;obtain⟨⟨⟨s,l⟩,t⟩,y⟩:=p;intro n;induction n with
 |zero=>intro i hi;omega;|succ n B=>
  intro i hi b;rcases jB (listed.getD i true) with e|e
  .have m:i<listed.size:=by omega
   simp only[Array.getD_eq_getD_getElem?,Array.getElem?_eq_getElem m,Option.getD_some]at e|-;exact e
  have z:l0.toArray[i]?=some l0.toArray[i]:=Array.getElem?_eq_getElem (by rw[List.size_toArray];exact b)
  have q:i∈Region.ready .any l0.toArray listed:=mem_ready.2 ⟨e,_,z,λf r j=>by
   have h1:=List.all_eq_true.1 l i (List.mem_range.2 b)
   have o:l0[i]?=some l0.toArray[i]:=by simp
   rw[o]at h1
   have h2:=(Array.all_eq_true_iff_forall_mem.1 h1) f r
   have h3:f.on<i:=by simpa[j] using h2
   exact B f.on (by omega) (by omega)⟩
  rw[h]at q;cases q
theorem z7e{listed:Array Bool}{i:Nat}(h:i<listed.size):(listed.push false).setIfInBounds i true=(listed.setIfInBounds i true).push false:=by
 apply Array.ext
 .simp
 intro j h1 h2;simp only[Array.size_setIfInBounds,Array.size_push]at h1;rw[Array.getElem_setIfInBounds (by simpa using h1)];by_cases b:j<listed.size
 .rw[Array.getElem_push_lt b,Array.getElem_push_lt (by simpa using b),Array.getElem_setIfInBounds b]
 have:j=listed.size:=by omega
 subst this;have f:¬i=listed.size:=by omega
 rw[jN f,Array.getElem_push_eq];have:=Array.getElem_push_eq (xs:=listed.setIfInBounds i true) (x:=false);simp[Array.getElem_push]
theorem z01{listed:Array Bool}(r:listed.size=l0.length)(b:∀j,j<l0.length->listed.getD j false=true):Region.ready .any (l0++[last]).toArray ((listed.push false).setIfInBounds l0.length true)=[]:=by
 apply List.eq_nil_iff_forall_not_mem.2;intro i hi;obtain⟨hu,o,p,_⟩:=mem_ready.1 hi;have n:i<l0.length+1:=by have:=(jE p);simpa using this
 by_cases e:i=l0.length
 .subst e;have q:l0.length<((listed.push false).setIfInBounds l0.length true).size:=by simp;omega
  simp only[Array.getD_eq_getD_getElem?,Array.getElem?_eq_getElem q,Option.getD_some]at hu;rw[Array.getElem_setIfInBounds_self]at hu;cases hu
 have f:i<l0.length:=by omega
 have h1:=b i f;have l:l0.length≠i:=λm=>e m.symm;rw[Array.getD_eq_getD_getElem?,Array.getElem?_setIfInBounds_ne l,<- Array.getD_eq_getD_getElem?,YH (by omega)]at hu;have:=getD_both hu;rw[h1]at this;cases this
theorem EP(p:lastB l0 last=true)(E:∀e a w,e≠.normal->Q0 e a w->Q e a w)(J:∀a w,Q0 .normal a w->wpOp P (l0++[last]).toArray Q l0.length (λz w'=>Q .normal z w') a w)(l:Nat):
  ∀(listed:Array Bool) (a:Act) (w:World),listed.size=l0.length->pL l0 listed->wpAny P .any l0.toArray Q0 l listed a w->wpAny P .any (l0++[last]).toArray Q (l+1) (listed.push false) a w:=by
 have q:∀(f:Nat) (listed:Array Bool) (a:Act) (w:World),listed.size=l0.length->Region.ready .any l0.toArray listed=[]->Q0 .normal a w->
   wpOp P (l0++[last]).toArray Q l0.length (wpAny P .any (l0++[last]).toArray Q f ((listed.push false).setIfInBounds l0.length true)) a w:=λf listed a w n h0 F=>by
  refine wpOp_mono (λz w' y=>?_) (J a w F)
  have hd:=z01 (last:=last) n (λj t=>sP p n h0 (j+1) j (by omega) t)
  cases f with
  |zero=>exact⟨hd,y⟩
  |succ f=>exact⟨λ_=>y,λi hi=>by rw[hd]at hi;cases hi⟩
 induction l with
 |zero=>
  intro listed a w n m h;refine⟨λh0=>?_,λi hi=>?_⟩
  .have:l0.length∈Region.ready .any (l0++[last]).toArray (listed.push false):=(XJ p n m _).2 (.inr ⟨rfl,λj t=>sP p n h.1 (j+1) j (by omega) t⟩);rw[h0]at this;cases this
  rcases(XJ p n m i).1 hi with hi|⟨rfl,_⟩
  .rw[h.1]at hi;cases hi
  exact q 0 listed a w n h.1 h.2
 |succ l M=>
  intro listed a w n m h;refine⟨λh0=>?_,λi hi=>?_⟩
  .rcases hr:Region.ready .any l0.toArray listed with _|⟨j,N⟩
   .have:l0.length∈Region.ready .any (l0++[last]).toArray (listed.push false):=(XJ p n m _).2 (.inr ⟨rfl,λj t=>sP p n hr (j+1) j (by omega) t⟩);rw[h0]at this;cases this
   have:j∈Region.ready .any (l0++[last]).toArray (listed.push false):=(XJ p n m _).2 (.inl (by rw[hr];exact List.mem_cons_self ..));rw[h0]at this;cases this
  rcases(XJ p n m i).1 hi with hi|⟨rfl,s⟩
  .have h1:=h.2 i hi;obtain⟨hu,o,r,_⟩:=mem_ready.1 hi;have B:i<l0.length:=by have:=(jE r);simpa using this
   have G:o.guard=none:=by simp only[lastB,jC]at p;have D:o∈l0:=List.mem_of_getElem? (by simpa using r:l0[i]?=some o);have:=List.all_eq_true.1 p.1.1.1 o D;simp only[jC,Option.isNone_iff_eq_none]at this;exact this.1
   have L:∀k,Region.wanted o k=true:=λk=>by unfold Region.wanted;rw[G]
   rw[z7e (by omega)];have h2:=wpOp_mono (λz w' H=>M (listed.setIfInBounds i true) z w' (by simpa using n) (z4m m hi) H) h1;unfold wpOp at h2|-;rw[r]at h2;rw[eQ B,r];simp only[L,if_true]at h2|-;rcases h2 with h2|⟨h2,b,u,h3⟩
   .exact .inl (TV h2 E)
   exact .inr ⟨h2,b,u,E _ _ _ (λe=>by cases e) h3⟩
  have h0:Region.ready .any l0.toArray listed=[]:=by
   apply List.eq_nil_iff_forall_not_mem.2;intro k I;obtain⟨hu,o,r,_⟩:=mem_ready.1 I;have C:k<l0.length:=by have:=(jE r);simpa using this
   have h1:=s k C;have:=getD_both hu;rw[h1]at this;cases this
  exact q (l+1) listed a w n h0 (h.1 h0)
theorem IL{T:Nat}{a:Act}{W:World}{x:TB}{ld:Nat}{v:Value}{K0 K1:World->Prop}{l l':List Oper}{ts:List Nat}(n:Nat)(J:P.follows .mixedOrders=true)(hd:l.drop n=[last])(m:lastB (l.take n) last=true)(H:LD x ld v 0 (l.take n)=l') (F:Region.lexB .any l'.toArray=true) (G:ZG (l.take n).toArray x ld=true) (i:Region.noSelect (l.take n).toArray=true)(L:x.al≠x.st/\x.al≠ld/\x.st≠ld/\x.src≠x.d) (j:ld<(l.take n).toArray.size/\(x.al<(l.take n).toArray.size↔x.st<(l.take n).toArray.size)) (t:x.so≠x.al/\x.so≠x.st) (s:x.al<(l.take n).toArray.size->x.so≠ld) (O:eJ (l.take n).toArray x ld ts=true) (y:x.d ∉ ts) (f:x.d<a.tmps.size)(hc:NF W K0/\NF W K1) (h0:K0 W.drew)(b:∃aF,(∀B,K0 B\/K1 B->W.heap.size<=B.heap.size->wpQuiet P l'.toArray (λw'=>∃e:Ext B,w'=e.w) (λC=>C=aF) l' a)/\(x.al<(l.take n).toArray.size->∀Q0,ZE P (l.take n) Q0 aF x)/\(∀Q0,gI P (l.take n) Q0 aF W ld v ts K0 K1)/\
   ∀a w M,XI W x K1 (l.take n).toArray.size aF a w M->wpList P l.toArray Q [last] a w):(Code.region T l.toArray true).wp P Q a W:=by
 have p:l=l.take n++[last]:=by rw[<-hd,List.take_append_drop]
 obtain⟨aF,h1,h2,h3,h4⟩:=b;generalize I:l.take n=l0 at*;subst p;have S:(l0++[last]).toArray.size=l0.toArray.size+1:=by simp
 have U:last.guard=none\/True:=.inr trivial;have D:=qQ (P:=P) (Q:=λe a w=>match e with|.normal=>wpList P (l0++[last]).toArray Q [last] a w|e=>Q e a w) H F G i L j t s O y f hc h0 ⟨aF,h1,λR=>h2 R _,h3 _,h4⟩;have E:=EP (P:=P) (Q:=Q) m (λe a w q r=>by cases e<;>first|exact absurd rfl q|exact r) (λa w r=>?_) l0.toArray.size (Array.replicate l0.toArray.size false) a W.drew (by simp) (λk o _ z=>by rw[getD_replicate_false]at z;cases z) D
 .refine wp_region_any J ?_;rw[S];have N:(Array.replicate l0.toArray.size false).push false=Array.replicate (l0.toArray.size+1) false:=by rw[Array.replicate_succ]
  rw[<-N];exact E
 unfold wpOp;rw[kK];exact r
end

theorem ziv{P:Program}{Q:Exit->Act->World->Prop}{p q:Oper}{id:Nat}{a:Act}{W:World}{x:TB}{ld:Nat}{v:Value}{K0 K1:World->Prop}{l l':List Oper}{ts:List Nat}(n:Nat)(Y:P.follows .mixedOrders=true)(hd:l.drop n=[p,q])(G:lastB (l.take n) p=true)(j:lastB (l.take n++[p]) q=true)(V:LD x ld v 0 (l.take n)=l') (T:Region.lexB .any l'.toArray=true) (U:ZG (l.take n).toArray x ld=true) (y:Region.noSelect (l.take n).toArray=true)(Z:x.al≠x.st/\x.al≠ld/\x.st≠ld/\x.src≠x.d) (E:ld<(l.take n).toArray.size/\(x.al<(l.take n).toArray.size↔x.st<(l.take n).toArray.size)) (J:x.so≠x.al/\x.so≠x.st) (I:x.al<(l.take n).toArray.size->x.so≠ld) (hw:eJ (l.take n).toArray x ld ts=true) (L:x.d ∉ ts) (s:x.d<a.tmps.size)(hc:NF W K0/\NF W K1) (h0:K0 W.drew)(r:∃aF,(∀B,K0 B\/K1 B->W.heap.size<=B.heap.size->wpQuiet P l'.toArray (λw'=>∃e:Ext B,w'=e.w) (λO=>O=aF) l' a)/\(x.al<(l.take n).toArray.size->∀Q0,ZE P (l.take n) Q0 aF x)/\(∀Q0,gI P (l.take n) Q0 aF W ld v ts K0 K1)/\
   ∀a w M,XI W x K1 (l.take n).toArray.size aF a w M->wpList P l.toArray Q [p,q] a w):(Code.region id l.toArray true).wp P Q a W:=by
 have F:l=(l.take n++[p])++[q]:=by have h:=(List.take_append_drop n l).symm;rw[hd]at h;simpa using h
 obtain⟨aF,h1,h2,h3,h4⟩:=r;generalize X:l.take n=l0 at*;subst F;have D:p.guard=none:=by simp only[lastB,jC]at j;have:=List.all_eq_true.1 j.1.1.1 p (by simp);simp only[jC,Option.isNone_iff_eq_none]at this;exact this.1
 have z:∀k,Region.wanted p k=true:=λk=>by unfold Region.wanted;rw[D]
 have R:=qQ (P:=P) (Q:=λe a w=>match e with|.normal=>wpList P ((l0++[p])++[q]).toArray Q [p,q] a w|e=>Q e a w) V T U y Z E J I hw L s hc h0 ⟨aF,h1,λhx=>h2 hx _,h3 _,h4⟩;have C:=EP (P:=P) (Q:=λe a w=>match e with|.normal=>wpList P ((l0++[p])++[q]).toArray Q [q] a w|e=>Q e a w) G (λe a w f i=>by cases e<;>first|exact absurd rfl f|exact i) (λa w i=>?_) l0.toArray.size (Array.replicate l0.toArray.size false) a W.drew (by simp) (λk o _ t=>by rw[getD_replicate_false]at t;cases t) R
 .have hr:(Array.replicate l0.toArray.size false).push false=Array.replicate (l0++[p]).toArray.size false:=by simp[Array.replicate_succ]
  rw[hr]at C;have N:l0.toArray.size+1=(l0++[p]).toArray.size:=by simp
  rw[N]at C;have S:=EP (P:=P) (Q:=Q) j (λe a w f i=>by cases e<;>first|exact absurd rfl f|exact i) (λa w i=>by unfold wpOp;rw[kK];exact i) (l0++[p]).toArray.size (Array.replicate (l0++[p]).toArray.size false) a W.drew (by simp) (λk o _ t=>by rw[getD_replicate_false]at t;cases t) C;refine wp_region_any Y ?_;have hz:((l0++[p])++[q]).toArray.size=(l0++[p]).toArray.size+1:=by simp
  rw[hz];have H:(Array.replicate (l0++[p]).toArray.size false).push false=Array.replicate ((l0++[p]).toArray.size+1) false:=by rw[Array.replicate_succ]
  rw[<-H];exact S
 unfold wpOp;rw[kK];simp only[z,if_true];have m:wpList P ((l0++[p])++[q]).toArray Q [p,q] a w:=i;unfold wpList at m;simp only[z,if_true]at m;rcases m with h|⟨h2,b,u,h3⟩
 .exact .inl (TV h (λe a w f i=>by cases e<;>first|exact absurd rfl f|exact i))
 exact .inr ⟨h2,b,u,h3⟩
end Go.Proofs.YtkilokkopbajkaaGreat
