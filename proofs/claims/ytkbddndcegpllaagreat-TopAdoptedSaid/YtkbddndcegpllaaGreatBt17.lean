/- Texts bound together: QVar1 FreeW FreeT. -/
import Derived.Test.YtkbddndcegpllaaGreatBt16

set_option linter.all false
set_option maxHeartbeats 2000000
set_option maxRecDepth 100000
namespace Go.Proofs.YtkbddndcegpllaaGreat

attribute [local go_sem] zeh

section

open Go.RowKit

section

variable {P:Program} {l:List Oper} {md:Region.Mode} {aF:Act} {W:World} {Q:Exit->Act->World->Prop} {x y:zd0}

structure z1h (W:World) (x:zd0) (aF a:Act) (w:World) (M:Nat):Prop where
 state:a=aF.put (some x.d) (vptr M)
 below:Below W.heap.size W w
 new:W.heap.size<=M
 one:w.heap[M]?=some (.cells x.val x.t (0,0))
theorem yga(O:z2q l.toArray x y=true)(R:Region.noSelect l.toArray=true)(hp:zlh x y)(X:ze2 P l Q aF x)
  (E:x.al<l.toArray.size/\x.st<l.toArray.size/\l.toArray.size<=y.al/\l.toArray.size<=y.st)
  (b3:ownB x y x.so=false)
  (L:∀ a w M,z1h W x aF a w M->Q .normal a w) (f:Nat):∀ (listed:Array Bool) (aQ a:Act) (w:World),listed.size=l.toArray.size->zhy W x y listed aQ a w->
  (∀ B,Below W.heap.size W B->wpAnyQ P .any (nopL x y l).toArray (zhc B) (fun a=>a=aF) f listed aQ)->wpAny P .any l.toArray Q f listed a w:=by
 have fin:∀ (listed:Array Bool) (aQ a:Act) (w:World),listed.size=l.toArray.size->zhy W x y listed aQ a w->Region.ready .any l.toArray listed= []->aQ=aF->Q .normal a w:=by
  intro listed aQ a w r p j e;have m:∀ i,i<l.toArray.size->listed.getD i false=true:=fun i hi=>by
   have:=all_in O r j (i+1) i (by omega) hi;have n:i<listed.size:=by omega
   simp only[Array.getD_eq_getD_getElem?,Array.getElem?_eq_getElem n,Option.getD_some]at this ⊢;exact this
  have b2:listed.getD y.al false=false:=by
   have:listed.size<=y.al:=by omega
   simp[Array.getElem?_eq_none this]
  obtain⟨M,N,t,I,h3,h4⟩:=p.there;rw[m _ E.1,b2,e]at t;obtain⟨k1,T⟩:=I (m _ E.1);rw[m _ E.2.1]at T;exact L a w M ⟨t,p.below,k1,by simpa using T⟩
 induction f with
 |zero=>
  intro listed aQ a w r p h;have t:=h W br;have j:Region.ready .any l.toArray listed= []:=by rw[<-zne (x:=x) (y:=y)];exact t.1
  exact⟨j,fin listed aQ a w r p j t.2⟩
 |succ f ih=>
  intro listed aQ a w r p h
  refine⟨fun j=>fin listed aQ a w r p j ((h W br).1 (by rw[zne];exact j)),fun i hi=>?_⟩
  have D:i ∈ Region.ready .any (nopL x y l).toArray listed:=by rw[zne];exact hi
  obtain⟨S,o,s,b0⟩:=mem_ready.1 hi
  have n:=zfh S
  have b5:i<l.toArray.size:=(Array.getElem?_eq_some_iff.1 s).1
  have H:(listed.setIfInBounds i true).size=l.toArray.size:=by simpa using r
  cases hown:ownB x y i with
  |true=>
   have V:∀ B,Below W.heap.size W B->wpAnyQ P .any (nopL x y l).toArray (zhc B) (fun a=>a=aF) f (listed.setIfInBounds i true) aQ:=fun B Y=>
    ycl hown ⟨o,s⟩ ((h B Y).2 i D)
   have src:∀ z:zd0,ze2 P l Q aF z->ownB x y z.so=false->listed.getD z.so false=true->aQ.eval (.tmp z.src)=aF.eval (.tmp z.src):=fun z r s hl=>by
    obtain⟨oz,k1,T⟩:=r.src
    have t:(nopL x y l).toArray[z.so]?=some oz:=by rw[zmy,k1];simp[s]
    have:=zph t T (zpl O k1 _ T) _ listed aQ hl (h W br)
    show aQ.tmps.getD z.src undef=aF.tmps.getD z.src undef
    rw[Array.getD_eq_getD_getElem?,Array.getD_eq_getD_getElem?,this]
   have hc:i=x.al\/i=x.st:=by
    simp only[ownB,Bool.or_eq_true,beq_iff_eq]at hown
    omega
   rcases hc with e|e<;>subst e
   ·exact wpOp_mono (fun U w' F=>ih _ _ _ _ H F V) (z7g hp X p S)
   ·exact wpOp_mono (fun U w' F=>ih _ _ _ _ H F V) (z6q hp X p hi (src x X b3 (X.waits _ hi).2))
  |false=>
   obtain⟨qg,qx,qy,lx,ly⟩:=(zm4 O s).quiet hown
   have j:(nopL x y l).toArray[i]?=some o:=by rw[zmy,s];simp[hown]
   obtain⟨v,b4,Z⟩:=yieldsIn_of_qOp j ((h w p.below).2 i D)
   have hv:=zqc j (zpl O s) n Z
   have V:∀ B,Below W.heap.size W B->wpAnyQ P .any (nopL x y l).toArray (zhc B) (fun a=>a=aF) f (listed.setIfInBounds i true) (aQ.put o.dst v):=fun B Y=>by
    obtain⟨u,_,J⟩:=yieldsIn_of_qOp j ((h B Y).2 i D)
    have hu:=zqc j (zpl O s) n J
    rw[hv,<- hu];exact J
   have q:∀ k,Region.wanted o k=true:=fun k=>by unfold Region.wanted;rw[qg]
   have hq:∀ w',zhc w w'->o.quietAt P aQ (zhc w) w' v:=by
    rcases b4 with⟨_,I⟩|⟨I,_⟩
    ·exact I
    ·rw[q]at I;cases I
   obtain⟨M,N,t,_⟩:=p.there
   have b1:execOp a.eval o=execOp aQ.eval o:=execOp_congr o (fun cs b=>Region.noSelect_spec R i o cs b s) fun z r=>by
    rw[t,zfk (zmk lx z r),zfk (zmk ly z r)]
   unfold wpOp
   rw[s]
   simp only[q,if_true]
   refine .inl (Oper.wp_of_quiet (C:=zhc w) (K:=fun U=>U=a.put o.dst v) br (fun U w' G e=>ih _ _ _ _ H (z1u n p hown qx qy G e) V) ⟨v,fun w' G=>?_,rfl⟩)
   have:=hq w' G
   unfold Oper.quietAt at *
   rw[b1];exact this
theorem zkt{G:Nat}{a:Act}{l':List Oper}(D:P.follows .mixedOrders=true)(z:nopF x y 0 l=l')(o:Region.lexB .any l'.toArray=true)(b:z2q l.toArray x y=true)(n:Region.noSelect l.toArray=true)(E:zlh x y)
  (p:x.al<l.toArray.size/\x.st<l.toArray.size/\l.toArray.size<=y.al/\l.toArray.size<=y.st) (q:ownB x y x.so=false) (j:x.d<a.tmps.size/\y.d<a.tmps.size)
  (f:∃ aF,(∀ B,Below W.heap.size W B->wpQuiet P l'.toArray (fun w'=>∃ e:Ext B,w'=e.w) (fun s=>s=aF) l' a)/\ze2 P l Q aF x/\
   ∀ a w M,z1h W x aF a w M->Q .normal a w):(Code.region G l.toArray true).wp P Q a W:=by
 subst z;obtain⟨aF,h,F,i⟩:=f;rw[<-ycp]at o h;simp only[Region.lexB,Bool.and_eq_true]at o;have m:(nopL x y l).length=l.toArray.size:=by simp[nopL]
 refine wp_region_any D (yga (W:=W.drew) b n E F p q (fun a w M b=>i a w M ⟨b.state,⟨b.below.os,b.below.tape,b.below.output,b.below.size,b.below.block⟩,b.new,b.one⟩) l.toArray.size _ a a _ (by simp) ⟨Below.refl _ _,j,⟨fun e=>?_,fun e=>?_⟩,⟨0,0,?_,fun e=>?_,fun e=>?_,fun e=>?_⟩⟩ fun B hb=>?_)
 ·rw[getD_replicate_false]at e;cases e
 ·rw[getD_replicate_false]at e;cases e
 ·rw[getD_replicate_false,getD_replicate_false];rfl
 ·rw[getD_replicate_false]at e;cases e
 ·rw[getD_replicate_false]at e;cases e
 ·rw[getD_replicate_false]at e;cases e
 have r:=h B ⟨hb.os,hb.tape,hb.output,hb.size,hb.block⟩;rw[<-zsj]at r
 have:=wpAnyQ_lex (C:=zhc B) (md:= .any) o.1 (nopL x y l) 0 (Array.replicate l.toArray.size false) a (by simp) (by
  have t:=o.2
  simpa[nopL] using t) r
 rw[m]at this;exact this
end

end

section

open Go.RowKit

attribute [local go_sem ↓] Go.wp_at_zero Go.wp_at_succ

def za7 (s:Sh) (t:Fe) (pv:Value):Array Value:= #[s.p,s.c,s.m,t.c,t.a,t.page,t.slot,.int .u64 t.word,t.pk,t.pa,t.pb,t.next,t.i,pv,t.gave,t.done]
attribute [local go_sem] za7

structure FeAt (w:World) (q q2:Nat) (s:Sh) (t:Fe):Prop where
 row:zaa w q (za7 s t (ptrV t.put q2)) 276
 inn:∀ x,t.put=some x->zaa w q2 (zeh s x) 356/\q≠q2
theorem zkw(q:Nat)(cs:Array Value)(v:Bool)(w:World)(h:zaa w q cs 276)(b:cs[15]?=some (.bool v)):Calls Tryz.prog 193 #[some q] w fun e w'=>e= .returned (.bool v)/\w'=w:=by
 have c:=(h.cell 15).trans b;clear h b;go_in;go_wp2_with fail;go_returns;exact⟨rfl,rfl⟩
theorem zh8(q:Nat)(cs:Array Value)(v:Bool)(w:World)(h:zaa w q cs 276)(b:cs[14]?=some (.bool v)):Calls Tryz.prog 194 #[some q] w fun e w'=>e= .returned (.bool v)/\w'=w:=by
 have c:=(h.cell 14).trans b;clear h b;go_in;go_wp2_with fail;go_returns;exact⟨rfl,rfl⟩
theorem zoc(w:World):Calls Tryz.prog 194 #[.pointer none] w fun e w'=>e= .returned (.bool false)/\w'=w:=by
 go_in;go_wp2_with fail;go_returns;exact⟨rfl,rfl⟩
theorem zxk(s:Sh)(a:Int)(w:World):Calls Tryz.prog 147 #[.agg #[s.p,s.c,s.m],a] w fun e w'=>e= .returned (.tuple #[.int .i64 (if spB s a=true then a/64 else 0),.int .i64 (if spB s a=true then a%64 else 0),.bool (spB s a)])/\Below w.heap.size w w':=by
 refine(z0r s.p s.c s.m a w).mono ?_;rintro e w' ⟨rfl,hb⟩;refine⟨?_,hb⟩;have h:splitB s.p s.c s.m a=spB s a:=rfl;rw[h];cases spB s a<;>rfl
theorem zq9(s:Sh)(c a:Int)(w:World):
  Calls Tryz.prog 150 #[.agg #[s.p,s.c,s.m],c,a] w fun e w'=>Born w w' e (za7 s (zc2 s c a) (.pointer none)) 276:=by
 have q:=fun W=>zau s.p s.c s.m c W;have i:=fun W=>zxk s a W;have D:za7 s (zc2 s c a) (.pointer none)= #[.int .i64 s.p,.int .i64 s.c,.int .i64 s.m,.int .i64 c,.int .i64 a,.int .i64 (if spB s a=true then a/64 else 0),.int .i64 0,.int .u64 0,.int .i64 0,.int .i64 0,.int .i64 0,.int .i64 0,.int .i64 0,.pointer none,.bool false,.bool (!spB s a||decide (zae s.p s.c s.m c<0))]:=rfl;rw[D];clear D;generalize zae s.p s.c s.m c=E at *;generalize (if spB s a=true then a/64 else 0)=d at *;generalize (if spB s a=true then a%64 else 0)=f at *;generalize spB s a=g at *;obtain⟨sp,z,B⟩:=s;dsimp only at q i ⊢;replace q:=hd' q;replace i:=hd' i;have j:=(Below.refl w.heap.size w).alloc lr (.cells #[sp,z,B] 23);have t0:=heap_alloc_new w (.cells #[sp,z,B] 23);go_in;go_upto_region 1 with fail;generalize w.alloc (.cells #[sp,z,B] 23)=W at *;obtain⟨H,I,o⟩:=hidv w.heap.size;rw[<-o]at t0 ⊢;have J:H<W.heap.size:=(Array.getElem?_eq_some_iff.1 t0).1;have c0:W.cell? ⟨H,0,.none⟩=some (.int .i64 sp):=zac t0 0;have c1:W.cell? ⟨H,1,.none⟩=some (.int .i64 z):=zac t0 1;have c2:W.cell? ⟨H,2,.none⟩=some (.int .i64 B):=zac t0 2;clear o t0;go_upto_region 2 with(first|(go_at_call 147;(with_reducible refine(i.out _).mono ?_);rintro r L ⟨rfl,b⟩;have F:=zai b _ _ _ c0;have d1:=zai b _ _ _ c1;have d2:=zai b _ _ _ c2;have G:=zqe F));clear c0 c1 c2;rcases(by cases g<;>simp<;>omega:g=false\/(g=true/\E<0)\/(g=true/\¬ E<0)) with rfl|⟨rfl,h1⟩|⟨rfl,h1⟩;all_goals
  try have q1:=decide_eq_false h1
  refine zad 13 (by kernel_rfl) (by kernel_rfl) ?_;dsimp only[List.take,List.drop];repeat (go_big_quiet_step (((go_at_call 57;exact zam (q.out _)))))
  refine wpQuiet_nil ?_;rintro _ ⟨C,rfl⟩;have n:=C.below;generalize C.w=X at *;change wpList _ _ _ _ _ X;go_wp2_with fail;go_returns
 ·exact za6 j (zab b n) rfl
 ·exact za6 j (zab b n) (by simp[h1])
 exact za6 j (zab b n) (by simp[h1])
theorem zoz(q q2:Nat)(s:Sh)(t:Fe)(x:Pu)(w:World)(h:FeAt w q q2 s t)(o:t.put=some x):
  Calls Tryz.prog 272 #[some q] w fun e w'=>Turned q w w' e (za7 s t.kept (.pointer (some ⟨q2,0,.none⟩))) 276:=by
 obtain⟨m,H⟩:=h.inn x o;have j:=z4h q2 (zeh s x) x.put w m rfl;have i:=zxw q2 (zeh s x) x.done w m rfl;have n:At1 q w w (za7 s t (.pointer (some ⟨q2,0,.none⟩))) 276:=At1.start (by have:=h.row;rw[o]at this;exact this);have p:=zcv t x o;obtain⟨E,b⟩:∃ E,E=t.kept:=⟨_,rfl⟩;rw[<-b]at p ⊢;clear b h o m;generalize zeh s x=I at *;generalize x.put=g at *;generalize x.done=d at *;obtain⟨sp,J,L⟩:=s;obtain⟨N,M,O,S,U,pk,pa,pb,T,R,F,D,C⟩:=t;dsimp only at p;replace j:=hd' j;replace i:=hd' i;have G:=n.cell;have Y:=n.free;rcases p with⟨rfl,b⟩|⟨rfl,rfl,b⟩|⟨rfl,rfl,b⟩;all_goals replace b:=hd' b;go_in;go_wp2_with (first|(go_at_call 277;(with_reducible refine j.out.mono ?_);rintro r V ⟨rfl,z⟩;obtain rfl:=z.symm)|(go_at_call 278;(with_reducible refine i.out.mono ?_);rintro r X ⟨rfl,B⟩;obtain rfl:=B.symm));go_returns
 ·exact(n.set 15 _).fin (by rw[b.out];rfl)
 ·exact(n.set 11 _).fin (by rw[b.out];rfl)
 exact n.fin (by rw[b.out])
theorem zvp(q p b:Nat)(s:Sh)(t:Fe)(pv:Value)(m:Mem)(w:World)(M:At3 q p b w w (za7 s t pv) 276 m)(R:Fits s m)(hs:m.st<1000000000)(H:0<=t.page/\t.page<s.p)(S:1<=t.pa/\t.pa<=8/\t.pa<=s.p-t.page)(hi:0<=t.i/\t.i<t.pa):
  Calls Tryz.prog 276 #[some q,some p] w fun e w'=>e= .returned (.tuple #[])/\At3 q p b w w' (za7 s (if t.i=t.pa-1 then {t with done:=true} else {t with i:=t.i+1}) pv) 276 (if t.i=t.pa-1 then m.store t.c (zak s.p s.c s.m t.page) 0 else m.store t.c (zak s.p s.c s.m (t.page+t.i+1)) 0):=by
 have O:=R.bd;have w1:=wrp (t.pa-1);have U:=wrp (t.i+1);have w3:=wrp (t.page+t.i);have w4:=wrp (t.page+t.i+1);by_cases o:t.i=t.pa-1
 ·rw[if_pos o,if_pos o];have F:(t.i==t.pa-1)=true:=by simpa using o
  obtain⟨C,B⟩:=R.page H;have j:=fun Y=>planPage_any s.p s.c s.m t.page Y;rw[C]at j ⊢;have n:=fun Y (hY:zaq Y p b m)=>zba p b m t.c (s.c+t.page) 0 Y hY B (by decide) hs;generalize s.c+t.page=pg at *;clear C B H S hi O R U w3 w4 o;obtain⟨sp,sc,sm⟩:=s;obtain⟨tc,ta,tg,tl,tw,pk,pa,pb,tn,ti,T,L,J⟩:=t;dsimp only at j n w1 F ⊢;replace j:=hd' j;replace n:=hd' n;have lq:=M.lt;have V:=M.cell;go_in;go_upto_region 0 with fail;refine zaj (by kernel_rfl) (by kernel_rfl) ?_;repeat (go_big_quiet_step (fail))
  refine wpQuiet_nil ?_;rintro _ ⟨z,rfl⟩;have D:=M.below z.below;generalize z.w=X at *;clear V lq;have b0:=D.cell;go_upto_region 1 with fail;have lX:=D.lt;refine zad 14 (by kernel_rfl) (by kernel_rfl) ?_;dsimp only[List.take,List.drop];repeat (go_big_quiet_step (((go_at_call 119;exact zam (j.out _)))))
  refine wpQuiet_nil ?_;rintro _ ⟨z,rfl⟩;have N:=D.below z.below;generalize z.w=Z at *;change wpList _ _ _ _ _ Z;clear b0 D lX;go_wp2_with (go_at_call 257;(with_reducible refine(n.out _ N.wds).mono ?_);rintro r U ⟨rfl,I,G⟩;have E:=N.access I G;have b3:=E.cell;have zf:=E.free);go_returns;exact⟨rfl,E.set 15 _⟩
 rw[if_neg o,if_neg o];have F:(t.i==t.pa-1)=false:=by simpa using o
 obtain⟨C,B⟩:=R.page (x:=t.page+t.i+1) (by omega);have j:=fun Y=>planPage_any s.p s.c s.m (t.page+t.i+1) Y;rw[C]at j ⊢;have n:=fun Y (hY:zaq Y p b m)=>zba p b m t.c (s.c+(t.page+t.i+1)) 0 Y hY B (by decide) hs;generalize s.c+(t.page+t.i+1)=pg at *;clear C B H S hi O R o;obtain⟨sp,sc,sm⟩:=s;obtain⟨tc,ta,tg,tl,tw,pk,pa,pb,tn,ti,T,L,J⟩:=t;dsimp only at j n w1 U w3 w4 F ⊢;replace j:=hd' j;replace n:=hd' n;have lq:=M.lt;have b1:=M.cell;go_in;go_upto_region 0 with fail;refine zaj (by kernel_rfl) (by kernel_rfl) ?_;repeat (go_big_quiet_step (fail))
 refine wpQuiet_nil ?_;rintro _ ⟨z,rfl⟩;have D:=M.below z.below;generalize z.w=X at *;clear b1 lq;have b2:=D.cell;go_upto_region 3 with fail;have lX:=D.lt;refine zad 20 (by kernel_rfl) (by kernel_rfl) ?_;dsimp only[List.take,List.drop];repeat (go_big_quiet_step (((go_at_call 119;exact zam (j.out _)))))
 refine wpQuiet_nil ?_;rintro _ ⟨z,rfl⟩;have N:=D.below z.below;generalize z.w=Z at *;change wpList _ _ _ _ _ Z;clear b2 D lX;go_wp2_with (go_at_call 257;(with_reducible refine(n.out _ N.wds).mono ?_);rintro r U ⟨rfl,I,G⟩;have E:=N.access I G;have b4:=E.cell;have zf:=E.free);go_returns;exact⟨rfl,E.set 12 _⟩
theorem zy7(q p b:Nat)(s:Sh)(t:Fe)(pv:Value)(m:Mem)(w:World)(h0:At3 q p b w w (za7 s t pv) 276 m)(hf:Fits s m)(hs:m.st<1000000000)(b8:0<=t.page/\t.page<s.p)(bc:spB s t.a=true):
  Calls Tryz.prog 273 #[some q,some p] w fun e w'=>e= .returned (.tuple #[])/\At3 q p b w w' (za7 s (t.look s m).1 pv) 276 (t.look s m).2:=by
 have bk:=hf.bd;have j:=fun Y=>zxk s t.a Y;rw[bc,if_pos rfl,if_pos rfl]at j;have b1:0<=t.a%64/\t.a%64<64:=by omega
 obtain⟨b5,b9⟩:=hf.page b8;have D:=fun Y=>planPage_any s.p s.c s.m t.page Y;rw[b5]at D;have S:=fun Y (hY:zaq Y p b m)=>zc1 p b m t.c (s.c+t.page) Y hY b9 hs;have U:=fun Y=>zh3 s t.page (m.get (s.c+t.page)) Y (Mem.ze4 h0.wds.fit _);have R:=fun k Y=>zgq k Y
 have hr:t.look s m=(if zal s.p s.c s.m t.page (m.get (s.c+t.page))=true/\pgK s t.page (m.get (s.c+t.page))=3/\t.a%64=0 then {t with word:=m.get (s.c+t.page),pk:=pgK s t.page (m.get (s.c+t.page)),pa:=pgP s t.page (m.get (s.c+t.page)) 0,pb:=pgP s t.page (m.get (s.c+t.page)) 1,next:=1}
   else if zal s.p s.c s.m t.page (m.get (s.c+t.page))=true/\pgK s t.page (m.get (s.c+t.page))=2/\t.a%64%zbj (pgP s t.page (m.get (s.c+t.page)) 0)=0 then {t with word:=m.get (s.c+t.page),pk:=pgK s t.page (m.get (s.c+t.page)),pa:=pgP s t.page (m.get (s.c+t.page)) 0,pb:=pgP s t.page (m.get (s.c+t.page)) 1,next:=1,slot:=t.a%64/zbj (pgP s t.page (m.get (s.c+t.page)) 0)}
   else {t with word:=m.get (s.c+t.page),pk:=pgK s t.page (m.get (s.c+t.page)),pa:=pgP s t.page (m.get (s.c+t.page)) 0,pb:=pgP s t.page (m.get (s.c+t.page)) 1,next:=1,done:=true},m.load t.c (s.c+t.page)):=by
  unfold Fe.look pgK pgP
  dsimp only
  rw[b5]
  by_cases hB:zal s.p s.c s.m t.page (m.get (s.c+t.page))=true<;>simp[hB]
 have o:zal s.p s.c s.m t.page (m.get (s.c+t.page))=true/\pgK s t.page (m.get (s.c+t.page))=2->0<zbj (pgP s t.page (m.get (s.c+t.page)) 0):=fun h=>by have I:=h.2;unfold pgK at I;rw[if_pos h.1]at I;unfold pgP;rw[if_pos h.1];exact(zwy b1 (zdq h.1 I).2.2).1
 rw[hr];clear hr bc b5 b9 b8 bk hf;generalize s.c+t.page=b6 at *;generalize m.get b6=x at *;generalize zal s.p s.c s.m t.page x=B at *;generalize pgK s t.page x=F at *;generalize pgP s t.page x 0=e1 at *;generalize pgP s t.page x 1=e2 at *;replace R:=fun Y=>R e1 Y;have bf:=znt e1;generalize zbj e1=z at *;generalize t.a%64=i at *;generalize t.a/64=qu at *;dsimp only;obtain⟨t2,G,b2⟩:∃ t2:Fe,Hid (t2=if B=true/\F=3/\i=0 then {t with word:=x,pk:=F,pa:=e1,pb:=e2,next:=1} else if B=true/\F=2/\i%z=0 then {t with word:=x,pk:=F,pa:=e1,pb:=e2,next:=1,slot:=i/z} else {t with word:=x,pk:=F,pa:=e1,pb:=e2,next:=1,done:=true})/\t2=_:=⟨_,hd' rfl,rfl⟩;rw[<-b2];clear b2;obtain⟨sp,sc,sm⟩:=s;obtain⟨tc,ta,tg,tl,tw,pk,pa,pb,tn,ti,L,C,H⟩:=t;dsimp only at j D S U G ⊢;replace j:=hd' j;replace D:=hd' D;replace S:=hd' S;replace U:=hd' U;replace R:=hd' R;replace o:=hd' o;have lq:=h0.lt;have bg:=h0.cell;go_in;go_upto_region 0 with fail;refine zaj (by kernel_rfl) (by kernel_rfl) ?_;repeat (go_big_quiet_step (((go_at_call 147;exact zam (j.out _)))))
 refine wpQuiet_nil ?_;rintro _ ⟨e',rfl⟩;have hX:=h0.below e'.below;generalize e'.w=X at *;clear bg lq;go_upto_region 1 with fail;go_cut [5] (fun s5 wx=>s5= .int .i64 i/\At3 q p b w wx (za7 ⟨sp,sc,sm⟩ ⟨tc,ta,tg,tl,x,pk,pa,pb,tn,ti,L,C,H⟩ pv) 276 (m.load tc b6));case first=>
  refine zcx 18 (last:= { dst:=none,op:=Op.store 137 (Operand.tmp 39) (Operand.tmp 37),type:=0,pos:=_,after:=_,guard:=none}) (x:=zbb 60) (ld:=15) (v:= .int .u64 x) (ts:= [23,27,36])
   (K0:=fun Y=>At3 q p b w Y (za7 ⟨sp,sc,sm⟩ ⟨tc,ta,tg,tl,tw,pk,pa,pb,tn,ti,L,C,H⟩ pv) 276 m) (K1:=fun Y=>At3 q p b w Y (za7 ⟨sp,sc,sm⟩ ⟨tc,ta,tg,tl,tw,pk,pa,pb,tn,ti,L,C,H⟩ pv) 276 (m.load tc b6))
   (by kernel_rfl) rfl (by kernel_rfl) (by simp only[List.take,zbb,zfq,zej,nopO,nopC,Nat.reduceBEq,Bool.or_false,Bool.or_true,Bool.false_eq_true,↓reduceIte,Nat.reduceAdd];exact rfl) (by kernel_rfl) (by kernel_rfl) (by kernel_rfl) (by simp[zbb]) (by simp[zbb]) (by simp[zbb]) (by simp[zbb]) (by kernel_rfl) (by simp[zbb]) (by simp[zbb])
   ⟨⟨fun Y Y' O I h3=>O.far I h3 hX.only.size⟩,⟨fun Y Y' O I h3=>O.far I h3 hX.only.size⟩⟩ hX.drew ?_
  apply Exists.intro;refine⟨fun B hb hs=>?_,fun h=>(by simp[zbb]at h),fun Q0=>?_,?_⟩;case refine_1=>
   have T:zaa B q (za7 ⟨sp,sc,sm⟩ ⟨tc,ta,tg,tl,tw,pk,pa,pb,tn,ti,L,C,H⟩ pv) 276:=hb.elim (fun h=>h.row) (fun h=>h.row);have lB:=T.lt;have bs:=T.cell;repeat (go_big_quiet_step (((go_at_call 119;exact zam (D.out _)))))
   exact wpQuiet_nil rfl
  case refine_2=>exact zcz rfl (fun _ _=>by simp[go_sem]) fun Y b3 hs=>(S.out Y b3.wds).mono fun r Y' ⟨O,I,h3⟩=>⟨O,b3.load I h3,h3.weak fun k hk=>hk ▸ Nat.lt_of_lt_of_le b3.ls.2.1 hX.only.size⟩
  case refine_3=>intro a w4 M hf;obtain⟨rfl,bn,b4,_⟩:=hf;have bu:=b4.cell;have zf:=b4.free;have hB:=b4.set 7 (.int .u64 x);simp only[zbb,vput,List.take,List.size_toArray,List.length_cons,List.length_nil,Nat.reduceAdd,Nat.reduceLT,decide_false,Bool.false_eq_true,if_false];go_wp2;go_meet;exact⟨rfl,hB⟩
 case rest=>
  obtain⟨rfl,hA⟩:=hcut;clear hX S D j;obtain⟨Y,rfl⟩:∃ V:World,V=wc:=⟨_,rfl⟩;have lY:=hA.lt;have bh:=hA.cell;go_upto_region 2 with fail;go_cut [7,8] (fun s7 s8 wx=>∃ E,s7= .pointer (some ⟨E,0,.none⟩)/\s8= .bool B/\Y.heap.size<=E/\zaa wx E #[F,e1,e2] 128/\Below Y.heap.size Y wx);case first=>
   refine zkt (x:=⟨16,17,14,7,54,128, #[.int .i64 0,.int .i64 0,.int .i64 0], #[F,e1,e2]⟩) (y:=⟨1000,1001,0,98,97,0, #[], #[]⟩) (by kernel_rfl) (by simp only[nopF,nopO,ownB,Nat.reduceBEq,Bool.or_false,Bool.or_true,Bool.false_eq_true,↓reduceIte,Nat.reduceAdd];exact rfl) (by kernel_rfl) (by kernel_rfl) (by kernel_rfl) (by constructor<;>(dsimp only;decide)) (by refine⟨?_,?_,?_,?_⟩<;>(dsimp only;decide)) rfl (by constructor<;>simp) ?_;apply Exists.intro;refine⟨fun B hb=>?_,?_,?_⟩;case refine_1=>
    have T:=hA.row.below hb;have lB:=T.lt;have bv:=T.cell;repeat (go_big_quiet_step (((go_at_call 118;exact zam (U.out _)))))
    exact wpQuiet_nil rfl
   case refine_2=>exact zqa rfl rfl rfl rfl rfl rfl rfl rfl (by dsimp only;decide +kernel) (by dsimp only;decide +kernel)
   case refine_3=>intro a w4 M hf;obtain⟨rfl,hb,bj,hM⟩:=hf;simp only[Act.put,vptr];go_wp2;go_meet;exact⟨_,rfl,rfl,bj,hM,hb⟩
  case rest=>
   obtain⟨E,rfl,rfl,hE,bi,b7⟩:=hcut;have hC:=hA.below b7;clear hA bh U;have bz:E≠q:=fun e=>by rw[e]at hE;omega
   obtain⟨Z,rfl⟩:∃ V:World,V=wc:=⟨_,rfl⟩;clear b7;have bw:=bi.cell;have bx:=hC.cell;have zf:=hC.free;have hD:=(((hC.set 8 (.int .i64 F)).set 9 (.int .i64 e1)).set 10 (.int .i64 e2)).set 11 (.int .i64 1);obtain⟨o1,o2⟩:=b1;obtain⟨z1,z2⟩:=bf;have n:∀ (O:¬ (B=true/\F=3/\i=0)) (I:¬ (B=true/\F=2/\i%z=0)),t2=⟨tc,ta,tg,tl,x,F,e1,e2,1,ti,L,C,true⟩:=fun O I=>(G.out.trans (if_neg O)).trans (if_neg I);replace n:=hd' n;by_cases N:B=true/\F=3/\i=0
   ·replace G:=hd' (G.out.trans (if_pos N));obtain⟨rfl,rfl,rfl⟩:=N;clear n o;go_wp2_with fail;go_returns;exact⟨rfl,by rw[G.out];exact hD⟩
   by_cases J:B=true/\F=2/\i%z=0
   ·replace G:=hd' ((G.out.trans (if_neg N)).trans (if_pos J));have hz:0<z:=o.out ⟨J.1,J.2.1⟩;have bb:i.tmod z=0:=by rw[Int.tmod_eq_emod_of_nonneg o1];exact J.2.2
    have bq:i.tdiv z=i/z:=Int.tdiv_eq_ediv_of_nonneg o1;have bm:(z==0)=false:=by simp;omega
    have c4:IntKind.i64.wrap (i/z)=i/z:=by have O:0<=i/z:=Int.ediv_nonneg o1 (by omega);have I:i/z<=i:=Int.ediv_le_self _ o1;exact IntWalk.i64_in _ ⟨by omega,by omega⟩
    obtain⟨rfl,rfl,ba⟩:=J;clear n o N;replace ba:=hd' ba;go_wp2_with (go_at_call 68;(with_reducible refine(R.out _).mono ?_);rintro r w1 ⟨rfl,rfl⟩);go_returns;exact⟨rfl,by rw[G.out];exact hD.set 6 _⟩
   have b0:B=false\/(B=true/\F=3/\(i==0)=false)\/(B=true/\F=2/\(i%z==0)=false/\0<z)\/(B=true/\(F==3)=false/\(F==2)=false):=by
    rcases Bool.eq_false_or_eq_true B with h|h
    ·by_cases O:F=3
     ·exact .inr (.inl ⟨h,O,by simpa[h,O] using N⟩)
     by_cases I:F=2
     ·exact .inr (.inr (.inl ⟨h,I,by simpa[h,I] using J,o.out ⟨h,I⟩⟩))
     exact .inr (.inr (.inr ⟨h,by simpa using O,by simpa using I⟩))
    exact .inl h
   replace n:=hd' (n.out N J);clear N J o G;rcases b0 with rfl|⟨rfl,rfl,b0⟩|⟨rfl,rfl,b0,hz⟩|⟨rfl,b0,bp⟩
   ·go_wp2_with fail;go_returns;exact⟨rfl,by rw[n.out];exact hD.set 15 _⟩
   ·go_wp2_with fail;go_returns;exact⟨rfl,by rw[n.out];exact hD.set 15 _⟩
   ·have bb:i.tmod z=i%z:=Int.tmod_eq_emod_of_nonneg o1;have bm:(z==0)=false:=by simp;omega
    go_wp2_with (go_at_call 68;(with_reducible refine(R.out _).mono ?_);rintro r w1 ⟨rfl,rfl⟩);go_returns;exact⟨rfl,by rw[n.out];exact hD.set 15 _⟩
   go_wp2_with fail;go_returns;exact⟨rfl,by rw[n.out];exact hD.set 15 _⟩
end

end Go.Proofs.YtkbddndcegpllaaGreat
