
import Derived.Test.YtkilokkopbajkaaGreatBw19

set_option linter.all false
set_option maxHeartbeats 2000000
set_option maxRecDepth 100000
namespace Go.Proofs.YtkilokkopbajkaaGreat

open RowKit

attribute [local go_sem ↓] wp_at_zero wp_at_succ

attribute [local go_sem] CA zE

section

variable {P:Program}{l:List Oper}{md:Region.Mode}{aF:Act}{W:World}{Q:Exit->Act->World->Prop}{x y:TB}

structure zT (W:World) (x:TB) (aF a:Act) (w:World) (M:Nat):Prop where
 state:a=aF.put (some x.d) (vptr M)
 below:Below W.heap.size W w
 new:W.heap.size<=M
 one:w.heap[M]?=some (.cells x.val x.t (0,0))
theorem yga(I:FJ l.toArray x y=true)(J:Region.noSelect l.toArray=true)(hp:FH x y)(T:ZE P l Q aF x)(t:x.al<l.toArray.size/\x.st<l.toArray.size/\l.toArray.size<=y.al/\l.toArray.size<=y.st)(b0:ownB x y x.so=false)(H:∀a w M,zT W x aF a w M->Q .normal a w) (f:Nat):∀(listed:Array Bool) (aQ a:Act) (w:World),listed.size=l.toArray.size->fG W x y listed aQ a w->(∀B,jW W B->wpAnyQ P .any (nopL x y l).toArray (zD B) (λa=>a=aF) f listed aQ)->wpAny P .any l.toArray Q f listed a w:=by
 have fin:∀(listed:Array Bool) (aQ a:Act) (w:World),listed.size=l.toArray.size->fG W x y listed aQ a w->Region.ready .any l.toArray listed=[]->aQ=aF->Q .normal a w:=by
  intro listed aQ a w q n h0 e;have j:∀i,i<l.toArray.size->listed.getD i false=true:=λi hi=>by
   have:=all_in I q h0 (i+1) i (by omega) hi;have m:i<listed.size:=by omega
   simp only[Array.getD_eq_getD_getElem?,Array.getElem?_eq_getElem m,Option.getD_some]at this|-;exact this
  have Z:listed.getD y.al false=false:=by
   have:listed.size<=y.al:=by omega
   simp[Array.getElem?_eq_none this]
  obtain⟨M,N,h1,h2,h3,h4⟩:=n.there;rw[j _ t.1,Z,e]at h1;obtain⟨k1,O⟩:=h2 (j _ t.1);rw[j _ t.2.1]at O;exact H a w M ⟨h1,n.below,k1,by simpa using O⟩
 induction f with
 |zero=>
  intro listed aQ a w q n h;have h1:=h W br;have h0:Region.ready .any l.toArray listed=[]:=by rw[<-QP (x:=x) (y:=y)];exact h1.1
  exact⟨h0,fin listed aQ a w q n h0 h1.2⟩
 |succ f ih=>
  intro listed aQ a w q n h
  refine⟨λh0=>fin listed aQ a w q n h0 ((h W br).1 (by rw[QP];exact h0)),λi hi=>?_⟩
  have s:i∈Region.ready .any (nopL x y l).toArray listed:=by rw[QP];exact hi
  obtain⟨L,o,r,X⟩:=mem_ready.1 hi
  have m:=VJ L
  have b2:i<l.toArray.size:=(jE r)
  have F:(listed.setIfInBounds i true).size=l.toArray.size:=by simpa using q
  cases hown:ownB x y i with
  |true=>
   have S:∀B,jW W B->wpAnyQ P .any (nopL x y l).toArray (zD B) (λa=>a=aF) f (listed.setIfInBounds i true) aQ:=λB U=>
    zZ hown ⟨o,r⟩ ((h B U).2 i s)
   have src:∀z:TB,ZE P l Q aF z->ownB x y z.so=false->listed.getD z.so false=true->aQ.eval (.tmp z.src)=aF.eval (.tmp z.src):=λz q r hl=>by
    obtain⟨oz,k1,O⟩:=q.src
    have h1:(nopL x y l).toArray[z.so]?=some oz:=by rw[pK,k1];simp[r]
    have:=TM h1 O (iQ I k1 _ O) _ listed aQ hl (h W br)
    show aQ.tmps.getD z.src undef=aF.tmps.getD z.src undef
    rw[Array.getD_eq_getD_getElem?,Array.getD_eq_getD_getElem?,this]
   have hc:i=x.al\/i=x.st:=by
    simp only[ownB,Bool.or_eq_true,beq_iff_eq]at hown
    omega
   rcases hc with e|e<;>subst e
   .exact wpOp_mono (λR w' D=>ih _ _ _ _ F D S) (z7g hp T n L)
   .exact wpOp_mono (λR w' D=>ih _ _ _ _ F D S) (z6q hp T n hi (src x T b0 (T.waits _ hi).2))
  |false=>
   obtain⟨qg,qx,qy,lx,ly⟩:=(GP I r).quiet hown
   have h0:(nopL x y l).toArray[i]?=some o:=by rw[pK,r];simp[hown]
   obtain⟨v,b1,V⟩:=yieldsIn_of_qOp h0 ((h w n.below).2 i s)
   have hv:=aN h0 (iQ I r) m V
   have S:∀B,jW W B->wpAnyQ P .any (nopL x y l).toArray (zD B) (λa=>a=aF) f (listed.setIfInBounds i true) (aQ.put o.dst v):=λB U=>by
    obtain⟨u,_,G⟩:=yieldsIn_of_qOp h0 ((h B U).2 i s)
    have hu:=aN h0 (iQ I r) m G
    rw[hv,<- hu];exact G
   have p:∀k,Region.wanted o k=true:=λk=>by unfold Region.wanted;rw[qg]
   have hq:∀w',zD w w'->o.quietAt P aQ (zD w) w' v:=by
    rcases b1 with⟨_,h2⟩|⟨h2,_⟩
    .exact h2
    .rw[p]at h2;cases h2
   obtain⟨M,N,h1,_⟩:=n.there
   have Y:execOp a.eval o=execOp aQ.eval o:=execOp_congr o (λcs b=>Region.noSelect_spec J i o cs b r) λz q=>by
    rw[h1,XH (IP lx z q),XH (IP ly z q)]
   unfold wpOp
   rw[r]
   simp only[p,if_true]
   refine .inl (Oper.wp_of_quiet (C:=zD w) (K:=λR=>R=a.put o.dst v) br (λR w' E e=>ih _ _ _ _ F (z1u m n hown qx qy E e) S) ⟨v,λw' E=>?_,rfl⟩)
   have:=hq w' E
   unfold Oper.quietAt at*
   rw[Y];exact this
theorem zkt{E:Nat}{a:Act}{l':List Oper}(t:P.follows .mixedOrders=true)(s:nopF x y 0 l=l')(o:Region.lexB .any l'.toArray=true)(b:FJ l.toArray x y=true)(n:Region.noSelect l.toArray=true)(z:FH x y)(p:x.al<l.toArray.size/\x.st<l.toArray.size/\l.toArray.size<=y.al/\l.toArray.size<=y.st) (q:ownB x y x.so=false) (j:x.d<a.tmps.size/\y.d<a.tmps.size)(f:∃aF,(∀B,jW W B->wpQuiet P l'.toArray (λw'=>∃e:Ext B,w'=e.w) (λr=>r=aF) l' a)/\ZE P l Q aF x/\
   ∀a w M,zT W x aF a w M->Q .normal a w):(Code.region E l.toArray true).wp P Q a W:=by
 subst s;obtain⟨aF,h,D,i⟩:=f;rw[<-CZ]at o h;simp only[Region.lexB,jC]at o;have m:(nopL x y l).length=l.toArray.size:=by simp[nopL]
 refine wp_region_any t (yga (W:=W.drew) b n z D p q (λa w M b=>i a w M ⟨b.state,⟨b.below.os,b.below.tape,b.below.output,b.below.size,b.below.block⟩,b.new,b.one⟩) l.toArray.size _ a a _ (by simp) ⟨Below.refl _ _,j,⟨λe=>?_,λe=>?_⟩,⟨0,0,?_,λe=>?_,λe=>?_,λe=>?_⟩⟩ λB hb=>?_)
 .rw[getD_replicate_false]at e;cases e
 .rw[getD_replicate_false]at e;cases e
 .rw[getD_replicate_false,getD_replicate_false];rfl
 .rw[getD_replicate_false]at e;cases e
 .rw[getD_replicate_false]at e;cases e
 .rw[getD_replicate_false]at e;cases e
 have h3:=h B ⟨hb.os,hb.tape,hb.output,hb.size,hb.block⟩;rw[<-RW]at h3
 have:=wpAnyQ_lex (C:=zD B) (md:=.any) o.1 (nopL x y l) 0 (Array.replicate l.toArray.size false) a (by simp) (by
  have h2:=o.2
  simpa[nopL] using h2) h3
 rw[m]at this;exact this
end

section

def YA (s:Sh) (t:Fe) (pv:Value):Array Value:=#[s.p,s.c,s.m,t.c,t.a,t.page,t.slot,.int .u64 t.word,t.pk,t.pa,t.pb,t.next,t.i,pv,t.gave,t.done]
attribute [local go_sem] YA

structure FeAt (w:World) (q q2:Nat) (s:Sh) (t:Fe):Prop where
 row:aA w q (YA s t (ptrV t.put q2)) 246
 inn:∀x,t.put=some x->aA w q2 (zE s x) 318/\q≠q2
theorem CP(q:Nat)(cs:Array Value)(v:Bool)(w:World)(h:aA w q cs 246)(b:cs[15]?=some (.bool v)):Calls Tryz.prog 162 #[some q] w λe w'=>e=.returned (.bool v)/\w'=w:=by
 have c:=(h.cell 15).trans b;clear h b;go_in;go_wp2_with fail;go_returns;exact⟨rfl,rfl⟩
theorem UL(q:Nat)(cs:Array Value)(v:Bool)(w:World)(h:aA w q cs 246)(b:cs[14]?=some (.bool v)):Calls Tryz.prog 163 #[some q] w λe w'=>e=.returned (.bool v)/\w'=w:=by
 have c:=(h.cell 14).trans b;clear h b;go_in;go_wp2_with fail;go_returns;exact⟨rfl,rfl⟩
theorem zoc(w:World):Calls Tryz.prog 163 #[.pointer none] w λe w'=>e=.returned (.bool false)/\w'=w:=by
 go_in;go_wp2_with fail;go_returns;exact⟨rfl,rfl⟩
theorem zN(s:Sh)(a:Int)(w:World):Calls Tryz.prog 126 #[.agg #[s.p,s.c,s.m],a] w λe w'=>e=.returned (.tuple #[.int .i64 (if spB s a=true then a/64 else 0),.int .i64 (if spB s a=true then a%64 else 0),.bool (spB s a)])/\Below w.heap.size w w':=by
 refine(z0r s.p s.c s.m a w).mono ?_;rintro e w' ⟨rfl,hb⟩;refine⟨?_,hb⟩;have h:splitB s.p s.c s.m a=spB s a:=rfl;rw[h];cases spB s a<;>rfl
theorem aW(s:Sh)(c a:Int)(w:World):
  Calls Tryz.prog 129 #[.agg #[s.p,s.c,s.m],c,a] w λe w'=>Born w w' e (YA s (uB s c a) (.pointer none)) 246:=by
 have q:=λW=>pC s.p s.c s.m c W;have i:=λW=>zN s a W;have D:YA s (uB s c a) (.pointer none)=#[.int .i64 s.p,.int .i64 s.c,.int .i64 s.m,.int .i64 c,.int .i64 a,.int .i64 (if spB s a=true then a/64 else 0),.int .i64 0,.int .u64 0,.int .i64 0,.int .i64 0,.int .i64 0,.int .i64 0,.int .i64 0,.pointer none,.bool false,.bool (!spB s a||decide (uA s.p s.c s.m c<0))]:=rfl;rw[D];clear D;generalize uA s.p s.c s.m c=E at*;generalize (if spB s a=true then a/64 else 0)=d at*;generalize (if spB s a=true then a%64 else 0)=f at*;generalize spB s a=g at*;obtain⟨sp,z,B⟩:=s;dsimp only at q i|-;replace q:=hd' q;replace i:=hd' i;have j:=(Below.refl w.heap.size w).alloc lr (.cells #[sp,z,B] 23);have t0:=jA w (.cells #[sp,z,B] 23);go_in;go_upto_region 1 with fail;generalize w.alloc (.cells #[sp,z,B] 23)=W at*;obtain⟨H,I,o⟩:=hidv w.heap.size;rw[<-o]at t0|-;have J:H<W.heap.size:=(jE t0);have c0:W.cell? ⟨H,0,.none⟩=some (.int .i64 sp):=iA t0 0;have c1:W.cell? ⟨H,1,.none⟩=some (.int .i64 z):=iA t0 1;have c2:W.cell? ⟨H,2,.none⟩=some (.int .i64 B):=iA t0 2;clear o t0;go_upto_region 2 with(first|(go_at_call 126;refine(i _).mono ?_;rintro r L ⟨rfl,b⟩;have F:=kA b _ _ _ c0;have d1:=kA b _ _ _ c1;have d2:=kA b _ _ _ c2;have G:=GG F));clear c0 c1 c2;rcases(by cases g<;>simp<;>omega:g=false\/(g=true/\E<0)\/(g=true/\¬E<0)) with rfl|⟨rfl,h1⟩|⟨rfl,h1⟩;all_goals
  try have q1:=jF h1
  refine wret 13 ?_;repeat (go_big_quiet_step (((go_at_call 44;exact AA (q _)))))
  refine wqn λX C=>?_;have n:=C;go_wp2_with fail;go_returns
 .exact WB j (qA b n) rfl
 .exact WB j (qA b n) (by simp[h1])
 exact WB j (qA b n) (by simp[h1])
theorem NV(q q2:Nat)(s:Sh)(t:Fe)(x:Pu)(w:World)(h:FeAt w q q2 s t)(n:t.put=some x):
  Calls Tryz.prog 233 #[some q] w λe w'=>Turned q w w' e (YA s t.kept (.pointer (some ⟨q2,0,.none⟩))) 246:=by
 obtain⟨m,G⟩:=h.inn x n;have j:=z4h q2 (zE s x) x.put w m rfl;have i:=zxw q2 (zE s x) x.done w m rfl;have h0:At1 q w w (YA s t (.pointer (some ⟨q2,0,.none⟩))) 246:=At1.start (by have:=h.row;rw[n]at this;exact this);have o:=oH t x n;obtain⟨D,b⟩:∃D,D=t.kept:=⟨_,rfl⟩;rw[<-b]at o|-;clear b h n m;generalize zE s x=H at*;generalize x.put=g at*;generalize x.done=d at*;obtain⟨sp,I,J⟩:=s;obtain⟨M,L,N,R,T,pk,pa,pb,S,O,E,C,B⟩:=t;dsimp only at o;replace j:=hd' j;replace i:=hd' i;have F:=h0.cell;have X:=h0.free;rcases o with⟨rfl,b⟩|⟨rfl,rfl,b⟩|⟨rfl,rfl,b⟩;all_goals replace b:=hd' b;go_in;go_wp2_with (first|(go_at_call 238;(with_reducible refine j.out.mono ?_);rintro r U ⟨rfl,p⟩;obtain rfl:=p.symm)|(go_at_call 239;(with_reducible refine i.out.mono ?_);rintro r V ⟨rfl,z⟩;obtain rfl:=z.symm));go_returns
 .exact(h0.set 15 _).fin (by rw[b];rfl)
 .exact(h0.set 11 _).fin (by rw[b];rfl)
 exact h0.fin (by rw[b])
theorem zvp(q p b:Nat)(s:Sh)(t:Fe)(pv:Value)(m:Mem)(w:World)(h0:At3 q p b w w (YA s t pv) 246 m)(O:Fits s m)(hs:m.st<1000000000)(H:0<=t.page/\t.page<s.p)(R:1<=t.pa/\t.pa<=8/\t.pa<=s.p-t.page)(hi:0<=t.i/\t.i<t.pa):
  Calls Tryz.prog 237 #[some q,some p] w λe w'=>e=.returned (.tuple #[])/\At3 q p b w w' (YA s (if t.i=t.pa-1 then {t with done:=true} else {t with i:=t.i+1}) pv) 246 (if t.i=t.pa-1 then m.store t.c (pA s.p s.c s.m t.page) 0 else m.store t.c (pA s.p s.c s.m (t.page+t.i+1)) 0):=by
 have N:=O.bd;have w1:=wrp (t.pa-1);have T:=wrp (t.i+1);have w3:=wrp (t.page+t.i);have w4:=wrp (t.page+t.i+1);by_cases o:t.i=t.pa-1
 .rw[jP o,jP o];have F:(t.i==t.pa-1)=true:=by simpa using o
  obtain⟨C,B⟩:=O.page H;have j:=λY=>JB s.p s.c s.m t.page Y;rw[C]at j|-;have n:=λY (hY:oA Y p b m)=>tC p b m t.c (s.c+t.page) 0 Y hY B (by decide) hs;generalize s.c+t.page=pg at*;clear C B H R hi N O T w3 w4 o;obtain⟨sp,sc,sm⟩:=s;obtain⟨tc,ta,tg,tl,tw,pk,pa,pb,tn,ti,S,L,J⟩:=t;dsimp only at j n w1 F|-;replace j:=hd' j;replace n:=hd' n;have lq:=h0.lt;have U:=h0.cell;go_in;go_upto_region 0 with fail;refine wre ?_;repeat (go_big_quiet_step (fail))
  refine wqn λX z=>?_;have D:=h0.below z;clear U lq;have V:=D.cell;go_upto_region 1 with fail;have lX:=D.lt;refine wret 14 ?_;repeat (go_big_quiet_step (((go_at_call 112;exact AA (j _)))))
  refine wqn λZ z=>?_;have M:=D.below z;clear V D lX;go_wp2_with (go_at_call 218;(with_reducible refine(n _ M.wds).mono ?_);rintro r T ⟨rfl,I,G⟩;have E:=M.access I G;have b2:=E.cell;have zf:=E.free);go_returns;exact⟨rfl,E.set 15 _⟩
 rw[jN o,jN o];have F:(t.i==t.pa-1)=false:=by simpa using o
 obtain⟨C,B⟩:=O.page (x:=t.page+t.i+1) (by omega);have j:=λY=>JB s.p s.c s.m (t.page+t.i+1) Y;rw[C]at j|-;have n:=λY (hY:oA Y p b m)=>tC p b m t.c (s.c+(t.page+t.i+1)) 0 Y hY B (by decide) hs;generalize s.c+(t.page+t.i+1)=pg at*;clear C B H R hi N O o;obtain⟨sp,sc,sm⟩:=s;obtain⟨tc,ta,tg,tl,tw,pk,pa,pb,tn,ti,S,L,J⟩:=t;dsimp only at j n w1 T w3 w4 F|-;replace j:=hd' j;replace n:=hd' n;have lq:=h0.lt;have b0:=h0.cell;go_in;go_upto_region 0 with fail;refine wre ?_;repeat (go_big_quiet_step (fail))
 refine wqn λX z=>?_;have D:=h0.below z;clear b0 lq;have b1:=D.cell;go_upto_region 3 with fail;have lX:=D.lt;refine wret 20 ?_;repeat (go_big_quiet_step (((go_at_call 112;exact AA (j _)))))
 refine wqn λZ z=>?_;have M:=D.below z;clear b1 D lX;go_wp2_with (go_at_call 218;(with_reducible refine(n _ M.wds).mono ?_);rintro r T ⟨rfl,I,G⟩;have E:=M.access I G;have b3:=E.cell;have zf:=E.free);go_returns;exact⟨rfl,E.set 12 _⟩
theorem zy7(q p b:Nat)(s:Sh)(t:Fe)(pv:Value)(m:Mem)(w:World)(h0:At3 q p b w w (YA s t pv) 246 m)(hf:Fits s m)(hs:m.st<1000000000)(b7:0<=t.page/\t.page<s.p)(bb:spB s t.a=true):
  Calls Tryz.prog 234 #[some q,some p] w λe w'=>e=.returned (.tuple #[])/\At3 q p b w w' (YA s (t.look s m).1 pv) 246 (t.look s m).2:=by
 have bk:=hf.bd;have j:=λY=>zN s t.a Y;rw[bb,jP rfl,jP rfl]at j;have b0:0<=t.a%64/\t.a%64<64:=by omega
 obtain⟨b4,b8⟩:=hf.page b7;have D:=λY=>JB s.p s.c s.m t.page Y;rw[b4]at D;have O:=λY (hY:oA Y p b m)=>uF p b m t.c (s.c+t.page) Y hY b8 hs;have S:=λY=>ZJ s t.page (m.get (s.c+t.page)) Y (Mem.yF h0.wds.fit _);have N:=λk Y=>vH k Y
 have hr:t.look s m=(if LA s.p s.c s.m t.page (m.get (s.c+t.page))=true/\pgK s t.page (m.get (s.c+t.page))=3/\t.a%64=0 then {t with word:=m.get (s.c+t.page),pk:=pgK s t.page (m.get (s.c+t.page)),pa:=pgP s t.page (m.get (s.c+t.page)) 0,pb:=pgP s t.page (m.get (s.c+t.page)) 1,next:=1}
   else if LA s.p s.c s.m t.page (m.get (s.c+t.page))=true/\pgK s t.page (m.get (s.c+t.page))=2/\t.a%64%zA (pgP s t.page (m.get (s.c+t.page)) 0)=0 then {t with word:=m.get (s.c+t.page),pk:=pgK s t.page (m.get (s.c+t.page)),pa:=pgP s t.page (m.get (s.c+t.page)) 0,pb:=pgP s t.page (m.get (s.c+t.page)) 1,next:=1,slot:=t.a%64/zA (pgP s t.page (m.get (s.c+t.page)) 0)}
   else {t with word:=m.get (s.c+t.page),pk:=pgK s t.page (m.get (s.c+t.page)),pa:=pgP s t.page (m.get (s.c+t.page)) 0,pb:=pgP s t.page (m.get (s.c+t.page)) 1,next:=1,done:=true},m.load t.c (s.c+t.page)):=by
  unfold Fe.look pgK pgP
  dsimp only
  rw[b4]
  by_cases hB:LA s.p s.c s.m t.page (m.get (s.c+t.page))=true<;>simp[hB]
 have o:LA s.p s.c s.m t.page (m.get (s.c+t.page))=true/\pgK s t.page (m.get (s.c+t.page))=2->0<zA (pgP s t.page (m.get (s.c+t.page)) 0):=λh=>by have h2:=h.2;unfold pgK at h2;rw[jP h.1]at h2;unfold pgP;rw[jP h.1];exact(UX b0 (QJ h.1 h2).2.2).1
 rw[hr];clear hr bb b4 b8 b7 bk hf;generalize s.c+t.page=b5 at*;generalize m.get b5=x at*;generalize LA s.p s.c s.m t.page x=B at*;generalize pgK s t.page x=F at*;generalize pgP s t.page x 0=T at*;generalize pgP s t.page x 1=e2 at*;replace N:=λY=>N T Y;have bc:=GH T;generalize zA T=z at*;generalize t.a%64=i at*;generalize t.a/64=qu at*;dsimp only;obtain⟨t2,G,b1⟩:∃t2:Fe,Hid (t2=if B=true/\F=3/\i=0 then {t with word:=x,pk:=F,pa:=T,pb:=e2,next:=1} else if B=true/\F=2/\i%z=0 then {t with word:=x,pk:=F,pa:=T,pb:=e2,next:=1,slot:=i/z} else {t with word:=x,pk:=F,pa:=T,pb:=e2,next:=1,done:=true})/\t2=_:=⟨_,hd' rfl,rfl⟩;rw[<-b1];clear b1;obtain⟨sp,sc,sm⟩:=s;obtain⟨tc,ta,tg,tl,tw,pk,pa,pb,tn,ti,J,C,H⟩:=t;dsimp only at j D O S G|-;replace j:=hd' j;replace D:=hd' D;replace O:=hd' O;replace S:=hd' S;replace N:=hd' N;replace o:=hd' o;have lq:=h0.lt;have bf:=h0.cell;go_in;go_upto_region 0 with fail;refine wre ?_;repeat (go_big_quiet_step (((go_at_call 126;exact AA (j _)))))
 refine wqn λX bj=>?_;have hX:=h0.below bj;clear bf lq;go_upto_region 1 with fail;go_cut [5] (λs5 wx=>s5=.int .i64 i/\At3 q p b w wx (YA ⟨sp,sc,sm⟩ ⟨tc,ta,tg,tl,x,pk,pa,pb,tn,ti,J,C,H⟩ pv) 246 (m.load tc b5));case first=>
  refine IL 18 (last:={dst:=none,op:=Op.store 118 (Operand.tmp 39) (Operand.tmp 37),type:=0,pos:=_,after:=_,guard:=none}) (x:=MA 60) (ld:=15) (v:=.int .u64 x) (ts:=[23,27,36])
   (K0:=λY=>At3 q p b w Y (YA ⟨sp,sc,sm⟩ ⟨tc,ta,tg,tl,tw,pk,pa,pb,tn,ti,J,C,H⟩ pv) 246 m) (K1:=λY=>At3 q p b w Y (YA ⟨sp,sc,sm⟩ ⟨tc,ta,tg,tl,tw,pk,pa,pb,tn,ti,J,C,H⟩ pv) 246 (m.load tc b5))
   (by kernel_rfl) rfl (by kernel_rfl) (by simp only[List.take,MA,LD,TC,nopO,nopC,Nat.reduceBEq,Bool.or_false,Bool.or_true,Bool.false_eq_true,↓reduceIte,Nat.reduceAdd];exact rfl) (by kernel_rfl) (by kernel_rfl) (by kernel_rfl) (by simp[MA]) (by simp[MA]) (by simp[MA]) (by simp[MA]) (by kernel_rfl) (by simp[MA]) (by simp[MA])
   ⟨⟨λY Y' h1 h2 h3=>h1.far h2 h3 hX.only.size⟩,⟨λY Y' h1 h2 h3=>h1.far h2 h3 hX.only.size⟩⟩ hX.drew ?_
  apply Exists.intro;refine⟨λB hb hs=>?_,λh=>(by simp[MA]at h),λQ0=>?_,?_⟩;case refine_1=>
   have R:aA B q (YA ⟨sp,sc,sm⟩ ⟨tc,ta,tg,tl,tw,pk,pa,pb,tn,ti,J,C,H⟩ pv) 246:=hb.elim (λh=>h.row) (λh=>h.row);have lB:=R.lt;have bs:=R.cell;repeat (go_big_quiet_step (((go_at_call 112;exact AA (D _)))))
   exact wpQuiet_nil rfl
  case refine_2=>exact vF rfl (λ_ _=>by simp[go_sem]) λY b2 hs=>(O Y b2.wds).mono λr Y' ⟨h1,h2,h3⟩=>⟨h1,b2.load h2 h3,h3.weak λk hk=>hk▸Nat.lt_of_lt_of_le b2.ls.2.1 hX.only.size⟩
  case refine_3=>intro a w4 M hf;obtain⟨rfl,bn,b3,_⟩:=hf;have bu:=b3.cell;have zf:=b3.free;have hB:=b3.set 7 (.int .u64 x);simp only[MA,vput,List.take,List.size_toArray,List.length_cons,List.length_nil,Nat.reduceAdd,Nat.reduceLT,decide_false,Bool.false_eq_true,if_false];go_wp2;go_meet;exact⟨rfl,hB⟩
 case rest=>
  obtain⟨rfl,hA⟩:=hcut;clear hX O D j;obtain⟨Y,rfl⟩:∃V:World,V=wc:=⟨_,rfl⟩;have lY:=hA.lt;have bg:=hA.cell;go_upto_region 2 with fail;go_cut [7,8] (λs7 s8 wx=>∃E,s7=.pointer (some ⟨E,0,.none⟩)/\s8=.bool B/\Y.heap.size<=E/\aA wx E #[F,T,e2] 136/\Below Y.heap.size Y wx);case first=>
   refine zkt (x:=⟨16,17,14,7,54,136,#[.int .i64 0,.int .i64 0,.int .i64 0],#[F,T,e2]⟩) (y:=⟨1000,1001,0,98,97,0,#[],#[]⟩) (by kernel_rfl) (by simp only[nopF,nopO,ownB,Nat.reduceBEq,Bool.or_false,Bool.or_true,Bool.false_eq_true,↓reduceIte,Nat.reduceAdd];exact rfl) (by kernel_rfl) (by kernel_rfl) (by kernel_rfl) (by constructor<;>(dsimp only;decide)) (by refine⟨?_,?_,?_,?_⟩<;>(dsimp only;decide)) rfl (by constructor<;>simp) ?_;apply Exists.intro;refine⟨λB hb=>?_,?_,?_⟩;case refine_1=>
    have R:=hA.row.below hb;have lB:=R.lt;have bv:=R.cell;repeat (go_big_quiet_step (((go_at_call 111;exact AA (S _)))))
    exact wpQuiet_nil rfl
   case refine_2=>exact YM rfl rfl rfl rfl rfl rfl rfl rfl (by dsimp only;decide +kernel) (by dsimp only;decide +kernel)
   case refine_3=>intro a w4 M hf;obtain⟨rfl,hb,bi,hM⟩:=hf;simp only[Act.put,vptr];go_wp2;go_meet;exact⟨_,rfl,rfl,bi,hM,hb⟩
  case rest=>
   obtain⟨E,rfl,rfl,hE,bh,b6⟩:=hcut;have hC:=hA.below b6;clear hA bg S;have bz:E≠q:=λe=>by rw[e]at hE;omega
   obtain⟨Z,rfl⟩:∃V:World,V=wc:=⟨_,rfl⟩;clear b6;have bw:=bh.cell;have bx:=hC.cell;have zf:=hC.free;have hD:=(((hC.set 8 (.int .i64 F)).set 9 (.int .i64 T)).set 10 (.int .i64 e2)).set 11 (.int .i64 1);obtain⟨o1,o2⟩:=b0;obtain⟨z1,z2⟩:=bc;have n:∀(h1:¬(B=true/\F=3/\i=0)) (h2:¬(B=true/\F=2/\i%z=0)),t2=⟨tc,ta,tg,tl,x,F,T,e2,1,ti,J,C,true⟩:=λh1 h2=>(G.out.trans (jN h1)).trans (jN h2);replace n:=hd' n;by_cases L:B=true/\F=3/\i=0
   .replace G:=hd' (G.out.trans (jP L));obtain⟨rfl,rfl,rfl⟩:=L;clear n o;go_wp2_with fail;go_returns;exact⟨rfl,by rw[G];exact hD⟩
   by_cases I:B=true/\F=2/\i%z=0
   .replace G:=hd' ((G.out.trans (jN L)).trans (jP I));have hz:0<z:=o ⟨I.1,I.2.1⟩;have ba:i.tmod z=0:=by rw[Int.tmod_eq_emod_of_nonneg o1];exact I.2.2
    have bq:i.tdiv z=i/z:=Int.tdiv_eq_ediv_of_nonneg o1;have bm:(z==0)=false:=by simp;omega
    have c4:IntKind.i64.wrap (i/z)=i/z:=by have h1:0<=i/z:=Int.ediv_nonneg o1 (by omega);have h2:i/z<=i:=Int.ediv_le_self _ o1;exact IntWalk.i64_in _ ⟨by omega,by omega⟩
    obtain⟨rfl,rfl,b9⟩:=I;clear n o L;replace b9:=hd' b9;go_wp2_with (go_at_call 78;(with_reducible refine(N _).mono ?_);rintro r w1 ⟨rfl,rfl⟩);go_returns;exact⟨rfl,by rw[G];exact hD.set 6 _⟩
   have U:B=false\/(B=true/\F=3/\(i==0)=false)\/(B=true/\F=2/\(i%z==0)=false/\0<z)\/(B=true/\(F==3)=false/\(F==2)=false):=by
    rcases jB B with h|h
    .by_cases h1:F=3
     .exact .inr (.inl ⟨h,h1,by simpa[h,h1] using L⟩)
     by_cases h2:F=2
     .exact .inr (.inr (.inl ⟨h,h2,by simpa[h,h2] using I,o ⟨h,h2⟩⟩))
     exact .inr (.inr (.inr ⟨h,by simpa using h1,by simpa using h2⟩))
    exact .inl h
   replace n:=hd' (n L I);clear L I o G;rcases U with rfl|⟨rfl,rfl,U⟩|⟨rfl,rfl,U,hz⟩|⟨rfl,U,bp⟩
   .go_wp2_with fail;go_returns;exact⟨rfl,by rw[n];exact hD.set 15 _⟩
   .go_wp2_with fail;go_returns;exact⟨rfl,by rw[n];exact hD.set 15 _⟩
   .have ba:i.tmod z=i%z:=Int.tmod_eq_emod_of_nonneg o1;have bm:(z==0)=false:=by simp;omega
    go_wp2_with (go_at_call 78;(with_reducible refine(N _).mono ?_);rintro r w1 ⟨rfl,rfl⟩);go_returns;exact⟨rfl,by rw[n];exact hD.set 15 _⟩
   go_wp2_with fail;go_returns;exact⟨rfl,by rw[n];exact hD.set 15 _⟩
structure wE (q q2 p b:Nat) (has:Bool) (w w':World) (e:Ending) (s:Sh) (t:Fe) (m:Mem):Prop where
 ret:e=.returned (.tuple #[])
 at':∃q3,FeAt w' q q3 s t/\(q3=q2/\(has=false->t.put=none)\/w.heap.size<=q3)
 wds:oA w' p b m
 only:Only (λk=>k=q\/(has=true/\k=q2)\/k=p\/k=b) w w'
theorem wE.ZI{q q2 p b:Nat}{w w':World}{s:Sh}{t t':Fe}{m:Mem}(h:FeAt w q q2 s t)(o:t.put≠none->q2≠p/\q2≠b)(i:At3 q p b w w' (YA s t' (ptrV t'.put q2)) 246 m)(n:t'.put=t.put):wE q q2 p b t.put.isSome w w' (.returned (.tuple #[])) s t' m:=by
 refine⟨rfl,⟨q2,⟨i.row,λx j=>?_⟩,.inl ⟨rfl,λe=>?_⟩⟩,i.wds,i.only.weak λk f=>?_⟩
 .rw[n]at j;obtain⟨h1,h2⟩:=h.inn x j;have h3:=o (by rw[j];exact λe=>by cases e);exact⟨h1.only i.only (by rintro(e|e|e);exact h2 e.symm;exact h3.1 e;exact h3.2 e),h2⟩
 .rw[n];exact isSome_none e
 rcases f with f|f|f
 .exact .inl f
 .exact .inr (.inr (.inl f))
 exact .inr (.inr (.inr f))
theorem zpj(q p b:Nat)(s:Sh)(t:Fe)(G:Value)(m:Mem)(w:World)(h0:At3 q p b w w (YA s t G) 246 m)(T:Fits s m)(hs:m.st<1000000000)(O:0<=t.page/\t.page<s.p)(N:t.pk=3)(U:0<=t.word/\t.word<18446744073709551616):
  Calls Tryz.prog 235 #[some q,some p] w λe w'=>e=.returned (.tuple #[])/\At3 q p b w w' (YA s (t.claim s m).1 G) 246 (t.claim s m).2/\(t.claim s m).1.put=t.put:=by
 obtain⟨E,R⟩:=T.page O;have i:=λY=>JB s.p s.c s.m t.page Y;rw[E]at i;have n:=λY=>WF 1 t.c 0 Y;have L:Hid (WC t.c=QA 1 t.c 0):=hd' rfl;rw[<-L]at n;have C:=λY (hY:oA Y p b m)=>WH p b m t.c (s.c+t.page) t.word (WC t.c) Y hY R (sF _ _ _) hs;have hr:t.claim s m=({t with gave:=decide (m.get (s.c+t.page)=t.word),next:=4,done:= !decide (m.get (s.c+t.page)=t.word)},m.swap t.c (s.c+t.page) t.word (WC t.c)):=by unfold Fe.claim;rw[jP N,E]
 rw[hr];clear hr E R O T L U;generalize s.c+t.page=F at*;generalize WC t.c=U at*;generalize decide (m.get F=t.word)=g at*;dsimp only;obtain⟨sp,V,X⟩:=s;obtain⟨H,Z,tg,tl,I,pk,pa,pb,tn,ti,z,o,j⟩:=t;dsimp only at i C N|-;subst N;replace i:=hd' i;replace n:=hd' n;replace C:=hd' C;have lq:=h0.lt;have b0:=h0.cell;go_in;go_upto_region 1 with fail;go_cut [1] (λs1 wx=>s1=.pointer (some ⟨p,0,.none⟩)/\At3 q p b w wx (YA ⟨sp,V,X⟩ ⟨H,Z,tg,tl,I,3,pa,pb,tn,ti,z,g,j⟩ G) 246 (m.swap H F I U));case first=>
  refine IL 28 (last:={dst:=none,op:=Op.store 4 (Operand.tmp 38) (Operand.tmp 36),type:=0,pos:=_,after:=_,guard:=none}) (x:=MA 60) (ld:=25) (v:=.bool g) (ts:=[12,16,25,29,35])
   (K0:=λY=>At3 q p b w Y (YA ⟨sp,V,X⟩ ⟨H,Z,tg,tl,I,3,pa,pb,tn,ti,z,o,j⟩ G) 246 m) (K1:=λY=>At3 q p b w Y (YA ⟨sp,V,X⟩ ⟨H,Z,tg,tl,I,3,pa,pb,tn,ti,z,o,j⟩ G) 246 (m.swap H F I U))
   (by kernel_rfl) rfl (by kernel_rfl) (by simp only[List.take,MA,LD,TC,nopO,nopC,Nat.reduceBEq,Bool.or_false,Bool.or_true,Bool.false_eq_true,↓reduceIte,Nat.reduceAdd];exact rfl) (by kernel_rfl) (by kernel_rfl) (by kernel_rfl) (by simp[MA]) (by simp[MA]) (by simp[MA]) (by simp[MA]) (by kernel_rfl) (by simp[MA]) (by simp[MA])
   ⟨⟨λY Y' h1 h2 h3=>h1.far h2 h3 h0.only.size⟩,⟨λY Y' h1 h2 h3=>h1.far h2 h3 h0.only.size⟩⟩ h0.drew ?_
  apply Exists.intro;refine⟨λB hb hs=>?_,λh=>(by simp[MA]at h),λQ0=>?_,?_⟩;case refine_1=>
   have S:aA B q (YA ⟨sp,V,X⟩ ⟨H,Z,tg,tl,I,3,pa,pb,tn,ti,z,o,j⟩ G) 246:=hb.elim (λh=>h.row) (λh=>h.row);have lB:=S.lt;have b2:=S.cell;repeat (go_big_quiet_step ((first|(go_at_call 112;exact AA (i _))|(go_at_call 139;exact AA (n _)))))
   exact wpQuiet_nil rfl
  case refine_2=>exact vF rfl (λ_ _=>by simp[go_sem]) λY J hs=>(C Y J.wds).mono λr Y' ⟨h1,h2,h3⟩=>⟨h1,J.access h2 h3,h3.weak λk N=>by rcases N with rfl|rfl;exact h0.ls.2.1;exact h0.ls.2.2⟩
  case refine_3=>intro a w4 M T;obtain⟨rfl,b1,D,_⟩:=T;have b3:=D.cell;have zf:=D.free;have hB:=D.set 14 (.bool g);simp only[MA,vput,List.take,List.size_toArray,List.length_cons,List.length_nil,Nat.reduceAdd,Nat.reduceLT,decide_false,Bool.false_eq_true,if_false];go_wp2;go_meet;exact⟨rfl,hB⟩
 case rest=>obtain⟨rfl,hA⟩:=hcut;clear h0 C i n b0 lq;have b4:=hA.cell;have zf:=hA.free;go_wp2_with fail;go_returns;exact⟨rfl,(hA.set 11 _).set 15 _,by first|rfl|trivial⟩
theorem zsz(q q2 p b:Nat)(s:Sh)(t:Fe)(m:Mem)(w:World)(h:FeAt w q q2 s t)(hw:oA w p b m)(bx:q≠p)(bw:q≠b)(bb:t.put≠none->q2≠p/\q2≠b)(hf:Fits s m)(hs:m.st<1000000000)(bc:0<=t.page/\t.page<s.p)(N:t.pk=2)(bj:0<mA t.pa/\(0<=t.slot/\t.slot<mA t.pa)):
  Calls Tryz.prog 235 #[some q,some p] w λe w'=>wE q q2 p b t.put.isSome w w' e s (t.claim s m).1 (t.claim s m).2:=by
 have h0:At3 q p b w w (YA s t (ptrV t.put q2)) 246 m:=At3.start h.row hw bx bw;have bz:=pH bj.1;obtain⟨b5,bi⟩:=hf.slot bc (i:=t.slot) (by omega);have E:=λY=>uE s.p s.c s.m t.page t.slot Y;rw[b5]at E;have J:=λY=>tE 3 t.pa Y;have L:=λY=>tE 2 t.c Y;have bk:Hid (CE t.pa=VA 3 t.pa):=hd' rfl;have bm:Hid (wayW t.c=VA 2 t.c):=hd' rfl;rw[<-bk]at J;rw[<-bm]at L;have X:=λY (hY:oA Y p b m)=>WH p b m t.c (s.c+s.p+t.page*16+t.slot) (CE t.pa) (wayW t.c) Y hY bi (IE _ _) hs;have O:=λY=>z00 s t.c t.page t.slot t.pa Y;obtain⟨r,hr⟩:∃r,r=t.claim s m:=⟨_,rfl⟩;rw[<-hr];unfold Fe.claim at hr;rw[jN (by omega),b5]at hr;dsimp only at hr;generalize s.c+s.p+t.page*16+t.slot=sa at*;generalize CE t.pa=I at*;generalize wayW t.c=ww at*;generalize decide (m.get sa=I)=g at*;generalize bs:nD s t.c t.page t.slot t.pa=F at*;have n:Hid (∀Y,¬t.pb=t.c->At3 q p b w Y (YA s {t with gave:=g,next:=3,done:= !g} (ptrV t.put q2)) 246 (m.swap t.c sa I ww)->wE q q2 p b t.put.isSome w Y (.returned (.tuple #[])) s r.1 r.2):=hd' λY bu Z=>by rw[hr,jN bu];exact wE.ZI h bb Z rfl
 have o:Hid (∀Y q3,t.pb=t.c->w.heap.size<=q3->aA Y q3 (zE s F) 318->At3 q p b w Y (YA s { (({t with gave:=g,next:=2,put:=some F}:Fe).kept) with done:= !g} (.pointer (some ⟨q3,0,.none⟩))) 246 (m.swap t.c sa I ww)->wE q q2 p b t.put.isSome w Y (.returned (.tuple #[])) s r.1 r.2):=hd' λY q3 he h3 bh Z=>by
  rw[hr,jP he];have ba:(({t with gave:=g,next:=2,put:=some F}:Fe).kept).put=some F:=by rcases oH ({t with gave:=g,next:=2,put:=some F}:Fe) F rfl with⟨_,e⟩|⟨_,_,e⟩|⟨_,_,e⟩<;>rw[e]
  refine⟨rfl,⟨q3,⟨by show aA Y q (YA s _ (ptrV (({t with gave:=g,next:=2,put:=some F}:Fe).kept).put q3)) _;rw[ba];exact Z.row,λz hz=>?_⟩,.inr h3⟩,Z.wds,Z.only.weak λk N=>?_⟩
  .have hz:(({t with gave:=g,next:=2,put:=some F}:Fe).kept).put=some z:=hz;rw[ba]at hz;obtain rfl:=Option.some.inj hz;exact⟨bh,by have:=h0.ls;omega⟩
  rcases N with N|N|N
  .exact .inl N
  .exact .inr (.inr (.inl N))
  exact .inr (.inr (.inr N))
 have C:=λY q3 (hY:FeAt Y q q3 s {t with gave:=g,next:=2,put:=some F})=>NV q q3 s {t with gave:=g,next:=2,put:=some F} F Y hY rfl;have b2:(({t with gave:=g,next:=2,put:=some F}:Fe).kept).gave=g:=by rcases oH ({t with gave:=g,next:=2,put:=some F}:Fe) F rfl with⟨_,e⟩|⟨_,_,e⟩|⟨_,_,e⟩<;>rw[e]
 generalize bq:(({t with gave:=g,next:=2,put:=some F}:Fe).kept)=tk at*;replace b2:=hd' b2
 have b0:Hid (∀Y q3,aA Y q3 (zE s F) 318->q≠q3->aA Y q (YA s {t with gave:=g,next:=2} (.pointer (some ⟨q3,0,.none⟩))) 246->FeAt Y q q3 s {t with gave:=g,next:=2,put:=some F}):=hd' λY q3 h1 h2 h3=>⟨h3,λz hz=>by
  simp only[Option.some.injEq]at hz
  subst hz
  exact⟨h1,h2⟩⟩
 clear hr bs bq b5 bi bc hf bk bm bj bz h hw bb;generalize ptrV t.put q2=pv at*;generalize t.put.isSome=has at*;generalize zE s F=cd at*;obtain⟨sp,sc,sm⟩:=s;obtain⟨tc,ta,tg,tl,tw,pk,pa,pb,tn,ti,D,H,j⟩:=t;dsimp only at E J L X O N n o C b0|-;subst N;replace E:=hd' E;replace J:=hd' J;replace L:=hd' L;replace X:=hd' X;replace O:=hd' O;replace C:=hd' C;have lq:=h0.lt;have bn:=h0.cell;go_in;go_upto_region 4 with(go_at_call 141;(with_reducible refine(J _).mono ?_);rintro r1 w1 ⟨rfl,b8⟩;have hX:=h0.below b8);clear bn lq;go_cut [1] (λs1 wx=>s1=.pointer (some ⟨p,0,.none⟩)/\At3 q p b w wx (YA ⟨sp,sc,sm⟩ ⟨tc,ta,tg,tl,tw,2,pa,pb,tn,ti,D,g,j⟩ pv) 246 (m.swap tc sa I ww));case first=>
  refine IL 29 (last:={dst:=none,op:=Op.store 4 (Operand.tmp 77) (Operand.tmp 75),type:=0,pos:=_,after:=_,guard:=none}) (x:=MA 90) (ld:=26) (v:=.bool g) (ts:=[50,54,67,68,74])
   (K0:=λY=>At3 q p b w Y (YA ⟨sp,sc,sm⟩ ⟨tc,ta,tg,tl,tw,2,pa,pb,tn,ti,D,H,j⟩ pv) 246 m) (K1:=λY=>At3 q p b w Y (YA ⟨sp,sc,sm⟩ ⟨tc,ta,tg,tl,tw,2,pa,pb,tn,ti,D,H,j⟩ pv) 246 (m.swap tc sa I ww))
   (by kernel_rfl) rfl (by kernel_rfl) (by simp only[List.take,MA,LD,TC,nopO,nopC,Nat.reduceBEq,Bool.or_false,Bool.or_true,Bool.false_eq_true,↓reduceIte,Nat.reduceAdd];exact rfl) (by kernel_rfl) (by kernel_rfl) (by kernel_rfl) (by simp[MA]) (by simp[MA]) (by simp[MA]) (by simp[MA]) (by kernel_rfl) (by simp[MA]) (by simp[MA])
   ⟨⟨λY Y' h1 h2 h3=>h1.far h2 h3 hX.only.size⟩,⟨λY Y' h1 h2 h3=>h1.far h2 h3 hX.only.size⟩⟩ hX.drew ?_
  apply Exists.intro;refine⟨λB hb hs=>?_,λh=>(by simp[MA]at h),λQ0=>?_,?_⟩;case refine_1=>
   have bg:aA B q (YA ⟨sp,sc,sm⟩ ⟨tc,ta,tg,tl,tw,2,pa,pb,tn,ti,D,H,j⟩ pv) 246:=hb.elim (λh=>h.row) (λh=>h.row);have lB:=bg.lt;have c6:=bg.cell;repeat (go_big_quiet_step ((first|(go_at_call 114;exact AA (E _))|(go_at_call 141;exact AA (L _)))))
   exact wpQuiet_nil rfl
  case refine_2=>exact vF rfl (λ_ _=>by simp[go_sem]) λY b7 hs=>(X Y b7.wds).mono λr Y' ⟨h1,h2,h3⟩=>⟨h1,b7.access h2 h3,h3.weak λk N=>by have:=hX.only.size;rcases N with rfl|rfl;exact Nat.lt_of_lt_of_le h0.ls.2.1 this;exact Nat.lt_of_lt_of_le h0.ls.2.2 this⟩
  case refine_3=>intro a w4 M hf;obtain⟨rfl,c5,b1,_⟩:=hf;have c7:=b1.cell;have zf:=b1.free;have hB:=b1.set 14 (.bool g);simp only[MA,vput,List.take,List.size_toArray,List.length_cons,List.length_nil,Nat.reduceAdd,Nat.reduceLT,decide_false,Bool.false_eq_true,if_false];go_wp2;go_meet;exact⟨rfl,hB⟩
 case rest=>
  obtain⟨rfl,Z⟩:=hcut;have cc:=h0.ls;clear h0 X E J L hX b8;have bp:=Z.cell;have zf:=Z.free;go_upto_region 6 with fail;have hB:=Z.set 11 (.int .i64 3);generalize World.setCell _ ⟨q,11,.none⟩ (.int .i64 3)=U at*;clear Z bp zf;replace hB:At3 q p b w U (YA ⟨sp,sc,sm⟩ ⟨tc,ta,tg,tl,tw,2,pa,pb,3,ti,D,g,j⟩ pv) 246 (m.swap tc sa I ww):=hB;have lU:=hB.lt;have b6:=hB.cell;by_cases he:pb=tc
  .replace o:=hd' (λY q3=>o Y q3 he);subst he;clear n;go_quiet (fail);have hC:=hB.drewN nq;clear hB b6 lU;generalize U.drewN nq=V at*;go_upto_region 7 with fail;have hS:=hd' (λ(Y:World) (v:Value) (h:aA Y q (YA ⟨sp,sc,sm⟩ ⟨pb,ta,tg,tl,tw,2,pa,pb,3,ti,D,g,j⟩ v) 246)=>(⟨h.cell 0,h.cell 1,h.cell 2,h.cell 3,h.cell 5,h.cell 6,h.cell 9⟩:Y.cell? ⟨q,0,.none⟩=some (.int .i64 sp)/\Y.cell? ⟨q,1,.none⟩=some (.int .i64 sc)/\Y.cell? ⟨q,2,.none⟩=some (.int .i64 sm)/\Y.cell? ⟨q,3,.none⟩=some (.int .i64 pb)/\Y.cell? ⟨q,5,.none⟩=some (.int .i64 tg)/\Y.cell? ⟨q,6,.none⟩=some (.int .i64 tl)/\Y.cell? ⟨q,9,.none⟩=some (.int .i64 pa)))
   go_region_held3 (λY=>Y.cell? ⟨q,0,.none⟩=some (.int .i64 sp)/\Y.cell? ⟨q,1,.none⟩=some (.int .i64 sc)/\Y.cell? ⟨q,2,.none⟩=some (.int .i64 sm)/\Y.cell? ⟨q,3,.none⟩=some (.int .i64 pb)/\Y.cell? ⟨q,5,.none⟩=some (.int .i64 tg)/\Y.cell? ⟨q,6,.none⟩=some (.int .i64 tl)/\Y.cell? ⟨q,9,.none⟩=some (.int .i64 pa))
    (first|exact hS _ _ hC.row.drew|exact hS _ _ hD.row|exact hS _ _ ((hD.set 13 _).row.cast rfl))
    (first|(go_at_call 240;refine(O _).mono ?_;rintro r w6 ⟨q3,rfl,bv,R,b9⟩;have hD:=hC.drew.below b9;have c4:=hD.cell 13;have zf:=hD.free))
   have hE:=hD.set 13 (.pointer (some ⟨q3,0,.none⟩));have G:q3≠q:=by have:=hC.lt;have hd:V.drew.heap.size=V.heap.size:=rfl;omega
   have bf:w.heap.size<=q3:=Nat.le_trans hC.only.size bv;have b3:=R.other G 13 (.pointer (some ⟨q3,0,.none⟩));generalize World.setCell w6 ⟨q,13,.none⟩ (.pointer (some ⟨q3,0,.none⟩))=T at*;clear hD c4 zf R b9 hC;replace hE:At3 q p b w T (YA ⟨sp,sc,sm⟩ ⟨pb,ta,tg,tl,tw,2,pa,pb,3,ti,D,g,j⟩ (.pointer (some ⟨q3,0,.none⟩))) 246 (m.swap pb sa I ww):=hE;have c8:=hE.cell;have zf:=hE.free;have hG:=hE.set 11 (.int .i64 2);have S:=b3.other G 11 (.int .i64 2);go_wp2_with (first|(go_at_call 233;refine(C _ q3 (b0 _ q3 S (λe=>G e.symm) (hG.row.cast rfl))).mono ?_;rintro r w7 hT;obtain rfl:=hT.ret;have hJ:=hG.turned hT;have b4:=S.only hT.only G;have cf:w7.cell? ⟨q,14,.none⟩=some (.bool g):=(by rw[<-b2];exact hJ.cell 14);have c9:=hJ.cell;have yf:=hJ.free));go_returns;exact o _ q3 bf (b4.other G _ _) (hJ.set 15 _)
  replace n:=hd' (λY=>n Y he);have cb:(pb==tc)=false:=by simpa using he
  clear he o C O;go_quiet (fail);have hC:=hB.drewN nq;clear hB b6 lU;generalize U.drewN nq=V at*;have ca:=hC.cell;have zf:=hC.free;go_wp2_with fail;go_returns;exact n _ (hC.set 15 _)
theorem zyu(q q2 p b:Nat)(s:Sh)(t:Fe)(m:Mem)(w:World)(h:FeAt w q q2 s t)(M:oA w p b m)(T:q≠p)(S:q≠b)(D:t.put≠none->q2≠p/\q2≠b)(L:Fits s m)(V:feOk s t)(hs:m.st<1000000000):
  Calls Tryz.prog 232 #[some q,some p] w λe w'=>wE q q2 p b t.put.isSome w w' e s (NB s t m).1 (NB s t m).2:=by
 rcases jB t.done with hd|hd
 .have o:NB s t m=(t,m):=by unfold NB;rw[jP hd]
  rw[o];dsimp only;have b4:w.cell? ⟨q,15,.none⟩=some (.bool true):=by rw[<-hd];exact h.row.cell 15
  have j:wE q q2 p b t.put.isSome w w (.returned (.tuple #[])) s t m:=⟨rfl,⟨q2,h,.inl ⟨rfl,isSome_none⟩⟩,M,Only.refl _ _⟩;replace j:=hd' j;clear h M hd o V L D;go_in;go_wp2_with fail;go_returns;exact j.out
 obtain⟨c1,c2,c3,c4,c5,c6,c7,c8,c9,C⟩:=V.cl hd;have h0:At3 q p b w w (YA s t (ptrV t.put q2)) 246 m:=At3.start h.row M T S;have j:Hid (∀Y (t':Fe) m',t'.put=t.put->At3 q p b w Y (YA s t' (ptrV t.put q2)) 246 m'->wE q q2 p b t.put.isSome w Y (.returned (.tuple #[])) s t' m'):=hd' λY t' m' e B=>wE.ZI h D (by rw[e];exact B) e;have bs:w.cell? ⟨q,15,.none⟩=some (.bool false):=by rw[<-hd];exact h.row.cell 15
 have J:=ci t.next (h.row.cell 11);obtain⟨r,o⟩:∃r,r=NB s t m:=⟨_,rfl⟩;rw[<-o];unfold NB at o;rw[jN (by rw[hd];decide)]at o;by_cases U:t.next=0
 .rw[jP U]at o;have bv:=hd' (zy7 q p b s t (ptrV t.put q2) m w h0 L hs c2 c3);have b9:(t.look s m).1.put=t.put:=by unfold Fe.look;dsimp only;split<;>(try split)<;>rfl
  have n:Hid (∀Y,At3 q p b w Y (YA s (t.look s m).1 (ptrV t.put q2)) 246 (t.look s m).2->wE q q2 p b t.put.isSome w Y (.returned (.tuple #[])) s r.1 r.2):=hd' λY B=>by rw[o];exact j Y _ _ b9 B
  rw[U]at J;clear o j c1 c2 c3 c4 c5 c6 c7 c8 c9 C V L h M D U hd b9;generalize t.look s m=lk at*;go_in;go_wp2_with (go_at_call 234;(with_reducible refine bv.out.mono ?_);rintro r1 w1 ⟨rfl,B⟩);go_returns;exact n _ B
 rw[jN U]at o;by_cases n1:t.next=1
 .rw[jP n1]at o;rw[n1]at J;have c7:=c7 n1;rcases c6 (by omega) with⟨O,_⟩|⟨O,b8⟩
  .have N:=hd' (zpj q p b s t (ptrV t.put q2) m w h0 L hs c2 O c7);have n:Hid (∀Y,At3 q p b w Y (YA s (t.claim s m).1 (ptrV t.put q2)) 246 (t.claim s m).2/\(t.claim s m).1.put=t.put->wE q q2 p b t.put.isSome w Y (.returned (.tuple #[])) s r.1 r.2):=hd' λY B=>by rw[o];exact j Y _ _ B.2 B.1
   clear o j c1 c2 c3 c4 c5 c6 c7 c8 c9 C V L h M D U n1 hd O;generalize t.claim s m=lk at*;go_in;go_wp2_with (go_at_call 235;(with_reducible refine N.out.mono ?_);rintro r1 w1 ⟨rfl,B⟩);go_returns;exact n _ B
  have N:=hd' (zsz q q2 p b s t m w h M T S D L hs c2 O b8);rw[<-o]at N;clear o j c1 c2 c3 c4 c5 c6 c7 c8 c9 C V L h M D U n1 hd O b8;go_in;go_wp2_with (go_at_call 235;(with_reducible refine N.out.mono ?_);rintro r1 w1 hS;obtain rfl:=hS.ret);go_returns;exact hS
 rw[jN n1]at o;by_cases n2:t.next=2
 .rw[jP n2]at o;rw[n2]at J;obtain⟨O,x,hx,bk,ca⟩:=c8 n2;rw[hx]at o;dsimp only at o;obtain⟨b7,R⟩:=h.inn x hx;have b1:=D (by rw[hx];exact λe=>by cases e);have F:=zxz q2 p b s x m w b7 M b1.1 b1.2 L bk hs;have E:=h.row;rw[hx]at E;have cd:=ce (.pointer (some ⟨q2,0,.none⟩)) (E.cell 13);generalize YC s x m=ym at*;obtain⟨y,m2⟩:=ym;dsimp only at F o;have X:=hd' (λY (hY:FeAt Y q q2 s {t with put:=some y})=>NV q q2 s {t with put:=some y} y Y hY rfl)
  have ba:Hid (∀Y e,Stepped q2 p b w Y e (zE s y) 318 m2->FeAt Y q q2 s {t with put:=some y}):=hd' λY e hS=>⟨E.only hS.only (by rintro(e|e|e);exact R e;exact T e;exact S e),λz hz=>by
   simp only[Option.some.injEq]at hz
   subst hz
   exact⟨hS.row,R⟩⟩
  have b0:(({t with put:=some y}:Fe).kept).put=some y:=by rcases oH ({t with put:=some y}:Fe) y rfl with⟨_,e⟩|⟨_,_,e⟩|⟨_,_,e⟩<;>rw[e]
  have b6:Hid (∀Y e Z e2,Stepped q2 p b w Y e (zE s y) 318 m2->Turned q Y Z e2 (YA s (({t with put:=some y}:Fe).kept) (.pointer (some ⟨q2,0,.none⟩))) 246->wE q q2 p b t.put.isSome w Z (.returned (.tuple #[])) s r.1 r.2):=hd' λY e Z e2 hS B=>by
   rw[o];refine⟨rfl,⟨q2,⟨by show aA Z q (YA s _ (ptrV (({t with put:=some y}:Fe).kept).put q2)) _;rw[b0];exact B.row,λz hz=>?_⟩,.inl ⟨rfl,λe=>by rw[hx]at e;cases e⟩⟩,hS.wds.only B.only (λe=>T e.symm) (λe=>S e.symm),?_⟩
   .have hz:(({t with put:=some y}:Fe).kept).put=some z:=hz;rw[b0]at hz;obtain rfl:=Option.some.inj hz;exact⟨hS.row.only B.only (λe=>R e.symm),R⟩
   refine(hS.only.weak (G:=λk=>k=q\/(t.put.isSome=true/\k=q2)\/k=p\/k=b) λk e=>?_).trans B.only (λ_ _ e=>.inl e);rcases e with e|e|e
   .exact .inr (.inl ⟨by rw[hx];rfl,e⟩)
   .exact .inr (.inr (.inl e))
   exact .inr (.inr (.inr e))
  replace F:=hd' F;clear o j h0 c1 c2 c3 c4 c5 c6 c7 c8 c9 C V L h M U n1 n2 b7 bk ca E b1 D b0 hd O;generalize ({t with put:=some y}:Fe).kept=t2 at*;go_in;go_wp2_with (first|(go_at_call 236;(with_reducible refine F.out.mono ?_);rintro r1 w1 hS;obtain rfl:=hS.ret)|(go_at_call 233;refine(X _ (ba _ _ hS)).mono ?_;rintro r2 w2 hT;obtain rfl:=hT.ret));go_returns;exact b6 _ _ _ _ hS hT
 rw[jN n2]at o;by_cases n3:t.next=3
 .rw[jP n3]at o;rw[n3]at J;have O:=c9 n3;have bh:0<mA t.pa/\(0<=t.slot/\t.slot<mA t.pa):=by rcases c6 (by omega) with h1|h1;omega;exact h1.2
  have bx:=pH bh.1;obtain⟨bi,bg⟩:=L.slot c2 (i:=t.slot) (by omega);have H:=λY=>uE s.p s.c s.m t.page t.slot Y;rw[bi]at H o;have I:=λY=>tE 1 t.pa Y;have bj:Hid (BB t.pa=VA 1 t.pa):=hd' rfl;rw[<-bj]at I;have F:=λY (hY:oA Y p b m)=>tC p b m t.c (s.c+s.p+t.page*16+t.slot) (BB t.pa) Y hY bg (IE _ _) hs;generalize s.c+s.p+t.page*16+t.slot=sa at*;generalize BB t.pa=ow at*;have n:Hid (∀Y,At3 q p b w Y (YA s {t with done:=true} (ptrV t.put q2)) 246 (m.store t.c sa ow)->wE q q2 p b t.put.isSome w Y (.returned (.tuple #[])) s r.1 r.2):=hd' λY B=>by rw[o];exact j Y _ _ rfl B
  clear o j c1 c2 c3 c4 c5 c6 c7 c8 c9 C V L h M D U n1 n2 O bh bx bi bg bj J bs;generalize ptrV t.put q2=pv at*;generalize t.put.isSome=has at*;obtain⟨sp,sc,sm⟩:=s;obtain⟨tc,ta,tg,tl,tw,pk,pa,pb,tn,ti,cc,b3,cb⟩:=t;dsimp only at H I F n n3 hd|-;subst n3 hd;replace H:=hd' H;replace I:=hd' I;replace F:=hd' F;have lq:=h0.lt;obtain⟨c0,c1,c2,c3,c4,c5,c6⟩:=ci7 sp sc sm tc ta tg tl h0.cell;have c7:=ce (.int .u64 tw) (h0.cell 7);have c8:=ci pk (h0.cell 8);have c9:=ci pa (h0.cell 9);have C:=ci pb (h0.cell 10);have bm:=ci 3 (h0.cell 11);have bn:=ci ti (h0.cell 12);have bp:=ce (pv) (h0.cell 13);have bq:=ce (.bool b3) (h0.cell 14);have b4:=ce (.bool false) (h0.cell 15);go_in;go_upto_region 10 with fail;refine wret 25 ?_;repeat (go_big_quiet_step ((first|(go_at_call 114;exact AA (H _))|(go_at_call 141;exact AA (I _)))))
  refine wqn λZ bu=>?_;have hZ:=h0.below bu;clear c0 c1 c2 c3 c4 c5 c6 c7 c8 c9 C bm bn bp bq b4 h0 lq;go_wp2_with (go_at_call 218;(with_reducible refine(F _ hZ.wds).mono ?_);rintro r1 w2 ⟨rfl,bz,bw⟩;have B:=hZ.access bz bw;have cf:=ce (.bool false) (B.cell 15);have zf:=B.free);go_returns;exact n _ (B.set 15 _)
 rw[jN n3]at o;have n4:t.next=4:=by omega
 rw[n4]at J;have C:=C n4;have bb:1<=t.pa/\t.pa<=8/\t.pa<=s.p-t.page:=by rcases c6 (by omega) with h1|h1;exact h1.2;omega
 have b5:=hd' (zvp q p b s t (ptrV t.put q2) m w h0 L hs c2 bb C.2);have b2:r.1=if t.i=t.pa-1 then {t with done:=true} else {t with i:=t.i+1}:=by rw[o];split<;>rfl
 have bc:r.2=if t.i=t.pa-1 then m.store t.c (pA s.p s.c s.m t.page) 0 else m.store t.c (pA s.p s.c s.m (t.page+t.i+1)) 0:=by rw[o];split<;>rfl
 rw[<-b2,<- bc]at b5;have bf:r.1.put=t.put:=by rw[b2];split<;>rfl
 have n:Hid (∀Y,At3 q p b w Y (YA s r.1 (ptrV t.put q2)) 246 r.2->wE q q2 p b t.put.isSome w Y (.returned (.tuple #[])) s r.1 r.2):=hd' λY B=>j Y _ _ bf B;clear o b2 bc bf j c1 c2 c3 c4 c5 c6 c7 c8 c9 C V L h M D U n1 n2 n3 n4 hd bb;go_in;go_wp2_with (go_at_call 237;(with_reducible refine b5.out.mono ?_);rintro r1 w1 ⟨rfl,B⟩);go_returns;exact n _ B
theorem rs2(x:Int)(w:World)(h0:0<=x/\x<18446744073709551616):
  Calls Tryz.prog 101 #[.int .u64 x] w λe w'=>e=.returned (.tuple #[.int .i64 (XD x),.int .i64 (uD x)])/\Below w.heap.size w w':=by
 refine(gP x w h0.1 h0.2).mono ?_;rintro e w' ⟨hb,rfl⟩;refine⟨?_,hb⟩;have h:(ZA (PA x) (nA x 0)==x)=iI x:=rfl;rw[h];unfold XD uD;cases iI x<;>rfl
theorem z2a(s:Sh)(c d:Int)(w:World):
  Calls Tryz.prog 131 #[.agg #[s.p,s.c,s.m],c,d] w λe w'=>Born w w' e (CA s (qD s c d)) 252:=by
 have z:=λW=>pC s.p s.c s.m c W;have C:=λW=>pC s.p s.c s.m d W;have j:=λk Y (hY:aA Y k (CA s ⟨c,d,0,0,0,0,0,0,0,0,0,false⟩) 252)=>fK k s ⟨c,d,0,0,0,0,0,0,0,0,0,false⟩ 1 Y hY;obtain⟨t2,i,N⟩:∃t2:Ad,Hid (t2=if uA s.p s.c s.m c<0\/uA s.p s.c s.m d<0\/c=d then(⟨c,d,0,0,0,0,0,0,0,0,0,false⟩:Ad).fin 1 else⟨c,d,0,0,0,0,0,0,0,0,0,false⟩)/\t2=qD s c d:=⟨_,hd' rfl,rfl⟩;rw[<-N];clear N;generalize uA s.p s.c s.m c=U at*;generalize uA s.p s.c s.m d=X at*;obtain⟨sp,G,I⟩:=s;dsimp only at z C;replace z:=hd' z;replace C:=hd' C;replace j:=hd' j;have J:=(Below.refl w.heap.size w).alloc lr (.cells #[sp,G,I] 23);have t0:=jA w (.cells #[sp,G,I] 23);go_in;go_upto_region 1 with fail;generalize w.alloc (.cells #[sp,G,I] 23)=W at*;obtain⟨H,hH,S⟩:=hidv w.heap.size;rw[<-S]at t0|-;have L:aA W H #[sp,G,I] 23:=t0;have lH:H<W.heap.size:=L.lt;obtain⟨c0,c1,c2⟩:=ci3 sp G I L.cell;clear t0 S;have b0:=hd' J.size;go_upto_region 2 with fail;have R:aA (W.alloc (.cells (CA ⟨sp,G,I⟩ ⟨c,d,0,0,0,0,0,0,0,0,0,false⟩) 252)) W.heap.size (CA ⟨sp,G,I⟩ ⟨c,d,0,0,0,0,0,0,0,0,0,false⟩) 252:=jA _ _;have E:=J.trans ((Below.refl w.heap.size W).alloc J.size (.cells (CA ⟨sp,G,I⟩ ⟨c,d,0,0,0,0,0,0,0,0,0,false⟩) 252));have M:=L.alloc (.cells (CA ⟨sp,G,I⟩ ⟨c,d,0,0,0,0,0,0,0,0,0,false⟩) 252);dsimp only[CA]at R E M j;generalize W.alloc (.cells #[sp,G,I,c,d,.int .i64 0,.int .u64 0,.int .i64 0,.int .i64 0,.int .i64 0,.int .i64 0,.int .i64 0,.int .i64 0,.int .i64 0,.bool false] 252)=V at*;obtain⟨K,hK,O⟩:=hidv W.heap.size;rw[<-O]at R|-;have q:w.heap.size<=K:=O▸b0.out;have b2:H<V.heap.size:=M.lt;have b3:K<V.heap.size:=R.lt;clear O c0 c1 c2 lH L J;obtain⟨c0,c1,c2⟩:=ci3 sp G I M.cell;clear M;have b1:U<0\/(0<=U/\X<0)\/(0<=U/\0<=X/\c=d)\/(0<=U/\0<=X/\(c==d)=false):=by
  by_cases h1:U<0
  .exact .inl h1
  by_cases h2:X<0
  .exact .inr (.inl ⟨by omega,h2⟩)
  by_cases h:c=d
  .exact .inr (.inr (.inl ⟨by omega,by omega,h⟩))
  exact .inr (.inr (.inr ⟨by omega,by omega,by simpa using h⟩))
 rcases b1 with h1|⟨h1,h2⟩|⟨h1,h2,rfl⟩|⟨h1,h2,h3⟩;case inr.inr.inr=>replace i:=hd' (i.out.trans (jN (by rintro(h|h|h)<;>first|omega|(rw[h]at h3;simp at h3))));clear j;go_wp2_with (first|(go_at_call 44;(with_reducible refine(z _).mono ?_);rintro r w1 ⟨rfl,b⟩;have Z:=kA b _ _ _ c0;have d1:=kA b _ _ _ c1;have d2:=kA b _ _ _ c2;have B:=R.below b)|(go_at_call 44;(with_reducible refine(C _).mono ?_);rintro r w2 ⟨rfl,n⟩;have F:=B.below n));go_returns;exact⟨K,rfl,q,by rw[i];exact F,qA (qA E b) n⟩
 case inl=>replace i:=hd' (i.out.trans (jP (.inl h1)));go_wp2_with (first|(go_at_call 44;refine(z _).mono ?_;rintro r w1 ⟨rfl,b⟩;have Z:=kA b _ _ _ c0;have d1:=kA b _ _ _ c1;have d2:=kA b _ _ _ c2;have B:=R.below b)|(go_at_call 152;(with_reducible refine(j _ _ B).mono ?_);rintro r w3 D;obtain rfl:=D.ret));go_returns;have o:=qA E b;exact⟨K,rfl,q,by rw[i];exact D.row,o.trans (D.only.below o.size λk T=>by rw[T];exact q)⟩
 case inr.inl=>replace i:=hd' (i.out.trans (jP (.inr (.inl h2))));go_wp2_with (first|(go_at_call 44;(with_reducible refine(z _).mono ?_);rintro r w1 ⟨rfl,b⟩;have Z:=kA b _ _ _ c0;have d1:=kA b _ _ _ c1;have d2:=kA b _ _ _ c2;have B:=R.below b)|(go_at_call 44;(with_reducible refine(C _).mono ?_);rintro r w2 ⟨rfl,n⟩;have F:=B.below n)|(go_at_call 152;(with_reducible refine(j _ _ F).mono ?_);rintro r w3 D;obtain rfl:=D.ret));go_returns;have o:=qA (qA E b) n;exact⟨K,rfl,q,by rw[i];exact D.row,o.trans (D.only.below o.size λk T=>by rw[T];exact q)⟩
 case inr.inr.inl=>replace i:=hd' (i.out.trans (jP (.inr (.inr rfl))));go_wp2_with (first|(go_at_call 44;(with_reducible refine(z _).mono ?_);rintro r w1 ⟨rfl,b⟩;have Z:=kA b _ _ _ c0;have d1:=kA b _ _ _ c1;have d2:=kA b _ _ _ c2;have B:=R.below b)|(go_at_call 44;(with_reducible refine(C _).mono ?_);rintro r w2 ⟨rfl,n⟩;have F:=B.below n)|(go_at_call 152;(with_reducible refine(j _ _ F).mono ?_);rintro r w3 D;obtain rfl:=D.ret));go_returns;have o:=qA (qA E b) n;exact⟨K,rfl,q,by rw[i];exact D.row,o.trans (D.only.below o.size λk T=>by rw[T];exact q)⟩
end

end Go.Proofs.YtkilokkopbajkaaGreat
