
import Derived.Test.YtkilokkopbajkaaGreatBw30

set_option linter.all false
set_option maxHeartbeats 4000000
set_option maxRecDepth 100000
namespace Go.Proofs.YtkilokkopbajkaaGreat

open RowKit

attribute [local go_sem ↓] wp_at_zero wp_at_succ

attribute [local go_sem] YA CA RB QG

def xF (k:Kl):List Fr:=match k.job with
 |some _=>[⟨k.op.k,k.steps,[k.op.a,k.op.n,0,0,0,0,0,0]⟩]
 |none=>[]
structure KlO (F:Nat->Prop) (w:World) (q:Nat) (s:Sh) (k:Kl):Prop where
 lt:∀b,F b->b<w.heap.size
 own:F q
 at':∃sp sl jv G,aA w q (RB s k (!k.job.isSome) jv (.pointer (some ⟨sp,0,.none⟩))) 161/\SK 0 w sp sl 1 (xF k)/\(∀b,foot sp sl b->F b/\b≠q)/\(∀b,G b->F b/\b≠q/\¬foot sp sl b)/\(k.job=none->jv=.nilIface)/\(∀j,k.job=some j->JbO G w jv s k.c j)
theorem KlO.only{F G:Nat->Prop}{w w':World}{q:Nat}{s:Sh}{k:Kl}(h:KlO F w q s k)(f:Only G w w')(hd:∀b,F b->¬G b):KlO F w' q s k:=by
 obtain⟨h1,h2,sp,sl,jv,H,a1,m,i,l,n,o⟩:=h;exact⟨λb hb=>Nat.lt_of_lt_of_le (h1 b hb) f.size,h2,sp,sl,jv,H,a1.only f (hd q h2),f.stk m (λb hb=>hd b (i b hb).1),i,l,n,λj p=>(o j p).only f (λb hb=>hd b (l b hb).1)⟩
theorem KlO.below{F:Nat->Prop}{w w':World}{q:Nat}{s:Sh}{k:Kl}(h:KlO F w q s k)(hb:Below w.heap.size w w'):KlO F w' q s k:=h.only (Only.of_below (F:=λ_=>False) hb) (λ_ _ e=>e)
theorem KlO.weak{F G:Nat->Prop}{w:World}{q:Nat}{s:Sh}{k:Kl}(h:KlO F w q s k)(f:∀b,F b->G b)(o:∀b,G b->b<w.heap.size):KlO G w q s k:=by
 obtain⟨h1,h2,sp,sl,jv,H,a1,l,i,j,m,n⟩:=h;exact⟨o,f q h2,sp,sl,jv,H,a1,l,λb hb=>⟨f b (i b hb).1,(i b hb).2⟩,λb hb=>⟨f b (j b hb).1,(j b hb).2⟩,m,n⟩
theorem ztx{q sp:Nat}{s:Sh}{k:Kl}{jv sl:Value}{most:Int}{fs:List Fr}{w:World}(i:Bool)(h:aA w q (RB s k i jv (.pointer (some ⟨sp,0,.none⟩))) 161)(hs:SK 0 w sp sl most fs)(j:i=false->fs.length=1):
  Calls Tryz.prog 66 #[some q] w λe w'=>e=.returned (.bool i)/\w'=w:=by
 have n:q<w.heap.size:=h.lt;have m:=h.cell;have b:=OL hs;cases i
 .rw[j rfl]at b;replace b:=hd' b;clear h hs j;go_in;go_wp2_with (go_at_call 108;(with_reducible refine b.out.mono ?_);rintro r o ⟨rfl,l⟩;obtain rfl:=l.symm);go_returns;exact⟨rfl,rfl⟩
 clear h hs j b;go_in;go_wp2_with fail;go_returns;exact⟨rfl,rfl⟩
theorem KlO.rests{F:Nat->Prop}{w:World}{q:Nat}{s:Sh}{k:Kl}(h:KlO F w q s k):Calls Tryz.prog 66 #[some q] w λe w'=>e=.returned (.bool k.rests)/\w'=w:=by
 obtain⟨h1,h2,sp,sl,jv,H,a1,b,i,l,m,n⟩:=h;refine ztx (!k.job.isSome) a1 b (λe=>?_);unfold xF;rcases hj:k.job with _|j
 .rw[hj]at e;cases e
 rfl
structure BK (F:Nat->Prop) (q p b:Nat) (w w':World) (r:Ending) (s:Sh) (k:Kl) (m:Mem):Prop where
 ret:∃v,r=.returned (.tuple #[v,.int .i64 (k.step s m).2.2.2])/\w'.ownsRow w.heap.size 62 8 v (k.step s m).2.2.1.length ((k.step s m).2.2.1.flatMap λe=>e.cells.toList)
 wds:oA w' p b (k.step s m).2.1
 kl:KlO (grow F w w') w' q s (k.step s m).1
 only:Only (λi=>F i\/i=p\/i=b) w w'
theorem zuq{F:Nat->Prop}{q p b:Nat}{s:Sh}{k:Kl}{m:Mem}{w:World}(h:KlO F w q s k)(E:oA w p b m)(B:k.job=none):
  Calls Tryz.prog 93 #[some q,some p] w λr w'=>BK F q p b w w' r s k m:=by
 have o:k.step s m=(k,m,[],2):=by unfold Kl.step;rw[B]
 have l:=((Below.refl w.heap.size w).alloc lr (.cells #[some q] 57)).alloc (by simp) (.cells #[some p] 101);have y:k.rests=true:=by unfold Kl.rests;rw[B];rfl
 have i:=(h.below l).rests;rw[y]at i;replace i:=hd' i;have n:Hid (∀W,jW w W->BK F q p b w W (.returned (.tuple #[.slice none 0 0,.int .i64 2])) s k m):=hd' λW hb=>by
  refine⟨⟨_,by rw[o],?_⟩,?_,?_,Only.of_below hb⟩
  .rw[o];exact SH _ _
  .rw[o];exact E.below hb
  rw[o];exact(h.below hb).weak (λb hb=>.inl hb) (ME h.lt hb.size)
 clear h E o B y;go_in;go_upto_region 1 with fail;have z:aA ((w.alloc (.cells #[some q] 57)).alloc (.cells #[some p] 101)) w.heap.size #[some q] 57:=aA.alloc (jA _ _) _;generalize (w.alloc (.cells #[some q] 57)).alloc (.cells #[some p] 101)=X at*;obtain⟨H,I,j⟩:=hidv w.heap.size;rw[<-j]at z|-;clear j;have J:H<X.heap.size:=z.lt;have G:=z.cell;have D:∀W:World,(binOp .eql 57 (.pointer (some ⟨q,0,.none⟩)) (.pointer none)).run Tryz.prog W=.ok (.bool false) W:=λW=>by kernel_rfl
 go_wp2_with (go_at_call 66;(with_reducible refine i.out.mono ?_);rintro r L ⟨rfl,C⟩;obtain rfl:=C.symm);go_returns;exact n _ l
theorem TY{w:World}{B C:Nat}{E:TypeId}{size:Nat}{v:Value}{n:Nat}{xs:List Value}(h:w.ownsRow B E size v n xs)(hc:C<=B):w.ownsRow C E size v n xs:=by
 refine⟨h.1,?_⟩;rcases h.2 with f|⟨g,cap,b,rfl,h1,r⟩
 .exact .inl f
 exact .inr ⟨g,cap,b,rfl,Nat.le_trans hc h1,r⟩
theorem size_alloc(w:World)(o:Obj):(w.alloc o).heap.size=w.heap.size+1:=by simp
theorem zzj{F G L:Nat->Prop}{q p b sp:Nat}{s:Sh}{k:Kl}{m:Mem}{j:Jb}{jv sl:Value}{w Y Z:World}{r:Ending}(N:∀i,F i->i<w.heap.size)(S:F q)(X:¬F p)(hb:¬F b)(U:k.job=some j)(t:∀i,foot sp sl i->F i/\i≠q)(O:∀i,G i->F i/\i≠q/\¬foot sp sl i)(C:∀i,L i->G i\/(w.heap.size<=i/\i<Y.heap.size)) (T:oA Y p b (j.step s k.c m).2) (E:Only (λi=>F i\/i=p\/i=b) w Y) (R:JbO L Y jv s k.c (j.step s k.c m).1)(z:GL q sp s {k with told:=k.told||(j.step s k.c m).1.gave,steps:=k.steps+1} (j.step s k.c m).1.done jv sl 1 [⟨k.op.k,k.steps+1,[k.op.a,k.op.n,0,0,0,0,0,0]⟩] (k.tells (j.step s k.c m).1) Y Z r):
  ∃v,r=.returned v/\BK F q p b w Z (.returned (.tuple #[v,.int .i64 0])) s k m:=by
 have M:k.step s m=(k.after (j.step s k.c m).1,(j.step s k.c m).2,k.tells (j.step s k.c m).1,0):=by unfold Kl.step;rw[U]
 obtain⟨v,hv,H⟩:=z.ret;have I:=E.size;have J:=z.only.size;have V:=N q S;have y:∀i,(i=q\/foot sp sl i)->F i:=λi hi=>by rcases hi with rfl|hi;exact S;exact(t i hi).1
 have o:∀i,L i->¬(i=q\/foot sp sl i):=λi hi e=>by
  rcases C i hi with h|h
  .rcases e with e|e
   .exact(O i h).2.1 e
   exact(O i h).2.2 e
  have:=N i (y i e);omega
 refine⟨v,hv,⟨⟨_,by rw[M],?_⟩,?_,?_,?_⟩⟩
 .rw[M];exact TY H I
 .rw[M];exact T.only z.only (λe=>X (y p e)) (λe=>hb (y b e))
 .rw[M];generalize (j.step s k.c m).1=j' at*;have D:=R.only z.only o;have f:=z.row;have l:=z.stk;refine⟨ME N (Nat.le_trans I J),.inl S,?_⟩;cases hd:j'.done
  .rw[hd]at f l;refine⟨sp,sl,jv,L,?_,?_,λi hi=>⟨.inl (t i hi).1,(t i hi).2⟩,λi hi=>⟨?_,λe=>o i hi (.inl e),λe=>o i hi (.inr e)⟩,λe=>?_,λx B=>?_⟩
   .have e:(!(k.after j').job.isSome)=false:=by simp[Kl.after,hd]
    rw[e];exact f
   .have e:xF (k.after j')=[⟨k.op.k,k.steps+1,[k.op.a,k.op.n,0,0,0,0,0,0]⟩]:=by unfold xF Kl.after;simp[hd]
    rw[e];exact l
   .rcases C i hi with h|h
    .exact .inl (O i h).1
    exact .inr ⟨h.1,Nat.lt_of_lt_of_le h.2 J⟩
   .simp[Kl.after,hd]at e
   have e:(k.after j').job=some j':=by simp[Kl.after,hd]
   rw[e]at B;injection B with B;subst B;exact D
  rw[hd]at f l;refine⟨sp,.slice none 0 0,.nilIface,λ_=>False,?_,?_,λi hi=>?_,λi hi=>hi.elim,λ_=>rfl,λx B=>?_⟩
  .have e:(!(k.after j').job.isSome)=true:=by simp[Kl.after,hd]
   rw[e];exact f
  .have e:xF (k.after j')=[]:=by unfold xF Kl.after;simp[hd]
   rw[e];exact l
  .rcases hi with rfl|hi
   .exact⟨.inl (t _ (.inl rfl)).1,(t _ (.inl rfl)).2⟩
   cases hi
  simp[Kl.after,hd]at B
 exact E.trans z.only (λi _ hi=>.inl (y i hi))
theorem zty{F:Nat->Prop}{q p b:Nat}{s:Sh}{k:Kl}{m:Mem}{j:Jb}{w:World}(h:KlO F w q s k)(hw:oA w p b m)(hp:¬F p)(hb:¬F b)(hf:Fits s m)(c5:m.fit)(hj:k.job=some j)(c8:jbIs s k.c j)(c7:j.done=false)(hc:0<=k.c/\k.c<s.c)(er:0<=k.steps/\k.steps<1000000)(hs:m.st<1000000000):
  Calls Tryz.prog 93 #[some q,some p] w λr w'=>BK F q p b w w' r s k m:=by
 have ca:k.rests=false:=by unfold Kl.rests;rw[hj];rfl
 obtain⟨hF,hq,sp,sl,jv,G,b4,b6,B,V,_,bj⟩:=id h;have hJ:=bj j hj;clear bj;have hi:(!k.job.isSome)=false:=by rw[hj];rfl
 rw[hi]at b4;have c6:xF k=[⟨k.op.k,k.steps,[k.op.a,k.op.n,0,0,0,0,0,0]⟩]:=by unfold xF;rw[hj]
 rw[c6]at b6;have e4:IntKind.i64.wrap (k.steps+1)=k.steps+1:=by rw[IntKind.wrap_i64];omega
 have R:=((Below.refl w.heap.size w).alloc lr (.cells #[some q] 57)).alloc (by simp) (.cells #[some p] 101);have hH:aA ((w.alloc (.cells #[some q] 57)).alloc (.cells #[some p] 101)) w.heap.size #[some q] 57:=aA.alloc (jA _ _) _;have hK:aA ((w.alloc (.cells #[some q] 57)).alloc (.cells #[some p] 101)) (w.heap.size+1) #[some p] 101:=by have h:=jA (w.alloc (.cells #[some q] 57)) (.cells #[some p] 101);rw[size_alloc]at h;exact h
 have b3:=(h.below R).rests;rw[ca]at b3;replace b3:=hd' b3;clear h ca hi c6;have bm:((w.alloc (.cells #[some q] 57)).alloc (.cells #[some p] 101)).heap.size=w.heap.size+2:=by rw[size_alloc,size_alloc]
 have C:=b4.below R;have ba:=b6.below R;have bx:=hJ.below R;have cg:=hw.below R;go_in;go_upto_region 1 with fail;generalize (w.alloc (.cells #[some q] 57)).alloc (.cells #[some p] 101)=X at*;obtain⟨B2,eh,bf⟩:∃H,Hid (H=w.heap.size+1)/\H=w.heap.size+1:=⟨_,hd' rfl,rfl⟩;obtain⟨B1,eg,bc⟩:=hidv w.heap.size;simp only[<-bf]at hK|-;rw[<-bc]at hH|-;have ec:w.heap.size<=B1:=by omega
 have ed:w.heap.size<=B2:=by omega
 clear bc bf;have l1:B1<X.heap.size:=hH.lt;have c0:=ce (.pointer (some ⟨q,0,.none⟩)) (hH.cell 0);have ef:∀W:World,(binOp .eql 57 (.pointer (some ⟨q,0,.none⟩)) (.pointer none)).run Tryz.prog W=.ok (.bool false) W:=λW=>by kernel_rfl
 have ej:∀(fn:Fn) (first cap:Array Value) (w:World),(Instr.makeFunc fn first cap).run Tryz.prog w=.ok (.func fn first cap) w:=λ_ _ _ _=>rfl;have e9:=hF q hq;have b0:∀i,G i->i<w.heap.size:=λi hi=>hF i (V i hi).1;have ek:=hw.ltp;have ei:=hw.ltb;have l:=(Below.refl X.heap.size X).alloc lr (.cells #[.bool false] 4);have b1:=z6s (w:=X.alloc (.cells #[.bool false] 4)) (q:=q) (p:=p) (b:=b) (G:=G) (s:=s) (cl:=k.c) (j:=j) (m:=m) (jv:=jv) (B1:=B1) (B2:=B2) ((hH.below l).cell 0) ((hK.below l).cell 0) (hH.below l).lt (hK.below l).lt (C.below l).lt ((C.below l).cell 8) (bx.below l) (λi hi=>by have:=b0 i hi;rw[size_alloc];omega) (cg.below l) (λe=>hp (V p e).1) (λe=>hb (V b e).1) hf c8 c7 hs
 have hg:=zyf B1 B2 X (Q:=λY=>wH G p b (X.alloc (.cells #[.bool false] 4)) Y jv s k.c j m) (b1.mono λe w' y=>⟨y.1,y.2,by
  have hn:aA (X.alloc (.cells #[.bool false] 4)) X.heap.size #[.bool false] 4:=jA _ _
  refine hn.only y.2.only (λe=>?_)
  rcases e with e|e|e
  .have:=b0 _ e;omega
  .omega
  .omega⟩)
 replace hg:=hd' hg;clear b1;go_upto_region 7 with(first|(go_at_call 66;(with_reducible refine b3.out.mono ?_);rintro r w1 ⟨rfl,e2⟩;obtain rfl:=e2.symm)|(go_at_call 122;(with_reducible refine hg.out.mono ?_);rintro r T ⟨rfl,Y,hQ,bn⟩;have N:aA T B1 #[some q] 57:=(by rw[bn];exact((hH.below l).only hQ.only (λe=>by rcases e with e|e|e;have:=b0 _ e;omega;omega;omega)).other (by omega) _ _);have cq:=ce (.pointer (some ⟨q,0,.none⟩)) (N.cell 0);have e5:=N.lt));have D:T=Y.setCell ⟨w.heap.size+2,0,.none⟩ (.bool true):=by rw[bn,bm]
 rw[<-D];have c4:X.heap.size=w.heap.size+2:=bm;have bz:(X.alloc (.cells #[.bool false] 4)).heap.size=w.heap.size+3:=by rw[size_alloc,c4]
 have cb:T.heap.size=Y.heap.size:=by rw[D];exact size_set _ _ _
 have cm:Only (λi=>F i\/i=p\/i=b) w (X.alloc (.cells #[.bool false] 4)):=Only.of_below (qA R l);have cp:Only (λi=>F i\/i=p\/i=b) w Y:=cm.trans hQ.only (λi _ hi=>hi.imp (λe=>(V i e).1) id);have ch:Only (λi=>F i\/i=p\/i=b) w T:=by rw[D];exact Only.setCell cp (.inr (by show w.heap.size<=w.heap.size+2;omega)) _
 have bp:∀i,(i=q\/foot sp sl i)->¬(G i\/i=p\/i=b):=λi hi e=>by
  have bs:F i:=by rcases hi with rfl|hi;exact hq;exact(B i hi).1
  rcases e with e|e|e
  .rcases hi with rfl|hi
   .exact(V _ e).2.1 rfl
   exact(V i e).2.2 hi
  .exact hp (e▸bs)
  exact hb (e▸bs)
 have b2:∀i,(i=q\/foot sp sl i)->i<w.heap.size:=λi hi=>by rcases hi with rfl|hi;exact e9;exact hF i (B i hi).1
 have E:Only (λi=>i=w.heap.size+2) Y T:=by rw[D];exact Only.setCell (F:=λi=>i=w.heap.size+2) (Only.refl _ _) (.inl rfl) _
 have o:=((C.below l).only hQ.only (bp q (.inl rfl))).only E (by omega);have J:=E.stk (hQ.only.stk (ba.below l) (λi hi=>bp i (.inr hi))) (λi hi e=>by have:=b2 i (.inr hi);omega)
 have bk:=hQ.job.only E (λi hi e=>by
  rcases hi with hi|hi
  .have:=b0 i hi;omega
  .omega)
 have cc:=hQ.wds.only E (by omega) (by omega);have O:∀i,grow G (X.alloc (.cells #[.bool false] 4)) Y i->G i\/(w.heap.size<=i/\i<T.heap.size):=λi hi=>by
  rcases hi with hi|hi
  .exact .inl hi
  exact .inr (by omega)
 generalize cv:grow G (X.alloc (.cells #[.bool false] 4)) Y=G2 at*;clear bn D hQ hg bm c4 bz cm cp E l b3 C ba bx cg hJ b4 b6 hw cv cb bp;have eu:∀Z W:World,Only (λi=>i=q\/foot sp sl i) Z W->Only (λi=>F i\/i=p\/i=b) Z W:=λZ W y=>y.weak (λi hi=>.inl (by rcases hi with rfl|hi;exact hq;exact(B i hi).1));have bi:=hd' (λ(W:World) (r:Ending) (Y2:World) (h1:oA Y2 p b (j.step s k.c m).2) (h2:Only (λi=>F i\/i=p\/i=b) w Y2) (h3:JbO G2 Y2 jv s k.c (j.step s k.c m).1) (h4:∀i,G2 i->G i\/(w.heap.size<=i/\i<Y2.heap.size)) (hT:GL q sp s {k with told:=k.told||(j.step s k.c m).1.gave,steps:=k.steps+1} (j.step s k.c m).1.done jv sl 1 [⟨k.op.k,k.steps+1,[k.op.a,k.op.n,0,0,0,0,0,0]⟩] (k.tells (j.step s k.c m).1) Y2 W r)=>zzj hF hq hp hb hj B V h4 h1 h2 h3 hT);have c9:=(xK c8 hc c7 hf (by exact c5)).2.1
 have L:=hd' (λ(Y2:World) (h1:aA Y2 q (RB s {k with steps:=k.steps+1} false jv (.pointer (some ⟨sp,0,.none⟩))) 161) (h2:SK 0 Y2 sp sl 1 [⟨k.op.k,k.steps+1,[k.op.a,k.op.n,0,0,0,0,0,0]⟩]) (h3:JbO G2 Y2 jv s k.c (j.step s k.c m).1) (h4:∀i,G2 i->i<Y2.heap.size)=>z6y (k:={k with steps:=k.steps+1}) h1 h2 (λe=>(B q e).2 rfl) h3 (λi hi=>⟨λe=>by
   rcases O i hi with y|y
   .exact(V i y).2.1 e
   .have:=b2 i (.inl e);omega,λe=>by
   rcases O i hi with y|y
   .exact(V i y).2.2 e
   .have:=b2 i (.inr e);omega⟩) h4 c9 hf.may hc)
 generalize (j.step s k.c m).1=j2 at*;generalize (j.step s k.c m).2=m2 at*;obtain⟨eb,sc,sm⟩:=s;obtain⟨kc,kf,⟨ok,oa,on⟩,kj,kt,U⟩:=k;dsimp only[RB]at o J e4 L bk;have e7:q<T.heap.size:=o.lt;have f2:=KA o;have cr:=ci U (o.cell 12);go_upto_region 8 with fail;have z:aA (T.setCell ⟨q,12,.none⟩ (.int .i64 (U+1))) q #[eb,sc,sm,kc,kf,ok,oa,on,jv,.bool false,kt,some sp,.int .i64 (U+1)] 161:=o.set 12 (.int .i64 (U+1));have oq:Only (λi=>i=q) T (T.setCell ⟨q,12,.none⟩ (.int .i64 (U+1))):=Only.setCell (F:=λi=>i=q) (Only.refl _ _) (.inl rfl) _;have b7:=oq.stk J (λi hi e=>(B i hi).2 e)
 have bu:=bk.only oq (λi hi e=>by
  rcases O i hi with y|y
  .exact(V i y).2.1 e
  .omega)
 have cd:=cc.only oq (λe=>hp (e▸hq)) (λe=>hb (e▸hq));have cj:=ch.trans oq (λi _ hi=>.inl (by rw[hi];exact hq));have M:=N.only oq (by omega);have el:T.heap.size<=(T.setCell ⟨q,12,.none⟩ (.int .i64 (U+1))).heap.size:=Nat.le_of_eq (size_set _ _ _).symm;generalize T.setCell ⟨q,12,.none⟩ (.int .i64 (U+1))=w3 at*;clear o J bk cc ch N cq e5 e7 f2 cr oq;have e8:q<w3.heap.size:=z.lt;have e6:B1<w3.heap.size:=M.lt;have d0:=ce (.pointer (some ⟨q,0,.none⟩)) (M.cell 0);have cs:=ce (.pointer (some ⟨sp,0,.none⟩)) (z.cell 11);have cu:=ci (U+1) (z.cell 12);refine wret 8 ?_;repeat (go_big_quiet_step (fail))
 refine wqn λw4 I=>?_;have b5:=z.below I;have b8:=b7.below I;have bv:=bu.below I;have cf:=cd.below I;have bg:=M.below I;have ck:=cj.trans (Only.of_below (F:=λ_=>False) I) (λ_ _ y=>y.elim);have em:=I.size;clear z b7 bu cd cj M e8 e6 d0 cs cu;have bb:=zz4 (pc':=U+1) b8 (by simp);replace bb:=hd' bb;go_upto_region 9 with(go_at_call 124;(with_reducible refine bb.out.mono ?_);rintro r w5 ⟨rfl,S,b9⟩);have e0:¬foot sp sl q:=λe=>(B q e).2 rfl;have bq:=b5.only S e0
 have bw:=bv.only S (λi hi e=>by
  rcases O i hi with y|y
  .exact(V i y).2.2 e
  .have:=b2 i (.inr e);omega)
 have e3:=cf.only S (λe=>hp (B p e).1) (λe=>hb (B b e).1);have bh:=bg.only S (λe=>by have:=b2 B1 (.inr e);omega);have ea:=ck.trans S (λi _ hi=>.inl (B i hi).1);have ep:=S.size;have cz:yH [(⟨ok,U,[oa,on,0,0,0,0,0,0]⟩:Fr)] 1 (U+1)=[⟨ok,U+1,[oa,on,0,0,0,0,0,0]⟩]:=rfl;rw[cz]at b9;clear b5 b8 bv cf ck bg bb;have es:B1<w5.heap.size:=bh.lt;have g0:=ce (.pointer (some ⟨q,0,.none⟩)) (bh.cell 0)
 have e1:=hd' (L w5 bq b9 bw (λi hi=>by
  rcases O i hi with y|y
  .have:=b0 i y;omega
  .omega))
 have cy:=hd' (λW r hT=>bi W r w5 e3 ea bw (λi hi=>by
  rcases O i hi with y|y
  .exact .inl y
  .exact .inr (by omega)) hT)
 clear L bi;go_wp2_with (go_at_call 125;(with_reducible refine e1.out.mono ?_);rintro r w6 hT;obtain⟨v6,rfl,cx⟩:=cy _ _ hT);go_returns;exact cx
def AK (w w':World) (e:Ending) (s:Sh) (cl:Int) (j:Jb):Prop:=∃jv,e=.returned jv/\JbO (λi=>w.heap.size<=i/\i<w'.heap.size) w' jv s cl j/\Below w.heap.size w w'
theorem zue{q sp:Nat}{s:Sh}{k:Kl}{i:Bool}{jv:Value}{w:World}(h:aA w q (RB s k i jv (.pointer (some ⟨sp,0,.none⟩))) 161)(hk:1<=k.op.k/\k.op.k<=4):
  Calls Tryz.prog 98 #[some q] w λe w'=>AK w w' e s k.c (ZB s k.c k.first k.op.k k.op.a k.op.n):=by
 have I:=λW=>ZW s k.c k.op.n k.first W;have J:=λW=>aW s k.c k.op.a W;have L:=λW=>z3p s k.c k.op.a k.op.n k.first W;have M:=λW=>z2a s k.c k.op.a W;have S:(k.op.k=1/\ZB s k.c k.first k.op.k k.op.a k.op.n=.mal (mB s k.c k.op.n k.first) none)\/(k.op.k=2/\ZB s k.c k.first k.op.k k.op.a k.op.n=.fre (uB s k.c k.op.a))\/(k.op.k=3/\ZB s k.c k.first k.op.k k.op.a k.op.n=.aga (pD s k.c k.op.a k.op.n k.first))\/(k.op.k=4/\ZB s k.c k.first k.op.k k.op.a k.op.n=.hei (qD s k.c k.op.a)):=by
  have:k.op.k=1\/k.op.k=2\/k.op.k=3\/k.op.k=4:=by omega
  rcases this with e|e|e|e
  .exact .inl ⟨e,by rw[e];rfl⟩
  .exact .inr (.inl ⟨e,by rw[e];rfl⟩)
  .exact .inr (.inr (.inl ⟨e,by rw[e];rfl⟩))
  exact .inr (.inr (.inr ⟨e,by rw[e];rfl⟩))
 obtain⟨j,b1⟩:∃j,j=ZB s k.c k.first k.op.k k.op.a k.op.n:=⟨_,rfl⟩;rw[<-b1]at S|-;clear b1 hk;have b0:=λ(Y:World) (q:Nat) (h:aA Y q (YA s (uB s k.c k.op.a) (.pointer none)) 246)=>PX h;generalize mB s k.c k.op.n k.first=b3 at*;generalize uB s k.c k.op.a=Z at*;generalize pD s k.c k.op.a k.op.n k.first=b2 at*;generalize qD s k.c k.op.a=V at*;obtain⟨B,N,⟨ok,oa,on⟩,kj,kt,ks⟩:=k;dsimp only at S I J L M|-
 have o:=hd' (λ(X Y W:World) (q1 E:Nat) (D:Below w.heap.size w X) (hO:RsO (λi=>X.heap.size<=i/\i<Y.heap.size) Y q1 s b3) (hb:Below X.heap.size X Y) (hE:aA W E (QG s B (.pointer (some ⟨q1,0,.none⟩)) (.pointer none)) 208) (b4:Y.heap.size<=E) (hW:Below Y.heap.size Y W)=>
  (⟨_,rfl,⟨E,rfl,λi hi=>hi.2,⟨Nat.le_trans (Nat.le_trans D.size hb.size) b4,hE.lt⟩,q1,0,λi=>X.heap.size<=i/\i<Y.heap.size,λi hi=>⟨⟨Nat.le_trans D.size hi.1,Nat.lt_of_lt_of_le hi.2 hW.size⟩,λe=>by omega⟩,hE,hO.bel hW,λx hx=>(by cases hx)⟩,qA (qA D hb) hW⟩:AK w W (.returned (.iface 203 (.pointer (some ⟨E,0,.none⟩)))) s B (.mal b3 none)))
 have p:=hd' (λ(X Y:World) (q1:Nat) (D:Below w.heap.size w X) (h1:X.heap.size<=q1) (b:aA Y q1 (YA s Z (.pointer none)) 246) (hb:Below X.heap.size X Y)=>
  (⟨_,rfl,⟨q1,rfl,⟨Nat.le_trans D.size h1,b.lt⟩,(b0 Y q1 b).2.imp (λq2 hh=>⟨hh.1,λe=>by have:=hh.2 e;rw[this];exact⟨Nat.le_trans D.size h1,b.lt⟩⟩)⟩,qA D hb⟩:AK w Y (.returned (.iface 212 (.agg #[some q1]))) s B (.fre Z)))
 have y:=hd' (λ(X Y:World) (q1:Nat) (D:Below w.heap.size w X) (b:RrO (λi=>X.heap.size<=i/\i<Y.heap.size) Y q1 s b2) (hb:Below X.heap.size X Y)=>
  (⟨_,rfl,⟨q1,rfl,b.weak (λi hi=>⟨Nat.le_trans D.size hi.1,hi.2⟩) (λi hi=>hi.2)⟩,qA D hb⟩:AK w Y (.returned (.iface 216 (.agg #[some q1]))) s B (.aga b2)))
 have z:=hd' (λ(X Y:World) (q1:Nat) (D:Below w.heap.size w X) (h1:X.heap.size<=q1) (b:aA Y q1 (CA s V) 252) (hb:Below X.heap.size X Y)=>
  (⟨_,rfl,⟨q1,rfl,⟨Nat.le_trans D.size h1,b.lt⟩,b⟩,qA D hb⟩:AK w Y (.returned (.iface 220 (.agg #[some q1]))) s B (.hei V)))
 clear b0;obtain⟨l,F,G⟩:=s;dsimp only[RB]at h;dsimp only at I J L M;replace I:=hd' I;replace J:=hd' J;replace L:=hd' L;replace M:=hd' M;have O:q<w.heap.size:=h.lt;have H:=h.cell;rcases S with⟨rfl,T⟩|⟨rfl,T⟩|⟨rfl,T⟩|⟨rfl,T⟩;case inl=>
  subst T;clear J L M p y z;go_in;go_upto_region 3 with fail;have hd:=h.drew;have bd:Below w.heap.size w w.drew:=br.drew;clear O H h;have O:q<w.drew.heap.size:=hd.lt;have hS:=hd' (λ(Y:World) (b:aA Y q #[l,F,G,B,N,.int .i64 1,oa,on,jv,i,kt,some sp,ks] 161)=>(⟨b.cell 0,b.cell 1,b.cell 2,b.cell 3,b.cell 4,b.cell 7⟩:Y.cell? ⟨q,0,.none⟩=some (.int .i64 l)/\Y.cell? ⟨q,1,.none⟩=some (.int .i64 F)/\Y.cell? ⟨q,2,.none⟩=some (.int .i64 G)/\Y.cell? ⟨q,3,.none⟩=some (.int .i64 B)/\Y.cell? ⟨q,4,.none⟩=some (.int .i64 N)/\Y.cell? ⟨q,7,.none⟩=some (.int .i64 on)))
  go_region_held3 (λY=>Y.cell? ⟨q,0,.none⟩=some (.int .i64 l)/\Y.cell? ⟨q,1,.none⟩=some (.int .i64 F)/\Y.cell? ⟨q,2,.none⟩=some (.int .i64 G)/\Y.cell? ⟨q,3,.none⟩=some (.int .i64 B)/\Y.cell? ⟨q,4,.none⟩=some (.int .i64 N)/\Y.cell? ⟨q,7,.none⟩=some (.int .i64 on))
   (first|exact hS _ hd|exact hS _ h1|exact hS _ (h1.alloc _))
   (first|(go_at_call 128;refine(I _).mono ?_;rintro r R ⟨q1,rfl,C,m⟩;have h1:=hd.below m))
  go_wp2_with fail;go_returns;exact o w.drew R _ q1 R.heap.size bd C m (jA _ _) lr (br.alloc lr _)
 case inr.inl=>
  subst T;clear I L M o y z;go_in;go_upto_region 5 with fail;have hd:=h.drew;have bd:Below w.heap.size w w.drew:=br.drew;clear O H h;have O:q<w.drew.heap.size:=hd.lt;have hS:=hd' (λ(Y:World) (b:aA Y q #[l,F,G,B,N,.int .i64 2,oa,on,jv,i,kt,some sp,ks] 161)=>(⟨b.cell 0,b.cell 1,b.cell 2,b.cell 3,b.cell 6⟩:Y.cell? ⟨q,0,.none⟩=some (.int .i64 l)/\Y.cell? ⟨q,1,.none⟩=some (.int .i64 F)/\Y.cell? ⟨q,2,.none⟩=some (.int .i64 G)/\Y.cell? ⟨q,3,.none⟩=some (.int .i64 B)/\Y.cell? ⟨q,6,.none⟩=some (.int .i64 oa)))
  go_region_held3 (λY=>Y.cell? ⟨q,0,.none⟩=some (.int .i64 l)/\Y.cell? ⟨q,1,.none⟩=some (.int .i64 F)/\Y.cell? ⟨q,2,.none⟩=some (.int .i64 G)/\Y.cell? ⟨q,3,.none⟩=some (.int .i64 B)/\Y.cell? ⟨q,6,.none⟩=some (.int .i64 oa))
   (first|exact hS _ hd|exact hS _ h1|exact hS _ (h1.alloc _))
   (first|(go_at_call 129;refine(J _).mono ?_;rintro r R ⟨q1,rfl,U,C,m⟩;have h1:=hd.below m))
  go_wp2_with fail;go_returns;exact p w.drew R q1 bd U C m
 case inr.inr.inl=>
  subst T;clear I J M o p z;go_in;go_upto_region 7 with fail;have hd:=h.drew;have bd:Below w.heap.size w w.drew:=br.drew;clear O H h;have O:q<w.drew.heap.size:=hd.lt;have hS:=hd' (λ(Y:World) (b:aA Y q #[l,F,G,B,N,.int .i64 3,oa,on,jv,i,kt,some sp,ks] 161)=>(⟨b.cell 0,b.cell 1,b.cell 2,b.cell 3,b.cell 4,b.cell 6,b.cell 7⟩:Y.cell? ⟨q,0,.none⟩=some (.int .i64 l)/\Y.cell? ⟨q,1,.none⟩=some (.int .i64 F)/\Y.cell? ⟨q,2,.none⟩=some (.int .i64 G)/\Y.cell? ⟨q,3,.none⟩=some (.int .i64 B)/\Y.cell? ⟨q,4,.none⟩=some (.int .i64 N)/\Y.cell? ⟨q,6,.none⟩=some (.int .i64 oa)/\Y.cell? ⟨q,7,.none⟩=some (.int .i64 on)))
  go_region_held3 (λY=>Y.cell? ⟨q,0,.none⟩=some (.int .i64 l)/\Y.cell? ⟨q,1,.none⟩=some (.int .i64 F)/\Y.cell? ⟨q,2,.none⟩=some (.int .i64 G)/\Y.cell? ⟨q,3,.none⟩=some (.int .i64 B)/\Y.cell? ⟨q,4,.none⟩=some (.int .i64 N)/\Y.cell? ⟨q,6,.none⟩=some (.int .i64 oa)/\Y.cell? ⟨q,7,.none⟩=some (.int .i64 on))
   (first|exact hS _ hd|exact hS _ h1|exact hS _ (h1.alloc _))
   (first|(go_at_call 130;refine(L _).mono ?_;rintro r R ⟨q1,rfl,C,m⟩;have h1:=hd.below m))
  go_wp2_with fail;go_returns;exact y w.drew R q1 bd C m
 case inr.inr.inr=>
  subst T;clear I J L o p y;go_in;go_upto_region 8 with fail;have hd:=h.drew;have bd:Below w.heap.size w w.drew:=br.drew;clear O H h;have O:q<w.drew.heap.size:=hd.lt;have hS:=hd' (λ(Y:World) (b:aA Y q #[l,F,G,B,N,.int .i64 4,oa,on,jv,i,kt,some sp,ks] 161)=>(⟨b.cell 0,b.cell 1,b.cell 2,b.cell 3,b.cell 6⟩:Y.cell? ⟨q,0,.none⟩=some (.int .i64 l)/\Y.cell? ⟨q,1,.none⟩=some (.int .i64 F)/\Y.cell? ⟨q,2,.none⟩=some (.int .i64 G)/\Y.cell? ⟨q,3,.none⟩=some (.int .i64 B)/\Y.cell? ⟨q,6,.none⟩=some (.int .i64 oa)))
  go_region_held3 (λY=>Y.cell? ⟨q,0,.none⟩=some (.int .i64 l)/\Y.cell? ⟨q,1,.none⟩=some (.int .i64 F)/\Y.cell? ⟨q,2,.none⟩=some (.int .i64 G)/\Y.cell? ⟨q,3,.none⟩=some (.int .i64 B)/\Y.cell? ⟨q,6,.none⟩=some (.int .i64 oa))
   (first|exact hS _ hd|exact hS _ h1|exact hS _ (h1.alloc _))
   (first|(go_at_call 131;refine(M _).mono ?_;rintro r R ⟨q1,rfl,U,C,m⟩;have h1:=hd.below m))
  go_wp2_with fail;go_returns;exact z w.drew R q1 bd U C m
structure Wd where
 m:Mem
 l:List (Option Kl)
 tr:List Ev
 lg:List Acc
def Ch.op (x:Ch):Op3:=⟨x.ok,x.oa,x.on⟩
def WE (c:Int):Ev:=⟨0,c,0,0,0,0,0,0⟩
def YE (c:Int):Ev:=⟨1,c,0,0,0,0,0,0⟩
def Mem.put (m:Mem) (a x:Int):Mem:=⟨m.ws.set a.toNat x,m.st,m.la⟩
def sB (s:Sh):Wd:=⟨DF (xB s.p s.c s.m).toNat,List.replicate s.c.toNat none,[],[]⟩
def Wd.kl (d:Wd) (c:Int):Option Kl:=if 0<=c then d.l.getD c.toNat none else none
def Wd.stat (d:Wd) (c:Int):Int:=XD (d.m.get c)
def Wd.begin (s:Sh) (d:Wd) (x:Ch):Wd×Int:=
 if d.stat x.client=0 then (⟨d.m.put x.client (ZA 1 0),d.l.set x.client.toNat (some (DE x.client (Fl.jD x.bias s.p))),d.tr ++ [WE x.client],d.lg⟩,0) else (d,5)
def Wd.step (s:Sh) (d:Wd) (c:Int) (k:Kl):Wd×Int:=
 (⟨(k.step s d.m).2.1,d.l.set c.toNat (some (k.step s d.m).1),d.tr ++ (k.step s d.m).2.2.1,if d.m.st<(k.step s d.m).2.1.st then d.lg ++ [(k.step s d.m).2.1.la] else d.lg⟩,(k.step s d.m).2.2.2)
def Wd.ask (s:Sh) (d:Wd) (x:Ch) (k:Kl):Wd×Int:=
 (⟨d.m,d.l.set x.client.toNat (some (k.invoke s x.op).1),d.tr ++ (k.invoke s x.op).2.1,d.lg⟩,(k.invoke s x.op).2.2)
def Wd.kill (d:Wd) (c:Int):Wd×Int:=(⟨d.m.put c (ZA 2 0),d.l.set c.toNat none,d.tr ++ [YE c],d.lg⟩,0)
def Ch.bad (s:Sh) (x:Ch):Prop:=x.kind<1\/4<x.kind\/x.client<0\/s.c<=x.client
instance (s:Sh) (x:Ch):Decidable (x.bad s):=by unfold Ch.bad;infer_instance
def Wd.act (s:Sh) (d:Wd) (x:Ch):Wd×Int:=
 if x.bad s then (d,1)
 else if x.kind=1 then d.begin s x
 else match d.kl x.client with
  |none=>(d,2)
  |some k=>if x.kind=3 then d.step s x.client k else if x.kind=2 then d.ask s x k else d.kill x.client
structure wdOk (s:Sh) (d:Wd) (n:Nat):Prop where
 fi:Fits s d.m
 fit:d.m.fit
 len:d.l.length=s.c.toNat
 kl:∀c k,d.kl c=some k->klOk s k/\k.c=c/\0<=c/\c<s.c
 st:0<=d.m.st/\d.m.st<=n
 tr:d.tr.length<=3*n
 lg:d.lg.length=d.m.st
theorem Wd.rC{d:Wd}{c:Int}{k:Kl}(h:d.kl c=some k):0<=c/\c.toNat<d.l.length:=by
 unfold Wd.kl at h;split at h
 .rename_i h0;by_cases hc:c.toNat<d.l.length
  .exact⟨h0,hc⟩
  rw[List.getD_eq_getElem?_getD,List.getElem?_eq_none (by omega)]at h;simp at h
 cases h
theorem MM{b:Type}(l:List (Option b))(i j:Nat)(v:Option b)(hi:i<l.length):(l.set i v).getD j none=if i=j then v else l.getD j none:=by
 rw[List.getD_eq_getElem?_getD,List.getD_eq_getElem?_getD,List.getElem?_set];by_cases h:i=j
 .subst h;simp[hi]
 simp[h]
theorem Wd.IB(d:Wd){x:Int}(b:0<=x)(hi:x.toNat<d.l.length)(v:Option Kl)(m:Mem)(tr:List Ev)(lg:List Acc)(c:Int):(⟨m,d.l.set x.toNat v,tr,lg⟩:Wd).kl c=if c=x then v else d.kl c:=by
 unfold Wd.kl;dsimp only;by_cases h0:0<=c
 .rw[jP h0,jP h0,MM _ _ _ _ hi];by_cases h:c=x
  .rw[jP (by omega),jP h]
  rw[jN (by omega),jN h]
 rw[jN h0,jN h0,jN (by omega)]
theorem Mem.xT{m:Mem}(h:m.fit)(a x:Int)(b:0<=x/\x<18446744073709551616):(m.put a x).fit:=xQ h b
theorem Kl.z0d(k:Kl)(j:Jb):(k.tells j).length<=3:=by
 unfold Kl.tells;rw[List.length_append];have h1:(if j.gave=true/\k.told=false then [VE k.c k.op.a] else []).length<=1:=by split<;>simp
 have h2:(if j.done=true then(match j.took with|some b=>[GE k.c b.at' b.len]|none=>[])++[RA k.c k.op (DB j.took) j.err] else []).length<=2:=by
  split
  .rw[List.length_append];have:(match j.took with|some b=>[GE k.c b.at' b.len]|none=>[]).length<=1:=by cases j.took<;>simp
   simp;omega
  simp
 exact Nat.add_le_add h1 h2
theorem Kl.vX(s:Sh)(k:Kl)(m:Mem):(k.step s m).2.2.1.length<=3:=by
 unfold Kl.step;split
 .simp
 exact Kl.z0d _ _
theorem Kl.nV(s:Sh)(k:Kl)(o:Op3):(k.invoke s o).2.1.length<=2:=by
 unfold Kl.invoke;split
 .simp
 split
 .simp
 split<;>simp
theorem EM{s:Sh}(h:mayB s.p s.c s.m=true):wdOk s (sB s) 0:=by
 have f:0<=xB s.p s.c s.m:=(z6x _ _ _).1;refine⟨⟨h,?_⟩,zV _,by simp[sB],λc k b=>?_,⟨Int.le_refl _,Int.le_refl _⟩,by simp[sB],rfl⟩
 .show (((List.replicate _ (0:Int)).length:Nat):Int)=_;rw[List.length_replicate];omega
 unfold Wd.kl sB at b;dsimp only at b;rw[List.getD_eq_getElem?_getD,List.getElem?_replicate]at b;split at b
 .split at b<;>simp at b
 cases b
theorem zkh{s:Sh}{k:Kl}{m:Mem}(h:klOk s k)(i:Fits s m)(b:m.fit):(k.job=none/\k.step s m=(k,m,[],2))\/(∃j,k.job=some j/\Acts k.c m (k.step s m).2.1/\klOk s (k.step s m).1/\(k.step s m).2.2.2=0):=by
 rcases hj:k.job with _|j
 .exact .inl ⟨rfl,by unfold Kl.step;rw[hj]⟩
 have f:=OW h hj i b;exact .inr ⟨j,rfl,f.1,f.2,by unfold Kl.step;rw[hj]⟩
theorem bF{s:Sh}{d:Wd}{n:Nat}(h:wdOk s d n)(x:Ch):wdOk s (d.act s x).1 (n+1):=by
 have D:=h.fi.may;have hb:=h.fi.bd;have h1:=h.st;have h2:=h.tr;have h3:=h.lg;have h0:wdOk s d (n+1):=⟨h.fi,h.fit,h.len,h.kl,⟨h1.1,by omega⟩,by omega,h3⟩;unfold Wd.act;split
 .exact h0
 rename_i p;unfold Ch.bad at p;have hc:0<=x.client/\x.client<s.c:=by omega
 have hi:x.client.toNat<d.l.length:=by rw[h.len];omega
 have f:∀(v:Option Kl),(∀k,v=some k->klOk s k/\k.c=x.client)->∀(m:Mem) tr lg c k,(⟨m,d.l.set x.client.toNat v,tr,lg⟩:Wd).kl c=some k->klOk s k/\k.c=c/\0<=c/\c<s.c:=λv y m tr lg c k i=>by
  rw[d.IB hc.1 hi]at i;split at i
  .rename_i e;subst e;exact⟨(y k i).1,(y k i).2,hc⟩
  exact h.kl c k i
 split
 .unfold Wd.begin;split
  .refine⟨h.fi.dG (by simp[Mem.put]),Mem.xT h.fit _ _ (QH _ _),by simpa using h.len,?_,⟨h1.1,by show d.m.st<=_;omega⟩,by simp;omega,h3⟩;exact f _ (λk i=>by injection i with i;subst i;exact⟨z6w hc (Fl.z2u _ (by omega)),rfl⟩) _ _ _
  exact h0
 split
 .exact h0
 rename_i k i;have o:=h.kl _ _ i;split
 .have C:=Kl.vX s k d.m;have r:=(z6l s k d.m).1;unfold Wd.step;rcases zkh o.1 h.fi h.fit with⟨B,e⟩|⟨j,B,q,t,F⟩
  .rw[e];dsimp only;rw[jN (by omega)];exact⟨h.fi,h.fit,by simpa using h.len,f _ (λz b=>by injection b with b;subst b;exact⟨o.1,o.2.1⟩) _ _ _,⟨h1.1,by show d.m.st<=_;omega⟩,by simp;omega,h3⟩
  have E:=q.st;rw[jP (by omega)];refine⟨q.fits h.fi,q.fit h.fit,by simpa using h.len,f _ (λz b=>by injection b with b;subst b;exact⟨t,r.trans o.2.1⟩) _ _ _,⟨by dsimp only;omega,by dsimp only;omega⟩,by simp;omega,by simp;omega⟩
 split
 .have C:=Kl.nV s k x.op;unfold Wd.ask;exact⟨h.fi,h.fit,by simpa using h.len,f _ (λz b=>by injection b with b;subst b;exact⟨GX x.op D o.1,(rY s k x.op).1.trans o.2.1⟩) _ _ _,⟨h1.1,by dsimp only;omega⟩,by simp;omega,h3⟩
 unfold Wd.kill;exact⟨h.fi.dG (by simp[Mem.put]),Mem.xT h.fit _ _ (QH _ _),by simpa using h.len,f _ (λk i=>by cases i) _ _ _,⟨h1.1,by show d.m.st<=_;omega⟩,by simp;omega,h3⟩
def Told (d:Wd) (c:Int):Prop:=∃l e,d.tr=l ++ [e]/\e.k=5/\e.c=c
def Due (d:Wd) (c i:Int):Prop:=∃k,d.kl c=some k/\((k.job≠none/\k.steps=i)\/(k.job=none/\Told d c))
def NC (c:Int):Ch:=⟨3,c,0,0,0,0⟩
def Wd.goS (s:Sh) (c:Int) (d:Wd):Wd:=match d.kl c with
 |some k=>if k.job.isSome=true then (d.act s (NC c)).1 else d
 |none=>d
def Wd.goN (s:Sh) (c:Int):Nat->Wd->Wd
 | 0,d=>d
 |n+1,d=>(Wd.goN s c n d).goS s c
theorem OH{s:Sh}{d:Wd}{c:Int}{k:Kl}(b:d.kl c=some k)(hc:0<=c/\c<s.c):d.act s (NC c)=d.step s c k:=by
 unfold Wd.act;rw[jN (by unfold Ch.bad NC;dsimp only;omega),jN (show ¬(NC c).kind=1 from (show ¬(3:Int)=1 by decide))];have e:d.kl (NC c).client=some k:=b;rw[e];exact jP rfl
theorem z6c{s:Sh}{d:Wd}{n:Nat}{c:Int}{k:Kl}{j:Jb}(i:wdOk s d n)(f:d.kl c=some k)(o:k.job=some j):(d.act s (NC c)).2=0/\Due (d.act s (NC c)).1 c (k.steps+1):=by
 obtain⟨q,b,hc⟩:=i.kl _ _ f;rw[OH f hc];have hi:c.toNat<d.l.length:=by rw[i.len];omega
 have e:k.step s d.m=(k.after (j.step s k.c d.m).1,(j.step s k.c d.m).2,k.tells (j.step s k.c d.m).1,0):=by unfold Kl.step;rw[o]
 unfold Wd.step;rw[e];dsimp only;refine⟨rfl,k.after (j.step s k.c d.m).1,?_,?_⟩
 .rw[d.IB hc.1 hi,jP rfl]
 unfold Kl.after;dsimp only;by_cases hd:(j.step s k.c d.m).1.done=true
 .rw[jP hd];refine .inr ⟨rfl,?_⟩
  obtain⟨l,p⟩:∃l,d.tr++k.tells (j.step s k.c d.m).1=l++[RA k.c k.op (DB (j.step s k.c d.m).1.took) (j.step s k.c d.m).1.err]:=
   ⟨_,by unfold Kl.tells;rw[jP hd,<- List.append_assoc,<- List.append_assoc]⟩
  exact⟨l,_,p,rfl,b⟩
 rw[jN hd];exact .inl ⟨by simp,rfl⟩
theorem CN{s:Sh}{d:Wd}{n:Nat}{c i:Int}(f:wdOk s d n)(h:Due d c i)(hi:110*s.p+4*s.m+60<=i):∃k,d.kl c=some k/\k.job=none/\Told d c:=by
 obtain⟨k,b,h1|h1⟩:=h
 .rcases hj:k.job with _|j
  .exact absurd hj h1.1
  have:=cU (f.kl _ _ b).1 (by have:=f.fi.bd;omega) hj;omega
 exact⟨k,b,h1⟩
theorem uI{s:Sh}{d:Wd}{c:Int}{k:Kl}(f:d.kl c=some k)(b:k.job=none):d.goS s c=d:=by
 unfold Wd.goS;rw[f];dsimp only;rw[b,jN (by simp)]
theorem mH{s:Sh}{d:Wd}{c:Int}{k:Kl}(f:d.kl c=some k)(b:k.job≠none):d.goS s c=(d.act s (NC c)).1:=by
 unfold Wd.goS;rw[f];dsimp only;rw[jP (by rcases h:k.job with _|j;exact absurd h b;rfl)]
theorem VQ{s:Sh}{d:Wd}{n:Nat}{c:Int}(b:wdOk s d n):wdOk s (d.goS s c) (n+1):=by
 have h:=bF b (NC c);have f:wdOk s d (n+1):=⟨b.fi,b.fit,b.len,b.kl,⟨b.st.1,by have:=b.st.2;omega⟩,by have:=b.tr;omega,b.lg⟩;unfold Wd.goS;split
 .split
  .exact h
  exact f
 exact f
theorem QD{s:Sh}{d:Wd}{n:Nat}{c:Int}(b:wdOk s d n)(i:Nat):wdOk s (d.goN s c i) (n+i):=by
 induction i with
 |zero=>exact b
 |succ i f=>exact VQ f
theorem xI{s:Sh}{d:Wd}{c:Int}{i:Nat}{k:Kl}(f:(d.goN s c i).kl c=some k)(b:k.job=none)(m:Nat):d.goN s c (i+m)=d.goN s c i:=by
 induction m with
 |zero=>rfl;|succ m j=>show (d.goN s c (i+m)).goS s c=_;rw[j,uI f b]
theorem lJ{s:Sh}{d:Wd}{n:Nat}{c a:Int}(f:wdOk s d n)(h:Due d c a)(i:Nat):Due (d.goN s c i) c (a+i):=by
 induction i with
 |zero=>show Due d c (a+((0:Nat):Int));rw[show a+((0:Nat):Int)=a by omega];exact h
 |succ i l=>
  obtain⟨k,b,h1|h1⟩:=l
  .have e:d.goN s c (i+1)=((d.goN s c i).act s (NC c)).1:=mH b h1.1;rcases hj:k.job with _|j
   .exact absurd hj h1.1
   rw[e];have h2:=(z6c (QD f i) b hj).2;rw[h1.2]at h2;rw[show a+((i+1:Nat):Int)=a+i+1 by omega];exact h2
  have e:d.goN s c (i+1)=d.goN s c i:=uI b h1.1;rw[e];exact⟨k,b,.inr h1⟩
theorem MN{s:Sh}{d:Wd}{n:Nat}{x:Ch}(o:wdOk s d n)(p:x.kind=2)(h:(d.act s x).2=0):0<=x.client/\x.client<s.c/\Due (d.act s x).1 x.client 0:=by
 unfold Wd.act at h|-;by_cases hb:x.bad s
 .rw[jP hb]at h;exact absurd h (show (1:Int)≠0 by decide)
 rw[jN hb]at h|-;unfold Ch.bad at hb;have hc:0<=x.client/\x.client<s.c:=by omega
 refine⟨hc.1,hc.2,?_⟩;rw[jN (by omega)]at h|-;cases hk:d.kl x.client with
 |none=>rw[hk]at h;exact absurd h (show (2:Int)≠0 by decide);|some k=>
  rw[hk]at h;dsimp only at h|-;rw[jN (by omega),jP p]at h|-;have hi:x.client.toNat<d.l.length:=by rw[o.len];omega
  have m:=(o.kl _ _ hk).2.1;unfold Wd.ask at h|-;dsimp only at h|-;refine⟨(k.invoke s x.op).1,by rw[d.IB hc.1 hi,jP rfl],?_⟩;unfold Kl.invoke at h|-;split at h
  .exact absurd h (show (4:Int)≠0 by decide)
  rename_i b;split at h
  .exact absurd h (show (1:Int)≠0 by decide)
  rename_i i;rw[jN b,jN i];have f:k.job=none:=by
   unfold Kl.rests at b;rcases hj:k.job with _|j
   .rfl
   rw[hj]at b;simp at b
  split
  .refine .inr ⟨f,?_⟩;exact⟨d.tr++[NA k.c x.op],RA k.c x.op 0 (MC s k.c x.op.k x.op.a x.op.n),by simp,rfl,m⟩
  exact .inl ⟨by simp,rfl⟩
def GA (s:Sh):Nat:=(110*s.p+4*s.m+60).toNat
def askW (s:Sh) (d:Wd) (c:Int) (o:Op3):Wd:=(d.act s ⟨2,c,o.k,o.a,o.n,0⟩).1.goN s c (GA s)
def PB (d:Wd):Int:=match d.tr.getLast? with
 |some e=>e.er
 |none=>0
theorem WN{s:Sh}{d:Wd}{n:Nat}{c:Int}{o:Op3}(b:wdOk s d n)(h:(d.act s ⟨2,c,o.k,o.a,o.n,0⟩).2=0):∃k,(askW s d c o).kl c=some k/\k.job=none/\Told (askW s d c o) c:=by
 have hb:=b.fi.bd;have h1:=MN b (x:=⟨2,c,o.k,o.a,o.n,0⟩) rfl h;have h2:=lJ (bF b _) h1.2.2 (GA s);exact CN (QD (bF b _) _) h2 (by unfold GA;omega)
section

def sT:Sh:=⟨2,1,1⟩
theorem tM:GA sT=284:=by decide
theorem qR(a b c d:Value)(w:World):(Instr.field 87 (.agg #[a,b,c,d]) 0).run Tryz.prog w=.ok a w:=by kernel_rfl
attribute [local go_sem ↓] qR

end

end Go.Proofs.YtkilokkopbajkaaGreat
