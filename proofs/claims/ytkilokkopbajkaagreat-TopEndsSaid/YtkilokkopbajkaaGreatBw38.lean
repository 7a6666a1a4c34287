
import Derived.Test.YtkilokkopbajkaaGreatBw37

set_option linter.all false
set_option maxHeartbeats 8000000
set_option maxRecDepth 100000
namespace Go.Proofs.YtkilokkopbajkaaGreat

open RowKit

attribute [local go_sem ↓] wp_at_zero wp_at_succ

section

open RowKit Go.ChangeShapes Go.WideShapes Go.ChangeAt

section

variable {H:Type}{enc:TypeId×Value->H}{P:Program}{w:World}

theorem z7d{t:TypeId}{k:FloatKind}{cs:List Value}(j:P.underlying t=some (.float k))(h:Rd enc P w t cs):∃b,cs=[.float k b]/\(Lit.float k b).wf=true:=by
 obtain⟨f,x,i⟩:=h;cases f with
 |zero=>simp[DataW.trod]at i;|succ n=>unfold DataW.trod at i;rw[j]at i;split at i<;>simp_all
end

end

section

variable {B:Nat}{F:Nat->Prop}{W W1 W2:World}{g:Nat}{s:Sh}{d d2:Wd}{x:Wx}{n:Nat}

theorem ZQ(h:WdP B F W g s d x)(b:B<=W.heap.size)(j:wdOk s d n)(i:n<=30000000)(c:Int)(hc:0<=c/\c<s.c):
  Calls Tryz.prog 11 #[some g,.agg #[.int .i64 3,c,.int .i64 0,.int .i64 0,.int .i64 0,.float .f64 0]] W λe w'=>e=.returned (.int .i64 (d.act s (NC c)).2)/\WdTq (λq=>q=x.qs) B F W w' g s (d.act s (NC c)).1:=
 (qT h b j i (NC c) (by unfold Ch.bad NC;dsimp only;omega)).mono λe w' h=>⟨h.1,h.2.imp λq e=>e rfl⟩
def TrAt (w:World) (v:Value) (c er:Int):Prop:=∃b off cap m:Nat,v=.slice (some ⟨b,off,.none⟩) (m+1) cap/\m+1<=cap/\(cap:Int)<=9223372036854775807/\b<w.heap.size/\w.cell? ⟨b,off+m*8,.none⟩=some (.int .i64 5)/\w.cell? ⟨b,off+m*8+1,.none⟩=some (.int .i64 c)/\w.cell? ⟨b,off+m*8+7,.none⟩=some (.int .i64 er)
theorem ZN(l:List Ev)(e:Ev)(k:Nat)(i:k<8):((l++[e]).flatMap λe=>e.cells.toList)[l.length*8+k]?=e.cells.toList[k]?:=by
 have b:(l.flatMap λe=>e.cells.toList).length=l.length*8:=by
  induction l with
  |nil=>rfl
  |cons a l f=>rw[List.flatMap_cons,List.length_append,f];show 8+_=(l.length+1)*8;omega
 rw[List.flatMap_append,List.getElem?_append_right (by omega),b,show l.length*8+k-l.length*8=k by omega];simp
theorem yg2(h:WdP B F W g s d x)(y:d.tr.length<=100000000)(c:Int)(D:Told d c):
  Calls Tryz.prog 26 #[some g] W λe w'=>Below W.heap.size W w'/\∃v,e=.returned v/\TrAt w' v c (PB d):=by
 obtain⟨l,m,h1,h2,h3⟩:=D;refine(rM h y).mono λe w' ⟨v,p,q,r⟩=>⟨q,v,p,?_⟩;obtain⟨ao,cap,rfl,hc,z,_,C⟩:=RdS.lD r;have j:d.tr.length=l.length+1:=by rw[h1];simp
 obtain⟨b,o,rfl,hb,i⟩:=C (by omega);have t:PB d=m.er:=by unfold PB;rw[h1];simp
 rw[t];refine⟨b,o,cap,l.length,by rw[j],by omega,z,hb,?_,?_,?_⟩
 .refine(i (l.length*8) (by rw[j];omega)).trans ?_;rw[h1];refine(ZN l m 0 (by omega)).trans ?_;rw[<-h2];rfl
 .rw[Nat.add_assoc];refine(i (l.length*8+1) (by rw[j];omega)).trans ?_;rw[h1];refine(ZN l m 1 (by omega)).trans ?_;rw[<-h3];rfl
 rw[Nat.add_assoc];refine(i (l.length*8+7) (by rw[j];omega)).trans ?_;rw[h1];exact ZN l m 7 (by omega)
theorem pJ(h:WdP B F W g s d x)(hB:B<=W.heap.size)(ho:wdOk s d n)(hn:n+1+GA s<=30000000)(c:Int)(o:Op3):
  Calls Tryz.prog 18 #[some g,.agg #[s.p,s.c,s.m],c,.agg #[o.k,o.a,o.n]] W λe w'=>
   (if (d.act s ⟨2,c,o.k,o.a,o.n,0⟩).2=0 then e=.returned (.tuple #[.int .i64 (PB (askW s d c o)),.bool true])/\WdTo B F W w' g s (askW s d c o)
    else e=.returned (.tuple #[.int .i64 0,.bool false])/\WdTo B F W w' g s (d.act s ⟨2,c,o.k,o.a,o.n,0⟩).1):=by
 have hm:=ho.fi.may;have b6:=λY=>YN s hm Y;have bp:=((Below.refl W.heap.size W).alloc lr (.cells #[s.p,s.c,s.m] 23));have b4:=bp.alloc bp.size (.cells #[o.k,o.a,o.n] 32);obtain⟨rA,rO,e4,_⟩:=vE W (.cells #[s.p,s.c,s.m] 23) (.cells #[o.k,o.a,o.n] 32);have tA:aA ((W.alloc (.cells #[s.p,s.c,s.m] 23)).alloc (.cells #[o.k,o.a,o.n] 32)) W.heap.size #[s.p,s.c,s.m] 23:=rA;have tO:aA ((W.alloc (.cells #[s.p,s.c,s.m] 23)).alloc (.cells #[o.k,o.a,o.n] 32)) (W.heap.size+1) #[o.k,o.a,o.n] 32:=rO;have cx:∀(p:Nat) (W:World),(binOp .eql 57 (.pointer (some ⟨p,0,.none⟩)) (.pointer none)).run Tryz.prog W=.ok (.bool false) W:=λp W=>by kernel_rfl
 clear rA rO bp;have z:=bF ho ⟨2,c,o.k,o.a,o.n,0⟩;have I:=λe=>MN ho (x:=⟨2,c,o.k,o.a,o.n,0⟩) rfl e;obtain⟨b1,E,bc⟩:=hidv (askW s d c o);rw[<-bc];clear bc;replace E:=hd' (E.out.trans (show askW s d c o=(d.act s ⟨2,c,o.k,o.a,o.n,0⟩).1.goN s c (GA s) from rfl));obtain⟨d1,cp,bg⟩:∃b,Hid (b=(d.act s ⟨2,c,o.k,o.a,o.n,0⟩).1)/\b=(d.act s ⟨2,c,o.k,o.a,o.n,0⟩).1:=⟨_,hd' rfl,rfl⟩;obtain⟨er,cq,bh⟩:∃b,Hid (b=(d.act s ⟨2,c,o.k,o.a,o.n,0⟩).2)/\b=(d.act s ⟨2,c,o.k,o.a,o.n,0⟩).2:=⟨_,hd' rfl,rfl⟩;rw[<-bg]at E z I|-;rw[<-bh]at I|-;clear bg bh;go_in;go_upto_region 1 with fail;generalize (W.alloc (.cells #[s.p,s.c,s.m] 23)).alloc (.cells #[o.k,o.a,o.n] 32)=W2 at*;obtain⟨H,hH,c4⟩:=hidv W.heap.size;rw[<-c4]at tA tO|-;clear c4;have cy:=h.below b4;have e7:=tA.lt;have bk:B<=W2.heap.size:=by omega
 have y:∀i,F i->B<=i/\i<H:=λi hi=>by have:=h.lt i hi;have:=hH.out;omega
 have bz:¬F H:=λe=>by have:=(y H e).2;omega
 have V:jK 11 #[some g,.agg #[.int .i64 2,c,o.k,o.a,o.n,.float .f64 0]] W2 λe w'=>e=.returned (.int .i64 (d.act s ⟨2,c,o.k,o.a,o.n,0⟩).2)/\WdTo B F W2 w' g s (d.act s ⟨2,c,o.k,o.a,o.n,0⟩).1:=nK cy bk ho (by omega) ⟨2,c,o.k,o.a,o.n,0⟩;have R:∀w' dd,WdTo B F W2 w' g s dd->WdTo B F W w' g s dd:=λw' dd hk=>WdTo.from h hB b4 hk;rw[<-cp,<- cq]at V;have cd:=tO.cell;have lO:=tO.lt;replace V:=hd' V;replace b6:=hd' b6;replace I:=hd' I;replace R:=hd' R;replace b4:=hd' b4;clear h;by_cases h0:¬er=0
 .have be:(er==0)=false:=by rw[beq_eq_false_iff_ne];exact h0
  go_wp2_with (first|(go_at_call 11;(with_reducible refine V.out.mono ?_);rintro r w3 ⟨rfl,hT⟩));go_returns;exact⟨rfl,R _ _ hT⟩
 replace h0:=Decidable.not_not.1 h0;obtain⟨b5,c6,hD⟩:=I h0;dsimp only at b5 c6 hD;subst h0;obtain⟨k1,c8,_⟩:=id hD;have ck:c.toNat<d1.l.length:=(Wd.rC c8).2;have cu:d1.l.length<=100:=by rw[z.len];have:=ho.fi.bd;omega
 go_upto_region 3 with(first|(go_at_call 11;(with_reducible refine V.out.mono ?_);rintro r w3 ⟨rfl,hT⟩));have tA3:=tA.only hT.2.1 bz;obtain⟨⟨x3,bv⟩,ca,bx⟩:=id hT;have G:=DQ bv c ⟨b5,ck⟩ cu;rw[c8]at G;replace G:Hid (jK 24 #[some g,c] w3 λe w'=>e=.returned (.pointer (some ⟨x3.qs c.toNat,0,.none⟩))/\Below w3.heap.size w3 w'):=hd' G;have b3:WdTq (λq=>q=x3.qs) B F W2 w3 g s d1:=⟨⟨x3,bv,rfl⟩,ca,bx⟩;clear cd lO tO bv ca bx;replace b3:=hd' b3;go_upto_region 6 with(first|(go_at_call 24;(with_reducible refine G.out.mono ?_);rintro r w4 ⟨rfl,bn⟩));have c5:=b3.out.below bk (λi hi=>⟨(y i hi).1,by have:=(y i hi).2;omega⟩) bn;have tA4:=tA3.below bn;generalize x3.qs=Q at*;clear b3 G bn hT tA3;have N:∀i,GA s<=i->∃k,(d1.goN s c i).kl c=some k/\k.job=none:=λi hi=>by obtain⟨k,h1,h2,_⟩:=CN (QD z i) (lJ z hD i) (by unfold GA at hi;omega);exact⟨k,h1,h2⟩
 have hM:GA s<=8000:=by unfold GA;have:=ho.fi.bd;omega
 have cm:0<=c/\c<s.c:=⟨b5,c6⟩;generalize GA s=M at*;replace N:=hd' N;go_wp2;go_loopw [11] (λbw wr=>∃i:Nat,i<=M/\bw=.int .i64 i/\WdTq (λq=>q=Q) B F W2 wr g s (d1.goN s c i)) (λbw _=>M-(intOf bw).toNat);case atStart=>exact⟨0,Nat.zero_le _,rfl,c5⟩
 case round=>
  clear c5 tA4;obtain⟨i,hi,rfl,hT⟩:=hrel;have S:=QD z (c:=c) i;have cg:=lJ z hD i;have cc:=tA.only hT.2.1 bz;have b7:=λk h1 h2=>xI (s:=s) (d:=d1) (c:=c) (i:=i) (k:=k) h1 h2 (M-i);rw[show i+(M-i)=M by omega]at b7;have bs:=λk h1 h2=>(mH (s:=s) (d:=d1.goN s c i) (c:=c) (k:=k) h1 h2:(d1.goN s c i).goS s c=_);have O:d1.goN s c (i+1)=(d1.goN s c i).goS s c:=rfl;have D:=N i;obtain⟨k,hk,bm⟩:=cg;replace E:=E.out;generalize d1.goN s c i=di at*;have b2:=hT;obtain⟨⟨x',U,b9⟩,e3,cf⟩:=hT;replace b9:x'.qs=Q:=b9;have bu:di.l.getD c.toNat none=some k:=by have h1:=hk;unfold Wd.kl at h1;rw[jP b5]at h1;exact h1
  have C:∀Y,jW wr Y->jK 25 #[.pointer (some ⟨Q c.toNat,0,.none⟩)] Y λe w'=>e=.returned (.bool k.rests)/\w'=Y:=λY hb=>by have h1:=AN ((U.below hb).cl c.toNat k bu);rw[b9]at h1;exact h1
  have X:∀Y,jW wr Y->jK 11 #[some g,.agg #[.int .i64 3,c,.int .i64 0,.int .i64 0,.int .i64 0,.float .f64 0]] Y λe w'=>e=.returned (.int .i64 (di.act s (NC c)).2)/\WdTq (λq=>q=Q) B (grow F W2 wr) wr w' g s (di.act s (NC c)).1:=λY hb=>by refine(ZQ (U.below hb) (by have:=hb.size;omega) S (by omega) c cm).mono λe w' h=>⟨h.1,?_⟩;have h2:=h.2;rw[b9]at h2;exact WdTq.from U cf hb h2
  have cz:=cc.cell;have lA:=cc.lt;have e0:(0:Int)<=(i:Int):=by omega
  replace X:=hd' X;by_cases hr:k.job=none
  .have c9:k.rests=true:=by unfold Kl.rests;rw[hr];rfl
   rw[c9]at C;have Z:Told di c:=bm.elim (λh=>absurd hr h.1) (λh=>h.2);have bq:b1=di:=E.trans (b7 k hk hr);have cb:di.tr.length<=100000000:=by have:=S.tr;omega
   have ba:=λY (hb:Below wr.heap.size wr Y)=>yg2 (U.below hb) cb c Z;have L:∀Y,jW wr Y->WdTo B F W Y g s di:=λY hb=>R _ _ (b2.below bk (λj hj=>⟨(y j hj).1,by have:=(y j hj).2;omega⟩) hb).to;obtain⟨le,cs,bi⟩:=hidv (PB di);rw[<-bi]at ba;clear bi;replace bq:=hd' bq;clear E b7 bs O D b2 U S bm hk bu Z cb hr c9;replace ba:=hd' ba;replace C:=hd' C;replace L:=hd' L;by_cases cv:i<M;all_goals
    have bj:(i:Int)<(M:Int)\/¬(i:Int)<(M:Int):=by omega
    first
     |(have y:(i:Int)<(M:Int):=by omega)
     |(have y:¬(i:Int)<(M:Int):=by omega)
    clear bj;go_upto_region 11 with(first|(go_at_call 39;refine(b6 _).mono ?_;rintro r w5 ⟨rfl,T⟩)|(go_at_call 25;(with_reducible refine(C _ T).mono ?_);rintro r w6 ⟨rfl,b0⟩;obtain rfl:=b0.symm)|(go_at_call 26;(with_reducible refine(ba _ T).mono ?_);rintro r w7 ⟨cj,v,rfl,bb,e8,cap,m,rfl,e1,e2,lb,y0,y1,y7⟩));have b1:((m:Int)+1==0)=false:=by rw[beq_eq_false_iff_ne];omega
    have wm:IntKind.i64.wrap (m:Int)=(m:Int):=IntWalk.i64_in _ ⟨by omega,by omega⟩;have ea:IntKind.i64.wrap ((m:Int)+1-1)=(m:Int):=IntWalk.i64_in _ ⟨by omega,by omega⟩|>.trans (by omega);have e5:(0:Int)<=(m:Int):=by omega
    have e6:(m:Int)<(m:Int)+1:=by omega
    have bf:=qA T cj;go_wp2_with (first|(go_at_call 25;(with_reducible refine(C _ bf).mono ?_);rintro r w6 ⟨rfl,b0⟩;obtain rfl:=b0.symm));go_returns;rw[bq,<- cs];exact⟨rfl,L _ bf⟩
  have c7:k.rests=false:=by
   unfold Kl.rests;rcases hj:k.job with _|j
   .exact absurd hj hr
   rfl
  rw[c7]at C;have cv:i<M:=by
   rcases Nat.lt_or_ge i M with h1|h1
   .exact h1
   obtain⟨k',b8,cr⟩:=D h1;rw[hk]at b8;injection b8 with b8;exact absurd (b8▸cr) hr
  have bj:(i:Int)<(M:Int):=by omega
  have e9:IntKind.i64.wrap ((i:Int)+1)=(i:Int)+1:=IntWalk.i64_in _ ⟨by omega,by omega⟩
  have J:∀Y,WdTq (λq=>q=Q) B (grow F W2 wr) wr Y g s (di.act s (NC c)).1->∃i':Nat,i'<=M/\Value.int .i64 ((i:Int)+1)=.int .i64 i'/\WdTq (λq=>q=Q) B F W2 Y g s (d1.goN s c i'):=λY h=>⟨i+1,by omega,by go_num,by
   rw[O,bs k hk hr]
   exact WdTq.trans b2.to h⟩
  replace J:=hd' J;replace C:=hd' C;clear b2 U S bm E b7 bs O D hk bu hr c7;go_wp2_with (first|(go_at_call 39;refine(b6 _).mono ?_;rintro r w5 ⟨rfl,T⟩)|(go_at_call 25;(with_reducible refine(C _ T).mono ?_);rintro r w6 ⟨rfl,b0⟩;obtain rfl:=b0.symm)|(go_at_call 11;(with_reducible refine(X _ T).mono ?_);rintro r w7 ⟨rfl,ch⟩));exact⟨J _ ch,by simp only[intOf];omega⟩
end

section

def tA0:Wd:=sB sT
def tA1:Wd:=(tA0.act sT ⟨1,0,0,0,0,0⟩).1
def tA2:Wd:=askW sT tA1 0 ⟨1,0,100⟩
def tA3:Wd:=askW sT tA2 0 ⟨1,0,1⟩
def tA4:Wd:=askW sT tA3 0 ⟨2,0,0⟩
theorem tE1:(tA0.act sT ⟨1,0,0,0,0,0⟩).2=0:=by decide +kernel
theorem tE2:(tA1.act sT ⟨2,0,1,0,100,0⟩).2=0:=by decide +kernel
theorem tL2:PB tA2=0:=by decide +kernel
theorem tE3:(tA2.act sT ⟨2,0,1,0,1,0⟩).2=0:=by decide +kernel
theorem tL3:PB tA3=3:=by decide +kernel
theorem tE4:(tA3.act sT ⟨2,0,2,0,0,0⟩).2=0:=by decide +kernel
theorem tL4:PB tA4=0:=by decide +kernel
theorem tF4:(⟨2,1,1,tA4.m.ws⟩:Hp).count.f=128:=by decide +kernel
theorem audT(ws:List Int)(hc:(⟨2,1,1,ws⟩:Hp).count.f=128)(j:∀x∈ws,0<=x/\x<18446744073709551616)(v:Value)(Y:World)(h:RdZ .u64 Y v ws):
  Calls Tryz.prog 37 #[.agg #[.int .i64 2,.int .i64 1,.int .i64 1],v] Y λe w'=>(∃a b c:Value,e=.returned (.agg #[.int .i64 128,a,b,c]))/\Below Y.heap.size Y w':=by
 refine(PQ ⟨2,1,1,ws⟩ v Y h j).mono λe w' i=>?_;have h1:=i.1;rw[hc]at h1;exact⟨⟨_,_,_,h1⟩,i.2⟩
theorem yjk{s:Sh}{d:Wd}{n:Nat}(h:wdOk s d n):∀x∈d.m.ws,0<=x/\x<18446744073709551616:=h.fit
attribute [local go_sem ↓] qR

theorem rR(W:World):Calls Tryz.prog 8 #[] W λe w'=>e=.returned (.bool true)/\Below W.heap.size W w':=by
 have o0:=EM (s:=sT) (by decide);have o1:wdOk sT tA1 1:=bF o0 _;have o2:wdOk sT tA2 286:=by have h:=bO (c:=0) (o:=⟨1,0,100⟩) o1;rw[tM]at h;exact h
 have o3:wdOk sT tA3 571:=by have h:=bO (c:=0) (o:=⟨1,0,1⟩) o2;rw[tM]at h;exact h
 have o4:wdOk sT tA4 856:=by have h:=bO (c:=0) (o:=⟨2,0,0⟩) o3;rw[tM]at h;exact h
 have l:∀Y,jK 10 #[.agg #[.int .i64 2,.int .i64 1,.int .i64 1]] Y λe w'=>Below Y.heap.size Y w'/\∃g v x,e=.returned (.tuple #[.pointer (some ⟨g,0,.none⟩),.pointer (some ⟨v,0,.none⟩)])/\WdP Y.heap.size (λi=>Y.heap.size<=i/\i<w'.heap.size) w' g sT tA0 x:=λY=>UP sT Y (by decide);have bj:∀(p:Nat) (W:World),(binOp .eql 27 (.pointer (some ⟨p,0,.none⟩)) (.pointer none)).run Tryz.prog W=.ok (.bool false) W:=λp W=>by kernel_rfl
 have I:∀(B:Nat) (F:Nat->Prop) X g x,WdP B F X g sT tA0 x->B<=X.heap.size->jK 11 #[some g,.agg #[.int .i64 1,.int .i64 0,.int .i64 0,.int .i64 0,.int .i64 0,.float .f64 0]] X λe w'=>e=.returned (.int .i64 0)/\WdTo B F X w' g sT tA1:=λB F X g x C E=>by have h:=nK C E o0 (by omega) ⟨1,0,0,0,0,0⟩;rw[tE1]at h;exact h
 have J:∀(B:Nat) (F:Nat->Prop) X g x,WdP B F X g sT tA1 x->B<=X.heap.size->jK 18 #[some g,.agg #[.int .i64 2,.int .i64 1,.int .i64 1],.int .i64 0,.agg #[.int .i64 1,.int .i64 0,.int .i64 100]] X λe w'=>e=.returned (.tuple #[.int .i64 0,.bool true])/\WdTo B F X w' g sT tA2:=λB F X g x C E=>by refine(pJ C E o1 (by rw[tM];omega) 0 ⟨1,0,100⟩).mono λe w' q=>?_;dsimp only at q;rw[jP tE2]at q;rw[<-tL2];exact q
 have L:∀(B:Nat) (F:Nat->Prop) X g x,WdP B F X g sT tA2 x->B<=X.heap.size->jK 18 #[some g,.agg #[.int .i64 2,.int .i64 1,.int .i64 1],.int .i64 0,.agg #[.int .i64 1,.int .i64 0,.int .i64 1]] X λe w'=>e=.returned (.tuple #[.int .i64 3,.bool true])/\WdTo B F X w' g sT tA3:=λB F X g x C E=>by refine(pJ C E o2 (by rw[tM];omega) 0 ⟨1,0,1⟩).mono λe w' q=>?_;dsimp only at q;rw[jP tE3]at q;rw[<-tL3];exact q
 have M:∀(B:Nat) (F:Nat->Prop) X g x,WdP B F X g sT tA3 x->B<=X.heap.size->jK 18 #[some g,.agg #[.int .i64 2,.int .i64 1,.int .i64 1],.int .i64 0,.agg #[.int .i64 2,.int .i64 0,.int .i64 0]] X λe w'=>e=.returned (.tuple #[.int .i64 0,.bool true])/\WdTo B F X w' g sT tA4:=λB F X g x C E=>by refine(pJ C E o3 (by rw[tM];omega) 0 ⟨2,0,0⟩).mono λe w' q=>?_;dsimp only at q;rw[jP tE4]at q;rw[<-tL4];exact q
 have N:∀(B:Nat) (F:Nat->Prop) X g x,WdP B F X g sT tA4 x->jK 15 #[some g] X λe w'=>∃v',e=.returned v'/\Below X.heap.size X w'/\RdZ .u64 w' v' tA4.m.ws:=λB F X g x C=>(QQ C).mono λe w' ⟨v,h1,h2,h3⟩=>⟨v,h1,h2,RdS.lD h3⟩
 have j:∀Y v,RdZ .u64 Y v tA4.m.ws->jK 37 #[.agg #[.int .i64 2,.int .i64 1,.int .i64 1],v] Y λe w'=>(∃a b c:Value,e=.returned (.agg #[.int .i64 128,a,b,c]))/\Below Y.heap.size Y w':=λY v h=>audT _ tF4 (yjk o4) v Y h;have b0:=(Below.refl W.heap.size W).alloc lr (.cells #[.int .i64 2,.int .i64 1,.int .i64 1] 23);have t0:aA (W.alloc (.cells #[.int .i64 2,.int .i64 1,.int .i64 1] 23)) W.heap.size #[.int .i64 2,.int .i64 1,.int .i64 1] 23:=jA _ _;replace l:=hd' l;replace I:=hd' I;replace J:=hd' J;replace L:=hd' L;replace M:=hd' M;replace N:=hd' N;replace j:=hd' j;clear o0 o1 o2 o3 o4;go_in;go_upto_region 2 with fail;generalize W.alloc (.cells #[.int .i64 2,.int .i64 1,.int .i64 1] 23)=X at*;obtain⟨H,hH,V⟩:=hidv W.heap.size;rw[<-V]at t0|-;clear V;have D:=t0.lt;obtain⟨c0,c1,c2⟩:=ci3 2 1 1 t0.cell;go_upto_region 6 with(first|(go_at_call 10;refine(l _).mono ?_;rintro r w1 ⟨G,g,vv,x0,rfl,b7⟩;have R:=G.size)|(go_at_call 11;(with_reducible refine(I _ _ _ _ _ b7 R).mono ?_);rintro r w2 ⟨rfl,⟨x1,b8⟩,b3,S⟩));have t1:=t0.below G;have bb:¬(X.heap.size<=H/\H<w1.heap.size):=λe=>by omega
 have t2:=t1.only b3 bb;have bc:=zH (F:=λi=>X.heap.size<=i/\i<w1.heap.size) (W':=w2) bb t1.lt;clear c0 c1 c2 D;have D:=t2.lt;obtain⟨c0,c1,c2⟩:=ci3 2 1 1 t2.cell;go_upto_region 7 with(first|(go_at_call 18;refine(J _ _ _ _ _ b8 S).mono ?_;rintro r w3 ⟨rfl,⟨x2,b9⟩,b4,T⟩));have t3:=t2.only b4 bc;have bf:=zH (W':=w3) bc t2.lt;clear c0 c1 c2 D;have D:=t3.lt;obtain⟨c0,c1,c2⟩:=ci3 2 1 1 t3.cell;go_upto_region 8 with(first|(go_at_call 18;refine(L _ _ _ _ _ b9 T).mono ?_;rintro r w4 ⟨rfl,⟨x3,ba⟩,b5,U⟩));have t4:=t3.only b5 bf;have bi:=zH (W':=w4) bf t3.lt;clear c0 c1 c2 D;have D:=t4.lt;obtain⟨c0,c1,c2⟩:=ci3 2 1 1 t4.cell;go_upto_region 9 with(first|(go_at_call 18;refine(M _ _ _ _ _ ba U).mono ?_;rintro r O ⟨rfl,⟨x4,bh⟩,b6,bk⟩));have t5:=t4.only b6 bi;clear c0 c1 c2 D;have D:=t5.lt;obtain⟨c0,c1,c2⟩:=ci3 2 1 1 t5.cell;have b2:Below W.heap.size W O:=b0.trans ((G.trans ((b3.below R (λi hi=>(b7.lt i hi).1)).trans ((b4.below S (λi hi=>(b8.lt i hi).1)).trans ((b5.below T (λi hi=>(b9.lt i hi).1)).trans (b6.below U (λi hi=>(ba.lt i hi).1)))))).mono b0.size);have bg:=b2.size;have y:∀Z,jW O Z->jK 15 #[some g] Z λe w'=>∃v',e=.returned v'/\Below Z.heap.size Z w'/\RdZ .u64 w' v' tA4.m.ws:=λZ hZ=>N _ _ _ _ _ (bh.below hZ);have hk:∀Z,jW O Z->Z.cell? ⟨H,0,.none⟩=some (.int .i64 2)/\Z.cell? ⟨H,1,.none⟩=some (.int .i64 1)/\Z.cell? ⟨H,2,.none⟩=some (.int .i64 1):=λZ hZ=>⟨kA hZ _ _ _ c0,kA hZ _ _ _ c1,kA hZ _ _ _ c2⟩;replace y:=hd' y;replace hk:=hd' hk;have dd:=hd' (Below.refl O.heap.size O).drew
 go_region_held3 (λY=>Y.cell? ⟨H,0,.none⟩=some (.int .i64 2)/\Y.cell? ⟨H,1,.none⟩=some (.int .i64 1)/\Y.cell? ⟨H,2,.none⟩=some (.int .i64 1))
  (first|exact hk _ dd.out|exact hk _ (dd.out.trans (z.mono dd.out.size))|exact hk _ ((dd.out.trans (z.mono dd.out.size)).trans (b1.mono (by have:=dd.out.size;have:=z.size;omega))))
  (first|(go_at_call 15;(with_reducible refine(y _ dd.out).mono ?_);rintro r w6 ⟨v,rfl,z,hv⟩)|(go_at_call 37;refine(j _ _ hv).mono ?_;rintro r w7 ⟨⟨a,b,c,rfl⟩,b1⟩))
 go_wp2_with fail;go_returns;have h6:=dd.out.trans (z.mono dd.out.size);exact⟨rfl,b2.trans ((h6.trans (b1.mono h6.size)).mono bg)⟩
end

section

variable {W0 W W':World}{g:Nat}{s:Sh}{Kp Kq:Nat->Obj->Prop}{d d':Wd}{n:Nat}

theorem yqm(h:IA W0 g s Kp d W)(i:wdOk s d n)(b:n+1+GA s<=30000000)(c k a m:Int):
  Calls Tryz.prog 18 #[some g,.agg #[s.p,s.c,s.m],c,.agg #[k,a,m]] W λe w'=>
   (if (d.act s ⟨2,c,k,a,m,0⟩).2=0 then e=.returned (.tuple #[.int .i64 (PB (askW s d c ⟨k,a,m⟩)),.bool true])/\IA W0 g s Kp (askW s d c ⟨k,a,m⟩) w'
    else e=.returned (.tuple #[.int .i64 0,.bool false])/\IA W0 g s Kp (d.act s ⟨2,c,k,a,m,0⟩).1 w'):=by
 obtain⟨⟨F,x,h1,h2⟩,h3⟩:=h;refine(pJ h1 h3.size i b c ⟨k,a,m⟩).mono λe w' h=>?_;dsimp only at h;split at h
 .rename_i h0;rw[jP h0];exact⟨h.1,IA.to h3 h1 h2 h.2⟩
 rename_i h0;rw[jN h0];exact⟨h.1,IA.to h3 h1 h2 h.2⟩
theorem nO(h:IA W0 g s Kp d W)(i:wdOk s d n)(b:n+1+GA s<=30000000)(c k a m:Int)(h0:(d.act s ⟨2,c,k,a,m,0⟩).2=0):
  Calls Tryz.prog 18 #[some g,.agg #[s.p,s.c,s.m],c,.agg #[k,a,m]] W λe w'=>
   e=.returned (.tuple #[.int .i64 (PB (askW s d c ⟨k,a,m⟩)),.bool true])/\IA W0 g s Kp (askW s d c ⟨k,a,m⟩) w':=
 (yqm h i b c k a m).mono λe w' h=>by rw[jP h0]at h;exact h
end

section

variable {B:Nat}{F:Nat->Prop}{W:World}{g:Nat}{s:Sh}{d:Wd}{x:Wx}{n:Nat}

theorem yqa(P:Kl->Bool)(l:List (Option Kl))(n j:Nat)(h:j<(whoL P l n).length):∃c:Nat,(whoL P l n)[j]=(c:Int)/\c<n/\∃k,l.getD c none=some k/\P k=true:=by
 have b:=List.getElem_mem h;generalize (whoL P l n)[j]=z at*;unfold whoL at b;obtain⟨c,h1,h2⟩:=List.mem_map.1 b;obtain⟨h3,h4⟩:=List.mem_filter.1 h1;refine⟨c,h2.symm,List.mem_range.1 h3,?_⟩;unfold whoB at h4;cases hk:l.getD c none with
 |none=>rw[hk]at h4;cases h4
 |some k=>rw[hk]at h4;exact⟨k,rfl,h4⟩
theorem ynk(h:WdP B F W g s d x)(hB:B<=W.heap.size)(ho:AI s d n)(hn:n+12*GA s+12*(1+GA s)<=9000000)(c:Int)(hc:0<=c/\c<s.c):
  Calls Tryz.prog 13 #[some g,.agg #[s.p,s.c,s.m],c] W λe w'=>e=.returned (.tuple #[])/\WdTo B F W w' g s (rG s c d):=by
 have hm:=ho.1.fi.may;have ev:=ho.1.fi.bd;have b4:=λY=>YN s hm Y;have e6:=BS hm;have c4:=((Below.refl W.heap.size W).alloc lr (.cells #[s.p,s.c,s.m] 23));have tA:aA (W.alloc (.cells #[s.p,s.c,s.m] 23)) W.heap.size #[s.p,s.c,s.m] 23:=jA _ _;have bv:∀(p:Nat) (W:World),(binOp .neq 57 (.pointer (some ⟨p,0,.none⟩)) (.pointer none)).run Tryz.prog W=.ok (.bool true) W:=λp W=>by kernel_rfl
 have cu:d.l.length<=100:=by have:=ho.1.len;omega
 obtain⟨L,hL,b6⟩:∃L,Hid (L=whoL (λ_=>true) d.l d.l.length)/\L=whoL (λ_=>true) d.l d.l.length:=⟨_,hd' rfl,rfl⟩;obtain⟨d1,ec,b9⟩:=hidv (nC s L d);have cq:Hid (∀w',WdTo B F W w' g s (adN s c d1 s.c.toNat)->WdTo B F W w' g s (rG s c d)):=hd' λw' h=>by unfold rG;rw[<-b6,<- b9];exact h
 have cg:L.length<=12:=by have h1:=pN (λ_=>true) d.l d.l.length;rw[<-b6]at h1;have h2:=ho.1.len;omega
 have cc:Hid (∀j (o:j<L.length),0<=L[j]/\L[j]<s.c/\∃k,d.kl L[j]=some k):=hd' λj o=>by subst b6;obtain⟨c,h1,h2,k,h3,_⟩:=yqa (λ_=>true) d.l d.l.length j o;rw[h1];have:=ho.1.len;exact⟨by omega,by omega,k,by unfold Wd.kl;rw[jP (by omega)];exact h3⟩
 have b2:Hid (∀j,j<=L.length->AI s (nC s (L.take j) d) (n+12*GA s)):=hd' λj o=>by
  refine RD (vS (L.take j) ho) ?_;have:(L.take j).length<=12:=by rw[List.length_take];omega
  have:=Nat.mul_le_mul_right (GA s) this;omega
 have bn:Hid (∀j (o:j<L.length),∃k,(nC s (L.take j) d).kl L[j]=some k):=hd' λj o=>by
  obtain⟨_,_,k,hk⟩:=cc j o
  have key:∀l (d:Wd) n,wdOk s d n->(∃k,d.kl L[j]=some k)->∃k,(nC s l d).kl L[j]=some k:=by
   intro l
   induction l with
   |nil=>intro d n _ h;exact h
   |cons a l ih=>intro d n h1 h2;exact ih _ _ (QD h1 (GA s)) (YR h1 h2 a)
  exact key _ _ _ ho.1 ⟨k,hk⟩
 have bg:Hid (∀j (o:j<L.length),nC s (L.take (j+1)) d=(nC s (L.take j) d).goN s L[j] (GA s)):=hd' λj o=>by rw[List.take_succ_eq_append_getElem o,ym5];rfl
 have y:Hid (nC s (L.take L.length) d=d1):=hd' (by rw[List.take_length];exact b9.symm);have e3:=h.below c4;obtain⟨nl,c8,bc⟩:=hidv L.length;rw[<-bc]at cg y;have S:jK 36 #[some g] (W.alloc (.cells #[s.p,s.c,s.m] 23)) λe w'=>Below (W.alloc (.cells #[s.p,s.c,s.m] 23)).heap.size (W.alloc (.cells #[s.p,s.c,s.m] 23)) w'/\∃ao cap,e=.returned (.slice ao nl cap)/\nl<=cap/\(cap:Int)<=9223372036854775807/\Hid (∀j (o:j<L.length),∃rb ro,ao=some ⟨rb,ro,.none⟩/\(W.heap.size<rb/\rb<w'.heap.size)/\w'.cell? ⟨rb,ro+j,.none⟩=some (.int .i64 L[j])):=by rw[bc];refine(TQ e3 cu).mono λe w' ⟨v,h1,h2,h3⟩=>⟨h2,?_⟩;rw[<-b6]at h3;have h4:RdZ .i64 w' v _:=RdS.lD h3;obtain⟨ao,cap,rfl,h5,h6,h7⟩:=h4.cells;refine⟨ao,cap,h1,h5,h6,hd' λj o=>?_⟩;obtain⟨b,ep,ha,hb,hc⟩:=h7 (λe=>by rw[e]at o;simp at o);have h8:=(h3.lt b (by rw[ha];rfl)).1;exact⟨b,ep,ha,⟨by simp at h8;omega,hb⟩,hc j o⟩
 clear bc b6 b9 hL ec cu e3;replace S:=hd' S;replace b4:=hd' b4;replace bv:=hd' bv;have N:∀i,F i->B<=i/\i<W.heap.size:=h.lt;have cm:=hd' c4;have c6:Hid (∀W1 w' dd,jW W W1->WdTo B F W1 w' g s dd->WdTo B F W w' g s dd):=hd' λW1 w' dd hb hk=>WdTo.from h hB hb hk;have em:=hd' (λW1 (hb:Below W.heap.size W W1)=>h.below hb);clear h c4;go_in;go_upto_region 1 with fail;generalize W.alloc (.cells #[s.p,s.c,s.m] 23)=W1 at*;obtain⟨H,hH,cf⟩:=hidv W.heap.size;rw[<-cf]at tA|-;clear cf;go_upto_region 2 with(go_at_call 36;(with_reducible refine S.out.mono ?_);rintro r W2 ⟨ck,ao,cap,rfl,es,eb,hR⟩);have X:Below W.heap.size W W2:=qA cm ck;have e4:=em _ X;have tA2:=tA.below ck;have cd:¬F H:=λe=>by have:=(N H e).2;have:=hH.out;omega
 have bz:B<=W2.heap.size:=by have:=X.size;omega
 have ch:WdTo B F W2 W2 g s d:=(WdTq.start (R:=λ_=>True) e4 bz br trivial).to;clear S tA e4;replace y:=hd' y.out;have bm:Hid (nC s (L.take 0) d=d):=hd' rfl;generalize e0:(λj=>nC s (List.take j L) d)=rl at*;have G:Hid (∀j,nC s (L.take j) d=rl j):=hd' λj=>congrFun e0 j;clear e0;replace b2:Hid (∀j,j<=L.length->AI s (rl j) (n+12*GA s)):=hd' λj o=>G j▸b2 j o;replace bn:Hid (∀j (o:j<L.length),∃k,(rl j).kl L[j]=some k):=hd' λj o=>G j▸bn j o;replace bg:Hid (∀j (o:j<L.length),rl (j+1)=(rl j).goN s L[j] (GA s)):=hd' λj o=>by rw[<-G,<- G];exact bg j o
 replace y:Hid (rl nl=d1):=hd' ((G nl).symm.trans y.out);replace bm:Hid (rl 0=d):=hd' ((G 0).symm.trans bm.out);clear G;obtain⟨M,e7,bs⟩:∃M,Hid (GA s=M)/\GA s=M:=⟨_,hd' rfl,rfl⟩;rw[bs]at hn e6 b4 bg b2;clear bs;go_wp2_with fail;go_loopw [7,8] (λv7 _ wr=>∃i:Nat,i<=nl/\v7=.int .i64 i/\WdTo B F W2 wr g s (rl i)) (λv7 _ _=>nl-(intOf v7).toNat);case atStart=>exact⟨0,Nat.zero_le _,rfl,by rw[bm];exact ch⟩
 case round=>
  obtain⟨i,hi,rfl,T⟩:=hrel;obtain⟨V,hV⟩:∃V,V=wr:=⟨_,rfl⟩;subst hV;by_cases ek:i<nl
  .have bk:i<L.length:=by have:=c8.out;omega
   obtain⟨c0,c1,_⟩:=cc i bk;have cs:=bn i bk;have ca:=bg i bk;have E:=b2 i (by omega);obtain⟨rb,ro,rfl,⟨f1,cy⟩,cz⟩:=hR i bk;obtain⟨ci,ew,bu⟩:∃ci,Hid (ci=L[i])/\ci=L[i]:=⟨_,hd' rfl,rfl⟩;rw[<-bu]at c0 c1 cs ca cz;clear bu;have ex:(i:Int)<(nl:Int):=by omega
   have ei:(0:Int)<=(i:Int):=by omega
   have er:IntKind.i64.wrap ((i:Int)+1)=(i:Int)+1:=IntWalk.i64_in _ ⟨by omega,by omega⟩;generalize cp:rl i=O at*;replace cp:=hd' cp;have ef:¬F rb:=λe=>by have:=(N rb e).2;omega
   go_wp2_with fail;go_loopw [8] (λv8 wr=>∃m:Nat,m<=M/\v8=.int .i64 m/\WdTo B F W2 wr g s (O.goN s ci m)) (λv8 _=>M-(intOf v8).toNat);case atStart=>exact⟨0,Nat.zero_le _,rfl,T⟩
   case round=>
    clear T;obtain⟨m,f0,rfl,T⟩:=hrel;have bq:=tA2.only T.2.1 cd;have e5:wr.cell? ⟨rb,ro+i,.none⟩=some (.int .i64 ci):=(World.cell?_of_block (T.2.1.block rb cy ef)).trans cz;have bw:=QD E.1 (c:=ci) m;have bf:O.goN s ci (m+1)=(O.goN s ci m).goS s ci:=rfl;have eh:=λk h1 h2=>(mH (s:=s) (d:=O.goN s ci m) (c:=ci) (k:=k) h1 h2:(O.goN s ci m).goS s ci=_);have bh:=λk h1 h2=>xI (s:=s) (d:=O) (c:=ci) (i:=m) (k:=k) h1 h2 (M-m);rw[show m+(M-m)=M by omega]at bh;have ej:∃k,(O.goN s ci m).kl ci=some k:=by
     obtain⟨k,hk⟩:=cs;rcases o:k.job with _|j
     .have:=xI (s:=s) (d:=O) (c:=ci) (i:=0) hk o m;rw[Nat.zero_add]at this;exact⟨k,by rw[this];exact hk⟩
     obtain⟨k',h1,_⟩:=lJ E.1 (⟨k,hk,.inl ⟨by rw[o];exact λe=>(by cases e),rfl⟩⟩:Due O ci k.steps) m;exact⟨k',h1⟩
    obtain⟨k,hk⟩:=ej;have U:=T;obtain⟨⟨x',I⟩,c9,b1⟩:=T;generalize ed:O.goN s ci m=dm at*;have cr:dm.l.getD ci.toNat none=some k:=by have h1:=hk;unfold Wd.kl at h1;rw[jP c0]at h1;exact h1
    have b3:∀Y,jW wr Y->jK 24 #[some g,ci] Y λe w'=>e=.returned (.pointer (some ⟨x'.qs ci.toNat,0,.none⟩))/\Below Y.heap.size Y w':=λY hb=>by have h1:=DQ (I.below hb) ci ⟨c0,(Wd.rC hk).2⟩ (by rw[bw.len];omega);rw[hk]at h1;exact h1
    have b5:∀Y,jW wr Y->jK 25 #[.pointer (some ⟨x'.qs ci.toNat,0,.none⟩)] Y λe w'=>e=.returned (.bool k.rests)/\w'=Y:=λY hb=>AN ((I.below hb).cl ci.toNat k cr);have ba:∀Y,jW wr Y->jK 11 #[some g,.agg #[.int .i64 3,ci,.int .i64 0,.int .i64 0,.int .i64 0,.float .f64 0]] Y λe w'=>e=.returned (.int .i64 (dm.act s (NC ci)).2)/\WdTo B F W2 w' g s (dm.act s (NC ci)).1:=λY hb=>by refine(ZQ (I.below hb) (by have:=hb.size;omega) bw (by omega) ci ⟨c0,c1⟩).mono λe w' h=>⟨h.1,?_⟩;exact WdTo.trans U (WdTq.from I b1 hb h.2).to
    have D:∀Y,jW wr Y->WdTo B F W2 Y g s dm:=λY hb=>(WdTq.below (U.q (R:=λ_=>True) (λ_=>trivial)) bz (λj o=>⟨(N j o).1,by have:=(N j o).2;have:=X.size;omega⟩) hb).to;generalize x'.qs ci.toNat=Q at*;obtain⟨a0,a1,a2⟩:=ci3 s.p s.c s.m bq.cell;have ez:(0:Int)<=(m:Int):=by omega
    have f2:IntKind.i64.wrap ((m:Int)+1)=(m:Int)+1:=IntWalk.i64_in _ ⟨by omega,by omega⟩;replace b3:=hd' b3;replace b5:=hd' b5;replace ba:=hd' ba;replace D:=hd' D;clear I c9 b1 U cr;have J:Hid (dm=rl (i+1)->∀Y,jW wr Y->∃i':Nat,i'<=nl/\Value.int .i64 ((i:Int)+1)=.int .i64 i'/\WdTo B F W2 Y g s (rl i')):=hd' λe Y hb=>⟨i+1,by omega,by simp,e▸D Y hb⟩;by_cases ey:m<M
    .have cv:(m:Int)<(M:Int):=by omega
     rcases o:k.job with _|j
     .have c7:k.rests=true:=by unfold Kl.rests;rw[o];rfl
      have c5:dm=rl (i+1):=by rw[ca];exact(bh k hk o).symm
      rw[c7]at b5;go_wp2_with (first|(go_at_call 39;refine(b4 _).mono ?_;rintro r w5 ⟨rfl,z⟩;have z5:=kA z _ _ _ e5)|(go_at_call 24;(with_reducible refine(b3 _ Z).mono ?_);rintro r w7 ⟨rfl,bi⟩;have b0:=qA Z bi)|(go_at_call 24;(with_reducible refine(b3 _ z).mono ?_);rintro r w6 ⟨rfl,b8⟩;have Z:=qA z b8;have z6:=kA b8 _ _ _ z5)|(go_at_call 25;(with_reducible refine(b5 _ b0).mono ?_);rintro r w8 ⟨rfl,cb⟩;obtain rfl:=cb.symm));exact⟨J c5 _ b0,by simp only[intOf];omega⟩
     have c7:k.rests=false:=by unfold Kl.rests;rw[o];rfl
     have e2:=eh k hk (by rw[o];exact λe=>by cases e);have eg:Hid (∀Y,WdTo B F W2 Y g s (dm.act s (NC ci)).1->∃m':Nat,m'<=M/\Value.int .i64 ((m:Int)+1)=.int .i64 m'/\WdTo B F W2 Y g s (O.goN s ci m')):=hd' λY h=>⟨m+1,by omega,by simp,by rw[bf,e2];exact h⟩;rw[c7]at b5;go_wp2_with (first|(go_at_call 39;refine(b4 _).mono ?_;rintro r w5 ⟨rfl,z⟩;have z5:=kA z _ _ _ e5)|(go_at_call 24;(with_reducible refine(b3 _ Z).mono ?_);rintro r w7 ⟨rfl,bi⟩;have b0:=qA Z bi;have z7:=kA bi _ _ _ z6)|(go_at_call 24;(with_reducible refine(b3 _ z).mono ?_);rintro r w6 ⟨rfl,b8⟩;have Z:=qA z b8;have z6:=kA b8 _ _ _ z5)|(go_at_call 25;(with_reducible refine(b5 _ b0).mono ?_);rintro r w8 ⟨rfl,cb⟩;obtain rfl:=cb.symm)|(go_at_call 11;(with_reducible refine(ba _ b0).mono ?_);rintro r w9 ⟨rfl,e9⟩));exact⟨eg _ e9,by simp only[intOf];omega⟩
    have cv:¬(m:Int)<(M:Int):=by omega
    have c5:dm=rl (i+1):=by rw[ca,<- ed];congr 1;omega
    go_wp2_with (first|(go_at_call 39;refine(b4 _).mono ?_;rintro r w5 ⟨rfl,z⟩));exact⟨J c5 _ z,by simp only[intOf];omega⟩
  have eu:¬(i:Int)<(nl:Int):=by omega
  have bj:i=nl:=by omega
  rw[bj,y]at T;have bx:=b2 nl (by have:=c8.out;omega);rw[y]at bx;have cj:=λj=>yO (c:=c) bx j;clear b2 bn bg cc hR bm y ch c8 bj hi;go_wp2_with fail;go_loopw [9] (λv9 wr=>∃i:Nat,i<=s.c.toNat/\v9=.int .i64 i/\WdTo B F W2 wr g s (adN s c d1 i)) (λv9 _=>s.c.toNat-(intOf v9).toNat);case atStart=>exact⟨0,Nat.zero_le _,rfl,T⟩
  case round=>
   clear T;obtain⟨i,hi,rfl,T⟩:=hrel;have bq:=tA2.only T.2.1 cd;obtain⟨a0,a1,a2⟩:=ci3 s.p s.c s.m bq.cell;have lA:=bq.lt;by_cases ek:i<s.c.toNat
   .have cx:(i:Int)<s.c:=by omega
    have ei:(0:Int)<=(i:Int):=by omega
    have er:IntKind.i64.wrap ((i:Int)+1)=(i:Int)+1:=IntWalk.i64_in _ ⟨by omega,by omega⟩;have E:=cj i;have bf:adN s c d1 (i+1)=adS s c (adN s c d1 i) i:=rfl;have U:=T;obtain⟨⟨x',I⟩,c9,b1⟩:=T;generalize adN s c d1 i=O at*;have bp:∀Y,jW wr Y->jK 50 #[some g,.int .i64 (i:Int)] Y λe w'=>e=.returned (.int .i64 (aH s O i))/\Below Y.heap.size Y w':=λY hb=>NP (I.below hb) E.1.fi E.1.fit i;have D:∀Y,jW wr Y->WdTo B F W2 Y g s O:=λY hb=>(WdTq.below (U.q (R:=λ_=>True) (λ_=>trivial)) bz (λj o=>⟨(N j o).1,by have:=(N j o).2;have:=X.size;omega⟩) hb).to;have el:n+12*M+i*(1+M)+1+M<=30000000:=by have:i*(1+M)<=12*(1+M):=Nat.mul_le_mul_right _ (by omega);omega
    have b7:∀Y,jW wr Y->jK 18 #[some g,.agg #[s.p,s.c,s.m],c,.agg #[.int .i64 4,.int .i64 (i:Int),.int .i64 0]] Y λe w'=>(∃v,e=.returned v)/\WdTo B F W2 w' g s (if (O.act s ⟨2,c,4,i,0,0⟩).2=0 then askW s O c ⟨4,i,0⟩ else(O.act s ⟨2,c,4,i,0,0⟩).1):=λY hb=>by
     refine(pJ (I.below hb) (by have:=hb.size;omega) E.1 (by rw[e7];exact el) c ⟨4,i,0⟩).mono λe w' h=>?_;dsimp only at h;split at h
     .rename_i h0;rw[jP h0];exact⟨⟨_,h.1⟩,WdTo.trans U (WdTo.from I b1 hb h.2)⟩
     rename_i h0;rw[jN h0];exact⟨⟨_,h.1⟩,WdTo.trans U (WdTo.from I b1 hb h.2)⟩
    have J:Hid (∀dd Y,adN s c d1 (i+1)=dd->WdTo B F W2 Y g s dd->∃i':Nat,i'<=s.c.toNat/\Value.int .i64 ((i:Int)+1)=.int .i64 i'/\WdTo B F W2 Y g s (adN s c d1 i')):=hd' λdd Y e h=>⟨i+1,by omega,by simp,e▸h⟩;replace bp:=hd' bp;replace D:=hd' D;replace b7:=hd' b7;clear I c9 b1 U cj E;by_cases bb:(i:Int)=c
    .have C:adN s c d1 (i+1)=O:=by rw[bf];unfold adS;rw[jN (λh=>h.1 bb)]
     have ea:((i:Int) !=c)=false:=by rw[bb];simp
     clear bb;go_wp2_with fail;exact⟨J _ _ C (D _ br),by simp only[intOf];omega⟩
    have ea:((i:Int) !=c)=true:=by simpa using bb
    by_cases e1:1<aH s O i
    .have C:=bf;unfold adS at C;rw[jP ⟨bb,e1⟩]at C;go_wp2_with (first|(go_at_call 50;(with_reducible refine(bp _ br).mono ?_);rintro r w5 ⟨rfl,z⟩;have z0:=kA z _ _ _ a0;have z1:=kA z _ _ _ a1;have z2:=kA z _ _ _ a2)|(go_at_call 18;refine(b7 _ z).mono ?_;rintro r w6 ⟨⟨v6,rfl⟩,e8⟩));exact⟨J _ _ C e8,by simp only[intOf];omega⟩
    have C:=bf;unfold adS at C;rw[jN (λh=>e1 h.2)]at C;go_wp2_with (first|(go_at_call 50;(with_reducible refine(bp _ br).mono ?_);rintro r w5 ⟨rfl,z⟩));exact⟨J _ _ C (D _ z),by simp only[intOf];omega⟩
   have cx:¬(i:Int)<s.c:=by omega
   have bj:i=s.c.toNat:=by omega
   rw[bj]at T;have hE:=cq _ (c6 _ _ _ X T);replace hE:=hd' hE;clear T;go_wp2_with fail;go_returns;exact⟨rfl,hE.out⟩
end

theorem nS{W0 W:World}{g:Nat}{s:Sh}{Kp:Nat->Obj->Prop}{d:Wd}{n:Nat}(h:IA W0 g s Kp d W)(i:AI s d n)(b:n+12*GA s+12*(1+GA s)<=9000000)(c:Int)(hc:0<=c/\c<s.c):
  Calls Tryz.prog 13 #[some g,.agg #[s.p,s.c,s.m],c] W λe w'=>e=.returned (.tuple #[])/\IA W0 g s Kp (rG s c d) w':=by
 obtain⟨⟨F,x,h1,h2⟩,h3⟩:=h;exact(ynk h1 h3.size i b c hc).mono λe w' k=>⟨k.1,IA.to h3 h1 h2 k.2⟩
section

variable {s:Sh}{d:Wd}{n:Nat}{c x:Int}{σ0:Ab}

theorem yoj(j:WI s σ0 d)(i:Rest d c)(f:∀y,y≠c->σ0.st y≠.live):∀y k,d.kl y=some k->k.job=none:=λy k b=>by
 by_cases e:y=c
 .obtain⟨l,h1,h2⟩:=i
  rw[e,h1]at b;injection b with b;rw[<-b];exact h2
 .exact absurd (j.li y k b).1 (f y e)
end

def One (s:Sh) (d:Wd) (c:Int):Prop:=Rest d c/\∃ σ,WI s σ d/\∀i,σ.mg c i=.none
section

variable {s:Sh}{d:Wd}{n:Nat}{c:Int}

theorem mS(h:iH s d c)(hd:wdOk s d n)(hc:0<=c/\c<s.c):(d.act s ⟨1,c,0,0,0,0⟩).2=0/\One s (d.act s ⟨1,c,0,0,0,0⟩).1 c:=by
 have h0:=aS h hc;refine⟨(jO h hd hc).1,?_⟩;obtain⟨σ,b,hu⟩:=h;have hi:c.toNat<d.l.length:=by rw[hd.len];omega
 have e:(d.act s ⟨1,c,0,0,0,0⟩)=d.begin s ⟨1,c,0,0,0,0⟩:=by unfold Wd.act;rw[jN (by unfold Ch.bad;dsimp only;omega),jP rfl]
 rw[e];refine⟨?_,_,fN b hd ⟨1,c,0,0,0,0⟩ hc h0,(b.un c (.inl hu)).2⟩;unfold Wd.begin;dsimp only;rw[jP h0];exact⟨_,by rw[d.IB hc.1 hi,jP rfl],rfl⟩
end

structure EnI (s:Sh) (d:Wd) (n:Nat) (c:Int):Prop where
 ai:AI s d n
 rs:Rest d c
 ex:∃ σ,WI s σ d/\∀y,y≠c->σ.st y=.unused\/σ.st y=.done
section

variable {s:Sh}{d:Wd}{n:Nat}{c:Int}

theorem ym4{l:List Int}(f:Rest d c)(b:∀y∈l,y=c):nC s l d=d:=by
 induction l with
 |nil=>rfl;|cons y l m=>
  have e:y=c:=b y List.mem_cons_self;subst e;show nC s l (d.rest s y)=d;obtain⟨k,h1,h2⟩:=f;have h3:d.rest s y=d:=by have:=xI (s:=s) (d:=d) (c:=y) (i:=0) h1 h2 (GA s);unfold Wd.rest;rw[Nat.zero_add]at this;exact this
  rw[h3];exact m λz j=>b z (List.mem_cons_of_mem _ j)
structure AdQ (s:Sh) (d:Wd) (n:Nat) (c:Int) (i:Nat):Prop where
 ai:AI s (adN s c d i) (n+i*(1+GA s))
 rs:Rest (adN s c d i) c
 ex:∃ σ,WI s σ (adN s c d i)/\(∀y,y≠c->σ.st y≠.live)/\∀y,y≠c->0<=y/\y<(i:Int)->σ.st y=.unused\/σ.st y=.done
theorem yos{σ:Ab}(f:WI s σ d){x:Int}(i:0<=x/\x<s.c)(h:¬ 1<aH s d x):σ.st x=.unused\/σ.st x=.live:=by
 have b:=(ixs f.rep.fi).2.2.2 _ i;have h4:=f.rep.st _ i;rw[b]at h4;have j:=(TW.read f.rep.may (f.gi.tf x)).1;unfold aH at h;rw[b,jP i.1]at h;unfold Wd.stat at h;rw[h4,j]at h;cases e:σ.st x<;>rw[e]at h<;>simp[TW.kind]at h|-
theorem ypm{i:Nat}(h:AdQ s d n c i)(hi:(i:Int)<s.c):AdQ s d n c (i+1):=by
 obtain⟨m,p,σ,q,f,C⟩:=h;have a1:=SS (c:=c) m i;have G:adN s c d (i+1)=adS s c (adN s c d i) i:=rfl;refine⟨?_,uO m.1 p i,?_⟩
 .rw[Nat.add_mul,Nat.one_mul,<- Nat.add_assoc,<- Nat.add_assoc];exact a1
 rw[G];unfold adS;split
 .rename_i hc;have h0:=yI (o:=⟨4,i,0⟩) m.1 p ⟨show (1:Int)<=4 by decide,Int.le_refl _⟩;have r:((adN s c d i).act s ⟨2,c,4,i,0,0⟩).2=0:=h0;rw[jP r];obtain⟨σ',D,z,_,E⟩:=RK m.1 p (x:=i) ⟨by omega,by omega⟩ hc.1 q (yoj q p f);have j:σ'.st i=.unused\/σ'.st i=.done:=by
   rcases E with⟨_,_,g⟩|⟨l,_,I⟩
   .exact .inr g
   rw[I];have:=f i hc.1;cases e:σ.st i with
   |unused=>exact .inl rfl
   |done=>exact .inr rfl
   |live=>exact absurd e this
   |dead=>rw[e]at l;exact absurd trivial l
   |owned a=>rw[e]at l;exact absurd trivial l
  refine⟨σ',D,λy b=>?_,λy b t=>?_⟩
  .by_cases e:y=(i:Int)
   .subst e;rcases j with g|g<;>rw[g]<;>decide
   rw[z y e];exact f y b
  by_cases e:y=(i:Int)
  .subst e;exact j
  rw[z y e];exact C y b (by omega)
 rename_i hc;refine⟨σ,q,f,λy b t=>?_⟩;by_cases e:y=(i:Int)
 .subst e;rcases yos q (x:=i) ⟨by omega,hi⟩ (λh=>hc ⟨b,h⟩) with g|g
  .exact .inl g
  exact absurd g (f i b)
 exact C y b (by omega)
theorem yp7(h:AdQ s d n c 0):∀i:Nat,(i:Int)<=s.c->AdQ s d n c i:=by
 intro i;induction i with
 |zero=>exact λ_=>h
 |succ i b=>exact λhi=>ypm (b (by omega)) (by omega)
theorem zS(i:AI s d n)(q:Rest d c)(p:∀z,z≠c->d.kl z=none):EnI s (rG s c d) (n+12*(1+GA s)) c:=by
 have hb:=i.1.fi.bd
 have e:rG s c d=adN s c d s.c.toNat:=by
  unfold rG
  rw[ym4 q λy f=>Decidable.byContradiction λb=>?_]
  obtain⟨a,h1,rfl⟩:=List.mem_map.1 (show y∈_ from f)
  obtain⟨_,h2⟩:=List.mem_filter.1 h1
  unfold whoB at h2
  cases hx:d.l.getD a none with
  |none=>rw[hx]at h2;cases h2
  |some k=>
   have h3:d.kl (a:Int)=some k:=by unfold Wd.kl;rw[jP (by omega)];exact hx
   rw[p _ b]at h3;cases h3
 obtain⟨_,σ,r,_⟩:=id i
 have h0:AdQ s d n c 0:=⟨RD (show AI s (adN s c d 0) n from i) (by simp),q,σ,r,λy f E=>(by
  obtain⟨k,o⟩:=r.nl y E
  rw[p y f]at o;cases o),λy _ f=>by omega⟩
 obtain⟨t,C,σ',m,G,D⟩:=yp7 h0 s.c.toNat (by omega);rw[e];refine⟨RD t ?_,C,σ',m,λy f=>?_⟩
 .have:=Nat.mul_le_mul_right (1+GA s) (show s.c.toNat<=12 by omega);omega
 by_cases j:0<=y/\y<s.c
 .exact D y f (by omega)
 refine .inl (Decidable.byContradiction λb=>j (m.gi.tr y b))
end

section

open RowKit Go.ChangeShapes Go.WideShapes Go.ChangeAt

section

variable {H:Type}{enc:TypeId×Value->H}{w:World}

theorem yf3{es:List Value}(p:es.length=6)(h:Rd enc Tryz.prog w 35 es):∃c:Ch,c.cells=es/\True:=by
 obtain⟨_,i⟩:=OP Tryz.underlying35 h;match es,p with
 | [x0,x1,x2,x3,x4,x5],_=>
  have k1:Tryz.prog.cellsOf 3=1:=by kernel_rfl
  have q:Tryz.prog.cellsOf 32=3:=by kernel_rfl
  have r:Tryz.prog.cellsOf 33=1:=by kernel_rfl
  have g0:Rd enc Tryz.prog w 3 (([x0,x1,x2,x3,x4,x5].drop 0).take (Tryz.prog.cellsOf 3)):=i 0 _ rfl;have l:Rd enc Tryz.prog w 3 (([x0,x1,x2,x3,x4,x5].drop 1).take (Tryz.prog.cellsOf 3)):=i 1 _ rfl;have m:Rd enc Tryz.prog w 32 (([x0,x1,x2,x3,x4,x5].drop 2).take (Tryz.prog.cellsOf 32)):=i 2 _ rfl;have o:Rd enc Tryz.prog w 33 (([x0,x1,x2,x3,x4,x5].drop 5).take (Tryz.prog.cellsOf 33)):=i 3 _ rfl;rw[k1]at g0 l;rw[q]at m;rw[r]at o;obtain⟨a,j,_⟩:=AH Tryz.underlying3 g0;obtain⟨b,hb,_⟩:=AH Tryz.underlying3 l;obtain⟨c,d,e,hc⟩:=iR m;obtain⟨f,hd,y⟩:=z7d Tryz.underlying33 o;injection j with j;injection hb with hb;injection hd with hd;injection hc with h2 hc;injection hc with h3 hc;injection hc with h4 hc;subst j hb h2 h3 h4 hd;exact⟨⟨a,b,c,d,e,f⟩,rfl,trivial⟩
theorem ST{v:Value}{r:Reach}{b:Nat}{d:DataW H}{ps:List MemPlace}(f:Value.okWide Tryz.prog w r b 24 v)(h0:DataW.Trod enc Tryz.prog w 0 (λ_=>true) true 24 v d ps):
  ∃xs:List Ch,RdS w 6 v xs.length (xs.flatMap Ch.cells):=by
 obtain⟨xs,h1,h2⟩:=open_list Ch.cells (λ_=>True) Tryz.underlying24 (sz:=6) (by kernel_rfl) (by omega) (λ_=>rfl) (λes h1 h2=>yf3 h1 h2) f h0;exact⟨xs,h1⟩
end

end

end Go.Proofs.YtkilokkopbajkaaGreat
