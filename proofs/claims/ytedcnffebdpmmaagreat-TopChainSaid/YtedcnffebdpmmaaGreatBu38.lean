/- Texts bound together: AskW TAwk GivA LawW. -/
import Derived.Test.YtedcnffebdpmmaaGreatBu36

import Derived.Test.YtedcnffebdpmmaaGreatBu37

set_option linter.all false
set_option maxHeartbeats 8000000
set_option maxRecDepth 100000
namespace Go.Proofs.YtedcnffebdpmmaaGreat

section

open Go.RowKit

attribute [local go_sem ↓] Go.wp_at_zero Go.wp_at_succ

theorem yg0(s:Sh)(i:mayB s.p s.c s.m=true)(w:World):
  Calls Tryz.prog 9 #[.agg #[s.p,s.c,s.m]] w fun e w'=>e= .returned (.int .i64 (z5k s:Int))/\Below w.heap.size w w':=by
 have hb:=zar.1 i;have b:=fun W=>zcc s.p s.c s.m W;rw[i]at b;have j:((z5k s:Nat):Int)=110*s.p+4*s.m+60:=by unfold z5k;omega
 rw[j];clear j;obtain⟨p,c,m⟩:=s;dsimp only at b hb ⊢;have l:=wrp (110*p);have o:=wrp (4*m);have q:=wrp (110*p+4*m);have r:=wrp (110*p+4*m+60);replace b:=hd' b;clear i hb;go_in;go_wp2_with (go_at_call 28;refine(b.out _).mono ?_;rintro e l ⟨rfl,rfl⟩);go_ret;exact⟨rfl,by go_grown⟩
section

variable {B:Nat} {F:Nat->Prop} {W W1 W2:World} {g:Nat} {s:Sh} {d d2:Wd} {x:Wx} {n:Nat}

theorem WdTq.below{R:(Nat->Nat)->Prop}(h:WdTq R B F W W1 g s d)(j:B<=W.heap.size)(b:∀ i,F i->B<=i/\i<W.heap.size)(hb:Below W1.heap.size W1 W2):WdTq R B F W W2 g s d:=by
 obtain⟨⟨x,h1,f⟩,h2,h3⟩:=h;have hs:=hb.size;refine⟨⟨x,(h1.below hb).weak (fun i hi=>?_) (fun i hi=>?_),f⟩,Only.trans (F:=F) h2 (Only.of_below (F:=fun _=>False) hb) (fun _ _ e=>e.elim),by omega⟩
 ·rcases hi with hi|hi
  ·exact .inl hi
  exact .inr ⟨hi.1,by omega⟩
 have:=h2.size;rcases hi with hi|hi
 ·exact⟨(b i hi).1,by have:=(b i hi).2;omega⟩
 exact⟨by omega,hi.2⟩
theorem yg6(h:WdP B F W g s d x)(b:B<=W.heap.size)(j:wdOk s d n)(i:n<=10000000)(c:Int)(hc:0<=c/\c<s.c):
  Calls Tryz.prog 7 #[some g,.agg #[.int .i64 3,c,.int .i64 0,.int .i64 0,.int .i64 0,.float .f64 0]] W fun e w'=>e= .returned (.int .i64 (d.act s (zjx c)).2)/\WdTq (fun q=>q=x.qs) B F W w' g s (d.act s (zjx c)).1:=
 (z0t h b j i (zjx c) (by unfold Ch.bad zjx;dsimp only;omega)).mono fun e w' h=>⟨h.1,h.2.imp fun q e=>e rfl⟩
def TrAt (w:World) (v:Value) (c er:Int):Prop:=∃ b off cap m:Nat,v= .slice (some ⟨b,off,.none⟩) (m + 1) cap/\m + 1<=cap/\(cap:Int)<=9223372036854775807/\b < w.heap.size/\w.cell? ⟨b,off + m * 8,.none⟩=some (.int .i64 5)/\w.cell? ⟨b,off + m * 8 + 1,.none⟩=some (.int .i64 c)/\w.cell? ⟨b,off + m * 8 + 7,.none⟩=some (.int .i64 er)
theorem yg1(l:List Ev)(e:Ev)(k:Nat)(i:k<8):((l++[e]).flatMap fun e=>e.cells.toList)[l.length*8+k]?=e.cells.toList[k]?:=by
 have b:(l.flatMap fun e=>e.cells.toList).length=l.length*8:=by
  induction l with
  |nil=>rfl
  |cons a l f=>rw[List.flatMap_cons,List.length_append,f];show 8+_=(l.length+1)*8;omega
 rw[List.flatMap_append,List.getElem?_append_right (by omega),b,show l.length*8+k-l.length*8=k by omega];simp
theorem yg2(h:WdP B F W g s d x)(y:d.tr.length<=100000000)(c:Int)(D:Told d c):
  Calls Tryz.prog 18 #[some g] W fun e w'=>Below W.heap.size W w'/\∃ v,e= .returned v/\TrAt w' v c (ygv d):=by
 obtain⟨l,m,h1,h2,h3⟩:=D;refine(zko h y).mono fun e w' ⟨v,p,q,r⟩=>⟨q,v,p,?_⟩;obtain⟨ao,cap,rfl,hc,z,_,C⟩:=RdS.zew r;have j:d.tr.length=l.length+1:=by rw[h1];simp
 obtain⟨b,o,rfl,hb,i⟩:=C (by omega);have t:ygv d=m.er:=by unfold ygv;rw[h1];simp
 rw[t];refine⟨b,o,cap,l.length,by rw[j],by omega,z,hb,?_,?_,?_⟩
 ·refine(i (l.length*8) (by rw[j];omega)).trans ?_;rw[h1];refine(yg1 l m 0 (by omega)).trans ?_;rw[<-h2];rfl
 ·rw[Nat.add_assoc];refine(i (l.length*8+1) (by rw[j];omega)).trans ?_;rw[h1];refine(yg1 l m 1 (by omega)).trans ?_;rw[<-h3];rfl
 rw[Nat.add_assoc];refine(i (l.length*8+7) (by rw[j];omega)).trans ?_;rw[h1];exact yg1 l m 7 (by omega)
theorem yha(h:WdP B F W g s d x)(hB:B<=W.heap.size)(ho:wdOk s d n)(hn:n+1+z5k s<=10000000)(c:Int)(o:Op3):
  Calls Tryz.prog 12 #[some g,.agg #[s.p,s.c,s.m],c,.agg #[o.k,o.a,o.n]] W fun e w'=>
   (if (d.act s ⟨2,c,o.k,o.a,o.n,0⟩).2=0 then e= .returned (.tuple #[.int .i64 (ygv (askW s d c o)),.bool true])/\WdTo B F W w' g s (askW s d c o)
    else e= .returned (.tuple #[.int .i64 0,.bool false])/\WdTo B F W w' g s (d.act s ⟨2,c,o.k,o.a,o.n,0⟩).1):=by
 have hm:=ho.fi.may;have b6:=fun Y=>yg0 s hm Y;have bp:=((Below.refl W.heap.size W).alloc lr (.cells #[s.p,s.c,s.m] 23));have b4:=bp.alloc bp.size (.cells #[o.k,o.a,o.n] 33);obtain⟨rA,rO,e4,_⟩:=zc5 W (.cells #[s.p,s.c,s.m] 23) (.cells #[o.k,o.a,o.n] 33);have tA:zaa ((W.alloc (.cells #[s.p,s.c,s.m] 23)).alloc (.cells #[o.k,o.a,o.n] 33)) W.heap.size #[s.p,s.c,s.m] 23:=rA;have tO:zaa ((W.alloc (.cells #[s.p,s.c,s.m] 23)).alloc (.cells #[o.k,o.a,o.n] 33)) (W.heap.size+1) #[o.k,o.a,o.n] 33:=rO;have cx:∀ (p:Nat) (W:World),(binOp .eql 43 (.pointer (some ⟨p,0,.none⟩)) (.pointer none)).run Tryz.prog W= .ok (.bool false) W:=fun p W=>by kernel_rfl
 clear rA rO bp;have z:=zeo ho ⟨2,c,o.k,o.a,o.n,0⟩;have I:=fun e=>yct ho (x:=⟨2,c,o.k,o.a,o.n,0⟩) rfl e;obtain⟨b1,E,bc⟩:=hidv (askW s d c o);rw[<-bc];clear bc;replace E:=hd' (E.out.trans (show askW s d c o=(d.act s ⟨2,c,o.k,o.a,o.n,0⟩).1.goN s c (z5k s) from rfl));obtain⟨d1,cp,bg⟩:∃ b,Hid (b=(d.act s ⟨2,c,o.k,o.a,o.n,0⟩).1)/\b=(d.act s ⟨2,c,o.k,o.a,o.n,0⟩).1:=⟨_,hd' rfl,rfl⟩;obtain⟨er,cq,bh⟩:∃ b,Hid (b=(d.act s ⟨2,c,o.k,o.a,o.n,0⟩).2)/\b=(d.act s ⟨2,c,o.k,o.a,o.n,0⟩).2:=⟨_,hd' rfl,rfl⟩;rw[<-bg]at E z I ⊢;rw[<-bh]at I ⊢;clear bg bh;go_in;go_upto_region 1 with fail;generalize (W.alloc (.cells #[s.p,s.c,s.m] 23)).alloc (.cells #[o.k,o.a,o.n] 33)=W2 at *;obtain⟨H,hH,c4⟩:=hidv W.heap.size;rw[<-c4]at tA tO ⊢;clear c4;have cy:=h.below b4;have e7:=tA.lt;have bk:B<=W2.heap.size:=by omega
 have y:∀ i,F i->B<=i/\i<H:=fun i hi=>by have:=h.lt i hi;have:=hH.out;omega
 have bz:¬ F H:=fun e=>by have:=(y H e).2;omega
 have V:Calls Tryz.prog 7 #[some g,.agg #[.int .i64 2,c,o.k,o.a,o.n,.float .f64 0]] W2 fun e w'=>e= .returned (.int .i64 (d.act s ⟨2,c,o.k,o.a,o.n,0⟩).2)/\WdTo B F W2 w' g s (d.act s ⟨2,c,o.k,o.a,o.n,0⟩).1:=zkm cy bk ho (by omega) ⟨2,c,o.k,o.a,o.n,0⟩;have R:∀ w' dd,WdTo B F W2 w' g s dd->WdTo B F W w' g s dd:=fun w' dd hk=>WdTo.from h hB b4 hk;rw[<-cp.out,<- cq.out]at V;have cd:=tO.cell;have lO:=tO.lt;replace V:=hd' V;replace b6:=hd' b6;replace I:=hd' I;replace R:=hd' R;replace b4:=hd' b4;clear h;by_cases h0:¬ er=0
 ·have be:(er==0)=false:=by rw[beq_eq_false_iff_ne];exact h0
  go_wp2_with (first|(go_at_call 7;(with_reducible refine V.out.mono ?_);rintro r w3 ⟨rfl,hT⟩));go_returns;exact⟨rfl,R.out _ _ hT⟩
 replace h0:=Decidable.not_not.1 h0;obtain⟨b5,c6,hD⟩:=I.out h0;dsimp only at b5 c6 hD;subst h0;obtain⟨k1,c8,_⟩:=id hD;have ck:c.toNat<d1.l.length:=(Wd.zfs c8).2;have cu:d1.l.length<=100:=by rw[z.len];have:=ho.fi.bd;omega
 go_upto_region 3 with(first|(go_at_call 7;(with_reducible refine V.out.mono ?_);rintro r w3 ⟨rfl,hT⟩));have tA3:=tA.only hT.2.1 bz;obtain⟨⟨x3,bv⟩,ca,bx⟩:=id hT;have G:=zva bv c ⟨b5,ck⟩ cu;rw[c8]at G;replace G:Hid (Calls Tryz.prog 10 #[some g,c] w3 fun e w'=>e= .returned (.pointer (some ⟨x3.qs c.toNat,0,.none⟩))/\Below w3.heap.size w3 w'):=hd' G;have b3:WdTq (fun q=>q=x3.qs) B F W2 w3 g s d1:=⟨⟨x3,bv,rfl⟩,ca,bx⟩;clear cd lO tO bv ca bx;replace b3:=hd' b3;go_upto_region 6 with(first|(go_at_call 10;(with_reducible refine G.out.mono ?_);rintro r w4 ⟨rfl,bn⟩));have c5:=b3.out.below bk (fun i hi=>⟨(y i hi).1,by have:=(y i hi).2;omega⟩) bn;have tA4:=tA3.below bn;generalize x3.qs=Q at *;clear b3 G bn hT tA3;have N:∀ i,z5k s<=i->∃ k,(d1.goN s c i).kl c=some k/\k.job=none:=fun i hi=>by obtain⟨k,h1,h2,_⟩:=ya0 (zz6 z i) (yav z hD i) (by unfold z5k at hi;omega);exact⟨k,h1,h2⟩
 have hM:z5k s<=8000:=by unfold z5k;have:=ho.fi.bd;omega
 have cm:0<=c/\c<s.c:=⟨b5,c6⟩;generalize z5k s=M at *;replace N:=hd' N;go_wp2;go_loopw [11] (fun bw wr=>∃ i:Nat,i<=M/\bw= .int .i64 i/\WdTq (fun q=>q=Q) B F W2 wr g s (d1.goN s c i)) (fun bw _=>M-(intOf bw).toNat);case atStart=>exact⟨0,Nat.zero_le _,rfl,c5⟩
 case round=>
  clear c5 tA4;obtain⟨i,hi,rfl,hT⟩:=hrel;have S:=zz6 z (c:=c) i;have cg:=yav z hD i;have cc:=tA.only hT.2.1 bz;have b7:=fun k h1 h2=>yfl (s:=s) (d:=d1) (c:=c) (i:=i) (k:=k) h1 h2 (M-i);rw[show i+(M-i)=M by omega]at b7;have bs:=fun k h1 h2=>(z5n (s:=s) (d:=d1.goN s c i) (c:=c) (k:=k) h1 h2:(d1.goN s c i).goS s c=_);have O:d1.goN s c (i+1)=(d1.goN s c i).goS s c:=rfl;have D:=N.out i;obtain⟨k,hk,bm⟩:=cg;replace E:=E.out;generalize d1.goN s c i=di at *;have b2:=hT;obtain⟨⟨x',U,b9⟩,e3,cf⟩:=hT;replace b9:x'.qs=Q:=b9;have bu:di.l.getD c.toNat none=some k:=by have h1:=hk;unfold Wd.kl at h1;rw[if_pos b5]at h1;exact h1
  have C:∀ Y,Below wr.heap.size wr Y->Calls Tryz.prog 11 #[.pointer (some ⟨Q c.toNat,0,.none⟩)] Y fun e w'=>e= .returned (.bool k.rests)/\w'=Y:=fun Y hb=>by have h1:=zyp ((U.below hb).cl c.toNat k bu);rw[b9]at h1;exact h1
  have X:∀ Y,Below wr.heap.size wr Y->Calls Tryz.prog 7 #[some g,.agg #[.int .i64 3,c,.int .i64 0,.int .i64 0,.int .i64 0,.float .f64 0]] Y fun e w'=>e= .returned (.int .i64 (di.act s (zjx c)).2)/\WdTq (fun q=>q=Q) B (grow F W2 wr) wr w' g s (di.act s (zjx c)).1:=fun Y hb=>by refine(yg6 (U.below hb) (by have:=hb.size;omega) S (by omega) c cm).mono fun e w' h=>⟨h.1,?_⟩;have h2:=h.2;rw[b9]at h2;exact WdTq.from U cf hb h2
  have cz:=cc.cell;have lA:=cc.lt;have e0:(0:Int)<=(i:Int):=by omega
  replace X:=hd' X;by_cases hr:k.job=none
  ·have c9:k.rests=true:=by unfold Kl.rests;rw[hr];rfl
   rw[c9]at C;have Z:Told di c:=bm.elim (fun h=>absurd hr h.1) (fun h=>h.2);have bq:b1=di:=E.trans (b7 k hk hr);have cb:di.tr.length<=100000000:=by have:=S.tr;omega
   have ba:=fun Y (hb:Below wr.heap.size wr Y)=>yg2 (U.below hb) cb c Z;have L:∀ Y,Below wr.heap.size wr Y->WdTo B F W Y g s di:=fun Y hb=>R.out _ _ (b2.below bk (fun j hj=>⟨(y j hj).1,by have:=(y j hj).2;omega⟩) hb).to;obtain⟨le,cs,bi⟩:=hidv (ygv di);rw[<-bi]at ba;clear bi;replace bq:=hd' bq;clear E b7 bs O D b2 U S bm hk bu Z cb hr c9;replace ba:=hd' ba;replace C:=hd' C;replace L:=hd' L;by_cases cv:i<M;all_goals
    have bj:(i:Int)<(M:Int)\/¬ (i:Int)<(M:Int):=by omega
    first
     |(have y:(i:Int)<(M:Int):=by omega)
     |(have y:¬ (i:Int)<(M:Int):=by omega)
    clear bj;go_upto_region 11 with(first|(go_at_call 9;(with_reducible refine(b6.out _).mono ?_);rintro r w5 ⟨rfl,T⟩)|(go_at_call 11;(with_reducible refine(C.out _ T).mono ?_);rintro r w6 ⟨rfl,b0⟩;obtain rfl:=b0.symm)|(go_at_call 18;(with_reducible refine(ba.out _ T).mono ?_);rintro r w7 ⟨cj,v,rfl,bb,e8,cap,m,rfl,e1,e2,lb,y0,y1,y7⟩));have b1:((m:Int)+1==0)=false:=by rw[beq_eq_false_iff_ne];omega
    have wm:IntKind.i64.wrap (m:Int)=(m:Int):=IntWalk.i64_in _ ⟨by omega,by omega⟩;have ea:IntKind.i64.wrap ((m:Int)+1-1)=(m:Int):=IntWalk.i64_in _ ⟨by omega,by omega⟩ |>.trans (by omega);have e5:(0:Int)<=(m:Int):=by omega
    have e6:(m:Int)<(m:Int)+1:=by omega
    have bf:=zab T cj;go_wp2_with (first|(go_at_call 11;(with_reducible refine(C.out _ bf).mono ?_);rintro r w6 ⟨rfl,b0⟩;obtain rfl:=b0.symm));go_returns;rw[bq.out,<- cs.out];exact⟨rfl,L.out _ bf⟩
  have c7:k.rests=false:=by
   unfold Kl.rests;rcases hj:k.job with _|j
   ·exact absurd hj hr
   rfl
  rw[c7]at C;have cv:i<M:=by
   rcases Nat.lt_or_ge i M with h1|h1
   ·exact h1
   obtain⟨k',b8,cr⟩:=D h1;rw[hk]at b8;injection b8 with b8;exact absurd (b8 ▸ cr) hr
  have bj:(i:Int)<(M:Int):=by omega
  have e9:IntKind.i64.wrap ((i:Int)+1)=(i:Int)+1:=IntWalk.i64_in _ ⟨by omega,by omega⟩
  have J:∀ Y,WdTq (fun q=>q=Q) B (grow F W2 wr) wr Y g s (di.act s (zjx c)).1->∃ i':Nat,i'<=M/\Value.int .i64 ((i:Int)+1)= .int .i64 i'/\WdTq (fun q=>q=Q) B F W2 Y g s (d1.goN s c i'):=fun Y h=>⟨i+1,by omega,by go_num,by
   rw[O,bs k hk hr]
   exact WdTq.trans b2.to h⟩
  replace J:=hd' J;replace C:=hd' C;clear b2 U S bm E b7 bs O D hk bu hr c7;go_wp2_with (first|(go_at_call 9;(with_reducible refine(b6.out _).mono ?_);rintro r w5 ⟨rfl,T⟩)|(go_at_call 11;(with_reducible refine(C.out _ T).mono ?_);rintro r w6 ⟨rfl,b0⟩;obtain rfl:=b0.symm)|(go_at_call 7;(with_reducible refine(X.out _ T).mono ?_);rintro r w7 ⟨rfl,ch⟩));exact⟨J.out _ ch,by simp only[intOf];omega⟩
end

end

section

open Go.RowKit

attribute [local go_sem ↓] Go.wp_at_zero Go.wp_at_succ

def sT:Sh:=⟨2,1,1⟩
def tA0:Wd:=zde sT
def tA1:Wd:=(tA0.act sT ⟨1,0,0,0,0,0⟩).1
def tA2:Wd:=askW sT tA1 0 ⟨1,0,100⟩
def tA3:Wd:=askW sT tA2 0 ⟨1,0,1⟩
def tA4:Wd:=askW sT tA3 0 ⟨2,0,0⟩
theorem tE1:(tA0.act sT ⟨1,0,0,0,0,0⟩).2=0:=by decide +kernel
theorem tE2:(tA1.act sT ⟨2,0,1,0,100,0⟩).2=0:=by decide +kernel
theorem tL2:ygv tA2=0:=by decide +kernel
theorem tE3:(tA2.act sT ⟨2,0,1,0,1,0⟩).2=0:=by decide +kernel
theorem tL3:ygv tA3=3:=by decide +kernel
theorem tE4:(tA3.act sT ⟨2,0,2,0,0,0⟩).2=0:=by decide +kernel
theorem tL4:ygv tA4=0:=by decide +kernel
theorem tF4:(⟨2,1,1,tA4.m.ws⟩:Hp).count.f=128:=by decide +kernel
theorem tM:z5k sT=284:=by decide
theorem audT(ws:List Int)(hc:(⟨2,1,1,ws⟩:Hp).count.f=128)(j:∀ x ∈ ws,0<=x/\x<18446744073709551616)(v:Value)(Y:World)(h:RdZ .u64 Y v ws):
  Calls Tryz.prog 14 #[.agg #[.int .i64 2,.int .i64 1,.int .i64 1],v] Y fun e w'=>(∃ a b c:Value,e= .returned (.agg #[.int .i64 128,a,b,c]))/\Below Y.heap.size Y w':=by
 refine(ycv ⟨2,1,1,ws⟩ v Y h j).mono fun e w' i=>?_;have h1:=i.1;rw[hc]at h1;exact⟨⟨_,_,_,h1⟩,i.2⟩
theorem yjk{s:Sh}{d:Wd}{n:Nat}(h:wdOk s d n):∀ x ∈ d.m.ws,0<=x/\x<18446744073709551616:=h.fit
theorem yhd(a b c d:Value)(w:World):(Instr.field 49 (.agg #[a,b,c,d]) 0).run Tryz.prog w= .ok a w:=by kernel_rfl
attribute [local go_sem ↓] yhd

theorem yhf(W:World):Calls Tryz.prog 4 #[] W fun e w'=>e= .returned (.bool true)/\Below W.heap.size W w':=by
 have o0:=zl9 (s:=sT) (by decide);have o1:wdOk sT tA1 1:=zeo o0 _;have o2:wdOk sT tA2 286:=by have h:=yhe (c:=0) (o:=⟨1,0,100⟩) o1;rw[tM]at h;exact h
 have o3:wdOk sT tA3 571:=by have h:=yhe (c:=0) (o:=⟨1,0,1⟩) o2;rw[tM]at h;exact h
 have o4:wdOk sT tA4 856:=by have h:=yhe (c:=0) (o:=⟨2,0,0⟩) o3;rw[tM]at h;exact h
 have l:∀ Y,Calls Tryz.prog 6 #[.agg #[.int .i64 2,.int .i64 1,.int .i64 1]] Y fun e w'=>Below Y.heap.size Y w'/\∃ g v x,e= .returned (.tuple #[.pointer (some ⟨g,0,.none⟩),.pointer (some ⟨v,0,.none⟩)])/\WdP Y.heap.size (fun i=>Y.heap.size<=i/\i<w'.heap.size) w' g sT tA0 x:=fun Y=>znk sT Y (by decide);have bj:∀ (p:Nat) (W:World),(binOp .eql 28 (.pointer (some ⟨p,0,.none⟩)) (.pointer none)).run Tryz.prog W= .ok (.bool false) W:=fun p W=>by kernel_rfl
 have I:∀ (B:Nat) (F:Nat->Prop) X g x,WdP B F X g sT tA0 x->B<=X.heap.size->Calls Tryz.prog 7 #[some g,.agg #[.int .i64 1,.int .i64 0,.int .i64 0,.int .i64 0,.int .i64 0,.float .f64 0]] X fun e w'=>e= .returned (.int .i64 0)/\WdTo B F X w' g sT tA1:=fun B F X g x C E=>by have h:=zkm C E o0 (by omega) ⟨1,0,0,0,0,0⟩;rw[tE1]at h;exact h
 have J:∀ (B:Nat) (F:Nat->Prop) X g x,WdP B F X g sT tA1 x->B<=X.heap.size->Calls Tryz.prog 12 #[some g,.agg #[.int .i64 2,.int .i64 1,.int .i64 1],.int .i64 0,.agg #[.int .i64 1,.int .i64 0,.int .i64 100]] X fun e w'=>e= .returned (.tuple #[.int .i64 0,.bool true])/\WdTo B F X w' g sT tA2:=fun B F X g x C E=>by refine(yha C E o1 (by rw[tM];omega) 0 ⟨1,0,100⟩).mono fun e w' q=>?_;dsimp only at q;rw[if_pos tE2]at q;rw[<-tL2];exact q
 have L:∀ (B:Nat) (F:Nat->Prop) X g x,WdP B F X g sT tA2 x->B<=X.heap.size->Calls Tryz.prog 12 #[some g,.agg #[.int .i64 2,.int .i64 1,.int .i64 1],.int .i64 0,.agg #[.int .i64 1,.int .i64 0,.int .i64 1]] X fun e w'=>e= .returned (.tuple #[.int .i64 3,.bool true])/\WdTo B F X w' g sT tA3:=fun B F X g x C E=>by refine(yha C E o2 (by rw[tM];omega) 0 ⟨1,0,1⟩).mono fun e w' q=>?_;dsimp only at q;rw[if_pos tE3]at q;rw[<-tL3];exact q
 have M:∀ (B:Nat) (F:Nat->Prop) X g x,WdP B F X g sT tA3 x->B<=X.heap.size->Calls Tryz.prog 12 #[some g,.agg #[.int .i64 2,.int .i64 1,.int .i64 1],.int .i64 0,.agg #[.int .i64 2,.int .i64 0,.int .i64 0]] X fun e w'=>e= .returned (.tuple #[.int .i64 0,.bool true])/\WdTo B F X w' g sT tA4:=fun B F X g x C E=>by refine(yha C E o3 (by rw[tM];omega) 0 ⟨2,0,0⟩).mono fun e w' q=>?_;dsimp only at q;rw[if_pos tE4]at q;rw[<-tL4];exact q
 have N:∀ (B:Nat) (F:Nat->Prop) X g x,WdP B F X g sT tA4 x->Calls Tryz.prog 15 #[some g] X fun e w'=>∃ v',e= .returned v'/\Below X.heap.size X w'/\RdZ .u64 w' v' tA4.m.ws:=fun B F X g x C=>(ycw C).mono fun e w' ⟨v,h1,h2,h3⟩=>⟨v,h1,h2,RdS.zew h3⟩
 have j:∀ Y v,RdZ .u64 Y v tA4.m.ws->Calls Tryz.prog 14 #[.agg #[.int .i64 2,.int .i64 1,.int .i64 1],v] Y fun e w'=>(∃ a b c:Value,e= .returned (.agg #[.int .i64 128,a,b,c]))/\Below Y.heap.size Y w':=fun Y v h=>audT _ tF4 (yjk o4) v Y h;have b0:=(Below.refl W.heap.size W).alloc lr (.cells #[.int .i64 2,.int .i64 1,.int .i64 1] 23);have t0:zaa (W.alloc (.cells #[.int .i64 2,.int .i64 1,.int .i64 1] 23)) W.heap.size #[.int .i64 2,.int .i64 1,.int .i64 1] 23:=heap_alloc_new _ _;replace l:=hd' l;replace I:=hd' I;replace J:=hd' J;replace L:=hd' L;replace M:=hd' M;replace N:=hd' N;replace j:=hd' j;clear o0 o1 o2 o3 o4;go_in;go_upto_region 2 with fail;generalize W.alloc (.cells #[.int .i64 2,.int .i64 1,.int .i64 1] 23)=X at *;obtain⟨H,hH,V⟩:=hidv W.heap.size;rw[<-V]at t0 ⊢;clear V;have D:=t0.lt;obtain⟨c0,c1,c2⟩:=ci3 2 1 1 t0.cell;go_upto_region 6 with(first|(go_at_call 6;(with_reducible refine(l.out _).mono ?_);rintro r w1 ⟨G,g,vv,x0,rfl,b7⟩;have R:=G.size)|(go_at_call 7;(with_reducible refine(I.out _ _ _ _ _ b7 R).mono ?_);rintro r w2 ⟨rfl,⟨x1,b8⟩,b3,S⟩));have t1:=t0.below G;have bb:¬ (X.heap.size<=H/\H<w1.heap.size):=fun e=>by omega
 have t2:=t1.only b3 bb;have bc:=zif (F:=fun i=>X.heap.size<=i/\i<w1.heap.size) (W':=w2) bb t1.lt;clear c0 c1 c2 D;have D:=t2.lt;obtain⟨c0,c1,c2⟩:=ci3 2 1 1 t2.cell;go_upto_region 7 with(first|(go_at_call 12;(with_reducible refine(J.out _ _ _ _ _ b8 S).mono ?_);rintro r w3 ⟨rfl,⟨x2,b9⟩,b4,T⟩));have t3:=t2.only b4 bc;have bf:=zif (W':=w3) bc t2.lt;clear c0 c1 c2 D;have D:=t3.lt;obtain⟨c0,c1,c2⟩:=ci3 2 1 1 t3.cell;go_upto_region 8 with(first|(go_at_call 12;(with_reducible refine(L.out _ _ _ _ _ b9 T).mono ?_);rintro r w4 ⟨rfl,⟨x3,ba⟩,b5,U⟩));have t4:=t3.only b5 bf;have bi:=zif (W':=w4) bf t3.lt;clear c0 c1 c2 D;have D:=t4.lt;obtain⟨c0,c1,c2⟩:=ci3 2 1 1 t4.cell;go_upto_region 9 with(first|(go_at_call 12;(with_reducible refine(M.out _ _ _ _ _ ba U).mono ?_);rintro r O ⟨rfl,⟨x4,bh⟩,b6,bk⟩));have t5:=t4.only b6 bi;clear c0 c1 c2 D;have D:=t5.lt;obtain⟨c0,c1,c2⟩:=ci3 2 1 1 t5.cell;have b2:Below W.heap.size W O:=b0.trans ((G.trans ((b3.below R (fun i hi=>(b7.lt i hi).1)).trans ((b4.below S (fun i hi=>(b8.lt i hi).1)).trans ((b5.below T (fun i hi=>(b9.lt i hi).1)).trans (b6.below U (fun i hi=>(ba.lt i hi).1)))))).mono b0.size);have bg:=b2.size;have y:∀ Z,Below O.heap.size O Z->Calls Tryz.prog 15 #[some g] Z fun e w'=>∃ v',e= .returned v'/\Below Z.heap.size Z w'/\RdZ .u64 w' v' tA4.m.ws:=fun Z hZ=>N.out _ _ _ _ _ (bh.below hZ);have hk:∀ Z,Below O.heap.size O Z->Z.cell? ⟨H,0,.none⟩=some (.int .i64 2)/\Z.cell? ⟨H,1,.none⟩=some (.int .i64 1)/\Z.cell? ⟨H,2,.none⟩=some (.int .i64 1):=fun Z hZ=>⟨zai hZ _ _ _ c0,zai hZ _ _ _ c1,zai hZ _ _ _ c2⟩;replace y:=hd' y;replace hk:=hd' hk;have dd:=hd' (Below.refl O.heap.size O).drew
 go_region_held3 (fun Y=>Y.cell? ⟨H,0,.none⟩=some (.int .i64 2)/\Y.cell? ⟨H,1,.none⟩=some (.int .i64 1)/\Y.cell? ⟨H,2,.none⟩=some (.int .i64 1))
  (first|exact hk.out _ dd.out|exact hk.out _ (dd.out.trans (z.mono dd.out.size))|exact hk.out _ ((dd.out.trans (z.mono dd.out.size)).trans (b1.mono (by have:=dd.out.size;have:=z.size;omega))))
  (first|(go_at_call 15;(with_reducible refine(y.out _ dd.out).mono ?_);rintro r w6 ⟨v,rfl,z,hv⟩)|(go_at_call 14;(with_reducible refine(j.out _ _ hv).mono ?_);rintro r w7 ⟨⟨a,b,c,rfl⟩,b1⟩))
 go_wp2_with fail;go_returns;have h6:=dd.out.trans (z.mono dd.out.size);exact⟨rfl,b2.trans ((h6.trans (b1.mono h6.size)).mono bg)⟩
end

section

open Go.RowKit

attribute [local go_sem ↓] Go.wp_at_zero Go.wp_at_succ

theorem room22(ao:Option Addr)(n cap:Nat)(m:Nat)(i:(n:Int)<=9223372036854775807)(w:World):Calls Tryz.prog 5 #[.slice ao n cap,.int .i64 (m:Int)] w fun e w'=>e= .returned (.bool (decide (n<=m)))/\w'=w:=by
 by_cases h:n<=m
 ·rw[decide_eq_true h];have b:(n:Int)<=(m:Int):=by omega
  go_in;go_wp2_with fail;go_returns;exact⟨rfl,rfl⟩
 rw[decide_eq_false h];have b:¬ (n:Int)<=(m:Int):=by omega
 go_in;go_wp2_with fail;go_returns;exact⟨rfl,rfl⟩
theorem chAt{W:World}{xs:List Ch}{ao:Option Addr}{n cap:Nat}(J:n=xs.length)(C:RdS W 6 (.slice ao n cap) n (xs.flatMap Ch.cells)){i:Nat}(hi:i<xs.length):∃ f b,ao=some ⟨f,b,.none⟩/\∀ H X,W.heap.size<=H->Below H W X->(∀ k,k<6->X.cell? ⟨f,b+i*6+k,.none⟩=xs[i].cells[k]?)/\f<X.heap.size:=by
 obtain⟨q,m,e,o,t,I,l⟩:=C;injection e with r D E;subst r;obtain⟨f,b,rfl,y,j⟩:=l (by omega);refine⟨f,b,rfl,fun H X G hb=>⟨fun k z=>?_,by have:=hb.size;omega⟩⟩;have h1:X.cell? ⟨f,b+i*6+k,.none⟩=W.cell? ⟨f,b+i*6+k,.none⟩:=hb.cell (p:=⟨f,_,.none⟩) (show f<H by omega);rw[h1,Nat.add_assoc,j _ (by omega)];exact yan xs i hi k z
end

section

open Go.RowKit

structure LawAt (W0:World) (g:Nat) (s:Sh) (Kp:Nat->Obj->Prop) (d:Wd) (W:World):Prop where
 wd:∃ F x,WdP W0.heap.size F W g s d x/\∀ k v,Kp k v->W.heap[k]?=some v/\¬ F k
 ab:Below W0.heap.size W0 W
def kp1 (k:Nat) (v:Obj):Nat->Obj->Prop:=fun i o=> i=k/\o=v
def kpM (Kp:Nat->Obj->Prop) (k:Nat) (v:Obj):Nat->Obj->Prop:=fun i o=> Kp i o\/(i=k/\o=v)
section

variable {W0 W W':World} {g:Nat} {s:Sh} {Kp Kq:Nat->Obj->Prop} {d d':Wd} {n:Nat}

theorem LawAt.keep(h:LawAt W0 g s Kp d W){k:Nat}{v:Obj}(b:Kp k v):W.heap[k]?=some v:=by
 obtain⟨⟨F,x,_,h2⟩,_⟩:=h;exact(h2 k v b).1
theorem LawAt.imp(h:LawAt W0 g s Kp d W)(f:∀ k v,Kq k v->Kp k v):LawAt W0 g s Kq d W:=by
 obtain⟨⟨F,x,h1,h2⟩,h3⟩:=h;exact⟨⟨F,x,h1,fun k v b=>h2 k v (f k v b)⟩,h3⟩
theorem LawAt.below(h:LawAt W0 g s Kp d W)(hb:Below W.heap.size W W'):LawAt W0 g s Kp d W':=by
 obtain⟨⟨F,x,h1,h2⟩,h3⟩:=h;exact⟨⟨F,x,h1.below hb,fun k v b=>⟨(hb.block k (Array.getElem?_eq_some_iff.1 (h2 k v b).1).1).trans (h2 k v b).1,(h2 k v b).2⟩⟩,h3.trans (hb.mono h3.size)⟩
theorem LawAt.add(h:LawAt W0 g s Kp d W)(hb:Below W.heap.size W W'){k:Nat}{v:Obj}(p:W.heap.size<=k)(l:W'.heap[k]?=some v):LawAt W0 g s (kpM Kp k v) d W':=by
 obtain⟨⟨F,x,h1,h2⟩,h3⟩:=h.below hb;obtain⟨⟨j,m,b,f⟩,_⟩:=h;refine⟨⟨j,m,b.below hb,fun i o hi=>?_⟩,h3⟩;rcases hi with hi|⟨rfl,rfl⟩
 ·exact⟨(h2 i o hi).1,(f i o hi).2⟩
 exact⟨l,fun e=>by have:=(b.lt i e).2;omega⟩
theorem LawAt.to{F:Nat->Prop}{x:Wx}(h3:Below W0.heap.size W0 W)(h1:WdP W0.heap.size F W g s d x)(h2:∀ k v,Kp k v->W.heap[k]?=some v/\¬ F k)(h:WdTo W0.heap.size F W W' g s d'):LawAt W0 g s Kp d' W':=by
 obtain⟨⟨q,f⟩,m,r⟩:=h;refine⟨⟨_,q,f,fun k v p=>?_⟩,h3.trans (m.below h3.size (fun j o=>(h1.lt j o).1))⟩;obtain⟨i,l⟩:=h2 k v p;have b:=(Array.getElem?_eq_some_iff.1 i).1;exact⟨(m.block k b l).trans i,zif l b⟩
theorem law_begin{Y:World}(q:mayB s.p s.c s.m=true)(i:Below W0.heap.size W0 Y)(b:∀ k v,Kp k v->Y.heap[k]?=some v):
  Calls Tryz.prog 6 #[.agg #[s.p,s.c,s.m]] Y fun e w'=>∃ g v,e= .returned (.tuple #[.pointer (some ⟨g,0,.none⟩),.pointer (some ⟨v,0,.none⟩)])/\LawAt W0 g s Kp (zde s) w'/\Below Y.heap.size Y w':=
 (znk s Y q).mono fun e w' ⟨hb,g,v,x,l,r⟩=>⟨g,v,l,⟨⟨_,x,r.lower i.size,fun k o j=>⟨(hb.block k (Array.getElem?_eq_some_iff.1 (b k o j)).1).trans (b k o j),fun e=>by have:=(Array.getElem?_eq_some_iff.1 (b k o j)).1;omega⟩⟩,i.trans (hb.mono i.size)⟩,hb⟩
theorem law_do(h:LawAt W0 g s Kp d W)(p:wdOk s d n)(o:n<=10000000)(l j m b cn:Int)(i:Nat):
  Calls Tryz.prog 7 #[some g,.agg #[l,j,m,b,cn,.float .f64 i]] W fun e w'=>e= .returned (.int .i64 (d.act s ⟨l,j,m,b,cn,i⟩).2)/\LawAt W0 g s Kp (d.act s ⟨l,j,m,b,cn,i⟩).1 w':=by
 obtain⟨⟨F,x,h1,h2⟩,h3⟩:=h;exact(zkm h1 h3.size p o ⟨l,j,m,b,cn,i⟩).mono fun e w' k=>⟨k.1,LawAt.to h3 h1 h2 k.2⟩
theorem law_stat(h:LawAt W0 g s Kp d W)(b:wdOk s d n)(c:Int):
  Calls Tryz.prog 13 #[some g,c] W fun e w'=>e= .returned (.int .i64 (zrl s d c))/\Below W.heap.size W w':=by
 obtain⟨⟨F,x,h1,h2⟩,h3⟩:=h;exact zmv h1 b.fi b.fit c
theorem law_words(h:LawAt W0 g s Kp d W):
  Calls Tryz.prog 15 #[some g] W fun e w'=>∃ v',e= .returned v'/\Below W.heap.size W w'/\RdZ .u64 w' v' d.m.ws:=by
 obtain⟨⟨F,x,h1,h2⟩,h3⟩:=h;exact(ycw h1).mono fun e w' ⟨v,k1,b,i⟩=>⟨v,k1,b,RdS.zew i⟩
theorem law_trace(h:LawAt W0 g s Kp d W)(b:d.tr.length<=100000000):
  Calls Tryz.prog 18 #[some g] W fun e w'=>∃ v',e= .returned v'/\Below W.heap.size W w'/\RdE w' v' d.tr:=by
 obtain⟨⟨F,x,h1,h2⟩,h3⟩:=h;exact(zko h1 b).mono fun e w' ⟨v,k1,i,j⟩=>⟨v,k1,i,RdS.zew j⟩
theorem law_ask(h:LawAt W0 g s Kp d W)(i:wdOk s d n)(b:n+1+z5k s<=10000000)(c k a m:Int):
  Calls Tryz.prog 12 #[some g,.agg #[s.p,s.c,s.m],c,.agg #[k,a,m]] W fun e w'=>
   (if (d.act s ⟨2,c,k,a,m,0⟩).2=0 then e= .returned (.tuple #[.int .i64 (ygv (askW s d c ⟨k,a,m⟩)),.bool true])/\LawAt W0 g s Kp (askW s d c ⟨k,a,m⟩) w'
    else e= .returned (.tuple #[.int .i64 0,.bool false])/\LawAt W0 g s Kp (d.act s ⟨2,c,k,a,m,0⟩).1 w'):=by
 obtain⟨⟨F,x,h1,h2⟩,h3⟩:=h;refine(yha h1 h3.size i b c ⟨k,a,m⟩).mono fun e w' h=>?_;dsimp only at h;split at h
 ·rename_i h0;rw[if_pos h0];exact⟨h.1,LawAt.to h3 h1 h2 h.2⟩
 rename_i h0;rw[if_neg h0];exact⟨h.1,LawAt.to h3 h1 h2 h.2⟩
theorem law_ask_ok(h:LawAt W0 g s Kp d W)(i:wdOk s d n)(b:n+1+z5k s<=10000000)(c k a m:Int)(h0:(d.act s ⟨2,c,k,a,m,0⟩).2=0):
  Calls Tryz.prog 12 #[some g,.agg #[s.p,s.c,s.m],c,.agg #[k,a,m]] W fun e w'=>
   e= .returned (.tuple #[.int .i64 (ygv (askW s d c ⟨k,a,m⟩)),.bool true])/\LawAt W0 g s Kp (askW s d c ⟨k,a,m⟩) w':=
 (law_ask h i b c k a m).mono fun e w' h=>by rw[if_pos h0]at h;exact h
theorem LawAt.other{G:Nat->Prop}(h:LawAt W0 g s Kp d W)(j:Only G W W')(o:∀ k,G k->W0.heap.size<=k/\∃ v,Kp k v)(q:∀ k v,Kq k v->(Kp k v/\¬ G k)\/((G k\/W.heap.size<=k)/\W'.heap[k]?=some v)):LawAt W0 g s Kq d W':=by
 obtain⟨⟨F,x,h1,h2⟩,h3⟩:=h;have hd:∀ k,F k->¬ G k:=fun k f b=>by obtain⟨_,v,m⟩:=o k b;exact(h2 k v m).2 f
 refine⟨⟨F,x,h1.only j hd,fun k v i=>?_⟩,h3.trans (j.below h3.size fun k i=>(o k i).1)⟩;rcases q k v i with⟨l,p⟩|⟨b,m⟩
 ·exact⟨(j.block k (Array.getElem?_eq_some_iff.1 (h2 k v l).1).1 p).trans (h2 k v l).1,(h2 k v l).2⟩
 refine⟨m,fun f=>?_⟩;rcases b with b|b
 ·exact hd k f b
 have:=(h1.lt k f).2;omega
theorem law_client(h:LawAt W0 g s Kp d W)(m:wdOk s d n){c:Int}{k:Kl}(i:d.kl c=some k):∃ q:Nat,
  (∀ Y,Below W.heap.size W Y->Calls Tryz.prog 10 #[some g,c] Y fun e w'=>e= .returned (.pointer (some ⟨q,0,.none⟩))/\Below Y.heap.size Y w')/\
  (∀ Y,Below W.heap.size W Y->Calls Tryz.prog 11 #[some q] Y fun e w'=>e= .returned (.bool k.rests)/\w'=Y):=by
 obtain⟨⟨F,x,h1,h2⟩,h3⟩:=h;have b:=Wd.zfs i;have o:d.l.length<=100:=by have:=m.fi.bd;have:=m.len;omega
 have j:d.l.getD c.toNat none=some k:=by have h1:=i;unfold Wd.kl at h1;rw[if_pos b.1]at h1;exact h1
 refine⟨x.qs c.toNat,fun Y hb=>?_,fun Y hb=>zyp ((h1.below hb).cl c.toNat k j)⟩;have h4:=zva (h1.below hb) c b o;rw[i]at h4;exact h4
end

end

end Go.Proofs.YtedcnffebdpmmaaGreat
