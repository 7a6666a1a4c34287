/- Lemmas for the claim. -/
import Derived.Test.YtmmbicppdjgbmaaGreatBw37

import Derived.Test.YtmmbicppdjgbmaaGreatBw40

set_option linter.all false
set_option maxHeartbeats 8000000
set_option maxRecDepth 100000
namespace Go.Proofs.YtmmbicppdjgbmaaGreat

section

open Go.RowKit

attribute [local go_sem ↓] Go.wp_at_zero Go.wp_at_succ

theorem z5x(xs:List Int)(v:Value)(w:World)(J:RdS w 1 v xs.length (xs.map (Value.int .u64)))(I:xs.length<=2000):
  Calls Tryz.prog 92 #[v] w fun e w'=>∃ v',e= .returned v'/\Below w.heap.size w w'/\w'.ownsRow w.heap.size 113 1 v' xs.length (xs.map (Value.int .u64)):=by
 obtain⟨ao,cap,rfl,H,L,O,q⟩:=id J;have p:∀ W:World,(binOp .eql 63 (.slice ao xs.length cap) (.slice none 0 0)).run Tryz.prog W= .ok (.bool ao.isNone) W:=fun W=>Lib.run_eql_slice_nil W _ _ ao _ _ _ _ Tryz.underlying63;rcases ao with _|ad
 ·have M:xs= []:=by
   rcases xs with _|⟨b,l⟩
   ·rfl
   obtain⟨_,_,h,_⟩:=q (by simp);cases h
  subst M;replace p:∀ W:World,(binOp .eql 63 (.slice none 0 cap) (.slice none 0 0)).run Tryz.prog W= .ok (.bool true) W:=p;show Calls Tryz.prog 92 #[.slice none 0 cap] w _;go_in;go_wp2;go_ret;exact⟨_,rfl,Below.refl _ _,⟨rfl,.inl ⟨rfl,rfl⟩⟩⟩
 obtain⟨N,y,C,D,E⟩:=info_parts yT;have o:(w.alloc (.cells #[] 113)).ownsRow w.heap.size 113 1 (.slice (some ⟨w.heap.size,0,.none⟩) 0 0) 0 []:=World.ownsRow_lit w #[] 0 lr (Nat.zero_le _) rfl;have z:RdS (w.alloc (.cells #[] 113)) 1 (.slice (some ad) xs.length cap) xs.length (xs.map (Value.int .u64)):=RdS.alloc J _;go_in;go_wp2_with (refine AG rfl (.tmp 5) (.tmp 6) 63 rfl w.heap.size 113 N _ 1 8 Tryz.underlying63 y C D E rfl (by omega) _ 0 [] rfl o _ xs.length (xs.map (Value.int .u64)) rfl z (by intro c hc;obtain⟨x,_,rfl⟩:=List.mem_map.1 hc;rfl) (by simp only[maxLen];omega) (by omega) (by simp) ?_;intro R S i j G;have r:=bE ((Below.refl w.heap.size w).alloc lr _) o (by simp) j);go_ret;rw[Nat.zero_add,List.nil_append]at i;exact⟨_,rfl,r,i⟩
theorem z8c(p b:Nat)(m:Mem)(w:World)(h:oA w p b m):
  Calls Tryz.prog 53 #[some p] w fun e w'=>∃ v',e= .returned v'/\Below w.heap.size w w'/\w'.ownsRow w.heap.size 113 1 v' m.ws.length (m.ws.map (Value.int .u64)):=by
 have q:w.cell? ⟨p,0,.none⟩=some (.slice (some ⟨b,0,.none⟩) m.ws.length m.ws.length):=iA h.blk 0;have hc:=hd' (z5x m.ws _ w h.rd h.few);go_in;go_wp2_with (go_at_call 92;refine hc.out.mono ?_;rintro e o ⟨l,rfl,i,j⟩);go_ret;exact⟨_,rfl,i,j⟩
attribute [local go_sem] QL

theorem zQ{B:Nat}{F:Nat->Prop}{W:World}{g:Nat}{s:Sh}{d:Wd}{x:Wx}(h:WdP B F W g s d x):
  Calls Tryz.prog 24 #[some g] W fun e w'=>∃ v',e= .returned v'/\Below W.heap.size W w'/\w'.ownsRow W.heap.size 113 1 v' d.m.ws.length (d.m.ws.map (Value.int .u64)):=by
 have l:∀ (p:Nat) (W:World),(binOp .eql 27 (.pointer (some ⟨p,0,.none⟩)) (.pointer none)).run Tryz.prog W= .ok (.bool false) W:=fun p W=>by kernel_rfl
 have c0:=ce (.pointer (some ⟨x.p,0,.none⟩)) (h.top.cell 3);have hc:=hd' (z8c x.p x.b d.m W h.wds);have lg:=h.top.lt;clear h;go_in;go_wp2_with (go_at_call 53;refine hc.out.mono ?_;rintro e q ⟨o,rfl,i,j⟩);go_ret;exact⟨_,rfl,i,j⟩
theorem NW{B:Nat}{F:Nat->Prop}{W:World}{g:Nat}{s:Sh}{d:Wd}{x:Wx}(h:WdP B F W g s d x)(c:Int)(hc:0<=c/\c.toNat<d.l.length)(i:d.l.length<=100):
  Calls Tryz.prog 44 #[some g,c] W fun e w'=>e= .returned (ptrK (d.kl c) (x.qs c.toNat))/\Below W.heap.size W w':=by
 have b:∀ (p:Nat) (W:World),(binOp .eql 27 (.pointer (some ⟨p,0,.none⟩)) (.pointer none)).run Tryz.prog W= .ok (.bool false) W:=fun p W=>by kernel_rfl
 have c4:=ce (.slice (some ⟨x.lb,0,.none⟩) d.l.length d.l.length) (h.top.cell 4);have lg:=h.top.lt;have q:=h.ptr hc.1 hc.2;have j:=h.lst.lt;have h0:=hc.1;have h1:c<(d.l.length:Int):=by omega
 have h2:¬ c<0:=by omega
 have h3:¬ (d.l.length:Int)<=c:=by omega
 clear h hc;generalize ptrK (d.kl c) (x.qs c.toNat)=o at *;go_in;go_wp2_with fail;go_returns;exact⟨rfl,by go_grown⟩
end

section

theorem WR{s:Sh}(h:mayB s.p s.c s.m=true):WA s<=8000:=by
 have hb:=LA.1 h;unfold WA;omega
section

variable {s:Sh} {d:Wd} {n:Nat} {c:Int}

def Rest (d:Wd) (c:Int):Prop:=∃ k,d.kl c=some k/\k.job=none
theorem NR{x:Int}(h:wdOk s d n)(f:x≠c):(d.goS s c).kl x=d.kl x:=by
 unfold Wd.goS;cases hk:d.kl c with
 |none=>rfl;|some k=>
  dsimp only;split
  ·obtain⟨_,_,b⟩:=h.kl _ _ hk;have hi:c.toNat<d.l.length:=by rw[h.len];omega
   rw[zH hk b];unfold Wd.step;dsimp only;rw[d.AB b.1 hi,jN f]
  rfl
theorem QI{o:Op3}(h:wdOk s d n)(i:Rest d c)(j:1<=o.k/\o.k<=4):(d.act s ⟨2,c,o.k,o.a,o.n,0⟩).2=0:=by
 obtain⟨k,h1,h2⟩:=i;obtain⟨_,_,f⟩:=h.kl _ _ h1;unfold Wd.act;rw[jN (by unfold Ch.bad;dsimp only;omega),jN (show ¬ (2:Int)=1 by decide)];dsimp only;rw[h1];dsimp only;rw[jN (show ¬ (2:Int)=3 by decide),jP rfl];unfold Wd.ask Kl.invoke;dsimp only;have b:k.rests=true:=by unfold Kl.rests;rw[h2];rfl
 rw[jN (by rw[b];decide),jN (show ¬ ((⟨2,c,o.k,o.a,o.n,0⟩:Ch).op.k<1\/4<(⟨2,c,o.k,o.a,o.n,0⟩:Ch).op.k) from (show ¬ (o.k<1\/4<o.k) by omega))];split<;>rfl
theorem fK{o:Op3}(h:wdOk s d n)(f:Rest d c)(b:1<=o.k/\o.k<=4):Rest (askW s d c o) c:=by
 obtain⟨k,h1,h2,_⟩:=HQ h (QI h f b);exact⟨k,h1,h2⟩
end

end

section

open Go.RowKit

attribute [local go_sem ↓] Go.wp_at_zero Go.wp_at_succ

theorem nN(s:Sh)(i:mayB s.p s.c s.m=true)(w:World):
  Calls Tryz.prog 20 #[.agg #[s.p,s.c,s.m]] w fun e w'=>e= .returned (.int .i64 (WA s:Int))/\Below w.heap.size w w':=by
 have hb:=LA.1 i;have b:=fun W=>pC s.p s.c s.m W;rw[i]at b;have j:((WA s:Nat):Int)=110*s.p+4*s.m+60:=by unfold WA;omega
 rw[j];clear j;obtain⟨p,c,m⟩:=s;dsimp only at b hb ⊢;have l:=wrp (110*p);have o:=wrp (4*m);have q:=wrp (110*p+4*m);have r:=wrp (110*p+4*m+60);replace b:=hd' b;clear i hb;go_in;go_wp2_with (go_at_call 48;refine(b _).mono ?_;rintro e l ⟨rfl,rfl⟩);go_ret;exact⟨rfl,by go_grown⟩
section

variable {B:Nat} {F:Nat->Prop} {W W1 W2:World} {g:Nat} {s:Sh} {d d2:Wd} {x:Wx} {n:Nat}

theorem yg6(h:WdP B F W g s d x)(b:B<=W.heap.size)(j:wdOk s d n)(i:n<=10000000)(c:Int)(hc:0<=c/\c<s.c):
  Calls Tryz.prog 9 #[some g,.agg #[.int .i64 3,c,.int .i64 0,.int .i64 0,.int .i64 0,.float .f64 0]] W fun e w'=>e= .returned (.int .i64 (d.act s (bB c)).2)/\WdTq (fun q=>q=x.qs) B F W w' g s (d.act s (bB c)).1:=
 (KS h b j i (bB c) (by unfold Ch.bad bB;dsimp only;omega)).mono fun e w' h=>⟨h.1,h.2.imp fun q e=>e rfl⟩
def TrAt (w:World) (v:Value) (c er:Int):Prop:=∃ b off cap m:Nat,v= .slice (some ⟨b,off,.none⟩) (m + 1) cap/\m + 1<=cap/\(cap:Int)<=9223372036854775807/\b < w.heap.size/\w.cell? ⟨b,off + m * 8,.none⟩=some (.int .i64 5)/\w.cell? ⟨b,off + m * 8 + 1,.none⟩=some (.int .i64 c)/\w.cell? ⟨b,off + m * 8 + 7,.none⟩=some (.int .i64 er)
theorem oN(l:List Ev)(e:Ev)(k:Nat)(i:k<8):((l++[e]).flatMap fun e=>e.cells.toList)[l.length*8+k]?=e.cells.toList[k]?:=by
 have b:(l.flatMap fun e=>e.cells.toList).length=l.length*8:=by
  induction l with
  |nil=>rfl
  |cons a l f=>rw[List.flatMap_cons,List.length_append,f];show 8+_=(l.length+1)*8;omega
 rw[List.flatMap_append,List.getElem?_append_right (by omega),b,show l.length*8+k-l.length*8=k by omega];simp
theorem yg2(h:WdP B F W g s d x)(y:d.tr.length<=100000000)(c:Int)(D:Told d c):
  Calls Tryz.prog 12 #[some g] W fun e w'=>Below W.heap.size W w'/\∃ v,e= .returned v/\TrAt w' v c (YD d):=by
 obtain⟨l,o,h1,h2,h3⟩:=D;refine(aP h y).mono fun e w' ⟨v,p,q,r⟩=>⟨q,v,p,?_⟩;obtain⟨ao,cap,rfl,hc,z,_,C⟩:=RdS.AC r;have j:d.tr.length=l.length+1:=by rw[h1];simp
 obtain⟨b,off,rfl,hb,i⟩:=C (by omega);have t:YD d=o.er:=by unfold YD;rw[h1];simp
 rw[t];refine⟨b,off,cap,l.length,by rw[j],by omega,z,hb,?_,?_,?_⟩
 ·refine(i (l.length*8) (by rw[j];omega)).trans ?_;rw[h1];refine(oN l o 0 (by omega)).trans ?_;rw[<-h2];rfl
 ·rw[Nat.add_assoc];refine(i (l.length*8+1) (by rw[j];omega)).trans ?_;rw[h1];refine(oN l o 1 (by omega)).trans ?_;rw[<-h3];rfl
 rw[Nat.add_assoc];refine(i (l.length*8+7) (by rw[j];omega)).trans ?_;rw[h1];exact oN l o 7 (by omega)
theorem ZJ(h:WdP B F W g s d x)(hB:B<=W.heap.size)(ho:wdOk s d n)(hn:n+1+WA s<=10000000)(c:Int)(o:Op3):
  Calls Tryz.prog 21 #[some g,.agg #[s.p,s.c,s.m],c,.agg #[o.k,o.a,o.n]] W fun e w'=>
   (if (d.act s ⟨2,c,o.k,o.a,o.n,0⟩).2=0 then e= .returned (.tuple #[.int .i64 (YD (askW s d c o)),.bool true])/\WdTo B F W w' g s (askW s d c o)
    else e= .returned (.tuple #[.int .i64 0,.bool false])/\WdTo B F W w' g s (d.act s ⟨2,c,o.k,o.a,o.n,0⟩).1):=by
 have hm:=ho.fi.may;have b6:=fun Y=>nN s hm Y;have bp:=((Below.refl W.heap.size W).alloc lr (.cells #[s.p,s.c,s.m] 23));have b4:=bp.alloc bp.size (.cells #[o.k,o.a,o.n] 34);obtain⟨rA,rO,e4,_⟩:=MD W (.cells #[s.p,s.c,s.m] 23) (.cells #[o.k,o.a,o.n] 34);have tA:aA ((W.alloc (.cells #[s.p,s.c,s.m] 23)).alloc (.cells #[o.k,o.a,o.n] 34)) W.heap.size #[s.p,s.c,s.m] 23:=rA;have tO:aA ((W.alloc (.cells #[s.p,s.c,s.m] 23)).alloc (.cells #[o.k,o.a,o.n] 34)) (W.heap.size+1) #[o.k,o.a,o.n] 34:=rO;have cx:∀ (p:Nat) (W:World),(binOp .eql 80 (.pointer (some ⟨p,0,.none⟩)) (.pointer none)).run Tryz.prog W= .ok (.bool false) W:=fun p W=>by kernel_rfl
 clear rA rO bp;have z:=KF ho ⟨2,c,o.k,o.a,o.n,0⟩;have I:=fun e=>NI ho (x:=⟨2,c,o.k,o.a,o.n,0⟩) rfl e;obtain⟨b1,E,bc⟩:=hidv (askW s d c o);rw[<-bc];clear bc;replace E:=hd' (E.out.trans (show askW s d c o=(d.act s ⟨2,c,o.k,o.a,o.n,0⟩).1.goN s c (WA s) from rfl));obtain⟨d1,cp,bg⟩:∃ b,Hid (b=(d.act s ⟨2,c,o.k,o.a,o.n,0⟩).1)/\b=(d.act s ⟨2,c,o.k,o.a,o.n,0⟩).1:=⟨_,hd' rfl,rfl⟩;obtain⟨er,cq,bh⟩:∃ b,Hid (b=(d.act s ⟨2,c,o.k,o.a,o.n,0⟩).2)/\b=(d.act s ⟨2,c,o.k,o.a,o.n,0⟩).2:=⟨_,hd' rfl,rfl⟩;rw[<-bg]at E z I ⊢;rw[<-bh]at I ⊢;clear bg bh;go_in;go_upto_region 1 with fail;generalize (W.alloc (.cells #[s.p,s.c,s.m] 23)).alloc (.cells #[o.k,o.a,o.n] 34)=W2 at *;obtain⟨H,hH,c4⟩:=hidv W.heap.size;rw[<-c4]at tA tO ⊢;clear c4;have cy:=h.below b4;have e7:=tA.lt;have bk:B<=W2.heap.size:=by omega
 have y:∀ i,F i->B<=i/\i<H:=fun i hi=>by have:=h.lt i hi;have:=hH.out;omega
 have bz:¬ F H:=fun e=>by have:=(y H e).2;omega
 have V:jK 9 #[some g,.agg #[.int .i64 2,c,o.k,o.a,o.n,.float .f64 0]] W2 fun e w'=>e= .returned (.int .i64 (d.act s ⟨2,c,o.k,o.a,o.n,0⟩).2)/\WdTo B F W2 w' g s (d.act s ⟨2,c,o.k,o.a,o.n,0⟩).1:=qI cy bk ho (by omega) ⟨2,c,o.k,o.a,o.n,0⟩;have R:∀ w' dd,WdTo B F W2 w' g s dd->WdTo B F W w' g s dd:=fun w' dd hk=>WdTo.from h hB b4 hk;rw[<-cp,<- cq]at V;have cd:=tO.cell;have lO:=tO.lt;replace V:=hd' V;replace b6:=hd' b6;replace I:=hd' I;replace R:=hd' R;replace b4:=hd' b4;clear h;by_cases h0:¬ er=0
 ·have be:(er==0)=false:=by rw[beq_eq_false_iff_ne];exact h0
  go_wp2_with (first|(go_at_call 9;(with_reducible refine V.out.mono ?_);rintro r w3 ⟨rfl,hT⟩));go_returns;exact⟨rfl,R _ _ hT⟩
 replace h0:=Decidable.not_not.1 h0;obtain⟨b5,c6,hD⟩:=I h0;dsimp only at b5 c6 hD;subst h0;obtain⟨k1,c8,_⟩:=id hD;have ck:c.toNat<d1.l.length:=(Wd.gC c8).2;have cu:d1.l.length<=100:=by rw[z.len];have:=ho.fi.bd;omega
 go_upto_region 3 with(first|(go_at_call 9;(with_reducible refine V.out.mono ?_);rintro r w3 ⟨rfl,hT⟩));have tA3:=tA.only hT.2.1 bz;obtain⟨⟨x3,bv⟩,ca,bx⟩:=id hT;have G:=NW bv c ⟨b5,ck⟩ cu;rw[c8]at G;replace G:Hid (jK 44 #[some g,c] w3 fun e w'=>e= .returned (.pointer (some ⟨x3.qs c.toNat,0,.none⟩))/\Below w3.heap.size w3 w'):=hd' G;have b3:WdTq (fun q=>q=x3.qs) B F W2 w3 g s d1:=⟨⟨x3,bv,rfl⟩,ca,bx⟩;clear cd lO tO bv ca bx;replace b3:=hd' b3;go_upto_region 6 with(first|(go_at_call 44;(with_reducible refine G.out.mono ?_);rintro r w4 ⟨rfl,bn⟩));have c5:=b3.out.below bk (fun i hi=>⟨(y i hi).1,by have:=(y i hi).2;omega⟩) bn;have tA4:=tA3.below bn;generalize x3.qs=Q at *;clear b3 G bn hT tA3;have N:∀ i,WA s<=i->∃ k,(d1.goN s c i).kl c=some k/\k.job=none:=fun i hi=>by obtain⟨k,h1,h2,_⟩:=OM (OG z i) (MI z hD i) (by unfold WA at hi;omega);exact⟨k,h1,h2⟩
 have hM:WA s<=8000:=by unfold WA;have:=ho.fi.bd;omega
 have cm:0<=c/\c<s.c:=⟨b5,c6⟩;generalize WA s=M at *;replace N:=hd' N;go_wp2;go_loopw [11] (fun bw wr=>∃ i:Nat,i<=M/\bw= .int .i64 i/\WdTq (fun q=>q=Q) B F W2 wr g s (d1.goN s c i)) (fun bw _=>M-(intOf bw).toNat);case atStart=>exact⟨0,Nat.zero_le _,rfl,c5⟩
 case round=>
  clear c5 tA4;obtain⟨i,hi,rfl,hT⟩:=hrel;have S:=OG z (c:=c) i;have cg:=MI z hD i;have cc:=tA.only hT.2.1 bz;have b7:=fun k h1 h2=>yfl (s:=s) (d:=d1) (c:=c) (i:=i) (k:=k) h1 h2 (M-i);rw[show i+(M-i)=M by omega]at b7;have bs:=fun k h1 h2=>(iJ (s:=s) (d:=d1.goN s c i) (c:=c) (k:=k) h1 h2:(d1.goN s c i).goS s c=_);have O:d1.goN s c (i+1)=(d1.goN s c i).goS s c:=rfl;have D:=N i;obtain⟨k,hk,bm⟩:=cg;replace E:=E.out;generalize d1.goN s c i=di at *;have b2:=hT;obtain⟨⟨x',U,b9⟩,e3,cf⟩:=hT;replace b9:x'.qs=Q:=b9;have bu:di.l.getD c.toNat none=some k:=by have h1:=hk;unfold Wd.kl at h1;rw[jP b5]at h1;exact h1
  have C:∀ Y,jW wr Y->jK 45 #[.pointer (some ⟨Q c.toNat,0,.none⟩)] Y fun e w'=>e= .returned (.bool k.rests)/\w'=Y:=fun Y hb=>by have h1:=GX ((U.below hb).cl c.toNat k bu);rw[b9]at h1;exact h1
  have X:∀ Y,jW wr Y->jK 9 #[some g,.agg #[.int .i64 3,c,.int .i64 0,.int .i64 0,.int .i64 0,.float .f64 0]] Y fun e w'=>e= .returned (.int .i64 (di.act s (bB c)).2)/\WdTq (fun q=>q=Q) B (grow F W2 wr) wr w' g s (di.act s (bB c)).1:=fun Y hb=>by refine(yg6 (U.below hb) (by have:=hb.size;omega) S (by omega) c cm).mono fun e w' h=>⟨h.1,?_⟩;have h2:=h.2;rw[b9]at h2;exact WdTq.from U cf hb h2
  have cz:=cc.cell;have lA:=cc.lt;have e0:(0:Int)<=(i:Int):=by omega
  replace X:=hd' X;by_cases hr:k.job=none
  ·have c9:k.rests=true:=by unfold Kl.rests;rw[hr];rfl
   rw[c9]at C;have Z:Told di c:=bm.elim (fun h=>absurd hr h.1) (fun h=>h.2);have bq:b1=di:=E.trans (b7 k hk hr);have cb:di.tr.length<=100000000:=by have:=S.tr;omega
   have ba:=fun Y (hb:Below wr.heap.size wr Y)=>yg2 (U.below hb) cb c Z;have L:∀ Y,jW wr Y->WdTo B F W Y g s di:=fun Y hb=>R _ _ (b2.below bk (fun j hj=>⟨(y j hj).1,by have:=(y j hj).2;omega⟩) hb).to;obtain⟨le,cs,bi⟩:=hidv (YD di);rw[<-bi]at ba;clear bi;replace bq:=hd' bq;clear E b7 bs O D b2 U S bm hk bu Z cb hr c9;replace ba:=hd' ba;replace C:=hd' C;replace L:=hd' L;by_cases cv:i<M;all_goals
    have bj:(i:Int)<(M:Int)\/¬ (i:Int)<(M:Int):=by omega
    first
     |(have y:(i:Int)<(M:Int):=by omega)
     |(have y:¬ (i:Int)<(M:Int):=by omega)
    clear bj;go_upto_region 11 with(first|(go_at_call 20;refine(b6 _).mono ?_;rintro r w5 ⟨rfl,T⟩)|(go_at_call 45;(with_reducible refine(C _ T).mono ?_);rintro r w6 ⟨rfl,b0⟩;obtain rfl:=b0.symm)|(go_at_call 12;(with_reducible refine(ba _ T).mono ?_);rintro r w7 ⟨cj,v,rfl,bb,off,cap,m,rfl,e1,e2,lb,y0,y1,y7⟩));have b1:((m:Int)+1==0)=false:=by rw[beq_eq_false_iff_ne];omega
    have wm:IntKind.i64.wrap (m:Int)=(m:Int):=IntWalk.i64_in _ ⟨by omega,by omega⟩;have e9:IntKind.i64.wrap ((m:Int)+1-1)=(m:Int):=IntWalk.i64_in _ ⟨by omega,by omega⟩ |>.trans (by omega);have e5:(0:Int)<=(m:Int):=by omega
    have e6:(m:Int)<(m:Int)+1:=by omega
    have bf:=zA T cj;go_wp2_with (first|(go_at_call 45;(with_reducible refine(C _ bf).mono ?_);rintro r w6 ⟨rfl,b0⟩;obtain rfl:=b0.symm));go_returns;rw[bq,<- cs];exact⟨rfl,L _ bf⟩
  have c7:k.rests=false:=by
   unfold Kl.rests;rcases hj:k.job with _|j
   ·exact absurd hj hr
   rfl
  rw[c7]at C;have cv:i<M:=by
   rcases Nat.lt_or_ge i M with h1|h1
   ·exact h1
   obtain⟨k',b8,cr⟩:=D h1;rw[hk]at b8;injection b8 with b8;exact absurd (b8 ▸ cr) hr
  have bj:(i:Int)<(M:Int):=by omega
  have e8:IntKind.i64.wrap ((i:Int)+1)=(i:Int)+1:=IntWalk.i64_in _ ⟨by omega,by omega⟩
  have J:∀ Y,WdTq (fun q=>q=Q) B (grow F W2 wr) wr Y g s (di.act s (bB c)).1->∃ i':Nat,i'<=M/\Value.int .i64 ((i:Int)+1)= .int .i64 i'/\WdTq (fun q=>q=Q) B F W2 Y g s (d1.goN s c i'):=fun Y h=>⟨i+1,by omega,by go_num,by
   rw[O,bs k hk hr]
   exact WdTq.trans b2.to h⟩
  replace J:=hd' J;replace C:=hd' C;clear b2 U S bm E b7 bs O D hk bu hr c7;go_wp2_with (first|(go_at_call 20;refine(b6 _).mono ?_;rintro r w5 ⟨rfl,T⟩)|(go_at_call 45;(with_reducible refine(C _ T).mono ?_);rintro r w6 ⟨rfl,b0⟩;obtain rfl:=b0.symm)|(go_at_call 9;(with_reducible refine(X _ T).mono ?_);rintro r w7 ⟨rfl,ch⟩));exact⟨J _ ch,by simp only[intOf];omega⟩
end

end

section

variable {s:Sh} {m:Mem} {σ:Ab}

def hpOf (s:Sh) (m:Mem):Hp:=⟨s.p,s.c,s.m,m.ws⟩
theorem cO(b:Rep s m σ):(hpOf s m).ok=true:=by
 unfold Hp.ok hpOf;dsimp only;rw[b.may,b.fi.len];simp
theorem DS(f:Rep s m σ){a:Int}(b:0<=a/\a<s.p):(hpOf s m).pw a=(σ.pg a).enc:=by
 have:=f.pg a b;rw[(ixs f.fi).1 a b]at this;exact this
theorem zG(b:Rep s m σ)(i:GI s σ){a:Int}(f:0<=a/\a<s.p):(hpOf s m).pb a=true/\(hpOf s m).pk a=(σ.pg a).kind/\(hpOf s m).pa a=(σ.pg a).pa:=by
 obtain⟨h1,h2,_⟩:=PW.read b.may (i.pf a);have hb:(hpOf s m).pb a=true:=by unfold Hp.pb;rw[DS b f];exact PW.rH b.may f (i.pf a)
 unfold Hp.pk Hp.pa;rw[jP hb,jP hb,DS b f];exact⟨hb,h1,h2⟩
theorem qK(f:Rep s m σ){a i:Int}(b:0<=a/\a<s.p)(hi:0<=i/\i<16):(hpOf s m).sw a i=(σ.sl a i).enc:=by
 have:=f.sl a i b hi;rw[(ixs f.fi).2.1 a i b hi]at this;exact this
theorem SI(b:Rep s m σ)(j:GI s σ){a i:Int}(f:0<=a/\a<s.p)(hi:0<=i/\i<16):(hpOf s m).sk a i=(σ.sl a i).kind/\(hpOf s m).sa a i=(σ.sl a i).pa:=by
 obtain⟨h1,h2⟩:=SW.read b.may (j.sf a i);have hb:LF ((hpOf s m).sw a i)=true:=by rw[qK b f hi];exact SW.rH b.may (j.sf a i)
 unfold Hp.sk Hp.sa;rw[jP hb,jP hb,qK b f hi];exact⟨h1,h2⟩
theorem UN(f:Rep s m σ){a:Int}(b:0<=a/\a<s.p)(h0:∀ i,0<=i/\i<16->σ.sl a i= .none)(n:Nat)(l:n<=16):(hpOf s m).FF a n=true:=by
 induction n with
 |zero=>rfl;|succ n j=>show (_&&_)=true;rw[j (by omega),qK f b (by omega),h0 n (by omega)];rfl
theorem yqr(l:Rep s m σ)(f:GI s σ){a k b:Int}(j:0<=a/\a<s.p)(q:σ.pg a= .super k b)(n:Nat)(t:n<=16):(hpOf s m).supT a k n=true:=by
 induction n with
 |zero=>rfl;|succ n r=>
  show (_&&_)=true;rw[r (by omega),Bool.true_and];have hi:0<=(n:Int)/\(n:Int)<16:=by omega
  obtain⟨h1,h2⟩:=SI l f j hi;have h3:=qK l j hi;have h4:=f.sk a n;have i:=f.sf a n;rw[q]at h4;unfold sE at h4;dsimp only at h4;unfold Hp.okS;by_cases hs:(n:Int)<mA k
  ·rw[jP ⟨hi.1,hs⟩]at h4;rw[jP hs,h1,h2];rcases h4 with e|e|⟨c,e⟩
   ·rw[e];simp[SW.kind,SW.pa]
   ·rw[e];simp[SW.kind,SW.pa]
   rw[e]at i ⊢;have o:c<(hpOf s m).c:=i.2;simp[SW.kind,SW.pa,o]
  rw[jN (by omega)]at h4;rw[jN hs,h3,h4];rfl
theorem yrk(q:Rep s m σ)(l:GI s σ){a:Int}(r:0<=a/\a<s.p):(hpOf s m).snd a=true:=by
 obtain⟨h1,h2,h3⟩:=zG q l r;have f:=fun i=>l.sk a i;have t:=l.pf a;unfold Hp.snd;rw[jP h1,h2,h3];cases e:σ.pg a with
 |empty=>rw[e]at f;rw[jN (by simp[PW.kind]),jN (by simp[PW.kind]),jN (by simp[PW.kind]),jP (by simp[PW.kind])];exact UN q r (fun i _=>f i) 16 (by omega)
 |held o=>rw[jN (by simp[PW.kind]),jN (by simp[PW.kind]),jN (by simp[PW.kind]),jN (by simp[PW.kind])]
 |super k b=>rw[jP (by simp[PW.kind])];exact yqr q l r e 16 (by omega)
 |large n=>
  rw[e]at f t;rw[jN (by simp[PW.kind]),jP (by simp[PW.kind]),jC];refine⟨UN q r (fun i _=>f i) 16 (by omega),?_⟩;have I:=l.lg a n e;obtain⟨_,J,L,M⟩:=t
  have key:∀ j:Nat,(j:Int)<=n-1->(hpOf s m).rowT a j=true:=by
   intro j
   induction j with
   |zero=>intro _;rfl
   |succ j O=>
    intro R
    show (_&&_)=true
    rw[O (by omega)]
    have N:0<=a+1+(j:Int)/\a+1+(j:Int)<s.p:=by omega
    obtain⟨_,z,C⟩:=zG q l N
    have:=I (1+j) (by omega) (by omega)
    rw[show a+(1+(j:Int))=a+1+j by omega]at this
    rw[z,C,this]
    simp[PW.kind,PW.pa]
  exact key (n-1).toNat (by omega)
 |body h=>
  rw[e]at f t;rw[jN (by simp[PW.kind]),jN (by simp[PW.kind]),jP (by simp[PW.kind]),jC];refine⟨UN q r (fun i _=>f i) 16 (by omega),?_⟩;obtain⟨_,D,G,H⟩:=t;obtain⟨_,z,C⟩:=zG q l (a:=h) ⟨D,by omega⟩;show (_||_)=true;rw[show PW.pa (.body h)=h from rfl,z,C];rcases l.bd a h e with⟨o,y⟩|⟨n,y,E⟩
  ·rw[y];simp[PW.kind]
  rw[y];simp[PW.kind,PW.pa,E]
theorem SN(b:Rep s m σ)(f:GI s σ):(hpOf s m).sound=true:=by
 unfold Hp.sound;rw[cO b,Bool.true_and];have hb:=b.fi.bd
 have key:∀ n:Nat,(n:Int)<=s.p->(hpOf s m).sndT n=true:=by
  intro n
  induction n with
  |zero=>intro _;rfl
  |succ n i=>
   intro j
   show (_&&_)=true
   rw[i (by omega),yrk b f ⟨by omega,by omega⟩];rfl
 exact key (hpOf s m).p.toNat (by show ((s.p.toNat:Nat):Int)<=s.p;omega)
end

section

theorem MR(s:Sh)(t:Ad)(a b:Int):(t.turn s a b).done=t.done/\(t.turn s a b).c=t.c/\(t.turn s a b).d=t.d/\(3<=a->3<=b->3<=(t.turn s a b).next):=by
 unfold Ad.turn;dsimp only;by_cases h:t.at'+1=s.p
 ·rw[jP h];dsimp only;split
  ·exact⟨rfl,rfl,rfl,fun _ _=>(by show (3:Int)<=10;decide)⟩
  exact⟨rfl,rfl,rfl,fun _ h=>h⟩
 rw[jN h];dsimp only;split
 ·exact⟨rfl,rfl,rfl,fun _ _=>(by show (3:Int)<=10;decide)⟩
 exact⟨rfl,rfl,rfl,fun h _=>h⟩
theorem KR(s:Sh)(t:Ad):(t.slot s).done=t.done/\(t.slot s).c=t.c/\(t.slot s).d=t.d/\3<=(t.slot s).next:=by
 unfold Ad.slot;split
 ·obtain⟨h1,h2,h3,h4⟩:=MR s ({t with i:=0,next:=11}:Ad) 10 13;exact⟨h1,h2,h3,h4 (by decide) (by decide)⟩
 exact⟨rfl,rfl,rfl,(by show (3:Int)<=11;decide)⟩
structure bO (t:Ad) (σ:Ab) (r:Ad × Ab):Prop where
 dn:r.1.done=false
 nx:3<=r.1.next
 c:r.1.c=t.c
 d:r.1.d=t.d
 st:r.2.st=σ.st
 mg:∀ y i,y≠t.d->r.2.mg y i=σ.mg y i
theorem bO.of{t t' u:Ad}{σ σ':Ab}(hd:t.done=false)(h:u.done=t'.done/\u.c=t'.c/\u.d=t'.d/\3<=u.next)(e:t'.done=t.done/\t'.c=t.c/\t'.d=t.d)(h1:σ'.st=σ.st)(h2:∀ y i,y≠t.d->σ'.mg y i=σ.mg y i):bO t σ (u,σ'):=
 ⟨h.1.trans (e.1.trans hd),h.2.2.2,h.2.1.trans e.2.1,h.2.2.1.trans e.2.2,h1,h2⟩
theorem YR{s:Sh}{t:Ad}{σ:Ab}(hd:t.done=false)(h3:3<=t.next):bO t σ (adA s t σ)\/adA s t σ=(t.fin 0,σ.stat t.d .done):=by
 have tk:∀ (t':Ad) a b,3<=a->3<=b->(t'.turn s a b).done=t'.done/\(t'.turn s a b).c=t'.c/\(t'.turn s a b).d=t'.d/\3<=(t'.turn s a b).next:=fun t' a b h1 h2=>by obtain⟨k1,L,M,N⟩:=MR s t' a b;exact⟨k1,L,M,N h1 h2⟩
 have K:∀ {n:Int} (t':Ad),3<=n->t'.done=t.done->t'.c=t.c->t'.d=t.d->t'.next=n->t'.done=t.done/\t'.c=t.c/\t'.d=t.d/\3<=t'.next:=fun t' h G H I q=>⟨G,H,I,by omega⟩;by_cases e:t.next=3
 ·rw[eN hd e];left;cases σ.pg t.at' with
  |body h=>exact .of hd (K (n:=4) _ (by decide) rfl rfl rfl rfl) ⟨rfl,rfl,rfl⟩ rfl (fun _ _ _=>rfl)
  |empty=>exact .of hd (tk _ 3 6 (by decide) (by decide)) ⟨rfl,rfl,rfl⟩ rfl (fun _ _ _=>rfl)
  |held o=>exact .of hd (tk _ 3 6 (by decide) (by decide)) ⟨rfl,rfl,rfl⟩ rfl (fun _ _ _=>rfl)
  |super k b=>exact .of hd (tk _ 3 6 (by decide) (by decide)) ⟨rfl,rfl,rfl⟩ rfl (fun _ _ _=>rfl)
  |large n=>exact .of hd (tk _ 3 6 (by decide) (by decide)) ⟨rfl,rfl,rfl⟩ rfl (fun _ _ _=>rfl)
 by_cases q:t.next=4
 ·rw[aN hd q];left;by_cases h:σ.pg t.pa= .held t.d
  ·rw[jP h];exact .of hd (K (n:=5) _ (by decide) rfl rfl rfl rfl) ⟨rfl,rfl,rfl⟩ rfl (fun _ _ _=>rfl)
  rw[jN h];exact .of hd (tk _ 3 6 (by decide) (by decide)) ⟨rfl,rfl,rfl⟩ rfl (fun _ _ _=>rfl)
 by_cases C:t.next=5
 ·rw[gN hd C];exact .inl (.of hd (tk _ 3 6 (by decide) (by decide)) ⟨rfl,rfl,rfl⟩ rfl (fun _ _ _=>rfl))
 by_cases D:t.next=6
 ·rw[fN hd D];left;by_cases h:σ.pg t.at'= .held t.d
  ·rw[jP h];exact .of hd (K (n:=7) _ (by decide) rfl rfl rfl rfl) ⟨rfl,rfl,rfl⟩ rfl (fun _ _ _=>rfl)
  rw[jN h];exact .of hd (tk _ 6 9 (by decide) (by decide)) ⟨rfl,rfl,rfl⟩ rfl (fun _ _ _=>rfl)
 by_cases r:t.next=7
 ·rw[dN hd r];left;by_cases h:t.i+1=16
  ·rw[jP h];exact .of hd (K (n:=8) _ (by decide) rfl rfl rfl rfl) ⟨rfl,rfl,rfl⟩ rfl (fun _ _ _=>rfl)
  rw[jN h];exact .of hd (K (n:=7) _ (by decide) rfl rfl rfl r) ⟨rfl,rfl,rfl⟩ rfl (fun _ _ _=>rfl)
 by_cases E:t.next=8
 ·rw[mN hd E];exact .inl (.of hd (tk _ 6 9 (by decide) (by decide)) ⟨rfl,rfl,rfl⟩ rfl (fun _ _ _=>rfl))
 by_cases z:t.next=9
 ·rw[iN hd z];left;have p:∀ y i,y≠t.d->(σ.mag t.d t.i .none).mg y i=σ.mg y i:=fun y i J=>QJ _ (fun h=>J h.1) _;by_cases h:t.i+1=s.m
  ·rw[jP h];exact .of hd (K (n:=10) _ (by decide) rfl rfl rfl rfl) ⟨rfl,rfl,rfl⟩ rfl p
  rw[jN h];exact .of hd (K (n:=9) _ (by decide) rfl rfl rfl z) ⟨rfl,rfl,rfl⟩ rfl p
 by_cases f:t.next=10
 ·rw[CO hd f];left;cases σ.pg t.at' with
  |super k b=>exact .of hd (K (n:=11) _ (by decide) rfl rfl rfl rfl) ⟨rfl,rfl,rfl⟩ rfl (fun _ _ _=>rfl)
  |empty=>exact .of hd (tk _ 10 13 (by decide) (by decide)) ⟨rfl,rfl,rfl⟩ rfl (fun _ _ _=>rfl)
  |held o=>exact .of hd (tk _ 10 13 (by decide) (by decide)) ⟨rfl,rfl,rfl⟩ rfl (fun _ _ _=>rfl)
  |body h=>exact .of hd (tk _ 10 13 (by decide) (by decide)) ⟨rfl,rfl,rfl⟩ rfl (fun _ _ _=>rfl)
  |large n=>exact .of hd (tk _ 10 13 (by decide) (by decide)) ⟨rfl,rfl,rfl⟩ rfl (fun _ _ _=>rfl)
 by_cases j:t.next=11
 ·rw[zO hd j];left;by_cases h:σ.sl t.at' t.i= .way t.d
  ·rw[jP h];exact .of hd (K (n:=12) _ (by decide) rfl rfl rfl rfl) ⟨rfl,rfl,rfl⟩ rfl (fun _ _ _=>rfl)
  rw[jN h];exact .of hd (KR s t) ⟨rfl,rfl,rfl⟩ rfl (fun _ _ _=>rfl)
 by_cases l:t.next=12
 ·rw[DO hd l];exact .inl (.of hd (KR s t) ⟨rfl,rfl,rfl⟩ rfl (fun _ _ _=>rfl))
 right;unfold adA;rw[jN (by rw[hd];decide)];rw[jN (by omega)];rw[jN (by omega)];rw[jN (by omega)];rw[jN e];rw[jN q];rw[jN C];rw[jN D];rw[jN r];rw[jN E];rw[jN z];rw[jN f];rw[jN j];rw[jN l]
def TW.gone:TW->Prop
 | .dead=> True
 | .owned _=> True
 | _=> False
def AdPh (c x:Int) (v0:TW) (t:Ad) (σ:Ab):Prop:=t.done=false/\t.c=c/\t.d=x/\
 ((t.next=0/\σ.st x=v0)\/(t.next=1/\σ.st x=v0/\v0= .owned t.who/\t.was=v0.enc)\/(t.next=2/\σ.st x=v0/\v0.gone/\t.was=v0.enc)\/(3<=t.next/\v0.gone/\σ.st x= .owned c))
def aO (x:Int) (v0:TW) (er:Int) (σ:Ab):Prop:=(v0.gone/\er=0/\σ.st x= .done)\/(¬ v0.gone/\er=5/\σ.st x=v0)
structure yrr (s:Sh) (c x:Int) (st0:Int->TW) (σ σ':Ab):Prop where
 st:∀ y,y≠x->σ'.st y=σ.st y
 mg:∀ i,σ'.mg c i=σ.mg c i
theorem yo9{s:Sh}{c x:Int}{st0:Int->TW}{t:Ad}{σ:Ab}(b:x≠c)(j:∀ a,st0 x= .owned a->st0 a≠ .live)(hs:∀ y,y≠x->σ.st y=st0 y)(h:AdPh c x (st0 x) t σ):
  yrr s c x st0 σ (adA s t σ).2/\(AdPh c x (st0 x) (adA s t σ).1 (adA s t σ).2\/((adA s t σ).1.done=true/\aO x (st0 x) (adA s t σ).1.err (adA s t σ).2)):=by
 obtain⟨hd,hc,o,h0⟩:=h;subst o;rcases h0 with h0|h0|h0|h0
 ·rw[LI hd h0.1];refine⟨⟨fun _ _=>rfl,fun _=>rfl⟩,?_⟩;dsimp only;rw[h0.2];cases e:st0 t.d with
  |dead=>exact .inl ⟨hd,hc,rfl,.inr (.inr (.inl ⟨rfl,h0.2.trans e,trivial,rfl⟩))⟩
  |owned a=>exact .inl ⟨hd,hc,rfl,.inr (.inl ⟨rfl,h0.2.trans e,rfl,rfl⟩)⟩
  |unused=>exact .inr ⟨rfl,.inr ⟨id,rfl,h0.2.trans e⟩⟩
  |live=>exact .inr ⟨rfl,.inr ⟨id,rfl,h0.2.trans e⟩⟩
  |done=>exact .inr ⟨rfl,.inr ⟨id,rfl,h0.2.trans e⟩⟩
 ·obtain⟨h1,h2,h3,h4⟩:=h0;rw[UJ hd h1];have l:σ.st t.who≠ .live:=by
   by_cases e:t.who=t.d
   ·rw[e,h2,h3];exact fun e=>by cases e
   rw[hs _ e];exact j _ h3
  rw[jN l];exact⟨⟨fun _ _=>rfl,fun _=>rfl⟩,.inl ⟨hd,hc,rfl,.inr (.inr (.inl ⟨rfl,h2,by rw[h3];trivial,h4⟩))⟩⟩
 ·obtain⟨h1,h2,h3,h4⟩:=h0;rw[XJ hd h1,jP (by rw[h2];exact h4.symm)];refine⟨⟨fun y f=>AH _ f _,fun _=>rfl⟩,.inl ⟨hd,hc,rfl,.inr (.inr (.inr ⟨Int.le_refl _,h3,?_⟩))⟩⟩;show up σ.st t.d (.owned t.c) t.d=_;rw[UH,hc]
 obtain⟨h1,h2,h3⟩:=h0;rcases YR (s:=s) (σ:=σ) hd h1 with h|h
 ·refine⟨⟨fun y _=>by rw[h.st],fun i=>h.mg c i (Ne.symm b)⟩,.inl ⟨h.dn,h.c.trans hc,h.d,.inr (.inr (.inr ⟨h.nx,h2,by rw[h.st];exact h3⟩))⟩⟩
 rw[h];exact⟨⟨fun y f=>AH _ f _,fun _=>rfl⟩,.inr ⟨rfl,.inl ⟨h2,rfl,UH _ _ _⟩⟩⟩
structure TI (s:Sh) (c x:Int) (σ0:Ab) (d:Wd):Prop where
 ex:∃ σ,WI s σ d/\(∀ y,y≠x->σ.st y=σ0.st y)/\(∀ i,σ.mg c i=σ0.mg c i)/\∃ k,d.kl c=some k/\((∃ t,k.job=some (.hei t)/\AdPh c x (σ0.st x) t σ)\/(k.job=none/\∃ l e,d.tr=l ++ [e]/\aO x (σ0.st x) e.er σ))
section

variable {s:Sh} {d:Wd} {n:Nat} {c x:Int} {σ0:Ab}

theorem ynx(hd:wdOk s d n)(z:x≠c)(I:∀ a,σ0.st x= .owned a->σ0.st a≠ .live)(h:TI s c x σ0 d):TI s c x σ0 (d.goS s c):=by
 obtain⟨σ,L,h1,h2,k,p,h3⟩:=h.ex;rcases h3 with⟨t,o,J⟩|⟨o,N⟩
 ·obtain⟨_,C,j⟩:=hd.kl _ _ p;rw[iJ p (by rw[o];exact fun e=>by cases e),zH p j];obtain⟨D,_,M⟩:=EI L hd p o;have hi:c.toNat<d.l.length:=by rw[hd.len];omega
  obtain⟨a1,f⟩:=yo9 (s:=s) (st0:=σ0.st) z I h1 J;have e:k.step s d.m=(k.after ((Jb.hei t).step s k.c d.m).1,((Jb.hei t).step s k.c d.m).2,k.tells ((Jb.hei t).step s k.c d.m).1,0):=by unfold Kl.step;rw[o]
  rw[C,M]at e;have H:(Jb.hei t).QC s c σ=(.hei (adA s t σ).1,(adA s t σ).2):=rfl;rw[H]at D e;dsimp only at D e;have q:(d.step s c k).1.kl c=some (k.after (.hei (adA s t σ).1)):=by unfold Wd.step;rw[e];dsimp only;rw[d.AB j.1 hi,jP rfl]
  have r:(d.step s c k).1.tr=d.tr++k.tells (.hei (adA s t σ).1):=by unfold Wd.step;rw[e]
  refine⟨⟨_,D,fun y E=>(a1.st y E).trans (h1 y E),fun i=>(a1.mg i).trans (h2 i),_,q,?_⟩⟩;rcases f with f|⟨f,G⟩
  ·refine .inl ⟨_,?_,f⟩;unfold Kl.after;dsimp only;have b:(Jb.hei (adA s t σ).1).done=false:=f.1;rw[jN (by rw[b];decide)]
  have b:(Jb.hei (adA s t σ).1).done=true:=f;refine .inr ⟨?_,?_⟩
  ·unfold Kl.after;dsimp only;rw[jP b]
  rw[r];unfold Kl.tells;rw[jP b];exact⟨_,_,(by rw[<-List.append_assoc,<- List.append_assoc]),G⟩
 rw[DM p o];exact h
theorem yno(hd:wdOk s d n)(b:x≠c)(f:∀ a,σ0.st x= .owned a->σ0.st a≠ .live)(h:TI s c x σ0 d)(i:Nat):TI s c x σ0 (d.goN s c i):=by
 induction i with
 |zero=>exact h
 |succ i j=>exact ynx (OG hd i) b f j
theorem yn9(hd:wdOk s d n)(H:Rest d c)(J:0<=x/\x<s.c)(q:x≠c)(I:WI s σ0 d):TI s c x σ0 (d.act s ⟨2,c,4,x,0,0⟩).1:=by
 obtain⟨k,r,G⟩:=H;obtain⟨_,f,o⟩:=hd.kl _ _ r;have hi:c.toNat<d.l.length:=by rw[hd.len];omega
 have E:=hd.fi.may;have D:=FI I hd ⟨2,c,4,x,0,0⟩ (k:=k) r;unfold Wd.act;rw[jN (by unfold Ch.bad;dsimp only;omega),jN (show ¬ (2:Int)=1 by decide)];dsimp only;rw[r];dsimp only;rw[jN (show ¬ (2:Int)=3 by decide),jP rfl];have z:k.rests=true:=by unfold Kl.rests;rw[G];rfl
 have i:uA s.p s.c s.m x=x:=by unfold uA;rw[jP ⟨E,IA.2 (by omega)⟩]
 have C:uA s.p s.c s.m c=c:=by unfold uA;rw[jP ⟨E,IA.2 (by omega)⟩]
 have t:vD s k.c 4 x 0=false:=by
  unfold vD OD HG;rw[i,f];have h1:decide (x<0)=false:=jF (by omega);have h2:(x==c)=false:=by rw[beq_eq_false_iff_ne];exact q
  rw[h1,h2];rfl
 have y:Ch.op (⟨2,c,4,x,0,0⟩:Ch)=⟨4,x,0⟩:=rfl;have b:k.invoke s ⟨4,x,0⟩=({k with op:=⟨4,x,0⟩,told:=false,steps:=0,job:=some (iC s k.c k.first 4 x 0)}, [NA k.c ⟨4,x,0⟩],0):=by unfold Kl.invoke;rw[jN (by rw[z];decide),jN (show ¬ ((4:Int)<1\/(4:Int)<4) by decide)];rw[jN (show ¬ vD s k.c 4 x 0=true by rw[t];decide)]
 have j:(d.ask s ⟨2,c,4,x,0,0⟩ k).1.kl c=some {k with op:=⟨4,x,0⟩,told:=false,steps:=0,job:=some (iC s k.c k.first 4 x 0)}:=by unfold Wd.ask;dsimp only;rw[y,b,d.AB o.1 hi,jP rfl]
 refine⟨⟨σ0,D,fun _ _=>rfl,fun _=>rfl,_,j,.inl ⟨iD s c x,?_,?_⟩⟩⟩
 ·dsimp only;rw[f];rfl
 have:iD s c x=⟨c,x,0,0,0,0,0,0,0,0,0,false⟩:=by unfold iD;dsimp only;rw[jN (by rw[i,C];intro h;rcases h with h|h|h<;>omega)]
 rw[this];exact⟨rfl,rfl,rfl,.inl ⟨rfl,rfl⟩⟩
theorem ym5(f:WI s σ0 d)(h:∀ y k,d.kl y=some k->k.job=none):∀ a,σ0.st x= .owned a->σ0.st a≠ .live:=fun a b e=>by
 obtain⟨k,t,h1,h2,_⟩:=(f.ow x a b).2 e
 rw[h a k h1]at h2;cases h2
theorem mR(hd:wdOk s d n)(p:Rest d c)(J:0<=x/\x<s.c)(j:x≠c)(q:WI s σ0 d)(hi:∀ y k,d.kl y=some k->k.job=none):
  ∃ σ,WI s σ (askW s d c ⟨4,x,0⟩)/\(∀ y,y≠x->σ.st y=σ0.st y)/\(∀ i,σ.mg c i=σ0.mg c i)/\aO x (σ0.st x) (YD (askW s d c ⟨4,x,0⟩)) σ:=by
 have I:=ym5 (x:=x) q hi;have h1:=yno (KF hd ⟨2,c,4,x,0,0⟩) j I (yn9 hd p J j q) (WA s);obtain⟨k,H,G⟩:=fK (o:=⟨4,x,0⟩) hd p ⟨show (1:Int)<=4 by decide,Int.le_refl _⟩;obtain⟨σ,r,z,C,L,b,D⟩:=h1.ex;have b:(askW s d c ⟨4,x,0⟩).kl c=some L:=b;rw[H]at b;injection b with b;subst b;rcases D with⟨t,f,_⟩|⟨_,l,e,f,E⟩
 ·rw[G]at f;cases f
 have f:(askW s d c ⟨4,x,0⟩).tr=l++[e]:=f;refine⟨σ,r,z,C,?_⟩;have:YD (askW s d c ⟨4,x,0⟩)=e.er:=by unfold YD;rw[f];simp
 rw[this];exact E
end

end

end Go.Proofs.YtmmbicppdjgbmaaGreat
