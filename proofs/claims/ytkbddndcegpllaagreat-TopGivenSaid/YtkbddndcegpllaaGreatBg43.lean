/- Texts bound together: AskW QuiW AudP. -/
import Derived.Test.YtkbddndcegpllaaGreatBg42

set_option linter.all false
set_option maxHeartbeats 8000000
set_option maxRecDepth 100000
namespace Go.Proofs.YtkbddndcegpllaaGreat

section

open Go.RowKit

attribute [local go_sem ↓] Go.wp_at_zero Go.wp_at_succ

theorem yg0(s:Sh)(i:mayB s.p s.c s.m=true)(w:World):
  Calls Tryz.prog 45 #[.agg #[.int .i64 s.p,.int .i64 s.c,.int .i64 s.m]] w fun e w'=>e= .returned (.int .i64 (z5k s:Int))/\Below w.heap.size w w':=by
 have hb:=zar.1 i;have b:=fun W=>zcc s.p s.c s.m W;rw[i]at b;have j:((z5k s:Nat):Int)=110*s.p+4*s.m+60:=by unfold z5k;omega
 rw[j];clear j;obtain⟨p,c,m⟩:=s;dsimp only at b hb ⊢;have l:=wrp (110*p);have o:=wrp (4*m);have q:=wrp (110*p+4*m);have r:=wrp (110*p+4*m+60);replace b:=hd' b;clear i hb;go_in;go_wp2_with (go_at_call 96;refine(b.out _).mono ?_;rintro e l ⟨rfl,rfl⟩);go_ret;exact⟨rfl,by go_grown⟩
section

variable {B:Nat} {F:Nat->Prop} {W W1 W2:World} {g:Nat} {s:Sh} {d d2:Wd} {x:Wx} {n:Nat}

theorem WdTq.below{R:(Nat->Nat)->Prop}(h:WdTq R B F W W1 g s d)(o:B<=W.heap.size)(f:∀ i,F i->B<=i/\i<W.heap.size)(hb:Below W1.heap.size W1 W2):WdTq R B F W W2 g s d:=by
 obtain⟨⟨x,j,l⟩,b,m⟩:=h;have hs:=hb.size;refine⟨⟨x,(j.below hb).weak (fun i hi=>?_) (fun i hi=>?_),l⟩,Only.trans (F:=F) b (Only.of_below (F:=fun _=>False) hb) (fun _ _ e=>e.elim),by omega⟩
 ·rcases hi with hi|hi
  ·exact .inl hi
  exact .inr ⟨hi.1,by omega⟩
 have:=b.size;rcases hi with hi|hi
 ·exact⟨(f i hi).1,by have:=(f i hi).2;omega⟩
 exact⟨by omega,hi.2⟩
theorem yg6(h:WdP B F W g s d x)(b:B<=W.heap.size)(j:wdOk s d n)(i:n<=10000000)(c:Int)(hc:0<=c/\c<s.c):
  Calls Tryz.prog 17 #[.pointer (some ⟨g,0,.none⟩),.agg #[.int .i64 3,.int .i64 c,.int .i64 0,.int .i64 0,.int .i64 0,.float .f64 0]] W fun e w'=>e= .returned (.int .i64 (d.act s (zjx c)).2)/\WdTq (fun q=>q=x.qs) B F W w' g s (d.act s (zjx c)).1:=
 (z0t h b j i (zjx c) (by unfold Ch.bad zjx;dsimp only;omega)).mono fun e w' h=>⟨h.1,h.2.imp fun q e=>e rfl⟩
def TrAt (w:World) (v:Value) (c er:Int):Prop:=∃ b off cap m:Nat,v= .slice (some ⟨b,off,.none⟩) (m + 1) cap/\m + 1<=cap/\(cap:Int)<=9223372036854775807/\b < w.heap.size/\w.cell? ⟨b,off + m * 8,.none⟩=some (.int .i64 5)/\w.cell? ⟨b,off + m * 8 + 1,.none⟩=some (.int .i64 c)/\w.cell? ⟨b,off + m * 8 + 7,.none⟩=some (.int .i64 er)
theorem yg1(l:List Ev)(e:Ev)(k:Nat)(i:k<8):((l++[e]).flatMap fun e=>e.cells.toList)[l.length*8+k]?=e.cells.toList[k]?:=by
 have b:(l.flatMap fun e=>e.cells.toList).length=l.length*8:=by
  induction l with
  |nil=>rfl
  |cons a l f=>rw[List.flatMap_cons,List.length_append,f];show 8+_=(l.length+1)*8;omega
 rw[List.flatMap_append,List.getElem?_append_right (by omega),b,show l.length*8+k-l.length*8=k by omega];simp
theorem yg2(h:WdP B F W g s d x)(D:d.tr.length<=100000000)(c:Int)(H:Told d c):
  Calls Tryz.prog 33 #[.pointer (some ⟨g,0,.none⟩)] W fun e w'=>Below W.heap.size W w'/\∃ v,e= .returned v/\TrAt w' v c (ygv d):=by
 obtain⟨l,o,m,y,z⟩:=H;refine(zko h D).mono fun e w' ⟨v,q,r,t⟩=>⟨r,v,q,?_⟩;obtain⟨ao,cap,rfl,hc,E,_,G⟩:=RdS.zew t;have j:d.tr.length=l.length+1:=by rw[m];simp
 obtain⟨b,p,rfl,hb,i⟩:=G (by omega);have C:ygv d=o.er:=by unfold ygv;rw[m];simp
 rw[C];refine⟨b,p,cap,l.length,by rw[j],by omega,E,hb,?_,?_,?_⟩
 ·refine(i (l.length*8) (by rw[j];omega)).trans ?_;rw[m];refine(yg1 l o 0 (by omega)).trans ?_;rw[<-y];rfl
 ·rw[Nat.add_assoc];refine(i (l.length*8+1) (by rw[j];omega)).trans ?_;rw[m];refine(yg1 l o 1 (by omega)).trans ?_;rw[<-z];rfl
 rw[Nat.add_assoc];refine(i (l.length*8+7) (by rw[j];omega)).trans ?_;rw[m];exact yg1 l o 7 (by omega)
theorem yha(h:WdP B F W g s d x)(hB:B<=W.heap.size)(ho:wdOk s d n)(hn:n+1+z5k s<=10000000)(c:Int)(o:Op3):
  Calls Tryz.prog 22 #[.pointer (some ⟨g,0,.none⟩),.agg #[.int .i64 s.p,.int .i64 s.c,.int .i64 s.m],.int .i64 c,.agg #[.int .i64 o.k,.int .i64 o.a,.int .i64 o.n]] W fun e w'=>
   (if (d.act s ⟨2,c,o.k,o.a,o.n,0⟩).2=0 then e= .returned (.tuple #[.int .i64 (ygv (askW s d c o)),.bool true])/\WdTo B F W w' g s (askW s d c o)
    else e= .returned (.tuple #[.int .i64 0,.bool false])/\WdTo B F W w' g s (d.act s ⟨2,c,o.k,o.a,o.n,0⟩).1):=by
 have hm:=ho.fi.may;have b7:=fun Y=>yg0 s hm Y;have bq:=((Below.refl W.heap.size W).alloc lr (.cells #[.int .i64 s.p,.int .i64 s.c,.int .i64 s.m] 23));have b5:=bq.alloc bq.size (.cells #[.int .i64 o.k,.int .i64 o.a,.int .i64 o.n] 32);obtain⟨rA,rO,e3,_⟩:=zc5 W (.cells #[.int .i64 s.p,.int .i64 s.c,.int .i64 s.m] 23) (.cells #[.int .i64 o.k,.int .i64 o.a,.int .i64 o.n] 32);have tA:zaa ((W.alloc (.cells #[.int .i64 s.p,.int .i64 s.c,.int .i64 s.m] 23)).alloc (.cells #[.int .i64 o.k,.int .i64 o.a,.int .i64 o.n] 32)) W.heap.size #[.int .i64 s.p,.int .i64 s.c,.int .i64 s.m] 23:=rA;have tO:zaa ((W.alloc (.cells #[.int .i64 s.p,.int .i64 s.c,.int .i64 s.m] 23)).alloc (.cells #[.int .i64 o.k,.int .i64 o.a,.int .i64 o.n] 32)) (W.heap.size+1) #[.int .i64 o.k,.int .i64 o.a,.int .i64 o.n] 32:=rO;have cx:∀ (p:Nat) (W:World),(binOp .eql 61 (.pointer (some ⟨p,0,.none⟩)) (.pointer none)).run Tryz.prog W= .ok (.bool false) W:=fun p W=>by kernel_rfl
 clear rA rO bq;have z:=zeo ho ⟨2,c,o.k,o.a,o.n,0⟩;have I:=fun e=>yct ho (x:=⟨2,c,o.k,o.a,o.n,0⟩) rfl e;obtain⟨b1,E,bf⟩:=hidv (askW s d c o);rw[<-bf];clear bf;replace E:=hd' (E.out.trans (show askW s d c o=(d.act s ⟨2,c,o.k,o.a,o.n,0⟩).1.goN s c (z5k s) from rfl));obtain⟨d1,cp,bh⟩:∃ b,Hid (b=(d.act s ⟨2,c,o.k,o.a,o.n,0⟩).1)/\b=(d.act s ⟨2,c,o.k,o.a,o.n,0⟩).1:=⟨_,hd' rfl,rfl⟩;obtain⟨er,cq,bi⟩:∃ b,Hid (b=(d.act s ⟨2,c,o.k,o.a,o.n,0⟩).2)/\b=(d.act s ⟨2,c,o.k,o.a,o.n,0⟩).2:=⟨_,hd' rfl,rfl⟩;rw[<-bh]at E z I ⊢;rw[<-bi]at I ⊢;clear bh bi;go_in;go_upto_region 1 with fail;generalize (W.alloc (.cells #[.int .i64 s.p,.int .i64 s.c,.int .i64 s.m] 23)).alloc (.cells #[.int .i64 o.k,.int .i64 o.a,.int .i64 o.n] 32)=W2 at *;obtain⟨H,hH,c5⟩:=hidv W.heap.size;rw[<-c5]at tA tO ⊢;clear c5;have cy:=h.below b5;have e6:=tA.lt;have bm:B<=W2.heap.size:=by omega
 have y:∀ i,F i->B<=i/\i<H:=fun i hi=>by have:=h.lt i hi;have:=hH.out;omega
 have c4:¬ F H:=fun e=>by have:=(y H e).2;omega
 have X:Calls Tryz.prog 17 #[.pointer (some ⟨g,0,.none⟩),.agg #[.int .i64 2,.int .i64 c,.int .i64 o.k,.int .i64 o.a,.int .i64 o.n,.float .f64 0]] W2 fun e w'=>e= .returned (.int .i64 (d.act s ⟨2,c,o.k,o.a,o.n,0⟩).2)/\WdTo B F W2 w' g s (d.act s ⟨2,c,o.k,o.a,o.n,0⟩).1:=zkm cy bm ho (by omega) ⟨2,c,o.k,o.a,o.n,0⟩;have S:∀ w' dd,WdTo B F W2 w' g s dd->WdTo B F W w' g s dd:=fun w' dd hk=>WdTo.from h hB b5 hk;rw[<-cp.out,<- cq.out]at X;obtain⟨a0,a1,a2⟩:=ci3 o.k o.a o.n tO.cell;have lO:=tO.lt;replace X:=hd' X;replace b7:=hd' b7;replace I:=hd' I;replace S:=hd' S;replace b5:=hd' b5;clear h;by_cases h0:¬ er=0
 ·have be:(er==0)=false:=by rw[beq_eq_false_iff_ne];exact h0
  go_wp2_with (first|(go_at_call 17;(with_reducible refine X.out.mono ?_);rintro r w3 ⟨rfl,hT⟩));go_returns;exact⟨rfl,S.out _ _ hT⟩
 replace h0:=Decidable.not_not.1 h0;obtain⟨b6,c7,hD⟩:=I.out h0;dsimp only at b6 c7 hD;subst h0;obtain⟨k1,c9,_⟩:=id hD;have ck:c.toNat<d1.l.length:=(Wd.zfs c9).2;have cu:d1.l.length<=100:=by rw[z.len];have:=ho.fi.bd;omega
 go_upto_region 3 with(first|(go_at_call 17;(with_reducible refine X.out.mono ?_);rintro r w3 ⟨rfl,hT⟩));have tA3:=tA.only hT.2.1 c4;obtain⟨⟨x3,bw⟩,cb,bz⟩:=id hT;have G:=zva bw c ⟨b6,ck⟩ cu;rw[c9]at G;replace G:Hid (Calls Tryz.prog 31 #[.pointer (some ⟨g,0,.none⟩),.int .i64 c] w3 fun e w'=>e= .returned (.pointer (some ⟨x3.qs c.toNat,0,.none⟩))/\Below w3.heap.size w3 w'):=hd' G;have b4:WdTq (fun q=>q=x3.qs) B F W2 w3 g s d1:=⟨⟨x3,bw,rfl⟩,cb,bz⟩;clear a0 a1 a2 lO tO bw cb bz;replace b4:=hd' b4;go_upto_region 6 with(first|(go_at_call 31;(with_reducible refine G.out.mono ?_);rintro r w4 ⟨rfl,bp⟩));have c6:=b4.out.below bm (fun i hi=>⟨(y i hi).1,by have:=(y i hi).2;omega⟩) bp;have tA4:=tA3.below bp;generalize x3.qs=Q at *;clear b4 G bp hT tA3;have O:∀ i,z5k s<=i->∃ k,(d1.goN s c i).kl c=some k/\k.job=none:=fun i hi=>by obtain⟨k,J,h2,_⟩:=ya0 (zz6 z i) (yav z hD i) (by unfold z5k at hi;omega);exact⟨k,J,h2⟩
 have hM:z5k s<=8000:=by unfold z5k;have:=ho.fi.bd;omega
 have cm:0<=c/\c<s.c:=⟨b6,c7⟩;generalize z5k s=M at *;replace O:=hd' O;go_wp2;go_loopw [11] (fun bx wr=>∃ i:Nat,i<=M/\bx= .int .i64 i/\WdTq (fun q=>q=Q) B F W2 wr g s (d1.goN s c i)) (fun bx _=>M-(intOf bx).toNat);case atStart=>exact⟨0,Nat.zero_le _,rfl,c6⟩
 case round=>
  clear c6 tA4;obtain⟨i,hi,rfl,hT⟩:=hrel;have T:=zz6 z (c:=c) i;have cg:=yav z hD i;have cd:=tA.only hT.2.1 c4;have b8:=fun k J h2=>yfl (s:=s) (d:=d1) (c:=c) (i:=i) (k:=k) J h2 (M-i);rw[show i+(M-i)=M by omega]at b8;have bu:=fun k J h2=>(z5n (s:=s) (d:=d1.goN s c i) (c:=c) (k:=k) J h2:(d1.goN s c i).goS s c=_);have R:d1.goN s c (i+1)=(d1.goN s c i).goS s c:=rfl;have D:=O.out i;obtain⟨k,hk,bn⟩:=cg;replace E:=E.out;generalize d1.goN s c i=di at *;have b3:=hT;obtain⟨⟨x',V,ba⟩,e2,cf⟩:=hT;replace ba:x'.qs=Q:=ba;have bv:di.l.getD c.toNat none=some k:=by have J:=hk;unfold Wd.kl at J;rw[if_pos b6]at J;exact J
  have C:∀ Y,Below wr.heap.size wr Y->Calls Tryz.prog 32 #[.pointer (some ⟨Q c.toNat,0,.none⟩)] Y fun e w'=>e= .returned (.bool k.rests)/\w'=Y:=fun Y hb=>by have J:=zyp ((V.below hb).cl c.toNat k bv);rw[ba]at J;exact J
  have Z:∀ Y,Below wr.heap.size wr Y->Calls Tryz.prog 17 #[.pointer (some ⟨g,0,.none⟩),.agg #[.int .i64 3,.int .i64 c,.int .i64 0,.int .i64 0,.int .i64 0,.float .f64 0]] Y fun e w'=>e= .returned (.int .i64 (di.act s (zjx c)).2)/\WdTq (fun q=>q=Q) B (grow F W2 wr) wr w' g s (di.act s (zjx c)).1:=fun Y hb=>by refine(yg6 (V.below hb) (by have:=hb.size;omega) T (by omega) c cm).mono fun e w' h=>⟨h.1,?_⟩;have h2:=h.2;rw[ba]at h2;exact WdTq.from V cf hb h2
  obtain⟨a0,a1,a2⟩:=ci3 s.p s.c s.m cd.cell;have lA:=cd.lt;have cz:(0:Int)<=(i:Int):=by omega
  replace Z:=hd' Z;by_cases hr:k.job=none
  ·have ca:k.rests=true:=by unfold Kl.rests;rw[hr];rfl
   rw[ca]at C;have b0:Told di c:=bn.elim (fun h=>absurd hr h.1) (fun h=>h.2);have bs:b1=di:=E.trans (b8 k hk hr);have cc:di.tr.length<=100000000:=by have:=T.tr;omega
   have bc:=fun Y (hb:Below wr.heap.size wr Y)=>yg2 (V.below hb) cc c b0;have N:∀ Y,Below wr.heap.size wr Y->WdTo B F W Y g s di:=fun Y hb=>S.out _ _ (b3.below bm (fun j hj=>⟨(y j hj).1,by have:=(y j hj).2;omega⟩) hb).to;obtain⟨le,cs,bj⟩:=hidv (ygv di);rw[<-bj]at bc;clear bj;replace bs:=hd' bs;clear E b8 bu R D b3 V T bn hk bv b0 cc hr ca;replace bc:=hd' bc;replace C:=hd' C;replace N:=hd' N;by_cases cv:i<M;all_goals
    have bk:(i:Int)<(M:Int)\/¬ (i:Int)<(M:Int):=by omega
    first
     |(have y:(i:Int)<(M:Int):=by omega)
     |(have y:¬ (i:Int)<(M:Int):=by omega)
    clear bk;go_upto_region 11 with(first|(go_at_call 45;(with_reducible refine(b7.out _).mono ?_);rintro r w5 ⟨rfl,U⟩)|(go_at_call 32;(with_reducible refine(C.out _ U).mono ?_);rintro r w6 ⟨rfl,b2⟩;obtain rfl:=b2.symm)|(go_at_call 33;(with_reducible refine(bc.out _ U).mono ?_);rintro r w7 ⟨cj,v,rfl,bb,e7,cap,m,rfl,e0,e1,lb,y0,y1,y7⟩));have b1:((m:Int)+1==0)=false:=by rw[beq_eq_false_iff_ne];omega
    have wm:IntKind.i64.wrap (m:Int)=(m:Int):=IntWalk.i64_in _ ⟨by omega,by omega⟩;have e9:IntKind.i64.wrap ((m:Int)+1-1)=(m:Int):=IntWalk.i64_in _ ⟨by omega,by omega⟩ |>.trans (by omega);have e4:(0:Int)<=(m:Int):=by omega
    have e5:(m:Int)<(m:Int)+1:=by omega
    have bg:=zab U cj;go_wp2_with (first|(go_at_call 32;(with_reducible refine(C.out _ bg).mono ?_);rintro r w6 ⟨rfl,b2⟩;obtain rfl:=b2.symm));go_returns;rw[bs.out,<- cs.out];exact⟨rfl,N.out _ bg⟩
  have c8:k.rests=false:=by
   unfold Kl.rests;rcases hj:k.job with _|j
   ·exact absurd hj hr
   rfl
  rw[c8]at C;have cv:i<M:=by
   rcases Nat.lt_or_ge i M with J|J
   ·exact J
   obtain⟨k',b9,cr⟩:=D J;rw[hk]at b9;injection b9 with b9;exact absurd (b9 ▸ cr) hr
  have bk:(i:Int)<(M:Int):=by omega
  have e8:IntKind.i64.wrap ((i:Int)+1)=(i:Int)+1:=IntWalk.i64_in _ ⟨by omega,by omega⟩
  have L:∀ Y,WdTq (fun q=>q=Q) B (grow F W2 wr) wr Y g s (di.act s (zjx c)).1->∃ i':Nat,i'<=M/\Value.int .i64 ((i:Int)+1)= .int .i64 i'/\WdTq (fun q=>q=Q) B F W2 Y g s (d1.goN s c i'):=fun Y h=>⟨i+1,by omega,by go_num,by
   rw[R,bu k hk hr]
   exact WdTq.trans b3.to h⟩
  replace L:=hd' L;replace C:=hd' C;clear b3 V T bn E b8 bu R D hk bv hr c8;go_wp2_with (first|(go_at_call 45;(with_reducible refine(b7.out _).mono ?_);rintro r w5 ⟨rfl,U⟩)|(go_at_call 32;(with_reducible refine(C.out _ U).mono ?_);rintro r w6 ⟨rfl,b2⟩;obtain rfl:=b2.symm)|(go_at_call 17;(with_reducible refine(Z.out _ U).mono ?_);rintro r w7 ⟨rfl,ch⟩));exact⟨L.out _ ch,by simp only[intOf];omega⟩
end

end

section

open Go.RowKit

attribute [local go_sem ↓] Go.wp_at_zero Go.wp_at_succ

section

variable {B:Nat} {F:Nat->Prop} {W:World} {g:Nat} {s:Sh} {d:Wd} {x:Wx} {n:Nat}

theorem who_at'(P:Kl->Bool)(l:List (Option Kl))(n j:Nat)(h:j<(whoL P l n).length):∃ c:Nat,(whoL P l n)[j]=(c:Int)/\c<n/\∃ k,l.getD c none=some k/\P k=true:=by
 have f:=List.getElem_mem h;generalize (whoL P l n)[j]=z at *;unfold whoL at f;obtain⟨c,i,m⟩:=List.mem_map.1 f;obtain⟨o,b⟩:=List.mem_filter.1 i;refine⟨c,m.symm,List.mem_range.1 o,?_⟩;unfold whoB at b;cases hk:l.getD c none with
 |none=>rw[hk]at b;cases b
 |some k=>rw[hk]at b;exact⟨k,rfl,b⟩
theorem quiet_any(h:WdP B F W g s d x)(hB:B<=W.heap.size)(ho:AI s d n)(hn:n+12*z5k s+12*(1+z5k s)<=9000000)(c:Int)(hc:0<=c/\c<s.c):
  Calls Tryz.prog 19 #[.pointer (some ⟨g,0,.none⟩),.agg #[.int .i64 s.p,.int .i64 s.c,.int .i64 s.m],.int .i64 c] W fun e w'=>e= .returned (.tuple #[])/\WdTo B F W w' g s (quietW s c d):=by
 have hm:=ho.1.fi.may;have ew:=ho.1.fi.bd;have b5:=fun Y=>yg0 s hm Y;have e7:=mostV_le hm;have c5:=((Below.refl W.heap.size W).alloc lr (.cells #[.int .i64 s.p,.int .i64 s.c,.int .i64 s.m] 23));have tA:zaa (W.alloc (.cells #[.int .i64 s.p,.int .i64 s.c,.int .i64 s.m] 23)) W.heap.size #[.int .i64 s.p,.int .i64 s.c,.int .i64 s.m] 23:=heap_alloc_new _ _;have bw:∀ (p:Nat) (W:World),(binOp .neq 61 (.pointer (some ⟨p,0,.none⟩)) (.pointer none)).run Tryz.prog W= .ok (.bool true) W:=fun p W=>by kernel_rfl
 have cv:d.l.length<=100:=by have:=ho.1.len;omega
 obtain⟨L,hL,b7⟩:∃ L,Hid (L=whoL (fun _=>true) d.l d.l.length)/\L=whoL (fun _=>true) d.l d.l.length:=⟨_,hd' rfl,rfl⟩;obtain⟨d1,ed,ba⟩:=hidv (restL s L d);have cr:Hid (∀ w',WdTo B F W w' g s (adN s c d1 s.c.toNat)->WdTo B F W w' g s (quietW s c d)):=hd' fun w' h=>by unfold quietW;rw[<-b7,<- ba];exact h
 have ch:L.length<=12:=by have J:=zwg (fun _=>true) d.l d.l.length;rw[<-b7]at J;have h2:=ho.1.len;omega
 have cd:Hid (∀ j (o:j<L.length),0<=L[j]/\L[j]<s.c/\∃ k,d.kl L[j]=some k):=hd' fun j o=>by subst b7;obtain⟨c,J,h2,k,h3,_⟩:=who_at' (fun _=>true) d.l d.l.length j o;rw[J];have:=ho.1.len;exact⟨by omega,by omega,k,by unfold Wd.kl;rw[if_pos (by omega)];exact h3⟩
 have b3:Hid (∀ j,j<=L.length->AI s (restL s (L.take j) d) (n+12*z5k s)):=hd' fun j o=>by
  refine ai_weak (ai_restL (L.take j) ho) ?_;have:(L.take j).length<=12:=by rw[List.length_take];omega
  have:=Nat.mul_le_mul_right (z5k s) this;omega
 have bp:Hid (∀ j (o:j<L.length),∃ k,(restL s (L.take j) d).kl L[j]=some k):=hd' fun j o=>by
  obtain⟨_,_,k,hk⟩:=cd.out j o
  have key:∀ l (d:Wd) n,wdOk s d n->(∃ k,d.kl L[j]=some k)->∃ k,(restL s l d).kl L[j]=some k:=by
   intro l
   induction l with
   |nil=>intro d n _ h;exact h
   |cons a l ih=>intro d n J h2;exact ih _ _ (zz6 J (z5k s)) (live_keeps J h2 a)
  exact key _ _ _ ho.1 ⟨k,hk⟩
 have bh:Hid (∀ j (o:j<L.length),restL s (L.take (j+1)) d=(restL s (L.take j) d).goN s L[j] (z5k s)):=hd' fun j o=>by rw[List.take_succ_eq_append_getElem o,restL_snoc];rfl
 have y:Hid (restL s (L.take L.length) d=d1):=hd' (by rw[List.take_length];exact ba.symm);have e4:=h.below c5;obtain⟨nl,c9,bf⟩:=hidv L.length;rw[<-bf]at ch y;have T:Calls Tryz.prog 51 #[.pointer (some ⟨g,0,.none⟩)] (W.alloc (.cells #[.int .i64 s.p,.int .i64 s.c,.int .i64 s.m] 23)) fun e w'=>Below (W.alloc (.cells #[.int .i64 s.p,.int .i64 s.c,.int .i64 s.m] 23)).heap.size (W.alloc (.cells #[.int .i64 s.p,.int .i64 s.c,.int .i64 s.m] 23)) w'/\∃ ao cap,e= .returned (.slice ao nl cap)/\nl<=cap/\(cap:Int)<=9223372036854775807/\Hid (∀ j (o:j<L.length),∃ rb ro,ao=some ⟨rb,ro,.none⟩/\(W.heap.size<rb/\rb<w'.heap.size)/\w'.cell? ⟨rb,ro+j,.none⟩=some (.int .i64 L[j])):=by rw[bf];refine(ydq e4 cv).mono fun e w' ⟨v,J,h2,h3⟩=>⟨h2,?_⟩;rw[<-b7]at h3;have h4:RdZ .i64 w' v _:=RdS.zew h3;obtain⟨ao,cap,rfl,h5,h6,h7⟩:=h4.cells;refine⟨ao,cap,J,h5,h6,hd' fun j o=>?_⟩;obtain⟨b,er,ha,hb,hc⟩:=h7 (fun e=>by rw[e]at o;simp at o);have h8:=(h3.lt b (by rw[ha];rfl)).1;exact⟨b,er,ha,⟨by simp at h8;omega,hb⟩,hc j o⟩
 clear bf b7 ba hL ed cv e4;replace T:=hd' T;replace b5:=hd' b5;replace bw:=hd' bw;have O:∀ i,F i->B<=i/\i<W.heap.size:=h.lt;have cp:=hd' c5;have c7:Hid (∀ W1 w' dd,Below W.heap.size W W1->WdTo B F W1 w' g s dd->WdTo B F W w' g s dd):=hd' fun W1 w' dd hb hk=>WdTo.from h hB hb hk;have ep:=hd' (fun W1 (hb:Below W.heap.size W W1)=>h.below hb);clear h c5;go_in;go_upto_region 1 with fail;generalize W.alloc (.cells #[.int .i64 s.p,.int .i64 s.c,.int .i64 s.m] 23)=W1 at *;obtain⟨H,hH,cg⟩:=hidv W.heap.size;rw[<-cg]at tA ⊢;clear cg;go_upto_region 2 with(go_at_call 51;(with_reducible refine T.out.mono ?_);rintro r W2 ⟨cm,ao,cap,rfl,eu,ec,hR⟩);have Z:Below W.heap.size W W2:=zab cp.out cm;have e5:=ep.out _ Z;have tA2:=tA.below cm;have cf:¬ F H:=fun e=>by have:=(O H e).2;have:=hH.out;omega
 have c4:B<=W2.heap.size:=by have:=Z.size;omega
 have cj:WdTo B F W2 W2 g s d:=(WdTq.start (R:=fun _=>True) e5 c4 br trivial).to;clear T tA e5;replace y:=hd' y.out;have bn:Hid (restL s (L.take 0) d=d):=hd' rfl;generalize e1:(fun j=>restL s (List.take j L) d)=rl at *;have G:Hid (∀ j,restL s (L.take j) d=rl j):=hd' fun j=>congrFun e1 j;clear e1;replace b3:Hid (∀ j,j<=L.length->AI s (rl j) (n+12*z5k s)):=hd' fun j o=>G.out j ▸ b3.out j o;replace bp:Hid (∀ j (o:j<L.length),∃ k,(rl j).kl L[j]=some k):=hd' fun j o=>G.out j ▸ bp.out j o;replace bh:Hid (∀ j (o:j<L.length),rl (j+1)=(rl j).goN s L[j] (z5k s)):=hd' fun j o=>by rw[<-G.out,<- G.out];exact bh.out j o
 replace y:Hid (rl nl=d1):=hd' ((G.out nl).symm.trans y.out);replace bn:Hid (rl 0=d):=hd' ((G.out 0).symm.trans bn.out);clear G;obtain⟨M,e8,bu⟩:∃ M,Hid (z5k s=M)/\z5k s=M:=⟨_,hd' rfl,rfl⟩;rw[bu]at hn e7 b5 bh b3;clear bu;go_wp2_with fail;go_loopw [7,8] (fun v7 _ wr=>∃ i:Nat,i<=nl/\v7= .int .i64 i/\WdTo B F W2 wr g s (rl i)) (fun v7 _ _=>nl-(intOf v7).toNat);case atStart=>exact⟨0,Nat.zero_le _,rfl,by rw[bn.out];exact cj⟩
 case round=>
  obtain⟨i,hi,rfl,U⟩:=hrel;obtain⟨V,hV⟩:∃ V,V=wr:=⟨_,rfl⟩;subst hV;by_cases el:i<nl
  ·have bm:i<L.length:=by have:=c9.out;omega
   obtain⟨c0,c1,_⟩:=cd.out i bm;have cu:=bp.out i bm;have cb:=bh.out i bm;have E:=b3.out i (by omega);obtain⟨rb,ro,rfl,⟨f2,cz⟩,e0⟩:=hR.out i bm;obtain⟨ci,ex,bv⟩:∃ ci,Hid (ci=L[i])/\ci=L[i]:=⟨_,hd' rfl,rfl⟩;rw[<-bv]at c0 c1 cu cb e0;clear bv;have ey:(i:Int)<(nl:Int):=by omega
   have ej:(0:Int)<=(i:Int):=by omega
   have es:IntKind.i64.wrap ((i:Int)+1)=(i:Int)+1:=IntWalk.i64_in _ ⟨by omega,by omega⟩;generalize cq:rl i=S at *;replace cq:=hd' cq;have eg:¬ F rb:=fun e=>by have:=(O rb e).2;omega
   go_wp2_with fail;go_loopw [8] (fun v8 wr=>∃ m:Nat,m<=M/\v8= .int .i64 m/\WdTo B F W2 wr g s (S.goN s ci m)) (fun v8 _=>M-(intOf v8).toNat);case atStart=>exact⟨0,Nat.zero_le _,rfl,U⟩
   case round=>
    clear U;obtain⟨m,f1,rfl,U⟩:=hrel;have bs:=tA2.only U.2.1 cf;have e6:wr.cell? ⟨rb,ro+i,.none⟩=some (.int .i64 ci):=(World.cell?_of_block (U.2.1.block rb cz eg)).trans e0;have bx:=zz6 E.1 (c:=ci) m;have bg:S.goN s ci (m+1)=(S.goN s ci m).goS s ci:=rfl;have ei:=fun k J h2=>(z5n (s:=s) (d:=S.goN s ci m) (c:=ci) (k:=k) J h2:(S.goN s ci m).goS s ci=_);have bi:=fun k J h2=>yfl (s:=s) (d:=S) (c:=ci) (i:=m) (k:=k) J h2 (M-m);rw[show m+(M-m)=M by omega]at bi;have ek:∃ k,(S.goN s ci m).kl ci=some k:=by
     obtain⟨k,hk⟩:=cu;rcases o:k.job with _|j
     ·have:=yfl (s:=s) (d:=S) (c:=ci) (i:=0) hk o m;rw[Nat.zero_add]at this;exact⟨k,by rw[this];exact hk⟩
     obtain⟨k',J,_⟩:=yav E.1 (⟨k,hk,.inl ⟨by rw[o];exact fun e=>(by cases e),rfl⟩⟩:Due S ci k.steps) m;exact⟨k',J⟩
    obtain⟨k,hk⟩:=ek;have X:=U;obtain⟨⟨x',I⟩,ca,b2⟩:=U;generalize ef:S.goN s ci m=dm at *;have cs:dm.l.getD ci.toNat none=some k:=by have J:=hk;unfold Wd.kl at J;rw[if_pos c0]at J;exact J
    have b4:∀ Y,Below wr.heap.size wr Y->Calls Tryz.prog 31 #[.pointer (some ⟨g,0,.none⟩),.int .i64 ci] Y fun e w'=>e= .returned (.pointer (some ⟨x'.qs ci.toNat,0,.none⟩))/\Below Y.heap.size Y w':=fun Y hb=>by have J:=zva (I.below hb) ci ⟨c0,(Wd.zfs hk).2⟩ (by rw[bx.len];omega);rw[hk]at J;exact J
    have b6:∀ Y,Below wr.heap.size wr Y->Calls Tryz.prog 32 #[.pointer (some ⟨x'.qs ci.toNat,0,.none⟩)] Y fun e w'=>e= .returned (.bool k.rests)/\w'=Y:=fun Y hb=>zyp ((I.below hb).cl ci.toNat k cs);have bb:∀ Y,Below wr.heap.size wr Y->Calls Tryz.prog 17 #[.pointer (some ⟨g,0,.none⟩),.agg #[.int .i64 3,.int .i64 ci,.int .i64 0,.int .i64 0,.int .i64 0,.float .f64 0]] Y fun e w'=>e= .returned (.int .i64 (dm.act s (zjx ci)).2)/\WdTo B F W2 w' g s (dm.act s (zjx ci)).1:=fun Y hb=>by refine(yg6 (I.below hb) (by have:=hb.size;omega) bx (by omega) ci ⟨c0,c1⟩).mono fun e w' h=>⟨h.1,?_⟩;exact WdTo.trans X (WdTq.from I b2 hb h.2).to
    have D:∀ Y,Below wr.heap.size wr Y->WdTo B F W2 Y g s dm:=fun Y hb=>(WdTq.below (X.q (R:=fun _=>True) (fun _=>trivial)) c4 (fun j o=>⟨(O j o).1,by have:=(O j o).2;have:=Z.size;omega⟩) hb).to;generalize x'.qs ci.toNat=Q at *;obtain⟨a0,a1,a2⟩:=ci3 s.p s.c s.m bs.cell;have f0:(0:Int)<=(m:Int):=by omega
    have f3:IntKind.i64.wrap ((m:Int)+1)=(m:Int)+1:=IntWalk.i64_in _ ⟨by omega,by omega⟩;replace b4:=hd' b4;replace b6:=hd' b6;replace bb:=hd' bb;replace D:=hd' D;clear I ca b2 X cs;have N:Hid (dm=rl (i+1)->∀ Y,Below wr.heap.size wr Y->∃ i':Nat,i'<=nl/\Value.int .i64 ((i:Int)+1)= .int .i64 i'/\WdTo B F W2 Y g s (rl i')):=hd' fun e Y hb=>⟨i+1,by omega,by simp,e ▸ D.out Y hb⟩;by_cases ez:m<M
    ·have cx:(m:Int)<(M:Int):=by omega
     rcases o:k.job with _|j
     ·have c8:k.rests=true:=by unfold Kl.rests;rw[o];rfl
      have c6:dm=rl (i+1):=by rw[cb];exact(bi k hk o).symm
      rw[c8]at b6;go_wp2_with (first|(go_at_call 45;(with_reducible refine(b5.out _).mono ?_);rintro r w5 ⟨rfl,z⟩;have z5:=zai z _ _ _ e6)|(go_at_call 31;(with_reducible refine(b4.out _ b0).mono ?_);rintro r w7 ⟨rfl,bj⟩;have b1:=zab b0 bj)|(go_at_call 31;(with_reducible refine(b4.out _ z).mono ?_);rintro r w6 ⟨rfl,b9⟩;have b0:=zab z b9;have z6:=zai b9 _ _ _ z5)|(go_at_call 32;(with_reducible refine(b6.out _ b1).mono ?_);rintro r w8 ⟨rfl,cc⟩;obtain rfl:=cc.symm));exact⟨N.out c6 _ b1,by simp only[intOf];omega⟩
     have c8:k.rests=false:=by unfold Kl.rests;rw[o];rfl
     have e3:=ei k hk (by rw[o];exact fun e=>by cases e);have eh:Hid (∀ Y,WdTo B F W2 Y g s (dm.act s (zjx ci)).1->∃ m':Nat,m'<=M/\Value.int .i64 ((m:Int)+1)= .int .i64 m'/\WdTo B F W2 Y g s (S.goN s ci m')):=hd' fun Y h=>⟨m+1,by omega,by simp,by rw[bg,e3];exact h⟩;rw[c8]at b6;go_wp2_with (first|(go_at_call 45;(with_reducible refine(b5.out _).mono ?_);rintro r w5 ⟨rfl,z⟩;have z5:=zai z _ _ _ e6)|(go_at_call 31;(with_reducible refine(b4.out _ b0).mono ?_);rintro r w7 ⟨rfl,bj⟩;have b1:=zab b0 bj;have z7:=zai bj _ _ _ z6)|(go_at_call 31;(with_reducible refine(b4.out _ z).mono ?_);rintro r w6 ⟨rfl,b9⟩;have b0:=zab z b9;have z6:=zai b9 _ _ _ z5)|(go_at_call 32;(with_reducible refine(b6.out _ b1).mono ?_);rintro r w8 ⟨rfl,cc⟩;obtain rfl:=cc.symm)|(go_at_call 17;(with_reducible refine(bb.out _ b1).mono ?_);rintro r w9 ⟨rfl,ea⟩));exact⟨eh.out _ ea,by simp only[intOf];omega⟩
    have cx:¬ (m:Int)<(M:Int):=by omega
    have c6:dm=rl (i+1):=by rw[cb,<- ef];congr 1;omega
    go_wp2_with (first|(go_at_call 45;(with_reducible refine(b5.out _).mono ?_);rintro r w5 ⟨rfl,z⟩));exact⟨N.out c6 _ z,by simp only[intOf];omega⟩
  have ev:¬ (i:Int)<(nl:Int):=by omega
  have bk:i=nl:=by omega
  rw[bk,y.out]at U;have bz:=b3.out nl (by have:=c9.out;omega);rw[y.out]at bz;have ck:=fun j=>ai_adN (c:=c) bz j;clear b3 bp bh cd hR bn y cj c9 bk hi;go_wp2_with fail;go_loopw [9] (fun v9 wr=>∃ i:Nat,i<=s.c.toNat/\v9= .int .i64 i/\WdTo B F W2 wr g s (adN s c d1 i)) (fun v9 _=>s.c.toNat-(intOf v9).toNat);case atStart=>exact⟨0,Nat.zero_le _,rfl,U⟩
  case round=>
   clear U;obtain⟨i,hi,rfl,U⟩:=hrel;have bs:=tA2.only U.2.1 cf;obtain⟨a0,a1,a2⟩:=ci3 s.p s.c s.m bs.cell;have lA:=bs.lt;by_cases el:i<s.c.toNat
   ·have cy:(i:Int)<s.c:=by omega
    have ej:(0:Int)<=(i:Int):=by omega
    have es:IntKind.i64.wrap ((i:Int)+1)=(i:Int)+1:=IntWalk.i64_in _ ⟨by omega,by omega⟩;have E:=ck i;have bg:adN s c d1 (i+1)=adS s c (adN s c d1 i) i:=rfl;have X:=U;obtain⟨⟨x',I⟩,ca,b2⟩:=U;generalize adN s c d1 i=S at *;have bq:∀ Y,Below wr.heap.size wr Y->Calls Tryz.prog 46 #[.pointer (some ⟨g,0,.none⟩),.int .i64 (i:Int)] Y fun e w'=>e= .returned (.int .i64 (zrl s S i))/\Below Y.heap.size Y w':=fun Y hb=>zmv (I.below hb) E.1.fi E.1.fit i;have D:∀ Y,Below wr.heap.size wr Y->WdTo B F W2 Y g s S:=fun Y hb=>(WdTq.below (X.q (R:=fun _=>True) (fun _=>trivial)) c4 (fun j o=>⟨(O j o).1,by have:=(O j o).2;have:=Z.size;omega⟩) hb).to;have em:n+12*M+i*(1+M)+1+M<=10000000:=by have:i*(1+M)<=12*(1+M):=Nat.mul_le_mul_right _ (by omega);omega
    have b8:∀ Y,Below wr.heap.size wr Y->Calls Tryz.prog 22 #[.pointer (some ⟨g,0,.none⟩),.agg #[.int .i64 s.p,.int .i64 s.c,.int .i64 s.m],.int .i64 c,.agg #[.int .i64 4,.int .i64 (i:Int),.int .i64 0]] Y fun e w'=>(∃ v,e= .returned v)/\WdTo B F W2 w' g s (if (S.act s ⟨2,c,4,i,0,0⟩).2=0 then askW s S c ⟨4,i,0⟩ else(S.act s ⟨2,c,4,i,0,0⟩).1):=fun Y hb=>by
     refine(yha (I.below hb) (by have:=hb.size;omega) E.1 (by rw[e8.out];exact em) c ⟨4,i,0⟩).mono fun e w' h=>?_;dsimp only at h;split at h
     ·rename_i h0;rw[if_pos h0];exact⟨⟨_,h.1⟩,WdTo.trans X (WdTo.from I b2 hb h.2)⟩
     rename_i h0;rw[if_neg h0];exact⟨⟨_,h.1⟩,WdTo.trans X (WdTo.from I b2 hb h.2)⟩
    have N:Hid (∀ dd Y,adN s c d1 (i+1)=dd->WdTo B F W2 Y g s dd->∃ i':Nat,i'<=s.c.toNat/\Value.int .i64 ((i:Int)+1)= .int .i64 i'/\WdTo B F W2 Y g s (adN s c d1 i')):=hd' fun dd Y e h=>⟨i+1,by omega,by simp,e ▸ h⟩;replace bq:=hd' bq;replace D:=hd' D;replace b8:=hd' b8;clear I ca b2 X ck E;by_cases bc:(i:Int)=c
    ·have C:adN s c d1 (i+1)=S:=by rw[bg];unfold adS;rw[if_neg (fun h=>h.1 bc)]
     have eb:((i:Int) !=c)=false:=by rw[bc];simp
     clear bc;go_wp2_with fail;exact⟨N.out _ _ C (D.out _ br),by simp only[intOf];omega⟩
    have eb:((i:Int) !=c)=true:=by simpa using bc
    by_cases e2:1<zrl s S i
    ·have C:=bg;unfold adS at C;rw[if_pos ⟨bc,e2⟩]at C;go_wp2_with (first|(go_at_call 46;(with_reducible refine(bq.out _ br).mono ?_);rintro r w5 ⟨rfl,z⟩;have z0:=zai z _ _ _ a0;have z1:=zai z _ _ _ a1;have z2:=zai z _ _ _ a2)|(go_at_call 22;(with_reducible refine(b8.out _ z).mono ?_);rintro r w6 ⟨⟨v6,rfl⟩,e9⟩));exact⟨N.out _ _ C e9,by simp only[intOf];omega⟩
    have C:=bg;unfold adS at C;rw[if_neg (fun h=>e2 h.2)]at C;go_wp2_with (first|(go_at_call 46;(with_reducible refine(bq.out _ br).mono ?_);rintro r w5 ⟨rfl,z⟩));exact⟨N.out _ _ C (D.out _ z),by simp only[intOf];omega⟩
   have cy:¬ (i:Int)<s.c:=by omega
   have bk:i=s.c.toNat:=by omega
   rw[bk]at U;have hE:=cr.out _ (c7.out _ _ _ Z U);replace hE:=hd' hE;clear U;go_wp2_with fail;go_returns;exact⟨rfl,hE.out⟩
end

end

section

structure Hp where
 p:Int
 c:Int
 m:Int
 xs:List Int
def wd (xs:List Int) (i:Int):Int:=xs.getD i.toNat 0
theorem yc8{xs:List Int}{i:Int}(b:0<=i)(f:i<xs.length):wd xs i=xs[i.toNat]'(by omega):=by
 unfold wd;rw[List.getD_eq_getElem?_getD,List.getElem?_eq_getElem (by omega)];rfl
def Hp.ok (h:Hp):Bool:=mayB h.p h.c h.m && decide (zb6 h.p h.c h.m<=(h.xs.length:Int))
def Hp.pw (h:Hp) (a:Int):Int:=wd h.xs (h.c + a)
def Hp.pb (h:Hp) (a:Int):Bool:=zal h.p h.c h.m a (h.pw a)
def Hp.pk (h:Hp) (a:Int):Int:=if h.pb a=true then zbx (h.pw a) else 0
def Hp.pa (h:Hp) (a:Int):Int:=if h.pb a=true then za2 (h.pw a) 0 else 0
def Hp.pn (h:Hp) (a:Int):Int:=if h.pb a=true then za2 (h.pw a) 1 else 0
def Hp.sw (h:Hp) (a i:Int):Int:=wd h.xs (h.c + h.p + a * 16 + i)
def Hp.sk (h:Hp) (a i:Int):Int:=if zet (h.sw a i)=true then zbx (h.sw a i) else 0
def Hp.sa (h:Hp) (a i:Int):Int:=if zet (h.sw a i)=true then za2 (h.sw a i) 0 else 0
def Hp.hd (h:Hp) (a:Int):Int:=if (h.pb a && h.pk a==4)=true then h.pa a else a
def Hp.hb (h:Hp) (a:Int):Bool:=h.pb (h.hd a) && h.pk (h.hd a)==1
def Hp.hc (h:Hp) (a:Int):Int:=if h.hb a=true then h.pa (h.hd a) else 0
def ycd (x:Int):Bool:=za8 (zbx x) (za2 x 0)==x && zbx x==1
def Hp.lv (h:Hp) (x:Int):Bool:=mayB h.p h.c h.m && wi x 0 (h.c - 1) && ycd (wd h.xs x)
def Hp.op (h:Hp) (a:Int):Nat->Bool
 | 0=> true
 | i + 1=> h.op a i && h.sk a i==1
def Hp.fr (h:Hp) (a:Int):Bool:=if (h.pb a && h.pk a==2)=true then h.op a (zah (h.pa a)).toNat else h.pb a && h.pk a==0
def Hp.rw (h:Hp):Nat->Nat
 | 0=> 0
 | k + 1=> if h.fr k=true then h.rw k + 1 else 0
def Hp.fit (h:Hp):Prop:=∀ x ∈ h.xs,0<=x/\x < 18446744073709551616
theorem Hp.z95{h:Hp}(f:h.fit)(i:Int):0<=wd h.xs i/\wd h.xs i<18446744073709551616:=by
 unfold wd;rw[List.getD_eq_getElem?_getD];rcases Nat.lt_or_ge i.toNat h.xs.length with b|b
 ·rw[List.getElem?_eq_getElem b];exact f _ (List.getElem_mem b)
 rw[List.getElem?_eq_none b];exact⟨by decide,by decide⟩
theorem zpp{p c m a x:Int}(h:zal p c m a x=true):zkb p c a (zbx x) (za2 x 0) (za2 x 1)=true:=by
 unfold zal at h;simp only[Bool.and_eq_true]at h;exact h.2
theorem Hp.zq2{h:Hp}{a:Int}(b:h.pb a=true):zkb h.p h.c a (h.pk a) (h.pa a) (h.pn a)=true:=by
 unfold Hp.pk Hp.pa Hp.pn;rw[if_pos b,if_pos b,if_pos b];exact zpp b
theorem Hp.z1z(h:Hp)(a:Int):(0<=h.pk a/\h.pk a<=15)/\(0<=h.pa a/\h.pa a<=255)/\0<=h.pn a/\h.pn a<=255:=by
 unfold Hp.pk Hp.pa Hp.pn;have:=zw3 (h.pw a);have:=zgv (h.pw a) 0;have:=zgv (h.pw a) 1;split<;>simp_all
theorem Hp.ygu{h:Hp}{a:Int}(b:(h.pb a&&h.pk a==4)=true):h.pa a<a/\a-8<h.pa a/\0<=h.pa a:=by
 simp only[Bool.and_eq_true,beq_iff_eq]at b;have:=h.zq2 b.1;rw[b.2]at this;simp[zkb]at this;exact⟨this.1,this.2,(h.z1z a).2.1.1⟩
theorem Hp.yji{h:Hp}{a:Int}(b:(h.pb a&&h.pk a==3)=true):1<=h.pa a/\h.pa a<=8/\h.pa a<=h.p-a:=by
 simp only[Bool.and_eq_true,beq_iff_eq]at b;have:=h.zq2 b.1;rw[b.2]at this;simp[zkb]at this;omega
theorem Hp.ygf{h:Hp}{a:Int}(b:(h.pb a&&h.pk a==2)=true):0<=h.pa a/\h.pa a<=3:=by
 simp only[Bool.and_eq_true,beq_iff_eq]at b;have:=h.zq2 b.1;rw[b.2]at this;simp[zkb]at this;have:=(h.z1z a).2.1.1;omega
theorem Hp.yfx{h:Hp}{a:Int}(b:0<=a)(f:a<h.p):0<=h.hd a/\h.hd a<h.p:=by
 unfold Hp.hd;split
 ·rename_i i;have:=Hp.ygu i;omega
 exact⟨b,f⟩
end

end Go.Proofs.YtkbddndcegpllaaGreat
