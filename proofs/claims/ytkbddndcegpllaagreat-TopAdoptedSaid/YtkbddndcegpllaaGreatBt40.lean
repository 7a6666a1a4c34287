/- Texts bound together: AudY AudV HpI. -/
import Derived.Test.YtkbddndcegpllaaGreatBt34

set_option linter.all false
set_option maxHeartbeats 8000000
set_option maxRecDepth 100000
namespace Go.Proofs.YtkbddndcegpllaaGreat

section

open Go.RowKit

attribute [local go_sem ↓] Go.wp_at_zero Go.wp_at_succ

attribute [local go_sem ↓] zhk zh6

def zco (w:World) (N:Nat) (c:Cn):Prop:=w.heap[N]?=some (.cells #[c.f,c.t,c.l,c.o] 94 (0,0))
section

variable {w:World} {N:Nat} {c:Cn}

theorem zco.set0(h:zco w N c)(x:Int):zco (w.setCell ⟨N,0,.none⟩ (.int .i64 x)) N ⟨x,c.t,c.l,c.o⟩:=by unfold zco at *;rw[heap_setCell_same w N 0 _ _ _ h];rfl
theorem zco.set1(h:zco w N c)(x:Int):zco (w.setCell ⟨N,1,.none⟩ (.int .i64 x)) N ⟨c.f,x,c.l,c.o⟩:=by unfold zco at *;rw[heap_setCell_same w N 1 _ _ _ h];rfl
theorem zco.set2(h:zco w N c)(x:Int):zco (w.setCell ⟨N,2,.none⟩ (.int .i64 x)) N ⟨c.f,c.t,x,c.o⟩:=by unfold zco at *;rw[heap_setCell_same w N 2 _ _ _ h];rfl
theorem zco.set3(h:zco w N c)(x:Int):zco (w.setCell ⟨N,3,.none⟩ (.int .i64 x)) N ⟨c.f,c.t,c.l,x⟩:=by unfold zco at *;rw[heap_setCell_same w N 3 _ _ _ h];rfl
theorem zco.c0(h:zco w N c):w.cell? ⟨N,0,.none⟩=some (.int .i64 c.f):=zac h 0
theorem zco.c1(h:zco w N c):w.cell? ⟨N,1,.none⟩=some (.int .i64 c.t):=zac h 1
theorem zco.c2(h:zco w N c):w.cell? ⟨N,2,.none⟩=some (.int .i64 c.l):=zac h 2
theorem zco.c3(h:zco w N c):w.cell? ⟨N,3,.none⟩=some (.int .i64 c.o):=zac h 3
theorem zco.fr(h:zco w N c)(i:Nat):w.frozen? ⟨N,i,.none⟩=false:=zax h i
theorem zco.lt(h:zco w N c):N<w.heap.size:=(Array.getElem?_eq_some_iff.1 h).1
theorem zco.below{w':World}(h:zco w N c)(hb:Below w.heap.size w w'):zco w' N c:=(hb.block N h.lt).trans h
end

abbrev atN (N:Nat):Nat->Prop:=fun k=> k=N
theorem zpz(w:World)(N:Nat)(c:Cn)(b:Bool)(k:Int)(hc:zco w N c)(i:c.nn)(hs:c.sum<=100000)(n:0<=k/\k<=100000):
  Calls Tryz.prog 100 #[some N,b,k] w fun e w'=>e= .returned (.tuple #[])/\Only (atN N) w w'/\zco w' N (c.add (zj7 b k)):=by
 have hb:=Cn.bd i hs;have c2:=hc.c2;have c3:=hc.c3;have f2:=hc.fr 2;have j:=hc.fr 3;have q:=wrp (c.l+k);have r:=wrp (c.o+k);rcases Bool.eq_false_or_eq_true b with rfl|rfl
 ·go_in;go_wp2;go_end0;refine⟨rfl,(Only.refl (atN N) w).setCell (p:=⟨N,2,.none⟩) (.inl rfl) _,?_⟩;have:=hc.set2 (c.l+k);simpa[Cn.add,zj7] using this
 go_in;go_wp2;go_end0;refine⟨rfl,(Only.refl (atN N) w).setCell (p:=⟨N,3,.none⟩) (.inl rfl) _,?_⟩;have:=hc.set3 (c.o+k);simpa[Cn.add,zj7] using this
theorem Only.zgk{N:Nat}{w w':World}(o:Only (atN N) w w'){b:Nat}(hb:b<w.heap.size)(f:b≠N)(i:Nat):w'.cell? ⟨b,i,.none⟩=w.cell? ⟨b,i,.none⟩:=by
 have:=o.block b hb f;simp only[World.cell?];rw[this]
theorem Only.zs3{N B:Nat}{b w w':World}(h:Below B b w)(o:Only (atN N) w w')(f:B<=w.heap.size)(i:B<=N):Below B b w':=h.trans (o.below f fun k j=>by rw[j];exact i)
theorem z2f(k:Int)(i:Nat)(h:(i:Int)<=zah k):zbj k*i<=512/\0<=zbj k*i:=by
 have b:=znt k;have f:=zcy k;have:=zk3 (c:=zbj k) (m:=(i:Int)) (C:=32) (M:=16) (by omega) (by omega);omega
theorem zyk(h:Hp)(v:Value)(a k:Int)(Y w:World)(N:Nat)(c:Cn)(b:Bok Y v h)(ha:0<=a/\a<h.p)(hB:Below Y.heap.size Y w)(hN:Y.heap.size<=N)(hc:zco w N c)(hn:c.nn)(hs:c.sum<=5000):
  Calls Tryz.prog 102 #[zzu h v,a,k,some N] w fun e w'=>e= .returned (.tuple #[])/\Only (atN N) w w'/\zco w' N (c.add (h.slS a (zbj k) (zah k).toNat)):=by
 have b4:=fun i X (hX:Below Y.heap.size Y X) hi=>z7y h v a i X (b.below hX) ha hi;have b2:=fun x X (hX:Below Y.heap.size Y X)=>zth h v x X (b.below hX);have S:=slots_any k;have b5:=zgq k;have bm:=zcy k;have bn:=znt k;have b0:=fun i=>z2f k i;obtain⟨q,hq⟩:∃ q:Nat,zah k=q:=⟨(zah k).toNat,by omega⟩;rw[hq]at S bm b0 ⊢;rw[Int.toNat_natCast];generalize zbj k=z at *;have J:c.add (h.slS a z 0)=c:=Cn.add_zero c;have L:∀ i,c.add (h.slS a z (i+1))=(c.add (h.slS a z i)).add (h.slC a z i):=fun i=>(Cn.add_assoc _ _ _).symm;have M:∀ i,(c.add (h.slS a z i)).nn:=fun i=>Cn.z3s hn (h.z9d a bn.1 i);have O:∀ i:Nat,i<=q->(c.add (h.slS a z i)).sum<=6000:=fun i hi=>by have:=b0 i (by omega);rw[Cn.zt6,h.z2x];omega
 have Z:∀ i,h.slC a z i=if h.sk a i=1 then⟨z,0,0,0⟩ else if h.sk a i=3 then⟨0,z,0,0⟩ else zj7 (h.sk a i==2&&h.lv (h.sa a i)) z:=fun _=>rfl;generalize b7:(fun i=>c.add (h.slS a z i))=T at *;have b8:∀ i,c.add (h.slS a z i)=T i:=fun i=>by rw[<-b7]
 simp only[b8]at J L M O ⊢;clear b7 b8;replace b4:=hd' b4;replace b2:=hd' b2;replace S:=hd' S;replace b5:=hd' b5;replace J:=hd' J;replace L:=hd' L;replace M:=hd' M;replace O:=hd' O;replace Z:=hd' Z;have bq:=hc.lt;clear hq b0 b;go_in;go_wp2_with fail;refine(b5.out _).mono ?_;rintro e w2 ⟨rfl,hw⟩;obtain rfl:=hw.symm;clear hw;go_wp2_with fail;refine(S.out _).mono ?_;rintro e w2 ⟨rfl,hw⟩;obtain rfl:=hw.symm;clear hw;obtain⟨H,hH,b6⟩:=hidv w.heap.size;have r:H≠N:=by omega
 have g0:=heap_alloc_new w (.cells #[h.p,h.c,h.m,v] 124);have hW:Only (atN N) w (w.alloc (.cells #[h.p,h.c,h.m,v] 124)):=(Only.refl _ _).alloc _;have I:=hB.alloc hB.size (.cells #[h.p,h.c,h.m,v] 124);have bh:zco (w.alloc (.cells #[h.p,h.c,h.m,v] 124)) N c:=hc.below (br.alloc lr _);have y:H<(w.alloc (.cells #[h.p,h.c,h.m,v] 124)).heap.size:=by simp;omega
 have bp:N<(w.alloc (.cells #[h.p,h.c,h.m,v] 124)).heap.size:=by simp;omega
 rw[<-b6]at g0 ⊢;clear b6;generalize w.alloc (.cells #[h.p,h.c,h.m,v] 124)=W at *;have c0:W.cell? ⟨H,0,.none⟩=some (.int .i64 h.p):=zac g0 0;have c1:W.cell? ⟨H,1,.none⟩=some (.int .i64 h.c):=zac g0 1;have c2:W.cell? ⟨H,2,.none⟩=some (.int .i64 h.m):=zac g0 2;have c3:W.cell? ⟨H,3,.none⟩=some v:=zac g0 3;clear g0;go_wp2_with fail;go_loopw [15] (fun vi wr=>∃ i:Nat,i<=q/\vi= .int .i64 i/\Only (atN N) W wr/\zco wr N (T i)) (fun vi _=>q-(intOf vi).toNat);case atStart=>exact⟨0,Nat.zero_le _,rfl,Only.refl _ _,by rw[J.out];exact bh⟩
 case round=>
  obtain⟨i,hi,rfl,o,F⟩:=hrel;have d0:=(o.zgk y r 0).trans c0;have d1:=(o.zgk y r 1).trans c1;have d2:=(o.zgk y r 2).trans c2;have d3:=(o.zgk y r 3).trans c3;have bg:=Only.zs3 I o I.size hN;by_cases bk:i<q
  ·have D:=b4.out i wr bg (by omega);have j:=L.out i;rw[Z.out i]at j;have b3:=M.out i;have bc:=O.out i hi;have bv:=Cn.bd b3 bc;have R:=b2.out (h.sa a i);generalize h.sk a i=V at *;generalize h.sa a i=U at *;generalize h.lv U=lb at *;generalize T i=B at *;replace D:=hd' D;replace R:=hd' R;by_cases C:V=1
   ·rw[if_pos C]at j;subst C;replace j:=hd' j;go_wp2_with fail;refine D.out.mono ?_;rintro e w3 ⟨rfl,l⟩;have n:=(F.below l).below (br.alloc lr (.cells #[.int .i64 1,U] 132));have E:Only (atN N) W (w3.alloc (.cells #[.int .i64 1,U] 132)):=(o.trans (Only.of_below l) (fun _ _ h=>h)).alloc _;have q0:=n.c0;have q1:=n.fr 0;have w4:=wrp (B.f+z);go_wp2;refine⟨⟨i+1,by omega,by go_num,E.setCell (p:=⟨N,0,.none⟩) (.inl rfl) _,?_⟩,by simp[intOf];omega⟩;have:=n.set0 (B.f+z);rw[j.out];simpa[Cn.add] using this
   by_cases G:V=3
   ·rw[if_neg C,if_pos G]at j;subst G;replace j:=hd' j;clear C;go_wp2_with fail;refine D.out.mono ?_;rintro e w3 ⟨rfl,l⟩;have n:=(F.below l).below (br.alloc lr (.cells #[.int .i64 3,U] 132));have E:Only (atN N) W (w3.alloc (.cells #[.int .i64 3,U] 132)):=(o.trans (Only.of_below l) (fun _ _ h=>h)).alloc _;have q0:=n.c1;have q1:=n.fr 1;have w4:=wrp (B.t+z);go_wp2;refine⟨⟨i+1,by omega,by go_num,E.setCell (p:=⟨N,1,.none⟩) (.inl rfl) _,?_⟩,by simp[intOf];omega⟩;have:=n.set1 (B.t+z);rw[j.out];simpa[Cn.add] using this
   rw[if_neg C,if_neg G]at j;have bs:(V==1)=false:=by rw[beq_eq_false_iff_ne];exact C
   have bu:(V==3)=false:=by rw[beq_eq_false_iff_ne];exact G
   by_cases ba:V=2
   ·subst ba;replace j:T (i+1)=B.add (zj7 lb z):=j;replace j:=hd' j;clear C G;go_wp2_with fail;refine D.out.mono ?_;rintro e w3 ⟨rfl,l⟩;have n:=(F.below l).below (br.alloc lr (.cells #[.int .i64 2,U] 132));have E:Only (atN N) W (w3.alloc (.cells #[.int .i64 2,U] 132)):=(o.trans (Only.of_below l) (fun _ _ h=>h)).alloc _;have e0:=(E.zgk y r 0).trans c0;have e1:=(E.zgk y r 1).trans c1;have e2:=(E.zgk y r 2).trans c2;have e3:=(E.zgk y r 3).trans c3;have bf:=Only.zs3 I E I.size hN;go_wp2_with fail;refine(R.out _ bf).mono ?_;rintro e w4 ⟨rfl,b9⟩;have bi:=n.below b9;have o4:=E.trans (Only.of_below b9) (fun _ _ h=>h);go_wp2_with fail;refine(zpz _ N B lb z bi b3 (by omega) (by omega)).mono ?_;rintro e w5 ⟨rfl,o5,b1⟩;go_wp2;exact⟨⟨i+1,by omega,by go_num,o4.trans o5 (fun _ _ h=>h),by rw[j.out];exact b1⟩,by simp[intOf];omega⟩
   have bb:(V==2)=false:=by rw[beq_eq_false_iff_ne];exact ba
   rw[bb,Bool.false_and]at j;replace j:=hd' j;clear R;go_wp2_with fail;refine D.out.mono ?_;rintro e w3 ⟨rfl,l⟩;have n:=(F.below l).below (br.alloc lr (.cells #[V,U] 132));have E:Only (atN N) W (w3.alloc (.cells #[V,U] 132)):=(o.trans (Only.of_below l) (fun _ _ h=>h)).alloc _;go_wp2_with fail;refine(zpz _ N B false z n b3 (by omega) (by omega)).mono ?_;rintro e w5 ⟨rfl,o5,b1⟩;go_wp2;exact⟨⟨i+1,by omega,by go_num,E.trans o5 (fun _ _ h=>h),by rw[j.out];exact b1⟩,by simp[intOf];omega⟩
  have bj:i=q:=by omega
  subst bj;clear bk;have bw:¬ ((i:Int)<(i:Int)):=by omega
  go_wp2;go_end0;exact⟨rfl,hW.trans o (fun _ _ h=>h),F⟩
end

section

open Go.RowKit

attribute [local go_sem ↓] Go.wp_at_zero Go.wp_at_succ

theorem ycv(h:Hp)(v:Value)(w:World)(hr:RdZ .u64 w v h.xs)(hf:h.fit):
  Calls Tryz.prog 47 #[shV h,v] w fun e w'=>e= .returned (.agg #[h.count.f,h.count.t,h.count.l,h.count.o])/\Below w.heap.size w w':=by
 obtain⟨ao,cap,hv,_,_,_⟩:=hr.cells;generalize h.xs.length=n at hv;subst hv;have E:=fun X M=>z5c h (.slice ao n cap) X (hr.below (w':=X) M);have c5:h.count=if h.ok=true then h.cn h.p.toNat else Cn.zero:=rfl;obtain⟨S,hS⟩:∃ S:Obj,S= .cells #[h.p,h.c,h.m] 23:=⟨_,rfl⟩;obtain⟨Z,hZ⟩:∃ Z:Obj,Z= .cells #[.int .i64 0,.int .i64 0,.int .i64 0,.int .i64 0] 94:=⟨_,rfl⟩;obtain⟨t1,t2,t3,t4,t5⟩:=zh5 w S Z Z;rcases Bool.eq_false_or_eq_true h.ok with D|D;case inr=>
  rw[D]at E;rw[c5,D,if_neg Bool.false_ne_true];replace E:=hd' E;subst hS hZ;go_in;go_wp2_with fail;refine(E.out _ t5).mono ?_;rintro e w1 ⟨rfl,B⟩;have y:=B.alloc B.size (.cells #[h.p,h.c,h.m,.slice ao n cap] 124);have r1:=(y.block _ (by rw[t4];omega)).trans t2;have r2:=(y.block _ (by rw[t4];omega)).trans t3;have hB:=t5.trans (y.mono t5.size);have a0:=(zac r1 0).trans (show _=some (.int .i64 0) from rfl);have a1:=(zac r1 1).trans (show _=some (.int .i64 0) from rfl);have a2:=(zac r1 2).trans (show _=some (.int .i64 0) from rfl);have a3:=(zac r1 3).trans (show _=some (.int .i64 0) from rfl);have aF:=zax r1;have b0:=(zac r2 0).trans (show _=some (.int .i64 0) from rfl);have b1:=(zac r2 1).trans (show _=some (.int .i64 0) from rfl);have b2:=(zac r2 2).trans (show _=some (.int .i64 0) from rfl);have b3:=(zac r2 3).trans (show _=some (.int .i64 0) from rfl);go_upto_region 3 with fail;generalize w1.alloc (.cells #[h.p,h.c,h.m,.slice ao n cap] 124)=W at *;obtain⟨H,hH,L⟩:=hidv w.heap.size;rw[<-L]at a0 a1 a2 a3 b0 b1 b2 b3 aF hB ⊢;clear L t1 t2 t3 t4 t5 r1 r2 B y;have b4:H<=H+1:=by omega
  have bx:H+1≠H+1+1:=by omega
  generalize H+1+1=N at *;generalize H+1=R at *;go_wp2;exact bodyPost_ret (v:= .agg #[.int .i64 0,.int .i64 0,.int .i64 0,.int .i64 0]) (by simp[results,Tryz.results47,go_sem,a0,a1,a2,a3]) rfl ⟨rfl,by rw[<-hH.out];exact((((hB.setCell b4 _).setCell b4 _).setCell b4 _).setCell b4 _)⟩
 case inl=>
  have b:Bok w (.slice ao n cap) h:=⟨D,hr,hf⟩;obtain⟨bp,_,_,_⟩:=b.bd;rw[D]at E;rw[c5,D,if_pos rfl];have bm:=fun a X (M:Below w.heap.size w X) ha=>zpo h (.slice ao n cap) a X (b.below M) ha;have bg:=fun a X (M:Below w.heap.size w X) ha=>zy8 h (.slice ao n cap) a X (b.below M) ha;have bi:=fun x X (M:Below w.heap.size w X)=>zth h (.slice ao n cap) x X (b.below M);obtain⟨P,hP⟩:∃ P:Nat,Hid (h.p=P):=⟨h.p.toNat,hd' (by omega)⟩;have bw:h.p.toNat=P:=by have:=hP.out;omega
  rw[bw];clear bw;have U:∀ k:Nat,h.cn (k+1)=(h.cn k).add (h.pgC k):=fun _=>rfl;have T:∀ k:Nat,k<=64->(h.cn k).nn/\(h.cn k).sum<=4096:=fun k hk=>⟨h.ygi k,by rw[h.ydp];omega⟩;have bj:∀ a:Int,h.pgC a=if (h.hb a || !h.pb a)=true then zj7 (h.hb a&&h.lv (h.hc a)) 64 else if h.pk a=0 then⟨64,0,0,0⟩ else if h.pk a=2 then h.slS a (zbj (h.pa a)) (zah (h.pa a)).toNat else⟨0,64,0,0⟩:=fun _=>rfl;replace E:=hd' E;replace bm:=hd' bm;replace bg:=hd' bg;replace bi:=hd' bi;replace U:=hd' U;replace T:=hd' T;replace bj:=hd' bj;replace D:=hd' D;subst hS hZ;go_in;go_wp2_with fail;refine(E.out _ t5).mono ?_;rintro e w1 ⟨rfl,B⟩;have y:=B.alloc B.size (.cells #[h.p,h.c,h.m,.slice ao n cap] 124);have r0:=(y.block _ (by rw[t4];omega)).trans t1;have r1:=(y.block _ (by rw[t4];omega)).trans t2;have r2:=(y.block _ (by rw[t4];omega)).trans t3;have r3:=heap_alloc_new w1 (.cells #[h.p,h.c,h.m,.slice ao n cap] 124);have hB:=t5.trans (y.mono t5.size);have bc:=B.size;go_upto_region 3 with fail;obtain⟨H,hH,L⟩:=hidv w.heap.size;obtain⟨K,hK,bv⟩:=hidv w1.heap.size;rw[<-bv]at r3 ⊢;rw[<-L]at r0 r1 r2 ⊢;have cl:H+2<K:=by rw[t4]at bc;omega
  have lS:=(Array.getElem?_eq_some_iff.1 r0).1;have lR:=(Array.getElem?_eq_some_iff.1 r1).1;have J:=(Array.getElem?_eq_some_iff.1 r3).1;have ba:w.heap.size<=H+1+1:=by omega
  have c7:zco (w1.alloc (.cells #[h.p,h.c,h.m,.slice ao n cap] 124)) (H+1+1) Cn.zero:=r2;clear bv L t1 t2 t3 t4 t5 B y bc r2;generalize w1.alloc (.cells #[h.p,h.c,h.m,.slice ao n cap] 124)=W at *;have s0:W.cell? ⟨H,0,.none⟩=some (.int .i64 h.p):=zac r0 0;have k0:W.cell? ⟨K,0,.none⟩=some (.int .i64 h.p):=zac r3 0;have k1:W.cell? ⟨K,1,.none⟩=some (.int .i64 h.c):=zac r3 1;have k2:W.cell? ⟨K,2,.none⟩=some (.int .i64 h.m):=zac r3 2;have k3:W.cell? ⟨K,3,.none⟩=some (.slice ao n cap):=zac r3 3;have r:K≠H+1+1:=by omega
  have ck:H≠H+1+1:=by omega
  have bx:H+1≠H+1+1:=by omega
  rw[hP.out]at s0;clear r0 r3;have bb:w.heap.size<=H+1:=by have:=hH.out;omega
  have cf:K<H+1+1\/H+1+1<K:=by omega
  generalize H+1+1=N at *;generalize H+1=R at *;go_wp2_with fail;go_loopw [24] (fun vi wr=>∃ i:Nat,i<=P/\vi= .int .i64 i/\Only (atN N) W wr/\zco wr N (h.cn i)) (fun vi _=>P-(intOf vi).toNat);case atStart=>exact⟨0,Nat.zero_le _,rfl,Only.refl _ _,c7⟩
  case round=>
   obtain⟨i,hi,rfl,F,I⟩:=hrel;have bu:=Only.zs3 hB F hB.size ba;have d0:=(F.zgk J r 0).trans k0;have d1:=(F.zgk J r 1).trans k1;have d2:=(F.zgk J r 2).trans k2;have d3:=(F.zgk J r 3).trans k3;by_cases cb:i<P
   ·have V:0<=(i:Int)/\(i:Int)<h.p:=by have:=hP.out;omega
    have c6:i<=64:=by have:=hP.out;omega
    obtain⟨b8,cc⟩:=T.out i c6;have cm:=Cn.bd b8 cc;have q:=U.out i;rw[bj.out]at q;have b9:=bm.out i wr bu V;have b7:=fun X M=>bg.out i X M V;have bh:=bi.out (h.hc i);have bn:=fun X N c M hN hc hn hs=>zyk h (.slice ao n cap) i (h.pa i) w X N c b V M hN hc hn hs;generalize h.pk i=pk at *;generalize h.pa i=pa at *;generalize h.pn i=pn at *;generalize h.pb i=pb at *;generalize h.hb i=hb at *;generalize h.hc i=hc at *;generalize h.lv hc=lb at *;generalize h.cn i=z at *;replace b9:=hd' b9;replace b7:=hd' b7;replace bh:=hd' bh;replace bn:=hd' bn;replace V:=hd' V
    have fin:Hid (∀ X c,Only (atN N) W X->zco X N c->h.cn (i+1)=c->∃ j:Nat,j<=P/\Value.int .i64 ((i:Int)+1)= .int .i64 j/\Only (atN N) W X/\zco X N (h.cn j)):=
     hd' fun X c ho hc e=>⟨i+1,by omega,by go_num,ho,by rw[e];exact hc⟩
    go_wp2_with fail;refine b9.out.mono ?_;rintro e w3 ⟨rfl,b5⟩;have o3:Only (atN N) W (w3.alloc (.cells #[pk,pa,pn] 128)):=(F.trans (Only.of_below b5) (fun _ _ h=>h)).alloc _;have c4:=(I.below b5).below (br.alloc lr (.cells #[pk,pa,pn] 128));have g3:=heap_alloc_new w3 (.cells #[pk,pa,pn] 128);have c9:w3.heap.size≠N:=by have:=(I.below b5).lt;omega
    go_upto_region 9 with fail;generalize w3.heap.size=G at g3 c9 ⊢;generalize w3.alloc (.cells #[pk,pa,pn] 128)=W3 at *;have lG:=(Array.getElem?_eq_some_iff.1 g3).1;have bq:=Only.zs3 hB o3 hB.size ba;have d0:=(o3.zgk J r 0).trans k0;have d1:=(o3.zgk J r 1).trans k1;have d2:=(o3.zgk J r 2).trans k2;have d3:=(o3.zgk J r 3).trans k3;go_wp2_with fail;refine(b7.out _ bq).mono ?_;rintro e w4 ⟨rfl,b6⟩;have o4:=o3.trans (Only.of_below b6) (fun _ _ h=>h);have C:=c4.below b6;have bs:=Only.zs3 hB o4 hB.size ba;have d0:=(o4.zgk J r 0).trans k0;have d1:=(o4.zgk J r 1).trans k1;have d2:=(o4.zgk J r 2).trans k2;have d3:=(o4.zgk J r 3).trans k3;have g4:=(b6.block _ lG).trans g3;have cg:=zac g4;have n0:=C.c0;have n1:=C.c1;have nF:=C.fr;clear b9 b7 b5 b6 g3 g4 o3 c4 bq;rcases Bool.eq_false_or_eq_true hb with bf|bf
    ·subst bf;replace q:h.cn (i+1)=z.add (zj7 lb 64):=q;replace q:=hd' q;go_wp2_with fail;refine(bh.out _ bs).mono ?_;rintro e w5 ⟨rfl,bz⟩;have o5:=o4.trans (Only.of_below bz) (fun _ _ h=>h);have c8:=C.below bz;go_wp2_with fail;refine(zpz _ _ z lb 64 c8 b8 (by omega) (by omega)).mono ?_;rintro e w6 ⟨rfl,o6,O⟩;go_wp2;exact⟨fin.out _ _ (o5.trans o6 (fun _ _ h=>h)) O q.out,by simp[intOf];omega⟩
    subst bf;rcases Bool.eq_false_or_eq_true pb with bk|bk
    ·subst bk;rw[if_neg (by simp)]at q;by_cases h0:pk=0
     ·rw[if_pos h0]at q;subst h0;replace q:=hd' q;have cd:=wrp (z.f+64);go_wp2;refine⟨fin.out _ _ (o4.setCell (p:=⟨N,0,.none⟩) (.inl rfl) _) (C.set0 (z.f+64)) ?_,by simp[intOf];omega⟩;rw[q.out];simp[Cn.add]
     rw[if_neg h0]at q;have ch:(pk==0)=false:=by rw[beq_eq_false_iff_ne];exact h0
     by_cases h2:pk=2
     ·rw[if_pos h2]at q;subst h2;replace q:=hd' q;go_wp2_with fail;refine(bn.out _ _ z bs ba C b8 (by omega)).mono ?_;rintro e w6 ⟨rfl,o6,O⟩;go_wp2;exact⟨fin.out _ _ (o4.trans o6 (fun _ _ h=>h)) O q.out,by simp[intOf];omega⟩
     rw[if_neg h2]at q;have cj:(pk==2)=false:=by rw[beq_eq_false_iff_ne];exact h2
     replace q:=hd' q;have cd:=wrp (z.t+64);go_wp2;refine⟨fin.out _ _ (o4.setCell (p:=⟨N,1,.none⟩) (.inl rfl) _) (C.set1 (z.t+64)) ?_,by simp[intOf];omega⟩;rw[q.out];simp[Cn.add]
    subst bk;replace q:h.cn (i+1)=z.add (zj7 false 64):=q;replace q:=hd' q;go_wp2_with fail;refine(zpz _ _ z false 64 C b8 (by omega) (by omega)).mono ?_;rintro e w6 ⟨rfl,o6,O⟩;go_wp2;exact⟨fin.out _ _ (o4.trans o6 (fun _ _ h=>h)) O q.out,by simp[intOf];omega⟩
   have ca:i=P:=by omega
   subst ca;clear cb;have cp:¬ ((i:Int)<(i:Int)):=by omega
   have n0:=I.c0;have n1:=I.c1;have n2:=I.c2;have n3:=I.c3;have Y:=(F.block _ lR bx).trans r1;have a0:=(zac Y 0).trans (show _=some (.int .i64 0) from rfl);have a1:=(zac Y 1).trans (show _=some (.int .i64 0) from rfl);have a2:=(zac Y 2).trans (show _=some (.int .i64 0) from rfl);have a3:=(zac Y 3).trans (show _=some (.int .i64 0) from rfl);have aF:=zax Y;go_wp2;exact bodyPost_ret (v:= .agg #[.int .i64 (h.cn i).f,.int .i64 (h.cn i).t,.int .i64 (h.cn i).l,.int .i64 (h.cn i).o]) (by simp[results,Tryz.results47,go_sem,a0,a1,a2,a3]) rfl ⟨rfl,((((bu.setCell bb _).setCell bb _).setCell bb _).setCell bb _)⟩
end

section

variable {s:Sh} {m:Mem} {σ:Ab}

def hpOf (s:Sh) (m:Mem):Hp:=⟨s.p,s.c,s.m,m.ws⟩
theorem hp_ok(b:Rep s m σ):(hpOf s m).ok=true:=by
 unfold Hp.ok hpOf;dsimp only;rw[b.may,b.fi.len];simp
theorem hp_pw(f:Rep s m σ){a:Int}(b:0<=a/\a<s.p):(hpOf s m).pw a=(σ.pg a).enc:=by
 have:=f.pg a b;rw[(ixs f.fi).1 a b]at this;exact this
theorem hp_pg(b:Rep s m σ)(i:GI s σ){a:Int}(f:0<=a/\a<s.p):(hpOf s m).pb a=true/\(hpOf s m).pk a=(σ.pg a).kind/\(hpOf s m).pa a=(σ.pg a).pa:=by
 obtain⟨j,l,_⟩:=PW.read b.may (i.pf a);have hb:(hpOf s m).pb a=true:=by unfold Hp.pb;rw[hp_pw b f];exact PW.ya4 b.may f (i.pf a)
 unfold Hp.pk Hp.pa;rw[if_pos hb,if_pos hb,hp_pw b f];exact⟨hb,j,l⟩
theorem hp_sw(f:Rep s m σ){a i:Int}(b:0<=a/\a<s.p)(hi:0<=i/\i<16):(hpOf s m).sw a i=(σ.sl a i).enc:=by
 have:=f.sl a i b hi;rw[(ixs f.fi).2.1 a i b hi]at this;exact this
theorem SW.ya4(hs:mayB s.p s.c s.m=true){x:SW}(h:x.fit s):zet x.enc=true:=by
 obtain⟨b,f⟩:=SW.read hs h;obtain⟨e,i⟩:=SW.zg9 hs h;unfold zet;rw[b,f,beq_iff_eq];cases x with
 |none=>decide
 |opened k=>rfl
 |way c=>rfl
 |taken k=>rfl
theorem hp_sl(b:Rep s m σ)(j:GI s σ){a i:Int}(f:0<=a/\a<s.p)(hi:0<=i/\i<16):(hpOf s m).sk a i=(σ.sl a i).kind/\(hpOf s m).sa a i=(σ.sl a i).pa:=by
 obtain⟨l,n⟩:=SW.read b.may (j.sf a i);have hb:zet ((hpOf s m).sw a i)=true:=by rw[hp_sw b f hi];exact SW.ya4 b.may (j.sf a i)
 unfold Hp.sk Hp.sa;rw[if_pos hb,if_pos hb,hp_sw b f hi];exact⟨l,n⟩
theorem hp_bareT(j:Rep s m σ){a:Int}(f:0<=a/\a<s.p)(b:∀ i,0<=i/\i<16->σ.sl a i= .none)(n:Nat)(o:n<=16):(hpOf s m).yht a n=true:=by
 induction n with
 |zero=>rfl;|succ n l=>show (_&&_)=true;rw[l (by omega),hp_sw j f (by omega),b n (by omega)];rfl
theorem hp_supT(o:Rep s m σ)(i:GI s σ){a k b:Int}(l:0<=a/\a<s.p)(z:σ.pg a= .super k b)(n:Nat)(C:n<=16):(hpOf s m).supT a k n=true:=by
 induction n with
 |zero=>rfl;|succ n B=>
  show (_&&_)=true;rw[B (by omega),Bool.true_and];have hi:0<=(n:Int)/\(n:Int)<16:=by omega
  obtain⟨q,r⟩:=hp_sl o i l hi;have t:=hp_sw o l hi;have f:=i.sk a n;have j:=i.sf a n;rw[z]at f;unfold zhi at f;dsimp only at f;unfold Hp.okS;by_cases hs:(n:Int)<zah k
  ·rw[if_pos ⟨hi.1,hs⟩]at f;rw[if_pos hs,q,r];rcases f with e|e|⟨c,e⟩
   ·rw[e];simp[SW.kind,SW.pa]
   ·rw[e];simp[SW.kind,SW.pa]
   rw[e]at j ⊢;have y:c<(hpOf s m).c:=j.2;simp[SW.kind,SW.pa,y]
  rw[if_neg (by omega)]at f;rw[if_neg hs,t,f];rfl
theorem hp_snd(q:Rep s m σ)(l:GI s σ){a:Int}(r:0<=a/\a<s.p):(hpOf s m).snd a=true:=by
 obtain⟨E,F,G⟩:=hp_pg q l r;have f:=fun i=>l.sk a i;have t:=l.pf a;unfold Hp.snd;rw[if_pos E,F,G];cases e:σ.pg a with
 |empty=>rw[e]at f;rw[if_neg (by simp[PW.kind]),if_neg (by simp[PW.kind]),if_neg (by simp[PW.kind]),if_pos (by simp[PW.kind])];exact hp_bareT q r (fun i _=>f i) 16 (by omega)
 |held o=>rw[if_neg (by simp[PW.kind]),if_neg (by simp[PW.kind]),if_neg (by simp[PW.kind]),if_neg (by simp[PW.kind])]
 |super k b=>rw[if_pos (by simp[PW.kind])];exact hp_supT q l r e 16 (by omega)
 |large n=>
  rw[e]at f t;rw[if_neg (by simp[PW.kind]),if_pos (by simp[PW.kind]),Bool.and_eq_true];refine⟨hp_bareT q r (fun i _=>f i) 16 (by omega),?_⟩;have J:=l.lg a n e;obtain⟨_,L,M,O⟩:=t
  have key:∀ j:Nat,(j:Int)<=n-1->(hpOf s m).rowT a j=true:=by
   intro j
   induction j with
   |zero=>intro _;rfl
   |succ j S=>
    intro T
    show (_&&_)=true
    rw[S (by omega)]
    have R:0<=a+1+(j:Int)/\a+1+(j:Int)<s.p:=by omega
    obtain⟨_,z,B⟩:=hp_pg q l R
    have:=J (1+j) (by omega) (by omega)
    rw[show a+(1+(j:Int))=a+1+j by omega]at this
    rw[z,B,this]
    simp[PW.kind,PW.pa]
  exact key (n-1).toNat (by omega)
 |body h=>
  rw[e]at f t;rw[if_neg (by simp[PW.kind]),if_neg (by simp[PW.kind]),if_pos (by simp[PW.kind]),Bool.and_eq_true];refine⟨hp_bareT q r (fun i _=>f i) 16 (by omega),?_⟩;obtain⟨_,C,H,I⟩:=t;obtain⟨_,z,B⟩:=hp_pg q l (a:=h) ⟨C,by omega⟩;show (_||_)=true;rw[show PW.pa (.body h)=h from rfl,z,B];rcases l.bd a h e with⟨o,y⟩|⟨n,y,D⟩
  ·rw[y];simp[PW.kind]
  rw[y];simp[PW.kind,PW.pa,D]
theorem hp_sound(b:Rep s m σ)(f:GI s σ):(hpOf s m).sound=true:=by
 unfold Hp.sound;rw[hp_ok b,Bool.true_and];have hb:=b.fi.bd
 have key:∀ n:Nat,(n:Int)<=s.p->(hpOf s m).sndT n=true:=by
  intro n
  induction n with
  |zero=>intro _;rfl
  |succ n i=>
   intro j
   show (_&&_)=true
   rw[i (by omega),hp_snd b f ⟨by omega,by omega⟩];rfl
 exact key (hpOf s m).p.toNat (by show ((s.p.toNat:Nat):Int)<=s.p;omega)
theorem okK.same{W:Int}{l k:List Bk}:∀ {lo:Int},okK W lo l->okK W lo k->(∀ b,b ∈ l↔b ∈ k)->l=k:=by
 induction l generalizing k with
 |nil=>
  intro lo _ _ h
  cases k with
  |nil=>rfl
  |cons b k=>exact absurd ((h b).2 (by simp)) (by simp)
 |cons a l p=>
  intro lo f n h
  cases k with
  |nil=>exact absurd ((h a).1 (by simp)) (by simp)
  |cons b k=>
   have m1:=okK.mem f.2.2
   have m2:=okK.mem n.2.2
   have o:=(h a).1 (by simp)
   have hb:=(h b).2 (by simp)
   have e:a=b:=by
    rcases List.mem_cons.1 o with e|e
    ·exact e
    ·rcases List.mem_cons.1 hb with j|j
     ·exact j.symm
     ·have:=m1 b j;have:=m2 a e;have:=f.2.1;have:=n.2.1;omega
   subst e
   congr 1
   refine p f.2.2 n.2.2 fun x=>?_
   constructor
   ·intro i
    rcases List.mem_cons.1 ((h x).1 (by simp[i])) with e|e
    ·have:=m1 x i;rw[e]at this;have:=f.2.1;omega
    ·exact e
   ·intro i
    rcases List.mem_cons.1 ((h x).2 (by simp[i])) with e|e
    ·have:=m2 x i;rw[e]at this;have:=f.2.1;omega
    ·exact e
theorem hp_mem(z:Rep s m σ)(j:GI s σ)(x:Bk):x ∈ (hpOf s m).bl↔∃ b:Bl,σ.has b/\b.at'=x.a/\b.len=x.n:=by
 have R:=z.fi.bd;unfold Hp.bl;rw[if_pos (hp_ok z),Hp.mem_blT];have S:(hpOf s m).p.toNat=s.p.toNat:=rfl;rw[S];constructor
 ·rintro⟨a,V,f⟩;have C:0<=(a:Int)/\(a:Int)<s.p:=by omega
  obtain⟨_,B,l⟩:=hp_pg z j C;unfold Hp.pgB at f;rw[B,l]at f;cases e:σ.pg a with
  |large n=>rw[e,if_pos (by simp[PW.kind])]at f;simp only[List.mem_singleton]at f;subst f;exact⟨.lar a n,e,rfl,rfl⟩
  |super k b=>
   rw[e,if_neg (by simp[PW.kind]),if_pos (by simp[PW.kind]),Hp.mem_slB]at f;obtain⟨i,hi,t,rfl⟩:=f;have D:=j.pf a;rw[e]at D;have M:=z1t D.2.1;have L:(i:Int)<zah k:=by have U:i<(zah k).toNat:=hi;omega
   have q:0<=(i:Int)/\(i:Int)<16:=by omega
   obtain⟨J,_⟩:=hp_sl z j C q;rw[J]at t;have hs:=j.sk a i;rw[e]at hs;unfold zhi at hs;dsimp only at hs;rw[if_pos ⟨q.1,L⟩]at hs;rcases hs with r|r|⟨c,r⟩
   ·rw[r]at t;exact absurd t (by simp[SW.kind])
   ·refine⟨.sm a i k,r,?_,?_⟩
    ·show (a:Int)*64+i*zbj k=_*64+_*zbj ((hpOf s m).pa a);rw[l,e];rfl
    show zbj k=zbj ((hpOf s m).pa a);rw[l,e];rfl
   rw[r]at t;exact absurd t (by simp[SW.kind])
  |empty=>rw[e,if_neg (by simp[PW.kind]),if_neg (by simp[PW.kind])]at f;simp at f
  |held o=>rw[e,if_neg (by simp[PW.kind]),if_neg (by simp[PW.kind])]at f;simp at f
  |body h=>rw[e,if_neg (by simp[PW.kind]),if_neg (by simp[PW.kind])]at f;simp at f
 rintro⟨b,hb,H,I⟩;cases b with
 |lar p n=>
  have e:σ.pg p= .large n:=hb;have D:=j.pf p;rw[e]at D;have O:0<=p/\p<s.p:=D.1;refine⟨p.toNat,by omega,?_⟩;have y:((p.toNat:Nat):Int)=p:=by omega
  obtain⟨_,B,l⟩:=hp_pg z j O;unfold Hp.pgB;rw[y,B,l,e,if_pos (by simp[PW.kind]),List.mem_singleton];cases x;have q1:p*64=_:=H;have q2:n*64=_:=I;dsimp only at q1 q2;subst q1 q2;rfl
 |sm p i k=>
  obtain⟨⟨T,e⟩,hi,t,F,G⟩:=zto j hb;have r:σ.sl p i= .taken k:=hb;have M:=z1t t;refine⟨p.toNat,by omega,?_⟩;have y:((p.toNat:Nat):Int)=p:=by omega
  obtain⟨_,B,l⟩:=hp_pg z j (a:=p) ⟨F,G⟩;unfold Hp.pgB;rw[y,B,l,e,if_neg (by simp[PW.kind]),if_pos (by simp[PW.kind]),Hp.mem_slB];obtain⟨J,_⟩:=hp_sl z j (a:=p) (i:=i) ⟨F,G⟩ (by omega);have E:((i.toNat:Nat):Int)=i:=by omega
  refine⟨i.toNat,by show i.toNat<(zah k).toNat;omega,by rw[E,J,r];rfl,?_⟩;rw[E,l,e];cases x;have q1:p*64+i*zbj k=_:=H;have q2:zbj k=_:=I;dsimp only at q1 q2;subst q1 q2;rfl
theorem hp_bl(j:Rep s m σ)(i:GI s σ){l:List Bk}(h:zjj (s.p*64) σ.has l):(hpOf s m).bl=l:=by
 have f:=Hp.bl_ok (hp_sound j i);have e:64*(hpOf s m).p=s.p*64:=Int.mul_comm _ _;rw[e]at f;refine okK.same f h.ok fun b=>?_;rw[hp_mem j i];exact(h.mem b.a b.n).symm
end

end Go.Proofs.YtkbddndcegpllaaGreat
