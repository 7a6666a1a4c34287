/- Texts bound together: AudY AudV TAwk RwC MdlF. -/
import Derived.Laws.CopyRow

import Derived.Lib.Overlaps

import Derived.Test.YtkbddndcegpllaaGreatBg44

set_option linter.all false
set_option maxHeartbeats 8000000
set_option maxRecDepth 100000
namespace Go.Proofs.YtkbddndcegpllaaGreat

section

open Go.RowKit

attribute [local go_sem ↓] Go.wp_at_zero Go.wp_at_succ

attribute [local go_sem ↓] zhk zh6

def zco (w:World) (N:Nat) (c:Cn):Prop:=w.heap[N]?=some (.cells #[.int .i64 c.f,.int .i64 c.t,.int .i64 c.l,.int .i64 c.o] 94 (0,0))
section

variable {w:World} {N:Nat} {c:Cn}

theorem zco.set0(h:zco w N c)(x:Int):zco (w.setCell ⟨N,0,.none⟩ (.int .i64 x)) N ⟨x,c.t,c.l,c.o⟩:=by unfold zco at *;rw[heap_setCell_same w N 0 _ _ _ h];rfl
theorem zco.set1(h:zco w N c)(x:Int):zco (w.setCell ⟨N,1,.none⟩ (.int .i64 x)) N ⟨c.f,x,c.l,c.o⟩:=by unfold zco at *;rw[heap_setCell_same w N 1 _ _ _ h];rfl
theorem zco.set2(h:zco w N c)(x:Int):zco (w.setCell ⟨N,2,.none⟩ (.int .i64 x)) N ⟨c.f,c.t,x,c.o⟩:=by unfold zco at *;rw[heap_setCell_same w N 2 _ _ _ h];rfl
theorem zco.set3(h:zco w N c)(x:Int):zco (w.setCell ⟨N,3,.none⟩ (.int .i64 x)) N ⟨c.f,c.t,c.l,x⟩:=by unfold zco at *;rw[heap_setCell_same w N 3 _ _ _ h];rfl
theorem zco.c0(h:zco w N c):w.cell? ⟨N,0,.none⟩=some (.int .i64 c.f):=zac h 0
theorem zco.c1(h:zco w N c):w.cell? ⟨N,1,.none⟩=some (.int .i64 c.t):=zac h 1
theorem zco.c2(h:zco w N c):w.cell? ⟨N,2,.none⟩=some (.int .i64 c.l):=zac h 2
theorem zco.c3(h:zco w N c):w.cell? ⟨N,3,.none⟩=some (.int .i64 c.o):=zac h 3
theorem zco.fr(h:zco w N c)(i:Nat):w.frozen? ⟨N,i,.none⟩=false:=zax h i
theorem zco.lt(h:zco w N c):N<w.heap.size:=(Array.getElem?_eq_some_iff.1 h).1
theorem zco.below{w':World}(h:zco w N c)(hb:Below w.heap.size w w'):zco w' N c:=(hb.block N h.lt).trans h
end

abbrev atN (N:Nat):Nat->Prop:=fun k=> k=N
theorem zpz(w:World)(N:Nat)(c:Cn)(b:Bool)(k:Int)(hc:zco w N c)(i:c.nn)(hs:c.sum<=100000)(m:0<=k/\k<=100000):
  Calls Tryz.prog 100 #[.pointer (some ⟨N,0,.none⟩),.bool b,.int .i64 k] w fun e w'=>e= .returned (.tuple #[])/\Only (atN N) w w'/\zco w' N (c.add (zj7 b k)):=by
 have hb:=Cn.bd i hs;have c2:=hc.c2;have c3:=hc.c3;have f2:=hc.fr 2;have j:=hc.fr 3;have n:=wrp (c.l+k);have q:=wrp (c.o+k);rcases Bool.eq_false_or_eq_true b with rfl|rfl
 ·go_in;go_wp2;go_end0;refine⟨rfl,(Only.refl (atN N) w).setCell (p:=⟨N,2,.none⟩) (.inl rfl) _,?_⟩;have:=hc.set2 (c.l+k);simpa[Cn.add,zj7] using this
 go_in;go_wp2;go_end0;refine⟨rfl,(Only.refl (atN N) w).setCell (p:=⟨N,3,.none⟩) (.inl rfl) _,?_⟩;have:=hc.set3 (c.o+k);simpa[Cn.add,zj7] using this
theorem Only.zgk{N:Nat}{w w':World}(o:Only (atN N) w w'){b:Nat}(hb:b<w.heap.size)(f:b≠N)(i:Nat):w'.cell? ⟨b,i,.none⟩=w.cell? ⟨b,i,.none⟩:=by
 have:=o.block b hb f;simp only[World.cell?];rw[this]
theorem Only.zs3{N B:Nat}{b w w':World}(h:Below B b w)(o:Only (atN N) w w')(f:B<=w.heap.size)(i:B<=N):Below B b w':=h.trans (o.below f fun k j=>by rw[j];exact i)
theorem z2f(k:Int)(i:Nat)(h:(i:Int)<=zah k):zbj k*i<=512/\0<=zbj k*i:=by
 have b:=znt k;have f:=zcy k;have:=zk3 (c:=zbj k) (m:=(i:Int)) (C:=32) (M:=16) (by omega) (by omega);omega
theorem zyk(h:Hp)(v:Value)(a k:Int)(w0 w:World)(N:Nat)(c:Cn)(b:Bok w0 v h)(ha:0<=a/\a<h.p)(hB:Below w0.heap.size w0 w)(hN:w0.heap.size<=N)(hc:zco w N c)(hn:c.nn)(hs:c.sum<=5000):
  Calls Tryz.prog 102 #[zzu h v,.int .i64 a,.int .i64 k,.pointer (some ⟨N,0,.none⟩)] w fun e w'=>e= .returned (.tuple #[])/\Only (atN N) w w'/\zco w' N (c.add (h.slS a (zbj k) (zah k).toNat)):=by
 have b5:=fun i X (hX:Below w0.heap.size w0 X) hi=>z7y h v a i X (b.below hX) ha hi;have b3:=fun x X (hX:Below w0.heap.size w0 X)=>zth h v x X (b.below hX);have Y:=slots_any k;have b6:=zgq k;have bn:=zcy k;have bp:=znt k;have b1:=fun i=>z2f k i;obtain⟨q,hq⟩:∃ q:Nat,zah k=q:=⟨(zah k).toNat,by omega⟩;rw[hq]at Y bn b1 ⊢;rw[Int.toNat_natCast];generalize zbj k=z at *;have O:c.add (h.slS a z 0)=c:=Cn.add_zero c;have R:∀ i,c.add (h.slS a z (i+1))=(c.add (h.slS a z i)).add (h.slC a z i):=fun i=>(Cn.add_assoc _ _ _).symm;have S:∀ i,(c.add (h.slS a z i)).nn:=fun i=>Cn.z3s hn (h.z9d a bp.1 i);have U:∀ i:Nat,i<=q->(c.add (h.slS a z i)).sum<=6000:=fun i hi=>by have:=b1 i (by omega);rw[Cn.zt6,h.z2x];omega
 have b0:∀ i,h.slC a z i=if h.sk a i=1 then⟨z,0,0,0⟩ else if h.sk a i=3 then⟨0,z,0,0⟩ else zj7 (h.sk a i==2&&h.lv (h.sa a i)) z:=fun _=>rfl;generalize b8:(fun i=>c.add (h.slS a z i))=T at *;have b9:∀ i,c.add (h.slS a z i)=T i:=fun i=>by rw[<-b8]
 simp only[b9]at O R S U ⊢;clear b8 b9;replace b5:=hd' b5;replace b3:=hd' b3;replace Y:=hd' Y;replace b6:=hd' b6;replace O:=hd' O;replace R:=hd' R;replace S:=hd' S;replace U:=hd' U;replace b0:=hd' b0;have bs:=hc.lt;clear hq b1 b;go_in;go_wp2_with fail;refine(b6.out _).mono ?_;rintro e w2 ⟨rfl,hw⟩;obtain rfl:=hw.symm;clear hw;go_wp2_with fail;refine(Y.out _).mono ?_;rintro e w2 ⟨rfl,hw⟩;obtain rfl:=hw.symm;clear hw;obtain⟨H,hH,b7⟩:=hidv w.heap.size;have y:H≠N:=by omega
 have g0:=heap_alloc_new w (.cells #[.int .i64 h.p,.int .i64 h.c,.int .i64 h.m,v] 124);have hW:Only (atN N) w (w.alloc (.cells #[.int .i64 h.p,.int .i64 h.c,.int .i64 h.m,v] 124)):=(Only.refl _ _).alloc _;have M:=hB.alloc hB.size (.cells #[.int .i64 h.p,.int .i64 h.c,.int .i64 h.m,v] 124);have bi:zco (w.alloc (.cells #[.int .i64 h.p,.int .i64 h.c,.int .i64 h.m,v] 124)) N c:=hc.below (br.alloc lr _);have C:H<(w.alloc (.cells #[.int .i64 h.p,.int .i64 h.c,.int .i64 h.m,v] 124)).heap.size:=by simp;omega
 have bq:N<(w.alloc (.cells #[.int .i64 h.p,.int .i64 h.c,.int .i64 h.m,v] 124)).heap.size:=by simp;omega
 rw[<-b7]at g0 ⊢;clear b7;generalize w.alloc (.cells #[.int .i64 h.p,.int .i64 h.c,.int .i64 h.m,v] 124)=W at *;have c0:W.cell? ⟨H,0,.none⟩=some (.int .i64 h.p):=zac g0 0;have c1:W.cell? ⟨H,1,.none⟩=some (.int .i64 h.c):=zac g0 1;have c2:W.cell? ⟨H,2,.none⟩=some (.int .i64 h.m):=zac g0 2;have c3:W.cell? ⟨H,3,.none⟩=some v:=zac g0 3;clear g0;go_wp2_with fail;go_loopw [15] (fun vi wr=>∃ i:Nat,i<=q/\vi= .int .i64 i/\Only (atN N) W wr/\zco wr N (T i)) (fun vi _=>q-(intOf vi).toNat);case atStart=>exact⟨0,Nat.zero_le _,rfl,Only.refl _ _,by rw[O.out];exact bi⟩
 case round=>
  obtain⟨i,hi,rfl,r,J⟩:=hrel;have d0:=(r.zgk C y 0).trans c0;have d1:=(r.zgk C y 1).trans c1;have d2:=(r.zgk C y 2).trans c2;have d3:=(r.zgk C y 3).trans c3;have bh:=Only.zs3 M r M.size hN;by_cases bm:i<q
  ·have G:=b5.out i wr bh (by omega);have j:=R.out i;rw[b0.out i]at j;have b4:=S.out i;have bf:=U.out i hi;have bw:=Cn.bd b4 bf;have V:=b3.out (h.sa a i);generalize h.sk a i=k4 at *;generalize h.sa a i=Z at *;generalize h.lv Z=lb at *;generalize T i=D at *;replace G:=hd' G;replace V:=hd' V;by_cases F:k4=1
   ·rw[if_pos F]at j;subst F;replace j:=hd' j;go_wp2_with fail;refine G.out.mono ?_;rintro e w3 ⟨rfl,n⟩;have o:=(J.below n).below (br.alloc lr (.cells #[.int .i64 1,.int .i64 Z] 132));have I:Only (atN N) W (w3.alloc (.cells #[.int .i64 1,.int .i64 Z] 132)):=(r.trans (Only.of_below n) (fun _ _ h=>h)).alloc _;have q0:=o.c0;have q1:=o.fr 0;have w4:=wrp (D.f+z);go_wp2;refine⟨⟨i+1,by omega,by go_num,I.setCell (p:=⟨N,0,.none⟩) (.inl rfl) _,?_⟩,by simp[intOf];omega⟩;have:=o.set0 (D.f+z);rw[j.out];simpa[Cn.add] using this
   by_cases L:k4=3
   ·rw[if_neg F,if_pos L]at j;subst L;replace j:=hd' j;clear F;go_wp2_with fail;refine G.out.mono ?_;rintro e w3 ⟨rfl,n⟩;have o:=(J.below n).below (br.alloc lr (.cells #[.int .i64 3,.int .i64 Z] 132));have I:Only (atN N) W (w3.alloc (.cells #[.int .i64 3,.int .i64 Z] 132)):=(r.trans (Only.of_below n) (fun _ _ h=>h)).alloc _;have q0:=o.c1;have q1:=o.fr 1;have w4:=wrp (D.t+z);go_wp2;refine⟨⟨i+1,by omega,by go_num,I.setCell (p:=⟨N,1,.none⟩) (.inl rfl) _,?_⟩,by simp[intOf];omega⟩;have:=o.set1 (D.t+z);rw[j.out];simpa[Cn.add] using this
   rw[if_neg F,if_neg L]at j;have bu:(k4==1)=false:=by rw[beq_eq_false_iff_ne];exact F
   have bv:(k4==3)=false:=by rw[beq_eq_false_iff_ne];exact L
   by_cases bb:k4=2
   ·subst bb;replace j:T (i+1)=D.add (zj7 lb z):=j;replace j:=hd' j;clear F L;go_wp2_with fail;refine G.out.mono ?_;rintro e w3 ⟨rfl,n⟩;have o:=(J.below n).below (br.alloc lr (.cells #[.int .i64 2,.int .i64 Z] 132));have I:Only (atN N) W (w3.alloc (.cells #[.int .i64 2,.int .i64 Z] 132)):=(r.trans (Only.of_below n) (fun _ _ h=>h)).alloc _;have e0:=(I.zgk C y 0).trans c0;have e1:=(I.zgk C y 1).trans c1;have e2:=(I.zgk C y 2).trans c2;have e3:=(I.zgk C y 3).trans c3;have bg:=Only.zs3 M I M.size hN;go_wp2_with fail;refine(V.out _ bg).mono ?_;rintro e w4 ⟨rfl,ba⟩;have bj:=o.below ba;have o4:=I.trans (Only.of_below ba) (fun _ _ h=>h);go_wp2_with fail;refine(zpz _ N D lb z bj b4 (by omega) (by omega)).mono ?_;rintro e w5 ⟨rfl,o5,b2⟩;go_wp2;exact⟨⟨i+1,by omega,by go_num,o4.trans o5 (fun _ _ h=>h),by rw[j.out];exact b2⟩,by simp[intOf];omega⟩
   have bc:(k4==2)=false:=by rw[beq_eq_false_iff_ne];exact bb
   rw[bc,Bool.false_and]at j;replace j:=hd' j;clear V;go_wp2_with fail;refine G.out.mono ?_;rintro e w3 ⟨rfl,n⟩;have o:=(J.below n).below (br.alloc lr (.cells #[.int .i64 k4,.int .i64 Z] 132));have I:Only (atN N) W (w3.alloc (.cells #[.int .i64 k4,.int .i64 Z] 132)):=(r.trans (Only.of_below n) (fun _ _ h=>h)).alloc _;go_wp2_with fail;refine(zpz _ N D false z o b4 (by omega) (by omega)).mono ?_;rintro e w5 ⟨rfl,o5,b2⟩;go_wp2;exact⟨⟨i+1,by omega,by go_num,I.trans o5 (fun _ _ h=>h),by rw[j.out];exact b2⟩,by simp[intOf];omega⟩
  have bk:i=q:=by omega
  subst bk;clear bm;have bx:¬ ((i:Int)<(i:Int)):=by omega
  go_wp2;go_end0;exact⟨rfl,hW.trans r (fun _ _ h=>h),J⟩
end

section

open Go.RowKit

attribute [local go_sem ↓] Go.wp_at_zero Go.wp_at_succ

theorem ycv(h:Hp)(v:Value)(w:World)(hr:RdZ .u64 w v h.xs)(hf:h.fit):
  Calls Tryz.prog 47 #[shV h,v] w fun e w'=>e= .returned (.agg #[.int .i64 h.count.f,.int .i64 h.count.t,.int .i64 h.count.l,.int .i64 h.count.o])/\Below w.heap.size w w':=by
 obtain⟨ao,cap,hv,_,_,_⟩:=hr.cells;generalize h.xs.length=n at hv;subst hv;have I:=fun X U=>z5c h (.slice ao n cap) X (hr.below (w':=X) U);have c8:h.count=if h.ok=true then h.cn h.p.toNat else Cn.zero:=rfl;obtain⟨S,hS⟩:∃ S:Obj,S= .cells #[.int .i64 h.p,.int .i64 h.c,.int .i64 h.m] 23:=⟨_,rfl⟩;obtain⟨Z,hZ⟩:∃ Z:Obj,Z= .cells #[.int .i64 0,.int .i64 0,.int .i64 0,.int .i64 0] 94:=⟨_,rfl⟩;obtain⟨t1,t2,t3,t4,t5⟩:=zh5 w S Z Z;rcases Bool.eq_false_or_eq_true h.ok with F|F;case inr=>
  rw[F]at I;rw[c8,F,if_neg Bool.false_ne_true];replace I:=hd' I;subst hS hZ;go_in;go_wp2_with fail;refine(I.out _ t5).mono ?_;rintro e w1 ⟨rfl,C⟩;have y:=C.alloc C.size (.cells #[.int .i64 h.p,.int .i64 h.c,.int .i64 h.m,.slice ao n cap] 124);have r1:=(y.block _ (by rw[t4];omega)).trans t2;have r2:=(y.block _ (by rw[t4];omega)).trans t3;have hB:=t5.trans (y.mono t5.size);have a0:=(zac r1 0).trans (show _=some (.int .i64 0) from rfl);have a1:=(zac r1 1).trans (show _=some (.int .i64 0) from rfl);have a2:=(zac r1 2).trans (show _=some (.int .i64 0) from rfl);have a3:=(zac r1 3).trans (show _=some (.int .i64 0) from rfl);have aF:=zax r1;have b0:=(zac r2 0).trans (show _=some (.int .i64 0) from rfl);have b1:=(zac r2 1).trans (show _=some (.int .i64 0) from rfl);have b2:=(zac r2 2).trans (show _=some (.int .i64 0) from rfl);have b3:=(zac r2 3).trans (show _=some (.int .i64 0) from rfl);go_upto_region 3 with fail;generalize w1.alloc (.cells #[.int .i64 h.p,.int .i64 h.c,.int .i64 h.m,.slice ao n cap] 124)=W at *;obtain⟨H,hH,O⟩:=hidv w.heap.size;rw[<-O]at a0 a1 a2 a3 b0 b1 b2 b3 aF hB ⊢;clear O t1 t2 t3 t4 t5 r1 r2 C y;have b7:H<=H+1:=by omega
  have c5:H+1≠H+1+1:=by omega
  generalize H+1+1=N at *;generalize H+1=R at *;go_wp2;exact bodyPost_ret (v:= .agg #[.int .i64 0,.int .i64 0,.int .i64 0,.int .i64 0]) (by simp[results,Tryz.results47,go_sem,a0,a1,a2,a3]) rfl ⟨rfl,by rw[<-hH.out];exact((((hB.setCell b7 _).setCell b7 _).setCell b7 _).setCell b7 _)⟩
 case inl=>
  have b:Bok w (.slice ao n cap) h:=⟨F,hr,hf⟩;obtain⟨bp,_,_,_⟩:=b.bd;rw[F]at I;rw[c8,F,if_pos rfl];have bs:=fun a X (U:Below w.heap.size w X) ha=>zpo h (.slice ao n cap) a X (b.below U) ha;have bj:=fun a X (U:Below w.heap.size w X) ha=>zy8 h (.slice ao n cap) a X (b.below U) ha;have bm:=fun x X (U:Below w.heap.size w X)=>zth h (.slice ao n cap) x X (b.below U);obtain⟨P,hP⟩:∃ P:Nat,Hid (h.p=P):=⟨h.p.toNat,hd' (by omega)⟩;have c4:h.p.toNat=P:=by have:=hP.out;omega
  rw[c4];clear c4;have b4:∀ k:Nat,h.cn (k+1)=(h.cn k).add (h.pgC k):=fun _=>rfl;have Y:∀ k:Nat,k<=64->(h.cn k).nn/\(h.cn k).sum<=4096:=fun k hk=>⟨h.ygi k,by rw[h.ydp];omega⟩;have bn:∀ a:Int,h.pgC a=if (h.hb a || !h.pb a)=true then zj7 (h.hb a&&h.lv (h.hc a)) 64 else if h.pk a=0 then⟨64,0,0,0⟩ else if h.pk a=2 then h.slS a (zbj (h.pa a)) (zah (h.pa a)).toNat else⟨0,64,0,0⟩:=fun _=>rfl;replace I:=hd' I;replace bs:=hd' bs;replace bj:=hd' bj;replace bm:=hd' bm;replace b4:=hd' b4;replace Y:=hd' Y;replace bn:=hd' bn;replace F:=hd' F;subst hS hZ;go_in;go_wp2_with fail;refine(I.out _ t5).mono ?_;rintro e w1 ⟨rfl,C⟩;have y:=C.alloc C.size (.cells #[.int .i64 h.p,.int .i64 h.c,.int .i64 h.m,.slice ao n cap] 124);have r0:=(y.block _ (by rw[t4];omega)).trans t1;have r1:=(y.block _ (by rw[t4];omega)).trans t2;have r2:=(y.block _ (by rw[t4];omega)).trans t3;have r3:=heap_alloc_new w1 (.cells #[.int .i64 h.p,.int .i64 h.c,.int .i64 h.m,.slice ao n cap] 124);have hB:=t5.trans (y.mono t5.size);have bh:=C.size;go_upto_region 3 with fail;obtain⟨H,hH,O⟩:=hidv w.heap.size;obtain⟨K,hK,bz⟩:=hidv w1.heap.size;rw[<-bz]at r3 ⊢;rw[<-O]at r0 r1 r2 ⊢;have cp:H+2<K:=by rw[t4]at bh;omega
  have lS:=(Array.getElem?_eq_some_iff.1 r0).1;have lR:=(Array.getElem?_eq_some_iff.1 r1).1;have M:=(Array.getElem?_eq_some_iff.1 r3).1;have bf:w.heap.size<=H+1+1:=by omega
  have ca:zco (w1.alloc (.cells #[.int .i64 h.p,.int .i64 h.c,.int .i64 h.m,.slice ao n cap] 124)) (H+1+1) Cn.zero:=r2;clear bz O t1 t2 t3 t4 t5 C y bh r2;generalize w1.alloc (.cells #[.int .i64 h.p,.int .i64 h.c,.int .i64 h.m,.slice ao n cap] 124)=W at *;have s0:W.cell? ⟨H,0,.none⟩=some (.int .i64 h.p):=zac r0 0;have k0:W.cell? ⟨K,0,.none⟩=some (.int .i64 h.p):=zac r3 0;have k1:W.cell? ⟨K,1,.none⟩=some (.int .i64 h.c):=zac r3 1;have k2:W.cell? ⟨K,2,.none⟩=some (.int .i64 h.m):=zac r3 2;have k3:W.cell? ⟨K,3,.none⟩=some (.slice ao n cap):=zac r3 3;have r:K≠H+1+1:=by omega
  have cm:H≠H+1+1:=by omega
  have c5:H+1≠H+1+1:=by omega
  rw[hP.out]at s0;clear r0 r3;have bg:w.heap.size<=H+1:=by have:=hH.out;omega
  have cj:K<H+1+1\/H+1+1<K:=by omega
  generalize H+1+1=N at *;generalize H+1=R at *;go_wp2_with fail;go_loopw [24] (fun vi wr=>∃ i:Nat,i<=P/\vi= .int .i64 i/\Only (atN N) W wr/\zco wr N (h.cn i)) (fun vi _=>P-(intOf vi).toNat);case atStart=>exact⟨0,Nat.zero_le _,rfl,Only.refl _ _,ca⟩
  case round=>
   obtain⟨i,hi,rfl,J,L⟩:=hrel;have bx:=Only.zs3 hB J hB.size bf;have d0:=(J.zgk M r 0).trans k0;have d1:=(J.zgk M r 1).trans k1;have d2:=(J.zgk M r 2).trans k2;have d3:=(J.zgk M r 3).trans k3;by_cases cf:i<P
   ·have b5:0<=(i:Int)/\(i:Int)<h.p:=by have:=hP.out;omega
    have c9:i<=64:=by have:=hP.out;omega
    obtain⟨bb,cg⟩:=Y.out i c9;have cq:=Cn.bd bb cg;have q:=b4.out i;rw[bn.out]at q;have bc:=bs.out i wr bx b5;have ba:=fun X U=>bj.out i X U b5;have bk:=bm.out (h.hc i);have bu:=fun X N c U hN hc hn hs=>zyk h (.slice ao n cap) i (h.pa i) w X N c b b5 U hN hc hn hs;generalize h.pk i=pk at *;generalize h.pa i=pa at *;generalize h.pn i=pn at *;generalize h.pb i=pb at *;generalize h.hb i=hb at *;generalize h.hc i=hc at *;generalize h.lv hc=lb at *;generalize h.cn i=z at *;replace bc:=hd' bc;replace ba:=hd' ba;replace bk:=hd' bk;replace bu:=hd' bu;replace b5:=hd' b5
    have fin:Hid (∀ X c,Only (atN N) W X->zco X N c->h.cn (i+1)=c->∃ j:Nat,j<=P/\Value.int .i64 ((i:Int)+1)= .int .i64 j/\Only (atN N) W X/\zco X N (h.cn j)):=
     hd' fun X c ho hc e=>⟨i+1,by omega,by go_num,ho,by rw[e];exact hc⟩
    go_wp2_with fail;refine bc.out.mono ?_;rintro e w3 ⟨rfl,b8⟩;have o3:Only (atN N) W (w3.alloc (.cells #[.int .i64 pk,.int .i64 pa,.int .i64 pn] 128)):=(J.trans (Only.of_below b8) (fun _ _ h=>h)).alloc _;have c7:=(L.below b8).below (br.alloc lr (.cells #[.int .i64 pk,.int .i64 pa,.int .i64 pn] 128));have g3:=heap_alloc_new w3 (.cells #[.int .i64 pk,.int .i64 pa,.int .i64 pn] 128);have cc:w3.heap.size≠N:=by have:=(L.below b8).lt;omega
    go_upto_region 9 with fail;generalize w3.heap.size=G at g3 cc ⊢;generalize w3.alloc (.cells #[.int .i64 pk,.int .i64 pa,.int .i64 pn] 128)=W3 at *;have lG:=(Array.getElem?_eq_some_iff.1 g3).1;have bv:=Only.zs3 hB o3 hB.size bf;have d0:=(o3.zgk M r 0).trans k0;have d1:=(o3.zgk M r 1).trans k1;have d2:=(o3.zgk M r 2).trans k2;have d3:=(o3.zgk M r 3).trans k3;go_wp2_with fail;refine(ba.out _ bv).mono ?_;rintro e w4 ⟨rfl,b9⟩;have o4:=o3.trans (Only.of_below b9) (fun _ _ h=>h);have D:=c7.below b9;have bw:=Only.zs3 hB o4 hB.size bf;have d0:=(o4.zgk M r 0).trans k0;have d1:=(o4.zgk M r 1).trans k1;have d2:=(o4.zgk M r 2).trans k2;have d3:=(o4.zgk M r 3).trans k3;have g4:=(b9.block _ lG).trans g3;have p0:w4.cell? ⟨G,0,.none⟩=some (.int .i64 pk):=zac g4 0;have p1:w4.cell? ⟨G,1,.none⟩=some (.int .i64 pa):=zac g4 1;have n0:=D.c0;have n1:=D.c1;have nF:=D.fr;clear bc ba b8 b9 g3 g4 o3 c7 bv;rcases Bool.eq_false_or_eq_true hb with bi|bi
    ·subst bi;replace q:h.cn (i+1)=z.add (zj7 lb 64):=q;replace q:=hd' q;go_wp2_with fail;refine(bk.out _ bw).mono ?_;rintro e w5 ⟨rfl,c6⟩;have o5:=o4.trans (Only.of_below c6) (fun _ _ h=>h);have cb:=D.below c6;go_wp2_with fail;refine(zpz _ _ z lb 64 cb bb (by omega) (by omega)).mono ?_;rintro e w6 ⟨rfl,o6,V⟩;go_wp2;exact⟨fin.out _ _ (o5.trans o6 (fun _ _ h=>h)) V q.out,by simp[intOf];omega⟩
    subst bi;rcases Bool.eq_false_or_eq_true pb with bq|bq
    ·subst bq;rw[if_neg (by simp)]at q;by_cases h0:pk=0
     ·rw[if_pos h0]at q;subst h0;replace q:=hd' q;have ch:=wrp (z.f+64);go_wp2;refine⟨fin.out _ _ (o4.setCell (p:=⟨N,0,.none⟩) (.inl rfl) _) (D.set0 (z.f+64)) ?_,by simp[intOf];omega⟩;rw[q.out];simp[Cn.add]
     rw[if_neg h0]at q;have ck:(pk==0)=false:=by rw[beq_eq_false_iff_ne];exact h0
     by_cases h2:pk=2
     ·rw[if_pos h2]at q;subst h2;replace q:=hd' q;go_wp2_with fail;refine(bu.out _ _ z bw bf D bb (by omega)).mono ?_;rintro e w6 ⟨rfl,o6,V⟩;go_wp2;exact⟨fin.out _ _ (o4.trans o6 (fun _ _ h=>h)) V q.out,by simp[intOf];omega⟩
     rw[if_neg h2]at q;have cl:(pk==2)=false:=by rw[beq_eq_false_iff_ne];exact h2
     replace q:=hd' q;have ch:=wrp (z.t+64);go_wp2;refine⟨fin.out _ _ (o4.setCell (p:=⟨N,1,.none⟩) (.inl rfl) _) (D.set1 (z.t+64)) ?_,by simp[intOf];omega⟩;rw[q.out];simp[Cn.add]
    subst bq;replace q:h.cn (i+1)=z.add (zj7 false 64):=q;replace q:=hd' q;go_wp2_with fail;refine(zpz _ _ z false 64 D bb (by omega) (by omega)).mono ?_;rintro e w6 ⟨rfl,o6,V⟩;go_wp2;exact⟨fin.out _ _ (o4.trans o6 (fun _ _ h=>h)) V q.out,by simp[intOf];omega⟩
   have cd:i=P:=by omega
   subst cd;clear cf;have cr:¬ ((i:Int)<(i:Int)):=by omega
   have n0:=L.c0;have n1:=L.c1;have n2:=L.c2;have n3:=L.c3;have b6:=(J.block _ lR c5).trans r1;have a0:=(zac b6 0).trans (show _=some (.int .i64 0) from rfl);have a1:=(zac b6 1).trans (show _=some (.int .i64 0) from rfl);have a2:=(zac b6 2).trans (show _=some (.int .i64 0) from rfl);have a3:=(zac b6 3).trans (show _=some (.int .i64 0) from rfl);have aF:=zax b6;go_wp2;exact bodyPost_ret (v:= .agg #[.int .i64 (h.cn i).f,.int .i64 (h.cn i).t,.int .i64 (h.cn i).l,.int .i64 (h.cn i).o]) (by simp[results,Tryz.results47,go_sem,a0,a1,a2,a3]) rfl ⟨rfl,((((bx.setCell bg _).setCell bg _).setCell bg _).setCell bg _)⟩
def sT:Sh:=⟨2,1,1⟩
def tA0:Wd:=zde sT
def tA1:Wd:=(tA0.act sT ⟨1,0,0,0,0,0⟩).1
def tA2:Wd:=askW sT tA1 0 ⟨1,0,100⟩
def tA3:Wd:=askW sT tA2 0 ⟨1,0,1⟩
def tA4:Wd:=askW sT tA3 0 ⟨2,0,0⟩
theorem tE1:(tA0.act sT ⟨1,0,0,0,0,0⟩).2=0:=by decide +kernel
theorem tE2:(tA1.act sT ⟨2,0,1,0,100,0⟩).2=0:=by decide +kernel
theorem tL2:ygv tA2=0:=by decide +kernel
theorem tE3:(tA2.act sT ⟨2,0,1,0,1,0⟩).2=0:=by decide +kernel
theorem tL3:ygv tA3=3:=by decide +kernel
theorem tE4:(tA3.act sT ⟨2,0,2,0,0,0⟩).2=0:=by decide +kernel
theorem tL4:ygv tA4=0:=by decide +kernel
theorem tF4:(⟨2,1,1,tA4.m.ws⟩:Hp).count.f=128:=by decide +kernel
theorem tM:z5k sT=284:=by decide
theorem audT(ws:List Int)(hc:(⟨2,1,1,ws⟩:Hp).count.f=128)(m:∀ x ∈ ws,0<=x/\x<18446744073709551616)(v:Value)(Y:World)(h:RdZ .u64 Y v ws):
  Calls Tryz.prog 47 #[.agg #[.int .i64 2,.int .i64 1,.int .i64 1],v] Y fun e w'=>(∃ a b c:Value,e= .returned (.agg #[.int .i64 128,a,b,c]))/\Below Y.heap.size Y w':=by
 refine(ycv ⟨2,1,1,ws⟩ v Y h m).mono fun e w' j=>?_;have i:=j.1;rw[hc]at i;exact⟨⟨_,_,_,i⟩,j.2⟩
theorem yjk{s:Sh}{d:Wd}{n:Nat}(h:wdOk s d n):∀ x ∈ d.m.ws,0<=x/\x<18446744073709551616:=h.fit
theorem yhd(a b c d:Value)(w:World):(Instr.field 94 (.agg #[a,b,c,d]) 0).run Tryz.prog w= .ok a w:=by kernel_rfl
attribute [local go_sem ↓] yhd

theorem yhf(W:World):Calls Tryz.prog 14 #[] W fun e w'=>e= .returned (.bool true)/\Below W.heap.size W w':=by
 have o0:=zl9 (s:=sT) (by decide);have o1:wdOk sT tA1 1:=zeo o0 _;have o2:wdOk sT tA2 286:=by have h:=yhe (c:=0) (o:=⟨1,0,100⟩) o1;rw[tM]at h;exact h
 have o3:wdOk sT tA3 571:=by have h:=yhe (c:=0) (o:=⟨1,0,1⟩) o2;rw[tM]at h;exact h
 have o4:wdOk sT tA4 856:=by have h:=yhe (c:=0) (o:=⟨2,0,0⟩) o3;rw[tM]at h;exact h
 have n:∀ Y,Calls Tryz.prog 16 #[.agg #[.int .i64 2,.int .i64 1,.int .i64 1]] Y fun e w'=>Below Y.heap.size Y w'/\∃ g v x,e= .returned (.tuple #[.pointer (some ⟨g,0,.none⟩),.pointer (some ⟨v,0,.none⟩)])/\WdP Y.heap.size (fun i=>Y.heap.size<=i/\i<w'.heap.size) w' g sT tA0 x:=fun Y=>znk sT Y (by decide);have bn:∀ (p:Nat) (W:World),(binOp .eql 27 (.pointer (some ⟨p,0,.none⟩)) (.pointer none)).run Tryz.prog W= .ok (.bool false) W:=fun p W=>by kernel_rfl
 have J:∀ (B:Nat) (F:Nat->Prop) X g x,WdP B F X g sT tA0 x->B<=X.heap.size->Calls Tryz.prog 17 #[.pointer (some ⟨g,0,.none⟩),.agg #[.int .i64 1,.int .i64 0,.int .i64 0,.int .i64 0,.int .i64 0,.float .f64 0]] X fun e w'=>e= .returned (.int .i64 0)/\WdTo B F X w' g sT tA1:=fun B F X g x C G=>by have h:=zkm C G o0 (by omega) ⟨1,0,0,0,0,0⟩;rw[tE1]at h;exact h
 have L:∀ (B:Nat) (F:Nat->Prop) X g x,WdP B F X g sT tA1 x->B<=X.heap.size->Calls Tryz.prog 22 #[.pointer (some ⟨g,0,.none⟩),.agg #[.int .i64 2,.int .i64 1,.int .i64 1],.int .i64 0,.agg #[.int .i64 1,.int .i64 0,.int .i64 100]] X fun e w'=>e= .returned (.tuple #[.int .i64 0,.bool true])/\WdTo B F X w' g sT tA2:=fun B F X g x C G=>by refine(yha C G o1 (by rw[tM];omega) 0 ⟨1,0,100⟩).mono fun e w' q=>?_;dsimp only at q;rw[if_pos tE2]at q;rw[<-tL2];exact q
 have M:∀ (B:Nat) (F:Nat->Prop) X g x,WdP B F X g sT tA2 x->B<=X.heap.size->Calls Tryz.prog 22 #[.pointer (some ⟨g,0,.none⟩),.agg #[.int .i64 2,.int .i64 1,.int .i64 1],.int .i64 0,.agg #[.int .i64 1,.int .i64 0,.int .i64 1]] X fun e w'=>e= .returned (.tuple #[.int .i64 3,.bool true])/\WdTo B F X w' g sT tA3:=fun B F X g x C G=>by refine(yha C G o2 (by rw[tM];omega) 0 ⟨1,0,1⟩).mono fun e w' q=>?_;dsimp only at q;rw[if_pos tE3]at q;rw[<-tL3];exact q
 have O:∀ (B:Nat) (F:Nat->Prop) X g x,WdP B F X g sT tA3 x->B<=X.heap.size->Calls Tryz.prog 22 #[.pointer (some ⟨g,0,.none⟩),.agg #[.int .i64 2,.int .i64 1,.int .i64 1],.int .i64 0,.agg #[.int .i64 2,.int .i64 0,.int .i64 0]] X fun e w'=>e= .returned (.tuple #[.int .i64 0,.bool true])/\WdTo B F X w' g sT tA4:=fun B F X g x C G=>by refine(yha C G o3 (by rw[tM];omega) 0 ⟨2,0,0⟩).mono fun e w' q=>?_;dsimp only at q;rw[if_pos tE4]at q;rw[<-tL4];exact q
 have R:∀ (B:Nat) (F:Nat->Prop) X g x,WdP B F X g sT tA4 x->Calls Tryz.prog 21 #[.pointer (some ⟨g,0,.none⟩)] X fun e w'=>∃ v',e= .returned v'/\Below X.heap.size X w'/\RdZ .u64 w' v' tA4.m.ws:=fun B F X g x C=>(ycw C).mono fun e w' ⟨v,h1,h2,h3⟩=>⟨v,h1,h2,RdS.zew h3⟩
 have j:∀ Y v,RdZ .u64 Y v tA4.m.ws->Calls Tryz.prog 47 #[.agg #[.int .i64 2,.int .i64 1,.int .i64 1],v] Y fun e w'=>(∃ a b c:Value,e= .returned (.agg #[.int .i64 128,a,b,c]))/\Below Y.heap.size Y w':=fun Y v h=>audT _ tF4 (yjk o4) v Y h;have b3:=(Below.refl W.heap.size W).alloc lr (.cells #[.int .i64 2,.int .i64 1,.int .i64 1] 23);have t0:zaa (W.alloc (.cells #[.int .i64 2,.int .i64 1,.int .i64 1] 23)) W.heap.size #[.int .i64 2,.int .i64 1,.int .i64 1] 23:=heap_alloc_new _ _;replace n:=hd' n;replace J:=hd' J;replace L:=hd' L;replace M:=hd' M;replace O:=hd' O;replace R:=hd' R;replace j:=hd' j;clear o0 o1 o2 o3 o4;go_in;go_upto_region 2 with fail;generalize W.alloc (.cells #[.int .i64 2,.int .i64 1,.int .i64 1] 23)=X at *;obtain⟨H,hH,b2⟩:=hidv W.heap.size;rw[<-b2]at t0 ⊢;clear b2;have D:=t0.lt;obtain⟨c0,c1,c2⟩:=ci3 2 1 1 t0.cell;go_upto_region 6 with(first|(go_at_call 16;(with_reducible refine(n.out _).mono ?_);rintro r w1 ⟨I,g,vv,x0,rfl,ba⟩;have U:=I.size)|(go_at_call 17;(with_reducible refine(J.out _ _ _ _ _ ba U).mono ?_);rintro r w2 ⟨rfl,⟨x1,bb⟩,b6,V⟩));have t1:=t0.below I;have bg:¬ (X.heap.size<=H/\H<w1.heap.size):=fun e=>by omega
 have t2:=t1.only b6 bg;have bh:=zif (F:=fun i=>X.heap.size<=i/\i<w1.heap.size) (W':=w2) bg t1.lt;clear c0 c1 c2 D;have D:=t2.lt;obtain⟨c0,c1,c2⟩:=ci3 2 1 1 t2.cell;go_upto_region 7 with(first|(go_at_call 22;(with_reducible refine(L.out _ _ _ _ _ bb V).mono ?_);rintro r w3 ⟨rfl,⟨x2,bc⟩,b7,b0⟩));have t3:=t2.only b7 bh;have bi:=zif (W':=w3) bh t2.lt;clear c0 c1 c2 D;have D:=t3.lt;obtain⟨c0,c1,c2⟩:=ci3 2 1 1 t3.cell;go_upto_region 8 with(first|(go_at_call 22;(with_reducible refine(M.out _ _ _ _ _ bc b0).mono ?_);rintro r w4 ⟨rfl,⟨x3,bf⟩,b8,b1⟩));have t4:=t3.only b8 bi;have bm:=zif (W':=w4) bi t3.lt;clear c0 c1 c2 D;have D:=t4.lt;obtain⟨c0,c1,c2⟩:=ci3 2 1 1 t4.cell;go_upto_region 9 with(first|(go_at_call 22;(with_reducible refine(O.out _ _ _ _ _ bf b1).mono ?_);rintro r S ⟨rfl,⟨x4,bk⟩,b9,bp⟩));have t5:=t4.only b9 bm;clear c0 c1 c2 D;have D:=t5.lt;obtain⟨c0,c1,c2⟩:=ci3 2 1 1 t5.cell;have b5:Below W.heap.size W S:=b3.trans ((I.trans ((b6.below U (fun i hi=>(ba.lt i hi).1)).trans ((b7.below V (fun i hi=>(bb.lt i hi).1)).trans ((b8.below b0 (fun i hi=>(bc.lt i hi).1)).trans (b9.below b1 (fun i hi=>(bf.lt i hi).1)))))).mono b3.size);have bj:=b5.size;have y:∀ Z,Below S.heap.size S Z->Calls Tryz.prog 21 #[.pointer (some ⟨g,0,.none⟩)] Z fun e w'=>∃ v',e= .returned v'/\Below Z.heap.size Z w'/\RdZ .u64 w' v' tA4.m.ws:=fun Z hZ=>R.out _ _ _ _ _ (bk.below hZ);have hk:∀ Z,Below S.heap.size S Z->Z.cell? ⟨H,0,.none⟩=some (.int .i64 2)/\Z.cell? ⟨H,1,.none⟩=some (.int .i64 1)/\Z.cell? ⟨H,2,.none⟩=some (.int .i64 1):=fun Z hZ=>⟨zai hZ _ _ _ c0,zai hZ _ _ _ c1,zai hZ _ _ _ c2⟩;replace y:=hd' y;replace hk:=hd' hk;have dd:=hd' (Below.refl S.heap.size S).drew
 go_region_held3 (fun Y=>Y.cell? ⟨H,0,.none⟩=some (.int .i64 2)/\Y.cell? ⟨H,1,.none⟩=some (.int .i64 1)/\Y.cell? ⟨H,2,.none⟩=some (.int .i64 1))
  (first|exact hk.out _ dd.out|exact hk.out _ (dd.out.trans (z.mono dd.out.size))|exact hk.out _ ((dd.out.trans (z.mono dd.out.size)).trans (b4.mono (by have:=dd.out.size;have:=z.size;omega))))
  (first|(go_at_call 21;(with_reducible refine(y.out _ dd.out).mono ?_);rintro r w6 ⟨v,rfl,z,hv⟩)|(go_at_call 47;(with_reducible refine(j.out _ _ hv).mono ?_);rintro r w7 ⟨⟨a,b,c,rfl⟩,b4⟩))
 go_wp2_with fail;go_returns;have h6:=dd.out.trans (z.mono dd.out.size);exact⟨rfl,b5.trans ((h6.trans (b4.mono h6.size)).mono bj)⟩
end

section

open Go.RowKit

def laid (cur:List Value) (off:Nat) (cs:List Value):List Value:=cur.take off ++ cs ++ cur.drop (off + cs.length)
section

variable {P:Program} {w:World}

end

end

section

open Go.RowKit

def Bk.cells (b:Bk):List Value:= [.int .i64 b.a,.int .i64 b.n]
def yhg (l:List Bk):List Value:=l.flatMap Bk.cells
theorem yhj(l k:List Bk):yhg (l++k)=yhg l++yhg k:=by simp[yhg]
theorem yh1(l:List Bk)(i j:Nat)(hi:i<l.length)(n:j<2):(yhg l)[i*2+j]?=(l[i].cells)[j]?:=by
 induction l generalizing i with
 |nil=>simp at hi
 |cons b l m=>
  show (b.cells++yhg l)[i*2+j]?=_
  have f:b.cells.length=2:=rfl
  cases i with
  |zero=>rw[List.getElem?_append_left (by omega)];simp
  |succ i=>
   rw[List.getElem?_append_right (by omega),f,show (i+1)*2+j-2=i*2+j from by omega]
   simpa using m i (by simpa using hi)
def RdK (w:World) (v:Value) (l:List Bk):Prop:=RdS w 2 v l.length (yhg l)
theorem RdK.nth{w:World}{v:Value}{l:List Bk}(r:RdK w v l):∃ ao cap,v= .slice ao l.length cap/\l.length<=cap/\(cap:Int)<=9223372036854775807/\(l≠ []->∃ b f,ao=some ⟨b,f,.none⟩/\b<w.heap.size/\
  ∀ i (hi:i<l.length),w.cell? ⟨b,f+i*2,.none⟩=some (.int .i64 l[i].a)/\w.cell? ⟨b,f+i*2+1,.none⟩=some (.int .i64 l[i].n)):=by
 obtain⟨ao,cap,e,o,p,_,q⟩:=r;refine⟨ao,cap,e,o,p,fun t=>?_⟩;obtain⟨b,f,m,j,hc⟩:=q (fun h=>t (List.eq_nil_of_length_eq_zero h));refine⟨b,f,m,j,fun i hi=>⟨?_,?_⟩⟩
 ·have:=hc (i*2) (by omega);rw[this,show i*2=i*2+0 from rfl,yh1 l i 0 hi (by omega)];rfl
 have:=hc (i*2+1) (by omega);rw[Nat.add_assoc,this,yh1 l i 1 hi (by omega)];rfl
structure Mdl (T E:TypeId) (B:Nat) (w:World) (s:Nat) (sl:Value) (W:Int) (l:List Bk):Prop where
 lies:B<=s
 head:w.heap[s]?=some (.cells #[sl,.int .i64 W] T (0,0))
 owns:w.ownsRow B E 2 sl l.length (yhg l)
 apart:sl.ownBlock≠some s
 ok:okK W 0 l
 small:W<=4096
section

variable {T E:TypeId} {B:Nat} {w w':World} {s:Nat} {sl:Value} {W:Int} {l:List Bk}

theorem Mdl.lt(h:Mdl T E B w s sl W l):s<w.heap.size:=(Array.getElem?_eq_some_iff.1 h.head).1
theorem Mdl.zem(h:Mdl T E B w s sl W l):∀ k,sl.ownBlock=some k->B<=k/\k<w.heap.size:=h.owns.lt
theorem Mdl.cell0(h:Mdl T E B w s sl W l):w.cell? ⟨s,0,.none⟩=some sl:=by simpa using cell_of_row w s 0 _ T (0,0) h.head
theorem Mdl.cell1(h:Mdl T E B w s sl W l):w.cell? ⟨s,1,.none⟩=some (.int .i64 W):=by simpa using cell_of_row w s 1 _ T (0,0) h.head
theorem Mdl.free(h:Mdl T E B w s sl W l)(i:Nat):w.frozen? ⟨s,i,.none⟩=false:=zax h.head i
theorem Mdl.rd(h:Mdl T E B w s sl W l):RdK w sl l:=RdS.zew h.owns
theorem Mdl.blocks(h:Mdl T E B w s sl W l)(hb:∀ k,foot s sl k->w'.heap[k]?=w.heap[k]?):Mdl T E B w' s sl W l:=
 ⟨h.lies,by rw[hb s (.inl rfl)];exact h.head,zas h.owns (fun k b=>hb k (.inr b)),h.apart,h.ok,h.small⟩
theorem Mdl.below(h:Mdl T E B w s sl W l)(hb:Below w.heap.size w w'):Mdl T E B w' s sl W l:=
 h.blocks fun k b=>hb.block k (by rcases b with rfl|b;exact h.lt;exact(h.zem k b).2)
theorem Mdl.only{F:Nat->Prop}(h:Mdl T E B w s sl W l)(i:Only F w w')(f:∀ k,foot s sl k->¬ F k):Mdl T E B w' s sl W l:=
 h.blocks fun k b=>i.block k (by rcases b with rfl|b;exact h.lt;exact(h.zem k b).2) (f k b)
theorem Mdl.len(h:Mdl T E B w s sl W l):l.length<=4096:=by have:=h.ok.len;have:=h.small;omega
end

abbrev PM:=Mdl 254 199
end

end Go.Proofs.YtkbddndcegpllaaGreat
