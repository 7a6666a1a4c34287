/- Texts bound together: MagG HpM AdlP ChnP SndG RunS RjN ChO. -/
import Derived.Test.YtedcnffebdpmmaaGreatBu37

import Derived.Test.YtedcnffebdpmmaaGreatBu36

set_option linter.all false
set_option maxHeartbeats 8000000
set_option maxRecDepth 100000
namespace Go.Proofs.YtedcnffebdpmmaaGreat

section

open Go.RowKit

attribute [local go_sem ↓] Go.wp_at_zero Go.wp_at_succ

def Hp.mx (h:Hp) (c i:Int):Int:=wd h.xs (h.c + h.p + h.p * 16 + c * h.m + i)
structure Hp.magOk (h:Hp):Prop where
 en:∀ c i:Nat,(c:Int) < h.c->(i:Int) < h.m->h.mx c i≠0->zbi h.p h.c h.m (h.mx c i)=true/\h.pk (za2 (h.mx c i) 0)=2/\h.pa (za2 (h.mx c i) 0)=za2 (h.mx c i) 2/\h.sk (za2 (h.mx c i) 0) (za2 (h.mx c i) 1)=2/\h.sa (za2 (h.mx c i) 0) (za2 (h.mx c i) 1)=c
 on:∀ c i c' i':Nat,(c:Int) < h.c->(i:Int) < h.m->(c':Int) < h.c->(i':Int) < h.m->h.mx c i≠0->h.mx c' i'≠0->za2 (h.mx c i) 0=za2 (h.mx c' i') 0->za2 (h.mx c i) 1=za2 (h.mx c' i') 1->c=c'/\i=i'
theorem Bok.magsG{w:World}{v:Value}{h:Hp}(b:Bok w v h):∃ ao cap,v= .slice ao h.xs.length cap/\
  ∀ c i:Nat,(c:Int)<h.c->(i:Int)<h.m->∃ (g f:Nat) (k:Nat),ao=some ⟨g,f,.none⟩/\g<w.heap.size/\ze9 h.p h.c h.m c i=(k:Int)/\k<h.xs.length/\w.cell? ⟨g,f+k,.none⟩=some (.int .u64 (h.mx c i))/\0<=h.mx c i/\h.mx c i<18446744073709551616:=by
 obtain⟨E,F,G,I⟩:=b.bd;obtain⟨ao,cap,q,_,_,_⟩:=b.rd.cells;refine⟨ao,cap,q,fun c i hc hi=>?_⟩;have t:=zk3 (c:=(c:Int)) (m:=h.m) (C:=h.c-1) (M:=h.m) (by omega) (by omega);have B:(h.c-1)*h.m=h.c*h.m-h.m:=by rw[Int.sub_mul,Int.one_mul]
 have h0:=zk3 (c:=h.c) (m:=h.m) (C:=12) (M:=8) (by omega) (by omega);obtain⟨g,f,o,k,j,_,y,z,l,D⟩:=b.word (h.c+h.p+h.p*16+c*h.m+i) (by omega) (by omega);rw[q]at j;injection j with r _ _;refine⟨g,f,k,r,y,?_,l,D,h.z95 b.fit _⟩;unfold ze9;rw[if_pos ⟨b.may,zbc.2 (by omega),zbc.2 (by omega)⟩,z]
def MapG (w:World) (M:Nat) (h:Hp) (c i:Nat):Prop:=∃ es n,yhx es/\(∀ e ∈ es.toList,∃ d j:Nat,(d < c/\(j:Int) < h.m\/d=c/\j < i)/\h.mx d j≠0/\e.key= .agg #[.int .i64 (za2 (h.mx d j) 0),.int .i64 (za2 (h.mx d j) 1)])/\w.heap[M]?=some (.map es n)
theorem MapG.below{w w':World}{M:Nat}{h:Hp}{c i:Nat}(g:MapG w M h c i)(hb:Below w.heap.size w w'):MapG w' M h c i:=by
 obtain⟨es,n,j,f,b⟩:=g;exact⟨es,n,j,f,(hb.block M (Array.getElem?_eq_some_iff.1 b).1).trans b⟩
theorem MapG.skip{w:World}{M:Nat}{h:Hp}{c i:Nat}(g:MapG w M h c i):MapG w M h c (i+1):=by
 obtain⟨es,n,o,f,l⟩:=g;refine⟨es,n,o,fun e b=>?_,l⟩;obtain⟨d,j,h1,h2,h3⟩:=f e b;exact⟨d,j,by omega,h2,h3⟩
theorem MapG.next{w:World}{M:Nat}{h:Hp}{c q:Nat}(g:MapG w M h c q)(o:h.m=q):MapG w M h (c+1) 0:=by
 obtain⟨es,n,l,f,i⟩:=g;refine⟨es,n,l,fun e b=>?_,i⟩;obtain⟨d,j,h1,h2,h3⟩:=f e b;exact⟨d,j,by omega,h2,h3⟩
theorem MapG.new{w:World}{M:Nat}{h:Hp}{c i:Nat}(o:h.magOk)(g:MapG w M h c i)(hc:(c:Int)<h.c)(hi:(i:Int)<h.m)(h0:h.mx c i≠0):∃ es n,w.heap[M]?=some (.map es n)/\
  (∀ (w:World) (M n:Nat),w.heap[M]?=some (.map es n)->(Instr.lookup 139 (.map (some M)) (.agg #[.int .i64 (za2 (h.mx c i) 0),.int .i64 (za2 (h.mx c i) 1)]) true).run Tryz.prog w= .ok (.tuple #[.agg #[],.bool false]) w)/\
  (∀ (w:World) (M n:Nat),w.heap[M]?=some (.map es n)->(Instr.mapUpdate 139 (.map (some M)) (.agg #[.int .i64 (za2 (h.mx c i) 0),.int .i64 (za2 (h.mx c i) 1)]) (.agg #[])).run Tryz.prog w= .ok () (yhm w M (es.push ⟨.agg #[.int .i64 (za2 (h.mx c i) 0),.int .i64 (za2 (h.mx c i) 1)],.agg #[],n⟩) (n+1)))/\
  (∀ (w:World) (M n:Nat),w.heap[M]?=some (.map es n)->MapG (yhm w M (es.push ⟨.agg #[.int .i64 (za2 (h.mx c i) 0),.int .i64 (za2 (h.mx c i) 1)],.agg #[],n⟩) (n+1)) M h c (i+1)):=by
 obtain⟨es,n,y,q,B⟩:=g;obtain⟨r,h1,h2,h3⟩:=map2 (za2 (h.mx c i) 0) (za2 (h.mx c i) 1) es y;have C:r=false:=h3 fun e f b=>by obtain⟨d,j,k1,l,p⟩:=q e f;rw[p]at b;simp only[Value.agg.injEq,Array.mk.injEq,List.cons.injEq,Value.int.injEq,and_true,true_and]at b;have:=o.on d j c i (by omega) (by omega) hc hi l h0 b.1 b.2;omega
 subst C;refine⟨es,n,B,h1,h2 rfl,fun w M n z=>⟨_,_,y.push _ _ n,fun e f=>?_,yij _ _ (Array.getElem?_eq_some_iff.1 z).1⟩⟩;simp only[Array.toList_push,List.mem_append,List.mem_singleton]at f;rcases f with f|rfl
 ·obtain⟨d,j,k1,l,p⟩:=q e f;exact⟨d,j,by omega,l,p⟩
 exact⟨c,i,by omega,h0,rfl⟩
theorem magsG_any(h:Hp)(v:Value)(w:World)(b:Bok w v h)(o:h.magOk):
  Calls Tryz.prog 40 #[zzu h v] w fun e w'=>e= .returned (.bool true)/\Below w.heap.size w w':=by
 obtain⟨b1,b2,b3,b4⟩:=b.bd;obtain⟨ao,cap,hv,l⟩:=b.magsG;have b7:=fun x i=>zjh h.p h.c h.m x i;have Z:=fun (c i:Nat) X (hX:Below w.heap.size w X) h0 h1 (k0:(c:Int)<h.c) (k1:(i:Int)<h.m) (k2:h.mx c i≠0)=>entG_any h v c (h.mx c i) X (b.below hX) h0 h1 (o.en c i k0 k1 k2).1 (o.en c i k0 k1 k2).2.1 (o.en c i k0 k1 k2).2.2.1 (o.en c i k0 k1 k2).2.2.2.1 (o.en c i k0 k1 k2).2.2.2.2;generalize h.xs.length=n at hv l;subst hv;obtain⟨C,hC⟩:∃ C:Nat,Hid (h.c=C):=⟨h.c.toNat,hd' (by omega)⟩;obtain⟨Q,hQ⟩:∃ Q:Nat,Hid (h.m=Q):=⟨h.m.toNat,hd' (by omega)⟩;replace l:=hd' l;replace b7:=hd' b7;replace Z:=hd' Z;have bx:=hd' o;clear b o;have bv:∀ u:World,(Instr.makeMap 139 none).run Tryz.prog u= .ok (.map (some u.heap.size)) (u.alloc (.map #[] 0)):=fun u=>by rfl
 obtain⟨t1,t2,t3,t4⟩:=zc5 w (.cells #[h.p,h.c,h.m,.slice ao n cap] 84) (.map #[] 0);go_in;go_upto_region 2 with fail;obtain⟨H,hH,S⟩:=hidv w.heap.size;generalize (w.alloc (.cells #[h.p,h.c,h.m,.slice ao n cap] 84)).alloc (.map #[] 0)=W at *;rw[<-S]at t1 t2 t3 t4 ⊢;have c4:w.heap.size<=H+1:=by omega
 have I:H≠H+1:=by omega
 have lH:H<W.heap.size:=by omega
 have lM:H+1<W.heap.size:=by omega
 rw[S]at t4;clear S t3;generalize H+1=M at *;have bu:MapG W M h 0 0:=⟨_,_,yhx.nil,fun e he=>by simp at he,t2⟩;have c0:W.cell? ⟨H,0,.none⟩=some (.int .i64 h.p):=zac t1 0;have c1:W.cell? ⟨H,1,.none⟩=some (.int .i64 h.c):=zac t1 1;have c2:W.cell? ⟨H,2,.none⟩=some (.int .i64 h.m):=zac t1 2;have c3:W.cell? ⟨H,3,.none⟩=some (.slice ao n cap):=zac t1 3;have C1:W.cell? ⟨H,1,.none⟩=some (.int .i64 C):=by rw[c1,hC.out]
 replace C1:=hd' C1;clear t1 t2 bv;have lz:∀ X,Only (atN M) W X->X.cell? ⟨H,0,.none⟩=some (.int .i64 h.p)/\X.cell? ⟨H,1,.none⟩=some (.int .i64 h.c)/\X.cell? ⟨H,2,.none⟩=some (.int .i64 h.m)/\X.cell? ⟨H,3,.none⟩=some (.slice ao n cap)/\Below w.heap.size w X:=fun X ho=>⟨(ho.zgk lH I 0).trans c0,(ho.zgk lH I 1).trans c1,(ho.zgk lH I 2).trans c2,(ho.zgk lH I 3).trans c3,Only.zs3 t4 ho t4.size c4⟩
 replace lz:=hd' lz;clear C1;go_wp2_with fail;go_loopw [16] (fun vi wr=>∃ i:Nat,i<=C/\vi= .int .i64 i/\Only (atN M) W wr/\MapG wr M h i 0) (fun vi _=>C-(intOf vi).toNat);case atStart=>exact⟨0,Nat.zero_le _,rfl,Only.refl _ _,bu⟩
 case round=>
  obtain⟨i,hi,rfl,bj,bw⟩:=hrel;obtain⟨d0,d1,d2,d3,bp⟩:=lz.out _ bj;by_cases b6:(i:Int)<h.c
  ·have c9:i<C:=by have:=hC.out;omega
   go_wp2_with fail;obtain⟨Wr,rfl⟩:∃ V:World,V=wr:=⟨_,rfl⟩;go_loopw [22] (fun vj wr=>∃ j:Nat,j<=Q/\vj= .int .i64 j/\Only (atN M) W wr/\MapG wr M h i j) (fun vj _=>Q-(intOf vj).toNat);case atStart=>exact⟨0,Nat.zero_le _,rfl,bj,bw⟩
   case round=>
    obtain⟨j,hj,rfl,O,b9⟩:=hrel;obtain⟨f0,f1,f2,f3,bf⟩:=lz.out _ O;by_cases b0:(j:Int)<h.m
    ·have cb:j<Q:=by have:=hQ.out;omega
     obtain⟨g,cg,k,rfl,hg,bh,cf,hx,bk,bm⟩:=l.out i j b6 b0;have N:=b7.out i j;rw[bh]at N;replace hx:=zai bf _ _ _ hx;have c6:H<wr.heap.size:=zqe f0;have c7:g<wr.heap.size:=zqe hx;have cc:(0:Int)<=(k:Int):=by omega
     have cd:(k:Int)<(n:Int):=by omega
     have c8:(0:Int)<=(i:Int):=by omega
     have ca:(0:Int)<=(j:Int):=by omega
     have D:=fun X hX R=>Z.out i j X hX bk bm b6 b0 R;have y:=fun X (hX:MapG X M h i j) R=>MapG.new bx.out hX b6 b0 R;generalize c5:h.mx i j=x at hx bk bm D y;replace N:=hd' N;replace D:=hd' D;replace y:=hd' y;clear bh d0 d1 d2 d3 c5;go_upto_region 8 with fail;refine wre ?_;repeat (go_big_quiet_step ((go_at_call 73;exact zam (N.out _))))
     refine wpQuiet_nil ?_;rintro _ ⟨e,rfl⟩;have ba:=O.trans (Only.of_below e.below) (fun _ _ h=>h);have bi:=b9.below e.below;clear b9 O f0 f1 f2 f3 hx c6 c7 bf;generalize e.w=V at *;clear e;obtain⟨f0,f1,f2,f3,bn⟩:=lz.out _ ba;by_cases R:x=0
     ·have bc:(x==0)=true:=by rw[beq_iff_eq];exact R
      go_wp2;exact⟨⟨j+1,by omega,by go_num,ba,bi.skip⟩,by simp[intOf];omega⟩
     have bc:(x==0)=false:=by rw[beq_eq_false_iff_ne];exact R
     go_wp2_with fail;have E:=y.out;have r:=D.out _ bn R;generalize za2 x 0=z at r E;generalize za2 x 1=B at r E;generalize za2 x 2=e2 at r;replace E:=hd' E;clear R;refine r.mono ?_;rintro e w3 ⟨rfl,Y⟩;have o3:=(ba.trans (Only.of_below Y) (fun _ _ h=>h)).alloc (.cells #[z,B,e2] 142);have m3:=(bi.below Y).below (br.alloc lr (.cells #[z,B,e2] 142));have o4:=o3.alloc (.cells #[z,B] 145);have m4:=m3.below (br.alloc lr (.cells #[z,B] 145));have g4:=heap_alloc_new (w3.alloc (.cells #[z,B,e2] 142)) (.cells #[z,B] 145);go_upto_region 12 with fail;rw[show (w3.alloc (.cells #[z,B,e2] 142)).heap.size=w3.heap.size+1 from by simp]at g4;generalize w3.heap.size+1=A at g4 ⊢;generalize (w3.alloc (.cells #[z,B,e2] 142)).alloc (.cells #[z,B] 145)=U at *;have a0:U.cell? ⟨A,0,.none⟩=some (.int .i64 z):=zac g4 0;have a1:U.cell? ⟨A,1,.none⟩=some (.int .i64 B):=zac g4 1;clear o3 m3 Y D r;obtain⟨es,cl,J,b5,bb,b8⟩:=E.out U m4 (fun h0=>by rw[h0]at bc;cases bc);have hl:=b5 U M cl J;replace b5:=hd' b5;replace bb:=hd' bb;replace b8:=hd' b8;have o5:=o4.alloc (.cells #[] 146);have L:Below U.heap.size U (U.alloc (.cells #[] 146)):=br.alloc lr _;have a0:=zai L _ _ _ a0;have a1:=zai L _ _ _ a1;have bg:=(L.block M (Array.getElem?_eq_some_iff.1 J).1).trans J;go_upto_region 13 with fail;clear hl J g4 L o4;generalize U.alloc (.cells #[] 146)=T at *;have hu:=bb.out T M cl bg
     have o6:Only (atN M) W (yhm T M (es.push ⟨.agg #[z,B],.agg #[],cl⟩) (cl+1)):=o5.trans (F:=atN M) (G:=atN M) ⟨rfl,rfl,rfl,by rw[yh4];exact Nat.le_refl _,fun q hq bz=>by
      unfold yhm
      simp only
      rw[Array.getElem?_setIfInBounds_ne (fun e=>bz e.symm)]⟩ (fun _ _ h=>h)
     have m6:=b8.out T M cl bg;go_wp2;exact⟨⟨j+1,by omega,by go_num,o6,m6⟩,by simp[intOf];omega⟩
    have bs:j=Q:=by have:=hQ.out;omega
    subst bs;go_wp2;exact⟨⟨i+1,by omega,by go_num,O,b9.next hQ.out⟩,by simp[intOf];omega⟩
  have bq:i=C:=by have:=hC.out;omega
  subst bq;go_wp2;go_ret;exact⟨rfl,bp⟩
end

section

variable {s:Sh} {m:Mem} {σ:Ab}

theorem hp_mx(b:Rep s m σ){c i:Int}(hc:0<=c/\c<s.c)(hi:0<=i/\i<s.m):(hpOf s m).mx c i=(σ.mg c i).enc:=by
 have:=b.mg c i hc hi;rw[(ixs b.fi).2.2.1 c i hc hi]at this;exact this
theorem hp_ent(b:Rep s m σ){c i:Int}(hc:0<=c/\c<s.c)(hi:0<=i/\i<s.m)(h0:(hpOf s m).mx c i≠0):∃ p q k,σ.mg c i= .entry p q k/\(hpOf s m).mx c i=(MW.entry p q k).enc:=by
 rw[hp_mx b hc hi]at h0 ⊢;cases e:σ.mg c i with
 |none=>rw[e]at h0;exact absurd rfl h0
 |entry p q k=>exact⟨p,q,k,rfl,rfl⟩
theorem hp_mag(j:Rep s m σ)(f:GI s σ):(hpOf s m).magOk:=by
 refine⟨fun c i hc hi h0=>?_,fun c i c' i' hc hi I L h0 G N O=>?_⟩
 ·obtain⟨p,q,k,r,B⟩:=hp_ent j (c:=c) (i:=i) ⟨by omega,hc⟩ ⟨by omega,hi⟩ h0;have o:=f.mf c i;rw[r]at o;obtain⟨C,E,U⟩:=MW.read j.may o;rw[B,C,E,U];obtain⟨⟨b,M⟩,T⟩:=f.mv c i p q k r;obtain⟨_,b1,b2,b3,b4,_⟩:=MW.zg9 j.may o;have z:=f.pf p;rw[M]at z;have R:0<=p/\p<s.p:=z.1;obtain⟨_,V,X⟩:=hp_pg j f R;obtain⟨Y,Z⟩:=hp_sl j f R (i:=q) (by omega);exact⟨MW.ya4 j.may o,by rw[V,M];rfl,by rw[X,M];rfl,by rw[Y,T];rfl,by rw[Z,T];rfl⟩
 obtain⟨p,q,k,r,B⟩:=hp_ent j (c:=c) (i:=i) ⟨by omega,hc⟩ ⟨by omega,hi⟩ h0;obtain⟨p',q',S,l,t⟩:=hp_ent j (c:=c') (i:=i') ⟨by omega,I⟩ ⟨by omega,L⟩ G;have o:=f.mf c i;have y:=f.mf c' i';rw[r]at o;rw[l]at y;obtain⟨C,E,_⟩:=MW.read j.may o;obtain⟨D,F,_⟩:=MW.read j.may y;rw[B,t,C,D]at N;rw[B,t,E,F]at O;subst N O;have v:=(f.mv c i p q k r).2;have v':=(f.mv c' i' p q S l).2;rw[v]at v';injection v' with v';have J:c=c':=by omega
 subst J;have:=f.mi c i i' p q k S r l;exact⟨rfl,by omega⟩
def Bare (s:Sh) (σ:Ab):Prop:=∀ c,0<=c/\c < s.c->zaz σ c .no/\∀ i,σ.mg c i= .none
theorem Bare.held(h:Bare s σ)(f:GI s σ){p o:Int}(e:σ.pg p= .held o):False:=by
 have b:=f.pf p;rw[e]at b;exact((h o b.2).1.h p).1 e
theorem Bare.way(h:Bare s σ)(q:GI s σ){p i k b o:Int}(e:σ.pg p= .super k b)(l:σ.sl p i= .way o):False:=by
 have f:=q.sf p i;rw[l]at f;rcases((h o f).1.w p i k).1 ⟨⟨b,e⟩,l⟩ with h1|⟨j,h1⟩
 ·exact h1
 rw[(h o f).2 j]at h1;cases h1
theorem Cn.add_lo{a b:Cn}(f:a.l=0/\a.o=0)(hb:b.l=0/\b.o=0):(a.add b).l=0/\(a.add b).o=0:=by
 unfold Cn.add;dsimp only;omega
theorem hp_pgC(z:Rep s m σ)(j:GI s σ)(h:Bare s σ){a:Int}(B:0<=a/\a<s.p):((hpOf s m).pgC a).l=0/\((hpOf s m).pgC a).o=0:=by
 obtain⟨h1,h2,h3⟩:=hp_pg z j B
 have hb:(hpOf s m).hb a=false:=by
  unfold Hp.hb Hp.hd
  rw[h1,h2,h3,Bool.true_and]
  cases e:σ.pg a with
  |held o=>exact(h.held j e).elim
  |body q=>
   rw[if_pos (by simp[PW.kind])]
   have C:=j.pf a
   rw[e]at C
   obtain⟨_,r,G,I⟩:=C
   obtain⟨_,E,_⟩:=hp_pg z j (a:=q) ⟨r,by omega⟩
   show (_&&_)=false
   rw[show PW.pa (.body q)=q from rfl,E]
   rcases j.bd a q e with⟨o,f⟩|⟨n,f,_⟩
   ·exact(h.held j f).elim
   ·rw[f];simp[PW.kind]
  |empty=>rw[if_neg (by simp[PW.kind]),h2,e];simp[PW.kind]
  |super k b=>rw[if_neg (by simp[PW.kind]),h2,e];simp[PW.kind]
  |large n=>rw[if_neg (by simp[PW.kind]),h2,e];simp[PW.kind]
 unfold Hp.pgC;rw[hb,h1,if_neg (by simp)];split
 ·exact⟨rfl,rfl⟩
 split
 ·rename_i _ t
  have e:∃ k b,σ.pg a= .super k b:=by
   rw[h2]at t
   cases e:σ.pg a with
   |super k b=>exact⟨k,b,rfl⟩
   |_=>rw[e]at t;simp[PW.kind]at t
  obtain⟨k,b,e⟩:=e;have y:(hpOf s m).pa a=k:=by rw[h3,e];rfl
  have F:=zcy k;rw[y]
  have key:∀ n:Nat,(n:Int)<=zah k->((hpOf s m).slS a (zbj k) n).l=0/\((hpOf s m).slS a (zbj k) n).o=0:=by
   intro n
   induction n with
   |zero=>intro _;exact⟨rfl,rfl⟩
   |succ n J=>
    intro L
    refine Cn.add_lo (J (by omega)) ?_
    obtain⟨D,_⟩:=hp_sl z j B (i:=n) (by omega)
    have hs:=j.sk a n
    rw[e]at hs
    unfold zhi at hs
    dsimp only at hs
    rw[if_pos ⟨by omega,by omega⟩]at hs
    unfold Hp.slC
    rw[D]
    rcases hs with f|f|⟨o,f⟩
    ·rw[f,if_pos (by simp[SW.kind])];exact⟨rfl,rfl⟩
    ·rw[f,if_neg (by simp[SW.kind]),if_pos (by simp[SW.kind])];exact⟨rfl,rfl⟩
    ·exact(h.way j e f).elim
  exact key _ (by omega)
 exact⟨rfl,rfl⟩
theorem hp_count(b:Rep s m σ)(f:GI s σ)(h:Bare s σ):(hpOf s m).count.l=0/\(hpOf s m).count.o=0:=by
 unfold Hp.count;rw[if_pos (hp_ok b)];have hb:=b.fi.bd
 have key:∀ n:Nat,(n:Int)<=s.p->((hpOf s m).cn n).l=0/\((hpOf s m).cn n).o=0:=by
  intro n
  induction n with
  |zero=>intro _;exact⟨rfl,rfl⟩
  |succ n i=>intro j;exact Cn.add_lo (i (by omega)) (hp_pgC b f h ⟨by omega,by omega⟩)
 exact key (hpOf s m).p.toNat (by show ((s.p.toNat:Nat):Int)<=s.p;omega)
end

section

def adoN (s:Sh) (c:Int) (d:Wd):Nat->Wd
 | 0=> d
 | i + 1=> askW s (adoN s c d i) c ⟨4,i,0⟩
def One (s:Sh) (d:Wd) (c:Int):Prop:=Rest d c/\∃ σ,WI s σ d/\∀ i,σ.mg c i= .none
section

variable {s:Sh} {d:Wd} {n:Nat} {c:Int}

theorem one_start(h:Fresh s d c)(hd:wdOk s d n)(hc:0<=c/\c<s.c):(d.act s ⟨1,c,0,0,0,0⟩).2=0/\One s (d.act s ⟨1,c,0,0,0,0⟩).1 c:=by
 have h0:=fresh_stat h hc;refine⟨(fresh_start h hd hc).1,?_⟩;obtain⟨σ,b,hu⟩:=h;have hi:c.toNat<d.l.length:=by rw[hd.len];omega
 have e:(d.act s ⟨1,c,0,0,0,0⟩)=d.begin s ⟨1,c,0,0,0,0⟩:=by unfold Wd.act;rw[if_neg (by unfold Ch.bad;dsimp only;omega),if_pos rfl]
 rw[e];refine⟨?_,_,zqr b hd ⟨1,c,0,0,0,0⟩ hc h0,(b.un c (.inl hu)).2⟩;unfold Wd.begin;dsimp only;rw[if_pos h0];exact⟨_,by rw[d.zdk hc.1 hi,if_pos rfl],rfl⟩
theorem kill_act(y:Int):(d.act s ⟨4,y,0,0,0,0⟩).1=d/\((0<=y/\y<s.c)->d.kl y=none)\/∃ k,d.kl y=some k/\(d.act s ⟨4,y,0,0,0,0⟩).1=(d.kill y).1:=by
 unfold Wd.act;by_cases hb:(⟨4,y,0,0,0,0⟩:Ch).bad s
 ·rw[if_pos hb];refine .inl ⟨rfl,fun b=>?_⟩;unfold Ch.bad at hb;dsimp only at hb;omega
 rw[if_neg hb,if_neg (show ¬ (4:Int)=1 by decide)];dsimp only;cases hk:d.kl y with
 |none=>exact .inl ⟨rfl,fun _=>rfl⟩;|some k=>refine .inr ⟨k,rfl,?_⟩;dsimp only;rw[if_neg (show ¬ (4:Int)=3 by decide),if_neg (show ¬ (4:Int)=2 by decide)]
theorem kill_kl(hd:wdOk s d n){y:Int}{k:Kl}(b:d.kl y=some k)(z:Int):(d.kill y).1.kl z=if z=y then none else d.kl z:=by
 obtain⟨_,_,hc⟩:=hd.kl _ k b;have hi:y.toNat<d.l.length:=by rw[hd.len];omega
 unfold Wd.kill;exact d.zdk hc.1 hi _ _ _ _ _
structure AdoI (s:Sh) (d:Wd) (n:Nat) (c:Int) (i:Nat):Prop where
 ai:AI s (adoN s c d i) (n + i * (1 + z5k s))
 rs:Rest (adoN s c d i) c
 ex:∃ σ,WI s σ (adoN s c d i)/\(∀ y,y≠c->σ.st y≠ .live)/\(∀ j,σ.mg c j= .none)/\∀ y,0<=y/\y < (i:Int)->σ.st y= .unused\/σ.st y= .done
theorem ado_0(h:AI s d n)(p:One s d c)(o:∀ z,z≠c->d.kl z=none):AdoI s d n c 0:=by
 obtain⟨q,σ,f,l⟩:=p;refine⟨ai_weak (show AI s (adoN s c d 0) n from h) (by simp),q,σ,f,fun y i j=>?_,l,fun y i=>by omega⟩;obtain⟨k,b⟩:=f.nl y j;rw[o y i]at b;cases b
theorem stat_kind{σ:Ab}(f:WI s σ d){x:Int}(i:0<=x/\x<s.c):(zrl s d x=2\/zrl s d x=3)↔(σ.st x).gone:=by
 have l:=f.rep.may;have b:=(ixs f.rep.fi).2.2.2 _ i;have h4:=f.rep.st _ i;rw[b]at h4;have j:=(TW.read l (f.gi.tf x)).1;unfold zrl;rw[b,if_pos i.1];unfold Wd.stat;rw[h4,j];cases σ.st x<;>simp[TW.gone,TW.kind]
theorem ado_step{i:Nat}(h:AdoI s d n c i)(hi:(i:Int)<c)(hc:c<s.c):AdoI s d n c (i+1)/\(((adoN s c d i).act s ⟨2,c,4,i,0,0⟩).2=0)/\
  ((zrl s (adoN s c d i) i=2\/zrl s (adoN s c d i) i=3)↔ygv (adoN s c d (i+1))=0)/\(ygv (adoN s c d (i+1))≠0->ygv (adoN s c d (i+1))=5):=by
 obtain⟨q,r,σ,B,z,L,M⟩:=h;have h0:=rest_asks (o:=⟨4,i,0⟩) q.1 r ⟨show (1:Int)<=4 by decide,Int.le_refl _⟩;have D:AI s (askW s (adoN s c d i) c ⟨4,i,0⟩) _:=ai_goN (ai_act q ⟨2,c,4,i,0,0⟩) (z5k s);obtain⟨σ',E,F,G,t⟩:=adopt_alone q.1 r (x:=i) ⟨by omega,by omega⟩ (by omega) B (rest_all B r z);have J:=stat_kind B (x:=i) ⟨by omega,by omega⟩;have p:∀ y,y≠(i:Int)->σ'.st y=σ.st y:=F;have l:σ'.st i= .unused\/σ'.st i= .done:=by
  rcases t with⟨_,_,g⟩|⟨f,_,I⟩
  ·exact .inr g
  rw[I];have:=z i (by omega);cases e:σ.st i with
  |unused=>exact .inl rfl
  |done=>exact .inr rfl
  |live=>exact absurd e this
  |dead=>rw[e]at f;exact absurd trivial f
  |owned a=>rw[e]at f;exact absurd trivial f
 refine⟨⟨?_,rest_ask (o:=⟨4,i,0⟩) q.1 r ⟨show (1:Int)<=4 by decide,Int.le_refl _⟩,σ',E,fun y C=>?_,fun j=>(G j).trans (L j),fun y N=>?_⟩,h0,?_,?_⟩
 ·rw[Nat.add_mul,Nat.one_mul,<- Nat.add_assoc,<- Nat.add_assoc];exact D
 ·by_cases e:y=(i:Int)
  ·subst e;rcases l with g|g<;>rw[g]<;>decide
  rw[p y e];exact z y C
 ·by_cases e:y=(i:Int)
  ·subst e;exact l
  rw[p y e];exact M y (by omega)
 ·rw[J];rcases t with⟨f,b,_⟩|⟨f,b,_⟩
  ·exact⟨fun _=>b,fun _=>f⟩
  exact⟨fun g=>absurd g f,fun g=>by
   have b:ygv (adoN s c d (i+1))=5:=b
   rw[b]at g;cases g⟩
 intro g;rcases t with⟨_,b,_⟩|⟨_,b,_⟩
 ·exact absurd b g
 exact b
theorem ado_all(h:AdoI s d n c 0)(hc:c<s.c):∀ i:Nat,(i:Int)<=c->AdoI s d n c i:=by
 intro i;induction i with
 |zero=>exact fun _=>h
 |succ i b=>exact fun hi=>(ado_step (b (by omega)) (by omega) hc).1
theorem ado_end{i:Nat}(h:AdoI s d n c i)(hi:(i:Int)=c)(hc:s.c=c+1):∃ σ,Rep s (adoN s c d i).m σ/\GI s σ/\Bare s σ:=by
 obtain⟨_,⟨k,j,f⟩,σ,b,_,l,o⟩:=h;refine⟨σ,b.rep,b.gi,fun z p=>?_⟩;by_cases e:z=c
 ·subst e;have h1:=(b.li _ _ j).2;unfold KlAt at h1;rw[f]at h1;exact⟨h1,l⟩
 exact b.un z (o z (by omega))
end

end

section

section

variable {s:Sh} {d:Wd} {n:Nat} {c:Int}

theorem fresh_goN(h:Fresh s d c)(hd:wdOk s d n){x:Int}(f:x≠c)(i:Nat):Fresh s (d.goN s x i) c:=by
 induction i with
 |zero=>exact h;|succ i b=>
  show Fresh s ((d.goN s x i).goS s x) c;unfold Wd.goS;split
  ·split
   ·exact fresh_act b (zz6 hd i) (x:=zjx x) f
   exact b
  exact b
theorem gone_step(h:Gone s d c)(hd:wdOk s d n)(hc:0<=c/\c<s.c)(x:Ch):Gone s (d.act s x).1 c:=(z7i h hd hc x).1.gone
theorem gone_goN(h:Gone s d c)(hd:wdOk s d n)(hc:0<=c/\c<s.c)(x:Int)(i:Nat):Gone s (d.goN s x i) c:=by
 induction i with
 |zero=>exact h;|succ i b=>
  show Gone s ((d.goN s x i).goS s x) c;unfold Wd.goS;split
  ·split
   ·exact gone_step b (zz6 hd i) hc (zjx x)
   exact b
  exact b
theorem start_used(f:AI s d n)(hc:0<=c/\c<s.c):∃ σ,WI s σ (d.act s ⟨1,c,0,0,0,0⟩).1/\σ.st c≠ .unused:=by
 obtain⟨_,σ',b,_⟩:=ai_act f ⟨1,c,0,0,0,0⟩;have hi:c.toNat<d.l.length:=by rw[f.1.len];omega
 have e:(d.act s ⟨1,c,0,0,0,0⟩)=d.begin s ⟨1,c,0,0,0,0⟩:=by unfold Wd.act;rw[if_neg (by unfold Ch.bad;dsimp only;omega),if_pos rfl]
 by_cases h0:d.stat c=0
 ·have i:∃ k,(d.act s ⟨1,c,0,0,0,0⟩).1.kl c=some k:=by rw[e];unfold Wd.begin;dsimp only;rw[if_pos h0];exact⟨_,by rw[d.zdk hc.1 hi,if_pos rfl]⟩
  obtain⟨k,i⟩:=i;exact⟨σ',b,by rw[(b.li c k i).1];exact fun e=>by cases e⟩
 obtain⟨_,σ,j,_⟩:=f;refine⟨σ,?_,fun hu=>h0 (fresh_stat ⟨σ,j,hu⟩ hc)⟩;rw[e];unfold Wd.begin;dsimp only;rw[if_neg h0];exact j
theorem kill_gone(b:AI s d n)(hc:0<=c/\c<s.c)(h:∃ σ,WI s σ d/\σ.st c≠ .unused):Gone s (d.act s ⟨4,c,0,0,0,0⟩).1 c:=by
 obtain⟨σ,i,hu⟩:=h;rcases kill_act (s:=s) (d:=d) c with⟨e,j⟩|⟨k,f,e⟩
 ·rw[e];exact⟨σ,i,j hc,hu⟩
 rw[e];refine⟨_,zp4 i b.1 f,by rw[kill_kl b.1 f,if_pos rfl],?_⟩;show up σ.st c .dead c≠_;rw[zp8];exact fun e=>by cases e
theorem one_gone(h:One s d c)(i:AI s d n)(hc:0<=c/\c<s.c):∃ σ,WI s σ d/\σ.st c≠ .unused:=by
 obtain⟨⟨k,f,_⟩,σ,b,_⟩:=h;exact⟨σ,b,by rw[(b.li c k f).1];exact fun e=>by cases e⟩
theorem used_act(h:∃ σ,WI s σ d/\σ.st c≠ .unused)(i:AI s d n)(hc:0<=c/\c<s.c)(x:Ch):∃ σ,WI s σ (d.act s x).1/\σ.st c≠ .unused:=by
 obtain⟨_,σ',f,_⟩:=ai_act i x;refine⟨σ',f,fun hu=>?_⟩;obtain⟨σ,q,o⟩:=h;cases hk:d.kl c with
 |none=>obtain⟨z,t,_,h2⟩:=gone_step ⟨σ,q,hk,o⟩ i.1 hc x;have h3:=fresh_stat ⟨σ',f,hu⟩ hc;exact(zs2 (gone_step ⟨σ,q,hk,o⟩ i.1 hc x) hc).1 h3
 |some k=>
  have h3:=fresh_stat ⟨σ',f,hu⟩ hc;have B:=f.un c (.inl hu)
  have b:(d.act s x).1.kl c=none:=by
   cases hk2:(d.act s x).1.kl c with
   |none=>rfl
   |some y=>have:=(f.li c y hk2).1;rw[hu]at this;cases this
  have p:Gone s (d.act s x).1 c:=by
   unfold Wd.act at b ⊢;split
   ·rename_i hb;rw[if_pos hb]at b;rw[hk]at b;cases b
   rename_i hb;rw[if_neg hb]at b;unfold Ch.bad at hb;have j:0<=x.client/\x.client<s.c:=by omega
   have hi:x.client.toNat<d.l.length:=by rw[i.1.len];omega
   split
   ·rename_i h1;rw[if_pos h1]at b;unfold Wd.begin at b ⊢;split
    ·rename_i h2;rw[if_pos h2,d.zdk j.1 hi]at b;split at b
     ·cases b
     rw[hk]at b;cases b
    rename_i h2;rw[if_neg h2,hk]at b;cases b
   rename_i h1;rw[if_neg h1]at b;cases hkx:d.kl x.client with
   |none=>rw[hkx]at b;dsimp only at b;rw[hk]at b;cases b;|some C=>
    rw[hkx]at b;dsimp only at b ⊢;split
    ·rename_i h3;rw[if_pos h3]at b;unfold Wd.step at b;rw[d.zdk j.1 hi]at b;split at b
     ·cases b
     rw[hk]at b;cases b
    rename_i h3;rw[if_neg h3]at b;split
    ·rename_i h4;rw[if_pos h4]at b;unfold Wd.ask at b;rw[d.zdk j.1 hi]at b;split at b
     ·cases b
     rw[hk]at b;cases b
    rename_i h4;rw[if_neg h4,kill_kl i.1 hkx]at b;have r:c=x.client:=by
     split at b
     ·assumption
     rw[hk]at b;cases b
    subst r;refine⟨_,zp4 q i.1 hkx,by rw[kill_kl i.1 hkx,if_pos rfl],?_⟩;show up σ.st x.client .dead x.client≠_;rw[zp8];exact fun e=>by cases e
  exact(zs2 p hc).1 h3
theorem used_goN(h:∃ σ,WI s σ d/\σ.st c≠ .unused)(f:AI s d n)(hc:0<=c/\c<s.c)(x:Int)(i:Nat):∃ σ,WI s σ (d.goN s x i)/\σ.st c≠ .unused:=by
 induction i with
 |zero=>exact h;|succ i b=>
  show ∃ σ,WI s σ ((d.goN s x i).goS s x)/\σ.st c≠ .unused;unfold Wd.goS;split
  ·split
   ·exact used_act b (ai_goN f i) hc (zjx x)
   exact b
  exact b
end

def acts0 (s:Sh) (d:Wd) (l:List Ch):Wd:=l.foldl (fun d x=> if x.client=0 then (d.act s x).1 else d) d
theorem acts0_take{s:Sh}{d:Wd}{l:List Ch}{i:Nat}(h:i<l.length):acts0 s d (l.take (i+1))=if l[i].client=0 then((acts0 s d (l.take i)).act s l[i]).1 else acts0 s d (l.take i):=by
 unfold acts0;rw[List.take_succ,List.foldl_append,List.getElem?_eq_getElem h];rfl
theorem ai_acts0{s:Sh}{d:Wd}{n:Nat}(h:AI s d n)(l:List Ch):AI s (acts0 s d l) (n+l.length):=by
 induction l generalizing d n with
 |nil=>exact h;|cons x l b=>
  show AI s (acts0 s (if x.client=0 then(d.act s x).1 else d) l) (n+(l.length+1));have e:n+(l.length+1)=n+1+l.length:=by omega
  rw[e];split
  ·exact b (ai_act h x)
  exact b (ai_weak h (by omega))
theorem fresh_acts0{s:Sh}{d:Wd}{n:Nat}{y:Int}(h:Fresh s d y)(b:AI s d n)(j:y≠0)(l:List Ch):Fresh s (acts0 s d l) y:=by
 induction l generalizing d n with
 |nil=>exact h;|cons x l f=>
  show Fresh s (acts0 s (if x.client=0 then(d.act s x).1 else d) l) y;split
  ·rename_i i;exact f (fresh_act h b.1 (by omega)) (ai_act b x)
  exact f h b
def chD (s:Sh) (f:Nat->Nat) (d:Wd) (c:Nat):Wd:=((d.act s ⟨1,c,0,0,0,0⟩).1.act s ⟨2,c,4,(c:Int) - 1,0,0⟩).1.goN s c (f c)
def chS (s:Sh) (f:Nat->Nat) (d:Wd) (c:Nat):Wd:=if (c:Int) < s.c - 1 then ((chD s f d c).act s ⟨4,c,0,0,0,0⟩).1 else chD s f d c
def chN (s:Sh) (f:Nat->Nat) (d:Wd):Nat->Wd
 | 0=> d
 | i + 1=> chS s f (chN s f d i) (i + 1)
structure ChI (s:Sh) (d:Wd) (n:Nat) (i:Nat):Prop where
 ai:AI s d n
 fr:∀ y:Int,(i:Int) < y->y < s.c->Fresh s d y
 gn:∀ y:Int,0<=y->y<=(i:Int)->y < s.c - 1->Gone s d y
 one:(i:Int)=s.c - 1->One s d (s.c - 1)
theorem chi_step{s:Sh}{d:Wd}{n i:Nat}{f:Nat->Nat}(h:ChI s d n i)(hi:(i:Int)+1<s.c)(hf:f (i+1)<=z5k s)(X:(i:Int)+1=s.c-1->f (i+1)=z5k s):ChI s (chS s f d (i+1)) (n+(3+z5k s)) (i+1):=by
 obtain⟨z,B,C,Y⟩:=h;have hc:0<=((i+1:Nat):Int)/\((i+1:Nat):Int)<s.c:=by omega
 have D:=B ((i+1:Nat):Int) (by omega) hc.2;obtain⟨_,r⟩:=one_start D z.1 hc;have b:=ai_act z ⟨1,((i+1:Nat):Int),0,0,0,0⟩;have O:=one_gone r b hc;have o:=ai_act b ⟨2,((i+1:Nat):Int),4,((i+1:Nat):Int)-1,0,0⟩;have R:=used_act O b hc ⟨2,((i+1:Nat):Int),4,((i+1:Nat):Int)-1,0,0⟩;have l:AI s (chD s f d (i+1)) (n+1+1+f (i+1)):=ai_goN o _;have S:∃ σ,WI s σ (chD s f d (i+1))/\σ.st ((i+1:Nat):Int)≠ .unused:=used_goN R o hc _ _;have p:∀ y:Int,((i+1:Nat):Int)<y->y<s.c->Fresh s (chD s f d (i+1)) y:=fun y h1 h2=>fresh_goN (fresh_act (fresh_act (B y (by omega) h2) z.1 (x:=⟨1,((i+1:Nat):Int),0,0,0,0⟩) (by dsimp only;omega)) b.1 (x:=⟨2,((i+1:Nat):Int),4,((i+1:Nat):Int)-1,0,0⟩) (by dsimp only;omega)) o.1 (by omega) _
 have q:∀ y:Int,0<=y->y<=(i:Int)->Gone s (chD s f d (i+1)) y:=fun y h0 h1=>gone_goN (gone_step (gone_step (C y h0 h1 (by omega)) z.1 ⟨h0,by omega⟩ _) b.1 ⟨h0,by omega⟩ _) o.1 ⟨h0,by omega⟩ _ _
 unfold chS;split
 ·rename_i I;refine⟨ai_weak (ai_act l _) (by omega),fun y h1 h2=>fresh_act (p y h1 h2) l.1 (by dsimp only;omega),fun y h0 h1 h2=>?_,fun e=>by omega⟩;by_cases T:y=((i+1:Nat):Int)
  ·subst T;exact kill_gone l hc S
  exact gone_step (q y h0 (by omega)) l.1 ⟨h0,by omega⟩ _
 rename_i I;refine⟨ai_weak l (by omega),p,fun y h0 h1 h2=>q y h0 (by omega),fun e=>?_⟩;have U:s.c-1=((i+1:Nat):Int):=by omega
 rw[U];have F:=X (by omega);have hx:0<=((i+1:Nat):Int)-1/\((i+1:Nat):Int)-1<s.c:=by omega
 have E:((i+1:Nat):Int)-1≠((i+1:Nat):Int):=by omega
 have V:chD s f d (i+1)=askW s (d.act s ⟨1,((i+1:Nat):Int),0,0,0,0⟩).1 ((i+1:Nat):Int) ⟨4,((i+1:Nat):Int)-1,0⟩:=by unfold chD askW;rw[F]
 obtain⟨N,σ0,t,J⟩:=r;have M:∀ y,y≠((i+1:Nat):Int)->σ0.st y≠ .live:=fun y T Z=>by obtain⟨k,G⟩:=t.nl y Z;obtain⟨q1,q2⟩:=Wd.zfs G;rw[b.1.len]at q2;obtain⟨_,_,g,_⟩:=gone_step (C y q1 (by omega) (by omega)) z.1 ⟨q1,by omega⟩ ⟨1,((i+1:Nat):Int),0,0,0,0⟩;rw[g]at G;cases G
 obtain⟨σ,hw,_,L,_⟩:=adopt_alone b.1 N hx E t (rest_all t N M);rw[V];exact⟨rest_ask b.1 N ⟨show (1:Int)<=4 by decide,Int.le_refl _⟩,σ,hw,fun j=>by rw[L j,J j]⟩
theorem chi_0{s:Sh}{d:Wd}{n:Nat}(f:AI s d n)(hs:2<s.c)(i:∀ y:Int,0<y->y<s.c->Fresh s d y):ChI s (((d.act s ⟨1,0,0,0,0,0⟩).1).act s ⟨4,0,0,0,0,0⟩).1 (n+2) 0:=by
 have b:=ai_act f ⟨1,0,0,0,0,0⟩;refine⟨ai_act b _,fun y h1 h2=>fresh_act (fresh_act (i y h1 h2) f.1 (by dsimp only;omega)) b.1 (by dsimp only;omega),fun y h0 h1 h2=>?_,fun e=>by omega⟩;obtain rfl:y=0:=by omega
 exact kill_gone b ⟨Int.le_refl _,by omega⟩ (start_used f ⟨Int.le_refl _,by omega⟩)
theorem chi_all{s:Sh}{d:Wd}{n:Nat}{f:Nat->Nat}(h:ChI s d n 0)(b:∀ i,f i<=z5k s)(j:∀ i:Nat,(i:Int)=s.c-1->f i=z5k s):∀ i:Nat,(i:Int)<s.c->ChI s (chN s f d i) (n+i*(3+z5k s)) i
 |0,_=>by simpa[chN] using h
 |i+1,hi=>by
  have h1:=chi_step (f:=f) (chi_all h b j i (by omega)) (by omega) (b _) (fun e=>j (i+1) (by omega))
  have e:n+i*(3+z5k s)+(3+z5k s)=n+(i+1)*(3+z5k s):=by rw[Nat.add_mul (i) 1,Nat.one_mul];omega
  rw[<-e];exact h1
theorem chi_end{s:Sh}{d:Wd}{n i:Nat}(h:ChI s d n i)(hi:(i:Int)=s.c-1):AdoI s d n (s.c-1) 0:=by
 refine ado_0 h.ai (h.one hi) fun z b=>?_;cases hk:d.kl z with
 |none=>rfl;|some k=>obtain⟨q1,q2⟩:=Wd.zfs hk;rw[h.ai.1.len]at q2;obtain⟨_,_,g,_⟩:=h.gn z q1 (by omega) (by omega);rw[hk]at g;cases g
theorem ado_done{s:Sh}{d:Wd}{n i:Nat}{c x:Int}(h:AdoI s d n c i)(l:0<=x/\x<(i:Int))(q:(i:Int)<=s.c)(p:Gone s (adoN s c d i) x):zrl s (adoN s c d i) x=4:=by
 obtain⟨σ,j,_,_,t⟩:=h.ex;have r:=j.rep.may;have b:0<=x/\x<s.c:=⟨l.1,by omega⟩;have f:=(ixs j.rep.fi).2.2.2 _ b;have h4:=j.rep.st _ b;rw[f]at h4;have o:=(TW.read r (j.gi.tf x)).1;have h0:=(zs2 p b).1;unfold zrl;rw[f,if_pos b.1];unfold Wd.stat at h0 ⊢;rw[h4,o]at h0 ⊢;rcases t x l with e|e
 ·rw[e]at h0;exact absurd rfl h0
 rw[e];rfl
theorem gone_adoN{s:Sh}{d:Wd}{n:Nat}{c y:Int}(h:Gone s d y)(f:AdoI s d n c 0)(b:0<=y/\y<s.c)(hc:c<s.c):∀ i:Nat,(i:Int)<=c->Gone s (adoN s c d i) y
 |0,_=>h
 |i+1,hi=>by
  have h1:=gone_adoN h f b hc i (by omega)
  have h2:=(ado_all f hc i (by omega)).ai
  exact gone_goN (gone_step h1 h2.1 b ⟨2,c,4,i,0,0⟩) (ai_act h2 _).1 b c _
end

section

open Go.RowKit

attribute [local go_sem ↓] Go.wp_at_zero Go.wp_at_succ

theorem sndG_any(h:Hp)(v:Value)(w:World)(Y:RdZ .u64 w v h.xs)(hf:h.fit)(O:h.sound=true)(N:h.magOk):
  Calls Tryz.prog 16 #[shV h,v] w fun e w'=>e= .returned (.bool true)/\Below w.heap.size w w':=by
 obtain⟨ao,cap,hv,_,_,_⟩:=Y.cells;generalize h.xs.length=m at hv;subst hv;have r:=fun X L=>z5c h (.slice ao m cap) X (Y.below (w':=X) L);have R:=(Below.refl w.heap.size w).alloc lr (.cells #[h.p,h.c,h.m] 23);have l:h.sound=(h.ok&&h.sndT h.p.toNat):=rfl;rw[O,eq_comm,Bool.and_eq_true]at l;obtain⟨D,l⟩:=l;have b:Bok w (.slice ao m cap) h:=⟨D,Y,hf⟩;obtain⟨bp,_,_,_⟩:=b.bd;rw[D]at r;have E:=fun a X (L:Below w.heap.size w X) ha=>yik h (.slice ao m cap) a X (b.below L) ha;have C:=fun X (L:Below w.heap.size w X)=>magsG_any h (.slice ao m cap) X (b.below L) N;obtain⟨P,S⟩:∃ P:Nat,Hid (h.p=P):=⟨h.p.toNat,hd' (by omega)⟩;have J:h.p.toNat=P:=by have:=S.out;omega
 rw[J]at l;have T:Hid (∀ i:Nat,i<P->h.snd i=true):=hd' fun i hi=>h.yjo l i hi;replace r:=hd' r;replace E:=hd' E;replace C:=hd' C;clear D J b l O N;go_in;go_wp2_with fail;refine(r.out _ R).mono ?_;rintro e w1 ⟨rfl,q⟩;have z:=R.trans (q.mono R.size);have hB:=z.alloc z.size (.cells #[h.p,h.c,h.m,.slice ao m cap] 84);have M:=q.alloc q.size (.cells #[h.p,h.c,h.m,.slice ao m cap] 84);have r0:=(M.block _ (by simp)).trans (heap_alloc_new w (.cells #[h.p,h.c,h.m] 23));have F:=heap_alloc_new w1 (.cells #[h.p,h.c,h.m,.slice ao m cap] 84);go_upto_region 2 with fail;obtain⟨H,hH,G⟩:=hidv w.heap.size;obtain⟨K,hK,I⟩:=hidv w1.heap.size;rw[<-I]at F ⊢;rw[<-G]at r0 ⊢;clear I G q M z;generalize w1.alloc (.cells #[h.p,h.c,h.m,.slice ao m cap] 84)=W at *;have b0:=zac r0;have k0:W.cell? ⟨K,0,.none⟩=some (.int .i64 h.p):=zac F 0;have k1:W.cell? ⟨K,1,.none⟩=some (.int .i64 h.c):=zac F 1;have k2:W.cell? ⟨K,2,.none⟩=some (.int .i64 h.m):=zac F 2;have k3:W.cell? ⟨K,3,.none⟩=some (.slice ao m cap):=zac F 3;clear r0 F;go_wp2_with fail;go_loopw [18] (fun Z wr=>∃ i:Nat,i<=P/\Z= .int .i64 i/\Below W.heap.size W wr) (fun Z _=>P-(intOf Z).toNat);case atStart=>exact⟨0,Nat.zero_le _,rfl,Below.refl _ _⟩
 case round=>
  obtain⟨i,hi,rfl,j⟩:=hrel;have d0:=zai j _ _ _ k0;have d1:=zai j _ _ _ k1;have d2:=zai j _ _ _ k2;have d3:=zai j _ _ _ k3;have o:=hB.trans (j.mono hB.size);by_cases b2:(i:Int)<h.p
  ·have U:i<P:=by have:=S.out;omega
   have y:=E.out i wr o (by omega);rw[T.out i U]at y;replace y:=hd' y;go_wp2_with fail;refine y.out.mono ?_;rintro e w3 ⟨rfl,B⟩;go_wp2;exact⟨⟨i+1,by omega,by go_num,j.trans (B.mono j.size)⟩,by simp[intOf];omega⟩
  have V:i=P:=by have:=S.out;omega
  subst V;go_wp2_with fail;refine(C.out _ o).mono ?_;rintro e w3 ⟨rfl,B⟩;go_wp2;go_ret;exact⟨rfl,o.trans (B.mono o.size)⟩
end

section

theorem why_len(W:Int)(l:List Bk)(ps:List Pt)(e:Ev):(whyJ W l ps e).ps.length=ps.length:=by
 unfold whyJ;repeat' split
 all_goals simp
theorem hear_len(J:Jd)(e:Ev):(zdo J e).ps.length=J.ps.length:=by
 unfold zdo;split
 ·rfl
 split
 ·exact why_len _ _ _ _
 rw[List.length_map];exact why_len _ _ _ _
theorem run_len(J:Jd)(es:List Ev):(runJ J es).ps.length=J.ps.length:=by
 induction es generalizing J with
 |nil=>rfl
 |cons e es b=>rw[yhy,b,hear_len]
theorem hear_m(J:Jd)(e:Ev):J.m<=(zdo J e).m/\(zdo J e).m<=J.m+1:=by
 unfold zdo;split
 ·omega
 split
 ·simp;omega
 simp;omega
theorem run_m(J:Jd)(es:List Ev):J.m<=(runJ J es).m/\(runJ J es).m<=J.m+es.length:=by
 induction es generalizing J with
 |nil=>simp[runJ];|cons e es b=>have h1:=hear_m J e;have h2:=b (zdo J e);rw[yhy,List.length_cons];omega
theorem new_len(p c m:Int):(newJ p c m).ps.length<=12/\(newJ p c m).m=0:=by
 unfold newJ;split
 ·rename_i h;have:=zar.1 h;simp;omega
 simp
theorem run_small2(p c m:Int)(es:List Ev)(h:es.length<=100000000):(0<=(runJ (newJ p c m) es).m/\(runJ (newJ p c m) es).m<=1000000000)/\(runJ (newJ p c m) es).ps.length<=100:=by
 have h1:=new_len p c m;have h2:=run_m (newJ p c m) es;rw[run_len];omega
theorem run_hears{J:Jd}{es:List Ev}(h:(runJ J es).why=0)(i:Nat)(hi:i<es.length):z4x (runJ J (es.take i)) es[i]=true:=by
 have h1:(zdo (runJ J (es.take i)) es[i]).why=0:=by rw[<-List.take_append_drop (i+1) es,yh5]at h;have h2:=run_why h;rwa [List.take_succ_eq_append_getElem hi,yjn]at h2
 have h0:(runJ J (es.take i)).why=0:=run_why (es:= [es[i]]) h1;exact(zsk _ _).2 ⟨h0,hear_c h0 h1⟩
theorem run_at{J:Jd}{es:List Ev}(h:(runJ J es).why=0):(runJ J es).at'=J.at':=by
 induction es generalizing J with
 |nil=>rfl;|cons e es b=>have h1:(zdo J e).why=0:=run_why (es:=es) h;have h0:J.why=0:=run_why (es:= [e]) h1;rw[yhy,b h,z9p ((zsk _ _).2 ⟨h0,hear_c h0 h1⟩)]
theorem new_at(p c m:Int):(newJ p c m).at'= -1:=by unfold newJ;split<;>rfl
end

section

open Go.RowKit

attribute [local go_sem ↓] Go.wp_at_zero Go.wp_at_succ

theorem Mdl.base{T E:TypeId}{B b:Nat}{w:World}{s:Nat}{W:Int}(h:Mdl T E B w s (.slice none 0 0) W [])(f:b<=B):Mdl T E b w s (.slice none 0 0) W []:=
 ⟨Nat.le_trans f h.lies,h.head,⟨rfl,.inl ⟨rfl,rfl⟩⟩,h.apart,h.ok,h.small⟩
theorem infoRp:(Tryz.prog.info? 155).map (fun i=>(i.zero,i.size,i.bytes))=some (some (.agg #[.bool false,.bool false,.bool false,.bool false,.bool false,.bool false,.int .i64 0,.int .i64 0,.int .i64 0,.int .i64 0]),10,40):=by kernel_rfl
theorem made_rps(n:Nat):madeCells #[.bool false,.bool false,.bool false,.bool false,.bool false,.bool false,.int .i64 0,.int .i64 0,.int .i64 0,.int .i64 0] (n*10)=(rpsC (List.replicate n Pt.zero)).toArray:=by
 apply Array.toList_inj.1;apply List.ext_getElem?;intro x;rcases Nat.lt_or_ge x (n*10) with b|b
 ·obtain⟨i,j,f,rfl⟩:∃ i j:Nat,j<10/\x=i*10+j:=⟨x/10,x%10,by omega,by omega⟩;have h1:=rpsC_get (List.replicate n Pt.zero) i j (by rw[List.length_replicate];omega) f;rw[List.getElem_replicate]at h1;show _=(rpsC (List.replicate n Pt.zero))[i*10+j]?;rw[h1];have h2:(i*10+j)%10=j:=by omega
  simp only[madeCells,Array.toList_map,List.getElem?_map,Array.toList_range,List.getElem?_range b,Option.map_some];show some (_[(i*10+j)%10]!)=_;rw[h2];have:j=0\/j=1\/j=2\/j=3\/j=4\/j=5\/j=6\/j=7\/j=8\/j=9:=by omega
  rcases this with rfl|rfl|rfl|rfl|rfl|rfl|rfl|rfl|rfl|rfl<;>rfl
 have h1:(rpsC (List.replicate n Pt.zero)).length=n*10:=by rw[rpsC_len,List.length_replicate]
 rw[List.getElem?_eq_none (by rw[Array.length_toList,size_madeCells];exact b),List.getElem?_eq_none (by simp only[];omega)]
theorem rmake_pts(n:Nat)(l:n<=12):∀ u:World,(Instr.makeSlice 101 (.int .i64 (n:Int)) (.int .i64 (n:Int))).run Tryz.prog u= .ok (.slice (some ⟨u.heap.size,0,.none⟩) n n) (u.alloc (.cells (rpsC (List.replicate n Pt.zero)).toArray 155)):=fun u=>by
 obtain⟨j,hi,b,f,i⟩:=info_parts infoRp
 have h:=run_make (P:=Tryz.prog) u 101 155 j _ Tryz.underlying101 hi b .i64 .i64 (n:Int) (n:Int) (by omega) (Int.le_refl _) (by rw[i];omega) (by omega)
 rw[Int.toNat_natCast]at h
 rw[<-made_rps n]
 simpa[f,Value.cells] using h
def MadeR (w w':World) (r:Ending) (J:Jd):Prop:=∃ jb s pb,r= .returned (.pointer (some ⟨jb,0,.none⟩))/\Below w.heap.size w w'/\JrA w.heap.size w' jb s pb (.slice none 0 0) J
theorem rjnew_any{p c m:Int}(hm:mayB p c m=true)(w:World):
  Calls Tryz.prog 41 #[.agg #[p,c,m]] w fun r w'=>MadeR w w' r (newJ p c m):=by
 have F:=hd' (fun n X=>yjp n X);have j:=fun X=>refMay_any p c m X;have b1:=(Below.refl w.heap.size w).alloc lr (.cells #[p,c,m] 23);have t1:=heap_alloc_new w (.cells #[p,c,m] 23);obtain⟨JR,J⟩:∃ JR,Hid (JR=newJ p c m):=⟨_,hd' rfl⟩;rw[<-J.out];have hJ:JR=⟨p*64, [],List.replicate c.toNat Pt.zero,0, -1,0⟩:=by rw[J.out];unfold newJ;rw[if_pos hm]
 have b6:(1<=p/\p<=64)/\(1<=c/\c<=12):=by have:=zar.1 hm;omega
 obtain⟨hp,hc⟩:=b6;obtain⟨H,hH,T⟩:=hidv w.heap.size;go_in;go_upto_region 1 with fail;generalize w.alloc (.cells #[p,c,m] 23)=W at *;rw[<-T]at t1 ⊢;clear T;have lH:H<W.heap.size:=(Array.getElem?_eq_some_iff.1 t1).1;go_upto_region 2 with(go_at_call 75;refine(F.out _ _).mono ?_;rintro r w1 ⟨rfl,y,M⟩);have bh:=y.size;have S:=y.alloc y.size (.cells #[some W.heap.size,.slice none 0 0,.int .i64 0,.int .i64 (-1),.int .i64 0] 103);have b5:RM W.heap.size (w1.alloc (.cells #[some W.heap.size,.slice none 0 0,.int .i64 0,.int .i64 (-1),.int .i64 0] 103)) W.heap.size (.slice none 0 0) (capW 0) []:=M.below (br.alloc lr _);have tj:=heap_alloc_new w1 (.cells #[some W.heap.size,.slice none 0 0,.int .i64 0,.int .i64 (-1),.int .i64 0] 103);obtain⟨jb,bc,E⟩:=hidv w1.heap.size;have b9:W.heap.size<w1.heap.size:=M.lt;rw[<-E]at tj b9 ⊢;generalize w1.alloc (.cells #[some W.heap.size,.slice none 0 0,.int .i64 0,.int .i64 (-1),.int .i64 0] 103)=V at *;have bk:w.heap.size<=H:=by have:=hH.out;omega
 have bm:w.heap.size<=W.heap.size:=b1.size;clear E M y;have lV:jb<V.heap.size:=(Array.getElem?_eq_some_iff.1 tj).1;have d0:V.cell? ⟨H,0,.none⟩=some (.int .i64 p):=zai S _ _ _ (zac t1 0);have d1:V.cell? ⟨H,1,.none⟩=some (.int .i64 c):=zai S _ _ _ (zac t1 1);have d2:V.cell? ⟨H,2,.none⟩=some (.int .i64 m):=zai S _ _ _ (zac t1 2);have bV:=b1.trans (S.mono b1.size);rw[hm]at j;replace j:=hd' j;obtain⟨cn,b4⟩:∃ cn:Nat,c=(cn:Int):=⟨c.toNat,by omega⟩;subst b4;rw[Int.toNat_natCast]at hJ;have ba:=wrp (p*64);have D:capW (p*64)=p*64:=by unfold capW;rw[if_neg (by omega)]
 have bf:=rmake_pts cn (by omega);go_wp2_with fail;refine(j.out _).mono ?_;rintro r w2 ⟨rfl,hw⟩;have b:Below V.heap.size V w2:=hw ▸ br.alloc lr _;clear hw;have b3:=zai b _ _ _ d0;go_wp2_with fail;refine(F.out _ _).mono ?_;rintro r G ⟨rfl,z,B⟩;obtain⟨s,hs,R⟩:=hidv w2.heap.size;have bi:=b.size;have b7:=z.size;have bp:jb<s:=by omega
 have b8:w.heap.size<=s:=by have:=bV.size;omega
 rw[D,<- R]at B;have bj:=B.lt;rw[<-R]at z b7 ⊢;have i:Below V.heap.size V G:=b.trans (z.mono (by omega));have o:=(i.block _ lV).trans tj;clear R z b b3 b5 D;have j0:=zac o 0;have j1:=zac o 1;have jf:=zax o;have q:=heap_setCell_same G jb 0 _ _ (.pointer (some ⟨s,0,.none⟩)) o;have I:Below w.heap.size w (G.setCell ⟨jb,0,.none⟩ (.pointer (some ⟨s,0,.none⟩))):=Below.setCell (bV.trans (i.mono bV.size)) (by show w.heap.size<=jb;omega) _;have N:RM s (G.setCell ⟨jb,0,.none⟩ (.pointer (some ⟨s,0,.none⟩))) s (.slice none 0 0) (p*64) []:=B.blocks fun k L=>by
  rcases L with rfl|L
  ·exact heap_setCell_other G ⟨jb,0,.none⟩ k _ (by simp;omega)
  simp[Value.ownBlock]at L
 have bb:(G.setCell ⟨jb,0,.none⟩ (.pointer (some ⟨s,0,.none⟩))).cell? ⟨H,1,.none⟩=some (.int .i64 (cn:Int)):=by have h1:=zai i _ _ _ d1;have h2:=heap_setCell_other G ⟨jb,0,.none⟩ H (.pointer (some ⟨s,0,.none⟩)) (by simp;omega);simp only[World.cell?,h2]at h1 ⊢;exact h1
 go_upto_region 4 with fail;clear i o j0 j1 jf B;generalize G.setCell ⟨jb,0,.none⟩ (.pointer (some ⟨s,0,.none⟩))=Y at *;replace q:Y.heap[jb]?=some (.cells #[some s,.slice none 0 0,.int .i64 0,.int .i64 (-1),.int .i64 0] 103 (0,0)):=q;have b0:jb<Y.heap.size:=(Array.getElem?_eq_some_iff.1 q).1;have bn:s<Y.heap.size:=N.lt;have bA:=(Below.refl Y.heap.size Y).alloc lr (.cells (rpsC (List.replicate cn Pt.zero)).toArray 155);have O:RrP (Y.alloc (.cells (rpsC (List.replicate cn Pt.zero)).toArray 155)) Y.heap.size (List.replicate cn Pt.zero):=heap_alloc_new Y _;have C:=(bA.block _ b0).trans q;have Z:=N.below bA;have j1:=zac C 1;have jf:=zax C;obtain⟨pb,bg,l⟩:=hidv Y.heap.size;rw[<-l]at O
 have U:Hid (MadeR w ((Y.alloc (.cells (rpsC (List.replicate cn Pt.zero)).toArray 155)).setCell ⟨jb,1,.none⟩ (.slice (some ⟨Y.heap.size,0,.none⟩) cn cn)) (.returned (.pointer (some ⟨jb,0,.none⟩))) JR):=hd' (by
  rw[hJ,<- l]
  refine⟨jb,s,pb,rfl,Below.setCell (I.trans (bA.mono I.size)) (by show w.heap.size<=jb;omega) _,?_⟩
  refine⟨?_,?_,?_,⟨by omega,by omega⟩,by omega,by omega,by omega,by simp[Value.ownBlock],by simp[Value.ownBlock]⟩
  ·rw[heap_setCell_same _ jb 1 _ _ _ C]
   show some (Obj.cells #[some s,.slice (some ⟨pb,0,.none⟩) cn cn,.int .i64 0,.int .i64 (-1),.int .i64 0] _ _)=_
   unfold rvV
   rw[List.length_replicate]
  ·exact(Z.base b8).blocks fun k L=>by
    rcases L with rfl|L
    ·exact heap_setCell_other _ ⟨jb,1,.none⟩ k _ (by simp;omega)
    ·simp[Value.ownBlock]at L
  ·exact O.of_block (heap_setCell_other _ ⟨jb,1,.none⟩ pb _ (by simp;omega)))
 clear hJ J O q C N Z I bA l bV b1 S tj;go_wp2;go_ret;have hf:=U.out;rw[World.setCell_alloc_past _ _ _ _ b0]at hf;exact hf
theorem rrule_any{p c m:Int}(hm:mayB p c m=true)(v:Value)(es:List Ev)(w:World)(hr:RdE w v es)(hl:es.length<=100000000)(hw:(runJ (newJ p c m) es).why=0):
  Calls Tryz.prog 17 #[.agg #[p,c,m],v] w fun r w'=>r= .returned (.agg #[.int .i64 (-1),.int .i64 0])/\Below w.heap.size w w':=by
 have b0:=hd' (fun X=>rjnew_any hm X);obtain⟨ao,cap,hv,T,bi,E⟩:=hr.nth;have ba:Hid (∀ i,i<=es.length->(0<=(runJ (newJ p c m) (es.take i)).m/\(runJ (newJ p c m) (es.take i)).m<=1000000000)/\(runJ (newJ p c m) (es.take i)).ps.length<=100):=hd' fun i hi=>run_small2 p c m _ (by rw[List.length_take];omega);have D:Hid (∀ i (hi:i<es.length),runJ (newJ p c m) (es.take (i+1))=zdo (runJ (newJ p c m) (es.take i)) es[i]):=hd' fun i hi=>by rw[List.take_succ_eq_append_getElem hi,yjn]
 have R:Hid (runJ (newJ p c m) (es.take es.length)=runJ (newJ p c m) es):=hd' (by rw[List.take_length]);have h0:Hid (runJ (newJ p c m) (es.take 0)=newJ p c m):=hd' rfl;have b6:Hid (∀ i (hi:i<es.length),z4x (runJ (newJ p c m) (es.take i)) es[i]=true):=hd' fun i hi=>run_hears hw i hi;have S:Hid ((runJ (newJ p c m) es).at'= -1):=hd' ((run_at hw).trans (new_at p c m));replace hw:=hd' hw;obtain⟨n,hn,Z⟩:=hidv es.length;rw[<-Z]at hv T hl;clear Z;subst hv;replace E:=hd' E;have b1:=(Below.refl w.heap.size w).alloc lr (.cells #[p,c,m] 23);have M:=b1.alloc b1.size (.cells #[.int .i64 0,.int .i64 0] 55);obtain⟨t1,t2,bk,_⟩:=zc5 w (.cells #[p,c,m] 23) (.cells #[.int .i64 0,.int .i64 0] 55);obtain⟨H,hH,N⟩:=hidv w.heap.size;obtain⟨K,hK,O⟩:∃ K,Hid (K=w.heap.size+1)/\K=w.heap.size+1:=⟨_,hd' rfl,rfl⟩;go_in;go_upto_region 1 with fail;generalize (w.alloc (.cells #[p,c,m] 23)).alloc (.cells #[.int .i64 0,.int .i64 0] 55)=W at *;try rw[<-O]at t2 ⊢
 rw[<-N]at t1 ⊢;clear N O;have lK:K<W.heap.size:=(Array.getElem?_eq_some_iff.1 t2).1;have lH:H<W.heap.size:=(Array.getElem?_eq_some_iff.1 t1).1;have bg:=zac t1;go_wp2_with fail;refine(b0.out W).mono ?_;rintro r w1 ⟨jb,s,pb,rfl,b5,U⟩;obtain⟨B,hB⟩:∃ B,B=W.heap.size:=⟨_,rfl⟩;rw[<-hB]at U;obtain⟨V,rfl⟩:∃ V:World,V=w1:=⟨_,rfl⟩;have b3:W.heap.size<=B:=by omega
 have bh:B<=W.heap.size:=by omega
 clear hB;have bf:w.heap.size<=W.heap.size:=M.size;clear b1;go_wp2_with fail;go_loopw [6] (fun vi wr=>∃ (i:Nat) (sl:Value),i<=n/\vi= .int .i64 i/\JrA B wr jb s pb sl (runJ (newJ p c m) (es.take i))/\Below W.heap.size W wr) (fun vi _=>n-(intOf vi).toNat);case atStart=>exact⟨0,_,Nat.zero_le _,rfl,by rw[h0.out];exact U,b5⟩
 case round=>
  obtain⟨i,sl,hi,rfl,J,q⟩:=hrel;obtain⟨Y,rfl⟩:∃ V:World,V=wr:=⟨_,rfl⟩;by_cases b9:i<n
  ·have bc:(i:Int)<(n:Int):=by omega
   have bj:(0:Int)<=(i:Int):=by omega
   have bm:IntKind.i64.wrap ((i:Int)+1)=(i:Int)+1:=IntWalk.i64_in _ ⟨by omega,by omega⟩;have C:i<es.length:=hn.out ▸ b9;obtain⟨b,o,b4,hb,hc⟩:=E.out (fun e=>by rw[e]at C;simp at C);subst b4;have hc:=hc i C;obtain⟨e,he⟩:∃ e,es[i]=e:=⟨_,rfl⟩;have z:=b6.out i C;have D:=D.out i C;rw[he]at hc D z;have F:=ba.out i (by omega);have l:=M.trans (q.mono M.size);have x0:Y.cell? ⟨b,o+i*8,.none⟩=some (.int .i64 e.k):=zai l _ _ _ (hc 0 (by omega));have x1:Y.cell? ⟨b,o+i*8+1,.none⟩=some (.int .i64 e.c):=zai l _ _ _ (hc 1 (by omega));have x2:Y.cell? ⟨b,o+i*8+2,.none⟩=some (.int .i64 e.ok):=zai l _ _ _ (hc 2 (by omega));have x3:Y.cell? ⟨b,o+i*8+3,.none⟩=some (.int .i64 e.oa):=zai l _ _ _ (hc 3 (by omega));have x4:Y.cell? ⟨b,o+i*8+4,.none⟩=some (.int .i64 e.on):=zai l _ _ _ (hc 4 (by omega));have x5:Y.cell? ⟨b,o+i*8+5,.none⟩=some (.int .i64 e.at'):=zai l _ _ _ (hc 5 (by omega));have x6:Y.cell? ⟨b,o+i*8+6,.none⟩=some (.int .i64 e.n):=zai l _ _ _ (hc 6 (by omega));have x7:Y.cell? ⟨b,o+i*8+7,.none⟩=some (.int .i64 e.er):=zai l _ _ _ (hc 7 (by omega));have L:=J;have G:=rhear_any L e z F.1 F.2;unfold Ev.val Ev.cells at G;have I:=q;have y:Hid (∀ w',LeftR B Y w' jb s pb sl (zdo (runJ (newJ p c m) (es.take i)) e)->∃ (j:Nat) (sl:Value),j<=n/\Value.int .i64 ((i:Int)+1)= .int .i64 j/\JrA B w' jb s pb sl (runJ (newJ p c m) (es.take j))/\Below W.heap.size W w'):=hd' fun w' hL=>by obtain⟨⟨bb,b8,_⟩,ho⟩:=hL;refine⟨i+1,bb,by omega,by go_num,by rw[D];exact b8,I.trans (ho.below (by have:=I.size;omega) fun k hk=>Nat.le_trans b3 ((L.foot_lt k hk).1))⟩
   replace G:=hd' G;clear hc D he J q l L I F;go_wp2_with (go_at_call 42;refine G.out.mono ?_;rintro r w4 ⟨rfl,hL⟩);exact⟨y.out _ hL,by simp[intOf];omega⟩
  have b7:i=n:=by omega
  subst b7;rw[hn.out,R.out]at J;have tK:=(q.block _ lK).trans t2;have r0:=(zac tK 0).trans (show _=some (.int .i64 0) from rfl);have r1:=(zac tK 1).trans (show _=some (.int .i64 0) from rfl);have rF:=zax tK;have y3:=J.h3;have y4:=J.h4;rw[S.out]at y3;rw[hw.out]at y4;have y:Hid (Below w.heap.size w ((Y.setCell ⟨K,0,.none⟩ (.int .i64 (-1))).setCell ⟨K,1,.none⟩ (.int .i64 0))):=hd' (((M.trans (q.mono M.size)).setCell (p:=⟨K,0,.none⟩) (by have:=hK.out;show w.heap.size<=K;omega) _).setCell (p:=⟨K,1,.none⟩) (by have:=hK.out;show w.heap.size<=K;omega) _);have lj:jb<Y.heap.size:=J.lt;clear tK J;go_wp2;exact bodyPost_ret (v:= .agg #[.int .i64 (-1),.int .i64 0]) (by simp[results,Tryz.results17,go_sem,r0,r1]) rfl ⟨rfl,y.out⟩
end

section

open Go.RowKit Go.ChangeShapes Go.WideShapes Go.ChangeAt

section

variable {H:Type} {enc:TypeId × Value->H} {w:World}

theorem ygg{es:List Value}(h:Rd enc Tryz.prog w 33 es):∃ a b c:Int,es= [.int .i64 a,.int .i64 b,.int .i64 c]:=by
 obtain⟨p,i⟩:=zmz Tryz.underlying33 h;have q:Tryz.prog.cellsOf 33=3:=by kernel_rfl
 have k1:Tryz.prog.cellsOf 3=1:=by kernel_rfl
 rw[q]at p;obtain⟨x,y,z,rfl⟩:=ye6 p;have j:Rd enc Tryz.prog w 3 (([x,y,z].drop 0).take (Tryz.prog.cellsOf 3)):=i 0 _ rfl;have l:Rd enc Tryz.prog w 3 (([x,y,z].drop 1).take (Tryz.prog.cellsOf 3)):=i 1 _ rfl;have o:Rd enc Tryz.prog w 3 (([x,y,z].drop 2).take (Tryz.prog.cellsOf 3)):=i 2 _ rfl;rw[k1]at j l o;obtain⟨a,f,_⟩:=zj9 Tryz.underlying3 j;obtain⟨b,hb,_⟩:=zj9 Tryz.underlying3 l;obtain⟨c,hc,_⟩:=zj9 Tryz.underlying3 o;injection f with f;injection hb with hb;injection hc with hc;subst f hb hc;exact⟨a,b,c,rfl⟩
theorem yf3{es:List Value}(r:es.length=6)(h:Rd enc Tryz.prog w 36 es):∃ c:Ch,c.cells=es/\True:=by
 obtain⟨_,i⟩:=zmz Tryz.underlying36 h;match es,r with
 | [x0,x1,x2,x3,x4,x5],_=>
  have k1:Tryz.prog.cellsOf 3=1:=by kernel_rfl
  have y:Tryz.prog.cellsOf 33=3:=by kernel_rfl
  have z:Tryz.prog.cellsOf 34=1:=by kernel_rfl
  have l:Rd enc Tryz.prog w 3 (([x0,x1,x2,x3,x4,x5].drop 0).take (Tryz.prog.cellsOf 3)):=i 0 _ rfl;have o:Rd enc Tryz.prog w 3 (([x0,x1,x2,x3,x4,x5].drop 1).take (Tryz.prog.cellsOf 3)):=i 1 _ rfl;have p:Rd enc Tryz.prog w 33 (([x0,x1,x2,x3,x4,x5].drop 2).take (Tryz.prog.cellsOf 33)):=i 2 _ rfl;have q:Rd enc Tryz.prog w 34 (([x0,x1,x2,x3,x4,x5].drop 5).take (Tryz.prog.cellsOf 34)):=i 3 _ rfl;rw[k1]at l o;rw[y]at p;rw[z]at q;obtain⟨a,j,_⟩:=zj9 Tryz.underlying3 l;obtain⟨b,hb,_⟩:=zj9 Tryz.underlying3 o;obtain⟨c,d,e,hc⟩:=ygg p;obtain⟨f,hd,B⟩:=z7d Tryz.underlying34 q;injection j with j;injection hb with hb;injection hd with hd;injection hc with h2 hc;injection hc with h3 hc;injection hc with h4 hc;subst j hb h2 h3 h4 hd;exact⟨⟨a,b,c,d,e,f⟩,rfl,trivial⟩
theorem z6m{v:Value}{r:Reach}{b:Nat}{d:DataW H}{ps:List MemPlace}(f:Value.okWide Tryz.prog w r b 24 v)(h0:DataW.Trod enc Tryz.prog w 0 (fun _=>true) true 24 v d ps):
  ∃ xs:List Ch,RdS w 6 v xs.length (xs.flatMap Ch.cells):=by
 obtain⟨xs,h1,h2⟩:=open_list Ch.cells (fun _=>True) Tryz.underlying24 (sz:=6) (by kernel_rfl) (by omega) (fun _=>rfl) (fun es h1 h2=>yf3 h1 h2) f h0;exact⟨xs,h1⟩
end

end

end Go.Proofs.YtedcnffebdpmmaaGreat
