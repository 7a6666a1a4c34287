/- Lemmas for the claim. -/
import Derived.Test.YtkilokkopbajkaaGreatBw41

import Derived.Test.YtkilokkopbajkaaGreatBw42

set_option linter.all false
set_option maxHeartbeats 8000000
set_option maxRecDepth 100000
namespace Go.Proofs.YtkilokkopbajkaaGreat

section

def zG (n:Int):Int:=if wi n 33 512=true then runV n else 1
def Hp.upto (h:Hp) (n:Int):Nat->Bool
 | 0=> false
 | k + 1=> h.upto n k || decide (zG n<=(h.rw (k + 1):Int))
def Hp.room (h:Hp) (n:Int):Bool:=h.ok && lenB n && h.upto n h.p.toNat
end

section

open Go.RowKit

attribute [local go_sem ↓] Go.wp_at_zero Go.wp_at_succ

attribute [local go_sem ↓] iL fL

theorem yi2(h:Hp)(v:Value)(a:Int)(w:World)(b:Bok w v h)(ha:0<=a/\a<h.p):
  Calls Tryz.prog 57 #[XE h v,a] w fun e w'=>e= .returned (.bool (h.fr a))/\Below w.heap.size w w':=by
 have o:=fun X hX=>PG h v a X (b.below hX) ha;have O:=fun i X (hX:Below w.heap.size w X) hi=>lJ h v a i X (b.below hX) ha hi;have e1:h.fr a=if (h.pb a&&h.pk a==2)=true then h.op a (mA (h.pa a)).toNat else h.pb a&&h.pk a==0:=rfl;by_cases h2:(h.pb a&&h.pk a==2)=true
 ·have b5:=CC (h.pa a);rw[e1,jP h2];have E:=h2;rw[jC,beq_iff_eq]at E;rw[E.1,E.2]at o;obtain⟨q,hq⟩:∃ q:Nat,mA (h.pa a)=q:=⟨(mA (h.pa a)).toNat,by omega⟩;have hs:=XC (h.pa a);rw[hq]at hs b5 ⊢;rw[Int.toNat_natCast];generalize h.pa a=R at *;generalize h.pn a=S at *;have G:h.op a 0=true:=rfl;have C:∀ i,h.op a (i+1)=(h.op a i&&h.sk a i==1):=fun _=>rfl
  have I:∀ i j,i<=j->h.op a i=false->h.op a j=false:=fun i j b3=>by
   induction b3 with
   |refl=>exact id
   |step _ ih=>intro hf;rw[C,ih hf];rfl
  replace o:=hd' o;replace O:=hd' O;replace hs:=hd' hs;replace C:=hd' C;replace I:=hd' I;replace G:=hd' G;clear e1 h2 E hq b;go_in;go_wp2_with fail;refine(o _ (br.alloc lr _)).mono ?_;rintro e D ⟨rfl,z⟩;have y:Below w.heap.size w D:=((Below.refl w.heap.size w).alloc lr _).trans (z.mono (by simp));have g0:=(z.block _ (by simp)).trans (jA w (.cells #[h.p,h.c,h.m,v] 115));have Y:Below w.heap.size w (D.alloc (.cells #[.int .i64 2,R,S] 136)):=y.alloc y.size _;have b0:=(jE g0);have F:Below D.heap.size D (D.alloc (.cells #[.int .i64 2,R,S] 136)):=br.alloc lr _;have c0:(D.alloc (.cells #[.int .i64 2,R,S] 136)).cell? ⟨w.heap.size,0,.none⟩=some (.int .i64 h.p):=iA F _ _ _ (kA g0 0);have c1:(D.alloc (.cells #[.int .i64 2,R,S] 136)).cell? ⟨w.heap.size,1,.none⟩=some (.int .i64 h.c):=iA F _ _ _ (kA g0 1);have c2:(D.alloc (.cells #[.int .i64 2,R,S] 136)).cell? ⟨w.heap.size,2,.none⟩=some (.int .i64 h.m):=iA F _ _ _ (kA g0 2);have c3:(D.alloc (.cells #[.int .i64 2,R,S] 136)).cell? ⟨w.heap.size,3,.none⟩=some (v):=iA F _ _ _ (kA g0 3);go_wp2_with fail;refine(hs _).mono ?_;rintro e w2 ⟨rfl,hw⟩;obtain rfl:=hw.symm;clear hw;clear z g0 y F;generalize D.alloc (.cells #[.int .i64 2,R,S] 136)=W at *;generalize M:w.heap.size=H at c0 c1 c2 c3 ⊢;replace M:=hd' M;go_wp2_with fail;go_loopw [30] (fun vi wr=>∃ i:Nat,i<=q/\vi= .int .i64 i/\Hid (h.op a i=true)/\Below W.heap.size W wr) (fun vi _=>q-(intOf vi).toNat);case atStart=>exact⟨0,Nat.zero_le _,rfl,G,Below.refl _ _⟩
  case round=>
   obtain⟨i,hi,rfl,b1,B⟩:=hrel;have d0:=iA B _ _ _ c0;have d1:=iA B _ _ _ c1;have d2:=iA B _ _ _ c2;have d3:=iA B _ _ _ c3;have L:=Y.trans (B.mono Y.size);by_cases b0:i<q
   ·have l:=C i;rw[b1,Bool.true_and]at l;have N:=O i wr L (by omega);have U:=I (i+1) q (by omega);generalize h.sk a i=k4 at *;generalize h.sa a i=k5 at *;replace N:=hd' N;by_cases V:k4=1
    ·have r:(k4==1)=true:=by rw[beq_iff_eq];exact V
     rw[r]at l;replace l:=hd' l;subst V;clear U r;go_wp2_with fail;refine N.out.mono ?_;rintro e w3 ⟨rfl,T⟩;go_wp2;exact⟨⟨i+1,by omega,by go_num,l,B.trans (T.mono B.size)⟩,by simp[intOf];omega⟩
    have r:(k4==1)=false:=by rw[beq_eq_false_iff_ne];exact V
    rw[r]at l;have Z:=hd' (U l);clear U l;go_wp2_with fail;refine N.out.mono ?_;rintro e w3 ⟨rfl,T⟩;go_wp2;go_ret;exact⟨by rw[Z];rfl,M.out ▸ L.trans (T.mono L.size)⟩
   have b2:i=q:=by omega
   subst b2;clear b0;have b7:¬ ((i:Int)<(i:Int)):=by omega
   go_wp2;go_ret;exact⟨by rw[b1];rfl,M.out ▸ L⟩
 rw[e1,jN h2];have E:h.pb a=false\/(h.pb a=true/\h.pk a≠2):=by
  rcases jB (h.pb a) with h|h
  ·right;refine⟨h,fun e=>h2 ?_⟩;rw[h,e];rfl
  exact .inl h
 clear e1 h2 b O;generalize h.pk a=k1 at *;generalize h.pa a=R at *;generalize h.pn a=S at *;rcases E with E|⟨E,h6⟩
 ·rw[E]at o ⊢;replace o:=hd' o;clear E;go_in;go_wp2_with fail;refine(o _ (br.alloc lr _)).mono ?_;rintro e D ⟨rfl,z⟩;have y:Below w.heap.size w D:=((Below.refl w.heap.size w).alloc lr _).trans (z.mono (by simp));go_wp2;go_ret;exact⟨rfl,y.alloc y.size _⟩
 rw[E]at o ⊢;replace o:=hd' o;clear E;have b6:(k1 !=2)=true:=by simpa using h6
 have b4:=Decidable.em (k1=0);rcases b4 with V|V <;>
 ·first
   |(have r:(k1==0)=true:=by rw[beq_iff_eq];exact V)
   |(have r:(k1==0)=false:=by rw[beq_eq_false_iff_ne];exact V)
  rw[r];replace r:=hd' r;go_in;go_wp2_with fail;refine(o _ (br.alloc lr _)).mono ?_;rintro e D ⟨rfl,z⟩;have y:Below w.heap.size w D:=((Below.refl w.heap.size w).alloc lr _).trans (z.mono (by simp));go_wp2;go_ret;exact⟨by first|rfl|(rw[Bool.true_and,<- r];rfl),y.alloc y.size _⟩
end

section

open Go.RowKit

def Wd.acts (s:Sh) (d:Wd) (l:List Ch):Wd:=l.foldl (fun d c=> (d.act s c).1) d
def eG (W n:Int):Int->List Bk->Bool
 | e, []=> decide (n<=W - e)
 | e,b::l=> decide (n<=b.a - e) || eG W n (b.a + b.n) l
def LawJ (W0:World) (g:Nat) (s:Sh) (Kp:Nat->Obj->Prop) (d:Wd) (jb sj pb:Nat) (J:Jd) (W:World):Prop:=
 ∃ sl,JrA W0.heap.size W jb sj pb sl J/\BA W0 g s (kpF Kp (cF jb sj pb sl) W) d W/\∀ k v,Kp k v->¬ cF jb sj pb sl k
section

variable {W0 W W' X:World} {g jb sj pb:Nat} {s:Sh} {Kp Kq:Nat->Obj->Prop} {d d':Wd} {J:Jd} {n:Nat}

theorem LawJ.law(h:LawJ W0 g s Kp d jb sj pb J W):BA W0 g s Kp d W:=by
 obtain⟨sl,_,h2,_⟩:=h;exact h2.low
theorem LawJ.imp(h:LawJ W0 g s Kp d jb sj pb J W)(f:∀ k v,Kq k v->Kp k v):LawJ W0 g s Kq d jb sj pb J W:=by
 obtain⟨sl,h1,h2,h3⟩:=h;exact⟨sl,h1,h2.imp fun k v b=>b.imp (f k v) id,fun k v b=>h3 k v (f k v b)⟩
theorem LawJ.news(h:LawJ W0 g s Kp d jb sj pb J W)(hb:Below W.heap.size W W'):LawJ W0 g s (kpN Kp W W') d jb sj pb J W':=by
 obtain⟨sl,h1,h2,h3⟩:=h;have i:=h1.jI;refine⟨sl,h1.below hb,(h2.news hb).imp fun k v b=>?_,fun k v b f=>?_⟩
 ·rcases b with(b|b)|⟨f,j⟩
  ·exact .inl (.inl b)
  ·exact .inr b
  exact .inl (.inr ⟨f,by rw[<-hb.block k (i k f).2];exact j⟩)
 rcases b with b|⟨b,_⟩
 ·exact h3 k v b f
 have:=(i k f).2;omega
theorem LawJ.below(h:LawJ W0 g s Kp d jb sj pb J W)(hb:Below W.heap.size W W'):LawJ W0 g s Kp d jb sj pb J W':=(h.news hb).imp fun _ _ b=>.inl b
theorem yqa(h:LawJ W0 g s Kp d jb sj pb J W)(t:wdOk s d n)(r:n<=30000000)(m l o i cn:Int)(j:Nat):
  Calls Tryz.prog 11 #[some g,.agg #[m,l,o,i,cn,.float .f64 j]] W fun e w'=>e= .returned (.int .i64 (d.act s ⟨m,l,o,i,cn,j⟩).2)/\LawJ W0 g s Kp (d.act s ⟨m,l,o,i,cn,j⟩).1 jb sj pb J w':=by
 obtain⟨sl,h1,h2,h3⟩:=h;have b:=h1.jI;exact(fG h2 t r m l o i cn j).mono fun e w' ⟨k1,q⟩=>⟨k1,sl,h1.blocks fun k p=>q.blk p (b k p).2,q.on fun k p=>(b k p).2,h3⟩
theorem yoc(h:LawJ W0 g s Kp d jb sj pb J W)(e:Ev)(hb:CG J e=true)(p:0<=J.m/\J.m<=1000000000)(q:J.ps.length<=100):
  Calls Tryz.prog 33 #[some jb,e.val] W fun r w'=>r= .returned (.bool true)/\LawJ W0 g s Kp d jb sj pb (CA J e) w':=by
 obtain⟨sl,h1,h2,h3⟩:=h;have j:=h1.jI;refine(IR h1 e hb p q).mono fun r w' ⟨k1,y⟩=>⟨k1,?_⟩;obtain⟨⟨b,z,B⟩,t⟩:=y;have l:∀ k,cF jb sj pb b k->cF jb sj pb sl k\/W.heap.size<=k:=by
  rintro k (rfl|rfl|rfl|e)
  ·exact .inl (.inl rfl)
  ·exact .inl (.inr (.inl rfl))
  ·exact .inl (.inr (.inr (.inl rfl)))
  rcases B k e with h|h
  ·exact .inl (.inr (.inr (.inr h)))
  exact .inr h
 refine⟨b,z,h2.own t j h3 l,fun k v o i=>?_⟩;rcases l k i with h|h
 ·exact h3 k v o h
 have:=(jE (h2.keep (.inl o)));omega
theorem yor(y:mayB s.p s.c s.m=true)(h:BA W0 g s Kp d W)(hb:Below W.heap.size W X):
  Calls Tryz.prog 32 #[.agg #[s.p,s.c,s.m]] X fun r w'=>∃ jb sj pb,r= .returned (.pointer (some ⟨jb,0,.none⟩))/\LawJ W0 g s Kp d jb sj pb (newJ s.p s.c s.m) w':=by
 have j:=h.below hb;refine(SR y X).mono fun r w' ⟨jb,sj,pb,k1,z,b⟩=>⟨jb,sj,pb,k1,.slice none 0 0,?_,j.born z fun k o=>(b.jI k o).1,fun k v o q=>?_⟩
 ·have i:=j.ab.size;have t:(newJ s.p s.c s.m).l= []:=by unfold newJ;split<;>rfl
  refine⟨b.head,?_,b.row,⟨Nat.le_trans i b.lies.1,Nat.le_trans i b.lies.2⟩,b.apart⟩;have h4:=b.model;rw[t]at h4 ⊢;exact Mdl.base h4 i
 have:=(jE (j.keep o));have:=(b.jI k q).1;omega
end

end

section

open Go.RowKit

theorem LawJ.rows{W0 W:World}{g jb sj pb:Nat}{s:Sh}{Kp:Nat->Obj->Prop}{d:Wd}{J:Jd}(h:LawJ W0 g s Kp d jb sj pb J W):
  ∃ al cap,J.l.length<=cap/\(cap:Int)<=9223372036854775807/\∀ X,jW W X->
   (X.cell? ⟨jb,0,.none⟩=some (.pointer (some ⟨sj,0,.none⟩))/\X.cell? ⟨sj,0,.none⟩=some (.slice al J.l.length cap)/\jb<X.heap.size/\sj<X.heap.size)/\
   ∀ k (m:k<J.l.length),∃ b f,al=some ⟨b,f,.none⟩/\b<X.heap.size/\X.cell? ⟨b,f+k*2,.none⟩=some (.int .i64 (J.l[k]).a)/\X.cell? ⟨b,f+k*2+1,.none⟩=some (.int .i64 (J.l[k]).n):=by
 obtain⟨sl,j,_,_⟩:=h;obtain⟨al,cap,rfl,h1,h2,h3⟩:=j.model.rd.nth;refine⟨al,cap,h1,h2,fun X i=>⟨⟨iA i _ _ _ j.h0,iA i _ _ _ j.model.cell0,Nat.lt_of_lt_of_le j.lt i.size,Nat.lt_of_lt_of_le j.model.lt i.size⟩,fun k m=>?_⟩⟩;obtain⟨b,f,o,hb,hc⟩:=h3 (fun e=>by rw[e]at m;exact absurd m (Nat.not_lt_zero _));exact⟨b,f,o,Nat.lt_of_lt_of_le hb i.size,iA i _ _ _ (hc k m).1,iA i _ _ _ (hc k m).2⟩
end

section

variable {s:Sh} {d:Wd} {n:Nat}

theorem yqc(h:AI s d n)(l:List Ch):AI s (d.acts s l) (n+l.length):=by
 induction l generalizing d n with
 |nil=>exact h;|cons x l b=>show AI s ((d.act s x).1.acts s l) (n+(l.length+1));rw[show n+(l.length+1)=n+1+l.length by omega];exact b (mC h x)
theorem yq6(h:AI s d n)(x:Ch):∃ es,(d.act s x).1.tr=d.tr++es:=by
 obtain⟨hd,σ,f,b⟩:=h;obtain⟨_,es,_,e,_⟩:=zS b f hd x;exact⟨es,e⟩
end

section

open Go.RowKit

attribute [local go_sem ↓] Go.wp_at_zero Go.wp_at_succ

theorem Hp.yif(h:Hp)(n:Int){i j:Nat}(b:i<=j)(hu:h.upto n i=true):h.upto n j=true:=by
 induction b with
 |refl=>exact hu
 |step _ f=>show (_||_)=true;rw[f];rfl
theorem Hp.yjr(h:Hp)(k:Nat):h.rw k<=k:=by
 induction k with
 |zero=>exact Nat.le_refl _
 |succ k b=>unfold Hp.rw;split<;>omega
theorem yi0(n:Int):0<=zG n/\zG n<=8:=by
 unfold zG;have:=WM n;split<;>omega
theorem qR(h:Hp)(v:Value)(n:Int)(w:World)(hr:RdZ .u64 w v h.xs)(hf:h.fit):
  Calls Tryz.prog 16 #[shV h,v,n] w fun e w'=>e= .returned (.bool (h.room n))/\Below w.heap.size w w':=by
 obtain⟨ao,cap,hv,_,_,_⟩:=hr.cells;generalize h.xs.length=m at hv;subst hv;have q:=fun X hX=>CK h (.slice ao m cap) X (hr.below (w':=X) hX);have y:=EP n;have C:=CM n;have Z:h.room n=(h.ok&&lenB n&&h.upto n h.p.toNat):=rfl;have Y:=(Below.refl w.heap.size w).alloc lr (.cells #[h.p,h.c,h.m] 23);by_cases o:(h.ok&&lenB n)=true;case neg=>
  have hc:h.ok=false\/(h.ok=true/\lenB n=false):=by
   rcases jB h.ok with h1|h1
   ·right;refine⟨h1,?_⟩;rw[h1,Bool.true_and]at o;simpa using o
   exact .inl h1
  have b9:(h.ok&&lenB n)=false:=by simpa using o
  rw[Z,b9,Bool.false_and];clear o b9 Z C;rcases hc with hc|⟨hc,b8⟩
  ·rw[hc]at q;generalize lenB n=lb at *;replace q:=hd' q;replace y:=hd' y;clear hc;go_in;go_wp2_with fail;refine(q _ Y).mono ?_;rintro e w1 ⟨rfl,z⟩;have hB:=Y.trans (z.mono Y.size);go_wp2_with fail;refine(y _).mono ?_;rintro e w2 ⟨rfl,rfl⟩;go_wp2;go_ret;exact⟨rfl,hB.alloc hB.size _⟩
  rw[hc]at q;rw[b8]at y;replace q:=hd' q;replace y:=hd' y;clear hc b8;go_in;go_wp2_with fail;refine(q _ Y).mono ?_;rintro e w1 ⟨rfl,z⟩;have hB:=Y.trans (z.mono Y.size);go_wp2_with fail;refine(y _).mono ?_;rintro e w2 ⟨rfl,rfl⟩;go_wp2;go_ret;exact⟨rfl,hB.alloc hB.size _⟩
 case pos=>
  rw[Z,o,Bool.true_and];rw[jC]at o;obtain⟨b2,ba⟩:=o;have b:Bok w (.slice ao m cap) h:=⟨b2,hr,hf⟩;obtain⟨bp,_,_,_⟩:=b.bd;rw[b2]at q;rw[ba]at y;have b0:=fun a X (hX:Below w.heap.size w X) ha=>yi2 h (.slice ao m cap) a X (b.below hX) ha;have bk:=yi0 n;have M:zG n=if wi n 33 512=true then runV n else 1:=rfl;obtain⟨P,hP⟩:∃ P:Nat,Hid (h.p=P):=⟨h.p.toNat,hd' (by omega)⟩;have b6:h.p.toNat=P:=by have:=hP.out;omega
  rw[b6];have S:h.upto n 0=false:=rfl;have V:∀ k:Nat,h.upto n (k+1)=(h.upto n k||decide (zG n<=(h.rw (k+1):Int))):=fun _=>rfl;have T:∀ k:Nat,k<=P->h.upto n k=true->h.upto n P=true:=fun k hk=>h.yif n hk;have N:h.rw 0=0:=rfl;have R:∀ k:Nat,h.rw (k+1)=if h.fr k=true then h.rw k+1 else 0:=fun _=>rfl;have O:=h.yjr;obtain⟨U,hU⟩:∃ U,Hid (h.upto n P=U):=⟨_,hd' rfl⟩;rw[hU];have key:∀ w3:World,jW w w3->∃ pg:Int,pg=zG n:=fun _ _=>⟨_,rfl⟩;clear key;replace q:=hd' q;replace y:=hd' y;replace b0:=hd' b0;replace S:=hd' S;replace V:=hd' V;replace T:=hd' T;replace N:=hd' N;replace R:=hd' R;replace O:=hd' O;clear b2 ba Z b6 b;go_in;go_wp2_with fail;refine(q _ Y).mono ?_;rintro e w1 ⟨rfl,z⟩;have hB:=(Y.trans (z.mono Y.size)).alloc (Nat.le_trans Y.size (by have:=z.size;simpa using this)) (.cells #[h.p,h.c,h.m,.slice ao m cap] 115);have b7:=z.alloc z.size (.cells #[h.p,h.c,h.m,.slice ao m cap] 115);have r0:=(b7.block _ (by simp)).trans (jA w (.cells #[h.p,h.c,h.m] 23));have r3:=jA w1 (.cells #[h.p,h.c,h.m,.slice ao m cap] 115);go_upto_region 2 with fail;obtain⟨H,hH,b4⟩:=hidv w.heap.size;obtain⟨K,hK,b5⟩:=hidv w1.heap.size;rw[<-b5]at r3 ⊢;rw[<-b4]at r0 ⊢;clear b5 b4 z b7;generalize w1.alloc (.cells #[h.p,h.c,h.m,.slice ao m cap] 115)=W at *;have s0:W.cell? ⟨H,0,.none⟩=some (.int .i64 h.p):=kA r0 0;have k0:W.cell? ⟨K,0,.none⟩=some (.int .i64 h.p):=kA r3 0;have k1:W.cell? ⟨K,1,.none⟩=some (.int .i64 h.c):=kA r3 1;have k2:W.cell? ⟨K,2,.none⟩=some (.int .i64 h.m):=kA r3 2;have k3:W.cell? ⟨K,3,.none⟩=some (.slice ao m cap):=kA r3 3;rw[hP]at s0;clear r0 r3;go_wp2_with fail;refine(y _).mono ?_;rintro e w2 ⟨rfl,hw⟩;obtain rfl:=hw.symm;clear hw;generalize wi n 33 512=wb at *;replace C:=hd' C;replace M:=hd' M;go_wp2_with fail;refine(C _).mono ?_;rintro e w2 ⟨rfl,hw⟩;obtain rfl:=hw.symm;clear hw C;go_upto_if 38 with fail;go_cut [11] (fun bg wx=>bg= .int .i64 (zG n)/\wx=W);case first=>
   rcases jB wb with b3|b3
   ·subst b3;go_wp2_with fail;go_meet;case rel=>exact⟨by rw[M];rfl,rfl⟩
   subst b3;go_wp2_with fail;go_meet;case rel=>exact⟨by rw[M];rfl,rfl⟩
  case rest=>
   obtain⟨rfl,hw⟩:=hcut;obtain rfl:=hw.symm;clear hw M;generalize zG n=pg at *;go_wp2_with fail;go_loopw [13,41] (fun vr vi wr=>∃ i:Nat,i<=P/\vi= .int .i64 i/\vr= .int .i64 (h.rw i:Int)/\Hid (h.upto n i=false)/\Below W.heap.size W wr) (fun _ vi _=>P-(intOf vi).toNat);case atStart=>exact⟨0,Nat.zero_le _,rfl,by rw[N];rfl,S,Below.refl _ _⟩
   case round=>
    obtain⟨i,hi,rfl,rfl,bb,B⟩:=hrel;have d0:=iA B _ _ _ k0;have d1:=iA B _ _ _ k1;have d2:=iA B _ _ _ k2;have d3:=iA B _ _ _ k3;have E:=hB.trans (B.mono hB.size);by_cases bf:i<P
    ·have F:=b0 i wr E (by have:=hP.out;omega);have j:=R i;have l:=V i;have G:=T (i+1) (by omega);have bj:=O i;rw[bb,Bool.false_or]at l;generalize h.fr i=fb at *;generalize hR:h.rw i=ri at *;have bh:P<=64:=by have:=hP.out;omega
     have ww:IntKind.i64.wrap ((ri:Int)+1)=(ri:Int)+1:=IntWalk.i64_in _ ⟨by omega,by omega⟩;replace hR:=hd' hR;replace F:=hd' F;rcases jB fb with hb|hb
     ·subst hb;rw[jP rfl]at j;rw[j]at l;by_cases I:pg<=((ri+1:Nat):Int)
      ·rw[jT I]at l;have r:=G l;replace r:=hd' r;have L:pg<=(ri:Int)+1:=by omega
       clear l G j;go_wp2_with fail;refine F.out.mono ?_;rintro e w3 ⟨rfl,D⟩;go_wp2;go_ret;exact⟨by rw[<-hU,r];rfl,E.trans (D.mono E.size)⟩
      rw[jF I]at l;replace l:=hd' l;replace j:=hd' j;have L:¬ pg<=(ri:Int)+1:=by omega
      clear G;go_wp2_with fail;refine F.out.mono ?_;rintro e w3 ⟨rfl,D⟩;go_wp2;exact⟨⟨i+1,by omega,by go_num,by rw[j];go_num,l,B.trans (D.mono B.size)⟩,by simp[intOf];omega⟩
     subst hb;rw[jN Bool.false_ne_true]at j;rw[j]at l;by_cases I:pg<=((0:Nat):Int)
     ·rw[jT I]at l;have r:=G l;replace r:=hd' r;have L:pg<=0:=by omega
      clear l G j;go_wp2_with fail;refine F.out.mono ?_;rintro e w3 ⟨rfl,D⟩;go_wp2;go_ret;exact⟨by rw[<-hU,r];rfl,E.trans (D.mono E.size)⟩
     rw[jF I]at l;replace l:=hd' l;replace j:=hd' j;have L:¬ pg<=0:=by omega
     clear G;go_wp2_with fail;refine F.out.mono ?_;rintro e w3 ⟨rfl,D⟩;go_wp2;exact⟨⟨i+1,by omega,by go_num,by rw[j];rfl,l,B.trans (D.mono B.size)⟩,by simp[intOf];omega⟩
    have bc:i=P:=by omega
    subst bc;clear bf;have bi:¬ ((i:Int)<(i:Int)):=by omega
    go_wp2;go_ret;exact⟨by rw[<-hU,bb];rfl,E⟩
end

section

open Go.RowKit

theorem ylp(p c m:Int)(w:World):
  Calls Tryz.prog 72 #[.agg #[p,c,m]] w fun e w'=>e= .returned (.int .i64 (oB p c m))/\Below w.heap.size w w':=by
 by_cases h1:mayB p c m=true
 ·have hb:=LA.1 h1;have l:=NE (c:=c) (m:=m) (C:=12) (M:=8) (by omega) (by omega);have b:oB p c m=c+p+16*p+c*m:=by unfold oB;rw[jP h1];omega
  rw[b];clear b;have i:=wrp (c+p);have o:=wrp (16*p);have q:=wrp (c+p+16*p);have r:=wrp (c*m);have t:=wrp (c+p+16*p+c*m);go_in;go_wp2_with (go_at_call 21;refine(UG _ _ _ _).mono ?_;rintro e i ⟨rfl,rfl⟩);go_ret;exact⟨rfl,by go_grown⟩
 have j:mayB p c m=false:=by simpa using h1
 have b:oB p c m=0:=by unfold oB;rw[jN h1]
 rw[b];clear h1 b;go_in;go_wp2_with (go_at_call 21;refine(UG _ _ _ _).mono ?_;rintro e i ⟨rfl,rfl⟩);go_ret;exact⟨rfl,by go_grown⟩
theorem yrq:(Tryz.prog.info? 118).map (fun i=>(i.zero,i.size,i.bytes))=some (some (.int .u64 0),1,8):=by kernel_rfl
theorem yqm(n:Nat)(l:n<=100000):∀ u:World,(Instr.makeSlice 43 (.int .i64 (n:Int)) (.int .i64 (n:Int))).run Tryz.prog u= .ok (.slice (some ⟨u.heap.size,0,.none⟩) n n) (u.alloc (.cells (madeCells #[.int .u64 0] n) 118)):=fun u=>by
 obtain⟨j,hi,b,f,i⟩:=info_parts yrq
 have h:=run_make (P:=Tryz.prog) u 43 118 j (.int .u64 0) Tryz.underlying43 hi b .i64 .i64 (n:Int) (n:Int) (by omega) (Int.le_refl _) (by rw[i];omega) (by omega)
 rw[Int.toNat_natCast]at h
 simpa[f,Value.cells] using h
theorem yo7(n:Nat)(b:n<=100000)(u:World):RdZ .u64 (u.alloc (.cells (madeCells #[.int .u64 0] n) 118)) (.slice (some ⟨u.heap.size,0,.none⟩) n n) (List.replicate n 0):=by
 have h:=RdS.new (sz:=1) (n:=n) (jA u (.cells (madeCells #[.int .u64 0] n) 118)) (by rw[size_madeCells];omega) (by omega);unfold RdZ;rw[List.length_replicate,List.map_replicate];rwa [toList_madeCells_one]at h
theorem PR(p c m:Int)(n:Nat):(Hp.mk p c m (List.replicate n 0)).fit:=fun x b=>by
 rw[List.eq_of_mem_replicate b];exact⟨by decide,by decide⟩
def h35:Hp:=⟨2,1,0,List.replicate 35 0⟩
theorem ynx:h35.count=⟨128,0,0,0⟩:=by decide +kernel
theorem ypi:h35.room 100=true:=by decide +kernel
theorem yl4(w:World):Calls Tryz.prog 31 #[] w fun e w'=>e= .returned (.bool true)/\Below w.heap.size w w':=by
 obtain⟨mk,b1,p⟩:∃ mk:Array Value,(∀ u:World,(Instr.makeSlice 43 (.int .i64 35) (.int .i64 35)).run Tryz.prog u= .ok (.slice (some ⟨u.heap.size,0,.none⟩) 35 35) (u.alloc (.cells mk 118)))/\Hid (∀ u:World,RdZ .u64 (u.alloc (.cells mk 118)) (.slice (some ⟨u.heap.size,0,.none⟩) 35 35) (List.replicate 35 0)):=⟨_,yqm 35 (by omega),hd' (yo7 35 (by omega))⟩;have E:Hid (∀ (u:World) (o:Obj),RdZ .u64 ((u.alloc o).alloc (.cells mk 118)) (.slice (some ⟨u.heap.size+1,0,.none⟩) 35 35) (List.replicate 35 0)):=hd' fun u o=>by have:=p (u.alloc o);rwa [show (u.alloc o).heap.size=u.heap.size+1 from by simp]at this
 have q:∀ w,jK 72 #[.agg #[.int .i64 2,.int .i64 1,.int .i64 0]] w fun e w'=>e= .returned (.int .i64 35)/\Below w.heap.size w w':=ylp 2 1 0;have B:∀ v w,RdZ .u64 w v (List.replicate 35 0)->jK 37 #[.agg #[.int .i64 2,.int .i64 1,.int .i64 0],v] w fun e w'=>e= .returned (.agg #[.int .i64 128,.int .i64 0,.int .i64 0,.int .i64 0])/\Below w.heap.size w w':=fun v w R=>by have:=fK h35 v w R (PR 2 1 0 35);rw[ynx]at this;exact this
 have z:∀ v w,RdZ .u64 w v (List.replicate 35 0)->jK 16 #[.agg #[.int .i64 2,.int .i64 1,.int .i64 0],v,.int .i64 100] w fun e w'=>e= .returned (.bool true)/\Below w.heap.size w w':=fun v w R=>by have:=qR h35 v 100 w R (PR 2 1 0 35);rw[ypi]at this;exact this
 replace q:=hd' q;replace B:=hd' B;replace z:=hd' z;go_in;go_upto_region 2 with fail;have L:Below w.heap.size w (w.alloc (.cells #[.int .i64 2,.int .i64 1,.int .i64 0] 23)):=br.alloc lr _;have C:=jA w (.cells #[.int .i64 2,.int .i64 1,.int .i64 0] 23);obtain⟨H,hH,D⟩:=hidv w.heap.size;generalize w.alloc (.cells #[.int .i64 2,.int .i64 1,.int .i64 0] 23)=W at *;rw[<-D]at C ⊢;clear D;have lS:=(jE C);have c0:W.cell? ⟨H,0,.none⟩=some (.int .i64 2):=kA C 0;have c1:W.cell? ⟨H,1,.none⟩=some (.int .i64 1):=kA C 1;have c2:W.cell? ⟨H,2,.none⟩=some (.int .i64 0):=kA C 2;go_cut [2] (fun s2 I=>∃ g:Nat,s2= .pointer (some ⟨g,0,.none⟩)/\g<I.heap.size/\Below W.heap.size W I/\I.cell? ⟨g,0,.none⟩=some (.int .i64 128)/\I.cell? ⟨g,1,.none⟩=some (.int .i64 0));case first=>
  have y:∀ Y:World,jW W Y->(Y.cell? ⟨H,0,.none⟩=some (.int .i64 2)/\Y.cell? ⟨H,1,.none⟩=some (.int .i64 1)/\Y.cell? ⟨H,2,.none⟩=some (.int .i64 0)):=fun Y hb=>⟨iA hb _ _ _ c0,iA hb _ _ _ c1,iA hb _ _ _ c2⟩;replace y:=hd' y
  go_region_held3 (fun X=>X.cell? ⟨H,0,.none⟩=some (.int .i64 2)/\X.cell? ⟨H,1,.none⟩=some (.int .i64 1)/\X.cell? ⟨H,2,.none⟩=some (.int .i64 0))
   (first|exact y _ (by go_grown))
   (first
    |(go_at_call 72;refine(q _).mono ?_;rintro e G ⟨rfl,m⟩;have r:=xA (w:=W) (by go_grown) m;have M:=r.size;try (have b:=YA.below (N:=W.heap.size) (c:=Cn.zero) (jA W.drew (.cells #[.int .i64 0,.int .i64 0,.int .i64 0,.int .i64 0] 87)) m;have S:=b.c0;have q1:=b.c1;have q2:=b.c2;have q3:=b.c3;have T:=b.fr))
    |(go_at_call 37;refine(B _ _ (by first|exact E _ _|exact p _|exact(p _).below (br.alloc lr _))).mono ?_;rintro e w2 ⟨rfl,i⟩;have l:=xA (w:=W) (by go_grown) i;have O:=l.size;
      try (first
       |(have b:=(b.below (br.alloc lr (.cells mk 118))).below i;have S:=b.c0;have q1:=b.c1;have q2:=b.c2;have q3:=b.c3;have T:=b.fr)
       |(have b:=YA.below (N:=G.heap.size+1) (c:=Cn.zero) (PD G (.cells mk 118) (.cells #[.int .i64 0,.int .i64 0,.int .i64 0,.int .i64 0] 87)).2.1 i;have S:=b.c0;have q1:=b.c1;have q2:=b.c2;have q3:=b.c3;have T:=b.fr)
       |(have b:=YA.below (N:=G.heap.size) (c:=Cn.zero) (PD G (.cells #[.int .i64 0,.int .i64 0,.int .i64 0,.int .i64 0] 87) (.cells mk 118)).1 i;have S:=b.c0;have q1:=b.c1;have q2:=b.c2;have q3:=b.c3;have T:=b.fr))))
  all_goals (go_wp2_with fail;go_meet)
  all_goals refine⟨_,rfl,?_,by go_grown,?_,?_⟩
  all_goals first|go_cell|go_size|(simp;done)|(simp;exact b.lt)
 case rest=>
  obtain⟨g,rfl,hg,j,g0,Z⟩:=hcut;have U:=iA j _ _ _ c0;have d1:=iA j _ _ _ c1;have d2:=iA j _ _ _ c2;have F:=L.trans (j.mono L.size);clear j c0 c1 c2 C lS L;obtain⟨V,rfl⟩:∃ V:World,V=wc:=⟨_,rfl⟩;have y:∀ Y:World,jW V Y->(Y.cell? ⟨H,0,.none⟩=some (.int .i64 2)/\Y.cell? ⟨H,1,.none⟩=some (.int .i64 1)/\Y.cell? ⟨H,2,.none⟩=some (.int .i64 0)/\Y.cell? ⟨g,0,.none⟩=some (.int .i64 128)/\Y.cell? ⟨g,1,.none⟩=some (.int .i64 0)):=fun Y hb=>⟨iA hb _ _ _ U,iA hb _ _ _ d1,iA hb _ _ _ d2,iA hb _ _ _ g0,iA hb _ _ _ Z⟩;replace y:=hd' y;go_upto_region 3 with fail
  go_region_held3 (fun Y=>Y.cell? ⟨H,0,.none⟩=some (.int .i64 2)/\Y.cell? ⟨H,1,.none⟩=some (.int .i64 1)/\Y.cell? ⟨H,2,.none⟩=some (.int .i64 0)/\Y.cell? ⟨g,0,.none⟩=some (.int .i64 128)/\Y.cell? ⟨g,1,.none⟩=some (.int .i64 0))
   (first|exact y _ (by go_grown))
   (first|(go_at_call 72;refine(q _).mono ?_;rintro e G ⟨rfl,m⟩;have r:=xA (w:=V) (by go_grown) m;have M:=r.size)|(go_at_call 16;refine(z _ _ (p _)).mono ?_;rintro e w2 ⟨rfl,i⟩;have l:=xA (w:=V) (by go_grown) i;have O:=l.size))
  go_wp2;go_ret;exact⟨rfl,F.trans (l.mono F.size)⟩
end

end Go.Proofs.YtkilokkopbajkaaGreat
