/- Lemmas for the claim. -/
import Derived.ChangeKeysEq

import Derived.Maps.Own

import Derived.Test.YtmmbicppdjgbmaaGreatBw36

import Derived.Test.YtmmbicppdjgbmaaGreatBw39

set_option linter.all false
set_option maxHeartbeats 8000000
set_option maxRecDepth 100000
namespace Go.Proofs.YtmmbicppdjgbmaaGreat

section

theorem KX{k:Int}(h:0<=k/\k<=3):AA k*mA k=64:=by
 have:k=0\/k=1\/k=2\/k=3:=by omega
 rcases this with rfl|rfl|rfl|rfl<;>rfl
def Told (d:Wd) (c:Int):Prop:=∃ l e,d.tr=l ++ [e]/\e.k=5/\e.c=c
def Due (d:Wd) (c i:Int):Prop:=∃ k,d.kl c=some k/\((k.job≠none/\k.steps=i)\/(k.job=none/\Told d c))
theorem zH{s:Sh}{d:Wd}{c:Int}{k:Kl}(b:d.kl c=some k)(hc:0<=c/\c<s.c):d.act s (bB c)=d.step s c k:=by
 unfold Wd.act;rw[jN (by unfold Ch.bad bB;dsimp only;omega),jN (show ¬ (bB c).kind=1 from (show ¬ (3:Int)=1 by decide))];have e:d.kl (bB c).client=some k:=b;rw[e];exact jP rfl
theorem z6c{s:Sh}{d:Wd}{n:Nat}{c:Int}{k:Kl}{j:Jb}(i:wdOk s d n)(f:d.kl c=some k)(o:k.job=some j):(d.act s (bB c)).2=0/\Due (d.act s (bB c)).1 c (k.steps+1):=by
 obtain⟨q,b,hc⟩:=i.kl _ _ f;rw[zH f hc];have hi:c.toNat<d.l.length:=by rw[i.len];omega
 have e:k.step s d.m=(k.after (j.step s k.c d.m).1,(j.step s k.c d.m).2,k.tells (j.step s k.c d.m).1,0):=by unfold Kl.step;rw[o]
 unfold Wd.step;rw[e];dsimp only;refine⟨rfl,k.after (j.step s k.c d.m).1,?_,?_⟩
 ·rw[d.AB hc.1 hi,jP rfl]
 unfold Kl.after;dsimp only;by_cases hd:(j.step s k.c d.m).1.done=true
 ·rw[jP hd];refine .inr ⟨rfl,?_⟩
  obtain⟨l,p⟩:∃ l,d.tr++k.tells (j.step s k.c d.m).1=l++[RA k.c k.op (yB (j.step s k.c d.m).1.took) (j.step s k.c d.m).1.err]:=
   ⟨_,by unfold Kl.tells;rw[jP hd,<- List.append_assoc,<- List.append_assoc]⟩
  exact⟨l,_,p,rfl,b⟩
 rw[jN hd];exact .inl ⟨by simp,rfl⟩
theorem OM{s:Sh}{d:Wd}{n:Nat}{c i:Int}(f:wdOk s d n)(h:Due d c i)(hi:110*s.p+4*s.m+60<=i):∃ k,d.kl c=some k/\k.job=none/\Told d c:=by
 obtain⟨k,b,h1|h1⟩:=h
 ·rcases hj:k.job with _|j
  ·exact absurd hj h1.1
  have:=HT (f.kl _ _ b).1 (by have:=f.fi.bd;omega) hj;omega
 exact⟨k,b,h1⟩
theorem DM{s:Sh}{d:Wd}{c:Int}{k:Kl}(f:d.kl c=some k)(b:k.job=none):d.goS s c=d:=by
 unfold Wd.goS;rw[f];dsimp only;rw[b,jN (by simp)]
theorem iJ{s:Sh}{d:Wd}{c:Int}{k:Kl}(f:d.kl c=some k)(b:k.job≠none):d.goS s c=(d.act s (bB c)).1:=by
 unfold Wd.goS;rw[f];dsimp only;rw[jP (by rcases h:k.job with _|j;exact absurd h b;rfl)]
theorem DQ{s:Sh}{d:Wd}{n:Nat}{c:Int}(b:wdOk s d n):wdOk s (d.goS s c) (n+1):=by
 have h:=KF b (bB c);have f:wdOk s d (n+1):=⟨b.fi,b.fit,b.len,b.kl,⟨b.st.1,by have:=b.st.2;omega⟩,by have:=b.tr;omega,b.lg⟩;unfold Wd.goS;split
 ·split
  ·exact h
  exact f
 exact f
theorem OG{s:Sh}{d:Wd}{n:Nat}{c:Int}(b:wdOk s d n)(i:Nat):wdOk s (d.goN s c i) (n+i):=by
 induction i with
 |zero=>exact b
 |succ i f=>exact DQ f
theorem yfl{s:Sh}{d:Wd}{c:Int}{i:Nat}{k:Kl}(f:(d.goN s c i).kl c=some k)(b:k.job=none)(m:Nat):d.goN s c (i+m)=d.goN s c i:=by
 induction m with
 |zero=>rfl;|succ m j=>show (d.goN s c (i+m)).goS s c=_;rw[j,DM f b]
theorem MI{s:Sh}{d:Wd}{n:Nat}{c a:Int}(f:wdOk s d n)(h:Due d c a)(i:Nat):Due (d.goN s c i) c (a+i):=by
 induction i with
 |zero=>show Due d c (a+((0:Nat):Int));rw[show a+((0:Nat):Int)=a by omega];exact h
 |succ i l=>
  obtain⟨k,b,h1|h1⟩:=l
  ·have e:d.goN s c (i+1)=((d.goN s c i).act s (bB c)).1:=iJ b h1.1;rcases hj:k.job with _|j
   ·exact absurd hj h1.1
   rw[e];have h2:=(z6c (OG f i) b hj).2;rw[h1.2]at h2;rw[show a+((i+1:Nat):Int)=a+i+1 by omega];exact h2
  have e:d.goN s c (i+1)=d.goN s c i:=DM b h1.1;rw[e];exact⟨k,b,.inr h1⟩
theorem NI{s:Sh}{d:Wd}{n:Nat}{x:Ch}(o:wdOk s d n)(p:x.kind=2)(h:(d.act s x).2=0):0<=x.client/\x.client<s.c/\Due (d.act s x).1 x.client 0:=by
 unfold Wd.act at h ⊢;by_cases hb:x.bad s
 ·rw[jP hb]at h;exact absurd h (show (1:Int)≠0 by decide)
 rw[jN hb]at h ⊢;unfold Ch.bad at hb;have hc:0<=x.client/\x.client<s.c:=by omega
 refine⟨hc.1,hc.2,?_⟩;rw[jN (by omega)]at h ⊢;cases hk:d.kl x.client with
 |none=>rw[hk]at h;exact absurd h (show (2:Int)≠0 by decide);|some k=>
  rw[hk]at h;dsimp only at h ⊢;rw[jN (by omega),jP p]at h ⊢;have hi:x.client.toNat<d.l.length:=by rw[o.len];omega
  have m:=(o.kl _ _ hk).2.1;unfold Wd.ask at h ⊢;dsimp only at h ⊢;refine⟨(k.invoke s x.op).1,by rw[d.AB hc.1 hi,jP rfl],?_⟩;unfold Kl.invoke at h ⊢;split at h
  ·exact absurd h (show (4:Int)≠0 by decide)
  rename_i b;split at h
  ·exact absurd h (show (1:Int)≠0 by decide)
  rename_i i;rw[jN b,jN i];have f:k.job=none:=by
   unfold Kl.rests at b;rcases hj:k.job with _|j
   ·rfl
   rw[hj]at b;simp at b
  split
  ·refine .inr ⟨f,?_⟩;exact⟨d.tr++[NA k.c x.op],RA k.c x.op 0 (WC s k.c x.op.k x.op.a x.op.n),by simp,rfl,m⟩
  exact .inl ⟨by simp,rfl⟩
def askW (s:Sh) (d:Wd) (c:Int) (o:Op3):Wd:=(d.act s ⟨2,c,o.k,o.a,o.n,0⟩).1.goN s c (WA s)
def YD (d:Wd):Int:=match d.tr.getLast? with
 | some e=> e.er
 | none=> 0
theorem HQ{s:Sh}{d:Wd}{n:Nat}{c:Int}{o:Op3}(b:wdOk s d n)(h:(d.act s ⟨2,c,o.k,o.a,o.n,0⟩).2=0):∃ k,(askW s d c o).kl c=some k/\k.job=none/\Told (askW s d c o) c:=by
 have hb:=b.fi.bd;have h1:=NI b (x:=⟨2,c,o.k,o.a,o.n,0⟩) rfl h;have h2:=MI (KF b _) h1.2.2 (WA s);exact OM (OG (KF b _) _) h2 (by unfold WA;omega)
theorem rN{s:Sh}{d:Wd}{n:Nat}{c:Int}{o:Op3}(b:wdOk s d n):wdOk s (askW s d c o) (n+1+WA s):=OG (KF b _) _
theorem vS{s:Sh}{d:Wd}{n:Nat}{c:Int}(h:AI s d n):AI s (d.goS s c) (n+1):=by
 have h1:=kC h (bB c);refine⟨DQ h.1,?_⟩;unfold Wd.goS;split
 ·split
  ·exact h1.2
  exact h.2
 exact h.2
theorem QG{s:Sh}{d:Wd}{n:Nat}{c:Int}(h:AI s d n)(i:Nat):AI s (d.goN s c i) (n+i):=by
 induction i with
 |zero=>exact h
 |succ i b=>exact vS b
structure Cn where
 f:Int
 t:Int
 l:Int
 o:Int
 deriving DecidableEq
def Cn.zero:Cn:=⟨0,0,0,0⟩
def Cn.add (x y:Cn):Cn:=⟨x.f + y.f,x.t + y.t,x.l + y.l,x.o + y.o⟩
def Cn.sum (x:Cn):Int:=x.f + x.t + x.l + x.o
def Cn.nn (x:Cn):Prop:=0<=x.f/\0<=x.t/\0<=x.l/\0<=x.o
theorem Cn.YP(x y:Cn):(x.add y).sum=x.sum+y.sum:=by simp only[Cn.sum,Cn.add];omega
theorem Cn.pO{x y:Cn}(h:x.nn)(k:y.nn):(x.add y).nn:=by unfold Cn.nn Cn.add at *;simp only;omega
theorem Cn.bd{x:Cn}{n:Int}(h:x.nn)(k:x.sum<=n):(0<=x.f/\x.f<=n)/\(0<=x.t/\x.t<=n)/\(0<=x.l/\x.l<=n)/\0<=x.o/\x.o<=n:=by unfold Cn.nn Cn.sum at *;omega
theorem Cn.add_assoc(x y z:Cn):(x.add y).add z=x.add (y.add z):=by simp only[Cn.add,Int.add_assoc]
theorem Cn.add_zero(x:Cn):x.add Cn.zero=x:=by simp[Cn.add,Cn.zero]
def JE (b:Bool) (k:Int):Cn:=if b=true then ⟨0,0,k,0⟩ else ⟨0,0,0,k⟩
theorem MV(b:Bool)(k:Int):(JE b k).sum=k:=by unfold JE Cn.sum;split<;>simp
theorem mX(b:Bool){k:Int}(h:0<=k):(JE b k).nn:=by unfold JE Cn.nn;split<;>simp[h]
def Hp.slC (h:Hp) (a z i:Int):Cn:=if h.sk a i=1 then ⟨z,0,0,0⟩ else if h.sk a i=3 then ⟨0,z,0,0⟩ else JE (h.sk a i==2 && h.lv (h.sa a i)) z
def Hp.slS (h:Hp) (a z:Int):Nat->Cn
 | 0=> Cn.zero
 | i + 1=> (h.slS a z i).add (h.slC a z i)
theorem Hp.DY(h:Hp)(a z i:Int):(h.slC a z i).sum=z:=by
 unfold Hp.slC;split
 ·simp[Cn.sum]
 split
 ·simp[Cn.sum]
 exact MV _ _
theorem Hp.xZ(h:Hp)(a i:Int){z:Int}(b:0<=z):(h.slC a z i).nn:=by
 unfold Hp.slC;split
 ·simp[Cn.nn,b]
 split
 ·simp[Cn.nn,b]
 exact mX _ b
theorem Hp.YS(h:Hp)(a z:Int)(i:Nat):(h.slS a z i).sum=z*i:=by
 induction i with
 |zero=>simp[Hp.slS,Cn.zero,Cn.sum];|succ i b=>show ((h.slS a z i).add (h.slC a z i)).sum=_;rw[Cn.YP,b,Hp.DY,Int.natCast_add,Int.mul_add];simp
theorem Hp.MT(h:Hp)(a:Int){z:Int}(b:0<=z)(i:Nat):(h.slS a z i).nn:=by
 induction i with
 |zero=>simp[Hp.slS,Cn.zero,Cn.nn]
 |succ i f=>exact Cn.pO f (h.xZ a i b)
def Hp.pgC (h:Hp) (a:Int):Cn:=
 if (h.hb a || !h.pb a)=true then JE (h.hb a && h.lv (h.hc a)) 64
 else if h.pk a=0 then ⟨64,0,0,0⟩
 else if h.pk a=2 then h.slS a (AA (h.pa a)) (mA (h.pa a)).toNat
 else ⟨0,64,0,0⟩
def Hp.cn (h:Hp):Nat->Cn
 | 0=> Cn.zero
 | k + 1=> (h.cn k).add (h.pgC k)
def Hp.count (h:Hp):Cn:=if h.ok=true then h.cn h.p.toNat else Cn.zero
theorem Hp.OY(h:Hp)(a:Int):(h.pgC a).sum=64:=by
 unfold Hp.pgC;split
 ·exact MV _ _
 rename_i h1;simp only[Bool.or_eq_true,Bool.not_eq_true',not_or,Bool.not_eq_false]at h1;split
 ·simp[Cn.sum]
 split
 ·rename_i h2;have:=Hp.pN (h:=h) (a:=a) (by rw[h1.2,h2];rfl);have hb:=JC (h.pa a);rw[Hp.YS,Int.toNat_of_nonneg hb.1];exact KX this
 simp[Cn.sum]
theorem Hp.WY(h:Hp)(a:Int):(h.pgC a).nn:=by
 unfold Hp.pgC;split
 ·exact mX _ (by decide)
 split
 ·simp[Cn.nn]
 split
 ·exact h.MT a (RH _).1 _
 simp[Cn.nn]
theorem Hp.DZ(h:Hp)(k:Nat):(h.cn k).sum=64*k:=by
 induction k with
 |zero=>simp[Hp.cn,Cn.zero,Cn.sum];|succ k b=>show ((h.cn k).add (h.pgC k)).sum=_;rw[Cn.YP,b,Hp.OY];omega
theorem Hp.ygi(h:Hp)(k:Nat):(h.cn k).nn:=by
 induction k with
 |zero=>simp[Hp.cn,Cn.zero,Cn.nn]
 |succ k b=>exact Cn.pO b (h.WY k)
end

section

open Go.RowKit

attribute [local go_sem ↓] Go.wp_at_zero Go.wp_at_succ

attribute [local go_sem ↓] YK WK

def aB (w:World) (N:Nat) (c:Cn):Prop:=w.heap[N]?=some (.cells #[c.f,c.t,c.l,c.o] 98 (0,0))
section

variable {w:World} {N:Nat} {c:Cn}

theorem aB.set0(h:aB w N c)(x:Int):aB (w.setCell ⟨N,0,.none⟩ (.int .i64 x)) N ⟨x,c.t,c.l,c.o⟩:=by unfold aB at *;rw[heap_setCell_same w N 0 _ _ _ h];rfl
theorem aB.set1(h:aB w N c)(x:Int):aB (w.setCell ⟨N,1,.none⟩ (.int .i64 x)) N ⟨c.f,x,c.l,c.o⟩:=by unfold aB at *;rw[heap_setCell_same w N 1 _ _ _ h];rfl
theorem aB.set2(h:aB w N c)(x:Int):aB (w.setCell ⟨N,2,.none⟩ (.int .i64 x)) N ⟨c.f,c.t,x,c.o⟩:=by unfold aB at *;rw[heap_setCell_same w N 2 _ _ _ h];rfl
theorem aB.set3(h:aB w N c)(x:Int):aB (w.setCell ⟨N,3,.none⟩ (.int .i64 x)) N ⟨c.f,c.t,c.l,x⟩:=by unfold aB at *;rw[heap_setCell_same w N 3 _ _ _ h];rfl
theorem aB.c0(h:aB w N c):w.cell? ⟨N,0,.none⟩=some (.int .i64 c.f):=iA h 0
theorem aB.c1(h:aB w N c):w.cell? ⟨N,1,.none⟩=some (.int .i64 c.t):=iA h 1
theorem aB.c2(h:aB w N c):w.cell? ⟨N,2,.none⟩=some (.int .i64 c.l):=iA h 2
theorem aB.c3(h:aB w N c):w.cell? ⟨N,3,.none⟩=some (.int .i64 c.o):=iA h 3
theorem aB.fr(h:aB w N c)(i:Nat):w.frozen? ⟨N,i,.none⟩=false:=DA h i
theorem aB.lt(h:aB w N c):N<w.heap.size:=(jE h)
theorem aB.below{w':World}(h:aB w N c)(hb:Below w.heap.size w w'):aB w' N c:=(hb.block N h.lt).trans h
end

abbrev atN (N:Nat):Nat->Prop:=fun k=> k=N
theorem rM(w:World)(N:Nat)(c:Cn)(b:Bool)(k:Int)(hc:aB w N c)(i:c.nn)(hs:c.sum<=100000)(m:0<=k/\k<=100000):
  Calls Tryz.prog 80 #[some N,b,k] w fun e w'=>e= .returned (.tuple #[])/\Only (atN N) w w'/\aB w' N (c.add (JE b k)):=by
 have hb:=Cn.bd i hs;have c2:=hc.c2;have c3:=hc.c3;have f2:=hc.fr 2;have j:=hc.fr 3;have n:=wrp (c.l+k);have q:=wrp (c.o+k);rcases jB b with rfl|rfl
 ·go_in;go_wp2;go_end0;refine⟨rfl,(Only.refl (atN N) w).setCell (p:=⟨N,2,.none⟩) (.inl rfl) _,?_⟩;have:=hc.set2 (c.l+k);simpa[Cn.add,JE] using this
 go_in;go_wp2;go_end0;refine⟨rfl,(Only.refl (atN N) w).setCell (p:=⟨N,3,.none⟩) (.inl rfl) _,?_⟩;have:=hc.set3 (c.o+k);simpa[Cn.add,JE] using this
theorem Only.sC{N:Nat}{w w':World}(o:Only (atN N) w w'){b:Nat}(hb:b<w.heap.size)(f:b≠N)(i:Nat):w'.cell? ⟨b,i,.none⟩=w.cell? ⟨b,i,.none⟩:=by
 have:=o.block b hb f;simp only[World.cell?];rw[this]
theorem Only.BI{N B:Nat}{b w w':World}(h:Below B b w)(o:Only (atN N) w w')(f:B<=w.heap.size)(i:B<=N):Below B b w':=h.trans (o.below f fun k j=>by rw[j];exact i)
theorem z2f(k:Int)(i:Nat)(h:(i:Int)<=mA k):AA k*i<=512/\0<=AA k*i:=by
 have h1:=RH k;have h2:=JC k;have:=WE (c:=AA k) (m:=(i:Int)) (C:=32) (M:=16) (by omega) (by omega);omega
theorem zyk(h:Hp)(v:Value)(a k:Int)(V w:World)(N:Nat)(c:Cn)(b:Bok V v h)(ha:0<=a/\a<h.p)(hB:Below V.heap.size V w)(hN:V.heap.size<=N)(hc:aB w N c)(hn:c.nn)(hs:c.sum<=5000):
  Calls Tryz.prog 82 #[DF h v,a,k,some N] w fun e w'=>e= .returned (.tuple #[])/\Only (atN N) w w'/\aB w' N (c.add (h.slS a (AA k) (mA k).toNat)):=by
 have b3:=fun i X (hX:Below V.heap.size V X) hi=>FK h v a i X (b.below hX) ha hi;have b1:=fun x X (hX:Below V.heap.size V X)=>BW h v x X (b.below hX);have R:=kD k;have b4:=aH k;have bk:=JC k;have bm:=RH k;have Z:=fun i=>z2f k i;obtain⟨q,hq⟩:∃ q:Nat,mA k=q:=⟨(mA k).toNat,by omega⟩;rw[hq]at R bk Z ⊢;rw[Int.toNat_natCast];generalize AA k=z at *;have I:c.add (h.slS a z 0)=c:=Cn.add_zero c;have J:∀ i,c.add (h.slS a z (i+1))=(c.add (h.slS a z i)).add (h.slC a z i):=fun i=>(Cn.add_assoc _ _ _).symm;have L:∀ i,(c.add (h.slS a z i)).nn:=fun i=>Cn.pO hn (h.MT a bm.1 i);have M:∀ i:Nat,i<=q->(c.add (h.slS a z i)).sum<=6000:=fun i hi=>by have:=Z i (by omega);rw[Cn.YP,h.YS];omega
 have Y:∀ i,h.slC a z i=if h.sk a i=1 then⟨z,0,0,0⟩ else if h.sk a i=3 then⟨0,z,0,0⟩ else JE (h.sk a i==2&&h.lv (h.sa a i)) z:=fun _=>rfl;generalize b6:(fun i=>c.add (h.slS a z i))=T at *;have b7:∀ i,c.add (h.slS a z i)=T i:=fun i=>by rw[<-b6]
 simp only[b7]at I J L M ⊢;clear b6 b7;replace b3:=hd' b3;replace b1:=hd' b1;replace R:=hd' R;replace b4:=hd' b4;replace I:=hd' I;replace J:=hd' J;replace L:=hd' L;replace M:=hd' M;replace Y:=hd' Y;have bp:=hc.lt;clear hq Z b;go_in;go_wp2_with fail;refine(b4 _).mono ?_;rintro e w2 ⟨rfl,hw⟩;obtain rfl:=hw.symm;clear hw;go_wp2_with fail;refine(R _).mono ?_;rintro e w2 ⟨rfl,hw⟩;obtain rfl:=hw.symm;clear hw;obtain⟨H,hH,b5⟩:=hidv w.heap.size;have r:H≠N:=by omega
 have g0:=jA w (.cells #[h.p,h.c,h.m,v] 107);have hW:Only (atN N) w (w.alloc (.cells #[h.p,h.c,h.m,v] 107)):=(Only.refl _ _).alloc _;have G:=hB.alloc hB.size (.cells #[h.p,h.c,h.m,v] 107);have bg:aB (w.alloc (.cells #[h.p,h.c,h.m,v] 107)) N c:=hc.below (br.alloc lr _);have s:H<(w.alloc (.cells #[h.p,h.c,h.m,v] 107)).heap.size:=by simp;omega
 have bn:N<(w.alloc (.cells #[h.p,h.c,h.m,v] 107)).heap.size:=by simp;omega
 rw[<-b5]at g0 ⊢;clear b5;generalize w.alloc (.cells #[h.p,h.c,h.m,v] 107)=W at *;have c0:W.cell? ⟨H,0,.none⟩=some (.int .i64 h.p):=iA g0 0;have c1:W.cell? ⟨H,1,.none⟩=some (.int .i64 h.c):=iA g0 1;have c2:W.cell? ⟨H,2,.none⟩=some (.int .i64 h.m):=iA g0 2;have c3:W.cell? ⟨H,3,.none⟩=some v:=iA g0 3;clear g0;go_wp2_with fail;go_loopw [15] (fun vi wr=>∃ i:Nat,i<=q/\vi= .int .i64 i/\Only (atN N) W wr/\aB wr N (T i)) (fun vi _=>q-(intOf vi).toNat);case atStart=>exact⟨0,Nat.zero_le _,rfl,Only.refl _ _,by rw[I];exact bg⟩
 case round=>
  obtain⟨i,hi,rfl,o,E⟩:=hrel;have d0:=(o.sC s r 0).trans c0;have d1:=(o.sC s r 1).trans c1;have d2:=(o.sC s r 2).trans c2;have d3:=(o.sC s r 3).trans c3;have bf:=Only.BI G o G.size hN;by_cases bj:i<q
  ·have C:=b3 i wr bf (by omega);have j:=J i;rw[Y i]at j;have b2:=L i;have bb:=M i hi;have bu:=Cn.bd b2 bb;have O:=b1 (h.sa a i);generalize h.sk a i=U at *;generalize h.sa a i=S at *;generalize h.lv S=lb at *;generalize T i=y at *;replace C:=hd' C;replace O:=hd' O;by_cases B:U=1
   ·rw[jP B]at j;subst B;replace j:=hd' j;go_wp2_with fail;refine C.out.mono ?_;rintro e w3 ⟨rfl,l⟩;have n:=(E.below l).below (br.alloc lr (.cells #[.int .i64 1,S] 168));have D:Only (atN N) W (w3.alloc (.cells #[.int .i64 1,S] 168)):=(o.trans (Only.of_below l) (fun _ _ h=>h)).alloc _;have q0:=n.c0;have q1:=n.fr 0;have w4:=wrp (y.f+z);go_wp2;refine⟨⟨i+1,by omega,by go_num,D.setCell (p:=⟨N,0,.none⟩) (.inl rfl) _,?_⟩,by simp[intOf];omega⟩;have:=n.set0 (y.f+z);rw[j];simpa[Cn.add] using this
   by_cases F:U=3
   ·rw[jN B,jP F]at j;subst F;replace j:=hd' j;clear B;go_wp2_with fail;refine C.out.mono ?_;rintro e w3 ⟨rfl,l⟩;have n:=(E.below l).below (br.alloc lr (.cells #[.int .i64 3,S] 168));have D:Only (atN N) W (w3.alloc (.cells #[.int .i64 3,S] 168)):=(o.trans (Only.of_below l) (fun _ _ h=>h)).alloc _;have q0:=n.c1;have q1:=n.fr 1;have w4:=wrp (y.t+z);go_wp2;refine⟨⟨i+1,by omega,by go_num,D.setCell (p:=⟨N,1,.none⟩) (.inl rfl) _,?_⟩,by simp[intOf];omega⟩;have:=n.set1 (y.t+z);rw[j];simpa[Cn.add] using this
   rw[jN B,jN F]at j;have bq:(U==1)=false:=by rw[beq_eq_false_iff_ne];exact B
   have bs:(U==3)=false:=by rw[beq_eq_false_iff_ne];exact F
   by_cases b9:U=2
   ·subst b9;replace j:T (i+1)=y.add (JE lb z):=j;replace j:=hd' j;clear B F;go_wp2_with fail;refine C.out.mono ?_;rintro e w3 ⟨rfl,l⟩;have n:=(E.below l).below (br.alloc lr (.cells #[.int .i64 2,S] 168));have D:Only (atN N) W (w3.alloc (.cells #[.int .i64 2,S] 168)):=(o.trans (Only.of_below l) (fun _ _ h=>h)).alloc _;have e0:=(D.sC s r 0).trans c0;have e1:=(D.sC s r 1).trans c1;have e2:=(D.sC s r 2).trans c2;have e3:=(D.sC s r 3).trans c3;have bc:=Only.BI G D G.size hN;go_wp2_with fail;refine(O _ bc).mono ?_;rintro e w4 ⟨rfl,b8⟩;have bh:=n.below b8;have o4:=D.trans (Only.of_below b8) (fun _ _ h=>h);go_wp2_with fail;refine(rM _ N y lb z bh b2 (by omega) (by omega)).mono ?_;rintro e w5 ⟨rfl,o5,b0⟩;go_wp2;exact⟨⟨i+1,by omega,by go_num,o4.trans o5 (fun _ _ h=>h),by rw[j];exact b0⟩,by simp[intOf];omega⟩
   have ba:(U==2)=false:=by rw[beq_eq_false_iff_ne];exact b9
   rw[ba,Bool.false_and]at j;replace j:=hd' j;clear O;go_wp2_with fail;refine C.out.mono ?_;rintro e w3 ⟨rfl,l⟩;have n:=(E.below l).below (br.alloc lr (.cells #[U,S] 168));have D:Only (atN N) W (w3.alloc (.cells #[U,S] 168)):=(o.trans (Only.of_below l) (fun _ _ h=>h)).alloc _;go_wp2_with fail;refine(rM _ N y false z n b2 (by omega) (by omega)).mono ?_;rintro e w5 ⟨rfl,o5,b0⟩;go_wp2;exact⟨⟨i+1,by omega,by go_num,D.trans o5 (fun _ _ h=>h),by rw[j];exact b0⟩,by simp[intOf];omega⟩
  have bi:i=q:=by omega
  subst bi;clear bj;have bv:¬ ((i:Int)<(i:Int)):=by omega
  go_wp2;go_end0;exact⟨rfl,hW.trans o (fun _ _ h=>h),E⟩
end

section

open Go.RowKit

attribute [local go_sem ↓] Go.wp_at_zero Go.wp_at_succ

theorem yQ(h:Hp)(v:Value)(w:World)(hr:RdZ .u64 w v h.xs)(hf:h.fit):
  Calls Tryz.prog 41 #[shV h,v] w fun e w'=>e= .returned (.agg #[h.count.f,h.count.t,h.count.l,h.count.o])/\Below w.heap.size w w':=by
 obtain⟨ao,cap,hv,_,_,_⟩:=hr.cells;generalize h.xs.length=n at hv;subst hv;have D:=fun X L=>vO h (.slice ao n cap) X (hr.below (w':=X) L);have c5:h.count=if h.ok=true then h.cn h.p.toNat else Cn.zero:=rfl;obtain⟨S,hS⟩:∃ S:Obj,S= .cells #[h.p,h.c,h.m] 23:=⟨_,rfl⟩;obtain⟨Z,hZ⟩:∃ Z:Obj,Z= .cells #[.int .i64 0,.int .i64 0,.int .i64 0,.int .i64 0] 98:=⟨_,rfl⟩;obtain⟨t1,t2,t3,t4,t5⟩:=MO w S Z Z;rcases jB h.ok with C|C;case inr=>
  rw[C]at D;rw[c5,C,jN Bool.false_ne_true];replace D:=hd' D;subst hS hZ;go_in;go_wp2_with fail;refine(D _ t5).mono ?_;rintro e w1 ⟨rfl,z⟩;have s:=z.alloc z.size (.cells #[h.p,h.c,h.m,.slice ao n cap] 107);have r1:=(s.block _ (by rw[t4];omega)).trans t2;have r2:=(s.block _ (by rw[t4];omega)).trans t3;have hB:=t5.trans (s.mono t5.size);have a0:=(iA r1 0).trans (show _=some (.int .i64 0) from rfl);have a1:=(iA r1 1).trans (show _=some (.int .i64 0) from rfl);have a2:=(iA r1 2).trans (show _=some (.int .i64 0) from rfl);have a3:=(iA r1 3).trans (show _=some (.int .i64 0) from rfl);have aF:=DA r1;have b0:=(iA r2 0).trans (show _=some (.int .i64 0) from rfl);have b1:=(iA r2 1).trans (show _=some (.int .i64 0) from rfl);have b2:=(iA r2 2).trans (show _=some (.int .i64 0) from rfl);have b3:=(iA r2 3).trans (show _=some (.int .i64 0) from rfl);go_upto_region 3 with fail;generalize w1.alloc (.cells #[h.p,h.c,h.m,.slice ao n cap] 107)=W at *;obtain⟨H,hH,J⟩:=hidv w.heap.size;rw[<-J]at a0 a1 a2 a3 b0 b1 b2 b3 aF hB ⊢;clear J t1 t2 t3 t4 t5 r1 r2 z s;have b4:H<=H+1:=by omega
  have bx:H+1≠H+1+1:=by omega
  generalize H+1+1=N at *;generalize H+1=R at *;go_wp2;exact bodyPost_ret (v:= .agg #[.int .i64 0,.int .i64 0,.int .i64 0,.int .i64 0]) (by simp[results,Tryz.results41,go_sem,a0,a1,a2,a3]) rfl ⟨rfl,by rw[<-hH];exact((((hB.setCell b4 _).setCell b4 _).setCell b4 _).setCell b4 _)⟩
 case inl=>
  have b:Bok w (.slice ao n cap) h:=⟨C,hr,hf⟩;obtain⟨bp,_,_,_⟩:=b.bd;rw[C]at D;rw[c5,C,jP rfl];have bm:=fun a X (L:Below w.heap.size w X) ha=>mH h (.slice ao n cap) a X (b.below L) ha;have bg:=fun a X (L:Below w.heap.size w X) ha=>zy8 h (.slice ao n cap) a X (b.below L) ha;have bi:=fun x X (L:Below w.heap.size w X)=>BW h (.slice ao n cap) x X (b.below L);obtain⟨P,hP⟩:∃ P:Nat,Hid (h.p=P):=⟨h.p.toNat,hd' (by omega)⟩;have bw:h.p.toNat=P:=by have:=hP.out;omega
  rw[bw];clear bw;have T:∀ k:Nat,h.cn (k+1)=(h.cn k).add (h.pgC k):=fun _=>rfl;have O:∀ k:Nat,k<=64->(h.cn k).nn/\(h.cn k).sum<=4096:=fun k hk=>⟨h.ygi k,by rw[h.DZ];omega⟩;have bj:∀ a:Int,h.pgC a=if (h.hb a || !h.pb a)=true then JE (h.hb a&&h.lv (h.hc a)) 64 else if h.pk a=0 then⟨64,0,0,0⟩ else if h.pk a=2 then h.slS a (AA (h.pa a)) (mA (h.pa a)).toNat else⟨0,64,0,0⟩:=fun _=>rfl;replace D:=hd' D;replace bm:=hd' bm;replace bg:=hd' bg;replace bi:=hd' bi;replace T:=hd' T;replace O:=hd' O;replace bj:=hd' bj;replace C:=hd' C;subst hS hZ;go_in;go_wp2_with fail;refine(D _ t5).mono ?_;rintro e w1 ⟨rfl,z⟩;have s:=z.alloc z.size (.cells #[h.p,h.c,h.m,.slice ao n cap] 107);have r0:=(s.block _ (by rw[t4];omega)).trans t1;have r1:=(s.block _ (by rw[t4];omega)).trans t2;have r2:=(s.block _ (by rw[t4];omega)).trans t3;have r3:=jA w1 (.cells #[h.p,h.c,h.m,.slice ao n cap] 107);have hB:=t5.trans (s.mono t5.size);have bc:=z.size;go_upto_region 3 with fail;obtain⟨H,hH,J⟩:=hidv w.heap.size;obtain⟨K,hK,bv⟩:=hidv w1.heap.size;rw[<-bv]at r3 ⊢;rw[<-J]at r0 r1 r2 ⊢;have cl:H+2<K:=by rw[t4]at bc;omega
  have lS:=(jE r0);have lR:=(jE r1);have I:=(jE r3);have ba:w.heap.size<=H+1+1:=by omega
  have c7:aB (w1.alloc (.cells #[h.p,h.c,h.m,.slice ao n cap] 107)) (H+1+1) Cn.zero:=r2;clear bv J t1 t2 t3 t4 t5 z s bc r2;generalize w1.alloc (.cells #[h.p,h.c,h.m,.slice ao n cap] 107)=W at *;have s0:W.cell? ⟨H,0,.none⟩=some (.int .i64 h.p):=iA r0 0;have k0:W.cell? ⟨K,0,.none⟩=some (.int .i64 h.p):=iA r3 0;have k1:W.cell? ⟨K,1,.none⟩=some (.int .i64 h.c):=iA r3 1;have k2:W.cell? ⟨K,2,.none⟩=some (.int .i64 h.m):=iA r3 2;have k3:W.cell? ⟨K,3,.none⟩=some (.slice ao n cap):=iA r3 3;have r:K≠H+1+1:=by omega
  have ck:H≠H+1+1:=by omega
  have bx:H+1≠H+1+1:=by omega
  rw[hP]at s0;clear r0 r3;have bb:w.heap.size<=H+1:=by have:=hH.out;omega
  have cf:K<H+1+1\/H+1+1<K:=by omega
  generalize H+1+1=N at *;generalize H+1=R at *;go_wp2_with fail;go_loopw [24] (fun vi wr=>∃ i:Nat,i<=P/\vi= .int .i64 i/\Only (atN N) W wr/\aB wr N (h.cn i)) (fun vi _=>P-(intOf vi).toNat);case atStart=>exact⟨0,Nat.zero_le _,rfl,Only.refl _ _,c7⟩
  case round=>
   obtain⟨i,hi,rfl,E,F⟩:=hrel;have bu:=Only.BI hB E hB.size ba;have d0:=(E.sC I r 0).trans k0;have d1:=(E.sC I r 1).trans k1;have d2:=(E.sC I r 2).trans k2;have d3:=(E.sC I r 3).trans k3;by_cases cb:i<P
   ·have U:0<=(i:Int)/\(i:Int)<h.p:=by have:=hP.out;omega
    have c6:i<=64:=by have:=hP.out;omega
    obtain⟨b8,cc⟩:=O i c6;have cm:=Cn.bd b8 cc;have q:=T i;rw[bj]at q;have b9:=bm i wr bu U;have b7:=fun X L=>bg i X L U;have bh:=bi (h.hc i);have bn:=fun X N c L hN hc hn hs=>zyk h (.slice ao n cap) i (h.pa i) w X N c b U L hN hc hn hs;generalize h.pk i=pk at *;generalize h.pa i=pa at *;generalize h.pn i=pn at *;generalize h.pb i=pb at *;generalize h.hb i=hb at *;generalize h.hc i=hc at *;generalize h.lv hc=lb at *;generalize h.cn i=y at *;replace b9:=hd' b9;replace b7:=hd' b7;replace bh:=hd' bh;replace bn:=hd' bn;replace U:=hd' U
    have fin:Hid (∀ X c,Only (atN N) W X->aB X N c->h.cn (i+1)=c->∃ j:Nat,j<=P/\Value.int .i64 ((i:Int)+1)= .int .i64 j/\Only (atN N) W X/\aB X N (h.cn j)):=
     hd' fun X c ho hc e=>⟨i+1,by omega,by go_num,ho,by rw[e];exact hc⟩
    go_wp2_with fail;refine b9.out.mono ?_;rintro e w3 ⟨rfl,b5⟩;have o3:Only (atN N) W (w3.alloc (.cells #[pk,pa,pn] 158)):=(E.trans (Only.of_below b5) (fun _ _ h=>h)).alloc _;have c4:=(F.below b5).below (br.alloc lr (.cells #[pk,pa,pn] 158));have g3:=jA w3 (.cells #[pk,pa,pn] 158);have c9:w3.heap.size≠N:=by have:=(F.below b5).lt;omega
    go_upto_region 9 with fail;generalize w3.heap.size=G at g3 c9 ⊢;generalize w3.alloc (.cells #[pk,pa,pn] 158)=W3 at *;have lG:=(jE g3);have bq:=Only.BI hB o3 hB.size ba;have d0:=(o3.sC I r 0).trans k0;have d1:=(o3.sC I r 1).trans k1;have d2:=(o3.sC I r 2).trans k2;have d3:=(o3.sC I r 3).trans k3;go_wp2_with fail;refine(b7 _ bq).mono ?_;rintro e w4 ⟨rfl,b6⟩;have Y:=o3.trans (Only.of_below b6) (fun _ _ h=>h);have B:=c4.below b6;have bs:=Only.BI hB Y hB.size ba;have d0:=(Y.sC I r 0).trans k0;have d1:=(Y.sC I r 1).trans k1;have d2:=(Y.sC I r 2).trans k2;have d3:=(Y.sC I r 3).trans k3;have g4:=(b6.block _ lG).trans g3;have cg:=iA g4;have n0:=B.c0;have n1:=B.c1;have nF:=B.fr;clear b9 b7 b5 b6 g3 g4 o3 c4 bq;rcases jB hb with bf|bf
    ·subst bf;replace q:h.cn (i+1)=y.add (JE lb 64):=q;replace q:=hd' q;go_wp2_with fail;refine(bh _ bs).mono ?_;rintro e w5 ⟨rfl,bz⟩;have o5:=Y.trans (Only.of_below bz) (fun _ _ h=>h);have c8:=B.below bz;go_wp2_with fail;refine(rM _ _ y lb 64 c8 b8 (by omega) (by omega)).mono ?_;rintro e w6 ⟨rfl,o6,M⟩;go_wp2;exact⟨fin _ _ (o5.trans o6 (fun _ _ h=>h)) M q.out,by simp[intOf];omega⟩
    subst bf;rcases jB pb with bk|bk
    ·subst bk;rw[jN (by simp)]at q;by_cases h0:pk=0
     ·rw[jP h0]at q;subst h0;replace q:=hd' q;have cd:=wrp (y.f+64);go_wp2;refine⟨fin _ _ (Y.setCell (p:=⟨N,0,.none⟩) (.inl rfl) _) (B.set0 (y.f+64)) ?_,by simp[intOf];omega⟩;rw[q];simp[Cn.add]
     rw[jN h0]at q;have ch:(pk==0)=false:=by rw[beq_eq_false_iff_ne];exact h0
     by_cases h2:pk=2
     ·rw[jP h2]at q;subst h2;replace q:=hd' q;go_wp2_with fail;refine(bn _ _ y bs ba B b8 (by omega)).mono ?_;rintro e w6 ⟨rfl,o6,M⟩;go_wp2;exact⟨fin _ _ (Y.trans o6 (fun _ _ h=>h)) M q.out,by simp[intOf];omega⟩
     rw[jN h2]at q;have cj:(pk==2)=false:=by rw[beq_eq_false_iff_ne];exact h2
     replace q:=hd' q;have cd:=wrp (y.t+64);go_wp2;refine⟨fin _ _ (Y.setCell (p:=⟨N,1,.none⟩) (.inl rfl) _) (B.set1 (y.t+64)) ?_,by simp[intOf];omega⟩;rw[q];simp[Cn.add]
    subst bk;replace q:h.cn (i+1)=y.add (JE false 64):=q;replace q:=hd' q;go_wp2_with fail;refine(rM _ _ y false 64 B b8 (by omega) (by omega)).mono ?_;rintro e w6 ⟨rfl,o6,M⟩;go_wp2;exact⟨fin _ _ (Y.trans o6 (fun _ _ h=>h)) M q.out,by simp[intOf];omega⟩
   have ca:i=P:=by omega
   subst ca;clear cb;have cp:¬ ((i:Int)<(i:Int)):=by omega
   have n0:=F.c0;have n1:=F.c1;have n2:=F.c2;have n3:=F.c3;have V:=(E.block _ lR bx).trans r1;have a0:=(iA V 0).trans (show _=some (.int .i64 0) from rfl);have a1:=(iA V 1).trans (show _=some (.int .i64 0) from rfl);have a2:=(iA V 2).trans (show _=some (.int .i64 0) from rfl);have a3:=(iA V 3).trans (show _=some (.int .i64 0) from rfl);have aF:=DA V;go_wp2;exact bodyPost_ret (v:= .agg #[.int .i64 (h.cn i).f,.int .i64 (h.cn i).t,.int .i64 (h.cn i).l,.int .i64 (h.cn i).o]) (by simp[results,Tryz.results41,go_sem,a0,a1,a2,a3]) rfl ⟨rfl,((((bu.setCell bb _).setCell bb _).setCell bb _).setCell bb _)⟩
attribute [local go_sem ↓] YK WK

def Hp.slB (h:Hp) (a:Int):Nat->List Bk
 | 0=> []
 | i + 1=> h.slB a i ++ (if h.sk a i=3 then [⟨a * 64 + i * AA (h.pa a),AA (h.pa a)⟩] else [])
def Hp.pgB (h:Hp) (a:Int):List Bk:=
 if h.pk a=3 then [⟨a * 64,h.pa a * 64⟩] else if h.pk a=2 then h.slB a (mA (h.pa a)).toNat else []
def Hp.blT (h:Hp):Nat->List Bk
 | 0=> []
 | k + 1=> h.blT k ++ h.pgB k
def Hp.bl (h:Hp):List Bk:=if h.ok=true then h.blT h.p.toNat else []
end

section

open Go.RowKit

attribute [local go_sem ↓] Go.wp_at_zero Go.wp_at_succ

def Hp.FF (h:Hp) (a:Int):Nat->Bool
 | 0=> true
 | i + 1=> h.FF a i && h.sw a i==0
def Hp.bare (h:Hp) (a:Int):Bool:=h.FF a 16
def Hp.okS (h:Hp) (a k i:Int):Bool:=if i < mA k then (h.sk a i==2 && decide (h.sa a i < h.c)) || ((h.sk a i==1 || h.sk a i==3) && h.sa a i==k) else h.sw a i==0
def Hp.supT (h:Hp) (a k:Int):Nat->Bool
 | 0=> true
 | i + 1=> h.supT a k i && h.okS a k i
def Hp.sup (h:Hp) (a k:Int):Bool:=h.supT a k 16
def Hp.rowT (h:Hp) (a:Int):Nat->Bool
 | 0=> true
 | i + 1=> h.rowT a i && (h.pk (a + 1 + i)==4 && h.pa (a + 1 + i)==a)
def Hp.rowB (h:Hp) (a n:Int):Bool:=h.rowT a (n - 1).toNat
def Hp.snd (h:Hp) (a:Int):Bool:=
 if h.pb a=true then
  (if h.pk a=2 then h.sup a (h.pa a)
   else if h.pk a=3 then h.bare a && h.rowB a (h.pa a)
   else if h.pk a=4 then h.bare a && (h.pk (h.pa a)==1 || (h.pk (h.pa a)==3 && decide (a < h.pa a + h.pa (h.pa a))))
   else if h.pk a=0 then h.bare a
   else true)
 else false
def Hp.sndT (h:Hp):Nat->Bool
 | 0=> true
 | i + 1=> h.sndT i && h.snd i
theorem Hp.jR(h:Hp){n:Nat}(b:h.sndT n=true):∀ i,i<n->h.snd (i:Nat)=true:=by
 induction n with
 |zero=>intro i hi;omega;|succ n f=>
  intro i hi;have h1:(h.sndT n&&h.snd n)=true:=b;rw[jC]at h1;rcases Nat.lt_or_ge i n with h2|h2
  ·exact f h1.1 i h2
  have:i=n:=by omega
  subst this;exact h1.2
def Hp.sound (h:Hp):Bool:=h.ok && h.sndT h.p.toNat
theorem Hp.kinds{h:Hp}{a:Int}(b:h.pb a=true):h.pk a=0\/h.pk a=1\/h.pk a=2\/h.pk a=3\/h.pk a=4:=by
 have hb:=(h.aJ a).1;have:h.pk a<=4:=by
  unfold Hp.pk;rw[jP b];unfold Hp.pb MA at b;simp only[jC,beq_iff_eq]at b;have h1:=b.1.1;generalize h.pw a=x at *;false_or_by_contra;rename_i hc;have:RE (PA x) (nA x 0) (nA x 1)=true:=by unfold RE;simp only[Bool.or_eq_true,decide_eq_true_eq];left;left;right;omega
  unfold VA at h1;rw[jP this]at h1;subst h1;exact hc (by decide)
 omega
def Hp.en (h:Hp):Nat->Int
 | 0=> 0
 | k + 1=> if h.pk k=3 then k + h.pa k else max (h.en k) (k + 1)
end

section

open Go.RowKit

theorem yh6:(Tryz.prog.info? 3).isSome=true:=by kernel_rfl
theorem yiv:Tryz.prog.cellsOf 3=1:=by kernel_rfl
theorem NQ(w:World)(d:Nat)(f b:List Int):∀ (l:List Nat),(∀ i ∈ l,i<f.length/\i<b.length)->(Op.eqItems (d+1) 3 1 (f.map (Value.int .i64)).toArray (b.map (Value.int .i64)).toArray l).run Tryz.prog w= .ok (l.all fun i=>f.getD i 0==b.getD i 0) w
 | [],_=>by simp[Op.eqItems]
 |i::l,h=>by
  have hi:=h i (by simp)
  have o:=NQ w d f b l fun j n=>h j (by simp[n])
  have m:=Tryz.underlying3
  have p:(part 3 (f.map (Value.int .i64)).toArray (i*1)).run Tryz.prog w= .ok (.int .i64 (f.getD i 0)) w:=by
   simp[part,isAgg,run_underlying m,List.getD,List.getElem?_eq_getElem hi.1]
  have q:(part 3 (b.map (Value.int .i64)).toArray (i*1)).run Tryz.prog w= .ok (.int .i64 (b.getD i 0)) w:=by
   simp[part,isAgg,run_underlying m,List.getD,List.getElem?_eq_getElem hi.2]
  simp only[Op.eqItems,Sem.run_bind,p,q,run_equalIn_int w d _ .i64 .i64 _ _ m,Result.andThen_ok,List.all_cons]
  cases hb:(f.getD i 0==b.getD i 0)
  ·simp
  ·simpa using o
theorem yjm(a b c d:Int)(w:World):∃ r:Bool,(Op.equal 166 (.agg #[a,b]) (.agg #[c,d])).run Tryz.prog w= .ok r w/\r=([0,1].all fun i=>[a,b].getD i 0== [c,d].getD i 0):=by
 obtain⟨f,hi⟩:=Option.isSome_iff_exists.1 yh6;refine⟨_,?_,rfl⟩;show (Op.equalIn (9998+2) 166 (.agg ([a,b].map (Value.int .i64)).toArray) (.agg ([c,d].map (Value.int .i64)).toArray)).run Tryz.prog w=_;rw[run_equalIn_array w (9998+1) _ _ Tryz.underlying166 hi,yiv,NQ w 9998 [a,b] [c,d] _ (fun i hi=>by have:=List.mem_range.1 hi;simp;omega)];rfl
theorem QQ(e:Bool)(a b:Int)(w:World):(Instr.checkKey e 10000 166 (.agg #[a,b])).run Tryz.prog w= .ok () w:=by
 kernel_rfl
def wG (es:Array MapEntry):Prop:=∀ e ∈ es.toList,(∃ a b:Int,e.key= .agg #[a,b])/\e.val= .agg #[]
theorem wG.nil:wG #[]:=fun e b=>by simp at b
theorem wG.push{es:Array MapEntry}(h:wG es)(a b:Int)(n:Nat):wG (es.push ⟨.agg #[a,b],.agg #[],n⟩):=fun e f=>by
 simp only[Array.toList_push,List.mem_append,List.mem_singleton]at f
 rcases f with f|f
 ·exact h e f
 ·subst f;exact⟨⟨a,b,rfl⟩,rfl⟩
theorem TQ(a b:Int):∀ (es:List MapEntry) (i:Nat),(∀ e ∈ es,(∃ a b:Int,e.key= .agg #[a,b])/\e.val= .agg #[])->
  ∃ r:Option Nat,(∀ w:World,(Instr.findAsking 166 (.agg #[a,b]) es i).run Tryz.prog w= .ok (r.map fun j=>(j,.agg #[])) w)/\((∀ e ∈ es,e.key≠ .agg #[a,b])->r=none)
 | [],i,_=>⟨none,fun w=>rfl,fun _=>rfl⟩
 |e::es,i,h=>by
  obtain⟨⟨c,d,l⟩,s⟩:=h e (by simp)
  obtain⟨r,p,o⟩:=TQ a b es (i+1) fun e m=>h e (by simp[m])
  have f:=fun w=>yjm a b c d w
  cases hb:([0,1].all fun i=>[a,b].getD i 0== [c,d].getD i 0)
  ·refine⟨r,fun w=>?_,fun l=>o fun e m=>l e (by simp[m])⟩
   obtain⟨q,h1,h2⟩:=f w
   rw[hb]at h2;subst h2
   simp only[Instr.findAsking,Sem.run_bind,l,h1,Result.andThen_ok]
   exact p w
  ·refine⟨some i,fun w=>?_,fun n=>(n e (by simp) ?_).elim⟩
   rotate_left
   ·simp only[List.all_cons,List.all_nil,Bool.and_true,jC,List.getD_cons_zero,List.getD_cons_succ,beq_iff_eq]at hb
    rw[l,hb.1,hb.2]
   obtain⟨q,h1,h2⟩:=f w
   rw[hb]at h2;subst h2
   simp only[Instr.findAsking,Sem.run_bind,l,h1,Result.andThen_ok]
   simp[s]
theorem yjs(a b:Int)(es:Array MapEntry)(h:wG es):∃ r:Option Nat,(∀ w:World,(Instr.findKey 166 (.agg #[a,b]) es.toList).run Tryz.prog w= .ok (r.map fun j=>(j,.agg #[])) w)/\((∀ e ∈ es.toList,e.key≠ .agg #[a,b])->r=none):=by
 obtain⟨r,n,i⟩:=TQ a b es.toList 0 h;have hu:=Tryz.underlying166;cases hes:es.toList with
 |nil=>refine⟨none,fun w=>?_,fun _=>rfl⟩;simp[Instr.findKey,Instr.findNow,run_underlying hu]
 |cons e l=>
  refine⟨r,fun w=>?_,fun f=>i (hes ▸ f)⟩;rw[<-hes];have m:∀ d:TypeDesc,(∀ k,d≠ .int k)->d≠ .string->d≠ .bool->Instr.findNow d (.agg #[a,b]) es.toList 0=none:=fun d h1 h2 h3=>by rw[hes];obtain⟨⟨c,d',f⟩,_⟩:=h e (by rw[hes];simp);simp only[Instr.findNow,f];cases d<;>simp_all [Instr.sameNow]
  simp only[Instr.findKey,Sem.run_bind,run_underlying hu,Result.andThen_ok];rw[m _ (fun k=>by simp) (by simp) (by simp)];exact n w
theorem yju(w:World):(zeroValue 178).run Tryz.prog w= .ok (.agg #[]) w:=by kernel_rfl
def aG (w:World) (M:Nat) (es:Array MapEntry) (c:Nat):World:= { w with heap:=w.heap.setIfInBounds M (.map es c) }
theorem yij{w:World}{M:Nat}(es:Array MapEntry)(c:Nat)(h:M<w.heap.size):(aG w M es c).heap[M]?=some (.map es c):=by
 unfold aG;simp[h]
theorem yh4(w:World)(M:Nat)(es:Array MapEntry)(c:Nat):(aG w M es c).heap.size=w.heap.size:=by simp[aG]
theorem map2(a b:Int)(es:Array MapEntry)(h:wG es):∃ r:Bool,(∀ (w:World) (M c:Nat),w.heap[M]?=some (.map es c)->(Instr.lookup 172 (.map (some M)) (.agg #[a,b]) true).run Tryz.prog w= .ok (.tuple #[.agg #[],r]) w)/\(r=false->∀ (w:World) (M c:Nat),w.heap[M]?=some (.map es c)->(Instr.mapUpdate 172 (.map (some M)) (.agg #[a,b]) (.agg #[])).run Tryz.prog w= .ok () (aG w M (es.push ⟨.agg #[a,b],.agg #[],c⟩) (c+1)))/\((∀ e ∈ es.toList,e.key≠ .agg #[a,b])->r=false):=by
 obtain⟨r,n,m⟩:=yjs a b es h;have hu:=Tryz.underlying172;refine⟨r.isSome,fun w M c f=>?_,fun q w M c f=>?_,fun p=>by rw[m p];rfl⟩
 ·have l:(getObj M).run Tryz.prog w= .ok (.map es c) w:=by simp[getObj,Sem.run,f]
  have s:=yju w;have hc:=QQ es.isEmpty a b w;have i:=n w;cases r with
  |none=>simp[Instr.lookup,run_underlying hu,l,hc,i,s]
  |some j=>simp[Instr.lookup,run_underlying hu,l,hc,i]
 have l:(getObj M).run Tryz.prog w= .ok (.map es c) w:=by simp[getObj,Sem.run,f]
 have hc:=QQ false a b w;have i:=n w;cases r with
 |some j=>cases q;|none=>
  have hs:∀ o,(setObj M o).run Tryz.prog w= .ok () {w with heap:=w.heap.setIfInBounds M o}:=fun o=>by simp[setObj,Sem.run,f]
  simp[Instr.mapUpdate,run_underlying hu,l,hc,i,hs,aG]
end

section

open Go.RowKit

attribute [local go_sem ↓] Go.wp_at_zero Go.wp_at_succ

def Hp.mx (h:Hp) (c i:Int):Int:=wd h.xs (h.c + h.p + h.p * 16 + c * h.m + i)
structure Hp.pK (h:Hp):Prop where
 en:∀ c i:Nat,(c:Int) < h.c->(i:Int) < h.m->h.mx c i≠0->HC h.p h.c h.m (h.mx c i)=true/\h.pk (nA (h.mx c i) 0)=2/\h.pa (nA (h.mx c i) 0)=nA (h.mx c i) 2/\h.sk (nA (h.mx c i) 0) (nA (h.mx c i) 1)=2/\h.sa (nA (h.mx c i) 0) (nA (h.mx c i) 1)=c
 on:∀ c i c' i':Nat,(c:Int) < h.c->(i:Int) < h.m->(c':Int) < h.c->(i':Int) < h.m->h.mx c i≠0->h.mx c' i'≠0->nA (h.mx c i) 0=nA (h.mx c' i') 0->nA (h.mx c i) 1=nA (h.mx c' i') 1->c=c'/\i=i'
theorem Bok.yry{w:World}{v:Value}{h:Hp}(b:Bok w v h):∃ ao cap,v= .slice ao h.xs.length cap/\
  ∀ c i:Nat,(c:Int)<h.c->(i:Int)<h.m->∃ (g off:Nat) (k:Nat),ao=some ⟨g,off,.none⟩/\g<w.heap.size/\eC h.p h.c h.m c i=(k:Int)/\k<h.xs.length/\w.cell? ⟨g,off+k,.none⟩=some (.int .u64 (h.mx c i))/\0<=h.mx c i/\h.mx c i<18446744073709551616:=by
 obtain⟨z,B,D,E⟩:=b.bd;obtain⟨ao,cap,n,_,_,_⟩:=b.rd.cells;refine⟨ao,cap,n,fun c i hc hi=>?_⟩;have q:=WE (c:=(c:Int)) (m:=h.m) (C:=h.c-1) (M:=h.m) (by omega) (by omega);have t:(h.c-1)*h.m=h.c*h.m-h.m:=by rw[Int.sub_mul,Int.one_mul]
 have h0:=WE (c:=h.c) (m:=h.m) (C:=12) (M:=8) (by omega) (by omega);obtain⟨g,off,l,k,f,_,r,s,j,y⟩:=b.word (h.c+h.p+h.p*16+c*h.m+i) (by omega) (by omega);rw[n]at f;injection f with o _ _;refine⟨g,off,k,o,r,?_,j,y,h.JK b.fit _⟩;unfold eC;rw[jP ⟨b.may,IA.2 (by omega),IA.2 (by omega)⟩,s]
def MapG (w:World) (M:Nat) (h:Hp) (c i:Nat):Prop:=∃ es n,wG es/\(∀ e ∈ es.toList,∃ d j:Nat,(d < c/\(j:Int) < h.m\/d=c/\j < i)/\h.mx d j≠0/\e.key= .agg #[.int .i64 (nA (h.mx d j) 0),.int .i64 (nA (h.mx d j) 1)])/\w.heap[M]?=some (.map es n)
theorem MapG.below{w w':World}{M:Nat}{h:Hp}{c i:Nat}(g:MapG w M h c i)(hb:Below w.heap.size w w'):MapG w' M h c i:=by
 obtain⟨es,n,j,f,b⟩:=g;exact⟨es,n,j,f,(hb.block M (jE b)).trans b⟩
theorem MapG.skip{w:World}{M:Nat}{h:Hp}{c i:Nat}(g:MapG w M h c i):MapG w M h c (i+1):=by
 obtain⟨es,n,m,f,l⟩:=g;refine⟨es,n,m,fun e b=>?_,l⟩;obtain⟨d,j,h1,h2,h3⟩:=f e b;exact⟨d,j,by omega,h2,h3⟩
theorem MapG.next{w:World}{M:Nat}{h:Hp}{c q:Nat}(g:MapG w M h c q)(o:h.m=q):MapG w M h (c+1) 0:=by
 obtain⟨es,n,l,f,i⟩:=g;refine⟨es,n,l,fun e b=>?_,i⟩;obtain⟨d,j,h1,h2,h3⟩:=f e b;exact⟨d,j,by omega,h2,h3⟩
theorem MapG.new{w:World}{M:Nat}{h:Hp}{c i:Nat}(o:h.pK)(g:MapG w M h c i)(hc:(c:Int)<h.c)(hi:(i:Int)<h.m)(h0:h.mx c i≠0):∃ es n,w.heap[M]?=some (.map es n)/\(∀ (w:World) (M n:Nat),w.heap[M]?=some (.map es n)->(Instr.lookup 172 (.map (some M)) (.agg #[.int .i64 (nA (h.mx c i) 0),.int .i64 (nA (h.mx c i) 1)]) true).run Tryz.prog w= .ok (.tuple #[.agg #[],.bool false]) w)/\(∀ (w:World) (M n:Nat),w.heap[M]?=some (.map es n)->(Instr.mapUpdate 172 (.map (some M)) (.agg #[.int .i64 (nA (h.mx c i) 0),.int .i64 (nA (h.mx c i) 1)]) (.agg #[])).run Tryz.prog w= .ok () (aG w M (es.push ⟨.agg #[.int .i64 (nA (h.mx c i) 0),.int .i64 (nA (h.mx c i) 1)],.agg #[],n⟩) (n+1)))/\(∀ (w:World) (M n:Nat),w.heap[M]?=some (.map es n)->MapG (aG w M (es.push ⟨.agg #[.int .i64 (nA (h.mx c i) 0),.int .i64 (nA (h.mx c i) 1)],.agg #[],n⟩) (n+1)) M h c (i+1)):=by
 obtain⟨es,n,s,q,z⟩:=g;obtain⟨r,h1,h2,h3⟩:=map2 (nA (h.mx c i) 0) (nA (h.mx c i) 1) es s;have B:r=false:=h3 fun e f b=>by obtain⟨d,j,k1,l,p⟩:=q e f;rw[p]at b;simp only[Value.agg.injEq,Array.mk.injEq,List.cons.injEq,Value.int.injEq,and_true,true_and]at b;have:=o.on d j c i (by omega) (by omega) hc hi l h0 b.1 b.2;omega
 subst B;refine⟨es,n,z,h1,h2 rfl,fun w M n y=>⟨_,_,s.push _ _ n,fun e f=>?_,yij _ _ (jE y)⟩⟩;simp only[Array.toList_push,List.mem_append,List.mem_singleton]at f;rcases f with f|rfl
 ·obtain⟨d,j,k1,l,p⟩:=q e f;exact⟨d,j,by omega,l,p⟩
 exact⟨c,i,by omega,h0,rfl⟩
theorem yog(h:Hp)(v:Value)(w:World)(b:Bok w v h)(o:h.pK):
  Calls Tryz.prog 52 #[DF h v] w fun e w'=>e= .returned (.bool true)/\Below w.heap.size w w':=by
 obtain⟨b1,b2,b3,b4⟩:=b.bd;obtain⟨ao,cap,hv,l⟩:=b.yry;have b7:=fun x i=>qL h.p h.c h.m x i;have Z:=fun (c i:Nat) X (hX:Below w.heap.size w X) h0 h1 (k0:(c:Int)<h.c) (k1:(i:Int)<h.m) (k2:h.mx c i≠0)=>yov h v c (h.mx c i) X (b.below hX) h0 h1 (o.en c i k0 k1 k2).1 (o.en c i k0 k1 k2).2.1 (o.en c i k0 k1 k2).2.2.1 (o.en c i k0 k1 k2).2.2.2.1 (o.en c i k0 k1 k2).2.2.2.2;generalize h.xs.length=n at hv l;subst hv;obtain⟨C,hC⟩:∃ C:Nat,Hid (h.c=C):=⟨h.c.toNat,hd' (by omega)⟩;obtain⟨Q,hQ⟩:∃ Q:Nat,Hid (h.m=Q):=⟨h.m.toNat,hd' (by omega)⟩;replace l:=hd' l;replace b7:=hd' b7;replace Z:=hd' Z;have bx:=hd' o;clear b o;have bv:∀ u:World,(Instr.makeMap 172 none).run Tryz.prog u= .ok (.map (some u.heap.size)) (u.alloc (.map #[] 0)):=fun u=>by rfl
 obtain⟨t1,t2,t3,t4⟩:=MD w (.cells #[h.p,h.c,h.m,.slice ao n cap] 107) (.map #[] 0);go_in;go_upto_region 2 with fail;obtain⟨H,hH,S⟩:=hidv w.heap.size;generalize (w.alloc (.cells #[h.p,h.c,h.m,.slice ao n cap] 107)).alloc (.map #[] 0)=W at *;rw[<-S]at t1 t2 t3 t4 ⊢;have c4:w.heap.size<=H+1:=by omega
 have E:H≠H+1:=by omega
 have lH:H<W.heap.size:=by omega
 have lM:H+1<W.heap.size:=by omega
 rw[S]at t4;clear S t3;generalize H+1=M at *;have bu:MapG W M h 0 0:=⟨_,_,wG.nil,fun e he=>by simp at he,t2⟩;have c0:W.cell? ⟨H,0,.none⟩=some (.int .i64 h.p):=iA t1 0;have c1:W.cell? ⟨H,1,.none⟩=some (.int .i64 h.c):=iA t1 1;have c2:W.cell? ⟨H,2,.none⟩=some (.int .i64 h.m):=iA t1 2;have c3:W.cell? ⟨H,3,.none⟩=some (.slice ao n cap):=iA t1 3;have C1:W.cell? ⟨H,1,.none⟩=some (.int .i64 C):=by rw[c1,hC]
 replace C1:=hd' C1;clear t1 t2 bv;have lz:∀ X,Only (atN M) W X->X.cell? ⟨H,0,.none⟩=some (.int .i64 h.p)/\X.cell? ⟨H,1,.none⟩=some (.int .i64 h.c)/\X.cell? ⟨H,2,.none⟩=some (.int .i64 h.m)/\X.cell? ⟨H,3,.none⟩=some (.slice ao n cap)/\Below w.heap.size w X:=fun X ho=>⟨(ho.sC lH E 0).trans c0,(ho.sC lH E 1).trans c1,(ho.sC lH E 2).trans c2,(ho.sC lH E 3).trans c3,Only.BI t4 ho t4.size c4⟩
 replace lz:=hd' lz;clear C1;go_wp2_with fail;go_loopw [16] (fun vi wr=>∃ i:Nat,i<=C/\vi= .int .i64 i/\Only (atN M) W wr/\MapG wr M h i 0) (fun vi _=>C-(intOf vi).toNat);case atStart=>exact⟨0,Nat.zero_le _,rfl,Only.refl _ _,bu⟩
 case round=>
  obtain⟨i,hi,rfl,bj,bw⟩:=hrel;obtain⟨d0,d1,d2,d3,bp⟩:=lz _ bj;by_cases b6:(i:Int)<h.c
  ·have c9:i<C:=by have:=hC.out;omega
   go_wp2_with fail;obtain⟨Wr,rfl⟩:∃ V:World,V=wr:=⟨_,rfl⟩;go_loopw [22] (fun vj wr=>∃ j:Nat,j<=Q/\vj= .int .i64 j/\Only (atN M) W wr/\MapG wr M h i j) (fun vj _=>Q-(intOf vj).toNat);case atStart=>exact⟨0,Nat.zero_le _,rfl,bj,bw⟩
   case round=>
    obtain⟨j,hj,rfl,O,b9⟩:=hrel;obtain⟨f0,f1,f2,f3,bf⟩:=lz _ O;by_cases b0:(j:Int)<h.m
    ·have cb:j<Q:=by have:=hQ.out;omega
     obtain⟨g,off,k,rfl,hg,bh,cf,hx,bk,bm⟩:=l i j b6 b0;have L:=b7 i j;rw[bh]at L;replace hx:=kA bf _ _ _ hx;have c6:H<wr.heap.size:=HD f0;have c7:g<wr.heap.size:=HD hx;have cc:(0:Int)<=(k:Int):=by omega
     have cd:(k:Int)<(n:Int):=by omega
     have c8:(0:Int)<=(i:Int):=by omega
     have ca:(0:Int)<=(j:Int):=by omega
     have B:=fun X hX R=>Z i j X hX bk bm b6 b0 R;have s:=fun X (hX:MapG X M h i j) R=>MapG.new bx hX b6 b0 R;generalize c5:h.mx i j=x at hx bk bm B s;replace L:=hd' L;replace B:=hd' B;replace s:=hd' s;clear bh d0 d1 d2 d3 c5;go_upto_region 8 with fail;refine wre ?_;repeat (go_big_quiet_step ((go_at_call 90;exact xA (L _))))
     refine wpQuiet_nil ?_;rintro _ ⟨e,rfl⟩;have ba:=O.trans (Only.of_below e.below) (fun _ _ h=>h);have bi:=b9.below e.below;clear b9 O f0 f1 f2 f3 hx c6 c7 bf;generalize e.w=V at *;clear e;obtain⟨f0,f1,f2,f3,bn⟩:=lz _ ba;by_cases R:x=0
     ·have bc:(x==0)=true:=by rw[beq_iff_eq];exact R
      go_wp2;exact⟨⟨j+1,by omega,by go_num,ba,bi.skip⟩,by simp[intOf];omega⟩
     have bc:(x==0)=false:=by rw[beq_eq_false_iff_ne];exact R
     go_wp2_with fail;have D:=s.out;have r:=B _ bn R;generalize nA x 0=y at r D;generalize nA x 1=z at r D;generalize nA x 2=e2 at r;replace D:=hd' D;clear R;refine r.mono ?_;rintro e w3 ⟨rfl,Y⟩;have o3:=(ba.trans (Only.of_below Y) (fun _ _ h=>h)).alloc (.cells #[y,z,e2] 175);have m3:=(bi.below Y).below (br.alloc lr (.cells #[y,z,e2] 175));have o4:=o3.alloc (.cells #[y,z] 166);have m4:=m3.below (br.alloc lr (.cells #[y,z] 166));have g4:=jA (w3.alloc (.cells #[y,z,e2] 175)) (.cells #[y,z] 166);go_upto_region 12 with fail;rw[show (w3.alloc (.cells #[y,z,e2] 175)).heap.size=w3.heap.size+1 from by simp]at g4;generalize w3.heap.size+1=A at g4 ⊢;generalize (w3.alloc (.cells #[y,z,e2] 175)).alloc (.cells #[y,z] 166)=U at *;have a0:U.cell? ⟨A,0,.none⟩=some (.int .i64 y):=iA g4 0;have a1:U.cell? ⟨A,1,.none⟩=some (.int .i64 z):=iA g4 1;clear o3 m3 Y B r;obtain⟨es,cl,I,b5,bb,b8⟩:=D U m4 (fun h0=>by rw[h0]at bc;cases bc);have hl:=b5 U M cl I;replace b5:=hd' b5;replace bb:=hd' bb;replace b8:=hd' b8;have o5:=o4.alloc (.cells #[] 178);have J:Below U.heap.size U (U.alloc (.cells #[] 178)):=br.alloc lr _;have a0:=kA J _ _ _ a0;have a1:=kA J _ _ _ a1;have bg:=(J.block M (jE I)).trans I;go_upto_region 13 with fail;clear hl I g4 J o4;generalize U.alloc (.cells #[] 178)=T at *;have hu:=bb T M cl bg
     have o6:Only (atN M) W (aG T M (es.push ⟨.agg #[y,z],.agg #[],cl⟩) (cl+1)):=o5.trans (F:=atN M) (G:=atN M) ⟨rfl,rfl,rfl,by rw[yh4];exact Nat.le_refl _,fun q hq bz=>by
      unfold aG
      simp only
      rw[Array.getElem?_setIfInBounds_ne (fun e=>bz e.symm)]⟩ (fun _ _ h=>h)
     have m6:=b8 T M cl bg;go_wp2;exact⟨⟨j+1,by omega,by go_num,o6,m6⟩,by simp[intOf];omega⟩
    have bs:j=Q:=by have:=hQ.out;omega
    subst bs;go_wp2;exact⟨⟨i+1,by omega,by go_num,O,b9.next hQ.out⟩,by simp[intOf];omega⟩
  have bq:i=C:=by have:=hC.out;omega
  subst bq;go_wp2;go_ret;exact⟨rfl,bp⟩
end

end Go.Proofs.YtmmbicppdjgbmaaGreat
