/- Texts bound together: InvU InvV. -/
import Derived.Test.YtkbddndcegpllaaGreatBt34

set_option linter.all false
namespace Go.Proofs.YtkbddndcegpllaaGreat

section

variable {s:Sh} {σ σ':Ab} {d d':Wd} {J:Jd} {n:Nat}

structure PtOk (σ:Ab) (d:Wd) (c:Int) (p:Pt):Prop where
 was:p.was=true↔σ.st c≠ .unused
 lives:p.lives=true↔∃ k,d.kl c=some k
 asks:p.asks=true↔∃ k j,d.kl c=some k/\k.job=some j
 op:∀ k j,d.kl c=some k->k.job=some j->(p.k=k.op.k/\p.a=k.op.a/\p.n=k.op.n)/\p.took=false/\p.gave=j.gave/\k.told=j.gave/\zlq σ.has p.ab k.op j
def Jd.pt (J:Jd) (c:Int):Pt:=J.ps.getD c.toNat Pt.zero
structure JI (s:Sh) (σ:Ab) (d:Wd) (J:Jd):Prop where
 W:J.W=s.p * 64
 why:J.why=0
 bl:zjj J.W σ.has J.l
 pl:J.ps.length=s.c.toNat
 pt:∀ c,0<=c->c < s.c->PtOk σ d c (J.pt c)
 ab:∀ c,0<=c->c < s.c->(J.pt c).asks=true->zd6 (J.pt c).a J.l=false->(J.pt c).ab=true
theorem zi2(l:List Bk)(p:Pt):(abP l p).was=p.was/\(abP l p).lives=p.lives/\(abP l p).asks=p.asks/\(abP l p).k=p.k/\(abP l p).a=p.a/\(abP l p).n=p.n/\(abP l p).took=p.took/\(abP l p).gave=p.gave/\(abP l p).at'=p.at'/\(p.ab=true->(abP l p).ab=true)/\(p.asks=true->zd6 p.a l=false->(abP l p).ab=true):=by
 unfold abP;split
 ·exact⟨rfl,rfl,rfl,rfl,rfl,rfl,rfl,rfl,rfl,fun _=>rfl,fun _ _=>rfl⟩
 rename_i h;exact⟨rfl,rfl,rfl,rfl,rfl,rfl,rfl,rfl,rfl,id,fun b f=>absurd ⟨f,b⟩ h⟩
structure yex (J J':Jd) (c:Int) (l':List Bk) (v:Pt):Prop where
 W:J'.W=J.W
 why:J'.why=0
 l:J'.l=l'
 pl:J'.ps.length=J.ps.length
 mine:J'.pt c=abP l' v
 other:∀ x,0<=x->x.toNat < J.ps.length->x≠c->J'.pt x=abP l' (J.pt x)
theorem z9m{l:List Pt}{i j:Nat}{v z:Pt}(f:Pt->Pt)(hi:i<l.length)(b:j<l.length):((l.set i v).map f).getD j z=f (if i=j then v else l.getD j z):=by
 rw[List.getD_eq_getElem?_getD,List.getElem?_map,List.getElem?_set];by_cases e:i=j
 ·subst e;simp[hi]
 simp[e,b]
theorem zfu{e:Ev}{l':List Bk}{v:Pt}(f:J.why=0)(hc:0<=e.c/\e.c.toNat<J.ps.length)(h:whyJ J.W J.l J.ps e=⟨0,l',J.ps.set e.c.toNat v⟩):yex J (zdo J e) e.c l' v:=by
 have hb:z4x J e=true:=(zsk J e).2 ⟨f,by rw[h]⟩;have b:=z9p hb;rw[h]at b;rw[b];refine⟨rfl,f,rfl,by simp,?_,fun x j i m=>?_⟩
 ·show ((J.ps.set e.c.toNat v).map (abP l')).getD e.c.toNat Pt.zero=_;rw[z9m _ hc.2 hc.2,if_pos rfl]
 show ((J.ps.set e.c.toNat v).map (abP l')).getD x.toNat Pt.zero=_;rw[z9m _ hc.2 i,if_neg (by omega)];rfl
theorem PtOk.heard{p:Pt}{x:Int}{l':List Bk}(h:PtOk σ d x p)(t:σ'.st x= .unused↔σ.st x= .unused)(i:d'.kl x=d.kl x)(f:(∀ b,σ'.has b->σ.has b)\/(∀ b,σ.has b->σ'.has b))(U:z5i σ.has){W:Int}(r:zjj W σ'.has l'):PtOk σ' d' x (abP l' p):=by
 obtain⟨a1,D,E,F,G,H,I,L,V,m,o⟩:=zi2 l' p;refine⟨by rw[a1,h.was];exact not_congr t.symm,by rw[D,i];exact h.lives,by rw[E,i];exact h.asks,fun k j q B=>?_⟩;rw[i]at q;obtain⟨⟨M,z,N⟩,O,R,S,T⟩:=h.op k j q B;refine⟨⟨F.trans M,G.trans z,H.trans N⟩,I.trans O,L.trans R,S,T.mono m fun b hb C=>?_⟩;rcases f with f|f
 ·by_cases l:σ'.has b
  ·exact .inr l
  refine .inl (o (h.asks.2 ⟨k,j,q,B⟩) ?_);cases hf:zd6 p.a l' with
  |false=>rfl;|true=>obtain⟨y,f1,f2⟩:=(r.found _).1 hf;have:y=b:=U y b (f _ f1) C (by rw[f2,z,hb]);subst this;exact absurd f1 l
 exact .inr (f b C)
theorem zx1(h:WI s σ d):z5i σ.has:=fun _ _ b f i=>ybm h.gi b f i
structure JX (s:Sh) (σ:Ab) (d:Wd) (J:Jd) (c:Int):Prop where
 W:J.W=s.p * 64
 why:J.why=0
 bl:zjj J.W σ.has J.l
 pl:J.ps.length=s.c.toNat
 pt:∀ x,x≠c->0<=x->x < s.c->PtOk σ d x (J.pt x)
 ab:∀ x,0<=x->x < s.c->(J.pt x).asks=true->zd6 (J.pt x).a J.l=false->(J.pt x).ab=true
theorem JI.jx(h:JI s σ d J)(c:Int):JX s σ d J c:=⟨h.W,h.why,h.bl,h.pl,fun x _=>h.pt x,h.ab⟩
theorem JX.ji{c:Int}(h:JX s σ d J c)(hc:PtOk σ d c (J.pt c)):JI s σ d J:=⟨h.W,h.why,h.bl,h.pl,fun x b f=>by
 by_cases e:x=c
 ·subst e;exact hc
 ·exact h.pt x e b f,h.ab⟩
theorem zfw{c:Int}{l':List Bk}{v:Pt}{J':Jd}(h:JX s σ d J c)(f:yex J J' c l' v)(m:zjj J.W σ'.has l')(y:∀ x,x≠c->(σ'.st x= .unused↔σ.st x= .unused))(t:∀ x,x≠c->d'.kl x=d.kl x)
  (o:(∀ b,σ'.has b->σ.has b)\/(∀ b,σ.has b->σ'.has b)) (z:z5i σ.has):JX s σ' d' J' c:=by
 have i:∀ x,0<=x->x<s.c->x.toNat<J.ps.length:=fun x j z=>by rw[h.pl];omega
 refine⟨f.W.trans h.W,f.why,by rw[f.W,f.l];exact m,f.pl.trans h.pl,fun x e j q=>?_,fun x j q=>?_⟩
 ·rw[f.other x j (i x j q) e];exact(h.pt x e j q).heard (y x e) (t x e) o z m
 have ab:∀ p,(abP l' p).asks=true->zd6 (abP l' p).a l'=false->(abP l' p).ab=true:=fun p E F=>by obtain⟨a1,G,C,H,D,I,L,M,N,B,r⟩:=zi2 l' p;exact r (C ▸ E) (D ▸ F)
 rw[f.l];by_cases e:x=c
 ·subst e;rw[f.mine];exact ab _
 rw[f.other x j (i x j q) e];exact ab _
theorem zpq{c:Int}(h:JX s σ d J c)(hc:Calm σ σ')(l:∀ x,x≠c->(σ'.st x= .unused↔σ.st x= .unused))(f:∀ x,x≠c->d'.kl x=d.kl x):JX s σ' d' J c:=by
 refine⟨h.W,h.why,h.bl.congr hc,h.pl,fun x e z B=>?_,h.ab⟩;have i:=h.pt x e z B;refine⟨by rw[i.was];exact not_congr (l x e).symm,by rw[f x e];exact i.lives,by rw[f x e];exact i.asks,fun k j m y=>?_⟩;rw[f x e]at m;obtain⟨o,p,q,r,t⟩:=i.op k j m y;exact⟨o,p,q,r,t.mono id fun b _ hb=>.inr ((hc b).2 hb)⟩
theorem zlo{z:Int}(h:JX s σ d J z){c:Int}(hc:0<=c/\c<s.c):0<=c/\c.toNat<J.ps.length:=⟨hc.1,by rw[h.pl];omega⟩
theorem zui{z:Int}(h:JX s σ d J z){e:Ev}(hc:0<=e.c/\e.c<s.c)(f:0<=e.k/\e.k<3)(b:zf0 (J.pt e.c) e=0):whyJ J.W J.l J.ps e=⟨0,J.l,J.ps.set e.c.toNat (zkj (J.pt e.c) e)⟩:=by
 have i:=zlo h hc;have b:zf0 (J.ps.getD e.c.toNat Pt.zero) e=0:=b;unfold whyJ;rw[if_neg (by omega),if_pos (by omega),b];rfl
theorem z5v{z:Int}(h:JX s σ d J z){e:Ev}(hc:0<=e.c/\e.c<s.c)(j:e.k=4)(m:(J.pt e.c).lives=true/\(J.pt e.c).asks=true)(b:z8m J.l (J.pt e.c) e=0):whyJ J.W J.l J.ps e=⟨0,zse J.l e.at',J.ps.set e.c.toNat { J.pt e.c with gave:=true}⟩:=by
 have o:=zlo h hc;obtain⟨f,i⟩:=m;unfold Jd.pt at f i b;unfold whyJ;rw[if_neg (by omega),if_neg (by omega),f,i,if_neg (by simp),if_neg (by omega),if_pos j,b];rfl
theorem z5f{z:Int}(h:JX s σ d J z){e:Ev}(hc:0<=e.c/\e.c<s.c)(j:e.k=3)(m:(J.pt e.c).lives=true/\(J.pt e.c).asks=true)(b:z8g J.W J.l (J.pt e.c) e=0):whyJ J.W J.l J.ps e=⟨0,putB J.l e.at' e.n,J.ps.set e.c.toNat { J.pt e.c with took:=true,at':=e.at'}⟩:=by
 have o:=zlo h hc;obtain⟨f,i⟩:=m;unfold Jd.pt at f i b;unfold whyJ;rw[if_neg (by omega),if_neg (by omega),f,i,if_neg (by simp),if_pos j,b];rfl
theorem zki{z:Int}(h:JX s σ d J z){e:Ev}(hc:0<=e.c/\e.c<s.c)(m:e.k=5)(j:(J.pt e.c).lives=true/\(J.pt e.c).asks=true)(b:zd9 (J.pt e.c) e=true):whyJ J.W J.l J.ps e=⟨0,J.l,J.ps.set e.c.toNat { J.pt e.c with asks:=false}⟩:=by
 have o:=zlo h hc;obtain⟨f,i⟩:=j;unfold Jd.pt at f i b;unfold whyJ;rw[if_neg (by omega),if_neg (by omega),f,i,if_neg (by simp),if_neg (by omega),if_neg (by omega),b];rfl
theorem zny{c:Int}{p:Pt}{k:Kl}(q:p.was=true↔σ'.st c≠ .unused)(o:p.lives=true)(m:p.asks=false)(i:d'.kl c=some k)(l:k.job=none):PtOk σ' d' c p:=by
 refine⟨q,by rw[o];exact⟨fun _=>⟨k,i⟩,fun _=>rfl⟩,⟨fun e=>absurd (m.symm.trans e) (by decide),fun ⟨r,j,b,f⟩=>?_⟩,fun r j b f=>?_⟩
 ·rw[i]at b;injection b with b;subst b;rw[l]at f;cases f
 rw[i]at b;injection b with b;subst b;rw[l]at f;cases f
theorem zng{c:Int}{j:Jb}{b:Blk}(E:mayB s.p s.c s.m=true)(hc:0<=c/\c<s.c)(o:jbIs s c j)(h:j.took=some b):j.done=true/\j.err=0/\(j.gave=true\/∃ r x,j= .mal r x):=by
 cases j with
 |mal r x=>
  have l:(if zck x=true then r.got else none)=some b:=h;split at l
  ·rename_i i;rcases x with _|y
   ·cases i
   have q:=o.2 y rfl;refine⟨?_,?_,.inr ⟨r,_,rfl⟩⟩
   ·show (r.done&&(!r.got.isSome||y.done))=true;rw[q.2.1,q.2.2.1];simp
   show (if r.got.isSome=true then(0:Int) else 3)=0;rw[if_pos (by rw[l];rfl)]
  cases l
 |fre f=>cases h;|aga r=>
  have h:(if r.done=true/\r.err=0 then(match r.res with|some x=>x.got|none=>none) else none)=some b:=h;split at h
  ·rename_i i;obtain⟨F,B,f,C,D,t,z⟩:=o.fin i.1 i.2;refine⟨i.1,i.2,.inl ?_⟩;show (match r.free with|some f=>f.gave|none=>false)=true;rw[t];exact z
  cases h
 |hei a=>cases h
theorem ycg{p:Pt}{e:Ev}(h:e.er=0):zd9 p e=zzo p e.at':=if_pos h
theorem z4e{p:Pt}{e:Ev}(h:e.er≠0)(b:p.took=false)(f:p.gave=false)(i:e.at'=0):zd9 p e=(if e.er=1 then zie p else if e.er=3 then p.k==1||p.k==3 else if e.er=4\/e.er=5 then p.k==4 else false):=by
 unfold zd9;rw[if_neg h,if_neg (by rw[b,f,i];simp)]
theorem ydw{p:Pt}{e:Ev}(h:e.er=1)(b:p.took=false)(f:p.gave=false)(i:e.at'=0):zd9 p e=zie p:=by
 rw[z4e (by omega) b f i,if_pos h]
theorem yc3{p:Pt}{e:Ev}(h:e.er=3)(b:p.took=false)(f:p.gave=false)(i:e.at'=0):zd9 p e=(p.k==1||p.k==3):=by
 rw[z4e (by omega) b f i,if_neg (by omega),if_pos h]
theorem z9k{p:Pt}{e:Ev}(h:e.er=4\/e.er=5)(b:p.took=false)(f:p.gave=false)(i:e.at'=0):zd9 p e=(p.k==4):=by
 rw[z4e (by omega) b f i,if_neg (by omega),if_neg (by omega),if_pos h]
theorem zs5{c:Int}{j:Jb}{o:Op3}{p:Pt}{H:Bl->Prop}(N:mayB s.p s.c s.m=true)(hc:0<=c/\c<s.c)(F:jbIs s c j)(hd:j.done=true)(q:zlq H p.ab o j)(z:p.k=o.k/\p.a=o.a/\p.n=o.n)(B:p.gave=j.gave)
  (O:(j.took=none/\p.took=false)\/∃ b,j.took=some b/\p.took=true/\p.at'=b.at'):zd9 p (zaf c o (zb1 j.took) j.err)=true:=by
 rcases O with⟨t1,t⟩|⟨b,t1,t,t3⟩
 ·rw[t1];cases j with
  |mal r x=>
   have l:(Jb.mal r x).err=3:=by
    show (if r.got.isSome=true then(0:Int) else 3)=3
    cases hgot:r.got with
    |none=>rfl
    |some b=>
     exfalso
     have hd:(r.done&&(!r.got.isSome||zck x))=true:=hd
     rw[hgot]at hd
     have R:zck x=true:=by simpa using(Bool.and_eq_true _ _ ▸ hd).2
     have t1:(if zck x=true then r.got else none)=none:=t1
     rw[if_pos R,hgot]at t1;cases t1
   rw[yc3 (e:=zaf c o (zb1 none) (Jb.mal r x).err) l t B rfl,z.1,q.1];rfl
  |fre f=>
   rcases Bool.eq_false_or_eq_true f.gave with e|e
   ·have l:(Jb.fre f).err=0:=if_pos e;have i:p.gave=true:=B.trans e;rw[ycg (e:=zaf c o (zb1 none) (Jb.fre f).err) l];unfold zzo;rw[z.1,q.1,if_neg (by decide),if_pos rfl,i];rfl
   have l:(Jb.fre f).err=1:=if_neg (by rw[e];decide);have i:p.gave=false:=B.trans e;rw[ydw (e:=zaf c o (zb1 none) (Jb.fre f).err) l t i rfl];unfold zie;rw[z.1,q.1,if_neg (by decide),if_pos rfl];exact q.2.no hd e
  |aga r=>
   obtain⟨f1,f2,T,U,L⟩:=q;rcases L hd with e|⟨D,E⟩|⟨D,E,I⟩
   ·exfalso;obtain⟨X,S,f,a1,G,_⟩:=F.fin hd e;have t1:(if r.done=true/\r.err=0 then(match r.res with|some x=>x.got|none=>none) else none)=none:=t1;rw[if_pos ⟨hd,e⟩,a1]at t1;dsimp only at t1;rw[G]at t1;cases t1
   ·have l:(Jb.aga r).err=3:=D;have i:p.gave=false:=B.trans E;rw[yc3 (e:=zaf c o (zb1 none) (Jb.aga r).err) l t i rfl,z.1,f1];rfl
   have l:(Jb.aga r).err=1:=D;have i:p.gave=false:=B.trans E;rw[ydw (e:=zaf c o (zb1 none) (Jb.aga r).err) l t i rfl];unfold zie;rw[z.1,f1,if_neg (by decide),if_neg (by decide),if_pos rfl,I];rfl
  |hei a=>
   have i:p.gave=false:=B;have y:p.k=4:=z.1.trans q.1;rcases q.2 hd with e|e|e
   ·have l:(Jb.hei a).err=0:=e;rw[ycg (e:=zaf c o (zb1 none) (Jb.hei a).err) l];unfold zzo;rw[y,if_neg (by decide),if_neg (by decide)];rfl
   ·have l:(Jb.hei a).err=4:=e;rw[z9k (e:=zaf c o (zb1 none) (Jb.hei a).err) (.inl l) t i rfl,y];rfl
   have l:(Jb.hei a).err=5:=e;rw[z9k (e:=zaf c o (zb1 none) (Jb.hei a).err) (.inr l) t i rfl,y];rfl
 obtain⟨_,M,V⟩:=zng N hc F t1;have C:=(zor q t1).2.2;rw[ycg (e:=zaf c o (zb1 j.took) j.err) M];show zzo p (zb1 j.took)=true;rw[t1];unfold zzo;rw[if_pos (by rw[z.1];exact C),t,t3];simp[zb1]
theorem ybj(h:JI s σ d J)(hw:WI s σ d)(hd:wdOk s d n){c:Int}{k:Kl}{j:Jb}(hk:d.kl c=some k)(hj:k.job=some j):WI s (j.zhf s c σ).2 (d.step s c k).1/\JI s (j.zhf s c σ).2 (d.step s c k).1 (runJ J (k.step s d.m).2.2.1):=by
 obtain⟨w1,chg,b6⟩:=zt5 hw hd hk hj;refine⟨w1,?_⟩;obtain⟨ho,ba,q⟩:=hd.kl c k hk;obtain⟨cd,bf⟩:=hw.li c k hk;obtain⟨bc,bp,cc,cb⟩:=ho.jb j hj;rw[ba]at bc;have bz:JbAt s c σ j:=by unfold KlAt at bf;rw[hj]at bf;exact bf
 have F:=zqw (m:=d.m) bc q bp hw.rep.fi hd.fit;have bq:k.step s d.m=(k.after (j.step s c d.m).1,(j.step s c d.m).2,k.tells (j.step s c d.m).1,0):=by unfold Kl.step;rw[hj,ba]
 have hP:=h.pt c q.1 q.2;obtain⟨q1,q2,q3,q4,q5⟩:=hP.op k j hk hj;have i:(J.pt c).lives=true:=hP.lives.2 ⟨k,hk⟩;have y:(J.pt c).asks=true:=hP.asks.2 ⟨k,j,hk,hj⟩;have Z:=zx1 hw;have hX:=h.jx c
 have bx:(∀ b,σ.has b->b.at'≠k.op.a)->(J.pt c).ab=true:=fun hb=>by
  refine h.ab c q.1 q.2 y ?_
  cases hf:zd6 (J.pt c).a J.l with
  |false=>rfl
  |true=>
   obtain⟨b,b1,b2⟩:=(h.bl.found _).1 hf
   exact absurd (b2.trans q1.2.1) (hb b b1)
 have I:=fun (ab':Bool) c5 bg=>zzb (ab':=ab') hw.rep hw.gi bc q bp bz q5 bx c5 bg;have b0:∀ x,x≠c->(d.step s c k).1.kl x=d.kl x:=fun x hx=>by unfold Wd.step;rw[d.zdk (Wd.zfs hk).1 (Wd.zfs hk).2,if_neg hx]
 have L:(d.step s c k).1.kl c=some (k.after (j.step s c d.m).1):=by unfold Wd.step;rw[d.zdk (Wd.zfs hk).1 (Wd.zfs hk).2,if_pos rfl,bq]
 have b4:∀ x,x≠c->((j.zhf s c σ).2.st x= .unused↔σ.st x= .unused):=fun x _=>chg.st x;have b8:∀ p:Pt,p.was=(J.pt c).was->(p.was=true↔(j.zhf s c σ).2.st c≠ .unused):=fun p e=>by rw[e,hP.was];exact not_congr (chg.st c).symm
 have c4:=b6;generalize (d.step s c k).1=d' at *;rw[bq];dsimp only;rw[b6]at chg L F ⊢;generalize c9:(j.zhf s c σ).2=σ' at *;generalize ca:(j.zhf s c σ).1=j' at *;have S:jbIs s c j':=F.2.1;have cf:(k.after j').op=k.op:=rfl;have bh:(k.after j').told=(k.told||j'.gave):=rfl;have b7:(k.after j').job=if j'.done=true then none else some j':=rfl;have T:∀ (p:Pt),j'.done=false->p.was=(J.pt c).was->p.lives=true->p.asks=true->p.k=(J.pt c).k->p.a=(J.pt c).a->p.n=(J.pt c).n->p.took=false->p.gave=j'.gave->zlq σ'.has p.ab k.op j'->PtOk σ' d' c p:=fun p e0 e1 e2 e3 e4 e5 e6 e7 e8 e9=>by
  have bn:(k.after j').job=some j':=by rw[b7,if_neg (by rw[e0];decide)]
  refine⟨b8 p e1,⟨fun _=>⟨_,L⟩,fun _=>e2⟩,⟨fun _=>⟨_,_,L,bn⟩,fun _=>e3⟩,fun k2 j2 f1 f2=>?_⟩;rw[L]at f1;injection f1 with f1;subst f1;rw[bn]at f2;injection f2 with f2;subst f2;refine⟨⟨e4.trans q1.1,e5.trans q1.2.1,e6.trans q1.2.2⟩,e7,e8,?_,e9⟩;rw[bh,q4];rcases Bool.eq_false_or_eq_true j.gave with e|e
  ·rw[e,F.2.2.2 e];rfl
  rw[e];rfl
 have rests:∀ (p:Pt),j'.done=true->p.was=(J.pt c).was->p.lives=true->p.asks=false->PtOk σ' d' c p:=fun p e0 e1 e2 e3=>zny (b8 p e1) e2 e3 L (by rw[b7,if_pos e0])
 unfold Kl.tells;rw[q4,ba];by_cases E:j'.gave=true/\j.gave=false
 ·obtain⟨⟨f,f1,f2,f3,f4⟩,bs⟩:=chg.gave E.2 E.1;rw[if_pos E,if_neg (by rw[bs];decide)]
  have bk:(feBl f).at'=k.op.a/\mayG (J.pt c)=true:=by
   cases j with
   |fre f'=>
    injection f1 with f1;subst f1
    exact⟨q5.2.bl f4 (by omega),by unfold mayG;rw[q1.1,q5.1];rfl⟩
   |aga r=>exact⟨(q5.2.2.2.1 f f1).bl f4 (by omega),by unfold mayG;rw[q1.1,q5.1];rfl⟩
   |mal r x=>cases f1
   |hei a=>cases f1
  have N:=h.bl.minus Z f2.1 f2.2;rw[bk.1]at N
  have c8:=z5v (z:=c) hX (e:=zbw c k.op.a) q rfl ⟨i,y⟩ (by
   unfold z8m
   show (if mayG (J.pt c)=false\/(J.pt c).gave=true\/k.op.a≠(J.pt c).a then 5 else if zd6 k.op.a J.l=true then 0 else 3)=0
   rw[if_neg (by rw[bk.2,q3,E.2,q1.2.1];simp),if_pos N.1])
  have hH:=zfu (e:=zbw c k.op.a) h.why (zlo (z:=c) hX q) c8;have t:=zfw (σ':=σ') (d':=d') hX hH N.2 b4 b0 (.inl fun b hb=>((f2.2 b).1 hb).1) Z;show JI s σ' d' (zdo J (zbw c k.op.a));refine t.ji ?_;have o:(zdo J (zbw c k.op.a)).pt c=abP (zse J.l k.op.a) { J.pt c with gave:=true}:=hH.mine;rw[o];obtain⟨a1,a2,a3,a4,a5,a6,a7,a8,a9,b9,bu⟩:=zi2 (zse J.l k.op.a) { J.pt c with gave:=true};exact T _ bs a1 (a2.trans i) (a3.trans y) a4 a5 a6 (a7.trans q2) (a8.trans E.1.symm) (I _ b9 fun e=>by rw[E.1,E.2]at e;cases e)
 rw[if_neg E,List.nil_append];have X:j'.gave=j.gave:=by
  rcases Bool.eq_false_or_eq_true j.gave with e|e
  ·rw[e,F.2.2.2 e]
  rw[e];cases e2:j'.gave with
  |false=>rfl
  |true=>exact absurd ⟨e2,e⟩ E
 have bj:j.gave=true\/j'.gave=false:=by
  rw[X];cases j.gave
  ·exact .inr rfl
  exact .inl rfl
 rcases Bool.eq_false_or_eq_true j'.done with B|B
 ·rw[if_pos B];cases D:j'.took with
  |some b=>
   obtain⟨_,t2,t3⟩:=zng hw.rep.may q S D;have R:=chg.took b D;obtain⟨bv,bw⟩:=z7l b;have b5:σ'.has (zoa b):=(R.2 _).2 (.inr rfl);have bm:=zwn w1.gi b5;rw[<-h.W]at bm;have N:=h.bl.plus R.2 bm fun x hx=>zsn w1.gi ((R.2 x).2 (.inl hx)) b5 fun e=>R.1 (e ▸ hx);rw[bv,bw]at N;have bb:=I (J.pt c).ab id fun _ b' _ M=>(R.2 b').2 (.inl M);obtain⟨g1,g2,g3⟩:=zor bb D;have c6:mayT (J.pt c)=true:=by
    unfold mayT;rw[q1.1];rcases g3 with e|e
    ·rw[e];rfl
    rcases t3 with e2|⟨r,x,e2⟩
    ·rw[e,q3,<- X,e2];rfl
    rw[e2]at bb;rw[bb.1]at e;cases e
   have c7:=z5f (z:=c) hX (e:=zb5 c b.at' b.len) q rfl ⟨i,y⟩ (by
    unfold z8g
    show (if mayT (J.pt c)=false\/(J.pt c).took=true\/lenB (J.pt c).n=false\/lenV (J.pt c).n≠b.len then 5 else if zwf J.W J.l b.at' b.len=true then 0 else 2)=0
    rw[if_neg (by rw[c6,q2,q1.2.2,g1,g2];simp),if_pos N.1])
   have hH:=zfu (e:=zb5 c b.at' b.len) h.why (zlo (z:=c) hX q) c7;have t:=zfw (σ':=σ') (d':=d') hX hH N.2 b4 b0 (.inr fun b hb=>(R.2 b).2 (.inl hb)) Z;have o:(zdo J (zb5 c b.at' b.len)).pt c=abP (putB J.l b.at' b.len) { J.pt c with took:=true,at':=b.at'}:=hH.mine;obtain⟨a1,a2,a3,a4,a5,a6,a7,a8,a9,b9,bu⟩:=zi2 (putB J.l b.at' b.len) { J.pt c with took:=true,at':=b.at'};show JI s σ' d' (zdo (zdo J (zb5 c b.at' b.len)) (zaf c k.op (zb1 (some b)) j'.err));generalize zdo J (zb5 c b.at' b.len)=J1 at *;have G:=zs5 (p:=J1.pt c) hw.rep.may q S B (H:=σ'.has) (by rw[o];exact I _ b9 fun _ b' _ M=>(R.2 b').2 (.inl M)) (by rw[o];exact⟨a4.trans q1.1,a5.trans q1.2.1,a6.trans q1.2.2⟩) (by rw[o];exact a8.trans (q3.trans X.symm)) (.inr ⟨b,D,by rw[o];exact a7,by rw[o];exact a9⟩);rw[D]at G;have bi:=zki (z:=c) t (e:=zaf c k.op (zb1 (some b)) j'.err) q rfl (by show (J1.pt c).lives=true/\(J1.pt c).asks=true;rw[o];exact⟨a2.trans i,a3.trans y⟩) G;have U:=zfu (e:=zaf c k.op (zb1 (some b)) j'.err) t.why (zlo (z:=c) t q) bi;have O:=zx1 w1;have V:=zfw (σ':=σ') (d':=d') t U t.bl (fun _ _=>.rfl) (fun _ _=>rfl) (.inl fun _ h=>h) O;refine V.ji ?_;have Y:=U.mine;have Y:(zdo J1 (zaf c k.op (zb1 (some b)) j'.err)).pt c=abP J1.l { J1.pt c with asks:=false}:=Y;rw[Y];obtain⟨b1,b2,b3,_⟩:=zi2 J1.l { J1.pt c with asks:=false};refine rests _ B (b1.trans ?_) (b2.trans ?_) b3
   ·show (J1.pt c).was=_;rw[o];exact a1
   show (J1.pt c).lives=_;rw[o];exact a2.trans i
  |none=>have C:=chg.calm bj D;have t:=zpq (σ':=σ') (d':=d') hX C b4 b0;have G:=zs5 (p:=J.pt c) hw.rep.may q S B (H:=σ'.has) (I _ id fun _ b' _ M=>(C b').2 M) q1 (q3.trans X.symm) (.inl ⟨D,q2⟩);rw[D]at G;have bi:=zki (z:=c) t (e:=zaf c k.op (zb1 none) j'.err) q rfl ⟨i,y⟩ G;have U:=zfu (e:=zaf c k.op (zb1 none) j'.err) t.why (zlo (z:=c) t q) bi;have O:=zx1 w1;have V:=zfw (σ':=σ') (d':=d') t U t.bl (fun _ _=>.rfl) (fun _ _=>rfl) (.inl fun _ h=>h) O;show JI s σ' d' (zdo J (zaf c k.op (zb1 none) j'.err));refine V.ji ?_;have Y:(zdo J (zaf c k.op (zb1 none) j'.err)).pt c=abP J.l { J.pt c with asks:=false}:=U.mine;rw[Y];obtain⟨b1,b2,b3,_⟩:=zi2 J.l { J.pt c with asks:=false};exact rests _ B b1 (b2.trans i) b3
 rw[if_neg (by rw[B];decide)]
 have D:j'.took=none:=by
  cases e:j'.took with
  |none=>rfl
  |some b=>have:=(zng hw.rep.may q S e).1;rw[B]at this;cases this
 have C:=chg.calm bj D;have t:=zpq (σ':=σ') (d':=d') hX C b4 b0;exact t.ji (T _ B rfl i y rfl rfl rfl q2 (q3.trans X.symm) (I _ id fun _ b' _ M=>(C b').2 M))
end

section

variable {s:Sh} {σ:Ab} {d:Wd} {J:Jd} {n:Nat} {c:Int}

theorem z4g(hs:mayB s.p s.c s.m=true)(hc:0<=c/\c<s.c)(f:Int){o:Op3}(E:1<=o.k/\o.k<=4)(r:ziu s c o.k o.a o.n=false)(H:Bl->Prop)(ab:Bool):zlq H ab o (zgl s c f o.k o.a o.n):=by
 have hb:=zar.1 hs;unfold ziu at r;rw[Bool.or_eq_false_iff]at r;obtain⟨i,D⟩:=r;have C:zae s.p s.c s.m c=c:=zeu hs hc;obtain⟨ok,oa,on⟩:=o;dsimp only at *;have:ok=1\/ok=2\/ok=3\/ok=4:=by omega
 rcases this with rfl|rfl|rfl|rfl
 ·have b:lenB on=true:=by simpa[zdl] using i
  exact⟨rfl,b,zr2 b s c f⟩
 ·have b:spB s oa=true:=by simpa[zdl] using i
  exact⟨rfl,zsr hs hc b H ab⟩
 ·have b:lenB on=true/\spB s oa=true:=by simpa[zdl] using i
  have q:=zsr (c:=c) hs hc b.2 H ab;show zlq H ab ⟨3,oa,on⟩ (.aga (zhh s c oa on f));unfold zhh;rw[if_pos ⟨b.2,b.1,by omega⟩];obtain⟨t,y,z⟩:=zer s ⟨c,some (zdh s c on f),some (zc2 s c oa),none,none,0,false⟩ (zdh s c on f) (zc2 s c oa) rfl rfl rfl (ab:=ab) (fun e=>by cases e) (fun _ _=>rfl);exact⟨rfl,b.1,fun x l=>by rw[t]at l;injection l with l;subst l;exact zr2 b.1 s c f,fun B j=>by rw[y]at j;injection j with j;subst j;exact q,z⟩
 refine⟨rfl,fun e=>?_⟩;have e:(zix s c oa).done=true:=e;have b:0<=zae s.p s.c s.m oa/\oa≠c:=by have:=i;simp only[zdl,beq_self_eq_true,Bool.true_and,Bool.or_eq_false_iff,decide_eq_false_iff_not,beq_eq_false_iff_ne]at this;exact⟨by omega,this.1.1.2⟩
 unfold zix at e;dsimp only at e;rw[if_neg (by rintro(h|h|h);omega;omega;exact b.2 h.symm)]at e;cases e
theorem zu6{o:Op3}(b:1<=o.k/\o.k<=4)(h:zdl s c o.k o.a o.n=true):(o.k=4)\/((o.k=1\/o.k=3)/\lenB o.n=false)\/((o.k=2\/o.k=3)/\spB s o.a=false):=by
 simp only[zdl,Bool.or_eq_true,Bool.and_eq_true,beq_iff_eq,decide_eq_true_eq,Bool.not_eq_true']at h;rcases h with(h|h)|h
 ·exact .inl h.1
 ·exact .inr (.inl h)
 exact .inr (.inr h)
theorem yep(h:JI s σ d J)(V:WI s σ d)(hd:wdOk s d n)(x:Ch){k:Kl}(D:d.kl x.client=some k):JI s σ (d.ask s x k).1 (runJ J (k.invoke s x.op).2.1):=by
 obtain⟨ho,b6,p⟩:=hd.kl _ k D;have bb:=zwb V hd x D;have Y:=h.jx x.client;have M:=h.pt x.client p.1 p.2;have F:(J.pt x.client).lives=true:=M.lives.2 ⟨k,D⟩;have H:=zx1 V;have hm:=V.rep.may;have T:∀ y,y≠x.client->(d.ask s x k).1.kl y=d.kl y:=fun y hy=>by unfold Wd.ask;rw[d.zdk (Wd.zfs D).1 (Wd.zfs D).2,if_neg hy]
 have i:(d.ask s x k).1.kl x.client=some (k.invoke s x.op).1:=by unfold Wd.ask;rw[d.zdk (Wd.zfs D).1 (Wd.zfs D).2,if_pos rfl]
 generalize (d.ask s x k).1=d' at *;have same:(k.invoke s x.op).1=k->JI s σ d' J:=fun e=>by refine(zpq (σ':=σ) (d':=d') Y (Calm.refl _) (fun _ _=>.rfl) T).ji ?_;rw[e]at i;have q:d'.kl x.client=d.kl x.client:=i.trans D.symm;exact⟨M.was,by rw[q];exact M.lives,by rw[q];exact M.asks,fun k j a b=>M.op k j (q ▸ a) b⟩
 unfold Kl.invoke at same i ⊢;by_cases hr:k.rests=false
 ·rw[if_pos hr]at same ⊢;exact same rfl
 rw[if_neg hr]at same i ⊢;by_cases hb:x.op.k<1\/4<x.op.k
 ·rw[if_pos hb]at same ⊢;exact same rfl
 rw[if_neg hb]at i ⊢;have Z:k.job=none:=by
  cases Z:k.job
  ·rfl
  simp[Kl.rests,Z]at hr
 have L:(J.pt x.client).asks=false:=by
  cases e:(J.pt x.client).asks with
  |false=>rfl
  |true=>
   obtain⟨k2,j,E,q⟩:=M.asks.1 e
   rw[D]at E;injection E with E;subst E
   rw[Z]at q;cases q
 rw[b6]at i ⊢;have C:(zbh x.client x.op).k=2:=rfl;have S:zf0 (J.pt x.client) (zbh x.client x.op)=0:=by unfold zf0;rw[if_neg (by rw[C];decide),if_neg (by rw[C];decide)];show (if (J.pt x.client).lives=false\/(J.pt x.client).asks=true\/x.op.k<1\/4<x.op.k then(1:Int) else 0)=0;rw[if_neg (by rw[F,L];simp;omega)]
 have b5:zkj (J.pt x.client) (zbh x.client x.op)=⟨true,true,true,x.op.k,x.op.a,x.op.n,false,false,0,false⟩:=by unfold zkj;rw[if_neg (by rw[S];decide),if_neg (by rw[C];decide),if_neg (by rw[C];decide)];rfl
 have X:=zui (z:=x.client) Y (e:=zbh x.client x.op) p (by rw[C];decide) S;rw[show (zbh x.client x.op).c=x.client from rfl,b5]at X;have hH:=zfu (e:=zbh x.client x.op) h.why (zlo (z:=x.client) Y p) X;have B:=zfw (σ':=σ) (d':=d') Y hH h.bl (fun _ _=>.rfl) T (.inl fun _ h=>h) H;have m:(zdo J (zbh x.client x.op)).pt x.client=abP J.l ⟨true,true,true,x.op.k,x.op.a,x.op.n,false,false,0,false⟩:=hH.mine;obtain⟨a1,a2,a3,a4,a5,a6,a7,a8,a9,b9,b0⟩:=zi2 J.l ⟨true,true,true,x.op.k,x.op.a,x.op.n,false,false,0,false⟩;have I:σ.st x.client≠ .unused:=by rw[(V.li _ k D).1];simp
 by_cases o:ziu s x.client x.op.k x.op.a x.op.n=true
 ·rw[if_pos o]at i ⊢;show JI s σ d' (zdo (zdo J (zbh x.client x.op)) (zaf x.client x.op 0 (zjw s x.client x.op.k x.op.a x.op.n)));have R:zd9 ((zdo J (zbh x.client x.op)).pt x.client) (zaf x.client x.op 0 (zjw s x.client x.op.k x.op.a x.op.n))=true:=by
   rw[m];unfold zd9 zaf zjw;dsimp only;by_cases r:zdl s x.client x.op.k x.op.a x.op.n=true
   ·rw[if_pos r,if_neg (by decide),if_neg (by rw[a7,a8];simp),if_pos rfl];unfold zie;rw[a4,a6];dsimp only;rcases zu6 (by omega) r with e|⟨e,q⟩|⟨e,q⟩
    ·rw[e];rfl
    ·rcases e with e|e
     ·rw[e,if_pos rfl,q];rfl
     rw[e,if_neg (by decide),if_neg (by decide),if_pos rfl,q];simp
    have b4:(abP J.l ⟨true,true,true,x.op.k,x.op.a,x.op.n,false,false,0,false⟩).ab=true:=by
     refine b0 rfl ?_
     show zd6 x.op.a J.l=false
     cases hf:zd6 x.op.a J.l with
     |false=>rfl
     |true=>
      exfalso
      obtain⟨b,b1,b2⟩:=(h.bl.found _).1 hf
      have ba:=zwn V.gi b1
      have:spB s x.op.a=true:=z05.2 ⟨hm,by omega⟩
      rw[q]at this;cases this
    rw[b4];rcases e with e|e
    ·rw[e];rfl
    rw[e];rfl
   have G:zk8 s x.op.k x.op.n=true:=by unfold ziu at o;simpa[r] using o
   rw[if_neg r,if_pos G,if_neg (by decide),if_neg (by rw[a7,a8];simp),if_neg (by decide),if_pos rfl,a4];unfold zk8 at G;simp only[Bool.and_eq_true]at G;exact G.1.1
  have b8:=zki (z:=x.client) B (e:=zaf x.client x.op 0 (zjw s x.client x.op.k x.op.a x.op.n)) p rfl (by show ((zdo J (zbh x.client x.op)).pt x.client).lives=true/\((zdo J (zbh x.client x.op)).pt x.client).asks=true;rw[m];exact⟨a2,a3⟩) R;have N:=zfu (e:=zaf x.client x.op 0 (zjw s x.client x.op.k x.op.a x.op.n)) B.why (zlo (z:=x.client) B p) b8;have O:=zfw (σ':=σ) (d':=d') B N B.bl (fun _ _=>.rfl) (fun _ _=>rfl) (.inl fun _ h=>h) H;refine O.ji ?_;have b7:(zdo (zdo J (zbh x.client x.op)) (zaf x.client x.op 0 (zjw s x.client x.op.k x.op.a x.op.n))).pt x.client=abP (zdo J (zbh x.client x.op)).l { (zdo J (zbh x.client x.op)).pt x.client with asks:=false}:=N.mine;rw[b7];obtain⟨b1,b2,b3,_⟩:=zi2 (zdo J (zbh x.client x.op)).l { (zdo J (zbh x.client x.op)).pt x.client with asks:=false};refine zny ?_ (b2.trans ?_) b3 i Z
  ·rw[b1];show ((zdo J (zbh x.client x.op)).pt x.client).was=true↔_;rw[m,a1];exact⟨fun _=>I,fun _=>rfl⟩
  show ((zdo J (zbh x.client x.op)).pt x.client).lives=true;rw[m];exact a2
 rw[if_neg o]at i ⊢;have t:ziu s x.client x.op.k x.op.a x.op.n=false:=by simpa using o
 show JI s σ d' (zdo J (zbh x.client x.op));refine B.ji ?_;rw[m];have U:=(zpc (f:=k.first) hm p ho.fi (by omega) t).2;refine⟨by rw[a1];exact⟨fun _=>I,fun _=>rfl⟩,by rw[a2];exact⟨fun _=>⟨_,i⟩,fun _=>rfl⟩,by rw[a3];exact⟨fun _=>⟨_,_,i,rfl⟩,fun _=>rfl⟩,fun k2 j E q=>?_⟩;rw[i]at E;injection E with E;subst E;injection q with q;subst q;exact⟨⟨a4,a5,a6⟩,a7,a8.trans U.symm,U.symm,z4g hm p _ (by omega) t _ _⟩
theorem z4o(h:JI s σ d J)(m:WI s σ d)(hd:wdOk s d n)(x:Ch)(hc:0<=x.client/\x.client<s.c)(hu:d.stat x.client=0):JI s (σ.stat x.client .live) (d.begin s x).1 (runJ J [zcj x.client]):=by
 have U:=m.rep.may;have F:=(ixs m.rep.fi).2.2.2 _ hc;have b:σ.st x.client= .unused:=by have L:=m.rep.st _ hc;rw[F]at L;unfold Wd.stat at hu;rw[L]at hu;have B:=(TW.read U (m.gi.tf x.client)).1;rw[hu]at B;cases hx:σ.st x.client<;>rw[hx]at B<;>simp[TW.kind]at B
 have hi:x.client.toNat<d.l.length:=by rw[hd.len];omega
 have D:=h.jx x.client;have N:=h.pt x.client hc.1 hc.2
 have t:(J.pt x.client).was=false:=by
  cases e:(J.pt x.client).was with
  |false=>rfl
  |true=>exact absurd b (N.was.1 e)
 have G:∀ k,d.kl x.client≠some k:=fun k T=>by have:=(m.li _ k T).1;rw[b]at this;cases this
 have f:(J.pt x.client).asks=false:=by
  cases e:(J.pt x.client).asks with
  |false=>rfl
  |true=>obtain⟨k,j,S,_⟩:=N.asks.1 e;exact absurd S (G k)
 have q:∀ y,(d.begin s x).1.kl y=if y=x.client then some (zht x.client (Fl.zdr x.bias s.p)) else d.kl y:=fun y=>by unfold Wd.begin;rw[if_pos hu];exact d.zdk hc.1 hi _ _ _ _ _
 have o:zf0 (J.pt x.client) (zcj x.client)=0:=by have e:zf0 (J.pt x.client) (zcj x.client)=(if (J.pt x.client).was=true then 1 else 0):=if_pos rfl;rw[e,t];rfl
 have r:=zui (z:=x.client) D (e:=zcj x.client) hc (show (0:Int)<=0/\(0:Int)<3 by decide) o;have E:zkj (J.pt x.client) (zcj x.client)= { J.pt x.client with was:=true,lives:=true}:=by exact(if_neg (by rw[o];decide)).trans (if_pos rfl)
 rw[show (zcj x.client).c=x.client from rfl,E]at r;have M:=zfu (e:=zcj x.client) h.why (zlo (z:=x.client) D hc) r;have H:∀ y,y≠x.client->((σ.stat x.client .live).st y= .unused↔σ.st y= .unused):=fun y I=>by rw[zao _ _ I]
 have C:=zfw (σ':=σ.stat x.client .live) (d':=(d.begin s x).1) D M h.bl H (fun y I=>by rw[q,if_neg I]) (.inl fun _ h=>h) (zx1 m);show JI s _ _ (zdo J (zcj x.client));refine C.ji ?_;have i:(zdo J (zcj x.client)).pt x.client=abP J.l { J.pt x.client with was:=true,lives:=true}:=M.mine;rw[i];obtain⟨a1,O,R,_⟩:=zi2 J.l { J.pt x.client with was:=true,lives:=true};refine zny ?_ O (R.trans f) (by rw[q,if_pos rfl]) rfl;rw[a1,zbf];simp
theorem yai(h:JI s σ d J)(H:WI s σ d)(hd:wdOk s d n){k:Kl}(r:d.kl c=some k):JI s (σ.stat c .dead) (d.kill c).1 (runJ J [zdw c]):=by
 obtain⟨S,O,hc⟩:=hd.kl _ k r;have B:=h.jx c;have q:=h.pt c hc.1 hc.2;have f:(J.pt c).lives=true:=q.lives.2 ⟨k,r⟩;have o:∀ y,(d.kill c).1.kl y=if y=c then none else d.kl y:=fun y=>by unfold Wd.kill;exact d.zdk hc.1 (Wd.zfs r).2 _ _ _ _ _
 have D:¬ ((J.pt c).asks=true/\(J.pt c).took=true):=fun e=>by obtain⟨R,j,M,N⟩:=q.asks.1 e.1;have:=(q.op R j M N).2.1;rw[this]at e;cases e.2
 have m:zf0 (J.pt c) (zdw c)=0:=by have e:zf0 (J.pt c) (zdw c)=(if (J.pt c).lives=false then 1 else if (J.pt c).asks=true/\(J.pt c).took=true then 5 else 0):=(if_neg (show ¬ (1:Int)=0 by decide)).trans (if_pos rfl);rw[e,if_neg (by rw[f];decide),if_neg D]
 have p:=zui (z:=c) B (e:=zdw c) hc (show (0:Int)<=1/\(1:Int)<3 by decide) m;have C:zkj (J.pt c) (zdw c)= { J.pt c with lives:=false,asks:=false}:=by exact(if_neg (by rw[m];decide)).trans ((if_neg (show ¬ (1:Int)=0 by decide)).trans (if_pos rfl))
 rw[show (zdw c).c=c from rfl,C]at p;have G:=zfu (e:=zdw c) h.why (zlo (z:=c) B hc) p;have E:∀ y,y≠c->((σ.stat c .dead).st y= .unused↔σ.st y= .unused):=fun y F=>by rw[zao _ _ F]
 have t:=zfw (σ':=σ.stat c .dead) (d':=(d.kill c).1) B G h.bl E (fun y F=>by rw[o,if_neg F]) (.inl fun _ h=>h) (zx1 H);show JI s _ _ (zdo J (zdw c));refine t.ji ?_;have i:(zdo J (zdw c)).pt c=abP J.l { J.pt c with lives:=false,asks:=false}:=G.mine;rw[i];obtain⟨a1,I,L,_⟩:=zi2 J.l { J.pt c with lives:=false,asks:=false};have b:∀ k,(d.kill c).1.kl c≠some k:=fun k=>by rw[o,if_pos rfl];simp
 refine⟨?_,?_,?_,fun k j e _=>absurd e (b k)⟩
 ·rw[a1,zbf];simp only[ne_eq,reduceCtorEq,not_false_eq_true,iff_true];exact q.was.2 (by rw[(H.li c k r).1];simp)
 ·rw[I];exact⟨fun e=>(by cases e),fun ⟨k,e⟩=>absurd e (b k)⟩
 rw[L];exact⟨fun e=>(by cases e),fun ⟨k,_,e,_⟩=>absurd e (b k)⟩
theorem ji_act(h:JI s σ d J)(f:WI s σ d)(hd:wdOk s d n)(x:Ch):∃ σ' es,WI s σ' (d.act s x).1/\(d.act s x).1.tr=d.tr++es/\JI s σ' (d.act s x).1 (runJ J es):=by
 have nil:∃ σ' es,WI s σ' d/\d.tr=d.tr++es/\JI s σ' d (runJ J es):=⟨σ, [],f,(List.append_nil _).symm,h⟩;unfold Wd.act;split
 ·exact nil
 rename_i hb;unfold Ch.bad at hb;split
 ·by_cases hu:d.stat x.client=0
  ·refine⟨_, [zcj x.client],zqr f hd x (by omega) hu,?_,z4o h f hd x (by omega) hu⟩;unfold Wd.begin;rw[if_pos hu]
  unfold Wd.begin;rw[if_neg hu];exact nil
 cases hk:d.kl x.client with
 |none=>exact nil;|some k=>
  dsimp only;split
  ·cases hj:k.job with
   |none=>
    have o:k.step s d.m=(k,d.m, [],2):=by unfold Kl.step;rw[hj]
    have r:=zpq (σ':=σ) (d':=(d.step s x.client k).1) (h.jx x.client) (Calm.refl _) (fun _ _=>.rfl) (fun y t=>by
     unfold Wd.step
     rw[d.zdk (Wd.zfs hk).1 (Wd.zfs hk).2,if_neg t])
    have i:(d.step s x.client k).1.kl x.client=d.kl x.client:=by unfold Wd.step;rw[d.zdk (Wd.zfs hk).1 (Wd.zfs hk).2,if_pos rfl,o,hk]
    have l:=h.pt x.client (by omega) (by omega);refine⟨σ, [],?_,?_,r.ji ⟨l.was,by rw[i];exact l.lives,by rw[i];exact l.asks,fun k j a b=>l.op k j (i ▸ a) b⟩⟩
    ·unfold Wd.step;rw[o];dsimp only;exact zw8 f hk (f.li _ k hk).2 (.inl rfl) _ _
    unfold Wd.step;rw[o]
   |some j=>obtain⟨p,q⟩:=ybj h f hd hk hj;exact⟨_,_,p,rfl,q⟩
  split
  ·exact⟨σ,_,zwb f hd x hk,rfl,yep h f hd x hk⟩
  exact⟨_,_,zp4 f hd hk,rfl,yai h f hd hk⟩
theorem ji_new(h:mayB s.p s.c s.m=true):JI s z9x (zde s) (newJ s.p s.c s.m):=by
 have hb:=zar.1 h;have o:newJ s.p s.c s.m=⟨s.p*64, [],List.replicate s.c.toNat Pt.zero,0, -1,0⟩:=by unfold newJ;rw[if_pos h]
 rw[o];have i:∀ c k,(zde s).kl c≠some k:=fun c k f=>by
  unfold Wd.kl zde at f;dsimp only at f;rw[List.getD_eq_getElem?_getD,List.getElem?_replicate]at f;split at f
  ·split at f<;>simp at f
  cases f
 have l:∀ c,(⟨s.p*64, [],List.replicate s.c.toNat Pt.zero,0, -1,0⟩:Jd).pt c=Pt.zero:=fun c=>by unfold Jd.pt;dsimp only;rw[List.getD_eq_getElem?_getD,List.getElem?_replicate];split<;>rfl
 refine⟨rfl,rfl,⟨by show (0:Int)<=s.p*64;omega,fun a n=>⟨fun e=>(by cases e),fun ⟨b,e,_⟩=>by cases b<;>cases e⟩⟩,by simp,fun c _ _=>?_,fun c _ _ e=>?_⟩
 ·rw[l];exact⟨⟨fun e=>(by cases e),fun e=>absurd rfl e⟩,⟨fun e=>(by cases e),fun ⟨k,e⟩=>absurd e (i c k)⟩,⟨fun e=>(by cases e),fun ⟨k,_,e,_⟩=>absurd e (i c k)⟩,fun k j e _=>absurd e (i c k)⟩
 rw[l]at e;cases e
end

end Go.Proofs.YtkbddndcegpllaaGreat
