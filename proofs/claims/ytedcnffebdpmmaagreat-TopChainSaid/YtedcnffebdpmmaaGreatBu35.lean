/- Texts bound together: InvU InvV AiP. -/
import Derived.Test.YtedcnffebdpmmaaGreatBu34

set_option linter.all false
namespace Go.Proofs.YtedcnffebdpmmaaGreat

section

variable {s:Sh} {σ σ':Ab} {d d':Wd} {J:Jd} {n:Nat}

structure PtOk (σ:Ab) (d:Wd) (c:Int) (p:Pt):Prop where
 was:p.was=true↔σ.st c≠ .unused
 lives:p.lives=true↔∃ k,d.kl c=some k
 asks:p.asks=true↔∃ k j,d.kl c=some k/\k.job=some j
 op:∀ k j,d.kl c=some k->k.job=some j->(p.k=k.op.k/\p.a=k.op.a/\p.n=k.op.n)/\p.took=false/\p.gave=j.gave/\k.told=j.gave/\zlq σ.has p.ab k.op j
def Jd.pt (J:Jd) (c:Int):Pt:=J.ps.getD c.toNat Pt.zero
structure JI (s:Sh) (σ:Ab) (d:Wd) (J:Jd):Prop where
 W:J.W=s.p * 64
 why:J.why=0
 bl:zjj J.W σ.has J.l
 pl:J.ps.length=s.c.toNat
 pt:∀ c,0<=c->c < s.c->PtOk σ d c (J.pt c)
 ab:∀ c,0<=c->c < s.c->(J.pt c).asks=true->zd6 (J.pt c).a J.l=false->(J.pt c).ab=true
theorem zi2(l:List Bk)(p:Pt):(abP l p).was=p.was/\(abP l p).lives=p.lives/\(abP l p).asks=p.asks/\(abP l p).k=p.k/\(abP l p).a=p.a/\(abP l p).n=p.n/\(abP l p).took=p.took/\(abP l p).gave=p.gave/\(abP l p).at'=p.at'/\(p.ab=true->(abP l p).ab=true)/\(p.asks=true->zd6 p.a l=false->(abP l p).ab=true):=by
 unfold abP;split
 ·exact⟨rfl,rfl,rfl,rfl,rfl,rfl,rfl,rfl,rfl,fun _=>rfl,fun _ _=>rfl⟩
 rename_i h;exact⟨rfl,rfl,rfl,rfl,rfl,rfl,rfl,rfl,rfl,id,fun h1 h2=>absurd ⟨h2,h1⟩ h⟩
structure yex (J J':Jd) (c:Int) (l':List Bk) (v:Pt):Prop where
 W:J'.W=J.W
 why:J'.why=0
 l:J'.l=l'
 pl:J'.ps.length=J.ps.length
 mine:J'.pt c=abP l' v
 other:∀ x,0<=x->x.toNat < J.ps.length->x≠c->J'.pt x=abP l' (J.pt x)
theorem z9m{l:List Pt}{i j:Nat}{v z:Pt}(f:Pt->Pt)(hi:i<l.length)(b:j<l.length):((l.set i v).map f).getD j z=f (if i=j then v else l.getD j z):=by
 rw[List.getD_eq_getElem?_getD,List.getElem?_map,List.getElem?_set];by_cases e:i=j
 ·subst e;simp[hi]
 simp[e,b]
theorem zfu{e:Ev}{l':List Bk}{v:Pt}(f:J.why=0)(hc:0<=e.c/\e.c.toNat<J.ps.length)(h:whyJ J.W J.l J.ps e=⟨0,l',J.ps.set e.c.toNat v⟩):yex J (zdo J e) e.c l' v:=by
 have hb:z4x J e=true:=(zsk J e).2 ⟨f,by rw[h]⟩;have b:=z9p hb;rw[h]at b;rw[b];refine⟨rfl,f,rfl,by simp,?_,fun x h0 h1 h2=>?_⟩
 ·show ((J.ps.set e.c.toNat v).map (abP l')).getD e.c.toNat Pt.zero=_;rw[z9m _ hc.2 hc.2,if_pos rfl]
 show ((J.ps.set e.c.toNat v).map (abP l')).getD x.toNat Pt.zero=_;rw[z9m _ hc.2 h1,if_neg (by omega)];rfl
theorem PtOk.heard{p:Pt}{x:Int}{l':List Bk}(h:PtOk σ d x p)(y:σ'.st x= .unused↔σ.st x= .unused)(i:d'.kl x=d.kl x)(f:(∀ b,σ'.has b->σ.has b)\/(∀ b,σ.has b->σ'.has b))(h1:z5i σ.has){W:Int}(t:zjj W σ'.has l'):PtOk σ' d' x (abP l' p):=by
 obtain⟨F,G,H,I,M,N,O,R,a9,m,q⟩:=zi2 l' p;refine⟨by rw[F,h.was];exact not_congr y.symm,by rw[G,i];exact h.lives,by rw[H,i];exact h.asks,fun k j r C=>?_⟩;rw[i]at r;obtain⟨⟨S,B,T⟩,U,V,X,Y⟩:=h.op k j r C;refine⟨⟨I.trans S,M.trans B,N.trans T⟩,O.trans U,R.trans V,X,Y.mono m fun b hb E=>?_⟩;rcases f with f|f
 ·by_cases l:σ'.has b
  ·exact .inr l
  refine .inl (q (h.asks.2 ⟨k,j,r,C⟩) ?_);cases hf:zd6 p.a l' with
  |false=>rfl;|true=>obtain⟨z,D,Z⟩:=(t.found _).1 hf;have:z=b:=h1 z b (f _ D) E (by rw[Z,B,hb]);subst this;exact absurd D l
 exact .inr (f b E)
theorem zx1(h:WI s σ d):z5i σ.has:=fun _ _ h1 h2 h3=>ybm h.gi h1 h2 h3
structure JX (s:Sh) (σ:Ab) (d:Wd) (J:Jd) (c:Int):Prop where
 W:J.W=s.p * 64
 why:J.why=0
 bl:zjj J.W σ.has J.l
 pl:J.ps.length=s.c.toNat
 pt:∀ x,x≠c->0<=x->x < s.c->PtOk σ d x (J.pt x)
 ab:∀ x,0<=x->x < s.c->(J.pt x).asks=true->zd6 (J.pt x).a J.l=false->(J.pt x).ab=true
theorem JI.jx(h:JI s σ d J)(c:Int):JX s σ d J c:=⟨h.W,h.why,h.bl,h.pl,fun x _=>h.pt x,h.ab⟩
theorem JX.ji{c:Int}(h:JX s σ d J c)(hc:PtOk σ d c (J.pt c)):JI s σ d J:=⟨h.W,h.why,h.bl,h.pl,fun x h0 h1=>by
 by_cases e:x=c
 ·subst e;exact hc
 ·exact h.pt x e h0 h1,h.ab⟩
theorem zfw{c:Int}{l':List Bk}{v:Pt}{J':Jd}(h:JX s σ d J c)(f:yex J J' c l' v)(j:zjj J.W σ'.has l')(t:∀ x,x≠c->(σ'.st x= .unused↔σ.st x= .unused))(r:∀ x,x≠c->d'.kl x=d.kl x)
  (m:(∀ b,σ'.has b->σ.has b)\/(∀ b,σ.has b->σ'.has b)) (h1:z5i σ.has):JX s σ' d' J' c:=by
 have i:∀ x,0<=x->x<s.c->x.toNat<J.ps.length:=fun x h0 h1=>by rw[h.pl];omega
 refine⟨f.W.trans h.W,f.why,by rw[f.W,f.l];exact j,f.pl.trans h.pl,fun x e h0 h2=>?_,fun x h0 h2=>?_⟩
 ·rw[f.other x h0 (i x h0 h2) e];exact(h.pt x e h0 h2).heard (t x e) (r x e) m h1 j
 have ab:∀ p,(abP l' p).asks=true->zd6 (abP l' p).a l'=false->(abP l' p).ab=true:=fun p C D=>by obtain⟨E,F,z,G,B,H,I,M,N,y,q⟩:=zi2 l' p;exact q (z ▸ C) (B ▸ D)
 rw[f.l];by_cases e:x=c
 ·subst e;rw[f.mine];exact ab _
 rw[f.other x h0 (i x h0 h2) e];exact ab _
theorem zpq{c:Int}(h:JX s σ d J c)(hc:Calm σ σ')(l:∀ x,x≠c->(σ'.st x= .unused↔σ.st x= .unused))(f:∀ x,x≠c->d'.kl x=d.kl x):JX s σ' d' J c:=by
 refine⟨h.W,h.why,h.bl.congr hc,h.pl,fun x e h0 h2=>?_,h.ab⟩;have i:=h.pt x e h0 h2;refine⟨by rw[i.was];exact not_congr (l x e).symm,by rw[f x e];exact i.lives,by rw[f x e];exact i.asks,fun k j m z=>?_⟩;rw[f x e]at m;obtain⟨p,q,r,t,y⟩:=i.op k j m z;exact⟨p,q,r,t,y.mono id fun b _ hb=>.inr ((hc b).2 hb)⟩
theorem zlo{z:Int}(h:JX s σ d J z){c:Int}(hc:0<=c/\c<s.c):0<=c/\c.toNat<J.ps.length:=⟨hc.1,by rw[h.pl];omega⟩
theorem zui{z:Int}(h:JX s σ d J z){e:Ev}(hc:0<=e.c/\e.c<s.c)(b:0<=e.k/\e.k<3)(h0:zf0 (J.pt e.c) e=0):whyJ J.W J.l J.ps e=⟨0,J.l,J.ps.set e.c.toNat (zkj (J.pt e.c) e)⟩:=by
 have f:=zlo h hc;have h0:zf0 (J.ps.getD e.c.toNat Pt.zero) e=0:=h0;unfold whyJ;rw[if_neg (by omega),if_pos (by omega),h0];rfl
theorem z5v{z:Int}(h:JX s σ d J z){e:Ev}(hc:0<=e.c/\e.c<s.c)(i:e.k=4)(j:(J.pt e.c).lives=true/\(J.pt e.c).asks=true)(h0:z8m J.l (J.pt e.c) e=0):whyJ J.W J.l J.ps e=⟨0,zse J.l e.at',J.ps.set e.c.toNat { J.pt e.c with gave:=true}⟩:=by
 have m:=zlo h hc;obtain⟨b,f⟩:=j;unfold Jd.pt at b f h0;unfold whyJ;rw[if_neg (by omega),if_neg (by omega),b,f,if_neg (by simp),if_neg (by omega),if_pos i,h0];rfl
theorem z5f{z:Int}(h:JX s σ d J z){e:Ev}(hc:0<=e.c/\e.c<s.c)(i:e.k=3)(j:(J.pt e.c).lives=true/\(J.pt e.c).asks=true)(h0:z8g J.W J.l (J.pt e.c) e=0):whyJ J.W J.l J.ps e=⟨0,putB J.l e.at' e.n,J.ps.set e.c.toNat { J.pt e.c with took:=true,at':=e.at'}⟩:=by
 have m:=zlo h hc;obtain⟨b,f⟩:=j;unfold Jd.pt at b f h0;unfold whyJ;rw[if_neg (by omega),if_neg (by omega),b,f,if_neg (by simp),if_pos i,h0];rfl
theorem zki{z:Int}(h:JX s σ d J z){e:Ev}(hc:0<=e.c/\e.c<s.c)(j:e.k=5)(i:(J.pt e.c).lives=true/\(J.pt e.c).asks=true)(h0:zd9 (J.pt e.c) e=true):whyJ J.W J.l J.ps e=⟨0,J.l,J.ps.set e.c.toNat { J.pt e.c with asks:=false}⟩:=by
 have m:=zlo h hc;obtain⟨b,f⟩:=i;unfold Jd.pt at b f h0;unfold whyJ;rw[if_neg (by omega),if_neg (by omega),b,f,if_neg (by simp),if_neg (by omega),if_neg (by omega),h0];rfl
theorem zny{c:Int}{p:Pt}{k:Kl}(r:p.was=true↔σ'.st c≠ .unused)(q:p.lives=true)(m:p.asks=false)(i:d'.kl c=some k)(l:k.job=none):PtOk σ' d' c p:=by
 refine⟨r,by rw[q];exact⟨fun _=>⟨k,i⟩,fun _=>rfl⟩,⟨fun e=>absurd (m.symm.trans e) (by decide),fun ⟨t,j,b,f⟩=>?_⟩,fun t j b f=>?_⟩
 ·rw[i]at b;injection b with b;subst b;rw[l]at f;cases f
 rw[i]at b;injection b with b;subst b;rw[l]at f;cases f
theorem zng{c:Int}{j:Jb}{b:Blk}(F:mayB s.p s.c s.m=true)(hc:0<=c/\c<s.c)(q:jbIs s c j)(h:j.took=some b):j.done=true/\j.err=0/\(j.gave=true\/∃ r x,j= .mal r x):=by
 cases j with
 |mal r x=>
  have l:(if zck x=true then r.got else none)=some b:=h;split at l
  ·rename_i i;rcases x with _|y
   ·cases i
   have t:=q.2 y rfl;refine⟨?_,?_,.inr ⟨r,_,rfl⟩⟩
   ·show (r.done&&(!r.got.isSome||y.done))=true;rw[t.2.1,t.2.2.1];simp
   show (if r.got.isSome=true then(0:Int) else 3)=0;rw[if_pos (by rw[l];rfl)]
  cases l
 |fre f=>cases h;|aga r=>
  have h:(if r.done=true/\r.err=0 then(match r.res with|some x=>x.got|none=>none) else none)=some b:=h;split at h
  ·rename_i i;obtain⟨G,C,f,D,E,z,B⟩:=q.fin i.1 i.2;refine⟨i.1,i.2,.inl ?_⟩;show (match r.free with|some f=>f.gave|none=>false)=true;rw[z];exact B
  cases h
 |hei a=>cases h
theorem ycg{p:Pt}{e:Ev}(h:e.er=0):zd9 p e=zzo p e.at':=if_pos h
theorem z4e{p:Pt}{e:Ev}(h:e.er≠0)(h1:p.took=false)(h2:p.gave=false)(h3:e.at'=0):zd9 p e=(if e.er=1 then zie p else if e.er=3 then p.k==1||p.k==3 else if e.er=4\/e.er=5 then p.k==4 else false):=by
 unfold zd9;rw[if_neg h,if_neg (by rw[h1,h2,h3];simp)]
theorem ydw{p:Pt}{e:Ev}(h:e.er=1)(h1:p.took=false)(h2:p.gave=false)(h3:e.at'=0):zd9 p e=zie p:=by
 rw[z4e (by omega) h1 h2 h3,if_pos h]
theorem yc3{p:Pt}{e:Ev}(h:e.er=3)(h1:p.took=false)(h2:p.gave=false)(h3:e.at'=0):zd9 p e=(p.k==1||p.k==3):=by
 rw[z4e (by omega) h1 h2 h3,if_neg (by omega),if_pos h]
theorem z9k{p:Pt}{e:Ev}(h:e.er=4\/e.er=5)(h1:p.took=false)(h2:p.gave=false)(h3:e.at'=0):zd9 p e=(p.k==4):=by
 rw[z4e (by omega) h1 h2 h3,if_neg (by omega),if_neg (by omega),if_pos h]
theorem zs5{c:Int}{j:Jb}{o:Op3}{p:Pt}{H:Bl->Prop}(S:mayB s.p s.c s.m=true)(hc:0<=c/\c<s.c)(I:jbIs s c j)(hd:j.done=true)(t:zlq H p.ab o j)(B:p.k=o.k/\p.a=o.a/\p.n=o.n)(C:p.gave=j.gave)
  (T:(j.took=none/\p.took=false)\/∃ b,j.took=some b/\p.took=true/\p.at'=b.at'):zd9 p (zaf c o (zb1 j.took) j.err)=true:=by
 rcases T with⟨q,y⟩|⟨b,q,y,V⟩
 ·rw[q];cases j with
  |mal r x=>
   have l:(Jb.mal r x).err=3:=by
    show (if r.got.isSome=true then(0:Int) else 3)=3
    cases hgot:r.got with
    |none=>rfl
    |some b=>
     exfalso
     have hd:(r.done&&(!r.got.isSome||zck x))=true:=hd
     rw[hgot]at hd
     have U:zck x=true:=by simpa using(Bool.and_eq_true _ _ ▸ hd).2
     have q:(if zck x=true then r.got else none)=none:=q
     rw[if_pos U,hgot]at q;cases q
   rw[yc3 (e:=zaf c o (zb1 none) (Jb.mal r x).err) l y C rfl,B.1,t.1];rfl
  |fre f=>
   rcases Bool.eq_false_or_eq_true f.gave with e|e
   ·have l:(Jb.fre f).err=0:=if_pos e;have i:p.gave=true:=C.trans e;rw[ycg (e:=zaf c o (zb1 none) (Jb.fre f).err) l];unfold zzo;rw[B.1,t.1,if_neg (by decide),if_pos rfl,i];rfl
   have l:(Jb.fre f).err=1:=if_neg (by rw[e];decide);have i:p.gave=false:=C.trans e;rw[ydw (e:=zaf c o (zb1 none) (Jb.fre f).err) l y i rfl];unfold zie;rw[B.1,t.1,if_neg (by decide),if_pos rfl];exact t.2.no hd e
  |aga r=>
   obtain⟨G,Y,Z,f4,R⟩:=t;rcases R hd with e|⟨E,F⟩|⟨E,F,O⟩
   ·exfalso;obtain⟨r',X,f,M,N,_⟩:=I.fin hd e;have q:(if r.done=true/\r.err=0 then(match r.res with|some x=>x.got|none=>none) else none)=none:=q;rw[if_pos ⟨hd,e⟩,M]at q;dsimp only at q;rw[N]at q;cases q
   ·have l:(Jb.aga r).err=3:=E;have i:p.gave=false:=C.trans F;rw[yc3 (e:=zaf c o (zb1 none) (Jb.aga r).err) l y i rfl,B.1,G];rfl
   have l:(Jb.aga r).err=1:=E;have i:p.gave=false:=C.trans F;rw[ydw (e:=zaf c o (zb1 none) (Jb.aga r).err) l y i rfl];unfold zie;rw[B.1,G,if_neg (by decide),if_neg (by decide),if_pos rfl,O];rfl
  |hei a=>
   have i:p.gave=false:=C;have z:p.k=4:=B.1.trans t.1;rcases t.2 hd with e|e|e
   ·have l:(Jb.hei a).err=0:=e;rw[ycg (e:=zaf c o (zb1 none) (Jb.hei a).err) l];unfold zzo;rw[z,if_neg (by decide),if_neg (by decide)];rfl
   ·have l:(Jb.hei a).err=4:=e;rw[z9k (e:=zaf c o (zb1 none) (Jb.hei a).err) (.inl l) y i rfl,z];rfl
   have l:(Jb.hei a).err=5:=e;rw[z9k (e:=zaf c o (zb1 none) (Jb.hei a).err) (.inr l) y i rfl,z];rfl
 obtain⟨_,h2,h3⟩:=zng S hc I q;have D:=(zor t q).2.2;rw[ycg (e:=zaf c o (zb1 j.took) j.err) h2];show zzo p (zb1 j.took)=true;rw[q];unfold zzo;rw[if_pos (by rw[B.1];exact D),y,V];simp[zb1]
theorem ybj(h:JI s σ d J)(hw:WI s σ d)(hd:wdOk s d n){c:Int}{k:Kl}{j:Jb}(hk:d.kl c=some k)(hj:k.job=some j):WI s (j.zhf s c σ).2 (d.step s c k).1/\JI s (j.zhf s c σ).2 (d.step s c k).1 (runJ J (k.step s d.m).2.2.1):=by
 obtain⟨w1,chg,b9⟩:=zt5 hw hd hk hj;refine⟨w1,?_⟩;obtain⟨ho,bf,t⟩:=hd.kl c k hk;obtain⟨ch,bi⟩:=hw.li c k hk;obtain⟨bh,bu,cg,cf⟩:=ho.jb j hj;rw[bf]at bh;have c6:JbAt s c σ j:=by unfold KlAt at bi;rw[hj]at bi;exact bi
 have G:=zqw (m:=d.m) bh t bu hw.rep.fi hd.fit;have bv:k.step s d.m=(k.after (j.step s c d.m).1,(j.step s c d.m).2,k.tells (j.step s c d.m).1,0):=by unfold Kl.step;rw[hj,bf]
 have hP:=h.pt c t.1 t.2;obtain⟨q1,q2,q3,q4,q5⟩:=hP.op k j hk hj;have i:(J.pt c).lives=true:=hP.lives.2 ⟨k,hk⟩;have B:(J.pt c).asks=true:=hP.asks.2 ⟨k,j,hk,hj⟩;have b5:=zx1 hw;have hX:=h.jx c
 have c5:(∀ b,σ.has b->b.at'≠k.op.a)->(J.pt c).ab=true:=fun hb=>by
  refine h.ab c t.1 t.2 B ?_
  cases hf:zd6 (J.pt c).a J.l with
  |false=>rfl
  |true=>
   obtain⟨b,b1,b2⟩:=(h.bl.found _).1 hf
   exact absurd (b2.trans q1.2.1) (hb b b1)
 have M:=fun (ab':Bool) c8 bj=>zzb (ab':=ab') hw.rep hw.gi bh t bu c6 q5 c5 c8 bj;have b6:∀ x,x≠c->(d.step s c k).1.kl x=d.kl x:=fun x hx=>by unfold Wd.step;rw[d.zdk (Wd.zfs hk).1 (Wd.zfs hk).2,if_neg hx]
 have N:(d.step s c k).1.kl c=some (k.after (j.step s c d.m).1):=by unfold Wd.step;rw[d.zdk (Wd.zfs hk).1 (Wd.zfs hk).2,if_pos rfl,bv]
 have b7:∀ x,x≠c->((j.zhf s c σ).2.st x= .unused↔σ.st x= .unused):=fun x _=>chg.st x;have bb:∀ p:Pt,p.was=(J.pt c).was->(p.was=true↔(j.zhf s c σ).2.st c≠ .unused):=fun p e=>by rw[e,hP.was];exact not_congr (chg.st c).symm
 have c7:=b9;generalize (d.step s c k).1=d' at *;rw[bv];dsimp only;rw[b9]at chg N G ⊢;generalize cc:(j.zhf s c σ).2=σ' at *;generalize cd:(j.zhf s c σ).1=j' at *;have U:jbIs s c j':=G.2.1;have cj:(k.after j').op=k.op:=rfl;have bk:(k.after j').told=(k.told||j'.gave):=rfl;have ba:(k.after j').job=if j'.done=true then none else some j':=rfl;have X:∀ (p:Pt),j'.done=false->p.was=(J.pt c).was->p.lives=true->p.asks=true->p.k=(J.pt c).k->p.a=(J.pt c).a->p.n=(J.pt c).n->p.took=false->p.gave=j'.gave->zlq σ'.has p.ab k.op j'->PtOk σ' d' c p:=fun p e0 e1 e2 e3 e4 e5 e6 e7 e8 e9=>by
  have bs:(k.after j').job=some j':=by rw[ba,if_neg (by rw[e0];decide)]
  refine⟨bb p e1,⟨fun _=>⟨_,N⟩,fun _=>e2⟩,⟨fun _=>⟨_,_,N,bs⟩,fun _=>e3⟩,fun k2 j2 V f2=>?_⟩;rw[N]at V;injection V with V;subst V;rw[bs]at f2;injection f2 with f2;subst f2;refine⟨⟨e4.trans q1.1,e5.trans q1.2.1,e6.trans q1.2.2⟩,e7,e8,?_,e9⟩;rw[bk,q4];rcases Bool.eq_false_or_eq_true j.gave with e|e
  ·rw[e,G.2.2.2 e];rfl
  rw[e];rfl
 have rests:∀ (p:Pt),j'.done=true->p.was=(J.pt c).was->p.lives=true->p.asks=false->PtOk σ' d' c p:=fun p e0 e1 e2 e3=>zny (bb p e1) e2 e3 N (by rw[ba,if_pos e0])
 unfold Kl.tells;rw[q4,bf];by_cases F:j'.gave=true/\j.gave=false
 ·obtain⟨⟨f,V,f2,f3,f4⟩,bw⟩:=chg.gave F.2 F.1;rw[if_pos F,if_neg (by rw[bw];decide)]
  have bp:(feBl f).at'=k.op.a/\mayG (J.pt c)=true:=by
   cases j with
   |fre f'=>
    injection V with V;subst V
    exact⟨q5.2.bl f4 (by omega),by unfold mayG;rw[q1.1,q5.1];rfl⟩
   |aga r=>exact⟨(q5.2.2.2.1 f V).bl f4 (by omega),by unfold mayG;rw[q1.1,q5.1];rfl⟩
   |mal r x=>cases V
   |hei a=>cases V
  have R:=h.bl.minus b5 f2.1 f2.2;rw[bp.1]at R
  have cb:=z5v (z:=c) hX (e:=zbw c k.op.a) t rfl ⟨i,B⟩ (by
   unfold z8m
   show (if mayG (J.pt c)=false\/(J.pt c).gave=true\/k.op.a≠(J.pt c).a then 5 else if zd6 k.op.a J.l=true then 0 else 3)=0
   rw[if_neg (by rw[bp.2,q3,F.2,q1.2.1];simp),if_pos R.1])
  have hH:=zfu (e:=zbw c k.op.a) h.why (zlo (z:=c) hX t) cb;have y:=zfw (σ':=σ') (d':=d') hX hH R.2 b7 b6 (.inl fun b hb=>((f2.2 b).1 hb).1) b5;show JI s σ' d' (zdo J (zbw c k.op.a));refine y.ji ?_;have q:(zdo J (zbw c k.op.a)).pt c=abP (zse J.l k.op.a) { J.pt c with gave:=true}:=hH.mine;rw[q];obtain⟨a1,a2,a3,a4,a5,a6,a7,a8,a9,bc,bx⟩:=zi2 (zse J.l k.op.a) { J.pt c with gave:=true};exact X _ bw a1 (a2.trans i) (a3.trans B) a4 a5 a6 (a7.trans q2) (a8.trans F.1.symm) (M _ bc fun e=>by rw[F.1,F.2]at e;cases e)
 rw[if_neg F,List.nil_append];have b0:j'.gave=j.gave:=by
  rcases Bool.eq_false_or_eq_true j.gave with e|e
  ·rw[e,G.2.2.2 e]
  rw[e];cases e2:j'.gave with
  |false=>rfl
  |true=>exact absurd ⟨e2,e⟩ F
 have bn:j.gave=true\/j'.gave=false:=by
  rw[b0];cases j.gave
  ·exact .inr rfl
  exact .inl rfl
 rcases Bool.eq_false_or_eq_true j'.done with C|C
 ·rw[if_pos C];cases E:j'.took with
  |some b=>
   obtain⟨_,t2,t3⟩:=zng hw.rep.may t U E;have T:=chg.took b E;obtain⟨bz,c4⟩:=z7l b;have b8:σ'.has (zoa b):=(T.2 _).2 (.inr rfl);have bq:=zwn w1.gi b8;rw[<-h.W]at bq;have R:=h.bl.plus T.2 bq fun x hx=>zsn w1.gi ((T.2 x).2 (.inl hx)) b8 fun e=>T.1 (e ▸ hx);rw[bz,c4]at R;have bg:=M (J.pt c).ab id fun _ b' _ O=>(T.2 b').2 (.inl O);obtain⟨g1,g2,g3⟩:=zor bg E;have c9:mayT (J.pt c)=true:=by
    unfold mayT;rw[q1.1];rcases g3 with e|e
    ·rw[e];rfl
    rcases t3 with e2|⟨r,x,e2⟩
    ·rw[e,q3,<- b0,e2];rfl
    rw[e2]at bg;rw[bg.1]at e;cases e
   have ca:=z5f (z:=c) hX (e:=zb5 c b.at' b.len) t rfl ⟨i,B⟩ (by
    unfold z8g
    show (if mayT (J.pt c)=false\/(J.pt c).took=true\/lenB (J.pt c).n=false\/lenV (J.pt c).n≠b.len then 5 else if zwf J.W J.l b.at' b.len=true then 0 else 2)=0
    rw[if_neg (by rw[c9,q2,q1.2.2,g1,g2];simp),if_pos R.1])
   have hH:=zfu (e:=zb5 c b.at' b.len) h.why (zlo (z:=c) hX t) ca;have y:=zfw (σ':=σ') (d':=d') hX hH R.2 b7 b6 (.inr fun b hb=>(T.2 b).2 (.inl hb)) b5;have q:(zdo J (zb5 c b.at' b.len)).pt c=abP (putB J.l b.at' b.len) { J.pt c with took:=true,at':=b.at'}:=hH.mine;obtain⟨a1,a2,a3,a4,a5,a6,a7,a8,a9,bc,bx⟩:=zi2 (putB J.l b.at' b.len) { J.pt c with took:=true,at':=b.at'};show JI s σ' d' (zdo (zdo J (zb5 c b.at' b.len)) (zaf c k.op (zb1 (some b)) j'.err));generalize zdo J (zb5 c b.at' b.len)=J1 at *;have I:=zs5 (p:=J1.pt c) hw.rep.may t U C (H:=σ'.has) (by rw[q];exact M _ bc fun _ b' _ O=>(T.2 b').2 (.inl O)) (by rw[q];exact⟨a4.trans q1.1,a5.trans q1.2.1,a6.trans q1.2.2⟩) (by rw[q];exact a8.trans (q3.trans b0.symm)) (.inr ⟨b,E,by rw[q];exact a7,by rw[q];exact a9⟩);rw[E]at I;have bm:=zki (z:=c) y (e:=zaf c k.op (zb1 (some b)) j'.err) t rfl (by show (J1.pt c).lives=true/\(J1.pt c).asks=true;rw[q];exact⟨a2.trans i,a3.trans B⟩) I;have Y:=zfu (e:=zaf c k.op (zb1 (some b)) j'.err) y.why (zlo (z:=c) y t) bm;have S:=zx1 w1;have Z:=zfw (σ':=σ') (d':=d') y Y y.bl (fun _ _=>.rfl) (fun _ _=>rfl) (.inl fun _ h=>h) S;refine Z.ji ?_;have b4:=Y.mine;have b4:(zdo J1 (zaf c k.op (zb1 (some b)) j'.err)).pt c=abP J1.l { J1.pt c with asks:=false}:=b4;rw[b4];obtain⟨b1,b2,b3,_⟩:=zi2 J1.l { J1.pt c with asks:=false};refine rests _ C (b1.trans ?_) (b2.trans ?_) b3
   ·show (J1.pt c).was=_;rw[q];exact a1
   show (J1.pt c).lives=_;rw[q];exact a2.trans i
  |none=>have D:=chg.calm bn E;have y:=zpq (σ':=σ') (d':=d') hX D b7 b6;have I:=zs5 (p:=J.pt c) hw.rep.may t U C (H:=σ'.has) (M _ id fun _ b' _ O=>(D b').2 O) q1 (q3.trans b0.symm) (.inl ⟨E,q2⟩);rw[E]at I;have bm:=zki (z:=c) y (e:=zaf c k.op (zb1 none) j'.err) t rfl ⟨i,B⟩ I;have Y:=zfu (e:=zaf c k.op (zb1 none) j'.err) y.why (zlo (z:=c) y t) bm;have S:=zx1 w1;have Z:=zfw (σ':=σ') (d':=d') y Y y.bl (fun _ _=>.rfl) (fun _ _=>rfl) (.inl fun _ h=>h) S;show JI s σ' d' (zdo J (zaf c k.op (zb1 none) j'.err));refine Z.ji ?_;have b4:(zdo J (zaf c k.op (zb1 none) j'.err)).pt c=abP J.l { J.pt c with asks:=false}:=Y.mine;rw[b4];obtain⟨b1,b2,b3,_⟩:=zi2 J.l { J.pt c with asks:=false};exact rests _ C b1 (b2.trans i) b3
 rw[if_neg (by rw[C];decide)]
 have E:j'.took=none:=by
  cases e:j'.took with
  |none=>rfl
  |some b=>have:=(zng hw.rep.may t U e).1;rw[C]at this;cases this
 have D:=chg.calm bn E;have y:=zpq (σ':=σ') (d':=d') hX D b7 b6;exact y.ji (X _ C rfl i B rfl rfl rfl q2 (q3.trans b0.symm) (M _ id fun _ b' _ O=>(D b').2 O))
end

section

variable {s:Sh} {σ:Ab} {d:Wd} {J:Jd} {n:Nat} {c:Int}

theorem z4g(hs:mayB s.p s.c s.m=true)(hc:0<=c/\c<s.c)(f:Int){o:Op3}(B:1<=o.k/\o.k<=4)(q:ziu s c o.k o.a o.n=false)(H:Bl->Prop)(ab:Bool):zlq H ab o (zgl s c f o.k o.a o.n):=by
 have hb:=zar.1 hs;unfold ziu at q;rw[Bool.or_eq_false_iff]at q;obtain⟨h2,h3⟩:=q;have h1:zae s.p s.c s.m c=c:=zeu hs hc;obtain⟨ok,oa,on⟩:=o;dsimp only at *;have:ok=1\/ok=2\/ok=3\/ok=4:=by omega
 rcases this with rfl|rfl|rfl|rfl
 ·have b:lenB on=true:=by simpa[zdl] using h2
  exact⟨rfl,b,zr2 b s c f⟩
 ·have b:spB s oa=true:=by simpa[zdl] using h2
  exact⟨rfl,zsr hs hc b H ab⟩
 ·have b:lenB on=true/\spB s oa=true:=by simpa[zdl] using h2
  have l:=zsr (c:=c) hs hc b.2 H ab;show zlq H ab ⟨3,oa,on⟩ (.aga (zhh s c oa on f));unfold zhh;rw[if_pos ⟨b.2,b.1,by omega⟩];obtain⟨r,t,y⟩:=zer s ⟨c,some (zdh s c on f),some (zc2 s c oa),none,none,0,false⟩ (zdh s c on f) (zc2 s c oa) rfl rfl rfl (ab:=ab) (fun e=>by cases e) (fun _ _=>rfl);exact⟨rfl,b.1,fun x j=>by rw[r]at j;injection j with j;subst j;exact zr2 b.1 s c f,fun z i=>by rw[t]at i;injection i with i;subst i;exact l,y⟩
 refine⟨rfl,fun e=>?_⟩;have e:(zix s c oa).done=true:=e;have b:0<=zae s.p s.c s.m oa/\oa≠c:=by have:=h2;simp only[zdl,beq_self_eq_true,Bool.true_and,Bool.or_eq_false_iff,decide_eq_false_iff_not,beq_eq_false_iff_ne]at this;exact⟨by omega,this.1.1.2⟩
 unfold zix at e;dsimp only at e;rw[if_neg (by rintro(h|h|h);omega;omega;exact b.2 h.symm)]at e;cases e
theorem zu6{o:Op3}(b:1<=o.k/\o.k<=4)(h:zdl s c o.k o.a o.n=true):(o.k=4)\/((o.k=1\/o.k=3)/\lenB o.n=false)\/((o.k=2\/o.k=3)/\spB s o.a=false):=by
 simp only[zdl,Bool.or_eq_true,Bool.and_eq_true,beq_iff_eq,decide_eq_true_eq,Bool.not_eq_true']at h;rcases h with(h|h)|h
 ·exact .inl h.1
 ·exact .inr (.inl h)
 exact .inr (.inr h)
theorem yep(h:JI s σ d J)(Y:WI s σ d)(hd:wdOk s d n)(x:Ch){k:Kl}(E:d.kl x.client=some k):JI s σ (d.ask s x k).1 (runJ J (k.invoke s x.op).2.1):=by
 obtain⟨ho,b6,q⟩:=hd.kl _ k E;have bb:=zwb Y hd x E;have hX:=h.jx x.client;have O:=h.pt x.client q.1 q.2;have G:(J.pt x.client).lives=true:=O.lives.2 ⟨k,E⟩;have I:=zx1 Y;have hm:=Y.rep.may;have V:∀ y,y≠x.client->(d.ask s x k).1.kl y=d.kl y:=fun y hy=>by unfold Wd.ask;rw[d.zdk (Wd.zfs E).1 (Wd.zfs E).2,if_neg hy]
 have i:(d.ask s x k).1.kl x.client=some (k.invoke s x.op).1:=by unfold Wd.ask;rw[d.zdk (Wd.zfs E).1 (Wd.zfs E).2,if_pos rfl]
 generalize (d.ask s x k).1=d' at *;have same:(k.invoke s x.op).1=k->JI s σ d' J:=fun e=>by refine(zpq (σ':=σ) (d':=d') hX (Calm.refl _) (fun _ _=>.rfl) V).ji ?_;rw[e]at i;have r:d'.kl x.client=d.kl x.client:=i.trans E.symm;exact⟨O.was,by rw[r];exact O.lives,by rw[r];exact O.asks,fun k j a b=>O.op k j (r ▸ a) b⟩
 unfold Kl.invoke at same i ⊢;by_cases hr:k.rests=false
 ·rw[if_pos hr]at same ⊢;exact same rfl
 rw[if_neg hr]at same i ⊢;by_cases hb:x.op.k<1\/4<x.op.k
 ·rw[if_pos hb]at same ⊢;exact same rfl
 rw[if_neg hb]at i ⊢;have hj:k.job=none:=by
  cases hj:k.job
  ·rfl
  simp[Kl.rests,hj]at hr
 have N:(J.pt x.client).asks=false:=by
  cases e:(J.pt x.client).asks with
  |false=>rfl
  |true=>
   obtain⟨k2,j,F,r⟩:=O.asks.1 e
   rw[E]at F;injection F with F;subst F
   rw[hj]at r;cases r
 rw[b6]at i ⊢;have D:(zbh x.client x.op).k=2:=rfl;have U:zf0 (J.pt x.client) (zbh x.client x.op)=0:=by unfold zf0;rw[if_neg (by rw[D];decide),if_neg (by rw[D];decide)];show (if (J.pt x.client).lives=false\/(J.pt x.client).asks=true\/x.op.k<1\/4<x.op.k then(1:Int) else 0)=0;rw[if_neg (by rw[G,N];simp;omega)]
 have b5:zkj (J.pt x.client) (zbh x.client x.op)=⟨true,true,true,x.op.k,x.op.a,x.op.n,false,false,0,false⟩:=by unfold zkj;rw[if_neg (by rw[U];decide),if_neg (by rw[D];decide),if_neg (by rw[D];decide)];rfl
 have Z:=zui (z:=x.client) hX (e:=zbh x.client x.op) q (by rw[D];decide) U;rw[show (zbh x.client x.op).c=x.client from rfl,b5]at Z;have hH:=zfu (e:=zbh x.client x.op) h.why (zlo (z:=x.client) hX q) Z;have C:=zfw (σ':=σ) (d':=d') hX hH h.bl (fun _ _=>.rfl) V (.inl fun _ h=>h) I;have m:(zdo J (zbh x.client x.op)).pt x.client=abP J.l ⟨true,true,true,x.op.k,x.op.a,x.op.n,false,false,0,false⟩:=hH.mine;obtain⟨a1,a2,a3,a4,a5,a6,a7,a8,a9,b9,b0⟩:=zi2 J.l ⟨true,true,true,x.op.k,x.op.a,x.op.n,false,false,0,false⟩;have M:σ.st x.client≠ .unused:=by rw[(Y.li _ k E).1];simp
 by_cases p:ziu s x.client x.op.k x.op.a x.op.n=true
 ·rw[if_pos p]at i ⊢;show JI s σ d' (zdo (zdo J (zbh x.client x.op)) (zaf x.client x.op 0 (zjw s x.client x.op.k x.op.a x.op.n)));have T:zd9 ((zdo J (zbh x.client x.op)).pt x.client) (zaf x.client x.op 0 (zjw s x.client x.op.k x.op.a x.op.n))=true:=by
   rw[m];unfold zd9 zaf zjw;dsimp only;by_cases t:zdl s x.client x.op.k x.op.a x.op.n=true
   ·rw[if_pos t,if_neg (by decide),if_neg (by rw[a7,a8];simp),if_pos rfl];unfold zie;rw[a4,a6];dsimp only;rcases zu6 (by omega) t with e|⟨e,r⟩|⟨e,r⟩
    ·rw[e];rfl
    ·rcases e with e|e
     ·rw[e,if_pos rfl,r];rfl
     rw[e,if_neg (by decide),if_neg (by decide),if_pos rfl,r];simp
    have b4:(abP J.l ⟨true,true,true,x.op.k,x.op.a,x.op.n,false,false,0,false⟩).ab=true:=by
     refine b0 rfl ?_
     show zd6 x.op.a J.l=false
     cases hf:zd6 x.op.a J.l with
     |false=>rfl
     |true=>
      exfalso
      obtain⟨b,b1,b2⟩:=(h.bl.found _).1 hf
      have ba:=zwn Y.gi b1
      have:spB s x.op.a=true:=z05.2 ⟨hm,by omega⟩
      rw[r]at this;cases this
    rw[b4];rcases e with e|e
    ·rw[e];rfl
    rw[e];rfl
   have H:zk8 s x.op.k x.op.n=true:=by unfold ziu at p;simpa[t] using p
   rw[if_neg t,if_pos H,if_neg (by decide),if_neg (by rw[a7,a8];simp),if_neg (by decide),if_pos rfl,a4];unfold zk8 at H;simp only[Bool.and_eq_true]at H;exact H.1.1
  have b8:=zki (z:=x.client) C (e:=zaf x.client x.op 0 (zjw s x.client x.op.k x.op.a x.op.n)) q rfl (by show ((zdo J (zbh x.client x.op)).pt x.client).lives=true/\((zdo J (zbh x.client x.op)).pt x.client).asks=true;rw[m];exact⟨a2,a3⟩) T;have R:=zfu (e:=zaf x.client x.op 0 (zjw s x.client x.op.k x.op.a x.op.n)) C.why (zlo (z:=x.client) C q) b8;have S:=zfw (σ':=σ) (d':=d') C R C.bl (fun _ _=>.rfl) (fun _ _=>rfl) (.inl fun _ h=>h) I;refine S.ji ?_;have b7:(zdo (zdo J (zbh x.client x.op)) (zaf x.client x.op 0 (zjw s x.client x.op.k x.op.a x.op.n))).pt x.client=abP (zdo J (zbh x.client x.op)).l { (zdo J (zbh x.client x.op)).pt x.client with asks:=false}:=R.mine;rw[b7];obtain⟨b1,b2,b3,_⟩:=zi2 (zdo J (zbh x.client x.op)).l { (zdo J (zbh x.client x.op)).pt x.client with asks:=false};refine zny ?_ (b2.trans ?_) b3 i hj
  ·rw[b1];show ((zdo J (zbh x.client x.op)).pt x.client).was=true↔_;rw[m,a1];exact⟨fun _=>M,fun _=>rfl⟩
  show ((zdo J (zbh x.client x.op)).pt x.client).lives=true;rw[m];exact a2
 rw[if_neg p]at i ⊢;have B:ziu s x.client x.op.k x.op.a x.op.n=false:=by simpa using p
 show JI s σ d' (zdo J (zbh x.client x.op));refine C.ji ?_;rw[m];have X:=(zpc (f:=k.first) hm q ho.fi (by omega) B).2;refine⟨by rw[a1];exact⟨fun _=>M,fun _=>rfl⟩,by rw[a2];exact⟨fun _=>⟨_,i⟩,fun _=>rfl⟩,by rw[a3];exact⟨fun _=>⟨_,_,i,rfl⟩,fun _=>rfl⟩,fun k2 j F r=>?_⟩;rw[i]at F;injection F with F;subst F;injection r with r;subst r;exact⟨⟨a4,a5,a6⟩,a7,a8.trans X.symm,X.symm,z4g hm q _ (by omega) B _ _⟩
theorem z4o(h:JI s σ d J)(m:WI s σ d)(hd:wdOk s d n)(x:Ch)(hc:0<=x.client/\x.client<s.c)(hu:d.stat x.client=0):JI s (σ.stat x.client .live) (d.begin s x).1 (runJ J [zcj x.client]):=by
 have V:=m.rep.may;have F:=(ixs m.rep.fi).2.2.2 _ hc;have b:σ.st x.client= .unused:=by have h1:=m.rep.st _ hc;rw[F]at h1;unfold Wd.stat at hu;rw[h1]at hu;have h2:=(TW.read V (m.gi.tf x.client)).1;rw[hu]at h2;cases hx:σ.st x.client<;>rw[hx]at h2<;>simp[TW.kind]at h2
 have hi:x.client.toNat<d.l.length:=by rw[hd.len];omega
 have D:=h.jx x.client;have N:=h.pt x.client hc.1 hc.2
 have B:(J.pt x.client).was=false:=by
  cases e:(J.pt x.client).was with
  |false=>rfl
  |true=>exact absurd b (N.was.1 e)
 have G:∀ k,d.kl x.client≠some k:=fun k U=>by have:=(m.li _ k U).1;rw[b]at this;cases this
 have f:(J.pt x.client).asks=false:=by
  cases e:(J.pt x.client).asks with
  |false=>rfl
  |true=>obtain⟨k,j,T,_⟩:=N.asks.1 e;exact absurd T (G k)
 have r:∀ y,(d.begin s x).1.kl y=if y=x.client then some (zht x.client (Fl.zdr x.bias s.p)) else d.kl y:=fun y=>by unfold Wd.begin;rw[if_pos hu];exact d.zdk hc.1 hi _ _ _ _ _
 have q:zf0 (J.pt x.client) (zcj x.client)=0:=by have e:zf0 (J.pt x.client) (zcj x.client)=(if (J.pt x.client).was=true then 1 else 0):=if_pos rfl;rw[e,B];rfl
 have t:=zui (z:=x.client) D (e:=zcj x.client) hc (show (0:Int)<=0/\(0:Int)<3 by decide) q;have E:zkj (J.pt x.client) (zcj x.client)= { J.pt x.client with was:=true,lives:=true}:=by exact(if_neg (by rw[q];decide)).trans (if_pos rfl)
 rw[show (zcj x.client).c=x.client from rfl,E]at t;have M:=zfu (e:=zcj x.client) h.why (zlo (z:=x.client) D hc) t;have H:∀ y,y≠x.client->((σ.stat x.client .live).st y= .unused↔σ.st y= .unused):=fun y I=>by rw[zao _ _ I]
 have C:=zfw (σ':=σ.stat x.client .live) (d':=(d.begin s x).1) D M h.bl H (fun y I=>by rw[r,if_neg I]) (.inl fun _ h=>h) (zx1 m);show JI s _ _ (zdo J (zcj x.client));refine C.ji ?_;have i:(zdo J (zcj x.client)).pt x.client=abP J.l { J.pt x.client with was:=true,lives:=true}:=M.mine;rw[i];obtain⟨O,R,S,_⟩:=zi2 J.l { J.pt x.client with was:=true,lives:=true};refine zny ?_ R (S.trans f) (by rw[r,if_pos rfl]) rfl;rw[O,zbf];simp
theorem yai(h:JI s σ d J)(I:WI s σ d)(hd:wdOk s d n){k:Kl}(t:d.kl c=some k):JI s (σ.stat c .dead) (d.kill c).1 (runJ J [zdw c]):=by
 obtain⟨V,T,hc⟩:=hd.kl _ k t;have C:=h.jx c;have r:=h.pt c hc.1 hc.2;have f:(J.pt c).lives=true:=r.lives.2 ⟨k,t⟩;have p:∀ y,(d.kill c).1.kl y=if y=c then none else d.kl y:=fun y=>by unfold Wd.kill;exact d.zdk hc.1 (Wd.zfs t).2 _ _ _ _ _
 have E:¬ ((J.pt c).asks=true/\(J.pt c).took=true):=fun e=>by obtain⟨U,j,R,S⟩:=r.asks.1 e.1;have:=(r.op U j R S).2.1;rw[this]at e;cases e.2
 have m:zf0 (J.pt c) (zdw c)=0:=by have e:zf0 (J.pt c) (zdw c)=(if (J.pt c).lives=false then 1 else if (J.pt c).asks=true/\(J.pt c).took=true then 5 else 0):=(if_neg (show ¬ (1:Int)=0 by decide)).trans (if_pos rfl);rw[e,if_neg (by rw[f];decide),if_neg E]
 have q:=zui (z:=c) C (e:=zdw c) hc (show (0:Int)<=1/\(1:Int)<3 by decide) m;have D:zkj (J.pt c) (zdw c)= { J.pt c with lives:=false,asks:=false}:=by exact(if_neg (by rw[m];decide)).trans ((if_neg (show ¬ (1:Int)=0 by decide)).trans (if_pos rfl))
 rw[show (zdw c).c=c from rfl,D]at q;have H:=zfu (e:=zdw c) h.why (zlo (z:=c) C hc) q;have F:∀ y,y≠c->((σ.stat c .dead).st y= .unused↔σ.st y= .unused):=fun y G=>by rw[zao _ _ G]
 have B:=zfw (σ':=σ.stat c .dead) (d':=(d.kill c).1) C H h.bl F (fun y G=>by rw[p,if_neg G]) (.inl fun _ h=>h) (zx1 I);show JI s _ _ (zdo J (zdw c));refine B.ji ?_;have i:(zdo J (zdw c)).pt c=abP J.l { J.pt c with lives:=false,asks:=false}:=H.mine;rw[i];obtain⟨M,N,O,_⟩:=zi2 J.l { J.pt c with lives:=false,asks:=false};have b:∀ k,(d.kill c).1.kl c≠some k:=fun k=>by rw[p,if_pos rfl];simp
 refine⟨?_,?_,?_,fun k j e _=>absurd e (b k)⟩
 ·rw[M,zbf];simp only[ne_eq,reduceCtorEq,not_false_eq_true,iff_true];exact r.was.2 (by rw[(I.li c k t).1];simp)
 ·rw[N];exact⟨fun e=>(by cases e),fun ⟨k,e⟩=>absurd e (b k)⟩
 rw[O];exact⟨fun e=>(by cases e),fun ⟨k,_,e,_⟩=>absurd e (b k)⟩
theorem ji_act(h:JI s σ d J)(f:WI s σ d)(hd:wdOk s d n)(x:Ch):∃ σ' es,WI s σ' (d.act s x).1/\(d.act s x).1.tr=d.tr++es/\JI s σ' (d.act s x).1 (runJ J es):=by
 have nil:∃ σ' es,WI s σ' d/\d.tr=d.tr++es/\JI s σ' d (runJ J es):=⟨σ, [],f,(List.append_nil _).symm,h⟩;unfold Wd.act;split
 ·exact nil
 rename_i hb;unfold Ch.bad at hb;split
 ·by_cases hu:d.stat x.client=0
  ·refine⟨_, [zcj x.client],zqr f hd x (by omega) hu,?_,z4o h f hd x (by omega) hu⟩;unfold Wd.begin;rw[if_pos hu]
  unfold Wd.begin;rw[if_neg hu];exact nil
 cases hk:d.kl x.client with
 |none=>exact nil;|some k=>
  dsimp only;split
  ·cases hj:k.job with
   |none=>
    have p:k.step s d.m=(k,d.m, [],2):=by unfold Kl.step;rw[hj]
    have q:=zpq (σ':=σ) (d':=(d.step s x.client k).1) (h.jx x.client) (Calm.refl _) (fun _ _=>.rfl) (fun y r=>by
     unfold Wd.step
     rw[d.zdk (Wd.zfs hk).1 (Wd.zfs hk).2,if_neg r])
    have i:(d.step s x.client k).1.kl x.client=d.kl x.client:=by unfold Wd.step;rw[d.zdk (Wd.zfs hk).1 (Wd.zfs hk).2,if_pos rfl,p,hk]
    have l:=h.pt x.client (by omega) (by omega);refine⟨σ, [],?_,?_,q.ji ⟨l.was,by rw[i];exact l.lives,by rw[i];exact l.asks,fun k j a b=>l.op k j (i ▸ a) b⟩⟩
    ·unfold Wd.step;rw[p];dsimp only;exact zw8 f hk (f.li _ k hk).2 (.inl rfl) _ _
    unfold Wd.step;rw[p]
   |some j=>obtain⟨h1,h2⟩:=ybj h f hd hk hj;exact⟨_,_,h1,rfl,h2⟩
  split
  ·exact⟨σ,_,zwb f hd x hk,rfl,yep h f hd x hk⟩
  exact⟨_,_,zp4 f hd hk,rfl,yai h f hd hk⟩
theorem ji_new(h:mayB s.p s.c s.m=true):JI s z9x (zde s) (newJ s.p s.c s.m):=by
 have hb:=zar.1 h;have q:newJ s.p s.c s.m=⟨s.p*64, [],List.replicate s.c.toNat Pt.zero,0, -1,0⟩:=by unfold newJ;rw[if_pos h]
 rw[q];have i:∀ c k,(zde s).kl c≠some k:=fun c k f=>by
  unfold Wd.kl zde at f;dsimp only at f;rw[List.getD_eq_getElem?_getD,List.getElem?_replicate]at f;split at f
  ·split at f<;>simp at f
  cases f
 have l:∀ c,(⟨s.p*64, [],List.replicate s.c.toNat Pt.zero,0, -1,0⟩:Jd).pt c=Pt.zero:=fun c=>by unfold Jd.pt;dsimp only;rw[List.getD_eq_getElem?_getD,List.getElem?_replicate];split<;>rfl
 refine⟨rfl,rfl,⟨by show (0:Int)<=s.p*64;omega,fun a n=>⟨fun e=>(by cases e),fun ⟨b,e,_⟩=>by cases b<;>cases e⟩⟩,by simp,fun c _ _=>?_,fun c _ _ e=>?_⟩
 ·rw[l];exact⟨⟨fun e=>(by cases e),fun e=>absurd rfl e⟩,⟨fun e=>(by cases e),fun ⟨k,e⟩=>absurd e (i c k)⟩,⟨fun e=>(by cases e),fun ⟨k,_,e,_⟩=>absurd e (i c k)⟩,fun k j e _=>absurd e (i c k)⟩
 rw[l]at e;cases e
end

section

def jdOf (s:Sh) (d:Wd):Jd:=runJ (newJ s.p s.c s.m) d.tr
def AI (s:Sh) (d:Wd) (n:Nat):Prop:=wdOk s d n/\∃ σ,WI s σ d/\JI s σ d (jdOf s d)
theorem ai_new{s:Sh}(h:mayB s.p s.c s.m=true):AI s (zde s) 0:=⟨zl9 h,z9x,ydc h,ji_new h⟩
theorem ai_act{s:Sh}{d:Wd}{n:Nat}(h:AI s d n)(x:Ch):AI s (d.act s x).1 (n+1):=by
 obtain⟨b,σ,i,f⟩:=h;obtain⟨σ',es,h1,h2,h3⟩:=ji_act f i b x;refine⟨zeo b x,σ',h1,?_⟩;unfold jdOf;rw[h2,yh5];exact h3
theorem ai_goS{s:Sh}{d:Wd}{n:Nat}{c:Int}(h:AI s d n):AI s (d.goS s c) (n+1):=by
 have h1:=ai_act h (zjx c);refine⟨ye0 h.1,?_⟩;unfold Wd.goS;split
 ·split
  ·exact h1.2
  exact h.2
 exact h.2
theorem ai_goN{s:Sh}{d:Wd}{n:Nat}{c:Int}(h:AI s d n)(i:Nat):AI s (d.goN s c i) (n+i):=by
 induction i with
 |zero=>exact h
 |succ i b=>exact ai_goS b
section

variable {J:Jd} {e:Ev} {W:Int} {L:List Bk} {o:Op3} {c:Int}

theorem run_why{es:List Ev}(h:(runJ J es).why=0):J.why=0:=by
 rcases Decidable.em (J.why=0) with h1|h1
 ·exact h1
 rw[yir h1]at h;exact h
theorem hear_c(b:J.why=0)(h:(zdo J e).why=0):(whyJ J.W J.l J.ps e).c=0:=by
 unfold zdo at h;rw[if_neg (by omega)]at h;rcases Decidable.em ((whyJ J.W J.l J.ps e).c=0) with h1|h1
 ·exact h1
 rw[if_pos h1]at h;exact absurd h h1
end

end

end Go.Proofs.YtedcnffebdpmmaaGreat
