/- Lemmas for the claim. -/
import Derived.Test.YtmmbicppdjgbmaaGreatBw34

import Derived.Test.YtmmbicppdjgbmaaGreatBw35

set_option linter.all false
namespace Go.Proofs.YtmmbicppdjgbmaaGreat

section

variable {s:Sh} {σ σ':Ab} {d d':Wd} {J:Jd} {n:Nat}

structure PtOk (σ:Ab) (d:Wd) (c:Int) (p:Pt):Prop where
 was:p.was=true↔σ.st c≠ .unused
 lives:p.lives=true↔∃ k,d.kl c=some k
 asks:p.asks=true↔∃ k j,d.kl c=some k/\k.job=some j
 op:∀ k j,d.kl c=some k->k.job=some j->(p.k=k.op.k/\p.a=k.op.a/\p.n=k.op.n)/\p.took=false/\p.gave=j.gave/\k.told=j.gave/\vF σ.has p.ab k.op j
def Jd.pt (J:Jd) (c:Int):Pt:=J.ps.getD c.toNat Pt.zero
structure JI (s:Sh) (σ:Ab) (d:Wd) (J:Jd):Prop where
 W:J.W=s.p * 64
 why:J.why=0
 bl:GD J.W σ.has J.l
 pl:J.ps.length=s.c.toNat
 pt:∀ c,0<=c->c < s.c->PtOk σ d c (J.pt c)
 ab:∀ c,0<=c->c < s.c->(J.pt c).asks=true->OA (J.pt c).a J.l=false->(J.pt c).ab=true
theorem UE(l:List Bk)(p:Pt):(abP l p).was=p.was/\(abP l p).lives=p.lives/\(abP l p).asks=p.asks/\(abP l p).k=p.k/\(abP l p).a=p.a/\(abP l p).n=p.n/\(abP l p).took=p.took/\(abP l p).gave=p.gave/\(abP l p).at'=p.at'/\(p.ab=true->(abP l p).ab=true)/\(p.asks=true->OA p.a l=false->(abP l p).ab=true):=by
 unfold abP;split
 ·exact⟨rfl,rfl,rfl,rfl,rfl,rfl,rfl,rfl,rfl,fun _=>rfl,fun _ _=>rfl⟩
 rename_i h;exact⟨rfl,rfl,rfl,rfl,rfl,rfl,rfl,rfl,rfl,id,fun h1 h2=>absurd ⟨h2,h1⟩ h⟩
structure ZH (J J':Jd) (c:Int) (l':List Bk) (v:Pt):Prop where
 W:J'.W=J.W
 why:J'.why=0
 l:J'.l=l'
 pl:J'.ps.length=J.ps.length
 mine:J'.pt c=abP l' v
 other:∀ x,0<=x->x.toNat < J.ps.length->x≠c->J'.pt x=abP l' (J.pt x)
theorem TT{l:List Pt}{i j:Nat}{v z:Pt}(f:Pt->Pt)(hi:i<l.length)(b:j<l.length):((l.set i v).map f).getD j z=f (if i=j then v else l.getD j z):=by
 rw[List.getD_eq_getElem?_getD,List.getElem?_map,List.getElem?_set];by_cases e:i=j
 ·subst e;simp[hi]
 simp[e,b]
theorem lF{e:Ev}{l':List Bk}{v:Pt}(f:J.why=0)(hc:0<=e.c/\e.c.toNat<J.ps.length)(h:whyJ J.W J.l J.ps e=⟨0,l',J.ps.set e.c.toNat v⟩):ZH J (CA J e) e.c l' v:=by
 have hb:cF J e=true:=(CI J e).2 ⟨f,by rw[h]⟩;have b:=KK hb;rw[h]at b;rw[b];refine⟨rfl,f,rfl,by simp,?_,fun x h0 h1 h2=>?_⟩
 ·show ((J.ps.set e.c.toNat v).map (abP l')).getD e.c.toNat Pt.zero=_;rw[TT _ hc.2 hc.2,if_pos rfl]
 show ((J.ps.set e.c.toNat v).map (abP l')).getD x.toNat Pt.zero=_;rw[TT _ hc.2 h1,if_neg (by omega)];rfl
theorem PtOk.heard{p:Pt}{x:Int}{l':List Bk}(h:PtOk σ d x p)(z:σ'.st x= .unused↔σ.st x= .unused)(i:d'.kl x=d.kl x)(f:(∀ b,σ'.has b->σ.has b)\/(∀ b,σ.has b->σ'.has b))(h1:wK σ.has){W:Int}(y:GD W σ'.has l'):PtOk σ' d' x (abP l' p):=by
 obtain⟨a1,F,G,H,I,M,N,O,Y,q,r⟩:=UE l' p;refine⟨by rw[a1,h.was];exact not_congr z.symm,by rw[F,i];exact h.lives,by rw[G,i];exact h.asks,fun k j t D=>?_⟩;rw[i]at t;obtain⟨⟨R,C,S⟩,T,U,V,X⟩:=h.op k j t D;refine⟨⟨H.trans R,I.trans C,M.trans S⟩,N.trans T,O.trans U,V,X.mono q fun b hb E=>?_⟩;rcases f with f|f
 ·by_cases l:σ'.has b
  ·exact .inr l
  refine .inl (r (h.asks.2 ⟨k,j,t,D⟩) ?_);cases hf:OA p.a l' with
  |false=>rfl;|true=>obtain⟨B,f1,f2⟩:=(y.found _).1 hf;have:B=b:=h1 B b (f _ f1) E (by rw[f2,C,hb]);subst this;exact absurd f1 l
 exact .inr (f b E)
theorem HI(h:WI s σ d):wK σ.has:=fun _ _ h1 h2 h3=>KY h.gi h1 h2 h3
structure JX (s:Sh) (σ:Ab) (d:Wd) (J:Jd) (c:Int):Prop where
 W:J.W=s.p * 64
 why:J.why=0
 bl:GD J.W σ.has J.l
 pl:J.ps.length=s.c.toNat
 pt:∀ x,x≠c->0<=x->x < s.c->PtOk σ d x (J.pt x)
 ab:∀ x,0<=x->x < s.c->(J.pt x).asks=true->OA (J.pt x).a J.l=false->(J.pt x).ab=true
theorem JI.jx(h:JI s σ d J)(c:Int):JX s σ d J c:=⟨h.W,h.why,h.bl,h.pl,fun x _=>h.pt x,h.ab⟩
theorem JX.ji{c:Int}(h:JX s σ d J c)(hc:PtOk σ d c (J.pt c)):JI s σ d J:=⟨h.W,h.why,h.bl,h.pl,fun x h0 h1=>by
 by_cases e:x=c
 ·subst e;exact hc
 ·exact h.pt x e h0 h1,h.ab⟩
theorem ZG{c:Int}{l':List Bk}{v:Pt}{J':Jd}(h:JX s σ d J c)(f:ZH J J' c l' v)(j:GD J.W σ'.has l')(y:∀ x,x≠c->(σ'.st x= .unused↔σ.st x= .unused))(t:∀ x,x≠c->d'.kl x=d.kl x)(q:(∀ b,σ'.has b->σ.has b)\/(∀ b,σ.has b->σ'.has b)) (h1:wK σ.has):JX s σ' d' J' c:=by
 have i:∀ x,0<=x->x<s.c->x.toNat<J.ps.length:=fun x h0 h1=>by rw[h.pl];omega
 refine⟨f.W.trans h.W,f.why,by rw[f.W,f.l];exact j,f.pl.trans h.pl,fun x e h0 h2=>?_,fun x h0 h2=>?_⟩
 ·rw[f.other x h0 (i x h0 h2) e];exact(h.pt x e h0 h2).heard (y x e) (t x e) q h1 j
 have ab:∀ p,(abP l' p).asks=true->OA (abP l' p).a l'=false->(abP l' p).ab=true:=fun p D E=>by obtain⟨a1,F,B,G,C,H,I,M,N,z,r⟩:=UE l' p;exact r (B ▸ D) (C ▸ E)
 rw[f.l];by_cases e:x=c
 ·subst e;rw[f.mine];exact ab _
 rw[f.other x h0 (i x h0 h2) e];exact ab _
theorem oM{c:Int}(h:JX s σ d J c)(hc:Calm σ σ')(l:∀ x,x≠c->(σ'.st x= .unused↔σ.st x= .unused))(f:∀ x,x≠c->d'.kl x=d.kl x):JX s σ' d' J c:=by
 refine⟨h.W,h.why,h.bl.congr hc,h.pl,fun x e h0 h2=>?_,h.ab⟩;have i:=h.pt x e h0 h2;refine⟨by rw[i.was];exact not_congr (l x e).symm,by rw[f x e];exact i.lives,by rw[f x e];exact i.asks,fun k j p B=>?_⟩;rw[f x e]at p;obtain⟨q,r,t,y,z⟩:=i.op k j p B;exact⟨q,r,t,y,z.mono id fun b _ hb=>.inr ((hc b).2 hb)⟩
theorem uF{z:Int}(h:JX s σ d J z){c:Int}(hc:0<=c/\c<s.c):0<=c/\c.toNat<J.ps.length:=⟨hc.1,by rw[h.pl];omega⟩
theorem fQ{z:Int}(h:JX s σ d J z){e:Ev}(hc:0<=e.c/\e.c<s.c)(b:0<=e.k/\e.k<3)(h0:qC (J.pt e.c) e=0):whyJ J.W J.l J.ps e=⟨0,J.l,J.ps.set e.c.toNat (CC (J.pt e.c) e)⟩:=by
 have f:=uF h hc;have h0:qC (J.ps.getD e.c.toNat Pt.zero) e=0:=h0;unfold whyJ;rw[if_neg (by omega),if_pos (by omega),h0];rfl
theorem z5v{z:Int}(h:JX s σ d J z){e:Ev}(hc:0<=e.c/\e.c<s.c)(i:e.k=4)(j:(J.pt e.c).lives=true/\(J.pt e.c).asks=true)(h0:FC J.l (J.pt e.c) e=0):whyJ J.W J.l J.ps e=⟨0,UA J.l e.at',J.ps.set e.c.toNat { J.pt e.c with gave:=true}⟩:=by
 have p:=uF h hc;obtain⟨b,f⟩:=j;unfold Jd.pt at b f h0;unfold whyJ;rw[if_neg (by omega),if_neg (by omega),b,f,if_neg (by simp),if_neg (by omega),if_pos i,h0];rfl
theorem z5f{z:Int}(h:JX s σ d J z){e:Ev}(hc:0<=e.c/\e.c<s.c)(i:e.k=3)(j:(J.pt e.c).lives=true/\(J.pt e.c).asks=true)(h0:DC J.W J.l (J.pt e.c) e=0):whyJ J.W J.l J.ps e=⟨0,putB J.l e.at' e.n,J.ps.set e.c.toNat { J.pt e.c with took:=true,at':=e.at'}⟩:=by
 have p:=uF h hc;obtain⟨b,f⟩:=j;unfold Jd.pt at b f h0;unfold whyJ;rw[if_neg (by omega),if_neg (by omega),b,f,if_neg (by simp),if_pos i,h0];rfl
theorem YO{z:Int}(h:JX s σ d J z){e:Ev}(hc:0<=e.c/\e.c<s.c)(j:e.k=5)(i:(J.pt e.c).lives=true/\(J.pt e.c).asks=true)(h0:WB (J.pt e.c) e=true):whyJ J.W J.l J.ps e=⟨0,J.l,J.ps.set e.c.toNat { J.pt e.c with asks:=false}⟩:=by
 have p:=uF h hc;obtain⟨b,f⟩:=i;unfold Jd.pt at b f h0;unfold whyJ;rw[if_neg (by omega),if_neg (by omega),b,f,if_neg (by simp),if_neg (by omega),if_neg (by omega),h0];rfl
theorem HP{c:Int}{p:Pt}{k:Kl}(t:p.was=true↔σ'.st c≠ .unused)(r:p.lives=true)(q:p.asks=false)(i:d'.kl c=some k)(l:k.job=none):PtOk σ' d' c p:=by
 refine⟨t,by rw[r];exact⟨fun _=>⟨k,i⟩,fun _=>rfl⟩,⟨fun e=>absurd (q.symm.trans e) (by decide),fun ⟨y,j,b,f⟩=>?_⟩,fun y j b f=>?_⟩
 ·rw[i]at b;injection b with b;subst b;rw[l]at f;cases f
 rw[i]at b;injection b with b;subst b;rw[l]at f;cases f
theorem AP{c:Int}{j:Jb}{b:Blk}(F:mayB s.p s.c s.m=true)(hc:0<=c/\c<s.c)(q:jbIs s c j)(h:j.took=some b):j.done=true/\j.err=0/\(j.gave=true\/∃ r x,j= .mal r x):=by
 cases j with
 |mal r x=>
  have l:(if IC x=true then r.got else none)=some b:=h;split at l
  ·rename_i i;rcases x with _|y
   ·cases i
   have t:=q.2 y rfl;refine⟨?_,?_,.inr ⟨r,_,rfl⟩⟩
   ·show (r.done&&(!r.got.isSome||y.done))=true;rw[t.2.1,t.2.2.1];simp
   show (if r.got.isSome=true then(0:Int) else 3)=0;rw[if_pos (by rw[l];rfl)]
  cases l
 |fre f=>cases h;|aga r=>
  have h:(if r.done=true/\r.err=0 then(match r.res with|some x=>x.got|none=>none) else none)=some b:=h;split at h
  ·rename_i i;obtain⟨G,C,f,D,E,z,B⟩:=q.fin i.1 i.2;refine⟨i.1,i.2,.inl ?_⟩;show (match r.free with|some f=>f.gave|none=>false)=true;rw[z];exact B
  cases h
 |hei a=>cases h
theorem VJ{p:Pt}{e:Ev}(h:e.er=0):WB p e=ID p e.at':=if_pos h
theorem uO{p:Pt}{e:Ev}(h:e.er≠0)(h1:p.took=false)(h2:p.gave=false)(h3:e.at'=0):WB p e=(if e.er=1 then VE p else if e.er=3 then p.k==1||p.k==3 else if e.er=4\/e.er=5 then p.k==4 else false):=by
 unfold WB;rw[if_neg h,if_neg (by rw[h1,h2,h3];simp)]
theorem CQ{p:Pt}{e:Ev}(h:e.er=1)(h1:p.took=false)(h2:p.gave=false)(h3:e.at'=0):WB p e=VE p:=by
 rw[uO (by omega) h1 h2 h3,if_pos h]
theorem wQ{p:Pt}{e:Ev}(h:e.er=3)(h1:p.took=false)(h2:p.gave=false)(h3:e.at'=0):WB p e=(p.k==1||p.k==3):=by
 rw[uO (by omega) h1 h2 h3,if_neg (by omega),if_pos h]
theorem RT{p:Pt}{e:Ev}(h:e.er=4\/e.er=5)(h1:p.took=false)(h2:p.gave=false)(h3:e.at'=0):WB p e=(p.k==4):=by
 rw[uO (by omega) h1 h2 h3,if_neg (by omega),if_neg (by omega),if_pos h]
theorem aW{c:Int}{j:Jb}{o:Op3}{p:Pt}{H:Bl->Prop}(N:mayB s.p s.c s.m=true)(hc:0<=c/\c<s.c)(F:jbIs s c j)(hd:j.done=true)(q:vF H p.ab o j)(z:p.k=o.k/\p.a=o.a/\p.n=o.n)(B:p.gave=j.gave)(O:(j.took=none/\p.took=false)\/∃ b,j.took=some b/\p.took=true/\p.at'=b.at'):WB p (RA c o (yB j.took) j.err)=true:=by
 rcases O with⟨t1,t⟩|⟨b,t1,t,t3⟩
 ·rw[t1];cases j with
  |mal r x=>
   have l:(Jb.mal r x).err=3:=by
    show (if r.got.isSome=true then(0:Int) else 3)=3
    cases hgot:r.got with
    |none=>rfl
    |some b=>
     exfalso
     have hd:(r.done&&(!r.got.isSome||IC x))=true:=hd
     rw[hgot]at hd
     have R:IC x=true:=by simpa using(Bool.and_eq_true _ _ ▸ hd).2
     have t1:(if IC x=true then r.got else none)=none:=t1
     rw[if_pos R,hgot]at t1;cases t1
   rw[wQ (e:=RA c o (yB none) (Jb.mal r x).err) l t B rfl,z.1,q.1];rfl
  |fre f=>
   rcases Bool.eq_false_or_eq_true f.gave with e|e
   ·have l:(Jb.fre f).err=0:=if_pos e;have i:p.gave=true:=B.trans e;rw[VJ (e:=RA c o (yB none) (Jb.fre f).err) l];unfold ID;rw[z.1,q.1,if_neg (by decide),if_pos rfl,i];rfl
   have l:(Jb.fre f).err=1:=if_neg (by rw[e];decide);have i:p.gave=false:=B.trans e;rw[CQ (e:=RA c o (yB none) (Jb.fre f).err) l t i rfl];unfold VE;rw[z.1,q.1,if_neg (by decide),if_pos rfl];exact q.2.no hd e
  |aga r=>
   obtain⟨f1,f2,T,U,M⟩:=q;rcases M hd with e|⟨D,E⟩|⟨D,E,I⟩
   ·exfalso;obtain⟨V,S,f,a1,G,_⟩:=F.fin hd e;have t1:(if r.done=true/\r.err=0 then(match r.res with|some x=>x.got|none=>none) else none)=none:=t1;rw[if_pos ⟨hd,e⟩,a1]at t1;dsimp only at t1;rw[G]at t1;cases t1
   ·have l:(Jb.aga r).err=3:=D;have i:p.gave=false:=B.trans E;rw[wQ (e:=RA c o (yB none) (Jb.aga r).err) l t i rfl,z.1,f1];rfl
   have l:(Jb.aga r).err=1:=D;have i:p.gave=false:=B.trans E;rw[CQ (e:=RA c o (yB none) (Jb.aga r).err) l t i rfl];unfold VE;rw[z.1,f1,if_neg (by decide),if_neg (by decide),if_pos rfl,I];rfl
  |hei a=>
   have i:p.gave=false:=B;have y:p.k=4:=z.1.trans q.1;rcases q.2 hd with e|e|e
   ·have l:(Jb.hei a).err=0:=e;rw[VJ (e:=RA c o (yB none) (Jb.hei a).err) l];unfold ID;rw[y,if_neg (by decide),if_neg (by decide)];rfl
   ·have l:(Jb.hei a).err=4:=e;rw[RT (e:=RA c o (yB none) (Jb.hei a).err) (.inl l) t i rfl,y];rfl
   have l:(Jb.hei a).err=5:=e;rw[RT (e:=RA c o (yB none) (Jb.hei a).err) (.inr l) t i rfl,y];rfl
 obtain⟨_,h2,h3⟩:=AP N hc F t1;have C:=(fV q t1).2.2;rw[VJ (e:=RA c o (yB j.took) j.err) h2];show ID p (yB j.took)=true;rw[t1];unfold ID;rw[if_pos (by rw[z.1];exact C),t,t3];simp[yB]
theorem HY(h:JI s σ d J)(hw:WI s σ d)(hd:wdOk s d n){c:Int}{k:Kl}{j:Jb}(hk:d.kl c=some k)(hj:k.job=some j):WI s (j.QC s c σ).2 (d.step s c k).1/\JI s (j.QC s c σ).2 (d.step s c k).1 (runJ J (k.step s d.m).2.2.1):=by
 obtain⟨w1,chg,b8⟩:=EI hw hd hk hj;refine⟨w1,?_⟩;obtain⟨ho,bc,t⟩:=hd.kl c k hk;obtain⟨cg,bh⟩:=hw.li c k hk;obtain⟨bg,bs,cf,cd⟩:=ho.jb j hj;rw[bc]at bg;have c5:JbAt s c σ j:=by unfold KlAt at bh;rw[hj]at bh;exact bh
 have G:=KJ (m:=d.m) bg t bs hw.rep.fi hd.fit;have bu:k.step s d.m=(k.after (j.step s c d.m).1,(j.step s c d.m).2,k.tells (j.step s c d.m).1,0):=by unfold Kl.step;rw[hj,bc]
 have hP:=h.pt c t.1 t.2;obtain⟨q1,q2,q3,q4,q5⟩:=hP.op k j hk hj;have i:(J.pt c).lives=true:=hP.lives.2 ⟨k,hk⟩;have B:(J.pt c).asks=true:=hP.asks.2 ⟨k,j,hk,hj⟩;have b4:=HI hw;have hX:=h.jx c
 have c4:(∀ b,σ.has b->b.at'≠k.op.a)->(J.pt c).ab=true:=fun hb=>by
  refine h.ab c t.1 t.2 B ?_
  cases hf:OA (J.pt c).a J.l with
  |false=>rfl
  |true=>
   obtain⟨b,b1,b2⟩:=(h.bl.found _).1 hf
   exact absurd (b2.trans q1.2.1) (hb b b1)
 have M:=fun (ab':Bool) c7 bi=>zzb (ab':=ab') hw.rep hw.gi bg t bs c5 q5 c4 c7 bi;have b5:∀ x,x≠c->(d.step s c k).1.kl x=d.kl x:=fun x hx=>by unfold Wd.step;rw[d.AB (Wd.gC hk).1 (Wd.gC hk).2,if_neg hx]
 have N:(d.step s c k).1.kl c=some (k.after (j.step s c d.m).1):=by unfold Wd.step;rw[d.AB (Wd.gC hk).1 (Wd.gC hk).2,if_pos rfl,bu]
 have b6:∀ x,x≠c->((j.QC s c σ).2.st x= .unused↔σ.st x= .unused):=fun x _=>chg.st x;have ba:∀ p:Pt,p.was=(J.pt c).was->(p.was=true↔(j.QC s c σ).2.st c≠ .unused):=fun p e=>by rw[e,hP.was];exact not_congr (chg.st c).symm
 have c6:=b8;generalize (d.step s c k).1=d' at *;rw[bu];dsimp only;rw[b8]at chg N G ⊢;generalize cb:(j.QC s c σ).2=σ' at *;generalize cc:(j.QC s c σ).1=j' at *;have U:jbIs s c j':=G.2.1;have ch:(k.after j').op=k.op:=rfl;have bj:(k.after j').told=(k.told||j'.gave):=rfl;have b9:(k.after j').job=if j'.done=true then none else some j':=rfl;have V:∀ (p:Pt),j'.done=false->p.was=(J.pt c).was->p.lives=true->p.asks=true->p.k=(J.pt c).k->p.a=(J.pt c).a->p.n=(J.pt c).n->p.took=false->p.gave=j'.gave->vF σ'.has p.ab k.op j'->PtOk σ' d' c p:=fun p e0 e1 e2 e3 e4 e5 e6 e7 e8 e9=>by
  have bq:(k.after j').job=some j':=by rw[b9,if_neg (by rw[e0];decide)]
  refine⟨ba p e1,⟨fun _=>⟨_,N⟩,fun _=>e2⟩,⟨fun _=>⟨_,_,N,bq⟩,fun _=>e3⟩,fun k2 j2 f1 f2=>?_⟩;rw[N]at f1;injection f1 with f1;subst f1;rw[bq]at f2;injection f2 with f2;subst f2;refine⟨⟨e4.trans q1.1,e5.trans q1.2.1,e6.trans q1.2.2⟩,e7,e8,?_,e9⟩;rw[bj,q4];rcases Bool.eq_false_or_eq_true j.gave with e|e
  ·rw[e,G.2.2.2 e];rfl
  rw[e];rfl
 have rests:∀ (p:Pt),j'.done=true->p.was=(J.pt c).was->p.lives=true->p.asks=false->PtOk σ' d' c p:=fun p e0 e1 e2 e3=>HP (ba p e1) e2 e3 N (by rw[b9,if_pos e0])
 unfold Kl.tells;rw[q4,bc];by_cases F:j'.gave=true/\j.gave=false
 ·obtain⟨⟨f,f1,f2,f3,f4⟩,bv⟩:=chg.gave F.2 F.1;rw[if_pos F,if_neg (by rw[bv];decide)]
  have bn:(feBl f).at'=k.op.a/\mayG (J.pt c)=true:=by
   cases j with
   |fre f'=>
    injection f1 with f1;subst f1
    exact⟨q5.2.bl f4 (by omega),by unfold mayG;rw[q1.1,q5.1];rfl⟩
   |aga r=>exact⟨(q5.2.2.2.1 f f1).bl f4 (by omega),by unfold mayG;rw[q1.1,q5.1];rfl⟩
   |mal r x=>cases f1
   |hei a=>cases f1
  have R:=h.bl.minus b4 f2.1 f2.2;rw[bn.1]at R
  have ca:=z5v (z:=c) hX (e:=LE c k.op.a) t rfl ⟨i,B⟩ (by
   unfold FC
   show (if mayG (J.pt c)=false\/(J.pt c).gave=true\/k.op.a≠(J.pt c).a then 5 else if OA k.op.a J.l=true then 0 else 3)=0
   rw[if_neg (by rw[bn.2,q3,F.2,q1.2.1];simp),if_pos R.1])
  have hH:=lF (e:=LE c k.op.a) h.why (uF (z:=c) hX t) ca;have y:=ZG (σ':=σ') (d':=d') hX hH R.2 b6 b5 (.inl fun b hb=>((f2.2 b).1 hb).1) b4;show JI s σ' d' (CA J (LE c k.op.a));refine y.ji ?_;have q:(CA J (LE c k.op.a)).pt c=abP (UA J.l k.op.a) { J.pt c with gave:=true}:=hH.mine;rw[q];obtain⟨a1,a2,a3,a4,a5,a6,a7,a8,a9,bb,bw⟩:=UE (UA J.l k.op.a) { J.pt c with gave:=true};exact V _ bv a1 (a2.trans i) (a3.trans B) a4 a5 a6 (a7.trans q2) (a8.trans F.1.symm) (M _ bb fun e=>by rw[F.1,F.2]at e;cases e)
 rw[if_neg F,List.nil_append];have Z:j'.gave=j.gave:=by
  rcases Bool.eq_false_or_eq_true j.gave with e|e
  ·rw[e,G.2.2.2 e]
  rw[e];cases e2:j'.gave with
  |false=>rfl
  |true=>exact absurd ⟨e2,e⟩ F
 have bm:j.gave=true\/j'.gave=false:=by
  rw[Z];cases j.gave
  ·exact .inr rfl
  exact .inl rfl
 rcases Bool.eq_false_or_eq_true j'.done with C|C
 ·rw[if_pos C];cases E:j'.took with
  |some b=>
   obtain⟨_,t2,t3⟩:=AP hw.rep.may t U E;have T:=chg.took b E;obtain⟨bx,bz⟩:=xO b;have b7:σ'.has (jD b):=(T.2 _).2 (.inr rfl);have bp:=SJ w1.gi b7;rw[<-h.W]at bp;have R:=h.bl.plus T.2 bp fun x hx=>qW w1.gi ((T.2 x).2 (.inl hx)) b7 fun e=>T.1 (e ▸ hx);rw[bx,bz]at R;have bf:=M (J.pt c).ab id fun _ b' _ O=>(T.2 b').2 (.inl O);obtain⟨g1,g2,g3⟩:=fV bf E;have c8:mayT (J.pt c)=true:=by
    unfold mayT;rw[q1.1];rcases g3 with e|e
    ·rw[e];rfl
    rcases t3 with e2|⟨r,x,e2⟩
    ·rw[e,q3,<- Z,e2];rfl
    rw[e2]at bf;rw[bf.1]at e;cases e
   have c9:=z5f (z:=c) hX (e:=yE c b.at' b.len) t rfl ⟨i,B⟩ (by
    unfold DC
    show (if mayT (J.pt c)=false\/(J.pt c).took=true\/lenB (J.pt c).n=false\/lenV (J.pt c).n≠b.len then 5 else if iB J.W J.l b.at' b.len=true then 0 else 2)=0
    rw[if_neg (by rw[c8,q2,q1.2.2,g1,g2];simp),if_pos R.1])
   have hH:=lF (e:=yE c b.at' b.len) h.why (uF (z:=c) hX t) c9;have y:=ZG (σ':=σ') (d':=d') hX hH R.2 b6 b5 (.inr fun b hb=>(T.2 b).2 (.inl hb)) b4;have q:(CA J (yE c b.at' b.len)).pt c=abP (putB J.l b.at' b.len) { J.pt c with took:=true,at':=b.at'}:=hH.mine;obtain⟨a1,a2,a3,a4,a5,a6,a7,a8,a9,bb,bw⟩:=UE (putB J.l b.at' b.len) { J.pt c with took:=true,at':=b.at'};show JI s σ' d' (CA (CA J (yE c b.at' b.len)) (RA c k.op (yB (some b)) j'.err));generalize CA J (yE c b.at' b.len)=J1 at *;have I:=aW (p:=J1.pt c) hw.rep.may t U C (H:=σ'.has) (by rw[q];exact M _ bb fun _ b' _ O=>(T.2 b').2 (.inl O)) (by rw[q];exact⟨a4.trans q1.1,a5.trans q1.2.1,a6.trans q1.2.2⟩) (by rw[q];exact a8.trans (q3.trans Z.symm)) (.inr ⟨b,E,by rw[q];exact a7,by rw[q];exact a9⟩);rw[E]at I;have bk:=YO (z:=c) y (e:=RA c k.op (yB (some b)) j'.err) t rfl (by show (J1.pt c).lives=true/\(J1.pt c).asks=true;rw[q];exact⟨a2.trans i,a3.trans B⟩) I;have X:=lF (e:=RA c k.op (yB (some b)) j'.err) y.why (uF (z:=c) y t) bk;have S:=HI w1;have Y:=ZG (σ':=σ') (d':=d') y X y.bl (fun _ _=>.rfl) (fun _ _=>rfl) (.inl fun _ h=>h) S;refine Y.ji ?_;have b0:=X.mine;have b0:(CA J1 (RA c k.op (yB (some b)) j'.err)).pt c=abP J1.l { J1.pt c with asks:=false}:=b0;rw[b0];obtain⟨b1,b2,b3,_⟩:=UE J1.l { J1.pt c with asks:=false};refine rests _ C (b1.trans ?_) (b2.trans ?_) b3
   ·show (J1.pt c).was=_;rw[q];exact a1
   show (J1.pt c).lives=_;rw[q];exact a2.trans i
  |none=>have D:=chg.calm bm E;have y:=oM (σ':=σ') (d':=d') hX D b6 b5;have I:=aW (p:=J.pt c) hw.rep.may t U C (H:=σ'.has) (M _ id fun _ b' _ O=>(D b').2 O) q1 (q3.trans Z.symm) (.inl ⟨E,q2⟩);rw[E]at I;have bk:=YO (z:=c) y (e:=RA c k.op (yB none) j'.err) t rfl ⟨i,B⟩ I;have X:=lF (e:=RA c k.op (yB none) j'.err) y.why (uF (z:=c) y t) bk;have S:=HI w1;have Y:=ZG (σ':=σ') (d':=d') y X y.bl (fun _ _=>.rfl) (fun _ _=>rfl) (.inl fun _ h=>h) S;show JI s σ' d' (CA J (RA c k.op (yB none) j'.err));refine Y.ji ?_;have b0:(CA J (RA c k.op (yB none) j'.err)).pt c=abP J.l { J.pt c with asks:=false}:=X.mine;rw[b0];obtain⟨b1,b2,b3,_⟩:=UE J.l { J.pt c with asks:=false};exact rests _ C b1 (b2.trans i) b3
 rw[if_neg (by rw[C];decide)]
 have E:j'.took=none:=by
  cases e:j'.took with
  |none=>rfl
  |some b=>have:=(AP hw.rep.may t U e).1;rw[C]at this;cases this
 have D:=chg.calm bm E;have y:=oM (σ':=σ') (d':=d') hX D b6 b5;exact y.ji (V _ C rfl i B rfl rfl rfl q2 (q3.trans Z.symm) (M _ id fun _ b' _ O=>(D b').2 O))
end

section

variable {s:Sh} {σ:Ab} {d:Wd} {J:Jd} {n:Nat} {c:Int}

theorem z4g(hs:mayB s.p s.c s.m=true)(hc:0<=c/\c<s.c)(f:Int){o:Op3}(B:1<=o.k/\o.k<=4)(q:vD s c o.k o.a o.n=false)(H:Bl->Prop)(ab:Bool):vF H ab o (iC s c f o.k o.a o.n):=by
 have hb:=LA.1 hs;unfold vD at q;rw[Bool.or_eq_false_iff]at q;obtain⟨h2,h3⟩:=q;have h1:uA s.p s.c s.m c=c:=FH hs hc;obtain⟨ok,oa,on⟩:=o;dsimp only at *;have:ok=1\/ok=2\/ok=3\/ok=4:=by omega
 rcases this with rfl|rfl|rfl|rfl
 ·have b:lenB on=true:=by simpa[OD] using h2
  exact⟨rfl,b,FV b s c f⟩
 ·have b:spB s oa=true:=by simpa[OD] using h2
  exact⟨rfl,sW hs hc b H ab⟩
 ·have b:lenB on=true/\spB s oa=true:=by simpa[OD] using h2
  have l:=sW (c:=c) hs hc b.2 H ab;show vF H ab ⟨3,oa,on⟩ (.aga (gD s c oa on f));unfold gD;rw[if_pos ⟨b.2,b.1,by omega⟩];obtain⟨r,t,y⟩:=oJ s ⟨c,some (CB s c on f),some (nB s c oa),none,none,0,false⟩ (CB s c on f) (nB s c oa) rfl rfl rfl (ab:=ab) (fun e=>by cases e) (fun _ _=>rfl);exact⟨rfl,b.1,fun x j=>by rw[r]at j;injection j with j;subst j;exact FV b.1 s c f,fun z i=>by rw[t]at i;injection i with i;subst i;exact l,y⟩
 refine⟨rfl,fun e=>?_⟩;have e:(iD s c oa).done=true:=e;have b:0<=uA s.p s.c s.m oa/\oa≠c:=by have:=h2;simp only[OD,beq_self_eq_true,Bool.true_and,Bool.or_eq_false_iff,decide_eq_false_iff_not,beq_eq_false_iff_ne]at this;exact⟨by omega,this.1.1.2⟩
 unfold iD at e;dsimp only at e;rw[if_neg (by rintro(h|h|h);omega;omega;exact b.2 h.symm)]at e;cases e
theorem zu6{o:Op3}(b:1<=o.k/\o.k<=4)(h:OD s c o.k o.a o.n=true):(o.k=4)\/((o.k=1\/o.k=3)/\lenB o.n=false)\/((o.k=2\/o.k=3)/\spB s o.a=false):=by
 simp only[OD,Bool.or_eq_true,Bool.and_eq_true,beq_iff_eq,decide_eq_true_eq,Bool.not_eq_true']at h;rcases h with(h|h)|h
 ·exact .inl h.1
 ·exact .inr (.inl h)
 exact .inr (.inr h)
theorem yep(h:JI s σ d J)(Z:WI s σ d)(hd:wdOk s d n)(x:Ch){k:Kl}(F:d.kl x.client=some k):JI s σ (d.ask s x k).1 (runJ J (k.invoke s x.op).2.1):=by
 obtain⟨ho,b7,r⟩:=hd.kl _ k F;have bc:=FI Z hd x F;have hX:=h.jx x.client;have R:=h.pt x.client r.1 r.2;have H:(J.pt x.client).lives=true:=R.lives.2 ⟨k,F⟩;have M:=HI Z;have hm:=Z.rep.may;have X:∀ y,y≠x.client->(d.ask s x k).1.kl y=d.kl y:=fun y hy=>by unfold Wd.ask;rw[d.AB (Wd.gC F).1 (Wd.gC F).2,if_neg hy]
 have i:(d.ask s x k).1.kl x.client=some (k.invoke s x.op).1:=by unfold Wd.ask;rw[d.AB (Wd.gC F).1 (Wd.gC F).2,if_pos rfl]
 generalize (d.ask s x k).1=d' at *;have same:(k.invoke s x.op).1=k->JI s σ d' J:=fun e=>by refine(oM (σ':=σ) (d':=d') hX (Calm.refl _) (fun _ _=>.rfl) X).ji ?_;rw[e]at i;have t:d'.kl x.client=d.kl x.client:=i.trans F.symm;exact⟨R.was,by rw[t];exact R.lives,by rw[t];exact R.asks,fun k j a b=>R.op k j (t ▸ a) b⟩
 unfold Kl.invoke at same i ⊢;by_cases hr:k.rests=false
 ·rw[if_pos hr]at same ⊢;exact same rfl
 rw[if_neg hr]at same i ⊢;by_cases hb:x.op.k<1\/4<x.op.k
 ·rw[if_pos hb]at same ⊢;exact same rfl
 rw[if_neg hb]at i ⊢;have hj:k.job=none:=by
  cases hj:k.job
  ·rfl
  simp[Kl.rests,hj]at hr
 have O:(J.pt x.client).asks=false:=by
  cases e:(J.pt x.client).asks with
  |false=>rfl
  |true=>
   obtain⟨k2,j,G,t⟩:=R.asks.1 e
   rw[F]at G;injection G with G;subst G
   rw[hj]at t;cases t
 rw[b7]at i ⊢;have E:(NA x.client x.op).k=2:=rfl;have V:qC (J.pt x.client) (NA x.client x.op)=0:=by unfold qC;rw[if_neg (by rw[E];decide),if_neg (by rw[E];decide)];show (if (J.pt x.client).lives=false\/(J.pt x.client).asks=true\/x.op.k<1\/4<x.op.k then(1:Int) else 0)=0;rw[if_neg (by rw[H,O];simp;omega)]
 have b6:CC (J.pt x.client) (NA x.client x.op)=⟨true,true,true,x.op.k,x.op.a,x.op.n,false,false,0,false⟩:=by unfold CC;rw[if_neg (by rw[V];decide),if_neg (by rw[E];decide),if_neg (by rw[E];decide)];rfl
 have b0:=fQ (z:=x.client) hX (e:=NA x.client x.op) r (by rw[E];decide) V;rw[show (NA x.client x.op).c=x.client from rfl,b6]at b0;have hH:=lF (e:=NA x.client x.op) h.why (uF (z:=x.client) hX r) b0;have D:=ZG (σ':=σ) (d':=d') hX hH h.bl (fun _ _=>.rfl) X (.inl fun _ h=>h) M;have p:(CA J (NA x.client x.op)).pt x.client=abP J.l ⟨true,true,true,x.op.k,x.op.a,x.op.n,false,false,0,false⟩:=hH.mine;obtain⟨a1,a2,a3,a4,a5,a6,a7,a8,a9,ba,b4⟩:=UE J.l ⟨true,true,true,x.op.k,x.op.a,x.op.n,false,false,0,false⟩;have N:σ.st x.client≠ .unused:=by rw[(Z.li _ k F).1];simp
 by_cases q:vD s x.client x.op.k x.op.a x.op.n=true
 ·rw[if_pos q]at i ⊢;show JI s σ d' (CA (CA J (NA x.client x.op)) (RA x.client x.op 0 (WC s x.client x.op.k x.op.a x.op.n)));have U:WB ((CA J (NA x.client x.op)).pt x.client) (RA x.client x.op 0 (WC s x.client x.op.k x.op.a x.op.n))=true:=by
   rw[p];unfold WB RA WC;dsimp only;by_cases B:OD s x.client x.op.k x.op.a x.op.n=true
   ·rw[if_pos B,if_neg (by decide),if_neg (by rw[a7,a8];simp),if_pos rfl];unfold VE;rw[a4,a6];dsimp only;rcases zu6 (by omega) B with e|⟨e,t⟩|⟨e,t⟩
    ·rw[e];rfl
    ·rcases e with e|e
     ·rw[e,if_pos rfl,t];rfl
     rw[e,if_neg (by decide),if_neg (by decide),if_pos rfl,t];simp
    have b5:(abP J.l ⟨true,true,true,x.op.k,x.op.a,x.op.n,false,false,0,false⟩).ab=true:=by
     refine b4 rfl ?_
     show OA x.op.a J.l=false
     cases hf:OA x.op.a J.l with
     |false=>rfl
     |true=>
      exfalso
      obtain⟨b,b1,b2⟩:=(h.bl.found _).1 hf
      have bb:=SJ Z.gi b1
      have:spB s x.op.a=true:=GS.2 ⟨hm,by omega⟩
      rw[t]at this;cases this
    rw[b5];rcases e with e|e
    ·rw[e];rfl
    rw[e];rfl
   have I:HG s x.op.k x.op.n=true:=by unfold vD at q;simpa[B] using q
   rw[if_neg B,if_pos I,if_neg (by decide),if_neg (by rw[a7,a8];simp),if_neg (by decide),if_pos rfl,a4];unfold HG at I;simp only[Bool.and_eq_true]at I;exact I.1.1
  have b9:=YO (z:=x.client) D (e:=RA x.client x.op 0 (WC s x.client x.op.k x.op.a x.op.n)) r rfl (by show ((CA J (NA x.client x.op)).pt x.client).lives=true/\((CA J (NA x.client x.op)).pt x.client).asks=true;rw[p];exact⟨a2,a3⟩) U;have S:=lF (e:=RA x.client x.op 0 (WC s x.client x.op.k x.op.a x.op.n)) D.why (uF (z:=x.client) D r) b9;have T:=ZG (σ':=σ) (d':=d') D S D.bl (fun _ _=>.rfl) (fun _ _=>rfl) (.inl fun _ h=>h) M;refine T.ji ?_;have b8:(CA (CA J (NA x.client x.op)) (RA x.client x.op 0 (WC s x.client x.op.k x.op.a x.op.n))).pt x.client=abP (CA J (NA x.client x.op)).l { (CA J (NA x.client x.op)).pt x.client with asks:=false}:=S.mine;rw[b8];obtain⟨b1,b2,b3,_⟩:=UE (CA J (NA x.client x.op)).l { (CA J (NA x.client x.op)).pt x.client with asks:=false};refine HP ?_ (b2.trans ?_) b3 i hj
  ·rw[b1];show ((CA J (NA x.client x.op)).pt x.client).was=true↔_;rw[p,a1];exact⟨fun _=>N,fun _=>rfl⟩
  show ((CA J (NA x.client x.op)).pt x.client).lives=true;rw[p];exact a2
 rw[if_neg q]at i ⊢;have C:vD s x.client x.op.k x.op.a x.op.n=false:=by simpa using q
 show JI s σ d' (CA J (NA x.client x.op));refine D.ji ?_;rw[p];have Y:=(uV (f:=k.first) hm r ho.fi (by omega) C).2;refine⟨by rw[a1];exact⟨fun _=>N,fun _=>rfl⟩,by rw[a2];exact⟨fun _=>⟨_,i⟩,fun _=>rfl⟩,by rw[a3];exact⟨fun _=>⟨_,_,i,rfl⟩,fun _=>rfl⟩,fun k2 j G t=>?_⟩;rw[i]at G;injection G with G;subst G;injection t with t;subst t;exact⟨⟨a4,a5,a6⟩,a7,a8.trans Y.symm,Y.symm,z4g hm r _ (by omega) C _ _⟩
theorem z4o(h:JI s σ d J)(q:WI s σ d)(hd:wdOk s d n)(x:Ch)(hc:0<=x.client/\x.client<s.c)(hu:d.stat x.client=0):JI s (σ.stat x.client .live) (d.begin s x).1 (runJ J [BE x.client]):=by
 have V:=q.rep.may;have G:=(ixs q.rep.fi).2.2.2 _ hc;have b:σ.st x.client= .unused:=by have h1:=q.rep.st _ hc;rw[G]at h1;unfold Wd.stat at hu;rw[h1]at hu;have h2:=(TW.read V (q.gi.tf x.client)).1;rw[hu]at h2;cases hx:σ.st x.client<;>rw[hx]at h2<;>simp[TW.kind]at h2
 have hi:x.client.toNat<d.l.length:=by rw[hd.len];omega
 have E:=h.jx x.client;have O:=h.pt x.client hc.1 hc.2
 have C:(J.pt x.client).was=false:=by
  cases e:(J.pt x.client).was with
  |false=>rfl
  |true=>exact absurd b (O.was.1 e)
 have H:∀ k,d.kl x.client≠some k:=fun k U=>by have:=(q.li _ k U).1;rw[b]at this;cases this
 have f:(J.pt x.client).asks=false:=by
  cases e:(J.pt x.client).asks with
  |false=>rfl
  |true=>obtain⟨k,j,T,_⟩:=O.asks.1 e;exact absurd T (H k)
 have t:∀ y,(d.begin s x).1.kl y=if y=x.client then some (SD x.client (Fl.TC x.bias s.p)) else d.kl y:=fun y=>by unfold Wd.begin;rw[if_pos hu];exact d.AB hc.1 hi _ _ _ _ _
 have r:qC (J.pt x.client) (BE x.client)=0:=by have e:qC (J.pt x.client) (BE x.client)=(if (J.pt x.client).was=true then 1 else 0):=if_pos rfl;rw[e,C];rfl
 have B:=fQ (z:=x.client) E (e:=BE x.client) hc (show (0:Int)<=0/\(0:Int)<3 by decide) r;have F:CC (J.pt x.client) (BE x.client)= { J.pt x.client with was:=true,lives:=true}:=by exact(if_neg (by rw[r];decide)).trans (if_pos rfl)
 rw[show (BE x.client).c=x.client from rfl,F]at B;have N:=lF (e:=BE x.client) h.why (uF (z:=x.client) E hc) B;have I:∀ y,y≠x.client->((σ.stat x.client .live).st y= .unused↔σ.st y= .unused):=fun y M=>by rw[ZA _ _ M]
 have D:=ZG (σ':=σ.stat x.client .live) (d':=(d.begin s x).1) E N h.bl I (fun y M=>by rw[t,if_neg M]) (.inl fun _ h=>h) (HI q);show JI s _ _ (CA J (BE x.client));refine D.ji ?_;have i:(CA J (BE x.client)).pt x.client=abP J.l { J.pt x.client with was:=true,lives:=true}:=N.mine;rw[i];obtain⟨a1,R,S,_⟩:=UE J.l { J.pt x.client with was:=true,lives:=true};refine HP ?_ R (S.trans f) (by rw[t,if_pos rfl]) rfl;rw[a1,eE];simp
theorem VX(h:JI s σ d J)(M:WI s σ d)(hd:wdOk s d n){k:Kl}(B:d.kl c=some k):JI s (σ.stat c .dead) (d.kill c).1 (runJ J [NE c]):=by
 obtain⟨V,T,hc⟩:=hd.kl _ k B;have D:=h.jx c;have t:=h.pt c hc.1 hc.2;have f:(J.pt c).lives=true:=t.lives.2 ⟨k,B⟩;have q:∀ y,(d.kill c).1.kl y=if y=c then none else d.kl y:=fun y=>by unfold Wd.kill;exact d.AB hc.1 (Wd.gC B).2 _ _ _ _ _
 have F:¬ ((J.pt c).asks=true/\(J.pt c).took=true):=fun e=>by obtain⟨U,j,R,S⟩:=t.asks.1 e.1;have:=(t.op U j R S).2.1;rw[this]at e;cases e.2
 have p:qC (J.pt c) (NE c)=0:=by have e:qC (J.pt c) (NE c)=(if (J.pt c).lives=false then 1 else if (J.pt c).asks=true/\(J.pt c).took=true then 5 else 0):=(if_neg (show ¬ (1:Int)=0 by decide)).trans (if_pos rfl);rw[e,if_neg (by rw[f];decide),if_neg F]
 have r:=fQ (z:=c) D (e:=NE c) hc (show (0:Int)<=1/\(1:Int)<3 by decide) p;have E:CC (J.pt c) (NE c)= { J.pt c with lives:=false,asks:=false}:=by exact(if_neg (by rw[p];decide)).trans ((if_neg (show ¬ (1:Int)=0 by decide)).trans (if_pos rfl))
 rw[show (NE c).c=c from rfl,E]at r;have I:=lF (e:=NE c) h.why (uF (z:=c) D hc) r;have G:∀ y,y≠c->((σ.stat c .dead).st y= .unused↔σ.st y= .unused):=fun y H=>by rw[ZA _ _ H]
 have C:=ZG (σ':=σ.stat c .dead) (d':=(d.kill c).1) D I h.bl G (fun y H=>by rw[q,if_neg H]) (.inl fun _ h=>h) (HI M);show JI s _ _ (CA J (NE c));refine C.ji ?_;have i:(CA J (NE c)).pt c=abP J.l { J.pt c with lives:=false,asks:=false}:=I.mine;rw[i];obtain⟨a1,N,O,_⟩:=UE J.l { J.pt c with lives:=false,asks:=false};have b:∀ k,(d.kill c).1.kl c≠some k:=fun k=>by rw[q,if_pos rfl];simp
 refine⟨?_,?_,?_,fun k j e _=>absurd e (b k)⟩
 ·rw[a1,eE];simp only[ne_eq,reduceCtorEq,not_false_eq_true,iff_true];exact t.was.2 (by rw[(M.li c k B).1];simp)
 ·rw[N];exact⟨fun e=>(by cases e),fun ⟨k,e⟩=>absurd e (b k)⟩
 rw[O];exact⟨fun e=>(by cases e),fun ⟨k,_,e,_⟩=>absurd e (b k)⟩
theorem yq5(h:JI s σ d J)(f:WI s σ d)(hd:wdOk s d n)(x:Ch):∃ σ' es,WI s σ' (d.act s x).1/\(d.act s x).1.tr=d.tr++es/\JI s σ' (d.act s x).1 (runJ J es):=by
 have nil:∃ σ' es,WI s σ' d/\d.tr=d.tr++es/\JI s σ' d (runJ J es):=⟨σ, [],f,(List.append_nil _).symm,h⟩;unfold Wd.act;split
 ·exact nil
 rename_i hb;unfold Ch.bad at hb;split
 ·by_cases hu:d.stat x.client=0
  ·refine⟨_, [BE x.client],BM f hd x (by omega) hu,?_,z4o h f hd x (by omega) hu⟩;unfold Wd.begin;rw[if_pos hu]
  unfold Wd.begin;rw[if_neg hu];exact nil
 cases hk:d.kl x.client with
 |none=>exact nil;|some k=>
  dsimp only;split
  ·cases hj:k.job with
   |none=>
    have p:k.step s d.m=(k,d.m, [],2):=by unfold Kl.step;rw[hj]
    have q:=oM (σ':=σ) (d':=(d.step s x.client k).1) (h.jx x.client) (Calm.refl _) (fun _ _=>.rfl) (fun y r=>by
     unfold Wd.step
     rw[d.AB (Wd.gC hk).1 (Wd.gC hk).2,if_neg r])
    have i:(d.step s x.client k).1.kl x.client=d.kl x.client:=by unfold Wd.step;rw[d.AB (Wd.gC hk).1 (Wd.gC hk).2,if_pos rfl,p,hk]
    have l:=h.pt x.client (by omega) (by omega);refine⟨σ, [],?_,?_,q.ji ⟨l.was,by rw[i];exact l.lives,by rw[i];exact l.asks,fun k j a b=>l.op k j (i ▸ a) b⟩⟩
    ·unfold Wd.step;rw[p];dsimp only;exact EM f hk (f.li _ k hk).2 (.inl rfl) _ _
    unfold Wd.step;rw[p]
   |some j=>obtain⟨h1,h2⟩:=HY h f hd hk hj;exact⟨_,_,h1,rfl,h2⟩
  split
  ·exact⟨σ,_,FI f hd x hk,rfl,yep h f hd x hk⟩
  exact⟨_,_,JJ f hd hk,rfl,VX h f hd hk⟩
theorem yre(h:mayB s.p s.c s.m=true):JI s jJ (uB s) (newJ s.p s.c s.m):=by
 have hb:=LA.1 h;have q:newJ s.p s.c s.m=⟨s.p*64, [],List.replicate s.c.toNat Pt.zero,0, -1,0⟩:=by unfold newJ;rw[if_pos h]
 rw[q];have i:∀ c k,(uB s).kl c≠some k:=fun c k f=>by
  unfold Wd.kl uB at f;dsimp only at f;rw[List.getD_eq_getElem?_getD,List.getElem?_replicate]at f;split at f
  ·split at f<;>simp at f
  cases f
 have l:∀ c,(⟨s.p*64, [],List.replicate s.c.toNat Pt.zero,0, -1,0⟩:Jd).pt c=Pt.zero:=fun c=>by unfold Jd.pt;dsimp only;rw[List.getD_eq_getElem?_getD,List.getElem?_replicate];split<;>rfl
 refine⟨rfl,rfl,⟨by show (0:Int)<=s.p*64;omega,fun a n=>⟨fun e=>(by cases e),fun ⟨b,e,_⟩=>by cases b<;>cases e⟩⟩,by simp,fun c _ _=>?_,fun c _ _ e=>?_⟩
 ·rw[l];exact⟨⟨fun e=>(by cases e),fun e=>absurd rfl e⟩,⟨fun e=>(by cases e),fun ⟨k,e⟩=>absurd e (i c k)⟩,⟨fun e=>(by cases e),fun ⟨k,_,e,_⟩=>absurd e (i c k)⟩,fun k j e _=>absurd e (i c k)⟩
 rw[l]at e;cases e
end

section

def jdOf (s:Sh) (d:Wd):Jd:=runJ (newJ s.p s.c s.m) d.tr
def AI (s:Sh) (d:Wd) (n:Nat):Prop:=wdOk s d n/\∃ σ,WI s σ d/\JI s σ d (jdOf s d)
theorem oK{s:Sh}(h:mayB s.p s.c s.m=true):AI s (uB s) 0:=⟨OL h,jJ,AQ h,yre h⟩
theorem kC{s:Sh}{d:Wd}{n:Nat}(h:AI s d n)(x:Ch):AI s (d.act s x).1 (n+1):=by
 obtain⟨b,σ,i,f⟩:=h;obtain⟨σ',es,h1,h2,h3⟩:=yq5 f i b x;refine⟨KF b x,σ',h1,?_⟩;unfold jdOf;rw[h2,ZF];exact h3
section

variable {J:Jd} {e:Ev} {W:Int} {L:List Bk} {o:Op3} {c:Int}

theorem YE{es:List Ev}(h:(runJ J es).why=0):J.why=0:=by
 rcases Decidable.em (J.why=0) with h1|h1
 ·exact h1
 rw[yir h1]at h;exact h
theorem xH(b:J.why=0)(h:(CA J e).why=0):(whyJ J.W J.l J.ps e).c=0:=by
 unfold CA at h;rw[jN (by omega)]at h;rcases Decidable.em ((whyJ J.W J.l J.ps e).c=0) with h1|h1
 ·exact h1
 rw[jP h1]at h;exact absurd h h1
end

end

section

open Go.RowKit

attribute [local go_sem ↓] Go.wp_at_zero Go.wp_at_succ

theorem vQ{c m C M:Int}(hc:0<=c/\c<=C)(b:0<=m/\m<=M):0<=c*m/\c*m<=C*M:=by
 refine⟨Int.mul_nonneg hc.1 b.1,?_⟩;exact Int.le_trans (Int.mul_le_mul_of_nonneg_right hc.2 b.1) (Int.mul_le_mul_of_nonneg_left b.2 (by omega))
theorem oV{s:Sh}(h:mayB s.p s.c s.m=true):EB s.p s.c s.m=s.c+s.p+s.p*16+s.c*s.m/\18<=EB s.p s.c s.m/\EB s.p s.c s.m<=1196:=by
 have hb:=LA.1 h;have b:=vQ (c:=s.c) (m:=s.m) (C:=12) (M:=8) (by omega) (by omega);have:EB s.p s.c s.m=s.c+s.p+s.p*16+s.c*s.m:=by unfold EB;rw[jP h]
 omega
theorem zv0(s:Sh)(w:World):
  Calls Tryz.prog 59 #[.agg #[s.p,s.c,s.m]] w fun e w'=>e= .returned (.int .i64 (EB s.p s.c s.m))/\Below w.heap.size w w':=by
 obtain⟨p,c,m⟩:=s;dsimp only;by_cases h1:mayB p c m=true
 ·have hb:=LA.1 h1;have q:=vQ (c:=c) (m:=m) (C:=12) (M:=8) (by omega) (by omega);have j:EB p c m=c+p+p*16+c*m:=by unfold EB;rw[jP h1]
  have l:=wrp (c+p);have r:=wrp (16*p);have t:=wrp (c+p+16*p);have y:=wrp (c*m);have z:=wrp (c+p+16*p+c*m);have b:=fun W=>fI p c m W;rw[h1]at b;replace b:=hd' b;rw[show EB p c m=c+p+16*p+c*m by omega];clear j q hb h1;go_in;go_wp2_with (go_at_call 42;refine(b _).mono ?_;rintro e l ⟨rfl,rfl⟩);go_ret;exact⟨rfl,by go_grown⟩
 have i:mayB p c m=false:=by simpa using h1
 have j:EB p c m=0:=by unfold EB;rw[jN h1]
 have b:=fun W=>fI p c m W;rw[i]at b;replace b:=hd' b;rw[j];clear h1 i j;go_in;go_wp2_with (go_at_call 42;refine(b _).mono ?_;rintro e l ⟨rfl,rfl⟩);go_ret;exact⟨rfl,by go_grown⟩
end

section

def Wd.rest (s:Sh) (d:Wd) (c:Int):Wd:=d.goN s c (WA s)
section

variable {s:Sh} {d:Wd} {n:Nat} {c:Int}

theorem xG{m:Nat}(h:AI s d n)(b:n<=m):AI s d m:=⟨⟨h.1.fi,h.1.fit,h.1.len,h.1.kl,⟨h.1.st.1,by have:=h.1.st.2;omega⟩,by have:=h.1.tr;omega,h.1.lg⟩,h.2⟩
end

end

section

open Go.RowKit

attribute [local go_sem ↓] Go.wp_at_zero Go.wp_at_succ

theorem okK.append{W M:Int}{l k:List Bk}(f:okK W M k):∀ {lo:Int},okK M lo l->okK W lo (l++k):=by
 induction l with
 |nil=>exact fun h=>f.mono h
 |cons b l i=>exact fun h=>⟨h.1,h.2.1,i h.2.2⟩
end

section

variable {s:Sh} {m:Mem} {σ:Ab}

theorem SW.rH(hs:mayB s.p s.c s.m=true){x:SW}(h:x.fit s):LF x.enc=true:=by
 obtain⟨h1,h2⟩:=SW.read hs h;obtain⟨e,h3⟩:=SW.HE hs h;unfold LF;rw[h1,h2,beq_iff_eq];cases x with
 |none=>decide
 |opened k=>rfl
 |way c=>rfl
 |taken k=>rfl
theorem okK.same{W:Int}{l k:List Bk}:∀ {lo:Int},okK W lo l->okK W lo k->(∀ b,b ∈ l↔b ∈ k)->l=k:=by
 induction l generalizing k with
 |nil=>
  intro lo _ _ h
  cases k with
  |nil=>rfl
  |cons b k=>exact absurd ((h b).2 (by simp)) (by simp)
 |cons a l p=>
  intro lo h1 h2 h
  cases k with
  |nil=>exact absurd ((h a).1 (by simp)) (by simp)
  |cons b k=>
   have m1:=okK.mem h1.2.2
   have m2:=okK.mem h2.2.2
   have j:=(h a).1 (by simp)
   have hb:=(h b).2 (by simp)
   have e:a=b:=by
    rcases List.mem_cons.1 j with e|e
    ·exact e
    ·rcases List.mem_cons.1 hb with i|i
     ·exact i.symm
     ·have:=m1 b i;have:=m2 a e;have:=h1.2.1;have:=h2.2.1;omega
   subst e
   congr 1
   refine p h1.2.2 h2.2.2 fun x=>?_
   constructor
   ·intro f
    rcases List.mem_cons.1 ((h x).1 (by simp[f])) with e|e
    ·have:=m1 x f;rw[e]at this;have:=h1.2.1;omega
    ·exact e
   ·intro f
    rcases List.mem_cons.1 ((h x).2 (by simp[f])) with e|e
    ·have:=m2 x f;rw[e]at this;have:=h1.2.1;omega
    ·exact e
end

section

variable {s:Sh} {d:Wd} {n:Nat}

theorem yG(h:AI s d n):(jdOf s d).why=0:=by
 obtain⟨_,_,_,b⟩:=h;exact b.why
end

section

theorem YN(W:Int)(l:List Bk)(ps:List Pt)(e:Ev):(whyJ W l ps e).ps.length=ps.length:=by
 unfold whyJ;repeat' split
 all_goals simp
theorem yox(J:Jd)(e:Ev):(CA J e).ps.length=J.ps.length:=by
 unfold CA;split
 ·rfl
 split
 ·exact YN _ _ _ _
 rw[List.length_map];exact YN _ _ _ _
theorem ZR(J:Jd)(es:List Ev):(runJ J es).ps.length=J.ps.length:=by
 induction es generalizing J with
 |nil=>rfl
 |cons e es b=>rw[dI,b,yox]
theorem yq6(J:Jd)(e:Ev):J.m<=(CA J e).m/\(CA J e).m<=J.m+1:=by
 unfold CA;split
 ·omega
 split
 ·simp;omega
 simp;omega
theorem ES(J:Jd)(es:List Ev):J.m<=(runJ J es).m/\(runJ J es).m<=J.m+es.length:=by
 induction es generalizing J with
 |nil=>simp[runJ];|cons e es b=>have h1:=yq6 J e;have h2:=b (CA J e);rw[dI,List.length_cons];omega
theorem eS(p c m:Int):(newJ p c m).ps.length<=12/\(newJ p c m).m=0:=by
 unfold newJ;split
 ·rename_i h;have:=LA.1 h;simp;omega
 simp
theorem ym7(p c m:Int)(es:List Ev)(h:es.length<=100000000):(0<=(runJ (newJ p c m) es).m/\(runJ (newJ p c m) es).m<=1000000000)/\(runJ (newJ p c m) es).ps.length<=100:=by
 have h1:=eS p c m;have h2:=ES (newJ p c m) es;rw[ZR];omega
theorem yny{J:Jd}{es:List Ev}(h:(runJ J es).why=0)(i:Nat)(hi:i<es.length):cF (runJ J (es.take i)) es[i]=true:=by
 have h1:(CA (runJ J (es.take i)) es[i]).why=0:=by rw[<-List.take_append_drop (i+1) es,ZF]at h;have h2:=YE h;rwa [List.take_succ_eq_append_getElem hi,wH]at h2
 have h0:(runJ J (es.take i)).why=0:=YE (es:= [es[i]]) h1;exact(CI _ _).2 ⟨h0,xH h0 h1⟩
theorem xS{J:Jd}{es:List Ev}(h:(runJ J es).why=0):(runJ J es).at'=J.at':=by
 induction es generalizing J with
 |nil=>rfl;|cons e es b=>have h1:(CA J e).why=0:=YE (es:=es) h;have h0:J.why=0:=YE (es:= [e]) h1;rw[dI,b h,KK ((CI _ _).2 ⟨h0,xH h0 h1⟩)]
theorem BS(p c m:Int):(newJ p c m).at'= -1:=by unfold newJ;split<;>rfl
end

end Go.Proofs.YtmmbicppdjgbmaaGreat
