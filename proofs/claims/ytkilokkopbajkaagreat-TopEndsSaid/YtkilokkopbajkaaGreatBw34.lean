
import Derived.Test.YtkilokkopbajkaaGreatBw32

import Derived.Test.YtkilokkopbajkaaGreatBw33

set_option linter.all false
namespace Go.Proofs.YtkilokkopbajkaaGreat

section

variable {s:Sh}{σ σ':Ab}{c:Int}{d d':Wd}

def JF (H:Bl->Prop) (ab:Bool) (o:Op3):Jb->Prop
 |.mal r _=>o.k=1/\lenB o.n=true/\oI o.n r
 |.fre f=>o.k=2/\FG H ab o.a f
 |.aga r=>o.k=3/\lenB o.n=true/\(∀x,r.res=some x->oI o.n x)/\(∀f,r.free=some f->FG H ab o.a f)/\(r.done=true->r.err=0\/(r.err=3/\fC r=false)\/(r.err=1/\fC r=false/\ab=true))
 |.hei a=>o.k=4/\(a.done=true->a.err=0\/a.err=4\/a.err=5)
theorem FG.mono{H l:Bl->Prop}{ab ab':Bool}{a:Int}{f:Fe}(h:FG H ab a f)(h1:ab=true->ab'=true)(h2:∀b,b.at'=a->H b->ab'=true\/l b):FG l ab' a f:=by
 refine⟨h.ad,h.pg,h.bl,λi j=>?_,λi j=>h1 (h.no i j)⟩;rcases h.see i j with e|e
 .exact .inl (h1 e)
 exact h2 _ (h.bl i (by omega)) e
theorem JF.mono{H i:Bl->Prop}{ab ab':Bool}{o:Op3}{j:Jb}(h:JF H ab o j)(h1:ab=true->ab'=true)(h2:∀b,b.at'=o.a->H b->ab'=true\/i b):JF i ab' o j:=by
 cases j with
 |mal r x=>exact h
 |fre f=>exact⟨h.1,h.2.mono h1 h2⟩
 |aga r=>exact⟨h.1,h.2.1,h.2.2.1,λf l=>(h.2.2.2.1 f l).mono h1 h2,λe=>(h.2.2.2.2 e).imp id (Or.imp id λe=>⟨e.1,e.2.1,h1 e.2.2⟩)⟩
 |hei a=>exact h
theorem FV{H:Bl->Prop}{ab:Bool}{o:Op3}{j:Jb}{b:Blk}(h:JF H ab o j)(hb:j.took=some b):b.len=lenV o.n/\lenB o.n=true/\(o.k=1\/o.k=3):=by
 cases j with
 |mal r x=>
  have hb:(if RC x=true then r.got else none)=some b:=hb;split at hb
  .exact⟨iW h.2.2 hb,h.2.1,.inl h.1⟩
  cases hb
 |fre f=>cases hb;|aga r=>
  have hb:(if r.done=true/\r.err=0 then(match r.res with|some x=>x.got|none=>none) else none)=some b:=hb;split at hb
  .cases hr:r.res with
   |none=>rw[hr]at hb;cases hb
   |some x=>rw[hr]at hb;exact⟨iW (h.2.2.1 x hr) hb,h.2.1,.inr h.1⟩
  cases hb
 |hei a=>cases hb
theorem TJ(s:Sh)(t:Rr)(r:Rs)(f:Fe)(h1:t.res=some r)(h2:t.free=some f)(hd:t.done=false){ab:Bool}(hu:JD t.undo=true->f.gave=false/\ab=true)(l:r.done=true->r.got=none->f.gave=false):(t.settle s).res=some r/\(t.settle s).free=some f/\((t.settle s).done=true->(t.settle s).err=0\/((t.settle s).err=3/\fC (t.settle s)=false)\/((t.settle s).err=1/\fC (t.settle s)=false/\ab=true)):=by
 have i:∀t':Rr,t'.free=some f->fC t'=f.gave:=λt' e=>by unfold fC;rw[e]
 rcases XF s t r f h1 h2 with⟨k1,e⟩|⟨_,k1,e⟩|⟨_,_,k1,e⟩|⟨_,_,k1,j,e⟩|⟨b,_,_,k1,j,o,e⟩|⟨b,_,_,_,_,_,_,k1,_,e⟩|⟨b,_,_,_,_,_,_,k1,_,e⟩<;>rw[e]
 .exact⟨h1,h2,λ_=>.inr (.inr ⟨rfl,(i _ h2).trans (hu k1).1,(hu k1).2⟩)⟩
 .exact⟨h1,h2,λ_=>.inl rfl⟩
 .exact⟨h1,h2,λe=>(by rw[hd]at e;cases e)⟩
 .exact⟨h1,h2,λ_=>.inr (.inl ⟨rfl,(i _ h2).trans (l k1 j)⟩)⟩
 .exact⟨h1,h2,λe=>(by rw[hd]at e;cases e)⟩
 .exact⟨h1,h2,λe=>(by have e:t.done=true:=e;rw[hd]at e;cases e)⟩
 exact⟨h1,h2,λe=>(by have e:t.done=true:=e;rw[hd]at e;cases e)⟩
theorem z97{s:Sh}{σ:Ab}{t:Ad}(hd:t.done=false)(h4:0<=t.next/\t.next<=13)(e:(adA s t σ).1.done=true):(adA s t σ).1.err=0\/(adA s t σ).1.err=4\/(adA s t σ).1.err=5:=by
 have l:∀(t':Ad) x y,t'.done=false->(t'.turn s x y).done=false:=λt' x y h=>by
  unfold Ad.turn;dsimp only;split
  .split<;>exact h
  split<;>exact h
 have sl:∀t':Ad,t'.done=false->(t'.slot s).done=false:=λt' h=>by
  unfold Ad.slot;split
  .exact l _ _ _ h
  exact h
 have no:∀(t':Ad),t'.done=false->t'.done=true->t'.err=0\/t'.err=4\/t'.err=5:=λt' a b=>by rw[a]at b;cases b
 have f:t.next=0\/t.next=1\/t.next=2\/t.next=3\/t.next=4\/t.next=5\/t.next=6\/t.next=7\/t.next=8\/t.next=9\/t.next=10\/t.next=11\/t.next=12\/t.next=13:=by omega
 have j:∀(p:Prop) [Decidable p] (a b:Ad),a.done=false->(b.done=false)->(if p then a else b).done=false:=λp _ a b h1 h2=>by split<;>assumption
 have o:∀(p:Prop) [Decidable p] (a b:Ad),(a.done=true->a.err=0\/a.err=4\/a.err=5)->(b.done=true->b.err=0\/b.err=4\/b.err=5)->(if p then a else b).done=true->(if p then a else b).err=0\/(if p then a else b).err=4\/(if p then a else b).err=5:=λp _ a b h1 h2=>by split<;>assumption
 rcases f with f|f|f|f|f|f|f|f|f|f|f|f|f|f
 .rw[EK hd f]at e|-;cases i:σ.st t.d with
  |dead=>rw[i]at e;exact no _ hd e
  |owned q=>rw[i]at e;exact no _ hd e
  |_=>exact .inr (.inr rfl)
 .rw[JN hd f]at e|-;exact o _ _ _ (λ_=>.inr (.inl rfl)) (no _ hd) e
 .rw[TN hd f]at e|-;by_cases i:(σ.st t.d).enc=t.was
  .rw[jP i]at e|-;exact no _ hd e
  rw[jN i];exact .inr (.inl rfl)
 .rw[QN hd f]at e|-;cases i:σ.pg t.at' with
  |body h=>rw[i]at e;exact no _ hd e
  |_=>rw[i]at e;exact no _ (l _ _ _ hd) e
 .rw[NN hd f]at e|-;exact no _ (j _ _ _ hd (l _ _ _ hd)) e
 .rw[SN hd f]at e|-;exact no _ (l _ _ _ hd) e
 .rw[RN hd f]at e|-;exact no _ (j _ _ _ hd (l _ _ _ hd)) e
 .rw[ON hd f]at e|-;exact no _ (j _ _ _ hd hd) e
 .rw[VN hd f]at e|-;exact no _ (l _ _ _ hd) e
 .rw[UN hd f]at e|-;exact no _ (j _ _ _ hd hd) e
 .rw[YO hd f]at e|-;cases i:σ.pg t.at' with
  |super k b=>rw[i]at e;exact no _ hd e
  |_=>rw[i]at e;exact no _ (l _ _ _ hd) e
 .rw[VO hd f]at e|-;exact no _ (j _ _ _ hd (sl _ hd)) e
 .rw[ZO hd f]at e|-;exact no _ (sl _ hd) e
 rw[UT hd f];exact .inl rfl
theorem zzb{m:Mem}{j:Jb}{o:Op3}{ab ab':Bool}(hr:Rep s m σ)(hg:GI s σ)(G:jbIs s c j)(b3:0<=c/\c<s.c)(hd:j.done=false)(N:JbAt s c σ j)(h:JF σ.has ab o j)(Y:(∀b,σ.has b->b.at'≠o.a)->ab=true)(O:ab=true->ab'=true)(l:(j.EB s c σ).1.gave=j.gave->∀b,b.at'=o.a->σ.has b->(j.EB s c σ).2.has b):JF (j.EB s c σ).2.has ab' o (j.EB s c σ).1:=by
 cases j with
 |mal r x=>
  unfold Jb.EB;dsimp only;split
  .exact⟨h.1,h.2.1,HV h.2.2 s σ⟩
  split
  .exact h
  exact h
 |fre f=>exact⟨h.1,mV hr hg G hd (N.2.w hd) h.2 Y O⟩;|aga t=>
  obtain⟨h1,h2,h3,h4,h5⟩:=h;obtain⟨r,f,D,p,o1,o2,o3,o4,o5,o6⟩:=G.ok.cl hd;have hd:t.done=false:=hd;have R:=h3 r D;have T:=h4 f p;show JF (rrA s t σ).2.has ab' o (.aga (rrA s t σ).1);have l:fC (rrA s t σ).1=fC t->∀b,b.at'=o.a->σ.has b->(rrA s t σ).2.has b:=l;have mono:∀(σ':Ab),(∀b,b.at'=o.a->σ.has b->σ'.has b)->FG σ'.has ab' o.a f:=fun σ' hb=>T.mono O λb D p=>.inr (hb b D p);have ng:∀u,t.undo=some u->f.gave=false:=λu hu=>by obtain⟨M,a,b⟩:=G.ng u hu;rw[p]at a;injection a with a;subst a;exact b
  have X:∀u,t.undo=some u->ab'=true:=λu hu=>by obtain⟨r',M,a1,F,a3,a4⟩:=G.mid hd (.inl (by rw[hu];simp));rw[p]at a3;injection a3 with a3;subst a3;exact O (T.no a4 (ng u hu))
  have gn:r.done=true->r.got≠none:=λz C=>by
   have E:=N.inv.ph
   have b0:¬r.done=false:=by rw[z];decide
   cases hu:t.undo with
   |some u=>
    rw[sM hd D p b0 hu]at E
    exact E.2.2 r D C
   |none=>
    cases hc:t.com with
    |some u=>
     obtain⟨r',M,a1,F,_⟩:=G.gv u hc
     rw[D]at a1;injection a1 with a1;subst a1
     rw[C]at F;cases F
    |none=>
     rw[OI hd D p b0 hu hc,C]at E
     have E:t.done=true:=E
     rw[hd]at E;cases E
  by_cases z:r.done=false
  .rw[ET hd D p z]at l|-;have Z:f.gave=false:=by have E:=N.inv.ph;have I:t.ph=.res r:=fQ hd D p z;rw[I]at E;exact(G.fre f p).gv (by rw[(E.2 f p).2.1];decide)
   obtain⟨U,L,V⟩:=TJ s {t with res:=some (rsA s r σ).1} (rsA s r σ).1 f rfl p hd (ab:=ab') (λhu=>by
    cases q:t.undo with
    |none=>have hu:JD t.undo=true:=hu;rw[q]at hu;cases hu
    |some u=>exact⟨Z,X u q⟩) (λ_ _=>Z)
   have H:=l (by unfold fC;rw[L,p]);exact⟨h1,h2,λx B=>by rw[U]at B;injection B with B;subst B;exact HV R s σ,λM i=>by rw[L]at i;injection i with i;subst i;exact mono _ H,V⟩
  have S:r.done=true:=by simpa using z
  have C:=gn S;by_cases y:f.done=false
  .rw[NT hd D p z y]at l|-
   have I:∃b,t.ph=.fre b f:=by
    have b1:t.undo=none/\t.com=none:=by
     constructor
     .cases hu:t.undo with
      |none=>rfl
      |some u=>obtain⟨r',M,_,_,a1,F⟩:=G.mid hd (.inl (by rw[hu];simp));rw[p]at a1;injection a1 with a1;subst a1;rw[y]at F;cases F
     .cases hu:t.com with
      |none=>rfl
      |some u=>obtain⟨r',M,_,_,a1,F⟩:=G.mid hd (.inr (by rw[hu];simp));rw[p]at a1;injection a1 with a1;subst a1;rw[y]at F;cases F
    cases hb:r.got with
    |none=>exact absurd hb C
    |some b=>exact⟨b,by rw[OI hd D p z b1.1 b1.2,hb]⟩
   obtain⟨b,I⟩:=I;have E:=N.inv.ph;rw[I]at E;have b2:=mV hr hg (G.fre f p) y (E.2.1.w y) T Y O
   obtain⟨U,L,V⟩:=TJ s {t with free:=some (feA s f σ).1} r (feA s f σ).1 D rfl hd (ab:=ab') (λhu=>by
    cases q:t.undo with
    |none=>have hu:JD t.undo=true:=hu;rw[q]at hu;cases hu
    |some u=>obtain⟨r',M,_,_,a1,F⟩:=G.mid hd (.inl (by rw[q];simp));rw[p]at a1;injection a1 with a1;subst a1;rw[y]at F;cases F) (λ_ e=>absurd e C)
   exact⟨h1,h2,λx B=>by rw[U]at B;injection B with B;subst B;exact R,λM i=>by rw[L]at i;injection i with i;subst i;exact b2,V⟩
  cases hu:t.undo with
  |some u=>rw[GT hd D p z y hu]at l|-;obtain⟨U,L,V⟩:=TJ s {t with undo:=some (unA u σ).1} r f D p hd (ab:=ab') (λ_=>⟨ng u hu,X u hu⟩) (λ_ e=>absurd e C);have H:=l (by unfold fC;rw[L,p]);exact⟨h1,h2,λx B=>by rw[U]at B;injection B with B;subst B;exact R,λM i=>by rw[L]at i;injection i with i;subst i;exact mono _ H,V⟩
  |none=>
   cases hc:t.com with
   |none=>
    exfalso
    rcases o6 S (by simpa using y) with e|e
    .exact e hu
    .exact e hc
   |some u=>
    rw[jY hd D p z y hu hc]at l|-
    obtain⟨U,L,V⟩:=TJ s {t with com:=some (cmA u σ).1} r f D p hd (ab:=ab') (λq=>by have q:JD t.undo=true:=q;rw[hu]at q;cases q) (λ_ e=>absurd e C)
    have H:=l (by unfold fC;rw[L,p])
    exact⟨h1,h2,λx B=>by rw[U]at B;injection B with B;subst B;exact R,λM i=>by rw[L]at i;injection i with i;subst i;exact mono _ H,V⟩
 |hei a=>refine⟨h.1,λe=>?_⟩;have hd:a.done=false:=hd;have e:(adA s a σ).1.done=true:=e;show (adA s a σ).1.err=0\/(adA s a σ).1.err=4\/(adA s a σ).1.err=5;exact z97 (s:=s) (σ:=σ) hd (G.1.cl hd).2.2.2.1 e
end

section

variable {s:Sh}{σ σ':Ab}{d d':Wd}{J:Jd}{n:Nat}

structure PtOk (σ:Ab) (d:Wd) (c:Int) (p:Pt):Prop where
 was:p.was=true↔σ.st c≠.unused
 lives:p.lives=true↔∃k,d.kl c=some k
 asks:p.asks=true↔∃k j,d.kl c=some k/\k.job=some j
 op:∀k j,d.kl c=some k->k.job=some j->(p.k=k.op.k/\p.a=k.op.a/\p.n=k.op.n)/\p.took=false/\p.gave=j.gave/\k.told=j.gave/\JF σ.has p.ab k.op j
def Jd.pt (J:Jd) (c:Int):Pt:=J.ps.getD c.toNat Pt.zero
structure JI (s:Sh) (σ:Ab) (d:Wd) (J:Jd):Prop where
 W:J.W=s.p*64
 why:J.why=0
 bl:PD J.W σ.has J.l
 pl:J.ps.length=s.c.toNat
 pt:∀c,0<=c->c<s.c->PtOk σ d c (J.pt c)
 ab:∀c,0<=c->c<s.c->(J.pt c).asks=true->WA (J.pt c).a J.l=false->(J.pt c).ab=true
theorem DD(l:List Bk)(p:Pt):(abP l p).was=p.was/\(abP l p).lives=p.lives/\(abP l p).asks=p.asks/\(abP l p).k=p.k/\(abP l p).a=p.a/\(abP l p).n=p.n/\(abP l p).took=p.took/\(abP l p).gave=p.gave/\(abP l p).at'=p.at'/\(p.ab=true->(abP l p).ab=true)/\(p.asks=true->WA p.a l=false->(abP l p).ab=true):=by
 unfold abP;split
 .exact⟨rfl,rfl,rfl,rfl,rfl,rfl,rfl,rfl,rfl,λ_=>rfl,λ_ _=>rfl⟩
 rename_i h;exact⟨rfl,rfl,rfl,rfl,rfl,rfl,rfl,rfl,rfl,id,λh1 h2=>absurd ⟨h2,h1⟩ h⟩
structure wI (J J':Jd) (c:Int) (l':List Bk) (v:Pt):Prop where
 W:J'.W=J.W
 why:J'.why=0
 l:J'.l=l'
 pl:J'.ps.length=J.ps.length
 mine:J'.pt c=abP l' v
 other:∀x,0<=x->x.toNat<J.ps.length->x≠c->J'.pt x=abP l' (J.pt x)
theorem pU{l:List Pt}{i j:Nat}{v z:Pt}(f:Pt->Pt)(hi:i<l.length)(b:j<l.length):((l.set i v).map f).getD j z=f (if i=j then v else l.getD j z):=by
 rw[List.getD_eq_getElem?_getD,List.getElem?_map,List.getElem?_set];by_cases e:i=j
 .subst e;simp[hi]
 simp[e,b]
theorem BF{e:Ev}{l':List Bk}{v:Pt}(f:J.why=0)(hc:0<=e.c/\e.c.toNat<J.ps.length)(h:whyJ J.W J.l J.ps e=⟨0,l',J.ps.set e.c.toNat v⟩):wI J (DA J e) e.c l' v:=by
 have hb:NH J e=true:=(dJ J e).2 ⟨f,by rw[h]⟩;have b:=FL hb;rw[h]at b;rw[b];refine⟨rfl,f,rfl,by simp,?_,λx h0 h1 h2=>?_⟩
 .show ((J.ps.set e.c.toNat v).map (abP l')).getD e.c.toNat Pt.zero=_;rw[pU _ hc.2 hc.2,if_pos rfl]
 show ((J.ps.set e.c.toNat v).map (abP l')).getD x.toNat Pt.zero=_;rw[pU _ hc.2 h1,if_neg (by omega)];rfl
theorem PtOk.heard{p:Pt}{x:Int}{l':List Bk}(h:PtOk σ d x p)(y:σ'.st x=.unused↔σ.st x=.unused)(i:d'.kl x=d.kl x)(f:(∀b,σ'.has b->σ.has b)\/(∀b,σ.has b->σ'.has b))(h1:mL σ.has){W:Int}(t:PD W σ'.has l'):PtOk σ' d' x (abP l' p):=by
 obtain⟨a1,E,F,G,H,I,L,M,V,o,q⟩:=DD l' p;refine⟨by rw[a1,h.was];exact not_congr y.symm,by rw[E,i];exact h.lives,by rw[F,i];exact h.asks,λk j r C=>?_⟩;rw[i]at r;obtain⟨⟨N,B,O⟩,R,S,T,U⟩:=h.op k j r C;refine⟨⟨G.trans N,H.trans B,I.trans O⟩,L.trans R,M.trans S,T,U.mono o λb hb D=>?_⟩;rcases f with f|f
 .by_cases l:σ'.has b
  .exact .inr l
  refine .inl (q (h.asks.2 ⟨k,j,r,C⟩) ?_);cases hf:WA p.a l' with
  |false=>rfl;|true=>obtain⟨z,f1,f2⟩:=(t.found _).1 hf;have:z=b:=h1 z b (f _ f1) D (by rw[f2,B,hb]);subst this;exact absurd f1 l
 exact .inr (f b D)
theorem iJ(h:WI s σ d):mL σ.has:=λ_ _ h1 h2 h3=>cZ h.gi h1 h2 h3
structure JX (s:Sh) (σ:Ab) (d:Wd) (J:Jd) (c:Int):Prop where
 W:J.W=s.p*64
 why:J.why=0
 bl:PD J.W σ.has J.l
 pl:J.ps.length=s.c.toNat
 pt:∀x,x≠c->0<=x->x<s.c->PtOk σ d x (J.pt x)
 ab:∀x,0<=x->x<s.c->(J.pt x).asks=true->WA (J.pt x).a J.l=false->(J.pt x).ab=true
theorem JI.jx(h:JI s σ d J)(c:Int):JX s σ d J c:=⟨h.W,h.why,h.bl,h.pl,λx _=>h.pt x,h.ab⟩
theorem JX.ji{c:Int}(h:JX s σ d J c)(hc:PtOk σ d c (J.pt c)):JI s σ d J:=⟨h.W,h.why,h.bl,h.pl,λx h0 h1=>by
 by_cases e:x=c
 .subst e;exact hc
 .exact h.pt x e h0 h1,h.ab⟩
theorem uH{c:Int}{l':List Bk}{v:Pt}{J':Jd}(h:JX s σ d J c)(f:wI J J' c l' v)(j:PD J.W σ'.has l')(t:∀x,x≠c->(σ'.st x=.unused↔σ.st x=.unused))(r:∀x,x≠c->d'.kl x=d.kl x)(o:(∀b,σ'.has b->σ.has b)\/(∀b,σ.has b->σ'.has b)) (h1:mL σ.has):JX s σ' d' J' c:=by
 have i:∀x,0<=x->x<s.c->x.toNat<J.ps.length:=λx h0 h1=>by rw[h.pl];omega
 refine⟨f.W.trans h.W,f.why,by rw[f.W,f.l];exact j,f.pl.trans h.pl,λx e h0 h2=>?_,λx h0 h2=>?_⟩
 .rw[f.other x h0 (i x h0 h2) e];exact(h.pt x e h0 h2).heard (t x e) (r x e) o h1 j
 have ab:∀p,(abP l' p).asks=true->WA (abP l' p).a l'=false->(abP l' p).ab=true:=λp C D=>by obtain⟨a1,E,z,F,B,G,H,I,L,y,q⟩:=DD l' p;exact q (z▸C) (B▸D)
 rw[f.l];by_cases e:x=c
 .subst e;rw[f.mine];exact ab _
 rw[f.other x h0 (i x h0 h2) e];exact ab _
theorem VM{c:Int}(h:JX s σ d J c)(hc:Calm σ σ')(l:∀x,x≠c->(σ'.st x=.unused↔σ.st x=.unused))(f:∀x,x≠c->d'.kl x=d.kl x):JX s σ' d' J c:=by
 refine⟨h.W,h.why,h.bl.congr hc,h.pl,λx e h0 h2=>?_,h.ab⟩;have i:=h.pt x e h0 h2;refine⟨by rw[i.was];exact not_congr (l x e).symm,by rw[f x e];exact i.lives,by rw[f x e];exact i.asks,λk j o z=>?_⟩;rw[f x e]at o;obtain⟨p,q,r,t,y⟩:=i.op k j o z;exact⟨p,q,r,t,y.mono id λb _ hb=>.inr ((hc b).2 hb)⟩
theorem IF{z:Int}(h:JX s σ d J z){c:Int}(hc:0<=c/\c<s.c):0<=c/\c.toNat<J.ps.length:=⟨hc.1,by rw[h.pl];omega⟩
theorem zQ{z:Int}(h:JX s σ d J z){e:Ev}(hc:0<=e.c/\e.c<s.c)(b:0<=e.k/\e.k<3)(h0:dF (J.pt e.c) e=0):whyJ J.W J.l J.ps e=⟨0,J.l,J.ps.set e.c.toNat (jG (J.pt e.c) e)⟩:=by
 have f:=IF h hc;have h0:dF (J.ps.getD e.c.toNat Pt.zero) e=0:=h0;unfold whyJ;rw[if_neg (by omega),if_pos (by omega),h0];rfl
theorem z5v{z:Int}(h:JX s σ d J z){e:Ev}(hc:0<=e.c/\e.c<s.c)(i:e.k=4)(j:(J.pt e.c).lives=true/\(J.pt e.c).asks=true)(h0:UF J.l (J.pt e.c) e=0):whyJ J.W J.l J.ps e=⟨0,nB J.l e.at',J.ps.set e.c.toNat {J.pt e.c with gave:=true}⟩:=by
 have o:=IF h hc;obtain⟨b,f⟩:=j;unfold Jd.pt at b f h0;unfold whyJ;rw[if_neg (by omega),if_neg (by omega),b,f,if_neg (by simp),if_neg (by omega),if_pos i,h0];rfl
theorem z5f{z:Int}(h:JX s σ d J z){e:Ev}(hc:0<=e.c/\e.c<s.c)(i:e.k=3)(j:(J.pt e.c).lives=true/\(J.pt e.c).asks=true)(h0:TF J.W J.l (J.pt e.c) e=0):whyJ J.W J.l J.ps e=⟨0,putB J.l e.at' e.n,J.ps.set e.c.toNat {J.pt e.c with took:=true,at':=e.at'}⟩:=by
 have o:=IF h hc;obtain⟨b,f⟩:=j;unfold Jd.pt at b f h0;unfold whyJ;rw[if_neg (by omega),if_neg (by omega),b,f,if_neg (by simp),if_pos i,h0];rfl
theorem zP{z:Int}(h:JX s σ d J z){e:Ev}(hc:0<=e.c/\e.c<s.c)(j:e.k=5)(i:(J.pt e.c).lives=true/\(J.pt e.c).asks=true)(h0:JC (J.pt e.c) e=true):whyJ J.W J.l J.ps e=⟨0,J.l,J.ps.set e.c.toNat {J.pt e.c with asks:=false}⟩:=by
 have o:=IF h hc;obtain⟨b,f⟩:=i;unfold Jd.pt at b f h0;unfold whyJ;rw[if_neg (by omega),if_neg (by omega),b,f,if_neg (by simp),if_neg (by omega),if_neg (by omega),h0];rfl
theorem YP{c:Int}{p:Pt}{k:Kl}(r:p.was=true↔σ'.st c≠.unused)(q:p.lives=true)(o:p.asks=false)(i:d'.kl c=some k)(l:k.job=none):PtOk σ' d' c p:=by
 refine⟨r,by rw[q];exact⟨λ_=>⟨k,i⟩,λ_=>rfl⟩,⟨λe=>absurd (o.symm.trans e) (by decide),λ⟨t,j,b,f⟩=>?_⟩,λt j b f=>?_⟩
 .rw[i]at b;injection b with b;subst b;rw[l]at f;cases f
 rw[i]at b;injection b with b;subst b;rw[l]at f;cases f
theorem RP{c:Int}{j:Jb}{b:Blk}(E:mayB s.p s.c s.m=true)(hc:0<=c/\c<s.c)(o:jbIs s c j)(h:j.took=some b):j.done=true/\j.err=0/\(j.gave=true\/∃r x,j=.mal r x):=by
 cases j with
 |mal r x=>
  have l:(if RC x=true then r.got else none)=some b:=h;split at l
  .rename_i i;rcases x with _|y
   .cases i
   have q:=o.2 y rfl;refine⟨?_,?_,.inr ⟨r,_,rfl⟩⟩
   .show (r.done&&(!r.got.isSome||y.done))=true;rw[q.2.1,q.2.2.1];simp
   show (if r.got.isSome=true then(0:Int) else 3)=0;rw[if_pos (by rw[l];rfl)]
  cases l
 |fre f=>cases h;|aga r=>
  have h:(if r.done=true/\r.err=0 then(match r.res with|some x=>x.got|none=>none) else none)=some b:=h;split at h
  .rename_i i;obtain⟨F,B,f,C,D,t,z⟩:=o.fin i.1 i.2;refine⟨i.1,i.2,.inl ?_⟩;show (match r.free with|some f=>f.gave|none=>false)=true;rw[t];exact z
  cases h
 |hei a=>cases h
theorem nJ{p:Pt}{e:Ev}(h:e.er=0):JC p e=FE p e.at':=if_pos h
theorem RO{p:Pt}{e:Ev}(h:e.er≠0)(h1:p.took=false)(h2:p.gave=false)(h3:e.at'=0):JC p e=(if e.er=1 then GF p else if e.er=3 then p.k==1||p.k==3 else if e.er=4\/e.er=5 then p.k==4 else false):=by
 unfold JC;rw[if_neg h,if_neg (by rw[h1,h2,h3];simp)]
theorem UQ{p:Pt}{e:Ev}(h:e.er=1)(h1:p.took=false)(h2:p.gave=false)(h3:e.at'=0):JC p e=GF p:=by
 rw[RO (by omega) h1 h2 h3,if_pos h]
theorem MQ{p:Pt}{e:Ev}(h:e.er=3)(h1:p.took=false)(h2:p.gave=false)(h3:e.at'=0):JC p e=(p.k==1||p.k==3):=by
 rw[RO (by omega) h1 h2 h3,if_neg (by omega),if_pos h]
theorem nU{p:Pt}{e:Ev}(h:e.er=4\/e.er=5)(h1:p.took=false)(h2:p.gave=false)(h3:e.at'=0):JC p e=(p.k==4):=by
 rw[RO (by omega) h1 h2 h3,if_neg (by omega),if_neg (by omega),if_pos h]
theorem DW{c:Int}{j:Jb}{o:Op3}{p:Pt}{H:Bl->Prop}(M:mayB s.p s.c s.m=true)(hc:0<=c/\c<s.c)(F:jbIs s c j)(hd:j.done=true)(q:JF H p.ab o j)(z:p.k=o.k/\p.a=o.a/\p.n=o.n)(B:p.gave=j.gave)(N:(j.took=none/\p.took=false)\/∃b,j.took=some b/\p.took=true/\p.at'=b.at'):JC p (RA c o (DB j.took) j.err)=true:=by
 rcases N with⟨t1,t⟩|⟨b,t1,t,t3⟩
 .rw[t1];cases j with
  |mal r x=>
   have l:(Jb.mal r x).err=3:=by
    show (if r.got.isSome=true then(0:Int) else 3)=3
    cases hgot:r.got with
    |none=>rfl
    |some b=>
     exfalso
     have hd:(r.done&&(!r.got.isSome||RC x))=true:=hd
     rw[hgot]at hd
     have O:RC x=true:=by simpa using(Bool.and_eq_true _ _▸hd).2
     have t1:(if RC x=true then r.got else none)=none:=t1
     rw[if_pos O,hgot]at t1;cases t1
   rw[MQ (e:=RA c o (DB none) (Jb.mal r x).err) l t B rfl,z.1,q.1];rfl
  |fre f=>
   rcases Bool.eq_false_or_eq_true f.gave with e|e
   .have l:(Jb.fre f).err=0:=if_pos e;have i:p.gave=true:=B.trans e;rw[nJ (e:=RA c o (DB none) (Jb.fre f).err) l];unfold FE;rw[z.1,q.1,if_neg (by decide),if_pos rfl,i];rfl
   have l:(Jb.fre f).err=1:=if_neg (by rw[e];decide);have i:p.gave=false:=B.trans e;rw[UQ (e:=RA c o (DB none) (Jb.fre f).err) l t i rfl];unfold GF;rw[z.1,q.1,if_neg (by decide),if_pos rfl];exact q.2.no hd e
  |aga r=>
   obtain⟨f1,f2,S,T,L⟩:=q;rcases L hd with e|⟨D,E⟩|⟨D,E,I⟩
   .exfalso;obtain⟨U,R,f,a1,G,_⟩:=F.fin hd e;have t1:(if r.done=true/\r.err=0 then(match r.res with|some x=>x.got|none=>none) else none)=none:=t1;rw[if_pos ⟨hd,e⟩,a1]at t1;dsimp only at t1;rw[G]at t1;cases t1
   .have l:(Jb.aga r).err=3:=D;have i:p.gave=false:=B.trans E;rw[MQ (e:=RA c o (DB none) (Jb.aga r).err) l t i rfl,z.1,f1];rfl
   have l:(Jb.aga r).err=1:=D;have i:p.gave=false:=B.trans E;rw[UQ (e:=RA c o (DB none) (Jb.aga r).err) l t i rfl];unfold GF;rw[z.1,f1,if_neg (by decide),if_neg (by decide),if_pos rfl,I];rfl
  |hei a=>
   have i:p.gave=false:=B;have y:p.k=4:=z.1.trans q.1;rcases q.2 hd with e|e|e
   .have l:(Jb.hei a).err=0:=e;rw[nJ (e:=RA c o (DB none) (Jb.hei a).err) l];unfold FE;rw[y,if_neg (by decide),if_neg (by decide)];rfl
   .have l:(Jb.hei a).err=4:=e;rw[nU (e:=RA c o (DB none) (Jb.hei a).err) (.inl l) t i rfl,y];rfl
   have l:(Jb.hei a).err=5:=e;rw[nU (e:=RA c o (DB none) (Jb.hei a).err) (.inr l) t i rfl,y];rfl
 obtain⟨_,h2,h3⟩:=RP M hc F t1;have C:=(FV q t1).2.2;rw[nJ (e:=RA c o (DB j.took) j.err) h2];show FE p (DB j.took)=true;rw[t1];unfold FE;rw[if_pos (by rw[z.1];exact C),t,t3];simp[DB]
theorem ZY(h:JI s σ d J)(hw:WI s σ d)(hd:wdOk s d n){c:Int}{k:Kl}{j:Jb}(hk:d.kl c=some k)(hj:k.job=some j):WI s (j.EB s c σ).2 (d.step s c k).1/\JI s (j.EB s c σ).2 (d.step s c k).1 (runJ J (k.step s d.m).2.2.1):=by
 obtain⟨w1,chg,b6⟩:=fJ hw hd hk hj;refine⟨w1,?_⟩;obtain⟨ho,ba,q⟩:=hd.kl c k hk;obtain⟨cd,bf⟩:=hw.li c k hk;obtain⟨bc,bp,cc,cb⟩:=ho.jb j hj;rw[ba]at bc;have bz:JbAt s c σ j:=by unfold KlAt at bf;rw[hj]at bf;exact bf
 have F:=xK (m:=d.m) bc q bp hw.rep.fi hd.fit;have bq:k.step s d.m=(k.after (j.step s c d.m).1,(j.step s c d.m).2,k.tells (j.step s c d.m).1,0):=by unfold Kl.step;rw[hj,ba]
 have hP:=h.pt c q.1 q.2;obtain⟨q1,q2,q3,q4,q5⟩:=hP.op k j hk hj;have i:(J.pt c).lives=true:=hP.lives.2 ⟨k,hk⟩;have y:(J.pt c).asks=true:=hP.asks.2 ⟨k,j,hk,hj⟩;have Z:=iJ hw;have hX:=h.jx c
 have bx:(∀b,σ.has b->b.at'≠k.op.a)->(J.pt c).ab=true:=λhb=>by
  refine h.ab c q.1 q.2 y ?_
  cases hf:WA (J.pt c).a J.l with
  |false=>rfl
  |true=>
   obtain⟨b,b1,b2⟩:=(h.bl.found _).1 hf
   exact absurd (b2.trans q1.2.1) (hb b b1)
 have I:=λ(ab':Bool) c5 bg=>zzb (ab':=ab') hw.rep hw.gi bc q bp bz q5 bx c5 bg;have b0:∀x,x≠c->(d.step s c k).1.kl x=d.kl x:=λx hx=>by unfold Wd.step;rw[d.IB (Wd.rC hk).1 (Wd.rC hk).2,if_neg hx]
 have L:(d.step s c k).1.kl c=some (k.after (j.step s c d.m).1):=by unfold Wd.step;rw[d.IB (Wd.rC hk).1 (Wd.rC hk).2,if_pos rfl,bq]
 have b4:∀x,x≠c->((j.EB s c σ).2.st x=.unused↔σ.st x=.unused):=λx _=>chg.st x;have b8:∀p:Pt,p.was=(J.pt c).was->(p.was=true↔(j.EB s c σ).2.st c≠.unused):=λp e=>by rw[e,hP.was];exact not_congr (chg.st c).symm
 have c4:=b6;generalize (d.step s c k).1=d' at*;rw[bq];dsimp only;rw[b6]at chg L F|-;generalize c9:(j.EB s c σ).2=σ' at*;generalize ca:(j.EB s c σ).1=j' at*;have S:jbIs s c j':=F.2.1;have cf:(k.after j').op=k.op:=rfl;have bh:(k.after j').told=(k.told||j'.gave):=rfl;have b7:(k.after j').job=if j'.done=true then none else some j':=rfl;have T:∀(p:Pt),j'.done=false->p.was=(J.pt c).was->p.lives=true->p.asks=true->p.k=(J.pt c).k->p.a=(J.pt c).a->p.n=(J.pt c).n->p.took=false->p.gave=j'.gave->JF σ'.has p.ab k.op j'->PtOk σ' d' c p:=λp e0 e1 e2 e3 e4 e5 e6 e7 e8 e9=>by
  have bn:(k.after j').job=some j':=by rw[b7,if_neg (by rw[e0];decide)]
  refine⟨b8 p e1,⟨λ_=>⟨_,L⟩,λ_=>e2⟩,⟨λ_=>⟨_,_,L,bn⟩,λ_=>e3⟩,λk2 j2 f1 f2=>?_⟩;rw[L]at f1;injection f1 with f1;subst f1;rw[bn]at f2;injection f2 with f2;subst f2;refine⟨⟨e4.trans q1.1,e5.trans q1.2.1,e6.trans q1.2.2⟩,e7,e8,?_,e9⟩;rw[bh,q4];rcases Bool.eq_false_or_eq_true j.gave with e|e
  .rw[e,F.2.2.2 e];rfl
  rw[e];rfl
 have rests:∀(p:Pt),j'.done=true->p.was=(J.pt c).was->p.lives=true->p.asks=false->PtOk σ' d' c p:=λp e0 e1 e2 e3=>YP (b8 p e1) e2 e3 L (by rw[b7,if_pos e0])
 unfold Kl.tells;rw[q4,ba];by_cases E:j'.gave=true/\j.gave=false
 .obtain⟨⟨f,f1,f2,f3,f4⟩,bs⟩:=chg.gave E.2 E.1;rw[if_pos E,if_neg (by rw[bs];decide)]
  have bk:(feBl f).at'=k.op.a/\mayG (J.pt c)=true:=by
   cases j with
   |fre f'=>
    injection f1 with f1;subst f1
    exact⟨q5.2.bl f4 (by omega),by unfold mayG;rw[q1.1,q5.1];rfl⟩
   |aga r=>exact⟨(q5.2.2.2.1 f f1).bl f4 (by omega),by unfold mayG;rw[q1.1,q5.1];rfl⟩
   |mal r x=>cases f1
   |hei a=>cases f1
  have N:=h.bl.minus Z f2.1 f2.2;rw[bk.1]at N
  have c8:=z5v (z:=c) hX (e:=VE c k.op.a) q rfl ⟨i,y⟩ (by
   unfold UF
   show (if mayG (J.pt c)=false\/(J.pt c).gave=true\/k.op.a≠(J.pt c).a then 5 else if WA k.op.a J.l=true then 0 else 3)=0
   rw[if_neg (by rw[bk.2,q3,E.2,q1.2.1];simp),if_pos N.1])
  have hH:=BF (e:=VE c k.op.a) h.why (IF (z:=c) hX q) c8;have t:=uH (σ':=σ') (d':=d') hX hH N.2 b4 b0 (.inl λb hb=>((f2.2 b).1 hb).1) Z;show JI s σ' d' (DA J (VE c k.op.a));refine t.ji ?_;have o:(DA J (VE c k.op.a)).pt c=abP (nB J.l k.op.a) {J.pt c with gave:=true}:=hH.mine;rw[o];obtain⟨a1,a2,a3,a4,a5,a6,a7,a8,a9,b9,bu⟩:=DD (nB J.l k.op.a) {J.pt c with gave:=true};exact T _ bs a1 (a2.trans i) (a3.trans y) a4 a5 a6 (a7.trans q2) (a8.trans E.1.symm) (I _ b9 λe=>by rw[E.1,E.2]at e;cases e)
 rw[if_neg E,List.nil_append];have X:j'.gave=j.gave:=by
  rcases Bool.eq_false_or_eq_true j.gave with e|e
  .rw[e,F.2.2.2 e]
  rw[e];cases e2:j'.gave with
  |false=>rfl
  |true=>exact absurd ⟨e2,e⟩ E
 have bj:j.gave=true\/j'.gave=false:=by
  rw[X];cases j.gave
  .exact .inr rfl
  exact .inl rfl
 rcases Bool.eq_false_or_eq_true j'.done with B|B
 .rw[if_pos B];cases D:j'.took with
  |some b=>
   obtain⟨_,t2,t3⟩:=RP hw.rep.may q S D;have R:=chg.took b D;obtain⟨bv,bw⟩:=UO b;have b5:σ'.has (rD b):=(R.2 _).2 (.inr rfl);have bm:=CK w1.gi b5;rw[<-h.W]at bm;have N:=h.bl.plus R.2 bm λx hx=>UW w1.gi ((R.2 x).2 (.inl hx)) b5 λe=>R.1 (e▸hx);rw[bv,bw]at N;have bb:=I (J.pt c).ab id λ_ b' _ M=>(R.2 b').2 (.inl M);obtain⟨g1,g2,g3⟩:=FV bb D;have c6:mayT (J.pt c)=true:=by
    unfold mayT;rw[q1.1];rcases g3 with e|e
    .rw[e];rfl
    rcases t3 with e2|⟨r,x,e2⟩
    .rw[e,q3,<- X,e2];rfl
    rw[e2]at bb;rw[bb.1]at e;cases e
   have c7:=z5f (z:=c) hX (e:=GE c b.at' b.len) q rfl ⟨i,y⟩ (by
    unfold TF
    show (if mayT (J.pt c)=false\/(J.pt c).took=true\/lenB (J.pt c).n=false\/lenV (J.pt c).n≠b.len then 5 else if OB J.W J.l b.at' b.len=true then 0 else 2)=0
    rw[if_neg (by rw[c6,q2,q1.2.2,g1,g2];simp),if_pos N.1])
   have hH:=BF (e:=GE c b.at' b.len) h.why (IF (z:=c) hX q) c7;have t:=uH (σ':=σ') (d':=d') hX hH N.2 b4 b0 (.inr λb hb=>(R.2 b).2 (.inl hb)) Z;have o:(DA J (GE c b.at' b.len)).pt c=abP (putB J.l b.at' b.len) {J.pt c with took:=true,at':=b.at'}:=hH.mine;obtain⟨a1,a2,a3,a4,a5,a6,a7,a8,a9,b9,bu⟩:=DD (putB J.l b.at' b.len) {J.pt c with took:=true,at':=b.at'};show JI s σ' d' (DA (DA J (GE c b.at' b.len)) (RA c k.op (DB (some b)) j'.err));generalize DA J (GE c b.at' b.len)=J1 at*;have G:=DW (p:=J1.pt c) hw.rep.may q S B (H:=σ'.has) (by rw[o];exact I _ b9 λ_ b' _ M=>(R.2 b').2 (.inl M)) (by rw[o];exact⟨a4.trans q1.1,a5.trans q1.2.1,a6.trans q1.2.2⟩) (by rw[o];exact a8.trans (q3.trans X.symm)) (.inr ⟨b,D,by rw[o];exact a7,by rw[o];exact a9⟩);rw[D]at G;have bi:=zP (z:=c) t (e:=RA c k.op (DB (some b)) j'.err) q rfl (by show (J1.pt c).lives=true/\(J1.pt c).asks=true;rw[o];exact⟨a2.trans i,a3.trans y⟩) G;have U:=BF (e:=RA c k.op (DB (some b)) j'.err) t.why (IF (z:=c) t q) bi;have O:=iJ w1;have V:=uH (σ':=σ') (d':=d') t U t.bl (λ_ _=>.rfl) (λ_ _=>rfl) (.inl λ_ h=>h) O;refine V.ji ?_;have Y:=U.mine;have Y:(DA J1 (RA c k.op (DB (some b)) j'.err)).pt c=abP J1.l {J1.pt c with asks:=false}:=Y;rw[Y];obtain⟨b1,b2,b3,_⟩:=DD J1.l {J1.pt c with asks:=false};refine rests _ B (b1.trans ?_) (b2.trans ?_) b3
   .show (J1.pt c).was=_;rw[o];exact a1
   show (J1.pt c).lives=_;rw[o];exact a2.trans i
  |none=>have C:=chg.calm bj D;have t:=VM (σ':=σ') (d':=d') hX C b4 b0;have G:=DW (p:=J.pt c) hw.rep.may q S B (H:=σ'.has) (I _ id λ_ b' _ M=>(C b').2 M) q1 (q3.trans X.symm) (.inl ⟨D,q2⟩);rw[D]at G;have bi:=zP (z:=c) t (e:=RA c k.op (DB none) j'.err) q rfl ⟨i,y⟩ G;have U:=BF (e:=RA c k.op (DB none) j'.err) t.why (IF (z:=c) t q) bi;have O:=iJ w1;have V:=uH (σ':=σ') (d':=d') t U t.bl (λ_ _=>.rfl) (λ_ _=>rfl) (.inl λ_ h=>h) O;show JI s σ' d' (DA J (RA c k.op (DB none) j'.err));refine V.ji ?_;have Y:(DA J (RA c k.op (DB none) j'.err)).pt c=abP J.l {J.pt c with asks:=false}:=U.mine;rw[Y];obtain⟨b1,b2,b3,_⟩:=DD J.l {J.pt c with asks:=false};exact rests _ B b1 (b2.trans i) b3
 rw[if_neg (by rw[B];decide)]
 have D:j'.took=none:=by
  cases e:j'.took with
  |none=>rfl
  |some b=>have:=(RP hw.rep.may q S e).1;rw[B]at this;cases this
 have C:=chg.calm bj D;have t:=VM (σ':=σ') (d':=d') hX C b4 b0;exact t.ji (T _ B rfl i y rfl rfl rfl q2 (q3.trans X.symm) (I _ id λ_ b' _ M=>(C b').2 M))
end

section

variable {s:Sh}{σ:Ab}{d:Wd}{J:Jd}{n:Nat}{c:Int}

theorem z4g(hs:mayB s.p s.c s.m=true)(hc:0<=c/\c<s.c)(f:Int){o:Op3}(B:1<=o.k/\o.k<=4)(q:yC s c o.k o.a o.n=false)(H:Bl->Prop)(ab:Bool):JF H ab o (ZB s c f o.k o.a o.n):=by
 have hb:=JA.1 hs;unfold yC at q;rw[Bool.or_eq_false_iff]at q;obtain⟨h2,h3⟩:=q;have h1:uA s.p s.c s.m c=c:=UH hs hc;obtain⟨ok,oa,on⟩:=o;dsimp only at*;have:ok=1\/ok=2\/ok=3\/ok=4:=by omega
 rcases this with rfl|rfl|rfl|rfl
 .have b:lenB on=true:=by simpa[ZC] using h2
  exact⟨rfl,b,cW b s c f⟩
 .have b:spB s oa=true:=by simpa[ZC] using h2
  exact⟨rfl,WW hs hc b H ab⟩
 .have b:lenB on=true/\spB s oa=true:=by simpa[ZC] using h2
  have l:=WW (c:=c) hs hc b.2 H ab;show JF H ab ⟨3,oa,on⟩ (.aga (pD s c oa on f));unfold pD;rw[if_pos ⟨b.2,b.1,by omega⟩];obtain⟨r,t,y⟩:=TJ s ⟨c,some (mB s c on f),some (uB s c oa),none,none,0,false⟩ (mB s c on f) (uB s c oa) rfl rfl rfl (ab:=ab) (λe=>by cases e) (λ_ _=>rfl);exact⟨rfl,b.1,λx j=>by rw[r]at j;injection j with j;subst j;exact cW b.1 s c f,λz i=>by rw[t]at i;injection i with i;subst i;exact l,y⟩
 refine⟨rfl,λe=>?_⟩;have e:(qD s c oa).done=true:=e;have b:0<=uA s.p s.c s.m oa/\oa≠c:=by have:=h2;simp only[ZC,beq_self_eq_true,Bool.true_and,Bool.or_eq_false_iff,decide_eq_false_iff_not,beq_eq_false_iff_ne]at this;exact⟨by omega,this.1.1.2⟩
 unfold qD at e;dsimp only at e;rw[if_neg (by rintro(h|h|h);omega;omega;exact b.2 h.symm)]at e;cases e
theorem zu6{o:Op3}(b:1<=o.k/\o.k<=4)(h:ZC s c o.k o.a o.n=true):(o.k=4)\/((o.k=1\/o.k=3)/\lenB o.n=false)\/((o.k=2\/o.k=3)/\spB s o.a=false):=by
 simp only[ZC,Bool.or_eq_true,Bool.and_eq_true,beq_iff_eq,decide_eq_true_eq,Bool.not_eq_true']at h;rcases h with(h|h)|h
 .exact .inl h.1
 .exact .inr (.inl h)
 exact .inr (.inr h)
theorem yep(h:JI s σ d J)(X:WI s σ d)(hd:wdOk s d n)(x:Ch){k:Kl}(E:d.kl x.client=some k):JI s σ (d.ask s x k).1 (runJ J (k.invoke s x.op).2.1):=by
 obtain⟨ho,b6,q⟩:=hd.kl _ k E;have bb:=LH X hd x E;have Z:=h.jx x.client;have N:=h.pt x.client q.1 q.2;have G:(J.pt x.client).lives=true:=N.lives.2 ⟨k,E⟩;have I:=iJ X;have hm:=X.rep.may;have U:∀y,y≠x.client->(d.ask s x k).1.kl y=d.kl y:=λy hy=>by unfold Wd.ask;rw[d.IB (Wd.rC E).1 (Wd.rC E).2,if_neg hy]
 have i:(d.ask s x k).1.kl x.client=some (k.invoke s x.op).1:=by unfold Wd.ask;rw[d.IB (Wd.rC E).1 (Wd.rC E).2,if_pos rfl]
 generalize (d.ask s x k).1=d' at*;have same:(k.invoke s x.op).1=k->JI s σ d' J:=λe=>by refine(VM (σ':=σ) (d':=d') Z (Calm.refl _) (λ_ _=>.rfl) U).ji ?_;rw[e]at i;have r:d'.kl x.client=d.kl x.client:=i.trans E.symm;exact⟨N.was,by rw[r];exact N.lives,by rw[r];exact N.asks,λk j a b=>N.op k j (r▸a) b⟩
 unfold Kl.invoke at same i|-;by_cases hr:k.rests=false
 .rw[if_pos hr]at same|-;exact same rfl
 rw[if_neg hr]at same i|-;by_cases hb:x.op.k<1\/4<x.op.k
 .rw[if_pos hb]at same|-;exact same rfl
 rw[if_neg hb]at i|-;have hj:k.job=none:=by
  cases hj:k.job
  .rfl
  simp[Kl.rests,hj]at hr
 have M:(J.pt x.client).asks=false:=by
  cases e:(J.pt x.client).asks with
  |false=>rfl
  |true=>
   obtain⟨k2,j,F,r⟩:=N.asks.1 e
   rw[E]at F;injection F with F;subst F
   rw[hj]at r;cases r
 rw[b6]at i|-;have D:(NA x.client x.op).k=2:=rfl;have T:dF (J.pt x.client) (NA x.client x.op)=0:=by unfold dF;rw[if_neg (by rw[D];decide),if_neg (by rw[D];decide)];show (if (J.pt x.client).lives=false\/(J.pt x.client).asks=true\/x.op.k<1\/4<x.op.k then(1:Int) else 0)=0;rw[if_neg (by rw[G,M];simp;omega)]
 have b5:jG (J.pt x.client) (NA x.client x.op)=⟨true,true,true,x.op.k,x.op.a,x.op.n,false,false,0,false⟩:=by unfold jG;rw[if_neg (by rw[T];decide),if_neg (by rw[D];decide),if_neg (by rw[D];decide)];rfl
 have Y:=zQ (z:=x.client) Z (e:=NA x.client x.op) q (by rw[D];decide) T;rw[show (NA x.client x.op).c=x.client from rfl,b5]at Y;have hH:=BF (e:=NA x.client x.op) h.why (IF (z:=x.client) Z q) Y;have C:=uH (σ':=σ) (d':=d') Z hH h.bl (λ_ _=>.rfl) U (.inl λ_ h=>h) I;have o:(DA J (NA x.client x.op)).pt x.client=abP J.l ⟨true,true,true,x.op.k,x.op.a,x.op.n,false,false,0,false⟩:=hH.mine;obtain⟨a1,a2,a3,a4,a5,a6,a7,a8,a9,b9,b0⟩:=DD J.l ⟨true,true,true,x.op.k,x.op.a,x.op.n,false,false,0,false⟩;have L:σ.st x.client≠.unused:=by rw[(X.li _ k E).1];simp
 by_cases p:yC s x.client x.op.k x.op.a x.op.n=true
 .rw[if_pos p]at i|-;show JI s σ d' (DA (DA J (NA x.client x.op)) (RA x.client x.op 0 (MC s x.client x.op.k x.op.a x.op.n)));have S:JC ((DA J (NA x.client x.op)).pt x.client) (RA x.client x.op 0 (MC s x.client x.op.k x.op.a x.op.n))=true:=by
   rw[o];unfold JC RA MC;dsimp only;by_cases t:ZC s x.client x.op.k x.op.a x.op.n=true
   .rw[if_pos t,if_neg (by decide),if_neg (by rw[a7,a8];simp),if_pos rfl];unfold GF;rw[a4,a6];dsimp only;rcases zu6 (by omega) t with e|⟨e,r⟩|⟨e,r⟩
    .rw[e];rfl
    .rcases e with e|e
     .rw[e,if_pos rfl,r];rfl
     rw[e,if_neg (by decide),if_neg (by decide),if_pos rfl,r];simp
    have b4:(abP J.l ⟨true,true,true,x.op.k,x.op.a,x.op.n,false,false,0,false⟩).ab=true:=by
     refine b0 rfl ?_
     show WA x.op.a J.l=false
     cases hf:WA x.op.a J.l with
     |false=>rfl
     |true=>
      exfalso
      obtain⟨b,b1,b2⟩:=(h.bl.found _).1 hf
      have ba:=CK X.gi b1
      have:spB s x.op.a=true:=gT.2 ⟨hm,by omega⟩
      rw[r]at this;cases this
    rw[b4];rcases e with e|e
    .rw[e];rfl
    rw[e];rfl
   have H:kF s x.op.k x.op.n=true:=by unfold yC at p;simpa[t] using p
   rw[if_neg t,if_pos H,if_neg (by decide),if_neg (by rw[a7,a8];simp),if_neg (by decide),if_pos rfl,a4];unfold kF at H;simp only[Bool.and_eq_true]at H;exact H.1.1
  have b8:=zP (z:=x.client) C (e:=RA x.client x.op 0 (MC s x.client x.op.k x.op.a x.op.n)) q rfl (by show ((DA J (NA x.client x.op)).pt x.client).lives=true/\((DA J (NA x.client x.op)).pt x.client).asks=true;rw[o];exact⟨a2,a3⟩) S;have O:=BF (e:=RA x.client x.op 0 (MC s x.client x.op.k x.op.a x.op.n)) C.why (IF (z:=x.client) C q) b8;have R:=uH (σ':=σ) (d':=d') C O C.bl (λ_ _=>.rfl) (λ_ _=>rfl) (.inl λ_ h=>h) I;refine R.ji ?_;have b7:(DA (DA J (NA x.client x.op)) (RA x.client x.op 0 (MC s x.client x.op.k x.op.a x.op.n))).pt x.client=abP (DA J (NA x.client x.op)).l { (DA J (NA x.client x.op)).pt x.client with asks:=false}:=O.mine;rw[b7];obtain⟨b1,b2,b3,_⟩:=DD (DA J (NA x.client x.op)).l { (DA J (NA x.client x.op)).pt x.client with asks:=false};refine YP ?_ (b2.trans ?_) b3 i hj
  .rw[b1];show ((DA J (NA x.client x.op)).pt x.client).was=true↔_;rw[o,a1];exact⟨λ_=>L,λ_=>rfl⟩
  show ((DA J (NA x.client x.op)).pt x.client).lives=true;rw[o];exact a2
 rw[if_neg p]at i|-;have B:yC s x.client x.op.k x.op.a x.op.n=false:=by simpa using p
 show JI s σ d' (DA J (NA x.client x.op));refine C.ji ?_;rw[o];have V:=(RV (f:=k.first) hm q ho.fi (by omega) B).2;refine⟨by rw[a1];exact⟨λ_=>L,λ_=>rfl⟩,by rw[a2];exact⟨λ_=>⟨_,i⟩,λ_=>rfl⟩,by rw[a3];exact⟨λ_=>⟨_,_,i,rfl⟩,λ_=>rfl⟩,λk2 j F r=>?_⟩;rw[i]at F;injection F with F;subst F;injection r with r;subst r;exact⟨⟨a4,a5,a6⟩,a7,a8.trans V.symm,V.symm,z4g hm q _ (by omega) B _ _⟩
theorem z4o(h:JI s σ d J)(o:WI s σ d)(hd:wdOk s d n)(x:Ch)(hc:0<=x.client/\x.client<s.c)(hu:d.stat x.client=0):JI s (σ.stat x.client .live) (d.begin s x).1 (runJ J [WE x.client]):=by
 have T:=o.rep.may;have F:=(ixs o.rep.fi).2.2.2 _ hc;have b:σ.st x.client=.unused:=by have h1:=o.rep.st _ hc;rw[F]at h1;unfold Wd.stat at hu;rw[h1]at hu;have h2:=(TW.read T (o.gi.tf x.client)).1;rw[hu]at h2;cases hx:σ.st x.client<;>rw[hx]at h2<;>simp[TW.kind]at h2
 have hi:x.client.toNat<d.l.length:=by rw[hd.len];omega
 have D:=h.jx x.client;have M:=h.pt x.client hc.1 hc.2
 have B:(J.pt x.client).was=false:=by
  cases e:(J.pt x.client).was with
  |false=>rfl
  |true=>exact absurd b (M.was.1 e)
 have G:∀k,d.kl x.client≠some k:=λk S=>by have:=(o.li _ k S).1;rw[b]at this;cases this
 have f:(J.pt x.client).asks=false:=by
  cases e:(J.pt x.client).asks with
  |false=>rfl
  |true=>obtain⟨k,j,R,_⟩:=M.asks.1 e;exact absurd R (G k)
 have r:∀y,(d.begin s x).1.kl y=if y=x.client then some (DE x.client (Fl.jD x.bias s.p)) else d.kl y:=λy=>by unfold Wd.begin;rw[if_pos hu];exact d.IB hc.1 hi _ _ _ _ _
 have q:dF (J.pt x.client) (WE x.client)=0:=by have e:dF (J.pt x.client) (WE x.client)=(if (J.pt x.client).was=true then 1 else 0):=if_pos rfl;rw[e,B];rfl
 have t:=zQ (z:=x.client) D (e:=WE x.client) hc (show (0:Int)<=0/\(0:Int)<3 by decide) q;have E:jG (J.pt x.client) (WE x.client)={J.pt x.client with was:=true,lives:=true}:=by exact(if_neg (by rw[q];decide)).trans (if_pos rfl)
 rw[show (WE x.client).c=x.client from rfl,E]at t;have L:=BF (e:=WE x.client) h.why (IF (z:=x.client) D hc) t;have H:∀y,y≠x.client->((σ.stat x.client .live).st y=.unused↔σ.st y=.unused):=λy I=>by rw[rB _ _ I]
 have C:=uH (σ':=σ.stat x.client .live) (d':=(d.begin s x).1) D L h.bl H (λy I=>by rw[r,if_neg I]) (.inl λ_ h=>h) (iJ o);show JI s _ _ (DA J (WE x.client));refine C.ji ?_;have i:(DA J (WE x.client)).pt x.client=abP J.l {J.pt x.client with was:=true,lives:=true}:=L.mine;rw[i];obtain⟨a1,N,O,_⟩:=DD J.l {J.pt x.client with was:=true,lives:=true};refine YP ?_ N (O.trans f) (by rw[r,if_pos rfl]) rfl;rw[a1,HE];simp
theorem zY(h:JI s σ d J)(I:WI s σ d)(hd:wdOk s d n){k:Kl}(t:d.kl c=some k):JI s (σ.stat c .dead) (d.kill c).1 (runJ J [YE c]):=by
 obtain⟨T,R,hc⟩:=hd.kl _ k t;have C:=h.jx c;have r:=h.pt c hc.1 hc.2;have f:(J.pt c).lives=true:=r.lives.2 ⟨k,t⟩;have p:∀y,(d.kill c).1.kl y=if y=c then none else d.kl y:=λy=>by unfold Wd.kill;exact d.IB hc.1 (Wd.rC t).2 _ _ _ _ _
 have E:¬((J.pt c).asks=true/\(J.pt c).took=true):=λe=>by obtain⟨S,j,N,O⟩:=r.asks.1 e.1;have:=(r.op S j N O).2.1;rw[this]at e;cases e.2
 have o:dF (J.pt c) (YE c)=0:=by have e:dF (J.pt c) (YE c)=(if (J.pt c).lives=false then 1 else if (J.pt c).asks=true/\(J.pt c).took=true then 5 else 0):=(if_neg (show ¬(1:Int)=0 by decide)).trans (if_pos rfl);rw[e,if_neg (by rw[f];decide),if_neg E]
 have q:=zQ (z:=c) C (e:=YE c) hc (show (0:Int)<=1/\(1:Int)<3 by decide) o;have D:jG (J.pt c) (YE c)={J.pt c with lives:=false,asks:=false}:=by exact(if_neg (by rw[o];decide)).trans ((if_neg (show ¬(1:Int)=0 by decide)).trans (if_pos rfl))
 rw[show (YE c).c=c from rfl,D]at q;have H:=BF (e:=YE c) h.why (IF (z:=c) C hc) q;have F:∀y,y≠c->((σ.stat c .dead).st y=.unused↔σ.st y=.unused):=λy G=>by rw[rB _ _ G]
 have B:=uH (σ':=σ.stat c .dead) (d':=(d.kill c).1) C H h.bl F (λy G=>by rw[p,if_neg G]) (.inl λ_ h=>h) (iJ I);show JI s _ _ (DA J (YE c));refine B.ji ?_;have i:(DA J (YE c)).pt c=abP J.l {J.pt c with lives:=false,asks:=false}:=H.mine;rw[i];obtain⟨a1,L,M,_⟩:=DD J.l {J.pt c with lives:=false,asks:=false};have b:∀k,(d.kill c).1.kl c≠some k:=λk=>by rw[p,if_pos rfl];simp
 refine⟨?_,?_,?_,λk j e _=>absurd e (b k)⟩
 .rw[a1,HE];simp only[ne_eq,reduceCtorEq,not_false_eq_true,iff_true];exact r.was.2 (by rw[(I.li c k t).1];simp)
 .rw[L];exact⟨λe=>(by cases e),λ⟨k,e⟩=>absurd e (b k)⟩
 rw[M];exact⟨λe=>(by cases e),λ⟨k,_,e,_⟩=>absurd e (b k)⟩
theorem yrw(h:JI s σ d J)(f:WI s σ d)(hd:wdOk s d n)(x:Ch):∃ σ' es,WI s σ' (d.act s x).1/\(d.act s x).1.tr=d.tr++es/\JI s σ' (d.act s x).1 (runJ J es):=by
 have nil:∃ σ' es,WI s σ' d/\d.tr=d.tr++es/\JI s σ' d (runJ J es):=⟨σ,[],f,(List.append_nil _).symm,h⟩;unfold Wd.act;split
 .exact nil
 rename_i hb;unfold Ch.bad at hb;split
 .by_cases hu:d.stat x.client=0
  .refine⟨_,[WE x.client],fN f hd x (by omega) hu,?_,z4o h f hd x (by omega) hu⟩;unfold Wd.begin;rw[jP hu]
  unfold Wd.begin;rw[jN hu];exact nil
 cases hk:d.kl x.client with
 |none=>exact nil;|some k=>
  dsimp only;split
  .cases hj:k.job with
   |none=>
    have o:k.step s d.m=(k,d.m,[],2):=by unfold Kl.step;rw[hj]
    have p:=VM (σ':=σ) (d':=(d.step s x.client k).1) (h.jx x.client) (Calm.refl _) (λ_ _=>.rfl) (λy q=>by
     unfold Wd.step
     rw[d.IB (Wd.rC hk).1 (Wd.rC hk).2,jN q])
    have i:(d.step s x.client k).1.kl x.client=d.kl x.client:=by unfold Wd.step;rw[d.IB (Wd.rC hk).1 (Wd.rC hk).2,jP rfl,o,hk]
    have l:=h.pt x.client (by omega) (by omega);refine⟨σ,[],?_,?_,p.ji ⟨l.was,by rw[i];exact l.lives,by rw[i];exact l.asks,λk j a b=>l.op k j (i▸a) b⟩⟩
    .unfold Wd.step;rw[o];dsimp only;exact IQ f hk (f.li _ k hk).2 (.inl rfl) _ _
    unfold Wd.step;rw[o]
   |some j=>obtain⟨h1,h2⟩:=ZY h f hd hk hj;exact⟨_,_,h1,rfl,h2⟩
  split
  .exact⟨σ,_,LH f hd x hk,rfl,yep h f hd x hk⟩
  exact⟨_,_,cQ f hd hk,rfl,zY h f hd hk⟩
end

section

variable {s:Sh}{m:Mem}{σ:Ab}

def hpOf (s:Sh) (m:Mem):Hp:=⟨s.p,s.c,s.m,m.ws⟩
theorem YK(b:Rep s m σ):(hpOf s m).ok=true:=by
 unfold Hp.ok hpOf;dsimp only;rw[b.may,b.fi.len];simp
theorem YS(f:Rep s m σ){a:Int}(b:0<=a/\a<s.p):(hpOf s m).pw a=(σ.pg a).enc:=by
 have:=f.pg a b;rw[(ixs f.fi).1 a b]at this;exact this
theorem SF(b:Rep s m σ)(i:GI s σ){a:Int}(f:0<=a/\a<s.p):(hpOf s m).pb a=true/\(hpOf s m).pk a=(σ.pg a).kind/\(hpOf s m).pa a=(σ.pg a).pa:=by
 obtain⟨h1,h2,_⟩:=PW.read b.may (i.pf a);have hb:(hpOf s m).pb a=true:=by unfold Hp.pb;rw[YS b f];exact PW.MH b.may f (i.pf a)
 unfold Hp.pk Hp.pa;rw[jP hb,jP hb,YS b f];exact⟨hb,h1,h2⟩
theorem ZK(f:Rep s m σ){a i:Int}(b:0<=a/\a<s.p)(hi:0<=i/\i<16):(hpOf s m).sw a i=(σ.sl a i).enc:=by
 have:=f.sl a i b hi;rw[(ixs f.fi).2.1 a i b hi]at this;exact this
theorem SW.MH(hs:mayB s.p s.c s.m=true){x:SW}(h:x.fit s):cF x.enc=true:=by
 obtain⟨h1,h2⟩:=SW.read hs h;obtain⟨e,h3⟩:=SW.OE hs h;unfold cF;rw[h1,h2,beq_iff_eq];cases x with
 |none=>decide
 |opened k=>rfl
 |way c=>rfl
 |taken k=>rfl
theorem MG(b:Rep s m σ)(j:GI s σ){a i:Int}(f:0<=a/\a<s.p)(hi:0<=i/\i<16):(hpOf s m).sk a i=(σ.sl a i).kind/\(hpOf s m).sa a i=(σ.sl a i).pa:=by
 obtain⟨h1,h2⟩:=SW.read b.may (j.sf a i);have hb:cF ((hpOf s m).sw a i)=true:=by rw[ZK b f hi];exact SW.MH b.may (j.sf a i)
 unfold Hp.sk Hp.sa;rw[jP hb,jP hb,ZK b f hi];exact⟨h1,h2⟩
theorem sO(f:Rep s m σ){a:Int}(b:0<=a/\a<s.p)(h0:∀i,0<=i/\i<16->σ.sl a i=.none)(n:Nat)(l:n<=16):(hpOf s m).QF a n=true:=by
 induction n with
 |zero=>rfl;|succ n j=>show (_&&_)=true;rw[j (by omega),ZK f b (by omega),h0 n (by omega)];rfl
theorem yp9(l:Rep s m σ)(f:GI s σ){a k b:Int}(j:0<=a/\a<s.p)(q:σ.pg a=.super k b)(n:Nat)(t:n<=16):(hpOf s m).supT a k n=true:=by
 induction n with
 |zero=>rfl;|succ n r=>
  show (_&&_)=true;rw[r (by omega),Bool.true_and];have hi:0<=(n:Int)/\(n:Int)<16:=by omega
  obtain⟨h1,h2⟩:=MG l f j hi;have h3:=ZK l j hi;have h4:=f.sk a n;have i:=f.sf a n;rw[q]at h4;unfold ND at h4;dsimp only at h4;unfold Hp.okS;by_cases hs:(n:Int)<mA k
  .rw[jP ⟨hi.1,hs⟩]at h4;rw[jP hs,h1,h2];rcases h4 with e|e|⟨c,e⟩
   .rw[e];simp[SW.kind,SW.pa]
   .rw[e];simp[SW.kind,SW.pa]
   rw[e]at i|-;have o:c<(hpOf s m).c:=i.2;simp[SW.kind,SW.pa,o]
  rw[jN (by omega)]at h4;rw[jN hs,h3,h4];rfl
theorem yry(q:Rep s m σ)(l:GI s σ){a:Int}(r:0<=a/\a<s.p):(hpOf s m).snd a=true:=by
 obtain⟨h1,h2,h3⟩:=SF q l r;have f:=λi=>l.sk a i;have t:=l.pf a;unfold Hp.snd;rw[jP h1,h2,h3];cases e:σ.pg a with
 |empty=>rw[e]at f;rw[jN (by simp[PW.kind]),jN (by simp[PW.kind]),jN (by simp[PW.kind]),jP (by simp[PW.kind])];exact sO q r (λi _=>f i) 16 (by omega)
 |held o=>rw[jN (by simp[PW.kind]),jN (by simp[PW.kind]),jN (by simp[PW.kind]),jN (by simp[PW.kind])]
 |super k b=>rw[jP (by simp[PW.kind])];exact yp9 q l r e 16 (by omega)
 |large n=>
  rw[e]at f t;rw[jN (by simp[PW.kind]),jP (by simp[PW.kind]),jC];refine⟨sO q r (λi _=>f i) 16 (by omega),?_⟩;have G:=l.lg a n e;obtain⟨_,H,I,L⟩:=t
  have key:∀j:Nat,(j:Int)<=n-1->(hpOf s m).rowT a j=true:=by
   intro j
   induction j with
   |zero=>intro _;rfl
   |succ j N=>
    intro O
    show (_&&_)=true
    rw[N (by omega)]
    have M:0<=a+1+(j:Int)/\a+1+(j:Int)<s.p:=by omega
    obtain⟨_,z,B⟩:=SF q l M
    have:=G (1+j) (by omega) (by omega)
    rw[show a+(1+(j:Int))=a+1+j by omega]at this
    rw[z,B,this]
    simp[PW.kind,PW.pa]
  exact key (n-1).toNat (by omega)
 |body h=>
  rw[e]at f t;rw[jN (by simp[PW.kind]),jN (by simp[PW.kind]),jP (by simp[PW.kind]),jC];refine⟨sO q r (λi _=>f i) 16 (by omega),?_⟩;obtain⟨_,C,E,F⟩:=t;obtain⟨_,z,B⟩:=SF q l (a:=h) ⟨C,by omega⟩;show (_||_)=true;rw[show PW.pa (.body h)=h from rfl,z,B];rcases l.bd a h e with⟨o,y⟩|⟨n,y,D⟩
  .rw[y];simp[PW.kind]
  rw[y];simp[PW.kind,PW.pa,D]
theorem pS(b:Rep s m σ)(f:GI s σ):(hpOf s m).sound=true:=by
 unfold Hp.sound;rw[YK b,Bool.true_and];have hb:=b.fi.bd
 have key:∀n:Nat,(n:Int)<=s.p->(hpOf s m).sndT n=true:=by
  intro n
  induction n with
  |zero=>intro _;rfl
  |succ n i=>
   intro j
   show (_&&_)=true
   rw[i (by omega),yry b f ⟨by omega,by omega⟩];rfl
 exact key (hpOf s m).p.toNat (by show ((s.p.toNat:Nat):Int)<=s.p;omega)
theorem okK.same{W:Int}{l k:List Bk}:∀{lo:Int},okK W lo l->okK W lo k->(∀b,b∈l↔b∈k)->l=k:=by
 induction l generalizing k with
 |nil=>
  intro lo _ _ h
  cases k with
  |nil=>rfl
  |cons b k=>exact absurd ((h b).2 (by simp)) (by simp)
 |cons a l o=>
  intro lo h1 h2 h
  cases k with
  |nil=>exact absurd ((h a).1 (by simp)) (by simp)
  |cons b k=>
   have m1:=okK.mem h1.2.2
   have m2:=okK.mem h2.2.2
   have j:=(h a).1 (by simp)
   have hb:=(h b).2 (by simp)
   have e:a=b:=by
    rcases List.mem_cons.1 j with e|e
    .exact e
    .rcases List.mem_cons.1 hb with i|i
     .exact i.symm
     .have:=m1 b i;have:=m2 a e;have:=h1.2.1;have:=h2.2.1;omega
   subst e
   congr 1
   refine o h1.2.2 h2.2.2 λx=>?_
   constructor
   .intro f
    rcases List.mem_cons.1 ((h x).1 (by simp[f])) with e|e
    .have:=m1 x f;rw[e]at this;have:=h1.2.1;omega
    .exact e
   .intro f
    rcases List.mem_cons.1 ((h x).2 (by simp[f])) with e|e
    .have:=m2 x f;rw[e]at this;have:=h1.2.1;omega
    .exact e
theorem IS(y:Rep s m σ)(j:GI s σ)(x:Bk):x∈(hpOf s m).bl↔∃b:Bl,σ.has b/\b.at'=x.a/\b.len=x.n:=by
 have N:=y.fi.bd;unfold Hp.bl;rw[jP (YK y),Hp.yp1];have O:(hpOf s m).p.toNat=s.p.toNat:=rfl;rw[O];constructor
 .rintro⟨a,T,f⟩;have z:0<=(a:Int)/\(a:Int)<s.p:=by omega
  obtain⟨_,h2,h3⟩:=SF y j z;unfold Hp.pgB at f;rw[h2,h3]at f;cases e:σ.pg a with
  |large n=>rw[e,jP (by simp[PW.kind])]at f;simp only[List.mem_singleton]at f;subst f;exact⟨.lar a n,e,rfl,rfl⟩
  |super k b=>
   rw[e,jN (by simp[PW.kind]),jP (by simp[PW.kind]),Hp.oS]at f;obtain⟨i,hi,r,rfl⟩:=f;have B:=j.pf a;rw[e]at B;have L:=HI B.2.1;have I:(i:Int)<mA k:=by have S:i<(mA k).toNat:=hi;omega
   have l:0<=(i:Int)/\(i:Int)<16:=by omega
   obtain⟨H,_⟩:=MG y j z l;rw[H]at r;have hs:=j.sk a i;rw[e]at hs;unfold ND at hs;dsimp only at hs;rw[jP ⟨l.1,I⟩]at hs;rcases hs with q|q|⟨c,q⟩
   .rw[q]at r;exact absurd r (by simp[SW.kind])
   .refine⟨.sm a i k,q,?_,?_⟩
    .show (a:Int)*64+i*zA k=_*64+_*zA ((hpOf s m).pa a);rw[h3,e];rfl
    show zA k=zA ((hpOf s m).pa a);rw[h3,e];rfl
   rw[q]at r;exact absurd r (by simp[SW.kind])
  |empty=>rw[e,jN (by simp[PW.kind]),jN (by simp[PW.kind])]at f;simp at f
  |held o=>rw[e,jN (by simp[PW.kind]),jN (by simp[PW.kind])]at f;simp at f
  |body h=>rw[e,jN (by simp[PW.kind]),jN (by simp[PW.kind])]at f;simp at f
 rintro⟨b,hb,F,G⟩;cases b with
 |lar p n=>
  have e:σ.pg p=.large n:=hb;have B:=j.pf p;rw[e]at B;have M:0<=p/\p<s.p:=B.1;refine⟨p.toNat,by omega,?_⟩;have t:((p.toNat:Nat):Int)=p:=by omega
  obtain⟨_,h2,h3⟩:=SF y j M;unfold Hp.pgB;rw[t,h2,h3,e,jP (by simp[PW.kind]),List.mem_singleton];cases x;have q1:p*64=_:=F;have q2:n*64=_:=G;dsimp only at q1 q2;subst q1 q2;rfl
 |sm p i k=>
  obtain⟨⟨R,e⟩,hi,r,D,E⟩:=KH j hb;have q:σ.sl p i=.taken k:=hb;have L:=HI r;refine⟨p.toNat,by omega,?_⟩;have t:((p.toNat:Nat):Int)=p:=by omega
  obtain⟨_,h2,h3⟩:=SF y j (a:=p) ⟨D,E⟩;unfold Hp.pgB;rw[t,h2,h3,e,jN (by simp[PW.kind]),jP (by simp[PW.kind]),Hp.oS];obtain⟨H,_⟩:=MG y j (a:=p) (i:=i) ⟨D,E⟩ (by omega);have C:((i.toNat:Nat):Int)=i:=by omega
  refine⟨i.toNat,by show i.toNat<(mA k).toNat;omega,by rw[C,H,q];rfl,?_⟩;rw[C,h3,e];cases x;have q1:p*64+i*zA k=_:=F;have q2:zA k=_:=G;dsimp only at q1 q2;subst q1 q2;rfl
theorem yr1(i:Rep s m σ)(f:GI s σ){l:List Bk}(h:PD (s.p*64) σ.has l):(hpOf s m).bl=l:=by
 have h1:=Hp.yr2 (pS i f);have e:64*(hpOf s m).p=s.p*64:=Int.mul_comm _ _;rw[e]at h1;refine okK.same h1 h.ok λb=>?_;rw[IS i f];exact(h.mem b.a b.n).symm
end

end Go.Proofs.YtkilokkopbajkaaGreat
