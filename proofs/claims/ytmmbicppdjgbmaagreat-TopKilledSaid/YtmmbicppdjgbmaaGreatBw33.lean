/- Lemmas for the claim. -/
import Derived.Test.YtmmbicppdjgbmaaGreatBw28

import Derived.Test.YtmmbicppdjgbmaaGreatBw32

set_option linter.all false
namespace Go.Proofs.YtmmbicppdjgbmaaGreat

section

variable {s:Sh} {σ σ':Ab} {c:Int} {R:Own}

theorem qA.MJ{o:Own}(h:qA σ c (Own.no.add o)):qA σ c o:=h.eq (fun _=>(or_iff_right id).symm) (fun _ _=>(or_iff_right id).symm) (fun _ _ _=>(or_iff_right id).symm)
theorem qA.YC{o:Own}(h:qA σ c o):qA σ c (Own.no.add o):=h.eq (fun _=>or_iff_right id) (fun _ _=>or_iff_right id) (fun _ _ _=>or_iff_right id)
def ED (b:Blk):Own:=if b.large=true then (Own.page b.page).add (.bodies b.page (b.page + 1) (b.page + b.pages)) else .way b.page b.slot b.k
def jD (b:Blk):Bl:=if b.large=true then .lar b.page b.pages else .sm b.page b.slot b.k
def pG (σ:Ab) (b:Blk):Prop:=b.large=true->BC σ b.page (b.page + 1)
theorem pG.same{b:Blk}(i:∀ p,(ED b).h p->σ.pg p= .held c)(h:pG σ b)(hs:Same c σ σ'):pG σ' b:=fun f=>
 (h f).same (fun p h0 h1=>i p (by unfold ED;rw[jP f];exact .inl (show p=b.page by omega))) hs
def dJ (s:Sh) (t:Rs):Own:=match t.seeker,t.runner with
 | some x,_=> fC s x
 | none,some x=> NC x
 | none,none=> .no
def XI (s:Sh) (c:Int) (σ:Ab) (t:Rs):Prop:=match t.seeker,t.runner with
 | some x,_=> UD s c σ x
 | none,some x=> TJ c σ x
 | none,none=> True
structure RsAt (s:Sh) (c:Int) (σ:Ab) (t:Rs):Prop where
 ex:qA σ c (dJ s t)
 inv:XI s c σ t
theorem RsAt.same{t:Rs}(h:RsAt s c σ t)(hs:Same c σ σ'):RsAt s c σ' t:=by
 refine⟨h.ex.same hs,?_⟩;obtain⟨h1,h2⟩:=h;unfold XI dJ at *;obtain⟨k,pg,sk,rn⟩:=t;rcases sk with _|x
 ·rcases rn with _|y
  ·trivial
  exact h2.same h1 hs
 exact h2.same h1.YC hs
structure CZ (s:Sh) (c:Int) (σ:Ab) (r:Rs × Ab):Prop where
 kept:Kept s c σ r.2
 at':RsAt s c r.2 r.1
 calm:Calm σ r.2
theorem SS{m:Mem}{t:Rs}(j:Rep s m σ)(i:GI s σ)(f:rsIs s c t)(hd:t.done=false)(h:RsAt s c σ t):CZ s c σ (rsA s t σ):=by
 obtain⟨h1,h2⟩:=h;unfold dJ XI at *;obtain⟨k,pg,sk,rn⟩:=t;rcases sk with _|x
 ·rcases rn with _|y
  ·cases hd
  have b:=cZ j.may i (f.rn y rfl).ok hd ⟨h1,h2⟩;exact⟨b.kept,⟨b.at'.1,b.at'.2⟩,b.calm⟩
 have b:=MX j i (f.sk x rfl).1.ok (f.sk x rfl).2 hd h1.YC h2;exact⟨b.1.kept,⟨b.1.ex.MJ,b.1.inv⟩,b.2⟩
theorem tI{t:Rs}(q:rsIs s c t)(hd:t.done=true)(h:RsAt s c σ t):(t.got=none->qA σ c .no)/\∀ b,t.got=some b->qA σ c (ED b)/\pG σ b:=by
 obtain⟨h1,h2⟩:=h;unfold dJ XI Rs.got at *;obtain⟨k,pg,sk,rn⟩:=t;rcases sk with _|x
 ·rcases rn with _|y
  ·exact⟨fun _=>h1,fun b e=>(by cases e)⟩
  dsimp only at *;have o:y.done=true:=hd;unfold NC at h1;rcases jB y.found with f|f
  ·rw[jP f];have j:y.ph= .found:=by unfold Rn.ph;rw[jP f]
   refine⟨fun e=>(by cases e),fun b e=>?_⟩;injection e with e;subst e;have l:y.pages=pg:=(q.rn y rfl).n;rw[j]at h1;have i:=h2.2;rw[j]at i;refine⟨h1.eqv ?_,fun _=>i⟩;unfold ED;dsimp only;rw[jP rfl,l];refine⟨fun p=>?_,fun p g=>?_,fun _ _ _=>?_⟩<;>simp only[Own.run,Own.add,Own.page,Own.bodies,Own.pages,or_false,false_or,iff_false,false_iff]<;>(try omega)
  rw[jN (by rw[f];decide)];have j:y.ph= .dead:=by unfold Rn.ph;rw[jN (by rw[f];decide),jP o]
  rw[j]at h1;exact⟨fun _=>h1,fun b e=>(by cases e)⟩
 dsimp only at *;have m:x.done=true:=hd;rcases jB x.found with f|f
 ·rw[jP f];refine⟨fun e=>(by cases e),fun b e=>?_⟩;injection e with e;subst e;have l:x.k=k:=(q.sk x rfl).1.k;have:fC s x= .way x.page x.slot x.k:=by unfold fC;rw[jP f]
  rw[this,l]at h1;exact⟨h1,fun e=>(by cases e)⟩
 rw[jN (by rw[f];decide)];rw[rJ f (h2.dn m f)]at h1;exact⟨fun _=>h1,fun b e=>(by cases e)⟩
theorem HS{t:Cm}(y:GI s σ)(hd:t.done=false)(C:t.b.fits s c=true)(f:qA σ c (ED t.b))(hi:pG σ t.b):Kept s c σ (cmA t σ).2/\qA (cmA t σ).2 c .no/\Plus (jD t.b) σ (cmA t σ).2/\(cmA t σ).1= {t with done:=true}:=by
 obtain⟨_,hc,h3,h4,D⟩:=DE.1 C;unfold cmA;rw[jN (by rw[hd];decide)];unfold ED at f;unfold jD;by_cases p:t.b.large=true
 ·rw[jP p]at f ⊢;rw[jP p];have z:=h4 p;have m:σ.pg t.b.page= .held c:=(f.h _).2 (.inl rfl);have l:∀ i,σ.sl t.b.page i= .none:=fun i=>hi p _ i (Int.le_refl _) (by omega);have hb:∀ q,σ.pg q= .body t.b.page↔t.b.page+1<=q/\q<t.b.page+t.b.pages:=fun q=>by have:=f.b q t.b.page;simp only[Own.add,Own.page,Own.bodies,false_or,true_and]at this;rw[<-this];exact⟨fun e=>⟨e,m⟩,And.left⟩
  refine⟨zlp y m l z (fun j h0 h1=>(hb _).2 (by omega)) (fun q e=>((hb q).1 e).2),?_,z1n (fun n e=>by rw[m]at e;cases e),rfl⟩;exact zkr (o:= .no) (f.eqv ⟨fun _=>or_congr (or_iff_right id).symm .rfl,fun _ _=>or_congr (or_iff_right id).symm .rfl,fun _ _ _=>or_congr (or_iff_right id).symm .rfl⟩) id (fun _=>id)
 rw[jN p]at f ⊢;rw[jN p];obtain⟨⟨b,m⟩,hs⟩:=(f.w _ _ _).2 (.inl ⟨rfl,rfl,rfl⟩);have r:=f.YC;exact⟨gI y m hs (.inr rfl) (QH r m),kJ r (fun _=>id) m (.inr rfl),z1b (fun n e=>by rw[hs]at e;cases e),rfl⟩
def LG (t:Un):Own:=if t.done=true then .no else if t.b.large=true then (Own.page t.b.page).add (.bodies t.b.page (t.b.page + 1 + t.i) (t.b.page + t.b.pages)) else .way t.b.page t.b.slot t.b.k
structure UnAt (s:Sh) (c:Int) (σ:Ab) (t:Un):Prop where
 ex:qA σ c (LG t)
 inv:t.done=false->pG σ t.b
theorem UnAt.same{t:Un}(h:UnAt s c σ t)(hs:Same c σ σ'):UnAt s c σ' t:=⟨h.ex.same hs,fun hd=>by
 refine fun f=>(h.inv hd f).same (fun p h0 h1=>(h.ex.h p).2 ?_) hs
 unfold LG;rw[jN (by rw[hd];decide),jP f];exact .inl (show p=t.b.page by omega)⟩
theorem Own.zx9{h lo hi:Int}(b:lo<hi):((Own.bodies h (lo+1) hi).add (.bodies h lo (lo+1))).Eqv (.bodies h lo hi):=by
 refine⟨fun p=>?_,fun p g=>?_,fun _ _ _=>?_⟩<;>simp only[Own.add,Own.bodies,or_false,false_or,iff_false,false_iff]<;>(try omega)
theorem zV{P lo hi:Int}(m:GI s σ)(i:P+1<=lo/\lo<hi)(o:∀ q,¬ R.b q P)(j:qA σ c (R.add ((Own.page P).add (.bodies P lo hi)))):
  Kept s c σ (σ.page lo .empty)/\qA (σ.page lo .empty) c (R.add ((Own.page P).add (.bodies P (lo+1) hi)))/\Calm σ (σ.page lo .empty):=by
 have f:σ.pg lo= .body P/\σ.pg P= .held c:=(j.b lo P).2 (.inr (.inr ⟨rfl,Int.le_refl _,i.2⟩));have l:qA σ c ((R.add ((Own.page P).add (.bodies P (lo+1) hi))).add (.bodies P lo (lo+1))):=by refine j.eqv (.symm (.trans (.KG _ _ _) (.add R (.trans (.KG _ _ _) (.add _ (Own.zx9 i.2))))))
 refine⟨jU m f.1 f.2,zoe m l (fun g e=>?_),iG (fun n e=>by cases e) (fun n e=>by rw[f.1]at e;cases e)⟩;rcases e with e|e|e
 ·have h1:=(j.b lo g).2 (.inl e);have:g=P:=by have:=h1.1;rw[f.1]at this;injection this with this;exact this.symm
  subst this;exact o _ e
 ·exact e
 have:=e.2.1;omega
theorem AV{P hi:Int}(t:GI s σ)(r:∀ q,¬ R.b q P)(j:¬ R.h P)(hb:BC σ P (P+1))(l:qA σ c (R.add ((Own.page P).add (.bodies P hi hi)))):
  Kept s c σ (σ.page P .empty)/\qA (σ.page P .empty) c (R.add .no)/\Calm σ (σ.page P .empty):=by
 have o:σ.pg P= .held c:=(l.h P).2 (.inr (.inl rfl));have f:∀ q,σ.pg q≠ .body P:=fun q e=>by
  rcases(l.b q P).1 ⟨e,o⟩ with e|e|e
  ·exact r _ e
  ·exact e
  have:=e.2;omega
 have m:qA σ c (R.add (.page P)):=l.eqv (.add R ⟨fun _=>or_iff_left id,fun p g=>⟨fun h=>h.elim id (fun h=>by have h1:=h.2;omega),fun h=>h.elim⟩,fun _ _ _=>or_iff_left id⟩);exact⟨JO t o (fun i=>hb P i (Int.le_refl _) (by omega)) f,(ZT m j f).eqv (Own.Eqv.YC R).symm,iG (fun n e=>by cases e) (fun n e=>by rw[o]at e;cases e)⟩
theorem SX{t:Un}(r:GI s σ)(C:unOk s t)(hd:t.done=false)(h:UnAt s c σ t):Kept s c σ (unA t σ).2/\UnAt s c (unA t σ).2 (unA t σ).1/\Calm σ (unA t σ).2/\(unA t σ).1.b=t.b:=by
 obtain⟨l,hi⟩:=h;obtain⟨k1,D⟩:=C.cl hd;obtain⟨_,_,h3,h4,E⟩:=DE.1 k1;unfold unA;rw[jN (by rw[hd];decide)];unfold LG at l;rw[jN (by rw[hd];decide)]at l;by_cases m:t.b.large=true
 ·rw[jN (by rw[m];decide)];rw[jP m]at l;have z:=D m;by_cases j:t.i=t.b.pages-1
  ·rw[jP j];have f:qA σ c (Own.no.add ((Own.page t.b.page).add (.bodies t.b.page (t.b.page+t.b.pages) (t.b.page+t.b.pages)))):=by rw[show t.b.page+1+t.i=t.b.page+t.b.pages by omega]at l;exact l.YC
   obtain⟨o,p,q⟩:=AV r (R:= .no) (fun _=>id) id (hi hd m) f;refine⟨o,⟨?_,fun e=>(by cases e)⟩,q,rfl⟩;unfold LG;rw[jP rfl];exact p.MJ
  rw[jN j];have f:=l.YC;rw[show t.b.page+1+t.i=t.b.page+t.i+1 by omega]at f;obtain⟨o,p,q⟩:=zV r (R:= .no) (P:=t.b.page) (lo:=t.b.page+t.i+1) (hi:=t.b.page+t.b.pages) (by omega) (fun _=>id) f;refine⟨o,⟨?_,fun _ _=>?_⟩,q,rfl⟩
  ·unfold LG;dsimp only;rw[jN (by rw[hd];decide),jP m,show t.b.page+1+(t.i+1)=t.b.page+t.i+1+1 by omega];exact p.MJ
  exact hi hd m
 rw[jP (by simpa using m)];rw[jN m]at l;obtain⟨⟨b,y⟩,hs⟩:=(l.w _ _ _).2 (.inl ⟨rfl,rfl,rfl⟩);have f:=l.YC;refine⟨gI r y hs (.inl rfl) (QH f y),⟨?_,fun e=>(by cases e)⟩,dG (fun n e=>by cases e) (fun n e=>by rw[hs]at e;cases e),rfl⟩;unfold LG;rw[jP rfl];exact kJ f (fun _=>id) y (.inl rfl)
inductive FePh
 | idle
 | put (x:Pu)
 | back
 | drop
def Fe.ph (t:Fe):FePh:=if t.done=true then .idle else if t.next=2 then (match t.put with | some x=> .put x | none=> .idle) else if t.next=3 then .back else if t.next=4 then .drop else .idle
def WD (t:Fe):Own:=match t.ph with
 | .idle=> .no
 | .put x=> AF x
 | .back=> .way t.page t.slot t.pa
 | .drop=> (Own.page t.page).add (.bodies t.page (t.page + 1 + t.i) (t.page + t.pa))
def feBl (t:Fe):Bl:=if t.pk=3 then .lar t.page t.pa else .sm t.page t.slot t.pa
structure oH (s:Sh) (c:Int) (σ:Ab) (R:Own) (t:Fe):Prop where
 cl:t.c=c
 w:t.done=false->t.next=1->t.pk=3->t.word=(PW.large t.pa).enc
 ph:match t.ph with
  | .idle=> True
  | .put x=> JG c σ x/\(x.ep=t.page/\x.es=t.slot/\x.ek=t.pa)/\x.put=false/\∀ k',¬ R.w t.page t.slot k'
  | .back=> ∀ k',¬ R.w t.page t.slot k'
  | .drop=> BC σ t.page (t.page + 1)/\¬ R.h t.page/\∀ q,¬ R.b q t.page
theorem oH.same{t:Fe}(b:qA σ c (R.add (WD t)))(h:oH s c σ R t)(hs:Same c σ σ'):oH s c σ' R t:=by
 obtain⟨h1,h2,h3⟩:=h;refine⟨h1,h2,?_⟩;unfold WD at b;cases hp:t.ph with
 |idle=>trivial
 |put x=>rw[hp]at h3;exact⟨h3.1.same hs,h3.2⟩
 |back=>rw[hp]at h3;exact h3;|drop=>rw[hp]at h3 b;exact⟨h3.1.same (fun p h0 h1=>(b.h p).2 (.inr (.inl (show p=t.page by omega)))) hs,h3.2⟩
structure JM (s:Sh) (c:Int) (σ:Ab) (R:Own) (t:Fe) (r:Fe × Ab):Prop where
 kept:Kept s c σ r.2
 ex:qA r.2 c (R.add (WD r.1))
 inv:oH s c r.2 R r.1
 sl:∀ q i,σ.pg q= .held c->r.2.sl q i=σ.sl q i
 chg:(t.gave=false->r.1.gave=true->nH (feBl t) σ r.2/\r.1.done=false/\t.next=1)/\((t.gave=true\/r.1.gave=false)->Calm σ r.2)
end

section

variable {s:Sh} {σ σ':Ab} {c:Int} {R:Own}

theorem yge(s:Sh)(t:Pu)(σ:Ab):(puA s t σ).1.ep=t.ep/\(puA s t σ).1.es=t.es/\(puA s t σ).1.ek=t.ek:=by
 unfold puA;split
 ·exact⟨rfl,rfl,rfl⟩
 split
 ·exact⟨rfl,rfl,rfl⟩
 dsimp only;split<;>exact⟨rfl,rfl,rfl⟩
theorem JF{t:Fe}(h:t.ph= .idle):WD t= .no:=by unfold WD;rw[h]
theorem eG{t:Fe}(h:t.done=true):t.ph= .idle:=by unfold Fe.ph;rw[jP h]
theorem pI{t:Fe}(h:t.next=0\/t.next=1):t.ph= .idle:=by
 unfold Fe.ph;split
 ·rfl
 rw[jN (by omega),jN (by omega),jN (by omega)]
theorem EH{t:Fe}(hc:t.c=c)(h:t.ph= .idle)(b:t.done=false->t.next=1->t.pk=3->t.word=(PW.large t.pa).enc):oH s c σ R t:=⟨hc,b,by rw[h];trivial⟩
theorem uT{m:Mem}{t:Fe}(hr:Rep s m σ)(D:GI s σ)(hk:feIs s c t)(hd:t.done=false)(f:qA σ c (R.add (WD t)))(hi:oH s c σ R t):JM s c σ R t (feA s t σ):=by
 obtain⟨c1,c2,c3,c4,c5,c6,c7,c8,c9,b1⟩:=hk.ok.cl hd;obtain⟨hc,hw,C⟩:=hi;subst hc;unfold feA;rw[jN (by rw[hd];decide)];have I:∀ t':Fe,t'.c=t.c->t'.ph= .idle->t'.gave=false->(t'.done=false->t'.next=1->t'.pk=3->t'.word=(PW.large t'.pa).enc)->qA σ t.c (R.add .no)->JM s t.c σ R t (t',σ):=fun t' h1 h2 h3 h4 h5=>⟨Kept.refl D,by rw[JF h2];exact h5,EH h1 h2 h4,fun _ _ _=>rfl,⟨fun _ e=>(by rw[h3]at e;cases e),fun _=>Calm.refl _⟩⟩
 by_cases h0:t.next=0
 ·rw[jP h0];have r:=hk.gv (by omega);rw[JF (pI (.inl h0))]at f;have z:(t.ZB (σ.pg t.page)).c=t.c/\(t.ZB (σ.pg t.page)).gave=t.gave/\(t.ZB (σ.pg t.page)).next=1/\(t.ZB (σ.pg t.page)).pk=(σ.pg t.page).kind/\(t.ZB (σ.pg t.page)).pa=(σ.pg t.page).pa/\(t.ZB (σ.pg t.page)).word=(σ.pg t.page).enc:=by
   unfold Fe.ZB;dsimp only;split
   ·exact⟨rfl,rfl,rfl,rfl,rfl,rfl⟩
   split<;>exact⟨rfl,rfl,rfl,rfl,rfl,rfl⟩
  refine I _ z.1 (pI (.inr z.2.2.1)) (z.2.1.trans r) (fun _ _ e=>?_) f;rw[z.2.2.2.1]at e;rw[z.2.2.2.2.1,z.2.2.2.2.2];cases o:σ.pg t.page<;>rw[o]at e<;>simp[PW.kind]at e;rfl
 rw[jN h0];by_cases h1:t.next=1
 ·rw[jP h1];have r:=hk.gv (by omega);rw[JF (pI (.inr h1))]at f;have F:qA σ t.c R:=f.eqv (Own.Eqv.YC R);by_cases G:t.pk=3
  ·rw[jP G];by_cases o:(σ.pg t.page).enc=t.word
   ·rw[jP o];rcases c6 (by omega) with⟨_,k2,k3,k4⟩|⟨k1,_⟩
    ·have j:σ.pg t.page= .large t.pa:=PW.inj hr.may (D.pf _) (q:=t.page) (y:= .large t.pa) ⟨c2,k2,k3,k4⟩ (by rw[o];exact hw hd h1 G);have E:({t with gave:=true,next:=4,done:=false}:Fe).ph= .drop:=rfl;refine⟨zmq D j c1,?_,⟨rfl,fun _ e=>(by cases e),?_⟩,fun _ _ _=>rfl,⟨fun _ _=>⟨?_,rfl,h1⟩,fun e=>by rcases e with e|e;(rw[r]at e;cases e);(cases e)⟩⟩
     ·unfold WD;rw[E];dsimp only;rw[c5 (by omega),show t.page+1+0=t.page+1 by omega];exact(zlv D F j).eqv (Own.Eqv.KG _ _ _)
     ·rw[E];refine⟨fun p i a b=>?_,fun e=>?_,fun q e=>?_⟩
      ·rw[show p=t.page by dsimp only at a b;omega];exact EJ D (.inr (.inl ⟨_,j⟩)) i
      ·have:=(F.h _).2 e;rw[j]at this;cases this
      have:=((F.b _ _).2 e).2;rw[j]at this;cases this
     unfold feBl;rw[jP G];exact zy2 (fun n e=>by cases e) j
    omega
   rw[jN o];exact I _ rfl (eG rfl) rfl (fun e=>by cases e) f
  rw[jN G];by_cases o:σ.sl t.page t.slot= .taken t.pa
  ·rw[jP o];obtain⟨⟨b,E⟩,b8⟩:=zJ D (.inr o);have b3:=FO D E (.inr o) c1;have b2:=GO D F E (.inr o);have b4:nH (feBl t) σ (σ.slot t.page t.slot (.way t.c)):=by unfold feBl;rw[jN G];exact zzw (fun n e=>by cases e) o
   have S:∀ V,¬ R.w t.page t.slot V:=fun V e=>by have:=((F.w _ _ _).2 (.inl e)).2;rw[o]at this;cases this
   have fin:∀ t':Fe,t'.c=t.c->t'.gave=true->t'.done=false->WD t'= .way t.page t.slot t.pa->(match t'.ph with | .idle=>True | .put x=>JG t.c (σ.slot t.page t.slot (.way t.c)) x/\(x.ep=t'.page/\x.es=t'.slot/\x.ek=t'.pa)/\x.put=false/\∀ V,¬ R.w t'.page t'.slot V | .back=>∀ V,¬ R.w t'.page t'.slot V | .drop=>BC (σ.slot t.page t.slot (.way t.c)) t'.page (t'.page+1)/\¬ R.h t'.page/\∀ q,¬ R.b q t'.page)->t'.next≠1->JM s t.c σ R t (t',σ.slot t.page t.slot (.way t.c)):=fun t' e1 e2 e6 e3 X e5=>⟨b3,by rw[e3];exact b2,⟨e1,fun _ e=>absurd e e5,X⟩,fun q i hq=>LD _ _ (fun e=>by rw[e.1,E]at hq;cases hq),⟨fun _ _=>⟨b4,e6,h1⟩,fun e=>by rcases e with e|e;(rw[r]at e;cases e);(have e:t'.gave=false:=e;rw[e2]at e;cases e)⟩⟩
   have T:JM s t.c σ R t ({t with gave:=true,next:=3,done:=false},σ.slot t.page t.slot (.way t.c)):=fin _ rfl rfl rfl rfl S (show (3:Int)≠1 by decide);unfold Fe.gotA;dsimp only[Bool.not_true];by_cases b0:t.pb=t.c
   ·rw[jP b0];unfold Fe.kept;dsimp only;rw[jN (show ¬ (eD s t.c t.page t.slot t.pa).put=true by simp[eD])];rcases jB (eD s t.c t.page t.slot t.pa).done with e|e
    ·rw[jP e];exact fin _ rfl rfl rfl rfl S (show (3:Int)≠1 by decide)
    rw[jN (by rw[e];decide)];exact fin _ rfl rfl rfl rfl ⟨⟨rfl,fun e=>(by cases e),fun e=>(by cases e)⟩,⟨rfl,rfl,rfl⟩,rfl,S⟩ (show (2:Int)≠1 by decide)
   rw[jN b0];exact T
  rw[jN o];have h3:(t.gotA s false).c=t.c/\(t.gotA s false).gave=false/\(t.gotA s false).done=true:=by
   unfold Fe.gotA;dsimp only;refine⟨?_,?_,rfl⟩
   ·split
    ·unfold Fe.kept;dsimp only;split
     ·rfl
     split<;>rfl
    rfl
   split
   ·unfold Fe.kept;dsimp only;split
    ·rfl
    split<;>rfl
   rfl
  exact I _ h3.1 (eG h3.2.2) h3.2.1 (fun e=>by rw[h3.2.2]at e;cases e) f
 rw[jN h1];have r:=hk.gv2 (by omega) hd;have calm:∀ (t':Fe) σ',Calm σ σ'->(t.gave=false->t'.gave=true->nH (feBl t) σ σ'/\t'.done=false/\t.next=1)/\((t.gave=true\/t'.gave=false)->Calm σ σ'):=fun t' σ' h=>⟨fun e=>(by rw[r]at e;cases e),fun _=>h⟩;by_cases h2:t.next=2
 ·rw[jP h2];obtain⟨_,x,o,b6,b5⟩:=c8 h2;have E:t.ph= .put x:=by unfold Fe.ph;rw[jN (by rw[hd];decide),jP h2,o]
  unfold WD at f;rw[E]at f C;obtain⟨p1,L,p3,p4⟩:=C;rw[o];dsimp only;obtain⟨⟨O,M,Y⟩,g4⟩:=z96 D b6 b5 (R:=R) (by rw[L.1,L.2.1];exact p4) f p1;obtain⟨e1,e2,e3⟩:=yge s x σ;have U:∀ q i,σ.pg q= .held t.c->(puA s x σ).2.sl q i=σ.sl q i:=fun q i _=>by unfold puA;split;rfl;split;rfl;rfl
  unfold Fe.kept;dsimp only;rcases jB (puA s x σ).1.put with e|e
  ·rw[jP e];refine⟨O,?_,EH rfl (eG rfl) (fun e=>by cases e),U,calm _ _ g4⟩;rw[JF (eG rfl)];have:AF (puA s x σ).1= .no:=by unfold AF;rw[jP e]
   rw[this]at M;exact M
  rw[jN (by rw[e];decide)];have Z:AF (puA s x σ).1= .way t.page t.slot t.pa:=by unfold AF;rw[jN (by rw[e];decide),e1,e2,e3,L.1,L.2.1,L.2.2]
  rcases jB (puA s x σ).1.done with X|X
  ·rw[jP X];have l:({t with put:=some (puA s x σ).1,next:=3}:Fe).ph= .back:=by unfold Fe.ph;dsimp only;rw[jN (by rw[hd];decide)];rfl
   refine⟨O,?_,⟨rfl,fun _ e=>(by cases e),?_⟩,U,calm _ _ g4⟩
   ·unfold WD;rw[l];rw[Z]at M;exact M
   rw[l];exact p4
  rw[jN (by rw[X];decide)];have l:({t with put:=some (puA s x σ).1}:Fe).ph= .put (puA s x σ).1:=by unfold Fe.ph;dsimp only;rw[jN (by rw[hd];decide),jP h2]
  refine⟨O,?_,⟨rfl,fun _ e=>absurd e h1,?_⟩,U,calm _ _ g4⟩
  ·unfold WD;rw[l];exact M
  rw[l];exact⟨Y,⟨e1.trans L.1,e2.trans L.2.1,e3.trans L.2.2⟩,e,p4⟩
 rw[jN h2];by_cases h3:t.next=3
 ·rw[jP h3];have E:t.ph= .back:=by unfold Fe.ph;rw[jN (by rw[hd];decide),jN h2,jP h3]
  unfold WD at f;rw[E]at f C;obtain⟨⟨b,N⟩,hs⟩:=(f.w _ _ _).2 (.inl (.inr ⟨rfl,rfl,rfl⟩));refine⟨gI D N hs (.inl rfl) (QH f N),?_,EH rfl (eG rfl) (fun e=>by cases e),fun q i hq=>LD _ _ (fun e=>by rw[e.1,N]at hq;cases hq),calm _ _ (dG (fun n e=>by cases e) (fun n e=>by rw[hs]at e;cases e))⟩;rw[JF (eG rfl)];exact(kJ f C N (.inl rfl)).eqv (Own.Eqv.YC R).symm
 rw[jN h3];have h4:t.next=4:=by omega
 have E:t.ph= .drop:=by unfold Fe.ph;rw[jN (by rw[hd];decide),jN h2,jN h3,jP h4]
 unfold WD at f;rw[E]at f C;obtain⟨p1,L,p3⟩:=C;have b7:=b1 h4;by_cases H:t.i=t.pa-1
 ·rw[jP H];rw[show t.page+1+t.i=t.page+t.pa by omega]at f;obtain⟨O,M,Y⟩:=AV D p3 L p1 f;refine⟨O,?_,EH rfl (eG rfl) (fun e=>by cases e),fun _ _ _=>rfl,calm _ _ Y⟩;rw[JF (eG rfl)];exact M
 rw[jN H];rw[show t.page+1+t.i=t.page+t.i+1 by omega]at f;obtain⟨O,M,Y⟩:=zV D (by omega) p3 f;have l:({t with i:=t.i+1}:Fe).ph= .drop:=by unfold Fe.ph;dsimp only;rw[jN (by rw[hd];decide),jN h2,jN h3,jP h4]
 refine⟨O,?_,⟨rfl,fun _ e=>absurd e h1,?_⟩,fun _ _ _=>rfl,calm _ _ Y⟩
 ·unfold WD;rw[l];dsimp only;rw[show t.page+1+(t.i+1)=t.page+t.i+1+1 by omega];exact M
 rw[l];exact⟨fun p i a b=>p1 p i a b,L,p3⟩
end

section

variable {s:Sh} {σ σ':Ab} {c:Int}
inductive RrPh
 | dead
 | res (r:Rs)
 | fre (b:Blk) (f:Fe)
 | und (u:Un)
 | com (u:Cm)
def Rr.ph (t:Rr):RrPh:=if t.done=true then .dead else match t.res,t.free with
 | some r,some f=> if r.done=false then .res r else (match t.undo,t.com with
  | some u,_=> .und u
  | none,some u=> .com u
  | none,none=> match r.got with
   | some b=> .fre b f
   | none=> .dead)
 | _,_=> .dead
def XD (s:Sh) (t:Rr):Own:=match t.ph with
 | .dead=> .no
 | .res r=> dJ s r
 | .fre b f=> (ED b).add (WD f)
 | .und u=> LG u
 | .com u=> ED u.b
def LS (c:Int) (f:Fe):Prop:=f.done=false/\f.next=0/\f.c=c
structure ygt (s:Sh) (c:Int) (σ:Ab) (t:Rr):Prop where
 cl:t.c=c
 ph:match t.ph with
  | .dead=> t.done=true
  | .res r=> XI s c σ r/\∀ f,t.free=some f->LS c f
  | .fre b f=> pG σ b/\oH s c σ (ED b) f/\f.done=false
  | .und u=> UnAt s c σ u/\u.done=false/\∀ r,t.res=some r->r.got≠none
  | .com u=> pG σ u.b/\u.done=false
structure RrAt (s:Sh) (c:Int) (σ:Ab) (t:Rr):Prop where
 ex:qA σ c (XD s t)
 inv:ygt s c σ t
theorem RrAt.same{t:Rr}(h:RrAt s c σ t)(hs:Same c σ σ'):RrAt s c σ' t:=by
 obtain⟨i,h1,h2⟩:=h;refine⟨i.same hs,h1,?_⟩;unfold XD at i;cases hp:t.ph with
 |dead=>rw[hp]at h2;exact h2;|res r=>rw[hp]at i h2;exact⟨(RsAt.same ⟨i,h2.1⟩ hs).inv,h2.2⟩
 |fre b f=>rw[hp]at i h2;exact⟨h2.1.same (c:=c) (fun p hb=>(i.h p).2 (.inl hb)) hs,h2.2.1.same i hs,h2.2.2⟩
 |und u=>rw[hp]at h2;exact⟨h2.1.same hs,h2.2⟩
 |com u=>rw[hp]at i h2;exact⟨h2.1.same (c:=c) (fun p hb=>(i.h p).2 hb) hs,h2.2⟩
theorem xJ{t:Rr}(hd:t.done=true)(hc:t.c=c)(f:qA σ c .no):RrAt s c σ t:=by
 have b:t.ph= .dead:=by unfold Rr.ph;rw[jP hd]
 refine⟨?_,hc,?_⟩
 ·unfold XD;rw[b];exact f
 rw[b];exact hd
def bC (t:Rr):Bool:=match t.free with | some f=> f.gave | none=> false
structure FM (s:Sh) (c:Int) (σ:Ab) (t:Rr) (r:Rr × Ab):Prop where
 kept:Kept s c σ r.2
 at':RrAt s c r.2 r.1
 gave:∀ f,t.free=some f->bC t=false->bC r.1=true->(nH (feBl f) σ r.2/\f.next=1/\f.done=false)/\r.1.done=false
 took:r.1.done=true->r.1.err=0->∃ x b,r.1.res=some x/\x.got=some b/\Plus (jD b) σ r.2
 calm:(bC t=true\/bC r.1=false)->¬ (r.1.done=true/\r.1.err=0)->Calm σ r.2
theorem HU{a:Int}(hs:mayB s.p s.c s.m=true)(hc:0<=c/\c<s.c)(b:spB s a=true):LS c (nB s c a):=by
 have hb:=LA.1 hs;have h1:uA s.p s.c s.m c=c:=by unfold uA;rw[jP ⟨hs,IA.2 (by omega)⟩]
 refine⟨?_,rfl,rfl⟩;simp only[nB,b,h1];simp;omega
theorem z6k{b:Blk}(i:b.fits s c=true)(f:qA σ c (ED b))(hi:pG σ b):UnAt s c σ (MC s c b)/\(MC s c b).done=false:=by
 have hd:(MC s c b).done=false:=by simp[MC,i]
 refine⟨⟨?_,fun _=>hi⟩,hd⟩;unfold LG;rw[jN (by rw[hd];decide)];unfold ED at f;simp only[MC];rw[show b.page+1+0=b.page+1 by omega];exact f
theorem TS{t:Rr}{r:Rs}{f:Fe}(hd:t.done=false)(l:t.res=some r)(m:t.free=some f)(h:r.done=false):rrA s t σ=(Rr.settle s {t with res:=some (rsA s r σ).1},(rsA s r σ).2):=by
 obtain⟨q,p,i,j,n,o,b⟩:=t;dsimp only at hd l m;subst hd l m;unfold rrA;exact jP h
theorem iT{t:Rr}{r:Rs}{f:Fe}(hd:t.done=false)(l:t.res=some r)(m:t.free=some f)(h:¬ r.done=false)(h2:f.done=false):rrA s t σ=(Rr.settle s {t with free:=some (feA s f σ).1},(feA s f σ).2):=by
 obtain⟨q,p,i,j,n,o,b⟩:=t;dsimp only at hd l m;subst hd l m;unfold rrA;exact(jN h).trans (jP h2)
theorem VS{t:Rr}{r:Rs}{f:Fe}{u:Un}(hd:t.done=false)(l:t.res=some r)(m:t.free=some f)(h:¬ r.done=false)(h2:¬ f.done=false)(hu:t.undo=some u):rrA s t σ=(Rr.settle s {t with undo:=some (unA u σ).1},(unA u σ).2):=by
 obtain⟨q,p,i,j,n,o,b⟩:=t;dsimp only at hd l m hu;subst hd l m hu;unfold rrA;exact(jN h).trans (jN h2)
theorem IX{t:Rr}{r:Rs}{f:Fe}{u:Cm}(hd:t.done=false)(l:t.res=some r)(m:t.free=some f)(h:¬ r.done=false)(h2:¬ f.done=false)(hu:t.undo=none)(hc:t.com=some u):rrA s t σ=(Rr.settle s {t with com:=some (cmA u σ).1},(cmA u σ).2):=by
 obtain⟨q,p,i,j,n,o,b⟩:=t;dsimp only at hd l m hu hc;subst hd l m hu hc;unfold rrA;exact(jN h).trans (jN h2)
theorem KP{t:Rr}{r:Rs}{f:Fe}(hd:t.done=false)(b:t.res=some r)(i:t.free=some f)(h:r.done=false):t.ph= .res r:=by
 unfold Rr.ph;rw[jN (by rw[hd];decide),b,i];exact jP h
theorem DL{t:Rr}{r:Rs}{f:Fe}{u:Un}(hd:t.done=false)(b:t.res=some r)(i:t.free=some f)(h:¬ r.done=false)(hu:t.undo=some u):t.ph= .und u:=by
 unfold Rr.ph;rw[jN (by rw[hd];decide),b,i];dsimp only;rw[jN h,hu]
theorem xX{t:Rr}{r:Rs}{f:Fe}{u:Cm}(hd:t.done=false)(b:t.res=some r)(i:t.free=some f)(h:¬ r.done=false)(hu:t.undo=none)(hc:t.com=some u):t.ph= .com u:=by
 unfold Rr.ph;rw[jN (by rw[hd];decide),b,i];dsimp only;rw[jN h,hu,hc]
theorem mI{t:Rr}{r:Rs}{f:Fe}(hd:t.done=false)(i:t.res=some r)(j:t.free=some f)(h:¬ r.done=false)(hu:t.undo=none)(hc:t.com=none):t.ph=match r.got with|some b=>.fre b f|none=>.dead:=by
 unfold Rr.ph;rw[jN (by rw[hd];decide),i,j];dsimp only;rw[jN h,hu,hc]
theorem RY{m:Mem}{t:Rr}(hr:Rep s m σ)(hg:GI s σ)(L:rrIs s c t)(b9:0<=c/\c<s.c)(hd:t.done=false)(h:RrAt s c σ t):FM s c σ t (rrA s t σ):=by
 obtain⟨H,hc,hi⟩:=h;obtain⟨r,f,y,q,o1,o2,o3,o4,o5,o6⟩:=L.ok.cl hd;have X:=L.res r y;have b5:=L.fre f q;by_cases n:r.done=false
 ·rw[TS hd y q n];have V:t.ph= .res r:=KP hd y q n;have j:t.undo=none/\t.com=none:=by
   constructor
   ·cases hu:t.undo with
    |none=>rfl
    |some u=>obtain⟨Z,N,a1,E,_⟩:=L.mid hd (.inl (by rw[hu];simp));rw[y]at a1;injection a1 with a1;subst a1;rw[n]at E;cases E
   cases hu:t.com with
   |none=>rfl
   |some u=>obtain⟨Z,N,a1,E,_⟩:=L.mid hd (.inr (by rw[hu];simp));rw[y]at a1;injection a1 with a1;subst a1;rw[n]at E;cases E
  unfold XD at H;rw[V]at H hi;have D:=hi.2 f q;have o:=SS hr hg X n ⟨H,hi.1⟩;have O:rsIs s c (rsA s r σ).1:=by have:=(rQ (m:=m) X n hr.fi).2.1;rwa [(jO hr hg o1).1]at this
  have b7:f.gave=false:=b5.gv (by rw[D.2.1];decide);have fin:∀ t':Rr,RrAt s c (rsA s r σ).2 t'->t'.free=some f->¬ (t'.done=true/\t'.err=0)->FM s c σ t (t',(rsA s r σ).2):=fun t' h1 h2 h3=>⟨o.kept,h1,fun N _ _ e=>(by unfold bC at e;dsimp only at e;rw[h2]at e;dsimp only at e;rw[b7]at e;cases e),fun a b=>absurd ⟨a,b⟩ h3,fun _ _=>o.calm⟩
  rcases IF s {t with res:=some (rsA s r σ).1} (rsA s r σ).1 f rfl q with⟨h1,_⟩|⟨_,h1,_⟩|⟨_,_,h1,e⟩|⟨_,_,h1,h2,e⟩|⟨b,_,_,h1,h2,h3,e⟩|⟨b,_,_,_,_,_,_,h1,_,e⟩|⟨b,_,_,_,_,_,_,h1,_,e⟩
  ·have h1:BD t.undo=true:=h1;rw[j.1]at h1;cases h1
  ·have h1:pF t.com=true:=h1;rw[j.2]at h1;cases h1
  ·rw[e];refine fin _ ?_ q (fun h=>by have:=h.1;rw[show ({t with res:=some (rsA s r σ).1}:Rr).done=t.done from rfl,hd]at this;cases this);have l:({t with res:=some (rsA s r σ).1}:Rr).ph= .res (rsA s r σ).1:=KP hd rfl q h1;refine⟨?_,hc,?_⟩
   ·unfold XD;rw[l];exact o.at'.ex
   rw[l];exact⟨o.at'.inv,hi.2⟩
  ·rw[e];exact fin _ (xJ rfl hc ((tI O h1 o.at').1 h2)) q (fun h=>by have:=h.2;dsimp only at this;omega)
  ·rw[e];obtain⟨b1,b2⟩:=(tI O h1 o.at').2 b h2;refine fin _ ?_ q (fun h=>by have:=h.1;rw[show ({t with res:=some (rsA s r σ).1}:Rr).done=t.done from rfl,hd]at this;cases this);have l:({t with res:=some (rsA s r σ).1}:Rr).ph= .fre b f:=by rw[mI (t:= {t with res:=some (rsA s r σ).1}) hd rfl q (by rw[h1];decide) j.1 j.2,h2]
   have b6:=pI (t:=f) (.inl D.2.1);refine⟨?_,hc,?_⟩
   ·unfold XD;rw[l];dsimp only;rw[JF b6];exact b1.eqv (Own.Eqv.YC _).symm
   rw[l];exact⟨b2,EH D.2.2 b6 (fun _ e=>by rw[D.2.1]at e;cases e),D.1⟩
  ·have h1:f.done=true:=h1;rw[D.1]at h1;cases h1
  have h1:f.done=true:=h1;rw[D.1]at h1;cases h1
 have G:r.done=true:=by simpa using n
 by_cases C:f.done=false
 ·rw[iT hd y q n C];have j:t.undo=none/\t.com=none:=by
   constructor
   ·cases hu:t.undo with
    |none=>rfl
    |some u=>obtain⟨Z,N,_,_,a1,E⟩:=L.mid hd (.inl (by rw[hu];simp));rw[q]at a1;injection a1 with a1;subst a1;rw[C]at E;cases E
   cases hu:t.com with
   |none=>rfl
   |some u=>obtain⟨Z,N,_,_,a1,E⟩:=L.mid hd (.inr (by rw[hu];simp));rw[q]at a1;injection a1 with a1;subst a1;rw[C]at E;cases E
  cases hgot:r.got with
  |none=>
   exfalso;have U:t.ph= .dead:=by rw[mI hd y q n j.1 j.2,hgot]
   rw[U]at hi;rw[hd]at hi;cases hi
  |some b=>
   have V:t.ph= .fre b f:=by rw[mI hd y q n j.1 j.2,hgot]
   unfold XD at H;rw[V]at H hi;have o:=uT hr hg b5 C H hi.2.1;have T:pG (feA s f σ).2 b:=fun hl p i h0 h1=>by have bb:σ.pg p= .held c:=(H.h p).2 (.inl (by unfold ED;rw[jP hl];exact .inl (show p=b.page by omega)));exact(o.sl p i bb).trans (hi.1 hl p i h0 h1)
   have F:=(IG X hr.may b9 hgot).1;have fin:∀ t':Rr,RrAt s c (feA s f σ).2 t'->t'.free=some (feA s f σ).1->t'.done=false->FM s c σ t (t',(feA s f σ).2):=fun t' h1 h2 h3=>by
    have S:bC t=f.gave:=by unfold bC;rw[q]
    have I:bC t'=(feA s f σ).1.gave:=by unfold bC;rw[h2]
    refine⟨o.kept,h1,fun N e a b=>⟨?_,h3⟩,fun a=>(by rw[h3]at a;cases a),fun a _=>o.chg.2 ?_⟩
    ·rw[q]at e;injection e with e;subst e;exact⟨(o.chg.1 (S ▸ a) (I ▸ b)).1,(o.chg.1 (S ▸ a) (I ▸ b)).2.2,C⟩
    rw[S,I]at a;exact a
   have b3:(feA s f σ).1.done=true->qA (feA s f σ).2 c (ED b):=fun e=>by have:=o.ex;rw[JF (eG e)]at this;exact this.eqv (Own.Eqv.YC _)
   rcases IF s {t with free:=some (feA s f σ).1} r (feA s f σ).1 y rfl with⟨h1,_⟩|⟨_,h1,_⟩|⟨_,_,h1,e⟩|⟨_,_,h1,h2,e⟩|⟨b',_,_,h1,h2,h3,e⟩|⟨b',_,_,_,h2,_,_,h1,h3,e⟩|⟨b',_,_,_,h2,_,_,h1,h3,e⟩
   ·have h1:BD t.undo=true:=h1;rw[j.1]at h1;cases h1
   ·have h1:pF t.com=true:=h1;rw[j.2]at h1;cases h1
   ·rw[G]at h1;cases h1
   ·rw[hgot]at h2;cases h2
   ·rw[e];have b4:(feA s f σ).1.done=false:=by
     rcases h3 with h3|h3|h3
     ·exact absurd j.1 h3
     ·exact absurd j.2 h3.2
     exact h3.2.2
    have l:({t with free:=some (feA s f σ).1}:Rr).ph= .fre b (feA s f σ).1:=by rw[mI (t:= {t with free:=some (feA s f σ).1}) hd y rfl n j.1 j.2,hgot]
    refine fin _ ⟨?_,hc,?_⟩ rfl hd
    ·unfold XD;rw[l];exact o.ex
    rw[l];exact⟨T,o.inv,b4⟩
   ·rw[e];rw[hgot]at h2;injection h2 with h2;subst h2;have b8:(qB s t.c b).done=false:=by rw[hc];simp[qB,F]
    have l:({t with free:=some (feA s f σ).1,com:=some (qB s t.c b)}:Rr).ph= .com (qB s t.c b):=xX (t:= {t with free:=some (feA s f σ).1,com:=some (qB s t.c b)}) hd y rfl n j.1 rfl;refine fin _ ⟨?_,hc,?_⟩ rfl hd
    ·unfold XD;rw[l];exact b3 h1
    rw[l];exact⟨T,b8⟩
   rw[e];rw[hgot]at h2;injection h2 with h2;subst h2;have Y:=z6k (s:=s) F (b3 h1) T;have l:({t with free:=some (feA s f σ).1,undo:=some (MC s t.c b)}:Rr).ph= .und (MC s t.c b):=DL (t:= {t with free:=some (feA s f σ).1,undo:=some (MC s t.c b)}) hd y rfl n rfl;rw[hc]at l ⊢;refine fin _ ⟨?_,rfl,?_⟩ rfl hd
   ·unfold XD;rw[l];exact Y.1.ex
   rw[l];exact⟨Y.1,Y.2,fun Z M=>by rw[y]at M;injection M with M;subst M;rw[hgot];simp⟩
 have same:∀ t':Rr,t'.free=t.free->bC t'=bC t:=fun t' h=>by unfold bC;rw[h]
 cases hu:t.undo with
 |some u=>
  rw[VS hd y q n C hu];have V:t.ph= .und u:=DL hd y q n hu;rw[V]at hi;obtain⟨i1,i2,i3⟩:=hi;obtain⟨S,I,g3,g4⟩:=SX hg (o3 u hu) i2 i1;have ba:t.com=none:=by
   rcases o5 with e|e
   ·rw[hu]at e;cases e
   exact e
  have fin:∀ t':Rr,RrAt s c (unA u σ).2 t'->t'.free=t.free->¬ (t'.done=true/\t'.err=0)->FM s c σ t (t',(unA u σ).2):=fun t' h1 h2 h3=>⟨S,h1,fun N _ a b=>(by rw[same t' h2,a]at b;cases b),fun a b=>absurd ⟨a,b⟩ h3,fun _ _=>g3⟩
  rcases IF s {t with undo:=some (unA u σ).1} r f y q with⟨h1,e⟩|⟨_,h1,_⟩|⟨_,_,h1,e⟩|⟨_,_,h1,h2,e⟩|⟨b',h0,_,h1,h2,h3,e⟩|⟨b',_,_,_,h2,h1,_,_,h3,e⟩|⟨b',_,_,_,h2,h1,_,_,h3,e⟩
  ·rw[e];have z:(unA u σ).1.done=true:=h1;have:=I.ex;unfold LG at this;rw[jP z]at this;exact fin _ (xJ rfl hc this) rfl (fun h=>by have:=h.2;dsimp only at this;omega)
  ·have h1:pF t.com=true:=h1;rw[ba]at h1;cases h1
  ·rw[G]at h1;cases h1
  ·exact absurd h2 (i3 r y)
  ·rw[e];have z:(unA u σ).1.done=false:=h0;have l:({t with undo:=some (unA u σ).1}:Rr).ph= .und (unA u σ).1:=DL (t:= {t with undo:=some (unA u σ).1}) hd y q n rfl;refine fin _ ⟨?_,hc,?_⟩ rfl (fun h=>by have:=h.1;rw[show ({t with undo:=some (unA u σ).1}:Rr).done=t.done from rfl,hd]at this;cases this)
   ·unfold XD;rw[l];exact I.ex
   rw[l];exact⟨I,z,i3⟩
  ·cases h1
  cases h1
 |none=>
  cases hcm:t.com with
  |none=>
   exfalso
   rcases o6 G (by simpa using C) with e|e
   ·exact e hu
   ·exact e hcm
  |some u=>
   rw[IX hd y q n C hu hcm]
   have V:t.ph= .com u:=xX hd y q n hu hcm
   unfold XD at H
   rw[V]at H hi
   have b0:=L.cm u hcm
   obtain⟨S,I,g3,g4⟩:=HS hg (b0.2 hd).1 (b0.2 hd).2 H hi.1
   have z:(cmA u σ).1.done=true:=by rw[g4]
   obtain⟨Z,N,a1,E,a3,a4⟩:=L.gv u hcm
   rcases IF s {t with com:=some (cmA u σ).1} r f y q with⟨h1,e⟩|⟨_,h1,e⟩|⟨_,h1,_⟩|⟨_,h1,_⟩|⟨b',_,h1,_⟩|⟨b',_,h1,_⟩|⟨b',_,h1,_⟩
   ·have h1:BD t.undo=true:=h1
    rw[hu]at h1;cases h1
   ·rw[e]
    refine⟨S,xJ rfl hc I,fun N _ a b=>?_,fun _ _=>⟨Z,u.b,a1,E,g3⟩,fun _ h=>absurd ⟨rfl,rfl⟩ h⟩
    have:bC {t with com:=some (cmA u σ).1,err:=0,done:=true}=bC t:=same _ rfl
    rw[this,a]at b;cases b
   ·have h1:(cmA u σ).1.done=false:=h1
    rw[z]at h1;cases h1
   ·have h1:(cmA u σ).1.done=false:=h1
    rw[z]at h1;cases h1
   ·have h1:(cmA u σ).1.done=false:=h1
    rw[z]at h1;cases h1
   ·have h1:(cmA u σ).1.done=false:=h1
    rw[z]at h1;cases h1
   ·have h1:(cmA u σ).1.done=false:=h1
    rw[z]at h1;cases h1
end

section

variable {s:Sh} {σ σ':Ab} {c:Int}

structure SH (s:Sh) (σ:Ab) (c:Int) (t:Ad):Prop where
 cl:t.c=c
 n1:t.done=false->t.next=1->t.was=(TW.owned t.who).enc/\(TW.owned t.who).fit s/\σ.st t.who≠ .unused
 n2:t.done=false->t.next=2->t.was=TW.dead.enc\/∃ o,t.was=(TW.owned o).enc/\(TW.owned o).fit s/\σ.st o≠ .unused/\σ.st o≠ .live
 n3:t.done=false->3<=t.next->σ.st t.d= .owned c/\AdD s σ t
 ne:t.done=false->t.d≠c
 a0:t.next<=2->t.at'=0
def JbAt (s:Sh) (c:Int) (σ:Ab):Jb->Prop
 | .mal r none=> RsAt s c σ r
 | .mal _ (some _)=> qA σ c .no
 | .fre f=> qA σ c (WD f)/\oH s c σ .no f
 | .aga r=> RrAt s c σ r
 | .hei a=> qA σ c .no/\SH s σ c a
theorem sY{j:Jb}(b:jbIs s c j)(hd:j.done=true)(h:JbAt s c σ j):qA σ c .no:=by
 cases j with
 |mal r x=>
  rcases x with _|x
  ·have hd:(r.done&&(!r.got.isSome||false))=true:=hd;rw[jC]at hd;refine(tI b.1 hd.1 h).1 ?_;have:=hd.2;cases hg:r.got
   ·rfl
   rw[hg]at this;cases this
  exact h
 |fre f=>have:=h.1;rw[JF (eG hd)]at this;exact this
 |aga r=>
  have hd:r.done=true:=hd;have i:r.ph= .dead:=by unfold Rr.ph;rw[jP hd]
  have:=h.ex;unfold XD at this;rw[i]at this;exact this
 |hei a=>exact h.1
def Jb.fe:Jb->Option Fe
 | .fre f=> some f
 | .aga r=> r.free
 | _=> none
structure iZ (s:Sh) (c:Int) (σ:Ab) (j:Jb) (r:Jb × Ab):Prop where
 kept:Kept s c σ r.2
 at':JbAt s c r.2 r.1
 gave:j.gave=false->r.1.gave=true->(∃ f,j.fe=some f/\nH (feBl f) σ r.2/\f.next=1/\f.done=false)/\r.1.done=false
 took:∀ b,r.1.took=some b->Plus (jD b) σ r.2
 calm:(j.gave=true\/r.1.gave=false)->r.1.took=none->Calm σ r.2
theorem tQ{m:Mem}{j:Jb}(D:Rep s m σ)(C:GI s σ)(y:jbIs s c j)(z:0<=c/\c<s.c)(hd:j.done=false)(h:JbAt s c σ j)(U:∀ a,j≠ .hei a):iZ s c σ j (j.QC s c σ):=by
 cases j with
 |mal r x=>
  unfold Jb.QC;dsimp only;rcases x with _|x
  ·by_cases o:r.done=false
   ·rw[jP o];have i:=SS D C y.1 o h;exact⟨i.kept,i.at',fun _ e=>(by cases e),fun b e=>(by cases e),fun _ _=>i.calm⟩
   rw[jN o];have p:r.done=true:=by simpa using o
   have hd':(r.done&&(!r.got.isSome||IC none))=false:=hd;rw[p,Bool.true_and,Bool.or_eq_false_iff]at hd';cases hgot:r.got with
   |none=>rw[hgot]at hd';cases hd'.1;|some b=>
    have V:TF s c r none=some (qB s c b):=by unfold TF;rw[hgot]
    rw[V];dsimp only;have q:=(IG y.1 D.may z hgot).1;obtain⟨M,N⟩:=(tI y.1 p h).2 b hgot;obtain⟨O,S,T,I⟩:=HS (t:=qB s c b) C (by simp[qB,q]) q M N;refine⟨O,S,fun _ e=>(by cases e),fun E e=>?_,fun _ e=>?_⟩
    ·have e:(if IC (some (cmA (qB s c b) σ).1)=true then r.got else none)=some E:=e;rw[jP (by show (cmA (qB s c b) σ).1.done=true;rw[I]),hgot]at e;injection e with e;subst e;exact T
    have e:(if IC (some (cmA (qB s c b) σ).1)=true then r.got else none)=none:=e;rw[jP (by show (cmA (qB s c b) σ).1.done=true;rw[I]),hgot]at e;cases e
  exfalso;have L:=y.2 x rfl;have:(Jb.mal r (some x)).done=true:=by show (r.done&&(!r.got.isSome||x.done))=true;rw[L.2.1,L.2.2.1];simp
  rw[this]at hd;cases hd
 |fre f=>have i:=uT D C y hd h.1.YC h.2;exact⟨i.kept,⟨i.ex.MJ,i.inv⟩,fun l n=>⟨⟨f,rfl,(i.chg.1 l n).1,(i.chg.1 l n).2.2,hd⟩,(i.chg.1 l n).2.1⟩,fun b e=>(by cases e),fun e _=>i.chg.2 e⟩
 |aga r=>
  have i:=RY D C y z hd h;have X:∀ b,(Jb.aga (rrA s r σ).1).took=some b->Plus (jD b) σ (rrA s r σ).2:=fun b e=>by
   have e:(if (rrA s r σ).1.done=true/\(rrA s r σ).1.err=0 then(match (rrA s r σ).1.res with|some x=>x.got|none=>none) else none)=some b:=e;split at e
   ·rename_i hc;obtain⟨x,E,l,n,H⟩:=i.took hc.1 hc.2;rw[l]at e;dsimp only at e;rw[n]at e;injection e with e;subst e;exact H
   cases e
  refine⟨i.kept,i.at',fun l n=>?_,X,fun l n=>i.calm l fun hc=>?_⟩
  ·have l:bC r=false:=l;cases q:r.free with
   |none=>obtain⟨_,f,_,G,_⟩:=y.ok.cl hd;rw[q]at G;cases G
   |some f=>exact⟨⟨f,q,(i.gave f q l n).1⟩,(i.gave f q l n).2⟩
  obtain⟨x,E,l,F,H⟩:=i.took hc.1 hc.2;have e:(if (rrA s r σ).1.done=true/\(rrA s r σ).1.err=0 then(match (rrA s r σ).1.res with|some x=>x.got|none=>none) else none)=none:=n;rw[jP hc,l]at e;dsimp only at e;rw[F]at e;cases e
 |hei a=>exact absurd rfl (U a)
theorem z8k(hs:mayB s.p s.c s.m=true)(i:qA σ c .no)(k f:Int):qA σ c (fC s (qD s c k f))/\UD s c σ (qD s c k f):=by
 unfold qD;split
 ·rename_i h;have h1:=lD h.1;have h2:=LA.1 hs;have h3:=ME h.2.2
  have j:skOk s ⟨c,k,f,some (.tk (bD s c k)),0,0,0,false,false⟩:=⟨fun _=>⟨by dsimp only;omega,h.2.1,by dsimp only;omega,by dsimp only;omega,fun x b=>by
   injection b with b;subst b;exact⟨EL _ _ _,rfl⟩⟩,fun e=>(by cases e)⟩
  have:=qU (σ:=σ) (c:=c) hs 5 j i.YC ⟨rfl,fun e=>(by cases e),fun _ x b=>by injection b with b;subst b;exact⟨⟨rfl,fun e=>(by cases e)⟩,trivial⟩⟩;exact⟨this.1.MJ,this.2⟩
 exact⟨i,⟨rfl,fun _ _=>rfl,fun _ x b=>by cases b⟩⟩
theorem z7a(f:qA σ c .no)(n:Int):RnIn c σ (UC s c n):=by
 rcases jB (UC s c n).done with e|e
 ·have b:(UC s c n).ph= .dead:=by unfold Rn.ph;rw[jN (fun x:(UC s c n).found=true=>Bool.noConfusion x),jP e]
  refine⟨?_,rfl,?_⟩
  ·unfold NC;rw[b];exact f
  rw[b];trivial
 have b:(UC s c n).ph= .look:=by unfold Rn.ph;rw[jN (fun x:(UC s c n).found=true=>Bool.noConfusion x),jN (by rw[e];decide)];rfl
 exact mL b rfl (f.eqv (Own.OO (by show (0:Int)<=0;omega)).symm) (fun p i h0 h1=>by have h0:0<=p:=h0;have h1:p<0:=h1;omega)
theorem rX(hs:mayB s.p s.c s.m=true)(b:qA σ c .no)(n f:Int):RsAt s c σ (CB s c n f):=by
 unfold CB;split
 ·have:=z8k hs b (BB n) f;exact⟨this.1,this.2⟩
 split
 ·have:=z7a (s:=s) b (runV n);exact⟨this.1,this.2⟩
 exact⟨b,trivial⟩
theorem z7w(hs:mayB s.p s.c s.m=true)(hc:0<=c/\c<s.c)(y:qA σ c .no)(a n f:Int):RrAt s c σ (gD s c a n f):=by
 unfold gD;split
 ·rename_i h;have q:=rX hs y n f;have z:=(gO (s:=s) c n f hs).1;have i:=HU (c:=c) hs hc h.1;have res:∀ t:Rr,t.c=c->t.done=false->t.res=some (CB s c n f)->t.free=some (nB s c a)->(CB s c n f).done=false->RrAt s c σ t:=fun t E F G r H=>by
   have l:t.ph= .res (CB s c n f):=by unfold Rr.ph;rw[jN (by rw[F];decide),G,r];dsimp only;rw[jP H]
   refine⟨?_,E,?_⟩
   ·unfold XD;rw[l];exact q.ex
   rw[l];exact⟨q.inv,fun I o=>by rw[r]at o;injection o with o;subst o;exact i⟩
  rcases IF s ⟨c,some (CB s c n f),some (nB s c a),none,none,0,false⟩ (CB s c n f) (nB s c a) rfl rfl with⟨h1,_⟩|⟨_,h1,_⟩|⟨_,_,h1,e⟩|⟨_,_,h1,h2,e⟩|⟨b,_,_,h1,h2,h3,e⟩|⟨b,_,_,_,_,_,_,h1,_,e⟩|⟨b,_,_,_,_,_,_,h1,_,e⟩
  ·cases h1
  ·cases h1
  ·rw[e];exact res _ rfl rfl rfl rfl h1
  ·rw[e];exact xJ rfl rfl ((tI z h1 q).1 h2)
  ·rw[e];obtain⟨C,D⟩:=(tI z h1 q).2 b h2;have l:(⟨c,some (CB s c n f),some (nB s c a),none,none,0,false⟩:Rr).ph= .fre b (nB s c a):=by unfold Rr.ph;dsimp only;rw[jN (by decide),jN (by rw[h1];decide),h2]
   have j:=pI (t:=nB s c a) (.inl i.2.1);refine⟨?_,rfl,?_⟩
   ·unfold XD;rw[l];dsimp only;rw[JF j];exact C.eqv (Own.Eqv.YC _).symm
   rw[l];exact⟨D,EH i.2.2 j (fun _ e=>by rw[i.2.1]at e;cases e),i.1⟩
  ·have h1:(nB s c a).done=true:=h1;rw[i.1]at h1;cases h1
  have h1:(nB s c a).done=true:=h1;rw[i.1]at h1;cases h1
 exact xJ rfl rfl y
theorem z5b(hs:mayB s.p s.c s.m=true)(hc:0<=c/\c<s.c)(i:qA σ c .no)(f k a n:Int):JbAt s c σ (iC s c f k a n):=by
 unfold iC;split
 ·exact rX hs i n f
 split
 ·have b:(nB s c a).ph= .idle:=pI (.inl rfl);exact⟨by rw[JF b];exact i,EH rfl b (fun _ e=>by cases e)⟩
 split
 ·exact z7w hs hc i a n f
 refine⟨i,?_⟩;unfold iD;dsimp only;split
 ·exact⟨rfl,fun e=>(by cases e),fun e=>(by cases e),fun e=>(by cases e),fun e=>(by cases e),fun _=>rfl⟩
 rename_i h;exact⟨rfl,fun _ e=>(by cases e),fun _ e=>(by cases e),fun _ e=>by exfalso;have e:(3:Int)<=0:=e;omega,fun _ e=>h (.inr (.inr e.symm)),fun _=>rfl⟩
structure Later (σ σ':Ab):Prop where
 un:∀ x,σ.st x≠ .unused->σ'.st x≠ .unused
 lv:∀ x,σ.st x≠ .unused->σ.st x≠ .live->σ'.st x≠ .live
theorem Later.KE(h:∀ x,σ'.st x=σ.st x):Later σ σ':=⟨fun x e=>by rw[h];exact e,fun x _ e=>by rw[h];exact e⟩
theorem SH.same{t:Ad}(n:adOk s t)(h:SH s σ c t)(l:Later σ σ')(h3:t.done=false->3<=t.next->σ'.st t.d= .owned c/\Same t.d σ σ'):SH s σ' c t:=by
 refine⟨h.cl,fun a b=>?_,fun a b=>?_,fun a b=>⟨(h3 a b).1,AdD.same ⟨b,(n.cl a).2.2.2.1.2⟩ (h.n3 a b).2 (h3 a b).2⟩,h.ne,h.a0⟩
 ·obtain⟨i,j,f⟩:=h.n1 a b;exact⟨i,j,l.un _ f⟩
 rcases h.n2 a b with e|⟨o,i,j,f,m⟩
 ·exact .inl e
 exact .inr ⟨o,i,j,l.un _ f,l.lv _ f m⟩
theorem JbAt.same{j:Jb}(b:jbIs s c j)(h:JbAt s c σ j)(hs:Same c σ σ')(i:Later σ σ')(h3:∀ t,j= .hei t->t.done=false->3<=t.next->σ'.st t.d= .owned c/\Same t.d σ σ'):JbAt s c σ' j:=by
 cases j with
 |mal r x=>
  rcases x with _|x
  ·exact RsAt.same h hs
  exact qA.same h hs
 |fre f=>exact⟨h.1.same hs,h.2.same h.1.YC hs⟩
 |aga r=>exact RrAt.same h hs
 |hei a=>exact⟨h.1.same hs,h.2.same b.1 i (h3 a rfl)⟩
end

section

open Go.RowKit

def rpC (p:Pt):List Value:= [.bool p.was,.bool p.lives,.bool p.asks,.bool p.took,.bool p.gave,.bool p.ab,.int .i64 p.k,.int .i64 p.a,.int .i64 p.n,.int .i64 p.at']
theorem WN(p:Pt):(rpC p).length=10:=rfl
def rpsC (ps:List Pt):List Value:=ps.flatMap rpC
theorem UR(ps:List Pt):(rpsC ps).length=ps.length*10:=RL rpC 10 WN ps
theorem CR(a b:List Pt):rpsC (a++b)=rpsC a++rpsC b:=by simp[rpsC]
theorem PR(ps:List Pt)(i j:Nat)(hi:i<ps.length)(b:j<10):(rpsC ps)[i*10+j]?=(rpC ps[i])[j]?:=NJ rpC 10 WN ps i j hi b
theorem ypq(ps:List Pt)(i j:Nat)(v:Value)(q:Pt)(hi:i<ps.length)(b:j<10)(l:(rpC ps[i]).set j v=rpC q):(rpsC ps).set (i*10+j) v=rpsC (ps.set i q):=by
 have e:ps=ps.take i++ps[i]::ps.drop (i+1):=by rw[List.getElem_cons_drop,List.take_append_drop]
 have f:(ps.take i).length=i:=by rw[List.length_take];omega
 have m:ps.set i q=ps.take i++q::ps.drop (i+1):=by rw[List.set_eq_take_append_cons_drop,jP hi]
 have h1:rpsC ps=rpsC (ps.take i)++(rpC ps[i]++rpsC (ps.drop (i+1))):=by
  conv=>lhs;rw[e]
  rw[CR];rfl
 have h2:rpsC (ps.set i q)=rpsC (ps.take i)++(rpC q++rpsC (ps.drop (i+1))):=by rw[m,CR];rfl
 have h3:(rpsC (ps.take i)).length=i*10:=by rw[UR,f]
 rw[h1,h2,List.set_append_right _ _ (by omega),h3,Nat.add_sub_cancel_left,List.set_append_left _ _ (by rw[WN];exact b),l]
def RrP (w:World) (pb:Nat) (ps:List Pt):Prop:=w.heap[pb]?=some (.cells (rpsC ps).toArray 146 (0,0))
section

variable {w w':World} {pb:Nat} {ps:List Pt}

theorem RrP.lt(h:RrP w pb ps):pb<w.heap.size:=(jE h)
theorem RrP.of_block(h:RrP w pb ps)(hb:w'.heap[pb]?=w.heap[pb]?):RrP w' pb ps:=hb.trans h
theorem RrP.cell(h:RrP w pb ps)(i j:Nat)(hi:i<ps.length)(b:j<10):w.cell? ⟨pb,i*10+j,.none⟩=(rpC ps[i])[j]?:=by
 rw[iA h,List.getElem?_toArray];exact PR ps i j hi b
theorem RrP.fr(h:RrP w pb ps)(j:Nat):w.frozen? ⟨pb,j,.none⟩=false:=DA h j
theorem RrP.set(h:RrP w pb ps)(i j:Nat)(v:Value)(q:Pt)(hi:i<ps.length)(b:j<10)(f:(rpC ps[i]).set j v=rpC q):RrP (w.setCell ⟨pb,i*10+j,.none⟩ v) pb (ps.set i q):=by
 unfold RrP at *;rw[heap_setCell_same w pb _ _ _ _ h,List.setIfInBounds_toArray,ypq ps i j v q hi b f]
end

structure RpAt (w:World) (b o:Nat) (p:Pt):Prop where
 lt:b < w.heap.size
 c0:w.cell? ⟨b,o,.none⟩=some (.bool p.was)
 c1:w.cell? ⟨b,o + 1,.none⟩=some (.bool p.lives)
 c2:w.cell? ⟨b,o + 2,.none⟩=some (.bool p.asks)
 c3:w.cell? ⟨b,o + 3,.none⟩=some (.bool p.took)
 c4:w.cell? ⟨b,o + 4,.none⟩=some (.bool p.gave)
 c5:w.cell? ⟨b,o + 5,.none⟩=some (.bool p.ab)
 c6:w.cell? ⟨b,o + 6,.none⟩=some (.int .i64 p.k)
 c7:w.cell? ⟨b,o + 7,.none⟩=some (.int .i64 p.a)
 c8:w.cell? ⟨b,o + 8,.none⟩=some (.int .i64 p.n)
 c9:w.cell? ⟨b,o + 9,.none⟩=some (.int .i64 p.at')
 fr:∀ j,w.frozen? ⟨b,j,.none⟩=false
theorem RrP.pt{w:World}{pb:Nat}{ps:List Pt}(h:RrP w pb ps)(i:Nat)(hi:i<ps.length){p:Pt}(b:ps[i]=p):RpAt w pb (i*10) p:=by
 subst b;exact⟨h.lt,h.cell i 0 hi (by omega),h.cell i 1 hi (by omega),h.cell i 2 hi (by omega),h.cell i 3 hi (by omega),h.cell i 4 hi (by omega),h.cell i 5 hi (by omega),h.cell i 6 hi (by omega),h.cell i 7 hi (by omega),h.cell i 8 hi (by omega),h.cell i 9 hi (by omega),h.fr⟩
theorem RpAt.below{w w':World}{b o:Nat}{p:Pt}(h:RpAt w b o p)(hb:Below w.heap.size w w'):RpAt w' b o p:=
 ⟨Nat.lt_of_lt_of_le h.lt hb.size,kA hb _ _ _ h.c0,kA hb _ _ _ h.c1,kA hb _ _ _ h.c2,kA hb _ _ _ h.c3,kA hb _ _ _ h.c4,kA hb _ _ _ h.c5,kA hb _ _ _ h.c6,kA hb _ _ _ h.c7,kA hb _ _ _ h.c8,kA hb _ _ _ h.c9,fun j=>(hb.frozen (p:=⟨b,j,.none⟩) h.lt).trans (h.fr j)⟩
def atR (b:Nat):Nat->Prop:=fun k=> k=b
theorem RrP.put{w X:World}{pb i:Nat}{ps:List Pt}{q q':Pt}(hi:i<ps.length)(j:Nat)(v:Value)(h1:Only (atR pb) w X)(h2:RrP X pb (ps.set i q))(h4:(rpC q).set j v=rpC q')(b:j<10):Only (atR pb) w (X.setCell ⟨pb,i*10+j,.none⟩ v)/\RrP (X.setCell ⟨pb,i*10+j,.none⟩ v) pb (ps.set i q'):=by
 refine⟨h1.setCell (p:=⟨pb,i*10+j,.none⟩) (.inl rfl) v,?_⟩;have:=h2.set i j v q' (by rw[List.length_set];exact hi) b (by rw[List.getElem_set_self];exact h4);rwa [List.set_set]at this
def rvV (pb n:Nat):Value:= .slice (some ⟨pb,0,.none⟩) n n
structure JrA (B:Nat) (w:World) (jb s pb:Nat) (sl:Value) (J:Jd):Prop where
 head:w.heap[jb]?=some (.cells #[some s,rvV pb J.ps.length,J.m,J.at',J.why] 92 (0,0))
 model:RM B w s sl J.W J.l
 row:RrP w pb J.ps
 lies:B<=jb/\B<=pb
 apart:jb≠s/\pb≠s/\pb≠jb/\sl.ownBlock≠some jb/\sl.ownBlock≠some pb
def SG (jb s pb:Nat) (sl:Value):Nat->Prop:=fun k=> k=jb\/k=pb\/foot s sl k
section

variable {B:Nat} {w w':World} {jb s pb:Nat} {sl sl':Value} {J:Jd}

theorem JrA.lt(h:JrA B w jb s pb sl J):jb<w.heap.size:=(jE h.head)
theorem JrA.below(h:JrA B w jb s pb sl J)(hb:Below w.heap.size w w'):JrA B w' jb s pb sl J:=
 ⟨(hb.block _ h.lt).trans h.head,h.model.below hb,h.row.of_block (hb.block _ h.row.lt),h.lies,h.apart⟩
theorem JrA.h0(h:JrA B w jb s pb sl J):w.cell? ⟨jb,0,.none⟩=some (.pointer (some ⟨s,0,.none⟩)):=iA h.head 0
theorem JrA.h1(h:JrA B w jb s pb sl J):w.cell? ⟨jb,1,.none⟩=some (rvV pb J.ps.length):=iA h.head 1
theorem JrA.h2(h:JrA B w jb s pb sl J):w.cell? ⟨jb,2,.none⟩=some (.int .i64 J.m):=iA h.head 2
theorem JrA.h3(h:JrA B w jb s pb sl J):w.cell? ⟨jb,3,.none⟩=some (.int .i64 J.at'):=iA h.head 3
theorem JrA.h4(h:JrA B w jb s pb sl J):w.cell? ⟨jb,4,.none⟩=some (.int .i64 J.why):=iA h.head 4
theorem JrA.fr(h:JrA B w jb s pb sl J)(i:Nat):w.frozen? ⟨jb,i,.none⟩=false:=DA h.head i
theorem JrA.yp6(h:JrA B w jb s pb sl J):∀ k,SG jb s pb sl k->B<=k/\k<w.heap.size:=by
 rintro k (rfl|rfl|rfl|e)
 ·exact⟨h.lies.1,h.lt⟩
 ·exact⟨h.lies.2,h.row.lt⟩
 ·exact⟨h.model.lies,h.model.lt⟩
 exact h.model.owns.lt k e
theorem JrA.blocks(h:JrA B w jb s pb sl J)(hb:∀ k,SG jb s pb sl k->w'.heap[k]?=w.heap[k]?):JrA B w' jb s pb sl J:=
 ⟨(hb _ (.inl rfl)).trans h.head,h.model.blocks fun k b=>hb k (.inr (.inr b)),h.row.of_block (hb _ (.inr (.inl rfl))),h.lies,h.apart⟩
theorem JrA.setM(h:JrA B w jb s pb sl J){l':List Bk}(q:RM B w' s sl' J.W l')(j:Only (foot s sl) w w')(f:∀ k,foot s sl' k->foot s sl k\/w.heap.size<=k):JrA B w' jb s pb sl' {J with l:=l'}:=by
 obtain⟨a1,b,n,o,p⟩:=h.apart;have i:¬ foot s sl jb:=by rintro(e|e);exact a1 e;exact o e
 have m:¬ foot s sl pb:=by rintro(e|e);exact b e;exact p e
 refine⟨(j.block _ h.lt i).trans h.head,q,h.row.of_block (j.block _ h.row.lt m),h.lies,a1,b,n,fun e=>?_,fun e=>?_⟩
 ·rcases f jb (.inr e) with h1|h1
  ·exact i h1
  have:=h.lt;omega
 rcases f pb (.inr e) with h1|h1
 ·exact m h1
 have:=h.row.lt;omega
theorem JrA.setP(h:JrA B w jb s pb sl J){qs:List Pt}(n:qs.length=J.ps.length)(o:RrP w' pb qs)(f:Only (atR pb) w w'):JrA B w' jb s pb sl {J with ps:=qs}:=by
 obtain⟨a1,j,l,p,m⟩:=h.apart;refine⟨?_,?_,o,h.lies,h.apart⟩
 ·show w'.heap[jb]?=_;rw[f.block _ h.lt (fun e=>l e.symm),h.head,n]
 have b:=h.model;exact⟨b.lies,(f.block _ b.lt (fun e=>j e.symm)).trans b.head,PB b.owns fun k i=>f.block _ (b.owns.lt k i).2 (fun e=>m (by rw[i,e])),b.apart,b.ok,b.small⟩
theorem JrA.setN(h:JrA B w jb s pb sl J)(m:Int):JrA B (w.setCell ⟨jb,2,.none⟩ (.int .i64 m)) jb s pb sl {J with m:=m}/\Only (atR jb) w (w.setCell ⟨jb,2,.none⟩ (.int .i64 m)):=by
 obtain⟨a1,n,j,l,o⟩:=h.apart;have f:Only (atR jb) w (w.setCell ⟨jb,2,.none⟩ (.int .i64 m)):=(Only.refl (atR jb) w).setCell (p:=⟨jb,2,.none⟩) (.inl (show atR jb jb from rfl)) _;refine⟨⟨by rw[heap_setCell_same w jb 2 _ _ _ h.head];rfl,?_,h.row.of_block (f.block _ h.row.lt (fun e=>j e)),h.lies,h.apart⟩,f⟩;have b:=h.model;exact⟨b.lies,(f.block _ b.lt (fun e=>a1 e.symm)).trans b.head,PB b.owns fun k i=>f.block _ (b.owns.lt k i).2 (fun e=>l (by rw[i,e])),b.apart,b.ok,b.small⟩
end

structure vC (B:Nat) (w w':World) (jb s pb:Nat) (sl:Value) (J':Jd):Prop where
 judge:∃ sl',JrA B w' jb s pb sl' J'/\(∀ k,sl'.ownBlock=some k->sl.ownBlock=some k\/w.heap.size<=k)
 only:Only (SG jb s pb sl) w w'
theorem vC.lower{B:Nat}{w W w':World}{jb s pb:Nat}{sl:Value}{J:Jd}(hb:Below w.heap.size w W)(i:vC B W w' jb s pb sl J):vC B w w' jb s pb sl J:=by
 obtain⟨⟨sl',b,f⟩,j⟩:=i;refine⟨⟨sl',b,fun k e=>?_⟩,(Only.of_below hb).trans j fun _ _ e=>e⟩;rcases f k e with h1|h1
 ·exact .inl h1
 exact .inr (by have:=hb.size;omega)
structure Fine (W:Int) (l:List Bk) (p:Pt) (e:Ev) (l':List Bk) (v:Pt):Prop where
 kinds:(e.k=0/\p.was=false/\l'=l/\v= { p with was:=true,lives:=true })\/
  (e.k=1/\p.lives=true/\(p.asks=true->p.took=false)/\l'=l/\v= { p with lives:=false,asks:=false })\/
  (e.k=2/\p.lives=true/\p.asks=false/\1<=e.ok/\e.ok<=4/\l'=l/\v=⟨true,true,true,e.ok,e.oa,e.on,false,false,0,false⟩)\/
  (e.k=3/\p.lives=true/\p.asks=true/\(p.k=1\/p.k≠1/\p.k=3/\p.gave=true)/\p.took=false/\lenB p.n=true/\lenV p.n=e.n/\iB W l e.at' e.n=true/\l'=putB l e.at' e.n/\v= { p with took:=true,at':=e.at' })\/
  (e.k=4/\p.lives=true/\p.asks=true/\(p.k=2\/p.k≠2/\p.k=3)/\p.gave=false/\e.at'=p.a/\OA e.at' l=true/\l'=UA l e.at'/\v= { p with gave:=true })\/
  (e.k=5/\p.lives=true/\p.asks=true/\WB p e=true/\l'=l/\v= { p with asks:=false })
theorem yp5{J:Jd}{e:Ev}(h:(whyJ J.W J.l J.ps e).c=0):∃ (i:Nat) (p v:Pt) (l':List Bk) (hi:i<J.ps.length),e.c=(i:Int)/\J.ps[i]=p/\Fine J.W J.l p e l' v/\(whyJ J.W J.l J.ps e).l=l'/\(whyJ J.W J.l J.ps e).ps=J.ps.set i v:=by
 unfold whyJ at h ⊢;split at h
 ·cases h
 rename_i hc;rw[jN hc];obtain⟨i,hi⟩:∃ i:Nat,e.c=(i:Int):=⟨e.c.toNat,by omega⟩;have o:i<J.ps.length:=by omega
 have y:e.c.toNat=i:=by omega
 have C:J.ps.getD i Pt.zero=J.ps[i]:=by rw[List.getD_eq_getElem?_getD,List.getElem?_eq_getElem o];rfl
 rw[y,C]at h ⊢;generalize I:J.ps[i]=p at *;have b:∀ (l':List Bk) (v:Pt),Fine J.W J.l p e l' v->∃ (i':Nat) (F v':Pt) (q:List Bk) (H:i'<J.ps.length),e.c=(i':Int)/\J.ps[i']=F/\Fine J.W J.l F e q v'/\l'=q/\J.ps.set i v=J.ps.set i' v':=fun l' v G=>⟨i,p,v,l',o,hi,I,G,rfl,rfl⟩;split at h
 ·rename_i h3;rw[jP h3];dsimp only at h ⊢;have hb:CC p e=if e.k=0 then {p with was:=true,lives:=true} else if e.k=1 then {p with lives:=false,asks:=false} else⟨true,true,true,e.ok,e.oa,e.on,false,false,0,false⟩:=by unfold CC;rw[jN (by omega)]
  rw[hb];unfold qC at h;by_cases h0:e.k=0
  ·rw[jP h0]at h ⊢;refine b _ _ ⟨.inl ⟨h0,?_,rfl,rfl⟩⟩;cases hw:p.was with
   |false=>rfl
   |true=>rw[hw]at h;cases h
  rw[jN h0]at h ⊢;by_cases h1:e.k=1
  ·rw[jP h1]at h ⊢;refine b _ _ ⟨.inr (.inl ⟨h1,?_,?_,rfl,rfl⟩)⟩
   ·cases hw:p.lives with
    |true=>rfl
    |false=>rw[hw]at h;cases h
   intro r;cases f:p.took with
   |false=>rfl
   |true=>
    cases hw:p.lives with
    |true=>rw[hw,jN (by decide),jP ⟨r,f⟩]at h;cases h
    |false=>rw[hw]at h;cases h
  rw[jN h1]at h ⊢;split at h
  ·cases h
  rename_i z;simp only[not_or,Bool.not_eq_false,Bool.not_eq_true]at z;exact b _ _ ⟨.inr (.inr (.inl ⟨by omega,z.1,z.2.1,by omega,by omega,rfl,rfl⟩))⟩
 rename_i h3;rw[jN h3];split at h
 ·cases h
 rename_i j;rw[jN j];simp only[not_or,Bool.not_eq_false]at j;by_cases h4:e.k=3
 ·rw[jP h4]at h ⊢;split at h
  ·rename_i f;rw[jP f];refine b _ _ ⟨.inr (.inr (.inr (.inl ?_)))⟩;unfold DC at f;split at f
   ·cases f
   rename_i hb;simp only[not_or,Bool.not_eq_false,Bool.not_eq_true,ne_eq,Decidable.not_not]at hb;obtain⟨k1,D,E,L⟩:=hb;split at f
   ·rename_i n;refine⟨h4,j.1,j.2,?_,D,E,L,n,rfl,rfl⟩;simp only[mayT,Bool.or_eq_true,decide_eq_true_eq,jC]at k1;by_cases m:p.k=1
    ·exact .inl m
    exact .inr ⟨m,by rcases k1 with k1|k1;exact absurd k1 m;exact k1⟩
   cases f
  rename_i f;exact absurd h f
 rw[jN h4]at h ⊢;by_cases t:e.k=4
 ·rw[jP t]at h ⊢;split at h
  ·rename_i f;rw[jP f];refine b _ _ ⟨.inr (.inr (.inr (.inr (.inl ?_))))⟩;unfold FC at f;split at f
   ·cases f
   rename_i hb;simp only[not_or,Bool.not_eq_false,Bool.not_eq_true,ne_eq,Decidable.not_not]at hb;obtain⟨k1,D,E⟩:=hb;split at f
   ·rename_i n;refine⟨t,j.1,j.2,?_,D,E,n,rfl,rfl⟩;simp only[mayG,Bool.or_eq_true,decide_eq_true_eq]at k1;by_cases m:p.k=2
    ·exact .inl m
    exact .inr ⟨m,by rcases k1 with k1|k1;exact absurd k1 m;exact k1⟩
   cases f
  rename_i f;exact absurd h f
 rw[jN t]at h ⊢;split at h
 ·rename_i r;rw[jP r];exact b _ _ ⟨.inr (.inr (.inr (.inr (.inr ⟨by omega,j.1,j.2,r,rfl,rfl⟩))))⟩
 cases h
end

end Go.Proofs.YtmmbicppdjgbmaaGreat
