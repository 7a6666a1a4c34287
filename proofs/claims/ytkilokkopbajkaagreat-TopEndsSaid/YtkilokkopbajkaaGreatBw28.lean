
import Derived.Test.YtkilokkopbajkaaGreatBw22

import Derived.Test.YtkilokkopbajkaaGreatBw27

set_option linter.all false
set_option maxHeartbeats 4000000
set_option maxRecDepth 100000
namespace Go.Proofs.YtkilokkopbajkaaGreat

open RowKit

attribute [local go_sem ↓] wp_at_zero wp_at_succ

section

variable {s:Sh}{σ σ':Ab}{c:Int}{R:Own}

theorem xA.zK{o:Own}(h:xA σ c (Own.no.add o)):xA σ c o:=h.eq (λ_=>(or_iff_right id).symm) (λ_ _=>(or_iff_right id).symm) (λ_ _ _=>(or_iff_right id).symm)
theorem xA.kD{o:Own}(h:xA σ c o):xA σ c (Own.no.add o):=h.eq (λ_=>or_iff_right id) (λ_ _=>or_iff_right id) (λ_ _ _=>or_iff_right id)
def MD (b:Blk):Own:=if b.large=true then (Own.page b.page).add (.bodies b.page (b.page+1) (b.page+b.pages)) else .way b.page b.slot b.k
def rD (b:Blk):Bl:=if b.large=true then .lar b.page b.pages else .sm b.page b.slot b.k
def CG (σ:Ab) (b:Blk):Prop:=b.large=true->LC σ b.page (b.page+1)
theorem CG.same{b:Blk}(i:∀p,(MD b).h p->σ.pg p=.held c)(h:CG σ b)(hs:Same c σ σ'):CG σ' b:=λf=>
 (h f).same (λp h0 h1=>i p (by unfold MD;rw[jP f];exact .inl (show p=b.page by omega))) hs
def HJ (s:Sh) (t:Rs):Own:=match t.seeker,t.runner with
 |some x,_=>lC s x
 |none,some x=>VC x
 |none,none=>.no
def CJ (s:Sh) (c:Int) (σ:Ab) (t:Rs):Prop:=match t.seeker,t.runner with
 |some x,_=>bE s c σ x
 |none,some x=>DK c σ x
 |none,none=>True
structure RsAt (s:Sh) (c:Int) (σ:Ab) (t:Rs):Prop where
 ex:xA σ c (HJ s t)
 inv:CJ s c σ t
theorem RsAt.same{t:Rs}(h:RsAt s c σ t)(hs:Same c σ σ'):RsAt s c σ' t:=by
 refine⟨h.ex.same hs,?_⟩;obtain⟨h1,h2⟩:=h;unfold CJ HJ at*;obtain⟨k,pg,sk,rn⟩:=t;rcases sk with _|x
 .rcases rn with _|y
  .trivial
  exact h2.same h1 hs
 exact h2.same h1.kD hs
structure SZ (s:Sh) (c:Int) (σ:Ab) (r:Rs×Ab):Prop where
 kept:Kept s c σ r.2
 at':RsAt s c r.2 r.1
 calm:Calm σ r.2
theorem DT{m:Mem}{t:Rs}(j:Rep s m σ)(i:GI s σ)(f:rsIs s c t)(hd:t.done=false)(h:RsAt s c σ t):SZ s c σ (rsA s t σ):=by
 obtain⟨h1,h2⟩:=h;unfold HJ CJ at*;obtain⟨k,pg,sk,rn⟩:=t;rcases sk with _|x
 .rcases rn with _|y
  .cases hd
  have b:=AZ j.may i (f.rn y rfl).ok hd ⟨h1,h2⟩;exact⟨b.kept,⟨b.at'.1,b.at'.2⟩,b.calm⟩
 have b:=qY j i (f.sk x rfl).1.ok (f.sk x rfl).2 hd h1.kD h2;exact⟨b.1.kept,⟨b.1.ex.zK,b.1.inv⟩,b.2⟩
theorem VI{t:Rs}(q:rsIs s c t)(hd:t.done=true)(h:RsAt s c σ t):(t.got=none->xA σ c .no)/\∀b,t.got=some b->xA σ c (MD b)/\CG σ b:=by
 obtain⟨h1,h2⟩:=h;unfold HJ CJ Rs.got at*;obtain⟨k,pg,sk,rn⟩:=t;rcases sk with _|x
 .rcases rn with _|y
  .exact⟨λ_=>h1,λb e=>(by cases e)⟩
  dsimp only at*;have o:y.done=true:=hd;unfold VC at h1;rcases jB y.found with f|f
  .rw[jP f];have j:y.ph=.found:=by unfold Rn.ph;rw[jP f]
   refine⟨λe=>(by cases e),λb e=>?_⟩;injection e with e;subst e;have l:y.pages=pg:=(q.rn y rfl).n;rw[j]at h1;have i:=h2.2;rw[j]at i;refine⟨h1.eqv ?_,λ_=>i⟩;unfold MD;dsimp only;rw[jP rfl,l];refine⟨λp=>?_,λp g=>?_,λ_ _ _=>?_⟩<;>simp only[Own.run,Own.add,Own.page,Own.bodies,Own.pages,or_false,false_or,iff_false,false_iff]<;>(try omega)
  rw[jN (by rw[f];decide)];have j:y.ph=.dead:=by unfold Rn.ph;rw[jN (by rw[f];decide),jP o]
  rw[j]at h1;exact⟨λ_=>h1,λb e=>(by cases e)⟩
 dsimp only at*;have m:x.done=true:=hd;rcases jB x.found with f|f
 .rw[jP f];refine⟨λe=>(by cases e),λb e=>?_⟩;injection e with e;subst e;have l:x.k=k:=(q.sk x rfl).1.k;have:lC s x=.way x.page x.slot x.k:=by unfold lC;rw[jP f]
  rw[this,l]at h1;exact⟨h1,λe=>(by cases e)⟩
 rw[jN (by rw[f];decide)];rw[WJ f (h2.dn m f)]at h1;exact⟨λ_=>h1,λb e=>(by cases e)⟩
theorem iT{t:Cm}(y:GI s σ)(hd:t.done=false)(B:t.b.fits s c=true)(f:xA σ c (MD t.b))(hi:CG σ t.b):Kept s c σ (cmA t σ).2/\xA (cmA t σ).2 c .no/\Plus (rD t.b) σ (cmA t σ).2/\(cmA t σ).1={t with done:=true}:=by
 obtain⟨_,hc,h3,h4,C⟩:=LE.1 B;unfold cmA;rw[jN (by rw[hd];decide)];unfold MD at f;unfold rD;by_cases p:t.b.large=true
 .rw[jP p]at f|-;rw[jP p];have z:=h4 p;have m:σ.pg t.b.page=.held c:=(f.h _).2 (.inl rfl);have l:∀i,σ.sl t.b.page i=.none:=λi=>hi p _ i (Int.le_refl _) (by omega);have hb:∀q,σ.pg q=.body t.b.page↔t.b.page+1<=q/\q<t.b.page+t.b.pages:=λq=>by have:=f.b q t.b.page;simp only[Own.add,Own.page,Own.bodies,false_or,true_and]at this;rw[<-this];exact⟨λe=>⟨e,m⟩,And.left⟩
  refine⟨zlp y m l z (λj h0 h1=>(hb _).2 (by omega)) (λq e=>((hb q).1 e).2),?_,z1n (λn e=>by rw[m]at e;cases e),rfl⟩;exact zkr (o:=.no) (f.eqv ⟨λ_=>or_congr (or_iff_right id).symm .rfl,λ_ _=>or_congr (or_iff_right id).symm .rfl,λ_ _ _=>or_congr (or_iff_right id).symm .rfl⟩) id (λ_=>id)
 rw[jN p]at f|-;rw[jN p];obtain⟨⟨b,m⟩,hs⟩:=(f.w _ _ _).2 (.inl ⟨rfl,rfl,rfl⟩);have r:=f.kD;exact⟨II y m hs (.inr rfl) (lI r m),PJ r (λ_=>id) m (.inr rfl),z1b (λn e=>by rw[hs]at e;cases e),rfl⟩
def XG (t:Un):Own:=if t.done=true then .no else if t.b.large=true then (Own.page t.b.page).add (.bodies t.b.page (t.b.page+1+t.i) (t.b.page+t.b.pages)) else .way t.b.page t.b.slot t.b.k
structure UnAt (s:Sh) (c:Int) (σ:Ab) (t:Un):Prop where
 ex:xA σ c (XG t)
 inv:t.done=false->CG σ t.b
theorem UnAt.same{t:Un}(h:UnAt s c σ t)(hs:Same c σ σ'):UnAt s c σ' t:=⟨h.ex.same hs,λhd=>by
 refine λf=>(h.inv hd f).same (λp h0 h1=>(h.ex.h p).2 ?_) hs
 unfold XG;rw[jN (by rw[hd];decide),jP f];exact .inl (show p=t.b.page by omega)⟩
theorem Own.zx9{h lo hi:Int}(b:lo<hi):((Own.bodies h (lo+1) hi).add (.bodies h lo (lo+1))).Eqv (.bodies h lo hi):=by
 refine⟨λp=>?_,λp g=>?_,λ_ _ _=>?_⟩<;>simp only[Own.add,Own.bodies,or_false,false_or,iff_false,false_iff]<;>(try omega)
theorem VV{P lo hi:Int}(m:GI s σ)(i:P+1<=lo/\lo<hi)(o:∀q,¬R.b q P)(j:xA σ c (R.add ((Own.page P).add (.bodies P lo hi)))):
  Kept s c σ (σ.page lo .empty)/\xA (σ.page lo .empty) c (R.add ((Own.page P).add (.bodies P (lo+1) hi)))/\Calm σ (σ.page lo .empty):=by
 have f:σ.pg lo=.body P/\σ.pg P=.held c:=(j.b lo P).2 (.inr (.inr ⟨rfl,Int.le_refl _,i.2⟩));have l:xA σ c ((R.add ((Own.page P).add (.bodies P (lo+1) hi))).add (.bodies P lo (lo+1))):=by refine j.eqv (.symm (.trans (.VG _ _ _) (.add R (.trans (.VG _ _ _) (.add _ (Own.zx9 i.2))))))
 refine⟨EU m f.1 f.2,zoe m l (λg e=>?_),xG (λn e=>by cases e) (λn e=>by rw[f.1]at e;cases e)⟩;rcases e with e|e|e
 .have h1:=(j.b lo g).2 (.inl e);have:g=P:=by have:=h1.1;rw[f.1]at this;injection this with this;exact this.symm
  subst this;exact o _ e
 .exact e
 have:=e.2.1;omega
theorem WV{P hi:Int}(t:GI s σ)(r:∀q,¬R.b q P)(j:¬R.h P)(hb:LC σ P (P+1))(l:xA σ c (R.add ((Own.page P).add (.bodies P hi hi)))):
  Kept s c σ (σ.page P .empty)/\xA (σ.page P .empty) c (R.add .no)/\Calm σ (σ.page P .empty):=by
 have o:σ.pg P=.held c:=(l.h P).2 (.inr (.inl rfl));have f:∀q,σ.pg q≠.body P:=λq e=>by
  rcases(l.b q P).1 ⟨e,o⟩ with e|e|e
  .exact r _ e
  .exact e
  have:=e.2;omega
 have m:xA σ c (R.add (.page P)):=l.eqv (.add R ⟨λ_=>or_iff_left id,λp g=>⟨λh=>h.elim id (λh=>by have h1:=h.2;omega),λh=>h.elim⟩,λ_ _ _=>or_iff_left id⟩);exact⟨iP t o (λi=>hb P i (Int.le_refl _) (by omega)) f,(vU m j f).eqv (Own.Eqv.kD R).symm,xG (λn e=>by cases e) (λn e=>by rw[o]at e;cases e)⟩
theorem wY{t:Un}(r:GI s σ)(B:unOk s t)(hd:t.done=false)(h:UnAt s c σ t):Kept s c σ (unA t σ).2/\UnAt s c (unA t σ).2 (unA t σ).1/\Calm σ (unA t σ).2/\(unA t σ).1.b=t.b:=by
 obtain⟨l,hi⟩:=h;obtain⟨k1,C⟩:=B.cl hd;obtain⟨_,_,h3,h4,D⟩:=LE.1 k1;unfold unA;rw[jN (by rw[hd];decide)];unfold XG at l;rw[jN (by rw[hd];decide)]at l;by_cases m:t.b.large=true
 .rw[jN (by rw[m];decide)];rw[jP m]at l;have z:=C m;by_cases j:t.i=t.b.pages-1
  .rw[jP j];have f:xA σ c (Own.no.add ((Own.page t.b.page).add (.bodies t.b.page (t.b.page+t.b.pages) (t.b.page+t.b.pages)))):=by rw[show t.b.page+1+t.i=t.b.page+t.b.pages by omega]at l;exact l.kD
   obtain⟨o,p,q⟩:=WV r (R:=.no) (λ_=>id) id (hi hd m) f;refine⟨o,⟨?_,λe=>(by cases e)⟩,q,rfl⟩;unfold XG;rw[jP rfl];exact p.zK
  rw[jN j];have f:=l.kD;rw[show t.b.page+1+t.i=t.b.page+t.i+1 by omega]at f;obtain⟨o,p,q⟩:=VV r (R:=.no) (P:=t.b.page) (lo:=t.b.page+t.i+1) (hi:=t.b.page+t.b.pages) (by omega) (λ_=>id) f;refine⟨o,⟨?_,λ_ _=>?_⟩,q,rfl⟩
  .unfold XG;dsimp only;rw[jN (by rw[hd];decide),jP m,show t.b.page+1+(t.i+1)=t.b.page+t.i+1+1 by omega];exact p.zK
  exact hi hd m
 rw[jP (by simpa using m)];rw[jN m]at l;obtain⟨⟨b,y⟩,hs⟩:=(l.w _ _ _).2 (.inl ⟨rfl,rfl,rfl⟩);have f:=l.kD;refine⟨II r y hs (.inl rfl) (lI f y),⟨?_,λe=>(by cases e)⟩,uG (λn e=>by cases e) (λn e=>by rw[hs]at e;cases e),rfl⟩;unfold XG;rw[jP rfl];exact PJ f (λ_=>id) y (.inl rfl)
inductive FePh
 |idle
 |put (x:Pu)
 |back
 |drop
def Fe.ph (t:Fe):FePh:=if t.done=true then .idle else if t.next=2 then (match t.put with|some x=>.put x|none=>.idle) else if t.next=3 then .back else if t.next=4 then .drop else .idle
def gE (t:Fe):Own:=match t.ph with
 |.idle=>.no
 |.put x=>MF x
 |.back=>.way t.page t.slot t.pa
 |.drop=>(Own.page t.page).add (.bodies t.page (t.page+1+t.i) (t.page+t.pa))
def feBl (t:Fe):Bl:=if t.pk=3 then .lar t.page t.pa else .sm t.page t.slot t.pa
structure JH (s:Sh) (c:Int) (σ:Ab) (R:Own) (t:Fe):Prop where
 cl:t.c=c
 w:t.done=false->t.next=1->t.pk=3->t.word=(PW.large t.pa).enc
 ph:match t.ph with
  |.idle=>True
  |.put x=>UG c σ x/\(x.ep=t.page/\x.es=t.slot/\x.ek=t.pa)/\x.put=false/\∀k',¬R.w t.page t.slot k'
  |.back=>∀k',¬R.w t.page t.slot k'
  |.drop=>LC σ t.page (t.page+1)/\¬R.h t.page/\∀q,¬R.b q t.page
theorem JH.same{t:Fe}(b:xA σ c (R.add (gE t)))(h:JH s c σ R t)(hs:Same c σ σ'):JH s c σ' R t:=by
 obtain⟨h1,h2,h3⟩:=h;refine⟨h1,h2,?_⟩;unfold gE at b;cases hp:t.ph with
 |idle=>trivial
 |put x=>rw[hp]at h3;exact⟨h3.1.same hs,h3.2⟩
 |back=>rw[hp]at h3;exact h3;|drop=>rw[hp]at h3 b;exact⟨h3.1.same (λp h0 h1=>(b.h p).2 (.inr (.inl (show p=t.page by omega)))) hs,h3.2⟩
structure vN (s:Sh) (c:Int) (σ:Ab) (R:Own) (t:Fe) (r:Fe×Ab):Prop where
 kept:Kept s c σ r.2
 ex:xA r.2 c (R.add (gE r.1))
 inv:JH s c r.2 R r.1
 sl:∀q i,σ.pg q=.held c->r.2.sl q i=σ.sl q i
 chg:(t.gave=false->r.1.gave=true->IH (feBl t) σ r.2/\r.1.done=false/\t.next=1)/\((t.gave=true\/r.1.gave=false)->Calm σ r.2)
theorem yge(s:Sh)(t:Pu)(σ:Ab):(puA s t σ).1.ep=t.ep/\(puA s t σ).1.es=t.es/\(puA s t σ).1.ek=t.ek:=by
 unfold puA;split
 .exact⟨rfl,rfl,rfl⟩
 split
 .exact⟨rfl,rfl,rfl⟩
 dsimp only;split<;>exact⟨rfl,rfl,rfl⟩
theorem YF{t:Fe}(h:t.ph=.idle):gE t=.no:=by unfold gE;rw[h]
theorem vG{t:Fe}(h:t.done=true):t.ph=.idle:=by unfold Fe.ph;rw[jP h]
theorem RI{t:Fe}(h:t.next=0\/t.next=1):t.ph=.idle:=by
 unfold Fe.ph;split
 .rfl
 rw[jN (by omega),jN (by omega),jN (by omega)]
theorem TH{t:Fe}(hc:t.c=c)(h:t.ph=.idle)(b:t.done=false->t.next=1->t.pk=3->t.word=(PW.large t.pa).enc):JH s c σ R t:=⟨hc,b,by rw[h];trivial⟩
theorem RT{m:Mem}{t:Fe}(hr:Rep s m σ)(C:GI s σ)(hk:feIs s c t)(hd:t.done=false)(f:xA σ c (R.add (gE t)))(hi:JH s c σ R t):vN s c σ R t (feA s t σ):=by
 obtain⟨c1,c2,c3,c4,c5,c6,c7,c8,c9,b0⟩:=hk.ok.cl hd;obtain⟨hc,hw,B⟩:=hi;subst hc;unfold feA;rw[jN (by rw[hd];decide)];have H:∀t':Fe,t'.c=t.c->t'.ph=.idle->t'.gave=false->(t'.done=false->t'.next=1->t'.pk=3->t'.word=(PW.large t'.pa).enc)->xA σ t.c (R.add .no)->vN s t.c σ R t (t',σ):=λt' h1 h2 h3 h4 h5=>⟨Kept.refl C,by rw[YF h2];exact h5,TH h1 h2 h4,λ_ _ _=>rfl,⟨λ_ e=>(by rw[h3]at e;cases e),λ_=>Calm.refl _⟩⟩
 by_cases h0:t.next=0
 .rw[jP h0];have r:=hk.gv (by omega);rw[YF (RI (.inl h0))]at f;have z:(t.dC (σ.pg t.page)).c=t.c/\(t.dC (σ.pg t.page)).gave=t.gave/\(t.dC (σ.pg t.page)).next=1/\(t.dC (σ.pg t.page)).pk=(σ.pg t.page).kind/\(t.dC (σ.pg t.page)).pa=(σ.pg t.page).pa/\(t.dC (σ.pg t.page)).word=(σ.pg t.page).enc:=by
   unfold Fe.dC;dsimp only;split
   .exact⟨rfl,rfl,rfl,rfl,rfl,rfl⟩
   split<;>exact⟨rfl,rfl,rfl,rfl,rfl,rfl⟩
  refine H _ z.1 (RI (.inr z.2.2.1)) (z.2.1.trans r) (λ_ _ e=>?_) f;rw[z.2.2.2.1]at e;rw[z.2.2.2.2.1,z.2.2.2.2.2];cases o:σ.pg t.page<;>rw[o]at e<;>simp[PW.kind]at e;rfl
 rw[jN h0];by_cases h1:t.next=1
 .rw[jP h1];have r:=hk.gv (by omega);rw[YF (RI (.inr h1))]at f;have E:xA σ t.c R:=f.eqv (Own.Eqv.kD R);by_cases F:t.pk=3
  .rw[jP F];by_cases o:(σ.pg t.page).enc=t.word
   .rw[jP o];rcases c6 (by omega) with⟨_,k2,k3,k4⟩|⟨k1,_⟩
    .have j:σ.pg t.page=.large t.pa:=PW.inj hr.may (C.pf _) (q:=t.page) (y:=.large t.pa) ⟨c2,k2,k3,k4⟩ (by rw[o];exact hw hd h1 F);have D:({t with gave:=true,next:=4,done:=false}:Fe).ph=.drop:=rfl;refine⟨zmq C j c1,?_,⟨rfl,λ_ e=>(by cases e),?_⟩,λ_ _ _=>rfl,⟨λ_ _=>⟨?_,rfl,h1⟩,λe=>by rcases e with e|e;(rw[r]at e;cases e);(cases e)⟩⟩
     .unfold gE;rw[D];dsimp only;rw[c5 (by omega),show t.page+1+0=t.page+1 by omega];exact(zlv C E j).eqv (Own.Eqv.VG _ _ _)
     .rw[D];refine⟨λp i a b=>?_,λe=>?_,λq e=>?_⟩
      .rw[show p=t.page by dsimp only at a b;omega];exact oK C (.inr (.inl ⟨_,j⟩)) i
      .have:=(E.h _).2 e;rw[j]at this;cases this
      have:=((E.b _ _).2 e).2;rw[j]at this;cases this
     unfold feBl;rw[jP F];exact zy2 (λn e=>by cases e) j
    omega
   rw[jN o];exact H _ rfl (vG rfl) rfl (λe=>by cases e) f
  rw[jN F];by_cases o:σ.sl t.page t.slot=.taken t.pa
  .rw[jP o];obtain⟨⟨b,D⟩,b7⟩:=gK C (.inr o);have b2:=dP C D (.inr o) c1;have b1:=eP C E D (.inr o);have b3:IH (feBl t) σ (σ.slot t.page t.slot (.way t.c)):=by unfold feBl;rw[jN F];exact zzw (λn e=>by cases e) o
   have N:∀T,¬R.w t.page t.slot T:=λT e=>by have:=((E.w _ _ _).2 (.inl e)).2;rw[o]at this;cases this
   have fin:∀t':Fe,t'.c=t.c->t'.gave=true->t'.done=false->gE t'=.way t.page t.slot t.pa->(match t'.ph with|.idle=>True|.put x=>UG t.c (σ.slot t.page t.slot (.way t.c)) x/\(x.ep=t'.page/\x.es=t'.slot/\x.ek=t'.pa)/\x.put=false/\∀T,¬R.w t'.page t'.slot T|.back=>∀T,¬R.w t'.page t'.slot T|.drop=>LC (σ.slot t.page t.slot (.way t.c)) t'.page (t'.page+1)/\¬R.h t'.page/\∀q,¬R.b q t'.page)->t'.next≠1->vN s t.c σ R t (t',σ.slot t.page t.slot (.way t.c)):=λt' e1 e2 e6 e3 U e5=>⟨b2,by rw[e3];exact b1,⟨e1,λ_ e=>absurd e e5,U⟩,λq i Z=>WD _ _ (λe=>by rw[e.1,D]at Z;cases Z),⟨λ_ _=>⟨b3,e6,h1⟩,λe=>by rcases e with e|e;(rw[r]at e;cases e);(have e:t'.gave=false:=e;rw[e2]at e;cases e)⟩⟩
   have O:vN s t.c σ R t ({t with gave:=true,next:=3,done:=false},σ.slot t.page t.slot (.way t.c)):=fin _ rfl rfl rfl rfl N (show (3:Int)≠1 by decide);unfold Fe.gotA;dsimp only[Bool.not_true];by_cases Y:t.pb=t.c
   .rw[jP Y];unfold Fe.kept;dsimp only;rw[jN (show ¬(nD s t.c t.page t.slot t.pa).put=true by simp[nD])];rcases jB (nD s t.c t.page t.slot t.pa).done with e|e
    .rw[jP e];exact fin _ rfl rfl rfl rfl N (show (3:Int)≠1 by decide)
    rw[jN (by rw[e];decide)];exact fin _ rfl rfl rfl rfl ⟨⟨rfl,λe=>(by cases e),λe=>(by cases e)⟩,⟨rfl,rfl,rfl⟩,rfl,N⟩ (show (2:Int)≠1 by decide)
   rw[jN Y];exact O
  rw[jN o];have h3:(t.gotA s false).c=t.c/\(t.gotA s false).gave=false/\(t.gotA s false).done=true:=by
   unfold Fe.gotA;dsimp only;refine⟨?_,?_,rfl⟩
   .split
    .unfold Fe.kept;dsimp only;split
     .rfl
     split<;>rfl
    rfl
   split
   .unfold Fe.kept;dsimp only;split
    .rfl
    split<;>rfl
   rfl
  exact H _ h3.1 (vG h3.2.2) h3.2.1 (λe=>by rw[h3.2.2]at e;cases e) f
 rw[jN h1];have r:=hk.gv2 (by omega) hd;have calm:∀(t':Fe) σ',Calm σ σ'->(t.gave=false->t'.gave=true->IH (feBl t) σ σ'/\t'.done=false/\t.next=1)/\((t.gave=true\/t'.gave=false)->Calm σ σ'):=λt' σ' h=>⟨λe=>(by rw[r]at e;cases e),λ_=>h⟩;by_cases h2:t.next=2
 .rw[jP h2];obtain⟨_,x,o,b5,b4⟩:=c8 h2;have D:t.ph=.put x:=by unfold Fe.ph;rw[jN (by rw[hd];decide),jP h2,o]
  unfold gE at f;rw[D]at f B;obtain⟨p1,I,p3,p4⟩:=B;rw[o];dsimp only;obtain⟨⟨M,J,V⟩,g4⟩:=z96 C b5 b4 (R:=R) (by rw[I.1,I.2.1];exact p4) f p1;obtain⟨e1,e2,e3⟩:=yge s x σ;have S:∀q i,σ.pg q=.held t.c->(puA s x σ).2.sl q i=σ.sl q i:=λq i _=>by unfold puA;split;rfl;split;rfl;rfl
  unfold Fe.kept;dsimp only;rcases jB (puA s x σ).1.put with e|e
  .rw[jP e];refine⟨M,?_,TH rfl (vG rfl) (λe=>by cases e),S,calm _ _ g4⟩;rw[YF (vG rfl)];have:MF (puA s x σ).1=.no:=by unfold MF;rw[jP e]
   rw[this]at J;exact J
  rw[jN (by rw[e];decide)];have X:MF (puA s x σ).1=.way t.page t.slot t.pa:=by unfold MF;rw[jN (by rw[e];decide),e1,e2,e3,I.1,I.2.1,I.2.2]
  rcases jB (puA s x σ).1.done with U|U
  .rw[jP U];have l:({t with put:=some (puA s x σ).1,next:=3}:Fe).ph=.back:=by unfold Fe.ph;dsimp only;rw[jN (by rw[hd];decide)];rfl
   refine⟨M,?_,⟨rfl,λ_ e=>(by cases e),?_⟩,S,calm _ _ g4⟩
   .unfold gE;rw[l];rw[X]at J;exact J
   rw[l];exact p4
  rw[jN (by rw[U];decide)];have l:({t with put:=some (puA s x σ).1}:Fe).ph=.put (puA s x σ).1:=by unfold Fe.ph;dsimp only;rw[jN (by rw[hd];decide),jP h2]
  refine⟨M,?_,⟨rfl,λ_ e=>absurd e h1,?_⟩,S,calm _ _ g4⟩
  .unfold gE;rw[l];exact J
  rw[l];exact⟨V,⟨e1.trans I.1,e2.trans I.2.1,e3.trans I.2.2⟩,e,p4⟩
 rw[jN h2];by_cases h3:t.next=3
 .rw[jP h3];have D:t.ph=.back:=by unfold Fe.ph;rw[jN (by rw[hd];decide),jN h2,jP h3]
  unfold gE at f;rw[D]at f B;obtain⟨⟨b,L⟩,hs⟩:=(f.w _ _ _).2 (.inl (.inr ⟨rfl,rfl,rfl⟩));refine⟨II C L hs (.inl rfl) (lI f L),?_,TH rfl (vG rfl) (λe=>by cases e),λq i Z=>WD _ _ (λe=>by rw[e.1,L]at Z;cases Z),calm _ _ (uG (λn e=>by cases e) (λn e=>by rw[hs]at e;cases e))⟩;rw[YF (vG rfl)];exact(PJ f B L (.inl rfl)).eqv (Own.Eqv.kD R).symm
 rw[jN h3];have h4:t.next=4:=by omega
 have D:t.ph=.drop:=by unfold Fe.ph;rw[jN (by rw[hd];decide),jN h2,jN h3,jP h4]
 unfold gE at f;rw[D]at f B;obtain⟨p1,I,p3⟩:=B;have b6:=b0 h4;by_cases G:t.i=t.pa-1
 .rw[jP G];rw[show t.page+1+t.i=t.page+t.pa by omega]at f;obtain⟨M,J,V⟩:=WV C p3 I p1 f;refine⟨M,?_,TH rfl (vG rfl) (λe=>by cases e),λ_ _ _=>rfl,calm _ _ V⟩;rw[YF (vG rfl)];exact J
 rw[jN G];rw[show t.page+1+t.i=t.page+t.i+1 by omega]at f;obtain⟨M,J,V⟩:=VV C (by omega) p3 f;have l:({t with i:=t.i+1}:Fe).ph=.drop:=by unfold Fe.ph;dsimp only;rw[jN (by rw[hd];decide),jN h2,jN h3,jP h4]
 refine⟨M,?_,⟨rfl,λ_ e=>absurd e h1,?_⟩,λ_ _ _=>rfl,calm _ _ V⟩
 .unfold gE;rw[l];dsimp only;rw[show t.page+1+(t.i+1)=t.page+t.i+1+1 by omega];exact J
 rw[l];exact⟨λp i a b=>p1 p i a b,I,p3⟩
end

section

variable {s:Sh}{σ σ':Ab}{c:Int}
inductive RrPh
 |dead
 |res (r:Rs)
 |fre (b:Blk) (f:Fe)
 |und (u:Un)
 |com (u:Cm)
def Rr.ph (t:Rr):RrPh:=if t.done=true then .dead else match t.res,t.free with
 |some r,some f=>if r.done=false then .res r else (match t.undo,t.com with
  |some u,_=>.und u
  |none,some u=>.com u
  |none,none=>match r.got with
   |some b=>.fre b f
   |none=>.dead)
 |_,_=>.dead
def kE (s:Sh) (t:Rr):Own:=match t.ph with
 |.dead=>.no
 |.res r=>HJ s r
 |.fre b f=>(MD b).add (gE f)
 |.und u=>XG u
 |.com u=>MD u.b
def rT (c:Int) (f:Fe):Prop:=f.done=false/\f.next=0/\f.c=c
structure ygt (s:Sh) (c:Int) (σ:Ab) (t:Rr):Prop where
 cl:t.c=c
 ph:match t.ph with
  |.dead=>t.done=true
  |.res r=>CJ s c σ r/\∀f,t.free=some f->rT c f
  |.fre b f=>CG σ b/\JH s c σ (MD b) f/\f.done=false
  |.und u=>UnAt s c σ u/\u.done=false/\∀r,t.res=some r->r.got≠none
  |.com u=>CG σ u.b/\u.done=false
structure RrAt (s:Sh) (c:Int) (σ:Ab) (t:Rr):Prop where
 ex:xA σ c (kE s t)
 inv:ygt s c σ t
theorem RrAt.same{t:Rr}(h:RrAt s c σ t)(hs:Same c σ σ'):RrAt s c σ' t:=by
 obtain⟨i,h1,h2⟩:=h;refine⟨i.same hs,h1,?_⟩;unfold kE at i;cases hp:t.ph with
 |dead=>rw[hp]at h2;exact h2;|res r=>rw[hp]at i h2;exact⟨(RsAt.same ⟨i,h2.1⟩ hs).inv,h2.2⟩
 |fre b f=>rw[hp]at i h2;exact⟨h2.1.same (c:=c) (λp hb=>(i.h p).2 (.inl hb)) hs,h2.2.1.same i hs,h2.2.2⟩
 |und u=>rw[hp]at h2;exact⟨h2.1.same hs,h2.2⟩
 |com u=>rw[hp]at i h2;exact⟨h2.1.same (c:=c) (λp hb=>(i.h p).2 hb) hs,h2.2⟩
theorem eK{t:Rr}(hd:t.done=true)(hc:t.c=c)(f:xA σ c .no):RrAt s c σ t:=by
 have b:t.ph=.dead:=by unfold Rr.ph;rw[jP hd]
 refine⟨?_,hc,?_⟩
 .unfold kE;rw[b];exact f
 rw[b];exact hd
def fC (t:Rr):Bool:=match t.free with|some f=>f.gave|none=>false
structure qN (s:Sh) (c:Int) (σ:Ab) (t:Rr) (r:Rr×Ab):Prop where
 kept:Kept s c σ r.2
 at':RrAt s c r.2 r.1
 gave:∀f,t.free=some f->fC t=false->fC r.1=true->(IH (feBl f) σ r.2/\f.next=1/\f.done=false)/\r.1.done=false
 took:r.1.done=true->r.1.err=0->∃x b,r.1.res=some x/\x.got=some b/\Plus (rD b) σ r.2
 calm:(fC t=true\/fC r.1=false)->¬(r.1.done=true/\r.1.err=0)->Calm σ r.2
theorem dV{a:Int}(hs:mayB s.p s.c s.m=true)(hc:0<=c/\c<s.c)(b:spB s a=true):rT c (uB s c a):=by
 have hb:=JA.1 hs;have h1:uA s.p s.c s.m c=c:=by unfold uA;rw[jP ⟨hs,BA.2 (by omega)⟩]
 refine⟨?_,rfl,rfl⟩;simp only[uB,b,h1];simp;omega
theorem z6k{b:Blk}(i:b.fits s c=true)(f:xA σ c (MD b))(hi:CG σ b):UnAt s c σ (UC s c b)/\(UC s c b).done=false:=by
 have hd:(UC s c b).done=false:=by simp[UC,i]
 refine⟨⟨?_,λ_=>hi⟩,hd⟩;unfold XG;rw[jN (by rw[hd];decide)];unfold MD at f;simp only[UC];rw[show b.page+1+0=b.page+1 by omega];exact f
theorem ET{t:Rr}{r:Rs}{f:Fe}(hd:t.done=false)(l:t.res=some r)(m:t.free=some f)(h:r.done=false):rrA s t σ=(Rr.settle s {t with res:=some (rsA s r σ).1},(rsA s r σ).2):=by
 obtain⟨q,p,i,j,n,o,b⟩:=t;dsimp only at hd l m;subst hd l m;unfold rrA;exact jP h
theorem NT{t:Rr}{r:Rs}{f:Fe}(hd:t.done=false)(l:t.res=some r)(m:t.free=some f)(h:¬r.done=false)(h2:f.done=false):rrA s t σ=(Rr.settle s {t with free:=some (feA s f σ).1},(feA s f σ).2):=by
 obtain⟨q,p,i,j,n,o,b⟩:=t;dsimp only at hd l m;subst hd l m;unfold rrA;exact(jN h).trans (jP h2)
theorem GT{t:Rr}{r:Rs}{f:Fe}{u:Un}(hd:t.done=false)(l:t.res=some r)(m:t.free=some f)(h:¬r.done=false)(h2:¬f.done=false)(hu:t.undo=some u):rrA s t σ=(Rr.settle s {t with undo:=some (unA u σ).1},(unA u σ).2):=by
 obtain⟨q,p,i,j,n,o,b⟩:=t;dsimp only at hd l m hu;subst hd l m hu;unfold rrA;exact(jN h).trans (jN h2)
theorem jY{t:Rr}{r:Rs}{f:Fe}{u:Cm}(hd:t.done=false)(l:t.res=some r)(m:t.free=some f)(h:¬r.done=false)(h2:¬f.done=false)(hu:t.undo=none)(hc:t.com=some u):rrA s t σ=(Rr.settle s {t with com:=some (cmA u σ).1},(cmA u σ).2):=by
 obtain⟨q,p,i,j,n,o,b⟩:=t;dsimp only at hd l m hu hc;subst hd l m hu hc;unfold rrA;exact(jN h).trans (jN h2)
theorem fQ{t:Rr}{r:Rs}{f:Fe}(hd:t.done=false)(b:t.res=some r)(i:t.free=some f)(h:r.done=false):t.ph=.res r:=by
 unfold Rr.ph;rw[jN (by rw[hd];decide),b,i];exact jP h
theorem sM{t:Rr}{r:Rs}{f:Fe}{u:Un}(hd:t.done=false)(b:t.res=some r)(i:t.free=some f)(h:¬r.done=false)(hu:t.undo=some u):t.ph=.und u:=by
 unfold Rr.ph;rw[jN (by rw[hd];decide),b,i];dsimp only;rw[jN h,hu]
theorem WX{t:Rr}{r:Rs}{f:Fe}{u:Cm}(hd:t.done=false)(b:t.res=some r)(i:t.free=some f)(h:¬r.done=false)(hu:t.undo=none)(hc:t.com=some u):t.ph=.com u:=by
 unfold Rr.ph;rw[jN (by rw[hd];decide),b,i];dsimp only;rw[jN h,hu,hc]
theorem OI{t:Rr}{r:Rs}{f:Fe}(hd:t.done=false)(i:t.res=some r)(j:t.free=some f)(h:¬r.done=false)(hu:t.undo=none)(hc:t.com=none):t.ph=match r.got with|some b=>.fre b f|none=>.dead:=by
 unfold Rr.ph;rw[jN (by rw[hd];decide),i,j];dsimp only;rw[jN h,hu,hc]
theorem nZ{m:Mem}{t:Rr}(hr:Rep s m σ)(hg:GI s σ)(I:rrIs s c t)(b7:0<=c/\c<s.c)(hd:t.done=false)(h:RrAt s c σ t):qN s c σ t (rrA s t σ):=by
 obtain⟨G,hc,hi⟩:=h;obtain⟨r,f,y,q,o1,o2,o3,o4,o5,o6⟩:=I.ok.cl hd;have U:=I.res r y;have b3:=I.fre f q;by_cases n:r.done=false
 .rw[ET hd y q n];have T:t.ph=.res r:=fQ hd y q n;have j:t.undo=none/\t.com=none:=by
   constructor
   .cases hu:t.undo with
    |none=>rfl
    |some u=>obtain⟨X,L,a1,D,_⟩:=I.mid hd (.inl (by rw[hu];simp));rw[y]at a1;injection a1 with a1;subst a1;rw[n]at D;cases D
   cases hu:t.com with
   |none=>rfl
   |some u=>obtain⟨X,L,a1,D,_⟩:=I.mid hd (.inr (by rw[hu];simp));rw[y]at a1;injection a1 with a1;subst a1;rw[n]at D;cases D
  unfold kE at G;rw[T]at G hi;have C:=hi.2 f q;have o:=DT hr hg U n ⟨G,hi.1⟩;have M:rsIs s c (rsA s r σ).1:=by have:=(HQ (m:=m) U n hr.fi).2.1;rwa [(HO hr hg o1).1]at this
  have b5:f.gave=false:=b3.gv (by rw[C.2.1];decide);have fin:∀t':Rr,RrAt s c (rsA s r σ).2 t'->t'.free=some f->¬(t'.done=true/\t'.err=0)->qN s c σ t (t',(rsA s r σ).2):=λt' h1 h2 h3=>⟨o.kept,h1,λL _ _ e=>(by unfold fC at e;dsimp only at e;rw[h2]at e;dsimp only at e;rw[b5]at e;cases e),λa b=>absurd ⟨a,b⟩ h3,λ_ _=>o.calm⟩
  rcases XF s {t with res:=some (rsA s r σ).1} (rsA s r σ).1 f rfl q with⟨h1,_⟩|⟨_,h1,_⟩|⟨_,_,h1,e⟩|⟨_,_,h1,h2,e⟩|⟨b,_,_,h1,h2,h3,e⟩|⟨b,_,_,_,_,_,_,h1,_,e⟩|⟨b,_,_,_,_,_,_,h1,_,e⟩
  .have h1:JD t.undo=true:=h1;rw[j.1]at h1;cases h1
  .have h1:EF t.com=true:=h1;rw[j.2]at h1;cases h1
  .rw[e];refine fin _ ?_ q (λh=>by have:=h.1;rw[show ({t with res:=some (rsA s r σ).1}:Rr).done=t.done from rfl,hd]at this;cases this);have l:({t with res:=some (rsA s r σ).1}:Rr).ph=.res (rsA s r σ).1:=fQ hd rfl q h1;refine⟨?_,hc,?_⟩
   .unfold kE;rw[l];exact o.at'.ex
   rw[l];exact⟨o.at'.inv,hi.2⟩
  .rw[e];exact fin _ (eK rfl hc ((VI M h1 o.at').1 h2)) q (λh=>by have:=h.2;dsimp only at this;omega)
  .rw[e];obtain⟨b1,b2⟩:=(VI M h1 o.at').2 b h2;refine fin _ ?_ q (λh=>by have:=h.1;rw[show ({t with res:=some (rsA s r σ).1}:Rr).done=t.done from rfl,hd]at this;cases this);have l:({t with res:=some (rsA s r σ).1}:Rr).ph=.fre b f:=by rw[OI (t:={t with res:=some (rsA s r σ).1}) hd rfl q (by rw[h1];decide) j.1 j.2,h2]
   have b4:=RI (t:=f) (.inl C.2.1);refine⟨?_,hc,?_⟩
   .unfold kE;rw[l];dsimp only;rw[YF b4];exact b1.eqv (Own.Eqv.kD _).symm
   rw[l];exact⟨b2,TH C.2.2 b4 (λ_ e=>by rw[C.2.1]at e;cases e),C.1⟩
  .have h1:f.done=true:=h1;rw[C.1]at h1;cases h1
  have h1:f.done=true:=h1;rw[C.1]at h1;cases h1
 have F:r.done=true:=by simpa using n
 by_cases B:f.done=false
 .rw[NT hd y q n B];have j:t.undo=none/\t.com=none:=by
   constructor
   .cases hu:t.undo with
    |none=>rfl
    |some u=>obtain⟨X,L,_,_,a1,D⟩:=I.mid hd (.inl (by rw[hu];simp));rw[q]at a1;injection a1 with a1;subst a1;rw[B]at D;cases D
   cases hu:t.com with
   |none=>rfl
   |some u=>obtain⟨X,L,_,_,a1,D⟩:=I.mid hd (.inr (by rw[hu];simp));rw[q]at a1;injection a1 with a1;subst a1;rw[B]at D;cases D
  cases hgot:r.got with
  |none=>
   exfalso;have S:t.ph=.dead:=by rw[OI hd y q n j.1 j.2,hgot]
   rw[S]at hi;rw[hd]at hi;cases hi
  |some b=>
   have T:t.ph=.fre b f:=by rw[OI hd y q n j.1 j.2,hgot]
   unfold kE at G;rw[T]at G hi;have o:=RT hr hg b3 B G hi.2.1;have O:CG (feA s f σ).2 b:=λhl p i h0 h1=>by have b9:σ.pg p=.held c:=(G.h p).2 (.inl (by unfold MD;rw[jP hl];exact .inl (show p=b.page by omega)));exact(o.sl p i b9).trans (hi.1 hl p i h0 h1)
   have E:=(TG U hr.may b7 hgot).1;have fin:∀t':Rr,RrAt s c (feA s f σ).2 t'->t'.free=some (feA s f σ).1->t'.done=false->qN s c σ t (t',(feA s f σ).2):=λt' h1 h2 h3=>by
    have N:fC t=f.gave:=by unfold fC;rw[q]
    have H:fC t'=(feA s f σ).1.gave:=by unfold fC;rw[h2]
    refine⟨o.kept,h1,λL e a b=>⟨?_,h3⟩,λa=>(by rw[h3]at a;cases a),λa _=>o.chg.2 ?_⟩
    .rw[q]at e;injection e with e;subst e;exact⟨(o.chg.1 (N▸a) (H▸b)).1,(o.chg.1 (N▸a) (H▸b)).2.2,B⟩
    rw[N,H]at a;exact a
   have Z:(feA s f σ).1.done=true->xA (feA s f σ).2 c (MD b):=λe=>by have:=o.ex;rw[YF (vG e)]at this;exact this.eqv (Own.Eqv.kD _)
   rcases XF s {t with free:=some (feA s f σ).1} r (feA s f σ).1 y rfl with⟨h1,_⟩|⟨_,h1,_⟩|⟨_,_,h1,e⟩|⟨_,_,h1,h2,e⟩|⟨b',_,_,h1,h2,h3,e⟩|⟨b',_,_,_,h2,_,_,h1,h3,e⟩|⟨b',_,_,_,h2,_,_,h1,h3,e⟩
   .have h1:JD t.undo=true:=h1;rw[j.1]at h1;cases h1
   .have h1:EF t.com=true:=h1;rw[j.2]at h1;cases h1
   .rw[F]at h1;cases h1
   .rw[hgot]at h2;cases h2
   .rw[e];have b0:(feA s f σ).1.done=false:=by
     rcases h3 with h3|h3|h3
     .exact absurd j.1 h3
     .exact absurd j.2 h3.2
     exact h3.2.2
    have l:({t with free:=some (feA s f σ).1}:Rr).ph=.fre b (feA s f σ).1:=by rw[OI (t:={t with free:=some (feA s f σ).1}) hd y rfl n j.1 j.2,hgot]
    refine fin _ ⟨?_,hc,?_⟩ rfl hd
    .unfold kE;rw[l];exact o.ex
    rw[l];exact⟨O,o.inv,b0⟩
   .rw[e];rw[hgot]at h2;injection h2 with h2;subst h2;have b6:(zB s t.c b).done=false:=by rw[hc];simp[zB,E]
    have l:({t with free:=some (feA s f σ).1,com:=some (zB s t.c b)}:Rr).ph=.com (zB s t.c b):=WX (t:={t with free:=some (feA s f σ).1,com:=some (zB s t.c b)}) hd y rfl n j.1 rfl;refine fin _ ⟨?_,hc,?_⟩ rfl hd
    .unfold kE;rw[l];exact Z h1
    rw[l];exact⟨O,b6⟩
   rw[e];rw[hgot]at h2;injection h2 with h2;subst h2;have V:=z6k (s:=s) E (Z h1) O;have l:({t with free:=some (feA s f σ).1,undo:=some (UC s t.c b)}:Rr).ph=.und (UC s t.c b):=sM (t:={t with free:=some (feA s f σ).1,undo:=some (UC s t.c b)}) hd y rfl n rfl;rw[hc]at l|-;refine fin _ ⟨?_,rfl,?_⟩ rfl hd
   .unfold kE;rw[l];exact V.1.ex
   rw[l];exact⟨V.1,V.2,λX J=>by rw[y]at J;injection J with J;subst J;rw[hgot];simp⟩
 have same:∀t':Rr,t'.free=t.free->fC t'=fC t:=λt' h=>by unfold fC;rw[h]
 cases hu:t.undo with
 |some u=>
  rw[GT hd y q n B hu];have T:t.ph=.und u:=sM hd y q n hu;rw[T]at hi;obtain⟨i1,i2,i3⟩:=hi;obtain⟨N,H,g3,g4⟩:=wY hg (o3 u hu) i2 i1;have b8:t.com=none:=by
   rcases o5 with e|e
   .rw[hu]at e;cases e
   exact e
  have fin:∀t':Rr,RrAt s c (unA u σ).2 t'->t'.free=t.free->¬(t'.done=true/\t'.err=0)->qN s c σ t (t',(unA u σ).2):=λt' h1 h2 h3=>⟨N,h1,λL _ a b=>(by rw[same t' h2,a]at b;cases b),λa b=>absurd ⟨a,b⟩ h3,λ_ _=>g3⟩
  rcases XF s {t with undo:=some (unA u σ).1} r f y q with⟨h1,e⟩|⟨_,h1,_⟩|⟨_,_,h1,e⟩|⟨_,_,h1,h2,e⟩|⟨b',h0,_,h1,h2,h3,e⟩|⟨b',_,_,_,h2,h1,_,_,h3,e⟩|⟨b',_,_,_,h2,h1,_,_,h3,e⟩
  .rw[e];have z:(unA u σ).1.done=true:=h1;have:=H.ex;unfold XG at this;rw[jP z]at this;exact fin _ (eK rfl hc this) rfl (λh=>by have:=h.2;dsimp only at this;omega)
  .have h1:EF t.com=true:=h1;rw[b8]at h1;cases h1
  .rw[F]at h1;cases h1
  .exact absurd h2 (i3 r y)
  .rw[e];have z:(unA u σ).1.done=false:=h0;have l:({t with undo:=some (unA u σ).1}:Rr).ph=.und (unA u σ).1:=sM (t:={t with undo:=some (unA u σ).1}) hd y q n rfl;refine fin _ ⟨?_,hc,?_⟩ rfl (λh=>by have:=h.1;rw[show ({t with undo:=some (unA u σ).1}:Rr).done=t.done from rfl,hd]at this;cases this)
   .unfold kE;rw[l];exact H.ex
   rw[l];exact⟨H,z,i3⟩
  .cases h1
  cases h1
 |none=>
  cases hcm:t.com with
  |none=>
   exfalso
   rcases o6 F (by simpa using B) with e|e
   .exact e hu
   .exact e hcm
  |some u=>
   rw[jY hd y q n B hu hcm]
   have T:t.ph=.com u:=WX hd y q n hu hcm
   unfold kE at G
   rw[T]at G hi
   have Y:=I.cm u hcm
   obtain⟨N,H,g3,g4⟩:=iT hg (Y.2 hd).1 (Y.2 hd).2 G hi.1
   have z:(cmA u σ).1.done=true:=by rw[g4]
   obtain⟨X,L,a1,D,a3,a4⟩:=I.gv u hcm
   rcases XF s {t with com:=some (cmA u σ).1} r f y q with⟨h1,e⟩|⟨_,h1,e⟩|⟨_,h1,_⟩|⟨_,h1,_⟩|⟨b',_,h1,_⟩|⟨b',_,h1,_⟩|⟨b',_,h1,_⟩
   .have h1:JD t.undo=true:=h1
    rw[hu]at h1;cases h1
   .rw[e]
    refine⟨N,eK rfl hc H,λL _ a b=>?_,λ_ _=>⟨X,u.b,a1,D,g3⟩,λ_ h=>absurd ⟨rfl,rfl⟩ h⟩
    have:fC {t with com:=some (cmA u σ).1,err:=0,done:=true}=fC t:=same _ rfl
    rw[this,a]at b;cases b
   .have h1:(cmA u σ).1.done=false:=h1
    rw[z]at h1;cases h1
   .have h1:(cmA u σ).1.done=false:=h1
    rw[z]at h1;cases h1
   .have h1:(cmA u σ).1.done=false:=h1
    rw[z]at h1;cases h1
   .have h1:(cmA u σ).1.done=false:=h1
    rw[z]at h1;cases h1
   .have h1:(cmA u σ).1.done=false:=h1
    rw[z]at h1;cases h1
structure mI (s:Sh) (σ:Ab) (c:Int) (t:Ad):Prop where
 cl:t.c=c
 n1:t.done=false->t.next=1->t.was=(TW.owned t.who).enc/\(TW.owned t.who).fit s/\σ.st t.who≠.unused
 n2:t.done=false->t.next=2->t.was=TW.dead.enc\/∃o,t.was=(TW.owned o).enc/\(TW.owned o).fit s/\σ.st o≠.unused/\σ.st o≠.live
 n3:t.done=false->3<=t.next->σ.st t.d=.owned c/\AdD s σ t
 ne:t.done=false->t.d≠c
 a0:t.next<=2->t.at'=0
def JbAt (s:Sh) (c:Int) (σ:Ab):Jb->Prop
 |.mal r none=>RsAt s c σ r
 |.mal _ (some _)=>xA σ c .no
 |.fre f=>xA σ c (gE f)/\JH s c σ .no f
 |.aga r=>RrAt s c σ r
 |.hei a=>xA σ c .no/\mI s σ c a
theorem NY{j:Jb}(b:jbIs s c j)(hd:j.done=true)(h:JbAt s c σ j):xA σ c .no:=by
 cases j with
 |mal r x=>
  rcases x with _|x
  .have hd:(r.done&&(!r.got.isSome||false))=true:=hd;rw[jC]at hd;refine(VI b.1 hd.1 h).1 ?_;have:=hd.2;cases hg:r.got
   .rfl
   rw[hg]at this;cases this
  exact h
 |fre f=>have:=h.1;rw[YF (vG hd)]at this;exact this
 |aga r=>
  have hd:r.done=true:=hd;have i:r.ph=.dead:=by unfold Rr.ph;rw[jP hd]
  have:=h.ex;unfold kE at this;rw[i]at this;exact this
 |hei a=>exact h.1
def Jb.fe:Jb->Option Fe
 |.fre f=>some f
 |.aga r=>r.free
 |_=>none
structure EZ (s:Sh) (c:Int) (σ:Ab) (j:Jb) (r:Jb×Ab):Prop where
 kept:Kept s c σ r.2
 at':JbAt s c r.2 r.1
 gave:j.gave=false->r.1.gave=true->(∃f,j.fe=some f/\IH (feBl f) σ r.2/\f.next=1/\f.done=false)/\r.1.done=false
 took:∀b,r.1.took=some b->Plus (rD b) σ r.2
 calm:(j.gave=true\/r.1.gave=false)->r.1.took=none->Calm σ r.2
theorem KQ{m:Mem}{j:Jb}(C:Rep s m σ)(B:GI s σ)(y:jbIs s c j)(z:0<=c/\c<s.c)(hd:j.done=false)(h:JbAt s c σ j)(S:∀a,j≠.hei a):EZ s c σ j (j.EB s c σ):=by
 cases j with
 |mal r x=>
  unfold Jb.EB;dsimp only;rcases x with _|x
  .by_cases o:r.done=false
   .rw[jP o];have i:=DT C B y.1 o h;exact⟨i.kept,i.at',λ_ e=>(by cases e),λb e=>(by cases e),λ_ _=>i.calm⟩
   rw[jN o];have p:r.done=true:=by simpa using o
   have hd':(r.done&&(!r.got.isSome||RC none))=false:=hd;rw[p,Bool.true_and,Bool.or_eq_false_iff]at hd';cases hgot:r.got with
   |none=>rw[hgot]at hd';cases hd'.1;|some b=>
    have T:FF s c r none=some (zB s c b):=by unfold FF;rw[hgot]
    rw[T];dsimp only;have q:=(TG y.1 C.may z hgot).1;obtain⟨J,L⟩:=(VI y.1 p h).2 b hgot;obtain⟨M,N,O,H⟩:=iT (t:=zB s c b) B (by simp[zB,q]) q J L;refine⟨M,N,λ_ e=>(by cases e),λD e=>?_,λ_ e=>?_⟩
    .have e:(if RC (some (cmA (zB s c b) σ).1)=true then r.got else none)=some D:=e;rw[jP (by show (cmA (zB s c b) σ).1.done=true;rw[H]),hgot]at e;injection e with e;subst e;exact O
    have e:(if RC (some (cmA (zB s c b) σ).1)=true then r.got else none)=none:=e;rw[jP (by show (cmA (zB s c b) σ).1.done=true;rw[H]),hgot]at e;cases e
  exfalso;have I:=y.2 x rfl;have:(Jb.mal r (some x)).done=true:=by show (r.done&&(!r.got.isSome||x.done))=true;rw[I.2.1,I.2.2.1];simp
  rw[this]at hd;cases hd
 |fre f=>have i:=RT C B y hd h.1.kD h.2;exact⟨i.kept,⟨i.ex.zK,i.inv⟩,λl n=>⟨⟨f,rfl,(i.chg.1 l n).1,(i.chg.1 l n).2.2,hd⟩,(i.chg.1 l n).2.1⟩,λb e=>(by cases e),λe _=>i.chg.2 e⟩
 |aga r=>
  have i:=nZ C B y z hd h;have U:∀b,(Jb.aga (rrA s r σ).1).took=some b->Plus (rD b) σ (rrA s r σ).2:=λb e=>by
   have e:(if (rrA s r σ).1.done=true/\(rrA s r σ).1.err=0 then(match (rrA s r σ).1.res with|some x=>x.got|none=>none) else none)=some b:=e;split at e
   .rename_i hc;obtain⟨x,D,l,n,G⟩:=i.took hc.1 hc.2;rw[l]at e;dsimp only at e;rw[n]at e;injection e with e;subst e;exact G
   cases e
  refine⟨i.kept,i.at',λl n=>?_,U,λl n=>i.calm l λhc=>?_⟩
  .have l:fC r=false:=l;cases q:r.free with
   |none=>obtain⟨_,f,_,F,_⟩:=y.ok.cl hd;rw[q]at F;cases F
   |some f=>exact⟨⟨f,q,(i.gave f q l n).1⟩,(i.gave f q l n).2⟩
  obtain⟨x,D,l,E,G⟩:=i.took hc.1 hc.2;have e:(if (rrA s r σ).1.done=true/\(rrA s r σ).1.err=0 then(match (rrA s r σ).1.res with|some x=>x.got|none=>none) else none)=none:=n;rw[jP hc,l]at e;dsimp only at e;rw[E]at e;cases e
 |hei a=>exact absurd rfl (S a)
theorem z8k(hs:mayB s.p s.c s.m=true)(i:xA σ c .no)(k f:Int):xA σ c (lC s (dD s c k f))/\bE s c σ (dD s c k f):=by
 unfold dD;split
 .rename_i h;have h1:=sD h.1;have h2:=JA.1 hs;have h3:=XE h.2.2
  have j:skOk s ⟨c,k,f,some (.tk (sC s c k)),0,0,0,false,false⟩:=⟨λ_=>⟨by dsimp only;omega,h.2.1,by dsimp only;omega,by dsimp only;omega,λx b=>by
   injection b with b;subst b;exact⟨uM _ _ _,rfl⟩⟩,λe=>(by cases e)⟩
  have:=KU (σ:=σ) (c:=c) hs 5 j i.kD ⟨rfl,λe=>(by cases e),λ_ x b=>by injection b with b;subst b;exact⟨⟨rfl,λe=>(by cases e)⟩,trivial⟩⟩;exact⟨this.1.zK,this.2⟩
 exact⟨i,⟨rfl,λ_ _=>rfl,λ_ x b=>by cases b⟩⟩
theorem z7a(f:xA σ c .no)(n:Int):RnIn c σ (FC s c n):=by
 rcases jB (FC s c n).done with e|e
 .have b:(FC s c n).ph=.dead:=by unfold Rn.ph;rw[jN (λx:(FC s c n).found=true=>Bool.noConfusion x),jP e]
  refine⟨?_,rfl,?_⟩
  .unfold VC;rw[b];exact f
  rw[b];trivial
 have b:(FC s c n).ph=.look:=by unfold Rn.ph;rw[jN (λx:(FC s c n).found=true=>Bool.noConfusion x),jN (by rw[e];decide)];rfl
 exact cM b rfl (f.eqv (Own.pP (by show (0:Int)<=0;omega)).symm) (λp i h0 h1=>by have h0:0<=p:=h0;have h1:p<0:=h1;omega)
theorem SX(hs:mayB s.p s.c s.m=true)(b:xA σ c .no)(n f:Int):RsAt s c σ (mB s c n f):=by
 unfold mB;split
 .have:=z8k hs b (pB n) f;exact⟨this.1,this.2⟩
 split
 .have:=z7a (s:=s) b (runV n);exact⟨this.1,this.2⟩
 exact⟨b,trivial⟩
theorem z7w(hs:mayB s.p s.c s.m=true)(hc:0<=c/\c<s.c)(y:xA σ c .no)(a n f:Int):RrAt s c σ (pD s c a n f):=by
 unfold pD;split
 .rename_i h;have q:=SX hs y n f;have z:=(FO (s:=s) c n f hs).1;have i:=dV (c:=c) hs hc h.1;have res:∀t:Rr,t.c=c->t.done=false->t.res=some (mB s c n f)->t.free=some (uB s c a)->(mB s c n f).done=false->RrAt s c σ t:=λt D E F r G=>by
   have l:t.ph=.res (mB s c n f):=by unfold Rr.ph;rw[jN (by rw[E];decide),F,r];dsimp only;rw[jP G]
   refine⟨?_,D,?_⟩
   .unfold kE;rw[l];exact q.ex
   rw[l];exact⟨q.inv,λH o=>by rw[r]at o;injection o with o;subst o;exact i⟩
  rcases XF s ⟨c,some (mB s c n f),some (uB s c a),none,none,0,false⟩ (mB s c n f) (uB s c a) rfl rfl with⟨h1,_⟩|⟨_,h1,_⟩|⟨_,_,h1,e⟩|⟨_,_,h1,h2,e⟩|⟨b,_,_,h1,h2,h3,e⟩|⟨b,_,_,_,_,_,_,h1,_,e⟩|⟨b,_,_,_,_,_,_,h1,_,e⟩
  .cases h1
  .cases h1
  .rw[e];exact res _ rfl rfl rfl rfl h1
  .rw[e];exact eK rfl rfl ((VI z h1 q).1 h2)
  .rw[e];obtain⟨B,C⟩:=(VI z h1 q).2 b h2;have l:(⟨c,some (mB s c n f),some (uB s c a),none,none,0,false⟩:Rr).ph=.fre b (uB s c a):=by unfold Rr.ph;dsimp only;rw[jN (by decide),jN (by rw[h1];decide),h2]
   have j:=RI (t:=uB s c a) (.inl i.2.1);refine⟨?_,rfl,?_⟩
   .unfold kE;rw[l];dsimp only;rw[YF j];exact B.eqv (Own.Eqv.kD _).symm
   rw[l];exact⟨C,TH i.2.2 j (λ_ e=>by rw[i.2.1]at e;cases e),i.1⟩
  .have h1:(uB s c a).done=true:=h1;rw[i.1]at h1;cases h1
  have h1:(uB s c a).done=true:=h1;rw[i.1]at h1;cases h1
 exact eK rfl rfl y
theorem z5b(hs:mayB s.p s.c s.m=true)(hc:0<=c/\c<s.c)(i:xA σ c .no)(f k a n:Int):JbAt s c σ (ZB s c f k a n):=by
 unfold ZB;split
 .exact SX hs i n f
 split
 .have b:(uB s c a).ph=.idle:=RI (.inl rfl);exact⟨by rw[YF b];exact i,TH rfl b (λ_ e=>by cases e)⟩
 split
 .exact z7w hs hc i a n f
 refine⟨i,?_⟩;unfold qD;dsimp only;split
 .exact⟨rfl,λe=>(by cases e),λe=>(by cases e),λe=>(by cases e),λe=>(by cases e),λ_=>rfl⟩
 rename_i h;exact⟨rfl,λ_ e=>(by cases e),λ_ e=>(by cases e),λ_ e=>by exfalso;have e:(3:Int)<=0:=e;omega,λ_ e=>h (.inr (.inr e.symm)),λ_=>rfl⟩
structure Later (σ σ':Ab):Prop where
 un:∀x,σ.st x≠.unused->σ'.st x≠.unused
 lv:∀x,σ.st x≠.unused->σ.st x≠.live->σ'.st x≠.live
theorem Later.NQ(h:∀x,σ'.st x=σ.st x):Later σ σ':=⟨λx e=>by rw[h];exact e,λx _ e=>by rw[h];exact e⟩
theorem mI.same{t:Ad}(n:adOk s t)(h:mI s σ c t)(l:Later σ σ')(h3:t.done=false->3<=t.next->σ'.st t.d=.owned c/\Same t.d σ σ'):mI s σ' c t:=by
 refine⟨h.cl,λa b=>?_,λa b=>?_,λa b=>⟨(h3 a b).1,AdD.same ⟨b,(n.cl a).2.2.2.1.2⟩ (h.n3 a b).2 (h3 a b).2⟩,h.ne,h.a0⟩
 .obtain⟨i,j,f⟩:=h.n1 a b;exact⟨i,j,l.un _ f⟩
 rcases h.n2 a b with e|⟨o,i,j,f,m⟩
 .exact .inl e
 exact .inr ⟨o,i,j,l.un _ f,l.lv _ f m⟩
theorem JbAt.same{j:Jb}(b:jbIs s c j)(h:JbAt s c σ j)(hs:Same c σ σ')(i:Later σ σ')(h3:∀t,j=.hei t->t.done=false->3<=t.next->σ'.st t.d=.owned c/\Same t.d σ σ'):JbAt s c σ' j:=by
 cases j with
 |mal r x=>
  rcases x with _|x
  .exact RsAt.same h hs
  exact xA.same h hs
 |fre f=>exact⟨h.1.same hs,h.2.same h.1.kD hs⟩
 |aga r=>exact RrAt.same h hs
 |hei a=>exact⟨h.1.same hs,h.2.same b.1 i (h3 a rfl)⟩
end

theorem zyq(s:Sh)(c k a n:Int)(w:World)(hk:1<=k/\k<=4):
  Calls Tryz.prog 96 #[.agg #[s.p,s.c,s.m],c,.agg #[k,a,n]] w λe w'=>e=.returned (.tuple #[.int .i64 (MC s c k a n),.bool (yC s c k a n)])/\Below w.heap.size w w':=by
 have B:=λW=>zN s a W;have J:=λW=>ZP n W;have y:=λW=>pC s.p s.c s.m a W;have q:=λW=>iN n W;obtain⟨z,l,F⟩:=hidv (ZC s c k a n);obtain⟨D,b,I⟩:=hidv (kF s k n);unfold MC yC;rw[<-F,<- I];clear F I;unfold ZC at l;unfold kF at b;generalize uA s.p s.c s.m a=sx at*;generalize spB s a=there at*;generalize lenB n=E at*;generalize wi n 33 512=large at*;generalize lenV n=ln at*;generalize runV n=pages at*;generalize (if there=true then a/64 else 0)=pg at*;generalize (if there=true then a%64 else 0)=b8 at*;obtain⟨sp,M,N⟩:=s;dsimp only at B y l b|-;replace B:=hd' B;replace J:=hd' J;replace y:=hd' y;replace q:=hd' q;have V:=((Below.refl w.heap.size w).alloc lr (.cells #[sp,M,N] 23)).alloc (by simp) (.cells #[k,a,n] 32);have t0:aA ((w.alloc (.cells #[sp,M,N] 23)).alloc (.cells #[k,a,n] 32)) w.heap.size #[sp,M,N] 23:=aA.alloc (jA _ _) _;have t1:aA ((w.alloc (.cells #[sp,M,N] 23)).alloc (.cells #[k,a,n] 32)) (w.heap.size+1) #[k,a,n] 32:=by have h:=jA (w.alloc (.cells #[sp,M,N] 23)) (.cells #[k,a,n] 32);rw[show (w.alloc (.cells #[sp,M,N] 23)).heap.size=w.heap.size+1 by simp]at h;exact h
 go_in;go_upto_region 1 with fail;generalize (w.alloc (.cells #[sp,M,N] 23)).alloc (.cells #[k,a,n] 32)=X at*;obtain⟨G,hG,O⟩:∃G,Hid (G=w.heap.size+1)/\G=w.heap.size+1:=⟨_,hd' rfl,rfl⟩;simp only[<-O]at t1|-;clear O;obtain⟨H,hH,S⟩:=hidv w.heap.size;rw[<-S]at t0|-;clear S;have Z:=t0.cell;obtain⟨Y,d1,d2⟩:=ci3 k a n t1.cell;have lH:=t0.lt;have lG:=t1.lt;go_upto_region 3 with(first|(go_at_call 55;refine(J _).mono ?_;rintro r w1 ⟨rfl,b4⟩;obtain rfl:=b4.symm)|(go_at_call 126;refine(B _).mono ?_;rintro r w2 ⟨rfl,b⟩));have s0:=t0.below b;have s1:=t1.below b;have i:=qA V b;clear Z Y d1 d2 lH lG V b t0 t1;have b6:=s0.cell;obtain⟨Y,d1,d2⟩:=ci3 k a n s1.cell;have lH:=s0.lt;have lG:=s1.lt;have b0:k=1\/k=2\/k=3\/k=4:=by omega
 clear hk;rcases b0 with rfl|rfl|rfl|rfl;case inl=>
  cases E;case false=>obtain rfl:z=true:=l.out.trans (by simp);go_wp2_with fail;go_returns;exact⟨rfl,i⟩
  case true=>
   obtain rfl:z=false:=l.out.trans (by simp);cases large;case false=>obtain rfl:D=false:=b.out.trans (by simp);go_wp2_with (go_at_call 56;(with_reducible refine(q _).mono ?_);rintro r C ⟨rfl,j⟩;obtain rfl:=j.symm);go_returns;exact⟨rfl,i⟩
   case true=>
    by_cases L:sp<pages
    .obtain rfl:D=true:=b.out.trans (by simp[L]);go_wp2_with (go_at_call 56;(with_reducible refine(q _).mono ?_);rintro r C ⟨rfl,j⟩;obtain rfl:=j.symm);go_returns;exact⟨rfl,i⟩
    obtain rfl:D=false:=b.out.trans (by simp[L]);have b3:decide (sp<pages)=false:=jF L;go_wp2_with (go_at_call 56;(with_reducible refine(q _).mono ?_);rintro r C ⟨rfl,j⟩;obtain rfl:=j.symm);go_returns;exact⟨rfl,i⟩
 case inr.inl=>
  obtain rfl:D=false:=b.out.trans (by simp);cases there;case false=>obtain rfl:z=true:=l.out.trans (by simp);go_wp2_with fail;go_returns;exact⟨rfl,i⟩
  case true=>obtain rfl:z=false:=l.out.trans (by simp);go_wp2_with (go_at_call 56;(with_reducible refine(q _).mono ?_);rintro r C ⟨rfl,j⟩;obtain rfl:=j.symm);go_returns;exact⟨rfl,i⟩
 case inr.inr.inl=>
  cases E;case false=>obtain rfl:z=true:=l.out.trans (by simp);go_wp2_with fail;go_returns;exact⟨rfl,i⟩
  case true=>
   cases there;case false=>obtain rfl:z=true:=l.out.trans (by simp);go_wp2_with fail;go_returns;exact⟨rfl,i⟩
   case true=>
    obtain rfl:z=false:=l.out.trans (by simp);cases large;case false=>obtain rfl:D=false:=b.out.trans (by simp);go_wp2_with (go_at_call 56;(with_reducible refine(q _).mono ?_);rintro r C ⟨rfl,j⟩;obtain rfl:=j.symm);go_returns;exact⟨rfl,i⟩
    case true=>
     by_cases L:sp<pages
     .obtain rfl:D=true:=b.out.trans (by simp[L]);go_wp2_with (go_at_call 56;(with_reducible refine(q _).mono ?_);rintro r C ⟨rfl,j⟩;obtain rfl:=j.symm);go_returns;exact⟨rfl,i⟩
     obtain rfl:D=false:=b.out.trans (by simp[L]);have b3:decide (sp<pages)=false:=jF L;go_wp2_with (go_at_call 56;(with_reducible refine(q _).mono ?_);rintro r C ⟨rfl,j⟩;obtain rfl:=j.symm);go_returns;exact⟨rfl,i⟩
 case inr.inr.inr=>
  obtain rfl:D=false:=b.out.trans (by simp);by_cases hs:sx<0
  .obtain rfl:z=true:=l.out.trans (by simp[hs]);go_wp2_with (go_at_call 44;(with_reducible refine(y _).mono ?_);rintro r C ⟨rfl,o⟩);go_returns;exact⟨rfl,qA i o⟩
  have b7:decide (sx<0)=false:=jF hs;by_cases T:a=c
  .subst T;obtain rfl:z=true:=l.out.trans (by simp);go_wp2_with (go_at_call 44;(with_reducible refine(y _).mono ?_);rintro r C ⟨rfl,o⟩;have e1:=kA o _ _ _ d1;have e0:=kA o _ _ _ Y);go_returns;exact⟨rfl,qA i o⟩
  have U:(a==c)=false:=by simpa using T
  obtain rfl:z=false:=l.out.trans (by simp[hs,U]);go_wp2_with (first|(go_at_call 44;refine(y _).mono ?_;rintro r C ⟨rfl,o⟩;have e1:=kA o _ _ _ d1;have e0:=kA o _ _ _ Y;have e2:=kA o _ _ _ d2)|(go_at_call 56;refine(q _).mono ?_;rintro r w4 ⟨rfl,b5⟩;obtain rfl:=b5.symm));go_returns;exact⟨rfl,qA i o⟩
end Go.Proofs.YtkilokkopbajkaaGreat
