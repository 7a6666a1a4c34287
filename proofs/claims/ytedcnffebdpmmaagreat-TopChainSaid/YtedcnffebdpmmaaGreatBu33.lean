/- Texts bound together: InvH InvI InvJ InvL RjW RjH. -/
import Derived.Test.YtedcnffebdpmmaaGreatBu23

import Derived.Test.YtedcnffebdpmmaaGreatBu24

import Derived.Test.YtedcnffebdpmmaaGreatBu32

set_option linter.all false
set_option maxHeartbeats 4000000
set_option maxRecDepth 100000
namespace Go.Proofs.YtedcnffebdpmmaaGreat

section

variable {s:Sh} {σ σ':Ab} {c:Int} {R:Own}

theorem zaz.zrk{o:Own}(h:zaz σ c (Own.no.add o)):zaz σ c o:=h.eq (fun _=>(or_iff_right id).symm) (fun _ _=>(or_iff_right id).symm) (fun _ _ _=>(or_iff_right id).symm)
theorem zaz.zeb{o:Own}(h:zaz σ c o):zaz σ c (Own.no.add o):=h.eq (fun _=>or_iff_right id) (fun _ _=>or_iff_right id) (fun _ _ _=>or_iff_right id)
def zgb (b:Blk):Own:=if b.large=true then (Own.page b.page).add (.bodies b.page (b.page + 1) (b.page + b.pages)) else .way b.page b.slot b.k
def zoa (b:Blk):Bl:=if b.large=true then .lar b.page b.pages else .sm b.page b.slot b.k
def zi6 (σ:Ab) (b:Blk):Prop:=b.large=true->zfr σ b.page (b.page + 1)
theorem zi6.same{b:Blk}(i:∀ p,(zgb b).h p->σ.pg p= .held c)(h:zi6 σ b)(hs:Same c σ σ'):zi6 σ' b:=fun f=>
 (h f).same (fun p h0 h1=>i p (by unfold zgb;rw[if_pos f];exact .inl (show p=b.page by omega))) hs
def z3j (s:Sh) (t:Rs):Own:=match t.seeker,t.runner with
 | some x,_=> zey s x
 | none,some x=> zf2 x
 | none,none=> .no
def z0u (s:Sh) (c:Int) (σ:Ab) (t:Rs):Prop:=match t.seeker,t.runner with
 | some x,_=> zir s c σ x
 | none,some x=> zz8 c σ x
 | none,none=> True
structure RsAt (s:Sh) (c:Int) (σ:Ab) (t:Rs):Prop where
 ex:zaz σ c (z3j s t)
 inv:z0u s c σ t
theorem RsAt.same{t:Rs}(h:RsAt s c σ t)(hs:Same c σ σ'):RsAt s c σ' t:=by
 refine⟨h.ex.same hs,?_⟩;obtain⟨h1,h2⟩:=h;unfold z0u z3j at *;obtain⟨k,pg,sk,rn⟩:=t;rcases sk with _|x
 ·rcases rn with _|y
  ·trivial
  exact h2.same h1 hs
 exact h2.same h1.zeb hs
structure ydm (s:Sh) (c:Int) (σ:Ab) (r:Rs × Ab):Prop where
 kept:Kept s c σ r.2
 at':RsAt s c r.2 r.1
 calm:Calm σ r.2
theorem z1q{m:Mem}{t:Rs}(l:Rep s m σ)(j:GI s σ)(i:rsIs s c t)(hd:t.done=false)(h:RsAt s c σ t):ydm s c σ (rsA s t σ):=by
 obtain⟨h1,h2⟩:=h;unfold z3j z0u at *;obtain⟨k,pg,sk,rn⟩:=t;rcases sk with _|x
 ·rcases rn with _|y
  ·cases hd
  have f:=ycn l.may j (i.rn y rfl).ok hd ⟨h1,h2⟩;exact⟨f.kept,⟨f.at'.1,f.at'.2⟩,f.calm⟩
 have f:=ya8 l j (i.sk x rfl).1.ok (i.sk x rfl).2 hd h1.zeb h2;exact⟨f.1.kept,⟨f.1.ex.zrk,f.1.inv⟩,f.2⟩
theorem zkv{t:Rs}(q:rsIs s c t)(hd:t.done=true)(h:RsAt s c σ t):(t.got=none->zaz σ c .no)/\∀ b,t.got=some b->zaz σ c (zgb b)/\zi6 σ b:=by
 obtain⟨h1,h2⟩:=h;unfold z3j z0u Rs.got at *;obtain⟨k,pg,sk,rn⟩:=t;rcases sk with _|x
 ·rcases rn with _|y
  ·exact⟨fun _=>h1,fun b e=>(by cases e)⟩
  dsimp only at *;have o:y.done=true:=hd;unfold zf2 at h1;rcases Bool.eq_false_or_eq_true y.found with f|f
  ·rw[if_pos f];have j:y.ph= .found:=by unfold Rn.ph;rw[if_pos f]
   refine⟨fun e=>(by cases e),fun b e=>?_⟩;injection e with e;subst e;have l:y.pages=pg:=(q.rn y rfl).n;rw[j]at h1;have i:=h2.2;rw[j]at i;refine⟨h1.eqv ?_,fun _=>i⟩;unfold zgb;dsimp only;rw[if_pos rfl,l];refine⟨fun p=>?_,fun p g=>?_,fun _ _ _=>?_⟩<;>simp only[Own.run,Own.add,Own.page,Own.bodies,Own.pages,or_false,false_or,iff_false,false_iff]<;>(try omega)
  rw[if_neg (by rw[f];decide)];have j:y.ph= .dead:=by unfold Rn.ph;rw[if_neg (by rw[f];decide),if_pos o]
  rw[j]at h1;exact⟨fun _=>h1,fun b e=>(by cases e)⟩
 dsimp only at *;have m:x.done=true:=hd;rcases Bool.eq_false_or_eq_true x.found with f|f
 ·rw[if_pos f];refine⟨fun e=>(by cases e),fun b e=>?_⟩;injection e with e;subst e;have l:x.k=k:=(q.sk x rfl).1.k;have:zey s x= .way x.page x.slot x.k:=by unfold zey;rw[if_pos f]
  rw[this,l]at h1;exact⟨h1,fun e=>(by cases e)⟩
 rw[if_neg (by rw[f];decide)];rw[zga f (h2.dn m f)]at h1;exact⟨fun _=>h1,fun b e=>(by cases e)⟩
theorem z08{t:Cm}(y:GI s σ)(hd:t.done=false)(B:t.b.fits s c=true)(f:zaz σ c (zgb t.b))(hi:zi6 σ t.b):Kept s c σ (cmA t σ).2/\zaz (cmA t σ).2 c .no/\Plus (zoa t.b) σ (cmA t σ).2/\(cmA t σ).1= {t with done:=true}:=by
 obtain⟨_,hc,h3,h4,C⟩:=zdi.1 B;unfold cmA;rw[if_neg (by rw[hd];decide)];unfold zgb at f;unfold zoa;by_cases p:t.b.large=true
 ·rw[if_pos p]at f ⊢;rw[if_pos p];have z:=h4 p;have m:σ.pg t.b.page= .held c:=(f.h _).2 (.inl rfl);have l:∀ i,σ.sl t.b.page i= .none:=fun i=>hi p _ i (Int.le_refl _) (by omega);have hb:∀ q,σ.pg q= .body t.b.page↔t.b.page+1<=q/\q<t.b.page+t.b.pages:=fun q=>by have:=f.b q t.b.page;simp only[Own.add,Own.page,Own.bodies,false_or,true_and]at this;rw[<-this];exact⟨fun e=>⟨e,m⟩,And.left⟩
  refine⟨zlp y m l z (fun j h0 h1=>(hb _).2 (by omega)) (fun q e=>((hb q).1 e).2),?_,z1n (fun n e=>by rw[m]at e;cases e),rfl⟩;exact zkr (o:= .no) (f.eqv ⟨fun _=>or_congr (or_iff_right id).symm .rfl,fun _ _=>or_congr (or_iff_right id).symm .rfl,fun _ _ _=>or_congr (or_iff_right id).symm .rfl⟩) id (fun _=>id)
 rw[if_neg p]at f ⊢;rw[if_neg p];obtain⟨⟨b,m⟩,hs⟩:=(f.w _ _ _).2 (.inl ⟨rfl,rfl,rfl⟩);have r:=f.zeb;exact⟨zc6 y m hs (.inr rfl) (znc r m),zdd r (fun _=>id) m (.inr rfl),z1b (fun n e=>by rw[hs]at e;cases e),rfl⟩
def zqs (t:Un):Own:=if t.done=true then .no else if t.b.large=true then (Own.page t.b.page).add (.bodies t.b.page (t.b.page + 1 + t.i) (t.b.page + t.b.pages)) else .way t.b.page t.b.slot t.b.k
structure UnAt (s:Sh) (c:Int) (σ:Ab) (t:Un):Prop where
 ex:zaz σ c (zqs t)
 inv:t.done=false->zi6 σ t.b
theorem UnAt.same{t:Un}(h:UnAt s c σ t)(hs:Same c σ σ'):UnAt s c σ' t:=⟨h.ex.same hs,fun hd=>by
 refine fun f=>(h.inv hd f).same (fun p h0 h1=>(h.ex.h p).2 ?_) hs
 unfold zqs;rw[if_neg (by rw[hd];decide),if_pos f];exact .inl (show p=t.b.page by omega)⟩
theorem Own.zx9{h lo hi:Int}(f:lo<hi):((Own.bodies h (lo+1) hi).add (.bodies h lo (lo+1))).Eqv (.bodies h lo hi):=by
 refine⟨fun p=>?_,fun p g=>?_,fun _ _ _=>?_⟩<;>simp only[Own.add,Own.bodies,or_false,false_or,iff_false,false_iff]<;>(try omega)
theorem zq1{P lo hi:Int}(m:GI s σ)(i:P+1<=lo/\lo<hi)(o:∀ q,¬ R.b q P)(j:zaz σ c (R.add ((Own.page P).add (.bodies P lo hi)))):
  Kept s c σ (σ.page lo .empty)/\zaz (σ.page lo .empty) c (R.add ((Own.page P).add (.bodies P (lo+1) hi)))/\Calm σ (σ.page lo .empty):=by
 have f:σ.pg lo= .body P/\σ.pg P= .held c:=(j.b lo P).2 (.inr (.inr ⟨rfl,Int.le_refl _,i.2⟩));have l:zaz σ c ((R.add ((Own.page P).add (.bodies P (lo+1) hi))).add (.bodies P lo (lo+1))):=by refine j.eqv (.symm (.trans (.zp7 _ _ _) (.add R (.trans (.zp7 _ _ _) (.add _ (Own.zx9 i.2))))))
 refine⟨zjz m f.1 f.2,zoe m l (fun g e=>?_),zdt (fun n e=>by cases e) (fun n e=>by rw[f.1]at e;cases e)⟩;rcases e with e|e|e
 ·have h1:=(j.b lo g).2 (.inl e);have:g=P:=by have:=h1.1;rw[f.1]at this;injection this with this;exact this.symm
  subst this;exact o _ e
 ·exact e
 have:=e.2.1;omega
theorem zq4{P hi:Int}(t:GI s σ)(r:∀ q,¬ R.b q P)(j:¬ R.h P)(hb:zfr σ P (P+1))(l:zaz σ c (R.add ((Own.page P).add (.bodies P hi hi)))):
  Kept s c σ (σ.page P .empty)/\zaz (σ.page P .empty) c (R.add .no)/\Calm σ (σ.page P .empty):=by
 have o:σ.pg P= .held c:=(l.h P).2 (.inr (.inl rfl));have f:∀ q,σ.pg q≠ .body P:=fun q e=>by
  rcases(l.b q P).1 ⟨e,o⟩ with e|e|e
  ·exact r _ e
  ·exact e
  have:=e.2;omega
 have m:zaz σ c (R.add (.page P)):=l.eqv (.add R ⟨fun _=>or_iff_left id,fun p g=>⟨fun h=>h.elim id (fun h=>by have h1:=h.2;omega),fun h=>h.elim⟩,fun _ _ _=>or_iff_left id⟩);exact⟨zg7 t o (fun i=>hb P i (Int.le_refl _) (by omega)) f,(zi1 m j f).eqv (Own.Eqv.zeb R).symm,zdt (fun n e=>by cases e) (fun n e=>by rw[o]at e;cases e)⟩
theorem yae{t:Un}(r:GI s σ)(B:unOk s t)(hd:t.done=false)(h:UnAt s c σ t):Kept s c σ (unA t σ).2/\UnAt s c (unA t σ).2 (unA t σ).1/\Calm σ (unA t σ).2/\(unA t σ).1.b=t.b:=by
 obtain⟨l,hi⟩:=h;obtain⟨k1,C⟩:=B.cl hd;obtain⟨_,_,h3,h4,D⟩:=zdi.1 k1;unfold unA;rw[if_neg (by rw[hd];decide)];unfold zqs at l;rw[if_neg (by rw[hd];decide)]at l;by_cases m:t.b.large=true
 ·rw[if_neg (by rw[m];decide)];rw[if_pos m]at l;have z:=C m;by_cases j:t.i=t.b.pages-1
  ·rw[if_pos j];have f:zaz σ c (Own.no.add ((Own.page t.b.page).add (.bodies t.b.page (t.b.page+t.b.pages) (t.b.page+t.b.pages)))):=by rw[show t.b.page+1+t.i=t.b.page+t.b.pages by omega]at l;exact l.zeb
   obtain⟨o,p,q⟩:=zq4 r (R:= .no) (fun _=>id) id (hi hd m) f;refine⟨o,⟨?_,fun e=>(by cases e)⟩,q,rfl⟩;unfold zqs;rw[if_pos rfl];exact p.zrk
  rw[if_neg j];have f:=l.zeb;rw[show t.b.page+1+t.i=t.b.page+t.i+1 by omega]at f;obtain⟨o,p,q⟩:=zq1 r (R:= .no) (P:=t.b.page) (lo:=t.b.page+t.i+1) (hi:=t.b.page+t.b.pages) (by omega) (fun _=>id) f;refine⟨o,⟨?_,fun _ _=>?_⟩,q,rfl⟩
  ·unfold zqs;dsimp only;rw[if_neg (by rw[hd];decide),if_pos m,show t.b.page+1+(t.i+1)=t.b.page+t.i+1+1 by omega];exact p.zrk
  exact hi hd m
 rw[if_pos (by simpa using m)];rw[if_neg m]at l;obtain⟨⟨b,y⟩,hs⟩:=(l.w _ _ _).2 (.inl ⟨rfl,rfl,rfl⟩);have f:=l.zeb;refine⟨zc6 r y hs (.inl rfl) (znc f y),⟨?_,fun e=>(by cases e)⟩,zdn (fun n e=>by cases e) (fun n e=>by rw[hs]at e;cases e),rfl⟩;unfold zqs;rw[if_pos rfl];exact zdd f (fun _=>id) y (.inl rfl)
inductive FePh
 | idle
 | put (x:Pu)
 | back
 | drop
def Fe.ph (t:Fe):FePh:=if t.done=true then .idle else if t.next=2 then (match t.put with | some x=> .put x | none=> .idle) else if t.next=3 then .back else if t.next=4 then .drop else .idle
def ziw (t:Fe):Own:=match t.ph with
 | .idle=> .no
 | .put x=> zlt x
 | .back=> .way t.page t.slot t.pa
 | .drop=> (Own.page t.page).add (.bodies t.page (t.page + 1 + t.i) (t.page + t.pa))
def feBl (t:Fe):Bl:=if t.pk=3 then .lar t.page t.pa else .sm t.page t.slot t.pa
structure zr5 (s:Sh) (c:Int) (σ:Ab) (R:Own) (t:Fe):Prop where
 cl:t.c=c
 w:t.done=false->t.next=1->t.pk=3->t.word=(PW.large t.pa).enc
 ph:match t.ph with
  | .idle=> True
  | .put x=> zp5 c σ x/\(x.ep=t.page/\x.es=t.slot/\x.ek=t.pa)/\x.put=false/\∀ k',¬ R.w t.page t.slot k'
  | .back=> ∀ k',¬ R.w t.page t.slot k'
  | .drop=> zfr σ t.page (t.page + 1)/\¬ R.h t.page/\∀ q,¬ R.b q t.page
theorem zr5.same{t:Fe}(f:zaz σ c (R.add (ziw t)))(h:zr5 s c σ R t)(hs:Same c σ σ'):zr5 s c σ' R t:=by
 obtain⟨h1,h2,h3⟩:=h;refine⟨h1,h2,?_⟩;unfold ziw at f;cases hp:t.ph with
 |idle=>trivial
 |put x=>rw[hp]at h3;exact⟨h3.1.same hs,h3.2⟩
 |back=>rw[hp]at h3;exact h3;|drop=>rw[hp]at h3 f;exact⟨h3.1.same (fun p h0 h1=>(f.h p).2 (.inr (.inl (show p=t.page by omega)))) hs,h3.2⟩
structure zxb (s:Sh) (c:Int) (σ:Ab) (R:Own) (t:Fe) (r:Fe × Ab):Prop where
 kept:Kept s c σ r.2
 ex:zaz r.2 c (R.add (ziw r.1))
 inv:zr5 s c r.2 R r.1
 sl:∀ q i,σ.pg q= .held c->r.2.sl q i=σ.sl q i
 chg:(t.gave=false->r.1.gave=true->zr4 (feBl t) σ r.2/\r.1.done=false/\t.next=1)/\((t.gave=true\/r.1.gave=false)->Calm σ r.2)
end

section

variable {s:Sh} {σ σ':Ab} {c:Int} {R:Own}

theorem yge(s:Sh)(t:Pu)(σ:Ab):(puA s t σ).1.ep=t.ep/\(puA s t σ).1.es=t.es/\(puA s t σ).1.ek=t.ek:=by
 unfold puA;split
 ·exact⟨rfl,rfl,rfl⟩
 split
 ·exact⟨rfl,rfl,rfl⟩
 dsimp only;split<;>exact⟨rfl,rfl,rfl⟩
theorem zcq{t:Fe}(h:t.ph= .idle):ziw t= .no:=by unfold ziw;rw[h]
theorem zdp{t:Fe}(h:t.done=true):t.ph= .idle:=by unfold Fe.ph;rw[if_pos h]
theorem zib{t:Fe}(h:t.next=0\/t.next=1):t.ph= .idle:=by
 unfold Fe.ph;split
 ·rfl
 rw[if_neg (by omega),if_neg (by omega),if_neg (by omega)]
theorem zen{t:Fe}(hc:t.c=c)(h:t.ph= .idle)(f:t.done=false->t.next=1->t.pk=3->t.word=(PW.large t.pa).enc):zr5 s c σ R t:=⟨hc,f,by rw[h];trivial⟩
theorem z4l{m:Mem}{t:Fe}(hr:Rep s m σ)(C:GI s σ)(hk:feIs s c t)(hd:t.done=false)(f:zaz σ c (R.add (ziw t)))(hi:zr5 s c σ R t):zxb s c σ R t (feA s t σ):=by
 obtain⟨c1,c2,c3,c4,c5,c6,c7,c8,c9,b0⟩:=hk.ok.cl hd;obtain⟨hc,hw,B⟩:=hi;subst hc;unfold feA;rw[if_neg (by rw[hd];decide)];have H:∀ t':Fe,t'.c=t.c->t'.ph= .idle->t'.gave=false->(t'.done=false->t'.next=1->t'.pk=3->t'.word=(PW.large t'.pa).enc)->zaz σ t.c (R.add .no)->zxb s t.c σ R t (t',σ):=fun t' h1 h2 h3 h4 h5=>⟨Kept.refl C,by rw[zcq h2];exact h5,zen h1 h2 h4,fun _ _ _=>rfl,⟨fun _ e=>(by rw[h3]at e;cases e),fun _=>Calm.refl _⟩⟩
 by_cases h0:t.next=0
 ·rw[if_pos h0];have r:=hk.gv (by omega);rw[zcq (zib (.inl h0))]at f;have z:(t.zeg (σ.pg t.page)).c=t.c/\(t.zeg (σ.pg t.page)).gave=t.gave/\(t.zeg (σ.pg t.page)).next=1/\(t.zeg (σ.pg t.page)).pk=(σ.pg t.page).kind/\(t.zeg (σ.pg t.page)).pa=(σ.pg t.page).pa/\(t.zeg (σ.pg t.page)).word=(σ.pg t.page).enc:=by
   unfold Fe.zeg;dsimp only;split
   ·exact⟨rfl,rfl,rfl,rfl,rfl,rfl⟩
   split<;>exact⟨rfl,rfl,rfl,rfl,rfl,rfl⟩
  refine H _ z.1 (zib (.inr z.2.2.1)) (z.2.1.trans r) (fun _ _ e=>?_) f;rw[z.2.2.2.1]at e;rw[z.2.2.2.2.1,z.2.2.2.2.2];cases o:σ.pg t.page<;>rw[o]at e<;>simp[PW.kind]at e;rfl
 rw[if_neg h0];by_cases h1:t.next=1
 ·rw[if_pos h1];have r:=hk.gv (by omega);rw[zcq (zib (.inr h1))]at f;have E:zaz σ t.c R:=f.eqv (Own.Eqv.zeb R);by_cases F:t.pk=3
  ·rw[if_pos F];by_cases o:(σ.pg t.page).enc=t.word
   ·rw[if_pos o];rcases c6 (by omega) with⟨_,k2,k3,k4⟩|⟨k1,_⟩
    ·have j:σ.pg t.page= .large t.pa:=PW.inj hr.may (C.pf _) (q:=t.page) (y:= .large t.pa) ⟨c2,k2,k3,k4⟩ (by rw[o];exact hw hd h1 F);have D:({t with gave:=true,next:=4,done:=false}:Fe).ph= .drop:=rfl;refine⟨zmq C j c1,?_,⟨rfl,fun _ e=>(by cases e),?_⟩,fun _ _ _=>rfl,⟨fun _ _=>⟨?_,rfl,h1⟩,fun e=>by rcases e with e|e;(rw[r]at e;cases e);(cases e)⟩⟩
     ·unfold ziw;rw[D];dsimp only;rw[c5 (by omega),show t.page+1+0=t.page+1 by omega];exact(zlv C E j).eqv (Own.Eqv.zp7 _ _ _)
     ·rw[D];refine⟨fun p i a b=>?_,fun e=>?_,fun q e=>?_⟩
      ·rw[show p=t.page by dsimp only at a b;omega];exact zm3 C (.inr (.inl ⟨_,j⟩)) i
      ·have:=(E.h _).2 e;rw[j]at this;cases this
      have:=((E.b _ _).2 e).2;rw[j]at this;cases this
     unfold feBl;rw[if_pos F];exact zy2 (fun n e=>by cases e) j
    omega
   rw[if_neg o];exact H _ rfl (zdp rfl) rfl (fun e=>by cases e) f
  rw[if_neg F];by_cases o:σ.sl t.page t.slot= .taken t.pa
  ·rw[if_pos o];obtain⟨⟨b,D⟩,b7⟩:=zhs C (.inr o);have b2:=zf3 C D (.inr o) c1;have b1:=zfc C E D (.inr o);have b3:zr4 (feBl t) σ (σ.slot t.page t.slot (.way t.c)):=by unfold feBl;rw[if_neg F];exact zzw (fun n e=>by cases e) o
   have O:∀ U,¬ R.w t.page t.slot U:=fun U e=>by have:=((E.w _ _ _).2 (.inl e)).2;rw[o]at this;cases this
   have fin:∀ t':Fe,t'.c=t.c->t'.gave=true->t'.done=false->ziw t'= .way t.page t.slot t.pa->(match t'.ph with | .idle=>True | .put x=>zp5 t.c (σ.slot t.page t.slot (.way t.c)) x/\(x.ep=t'.page/\x.es=t'.slot/\x.ek=t'.pa)/\x.put=false/\∀ U,¬ R.w t'.page t'.slot U | .back=>∀ U,¬ R.w t'.page t'.slot U | .drop=>zfr (σ.slot t.page t.slot (.way t.c)) t'.page (t'.page+1)/\¬ R.h t'.page/\∀ q,¬ R.b q t'.page)->t'.next≠1->zxb s t.c σ R t (t',σ.slot t.page t.slot (.way t.c)):=fun t' e1 e2 e6 e3 V e5=>⟨b2,by rw[e3];exact b1,⟨e1,fun _ e=>absurd e e5,V⟩,fun q i hq=>zbq _ _ (fun e=>by rw[e.1,D]at hq;cases hq),⟨fun _ _=>⟨b3,e6,h1⟩,fun e=>by rcases e with e|e;(rw[r]at e;cases e);(have e:t'.gave=false:=e;rw[e2]at e;cases e)⟩⟩
   have S:zxb s t.c σ R t ({t with gave:=true,next:=3,done:=false},σ.slot t.page t.slot (.way t.c)):=fin _ rfl rfl rfl rfl O (show (3:Int)≠1 by decide);unfold Fe.gotA;dsimp only[Bool.not_true];by_cases Z:t.pb=t.c
   ·rw[if_pos Z];unfold Fe.kept;dsimp only;rw[if_neg (show ¬ (zg5 s t.c t.page t.slot t.pa).put=true by simp[zg5])];rcases Bool.eq_false_or_eq_true (zg5 s t.c t.page t.slot t.pa).done with e|e
    ·rw[if_pos e];exact fin _ rfl rfl rfl rfl O (show (3:Int)≠1 by decide)
    rw[if_neg (by rw[e];decide)];exact fin _ rfl rfl rfl rfl ⟨⟨rfl,fun e=>(by cases e),fun e=>(by cases e)⟩,⟨rfl,rfl,rfl⟩,rfl,O⟩ (show (2:Int)≠1 by decide)
   rw[if_neg Z];exact S
  rw[if_neg o];have h3:(t.gotA s false).c=t.c/\(t.gotA s false).gave=false/\(t.gotA s false).done=true:=by
   unfold Fe.gotA;dsimp only;refine⟨?_,?_,rfl⟩
   ·split
    ·unfold Fe.kept;dsimp only;split
     ·rfl
     split<;>rfl
    rfl
   split
   ·unfold Fe.kept;dsimp only;split
    ·rfl
    split<;>rfl
   rfl
  exact H _ h3.1 (zdp h3.2.2) h3.2.1 (fun e=>by rw[h3.2.2]at e;cases e) f
 rw[if_neg h1];have r:=hk.gv2 (by omega) hd;have calm:∀ (t':Fe) σ',Calm σ σ'->(t.gave=false->t'.gave=true->zr4 (feBl t) σ σ'/\t'.done=false/\t.next=1)/\((t.gave=true\/t'.gave=false)->Calm σ σ'):=fun t' σ' h=>⟨fun e=>(by rw[r]at e;cases e),fun _=>h⟩;by_cases h2:t.next=2
 ·rw[if_pos h2];obtain⟨_,x,o,b5,b4⟩:=c8 h2;have D:t.ph= .put x:=by unfold Fe.ph;rw[if_neg (by rw[hd];decide),if_pos h2,o]
  unfold ziw at f;rw[D]at f B;obtain⟨p1,I,p3,p4⟩:=B;rw[o];dsimp only;obtain⟨⟨M,J,X⟩,g4⟩:=z96 C b5 b4 (R:=R) (by rw[I.1,I.2.1];exact p4) f p1;obtain⟨e1,e2,e3⟩:=yge s x σ;have T:∀ q i,σ.pg q= .held t.c->(puA s x σ).2.sl q i=σ.sl q i:=fun q i _=>by unfold puA;split;rfl;split;rfl;rfl
  unfold Fe.kept;dsimp only;rcases Bool.eq_false_or_eq_true (puA s x σ).1.put with e|e
  ·rw[if_pos e];refine⟨M,?_,zen rfl (zdp rfl) (fun e=>by cases e),T,calm _ _ g4⟩;rw[zcq (zdp rfl)];have:zlt (puA s x σ).1= .no:=by unfold zlt;rw[if_pos e]
   rw[this]at J;exact J
  rw[if_neg (by rw[e];decide)];have Y:zlt (puA s x σ).1= .way t.page t.slot t.pa:=by unfold zlt;rw[if_neg (by rw[e];decide),e1,e2,e3,I.1,I.2.1,I.2.2]
  rcases Bool.eq_false_or_eq_true (puA s x σ).1.done with V|V
  ·rw[if_pos V];have l:({t with put:=some (puA s x σ).1,next:=3}:Fe).ph= .back:=by unfold Fe.ph;dsimp only;rw[if_neg (by rw[hd];decide)];rfl
   refine⟨M,?_,⟨rfl,fun _ e=>(by cases e),?_⟩,T,calm _ _ g4⟩
   ·unfold ziw;rw[l];rw[Y]at J;exact J
   rw[l];exact p4
  rw[if_neg (by rw[V];decide)];have l:({t with put:=some (puA s x σ).1}:Fe).ph= .put (puA s x σ).1:=by unfold Fe.ph;dsimp only;rw[if_neg (by rw[hd];decide),if_pos h2]
  refine⟨M,?_,⟨rfl,fun _ e=>absurd e h1,?_⟩,T,calm _ _ g4⟩
  ·unfold ziw;rw[l];exact J
  rw[l];exact⟨X,⟨e1.trans I.1,e2.trans I.2.1,e3.trans I.2.2⟩,e,p4⟩
 rw[if_neg h2];by_cases h3:t.next=3
 ·rw[if_pos h3];have D:t.ph= .back:=by unfold Fe.ph;rw[if_neg (by rw[hd];decide),if_neg h2,if_pos h3]
  unfold ziw at f;rw[D]at f B;obtain⟨⟨b,L⟩,hs⟩:=(f.w _ _ _).2 (.inl (.inr ⟨rfl,rfl,rfl⟩));refine⟨zc6 C L hs (.inl rfl) (znc f L),?_,zen rfl (zdp rfl) (fun e=>by cases e),fun q i hq=>zbq _ _ (fun e=>by rw[e.1,L]at hq;cases hq),calm _ _ (zdn (fun n e=>by cases e) (fun n e=>by rw[hs]at e;cases e))⟩;rw[zcq (zdp rfl)];exact(zdd f B L (.inl rfl)).eqv (Own.Eqv.zeb R).symm
 rw[if_neg h3];have h4:t.next=4:=by omega
 have D:t.ph= .drop:=by unfold Fe.ph;rw[if_neg (by rw[hd];decide),if_neg h2,if_neg h3,if_pos h4]
 unfold ziw at f;rw[D]at f B;obtain⟨p1,I,p3⟩:=B;have b6:=b0 h4;by_cases G:t.i=t.pa-1
 ·rw[if_pos G];rw[show t.page+1+t.i=t.page+t.pa by omega]at f;obtain⟨M,J,X⟩:=zq4 C p3 I p1 f;refine⟨M,?_,zen rfl (zdp rfl) (fun e=>by cases e),fun _ _ _=>rfl,calm _ _ X⟩;rw[zcq (zdp rfl)];exact J
 rw[if_neg G];rw[show t.page+1+t.i=t.page+t.i+1 by omega]at f;obtain⟨M,J,X⟩:=zq1 C (by omega) p3 f;have l:({t with i:=t.i+1}:Fe).ph= .drop:=by unfold Fe.ph;dsimp only;rw[if_neg (by rw[hd];decide),if_neg h2,if_neg h3,if_pos h4]
 refine⟨M,?_,⟨rfl,fun _ e=>absurd e h1,?_⟩,fun _ _ _=>rfl,calm _ _ X⟩
 ·unfold ziw;rw[l];dsimp only;rw[show t.page+1+(t.i+1)=t.page+t.i+1+1 by omega];exact J
 rw[l];exact⟨fun p i a b=>p1 p i a b,I,p3⟩
end

section

variable {s:Sh} {σ σ':Ab} {c:Int}
inductive RrPh
 | dead
 | res (r:Rs)
 | fre (b:Blk) (f:Fe)
 | und (u:Un)
 | com (u:Cm)
def Rr.ph (t:Rr):RrPh:=if t.done=true then .dead else match t.res,t.free with
 | some r,some f=> if r.done=false then .res r else (match t.undo,t.com with
  | some u,_=> .und u
  | none,some u=> .com u
  | none,none=> match r.got with
   | some b=> .fre b f
   | none=> .dead)
 | _,_=> .dead
def zjm (s:Sh) (t:Rr):Own:=match t.ph with
 | .dead=> .no
 | .res r=> z3j s r
 | .fre b f=> (zgb b).add (ziw f)
 | .und u=> zqs u
 | .com u=> zgb u.b
def z0z (c:Int) (f:Fe):Prop:=f.done=false/\f.next=0/\f.c=c
structure ygt (s:Sh) (c:Int) (σ:Ab) (t:Rr):Prop where
 cl:t.c=c
 ph:match t.ph with
  | .dead=> t.done=true
  | .res r=> z0u s c σ r/\∀ f,t.free=some f->z0z c f
  | .fre b f=> zi6 σ b/\zr5 s c σ (zgb b) f/\f.done=false
  | .und u=> UnAt s c σ u/\u.done=false/\∀ r,t.res=some r->r.got≠none
  | .com u=> zi6 σ u.b/\u.done=false
structure RrAt (s:Sh) (c:Int) (σ:Ab) (t:Rr):Prop where
 ex:zaz σ c (zjm s t)
 inv:ygt s c σ t
theorem RrAt.same{t:Rr}(h:RrAt s c σ t)(hs:Same c σ σ'):RrAt s c σ' t:=by
 obtain⟨i,h1,h2⟩:=h;refine⟨i.same hs,h1,?_⟩;unfold zjm at i;cases hp:t.ph with
 |dead=>rw[hp]at h2;exact h2;|res r=>rw[hp]at i h2;exact⟨(RsAt.same ⟨i,h2.1⟩ hs).inv,h2.2⟩
 |fre b f=>rw[hp]at i h2;exact⟨h2.1.same (c:=c) (fun p hb=>(i.h p).2 (.inl hb)) hs,h2.2.1.same i hs,h2.2.2⟩
 |und u=>rw[hp]at h2;exact⟨h2.1.same hs,h2.2⟩
 |com u=>rw[hp]at i h2;exact⟨h2.1.same (c:=c) (fun p hb=>(i.h p).2 hb) hs,h2.2⟩
theorem zhq{t:Rr}(hd:t.done=true)(hc:t.c=c)(i:zaz σ c .no):RrAt s c σ t:=by
 have f:t.ph= .dead:=by unfold Rr.ph;rw[if_pos hd]
 refine⟨?_,hc,?_⟩
 ·unfold zjm;rw[f];exact i
 rw[f];exact hd
def zb2 (t:Rr):Bool:=match t.free with | some f=> f.gave | none=> false
structure zwj (s:Sh) (c:Int) (σ:Ab) (t:Rr) (r:Rr × Ab):Prop where
 kept:Kept s c σ r.2
 at':RrAt s c r.2 r.1
 gave:∀ f,t.free=some f->zb2 t=false->zb2 r.1=true->(zr4 (feBl f) σ r.2/\f.next=1/\f.done=false)/\r.1.done=false
 took:r.1.done=true->r.1.err=0->∃ x b,r.1.res=some x/\x.got=some b/\Plus (zoa b) σ r.2
 calm:(zb2 t=true\/zb2 r.1=false)->¬ (r.1.done=true/\r.1.err=0)->Calm σ r.2
theorem zmw{a:Int}(hs:mayB s.p s.c s.m=true)(hc:0<=c/\c<s.c)(f:spB s a=true):z0z c (zc2 s c a):=by
 have hb:=zar.1 hs;have h1:zae s.p s.c s.m c=c:=by unfold zae;rw[if_pos ⟨hs,zbc.2 (by omega)⟩]
 refine⟨?_,rfl,rfl⟩;simp only[zc2,f,h1];simp;omega
theorem z6k{b:Blk}(i:b.fits s c=true)(f:zaz σ c (zgb b))(hi:zi6 σ b):UnAt s c σ (zf1 s c b)/\(zf1 s c b).done=false:=by
 have hd:(zf1 s c b).done=false:=by simp[zf1,i]
 refine⟨⟨?_,fun _=>hi⟩,hd⟩;unfold zqs;rw[if_neg (by rw[hd];decide)];unfold zgb at f;simp only[zf1];rw[show b.page+1+0=b.page+1 by omega];exact f
theorem z1v{t:Rr}{r:Rs}{f:Fe}(hd:t.done=false)(m:t.res=some r)(n:t.free=some f)(h:r.done=false):rrA s t σ=(Rr.settle s {t with res:=some (rsA s r σ).1},(rsA s r σ).2):=by
 obtain⟨y,q,j,l,o,p,i⟩:=t;dsimp only at hd m n;subst hd m n;unfold rrA;exact if_pos h
theorem z3m{t:Rr}{r:Rs}{f:Fe}(hd:t.done=false)(m:t.res=some r)(n:t.free=some f)(h:¬ r.done=false)(h2:f.done=false):rrA s t σ=(Rr.settle s {t with free:=some (feA s f σ).1},(feA s f σ).2):=by
 obtain⟨y,q,j,l,o,p,i⟩:=t;dsimp only at hd m n;subst hd m n;unfold rrA;exact(if_neg h).trans (if_pos h2)
theorem z2h{t:Rr}{r:Rs}{f:Fe}{u:Un}(hd:t.done=false)(m:t.res=some r)(n:t.free=some f)(h:¬ r.done=false)(h2:¬ f.done=false)(hu:t.undo=some u):rrA s t σ=(Rr.settle s {t with undo:=some (unA u σ).1},(unA u σ).2):=by
 obtain⟨y,q,j,l,o,p,i⟩:=t;dsimp only at hd m n hu;subst hd m n hu;unfold rrA;exact(if_neg h).trans (if_neg h2)
theorem zz2{t:Rr}{r:Rs}{f:Fe}{u:Cm}(hd:t.done=false)(m:t.res=some r)(n:t.free=some f)(h:¬ r.done=false)(h2:¬ f.done=false)(hu:t.undo=none)(hc:t.com=some u):rrA s t σ=(Rr.settle s {t with com:=some (cmA u σ).1},(cmA u σ).2):=by
 obtain⟨y,q,j,l,o,p,i⟩:=t;dsimp only at hd m n hu hc;subst hd m n hu hc;unfold rrA;exact(if_neg h).trans (if_neg h2)
theorem zpi{t:Rr}{r:Rs}{f:Fe}(hd:t.done=false)(i:t.res=some r)(j:t.free=some f)(h:r.done=false):t.ph= .res r:=by
 unfold Rr.ph;rw[if_neg (by rw[hd];decide),i,j];exact if_pos h
theorem zl0{t:Rr}{r:Rs}{f:Fe}{u:Un}(hd:t.done=false)(i:t.res=some r)(j:t.free=some f)(h:¬ r.done=false)(hu:t.undo=some u):t.ph= .und u:=by
 unfold Rr.ph;rw[if_neg (by rw[hd];decide),i,j];dsimp only;rw[if_neg h,hu]
theorem zxc{t:Rr}{r:Rs}{f:Fe}{u:Cm}(hd:t.done=false)(i:t.res=some r)(j:t.free=some f)(h:¬ r.done=false)(hu:t.undo=none)(hc:t.com=some u):t.ph= .com u:=by
 unfold Rr.ph;rw[if_neg (by rw[hd];decide),i,j];dsimp only;rw[if_neg h,hu,hc]
theorem zgm{t:Rr}{r:Rs}{f:Fe}(hd:t.done=false)(i:t.res=some r)(j:t.free=some f)(h:¬ r.done=false)(hu:t.undo=none)(hc:t.com=none):t.ph=match r.got with|some b=>.fre b f|none=>.dead:=by
 unfold Rr.ph;rw[if_neg (by rw[hd];decide),i,j];dsimp only;rw[if_neg h,hu,hc]
theorem ybw{m:Mem}{t:Rr}(hr:Rep s m σ)(hg:GI s σ)(J:rrIs s c t)(b9:0<=c/\c<s.c)(hd:t.done=false)(h:RrAt s c σ t):zwj s c σ t (rrA s t σ):=by
 obtain⟨H,hc,hi⟩:=h;obtain⟨r,f,z,q,o1,o2,o3,o4,o5,o6⟩:=J.ok.cl hd;have X:=J.res r z;have b5:=J.fre f q;by_cases n:r.done=false
 ·rw[z1v hd z q n];have V:t.ph= .res r:=zpi hd z q n;have j:t.undo=none/\t.com=none:=by
   constructor
   ·cases hu:t.undo with
    |none=>rfl
    |some u=>obtain⟨Z,M,y,E,_⟩:=J.mid hd (.inl (by rw[hu];simp));rw[z]at y;injection y with y;subst y;rw[n]at E;cases E
   cases hu:t.com with
   |none=>rfl
   |some u=>obtain⟨Z,M,y,E,_⟩:=J.mid hd (.inr (by rw[hu];simp));rw[z]at y;injection y with y;subst y;rw[n]at E;cases E
  unfold zjm at H;rw[V]at H hi;have D:=hi.2 f q;have o:=z1q hr hg X n ⟨H,hi.1⟩;have O:rsIs s c (rsA s r σ).1:=by have:=(zvz (m:=m) X n hr.fi).2.1;rwa [(z0x hr hg o1).1]at this
  have b7:f.gave=false:=b5.gv (by rw[D.2.1];decide);have fin:∀ t':Rr,RrAt s c (rsA s r σ).2 t'->t'.free=some f->¬ (t'.done=true/\t'.err=0)->zwj s c σ t (t',(rsA s r σ).2):=fun t' h1 h2 h3=>⟨o.kept,h1,fun M _ _ e=>(by unfold zb2 at e;dsimp only at e;rw[h2]at e;dsimp only at e;rw[b7]at e;cases e),fun a b=>absurd ⟨a,b⟩ h3,fun _ _=>o.calm⟩
  rcases zcp s {t with res:=some (rsA s r σ).1} (rsA s r σ).1 f rfl q with⟨h1,_⟩|⟨_,h1,_⟩|⟨_,_,h1,e⟩|⟨_,_,h1,h2,e⟩|⟨b,_,_,h1,h2,h3,e⟩|⟨b,_,_,_,_,_,_,h1,_,e⟩|⟨b,_,_,_,_,_,_,h1,_,e⟩
  ·have h1:zev t.undo=true:=h1;rw[j.1]at h1;cases h1
  ·have h1:zha t.com=true:=h1;rw[j.2]at h1;cases h1
  ·rw[e];refine fin _ ?_ q (fun h=>by have:=h.1;rw[show ({t with res:=some (rsA s r σ).1}:Rr).done=t.done from rfl,hd]at this;cases this);have l:({t with res:=some (rsA s r σ).1}:Rr).ph= .res (rsA s r σ).1:=zpi hd rfl q h1;refine⟨?_,hc,?_⟩
   ·unfold zjm;rw[l];exact o.at'.ex
   rw[l];exact⟨o.at'.inv,hi.2⟩
  ·rw[e];exact fin _ (zhq rfl hc ((zkv O h1 o.at').1 h2)) q (fun h=>by have:=h.2;dsimp only at this;omega)
  ·rw[e];obtain⟨b1,b2⟩:=(zkv O h1 o.at').2 b h2;refine fin _ ?_ q (fun h=>by have:=h.1;rw[show ({t with res:=some (rsA s r σ).1}:Rr).done=t.done from rfl,hd]at this;cases this);have l:({t with res:=some (rsA s r σ).1}:Rr).ph= .fre b f:=by rw[zgm (t:= {t with res:=some (rsA s r σ).1}) hd rfl q (by rw[h1];decide) j.1 j.2,h2]
   have b6:=zib (t:=f) (.inl D.2.1);refine⟨?_,hc,?_⟩
   ·unfold zjm;rw[l];dsimp only;rw[zcq b6];exact b1.eqv (Own.Eqv.zeb _).symm
   rw[l];exact⟨b2,zen D.2.2 b6 (fun _ e=>by rw[D.2.1]at e;cases e),D.1⟩
  ·have h1:f.done=true:=h1;rw[D.1]at h1;cases h1
  have h1:f.done=true:=h1;rw[D.1]at h1;cases h1
 have G:r.done=true:=by simpa using n
 by_cases C:f.done=false
 ·rw[z3m hd z q n C];have j:t.undo=none/\t.com=none:=by
   constructor
   ·cases hu:t.undo with
    |none=>rfl
    |some u=>obtain⟨Z,M,_,_,y,E⟩:=J.mid hd (.inl (by rw[hu];simp));rw[q]at y;injection y with y;subst y;rw[C]at E;cases E
   cases hu:t.com with
   |none=>rfl
   |some u=>obtain⟨Z,M,_,_,y,E⟩:=J.mid hd (.inr (by rw[hu];simp));rw[q]at y;injection y with y;subst y;rw[C]at E;cases E
  cases hgot:r.got with
  |none=>
   exfalso;have U:t.ph= .dead:=by rw[zgm hd z q n j.1 j.2,hgot]
   rw[U]at hi;rw[hd]at hi;cases hi
  |some b=>
   have V:t.ph= .fre b f:=by rw[zgm hd z q n j.1 j.2,hgot]
   unfold zjm at H;rw[V]at H hi;have o:=z4l hr hg b5 C H hi.2.1;have T:zi6 (feA s f σ).2 b:=fun hl p i h0 h1=>by have bb:σ.pg p= .held c:=(H.h p).2 (.inl (by unfold zgb;rw[if_pos hl];exact .inl (show p=b.page by omega)));exact(o.sl p i bb).trans (hi.1 hl p i h0 h1)
   have F:=(zlb X hr.may b9 hgot).1;have fin:∀ t':Rr,RrAt s c (feA s f σ).2 t'->t'.free=some (feA s f σ).1->t'.done=false->zwj s c σ t (t',(feA s f σ).2):=fun t' h1 h2 h3=>by
    have S:zb2 t=f.gave:=by unfold zb2;rw[q]
    have I:zb2 t'=(feA s f σ).1.gave:=by unfold zb2;rw[h2]
    refine⟨o.kept,h1,fun M e a b=>⟨?_,h3⟩,fun a=>(by rw[h3]at a;cases a),fun a _=>o.chg.2 ?_⟩
    ·rw[q]at e;injection e with e;subst e;exact⟨(o.chg.1 (S ▸ a) (I ▸ b)).1,(o.chg.1 (S ▸ a) (I ▸ b)).2.2,C⟩
    rw[S,I]at a;exact a
   have b3:(feA s f σ).1.done=true->zaz (feA s f σ).2 c (zgb b):=fun e=>by have:=o.ex;rw[zcq (zdp e)]at this;exact this.eqv (Own.Eqv.zeb _)
   rcases zcp s {t with free:=some (feA s f σ).1} r (feA s f σ).1 z rfl with⟨h1,_⟩|⟨_,h1,_⟩|⟨_,_,h1,e⟩|⟨_,_,h1,h2,e⟩|⟨b',_,_,h1,h2,h3,e⟩|⟨b',_,_,_,h2,_,_,h1,h3,e⟩|⟨b',_,_,_,h2,_,_,h1,h3,e⟩
   ·have h1:zev t.undo=true:=h1;rw[j.1]at h1;cases h1
   ·have h1:zha t.com=true:=h1;rw[j.2]at h1;cases h1
   ·rw[G]at h1;cases h1
   ·rw[hgot]at h2;cases h2
   ·rw[e];have b4:(feA s f σ).1.done=false:=by
     rcases h3 with h3|h3|h3
     ·exact absurd j.1 h3
     ·exact absurd j.2 h3.2
     exact h3.2.2
    have l:({t with free:=some (feA s f σ).1}:Rr).ph= .fre b (feA s f σ).1:=by rw[zgm (t:= {t with free:=some (feA s f σ).1}) hd z rfl n j.1 j.2,hgot]
    refine fin _ ⟨?_,hc,?_⟩ rfl hd
    ·unfold zjm;rw[l];exact o.ex
    rw[l];exact⟨T,o.inv,b4⟩
   ·rw[e];rw[hgot]at h2;injection h2 with h2;subst h2;have b8:(zc4 s t.c b).done=false:=by rw[hc];simp[zc4,F]
    have l:({t with free:=some (feA s f σ).1,com:=some (zc4 s t.c b)}:Rr).ph= .com (zc4 s t.c b):=zxc (t:= {t with free:=some (feA s f σ).1,com:=some (zc4 s t.c b)}) hd z rfl n j.1 rfl;refine fin _ ⟨?_,hc,?_⟩ rfl hd
    ·unfold zjm;rw[l];exact b3 h1
    rw[l];exact⟨T,b8⟩
   rw[e];rw[hgot]at h2;injection h2 with h2;subst h2;have Y:=z6k (s:=s) F (b3 h1) T;have l:({t with free:=some (feA s f σ).1,undo:=some (zf1 s t.c b)}:Rr).ph= .und (zf1 s t.c b):=zl0 (t:= {t with free:=some (feA s f σ).1,undo:=some (zf1 s t.c b)}) hd z rfl n rfl;rw[hc]at l ⊢;refine fin _ ⟨?_,rfl,?_⟩ rfl hd
   ·unfold zjm;rw[l];exact Y.1.ex
   rw[l];exact⟨Y.1,Y.2,fun Z L=>by rw[z]at L;injection L with L;subst L;rw[hgot];simp⟩
 have same:∀ t':Rr,t'.free=t.free->zb2 t'=zb2 t:=fun t' h=>by unfold zb2;rw[h]
 cases hu:t.undo with
 |some u=>
  rw[z2h hd z q n C hu];have V:t.ph= .und u:=zl0 hd z q n hu;rw[V]at hi;obtain⟨i1,i2,i3⟩:=hi;obtain⟨S,I,g3,g4⟩:=yae hg (o3 u hu) i2 i1;have ba:t.com=none:=by
   rcases o5 with e|e
   ·rw[hu]at e;cases e
   exact e
  have fin:∀ t':Rr,RrAt s c (unA u σ).2 t'->t'.free=t.free->¬ (t'.done=true/\t'.err=0)->zwj s c σ t (t',(unA u σ).2):=fun t' h1 h2 h3=>⟨S,h1,fun M _ a b=>(by rw[same t' h2,a]at b;cases b),fun a b=>absurd ⟨a,b⟩ h3,fun _ _=>g3⟩
  rcases zcp s {t with undo:=some (unA u σ).1} r f z q with⟨h1,e⟩|⟨_,h1,_⟩|⟨_,_,h1,e⟩|⟨_,_,h1,h2,e⟩|⟨b',h0,_,h1,h2,h3,e⟩|⟨b',_,_,_,h2,h1,_,_,h3,e⟩|⟨b',_,_,_,h2,h1,_,_,h3,e⟩
  ·rw[e];have B:(unA u σ).1.done=true:=h1;have:=I.ex;unfold zqs at this;rw[if_pos B]at this;exact fin _ (zhq rfl hc this) rfl (fun h=>by have:=h.2;dsimp only at this;omega)
  ·have h1:zha t.com=true:=h1;rw[ba]at h1;cases h1
  ·rw[G]at h1;cases h1
  ·exact absurd h2 (i3 r z)
  ·rw[e];have B:(unA u σ).1.done=false:=h0;have l:({t with undo:=some (unA u σ).1}:Rr).ph= .und (unA u σ).1:=zl0 (t:= {t with undo:=some (unA u σ).1}) hd z q n rfl;refine fin _ ⟨?_,hc,?_⟩ rfl (fun h=>by have:=h.1;rw[show ({t with undo:=some (unA u σ).1}:Rr).done=t.done from rfl,hd]at this;cases this)
   ·unfold zjm;rw[l];exact I.ex
   rw[l];exact⟨I,B,i3⟩
  ·cases h1
  cases h1
 |none=>
  cases hcm:t.com with
  |none=>
   exfalso
   rcases o6 G (by simpa using C) with e|e
   ·exact e hu
   ·exact e hcm
  |some u=>
   rw[zz2 hd z q n C hu hcm]
   have V:t.ph= .com u:=zxc hd z q n hu hcm
   unfold zjm at H
   rw[V]at H hi
   have b0:=J.cm u hcm
   obtain⟨S,I,g3,g4⟩:=z08 hg (b0.2 hd).1 (b0.2 hd).2 H hi.1
   have B:(cmA u σ).1.done=true:=by rw[g4]
   obtain⟨Z,M,y,E,a3,a4⟩:=J.gv u hcm
   rcases zcp s {t with com:=some (cmA u σ).1} r f z q with⟨h1,e⟩|⟨_,h1,e⟩|⟨_,h1,_⟩|⟨_,h1,_⟩|⟨b',_,h1,_⟩|⟨b',_,h1,_⟩|⟨b',_,h1,_⟩
   ·have h1:zev t.undo=true:=h1
    rw[hu]at h1;cases h1
   ·rw[e]
    refine⟨S,zhq rfl hc I,fun M _ a b=>?_,fun _ _=>⟨Z,u.b,y,E,g3⟩,fun _ h=>absurd ⟨rfl,rfl⟩ h⟩
    have:zb2 {t with com:=some (cmA u σ).1,err:=0,done:=true}=zb2 t:=same _ rfl
    rw[this,a]at b;cases b
   ·have h1:(cmA u σ).1.done=false:=h1
    rw[B]at h1;cases h1
   ·have h1:(cmA u σ).1.done=false:=h1
    rw[B]at h1;cases h1
   ·have h1:(cmA u σ).1.done=false:=h1
    rw[B]at h1;cases h1
   ·have h1:(cmA u σ).1.done=false:=h1
    rw[B]at h1;cases h1
   ·have h1:(cmA u σ).1.done=false:=h1
    rw[B]at h1;cases h1
end

section

variable {s:Sh} {σ σ':Ab} {c:Int}

structure znv (s:Sh) (σ:Ab) (c:Int) (t:Ad):Prop where
 cl:t.c=c
 n1:t.done=false->t.next=1->t.was=(TW.owned t.who).enc/\(TW.owned t.who).fit s/\σ.st t.who≠ .unused
 n2:t.done=false->t.next=2->t.was=TW.dead.enc\/∃ o,t.was=(TW.owned o).enc/\(TW.owned o).fit s/\σ.st o≠ .unused/\σ.st o≠ .live
 n3:t.done=false->3<=t.next->σ.st t.d= .owned c/\AdD s σ t
 ne:t.done=false->t.d≠c
 a0:t.next<=2->t.at'=0
def JbAt (s:Sh) (c:Int) (σ:Ab):Jb->Prop
 | .mal r none=> RsAt s c σ r
 | .mal _ (some _)=> zaz σ c .no
 | .fre f=> zaz σ c (ziw f)/\zr5 s c σ .no f
 | .aga r=> RrAt s c σ r
 | .hei a=> zaz σ c .no/\znv s σ c a
theorem yb5{j:Jb}(i:jbIs s c j)(hd:j.done=true)(h:JbAt s c σ j):zaz σ c .no:=by
 cases j with
 |mal r x=>
  rcases x with _|x
  ·have hd:(r.done&&(!r.got.isSome||false))=true:=hd;rw[Bool.and_eq_true]at hd;refine(zkv i.1 hd.1 h).1 ?_;have:=hd.2;cases hg:r.got
   ·rfl
   rw[hg]at this;cases this
  exact h
 |fre f=>have:=h.1;rw[zcq (zdp hd)]at this;exact this
 |aga r=>
  have hd:r.done=true:=hd;have l:r.ph= .dead:=by unfold Rr.ph;rw[if_pos hd]
  have:=h.ex;unfold zjm at this;rw[l]at this;exact this
 |hei a=>exact h.1
def Jb.fe:Jb->Option Fe
 | .fre f=> some f
 | .aga r=> r.free
 | _=> none
structure ycz (s:Sh) (c:Int) (σ:Ab) (j:Jb) (r:Jb × Ab):Prop where
 kept:Kept s c σ r.2
 at':JbAt s c r.2 r.1
 gave:j.gave=false->r.1.gave=true->(∃ f,j.fe=some f/\zr4 (feBl f) σ r.2/\f.next=1/\f.done=false)/\r.1.done=false
 took:∀ b,r.1.took=some b->Plus (zoa b) σ r.2
 calm:(j.gave=true\/r.1.gave=false)->r.1.took=none->Calm σ r.2
theorem ya1{m:Mem}{j:Jb}(C:Rep s m σ)(B:GI s σ)(y:jbIs s c j)(z:0<=c/\c<s.c)(hd:j.done=false)(h:JbAt s c σ j)(T:∀ a,j≠ .hei a):ycz s c σ j (j.zhf s c σ):=by
 cases j with
 |mal r x=>
  unfold Jb.zhf;dsimp only;rcases x with _|x
  ·by_cases o:r.done=false
   ·rw[if_pos o];have i:=z1q C B y.1 o h;exact⟨i.kept,i.at',fun _ e=>(by cases e),fun b e=>(by cases e),fun _ _=>i.calm⟩
   rw[if_neg o];have p:r.done=true:=by simpa using o
   have hd':(r.done&&(!r.got.isSome||zck none))=false:=hd;rw[p,Bool.true_and,Bool.or_eq_false_iff]at hd';cases hgot:r.got with
   |none=>rw[hgot]at hd';cases hd'.1;|some b=>
    have U:zhp s c r none=some (zc4 s c b):=by unfold zhp;rw[hgot]
    rw[U];dsimp only;have q:=(zlb y.1 C.may z hgot).1;obtain⟨J,L⟩:=(zkv y.1 p h).2 b hgot;obtain⟨M,O,S,H⟩:=z08 (t:=zc4 s c b) B (by simp[zc4,q]) q J L;refine⟨M,O,fun _ e=>(by cases e),fun D e=>?_,fun _ e=>?_⟩
    ·have e:(if zck (some (cmA (zc4 s c b) σ).1)=true then r.got else none)=some D:=e;rw[if_pos (by show (cmA (zc4 s c b) σ).1.done=true;rw[H]),hgot]at e;injection e with e;subst e;exact S
    have e:(if zck (some (cmA (zc4 s c b) σ).1)=true then r.got else none)=none:=e;rw[if_pos (by show (cmA (zc4 s c b) σ).1.done=true;rw[H]),hgot]at e;cases e
  exfalso;have I:=y.2 x rfl;have:(Jb.mal r (some x)).done=true:=by show (r.done&&(!r.got.isSome||x.done))=true;rw[I.2.1,I.2.2.1];simp
  rw[this]at hd;cases hd
 |fre f=>have i:=z4l C B y hd h.1.zeb h.2;exact⟨i.kept,⟨i.ex.zrk,i.inv⟩,fun l n=>⟨⟨f,rfl,(i.chg.1 l n).1,(i.chg.1 l n).2.2,hd⟩,(i.chg.1 l n).2.1⟩,fun b e=>(by cases e),fun e _=>i.chg.2 e⟩
 |aga r=>
  have i:=ybw C B y z hd h;have V:∀ b,(Jb.aga (rrA s r σ).1).took=some b->Plus (zoa b) σ (rrA s r σ).2:=fun b e=>by
   have e:(if (rrA s r σ).1.done=true/\(rrA s r σ).1.err=0 then(match (rrA s r σ).1.res with|some x=>x.got|none=>none) else none)=some b:=e;split at e
   ·rename_i hc;obtain⟨x,D,l,n,G⟩:=i.took hc.1 hc.2;rw[l]at e;dsimp only at e;rw[n]at e;injection e with e;subst e;exact G
   cases e
  refine⟨i.kept,i.at',fun l n=>?_,V,fun l n=>i.calm l fun hc=>?_⟩
  ·have l:zb2 r=false:=l;cases q:r.free with
   |none=>obtain⟨_,f,_,F,_⟩:=y.ok.cl hd;rw[q]at F;cases F
   |some f=>exact⟨⟨f,q,(i.gave f q l n).1⟩,(i.gave f q l n).2⟩
  obtain⟨x,D,l,E,G⟩:=i.took hc.1 hc.2;have e:(if (rrA s r σ).1.done=true/\(rrA s r σ).1.err=0 then(match (rrA s r σ).1.res with|some x=>x.got|none=>none) else none)=none:=n;rw[if_pos hc,l]at e;dsimp only at e;rw[E]at e;cases e
 |hei a=>exact absurd rfl (T a)
theorem z8k(hs:mayB s.p s.c s.m=true)(j:zaz σ c .no)(k f:Int):zaz σ c (zey s (zhb s c k f))/\zir s c σ (zhb s c k f):=by
 unfold zhb;split
 ·rename_i h;have h1:=zbe h.1;have h2:=zar.1 hs;have h3:=zcs h.2.2
  have l:skOk s ⟨c,k,f,some (.tk (zg3 s c k)),0,0,0,false,false⟩:=⟨fun _=>⟨by dsimp only;omega,h.2.1,by dsimp only;omega,by dsimp only;omega,fun x i=>by
   injection i with i;subst i;exact⟨zl1 _ _ _,rfl⟩⟩,fun e=>(by cases e)⟩
  have:=zk9 (σ:=σ) (c:=c) hs 5 l j.zeb ⟨rfl,fun e=>(by cases e),fun _ x i=>by injection i with i;subst i;exact⟨⟨rfl,fun e=>(by cases e)⟩,trivial⟩⟩;exact⟨this.1.zrk,this.2⟩
 exact⟨j,⟨rfl,fun _ _=>rfl,fun _ x i=>by cases i⟩⟩
theorem z7a(j:zaz σ c .no)(n:Int):RnIn c σ (zf8 s c n):=by
 rcases Bool.eq_false_or_eq_true (zf8 s c n).done with e|e
 ·have f:(zf8 s c n).ph= .dead:=by unfold Rn.ph;rw[if_neg (fun x:(zf8 s c n).found=true=>Bool.noConfusion x),if_pos e]
  refine⟨?_,rfl,?_⟩
  ·unfold zf2;rw[f];exact j
  rw[f];trivial
 have f:(zf8 s c n).ph= .look:=by unfold Rn.ph;rw[if_neg (fun x:(zf8 s c n).found=true=>Bool.noConfusion x),if_neg (by rw[e];decide)];rfl
 exact zj2 f rfl (j.eqv (Own.zi7 (by show (0:Int)<=0;omega)).symm) (fun p i h0 h1=>by have h0:0<=p:=h0;have h1:p<0:=h1;omega)
theorem zwu(hs:mayB s.p s.c s.m=true)(i:zaz σ c .no)(n f:Int):RsAt s c σ (zdh s c n f):=by
 unfold zdh;split
 ·have:=z8k hs i (zcn n) f;exact⟨this.1,this.2⟩
 split
 ·have:=z7a (s:=s) i (runV n);exact⟨this.1,this.2⟩
 exact⟨i,trivial⟩
theorem z7w(hs:mayB s.p s.c s.m=true)(hc:0<=c/\c<s.c)(y:zaz σ c .no)(a n f:Int):RrAt s c σ (zhh s c a n f):=by
 unfold zhh;split
 ·rename_i h;have q:=zwu hs y n f;have z:=(z0h (s:=s) c n f hs).1;have i:=zmw (c:=c) hs hc h.1;have res:∀ t:Rr,t.c=c->t.done=false->t.res=some (zdh s c n f)->t.free=some (zc2 s c a)->(zdh s c n f).done=false->RrAt s c σ t:=fun t D E F r G=>by
   have l:t.ph= .res (zdh s c n f):=by unfold Rr.ph;rw[if_neg (by rw[E];decide),F,r];dsimp only;rw[if_pos G]
   refine⟨?_,D,?_⟩
   ·unfold zjm;rw[l];exact q.ex
   rw[l];exact⟨q.inv,fun H o=>by rw[r]at o;injection o with o;subst o;exact i⟩
  rcases zcp s ⟨c,some (zdh s c n f),some (zc2 s c a),none,none,0,false⟩ (zdh s c n f) (zc2 s c a) rfl rfl with⟨h1,_⟩|⟨_,h1,_⟩|⟨_,_,h1,e⟩|⟨_,_,h1,h2,e⟩|⟨b,_,_,h1,h2,h3,e⟩|⟨b,_,_,_,_,_,_,h1,_,e⟩|⟨b,_,_,_,_,_,_,h1,_,e⟩
  ·cases h1
  ·cases h1
  ·rw[e];exact res _ rfl rfl rfl rfl h1
  ·rw[e];exact zhq rfl rfl ((zkv z h1 q).1 h2)
  ·rw[e];obtain⟨B,C⟩:=(zkv z h1 q).2 b h2;have l:(⟨c,some (zdh s c n f),some (zc2 s c a),none,none,0,false⟩:Rr).ph= .fre b (zc2 s c a):=by unfold Rr.ph;dsimp only;rw[if_neg (by decide),if_neg (by rw[h1];decide),h2]
   have j:=zib (t:=zc2 s c a) (.inl i.2.1);refine⟨?_,rfl,?_⟩
   ·unfold zjm;rw[l];dsimp only;rw[zcq j];exact B.eqv (Own.Eqv.zeb _).symm
   rw[l];exact⟨C,zen i.2.2 j (fun _ e=>by rw[i.2.1]at e;cases e),i.1⟩
  ·have h1:(zc2 s c a).done=true:=h1;rw[i.1]at h1;cases h1
  have h1:(zc2 s c a).done=true:=h1;rw[i.1]at h1;cases h1
 exact zhq rfl rfl y
theorem z5b(hs:mayB s.p s.c s.m=true)(hc:0<=c/\c<s.c)(j:zaz σ c .no)(f k a n:Int):JbAt s c σ (zgl s c f k a n):=by
 unfold zgl;split
 ·exact zwu hs j n f
 split
 ·have i:(zc2 s c a).ph= .idle:=zib (.inl rfl);exact⟨by rw[zcq i];exact j,zen rfl i (fun _ e=>by cases e)⟩
 split
 ·exact z7w hs hc j a n f
 refine⟨j,?_⟩;unfold zix;dsimp only;split
 ·exact⟨rfl,fun e=>(by cases e),fun e=>(by cases e),fun e=>(by cases e),fun e=>(by cases e),fun _=>rfl⟩
 rename_i h;exact⟨rfl,fun _ e=>(by cases e),fun _ e=>(by cases e),fun _ e=>by exfalso;have e:(3:Int)<=0:=e;omega,fun _ e=>h (.inr (.inr e.symm)),fun _=>rfl⟩
structure Later (σ σ':Ab):Prop where
 un:∀ x,σ.st x≠ .unused->σ'.st x≠ .unused
 lv:∀ x,σ.st x≠ .unused->σ.st x≠ .live->σ'.st x≠ .live
theorem Later.yc7(h:∀ x,σ'.st x=σ.st x):Later σ σ':=⟨fun x e=>by rw[h];exact e,fun x _ e=>by rw[h];exact e⟩
theorem znv.same{t:Ad}(n:adOk s t)(h:znv s σ c t)(l:Later σ σ')(h3:t.done=false->3<=t.next->σ'.st t.d= .owned c/\Same t.d σ σ'):znv s σ' c t:=by
 refine⟨h.cl,fun a b=>?_,fun a b=>?_,fun a b=>⟨(h3 a b).1,AdD.same ⟨b,(n.cl a).2.2.2.1.2⟩ (h.n3 a b).2 (h3 a b).2⟩,h.ne,h.a0⟩
 ·obtain⟨i,j,f⟩:=h.n1 a b;exact⟨i,j,l.un _ f⟩
 rcases h.n2 a b with e|⟨o,i,j,f,m⟩
 ·exact .inl e
 exact .inr ⟨o,i,j,l.un _ f,l.lv _ f m⟩
theorem JbAt.same{j:Jb}(i:jbIs s c j)(h:JbAt s c σ j)(hs:Same c σ σ')(l:Later σ σ')(h3:∀ t,j= .hei t->t.done=false->3<=t.next->σ'.st t.d= .owned c/\Same t.d σ σ'):JbAt s c σ' j:=by
 cases j with
 |mal r x=>
  rcases x with _|x
  ·exact RsAt.same h hs
  exact zaz.same h hs
 |fre f=>exact⟨h.1.same hs,h.2.same h.1.zeb hs⟩
 |aga r=>exact RrAt.same h hs
 |hei a=>exact⟨h.1.same hs,h.2.same i.1 l (h3 a rfl)⟩
end

section

open Go.RowKit

attribute [local go_sem ↓] Go.wp_at_zero Go.wp_at_succ

theorem rwrong_any{B:Nat}{w:World}{jb s pb:Nat}{sl:Value}{J:Jd}(h:JrA B w jb s pb sl J)(e:Ev){i:Nat}{p v:Pt}{l':List Bk}(hi:i<J.ps.length)(b9:J.ps.length<=100)(hc:e.c=(i:Int))(hp:J.ps[i]=p)(Z:Fine J.W J.l p e l' v):
  Calls Tryz.prog 76 #[some jb,e.val] w fun r w'=>r= .returned (.int .i64 0)/\LeftR B w w' jb s pb sl {J with l:=l',ps:=J.ps.set i v}:=by
 obtain⟨ek,ec,D,H,en,Y,C,er⟩:=e;have T:=Z.kinds;dsimp only at hc T;subst hc;unfold Ev.val Ev.cells;dsimp only;have S:=(Below.refl w.heap.size w).alloc lr (.cells #[ek,.int .i64 (i:Int),D,H,en,Y,C,er] 77);have q:=heap_alloc_new w (.cells #[ek,.int .i64 (i:Int),D,H,en,Y,C,er] 77);have y:=h.below S;obtain⟨n,hn,b6⟩:=hidv J.ps.length;have bm:(i:Int)<(n:Int):=by omega
 have bj:(0:Int)<=(i:Int):=by omega
 have b8:¬ (i:Int)>=(n:Int):=by omega
 have bk:¬ (i:Int)<0:=by omega
 have b7:n<=100:=by omega
 clear b6;obtain⟨E,hE,b1⟩:=hidv w.heap.size;replace hi:=hd' hi;replace hp:=hd' hp;go_in;go_upto_region 1 with fail;generalize w.alloc (.cells #[ek,.int .i64 (i:Int),D,H,en,Y,C,er] 77)=W at *;rw[<-b1]at q ⊢;clear b1;have hK:Hid (∀ X,Below W.heap.size W X->JrA B X jb s pb sl J/\X.heap[E]?=some (.cells #[ek,.int .i64 (i:Int),D,H,en,Y,C,er] 77)/\X.cell? ⟨jb,1,.none⟩=some (.slice (some ⟨pb,0,.none⟩) n n)):=hd' fun X hX=>⟨y.below hX,(hX.block _ (Array.getElem?_eq_some_iff.1 q).1).trans q,by rw[hn.out];exact(y.below hX).h1⟩;clear y q;obtain⟨y,q,h1⟩:=hK.out W br;have b4:=zac q;go_quiet (fail);have b0:Below W.heap.size W (W.drewN nq):=below_drewN br nq;generalize W.drewN nq=V at *;clear b4 h1 q y;obtain⟨y,q,h1⟩:=hK.out V b0;have b5:=zac q;go_upto_region 3 with fail;go_quiet (fail);have I:Below W.heap.size W (V.drewN nq):=below_drewN b0 nq;generalize V.drewN nq=U at *;clear b5 h1 q y;obtain⟨y,q,_⟩:=hK.out U I;have b2:Below w.heap.size w U:=S.trans (I.mono S.size);clear b0 I hK S;have j:=y.row.pt i hi.out hp.out;have bc:=zac q;go_upto_region 6 with fail;have m:Hid (∀ W3 v,RrP W3 pb (J.ps.set i v)->Only (atR pb) U W3->LeftR B w W3 jb s pb sl {J with l:=J.l,ps:=J.ps.set i v}):=hd' fun W3 v hr b3=>⟨⟨sl,y.setP (by rw[List.length_set]) hr b3,fun k e=>.inl e⟩,(Only.of_below b2).trans b3 fun k _ e=>.inr (.inl e)⟩;have o:RrP U pb (J.ps.set i p):=by rw[<-hp.out,List.set_getElem_self];exact y.row
 have lp:pb<U.heap.size:=y.row.lt;have z:Hid (∀ w' JR,LeftR B U w' jb s pb sl JR->LeftR B w w' jb s pb sl JR):=hd' fun w' JR L=>LeftR.lower b2 L;rcases T with⟨rfl,hw,rfl,rfl⟩|⟨rfl,L,ht,rfl,rfl⟩|⟨rfl,L,G,bn,bp,rfl,rfl⟩|⟨rfl,L,G,T⟩|⟨rfl,L,G,T⟩|⟨rfl,L,G,T,rfl,rfl⟩
 ·have c0:=j.c0;have c1:=j.c1;have pf:=j.fr;rw[hw]at c0;have M:=RrP.put (q':= {p with was:=true}) hi.out 0 (.bool true) (Only.refl (atR pb) U) o rfl (by omega);have O:=RrP.put (q':= {p with was:=true,lives:=true}) hi.out 1 (.bool true) M.1 M.2 rfl (by omega);have F:=hd' (m.out _ _ O.2 O.1);rw[Nat.add_zero]at F;clear M O o m z y j q Z;go_wp2;go_returns;exact⟨rfl,F.out⟩
 ·have c1:=j.c1;have c2:=j.c2;have c3:=j.c3;have pf:=j.fr;rw[L]at c1;have M:=RrP.put (q':= {p with lives:=false}) hi.out 1 (.bool false) (Only.refl (atR pb) U) o rfl (by omega);have O:=RrP.put (q':= {p with lives:=false,asks:=false}) hi.out 2 (.bool false) M.1 M.2 rfl (by omega);have F:=hd' (m.out _ _ O.2 O.1);clear M O o m z y j q Z;rcases Bool.eq_false_or_eq_true p.asks with G|G
  ·rw[ht G]at c3;rw[G]at c2;clear ht;go_wp2;go_returns;exact⟨rfl,F.out⟩
  rw[G]at c2;clear ht;go_wp2;go_returns;exact⟨rfl,F.out⟩
 ·obtain⟨_,c0,c1,c2,c3,c4,c5,c6,c7,c8,c9,pf⟩:=id j;rw[L]at c1;rw[G]at c2;have bf:=zac q;have ba:¬ D<1:=by omega
  have bb:¬ 4<D:=by omega
  have M:=RrP.put (q':= {p with was:=true}) hi.out 0 (.bool true) (Only.refl (atR pb) U) o rfl (by omega);have O:=RrP.put (q':=⟨true,true,p.asks,p.k,p.a,p.n,p.took,p.gave,p.at',p.ab⟩) hi.out 1 (.bool true) M.1 M.2 rfl (by omega);have z2:=RrP.put (q':=⟨true,true,true,p.k,p.a,p.n,p.took,p.gave,p.at',p.ab⟩) hi.out 2 (.bool true) O.1 O.2 rfl (by omega);have z3:=RrP.put (q':=⟨true,true,true,p.k,p.a,p.n,false,p.gave,p.at',p.ab⟩) hi.out 3 (.bool false) z2.1 z2.2 rfl (by omega);have z4:=RrP.put (q':=⟨true,true,true,p.k,p.a,p.n,false,false,p.at',p.ab⟩) hi.out 4 (.bool false) z3.1 z3.2 rfl (by omega);have z5:=RrP.put (q':=⟨true,true,true,p.k,p.a,p.n,false,false,p.at',false⟩) hi.out 5 (.bool false) z4.1 z4.2 rfl (by omega);have z6:=RrP.put (q':=⟨true,true,true,D,p.a,p.n,false,false,p.at',false⟩) hi.out 6 (.int .i64 D) z5.1 z5.2 rfl (by omega);have z7:=RrP.put (q':=⟨true,true,true,D,H,p.n,false,false,p.at',false⟩) hi.out 7 (.int .i64 H) z6.1 z6.2 rfl (by omega);have z8:=RrP.put (q':=⟨true,true,true,D,H,en,false,false,p.at',false⟩) hi.out 8 (.int .i64 en) z7.1 z7.2 rfl (by omega);have z9:=RrP.put (q':=⟨true,true,true,D,H,en,false,false,0,false⟩) hi.out 9 (.int .i64 0) z8.1 z8.2 rfl (by omega);have F:=hd' (m.out _ _ z9.2 z9.1);rw[Nat.add_zero]at F;clear M O z2 z3 z4 z5 z6 z7 z8 z9 o m z y j q Z;go_wp2;go_returns;exact⟨rfl,F.out⟩
 ·have c1:=j.c1;have c2:=j.c2;rw[L]at c1;rw[G]at c2;obtain⟨k1,k2,k3,k4,k5,rfl,rfl⟩:=T;have hd:=rtook_any y ⟨3,(i:Int),D,H,en,Y,C,er⟩ i (i*10) p hi.out hp.out rfl ⟨rfl,k1,k2,k3,k4,k5⟩;unfold Ev.val Ev.cells at hd;dsimp only at hd;replace hd:=hd' hd;clear k1 k2 k3 k4 k5;have bg:=zac q;clear o m y j q Z;go_wp2_with (first|(go_at_call 98;(with_reducible refine hd.out.mono ?_);rintro r w2 ⟨rfl,F⟩));go_returns;exact⟨rfl,z.out _ _ F⟩
 ·have c1:=j.c1;have c2:=j.c2;rw[L]at c1;rw[G]at c2;obtain⟨k1,k2,k3,k4,rfl,rfl⟩:=T;have hd:=rgave_any y ⟨4,(i:Int),D,H,en,Y,C,er⟩ i (i*10) p hi.out hp.out rfl ⟨rfl,k1,k2,k3,k4⟩;unfold Ev.val Ev.cells at hd;dsimp only at hd;replace hd:=hd' hd;clear k1 k2 k3 k4;have bh:=zac q;clear o m y j q Z;go_wp2_with (first|(go_at_call 98;(with_reducible refine hd.out.mono ?_);rintro r w2 ⟨rfl,F⟩));go_returns;exact⟨rfl,z.out _ _ F⟩
 have c1:=j.c1;have c2:=j.c2;rw[L]at c1;rw[G]at c2;have hd:=rdone_any y ⟨5,(i:Int),D,H,en,Y,C,er⟩ i (i*10) p hi.out hp.out rfl ⟨rfl,T⟩;unfold Ev.val Ev.cells at hd;dsimp only at hd;replace hd:=hd' hd;have bi:=zac q;clear o m y j q Z;go_wp2_with (first|(go_at_call 98;(with_reducible refine hd.out.mono ?_);rintro r w2 ⟨rfl,F⟩));go_returns;exact⟨rfl,z.out _ _ F⟩
def mapR (f:Pt->Pt) (i:Nat) (ps:List Pt):List Pt:=(ps.take i).map f ++ ps.drop i
theorem mapR_len(f:Pt->Pt)(i:Nat)(ps:List Pt):(mapR f i ps).length=ps.length:=by
 unfold mapR;rw[List.length_append,List.length_map,List.length_take,List.length_drop];omega
theorem mapR_zero(f:Pt->Pt)(ps:List Pt):mapR f 0 ps=ps:=by simp[mapR]
theorem mapR_all(f:Pt->Pt)(ps:List Pt):mapR f ps.length ps=ps.map f:=by simp[mapR]
theorem mapR_get(f:Pt->Pt)(i:Nat)(ps:List Pt)(h:i<ps.length):(mapR f i ps)[i]'(by rw[mapR_len];exact h)=ps[i]:=by
 unfold mapR;have j:((ps.take i).map f).length=i:=by rw[List.length_map,List.length_take];omega
 rw[List.getElem_append_right (by omega),List.getElem_drop];congr 1;omega
theorem mapR_succ(f:Pt->Pt)(i:Nat)(ps:List Pt)(h:i<ps.length):mapR f (i+1) ps=(mapR f i ps).set i (f ps[i]):=by
 unfold mapR;have j:((ps.take i).map f).length=i:=by rw[List.length_map,List.length_take];omega
 rw[List.set_append_right _ _ (by omega),j,Nat.sub_self];have h1:ps.drop i=ps[i]::ps.drop (i+1):=(List.getElem_cons_drop h).symm;rw[h1,List.set_cons_zero];have h2:ps.take (i+1)=ps.take i++[ps[i]]:=List.take_succ_eq_append_getElem h;rw[h2,List.map_append,List.append_assoc];rfl
def Tw2 (w:World) (N:Nat) (a b:Int):Prop:=w.heap[N]?=some (.cells #[a,b] 151 (0,0))
section

variable {w w':World} {N:Nat} {a b:Int}

theorem Tw2.below(h:Tw2 w N a b)(hb:Below w.heap.size w w'):Tw2 w' N a b:=(hb.block N (Array.getElem?_eq_some_iff.1 h).1).trans h
end

theorem rblk_form(l:List Bk)(a:Int):∃ x y:Int,blkV (atB l a)= .tuple #[.agg #[x,y],.bool (zd6 a l)]:=by
 unfold atB;rcases Bool.eq_false_or_eq_true (zd6 a l) with hb|hb
 ·rw[if_pos hb,hb];obtain⟨h1,h2⟩:=(zop a l).1 hb;rw[List.getElem?_eq_getElem h1];exact⟨_,_,rfl⟩
 rw[if_neg (by rw[hb];decide),hb];exact⟨0,0,rfl⟩
theorem rhear_any{B:Nat}{w:World}{jb s pb:Nat}{sl:Value}{J:Jd}(h:JrA B w jb s pb sl J)(e:Ev)(hb:z4x J e=true)(hm:0<=J.m/\J.m<=1000000000)(hn:J.ps.length<=100):
  Calls Tryz.prog 42 #[some jb,e.val] w fun r w'=>r= .returned (.bool true)/\LeftR B w w' jb s pb sl (zdo J e):=by
 obtain⟨U,bj⟩:=(zsk J e).1 hb;rw[z9p hb];replace U:=hd' U;obtain⟨ix,p0,v0,q,bm,bk,bv,hF,bs,b2⟩:=fine_of bj;rw[bs,b2];clear bs b2 bj hb;have bh:=(Below.refl w.heap.size w).alloc lr (.cells #[e.k,e.c,e.ok,e.oa,e.on,e.at',e.n,e.er] 77);have t1:=heap_alloc_new w (.cells #[e.k,e.c,e.ok,e.oa,e.on,e.at',e.n,e.er] 77);have hJ:=h.below bh;obtain⟨E,hE,bf⟩:=hidv w.heap.size;have S:=rwrong_any hJ e bm hn bk bv hF;have ca:(J.ps.set ix v0).length=J.ps.length:=List.length_set;generalize J.ps.set ix v0=j at *;clear hF bk bv bm;unfold Ev.val Ev.cells at S ⊢;have h4:=hJ.h4;rw[U.out]at h4;replace S:=hd' S;go_in;go_upto_region 1 with fail;generalize w.alloc (.cells #[e.k,e.c,e.ok,e.oa,e.on,e.at',e.n,e.er] 77)=W at *;rw[<-bf]at t1 ⊢;have bw:=zac t1;clear bf;go_upto_region 5 with(first|(go_at_call 76;(with_reducible refine S.out.mono ?_);rintro r w2 ⟨rfl,hL⟩));obtain⟨⟨y,bg,bq⟩,c4⟩:=hL;clear hJ t1 bw h4 S;obtain⟨V,rfl⟩:∃ V:World,V=w2:=⟨_,rfl⟩;have b3:JrA B V jb s pb y {J with l:=q,ps:=j}:=bg;have g1:V.cell? ⟨jb,1,.none⟩=some (rvV pb j.length):=b3.h1;obtain⟨n,b8,b1⟩:=hidv j.length;have c9:n<=100:=by omega
 rw[<-b1]at g1;unfold rvV at g1;clear b1 ca bg;have b0:Hid (∀ wr,JrA B wr jb s pb y {J with l:=q,ps:=j.map (abP q),m:=J.m+1}->Only (footR jb s pb y) V wr->LeftR B w wr jb s pb sl {J with l:=q,ps:=j.map (abP q),m:=J.m+1}):=hd' fun wr C ho=>by
  refine LeftR.lower bh ⟨⟨y,C,bq⟩,c4.trans ho fun k hk e=>?_⟩;rcases e with e|e|e|e
  ·exact .inl e
  ·exact .inr (.inl e)
  ·exact .inr (.inr (.inl e))
  rcases bq k e with h1|h1
  ·exact .inr (.inr (.inr h1))
  omega
 go_wp2_with fail;go_loopw [6] (fun vi wr=>∃ i:Nat,i<=n/\vi= .int .i64 i/\JrA B wr jb s pb y {J with l:=q,ps:=mapR (abP q) i j}/\Only (footR jb s pb y) V wr) (fun vi _=>n-(intOf vi).toNat);case atStart=>exact⟨0,Nat.zero_le _,rfl,by rw[mapR_zero];exact b3,Only.refl _ _⟩
 case round=>
  clear g1 b3;obtain⟨i,hi,rfl,C,ho⟩:=hrel;obtain⟨Y,rfl⟩:∃ V:World,V=wr:=⟨_,rfl⟩;have y1:Y.cell? ⟨jb,1,.none⟩=some (.slice (some ⟨pb,0,.none⟩) n n):=by have:=C.h1;unfold rvV at this;rw[show ({J with l:=q,ps:=mapR (abP q) i j}:Jd).ps.length=j.length from mapR_len _ _ _,<- b8.out]at this;exact this
  by_cases c8:i<n
  ·have cb:(i:Int)<(n:Int):=by omega
   have cd:(0:Int)<=(i:Int):=by omega
   have cg:IntKind.i64.wrap ((i:Int)+1)=(i:Int)+1:=IntWalk.i64_in _ ⟨by omega,by omega⟩;have b6:i<j.length:=by have:=b8.out;omega
   have M:i<(mapR (abP q) i j).length:=by rw[mapR_len];exact b6
   have I:RrP Y pb (mapR (abP q) i j):=C.row;obtain⟨p,hp⟩:∃ p,j[i]=p:=⟨_,rfl⟩;have D:=mapR_get (abP q) i j b6;rw[hp]at D;have ba:=I.pt i M D;have y0:=C.h0;have O:=mapR_succ (abP q) i j b6;rw[hp]at O;have L:=fun X (hX:Below Y.heap.size Y X)=>rat_any (C.below hX).model p.a;obtain⟨bx,bn,b4⟩:=rblk_form q p.a;dsimp only at L b4;rw[b4]at L;replace L:=hd' L;have y4:=ba.c7;have lj:jb<Y.heap.size:=C.lt;have lp:pb<Y.heap.size:=ba.lt;replace D:=hd' D;replace O:=hd' O;replace hp:=hd' hp;clear b4;go_upto_region 8 with fail;go_cut [7,8] (fun vx vo wx=>(∃ N:Nat,vx= .pointer (some ⟨N,0,.none⟩))/\vo= .bool (zd6 p.a q)/\Below Y.heap.size Y wx);case first=>
    have hK:Hid (∀ X,Below Y.heap.size Y X->X.cell? ⟨jb,0,.none⟩=some (.pointer (some ⟨s,0,.none⟩))/\X.cell? ⟨jb,1,.none⟩=some (.slice (some ⟨pb,0,.none⟩) n n)/\X.cell? ⟨pb,i*10+7,.none⟩=some (.int .i64 p.a)):=hd' fun X hb=>⟨zai hb _ _ _ y0,zai hb _ _ _ y1,zai hb _ _ _ y4⟩
    go_region_held3 (fun X=>X.cell? ⟨jb,0,.none⟩=some (.pointer (some ⟨s,0,.none⟩))/\X.cell? ⟨jb,1,.none⟩=some (.slice (some ⟨pb,0,.none⟩) n n)/\X.cell? ⟨pb,i*10+7,.none⟩=some (.int .i64 p.a))
     (first|exact hK.out _ (by go_grown))
     (first|(go_at_call 77;(with_reducible refine(L.out _ (by go_grown)).mono ?_);rintro r w4 ⟨rfl,bi⟩;have bz:=zab (w:=Y) (by go_grown) bi;have cc:=bz.size;try (have hz:=Tw2.below (N:=Y.heap.size) (a:=0) (b:=0) (heap_alloc_new Y.drew (.cells #[.int .i64 0,.int .i64 0] 151)) bi;have z0:=zac hz 0;have z1:=zac hz 1;have zF:=zax hz)))
    all_goals (go_wp2_with fail;go_meet)
    all_goals exact⟨⟨_,rfl⟩,rfl,by go_grown⟩
   case rest=>
    obtain⟨⟨N,rfl⟩,rfl,T⟩:=hcut;obtain⟨Z,rfl⟩:∃ V:World,V=wc:=⟨_,rfl⟩;have b7:=C.below T;have b9:Only (footR jb s pb y) V Z:=ho.trans (Only.of_below (F:=fun _=>False) T) fun _ _ e=>e.elim;have bb:RrP Z pb (mapR (abP q) i j):=I.of_block (T.block _ I.lt);have H:RpAt Z pb (i*10) p:=bb.pt i M D.out;have y1:=zai T _ _ _ y1;have y2:=H.c2;have y5:=H.c5;have yf:=H.fr;have o:abP q p=p->∃ G:Nat,G<=n/\Value.int .i64 ((i:Int)+1)= .int .i64 G/\JrA B Z jb s pb y {J with l:=q,ps:=mapR (abP q) G j}/\Only (footR jb s pb y) V Z:=fun e=>by
     refine⟨i+1,by omega,by go_num,?_,b9⟩;have:mapR (abP q) (i+1) j=mapR (abP q) i j:=by rw[O.out,e,<- D.out,List.set_getElem_self]
     rw[this];exact b7
    have z:abP q p= {p with ab:=true}->∃ G:Nat,G<=n/\Value.int .i64 ((i:Int)+1)= .int .i64 G/\JrA B (Z.setCell ⟨pb,i*10+5,.none⟩ (.bool true)) jb s pb y {J with l:=q,ps:=mapR (abP q) G j}/\Only (footR jb s pb y) V (Z.setCell ⟨pb,i*10+5,.none⟩ (.bool true)):=fun e=>by
     have bc:RrP Z pb ((mapR (abP q) i j).set i p):=by rw[<-D.out,List.set_getElem_self];exact bb
     have z0:=RrP.put (q':= {p with ab:=true}) M 5 (.bool true) (Only.refl (atR pb) Z) bc rfl (by omega);refine⟨i+1,by omega,by go_num,?_,b9.trans z0.1 fun k _ e=>.inr (.inl e)⟩;rw[O.out,e];exact b7.setP (qs:=(mapR (abP q) i j).set i {p with ab:=true}) (by rw[List.length_set]) z0.2 z0.1
    replace o:=hd' o;replace z:=hd' z;clear b7 b9 bb H I ba C ho L y4 y0;rcases Bool.eq_false_or_eq_true (zd6 p.a q) with b5|b5
    ·have hh:=hd' (o.out (by unfold abP;rw[if_neg (by rw[b5];simp)]));clear o z;go_wp2;all_goals exact⟨hh.out,by simp[intOf];omega⟩
    rcases Bool.eq_false_or_eq_true p.asks with has|has
    ·have hh:=hd' (z.out (by unfold abP;rw[if_pos ⟨b5,has⟩]));clear o z;go_wp2;exact⟨hh.out,by simp[intOf];omega⟩
    have hh:=hd' (o.out (by unfold abP;rw[if_neg (by rw[has];simp)]));clear o z;go_wp2;exact⟨hh.out,by simp[intOf];omega⟩
  have c6:i=n:=by omega
  subst c6;rw[b8.out,mapR_all]at C;obtain⟨bp,bu⟩:=C.setN (J.m+1);have hL:=hd' (b0.out _ bp (ho.trans bu fun k _ e=>.inl e));have y2:=C.h2;have y4:=C.h4;have yf:=C.fr;dsimp only at y2 y4;rw[U.out]at y4;have wm:=wrp (J.m+1);have cf:¬ (i:Int)<(i:Int):=by omega
  have lj:jb<Y.heap.size:=C.lt;clear C ho b0 bp bu c8;go_wp2;go_ret;exact⟨rfl,hL.out⟩
end

end Go.Proofs.YtedcnffebdpmmaaGreat
