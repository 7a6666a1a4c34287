
import Derived.Test.YtkilokkopbajkaaGreatBw7

set_option linter.all false
namespace Go.Proofs.YtkilokkopbajkaaGreat

section

variable {s:Sh}{σ:Ab}{c x p:Int}{o:Own}{v:PW}

theorem kT(σ:Ab)(p:Int)(v:PW)(q:Int):(σ.page p v).pg q=if q=p then v else σ.pg q:=rfl
theorem HC(σ:Ab)(p:Int)(v:PW):(σ.page p v).pg p=v:=aJ _ _ _
theorem PC(σ:Ab){p q:Int}(v:PW)(h:q≠p):(σ.page p v).pg q=σ.pg q:=OG _ h _
theorem pF(σ:Ab)(p i:Int)(v:SW):(σ.slot p i v).sl p i=v:=kI _ _ _ _
theorem WD(σ:Ab){p i q j:Int}(v:SW)(h:¬(q=p/\j=i)):(σ.slot p i v).sl q j=σ.sl q j:=HG _ h _
theorem VF(σ:Ab)(c i:Int)(v:MW):(σ.mag c i v).mg c i=v:=kI _ _ _ _
theorem JE(σ:Ab){c i d j:Int}(v:MW)(h:¬(d=c/\j=i)):(σ.mag c i v).mg d j=σ.mg d j:=HG _ h _
theorem HE(σ:Ab)(c:Int)(v:TW):(σ.stat c v).st c=v:=aJ _ _ _
theorem rB(σ:Ab){c d:Int}(v:TW)(h:d≠c):(σ.stat c v).st d=σ.st d:=OG _ h _
theorem EQ(h:GI s σ){q g:Int}(b:σ.pg q=.body g):g<q/\q-8<g/\0<=g/\(0<=q/\q<s.p):=by
 have:=h.pf q;rw[b]at this;simp only[PW.fit]at this;omega
theorem TI(h:GI s σ)(b:σ.pg p=.held c):(0<=p/\p<s.p)/\0<=c/\c<s.c:=by
 have:=h.pf p;rw[b]at this;exact this
theorem CH(h:GI s σ){k b:Int}(f:σ.pg p=.super k b):(0<=p/\p<s.p)/\(0<=k/\k<=3)/\0<=b/\b<s.c:=by
 have:=h.pf p;rw[f]at this;exact this
theorem ZH(h:GI s σ){n:Int}(b:σ.pg p=.large n):(0<=p/\p<s.p)/\1<=n/\n<=8/\n<=s.p-p:=by
 have:=h.pf p;rw[b]at this;exact this
theorem GI.page(h:GI s σ)(F:v.fit s p)(E:∀i,ND v i (σ.sl p i))(y:∀g,v=.body g->(∃o,σ.pg g=.held o)\/∃n,σ.pg g=.large n/\p<g+n)(hb:∀q,q≠p->σ.pg q=.body p->(∃o,v=.held o)\/∃n,v=.large n/\q<p+n)(C:∀n,v=.large n->∀j,1<=j->j<n->σ.pg (p+j)=.body p)(B:∀g,σ.pg p=.body g->v=.body g\/∀n,σ.pg g≠.large n)(D:∀c j i k,σ.mg c j=.entry p i k->∃b,v=.super k b):GI s (σ.page p v):=by
 refine⟨λq=>?_,h.sf,h.mf,h.tf,h.mr,h.tr,λq i=>?_,λq g l=>?_,λq n l j h1 h2=>?_,λd j q i k z=>?_,h.mi⟩
 .rw[kT];split
  .rename_i e;subst e;exact F
  exact h.pf q
 .rw[kT];split
  .rename_i e;subst e;exact E i
  exact h.sk q i
 .by_cases f:q=p
  .subst f;rw[HC]at l;have m:g≠q:=λe=>by subst l;simp only[PW.fit]at F;omega
   rw[PC _ _ m];exact y g l
  rw[PC _ _ f]at l;by_cases m:g=p
  .subst m;rw[HC];exact hb q f l
  rw[PC _ _ m];exact h.bd q g l
 .by_cases f:q=p
  .subst f;rw[HC]at l;rw[PC _ _ (by omega)];exact C n l j h1 h2
  rw[PC _ _ f]at l;have r:=h.lg q n l j h1 h2;by_cases t:q+j=p
  .rw[t]at r|-;rw[HC];rcases B q r with e|e
   .exact e
   exact absurd l (e n)
  rw[PC _ _ t];exact r
 refine⟨?_,(h.mv d j q i k z).2⟩;by_cases f:q=p
 .subst f;rw[HC];exact D d j i k z
 rw[PC _ _ f];exact(h.mv d j q i k z).1
theorem GI.slot(h:GI s σ){i:Int}{u:SW}(f:u.fit s)(l:ND (σ.pg p) i u)(m:∀c j k,σ.mg c j=.entry p i k->u=.way c):GI s (σ.slot p i u):=by
 refine⟨h.pf,λq j=>?_,h.mf,h.tf,h.mr,h.tr,λq j=>?_,h.bd,h.lg,λd j q y k b=>?_,h.mi⟩
 .by_cases e:q=p/\j=i
  .obtain⟨rfl,rfl⟩:=e;rw[pF];exact f
  rw[WD _ _ e];exact h.sf q j
 .by_cases e:q=p/\j=i
  .obtain⟨rfl,rfl⟩:=e;rw[pF];exact l
  rw[WD _ _ e];exact h.sk q j
 refine⟨(h.mv d j q y k b).1,?_⟩;by_cases e:q=p/\y=i
 .obtain⟨rfl,rfl⟩:=e;rw[pF];exact m d j k b
 rw[WD _ _ e];exact(h.mv d j q y k b).2
theorem GI.mag(h:GI s σ){c i:Int}{u:MW}(z:u.fit s)(B:u≠.none->(0<=c/\c<s.c)/\0<=i/\i<s.m)(C:∀p j k,u=.entry p j k->(∃b,σ.pg p=.super k b)/\σ.sl p j=.way c)(hi:∀p y k r j,u=.entry p y k->σ.mg c j=.entry p y r->j=i):GI s (σ.mag c i u):=by
 refine⟨h.pf,h.sf,λd j=>?_,h.tf,λd j t=>?_,h.tr,h.sk,h.bd,h.lg,λd j q y k l=>?_,λd j j' q y k r l f=>?_⟩
 .by_cases e:d=c/\j=i
  .obtain⟨rfl,rfl⟩:=e;rw[VF];exact z
  rw[JE _ _ e];exact h.mf d j
 .by_cases e:d=c/\j=i
  .obtain⟨rfl,rfl⟩:=e;rw[VF]at t;exact B t
  rw[JE _ _ e]at t;exact h.mr d j t
 .by_cases e:d=c/\j=i
  .obtain⟨rfl,rfl⟩:=e;rw[VF]at l;exact C q y k l
  rw[JE _ _ e]at l;exact h.mv d j q y k l
 by_cases e:d=c/\j=i
 .obtain⟨rfl,rfl⟩:=e;rw[VF]at l;by_cases n:j'=j
  .exact n.symm
  rw[JE _ _ (λh=>n h.2)]at f;exact(hi q y k r j' l f).symm
 rw[JE _ _ e]at l;by_cases n:d=c/\j'=i
 .obtain⟨rfl,rfl⟩:=n;rw[VF]at f;exact hi q y r k j f l
 rw[JE _ _ n]at f;exact h.mi d j j' q y k r l f
theorem GI.stat(h:GI s σ){u:TW}(b:u.fit s)(f:0<=c/\c<s.c):GI s (σ.stat c u):=by
 refine⟨h.pf,h.sf,h.mf,λd=>?_,h.mr,λd hd=>?_,h.sk,h.bd,h.lg,h.mv,h.mi⟩
 .by_cases e:d=c
  .subst e;rw[HE];exact b
  rw[rB _ _ e];exact h.tf d
 by_cases e:d=c
 .subst e;exact f
 rw[rB _ _ e]at hd;exact h.tr d hd
theorem Same.stat(σ:Ab)(u:TW):Same x σ (σ.stat c u):=⟨λ_=>.rfl,λ_ _ _=>rfl,λ_ _ _=>.rfl,λ_ _ _=>.rfl,λ_=>rfl⟩
theorem Same.page(h1:v=.held x↔σ.pg p=.held x)(h2:∀g,σ.pg g=.held x->(v=.body g↔σ.pg p=.body g))(h3:∀i k,σ.sl p i=.way x->((∃b,v=.super k b)↔∃b,σ.pg p=.super k b)):Same x σ (σ.page p v):=by
 refine⟨λq=>?_,λ_ _ _=>rfl,λq g l=>?_,λq i k=>?_,λ_=>rfl⟩
 .by_cases e:q=p
  .subst e;rw[HC];exact h1
  rw[PC _ _ e]
 .by_cases e:q=p
  .subst e;rw[HC];exact h2 g l
  rw[PC _ _ e]
 by_cases e:q=p
 .subst e;rw[HC];constructor
  .rintro⟨j,f⟩;exact⟨(h3 i k f).1 j,f⟩
  rintro⟨j,f⟩;exact⟨(h3 i k f).2 j,f⟩
 rw[PC _ _ e];exact .rfl
theorem Same.slot{i:Int}{u:SW}(h1:σ.pg p≠.held x)(h2:∀k b,σ.pg p=.super k b->(u=.way x↔σ.sl p i=.way x)):Same x σ (σ.slot p i u):=by
 refine⟨λ_=>.rfl,λq j m=>?_,λ_ _ _=>.rfl,λq j k=>?_,λ_=>rfl⟩
 .by_cases e:q=p/\j=i
  .exact absurd (e.1▸m) h1
  rw[WD _ _ e]
 by_cases e:q=p/\j=i
 .obtain⟨rfl,rfl⟩:=e;rw[pF];constructor
  .rintro⟨⟨b,f⟩,l⟩;exact⟨⟨b,f⟩,(h2 k b f).1 l⟩
  rintro⟨⟨b,f⟩,l⟩;exact⟨⟨b,f⟩,(h2 k b f).2 l⟩
 rw[WD _ _ e];exact .rfl
theorem Same.mag{i:Int}{u:MW}(h:x≠c):Same x σ (σ.mag c i u):=
 ⟨λ_=>.rfl,λ_ _ _=>rfl,λ_ _ _=>.rfl,λ_ _ _=>.rfl,λj=>JE _ _ (λe=>h e.1)⟩
theorem xA.page{f:Own}(h:xA σ c o)(h1:∀q,q≠p->(f.h q↔o.h q))(n:f.h p↔v=.held c)(h2:∀q g,q≠p->g≠p->(f.b q g↔o.b q g)) (r:∀g,g≠p->(f.b p g↔v=.body g/\o.h g)) (m:∀q,q≠p->(f.b q p↔σ.pg q=.body p/\v=.held c)) (t:¬f.b p p) (h3:∀q i k,q≠p->(f.w q i k↔o.w q i k)) (y:∀i k,(f.w p i k\/∃j,σ.mg c j=.entry p i k)↔((∃b,v=.super k b)/\σ.sl p i=.way c))(h4:∀i k j,f.w p i k->σ.mg c j≠.entry p i k):xA (σ.page p v) c f:=by
 refine⟨λq=>?_,λq g=>?_,λq i k=>?_,λq i k j z=>?_⟩
 .by_cases e:q=p
  .subst e;rw[HC];exact n.symm
  rw[PC _ _ e,h1 q e];exact h.h q
 .by_cases e:q=p
  .subst e;rw[HC];by_cases l:g=q
   .subst l;rw[HC];constructor
    .rintro⟨a,b⟩;rw[a]at b;cases b
    intro a;exact absurd a t
   rw[PC _ _ l,r g l,h.h g]
  rw[PC _ _ e];by_cases l:g=p
  .subst l;rw[HC];exact(m q e).symm
  rw[PC _ _ l,h2 q g e l];exact h.b q g
 .by_cases e:q=p
  .subst e;rw[HC];exact(y i k).symm
  rw[PC _ _ e];exact(h.w q i k).trans (or_congr (h3 q i k e).symm .rfl)
 by_cases e:q=p
 .subst e;exact h4 i k j z
 exact h.d q i k j ((h3 q i k e).1 z)
theorem xA.slot{f:Own}{i:Int}{u:SW}(h:xA σ c o)(h1:∀q,f.h q↔o.h q)(h2:∀q g,f.b q g↔o.b q g)(h3:∀q j k,¬(q=p/\j=i)->(f.w q j k↔o.w q j k))(h4:∀k,(f.w p i k\/∃j,σ.mg c j=.entry p i k)↔((∃b,σ.pg p=.super k b)/\u=.way c)) (m:∀k j,f.w p i k->σ.mg c j≠.entry p i k):xA (σ.slot p i u) c f:=by
 refine⟨λq=>(h.h q).trans (h1 q).symm,λq g=>(h.b q g).trans (h2 q g).symm,λq j k=>?_,λq j k y l=>?_⟩
 .by_cases e:q=p/\j=i
  .obtain⟨rfl,rfl⟩:=e;rw[pF];exact(h4 k).symm
  rw[WD _ _ e];exact(h.w q j k).trans (or_congr (h3 q j k e).symm .rfl)
 by_cases e:q=p/\j=i
 .obtain⟨rfl,rfl⟩:=e;exact m k y l
 exact h.d q j k y ((h3 q j k e).1 l)
end

section

variable {s:Sh}{σ:Ab}{c p:Int}{o:Own}

def Kept (s:Sh) (c:Int) (σ σ':Ab):Prop:=GI s σ'/\(∀x,x≠c->Same x σ σ')/\∀x,σ'.st x=σ.st x
theorem Kept.refl(h:GI s σ):Kept s c σ σ:=⟨h,λ_ _=>Same.refl _ _,λ_=>rfl⟩
theorem oK(h:GI s σ)(b:σ.pg p=.empty\/(∃n,σ.pg p=.large n)\/∃g,σ.pg p=.body g)(i:Int):σ.sl p i=.none:=by
 have:=h.sk p i;rcases b with e|⟨n,e⟩|⟨g,e⟩<;>rw[e]at this<;>exact this
theorem NI(h:GI s σ)(b:σ.pg p=.held c)(i:Int):σ.sl p i=.none\/(σ.sl p i=.way c/\0<=i/\i<16):=by
 have:=h.sk p i;rw[b]at this;exact this
theorem JV(h:GI s σ){k b:Int}(f:σ.pg p=.super k b)(i:Int):if 0<=i/\i<mA k then σ.sl p i=.opened k\/σ.sl p i=.taken k\/∃c,σ.sl p i=.way c else σ.sl p i=.none:=by
 have:=h.sk p i;rw[f]at this;exact this
theorem gK(h:GI s σ){i k:Int}(hs:σ.sl p i=.opened k\/σ.sl p i=.taken k):(∃b,σ.pg p=.super k b)/\0<=i/\i<mA k:=by
 have:=h.sk p i;cases hp:σ.pg p with
 |super f b=>
  rw[hp]at this;simp only[ND]at this;split at this
  .rename_i hi;have e:f=k:=by rcases hs with e|e<;>rw[e]at this<;>exact(by simpa using this:k=f).symm
   subst e;exact⟨⟨b,rfl⟩,hi⟩
  rcases hs with e|e<;>rw[e]at this<;>cases this
 |held o=>rw[hp]at this;simp only[ND]at this;rcases hs with e|e<;>rw[e]at this<;>simp at this
 |empty=>rw[hp]at this;simp only[ND]at this;rcases hs with e|e<;>rw[e]at this<;>cases this
 |large n=>rw[hp]at this;simp only[ND]at this;rcases hs with e|e<;>rw[e]at this<;>cases this
 |body g=>rw[hp]at this;simp only[ND]at this;rcases hs with e|e<;>rw[e]at this<;>cases this
theorem oM(h:GI s σ){i k b x:Int}(f:σ.pg p=.super k b)(hs:σ.sl p i=.way x):0<=i/\i<mA k:=by
 have:=JV h f i;split at this
 .assumption
 rw[hs]at this;cases this
theorem wG(h:GI s σ){j i k d:Int}(f:σ.mg d j=.entry p i k):∃b,σ.pg p=.super k b:=(h.mv d j p i k f).1
theorem uU(h:GI s σ)(f:σ.pg p=.empty)(l:0<=p/\p<s.p)(hc:0<=c/\c<s.c):Kept s c σ (σ.page p (.held c)):=by
 refine⟨h.page ⟨l,hc⟩ (λi=>.inl (oK h (.inl f) i)) (λg e=>by cases e) (λq _ _=>.inl ⟨c,rfl⟩) (λn e=>by cases e) (λg e=>by rw[f]at e;cases e) (λd j i k e=>?_),λx m=>Same.page ?_ ?_ ?_,λ_=>rfl⟩
 .obtain⟨b,e⟩:=wG h e;rw[f]at e;cases e
 .rw[f];simp;exact λe=>m e.symm
 .intro g _;rw[f];simp
 intro i k _;rw[f];simp
theorem tU(h:GI s σ)(f:xA σ c o)(m:σ.pg p=.empty):xA (σ.page p (.held c)) c (o.add (.page p)):=by
 have y:¬o.h p:=λe=>by have:=(f.h p).2 e;rw[m]at this;cases this
 have l:∀q,σ.pg q≠.body p:=λq e=>by rcases h.bd q p e with⟨_,e⟩|⟨_,e,_⟩<;>rw[m]at e<;>cases e
 refine f.page (λq n=>?_) ?_ (λq g n t=>?_) (λg t=>?_) (λq n=>?_) ?_ (λq i k n=>?_) (λi k=>?_) (λi k j r=>?_)
 .simp[Own.add,Own.page,n]
 .simp[Own.add,Own.page]
 .simp[Own.add,Own.page]
 .simp only[Own.add,Own.page,or_false];rw[<-f.b p g,m];simp
 .simp only[Own.add,Own.page,or_false];rw[<-f.b q p];exact⟨λe=>absurd e.1 (l q),λe=>absurd e.1 (l q)⟩
 .simp only[Own.add,Own.page,or_false];rw[<-f.b p p,m];simp
 .simp[Own.add,Own.page]
 .simp only[Own.add,Own.page,or_false];rw[<-f.w p i k,m];simp
 simp only[Own.add,Own.page,or_false]at r;exact f.d p i k j r
theorem iP(h:GI s σ)(f:σ.pg p=.held c)(hs:∀i,σ.sl p i=.none)(hb:∀q,σ.pg q≠.body p):Kept s c σ (σ.page p .empty):=by
 refine⟨h.page trivial hs (λg e=>by cases e) (λq _ e=>absurd e (hb q)) (λn e=>by cases e) (λg e=>by rw[f]at e;cases e) (λd j i k e=>?_),λx l=>Same.page ?_ ?_ ?_,λ_=>rfl⟩
 .obtain⟨b,e⟩:=wG h e;rw[f]at e;cases e
 .rw[f];simp;exact λe=>l e.symm
 .intro g _;rw[f];simp
 intro i k _;rw[f];simp
theorem vU(f:xA σ c (o.add (.page p)))(r:¬o.h p)(hb:∀q,σ.pg q≠.body p):xA (σ.page p .empty) c o:=by
 have m:σ.pg p=.held c:=(f.h p).2 (.inr rfl);refine f.page (λq l=>?_) ?_ (λq g l n=>?_) (λg n=>?_) (λq l=>?_) ?_ (λq i k l=>?_) (λi k=>?_) (λi k j t=>?_)
 .simp[Own.add,Own.page,l]
 .simp[r]
 .simp[Own.add,Own.page]
 .have:=f.b p g;simp only[Own.add,Own.page,or_false]at this;rw[<-this,m];simp
 .have:=f.b q p;simp only[Own.add,Own.page,or_false]at this;rw[<-this];exact⟨λe=>absurd e.1 (hb q),λe=>absurd e.1 (hb q)⟩
 .have:=f.b p p;simp only[Own.add,Own.page,or_false]at this;rw[<-this,m];simp
 .simp[Own.add,Own.page]
 .have:=f.w p i k;simp only[Own.add,Own.page,or_false]at this;rw[<-this,m];simp
 exact f.d p i k j (.inl t)
theorem zqm(h:GI s σ){g:Int}(f:σ.pg p=.held c)(hs:∀i,σ.sl p i=.none)(hb:∀q,σ.pg q≠.body p)(m:σ.pg g=.held c)(B:g<p/\p-8<g):Kept s c σ (σ.page p (.body g)):=by
 have r:=TI h f;have z:=TI h m;refine⟨h.page ⟨r.1,by omega⟩ hs (λy e=>by injection e with e;subst e;exact .inl ⟨c,m⟩) (λq _ e=>absurd e (hb q)) (λn e=>by cases e) (λg e=>by rw[f]at e;cases e) (λd j i k e=>?_),λx t=>Same.page ?_ ?_ ?_,λ_=>rfl⟩
 .obtain⟨b,e⟩:=wG h e;rw[f]at e;cases e
 .rw[f];simp;exact λe=>t e.symm
 .intro y l;rw[f];simp only[reduceCtorEq,iff_false,PW.body.injEq];intro e;subst e;rw[m]at l;injection l with e;exact t e.symm
 intro i k _;rw[f];simp
theorem zn5{g:Int}(f:xA σ c (o.add (.page p)))(B:¬o.h p)(hb:∀q,σ.pg q≠.body p)(z:o.h g)(l:g≠p):xA (σ.page p (.body g)) c (o.add (.bodies g p (p+1))):=by
 have r:σ.pg p=.held c:=(f.h p).2 (.inr rfl);refine f.page (λq m=>?_) ?_ (λq t m n=>?_) (λt n=>?_) (λq m=>?_) ?_ (λq i k m=>?_) (λi k=>?_) (λi k j y=>?_)
 .simp[Own.add,Own.page,Own.bodies,m]
 .simp[Own.add,Own.bodies,B]
 .simp only[Own.add,Own.page,Own.bodies,or_false];refine⟨λe=>?_,.inl⟩;rcases e with e|e
  .exact e
  exact absurd (show q=p by omega) m
 .have:=f.b p t;simp only[Own.add,Own.page,or_false]at this;simp only[Own.add,Own.bodies,Own.page,PW.body.injEq];rw[<-this,r];simp only[reduceCtorEq,false_and,false_or];constructor
  .rintro⟨e,_⟩;subst e;exact⟨rfl,.inl z⟩
  rintro⟨e,_⟩;exact⟨e.symm,by omega,by omega⟩
 .have:=f.b q p;simp only[Own.add,Own.page,or_false]at this;simp only[Own.add,Own.bodies];rw[<-this];constructor
  .rintro(e|e)
   .exact absurd e.1 (hb q)
   exact absurd e.1.symm l
  intro e;exact absurd e.1 (hb q)
 .have:=f.b p p;simp only[Own.add,Own.page,or_false]at this;simp only[Own.add,Own.bodies];rw[<-this,r];simp only[reduceCtorEq,false_and,false_or];exact λe=>l e.1.symm
 .simp[Own.add,Own.page,Own.bodies]
 .have:=f.w p i k;simp only[Own.add,Own.page,or_false]at this;simp only[Own.add,Own.bodies,or_false];rw[<-this,r];simp
 simp only[Own.add,Own.bodies,or_false]at y;exact f.d p i k j (.inl y)
theorem EU(h:GI s σ){g:Int}(f:σ.pg p=.body g)(t:σ.pg g=.held c):Kept s c σ (σ.page p .empty):=by
 have m:∀q,σ.pg q≠.body p:=λq e=>by rcases h.bd q p e with⟨_,e⟩|⟨_,e,_⟩<;>rw[f]at e<;>cases e
 refine⟨h.page trivial (λi=>oK h (.inr (.inr ⟨g,f⟩)) i) (λg e=>by cases e) (λq _ e=>absurd e (m q)) (λn e=>by cases e) (λy e=>.inr λn r=>?_) (λd j i k e=>?_),λx z=>Same.page ?_ ?_ ?_,λ_=>rfl⟩
 .rw[f]at e;injection e with e;subst e;rw[t]at r;cases r
 .obtain⟨b,e⟩:=wG h e;rw[f]at e;cases e
 .rw[f];simp
 .intro y l;rw[f];simp only[reduceCtorEq,false_iff,PW.body.injEq];intro e;subst e;rw[t]at l;injection l with e;exact z e.symm
 intro i k _;rw[f];simp
theorem zoe(h:GI s σ){g:Int}(f:xA σ c (o.add (.bodies g p (p+1))))(z:∀g,¬o.b p g):xA (σ.page p .empty) c o:=by
 have t:σ.pg p=.body g/\σ.pg g=.held c:=(f.b p g).2 (.inr ⟨rfl,Int.le_refl _,by omega⟩);have m:=t.1;have l:∀q,σ.pg q≠.body p:=λq e=>by rcases h.bd q p e with⟨_,e⟩|⟨_,e,_⟩<;>rw[m]at e<;>cases e
 have B:g≠p:=λe=>by have:=EQ h m;omega
 refine f.page (λq n=>?_) ?_ (λq y n r=>?_) (λy r=>?_) (λq n=>?_) ?_ (λq i k n=>?_) (λi k=>?_) (λi k j C=>?_)
 .simp[Own.add,Own.bodies]
 .have:=f.h p;simp only[Own.add,Own.bodies,or_false]at this;rw[<-this,m];simp
 .simp only[Own.add,Own.bodies];refine⟨.inl,λe=>?_⟩;rcases e with e|e
  .exact e
  exact absurd (show q=p by omega) n
 .simp[z y]
 .have:=f.b q p;simp only[Own.add,Own.bodies]at this;constructor
  .intro e;exact absurd (this.2 (.inl e)).1 (l q)
  intro e;exact absurd e.1 (l q)
 .exact z p
 .simp[Own.add,Own.bodies]
 .have:=f.w p i k;simp only[Own.add,Own.bodies,or_false]at this;rw[<-this,m];simp
 exact f.d p i k j (.inl C)
theorem zlp(h:GI s σ){n:Int}(f:σ.pg p=.held c)(hs:∀i,σ.sl p i=.none)(t:1<=n/\n<=8/\n<=s.p-p)(hb:∀j,1<=j->j<n->σ.pg (p+j)=.body p)(r:∀q,σ.pg q=.body p->q<p+n):Kept s c σ (σ.page p (.large n)):=by
 have l:=TI h f;refine⟨h.page ⟨l.1,t⟩ hs (λm e=>by cases e) (λq _ e=>.inr ⟨n,rfl,r q e⟩) (λz e=>by injection e with e;subst e;exact hb) (λg e=>by rw[f]at e;cases e) (λd j i k e=>?_),λx y=>Same.page ?_ ?_ ?_,λ_=>rfl⟩
 .obtain⟨b,e⟩:=wG h e;rw[f]at e;cases e
 .rw[f];simp;exact λe=>y e.symm
 .intro m _;rw[f];simp
 intro i k _;rw[f];simp
theorem zkr{n:Int}(f:xA σ c ((o.add (.page p)).add (.bodies p (p+1) (p+n))))(y:¬o.h p)(hb:∀q,¬o.b q p):xA (σ.page p (.large n)) c o:=by
 have t:σ.pg p=.held c:=(f.h p).2 (.inl (.inr rfl));refine f.page (λq m=>?_) ?_ (λq r m l=>?_) (λr l=>?_) (λq m=>?_) ?_ (λq i k m=>?_) (λi k=>?_) (λi k j z=>?_)
 .simp[Own.add,Own.page,Own.bodies,m]
 .simp[y]
 .simp[Own.add,Own.page,Own.bodies,l]
 .have:=f.b p r;simp only[Own.add,Own.page,Own.bodies,or_false]at this;simp only[reduceCtorEq,false_and,iff_false];intro e;have:=this.2 (.inl e);rw[t]at this;cases this.1
 .simp[hb q]
 .exact hb p
 .simp[Own.add,Own.page,Own.bodies]
 .have:=f.w p i k;simp only[Own.add,Own.page,Own.bodies,or_false]at this;rw[<-this,t];simp
 exact f.d p i k j (.inl (.inl z))
theorem zmq(h:GI s σ){n:Int}(f:σ.pg p=.large n)(hc:0<=c/\c<s.c):Kept s c σ (σ.page p (.held c)):=by
 have l:=ZH h f;refine⟨h.page ⟨l.1,hc⟩ (λi=>.inl (oK h (.inr (.inl ⟨n,f⟩)) i)) (λm e=>by cases e) (λq _ e=>.inl ⟨c,rfl⟩) (λt e=>by cases e) (λg e=>by rw[f]at e;cases e) (λd j i k e=>?_),λx r=>Same.page ?_ ?_ ?_,λ_=>rfl⟩
 .obtain⟨b,e⟩:=wG h e;rw[f]at e;cases e
 .rw[f];simp;exact λe=>r e.symm
 .intro m _;rw[f];simp
 intro i k _;rw[f];simp
theorem zlv(h:GI s σ){n:Int}(r:xA σ c o)(m:σ.pg p=.large n):xA (σ.page p (.held c)) c ((o.add (.page p)).add (.bodies p (p+1) (p+n))):=by
 have C:¬o.h p:=λe=>by have:=(r.h p).2 e;rw[m]at this;cases this
 have t:∀q,¬o.b q p:=λq e=>by have:=((r.b q p).2 e).2;rw[m]at this;cases this
 refine r.page (λq y=>?_) ?_ (λq z y l=>?_) (λz l=>?_) (λq y=>?_) ?_ (λq i k y=>?_) (λi k=>?_) (λi k j B=>?_)
 .simp[Own.add,Own.page,Own.bodies,y]
 .simp[Own.add,Own.page,Own.bodies]
 .simp[Own.add,Own.page,Own.bodies,l]
 .simp only[Own.add,Own.page,Own.bodies,or_false];have:=r.b p z;rw[m]at this;simp only[reduceCtorEq,false_and,false_iff]at this;simp[this,l]
 .simp only[Own.add,Own.page,Own.bodies,or_false,true_and,and_true];constructor
  .rintro(e|e)
   .exact absurd e (t q)
   have:=h.lg p n m (q-p) (by omega) (by omega);rwa [show p+(q-p)=q by omega]at this
  intro e;have h1:=EQ h e;rcases h.bd q p e with⟨_,f⟩|⟨D,f,h2⟩
  .rw[m]at f;cases f
  rw[m]at f;injection f with f;subst f;exact .inr ⟨by omega,h2⟩
 .simp only[Own.add,Own.page,Own.bodies,or_false];rintro(e|e)
  .exact t p e
  omega
 .simp[Own.add,Own.page,Own.bodies]
 .simp only[Own.add,Own.page,Own.bodies,or_false];rw[<-r.w p i k,m];simp
 simp only[Own.add,Own.page,Own.bodies,or_false]at B;exact r.d p i k j B
theorem mP(h:GI s σ){i:Int}{u:SW}(f:σ.pg p=.held c)(hu:u=.none\/(u=.way c/\0<=i/\i<16)):Kept s c σ (σ.slot p i u):=by
 have l:=TI h f;refine⟨h.slot ?_ (by rw[f];exact hu) (λd j k e=>?_),λx m=>Same.slot (by rw[f];simp;exact λe=>m e.symm) (λk b e=>by rw[f]at e;cases e),λ_=>rfl⟩
 .rcases hu with rfl|⟨rfl,_⟩
  .trivial
  exact l.2
 obtain⟨b,e⟩:=wG h e;rw[f]at e;cases e
theorem zU{i x:Int}{u:SW}(b:xA σ c o)(f:σ.pg p=.held x):xA (σ.slot p i u) c o:=by
 refine b.slot (λ_=>.rfl) (λ_ _=>.rfl) (λ_ _ _ _=>.rfl) (λk=>?_) (λk j l=>b.d p i k j l);rw[<-b.w p i k,f];simp
theorem zpg(h:GI s σ){k:Int}(l:σ.pg p=.held c)(r:0<=k/\k<=3)(hs:∀i,σ.sl p i=if 0<=i/\i<mA k then .way c else .none)(hb:∀q,σ.pg q≠.body p):Kept s c σ (σ.page p (.super k c)):=by
 have f:=TI h l;refine⟨h.page ⟨f.1,r,f.2⟩ (λi=>?_) (λn e=>by cases e) (λq _ e=>absurd e (hb q)) (λy e=>by cases e) (λg e=>by rw[l]at e;cases e) (λd j i k e=>?_),λx m=>Same.page ?_ ?_ ?_,λ_=>rfl⟩
 .rw[hs i];simp only[ND];split
  .exact .inr (.inr ⟨c,rfl⟩)
  rfl
 .obtain⟨b,e⟩:=wG h e;rw[l]at e;cases e
 .rw[l];simp;exact λe=>m e.symm
 .intro n _;rw[l];simp
 intro i t e;rw[hs i]at e;split at e
 .injection e with e;exact absurd e.symm m
 cases e
theorem zn3(h:GI s σ){k b:Int}(l:xA σ c (o.add (.page p)))(D:¬o.h p)(hs:∀i,σ.sl p i=if 0<=i/\i<mA k then .way c else .none)(hb:∀q,σ.pg q≠.body p):xA (σ.page p (.super k b)) c (o.add (.ways p (mA k) k)):=by
 have t:σ.pg p=.held c:=(l.h p).2 (.inr rfl);have n:∀d j i f,σ.mg d j≠.entry p i f:=λd j i f e=>by obtain⟨b,e⟩:=wG h e;rw[t]at e;cases e
 have z:∀i f,¬o.w p i f:=λi f e=>by have:=(l.w p i f).2 (.inl (.inl e));rw[t]at this;obtain⟨⟨_,e⟩,_⟩:=this;cases e
 refine l.page (λq r=>?_) ?_ (λq C r y=>?_) (λC y=>?_) (λq r=>?_) ?_ (λq i k r=>?_) (λi f=>?_) (λi k j F=>n _ _ _ _)
 .simp[Own.add,Own.page,Own.ways,r]
 .simp[Own.add,Own.ways,D]
 .simp[Own.add,Own.page,Own.ways]
 .have:=l.b p C;simp only[Own.add,Own.page,or_false]at this;simp only[Own.add,Own.ways,or_false];rw[<-this,t];simp
 .have:=l.b q p;simp only[Own.add,Own.page,or_false]at this;simp only[Own.add,Own.ways,or_false];rw[<-this];exact⟨λe=>absurd e.1 (hb q),λe=>absurd e.1 (hb q)⟩
 .have:=l.b p p;simp only[Own.add,Own.page,or_false]at this;simp only[Own.add,Own.ways,or_false];rw[<-this,t];simp
 .simp[Own.add,Own.page,Own.ways,r]
 simp only[Own.add,Own.ways,z,false_or,true_and];rw[hs i];constructor
 .rintro(⟨m,rfl⟩|⟨j,e⟩)
  .exact⟨⟨b,rfl⟩,by rw[jP m]⟩
  exact absurd e (n _ _ _ _)
 rintro⟨⟨E,m⟩,B⟩;injection m with m _;split at B
 .rename_i hi;exact .inl ⟨hi,m.symm⟩
 cases B
theorem zn2(h:GI s σ){k b:Int}(m:σ.pg p=.super k b)(hc:0<=c/\c<s.c)(hs:∀i,0<=i->i<mA k->σ.sl p i=.way c)(z:∀j i n,σ.mg c j≠.entry p i n):Kept s c σ (σ.page p (.held c)):=by
 have r:=CH h m;have f:∀i,(0<=i/\i<mA k/\σ.sl p i=.way c)\/σ.sl p i=.none:=λi=>by
  have:=JV h m i;split at this
  .rename_i hi;exact .inl ⟨hi.1,hi.2,hs i hi.1 hi.2⟩
  exact .inr this
 have B:=CC k;refine⟨h.page ⟨r.1,hc⟩ (λi=>?_) (λy e=>by cases e) (λq _ e=>.inl ⟨c,rfl⟩) (λE e=>by cases e) (λg e=>by rw[m]at e;cases e) (λd j i n e=>?_),λx t=>Same.page ?_ ?_ ?_,λ_=>rfl⟩
 .rcases f i with⟨h1,h2,h3⟩|h1
  .exact .inr ⟨h3,h1,by omega⟩
  exact .inl h1
 .exfalso;obtain⟨⟨C,D⟩,l⟩:=h.mv d j p i n e;rcases f i with⟨_,_,h3⟩|h1
  .rw[h3]at l;injection l with l;subst l;exact z j i n e
  rw[h1]at l;cases l
 .rw[m];simp;exact λe=>t e.symm
 .intro y _;rw[m];simp
 intro i n e;rcases f i with⟨_,_,h3⟩|h1
 .rw[h3]at e;injection e with e;exact absurd e.symm t
 rw[h1]at e;cases e
theorem znl(h:GI s σ){k b:Int}(l:xA σ c (o.add (.ways p (mA k) k)))(r:σ.pg p=.super k b)(B:∀i f,¬o.w p i f)(z:∀j i f,σ.mg c j≠.entry p i f):xA (σ.page p (.held c)) c (o.add (.page p)):=by
 have C:¬o.h p:=λe=>by have:=(l.h p).2 (.inl e);rw[r]at this;cases this
 have m:∀q,σ.pg q≠.body p:=λq e=>by rcases h.bd q p e with⟨_,e⟩|⟨_,e,_⟩<;>rw[r]at e<;>cases e
 refine l.page (λq n=>?_) ?_ (λq y n t=>?_) (λy t=>?_) (λq n=>?_) ?_ (λq i k n=>?_) (λi f=>?_) (λi f j D=>z _ _ _)
 .simp[Own.add,Own.page,Own.ways,n]
 .simp[Own.add,Own.page]
 .simp[Own.add,Own.page,Own.ways]
 .have:=l.b p y;simp only[Own.add,Own.ways,or_false]at this;simp only[Own.add,Own.page,or_false];rw[<-this,r];simp
 .have:=l.b q p;simp only[Own.add,Own.ways,or_false]at this;simp only[Own.add,Own.page,or_false];rw[<-this];exact⟨λe=>absurd e.1 (m q),λe=>absurd e.1 (m q)⟩
 .have:=l.b p p;simp only[Own.add,Own.ways,or_false]at this;simp only[Own.add,Own.page,or_false];rw[<-this,r];simp
 .simp[Own.add,Own.page,Own.ways,n]
 simp only[Own.add,Own.page,or_false];constructor
 .rintro(e|⟨j,e⟩)
  .exact absurd e (B i f)
  exact absurd e (z _ _ _)
 rintro⟨⟨_,e⟩,_⟩;cases e
theorem dP(h:GI s σ){i k b:Int}(m:σ.pg p=.super k b)(hs:σ.sl p i=.opened k\/σ.sl p i=.taken k)(hc:0<=c/\c<s.c):Kept s c σ (σ.slot p i (.way c)):=by
 have f:=(gK h hs).2;refine⟨h.slot hc (by rw[m];simp only[ND];rw[jP f];exact .inr (.inr ⟨c,rfl⟩)) (λd j n e=>?_),λx q=>Same.slot (by rw[m];simp) (λn r e=>?_),λ_=>rfl⟩
 .have:=(h.mv d j p i n e).2;rcases hs with e|e<;>rw[e]at this<;>cases this
 constructor
 .intro e;injection e with e;exact absurd e.symm q
 intro e;rcases hs with l|l<;>rw[l]at e<;>cases e
theorem eP(h:GI s σ){i k b:Int}(n:xA σ c o)(r:σ.pg p=.super k b)(hs:σ.sl p i=.opened k\/σ.sl p i=.taken k):xA (σ.slot p i (.way c)) c (o.add (.way p i k)):=by
 have l:∀j f,σ.mg c j≠.entry p i f:=λj f e=>by have:=(h.mv c j p i f e).2;rcases hs with e|e<;>rw[e]at this<;>cases this
 have m:∀f,¬o.w p i f:=λf e=>by have:=((n.w p i f).2 (.inl e)).2;rcases hs with e|e<;>rw[e]at this<;>cases this
 refine n.slot (λ_=>?_) (λ_ _=>?_) (λq j f t=>?_) (λf=>?_) (λf j z=>l _ _)
 .simp[Own.add,Own.way]
 .simp[Own.add,Own.way]
 .simp only[Own.add,Own.way];exact⟨λe=>e.elim id λe=>absurd ⟨e.1,e.2.1⟩ t,.inl⟩
 simp only[Own.add,Own.way,m,false_or,true_and,and_true];rw[r];constructor
 .rintro(rfl|⟨j,e⟩)
  .exact⟨b,rfl⟩
  exact absurd e (l _ _)
 rintro⟨y,e⟩;injection e with e _;exact .inl e.symm
theorem II(h:GI s σ){i k b:Int}{u:SW}(l:σ.pg p=.super k b)(hs:σ.sl p i=.way c)(hu:u=.opened k\/u=.taken k)(q:∀j f,σ.mg c j≠.entry p i f):Kept s c σ (σ.slot p i u):=by
 have m:=CH h l;have r:=oM h l hs;refine⟨h.slot (by rcases hu with rfl|rfl<;>exact m.2.1) (by rw[l];simp only[ND];rw[jP r];exact hu.elim .inl λe=>.inr (.inl e)) (λd j f e=>?_),λx t=>Same.slot (by rw[l];simp) (λf y e=>?_),λ_=>rfl⟩
 .have:=(h.mv d j p i f e).2;rw[hs]at this;injection this with n;subst n;exact absurd e (q j f)
 rw[hs];constructor
 .intro e;rcases hu with rfl|rfl<;>cases e
 intro e;injection e with e;exact absurd e.symm t
theorem PJ{i k b:Int}{u:SW}(n:xA σ c (o.add (.way p i k)))(r:∀f,¬o.w p i f)(t:σ.pg p=.super k b)(hu:u=.opened k\/u=.taken k):xA (σ.slot p i u) c o:=by
 have l:∀j f,σ.mg c j≠.entry p i f:=λj f e=>by have h1:=(n.w p i f).2 (.inr ⟨j,e⟩);obtain⟨⟨z,m⟩,_⟩:=h1;rw[t]at m;injection m with m _;subst m;exact n.d p i k j (.inr ⟨rfl,rfl,rfl⟩) e
 refine n.slot (λ_=>?_) (λ_ _=>?_) (λq j f y=>?_) (λf=>?_) (λf j B=>l _ _)
 .simp[Own.add,Own.way]
 .simp[Own.add,Own.way]
 .simp only[Own.add,Own.way];exact⟨.inl,λe=>e.elim id λe=>absurd ⟨e.1,e.2.1⟩ y⟩
 constructor
 .rintro(e|⟨j,e⟩)
  .exact absurd e (r f)
  exact absurd e (l _ _)
 rintro⟨_,e⟩;rcases hu with rfl|rfl<;>cases e
theorem lI{i k b:Int}(m:xA σ c (o.add (.way p i k)))(n:σ.pg p=.super k b):∀j l,σ.mg c j≠.entry p i l:=λj l e=>by
 have h1:=(m.w p i l).2 (.inr ⟨j,e⟩)
 obtain⟨⟨q,f⟩,_⟩:=h1
 rw[n]at f
 injection f with f _
 subst f
 exact m.d p i k j (.inr ⟨rfl,rfl,rfl⟩) e
theorem zqp(h:GI s σ){j i k b:Int}(r:σ.pg p=.super k b)(hs:σ.sl p i=.way c)(B:∀j t,σ.mg c j≠.entry p i t)(z:0<=j/\j<s.m):Kept s c σ (σ.mag c j (.entry p i k)):=by
 have f:=CH h r;have C:=oM h r hs;have hc:0<=c/\c<s.c:=by have:=h.sf p i;rw[hs]at this;exact this
 refine⟨h.mag ⟨f.1,f.2.1,C⟩ (λ_=>⟨hc,z⟩) (λF i' t e=>?_) (λF y t E j' e n=>?_),λx D=>Same.mag D,λ_=>rfl⟩
 .injection e with l n q;subst l n q;exact⟨⟨b,r⟩,hs⟩
 injection e with l q G;subst l q;exact absurd n (B _ _)
theorem zn8{j i k b:Int}(f:xA σ c (o.add (.way p i k)))(B:∀l,¬o.w p i l)(D:σ.pg p=.super k b)(z:σ.mg c j=.none):xA (σ.mag c j (.entry p i k)) c o:=by
 have C:=lI f D;refine⟨λq=>(f.h q).trans (by simp[Own.add,Own.way]),λq g=>(f.b q g).trans (by simp[Own.add,Own.way]),λq y l=>(f.w q y l).trans ?_,λq y l j' t=>?_⟩
 .simp only[Own.add,Own.way];constructor
  .rintro((e|⟨rfl,rfl,rfl⟩)|⟨j',e⟩)
   .exact .inl e
   .exact .inr ⟨j,VF _ _ _ _⟩
   refine .inr ⟨j',?_⟩;rw[JE _ _ (λh=>by rw[h.2,z]at e;cases e)];exact e
  rintro(e|⟨j',e⟩)
  .exact .inl (.inl e)
  by_cases h:j'=j
  .subst h;rw[VF]at e;injection e with m n r;exact .inl (.inr ⟨m.symm,n.symm,r.symm⟩)
  rw[JE _ _ (λe=>h e.2)]at e;exact .inr ⟨j',e⟩
 by_cases h:j'=j
 .subst h;rw[VF];intro e;injection e with m n r;subst m n r;exact B _ t
 rw[JE _ _ (λe=>h e.2)];exact f.d q y l j' (.inl t)
theorem xU(h:GI s σ){j:Int}:Kept s c σ (σ.mag c j .none):=
 ⟨h.mag trivial (λe=>absurd rfl e) (λl i' f e=>by cases e) (λl y f i j' e m=>by cases e),λx b=>Same.mag b,λ_=>rfl⟩
theorem znd(h:GI s σ){j i k:Int}(l:xA σ c o)(n:σ.mg c j=.entry p i k):xA (σ.mag c j .none) c (o.add (.way p i k)):=by
 refine⟨λq=>(l.h q).trans (by simp[Own.add,Own.way]),λq g=>(l.b q g).trans (by simp[Own.add,Own.way]),λq y f=>(l.w q y f).trans ?_,λq y f j' r=>?_⟩
 .simp only[Own.add,Own.way];constructor
  .rintro(e|⟨j',e⟩)
   .exact .inl (.inl e)
   by_cases h:j'=j
   .subst h;rw[n]at e;injection e with t z B;exact .inl (.inr ⟨t.symm,z.symm,B.symm⟩)
   exact .inr ⟨j',by rw[JE _ _ (λe=>h e.2)];exact e⟩
  rintro((e|⟨rfl,rfl,rfl⟩)|⟨j',e⟩)
  .exact .inl e
  .exact .inr ⟨j,n⟩
  by_cases h:j'=j
  .subst h;rw[VF]at e;cases e
  rw[JE _ _ (λe=>h e.2)]at e;exact .inr ⟨j',e⟩
 by_cases m:j'=j
 .subst m;rw[VF];intro e;cases e
 rw[JE _ _ (λe=>m e.2)];rcases r with r|⟨rfl,rfl,rfl⟩
 .exact l.d q y f j' r
 intro e;exact m (h.mi c j' j q y f f e n)
end

end Go.Proofs.YtkilokkopbajkaaGreat
