/- Lemmas for the claim. -/
import Derived.Test.YtkilokkopbajkaaGreatBw7

set_option linter.all false
namespace Go.Proofs.YtkilokkopbajkaaGreat

section

variable {s:Sh} {σ:Ab} {c x p:Int} {o:Own} {v:PW}

theorem JS(σ:Ab)(p:Int)(v:PW)(q:Int):(σ.page p v).pg q=if q=p then v else σ.pg q:=rfl
theorem AC(σ:Ab)(p:Int)(v:PW):(σ.page p v).pg p=v:=DI _ _ _
theorem IC(σ:Ab){p q:Int}(v:PW)(h:q≠p):(σ.page p v).pg q=σ.pg q:=GH _ h _
theorem dF(σ:Ab)(p i:Int)(v:SW):(σ.slot p i v).sl p i=v:=XL _ _ _ _
theorem OD(σ:Ab){p i q j:Int}(v:SW)(h:¬ (q=p/\j=i)):(σ.slot p i v).sl q j=σ.sl q j:=SJ _ h _
theorem JF(σ:Ab)(c i:Int)(v:MW):(σ.mag c i v).mg c i=v:=XL _ _ _ _
theorem FE(σ:Ab){c i d j:Int}(v:MW)(h:¬ (d=c/\j=i)):(σ.mag c i v).mg d j=σ.mg d j:=SJ _ h _
theorem DE(σ:Ab)(c:Int)(v:TW):(σ.stat c v).st c=v:=DI _ _ _
theorem bB(σ:Ab){c d:Int}(v:TW)(h:d≠c):(σ.stat c v).st d=σ.st d:=GH _ h _
theorem kQ(h:GI s σ){q g:Int}(b:σ.pg q= .body g):g<q/\q-8<g/\0<=g/\(0<=q/\q<s.p):=by
 have:=h.pf q;rw[b]at this;simp only[PW.fit]at this;omega
theorem wI(h:GI s σ)(b:σ.pg p= .held c):(0<=p/\p<s.p)/\0<=c/\c<s.c:=by
 have:=h.pf p;rw[b]at this;exact this
theorem GJ(h:GI s σ){k b:Int}(f:σ.pg p= .super k b):(0<=p/\p<s.p)/\(0<=k/\k<=3)/\0<=b/\b<s.c:=by
 have:=h.pf p;rw[f]at this;exact this
theorem QH(h:GI s σ){n:Int}(b:σ.pg p= .large n):(0<=p/\p<s.p)/\1<=n/\n<=8/\n<=s.p-p:=by
 have:=h.pf p;rw[b]at this;exact this
theorem GI.page(h:GI s σ)(F:v.fit s p)(E:∀ i,wE v i (σ.sl p i))(y:∀ g,v= .body g->(∃ o,σ.pg g= .held o)\/∃ n,σ.pg g= .large n/\p<g+n)(hb:∀ q,q≠p->σ.pg q= .body p->(∃ o,v= .held o)\/∃ n,v= .large n/\q<p+n)(C:∀ n,v= .large n->∀ j,1<=j->j<n->σ.pg (p+j)= .body p)(B:∀ g,σ.pg p= .body g->v= .body g\/∀ n,σ.pg g≠ .large n)(D:∀ c j i k,σ.mg c j= .entry p i k->∃ b,v= .super k b):GI s (σ.page p v):=by
 refine⟨fun q=>?_,h.sf,h.mf,h.tf,h.mr,h.tr,fun q i=>?_,fun q g l=>?_,fun q n l j h1 h2=>?_,fun d j q i k z=>?_,h.mi⟩
 ·rw[JS];split
  ·rename_i e;subst e;exact F
  exact h.pf q
 ·rw[JS];split
  ·rename_i e;subst e;exact E i
  exact h.sk q i
 ·by_cases f:q=p
  ·subst f;rw[AC]at l;have m:g≠q:=fun e=>by subst l;simp only[PW.fit]at F;omega
   rw[IC _ _ m];exact y g l
  rw[IC _ _ f]at l;by_cases m:g=p
  ·subst m;rw[AC];exact hb q f l
  rw[IC _ _ m];exact h.bd q g l
 ·by_cases f:q=p
  ·subst f;rw[AC]at l;rw[IC _ _ (by omega)];exact C n l j h1 h2
  rw[IC _ _ f]at l;have r:=h.lg q n l j h1 h2;by_cases t:q+j=p
  ·rw[t]at r ⊢;rw[AC];rcases B q r with e|e
   ·exact e
   exact absurd l (e n)
  rw[IC _ _ t];exact r
 refine⟨?_,(h.mv d j q i k z).2⟩;by_cases f:q=p
 ·subst f;rw[AC];exact D d j i k z
 rw[IC _ _ f];exact(h.mv d j q i k z).1
theorem GI.slot(h:GI s σ){i:Int}{u:SW}(f:u.fit s)(l:wE (σ.pg p) i u)(m:∀ c j k,σ.mg c j= .entry p i k->u= .way c):GI s (σ.slot p i u):=by
 refine⟨h.pf,fun q j=>?_,h.mf,h.tf,h.mr,h.tr,fun q j=>?_,h.bd,h.lg,fun d j q y k b=>?_,h.mi⟩
 ·by_cases e:q=p/\j=i
  ·obtain⟨rfl,rfl⟩:=e;rw[dF];exact f
  rw[OD _ _ e];exact h.sf q j
 ·by_cases e:q=p/\j=i
  ·obtain⟨rfl,rfl⟩:=e;rw[dF];exact l
  rw[OD _ _ e];exact h.sk q j
 refine⟨(h.mv d j q y k b).1,?_⟩;by_cases e:q=p/\y=i
 ·obtain⟨rfl,rfl⟩:=e;rw[dF];exact m d j k b
 rw[OD _ _ e];exact(h.mv d j q y k b).2
theorem GI.mag(h:GI s σ){c i:Int}{u:MW}(z:u.fit s)(B:u≠ .none->(0<=c/\c<s.c)/\0<=i/\i<s.m)(C:∀ p j k,u= .entry p j k->(∃ b,σ.pg p= .super k b)/\σ.sl p j= .way c)(hi:∀ p y k r j,u= .entry p y k->σ.mg c j= .entry p y r->j=i):GI s (σ.mag c i u):=by
 refine⟨h.pf,h.sf,fun d j=>?_,h.tf,fun d j t=>?_,h.tr,h.sk,h.bd,h.lg,fun d j q y k l=>?_,fun d j j' q y k r l f=>?_⟩
 ·by_cases e:d=c/\j=i
  ·obtain⟨rfl,rfl⟩:=e;rw[JF];exact z
  rw[FE _ _ e];exact h.mf d j
 ·by_cases e:d=c/\j=i
  ·obtain⟨rfl,rfl⟩:=e;rw[JF]at t;exact B t
  rw[FE _ _ e]at t;exact h.mr d j t
 ·by_cases e:d=c/\j=i
  ·obtain⟨rfl,rfl⟩:=e;rw[JF]at l;exact C q y k l
  rw[FE _ _ e]at l;exact h.mv d j q y k l
 by_cases e:d=c/\j=i
 ·obtain⟨rfl,rfl⟩:=e;rw[JF]at l;by_cases n:j'=j
  ·exact n.symm
  rw[FE _ _ (fun h=>n h.2)]at f;exact(hi q y k r j' l f).symm
 rw[FE _ _ e]at l;by_cases n:d=c/\j'=i
 ·obtain⟨rfl,rfl⟩:=n;rw[JF]at f;exact hi q y r k j f l
 rw[FE _ _ n]at f;exact h.mi d j j' q y k r l f
theorem GI.stat(h:GI s σ){u:TW}(b:u.fit s)(f:0<=c/\c<s.c):GI s (σ.stat c u):=by
 refine⟨h.pf,h.sf,h.mf,fun d=>?_,h.mr,fun d hd=>?_,h.sk,h.bd,h.lg,h.mv,h.mi⟩
 ·by_cases e:d=c
  ·subst e;rw[DE];exact b
  rw[bB _ _ e];exact h.tf d
 by_cases e:d=c
 ·subst e;exact f
 rw[bB _ _ e]at hd;exact h.tr d hd
theorem Same.stat(σ:Ab)(u:TW):Same x σ (σ.stat c u):=⟨fun _=>.rfl,fun _ _ _=>rfl,fun _ _ _=>.rfl,fun _ _ _=>.rfl,fun _=>rfl⟩
theorem Same.page(h1:v= .held x↔σ.pg p= .held x)(h2:∀ g,σ.pg g= .held x->(v= .body g↔σ.pg p= .body g))(h3:∀ i k,σ.sl p i= .way x->((∃ b,v= .super k b)↔∃ b,σ.pg p= .super k b)):Same x σ (σ.page p v):=by
 refine⟨fun q=>?_,fun _ _ _=>rfl,fun q g l=>?_,fun q i k=>?_,fun _=>rfl⟩
 ·by_cases e:q=p
  ·subst e;rw[AC];exact h1
  rw[IC _ _ e]
 ·by_cases e:q=p
  ·subst e;rw[AC];exact h2 g l
  rw[IC _ _ e]
 by_cases e:q=p
 ·subst e;rw[AC];constructor
  ·rintro⟨j,f⟩;exact⟨(h3 i k f).1 j,f⟩
  rintro⟨j,f⟩;exact⟨(h3 i k f).2 j,f⟩
 rw[IC _ _ e];exact .rfl
theorem Same.slot{i:Int}{u:SW}(h1:σ.pg p≠ .held x)(h2:∀ k b,σ.pg p= .super k b->(u= .way x↔σ.sl p i= .way x)):Same x σ (σ.slot p i u):=by
 refine⟨fun _=>.rfl,fun q j m=>?_,fun _ _ _=>.rfl,fun q j k=>?_,fun _=>rfl⟩
 ·by_cases e:q=p/\j=i
  ·exact absurd (e.1 ▸ m) h1
  rw[OD _ _ e]
 by_cases e:q=p/\j=i
 ·obtain⟨rfl,rfl⟩:=e;rw[dF];constructor
  ·rintro⟨⟨b,f⟩,l⟩;exact⟨⟨b,f⟩,(h2 k b f).1 l⟩
  rintro⟨⟨b,f⟩,l⟩;exact⟨⟨b,f⟩,(h2 k b f).2 l⟩
 rw[OD _ _ e];exact .rfl
theorem Same.mag{i:Int}{u:MW}(h:x≠c):Same x σ (σ.mag c i u):=
 ⟨fun _=>.rfl,fun _ _ _=>rfl,fun _ _ _=>.rfl,fun _ _ _=>.rfl,fun j=>FE _ _ (fun e=>h e.1)⟩
theorem uA.page{f:Own}(h:uA σ c o)(h1:∀ q,q≠p->(f.h q↔o.h q))(n:f.h p↔v= .held c)(h2:∀ q g,q≠p->g≠p->(f.b q g↔o.b q g)) (r:∀ g,g≠p->(f.b p g↔v= .body g/\o.h g)) (m:∀ q,q≠p->(f.b q p↔σ.pg q= .body p/\v= .held c)) (t:¬ f.b p p) (h3:∀ q i k,q≠p->(f.w q i k↔o.w q i k)) (y:∀ i k,(f.w p i k\/∃ j,σ.mg c j= .entry p i k)↔((∃ b,v= .super k b)/\σ.sl p i= .way c))(h4:∀ i k j,f.w p i k->σ.mg c j≠ .entry p i k):uA (σ.page p v) c f:=by
 refine⟨fun q=>?_,fun q g=>?_,fun q i k=>?_,fun q i k j z=>?_⟩
 ·by_cases e:q=p
  ·subst e;rw[AC];exact n.symm
  rw[IC _ _ e,h1 q e];exact h.h q
 ·by_cases e:q=p
  ·subst e;rw[AC];by_cases l:g=q
   ·subst l;rw[AC];constructor
    ·rintro⟨a,b⟩;rw[a]at b;cases b
    intro a;exact absurd a t
   rw[IC _ _ l,r g l,h.h g]
  rw[IC _ _ e];by_cases l:g=p
  ·subst l;rw[AC];exact(m q e).symm
  rw[IC _ _ l,h2 q g e l];exact h.b q g
 ·by_cases e:q=p
  ·subst e;rw[AC];exact(y i k).symm
  rw[IC _ _ e];exact(h.w q i k).trans (or_congr (h3 q i k e).symm .rfl)
 by_cases e:q=p
 ·subst e;exact h4 i k j z
 exact h.d q i k j ((h3 q i k e).1 z)
theorem uA.slot{f:Own}{i:Int}{u:SW}(h:uA σ c o)(h1:∀ q,f.h q↔o.h q)(h2:∀ q g,f.b q g↔o.b q g)(h3:∀ q j k,¬ (q=p/\j=i)->(f.w q j k↔o.w q j k))(h4:∀ k,(f.w p i k\/∃ j,σ.mg c j= .entry p i k)↔((∃ b,σ.pg p= .super k b)/\u= .way c)) (m:∀ k j,f.w p i k->σ.mg c j≠ .entry p i k):uA (σ.slot p i u) c f:=by
 refine⟨fun q=>(h.h q).trans (h1 q).symm,fun q g=>(h.b q g).trans (h2 q g).symm,fun q j k=>?_,fun q j k y l=>?_⟩
 ·by_cases e:q=p/\j=i
  ·obtain⟨rfl,rfl⟩:=e;rw[dF];exact(h4 k).symm
  rw[OD _ _ e];exact(h.w q j k).trans (or_congr (h3 q j k e).symm .rfl)
 by_cases e:q=p/\j=i
 ·obtain⟨rfl,rfl⟩:=e;exact m k y l
 exact h.d q j k y ((h3 q j k e).1 l)
end

section

variable {s:Sh} {σ:Ab} {c p:Int} {o:Own}

def Kept (s:Sh) (c:Int) (σ σ':Ab):Prop:=GI s σ'/\(∀ x,x≠c->Same x σ σ')/\∀ x,σ'.st x=σ.st x
theorem Kept.refl(h:GI s σ):Kept s c σ σ:=⟨h,fun _ _=>Same.refl _ _,fun _=>rfl⟩
theorem HJ(h:GI s σ)(b:σ.pg p= .empty\/(∃ n,σ.pg p= .large n)\/∃ g,σ.pg p= .body g)(i:Int):σ.sl p i= .none:=by
 have:=h.sk p i;rcases b with e|⟨n,e⟩|⟨g,e⟩<;>rw[e]at this<;>exact this
theorem qI(h:GI s σ)(b:σ.pg p= .held c)(i:Int):σ.sl p i= .none\/(σ.sl p i= .way c/\0<=i/\i<16):=by
 have:=h.sk p i;rw[b]at this;exact this
theorem qV(h:GI s σ){k b:Int}(f:σ.pg p= .super k b)(i:Int):if 0<=i/\i<mA k then σ.sl p i= .opened k\/σ.sl p i= .taken k\/∃ c,σ.sl p i= .way c else σ.sl p i= .none:=by
 have:=h.sk p i;rw[f]at this;exact this
theorem CJ(h:GI s σ){i k:Int}(hs:σ.sl p i= .opened k\/σ.sl p i= .taken k):(∃ b,σ.pg p= .super k b)/\0<=i/\i<mA k:=by
 have:=h.sk p i;cases hp:σ.pg p with
 |super f b=>
  rw[hp]at this;simp only[wE]at this;split at this
  ·rename_i hi;have e:f=k:=by rcases hs with e|e<;>rw[e]at this<;>exact(by simpa using this:k=f).symm
   subst e;exact⟨⟨b,rfl⟩,hi⟩
  rcases hs with e|e<;>rw[e]at this<;>cases this
 |held o=>rw[hp]at this;simp only[wE]at this;rcases hs with e|e<;>rw[e]at this<;>simp at this
 |empty=>rw[hp]at this;simp only[wE]at this;rcases hs with e|e<;>rw[e]at this<;>cases this
 |large n=>rw[hp]at this;simp only[wE]at this;rcases hs with e|e<;>rw[e]at this<;>cases this
 |body g=>rw[hp]at this;simp only[wE]at this;rcases hs with e|e<;>rw[e]at this<;>cases this
theorem EL(h:GI s σ){i k b x:Int}(f:σ.pg p= .super k b)(hs:σ.sl p i= .way x):0<=i/\i<mA k:=by
 have:=qV h f i;split at this
 ·assumption
 rw[hs]at this;cases this
theorem mG(h:GI s σ){j i k d:Int}(f:σ.mg d j= .entry p i k):∃ b,σ.pg p= .super k b:=(h.mv d j p i k f).1
theorem aU(h:GI s σ)(f:σ.pg p= .empty)(l:0<=p/\p<s.p)(hc:0<=c/\c<s.c):Kept s c σ (σ.page p (.held c)):=by
 refine⟨h.page ⟨l,hc⟩ (fun i=>.inl (HJ h (.inl f) i)) (fun g e=>by cases e) (fun q _ _=>.inl ⟨c,rfl⟩) (fun n e=>by cases e) (fun g e=>by rw[f]at e;cases e) (fun d j i k e=>?_),fun x m=>Same.page ?_ ?_ ?_,fun _=>rfl⟩
 ·obtain⟨b,e⟩:=mG h e;rw[f]at e;cases e
 ·rw[f];simp;exact fun e=>m e.symm
 ·intro g _;rw[f];simp
 intro i k _;rw[f];simp
theorem ZT(h:GI s σ)(f:uA σ c o)(m:σ.pg p= .empty):uA (σ.page p (.held c)) c (o.add (.page p)):=by
 have y:¬ o.h p:=fun e=>by have:=(f.h p).2 e;rw[m]at this;cases this
 have l:∀ q,σ.pg q≠ .body p:=fun q e=>by rcases h.bd q p e with⟨_,e⟩|⟨_,e,_⟩<;>rw[m]at e<;>cases e
 refine f.page (fun q n=>?_) ?_ (fun q g n t=>?_) (fun g t=>?_) (fun q n=>?_) ?_ (fun q i k n=>?_) (fun i k=>?_) (fun i k j r=>?_)
 ·simp[Own.add,Own.page,n]
 ·simp[Own.add,Own.page]
 ·simp[Own.add,Own.page]
 ·simp only[Own.add,Own.page,or_false];rw[<-f.b p g,m];simp
 ·simp only[Own.add,Own.page,or_false];rw[<-f.b q p];exact⟨fun e=>absurd e.1 (l q),fun e=>absurd e.1 (l q)⟩
 ·simp only[Own.add,Own.page,or_false];rw[<-f.b p p,m];simp
 ·simp[Own.add,Own.page]
 ·simp only[Own.add,Own.page,or_false];rw[<-f.w p i k,m];simp
 simp only[Own.add,Own.page,or_false]at r;exact f.d p i k j r
theorem BO(h:GI s σ)(f:σ.pg p= .held c)(hs:∀ i,σ.sl p i= .none)(hb:∀ q,σ.pg q≠ .body p):Kept s c σ (σ.page p .empty):=by
 refine⟨h.page trivial hs (fun g e=>by cases e) (fun q _ e=>absurd e (hb q)) (fun n e=>by cases e) (fun g e=>by rw[f]at e;cases e) (fun d j i k e=>?_),fun x l=>Same.page ?_ ?_ ?_,fun _=>rfl⟩
 ·obtain⟨b,e⟩:=mG h e;rw[f]at e;cases e
 ·rw[f];simp;exact fun e=>l e.symm
 ·intro g _;rw[f];simp
 intro i k _;rw[f];simp
theorem bU(f:uA σ c (o.add (.page p)))(r:¬ o.h p)(hb:∀ q,σ.pg q≠ .body p):uA (σ.page p .empty) c o:=by
 have m:σ.pg p= .held c:=(f.h p).2 (.inr rfl);refine f.page (fun q l=>?_) ?_ (fun q g l n=>?_) (fun g n=>?_) (fun q l=>?_) ?_ (fun q i k l=>?_) (fun i k=>?_) (fun i k j t=>?_)
 ·simp[Own.add,Own.page,l]
 ·simp[r]
 ·simp[Own.add,Own.page]
 ·have:=f.b p g;simp only[Own.add,Own.page,or_false]at this;rw[<-this,m];simp
 ·have:=f.b q p;simp only[Own.add,Own.page,or_false]at this;rw[<-this];exact⟨fun e=>absurd e.1 (hb q),fun e=>absurd e.1 (hb q)⟩
 ·have:=f.b p p;simp only[Own.add,Own.page,or_false]at this;rw[<-this,m];simp
 ·simp[Own.add,Own.page]
 ·have:=f.w p i k;simp only[Own.add,Own.page,or_false]at this;rw[<-this,m];simp
 exact f.d p i k j (.inl t)
theorem zqm(h:GI s σ){g:Int}(f:σ.pg p= .held c)(hs:∀ i,σ.sl p i= .none)(hb:∀ q,σ.pg q≠ .body p)(m:σ.pg g= .held c)(B:g<p/\p-8<g):Kept s c σ (σ.page p (.body g)):=by
 have r:=wI h f;have z:=wI h m;refine⟨h.page ⟨r.1,by omega⟩ hs (fun y e=>by injection e with e;subst e;exact .inl ⟨c,m⟩) (fun q _ e=>absurd e (hb q)) (fun n e=>by cases e) (fun g e=>by rw[f]at e;cases e) (fun d j i k e=>?_),fun x t=>Same.page ?_ ?_ ?_,fun _=>rfl⟩
 ·obtain⟨b,e⟩:=mG h e;rw[f]at e;cases e
 ·rw[f];simp;exact fun e=>t e.symm
 ·intro y l;rw[f];simp only[reduceCtorEq,iff_false,PW.body.injEq];intro e;subst e;rw[m]at l;injection l with e;exact t e.symm
 intro i k _;rw[f];simp
theorem zn5{g:Int}(f:uA σ c (o.add (.page p)))(B:¬ o.h p)(hb:∀ q,σ.pg q≠ .body p)(z:o.h g)(l:g≠p):uA (σ.page p (.body g)) c (o.add (.bodies g p (p+1))):=by
 have r:σ.pg p= .held c:=(f.h p).2 (.inr rfl);refine f.page (fun q m=>?_) ?_ (fun q t m n=>?_) (fun t n=>?_) (fun q m=>?_) ?_ (fun q i k m=>?_) (fun i k=>?_) (fun i k j y=>?_)
 ·simp[Own.add,Own.page,Own.bodies,m]
 ·simp[Own.add,Own.bodies,B]
 ·simp only[Own.add,Own.page,Own.bodies,or_false];refine⟨fun e=>?_,.inl⟩;rcases e with e|e
  ·exact e
  exact absurd (show q=p by omega) m
 ·have:=f.b p t;simp only[Own.add,Own.page,or_false]at this;simp only[Own.add,Own.bodies,Own.page,PW.body.injEq];rw[<-this,r];simp only[reduceCtorEq,false_and,false_or];constructor
  ·rintro⟨e,_⟩;subst e;exact⟨rfl,.inl z⟩
  rintro⟨e,_⟩;exact⟨e.symm,by omega,by omega⟩
 ·have:=f.b q p;simp only[Own.add,Own.page,or_false]at this;simp only[Own.add,Own.bodies];rw[<-this];constructor
  ·rintro(e|e)
   ·exact absurd e.1 (hb q)
   exact absurd e.1.symm l
  intro e;exact absurd e.1 (hb q)
 ·have:=f.b p p;simp only[Own.add,Own.page,or_false]at this;simp only[Own.add,Own.bodies];rw[<-this,r];simp only[reduceCtorEq,false_and,false_or];exact fun e=>l e.1.symm
 ·simp[Own.add,Own.page,Own.bodies]
 ·have:=f.w p i k;simp only[Own.add,Own.page,or_false]at this;simp only[Own.add,Own.bodies,or_false];rw[<-this,r];simp
 simp only[Own.add,Own.bodies,or_false]at y;exact f.d p i k j (.inl y)
theorem mU(h:GI s σ){g:Int}(f:σ.pg p= .body g)(t:σ.pg g= .held c):Kept s c σ (σ.page p .empty):=by
 have m:∀ q,σ.pg q≠ .body p:=fun q e=>by rcases h.bd q p e with⟨_,e⟩|⟨_,e,_⟩<;>rw[f]at e<;>cases e
 refine⟨h.page trivial (fun i=>HJ h (.inr (.inr ⟨g,f⟩)) i) (fun g e=>by cases e) (fun q _ e=>absurd e (m q)) (fun n e=>by cases e) (fun y e=>.inr fun n r=>?_) (fun d j i k e=>?_),fun x z=>Same.page ?_ ?_ ?_,fun _=>rfl⟩
 ·rw[f]at e;injection e with e;subst e;rw[t]at r;cases r
 ·obtain⟨b,e⟩:=mG h e;rw[f]at e;cases e
 ·rw[f];simp
 ·intro y l;rw[f];simp only[reduceCtorEq,false_iff,PW.body.injEq];intro e;subst e;rw[t]at l;injection l with e;exact z e.symm
 intro i k _;rw[f];simp
theorem zoe(h:GI s σ){g:Int}(f:uA σ c (o.add (.bodies g p (p+1))))(z:∀ g,¬ o.b p g):uA (σ.page p .empty) c o:=by
 have t:σ.pg p= .body g/\σ.pg g= .held c:=(f.b p g).2 (.inr ⟨rfl,Int.le_refl _,by omega⟩);have m:=t.1;have l:∀ q,σ.pg q≠ .body p:=fun q e=>by rcases h.bd q p e with⟨_,e⟩|⟨_,e,_⟩<;>rw[m]at e<;>cases e
 have B:g≠p:=fun e=>by have:=kQ h m;omega
 refine f.page (fun q n=>?_) ?_ (fun q y n r=>?_) (fun y r=>?_) (fun q n=>?_) ?_ (fun q i k n=>?_) (fun i k=>?_) (fun i k j C=>?_)
 ·simp[Own.add,Own.bodies]
 ·have:=f.h p;simp only[Own.add,Own.bodies,or_false]at this;rw[<-this,m];simp
 ·simp only[Own.add,Own.bodies];refine⟨.inl,fun e=>?_⟩;rcases e with e|e
  ·exact e
  exact absurd (show q=p by omega) n
 ·simp[z y]
 ·have:=f.b q p;simp only[Own.add,Own.bodies]at this;constructor
  ·intro e;exact absurd (this.2 (.inl e)).1 (l q)
  intro e;exact absurd e.1 (l q)
 ·exact z p
 ·simp[Own.add,Own.bodies]
 ·have:=f.w p i k;simp only[Own.add,Own.bodies,or_false]at this;rw[<-this,m];simp
 exact f.d p i k j (.inl C)
theorem zlp(h:GI s σ){n:Int}(f:σ.pg p= .held c)(hs:∀ i,σ.sl p i= .none)(t:1<=n/\n<=8/\n<=s.p-p)(hb:∀ j,1<=j->j<n->σ.pg (p+j)= .body p)(r:∀ q,σ.pg q= .body p->q<p+n):Kept s c σ (σ.page p (.large n)):=by
 have l:=wI h f;refine⟨h.page ⟨l.1,t⟩ hs (fun m e=>by cases e) (fun q _ e=>.inr ⟨n,rfl,r q e⟩) (fun z e=>by injection e with e;subst e;exact hb) (fun g e=>by rw[f]at e;cases e) (fun d j i k e=>?_),fun x y=>Same.page ?_ ?_ ?_,fun _=>rfl⟩
 ·obtain⟨b,e⟩:=mG h e;rw[f]at e;cases e
 ·rw[f];simp;exact fun e=>y e.symm
 ·intro m _;rw[f];simp
 intro i k _;rw[f];simp
theorem zkr{n:Int}(f:uA σ c ((o.add (.page p)).add (.bodies p (p+1) (p+n))))(y:¬ o.h p)(hb:∀ q,¬ o.b q p):uA (σ.page p (.large n)) c o:=by
 have t:σ.pg p= .held c:=(f.h p).2 (.inl (.inr rfl));refine f.page (fun q m=>?_) ?_ (fun q r m l=>?_) (fun r l=>?_) (fun q m=>?_) ?_ (fun q i k m=>?_) (fun i k=>?_) (fun i k j z=>?_)
 ·simp[Own.add,Own.page,Own.bodies,m]
 ·simp[y]
 ·simp[Own.add,Own.page,Own.bodies,l]
 ·have:=f.b p r;simp only[Own.add,Own.page,Own.bodies,or_false]at this;simp only[reduceCtorEq,false_and,iff_false];intro e;have:=this.2 (.inl e);rw[t]at this;cases this.1
 ·simp[hb q]
 ·exact hb p
 ·simp[Own.add,Own.page,Own.bodies]
 ·have:=f.w p i k;simp only[Own.add,Own.page,Own.bodies,or_false]at this;rw[<-this,t];simp
 exact f.d p i k j (.inl (.inl z))
theorem zmq(h:GI s σ){n:Int}(f:σ.pg p= .large n)(hc:0<=c/\c<s.c):Kept s c σ (σ.page p (.held c)):=by
 have l:=QH h f;refine⟨h.page ⟨l.1,hc⟩ (fun i=>.inl (HJ h (.inr (.inl ⟨n,f⟩)) i)) (fun m e=>by cases e) (fun q _ e=>.inl ⟨c,rfl⟩) (fun t e=>by cases e) (fun g e=>by rw[f]at e;cases e) (fun d j i k e=>?_),fun x r=>Same.page ?_ ?_ ?_,fun _=>rfl⟩
 ·obtain⟨b,e⟩:=mG h e;rw[f]at e;cases e
 ·rw[f];simp;exact fun e=>r e.symm
 ·intro m _;rw[f];simp
 intro i k _;rw[f];simp
theorem zlv(h:GI s σ){n:Int}(r:uA σ c o)(m:σ.pg p= .large n):uA (σ.page p (.held c)) c ((o.add (.page p)).add (.bodies p (p+1) (p+n))):=by
 have C:¬ o.h p:=fun e=>by have:=(r.h p).2 e;rw[m]at this;cases this
 have t:∀ q,¬ o.b q p:=fun q e=>by have:=((r.b q p).2 e).2;rw[m]at this;cases this
 refine r.page (fun q y=>?_) ?_ (fun q z y l=>?_) (fun z l=>?_) (fun q y=>?_) ?_ (fun q i k y=>?_) (fun i k=>?_) (fun i k j B=>?_)
 ·simp[Own.add,Own.page,Own.bodies,y]
 ·simp[Own.add,Own.page,Own.bodies]
 ·simp[Own.add,Own.page,Own.bodies,l]
 ·simp only[Own.add,Own.page,Own.bodies,or_false];have:=r.b p z;rw[m]at this;simp only[reduceCtorEq,false_and,false_iff]at this;simp[this,l]
 ·simp only[Own.add,Own.page,Own.bodies,or_false,true_and,and_true];constructor
  ·rintro(e|e)
   ·exact absurd e (t q)
   have:=h.lg p n m (q-p) (by omega) (by omega);rwa [show p+(q-p)=q by omega]at this
  intro e;have h1:=kQ h e;rcases h.bd q p e with⟨_,f⟩|⟨D,f,h2⟩
  ·rw[m]at f;cases f
  rw[m]at f;injection f with f;subst f;exact .inr ⟨by omega,h2⟩
 ·simp only[Own.add,Own.page,Own.bodies,or_false];rintro(e|e)
  ·exact t p e
  omega
 ·simp[Own.add,Own.page,Own.bodies]
 ·simp only[Own.add,Own.page,Own.bodies,or_false];rw[<-r.w p i k,m];simp
 simp only[Own.add,Own.page,Own.bodies,or_false]at B;exact r.d p i k j B
theorem DO(h:GI s σ){i:Int}{u:SW}(f:σ.pg p= .held c)(hu:u= .none\/(u= .way c/\0<=i/\i<16)):Kept s c σ (σ.slot p i u):=by
 have l:=wI h f;refine⟨h.slot ?_ (by rw[f];exact hu) (fun d j k e=>?_),fun x m=>Same.slot (by rw[f];simp;exact fun e=>m e.symm) (fun k b e=>by rw[f]at e;cases e),fun _=>rfl⟩
 ·rcases hu with rfl|⟨rfl,_⟩
  ·trivial
  exact l.2
 obtain⟨b,e⟩:=mG h e;rw[f]at e;cases e
theorem fU{i x:Int}{u:SW}(b:uA σ c o)(f:σ.pg p= .held x):uA (σ.slot p i u) c o:=by
 refine b.slot (fun _=>.rfl) (fun _ _=>.rfl) (fun _ _ _ _=>.rfl) (fun k=>?_) (fun k j l=>b.d p i k j l);rw[<-b.w p i k,f];simp
theorem zpg(h:GI s σ){k:Int}(l:σ.pg p= .held c)(r:0<=k/\k<=3)(hs:∀ i,σ.sl p i=if 0<=i/\i<mA k then .way c else .none)(hb:∀ q,σ.pg q≠ .body p):Kept s c σ (σ.page p (.super k c)):=by
 have f:=wI h l;refine⟨h.page ⟨f.1,r,f.2⟩ (fun i=>?_) (fun n e=>by cases e) (fun q _ e=>absurd e (hb q)) (fun y e=>by cases e) (fun g e=>by rw[l]at e;cases e) (fun d j i k e=>?_),fun x m=>Same.page ?_ ?_ ?_,fun _=>rfl⟩
 ·rw[hs i];simp only[wE];split
  ·exact .inr (.inr ⟨c,rfl⟩)
  rfl
 ·obtain⟨b,e⟩:=mG h e;rw[l]at e;cases e
 ·rw[l];simp;exact fun e=>m e.symm
 ·intro n _;rw[l];simp
 intro i t e;rw[hs i]at e;split at e
 ·injection e with e;exact absurd e.symm m
 cases e
theorem zn3(h:GI s σ){k b:Int}(l:uA σ c (o.add (.page p)))(D:¬ o.h p)(hs:∀ i,σ.sl p i=if 0<=i/\i<mA k then .way c else .none)(hb:∀ q,σ.pg q≠ .body p):uA (σ.page p (.super k b)) c (o.add (.ways p (mA k) k)):=by
 have t:σ.pg p= .held c:=(l.h p).2 (.inr rfl);have n:∀ d j i f,σ.mg d j≠ .entry p i f:=fun d j i f e=>by obtain⟨b,e⟩:=mG h e;rw[t]at e;cases e
 have z:∀ i f,¬ o.w p i f:=fun i f e=>by have:=(l.w p i f).2 (.inl (.inl e));rw[t]at this;obtain⟨⟨_,e⟩,_⟩:=this;cases e
 refine l.page (fun q r=>?_) ?_ (fun q C r y=>?_) (fun C y=>?_) (fun q r=>?_) ?_ (fun q i k r=>?_) (fun i f=>?_) (fun i k j F=>n _ _ _ _)
 ·simp[Own.add,Own.page,Own.ways,r]
 ·simp[Own.add,Own.ways,D]
 ·simp[Own.add,Own.page,Own.ways]
 ·have:=l.b p C;simp only[Own.add,Own.page,or_false]at this;simp only[Own.add,Own.ways,or_false];rw[<-this,t];simp
 ·have:=l.b q p;simp only[Own.add,Own.page,or_false]at this;simp only[Own.add,Own.ways,or_false];rw[<-this];exact⟨fun e=>absurd e.1 (hb q),fun e=>absurd e.1 (hb q)⟩
 ·have:=l.b p p;simp only[Own.add,Own.page,or_false]at this;simp only[Own.add,Own.ways,or_false];rw[<-this,t];simp
 ·simp[Own.add,Own.page,Own.ways,r]
 simp only[Own.add,Own.ways,z,false_or,true_and];rw[hs i];constructor
 ·rintro(⟨m,rfl⟩|⟨j,e⟩)
  ·exact⟨⟨b,rfl⟩,by rw[jP m]⟩
  exact absurd e (n _ _ _ _)
 rintro⟨⟨E,m⟩,B⟩;injection m with m _;split at B
 ·rename_i hi;exact .inl ⟨hi,m.symm⟩
 cases B
theorem zn2(h:GI s σ){k b:Int}(m:σ.pg p= .super k b)(hc:0<=c/\c<s.c)(hs:∀ i,0<=i->i<mA k->σ.sl p i= .way c)(z:∀ j i n,σ.mg c j≠ .entry p i n):Kept s c σ (σ.page p (.held c)):=by
 have r:=GJ h m;have f:∀ i,(0<=i/\i<mA k/\σ.sl p i= .way c)\/σ.sl p i= .none:=fun i=>by
  have:=qV h m i;split at this
  ·rename_i hi;exact .inl ⟨hi.1,hi.2,hs i hi.1 hi.2⟩
  exact .inr this
 have B:=CC k;refine⟨h.page ⟨r.1,hc⟩ (fun i=>?_) (fun y e=>by cases e) (fun q _ e=>.inl ⟨c,rfl⟩) (fun E e=>by cases e) (fun g e=>by rw[m]at e;cases e) (fun d j i n e=>?_),fun x t=>Same.page ?_ ?_ ?_,fun _=>rfl⟩
 ·rcases f i with⟨h1,h2,h3⟩|h1
  ·exact .inr ⟨h3,h1,by omega⟩
  exact .inl h1
 ·exfalso;obtain⟨⟨C,D⟩,l⟩:=h.mv d j p i n e;rcases f i with⟨_,_,h3⟩|h1
  ·rw[h3]at l;injection l with l;subst l;exact z j i n e
  rw[h1]at l;cases l
 ·rw[m];simp;exact fun e=>t e.symm
 ·intro y _;rw[m];simp
 intro i n e;rcases f i with⟨_,_,h3⟩|h1
 ·rw[h3]at e;injection e with e;exact absurd e.symm t
 rw[h1]at e;cases e
theorem znl(h:GI s σ){k b:Int}(l:uA σ c (o.add (.ways p (mA k) k)))(r:σ.pg p= .super k b)(B:∀ i f,¬ o.w p i f)(z:∀ j i f,σ.mg c j≠ .entry p i f):uA (σ.page p (.held c)) c (o.add (.page p)):=by
 have C:¬ o.h p:=fun e=>by have:=(l.h p).2 (.inl e);rw[r]at this;cases this
 have m:∀ q,σ.pg q≠ .body p:=fun q e=>by rcases h.bd q p e with⟨_,e⟩|⟨_,e,_⟩<;>rw[r]at e<;>cases e
 refine l.page (fun q n=>?_) ?_ (fun q y n t=>?_) (fun y t=>?_) (fun q n=>?_) ?_ (fun q i k n=>?_) (fun i f=>?_) (fun i f j D=>z _ _ _)
 ·simp[Own.add,Own.page,Own.ways,n]
 ·simp[Own.add,Own.page]
 ·simp[Own.add,Own.page,Own.ways]
 ·have:=l.b p y;simp only[Own.add,Own.ways,or_false]at this;simp only[Own.add,Own.page,or_false];rw[<-this,r];simp
 ·have:=l.b q p;simp only[Own.add,Own.ways,or_false]at this;simp only[Own.add,Own.page,or_false];rw[<-this];exact⟨fun e=>absurd e.1 (m q),fun e=>absurd e.1 (m q)⟩
 ·have:=l.b p p;simp only[Own.add,Own.ways,or_false]at this;simp only[Own.add,Own.page,or_false];rw[<-this,r];simp
 ·simp[Own.add,Own.page,Own.ways,n]
 simp only[Own.add,Own.page,or_false];constructor
 ·rintro(e|⟨j,e⟩)
  ·exact absurd e (B i f)
  exact absurd e (z _ _ _)
 rintro⟨⟨_,e⟩,_⟩;cases e
theorem yO(h:GI s σ){i k b:Int}(m:σ.pg p= .super k b)(hs:σ.sl p i= .opened k\/σ.sl p i= .taken k)(hc:0<=c/\c<s.c):Kept s c σ (σ.slot p i (.way c)):=by
 have f:=(CJ h hs).2;refine⟨h.slot hc (by rw[m];simp only[wE];rw[jP f];exact .inr (.inr ⟨c,rfl⟩)) (fun d j n e=>?_),fun x q=>Same.slot (by rw[m];simp) (fun n r e=>?_),fun _=>rfl⟩
 ·have:=(h.mv d j p i n e).2;rcases hs with e|e<;>rw[e]at this<;>cases this
 constructor
 ·intro e;injection e with e;exact absurd e.symm q
 intro e;rcases hs with l|l<;>rw[l]at e<;>cases e
theorem zO(h:GI s σ){i k b:Int}(n:uA σ c o)(r:σ.pg p= .super k b)(hs:σ.sl p i= .opened k\/σ.sl p i= .taken k):uA (σ.slot p i (.way c)) c (o.add (.way p i k)):=by
 have l:∀ j f,σ.mg c j≠ .entry p i f:=fun j f e=>by have:=(h.mv c j p i f e).2;rcases hs with e|e<;>rw[e]at this<;>cases this
 have m:∀ f,¬ o.w p i f:=fun f e=>by have:=((n.w p i f).2 (.inl e)).2;rcases hs with e|e<;>rw[e]at this<;>cases this
 refine n.slot (fun _=>?_) (fun _ _=>?_) (fun q j f t=>?_) (fun f=>?_) (fun f j z=>l _ _)
 ·simp[Own.add,Own.way]
 ·simp[Own.add,Own.way]
 ·simp only[Own.add,Own.way];exact⟨fun e=>e.elim id fun e=>absurd ⟨e.1,e.2.1⟩ t,.inl⟩
 simp only[Own.add,Own.way,m,false_or,true_and,and_true];rw[r];constructor
 ·rintro(rfl|⟨j,e⟩)
  ·exact⟨b,rfl⟩
  exact absurd e (l _ _)
 rintro⟨y,e⟩;injection e with e _;exact .inl e.symm
theorem mI(h:GI s σ){i k b:Int}{u:SW}(l:σ.pg p= .super k b)(hs:σ.sl p i= .way c)(hu:u= .opened k\/u= .taken k)(q:∀ j f,σ.mg c j≠ .entry p i f):Kept s c σ (σ.slot p i u):=by
 have m:=GJ h l;have r:=EL h l hs;refine⟨h.slot (by rcases hu with rfl|rfl<;>exact m.2.1) (by rw[l];simp only[wE];rw[jP r];exact hu.elim .inl fun e=>.inr (.inl e)) (fun d j f e=>?_),fun x t=>Same.slot (by rw[l];simp) (fun f y e=>?_),fun _=>rfl⟩
 ·have:=(h.mv d j p i f e).2;rw[hs]at this;injection this with n;subst n;exact absurd e (q j f)
 rw[hs];constructor
 ·intro e;rcases hu with rfl|rfl<;>cases e
 intro e;injection e with e;exact absurd e.symm t
theorem nJ{i k b:Int}{u:SW}(n:uA σ c (o.add (.way p i k)))(r:∀ f,¬ o.w p i f)(t:σ.pg p= .super k b)(hu:u= .opened k\/u= .taken k):uA (σ.slot p i u) c o:=by
 have l:∀ j f,σ.mg c j≠ .entry p i f:=fun j f e=>by have h1:=(n.w p i f).2 (.inr ⟨j,e⟩);obtain⟨⟨z,m⟩,_⟩:=h1;rw[t]at m;injection m with m _;subst m;exact n.d p i k j (.inr ⟨rfl,rfl,rfl⟩) e
 refine n.slot (fun _=>?_) (fun _ _=>?_) (fun q j f y=>?_) (fun f=>?_) (fun f j B=>l _ _)
 ·simp[Own.add,Own.way]
 ·simp[Own.add,Own.way]
 ·simp only[Own.add,Own.way];exact⟨.inl,fun e=>e.elim id fun e=>absurd ⟨e.1,e.2.1⟩ y⟩
 constructor
 ·rintro(e|⟨j,e⟩)
  ·exact absurd e (r f)
  exact absurd e (l _ _)
 rintro⟨_,e⟩;rcases hu with rfl|rfl<;>cases e
theorem WH{i k b:Int}(m:uA σ c (o.add (.way p i k)))(n:σ.pg p= .super k b):∀ j l,σ.mg c j≠ .entry p i l:=fun j l e=>by
 have h1:=(m.w p i l).2 (.inr ⟨j,e⟩)
 obtain⟨⟨q,f⟩,_⟩:=h1
 rw[n]at f
 injection f with f _
 subst f
 exact m.d p i k j (.inr ⟨rfl,rfl,rfl⟩) e
theorem zqp(h:GI s σ){j i k b:Int}(r:σ.pg p= .super k b)(hs:σ.sl p i= .way c)(B:∀ j t,σ.mg c j≠ .entry p i t)(z:0<=j/\j<s.m):Kept s c σ (σ.mag c j (.entry p i k)):=by
 have f:=GJ h r;have C:=EL h r hs;have hc:0<=c/\c<s.c:=by have:=h.sf p i;rw[hs]at this;exact this
 refine⟨h.mag ⟨f.1,f.2.1,C⟩ (fun _=>⟨hc,z⟩) (fun F i' t e=>?_) (fun F y t E j' e n=>?_),fun x D=>Same.mag D,fun _=>rfl⟩
 ·injection e with l n q;subst l n q;exact⟨⟨b,r⟩,hs⟩
 injection e with l q G;subst l q;exact absurd n (B _ _)
theorem zn8{j i k b:Int}(f:uA σ c (o.add (.way p i k)))(B:∀ l,¬ o.w p i l)(D:σ.pg p= .super k b)(z:σ.mg c j= .none):uA (σ.mag c j (.entry p i k)) c o:=by
 have C:=WH f D;refine⟨fun q=>(f.h q).trans (by simp[Own.add,Own.way]),fun q g=>(f.b q g).trans (by simp[Own.add,Own.way]),fun q y l=>(f.w q y l).trans ?_,fun q y l j' t=>?_⟩
 ·simp only[Own.add,Own.way];constructor
  ·rintro((e|⟨rfl,rfl,rfl⟩)|⟨j',e⟩)
   ·exact .inl e
   ·exact .inr ⟨j,JF _ _ _ _⟩
   refine .inr ⟨j',?_⟩;rw[FE _ _ (fun h=>by rw[h.2,z]at e;cases e)];exact e
  rintro(e|⟨j',e⟩)
  ·exact .inl (.inl e)
  by_cases h:j'=j
  ·subst h;rw[JF]at e;injection e with m n r;exact .inl (.inr ⟨m.symm,n.symm,r.symm⟩)
  rw[FE _ _ (fun e=>h e.2)]at e;exact .inr ⟨j',e⟩
 by_cases h:j'=j
 ·subst h;rw[JF];intro e;injection e with m n r;subst m n r;exact B _ t
 rw[FE _ _ (fun e=>h e.2)];exact f.d q y l j' (.inl t)
theorem cU(h:GI s σ){j:Int}:Kept s c σ (σ.mag c j .none):=
 ⟨h.mag trivial (fun e=>absurd rfl e) (fun l i' f e=>by cases e) (fun l y f i j' e m=>by cases e),fun x b=>Same.mag b,fun _=>rfl⟩
theorem znd(h:GI s σ){j i k:Int}(l:uA σ c o)(n:σ.mg c j= .entry p i k):uA (σ.mag c j .none) c (o.add (.way p i k)):=by
 refine⟨fun q=>(l.h q).trans (by simp[Own.add,Own.way]),fun q g=>(l.b q g).trans (by simp[Own.add,Own.way]),fun q y f=>(l.w q y f).trans ?_,fun q y f j' r=>?_⟩
 ·simp only[Own.add,Own.way];constructor
  ·rintro(e|⟨j',e⟩)
   ·exact .inl (.inl e)
   by_cases h:j'=j
   ·subst h;rw[n]at e;injection e with t z B;exact .inl (.inr ⟨t.symm,z.symm,B.symm⟩)
   exact .inr ⟨j',by rw[FE _ _ (fun e=>h e.2)];exact e⟩
  rintro((e|⟨rfl,rfl,rfl⟩)|⟨j',e⟩)
  ·exact .inl e
  ·exact .inr ⟨j,n⟩
  by_cases h:j'=j
  ·subst h;rw[JF]at e;cases e
  rw[FE _ _ (fun e=>h e.2)]at e;exact .inr ⟨j',e⟩
 by_cases m:j'=j
 ·subst m;rw[JF];intro e;cases e
 rw[FE _ _ (fun e=>m e.2)];rcases r with r|⟨rfl,rfl,rfl⟩
 ·exact l.d q y f j' r
 intro e;exact m (h.mi c j' j q y f f e n)
end

end Go.Proofs.YtkilokkopbajkaaGreat
