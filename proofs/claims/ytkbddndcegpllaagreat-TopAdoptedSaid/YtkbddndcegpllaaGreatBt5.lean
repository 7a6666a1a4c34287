/- Texts bound together: InvD InvM. -/
import Derived.Test.YtkbddndcegpllaaGreatBt4

set_option linter.all false
namespace Go.Proofs.YtkbddndcegpllaaGreat

section

variable {s:Sh} {σ:Ab} {c p:Int} {o:Own}

def Kept (s:Sh) (c:Int) (σ σ':Ab):Prop:=GI s σ'/\(∀ x,x≠c->Same x σ σ')/\∀ x,σ'.st x=σ.st x
theorem Kept.refl(h:GI s σ):Kept s c σ σ:=⟨h,fun _ _=>Same.refl _ _,fun _=>rfl⟩
theorem zm3(h:GI s σ)(b:σ.pg p= .empty\/(∃ n,σ.pg p= .large n)\/∃ g,σ.pg p= .body g)(i:Int):σ.sl p i= .none:=by
 have:=h.sk p i;rcases b with e|⟨n,e⟩|⟨g,e⟩<;>rw[e]at this<;>exact this
theorem zgg(h:GI s σ)(b:σ.pg p= .held c)(i:Int):σ.sl p i= .none\/(σ.sl p i= .way c/\0<=i/\i<16):=by
 have:=h.sk p i;rw[b]at this;exact this
theorem zov(h:GI s σ){k b:Int}(f:σ.pg p= .super k b)(i:Int):if 0<=i/\i<zah k then σ.sl p i= .opened k\/σ.sl p i= .taken k\/∃ c,σ.sl p i= .way c else σ.sl p i= .none:=by
 have:=h.sk p i;rw[f]at this;exact this
theorem zhs(h:GI s σ){i k:Int}(hs:σ.sl p i= .opened k\/σ.sl p i= .taken k):(∃ b,σ.pg p= .super k b)/\0<=i/\i<zah k:=by
 have:=h.sk p i;cases hp:σ.pg p with
 |super f b=>
  rw[hp]at this;simp only[zhi]at this;split at this
  ·rename_i hi;have e:f=k:=by rcases hs with e|e<;>rw[e]at this<;>exact(by simpa using this:k=f).symm
   subst e;exact⟨⟨b,rfl⟩,hi⟩
  rcases hs with e|e<;>rw[e]at this<;>cases this
 |held o=>rw[hp]at this;simp only[zhi]at this;rcases hs with e|e<;>rw[e]at this<;>simp at this
 |empty=>rw[hp]at this;simp only[zhi]at this;rcases hs with e|e<;>rw[e]at this<;>cases this
 |large n=>rw[hp]at this;simp only[zhi]at this;rcases hs with e|e<;>rw[e]at this<;>cases this
 |body g=>rw[hp]at this;simp only[zhi]at this;rcases hs with e|e<;>rw[e]at this<;>cases this
theorem zke(h:GI s σ){i k b x:Int}(f:σ.pg p= .super k b)(hs:σ.sl p i= .way x):0<=i/\i<zah k:=by
 have:=zov h f i;split at this
 ·assumption
 rw[hs]at this;cases this
theorem zds(h:GI s σ){j i k d:Int}(f:σ.mg d j= .entry p i k):∃ b,σ.pg p= .super k b:=(h.mv d j p i k f).1
theorem zi0(h:GI s σ)(f:σ.pg p= .empty)(l:0<=p/\p<s.p)(hc:0<=c/\c<s.c):Kept s c σ (σ.page p (.held c)):=by
 refine⟨h.page ⟨l,hc⟩ (fun i=>.inl (zm3 h (.inl f) i)) (fun g e=>by cases e) (fun q _ _=>.inl ⟨c,rfl⟩) (fun n e=>by cases e) (fun g e=>by rw[f]at e;cases e) (fun d j i k e=>?_),fun x r=>Same.page ?_ ?_ ?_,fun _=>rfl⟩
 ·obtain⟨b,e⟩:=zds h e;rw[f]at e;cases e
 ·rw[f];simp;exact fun e=>r e.symm
 ·intro g _;rw[f];simp
 intro i k _;rw[f];simp
theorem zh4(h:GI s σ)(f:zaz σ c o)(n:σ.pg p= .empty):zaz (σ.page p (.held c)) c (o.add (.page p)):=by
 have z:¬ o.h p:=fun e=>by have:=(f.h p).2 e;rw[n]at this;cases this
 have l:∀ q,σ.pg q≠ .body p:=fun q e=>by rcases h.bd q p e with⟨_,e⟩|⟨_,e,_⟩<;>rw[n]at e<;>cases e
 refine f.page (fun q r=>?_) ?_ (fun q g r y=>?_) (fun g y=>?_) (fun q r=>?_) ?_ (fun q i k r=>?_) (fun i k=>?_) (fun i k j t=>?_)
 ·simp[Own.add,Own.page,r]
 ·simp[Own.add,Own.page]
 ·simp[Own.add,Own.page]
 ·simp only[Own.add,Own.page,or_false];rw[<-f.b p g,n];simp
 ·simp only[Own.add,Own.page,or_false];rw[<-f.b q p];exact⟨fun e=>absurd e.1 (l q),fun e=>absurd e.1 (l q)⟩
 ·simp only[Own.add,Own.page,or_false];rw[<-f.b p p,n];simp
 ·simp[Own.add,Own.page]
 ·simp only[Own.add,Own.page,or_false];rw[<-f.w p i k,n];simp
 simp only[Own.add,Own.page,or_false]at t;exact f.d p i k j t
theorem zg7(h:GI s σ)(f:σ.pg p= .held c)(hs:∀ i,σ.sl p i= .none)(hb:∀ q,σ.pg q≠ .body p):Kept s c σ (σ.page p .empty):=by
 refine⟨h.page trivial hs (fun g e=>by cases e) (fun q _ e=>absurd e (hb q)) (fun n e=>by cases e) (fun g e=>by rw[f]at e;cases e) (fun d j i k e=>?_),fun x l=>Same.page ?_ ?_ ?_,fun _=>rfl⟩
 ·obtain⟨b,e⟩:=zds h e;rw[f]at e;cases e
 ·rw[f];simp;exact fun e=>l e.symm
 ·intro g _;rw[f];simp
 intro i k _;rw[f];simp
theorem zi1(f:zaz σ c (o.add (.page p)))(t:¬ o.h p)(hb:∀ q,σ.pg q≠ .body p):zaz (σ.page p .empty) c o:=by
 have n:σ.pg p= .held c:=(f.h p).2 (.inr rfl);refine f.page (fun q l=>?_) ?_ (fun q g l r=>?_) (fun g r=>?_) (fun q l=>?_) ?_ (fun q i k l=>?_) (fun i k=>?_) (fun i k j y=>?_)
 ·simp[Own.add,Own.page,l]
 ·simp[t]
 ·simp[Own.add,Own.page]
 ·have:=f.b p g;simp only[Own.add,Own.page,or_false]at this;rw[<-this,n];simp
 ·have:=f.b q p;simp only[Own.add,Own.page,or_false]at this;rw[<-this];exact⟨fun e=>absurd e.1 (hb q),fun e=>absurd e.1 (hb q)⟩
 ·have:=f.b p p;simp only[Own.add,Own.page,or_false]at this;rw[<-this,n];simp
 ·simp[Own.add,Own.page]
 ·have:=f.w p i k;simp only[Own.add,Own.page,or_false]at this;rw[<-this,n];simp
 exact f.d p i k j (.inl y)
theorem zqm(h:GI s σ){g:Int}(f:σ.pg p= .held c)(hs:∀ i,σ.sl p i= .none)(hb:∀ q,σ.pg q≠ .body p)(r:σ.pg g= .held c)(C:g<p/\p-8<g):Kept s c σ (σ.page p (.body g)):=by
 have t:=zkn h f;have B:=zkn h r;refine⟨h.page ⟨t.1,by omega⟩ hs (fun z e=>by injection e with e;subst e;exact .inl ⟨c,r⟩) (fun q _ e=>absurd e (hb q)) (fun n e=>by cases e) (fun g e=>by rw[f]at e;cases e) (fun d j i k e=>?_),fun x y=>Same.page ?_ ?_ ?_,fun _=>rfl⟩
 ·obtain⟨b,e⟩:=zds h e;rw[f]at e;cases e
 ·rw[f];simp;exact fun e=>y e.symm
 ·intro z l;rw[f];simp only[reduceCtorEq,iff_false,PW.body.injEq];intro e;subst e;rw[r]at l;injection l with e;exact y e.symm
 intro i k _;rw[f];simp
theorem zn5{g:Int}(f:zaz σ c (o.add (.page p)))(C:¬ o.h p)(hb:∀ q,σ.pg q≠ .body p)(B:o.h g)(l:g≠p):zaz (σ.page p (.body g)) c (o.add (.bodies g p (p+1))):=by
 have t:σ.pg p= .held c:=(f.h p).2 (.inr rfl);refine f.page (fun q n=>?_) ?_ (fun q y n r=>?_) (fun y r=>?_) (fun q n=>?_) ?_ (fun q i k n=>?_) (fun i k=>?_) (fun i k j z=>?_)
 ·simp[Own.add,Own.page,Own.bodies,n]
 ·simp[Own.add,Own.bodies,C]
 ·simp only[Own.add,Own.page,Own.bodies,or_false];refine⟨fun e=>?_,.inl⟩;rcases e with e|e
  ·exact e
  exact absurd (show q=p by omega) n
 ·have:=f.b p y;simp only[Own.add,Own.page,or_false]at this;simp only[Own.add,Own.bodies,Own.page,PW.body.injEq];rw[<-this,t];simp only[reduceCtorEq,false_and,false_or];constructor
  ·rintro⟨e,_⟩;subst e;exact⟨rfl,.inl B⟩
  rintro⟨e,_⟩;exact⟨e.symm,by omega,by omega⟩
 ·have:=f.b q p;simp only[Own.add,Own.page,or_false]at this;simp only[Own.add,Own.bodies];rw[<-this];constructor
  ·rintro(e|e)
   ·exact absurd e.1 (hb q)
   exact absurd e.1.symm l
  intro e;exact absurd e.1 (hb q)
 ·have:=f.b p p;simp only[Own.add,Own.page,or_false]at this;simp only[Own.add,Own.bodies];rw[<-this,t];simp only[reduceCtorEq,false_and,false_or];exact fun e=>l e.1.symm
 ·simp[Own.add,Own.page,Own.bodies]
 ·have:=f.w p i k;simp only[Own.add,Own.page,or_false]at this;simp only[Own.add,Own.bodies,or_false];rw[<-this,t];simp
 simp only[Own.add,Own.bodies,or_false]at z;exact f.d p i k j (.inl z)
theorem zjz(h:GI s σ){g:Int}(f:σ.pg p= .body g)(y:σ.pg g= .held c):Kept s c σ (σ.page p .empty):=by
 have r:∀ q,σ.pg q≠ .body p:=fun q e=>by rcases h.bd q p e with⟨_,e⟩|⟨_,e,_⟩<;>rw[f]at e<;>cases e
 refine⟨h.page trivial (fun i=>zm3 h (.inr (.inr ⟨g,f⟩)) i) (fun g e=>by cases e) (fun q _ e=>absurd e (r q)) (fun n e=>by cases e) (fun z e=>.inr fun n t=>?_) (fun d j i k e=>?_),fun x B=>Same.page ?_ ?_ ?_,fun _=>rfl⟩
 ·rw[f]at e;injection e with e;subst e;rw[y]at t;cases t
 ·obtain⟨b,e⟩:=zds h e;rw[f]at e;cases e
 ·rw[f];simp
 ·intro z l;rw[f];simp only[reduceCtorEq,false_iff,PW.body.injEq];intro e;subst e;rw[y]at l;injection l with e;exact B e.symm
 intro i k _;rw[f];simp
theorem zoe(h:GI s σ){g:Int}(f:zaz σ c (o.add (.bodies g p (p+1))))(B:∀ g,¬ o.b p g):zaz (σ.page p .empty) c o:=by
 have y:σ.pg p= .body g/\σ.pg g= .held c:=(f.b p g).2 (.inr ⟨rfl,Int.le_refl _,by omega⟩);have n:=y.1;have l:∀ q,σ.pg q≠ .body p:=fun q e=>by rcases h.bd q p e with⟨_,e⟩|⟨_,e,_⟩<;>rw[n]at e<;>cases e
 have C:g≠p:=fun e=>by have:=zvc h n;omega
 refine f.page (fun q r=>?_) ?_ (fun q z r t=>?_) (fun z t=>?_) (fun q r=>?_) ?_ (fun q i k r=>?_) (fun i k=>?_) (fun i k j D=>?_)
 ·simp[Own.add,Own.bodies]
 ·have:=f.h p;simp only[Own.add,Own.bodies,or_false]at this;rw[<-this,n];simp
 ·simp only[Own.add,Own.bodies];refine⟨.inl,fun e=>?_⟩;rcases e with e|e
  ·exact e
  exact absurd (show q=p by omega) r
 ·simp[B z]
 ·have:=f.b q p;simp only[Own.add,Own.bodies]at this;constructor
  ·intro e;exact absurd (this.2 (.inl e)).1 (l q)
  intro e;exact absurd e.1 (l q)
 ·exact B p
 ·simp[Own.add,Own.bodies]
 ·have:=f.w p i k;simp only[Own.add,Own.bodies,or_false]at this;rw[<-this,n];simp
 exact f.d p i k j (.inl D)
theorem zlp(h:GI s σ){n:Int}(f:σ.pg p= .held c)(hs:∀ i,σ.sl p i= .none)(y:1<=n/\n<=8/\n<=s.p-p)(hb:∀ j,1<=j->j<n->σ.pg (p+j)= .body p)(t:∀ q,σ.pg q= .body p->q<p+n):Kept s c σ (σ.page p (.large n)):=by
 have l:=zkn h f;refine⟨h.page ⟨l.1,y⟩ hs (fun r e=>by cases e) (fun q _ e=>.inr ⟨n,rfl,t q e⟩) (fun B e=>by injection e with e;subst e;exact hb) (fun g e=>by rw[f]at e;cases e) (fun d j i k e=>?_),fun x z=>Same.page ?_ ?_ ?_,fun _=>rfl⟩
 ·obtain⟨b,e⟩:=zds h e;rw[f]at e;cases e
 ·rw[f];simp;exact fun e=>z e.symm
 ·intro r _;rw[f];simp
 intro i k _;rw[f];simp
theorem zkr{n:Int}(f:zaz σ c ((o.add (.page p)).add (.bodies p (p+1) (p+n))))(z:¬ o.h p)(hb:∀ q,¬ o.b q p):zaz (σ.page p (.large n)) c o:=by
 have y:σ.pg p= .held c:=(f.h p).2 (.inl (.inr rfl));refine f.page (fun q r=>?_) ?_ (fun q t r l=>?_) (fun t l=>?_) (fun q r=>?_) ?_ (fun q i k r=>?_) (fun i k=>?_) (fun i k j B=>?_)
 ·simp[Own.add,Own.page,Own.bodies,r]
 ·simp[z]
 ·simp[Own.add,Own.page,Own.bodies,l]
 ·have:=f.b p t;simp only[Own.add,Own.page,Own.bodies,or_false]at this;simp only[reduceCtorEq,false_and,iff_false];intro e;have:=this.2 (.inl e);rw[y]at this;cases this.1
 ·simp[hb q]
 ·exact hb p
 ·simp[Own.add,Own.page,Own.bodies]
 ·have:=f.w p i k;simp only[Own.add,Own.page,Own.bodies,or_false]at this;rw[<-this,y];simp
 exact f.d p i k j (.inl (.inl B))
theorem zmq(h:GI s σ){n:Int}(f:σ.pg p= .large n)(hc:0<=c/\c<s.c):Kept s c σ (σ.page p (.held c)):=by
 have l:=zgt h f;refine⟨h.page ⟨l.1,hc⟩ (fun i=>.inl (zm3 h (.inr (.inl ⟨n,f⟩)) i)) (fun r e=>by cases e) (fun q _ e=>.inl ⟨c,rfl⟩) (fun y e=>by cases e) (fun g e=>by rw[f]at e;cases e) (fun d j i k e=>?_),fun x t=>Same.page ?_ ?_ ?_,fun _=>rfl⟩
 ·obtain⟨b,e⟩:=zds h e;rw[f]at e;cases e
 ·rw[f];simp;exact fun e=>t e.symm
 ·intro r _;rw[f];simp
 intro i k _;rw[f];simp
theorem zlv(h:GI s σ){n:Int}(t:zaz σ c o)(r:σ.pg p= .large n):zaz (σ.page p (.held c)) c ((o.add (.page p)).add (.bodies p (p+1) (p+n))):=by
 have E:¬ o.h p:=fun e=>by have:=(t.h p).2 e;rw[r]at this;cases this
 have y:∀ q,¬ o.b q p:=fun q e=>by have:=((t.b q p).2 e).2;rw[r]at this;cases this
 refine t.page (fun q z=>?_) ?_ (fun q B z l=>?_) (fun B l=>?_) (fun q z=>?_) ?_ (fun q i k z=>?_) (fun i k=>?_) (fun i k j C=>?_)
 ·simp[Own.add,Own.page,Own.bodies,z]
 ·simp[Own.add,Own.page,Own.bodies]
 ·simp[Own.add,Own.page,Own.bodies,l]
 ·simp only[Own.add,Own.page,Own.bodies,or_false];have:=t.b p B;rw[r]at this;simp only[reduceCtorEq,false_and,false_iff]at this;simp[this,l]
 ·simp only[Own.add,Own.page,Own.bodies,or_false,true_and,and_true];constructor
  ·rintro(e|e)
   ·exact absurd e (y q)
   have:=h.lg p n r (q-p) (by omega) (by omega);rwa [show p+(q-p)=q by omega]at this
  intro e;have F:=zvc h e;rcases h.bd q p e with⟨_,f⟩|⟨G,f,D⟩
  ·rw[r]at f;cases f
  rw[r]at f;injection f with f;subst f;exact .inr ⟨by omega,D⟩
 ·simp only[Own.add,Own.page,Own.bodies,or_false];rintro(e|e)
  ·exact y p e
  omega
 ·simp[Own.add,Own.page,Own.bodies]
 ·simp only[Own.add,Own.page,Own.bodies,or_false];rw[<-t.w p i k,r];simp
 simp only[Own.add,Own.page,Own.bodies,or_false]at C;exact t.d p i k j C
theorem zgw(h:GI s σ){i:Int}{u:SW}(f:σ.pg p= .held c)(hu:u= .none\/(u= .way c/\0<=i/\i<16)):Kept s c σ (σ.slot p i u):=by
 have l:=zkn h f;refine⟨h.slot ?_ (by rw[f];exact hu) (fun d j k e=>?_),fun x n=>Same.slot (by rw[f];simp;exact fun e=>n e.symm) (fun k b e=>by rw[f]at e;cases e),fun _=>rfl⟩
 ·rcases hu with rfl|⟨rfl,_⟩
  ·trivial
  exact l.2
 obtain⟨b,e⟩:=zds h e;rw[f]at e;cases e
theorem ziy{i x:Int}{u:SW}(b:zaz σ c o)(f:σ.pg p= .held x):zaz (σ.slot p i u) c o:=by
 refine b.slot (fun _=>.rfl) (fun _ _=>.rfl) (fun _ _ _ _=>.rfl) (fun k=>?_) (fun k j l=>b.d p i k j l);rw[<-b.w p i k,f];simp
theorem zpg(h:GI s σ){k:Int}(l:σ.pg p= .held c)(t:0<=k/\k<=3)(hs:∀ i,σ.sl p i=if 0<=i/\i<zah k then .way c else .none)(hb:∀ q,σ.pg q≠ .body p):Kept s c σ (σ.page p (.super k c)):=by
 have f:=zkn h l;refine⟨h.page ⟨f.1,t,f.2⟩ (fun i=>?_) (fun r e=>by cases e) (fun q _ e=>absurd e (hb q)) (fun z e=>by cases e) (fun g e=>by rw[l]at e;cases e) (fun d j i k e=>?_),fun x n=>Same.page ?_ ?_ ?_,fun _=>rfl⟩
 ·rw[hs i];simp only[zhi];split
  ·exact .inr (.inr ⟨c,rfl⟩)
  rfl
 ·obtain⟨b,e⟩:=zds h e;rw[l]at e;cases e
 ·rw[l];simp;exact fun e=>n e.symm
 ·intro r _;rw[l];simp
 intro i y e;rw[hs i]at e;split at e
 ·injection e with e;exact absurd e.symm n
 cases e
theorem zn3(h:GI s σ){k b:Int}(l:zaz σ c (o.add (.page p)))(E:¬ o.h p)(hs:∀ i,σ.sl p i=if 0<=i/\i<zah k then .way c else .none)(hb:∀ q,σ.pg q≠ .body p):zaz (σ.page p (.super k b)) c (o.add (.ways p (zah k) k)):=by
 have y:σ.pg p= .held c:=(l.h p).2 (.inr rfl);have r:∀ d j i f,σ.mg d j≠ .entry p i f:=fun d j i f e=>by obtain⟨b,e⟩:=zds h e;rw[y]at e;cases e
 have B:∀ i f,¬ o.w p i f:=fun i f e=>by have:=(l.w p i f).2 (.inl (.inl e));rw[y]at this;obtain⟨⟨_,e⟩,_⟩:=this;cases e
 refine l.page (fun q t=>?_) ?_ (fun q D t z=>?_) (fun D z=>?_) (fun q t=>?_) ?_ (fun q i k t=>?_) (fun i f=>?_) (fun i k j G=>r _ _ _ _)
 ·simp[Own.add,Own.page,Own.ways,t]
 ·simp[Own.add,Own.ways,E]
 ·simp[Own.add,Own.page,Own.ways]
 ·have:=l.b p D;simp only[Own.add,Own.page,or_false]at this;simp only[Own.add,Own.ways,or_false];rw[<-this,y];simp
 ·have:=l.b q p;simp only[Own.add,Own.page,or_false]at this;simp only[Own.add,Own.ways,or_false];rw[<-this];exact⟨fun e=>absurd e.1 (hb q),fun e=>absurd e.1 (hb q)⟩
 ·have:=l.b p p;simp only[Own.add,Own.page,or_false]at this;simp only[Own.add,Own.ways,or_false];rw[<-this,y];simp
 ·simp[Own.add,Own.page,Own.ways,t]
 simp only[Own.add,Own.ways,B,false_or,true_and];rw[hs i];constructor
 ·rintro(⟨n,rfl⟩|⟨j,e⟩)
  ·exact⟨⟨b,rfl⟩,by rw[if_pos n]⟩
  exact absurd e (r _ _ _ _)
 rintro⟨⟨F,n⟩,C⟩;injection n with n _;split at C
 ·rename_i hi;exact .inl ⟨hi,n.symm⟩
 cases C
theorem zn2(h:GI s σ){k b:Int}(t:σ.pg p= .super k b)(hc:0<=c/\c<s.c)(hs:∀ i,0<=i->i<zah k->σ.sl p i= .way c)(D:∀ j i y,σ.mg c j≠ .entry p i y):Kept s c σ (σ.page p (.held c)):=by
 have z:=zjs h t;have l:∀ i,(0<=i/\i<zah k/\σ.sl p i= .way c)\/σ.sl p i= .none:=fun i=>by
  have:=zov h t i;split at this
  ·rename_i hi;exact .inl ⟨hi.1,hi.2,hs i hi.1 hi.2⟩
  exact .inr this
 have E:=zcy k;refine⟨h.page ⟨z.1,hc⟩ (fun i=>?_) (fun C e=>by cases e) (fun q _ e=>.inl ⟨c,rfl⟩) (fun I e=>by cases e) (fun g e=>by rw[t]at e;cases e) (fun d j i y e=>?_),fun x B=>Same.page ?_ ?_ ?_,fun _=>rfl⟩
 ·rcases l i with⟨f,H,r⟩|f
  ·exact .inr ⟨r,f,by omega⟩
  exact .inl f
 ·exfalso;obtain⟨⟨F,G⟩,n⟩:=h.mv d j p i y e;rcases l i with⟨_,_,r⟩|f
  ·rw[r]at n;injection n with n;subst n;exact D j i y e
  rw[f]at n;cases n
 ·rw[t];simp;exact fun e=>B e.symm
 ·intro C _;rw[t];simp
 intro i y e;rcases l i with⟨_,_,r⟩|f
 ·rw[r]at e;injection e with e;exact absurd e.symm B
 rw[f]at e;cases e
theorem znl(h:GI s σ){k b:Int}(l:zaz σ c (o.add (.ways p (zah k) k)))(t:σ.pg p= .super k b)(C:∀ i f,¬ o.w p i f)(B:∀ j i f,σ.mg c j≠ .entry p i f):zaz (σ.page p (.held c)) c (o.add (.page p)):=by
 have D:¬ o.h p:=fun e=>by have:=(l.h p).2 (.inl e);rw[t]at this;cases this
 have n:∀ q,σ.pg q≠ .body p:=fun q e=>by rcases h.bd q p e with⟨_,e⟩|⟨_,e,_⟩<;>rw[t]at e<;>cases e
 refine l.page (fun q r=>?_) ?_ (fun q z r y=>?_) (fun z y=>?_) (fun q r=>?_) ?_ (fun q i k r=>?_) (fun i f=>?_) (fun i f j E=>B _ _ _)
 ·simp[Own.add,Own.page,Own.ways,r]
 ·simp[Own.add,Own.page]
 ·simp[Own.add,Own.page,Own.ways]
 ·have:=l.b p z;simp only[Own.add,Own.ways,or_false]at this;simp only[Own.add,Own.page,or_false];rw[<-this,t];simp
 ·have:=l.b q p;simp only[Own.add,Own.ways,or_false]at this;simp only[Own.add,Own.page,or_false];rw[<-this];exact⟨fun e=>absurd e.1 (n q),fun e=>absurd e.1 (n q)⟩
 ·have:=l.b p p;simp only[Own.add,Own.ways,or_false]at this;simp only[Own.add,Own.page,or_false];rw[<-this,t];simp
 ·simp[Own.add,Own.page,Own.ways,r]
 simp only[Own.add,Own.page,or_false];constructor
 ·rintro(e|⟨j,e⟩)
  ·exact absurd e (C i f)
  exact absurd e (B _ _ _)
 rintro⟨⟨_,e⟩,_⟩;cases e
theorem zf3(h:GI s σ){i k b:Int}(n:σ.pg p= .super k b)(hs:σ.sl p i= .opened k\/σ.sl p i= .taken k)(hc:0<=c/\c<s.c):Kept s c σ (σ.slot p i (.way c)):=by
 have f:=(zhs h hs).2;refine⟨h.slot hc (by rw[n];simp only[zhi];rw[if_pos f];exact .inr (.inr ⟨c,rfl⟩)) (fun d j q e=>?_),fun x r=>Same.slot (by rw[n];simp) (fun q t e=>?_),fun _=>rfl⟩
 ·have:=(h.mv d j p i q e).2;rcases hs with e|e<;>rw[e]at this<;>cases this
 constructor
 ·intro e;injection e with e;exact absurd e.symm r
 intro e;rcases hs with l|l<;>rw[l]at e<;>cases e
theorem zfc(h:GI s σ){i k b:Int}(r:zaz σ c o)(t:σ.pg p= .super k b)(hs:σ.sl p i= .opened k\/σ.sl p i= .taken k):zaz (σ.slot p i (.way c)) c (o.add (.way p i k)):=by
 have l:∀ j f,σ.mg c j≠ .entry p i f:=fun j f e=>by have:=(h.mv c j p i f e).2;rcases hs with e|e<;>rw[e]at this<;>cases this
 have n:∀ f,¬ o.w p i f:=fun f e=>by have:=((r.w p i f).2 (.inl e)).2;rcases hs with e|e<;>rw[e]at this<;>cases this
 refine r.slot (fun _=>?_) (fun _ _=>?_) (fun q j f y=>?_) (fun f=>?_) (fun f j B=>l _ _)
 ·simp[Own.add,Own.way]
 ·simp[Own.add,Own.way]
 ·simp only[Own.add,Own.way];exact⟨fun e=>e.elim id fun e=>absurd ⟨e.1,e.2.1⟩ y,.inl⟩
 simp only[Own.add,Own.way,n,false_or,true_and,and_true];rw[t];constructor
 ·rintro(rfl|⟨j,e⟩)
  ·exact⟨b,rfl⟩
  exact absurd e (l _ _)
 rintro⟨z,e⟩;injection e with e _;exact .inl e.symm
theorem zc6(h:GI s σ){i k b:Int}{u:SW}(l:σ.pg p= .super k b)(hs:σ.sl p i= .way c)(hu:u= .opened k\/u= .taken k)(r:∀ j f,σ.mg c j≠ .entry p i f):Kept s c σ (σ.slot p i u):=by
 have n:=zjs h l;have t:=zke h l hs;refine⟨h.slot (by rcases hu with rfl|rfl<;>exact n.2.1) (by rw[l];simp only[zhi];rw[if_pos t];exact hu.elim .inl fun e=>.inr (.inl e)) (fun d j f e=>?_),fun x y=>Same.slot (by rw[l];simp) (fun f z e=>?_),fun _=>rfl⟩
 ·have:=(h.mv d j p i f e).2;rw[hs]at this;injection this with q;subst q;exact absurd e (r j f)
 rw[hs];constructor
 ·intro e;rcases hu with rfl|rfl<;>cases e
 intro e;injection e with e;exact absurd e.symm y
theorem zdd{i k b:Int}{u:SW}(r:zaz σ c (o.add (.way p i k)))(y:∀ f,¬ o.w p i f)(z:σ.pg p= .super k b)(hu:u= .opened k\/u= .taken k):zaz (σ.slot p i u) c o:=by
 have l:∀ j f,σ.mg c j≠ .entry p i f:=fun j f e=>by have t:=(r.w p i f).2 (.inr ⟨j,e⟩);obtain⟨⟨C,n⟩,_⟩:=t;rw[z]at n;injection n with n _;subst n;exact r.d p i k j (.inr ⟨rfl,rfl,rfl⟩) e
 refine r.slot (fun _=>?_) (fun _ _=>?_) (fun q j f B=>?_) (fun f=>?_) (fun f j D=>l _ _)
 ·simp[Own.add,Own.way]
 ·simp[Own.add,Own.way]
 ·simp only[Own.add,Own.way];exact⟨.inl,fun e=>e.elim id fun e=>absurd ⟨e.1,e.2.1⟩ B⟩
 constructor
 ·rintro(e|⟨j,e⟩)
  ·exact absurd e (y f)
  exact absurd e (l _ _)
 rintro⟨_,e⟩;rcases hu with rfl|rfl<;>cases e
theorem znc{i k b:Int}(n:zaz σ c (o.add (.way p i k)))(r:σ.pg p= .super k b):∀ j l,σ.mg c j≠ .entry p i l:=fun j l e=>by
 have q:=(n.w p i l).2 (.inr ⟨j,e⟩)
 obtain⟨⟨t,f⟩,_⟩:=q
 rw[r]at f
 injection f with f _
 subst f
 exact n.d p i k j (.inr ⟨rfl,rfl,rfl⟩) e
theorem zqp(h:GI s σ){j i k b:Int}(r:σ.pg p= .super k b)(hs:σ.sl p i= .way c)(B:∀ j t,σ.mg c j≠ .entry p i t)(z:0<=j/\j<s.m):Kept s c σ (σ.mag c j (.entry p i k)):=by
 have f:=zjs h r;have C:=zke h r hs;have hc:0<=c/\c<s.c:=by have:=h.sf p i;rw[hs]at this;exact this
 refine⟨h.mag ⟨f.1,f.2.1,C⟩ (fun _=>⟨hc,z⟩) (fun F i' t e=>?_) (fun F y t E j' e n=>?_),fun x D=>Same.mag D,fun _=>rfl⟩
 ·injection e with l n q;subst l n q;exact⟨⟨b,r⟩,hs⟩
 injection e with l q G;subst l q;exact absurd n (B _ _)
theorem zn8{j i k b:Int}(f:zaz σ c (o.add (.way p i k)))(C:∀ l,¬ o.w p i l)(E:σ.pg p= .super k b)(B:σ.mg c j= .none):zaz (σ.mag c j (.entry p i k)) c o:=by
 have D:=znc f E;refine⟨fun q=>(f.h q).trans (by simp[Own.add,Own.way]),fun q g=>(f.b q g).trans (by simp[Own.add,Own.way]),fun q y l=>(f.w q y l).trans ?_,fun q y l j' z=>?_⟩
 ·simp only[Own.add,Own.way];constructor
  ·rintro((e|⟨rfl,rfl,rfl⟩)|⟨j',e⟩)
   ·exact .inl e
   ·exact .inr ⟨j,zcb _ _ _ _⟩
   refine .inr ⟨j',?_⟩;rw[zci _ _ (fun h=>by rw[h.2,B]at e;cases e)];exact e
  rintro(e|⟨j',e⟩)
  ·exact .inl (.inl e)
  by_cases h:j'=j
  ·subst h;rw[zcb]at e;injection e with n r t;exact .inl (.inr ⟨n.symm,r.symm,t.symm⟩)
  rw[zci _ _ (fun e=>h e.2)]at e;exact .inr ⟨j',e⟩
 by_cases h:j'=j
 ·subst h;rw[zcb];intro e;injection e with n r t;subst n r t;exact C _ z
 rw[zci _ _ (fun e=>h e.2)];exact f.d q y l j' (.inl z)
theorem zi4(h:GI s σ){j:Int}:Kept s c σ (σ.mag c j .none):=
 ⟨h.mag trivial (fun e=>absurd rfl e) (fun l i' f e=>by cases e) (fun l y f i j' e n=>by cases e),fun x b=>Same.mag b,fun _=>rfl⟩
theorem znd(h:GI s σ){j i k:Int}(l:zaz σ c o)(r:σ.mg c j= .entry p i k):zaz (σ.mag c j .none) c (o.add (.way p i k)):=by
 refine⟨fun q=>(l.h q).trans (by simp[Own.add,Own.way]),fun q g=>(l.b q g).trans (by simp[Own.add,Own.way]),fun q y f=>(l.w q y f).trans ?_,fun q y f j' t=>?_⟩
 ·simp only[Own.add,Own.way];constructor
  ·rintro(e|⟨j',e⟩)
   ·exact .inl (.inl e)
   by_cases h:j'=j
   ·subst h;rw[r]at e;injection e with z B C;exact .inl (.inr ⟨z.symm,B.symm,C.symm⟩)
   exact .inr ⟨j',by rw[zci _ _ (fun e=>h e.2)];exact e⟩
  rintro((e|⟨rfl,rfl,rfl⟩)|⟨j',e⟩)
  ·exact .inl e
  ·exact .inr ⟨j,r⟩
  by_cases h:j'=j
  ·subst h;rw[zcb]at e;cases e
  rw[zci _ _ (fun e=>h e.2)]at e;exact .inr ⟨j',e⟩
 by_cases n:j'=j
 ·subst n;rw[zcb];intro e;cases e
 rw[zci _ _ (fun e=>n e.2)];rcases t with t|⟨rfl,rfl,rfl⟩
 ·exact l.d q y f j' t
 intro e;exact n (h.mi c j' j q y f f e r)
end

section

def PW.zpv (k:Int):PW->Bool
 | .super k' _=> k'==k
 | _=> false
def tkA (s:Sh) (t:Tk) (σ:Ab):Tk × Ab:=
 if t.done=true then (t,σ)
 else if t.hit=true then ({ t with found:=true,done:=true },σ.mag t.c t.i .none)
 else match σ.mg t.c t.i with
  | .entry p i k=> (if k=t.k then { t with ep:=p,es:=i,ek:=k,hit:=true } else { t with i:=t.i + 1,done:=decide (t.i + 1=s.m) },σ)
  | .none=> ({ t with i:=t.i + 1,done:=decide (t.i + 1=s.m) },σ)
def puA (s:Sh) (t:Pu) (σ:Ab):Pu × Ab:=
 if t.done=true then (t,σ)
 else if t.hit=true then ({ t with put:=true,done:=true },σ.mag t.c t.i (.entry t.ep t.es t.ek))
 else (if σ.mg t.c t.i= .none then { t with hit:=true } else { t with i:=t.i + 1,done:=decide (t.i + 1=s.m) },σ)
def scA (s:Sh) (t:Sc) (σ:Ab):Sc × Ab:=
 if t.done=true then (t,σ)
 else if t.next=0 then (if (σ.pg (t.page s)).zpv t.k=true then { t with next:=1 } else t.turn s,σ)
 else if t.next=1 then (if σ.sl (t.page s) t.i= .opened t.k then { t with next:=2 } else t.miss s,σ)
 else if σ.sl (t.page s) t.i= .opened t.k then ({ t with found:=true,done:=true },σ.slot (t.page s) t.i (.way t.c)) else (t.miss s,σ)
def pcA (s:Sh) (t:Pc) (σ:Ab):Pc × Ab:=
 if t.done=true then (t,σ)
 else if t.empty=false then (if σ.pg (t.page s)= .empty then { t with empty:=true } else { t with empty:=false,many:=t.many + 1,done:=decide (t.many + 1=s.p) },σ)
 else if σ.pg (t.page s)= .empty then ({ t with found:=true,done:=true },σ.page (t.page s) (.held t.c)) else ({ t with empty:=false,many:=t.many + 1,done:=decide (t.many + 1=s.p) },σ)
def spA (s:Sh) (t:Sp) (σ:Ab):Sp × Ab:=
 if t.done=true then (t,σ)
 else if t.back=true then ({ t with i:=t.i - 1,done:=decide (t.i - 1=0) },σ.slot t.page (t.i - 1) (.opened t.k))
 else if t.i=zah t.k then ({ t with held:=true,done:=true },σ.page t.page (.held t.c))
 else if σ.sl t.page t.i= .opened t.k then ({ t with i:=t.i + 1 },σ.slot t.page t.i (.way t.c)) else ({ t with back:=true,done:=decide (t.i=0) },σ)
def bnA (s:Sh) (t:Bn) (σ:Ab):Bn × Ab:=
 if t.done=true then (t,σ)
 else if t.bound=true then ({ t with i:=t.i - 1,done:=decide (t.i - 1=0) },σ.slot t.page t.i (.opened t.k))
 else if t.i=16 then ({ t with bound:=true,i:=zah t.k - 1 },σ.page t.page (.super t.k t.c))
 else ({ t with i:=t.i + 1 },σ.slot t.page t.i (if t.i < zah t.k then .way t.c else .none))
def mcA (s:Sh):Mc->Ab->Mc × Ab
 | .tk t,σ=> (.tk (tkA s t σ).1,(tkA s t σ).2)
 | .sc t,σ=> (.sc (scA s t σ).1,(scA s t σ).2)
 | .pc t,σ=> (.pc (pcA s t σ).1,(pcA s t σ).2)
 | .sp t,σ=> (.sp (spA s t σ).1,(spA s t σ).2)
 | .bn t,σ=> (.bn (bnA s t σ).1,(bnA s t σ).2)
def skA (s:Sh) (t:Sk) (σ:Ab):Sk × Ab:=
 if t.done=true then (t,σ)
 else match t.now with
  | some x=> (za5 s 5 { t with now:=some (mcA s x σ).1 },(mcA s x σ).2)
  | none=> (match σ.pg (t.here s) with | .super k _=> { t with now:=some (.sp (zfa s t.c (t.here s) k)) } | _=> t.turn s,σ)
def rnA (s:Sh) (t:Rn) (σ:Ab):Rn × Ab:=
 if t.done=true then (t,σ)
 else if t.next=0 then (match σ.pg t.at' with | .empty=> { t with next:=1 } | .super k _=> { t with next:=2,strip:=some (zfa s t.c t.at' k) } | _=> t.miss s,σ)
 else if t.next=1 then (if σ.pg t.at'= .empty then (t.own,σ.page t.at' (.held t.c)) else (t.miss s,σ))
 else if t.next=2 then
  match t.strip with
  | some x=> (if (spA s x σ).1.held=true then { t with strip:=some (spA s x σ).1,next:=3,i:=0 } else if (spA s x σ).1.done=true then ({ t with strip:=some (spA s x σ).1 }:Rn).miss s else { t with strip:=some (spA s x σ).1 },(spA s x σ).2)
  | none=> (t,σ)
 else if t.next=3 then (if t.i + 1=16 then ({ t with i:=t.i + 1 }:Rn).own else { t with i:=t.i + 1 },σ.slot t.at' t.i .none)
 else if t.next=4 then (({ t with i:=t.i - 1 }:Rn).gone s,σ.page (t.i - 1) .empty)
 else (t.written,σ.page t.i (.body t.head))
def Sim {T:Type} (s:Sh) (r:T × Mem) (a:T × Ab):Prop:=r.1=a.1/\Rep s r.2 a.2
variable {s:Sh} {m:Mem} {σ:Ab}

theorem zgz{c a was x:Int}(h:m.get a=was):(m.swap c a was x).ws=m.ws.set a.toNat x:=by unfold Mem.swap;rw[if_pos h]
theorem zjl{c a was x:Int}(h:¬ m.get a=was):(m.swap c a was x).ws=m.ws:=by unfold Mem.swap;rw[if_neg h]
theorem zpe{a b:Int}(h:0<b):0<=a%b/\a%b<b:=⟨Int.emod_nonneg _ (by omega),Int.emod_lt_of_pos _ h⟩
theorem zgr{k:Int}(h:0<zah k):0<=k/\k<=3:=by
 unfold zah at h;split at h
 ·omega
 split at h
 ·omega
 split at h
 ·omega
 split at h
 ·omega
 omega
theorem Rep.zlw(b:Rep s m σ)(f:GI s σ){p i:Int}(j:0<=p/\p<s.p)(hi:0<=i/\i<16){u:SW}(hu:u.fit s):m.get (zbk s.p s.c s.m p i)=u.enc↔σ.sl p i=u:=by
 rw[b.sl p i j hi];exact⟨SW.inj b.may (f.sf p i) hu,fun e=>by rw[e]⟩
theorem Rep.zwo(b:Rep s m σ)(f:GI s σ){p q:Int}(i:0<=p/\p<s.p){u:PW}(hu:u.fit s q):m.get (zak s.p s.c s.m p)=u.enc↔σ.pg p=u:=by
 rw[b.pg p i];exact⟨PW.inj b.may (f.pf p) hu,fun e=>by rw[e]⟩
theorem Rep.zwz(b:Rep s m σ)(f:GI s σ){c i:Int}(hc:0<=c/\c<s.c)(hi:0<=i/\i<s.m):m.get (ze9 s.p s.c s.m c i)=0↔σ.mg c i= .none:=by
 rw[b.mg c i hc hi];exact⟨fun e=>MW.inj b.may (f.mf c i) (y:= .none) trivial e,fun e=>by rw[e];rfl⟩
theorem Rep.read(f:Rep s m σ)(i:GI s σ){p:Int}(j:0<=p/\p<s.p):zal s.p s.c s.m p (m.get (zak s.p s.c s.m p))=true/\zbx (m.get (zak s.p s.c s.m p))=(σ.pg p).kind/\za2 (m.get (zak s.p s.c s.m p)) 0=(σ.pg p).pa/\za2 (m.get (zak s.p s.c s.m p)) 1=(σ.pg p).pb:=by
 rw[f.pg p j];obtain⟨a,b,c⟩:=PW.read f.may (i.pf p);exact⟨PW.ya4 f.may j (i.pf p),a,b,c⟩
theorem yd7{t:Tk}(b:Rep s m σ)(y:GI s σ)(h:tkOk s t):Sim s (zd2 s t m) (tkA s t σ):=by
 unfold zd2 tkA;by_cases hd:t.done=true
 ·rw[if_pos hd,if_pos hd];exact⟨rfl,b⟩
 rw[if_neg hd,if_neg hd];have hc:=h.cl (by simpa using hd);by_cases f:t.hit=true
 ·rw[if_pos f,if_pos f];exact⟨rfl,b.z1g hc.1 hc.2 .none rfl⟩
 rw[if_neg f,if_neg f];dsimp only;rw[b.mg _ _ hc.1 hc.2];cases he:σ.mg t.c t.i with
 |none=>rw[if_neg (fun e=>by have:=e.1;rw[show MW.none.enc=0 from rfl,zya]at this;cases this)];exact⟨rfl,b.same rfl⟩
 |entry p i k=>
  have l:=y.mf t.c t.i;rw[he]at l;obtain⟨n,q,r⟩:=MW.read b.may l;rw[MW.ya4 b.may l,n,q,r];by_cases j:k=t.k
  ·rw[if_pos ⟨rfl,j⟩];dsimp only;rw[if_pos j];exact⟨rfl,b.same rfl⟩
  rw[if_neg (fun e=>j e.2)];dsimp only;rw[if_neg j];exact⟨rfl,b.same rfl⟩
theorem yfk{t:Pu}(b:Rep s m σ)(l:GI s σ)(h:puOk s t):Sim s (zd3 s t m) (puA s t σ):=by
 unfold zd3 puA;by_cases hd:t.done=true
 ·rw[if_pos hd,if_pos hd];exact⟨rfl,b⟩
 rw[if_neg hd,if_neg hd];have hc:=h.cl (by simpa using hd);by_cases j:t.hit=true
 ·rw[if_pos j,if_pos j];exact⟨rfl,b.z1g hc.1 hc.2 (.entry _ _ _) rfl⟩
 rw[if_neg j,if_neg j];dsimp only;by_cases f:σ.mg t.c t.i= .none
 ·rw[if_pos ((b.zwz l hc.1 hc.2).2 f),if_pos f];exact⟨rfl,b.same rfl⟩
 rw[if_neg (fun e=>f ((b.zwz l hc.1 hc.2).1 e)),if_neg f];exact⟨rfl,b.same rfl⟩
theorem yfh{t:Sc}(j:Rep s m σ)(z:GI s σ)(h:scOk s t):Sim s (zed s t m) (scA s t σ):=by
 unfold zed scA;by_cases hd:t.done=true
 ·rw[if_pos hd,if_pos hd];exact⟨rfl,j⟩
 rw[if_neg hd,if_neg hd];obtain⟨c1,c2,c3,E,F,G⟩:=h.cl (by simpa using hd);have y:0<=t.page s/\t.page s<s.p:=zpe (by omega);have B:=zgr c2;have hi:0<=t.i/\t.i<16:=by have:=zcy t.k;omega
 have l:m.get (zbk s.p s.c s.m (t.page s) t.i)=zc8 t.k↔σ.sl (t.page s) t.i= .opened t.k:=j.zlw z y hi (u:= .opened t.k) B;dsimp only;by_cases q:t.next=0
 ·rw[if_pos q,if_pos q];obtain⟨r1,C,D,_⟩:=j.read z y;rw[r1,C,D];refine⟨?_,j.same rfl⟩;cases σ.pg (t.page s) with
  |super k b=>
   by_cases f:k=t.k
   ·rw[if_pos ⟨rfl,rfl,f⟩];simp[PW.zpv,f]
   rw[if_neg (fun e=>f e.2.2)];simp[PW.zpv,f]
  |_=>simp[PW.zpv,PW.kind]
 rw[if_neg q,if_neg q];by_cases r:t.next=1
 ·rw[if_pos r,if_pos r];refine⟨?_,j.same rfl⟩;dsimp only;by_cases e:σ.sl (t.page s) t.i= .opened t.k
  ·rw[if_pos (l.2 e),if_pos e]
  rw[if_neg (fun n=>e (l.1 n)),if_neg e]
 rw[if_neg r,if_neg r];by_cases e:σ.sl (t.page s) t.i= .opened t.k
 ·rw[if_pos (l.2 e),if_pos e];exact⟨rfl,j.setSlot y hi (.way t.c) (zgz (l.2 e))⟩
 rw[if_neg (fun n=>e (l.1 n)),if_neg e];exact⟨rfl,j.same (zjl (fun n=>e (l.1 n)))⟩
theorem yel{t:Pc}(i:Rep s m σ)(n:GI s σ)(h:pcOk s t):Sim s (ze7 s t m) (pcA s t σ):=by
 unfold ze7 pcA;by_cases hd:t.done=true
 ·rw[if_pos hd,if_pos hd];exact⟨rfl,i⟩
 rw[if_neg hd,if_neg hd];obtain⟨c1,c2,c3⟩:=h.cl (by simpa using hd);have l:0<=t.page s/\t.page s<s.p:=zpe (by omega);have b:m.get (zak s.p s.c s.m (t.page s))=0↔_:=i.zwo n l (q:=0) (u:= .empty) trivial;dsimp only;by_cases j:t.empty=false
 ·rw[if_pos j,if_pos j];refine⟨?_,i.same rfl⟩;dsimp only;by_cases e:σ.pg (t.page s)= .empty
  ·rw[if_pos (b.2 e),if_pos e]
  rw[if_neg (fun f=>e (b.1 f)),if_neg e]
 rw[if_neg j,if_neg j];by_cases e:σ.pg (t.page s)= .empty
 ·rw[if_pos (b.2 e),if_pos e];exact⟨rfl,i.zd7 l (.held t.c) (zgz (b.2 e))⟩
 rw[if_neg (fun f=>e (b.1 f)),if_neg e];exact⟨rfl,i.same (zjl (fun f=>e (b.1 f)))⟩
theorem z8o{t:Sp}(b:Rep s m σ)(q:GI s σ)(h:spOk s t):Sim s (zdu s t m) (spA s t σ):=by
 unfold zdu spA;by_cases hd:t.done=true
 ·rw[if_pos hd,if_pos hd];exact⟨rfl,b⟩
 rw[if_neg hd,if_neg hd];obtain⟨c1,c2,c3,y,n⟩:=h.cl (by simpa using hd);have r:=zcy t.k;by_cases hb:t.back=true
 ·rw[if_pos hb,if_pos hb];have:=n hb;exact⟨rfl,b.setSlot c2 (by omega) (.opened t.k) rfl⟩
 rw[if_neg hb,if_neg hb];by_cases hi:t.i=zah t.k
 ·rw[if_pos hi,if_pos hi];exact⟨rfl,b.zd7 c2 (.held t.c) rfl⟩
 rw[if_neg hi,if_neg hi];have f:0<=t.i/\t.i<16:=by omega
 have j:m.get (zbk s.p s.c s.m t.page t.i)=zc8 t.k↔σ.sl t.page t.i= .opened t.k:=b.zlw q c2 f (u:= .opened t.k) (zgr c3);by_cases e:σ.sl t.page t.i= .opened t.k
 ·rw[if_pos (j.2 e),if_pos e];exact⟨rfl,b.setSlot c2 f (.way t.c) (zgz (j.2 e))⟩
 rw[if_neg (fun l=>e (j.1 l)),if_neg e];exact⟨rfl,b.same (zjl (fun l=>e (j.1 l)))⟩
theorem yea{t:Bn}(b:Rep s m σ)(h:bnOk s t):Sim s (ze6 s t m) (bnA s t σ):=by
 unfold ze6 bnA;by_cases hd:t.done=true
 ·rw[if_pos hd,if_pos hd];exact⟨rfl,b⟩
 rw[if_neg hd,if_neg hd];obtain⟨c1,c2,c3,l,f⟩:=h.cl (by simpa using hd);have j:=zcy t.k;by_cases hb:t.bound=true
 ·rw[if_pos hb,if_pos hb];have:=f hb;exact⟨rfl,b.setSlot c2 (by omega) (.opened t.k) rfl⟩
 rw[if_neg hb,if_neg hb];by_cases hi:t.i=16
 ·rw[if_pos hi,if_pos hi];exact⟨rfl,b.zd7 c2 (.super t.k t.c) rfl⟩
 rw[if_neg hi,if_neg hi];refine⟨rfl,b.setSlot c2 (by omega) _ ?_⟩;show m.ws.set _ _=_;split<;>rfl
theorem z9a{x:Mc}(b:Rep s m σ)(f:GI s σ)(h:mcOk s x):Sim s (zbr s x m) (mcA s x σ):=by
 cases x with
 |tk t=>have:=yd7 b f (t:=t) h;exact⟨congrArg Mc.tk this.1,this.2⟩
 |sc t=>have:=yfh b f (t:=t) h;exact⟨congrArg Mc.sc this.1,this.2⟩
 |pc t=>have:=yel b f (t:=t) h;exact⟨congrArg Mc.pc this.1,this.2⟩
 |sp t=>have:=z8o b f (t:=t) h;exact⟨congrArg Mc.sp this.1,this.2⟩
 |bn t=>have:=yea b (t:=t) h;exact⟨congrArg Mc.bn this.1,this.2⟩
theorem yda{t:Sk}(f:Rep s m σ)(i:GI s σ)(h:skOk s t):Sim s (zbv s t m) (skA s t σ):=by
 unfold zbv skA;by_cases hd:t.done=true
 ·rw[if_pos hd,if_pos hd];exact⟨rfl,f⟩
 rw[if_neg hd,if_neg hd];obtain⟨c1,c2,c3,r,j⟩:=h.cl (by simpa using hd);cases hn:t.now with
 |some x=>have:=z9a f i (j x hn).1;dsimp only;rw[this.1];exact⟨rfl,this.2⟩
 |none=>
  have l:0<=t.here s/\t.here s<s.p:=zpe (by omega)
  obtain⟨r1,n,q,_⟩:=f.read i l
  dsimp only
  rw[r1,n,q]
  refine⟨?_,f.same rfl⟩
  cases σ.pg (t.here s) with
  |super k b=>rw[if_pos ⟨rfl,rfl⟩];rfl
  |_=>simp[PW.kind]
theorem yc2{t:Rn}(f:Rep s m σ)(E:GI s σ)(h:rnOk s t):Sim s (zcr s t m) (rnA s t σ):=by
 unfold zcr rnA;by_cases hd:t.done=true
 ·rw[if_pos hd,if_pos hd];exact⟨rfl,f⟩
 rw[if_neg hd,if_neg hd];obtain⟨c1,c2,c3,N,O,r,G,H,I,C⟩:=h.cl (by simpa using hd);dsimp only;by_cases y:t.next=0
 ·rw[if_pos y,if_pos y];have i:0<=t.at'/\t.at'<s.p:=by have:=r (by omega);omega
  obtain⟨r1,L,M,_⟩:=f.read E i;rw[r1,L,M];refine⟨?_,f.same rfl⟩;cases σ.pg t.at' with
  |empty=>simp[PW.kind]
  |super k b=>simp[PW.kind,PW.pa]
  |_=>simp[PW.kind]
 rw[if_neg y,if_neg y];by_cases z:t.next=1
 ·rw[if_pos z,if_pos z];have i:0<=t.at'/\t.at'<s.p:=by have:=r (by omega);omega
  have B:m.get (zak s.p s.c s.m t.at')=0↔_:=f.zwo E i (q:=0) (u:= .empty) trivial;by_cases e:σ.pg t.at'= .empty
  ·rw[if_pos (B.2 e),if_pos e];exact⟨rfl,f.zd7 i (.held t.c) (zgz (B.2 e))⟩
  rw[if_neg (fun D=>e (B.1 D)),if_neg e];exact⟨rfl,f.same (zjl (fun D=>e (B.1 D)))⟩
 rw[if_neg z,if_neg z];by_cases j:t.next=2
 ·rw[if_pos j,if_pos j];obtain⟨x,J,F,_⟩:=G j;rw[J];have:=z8o f E F;dsimp only;rw[this.1];exact⟨rfl,this.2⟩
 rw[if_neg j,if_neg j];by_cases l:t.next=3
 ·rw[if_pos l,if_pos l];have i:0<=t.at'/\t.at'<s.p:=by have:=r (by omega);omega
  exact⟨rfl,f.setSlot i (H l) .none rfl⟩
 rw[if_neg l,if_neg l];by_cases n:t.next=4
 ·rw[if_pos n,if_pos n];have:=I n;have:=r (by omega);refine⟨rfl,f.zd7 (by omega) .empty ?_⟩;show m.ws.set _ (zb8 0 0 0)=_;rw[show zb8 0 0 0=PW.empty.enc by decide]
 rw[if_neg n,if_neg n];have:=C (by omega);exact⟨rfl,f.zd7 (by omega) (.body t.head) rfl⟩
end

end Go.Proofs.YtkbddndcegpllaaGreat
