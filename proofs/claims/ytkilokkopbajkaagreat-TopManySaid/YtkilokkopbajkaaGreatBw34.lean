/- Lemmas for the claim. -/
import Derived.Test.YtkilokkopbajkaaGreatBw33

set_option linter.all false
namespace Go.Proofs.YtkilokkopbajkaaGreat

section

def KlAt (s:Sh) (c:Int) (σ:Ab) (k:Kl):Prop:=match k.job with
 | none=> uA σ c .no
 | some j=> JbAt s c σ j
structure WI (s:Sh) (σ:Ab) (d:Wd):Prop where
 rep:Rep s d.m σ
 gi:GI s σ
 li:∀ c k,d.kl c=some k->σ.st c= .live/\KlAt s c σ k
 nl:∀ c,σ.st c= .live->∃ k,d.kl c=some k
 un:∀ c,σ.st c= .unused\/σ.st c= .done->uA σ c .no/\∀ i,σ.mg c i= .none
 ow:∀ x a,σ.st x= .owned a->σ.st a≠ .unused/\(σ.st a= .live->∃ k t,d.kl a=some k/\k.job=some (.hei t)/\t.d=x/\t.done=false/\3<=t.next)
structure Chg (j j':Jb) (σ σ':Ab):Prop where
 gave:j.gave=false->j'.gave=true->(∃ f,j.fe=some f/\xH (feBl f) σ σ'/\f.next=1/\f.done=false)/\j'.done=false
 took:∀ b,j'.took=some b->Plus (kD b) σ σ'
 calm:(j.gave=true\/j'.gave=false)->j'.took=none->Calm σ σ'
 st:∀ x,σ'.st x= .unused↔σ.st x= .unused
theorem iT{σ:Ab}{x c:Int}(h:σ.st c= .live)(b:σ.st x≠ .live):x≠c:=fun e=>b (e ▸ h)
theorem KlAt.same{s:Sh}{c:Int}{σ σ':Ab}{k:Kl}(b:klOk s k)(hc:k.c=c)(h:KlAt s c σ k)(hs:Same c σ σ')(f:Later σ σ')(h3:∀ t,k.job=some (.hei t)->t.done=false->3<=t.next->σ'.st t.d= .owned c/\Same t.d σ σ'):KlAt s c σ' k:=by
 unfold KlAt at *;cases hj:k.job with
 |none=>rw[hj]at h;exact h.same hs;|some j=>rw[hj]at h;exact h.same (hc ▸ (b.jb j hj).1) hs f fun t e=>h3 t (by rw[hj,e])
theorem dI{s:Sh}{c:Int}{σ:Ab}{k:Kl}{t:Ad}(h:KlAt s c σ k)(b:k.job=some (.hei t)):uA σ c .no/\XH s σ c t:=by
 unfold KlAt at h;rw[b]at h;exact h
theorem z6d{s:Sh}{σ σ':Ab}{d:Wd}{n:Nat}{c:Int}{k k':Kl}{j:Jb}{G:Mem}{tr:List Ev}{lg:List Acc}(h:WI s σ d)(hd:wdOk s d n)(C:d.kl c=some k)(O:k.job=some j)(N:∀ t,j≠ .hei t)(S:Rep s G σ') (b:Kept s c σ σ') (E:KlAt s c σ' k'):WI s σ' ⟨G,d.l.set c.toNat (some k'),tr,lg⟩:=by
 have B:=(h.li c k C).1;have z:=d.TB (Wd.lC C).1 (Wd.lC C).2 (some k') G tr lg;have F:=Later.XM b.2.2;refine⟨S,b.1,fun x y f=>?_,fun x f=>?_,fun x f=>?_,fun x a f=>?_⟩
 ·rw[z]at f;split at f
  ·rename_i e;subst e;injection f with f;subst f;exact⟨(b.2.2 x).trans B,E⟩
  rename_i e;obtain⟨U,H⟩:=h.li x y f;refine⟨(b.2.2 x).trans U,H.same (hd.kl x y f).1 (hd.kl x y f).2.1 (b.2.1 x e) F fun t q r D=>?_⟩;have h3:=((dI H q).2.n3 r D).1;exact⟨(b.2.2 _).trans h3,b.2.1 _ (iT B (by rw[h3];simp))⟩
 ·rw[b.2.2]at f;rw[z];split
  ·exact⟨_,rfl⟩
  exact h.nl x f
 ·rw[b.2.2]at f;have p:x≠c:=iT B (by rcases f with e|e<;>rw[e]<;>simp);obtain⟨Y,Z⟩:=h.un x f;exact⟨Y.same (b.2.1 x p),fun i=>((b.2.1 x p).m i).trans (Z i)⟩
 rw[b.2.2]at f;rw[b.2.2];obtain⟨V,X⟩:=h.ow x a f;refine⟨V,fun R=>?_⟩;obtain⟨T,t,q,r,D,I,M⟩:=X R;have p:a≠c:=fun e=>by subst e;rw[C]at q;injection q with q;subst q;rw[O]at r;injection r with r;exact N t r
 exact⟨T,t,by rw[z,jN p];exact q,r,D,I,M⟩
theorem zzn{s:Sh}{σ:Ab}{d:Int}(f:GI s σ)(h1:QB σ d s.p)(h2:gD σ d s.m)(h3:yD σ d s.p):uA σ d .no/\∀ i,σ.mg d i= .none:=by
 have q:=zV f h1;have r:=oW f h2;refine⟨⟨fun p=>⟨fun e=>absurd e (q p),fun e=>e.elim⟩,fun p g=>⟨fun e=>absurd e.2 (q g),fun e=>e.elim⟩,fun p i k=>⟨fun e=>?_,fun e=>?_⟩,fun p i k j e=>e.elim⟩,r⟩
 ·obtain⟨⟨b,l⟩,t⟩:=e;have:=GJ f l;exact absurd ⟨⟨b,l⟩,t⟩ (h3 p i k this.1.1 this.1.2)
 rcases e with e|⟨j,e⟩
 ·exact e.elim
 rw[r j]at e;cases e
theorem VY{s:Sh}{σ:Ab}{d:Wd}{n:Nat}{c:Int}{k:Kl}{t:Ad}{tr:List Ev}{lg:List Acc}(h:WI s σ d)(hd:wdOk s d n)(hk:d.kl c=some k)(hj:k.job=some (.hei t))(b8:adOk s t)(B:t.done=false)(k':Kl) (b0:k'.job=if (adA s t σ).1.done=true then none else some (.hei (adA s t σ).1)) (m':Mem) (hr:Rep s m' (adA s t σ).2):WI s (adA s t σ).2 ⟨m',d.l.set c.toNat (some k'),tr,lg⟩/\Calm σ (adA s t σ).2/\∀ x,(adA s t σ).2.st x= .unused↔σ.st x= .unused:=by
 obtain⟨N,bh⟩:=h.li c k hk;obtain⟨b3,F⟩:=dI bh hj;have z:=d.TB (Wd.lC hk).1 (Wd.lC hk).2 (some k') m' tr lg;obtain⟨c1,c2,c3,c4,c5,c6,c7,c8,c9,bj⟩:=b8.cl B;have G:=F.ne B;have I:=F.cl;have b4:∀ x,t.next<=2->σ.st x≠ .owned c:=fun x hn e=>by obtain⟨k2,R,D,r,E,e4,e5⟩:=(h.ow x c e).2 N;rw[hk]at D;injection D with D;subst D;rw[hj]at r;injection r with r;injection r with r;subst r;omega
 have b1:∀ x,σ.st x= .owned c->t.d=x:=fun x e=>by obtain⟨k2,R,D,r,E,e4,e5⟩:=(h.ow x c e).2 N;rw[hk]at D;injection D with D;subst D;rw[hj]at r;injection r with r;injection r with r;subst r;exact E
 have mk:∀ σ',(∀ t',t'=(adA s t σ).1->t'.done=false->XH s σ' c t')->uA σ' c .no->KlAt s c σ' k':=fun σ' h1 h2=>by
  unfold KlAt;rw[b0];rcases jB (adA s t σ).1.done with e|e
  ·rw[jP e];exact h2
  rw[jN (by rw[e];decide)];exact⟨h2,h1 _ rfl e⟩
 have O:(adA s t σ).2=σ->t.next<=2->(∀ t',t'=(adA s t σ).1->t'.done=false->XH s σ c t')->WI s (adA s t σ).2 ⟨m',d.l.set c.toNat (some k'),tr,lg⟩/\Calm σ (adA s t σ).2/\∀ x,(adA s t σ).2.st x= .unused↔σ.st x= .unused:=fun e0 D r=>by
  rw[e0]at hr ⊢;refine⟨⟨hr,h.gi,fun x y f=>?_,fun x f=>?_,h.un,fun x a f=>?_⟩,Calm.refl _,fun _=>.rfl⟩
  ·rw[z]at f;split at f
   ·rename_i e;subst e;injection f with f;subst f;exact⟨N,mk σ r b3⟩
   exact h.li x y f
  ·rw[z];split
   ·exact⟨_,rfl⟩
   exact h.nl x f
  obtain⟨o1,o2⟩:=h.ow x a f;refine⟨o1,fun V=>?_⟩;obtain⟨k2,R,E,e4,e5,e6,e7⟩:=o2 V;have H:a≠c:=fun e=>by subst e;exact b4 x D f
  exact⟨k2,R,by rw[z,jN H];exact E,e4,e5,e6,e7⟩
 have bi:UH 0=true:=by decide
 by_cases h0:t.next=0
 ·have Y:=aK (s:=s) (σ:=σ) B h0;refine O (by rw[Y]) (by omega) fun t' e Z=>?_;rw[Y]at e;have hf:=h.gi.tf t.d;cases f:σ.st t.d with
  |dead=>rw[f]at e;subst e;exact⟨I,fun _ e=>(by cases e),fun _ _=>.inl rfl,fun _ e=>by exfalso;have e:(3:Int)<=2:=e;omega,fun _=>G,fun _=>F.a0 (by omega)⟩
  |owned a=>rw[f]at e hf;subst e;exact⟨I,fun _ _=>⟨rfl,hf,(h.ow _ _ f).1⟩,fun _ e=>(by cases e),fun _ e=>by exfalso;have e:(3:Int)<=1:=e;omega,fun _=>G,fun _=>F.a0 (by omega)⟩
  |unused=>rw[f]at e;subst e;cases Z
  |live=>rw[f]at e;subst e;cases Z
  |done=>rw[f]at e;subst e;cases Z
 by_cases h1:t.next=1
 ·have Y:adA s t σ=(if σ.st t.who= .live then({t with next:=2}:Ad).fin 4 else {t with next:=2},σ):=by unfold adA;rw[jN (by rw[B];decide),jN h0,jP h1]
  refine O (by rw[Y]) (by omega) fun t' e Z=>?_;rw[Y]at e;obtain⟨w1,w2,w3⟩:=F.n1 B h1;by_cases f:σ.st t.who= .live
  ·have e:t'=({t with next:=2}:Ad).fin 4:=by rw[e];exact jP f
   subst e;cases Z
  have e:t'= {t with next:=2}:=by rw[e];exact jN f
  subst e;exact⟨I,fun _ e=>(by cases e),fun _ _=>.inr ⟨_,w1,w2,w3,f⟩,fun _ e=>by exfalso;have e:(3:Int)<=2:=e;omega,fun _=>G,fun _=>F.a0 (by omega)⟩
 by_cases h2:t.next=2
 ·by_cases hw:(σ.st t.d).enc=t.was
  ·have Y:adA s t σ=({t with next:=3},σ.stat t.d (.owned t.c)):=by unfold adA;rw[jN (by rw[B];decide),jN h0,jN h1,jP h2,jP hw]
   have S:σ.st t.d= .dead\/∃ o,σ.st t.d= .owned o/\σ.st o≠ .live:=by
    rcases F.n2 B h2 with e|⟨o,D,r,E,e4⟩
    ·exact .inl (TW.inj c1 (h.gi.tf _) (y:= .dead) trivial (hw.trans e))
    exact .inr ⟨o,TW.inj c1 (h.gi.tf _) r (hw.trans D),e4⟩
   have bc:σ.st t.d≠ .live:=by rcases S with e|⟨o,e,_⟩<;>rw[e]<;>simp
   have bg:σ.st t.d≠ .unused:=by rcases S with e|⟨o,e,_⟩<;>rw[e]<;>simp
   have T:σ.st t.d≠ .done:=by rcases S with e|⟨o,e,_⟩<;>rw[e]<;>simp
   have bf:∀ x,σ.st x= .live->σ.st t.d≠ .owned x:=fun x f e=>by
    rcases S with r|⟨o,r,E⟩
    ·rw[r]at e;cases e
    rw[r]at e;injection e with e;subst e;exact E f
   rw[Y]at hr b0 mk ⊢;rw[I]at hr ⊢;dsimp only at hr ⊢;have M:Later σ (σ.stat t.d (.owned c)):=by
    refine⟨fun x f=>?_,fun x f b7=>?_⟩
    ·by_cases e:x=t.d
     ·rw[e,DE];simp
     rw[bB _ _ e];exact f
    by_cases e:x=t.d
    ·rw[e,DE];simp
    rw[bB _ _ e];exact b7
   have j:(σ.stat t.d (.owned c)).st t.d= .owned c:=DE _ _ _;have b6:∀ x,(σ.stat t.d (.owned c)).st x= .unused↔σ.st x= .unused:=fun x=>by
    by_cases e:x=t.d
    ·subst e;rw[j];exact⟨fun e=>(by cases e),fun e=>absurd e bg⟩
    rw[bB _ _ e]
   refine⟨⟨hr,h.gi.stat (I ▸ c2) c3,fun x y f=>?_,fun x f=>?_,fun x f=>?_,fun x a f=>?_⟩,FW,b6⟩
   ·rw[z]at f;split at f
    ·rename_i e;subst e;injection f with f;subst f;refine⟨(bB _ _ G.symm).trans N,mk _ (fun t' e Z=>?_) (b3.same (Same.stat _ _))⟩;subst e;refine⟨I,fun _ e=>(by cases e),fun _ e=>(by cases e),fun _ _=>⟨j,?_⟩,fun _=>G,fun e=>by exfalso;have e:(3:Int)<=2:=e;omega⟩;rw[adD3 rfl];intro p g a b;have b:p<t.at':=b;rw[F.a0 (by omega)]at b;omega
    rename_i e;obtain⟨l1,l2⟩:=h.li x y f;have q:x≠t.d:=fun e=>bc (e ▸ l1);refine⟨(bB _ _ q).trans l1,l2.same (hd.kl x y f).1 (hd.kl x y f).2.1 (Same.stat _ _) M fun R D r E=>?_⟩;have h3:=((dI l2 D).2.n3 r E).1;have:R.d≠t.d:=fun e=>by rw[e]at h3;exact bf x l1 h3
    exact⟨(bB _ _ this).trans h3,Same.stat _ _⟩
   ·have q:x≠t.d:=fun e=>by rw[e,j]at f;cases f
    rw[bB _ _ q]at f;rw[z];split
    ·exact⟨_,rfl⟩
    exact h.nl x f
   ·have q:x≠t.d:=fun e=>by rw[e,j]at f;rcases f with e|e<;>cases e
    rw[bB _ _ q]at f;obtain⟨u1,u2⟩:=h.un x f;exact⟨u1.same (Same.stat _ _),u2⟩
   by_cases q:x=t.d
   ·subst q;rw[j]at f;injection f with f;subst f;refine⟨by rw[bB _ _ G.symm,N];simp,fun _=>⟨k', {t with next:=3},by rw[z,jP rfl],?_,rfl,B,by show (3:Int)<=3;omega⟩⟩;rw[b0];exact jN (by dsimp only;rw[B];decide)
   rw[bB _ _ q]at f;obtain⟨o1,o2⟩:=h.ow x a f;refine⟨M.un a o1,fun V=>?_⟩;have b5:a≠t.d:=fun e=>by rw[e,j]at V;cases V
   rw[bB _ _ b5]at V;obtain⟨k2,R,E,e4,e5,e6,e7⟩:=o2 V;have H:a≠c:=fun e=>by subst e;exact b4 x (by omega) f
   exact⟨k2,R,by rw[z,jN H];exact E,e4,e5,e6,e7⟩
  have Y:adA s t σ=(({t with next:=3}:Ad).fin 4,σ):=by unfold adA;rw[jN (by rw[B];decide),jN h0,jN h1,jP h2,jN hw]
  refine O (by rw[Y]) (by omega) fun t' e Z=>?_;rw[Y]at e;subst e;cases Z
 obtain⟨X,T⟩:=F.n3 B (by omega);have ba:∀ x,σ.st x= .live->x≠t.d:=fun x f e=>by rw[e,X]at f;cases f
 by_cases bb:t.next=13
 ·have Y:adA s t σ=(t.fin 0,σ.stat t.d .done):=by unfold adA;rw[jN (by rw[B];decide)];iterate 13 rw[jN (by omega)]
  rw[xO bb]at T;obtain⟨x1,x2⟩:=zzn h.gi T.1 T.2.1 T.2.2;rw[Y]at hr b0 mk ⊢;dsimp only at hr ⊢;have j:(σ.stat t.d .done).st t.d= .done:=DE _ _ _;have M:Later σ (σ.stat t.d .done):=by
   refine⟨fun x f=>?_,fun x f b7=>?_⟩
   ·by_cases e:x=t.d
    ·rw[e,DE];simp
    rw[bB _ _ e];exact f
   by_cases e:x=t.d
   ·rw[e,DE];simp
   rw[bB _ _ e];exact b7
  have b6:∀ x,(σ.stat t.d .done).st x= .unused↔σ.st x= .unused:=fun x=>by
   by_cases e:x=t.d
   ·subst e;rw[j,X];exact⟨fun e=>(by cases e),fun e=>(by cases e)⟩
   rw[bB _ _ e]
  refine⟨⟨hr,h.gi.stat trivial c3,fun x y f=>?_,fun x f=>?_,fun x f=>?_,fun x a f=>?_⟩,FW,b6⟩
  ·rw[z]at f;split at f
   ·rename_i e;subst e;injection f with f;subst f;exact⟨(bB _ _ G.symm).trans N,mk _ (fun t' e Z=>by subst e;cases Z) (b3.same (Same.stat _ _))⟩
   rename_i e;obtain⟨l1,l2⟩:=h.li x y f;refine⟨(bB _ _ (ba x l1)).trans l1,l2.same (hd.kl x y f).1 (hd.kl x y f).2.1 (Same.stat _ _) M fun R D r E=>?_⟩;have h3:=((dI l2 D).2.n3 r E).1;have:R.d≠t.d:=fun r=>by rw[r,X]at h3;injection h3 with h3;exact e h3.symm
   exact⟨(bB _ _ this).trans h3,Same.stat _ _⟩
  ·have q:x≠t.d:=fun e=>by rw[e,j]at f;cases f
   rw[bB _ _ q]at f;rw[z];split
   ·exact⟨_,rfl⟩
   exact h.nl x f
  ·by_cases q:x=t.d
   ·subst q;exact⟨x1.same (Same.stat _ _),x2⟩
   rw[bB _ _ q]at f;obtain⟨u1,u2⟩:=h.un x f;exact⟨u1.same (Same.stat _ _),u2⟩
  have q:x≠t.d:=fun e=>by rw[e,j]at f;cases f
  rw[bB _ _ q]at f;obtain⟨o1,o2⟩:=h.ow x a f;refine⟨M.un a o1,fun V=>?_⟩;have b5:a≠t.d:=fun e=>by rw[e,j]at V;cases V
  rw[bB _ _ b5]at V;obtain⟨k2,R,E,e4,e5,e6,e7⟩:=o2 V;have H:a≠c:=fun e=>by subst e;exact q (b1 x f).symm
  exact⟨k2,R,by rw[z,jN H];exact E,e4,e5,e6,e7⟩
 have U:=yY h.gi b8 B (by omega) T;have j:=U.kept.2.2;have M:=Later.XM j;have b2:∀ x,x≠t.d->Same x σ (adA s t σ).2:=U.kept.2.1;refine⟨⟨hr,U.kept.1,fun x y f=>?_,fun x f=>?_,fun x f=>?_,fun x a f=>?_⟩,U.calm,fun x=>by rw[j]⟩
 ·rw[z]at f;split at f
  ·rename_i e;subst e;injection f with f;subst f;refine⟨(j _).trans N,mk _ (fun t' e Z=>?_) (b3.same (b2 _ G.symm))⟩;subst e;have C:=U.on;exact⟨C.c.trans I,fun _ e=>by have:=C.nx;omega,fun _ e=>by have:=C.nx;omega,fun _ _=>⟨by rw[j,C.d];exact X,C.dd⟩,fun _=>by rw[C.d];exact G,fun e=>by have:=C.nx;omega⟩
  rename_i e;obtain⟨l1,l2⟩:=h.li x y f;refine⟨(j x).trans l1,l2.same (hd.kl x y f).1 (hd.kl x y f).2.1 (b2 x (ba x l1)) M fun R D r E=>?_⟩;have h3:=((dI l2 D).2.n3 r E).1;have:R.d≠t.d:=fun r=>by rw[r,X]at h3;injection h3 with h3;exact e h3.symm
  exact⟨(j _).trans h3,b2 _ this⟩
 ·rw[j]at f;rw[z];split
  ·exact⟨_,rfl⟩
  exact h.nl x f
 ·rw[j]at f;have q:x≠t.d:=fun e=>by rw[e,X]at f;rcases f with e|e<;>cases e
  obtain⟨u1,u2⟩:=h.un x f;exact⟨u1.same (b2 x q),fun i=>((b2 x q).m i).trans (u2 i)⟩
 rw[j]at f;rw[j];obtain⟨o1,o2⟩:=h.ow x a f;refine⟨o1,fun V=>?_⟩;obtain⟨k2,R,E,e4,e5,e6,e7⟩:=o2 V;by_cases H:a=c
 ·subst H;have C:=U.on;have b9:(adA s t σ).1.done=false:=C.dn.trans B;refine⟨k',(adA s t σ).1,by rw[z,jP rfl],by rw[b0,jN (by rw[b9];decide)],C.d.trans (b1 x f),b9,C.nx.1⟩
 exact⟨k2,R,by rw[z,jN H];exact E,e4,e5,e6,e7⟩
theorem PJ{s:Sh}{σ:Ab}{d:Wd}{n:Nat}{c:Int}{k:Kl}{j:Jb}(h:WI s σ d)(hd:wdOk s d n)(D:d.kl c=some k)(B:k.job=some j):WI s (j.rC s c σ).2 (d.step s c k).1/\Chg j (j.step s c d.m).1 σ (j.rC s c σ).2/\(j.step s c d.m).1=(j.rC s c σ).1:=by
 obtain⟨O,z,p⟩:=hd.kl c k D;obtain⟨N,C⟩:=h.li c k D;obtain⟨l,q,M,I⟩:=O.jb j B;rw[z]at l;have f:=OZ h.rep h.gi l p;have y:=MJ (m:=d.m) l p q h.rep.fi hd.fit;have G:k.step s d.m=(k.after (j.step s c d.m).1,(j.step s c d.m).2,k.tells (j.step s c d.m).1,0):=by unfold Kl.step;rw[B,z]
 unfold Wd.step;rw[G];dsimp only;have F:KlAt s c σ k=JbAt s c σ j:=by unfold KlAt;rw[B]
 rw[F]at C;by_cases E:∃ t,j= .hei t
 ·obtain⟨t,rfl⟩:=E;have r:(EA s t d.m).1=(adA s t σ).1:=by have:=f.1;injection this
  have H:=VY (tr:=d.tr++k.tells (.hei (EA s t d.m).1)) (lg:=if d.m.st<((Jb.hei t).step s c d.m).2.st then d.lg++[((Jb.hei t).step s c d.m).2.la] else d.lg) h hd D B l.1 q (k.after (.hei (EA s t d.m).1)) (by
   show (if (Jb.hei (EA s t d.m).1).done=true then none else some (Jb.hei (EA s t d.m).1))=_
   rw[r];rfl) _ f.2
  exact⟨H.1,⟨fun _ e=>(by cases e),fun b e=>(by cases e),fun _ _=>H.2.1,H.2.2⟩,f.1⟩
 have i:=tQ h.rep h.gi l p q C (fun a e=>E ⟨a,e⟩);refine⟨z6d h hd D B (fun a e=>E ⟨a,e⟩) f.2 i.kept ?_,?_,f.1⟩
 ·unfold KlAt;show (match (if (j.step s c d.m).1.done=true then none else some (j.step s c d.m).1:Option Jb) with|none=>_|some j=>_);have h1:=i.at';rw[<-f.1]at h1;rcases jB (j.step s c d.m).1.done with e|e
  ·rw[jP e];exact xY y.2.1 e h1
  rw[jN (by rw[e];decide)];exact h1
 have h1:=i.gave;have h2:=i.took;have h3:=i.calm;rw[<-f.1]at h1 h2 h3;exact⟨h1,h2,h3,fun x=>by rw[i.kept.2.2]⟩
variable {s:Sh} {σ:Ab} {d:Wd} {n:Nat} {c:Int} {k k':Kl}

theorem qQ(h:WI s σ d)(q:d.kl c=some k)(r:KlAt s c σ k')(j:k'.job=k.job\/k.job=none)(tr:List Ev)(lg:List Acc):WI s σ ⟨d.m,d.l.set c.toNat (some k'),tr,lg⟩:=by
 have f:=d.TB (Wd.lC q).1 (Wd.lC q).2 (some k') d.m tr lg;refine⟨h.rep,h.gi,fun x y b=>?_,fun x b=>?_,h.un,fun x a b=>?_⟩
 ·rw[f]at b;split at b
  ·rename_i e;subst e;injection b with b;subst b;exact⟨(h.li x k q).1,r⟩
  exact h.li x y b
 ·rw[f];split
  ·exact⟨_,rfl⟩
  exact h.nl x b
 obtain⟨F,G⟩:=h.ow x a b;refine⟨F,fun D=>?_⟩;obtain⟨E,t,i,p,z,B,C⟩:=G D;rw[f];by_cases e:a=c
 ·subst e;rw[q]at i;injection i with i;subst i;rw[jP rfl];rcases j with j|j
  ·exact⟨k',t,rfl,j.trans p,z,B,C⟩
  rw[j]at p;cases p
 rw[jN e];exact⟨E,t,i,p,z,B,C⟩
theorem UJ(h:WI s σ d)(hd:wdOk s d n)(x:Ch)(m:d.kl x.client=some k):WI s σ (d.ask s x k).1:=by
 obtain⟨r,j,l⟩:=hd.kl _ k m;obtain⟨q,b⟩:=h.li _ k m;unfold Wd.ask;refine qQ h m ?_ ?_ _ _
 ·unfold Kl.invoke;split
  ·exact b
  rename_i p;have f:k.job=none:=by
   cases f:k.job
   ·rfl
   simp[Kl.rests,f]at p
  have i:uA σ x.client .no:=by unfold KlAt at b;rw[f]at b;exact b
  split
  ·exact b
  split
  ·show KlAt s x.client σ {k with op:=x.op,told:=false,steps:=0};unfold KlAt;dsimp only;rw[f];exact i
  unfold KlAt;dsimp only;rw[j];exact z5b h.rep.may l i _ _ _ _
 unfold Kl.invoke;split
 ·exact .inl rfl
 rename_i p;have f:k.job=none:=by
  cases f:k.job
  ·rfl
  simp[Kl.rests,f]at p
 exact .inr f
theorem VP(h:WI s σ d)(hd:wdOk s d n)(x:Ch)(hc:0<=x.client/\x.client<s.c)(hu:d.stat x.client=0):WI s (σ.stat x.client .live) (d.begin s x).1:=by
 have H:=h.rep.may;have hb:=LA.1 H;have r:=(ixs h.rep.fi).2.2.2 _ hc;have f:σ.st x.client= .unused:=by have h1:=h.rep.st _ hc;rw[r]at h1;unfold Wd.stat at hu;rw[h1]at hu;have h2:=(TW.read H (h.gi.tf x.client)).1;rw[hu]at h2;cases hx:σ.st x.client<;>rw[hx]at h2<;>simp[TW.kind]at h2
 have hi:x.client.toNat<d.l.length:=by rw[hd.len];omega
 unfold Wd.begin;rw[jP hu];dsimp only;have i:=d.TB hc.1 hi (some (xE x.client (Fl.ZC x.bias s.p))) (d.m.put x.client (WA 1 0)) (d.tr++[rE x.client]) d.lg;have j:(σ.stat x.client .live).st x.client= .live:=DE _ _ _;have B:Rep s (d.m.put x.client (WA 1 0)) (σ.stat x.client .live):=h.rep.nM hc .live (by rw[r];rfl);have F:Later σ (σ.stat x.client .live):=by
  refine⟨fun y b=>?_,fun y b G=>?_⟩
  ·by_cases e:y=x.client
   ·rw[e,DE];simp
   rw[bB _ _ e];exact b
  have e:y≠x.client:=fun e=>b (e ▸ f);rw[bB _ _ e];exact G
 refine⟨B,h.gi.stat trivial hc,fun y z b=>?_,fun y b=>?_,fun y b=>?_,fun y a b=>?_⟩
 ·rw[i]at b;split at b
  ·rename_i e;subst e;injection b with b;subst b;exact⟨j,(h.un _ (.inl f)).1.same (Same.stat _ _)⟩
  rename_i e;obtain⟨T,I⟩:=h.li y z b;refine⟨(bB _ _ e).trans T,I.same (hd.kl y z b).1 (hd.kl y z b).2.1 (Same.stat _ _) F fun t C D E=>?_⟩;have h3:=((dI I C).2.n3 D E).1;have:t.d≠x.client:=fun e=>by rw[e,f]at h3;cases h3
  exact⟨(bB _ _ this).trans h3,Same.stat _ _⟩
 ·rw[i];split
  ·exact⟨_,rfl⟩
  rename_i e;rw[bB _ _ e]at b;exact h.nl y b
 ·have e:y≠x.client:=fun e=>by rw[e,j]at b;rcases b with e|e<;>cases e
  rw[bB _ _ e]at b;obtain⟨V,X⟩:=h.un y b;exact⟨V.same (Same.stat _ _),X⟩
 have e:y≠x.client:=fun e=>by rw[e,j]at b;cases b
 rw[bB _ _ e]at b;obtain⟨M,U⟩:=h.ow y a b;have q:a≠x.client:=fun e=>M (e ▸ f);rw[bB _ _ q];refine⟨M,fun R=>?_⟩;obtain⟨S,t,C,D,E,N,O⟩:=U R;exact⟨S,t,by rw[i,jN q];exact C,D,E,N,O⟩
theorem GP(h:WI s σ d)(hd:wdOk s d n)(F:d.kl c=some k):WI s (σ.stat c .dead) (d.kill c).1:=by
 obtain⟨Z,O,hc⟩:=hd.kl _ k F;obtain⟨G,R⟩:=h.li _ k F;have E:=(ixs h.rep.fi).2.2.2 _ hc;have hi:c.toNat<d.l.length:=(Wd.lC F).2;unfold Wd.kill;dsimp only;have i:=d.TB hc.1 hi none (d.m.put c (WA 2 0)) (d.tr++[QE c]) d.lg;have f:(σ.stat c .dead).st c= .dead:=DE _ _ _;have q:Rep s (d.m.put c (WA 2 0)) (σ.stat c .dead):=h.rep.nM hc .dead (by rw[E];rfl);have p:Later σ (σ.stat c .dead):=by
  refine⟨fun y b=>?_,fun y b H=>?_⟩
  ·by_cases e:y=c
   ·rw[e,DE];simp
   rw[bB _ _ e];exact b
  by_cases e:y=c
  ·rw[e,DE];simp
  rw[bB _ _ e];exact H
 refine⟨q,h.gi.stat trivial hc,fun y z b=>?_,fun y b=>?_,fun y b=>?_,fun y a b=>?_⟩
 ·rw[i]at b;split at b
  ·cases b
  rename_i e;obtain⟨T,I⟩:=h.li y z b;refine⟨(bB _ _ e).trans T,I.same (hd.kl y z b).1 (hd.kl y z b).2.1 (Same.stat _ _) p fun t B C D=>?_⟩;have h3:=((dI I B).2.n3 C D).1;have:t.d≠c:=fun e=>by rw[e,G]at h3;cases h3
  exact⟨(bB _ _ this).trans h3,Same.stat _ _⟩
 ·have e:y≠c:=fun e=>by rw[e,f]at b;cases b
  rw[bB _ _ e]at b;rw[i,jN e];exact h.nl y b
 ·have e:y≠c:=fun e=>by rw[e,f]at b;rcases b with e|e<;>cases e
  rw[bB _ _ e]at b;obtain⟨X,Y⟩:=h.un y b;exact⟨X.same (Same.stat _ _),Y⟩
 have e:y≠c:=fun e=>by rw[e,f]at b;cases b
 rw[bB _ _ e]at b;obtain⟨U,V⟩:=h.ow y a b;refine⟨p.un a U,fun r=>?_⟩;have j:a≠c:=fun e=>by rw[e,f]at r;cases r
 rw[bB _ _ j]at r;obtain⟨S,t,B,C,D,M,N⟩:=V r;exact⟨S,t,by rw[i,jN j];exact B,C,D,M,N⟩
def mJ:Ab:=⟨fun _=> .empty,fun _ _=> .none,fun _ _=> .none,fun _=> .unused⟩
theorem xM(N:Nat)(a:Int):(oF N).get a=0:=by
 unfold Mem.get oF;dsimp only;rw[List.getD_eq_getElem?_getD,List.getElem?_replicate];split<;>rfl
theorem yQ(h:mayB s.p s.c s.m=true):WI s mJ (ZA s):=by
 have h0:=aP h;have l:∀ c,uA mJ c .no:=fun c=>by
  refine⟨fun p=>⟨fun e=>?_,fun e=>e.elim⟩,fun p g=>⟨fun e=>?_,fun e=>e.elim⟩,fun p i k=>⟨fun e=>?_,fun e=>?_⟩,fun p i k j e=>e.elim⟩
  ·cases e
  ·cases e.1
  ·obtain⟨⟨b,e⟩,_⟩:=e;cases e
  rcases e with e|⟨j,e⟩
  ·exact e.elim
  cases e
 refine⟨⟨h0.fi,fun p q=>?_,fun p i q hi=>?_,fun c i hc hi=>?_,fun c hc=>?_⟩,?_,fun c k f=>?_,fun c e=>(by cases e),fun c _=>⟨l c,fun _=>rfl⟩,fun x a e=>(by cases e)⟩
 ·exact xM _ _
 ·exact xM _ _
 ·exact xM _ _
 ·exact(xM _ _).trans (show (0:Int)=WA 0 0 by decide)
 ·exact⟨fun _=>trivial,fun _ _=>trivial,fun _ _=>trivial,fun _=>trivial,fun c i e=>absurd rfl e,fun c e=>absurd rfl e,fun p i=>rfl,fun p h e=>(by cases e),fun p n e=>(by cases e),fun c j p i k e=>(by cases e),fun c j j' p i k k' e=>(by cases e)⟩
 unfold Wd.kl ZA at f;dsimp only at f;rw[List.getD_eq_getElem?_getD,List.getElem?_replicate]at f;split at f
 ·split at f<;>simp at f
 cases f
end

section

variable {s:Sh} {σ σ':Ab} {d d':Wd} {J:Jd} {n:Nat}

structure PtOk (σ:Ab) (d:Wd) (c:Int) (p:Pt):Prop where
 was:p.was=true↔σ.st c≠ .unused
 lives:p.lives=true↔∃ k,d.kl c=some k
 asks:p.asks=true↔∃ k j,d.kl c=some k/\k.job=some j
 op:∀ k j,d.kl c=some k->k.job=some j->(p.k=k.op.k/\p.a=k.op.a/\p.n=k.op.n)/\p.took=false/\p.gave=j.gave/\k.told=j.gave/\vF σ.has p.ab k.op j
def Jd.pt (J:Jd) (c:Int):Pt:=J.ps.getD c.toNat Pt.zero
structure JI (s:Sh) (σ:Ab) (d:Wd) (J:Jd):Prop where
 W:J.W=s.p * 64
 why:J.why=0
 bl:KD J.W σ.has J.l
 pl:J.ps.length=s.c.toNat
 pt:∀ c,0<=c->c < s.c->PtOk σ d c (J.pt c)
 ab:∀ c,0<=c->c < s.c->(J.pt c).asks=true->iB (J.pt c).a J.l=false->(J.pt c).ab=true
theorem VD(l:List Bk)(p:Pt):(abP l p).was=p.was/\(abP l p).lives=p.lives/\(abP l p).asks=p.asks/\(abP l p).k=p.k/\(abP l p).a=p.a/\(abP l p).n=p.n/\(abP l p).took=p.took/\(abP l p).gave=p.gave/\(abP l p).at'=p.at'/\(p.ab=true->(abP l p).ab=true)/\(p.asks=true->iB p.a l=false->(abP l p).ab=true):=by
 unfold abP;split
 ·exact⟨rfl,rfl,rfl,rfl,rfl,rfl,rfl,rfl,rfl,fun _=>rfl,fun _ _=>rfl⟩
 rename_i h;exact⟨rfl,rfl,rfl,rfl,rfl,rfl,rfl,rfl,rfl,id,fun h1 h2=>absurd ⟨h2,h1⟩ h⟩
structure yG (J J':Jd) (c:Int) (l':List Bk) (v:Pt):Prop where
 W:J'.W=J.W
 why:J'.why=0
 l:J'.l=l'
 pl:J'.ps.length=J.ps.length
 mine:J'.pt c=abP l' v
 other:∀ x,0<=x->x.toNat < J.ps.length->x≠c->J'.pt x=abP l' (J.pt x)
theorem VT{l:List Pt}{i j:Nat}{v z:Pt}(f:Pt->Pt)(hi:i<l.length)(b:j<l.length):((l.set i v).map f).getD j z=f (if i=j then v else l.getD j z):=by
 rw[List.getD_eq_getElem?_getD,List.getElem?_map,List.getElem?_set];by_cases e:i=j
 ·subst e;simp[hi]
 simp[e,b]
theorem JE{e:Ev}{l':List Bk}{v:Pt}(f:J.why=0)(hc:0<=e.c/\e.c.toNat<J.ps.length)(h:whyJ J.W J.l J.ps e=⟨0,l',J.ps.set e.c.toNat v⟩):yG J (CA J e) e.c l' v:=by
 have hb:CG J e=true:=(HI J e).2 ⟨f,by rw[h]⟩;have b:=RK hb;rw[h]at b;rw[b];refine⟨rfl,f,rfl,by simp,?_,fun x h0 h1 h2=>?_⟩
 ·show ((J.ps.set e.c.toNat v).map (abP l')).getD e.c.toNat Pt.zero=_;rw[VT _ hc.2 hc.2,if_pos rfl]
 show ((J.ps.set e.c.toNat v).map (abP l')).getD x.toNat Pt.zero=_;rw[VT _ hc.2 h1,if_neg (by omega)];rfl
theorem PtOk.heard{p:Pt}{x:Int}{l':List Bk}(h:PtOk σ d x p)(y:σ'.st x= .unused↔σ.st x= .unused)(i:d'.kl x=d.kl x)(f:(∀ b,σ'.has b->σ.has b)\/(∀ b,σ.has b->σ'.has b))(h1:EK σ.has){W:Int}(t:KD W σ'.has l'):PtOk σ' d' x (abP l' p):=by
 obtain⟨a1,E,F,G,H,I,M,N,X,m,q⟩:=VD l' p;refine⟨by rw[a1,h.was];exact not_congr y.symm,by rw[E,i];exact h.lives,by rw[F,i];exact h.asks,fun k j r C=>?_⟩;rw[i]at r;obtain⟨⟨O,B,R⟩,S,T,U,V⟩:=h.op k j r C;refine⟨⟨G.trans O,H.trans B,I.trans R⟩,M.trans S,N.trans T,U,V.mono m fun b hb D=>?_⟩;rcases f with f|f
 ·by_cases l:σ'.has b
  ·exact .inr l
  refine .inl (q (h.asks.2 ⟨k,j,r,C⟩) ?_);cases hf:iB p.a l' with
  |false=>rfl;|true=>obtain⟨z,f1,f2⟩:=(t.found _).1 hf;have:z=b:=h1 z b (f _ f1) D (by rw[f2,B,hb]);subst this;exact absurd f1 l
 exact .inr (f b D)
theorem KI(h:WI s σ d):EK σ.has:=fun _ _ h1 h2 h3=>NY h.gi h1 h2 h3
structure JX (s:Sh) (σ:Ab) (d:Wd) (J:Jd) (c:Int):Prop where
 W:J.W=s.p * 64
 why:J.why=0
 bl:KD J.W σ.has J.l
 pl:J.ps.length=s.c.toNat
 pt:∀ x,x≠c->0<=x->x < s.c->PtOk σ d x (J.pt x)
 ab:∀ x,0<=x->x < s.c->(J.pt x).asks=true->iB (J.pt x).a J.l=false->(J.pt x).ab=true
theorem JI.jx(h:JI s σ d J)(c:Int):JX s σ d J c:=⟨h.W,h.why,h.bl,h.pl,fun x _=>h.pt x,h.ab⟩
theorem JX.ji{c:Int}(h:JX s σ d J c)(hc:PtOk σ d c (J.pt c)):JI s σ d J:=⟨h.W,h.why,h.bl,h.pl,fun x h0 h1=>by
 by_cases e:x=c
 ·subst e;exact hc
 ·exact h.pt x e h0 h1,h.ab⟩
theorem kH{c:Int}{l':List Bk}{v:Pt}{J':Jd}(h:JX s σ d J c)(f:yG J J' c l' v)(j:KD J.W σ'.has l')(t:∀ x,x≠c->(σ'.st x= .unused↔σ.st x= .unused))(r:∀ x,x≠c->d'.kl x=d.kl x)(m:(∀ b,σ'.has b->σ.has b)\/(∀ b,σ.has b->σ'.has b)) (h1:EK σ.has):JX s σ' d' J' c:=by
 have i:∀ x,0<=x->x<s.c->x.toNat<J.ps.length:=fun x h0 h1=>by rw[h.pl];omega
 refine⟨f.W.trans h.W,f.why,by rw[f.W,f.l];exact j,f.pl.trans h.pl,fun x e h0 h2=>?_,fun x h0 h2=>?_⟩
 ·rw[f.other x h0 (i x h0 h2) e];exact(h.pt x e h0 h2).heard (t x e) (r x e) m h1 j
 have ab:∀ p,(abP l' p).asks=true->iB (abP l' p).a l'=false->(abP l' p).ab=true:=fun p C D=>by obtain⟨a1,E,z,F,B,G,H,I,M,y,q⟩:=VD l' p;exact q (z ▸ C) (B ▸ D)
 rw[f.l];by_cases e:x=c
 ·subst e;rw[f.mine];exact ab _
 rw[f.other x h0 (i x h0 h2) e];exact ab _
theorem oM{c:Int}(h:JX s σ d J c)(hc:Calm σ σ')(l:∀ x,x≠c->(σ'.st x= .unused↔σ.st x= .unused))(f:∀ x,x≠c->d'.kl x=d.kl x):JX s σ' d' J c:=by
 refine⟨h.W,h.why,h.bl.congr hc,h.pl,fun x e h0 h2=>?_,h.ab⟩;have i:=h.pt x e h0 h2;refine⟨by rw[i.was];exact not_congr (l x e).symm,by rw[f x e];exact i.lives,by rw[f x e];exact i.asks,fun k j m z=>?_⟩;rw[f x e]at m;obtain⟨p,q,r,t,y⟩:=i.op k j m z;exact⟨p,q,r,t,y.mono id fun b _ hb=>.inr ((hc b).2 hb)⟩
theorem uF{z:Int}(h:JX s σ d J z){c:Int}(hc:0<=c/\c<s.c):0<=c/\c.toNat<J.ps.length:=⟨hc.1,by rw[h.pl];omega⟩
theorem eQ{z:Int}(h:JX s σ d J z){e:Ev}(hc:0<=e.c/\e.c<s.c)(b:0<=e.k/\e.k<3)(h0:rD (J.pt e.c) e=0):whyJ J.W J.l J.ps e=⟨0,J.l,J.ps.set e.c.toNat (LD (J.pt e.c) e)⟩:=by
 have f:=uF h hc;have h0:rD (J.ps.getD e.c.toNat Pt.zero) e=0:=h0;unfold whyJ;rw[if_neg (by omega),if_pos (by omega),h0];rfl
theorem z5v{z:Int}(h:JX s σ d J z){e:Ev}(hc:0<=e.c/\e.c<s.c)(i:e.k=4)(j:(J.pt e.c).lives=true/\(J.pt e.c).asks=true)(h0:IF J.l (J.pt e.c) e=0):whyJ J.W J.l J.ps e=⟨0,DB J.l e.at',J.ps.set e.c.toNat { J.pt e.c with gave:=true}⟩:=by
 have m:=uF h hc;obtain⟨b,f⟩:=j;unfold Jd.pt at b f h0;unfold whyJ;rw[if_neg (by omega),if_neg (by omega),b,f,if_neg (by simp),if_neg (by omega),if_pos i,h0];rfl
theorem z5f{z:Int}(h:JX s σ d J z){e:Ev}(hc:0<=e.c/\e.c<s.c)(i:e.k=3)(j:(J.pt e.c).lives=true/\(J.pt e.c).asks=true)(h0:HF J.W J.l (J.pt e.c) e=0):whyJ J.W J.l J.ps e=⟨0,putB J.l e.at' e.n,J.ps.set e.c.toNat { J.pt e.c with took:=true,at':=e.at'}⟩:=by
 have m:=uF h hc;obtain⟨b,f⟩:=j;unfold Jd.pt at b f h0;unfold whyJ;rw[if_neg (by omega),if_neg (by omega),b,f,if_neg (by simp),if_pos i,h0];rfl
theorem RO{z:Int}(h:JX s σ d J z){e:Ev}(hc:0<=e.c/\e.c<s.c)(j:e.k=5)(i:(J.pt e.c).lives=true/\(J.pt e.c).asks=true)(h0:DC (J.pt e.c) e=true):whyJ J.W J.l J.ps e=⟨0,J.l,J.ps.set e.c.toNat { J.pt e.c with asks:=false}⟩:=by
 have m:=uF h hc;obtain⟨b,f⟩:=i;unfold Jd.pt at b f h0;unfold whyJ;rw[if_neg (by omega),if_neg (by omega),b,f,if_neg (by simp),if_neg (by omega),if_neg (by omega),h0];rfl
theorem DP{c:Int}{p:Pt}{k:Kl}(r:p.was=true↔σ'.st c≠ .unused)(q:p.lives=true)(m:p.asks=false)(i:d'.kl c=some k)(l:k.job=none):PtOk σ' d' c p:=by
 refine⟨r,by rw[q];exact⟨fun _=>⟨k,i⟩,fun _=>rfl⟩,⟨fun e=>absurd (m.symm.trans e) (by decide),fun ⟨t,j,b,f⟩=>?_⟩,fun t j b f=>?_⟩
 ·rw[i]at b;injection b with b;subst b;rw[l]at f;cases f
 rw[i]at b;injection b with b;subst b;rw[l]at f;cases f
theorem xP{c:Int}{j:Jb}{b:Blk}(F:mayB s.p s.c s.m=true)(hc:0<=c/\c<s.c)(q:jbIs s c j)(h:j.took=some b):j.done=true/\j.err=0/\(j.gave=true\/∃ r x,j= .mal r x):=by
 cases j with
 |mal r x=>
  have l:(if KC x=true then r.got else none)=some b:=h;split at l
  ·rename_i i;rcases x with _|y
   ·cases i
   have t:=q.2 y rfl;refine⟨?_,?_,.inr ⟨r,_,rfl⟩⟩
   ·show (r.done&&(!r.got.isSome||y.done))=true;rw[t.2.1,t.2.2.1];simp
   show (if r.got.isSome=true then(0:Int) else 3)=0;rw[if_pos (by rw[l];rfl)]
  cases l
 |fre f=>cases h;|aga r=>
  have h:(if r.done=true/\r.err=0 then(match r.res with|some x=>x.got|none=>none) else none)=some b:=h;split at h
  ·rename_i i;obtain⟨G,C,f,D,E,z,B⟩:=q.fin i.1 i.2;refine⟨i.1,i.2,.inl ?_⟩;show (match r.free with|some f=>f.gave|none=>false)=true;rw[z];exact B
  cases h
 |hei a=>cases h
theorem eK{p:Pt}{e:Ev}(h:e.er=0):DC p e=CE p e.at':=if_pos h
theorem nO{p:Pt}{e:Ev}(h:e.er≠0)(h1:p.took=false)(h2:p.gave=false)(h3:e.at'=0):DC p e=(if e.er=1 then XF p else if e.er=3 then p.k==1||p.k==3 else if e.er=4\/e.er=5 then p.k==4 else false):=by
 unfold DC;rw[if_neg h,if_neg (by rw[h1,h2,h3];simp)]
theorem CQ{p:Pt}{e:Ev}(h:e.er=1)(h1:p.took=false)(h2:p.gave=false)(h3:e.at'=0):DC p e=XF p:=by
 rw[nO (by omega) h1 h2 h3,if_pos h]
theorem vQ{p:Pt}{e:Ev}(h:e.er=3)(h1:p.took=false)(h2:p.gave=false)(h3:e.at'=0):DC p e=(p.k==1||p.k==3):=by
 rw[nO (by omega) h1 h2 h3,if_neg (by omega),if_pos h]
theorem TT{p:Pt}{e:Ev}(h:e.er=4\/e.er=5)(h1:p.took=false)(h2:p.gave=false)(h3:e.at'=0):DC p e=(p.k==4):=by
 rw[nO (by omega) h1 h2 h3,if_neg (by omega),if_neg (by omega),if_pos h]
theorem eW{c:Int}{j:Jb}{o:Op3}{p:Pt}{H:Bl->Prop}(N:mayB s.p s.c s.m=true)(hc:0<=c/\c<s.c)(F:jbIs s c j)(hd:j.done=true)(q:vF H p.ab o j)(z:p.k=o.k/\p.a=o.a/\p.n=o.n)(B:p.gave=j.gave)(O:(j.took=none/\p.took=false)\/∃ b,j.took=some b/\p.took=true/\p.at'=b.at'):DC p (OA c o (sB j.took) j.err)=true:=by
 rcases O with⟨t1,t⟩|⟨b,t1,t,t3⟩
 ·rw[t1];cases j with
  |mal r x=>
   have l:(Jb.mal r x).err=3:=by
    show (if r.got.isSome=true then(0:Int) else 3)=3
    cases hgot:r.got with
    |none=>rfl
    |some b=>
     exfalso
     have hd:(r.done&&(!r.got.isSome||KC x))=true:=hd
     rw[hgot]at hd
     have R:KC x=true:=by simpa using(Bool.and_eq_true _ _ ▸ hd).2
     have t1:(if KC x=true then r.got else none)=none:=t1
     rw[if_pos R,hgot]at t1;cases t1
   rw[vQ (e:=OA c o (sB none) (Jb.mal r x).err) l t B rfl,z.1,q.1];rfl
  |fre f=>
   rcases Bool.eq_false_or_eq_true f.gave with e|e
   ·have l:(Jb.fre f).err=0:=if_pos e;have i:p.gave=true:=B.trans e;rw[eK (e:=OA c o (sB none) (Jb.fre f).err) l];unfold CE;rw[z.1,q.1,if_neg (by decide),if_pos rfl,i];rfl
   have l:(Jb.fre f).err=1:=if_neg (by rw[e];decide);have i:p.gave=false:=B.trans e;rw[CQ (e:=OA c o (sB none) (Jb.fre f).err) l t i rfl];unfold XF;rw[z.1,q.1,if_neg (by decide),if_pos rfl];exact q.2.no hd e
  |aga r=>
   obtain⟨f1,f2,T,U,M⟩:=q;rcases M hd with e|⟨D,E⟩|⟨D,E,I⟩
   ·exfalso;obtain⟨V,S,f,a1,G,_⟩:=F.fin hd e;have t1:(if r.done=true/\r.err=0 then(match r.res with|some x=>x.got|none=>none) else none)=none:=t1;rw[if_pos ⟨hd,e⟩,a1]at t1;dsimp only at t1;rw[G]at t1;cases t1
   ·have l:(Jb.aga r).err=3:=D;have i:p.gave=false:=B.trans E;rw[vQ (e:=OA c o (sB none) (Jb.aga r).err) l t i rfl,z.1,f1];rfl
   have l:(Jb.aga r).err=1:=D;have i:p.gave=false:=B.trans E;rw[CQ (e:=OA c o (sB none) (Jb.aga r).err) l t i rfl];unfold XF;rw[z.1,f1,if_neg (by decide),if_neg (by decide),if_pos rfl,I];rfl
  |hei a=>
   have i:p.gave=false:=B;have y:p.k=4:=z.1.trans q.1;rcases q.2 hd with e|e|e
   ·have l:(Jb.hei a).err=0:=e;rw[eK (e:=OA c o (sB none) (Jb.hei a).err) l];unfold CE;rw[y,if_neg (by decide),if_neg (by decide)];rfl
   ·have l:(Jb.hei a).err=4:=e;rw[TT (e:=OA c o (sB none) (Jb.hei a).err) (.inl l) t i rfl,y];rfl
   have l:(Jb.hei a).err=5:=e;rw[TT (e:=OA c o (sB none) (Jb.hei a).err) (.inr l) t i rfl,y];rfl
 obtain⟨_,h2,h3⟩:=xP N hc F t1;have C:=(mV q t1).2.2;rw[eK (e:=OA c o (sB j.took) j.err) h2];show CE p (sB j.took)=true;rw[t1];unfold CE;rw[if_pos (by rw[z.1];exact C),t,t3];simp[sB]
theorem KY(h:JI s σ d J)(hw:WI s σ d)(hd:wdOk s d n){c:Int}{k:Kl}{j:Jb}(hk:d.kl c=some k)(hj:k.job=some j):WI s (j.rC s c σ).2 (d.step s c k).1/\JI s (j.rC s c σ).2 (d.step s c k).1 (runJ J (k.step s d.m).2.2.1):=by
 obtain⟨w1,chg,b8⟩:=PJ hw hd hk hj;refine⟨w1,?_⟩;obtain⟨ho,bc,t⟩:=hd.kl c k hk;obtain⟨cg,bh⟩:=hw.li c k hk;obtain⟨bg,bs,cf,cd⟩:=ho.jb j hj;rw[bc]at bg;have c5:JbAt s c σ j:=by unfold KlAt at bh;rw[hj]at bh;exact bh
 have G:=MJ (m:=d.m) bg t bs hw.rep.fi hd.fit;have bu:k.step s d.m=(k.after (j.step s c d.m).1,(j.step s c d.m).2,k.tells (j.step s c d.m).1,0):=by unfold Kl.step;rw[hj,bc]
 have hP:=h.pt c t.1 t.2;obtain⟨q1,q2,q3,q4,q5⟩:=hP.op k j hk hj;have i:(J.pt c).lives=true:=hP.lives.2 ⟨k,hk⟩;have B:(J.pt c).asks=true:=hP.asks.2 ⟨k,j,hk,hj⟩;have b4:=KI hw;have hX:=h.jx c
 have c4:(∀ b,σ.has b->b.at'≠k.op.a)->(J.pt c).ab=true:=fun hb=>by
  refine h.ab c t.1 t.2 B ?_
  cases hf:iB (J.pt c).a J.l with
  |false=>rfl
  |true=>
   obtain⟨b,b1,b2⟩:=(h.bl.found _).1 hf
   exact absurd (b2.trans q1.2.1) (hb b b1)
 have M:=fun (ab':Bool) c7 bi=>zzb (ab':=ab') hw.rep hw.gi bg t bs c5 q5 c4 c7 bi;have b5:∀ x,x≠c->(d.step s c k).1.kl x=d.kl x:=fun x hx=>by unfold Wd.step;rw[d.TB (Wd.lC hk).1 (Wd.lC hk).2,if_neg hx]
 have N:(d.step s c k).1.kl c=some (k.after (j.step s c d.m).1):=by unfold Wd.step;rw[d.TB (Wd.lC hk).1 (Wd.lC hk).2,if_pos rfl,bu]
 have b6:∀ x,x≠c->((j.rC s c σ).2.st x= .unused↔σ.st x= .unused):=fun x _=>chg.st x;have ba:∀ p:Pt,p.was=(J.pt c).was->(p.was=true↔(j.rC s c σ).2.st c≠ .unused):=fun p e=>by rw[e,hP.was];exact not_congr (chg.st c).symm
 have c6:=b8;generalize (d.step s c k).1=d' at *;rw[bu];dsimp only;rw[b8]at chg N G ⊢;generalize cb:(j.rC s c σ).2=σ' at *;generalize cc:(j.rC s c σ).1=j' at *;have U:jbIs s c j':=G.2.1;have ch:(k.after j').op=k.op:=rfl;have bj:(k.after j').told=(k.told||j'.gave):=rfl;have b9:(k.after j').job=if j'.done=true then none else some j':=rfl;have V:∀ (p:Pt),j'.done=false->p.was=(J.pt c).was->p.lives=true->p.asks=true->p.k=(J.pt c).k->p.a=(J.pt c).a->p.n=(J.pt c).n->p.took=false->p.gave=j'.gave->vF σ'.has p.ab k.op j'->PtOk σ' d' c p:=fun p e0 e1 e2 e3 e4 e5 e6 e7 e8 e9=>by
  have bq:(k.after j').job=some j':=by rw[b9,if_neg (by rw[e0];decide)]
  refine⟨ba p e1,⟨fun _=>⟨_,N⟩,fun _=>e2⟩,⟨fun _=>⟨_,_,N,bq⟩,fun _=>e3⟩,fun k2 j2 f1 f2=>?_⟩;rw[N]at f1;injection f1 with f1;subst f1;rw[bq]at f2;injection f2 with f2;subst f2;refine⟨⟨e4.trans q1.1,e5.trans q1.2.1,e6.trans q1.2.2⟩,e7,e8,?_,e9⟩;rw[bj,q4];rcases Bool.eq_false_or_eq_true j.gave with e|e
  ·rw[e,G.2.2.2 e];rfl
  rw[e];rfl
 have rests:∀ (p:Pt),j'.done=true->p.was=(J.pt c).was->p.lives=true->p.asks=false->PtOk σ' d' c p:=fun p e0 e1 e2 e3=>DP (ba p e1) e2 e3 N (by rw[b9,if_pos e0])
 unfold Kl.tells;rw[q4,bc];by_cases F:j'.gave=true/\j.gave=false
 ·obtain⟨⟨f,f1,f2,f3,f4⟩,bv⟩:=chg.gave F.2 F.1;rw[if_pos F,if_neg (by rw[bv];decide)]
  have bn:(feBl f).at'=k.op.a/\mayG (J.pt c)=true:=by
   cases j with
   |fre f'=>
    injection f1 with f1;subst f1
    exact⟨q5.2.bl f4 (by omega),by unfold mayG;rw[q1.1,q5.1];rfl⟩
   |aga r=>exact⟨(q5.2.2.2.1 f f1).bl f4 (by omega),by unfold mayG;rw[q1.1,q5.1];rfl⟩
   |mal r x=>cases f1
   |hei a=>cases f1
  have R:=h.bl.minus b4 f2.1 f2.2;rw[bn.1]at R
  have ca:=z5v (z:=c) hX (e:=pE c k.op.a) t rfl ⟨i,B⟩ (by
   unfold IF
   show (if mayG (J.pt c)=false\/(J.pt c).gave=true\/k.op.a≠(J.pt c).a then 5 else if iB k.op.a J.l=true then 0 else 3)=0
   rw[if_neg (by rw[bn.2,q3,F.2,q1.2.1];simp),if_pos R.1])
  have hH:=JE (e:=pE c k.op.a) h.why (uF (z:=c) hX t) ca;have y:=kH (σ':=σ') (d':=d') hX hH R.2 b6 b5 (.inl fun b hb=>((f2.2 b).1 hb).1) b4;show JI s σ' d' (CA J (pE c k.op.a));refine y.ji ?_;have q:(CA J (pE c k.op.a)).pt c=abP (DB J.l k.op.a) { J.pt c with gave:=true}:=hH.mine;rw[q];obtain⟨a1,a2,a3,a4,a5,a6,a7,a8,a9,bb,bw⟩:=VD (DB J.l k.op.a) { J.pt c with gave:=true};exact V _ bv a1 (a2.trans i) (a3.trans B) a4 a5 a6 (a7.trans q2) (a8.trans F.1.symm) (M _ bb fun e=>by rw[F.1,F.2]at e;cases e)
 rw[if_neg F,List.nil_append];have Z:j'.gave=j.gave:=by
  rcases Bool.eq_false_or_eq_true j.gave with e|e
  ·rw[e,G.2.2.2 e]
  rw[e];cases e2:j'.gave with
  |false=>rfl
  |true=>exact absurd ⟨e2,e⟩ F
 have bm:j.gave=true\/j'.gave=false:=by
  rw[Z];cases j.gave
  ·exact .inr rfl
  exact .inl rfl
 rcases Bool.eq_false_or_eq_true j'.done with C|C
 ·rw[if_pos C];cases E:j'.took with
  |some b=>
   obtain⟨_,t2,t3⟩:=xP hw.rep.may t U E;have T:=chg.took b E;obtain⟨bx,bz⟩:=pO b;have b7:σ'.has (kD b):=(T.2 _).2 (.inr rfl);have bp:=WJ w1.gi b7;rw[<-h.W]at bp;have R:=h.bl.plus T.2 bp fun x hx=>xW w1.gi ((T.2 x).2 (.inl hx)) b7 fun e=>T.1 (e ▸ hx);rw[bx,bz]at R;have bf:=M (J.pt c).ab id fun _ b' _ O=>(T.2 b').2 (.inl O);obtain⟨g1,g2,g3⟩:=mV bf E;have c8:mayT (J.pt c)=true:=by
    unfold mayT;rw[q1.1];rcases g3 with e|e
    ·rw[e];rfl
    rcases t3 with e2|⟨r,x,e2⟩
    ·rw[e,q3,<- Z,e2];rfl
    rw[e2]at bf;rw[bf.1]at e;cases e
   have c9:=z5f (z:=c) hX (e:=kE c b.at' b.len) t rfl ⟨i,B⟩ (by
    unfold HF
    show (if mayT (J.pt c)=false\/(J.pt c).took=true\/lenB (J.pt c).n=false\/lenV (J.pt c).n≠b.len then 5 else if AB J.W J.l b.at' b.len=true then 0 else 2)=0
    rw[if_neg (by rw[c8,q2,q1.2.2,g1,g2];simp),if_pos R.1])
   have hH:=JE (e:=kE c b.at' b.len) h.why (uF (z:=c) hX t) c9;have y:=kH (σ':=σ') (d':=d') hX hH R.2 b6 b5 (.inr fun b hb=>(T.2 b).2 (.inl hb)) b4;have q:(CA J (kE c b.at' b.len)).pt c=abP (putB J.l b.at' b.len) { J.pt c with took:=true,at':=b.at'}:=hH.mine;obtain⟨a1,a2,a3,a4,a5,a6,a7,a8,a9,bb,bw⟩:=VD (putB J.l b.at' b.len) { J.pt c with took:=true,at':=b.at'};show JI s σ' d' (CA (CA J (kE c b.at' b.len)) (OA c k.op (sB (some b)) j'.err));generalize CA J (kE c b.at' b.len)=J1 at *;have I:=eW (p:=J1.pt c) hw.rep.may t U C (H:=σ'.has) (by rw[q];exact M _ bb fun _ b' _ O=>(T.2 b').2 (.inl O)) (by rw[q];exact⟨a4.trans q1.1,a5.trans q1.2.1,a6.trans q1.2.2⟩) (by rw[q];exact a8.trans (q3.trans Z.symm)) (.inr ⟨b,E,by rw[q];exact a7,by rw[q];exact a9⟩);rw[E]at I;have bk:=RO (z:=c) y (e:=OA c k.op (sB (some b)) j'.err) t rfl (by show (J1.pt c).lives=true/\(J1.pt c).asks=true;rw[q];exact⟨a2.trans i,a3.trans B⟩) I;have X:=JE (e:=OA c k.op (sB (some b)) j'.err) y.why (uF (z:=c) y t) bk;have S:=KI w1;have Y:=kH (σ':=σ') (d':=d') y X y.bl (fun _ _=>.rfl) (fun _ _=>rfl) (.inl fun _ h=>h) S;refine Y.ji ?_;have b0:=X.mine;have b0:(CA J1 (OA c k.op (sB (some b)) j'.err)).pt c=abP J1.l { J1.pt c with asks:=false}:=b0;rw[b0];obtain⟨b1,b2,b3,_⟩:=VD J1.l { J1.pt c with asks:=false};refine rests _ C (b1.trans ?_) (b2.trans ?_) b3
   ·show (J1.pt c).was=_;rw[q];exact a1
   show (J1.pt c).lives=_;rw[q];exact a2.trans i
  |none=>have D:=chg.calm bm E;have y:=oM (σ':=σ') (d':=d') hX D b6 b5;have I:=eW (p:=J.pt c) hw.rep.may t U C (H:=σ'.has) (M _ id fun _ b' _ O=>(D b').2 O) q1 (q3.trans Z.symm) (.inl ⟨E,q2⟩);rw[E]at I;have bk:=RO (z:=c) y (e:=OA c k.op (sB none) j'.err) t rfl ⟨i,B⟩ I;have X:=JE (e:=OA c k.op (sB none) j'.err) y.why (uF (z:=c) y t) bk;have S:=KI w1;have Y:=kH (σ':=σ') (d':=d') y X y.bl (fun _ _=>.rfl) (fun _ _=>rfl) (.inl fun _ h=>h) S;show JI s σ' d' (CA J (OA c k.op (sB none) j'.err));refine Y.ji ?_;have b0:(CA J (OA c k.op (sB none) j'.err)).pt c=abP J.l { J.pt c with asks:=false}:=X.mine;rw[b0];obtain⟨b1,b2,b3,_⟩:=VD J.l { J.pt c with asks:=false};exact rests _ C b1 (b2.trans i) b3
 rw[if_neg (by rw[C];decide)]
 have E:j'.took=none:=by
  cases e:j'.took with
  |none=>rfl
  |some b=>have:=(xP hw.rep.may t U e).1;rw[C]at this;cases this
 have D:=chg.calm bm E;have y:=oM (σ':=σ') (d':=d') hX D b6 b5;exact y.ji (V _ C rfl i B rfl rfl rfl q2 (q3.trans Z.symm) (M _ id fun _ b' _ O=>(D b').2 O))
end

section

variable {s:Sh} {σ:Ab} {d:Wd} {J:Jd} {n:Nat} {c:Int}

theorem z4g(hs:mayB s.p s.c s.m=true)(hc:0<=c/\c<s.c)(f:Int){o:Op3}(B:1<=o.k/\o.k<=4)(q:zD s c o.k o.a o.n=false)(H:Bl->Prop)(ab:Bool):vF H ab o (UB s c f o.k o.a o.n):=by
 have hb:=LA.1 hs;unfold zD at q;rw[Bool.or_eq_false_iff]at q;obtain⟨h2,h3⟩:=q;have h1:zA s.p s.c s.m c=c:=LH hs hc;obtain⟨ok,oa,on⟩:=o;dsimp only at *;have:ok=1\/ok=2\/ok=3\/ok=4:=by omega
 rcases this with rfl|rfl|rfl|rfl
 ·have b:lenB on=true:=by simpa[RD] using h2
  exact⟨rfl,b,KV b s c f⟩
 ·have b:spB s oa=true:=by simpa[RD] using h2
  exact⟨rfl,zW hs hc b H ab⟩
 ·have b:lenB on=true/\spB s oa=true:=by simpa[RD] using h2
  have l:=zW (c:=c) hs hc b.2 H ab;show vF H ab ⟨3,oa,on⟩ (.aga (iD s c oa on f));unfold iD;rw[if_pos ⟨b.2,b.1,by omega⟩];obtain⟨r,t,y⟩:=rJ s ⟨c,some (CB s c on f),some (nB s c oa),none,none,0,false⟩ (CB s c on f) (nB s c oa) rfl rfl rfl (ab:=ab) (fun e=>by cases e) (fun _ _=>rfl);exact⟨rfl,b.1,fun x j=>by rw[r]at j;injection j with j;subst j;exact KV b.1 s c f,fun z i=>by rw[t]at i;injection i with i;subst i;exact l,y⟩
 refine⟨rfl,fun e=>?_⟩;have e:(jD s c oa).done=true:=e;have b:0<=zA s.p s.c s.m oa/\oa≠c:=by have:=h2;simp only[RD,beq_self_eq_true,Bool.true_and,Bool.or_eq_false_iff,decide_eq_false_iff_not,beq_eq_false_iff_ne]at this;exact⟨by omega,this.1.1.2⟩
 unfold jD at e;dsimp only at e;rw[if_neg (by rintro(h|h|h);omega;omega;exact b.2 h.symm)]at e;cases e
theorem zu6{o:Op3}(b:1<=o.k/\o.k<=4)(h:RD s c o.k o.a o.n=true):(o.k=4)\/((o.k=1\/o.k=3)/\lenB o.n=false)\/((o.k=2\/o.k=3)/\spB s o.a=false):=by
 simp only[RD,Bool.or_eq_true,Bool.and_eq_true,beq_iff_eq,decide_eq_true_eq,Bool.not_eq_true']at h;rcases h with(h|h)|h
 ·exact .inl h.1
 ·exact .inr (.inl h)
 exact .inr (.inr h)
theorem YZ(h:JI s σ d J)(Y:WI s σ d)(hd:wdOk s d n)(x:Ch){k:Kl}(E:d.kl x.client=some k):JI s σ (d.ask s x k).1 (runJ J (k.invoke s x.op).2.1):=by
 obtain⟨ho,b6,q⟩:=hd.kl _ k E;have bb:=UJ Y hd x E;have hX:=h.jx x.client;have O:=h.pt x.client q.1 q.2;have G:(J.pt x.client).lives=true:=O.lives.2 ⟨k,E⟩;have I:=KI Y;have hm:=Y.rep.may;have V:∀ y,y≠x.client->(d.ask s x k).1.kl y=d.kl y:=fun y hy=>by unfold Wd.ask;rw[d.TB (Wd.lC E).1 (Wd.lC E).2,if_neg hy]
 have i:(d.ask s x k).1.kl x.client=some (k.invoke s x.op).1:=by unfold Wd.ask;rw[d.TB (Wd.lC E).1 (Wd.lC E).2,if_pos rfl]
 generalize (d.ask s x k).1=d' at *;have same:(k.invoke s x.op).1=k->JI s σ d' J:=fun e=>by refine(oM (σ':=σ) (d':=d') hX (Calm.refl _) (fun _ _=>.rfl) V).ji ?_;rw[e]at i;have r:d'.kl x.client=d.kl x.client:=i.trans E.symm;exact⟨O.was,by rw[r];exact O.lives,by rw[r];exact O.asks,fun k j a b=>O.op k j (r ▸ a) b⟩
 unfold Kl.invoke at same i ⊢;by_cases hr:k.rests=false
 ·rw[if_pos hr]at same ⊢;exact same rfl
 rw[if_neg hr]at same i ⊢;by_cases hb:x.op.k<1\/4<x.op.k
 ·rw[if_pos hb]at same ⊢;exact same rfl
 rw[if_neg hb]at i ⊢;have hj:k.job=none:=by
  cases hj:k.job
  ·rfl
  simp[Kl.rests,hj]at hr
 have N:(J.pt x.client).asks=false:=by
  cases e:(J.pt x.client).asks with
  |false=>rfl
  |true=>
   obtain⟨k2,j,F,r⟩:=O.asks.1 e
   rw[E]at F;injection F with F;subst F
   rw[hj]at r;cases r
 rw[b6]at i ⊢;have D:(NA x.client x.op).k=2:=rfl;have U:rD (J.pt x.client) (NA x.client x.op)=0:=by unfold rD;rw[if_neg (by rw[D];decide),if_neg (by rw[D];decide)];show (if (J.pt x.client).lives=false\/(J.pt x.client).asks=true\/x.op.k<1\/4<x.op.k then(1:Int) else 0)=0;rw[if_neg (by rw[G,N];simp;omega)]
 have b5:LD (J.pt x.client) (NA x.client x.op)=⟨true,true,true,x.op.k,x.op.a,x.op.n,false,false,0,false⟩:=by unfold LD;rw[if_neg (by rw[U];decide),if_neg (by rw[D];decide),if_neg (by rw[D];decide)];rfl
 have Z:=eQ (z:=x.client) hX (e:=NA x.client x.op) q (by rw[D];decide) U;rw[show (NA x.client x.op).c=x.client from rfl,b5]at Z;have hH:=JE (e:=NA x.client x.op) h.why (uF (z:=x.client) hX q) Z;have C:=kH (σ':=σ) (d':=d') hX hH h.bl (fun _ _=>.rfl) V (.inl fun _ h=>h) I;have m:(CA J (NA x.client x.op)).pt x.client=abP J.l ⟨true,true,true,x.op.k,x.op.a,x.op.n,false,false,0,false⟩:=hH.mine;obtain⟨a1,a2,a3,a4,a5,a6,a7,a8,a9,b9,b0⟩:=VD J.l ⟨true,true,true,x.op.k,x.op.a,x.op.n,false,false,0,false⟩;have M:σ.st x.client≠ .unused:=by rw[(Y.li _ k E).1];simp
 by_cases p:zD s x.client x.op.k x.op.a x.op.n=true
 ·rw[if_pos p]at i ⊢;show JI s σ d' (CA (CA J (NA x.client x.op)) (OA x.client x.op 0 (WC s x.client x.op.k x.op.a x.op.n)));have T:DC ((CA J (NA x.client x.op)).pt x.client) (OA x.client x.op 0 (WC s x.client x.op.k x.op.a x.op.n))=true:=by
   rw[m];unfold DC OA WC;dsimp only;by_cases t:RD s x.client x.op.k x.op.a x.op.n=true
   ·rw[if_pos t,if_neg (by decide),if_neg (by rw[a7,a8];simp),if_pos rfl];unfold XF;rw[a4,a6];dsimp only;rcases zu6 (by omega) t with e|⟨e,r⟩|⟨e,r⟩
    ·rw[e];rfl
    ·rcases e with e|e
     ·rw[e,if_pos rfl,r];rfl
     rw[e,if_neg (by decide),if_neg (by decide),if_pos rfl,r];simp
    have b4:(abP J.l ⟨true,true,true,x.op.k,x.op.a,x.op.n,false,false,0,false⟩).ab=true:=by
     refine b0 rfl ?_
     show iB x.op.a J.l=false
     cases hf:iB x.op.a J.l with
     |false=>rfl
     |true=>
      exfalso
      obtain⟨b,b1,b2⟩:=(h.bl.found _).1 hf
      have ba:=WJ Y.gi b1
      have:spB s x.op.a=true:=HS.2 ⟨hm,by omega⟩
      rw[r]at this;cases this
    rw[b4];rcases e with e|e
    ·rw[e];rfl
    rw[e];rfl
   have H:LG s x.op.k x.op.n=true:=by unfold zD at p;simpa[t] using p
   rw[if_neg t,if_pos H,if_neg (by decide),if_neg (by rw[a7,a8];simp),if_neg (by decide),if_pos rfl,a4];unfold LG at H;simp only[Bool.and_eq_true]at H;exact H.1.1
  have b8:=RO (z:=x.client) C (e:=OA x.client x.op 0 (WC s x.client x.op.k x.op.a x.op.n)) q rfl (by show ((CA J (NA x.client x.op)).pt x.client).lives=true/\((CA J (NA x.client x.op)).pt x.client).asks=true;rw[m];exact⟨a2,a3⟩) T;have R:=JE (e:=OA x.client x.op 0 (WC s x.client x.op.k x.op.a x.op.n)) C.why (uF (z:=x.client) C q) b8;have S:=kH (σ':=σ) (d':=d') C R C.bl (fun _ _=>.rfl) (fun _ _=>rfl) (.inl fun _ h=>h) I;refine S.ji ?_;have b7:(CA (CA J (NA x.client x.op)) (OA x.client x.op 0 (WC s x.client x.op.k x.op.a x.op.n))).pt x.client=abP (CA J (NA x.client x.op)).l { (CA J (NA x.client x.op)).pt x.client with asks:=false}:=R.mine;rw[b7];obtain⟨b1,b2,b3,_⟩:=VD (CA J (NA x.client x.op)).l { (CA J (NA x.client x.op)).pt x.client with asks:=false};refine DP ?_ (b2.trans ?_) b3 i hj
  ·rw[b1];show ((CA J (NA x.client x.op)).pt x.client).was=true↔_;rw[m,a1];exact⟨fun _=>M,fun _=>rfl⟩
  show ((CA J (NA x.client x.op)).pt x.client).lives=true;rw[m];exact a2
 rw[if_neg p]at i ⊢;have B:zD s x.client x.op.k x.op.a x.op.n=false:=by simpa using p
 show JI s σ d' (CA J (NA x.client x.op));refine C.ji ?_;rw[m];have X:=(AV (f:=k.first) hm q ho.fi (by omega) B).2;refine⟨by rw[a1];exact⟨fun _=>M,fun _=>rfl⟩,by rw[a2];exact⟨fun _=>⟨_,i⟩,fun _=>rfl⟩,by rw[a3];exact⟨fun _=>⟨_,_,i,rfl⟩,fun _=>rfl⟩,fun k2 j F r=>?_⟩;rw[i]at F;injection F with F;subst F;injection r with r;subst r;exact⟨⟨a4,a5,a6⟩,a7,a8.trans X.symm,X.symm,z4g hm q _ (by omega) B _ _⟩
theorem z4o(h:JI s σ d J)(m:WI s σ d)(hd:wdOk s d n)(x:Ch)(hc:0<=x.client/\x.client<s.c)(hu:d.stat x.client=0):JI s (σ.stat x.client .live) (d.begin s x).1 (runJ J [rE x.client]):=by
 have U:=m.rep.may;have F:=(ixs m.rep.fi).2.2.2 _ hc;have b:σ.st x.client= .unused:=by have h1:=m.rep.st _ hc;rw[F]at h1;unfold Wd.stat at hu;rw[h1]at hu;have h2:=(TW.read U (m.gi.tf x.client)).1;rw[hu]at h2;cases hx:σ.st x.client<;>rw[hx]at h2<;>simp[TW.kind]at h2
 have hi:x.client.toNat<d.l.length:=by rw[hd.len];omega
 have D:=h.jx x.client;have N:=h.pt x.client hc.1 hc.2
 have B:(J.pt x.client).was=false:=by
  cases e:(J.pt x.client).was with
  |false=>rfl
  |true=>exact absurd b (N.was.1 e)
 have G:∀ k,d.kl x.client≠some k:=fun k T=>by have:=(m.li _ k T).1;rw[b]at this;cases this
 have f:(J.pt x.client).asks=false:=by
  cases e:(J.pt x.client).asks with
  |false=>rfl
  |true=>obtain⟨k,j,S,_⟩:=N.asks.1 e;exact absurd S (G k)
 have r:∀ y,(d.begin s x).1.kl y=if y=x.client then some (xE x.client (Fl.ZC x.bias s.p)) else d.kl y:=fun y=>by unfold Wd.begin;rw[if_pos hu];exact d.TB hc.1 hi _ _ _ _ _
 have q:rD (J.pt x.client) (rE x.client)=0:=by have e:rD (J.pt x.client) (rE x.client)=(if (J.pt x.client).was=true then 1 else 0):=if_pos rfl;rw[e,B];rfl
 have t:=eQ (z:=x.client) D (e:=rE x.client) hc (show (0:Int)<=0/\(0:Int)<3 by decide) q;have E:LD (J.pt x.client) (rE x.client)= { J.pt x.client with was:=true,lives:=true}:=by exact(if_neg (by rw[q];decide)).trans (if_pos rfl)
 rw[show (rE x.client).c=x.client from rfl,E]at t;have M:=JE (e:=rE x.client) h.why (uF (z:=x.client) D hc) t;have H:∀ y,y≠x.client->((σ.stat x.client .live).st y= .unused↔σ.st y= .unused):=fun y I=>by rw[bB _ _ I]
 have C:=kH (σ':=σ.stat x.client .live) (d':=(d.begin s x).1) D M h.bl H (fun y I=>by rw[r,if_neg I]) (.inl fun _ h=>h) (KI m);show JI s _ _ (CA J (rE x.client));refine C.ji ?_;have i:(CA J (rE x.client)).pt x.client=abP J.l { J.pt x.client with was:=true,lives:=true}:=M.mine;rw[i];obtain⟨a1,O,R,_⟩:=VD J.l { J.pt x.client with was:=true,lives:=true};refine DP ?_ O (R.trans f) (by rw[r,if_pos rfl]) rfl;rw[a1,DE];simp
theorem ZX(h:JI s σ d J)(I:WI s σ d)(hd:wdOk s d n){k:Kl}(t:d.kl c=some k):JI s (σ.stat c .dead) (d.kill c).1 (runJ J [QE c]):=by
 obtain⟨U,S,hc⟩:=hd.kl _ k t;have C:=h.jx c;have r:=h.pt c hc.1 hc.2;have f:(J.pt c).lives=true:=r.lives.2 ⟨k,t⟩;have p:∀ y,(d.kill c).1.kl y=if y=c then none else d.kl y:=fun y=>by unfold Wd.kill;exact d.TB hc.1 (Wd.lC t).2 _ _ _ _ _
 have E:¬ ((J.pt c).asks=true/\(J.pt c).took=true):=fun e=>by obtain⟨T,j,O,R⟩:=r.asks.1 e.1;have:=(r.op T j O R).2.1;rw[this]at e;cases e.2
 have m:rD (J.pt c) (QE c)=0:=by have e:rD (J.pt c) (QE c)=(if (J.pt c).lives=false then 1 else if (J.pt c).asks=true/\(J.pt c).took=true then 5 else 0):=(if_neg (show ¬ (1:Int)=0 by decide)).trans (if_pos rfl);rw[e,if_neg (by rw[f];decide),if_neg E]
 have q:=eQ (z:=c) C (e:=QE c) hc (show (0:Int)<=1/\(1:Int)<3 by decide) m;have D:LD (J.pt c) (QE c)= { J.pt c with lives:=false,asks:=false}:=by exact(if_neg (by rw[m];decide)).trans ((if_neg (show ¬ (1:Int)=0 by decide)).trans (if_pos rfl))
 rw[show (QE c).c=c from rfl,D]at q;have H:=JE (e:=QE c) h.why (uF (z:=c) C hc) q;have F:∀ y,y≠c->((σ.stat c .dead).st y= .unused↔σ.st y= .unused):=fun y G=>by rw[bB _ _ G]
 have B:=kH (σ':=σ.stat c .dead) (d':=(d.kill c).1) C H h.bl F (fun y G=>by rw[p,if_neg G]) (.inl fun _ h=>h) (KI I);show JI s _ _ (CA J (QE c));refine B.ji ?_;have i:(CA J (QE c)).pt c=abP J.l { J.pt c with lives:=false,asks:=false}:=H.mine;rw[i];obtain⟨a1,M,N,_⟩:=VD J.l { J.pt c with lives:=false,asks:=false};have b:∀ k,(d.kill c).1.kl c≠some k:=fun k=>by rw[p,if_pos rfl];simp
 refine⟨?_,?_,?_,fun k j e _=>absurd e (b k)⟩
 ·rw[a1,DE];simp only[ne_eq,reduceCtorEq,not_false_eq_true,iff_true];exact r.was.2 (by rw[(I.li c k t).1];simp)
 ·rw[M];exact⟨fun e=>(by cases e),fun ⟨k,e⟩=>absurd e (b k)⟩
 rw[N];exact⟨fun e=>(by cases e),fun ⟨k,_,e,_⟩=>absurd e (b k)⟩
theorem zS(h:JI s σ d J)(f:WI s σ d)(hd:wdOk s d n)(x:Ch):∃ σ' es,WI s σ' (d.act s x).1/\(d.act s x).1.tr=d.tr++es/\JI s σ' (d.act s x).1 (runJ J es):=by
 have nil:∃ σ' es,WI s σ' d/\d.tr=d.tr++es/\JI s σ' d (runJ J es):=⟨σ, [],f,(List.append_nil _).symm,h⟩;unfold Wd.act;split
 ·exact nil
 rename_i hb;unfold Ch.bad at hb;split
 ·by_cases hu:d.stat x.client=0
  ·refine⟨_, [rE x.client],VP f hd x (by omega) hu,?_,z4o h f hd x (by omega) hu⟩;unfold Wd.begin;rw[jP hu]
  unfold Wd.begin;rw[jN hu];exact nil
 cases hk:d.kl x.client with
 |none=>exact nil;|some k=>
  dsimp only;split
  ·cases hj:k.job with
   |none=>
    have p:k.step s d.m=(k,d.m, [],2):=by unfold Kl.step;rw[hj]
    have q:=oM (σ':=σ) (d':=(d.step s x.client k).1) (h.jx x.client) (Calm.refl _) (fun _ _=>.rfl) (fun y r=>by
     unfold Wd.step
     rw[d.TB (Wd.lC hk).1 (Wd.lC hk).2,jN r])
    have i:(d.step s x.client k).1.kl x.client=d.kl x.client:=by unfold Wd.step;rw[d.TB (Wd.lC hk).1 (Wd.lC hk).2,jP rfl,p,hk]
    have l:=h.pt x.client (by omega) (by omega);refine⟨σ, [],?_,?_,q.ji ⟨l.was,by rw[i];exact l.lives,by rw[i];exact l.asks,fun k j a b=>l.op k j (i ▸ a) b⟩⟩
    ·unfold Wd.step;rw[p];dsimp only;exact qQ f hk (f.li _ k hk).2 (.inl rfl) _ _
    unfold Wd.step;rw[p]
   |some j=>obtain⟨h1,h2⟩:=KY h f hd hk hj;exact⟨_,_,h1,rfl,h2⟩
  split
  ·exact⟨σ,_,UJ f hd x hk,rfl,YZ h f hd x hk⟩
  exact⟨_,_,GP f hd hk,rfl,ZX h f hd hk⟩
theorem yrc(h:mayB s.p s.c s.m=true):JI s mJ (ZA s) (newJ s.p s.c s.m):=by
 have hb:=LA.1 h;have q:newJ s.p s.c s.m=⟨s.p*64, [],List.replicate s.c.toNat Pt.zero,0, -1,0⟩:=by unfold newJ;rw[jP h]
 rw[q];have i:∀ c k,(ZA s).kl c≠some k:=fun c k f=>by
  unfold Wd.kl ZA at f;dsimp only at f;rw[List.getD_eq_getElem?_getD,List.getElem?_replicate]at f;split at f
  ·split at f<;>simp at f
  cases f
 have l:∀ c,(⟨s.p*64, [],List.replicate s.c.toNat Pt.zero,0, -1,0⟩:Jd).pt c=Pt.zero:=fun c=>by unfold Jd.pt;dsimp only;rw[List.getD_eq_getElem?_getD,List.getElem?_replicate];split<;>rfl
 refine⟨rfl,rfl,⟨by show (0:Int)<=s.p*64;omega,fun a n=>⟨fun e=>(by cases e),fun ⟨b,e,_⟩=>by cases b<;>cases e⟩⟩,by simp,fun c _ _=>?_,fun c _ _ e=>?_⟩
 ·rw[l];exact⟨⟨fun e=>(by cases e),fun e=>absurd rfl e⟩,⟨fun e=>(by cases e),fun ⟨k,e⟩=>absurd e (i c k)⟩,⟨fun e=>(by cases e),fun ⟨k,_,e,_⟩=>absurd e (i c k)⟩,fun k j e _=>absurd e (i c k)⟩
 rw[l]at e;cases e
end

section

def jdOf (s:Sh) (d:Wd):Jd:=runJ (newJ s.p s.c s.m) d.tr
def AI (s:Sh) (d:Wd) (n:Nat):Prop:=wdOk s d n/\∃ σ,WI s σ d/\JI s σ d (jdOf s d)
theorem RN{s:Sh}(h:mayB s.p s.c s.m=true):AI s (ZA s) 0:=⟨aP h,mJ,yQ h,yrc h⟩
theorem mC{s:Sh}{d:Wd}{n:Nat}(h:AI s d n)(x:Ch):AI s (d.act s x).1 (n+1):=by
 obtain⟨b,σ,i,f⟩:=h;obtain⟨σ',es,h1,h2,h3⟩:=zS f i b x;refine⟨FG b x,σ',h1,?_⟩;unfold jdOf;rw[h2,YE];exact h3
section

variable {J:Jd} {e:Ev} {W:Int} {L:List Bk} {o:Op3} {c:Int}

theorem ZE{es:List Ev}(h:(runJ J es).why=0):J.why=0:=by
 rcases Decidable.em (J.why=0) with h1|h1
 ·exact h1
 rw[yir h1]at h;exact h
theorem XG(b:J.why=0)(h:(CA J e).why=0):(whyJ J.W J.l J.ps e).c=0:=by
 unfold CA at h;rw[jN (by omega)]at h;rcases Decidable.em ((whyJ J.W J.l J.ps e).c=0) with h1|h1
 ·exact h1
 rw[jP h1]at h;exact absurd h h1
end

end

section

def Wd.rest (s:Sh) (d:Wd) (c:Int):Wd:=d.goN s c (JA s)
section

variable {s:Sh} {d:Wd} {n:Nat} {c:Int}

theorem sC{m:Nat}(h:AI s d n)(b:n<=m):AI s d m:=⟨⟨h.1.fi,h.1.fit,h.1.len,h.1.kl,⟨h.1.st.1,by have:=h.1.st.2;omega⟩,by have:=h.1.tr;omega,h.1.lg⟩,h.2⟩
end

end

end Go.Proofs.YtkilokkopbajkaaGreat
