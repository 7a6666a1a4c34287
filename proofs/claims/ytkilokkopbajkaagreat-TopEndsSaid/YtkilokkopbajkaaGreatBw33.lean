
import Derived.Laws.CopyRow

import Derived.Lib.Overlaps

import Derived.Deep.Onto

import Derived.Test.YtkilokkopbajkaaGreatBw28

import Derived.Test.YtkilokkopbajkaaGreatBw31

set_option linter.all false
namespace Go.Proofs.YtkilokkopbajkaaGreat

open RowKit

attribute [local go_sem ↓] wp_at_zero wp_at_succ

section

def KlAt (s:Sh) (c:Int) (σ:Ab) (k:Kl):Prop:=match k.job with
 |none=>xA σ c .no
 |some j=>JbAt s c σ j
structure WI (s:Sh) (σ:Ab) (d:Wd):Prop where
 rep:Rep s d.m σ
 gi:GI s σ
 li:∀c k,d.kl c=some k->σ.st c=.live/\KlAt s c σ k
 nl:∀c,σ.st c=.live->∃k,d.kl c=some k
 un:∀c,σ.st c=.unused\/σ.st c=.done->xA σ c .no/\∀i,σ.mg c i=.none
 ow:∀x a,σ.st x=.owned a->σ.st a≠.unused/\(σ.st a=.live->∃k t,d.kl a=some k/\k.job=some (.hei t)/\t.d=x/\t.done=false/\3<=t.next)
structure Chg (j j':Jb) (σ σ':Ab):Prop where
 gave:j.gave=false->j'.gave=true->(∃f,j.fe=some f/\IH (feBl f) σ σ'/\f.next=1/\f.done=false)/\j'.done=false
 took:∀b,j'.took=some b->Plus (rD b) σ σ'
 calm:(j.gave=true\/j'.gave=false)->j'.took=none->Calm σ σ'
 st:∀x,σ'.st x=.unused↔σ.st x=.unused
theorem LT{σ:Ab}{x c:Int}(h:σ.st c=.live)(b:σ.st x≠.live):x≠c:=λe=>b (e▸h)
theorem KlAt.same{s:Sh}{c:Int}{σ σ':Ab}{k:Kl}(b:klOk s k)(hc:k.c=c)(h:KlAt s c σ k)(hs:Same c σ σ')(f:Later σ σ')(h3:∀t,k.job=some (.hei t)->t.done=false->3<=t.next->σ'.st t.d=.owned c/\Same t.d σ σ'):KlAt s c σ' k:=by
 unfold KlAt at*;cases hj:k.job with
 |none=>rw[hj]at h;exact h.same hs;|some j=>rw[hj]at h;exact h.same (hc▸(b.jb j hj).1) hs f λt e=>h3 t (by rw[hj,e])
theorem qI{s:Sh}{c:Int}{σ:Ab}{k:Kl}{t:Ad}(h:KlAt s c σ k)(b:k.job=some (.hei t)):xA σ c .no/\mI s σ c t:=by
 unfold KlAt at h;rw[b]at h;exact h
theorem z6d{s:Sh}{σ σ':Ab}{d:Wd}{n:Nat}{c:Int}{k k':Kl}{j:Jb}{F:Mem}{tr:List Ev}{lg:List Acc}(h:WI s σ d)(hd:wdOk s d n)(B:d.kl c=some k)(M:k.job=some j)(L:∀t,j≠.hei t)(O:Rep s F σ') (b:Kept s c σ σ') (D:KlAt s c σ' k'):WI s σ' ⟨F,d.l.set c.toNat (some k'),tr,lg⟩:=by
 have z:=(h.li c k B).1;have r:=d.IB (Wd.rC B).1 (Wd.rC B).2 (some k') F tr lg;have E:=Later.NQ b.2.2;refine⟨O,b.1,λx y f=>?_,λx f=>?_,λx f=>?_,λx a f=>?_⟩
 .rw[r]at f;split at f
  .rename_i e;subst e;injection f with f;subst f;exact⟨(b.2.2 x).trans z,D⟩
  rename_i e;obtain⟨S,G⟩:=h.li x y f;refine⟨(b.2.2 x).trans S,G.same (hd.kl x y f).1 (hd.kl x y f).2.1 (b.2.1 x e) E λt p q C=>?_⟩;have h3:=((qI G p).2.n3 q C).1;exact⟨(b.2.2 _).trans h3,b.2.1 _ (LT z (by rw[h3];simp))⟩
 .rw[b.2.2]at f;rw[r];split
  .exact⟨_,rfl⟩
  exact h.nl x f
 .rw[b.2.2]at f;have o:x≠c:=LT z (by rcases f with e|e<;>rw[e]<;>simp);obtain⟨V,X⟩:=h.un x f;exact⟨V.same (b.2.1 x o),λi=>((b.2.1 x o).m i).trans (X i)⟩
 rw[b.2.2]at f;rw[b.2.2];obtain⟨T,U⟩:=h.ow x a f;refine⟨T,λN=>?_⟩;obtain⟨R,t,p,q,C,I,J⟩:=U N;have o:a≠c:=λe=>by subst e;rw[B]at p;injection p with p;subst p;rw[M]at q;injection q with q;exact L t q
 exact⟨R,t,by rw[r,jN o];exact p,q,C,I,J⟩
theorem zzn{s:Sh}{σ:Ab}{d:Int}(f:GI s σ)(h1:UB σ d s.p)(h2:oD σ d s.m)(h3:CD σ d s.p):xA σ d .no/\∀i,σ.mg d i=.none:=by
 have q:=QV f h1;have r:=KW f h2;refine⟨⟨λp=>⟨λe=>absurd e (q p),λe=>e.elim⟩,λp g=>⟨λe=>absurd e.2 (q g),λe=>e.elim⟩,λp i k=>⟨λe=>?_,λe=>?_⟩,λp i k j e=>e.elim⟩,r⟩
 .obtain⟨⟨b,o⟩,t⟩:=e;have:=CH f o;exact absurd ⟨⟨b,o⟩,t⟩ (h3 p i k this.1.1 this.1.2)
 rcases e with e|⟨j,e⟩
 .exact e.elim
 rw[r j]at e;cases e
theorem oZ{s:Sh}{σ:Ab}{d:Wd}{n:Nat}{c:Int}{k:Kl}{t:Ad}{tr:List Ev}{lg:List Acc}(h:WI s σ d)(hd:wdOk s d n)(hk:d.kl c=some k)(hj:k.job=some (.hei t))(b8:adOk s t)(B:t.done=false)(k':Kl) (b0:k'.job=if (adA s t σ).1.done=true then none else some (.hei (adA s t σ).1)) (m':Mem) (hr:Rep s m' (adA s t σ).2):WI s (adA s t σ).2 ⟨m',d.l.set c.toNat (some k'),tr,lg⟩/\Calm σ (adA s t σ).2/\∀x,(adA s t σ).2.st x=.unused↔σ.st x=.unused:=by
 obtain⟨M,bh⟩:=h.li c k hk;obtain⟨b3,F⟩:=qI bh hj;have z:=d.IB (Wd.rC hk).1 (Wd.rC hk).2 (some k') m' tr lg;obtain⟨c1,c2,c3,c4,c5,c6,c7,c8,c9,bj⟩:=b8.cl B;have G:=F.ne B;have J:=F.cl;have b4:∀x,t.next<=2->σ.st x≠.owned c:=λx hn e=>by obtain⟨k2,O,D,r,E,Z,e5⟩:=(h.ow x c e).2 M;rw[hk]at D;injection D with D;subst D;rw[hj]at r;injection r with r;injection r with r;subst r;omega
 have b1:∀x,σ.st x=.owned c->t.d=x:=λx e=>by obtain⟨k2,O,D,r,E,Z,e5⟩:=(h.ow x c e).2 M;rw[hk]at D;injection D with D;subst D;rw[hj]at r;injection r with r;injection r with r;subst r;exact E
 have mk:∀ σ',(∀t',t'=(adA s t σ).1->t'.done=false->mI s σ' c t')->xA σ' c .no->KlAt s c σ' k':=fun σ' h1 h2=>by
  unfold KlAt;rw[b0];rcases jB (adA s t σ).1.done with e|e
  .rw[jP e];exact h2
  rw[jN (by rw[e];decide)];exact⟨h2,h1 _ rfl e⟩
 have N:(adA s t σ).2=σ->t.next<=2->(∀t',t'=(adA s t σ).1->t'.done=false->mI s σ c t')->WI s (adA s t σ).2 ⟨m',d.l.set c.toNat (some k'),tr,lg⟩/\Calm σ (adA s t σ).2/\∀x,(adA s t σ).2.st x=.unused↔σ.st x=.unused:=λe0 D r=>by
  rw[e0]at hr|-;refine⟨⟨hr,h.gi,λx y f=>?_,λx f=>?_,h.un,λx a f=>?_⟩,Calm.refl _,λ_=>.rfl⟩
  .rw[z]at f;split at f
   .rename_i e;subst e;injection f with f;subst f;exact⟨M,mk σ r b3⟩
   exact h.li x y f
  .rw[z];split
   .exact⟨_,rfl⟩
   exact h.nl x f
  obtain⟨o1,o2⟩:=h.ow x a f;refine⟨o1,λU=>?_⟩;obtain⟨k2,O,E,Z,e5,e6,e7⟩:=o2 U;have I:a≠c:=λe=>by subst e;exact b4 x D f
  exact⟨k2,O,by rw[z,jN I];exact E,Z,e5,e6,e7⟩
 have bi:iI 0=true:=by decide
 by_cases h0:t.next=0
 .have X:=EK (s:=s) (σ:=σ) B h0;refine N (by rw[X]) (by omega) λt' e Y=>?_;rw[X]at e;have hf:=h.gi.tf t.d;cases f:σ.st t.d with
  |dead=>rw[f]at e;subst e;exact⟨J,λ_ e=>(by cases e),λ_ _=>.inl rfl,λ_ e=>by exfalso;have e:(3:Int)<=2:=e;omega,λ_=>G,λ_=>F.a0 (by omega)⟩
  |owned a=>rw[f]at e hf;subst e;exact⟨J,λ_ _=>⟨rfl,hf,(h.ow _ _ f).1⟩,λ_ e=>(by cases e),λ_ e=>by exfalso;have e:(3:Int)<=1:=e;omega,λ_=>G,λ_=>F.a0 (by omega)⟩
  |unused=>rw[f]at e;subst e;cases Y
  |live=>rw[f]at e;subst e;cases Y
  |done=>rw[f]at e;subst e;cases Y
 by_cases h1:t.next=1
 .have X:adA s t σ=(if σ.st t.who=.live then({t with next:=2}:Ad).fin 4 else {t with next:=2},σ):=by unfold adA;rw[jN (by rw[B];decide),jN h0,jP h1]
  refine N (by rw[X]) (by omega) λt' e Y=>?_;rw[X]at e;obtain⟨w1,w2,w3⟩:=F.n1 B h1;by_cases f:σ.st t.who=.live
  .have e:t'=({t with next:=2}:Ad).fin 4:=by rw[e];exact jP f
   subst e;cases Y
  have e:t'={t with next:=2}:=by rw[e];exact jN f
  subst e;exact⟨J,λ_ e=>(by cases e),λ_ _=>.inr ⟨_,w1,w2,w3,f⟩,λ_ e=>by exfalso;have e:(3:Int)<=2:=e;omega,λ_=>G,λ_=>F.a0 (by omega)⟩
 by_cases h2:t.next=2
 .by_cases hw:(σ.st t.d).enc=t.was
  .have X:adA s t σ=({t with next:=3},σ.stat t.d (.owned t.c)):=by unfold adA;rw[jN (by rw[B];decide),jN h0,jN h1,jP h2,jP hw]
   have R:σ.st t.d=.dead\/∃o,σ.st t.d=.owned o/\σ.st o≠.live:=by
    rcases F.n2 B h2 with e|⟨o,D,r,E,Z⟩
    .exact .inl (TW.inj c1 (h.gi.tf _) (y:=.dead) trivial (hw.trans e))
    exact .inr ⟨o,TW.inj c1 (h.gi.tf _) r (hw.trans D),Z⟩
   have bc:σ.st t.d≠.live:=by rcases R with e|⟨o,e,_⟩<;>rw[e]<;>simp
   have bg:σ.st t.d≠.unused:=by rcases R with e|⟨o,e,_⟩<;>rw[e]<;>simp
   have S:σ.st t.d≠.done:=by rcases R with e|⟨o,e,_⟩<;>rw[e]<;>simp
   have bf:∀x,σ.st x=.live->σ.st t.d≠.owned x:=λx f e=>by
    rcases R with r|⟨o,r,E⟩
    .rw[r]at e;cases e
    rw[r]at e;injection e with e;subst e;exact E f
   rw[X]at hr b0 mk|-;rw[J]at hr|-;dsimp only at hr|-;have L:Later σ (σ.stat t.d (.owned c)):=by
    refine⟨λx f=>?_,λx f b7=>?_⟩
    .by_cases e:x=t.d
     .rw[e,HE];simp
     rw[rB _ _ e];exact f
    by_cases e:x=t.d
    .rw[e,HE];simp
    rw[rB _ _ e];exact b7
   have j:(σ.stat t.d (.owned c)).st t.d=.owned c:=HE _ _ _;have b6:∀x,(σ.stat t.d (.owned c)).st x=.unused↔σ.st x=.unused:=λx=>by
    by_cases e:x=t.d
    .subst e;rw[j];exact⟨λe=>(by cases e),λe=>absurd e bg⟩
    rw[rB _ _ e]
   refine⟨⟨hr,h.gi.stat (J▸c2) c3,λx y f=>?_,λx f=>?_,λx f=>?_,λx a f=>?_⟩,bX,b6⟩
   .rw[z]at f;split at f
    .rename_i e;subst e;injection f with f;subst f;refine⟨(rB _ _ G.symm).trans M,mk _ (λt' e Y=>?_) (b3.same (Same.stat _ _))⟩;subst e;refine⟨J,λ_ e=>(by cases e),λ_ e=>(by cases e),λ_ _=>⟨j,?_⟩,λ_=>G,λe=>by exfalso;have e:(3:Int)<=2:=e;omega⟩;rw[adD3 rfl];intro p g a b;have b:p<t.at':=b;rw[F.a0 (by omega)]at b;omega
    rename_i e;obtain⟨l1,l2⟩:=h.li x y f;have q:x≠t.d:=λe=>bc (e▸l1);refine⟨(rB _ _ q).trans l1,l2.same (hd.kl x y f).1 (hd.kl x y f).2.1 (Same.stat _ _) L λO D r E=>?_⟩;have h3:=((qI l2 D).2.n3 r E).1;have:O.d≠t.d:=λe=>by rw[e]at h3;exact bf x l1 h3
    exact⟨(rB _ _ this).trans h3,Same.stat _ _⟩
   .have q:x≠t.d:=λe=>by rw[e,j]at f;cases f
    rw[rB _ _ q]at f;rw[z];split
    .exact⟨_,rfl⟩
    exact h.nl x f
   .have q:x≠t.d:=λe=>by rw[e,j]at f;rcases f with e|e<;>cases e
    rw[rB _ _ q]at f;obtain⟨u1,u2⟩:=h.un x f;exact⟨u1.same (Same.stat _ _),u2⟩
   by_cases q:x=t.d
   .subst q;rw[j]at f;injection f with f;subst f;refine⟨by rw[rB _ _ G.symm,M];simp,λ_=>⟨k',{t with next:=3},by rw[z,jP rfl],?_,rfl,B,by show (3:Int)<=3;omega⟩⟩;rw[b0];exact jN (by dsimp only;rw[B];decide)
   rw[rB _ _ q]at f;obtain⟨o1,o2⟩:=h.ow x a f;refine⟨L.un a o1,λU=>?_⟩;have b5:a≠t.d:=λe=>by rw[e,j]at U;cases U
   rw[rB _ _ b5]at U;obtain⟨k2,O,E,Z,e5,e6,e7⟩:=o2 U;have I:a≠c:=λe=>by subst e;exact b4 x (by omega) f
   exact⟨k2,O,by rw[z,jN I];exact E,Z,e5,e6,e7⟩
  have X:adA s t σ=(({t with next:=3}:Ad).fin 4,σ):=by unfold adA;rw[jN (by rw[B];decide),jN h0,jN h1,jP h2,jN hw]
  refine N (by rw[X]) (by omega) λt' e Y=>?_;rw[X]at e;subst e;cases Y
 obtain⟨V,S⟩:=F.n3 B (by omega);have ba:∀x,σ.st x=.live->x≠t.d:=λx f e=>by rw[e,V]at f;cases f
 by_cases bb:t.next=13
 .have X:adA s t σ=(t.fin 0,σ.stat t.d .done):=by unfold adA;rw[jN (by rw[B];decide)];iterate 13 rw[jN (by omega)]
  rw[aP bb]at S;obtain⟨x1,x2⟩:=zzn h.gi S.1 S.2.1 S.2.2;rw[X]at hr b0 mk|-;dsimp only at hr|-;have j:(σ.stat t.d .done).st t.d=.done:=HE _ _ _;have L:Later σ (σ.stat t.d .done):=by
   refine⟨λx f=>?_,λx f b7=>?_⟩
   .by_cases e:x=t.d
    .rw[e,HE];simp
    rw[rB _ _ e];exact f
   by_cases e:x=t.d
   .rw[e,HE];simp
   rw[rB _ _ e];exact b7
  have b6:∀x,(σ.stat t.d .done).st x=.unused↔σ.st x=.unused:=λx=>by
   by_cases e:x=t.d
   .subst e;rw[j,V];exact⟨λe=>(by cases e),λe=>(by cases e)⟩
   rw[rB _ _ e]
  refine⟨⟨hr,h.gi.stat trivial c3,λx y f=>?_,λx f=>?_,λx f=>?_,λx a f=>?_⟩,bX,b6⟩
  .rw[z]at f;split at f
   .rename_i e;subst e;injection f with f;subst f;exact⟨(rB _ _ G.symm).trans M,mk _ (λt' e Y=>by subst e;cases Y) (b3.same (Same.stat _ _))⟩
   rename_i e;obtain⟨l1,l2⟩:=h.li x y f;refine⟨(rB _ _ (ba x l1)).trans l1,l2.same (hd.kl x y f).1 (hd.kl x y f).2.1 (Same.stat _ _) L λO D r E=>?_⟩;have h3:=((qI l2 D).2.n3 r E).1;have:O.d≠t.d:=λr=>by rw[r,V]at h3;injection h3 with h3;exact e h3.symm
   exact⟨(rB _ _ this).trans h3,Same.stat _ _⟩
  .have q:x≠t.d:=λe=>by rw[e,j]at f;cases f
   rw[rB _ _ q]at f;rw[z];split
   .exact⟨_,rfl⟩
   exact h.nl x f
  .by_cases q:x=t.d
   .subst q;exact⟨x1.same (Same.stat _ _),x2⟩
   rw[rB _ _ q]at f;obtain⟨u1,u2⟩:=h.un x f;exact⟨u1.same (Same.stat _ _),u2⟩
  have q:x≠t.d:=λe=>by rw[e,j]at f;cases f
  rw[rB _ _ q]at f;obtain⟨o1,o2⟩:=h.ow x a f;refine⟨L.un a o1,λU=>?_⟩;have b5:a≠t.d:=λe=>by rw[e,j]at U;cases U
  rw[rB _ _ b5]at U;obtain⟨k2,O,E,Z,e5,e6,e7⟩:=o2 U;have I:a≠c:=λe=>by subst e;exact q (b1 x f).symm
  exact⟨k2,O,by rw[z,jN I];exact E,Z,e5,e6,e7⟩
 have T:=OY h.gi b8 B (by omega) S;have j:=T.kept.2.2;have L:=Later.NQ j;have b2:∀x,x≠t.d->Same x σ (adA s t σ).2:=T.kept.2.1;refine⟨⟨hr,T.kept.1,λx y f=>?_,λx f=>?_,λx f=>?_,λx a f=>?_⟩,T.calm,λx=>by rw[j]⟩
 .rw[z]at f;split at f
  .rename_i e;subst e;injection f with f;subst f;refine⟨(j _).trans M,mk _ (λt' e Y=>?_) (b3.same (b2 _ G.symm))⟩;subst e;have C:=T.on;exact⟨C.c.trans J,λ_ e=>by have:=C.nx;omega,λ_ e=>by have:=C.nx;omega,λ_ _=>⟨by rw[j,C.d];exact V,C.dd⟩,λ_=>by rw[C.d];exact G,λe=>by have:=C.nx;omega⟩
  rename_i e;obtain⟨l1,l2⟩:=h.li x y f;refine⟨(j x).trans l1,l2.same (hd.kl x y f).1 (hd.kl x y f).2.1 (b2 x (ba x l1)) L λO D r E=>?_⟩;have h3:=((qI l2 D).2.n3 r E).1;have:O.d≠t.d:=λr=>by rw[r,V]at h3;injection h3 with h3;exact e h3.symm
  exact⟨(j _).trans h3,b2 _ this⟩
 .rw[j]at f;rw[z];split
  .exact⟨_,rfl⟩
  exact h.nl x f
 .rw[j]at f;have q:x≠t.d:=λe=>by rw[e,V]at f;rcases f with e|e<;>cases e
  obtain⟨u1,u2⟩:=h.un x f;exact⟨u1.same (b2 x q),λi=>((b2 x q).m i).trans (u2 i)⟩
 rw[j]at f;rw[j];obtain⟨o1,o2⟩:=h.ow x a f;refine⟨o1,λU=>?_⟩;obtain⟨k2,O,E,Z,e5,e6,e7⟩:=o2 U;by_cases I:a=c
 .subst I;have C:=T.on;have b9:(adA s t σ).1.done=false:=C.dn.trans B;refine⟨k',(adA s t σ).1,by rw[z,jP rfl],by rw[b0,jN (by rw[b9];decide)],C.d.trans (b1 x f),b9,C.nx.1⟩
 exact⟨k2,O,by rw[z,jN I];exact E,Z,e5,e6,e7⟩
theorem fJ{s:Sh}{σ:Ab}{d:Wd}{n:Nat}{c:Int}{k:Kl}{j:Jb}(h:WI s σ d)(hd:wdOk s d n)(D:d.kl c=some k)(B:k.job=some j):WI s (j.EB s c σ).2 (d.step s c k).1/\Chg j (j.step s c d.m).1 σ (j.EB s c σ).2/\(j.step s c d.m).1=(j.EB s c σ).1:=by
 obtain⟨N,z,p⟩:=hd.kl c k D;obtain⟨M,C⟩:=h.li c k D;obtain⟨o,q,L,J⟩:=N.jb j B;rw[z]at o;have f:=ye9 h.rep h.gi o p;have y:=xK (m:=d.m) o p q h.rep.fi hd.fit;have G:k.step s d.m=(k.after (j.step s c d.m).1,(j.step s c d.m).2,k.tells (j.step s c d.m).1,0):=by unfold Kl.step;rw[B,z]
 unfold Wd.step;rw[G];dsimp only;have F:KlAt s c σ k=JbAt s c σ j:=by unfold KlAt;rw[B]
 rw[F]at C;by_cases E:∃t,j=.hei t
 .obtain⟨t,rfl⟩:=E;have r:(EA s t d.m).1=(adA s t σ).1:=by have:=f.1;injection this
  have I:=oZ (tr:=d.tr++k.tells (.hei (EA s t d.m).1)) (lg:=if d.m.st<((Jb.hei t).step s c d.m).2.st then d.lg++[((Jb.hei t).step s c d.m).2.la] else d.lg) h hd D B o.1 q (k.after (.hei (EA s t d.m).1)) (by
   show (if (Jb.hei (EA s t d.m).1).done=true then none else some (Jb.hei (EA s t d.m).1))=_
   rw[r];rfl) _ f.2
  exact⟨I.1,⟨λ_ e=>(by cases e),λb e=>(by cases e),λ_ _=>I.2.1,I.2.2⟩,f.1⟩
 have i:=KQ h.rep h.gi o p q C (λa e=>E ⟨a,e⟩);refine⟨z6d h hd D B (λa e=>E ⟨a,e⟩) f.2 i.kept ?_,?_,f.1⟩
 .unfold KlAt;show (match (if (j.step s c d.m).1.done=true then none else some (j.step s c d.m).1:Option Jb) with|none=>_|some j=>_);have h1:=i.at';rw[<-f.1]at h1;rcases jB (j.step s c d.m).1.done with e|e
  .rw[jP e];exact NY y.2.1 e h1
  rw[jN (by rw[e];decide)];exact h1
 have h1:=i.gave;have h2:=i.took;have h3:=i.calm;rw[<-f.1]at h1 h2 h3;exact⟨h1,h2,h3,λx=>by rw[i.kept.2.2]⟩
variable {s:Sh}{σ:Ab}{d:Wd}{n:Nat}{c:Int}{k k':Kl}

theorem IQ(h:WI s σ d)(p:d.kl c=some k)(q:KlAt s c σ k')(j:k'.job=k.job\/k.job=none)(tr:List Ev)(lg:List Acc):WI s σ ⟨d.m,d.l.set c.toNat (some k'),tr,lg⟩:=by
 have f:=d.IB (Wd.rC p).1 (Wd.rC p).2 (some k') d.m tr lg;refine⟨h.rep,h.gi,λx y b=>?_,λx b=>?_,h.un,λx a b=>?_⟩
 .rw[f]at b;split at b
  .rename_i e;subst e;injection b with b;subst b;exact⟨(h.li x k p).1,q⟩
  exact h.li x y b
 .rw[f];split
  .exact⟨_,rfl⟩
  exact h.nl x b
 obtain⟨E,F⟩:=h.ow x a b;refine⟨E,λC=>?_⟩;obtain⟨D,t,i,o,r,z,B⟩:=F C;rw[f];by_cases e:a=c
 .subst e;rw[p]at i;injection i with i;subst i;rw[jP rfl];rcases j with j|j
  .exact⟨k',t,rfl,j.trans o,r,z,B⟩
  rw[j]at o;cases o
 rw[jN e];exact⟨D,t,i,o,r,z,B⟩
theorem LH(h:WI s σ d)(hd:wdOk s d n)(x:Ch)(o:d.kl x.client=some k):WI s σ (d.ask s x k).1:=by
 obtain⟨r,j,m⟩:=hd.kl _ k o;obtain⟨q,b⟩:=h.li _ k o;unfold Wd.ask;refine IQ h o ?_ ?_ _ _
 .unfold Kl.invoke;split
  .exact b
  rename_i p;have f:k.job=none:=by
   cases f:k.job
   .rfl
   simp[Kl.rests,f]at p
  have i:xA σ x.client .no:=by unfold KlAt at b;rw[f]at b;exact b
  split
  .exact b
  split
  .show KlAt s x.client σ {k with op:=x.op,told:=false,steps:=0};unfold KlAt;dsimp only;rw[f];exact i
  unfold KlAt;dsimp only;rw[j];exact z5b h.rep.may m i _ _ _ _
 unfold Kl.invoke;split
 .exact .inl rfl
 rename_i p;have f:k.job=none:=by
  cases f:k.job
  .rfl
  simp[Kl.rests,f]at p
 exact .inr f
theorem fN(h:WI s σ d)(hd:wdOk s d n)(x:Ch)(hc:0<=x.client/\x.client<s.c)(hu:d.stat x.client=0):WI s (σ.stat x.client .live) (d.begin s x).1:=by
 have G:=h.rep.may;have hb:=JA.1 G;have q:=(ixs h.rep.fi).2.2.2 _ hc;have f:σ.st x.client=.unused:=by have h1:=h.rep.st _ hc;rw[q]at h1;unfold Wd.stat at hu;rw[h1]at hu;have h2:=(TW.read G (h.gi.tf x.client)).1;rw[hu]at h2;cases hx:σ.st x.client<;>rw[hx]at h2<;>simp[TW.kind]at h2
 have hi:x.client.toNat<d.l.length:=by rw[hd.len];omega
 unfold Wd.begin;rw[jP hu];dsimp only;have i:=d.IB hc.1 hi (some (DE x.client (Fl.jD x.bias s.p))) (d.m.put x.client (ZA 1 0)) (d.tr++[WE x.client]) d.lg;have j:(σ.stat x.client .live).st x.client=.live:=HE _ _ _;have r:Rep s (d.m.put x.client (ZA 1 0)) (σ.stat x.client .live):=h.rep.UM hc .live (by rw[q];rfl);have E:Later σ (σ.stat x.client .live):=by
  refine⟨λy b=>?_,λy b F=>?_⟩
  .by_cases e:y=x.client
   .rw[e,HE];simp
   rw[rB _ _ e];exact b
  have e:y≠x.client:=λe=>b (e▸f);rw[rB _ _ e];exact F
 refine⟨r,h.gi.stat trivial hc,λy z b=>?_,λy b=>?_,λy b=>?_,λy a b=>?_⟩
 .rw[i]at b;split at b
  .rename_i e;subst e;injection b with b;subst b;exact⟨j,(h.un _ (.inl f)).1.same (Same.stat _ _)⟩
  rename_i e;obtain⟨R,I⟩:=h.li y z b;refine⟨(rB _ _ e).trans R,I.same (hd.kl y z b).1 (hd.kl y z b).2.1 (Same.stat _ _) E λt B C D=>?_⟩;have h3:=((qI I B).2.n3 C D).1;have:t.d≠x.client:=λe=>by rw[e,f]at h3;cases h3
  exact⟨(rB _ _ this).trans h3,Same.stat _ _⟩
 .rw[i];split
  .exact⟨_,rfl⟩
  rename_i e;rw[rB _ _ e]at b;exact h.nl y b
 .have e:y≠x.client:=λe=>by rw[e,j]at b;rcases b with e|e<;>cases e
  rw[rB _ _ e]at b;obtain⟨T,U⟩:=h.un y b;exact⟨T.same (Same.stat _ _),U⟩
 have e:y≠x.client:=λe=>by rw[e,j]at b;cases b
 rw[rB _ _ e]at b;obtain⟨J,S⟩:=h.ow y a b;have o:a≠x.client:=λe=>J (e▸f);rw[rB _ _ o];refine⟨J,λN=>?_⟩;obtain⟨O,t,B,C,D,L,M⟩:=S N;exact⟨O,t,by rw[i,jN o];exact B,C,D,L,M⟩
theorem cQ(h:WI s σ d)(hd:wdOk s d n)(E:d.kl c=some k):WI s (σ.stat c .dead) (d.kill c).1:=by
 obtain⟨X,M,hc⟩:=hd.kl _ k E;obtain⟨F,N⟩:=h.li _ k E;have D:=(ixs h.rep.fi).2.2.2 _ hc;have hi:c.toNat<d.l.length:=(Wd.rC E).2;unfold Wd.kill;dsimp only;have i:=d.IB hc.1 hi none (d.m.put c (ZA 2 0)) (d.tr++[YE c]) d.lg;have f:(σ.stat c .dead).st c=.dead:=HE _ _ _;have p:Rep s (d.m.put c (ZA 2 0)) (σ.stat c .dead):=h.rep.UM hc .dead (by rw[D];rfl);have o:Later σ (σ.stat c .dead):=by
  refine⟨λy b=>?_,λy b G=>?_⟩
  .by_cases e:y=c
   .rw[e,HE];simp
   rw[rB _ _ e];exact b
  by_cases e:y=c
  .rw[e,HE];simp
  rw[rB _ _ e];exact G
 refine⟨p,h.gi.stat trivial hc,λy z b=>?_,λy b=>?_,λy b=>?_,λy a b=>?_⟩
 .rw[i]at b;split at b
  .cases b
  rename_i e;obtain⟨R,I⟩:=h.li y z b;refine⟨(rB _ _ e).trans R,I.same (hd.kl y z b).1 (hd.kl y z b).2.1 (Same.stat _ _) o λt r B C=>?_⟩;have h3:=((qI I r).2.n3 B C).1;have:t.d≠c:=λe=>by rw[e,F]at h3;cases h3
  exact⟨(rB _ _ this).trans h3,Same.stat _ _⟩
 .have e:y≠c:=λe=>by rw[e,f]at b;cases b
  rw[rB _ _ e]at b;rw[i,jN e];exact h.nl y b
 .have e:y≠c:=λe=>by rw[e,f]at b;rcases b with e|e<;>cases e
  rw[rB _ _ e]at b;obtain⟨U,V⟩:=h.un y b;exact⟨U.same (Same.stat _ _),V⟩
 have e:y≠c:=λe=>by rw[e,f]at b;cases b
 rw[rB _ _ e]at b;obtain⟨S,T⟩:=h.ow y a b;refine⟨o.un a S,λq=>?_⟩;have j:a≠c:=λe=>by rw[e,f]at q;cases q
 rw[rB _ _ j]at q;obtain⟨O,t,r,B,C,J,L⟩:=T q;exact⟨O,t,by rw[i,jN j];exact r,B,C,J,L⟩
end

section

def Bl.at':Bl->Int
 |.lar p _=>p*64
 |.sm p i k=>p*64+i*zA k
def Bl.len:Bl->Int
 |.lar _ n=>n*64
 |.sm _ _ k=>zA k
variable {s:Sh}{σ:Ab}

theorem HI{k:Int}(h:0<=k/\k<=3):(zA k=4/\mA k=16)\/(zA k=8/\mA k=8)\/(zA k=16/\mA k=4)\/(zA k=32/\mA k=2):=by
 have:k=0\/k=1\/k=2\/k=3:=by omega
 rcases this with rfl|rfl|rfl|rfl<;>decide
theorem DH{i k:Int}(j:0<=k/\k<=3)(hi:0<=i/\i<mA k):0<=i*zA k/\i*zA k+zA k<=64/\1<=zA k:=by
 rcases HI j with⟨b,f⟩|⟨b,f⟩|⟨b,f⟩|⟨b,f⟩<;>rw[b]<;>rw[f]at hi<;>omega
theorem QM{i j k:Int}(m:0<=k/\k<=3)(h:i<j):i*zA k+zA k<=j*zA k:=by
 rcases HI m with⟨b,f⟩|⟨b,f⟩|⟨b,f⟩|⟨b,f⟩<;>rw[b]<;>omega
theorem KH(f:GI s σ){p i k:Int}(h:σ.has (.sm p i k)):(∃b,σ.pg p=.super k b)/\(0<=i/\i<mA k)/\(0<=k/\k<=3)/\0<=p/\p<s.p:=by
 obtain⟨⟨b,h1⟩,h2⟩:=gK f (.inr h);have h3:=CH f h1;exact⟨⟨b,h1⟩,h2,h3.2.1,h3.1⟩
theorem CK(f:GI s σ){b:Bl}(h:σ.has b):0<=b.at'/\1<=b.len/\b.at'+b.len<=s.p*64:=by
 cases b with
 |lar p n=>have:=ZH f h;simp only[Bl.at',Bl.len];omega
 |sm p i k=>obtain⟨_,h2,h3,h4⟩:=KH f h;have:=DH h3 h2;simp only[Bl.at',Bl.len];omega
theorem UW(f:GI s σ){a b:Bl}(t:σ.has a)(hb:σ.has b)(o:a≠b):¬(a.at'<b.at'+b.len/\b.at'<a.at'+a.len):=by
 have lar:∀p n q,σ.pg p=.large n->(∀g,σ.pg q≠.body g)->p<q->p+n<=q:=λp n q h1 h2 h3=>by
  by_cases e:p+n<=q
  .exact e
  have:=f.lg p n h1 (q-p) (by omega) (by omega);rw[show p+(q-p)=q by omega]at this;exact absurd this (h2 p)
 cases a with
 |lar p n=>
  cases b with
  |lar q m=>
   have h1:σ.pg p=.large n:=t
   have h2:σ.pg q=.large m:=hb
   have z:=ZH f h1
   have J:=ZH f h2
   simp only[Bl.at',Bl.len]
   rcases Int.lt_trichotomy p q with e|e|e
   .have:=lar p n q h1 (λg e=>by rw[h2]at e;cases e) e
    omega
   .subst e
    rw[h1]at h2;injection h2 with h2;subst h2
    exact absurd rfl o
   .have:=lar q m p h2 (λg e=>by rw[h1]at e;cases e) e
    omega
  |sm q i k=>
   have h1:σ.pg p=.large n:=t
   obtain⟨⟨b,h2⟩,h3,h4,E⟩:=KH f hb
   have y:=DH h4 h3
   have z:=ZH f h1
   simp only[Bl.at',Bl.len]
   rcases Int.lt_trichotomy p q with e|e|e
   .have:=lar p n q h1 (λg e=>by rw[h2]at e;cases e) e
    omega
   .subst e;rw[h1]at h2;cases h2
   .omega
 |sm p i k=>
  obtain⟨⟨F,h2⟩,h3,h4,E⟩:=KH f t
  have y:=DH h4 h3
  cases b with
  |lar q m=>
   have h1:σ.pg q=.large m:=hb
   have z:=ZH f h1
   simp only[Bl.at',Bl.len]
   rcases Int.lt_trichotomy q p with e|e|e
   .have:=lar q m p h1 (λg e=>by rw[h2]at e;cases e) e
    omega
   .subst e;rw[h1]at h2;cases h2
   .omega
  |sm q j k'=>
   obtain⟨⟨G,r⟩,B,C,I⟩:=KH f hb
   have D:=DH C B
   simp only[Bl.at',Bl.len]
   rcases Int.lt_trichotomy q p with e|e|e
   .omega
   .subst e
    rw[h2]at r;injection r with r _;subst r
    rcases Int.lt_trichotomy i j with e|e|e
    .have:=QM (i:=i) (j:=j) h4 e;omega
    .subst e;exact absurd rfl o
    .have:=QM (i:=j) (j:=i) h4 e;omega
   .omega
theorem cZ(f:GI s σ){a b:Bl}(i:σ.has a)(hb:σ.has b)(h:a.at'=b.at'):a=b:=by
 by_cases e:a=b
 .exact e
 have h1:=CK f i;have h2:=CK f hb;exact absurd ⟨by omega,by omega⟩ (UW f i hb e)
structure PD (W:Int) (H:Bl->Prop) (l:List Bk):Prop where
 ok:okK W 0 l
 mem:∀a n,⟨a,n⟩∈l↔∃b,H b/\b.at'=a/\b.len=n
def mL (H:Bl->Prop):Prop:=∀a b,H a->H b->a.at'=b.at'->a=b
variable {W:Int}{H H':Bl->Prop}{l:List Bk}

theorem PD.found(h:PD W H l)(a:Int):WA a l=true↔∃b,H b/\b.at'=a:=by
 rw[vI h.ok];constructor
 .rintro⟨⟨x,n⟩,hb,rfl⟩;obtain⟨b,h1,h2,h3⟩:=(h.mem x n).1 hb;exact⟨b,h1,h2⟩
 rintro⟨b,h1,h2⟩;exact⟨⟨a,b.len⟩,(h.mem _ _).2 ⟨b,h1,h2,rfl⟩,rfl⟩
theorem DL{a n:Int}{x:Bk}:x∈putB l a n↔x∈l\/x=⟨a,n⟩:=by
 unfold putB;rw[List.mem_append,List.mem_cons];have:x∈l↔x∈l.take (posB a l)\/x∈l.drop (posB a l):=by rw[<-List.mem_append,List.take_append_drop]
 rw[this];constructor
 .rintro(h|h|h)
  .exact .inl (.inl h)
  .exact .inr h
  exact .inl (.inr h)
 rintro((h|h)|h)
 .exact .inl h
 .exact .inr (.inr h)
 exact .inr (.inl h)
theorem TO{lo a:Int}(j:okK W lo l)(m:WA a l=true){x:Bk}:x∈OF l a↔x∈l/\x.a≠a:=by
 obtain⟨h1,h2⟩:=(uK a l).1 m;unfold OF;constructor
 .intro h;have f:x∈l:=by
   rcases List.mem_append.1 h with h|h
   .exact List.mem_of_mem_take h
   exact List.mem_of_mem_drop h
  refine⟨f,λe=>?_⟩;rcases List.mem_append.1 h with h|h
  .obtain⟨i,hi,rfl⟩:=List.getElem_of_mem h;rw[List.length_take]at hi;rw[List.getElem_take]at e;have:=sV a l i (by omega) (by omega);omega
  obtain⟨i,hi,rfl⟩:=List.getElem_of_mem h;rw[List.length_drop]at hi;rw[List.getElem_drop]at e;have:=j.lt (posB a l) (posB a l+1+i) (by omega) (by omega);have:=(j.mem _ (List.getElem_mem h1)).2.1;omega
 rintro⟨f,b⟩;have h3:l=l.take (posB a l)++l[posB a l]::l.drop (posB a l+1):=by rw[<-List.drop_eq_getElem_cons h1,List.take_append_drop]
 rw[h3]at f;rcases List.mem_append.1 f with h|h
 .exact List.mem_append.2 (.inl h)
 rcases List.mem_cons.1 h with h|h
 .rw[h]at b;exact absurd h2 b
 exact List.mem_append.2 (.inr h)
theorem PD.plus(h:PD W H l){b:Bl}(m:∀x,H' x↔(H x\/x=b))(f:0<=b.at'/\1<=b.len/\b.at'+b.len<=W)(j:∀x,H x->¬(x.at'<b.at'+b.len/\b.at'<x.at'+x.len)):OB W l b.at' b.len=true/\PD W H' (putB l b.at' b.len):=by
 have i:∀x∈l,¬(x.a<b.at'+b.len/\b.at'<x.a+x.n):=λx o=>by obtain⟨y,h1,h2,h3⟩:=(h.mem x.a x.n).1 o;have:=j y h1;rw[h2,h3]at this;exact this
 refine⟨?_,⟨FK h.ok f.1 f.2.1 f.2.2 i,λa n=>?_⟩⟩
 .unfold OB IG;rw[jT (by omega:1<=b.len/\0<=b.at'/\b.at'<=W/\b.len<=W-b.at'),Bool.true_and];have:l.any (λx=>meets x b.at' b.len)=false:=by rw[List.any_eq_false];intro x o;simp only[meets,decide_eq_true_eq];exact i x o
  rw[this];rfl
 rw[DL,h.mem a n];constructor
 .rintro(⟨x,h1,h2,h3⟩|e)
  .exact⟨x,(m x).2 (.inl h1),h2,h3⟩
  injection e with p q;exact⟨b,(m b).2 (.inr rfl),p.symm,q.symm⟩
 rintro⟨x,h1,h2,h3⟩;rcases(m x).1 h1 with e|e
 .exact .inl ⟨x,e,h2,h3⟩
 subst e;exact .inr (by rw[h2,h3])
theorem PD.minus(h:PD W H l)(h1:mL H){b:Bl}(hb:H b)(q:∀x,H' x↔(H x/\x≠b)):WA b.at' l=true/\PD W H' (nB l b.at'):=by
 have m:WA b.at' l=true:=(h.found _).2 ⟨b,hb,rfl⟩;refine⟨m,⟨zL h.ok,λa n=>?_⟩⟩;unfold nB;rw[jP m,TO h.ok m,h.mem a n];constructor
 .rintro⟨⟨x,i,f,j⟩,o⟩;exact⟨x,(q x).2 ⟨i,λe=>by subst e;exact o f.symm⟩,f,j⟩
 rintro⟨x,i,f,j⟩;obtain⟨p,r⟩:=(q x).1 i;exact⟨⟨x,p,f,j⟩,λe=>r (h1 x b p hb (by rw[f];exact e))⟩
theorem PD.congr(h:PD W H l)(e:∀x,H' x↔H x):PD W H' l:=⟨h.ok,λa n=>(h.mem a n).trans ⟨λ⟨b,h1,h2⟩=>⟨b,(e b).2 h1,h2⟩,λ⟨b,h1,h2⟩=>⟨b,(e b).1 h1,h2⟩⟩⟩
end

section

variable {s:Sh}{σ:Ab}{c:Int}

def oI (n:Int) (t:Rs):Prop:=(wi n 1 32=true/\t.k=pB n/\∃x,t.seeker=some x)\/(wi n 1 32=false/\wi n 33 512=true/\t.pages=runV n/\t.seeker=none)
theorem UO(b:Blk):(rD b).at'=b.at'/\(rD b).len=b.len:=by
 unfold rD Blk.at' Blk.len;split<;>exact⟨rfl,rfl⟩
theorem iW{n:Int}{t:Rs}{b:Blk}(h:oI n t)(f:t.got=some b):b.len=lenV n:=by
 obtain⟨k,pg,sk,rn⟩:=t;unfold Rs.got at f;unfold lenV;rcases h with⟨h1,h2,x,h3⟩|⟨h1,h2,h3,h4⟩
 .dsimp only at h2 h3 f;subst h3;dsimp only at f;split at f
  .injection f with f;subst f;rw[jP h1,<- h2];rfl
  cases f
 dsimp only at h3 h4 f;subst h4;rcases rn with _|y
 .cases f
 dsimp only at f;split at f
 .injection f with f;subst f;rw[jN (by rw[h1];decide),<- h3];rfl
 cases f
theorem cW{n:Int}(h:lenB n=true)(s:Sh)(c f:Int):oI n (mB s c n f):=by
 have i:=BA.1 (show wi n 1 512=true from h);unfold mB oI;by_cases h1:wi n 1 32=true
 .rw[jP h1];exact .inl ⟨h1,rfl,_,rfl⟩
 have b:wi n 1 32=false:=by simpa using h1
 have j:=zG.1 b;have h2:wi n 33 512=true:=BA.2 (by omega);rw[jN h1,jP h2];exact .inr ⟨b,h2,rfl,rfl⟩
theorem HV{n:Int}{t:Rs}(h:oI n t)(s:Sh)(σ:Ab):oI n (rsA s t σ).1:=by
 obtain⟨k,pg,sk,rn⟩:=t;unfold rsA;rcases h with⟨h1,h2,x,h3⟩|⟨h1,h2,h3,h4⟩
 .dsimp only at h2 h3;subst h3;exact .inl ⟨h1,h2,_,rfl⟩
 dsimp only at h3 h4;subst h4;rcases rn with _|y
 .exact .inr ⟨h1,h2,h3,rfl⟩
 exact .inr ⟨h1,h2,h3,rfl⟩
structure FG (H:Bl->Prop) (ab:Bool) (a:Int) (f:Fe):Prop where
 ad:f.a=a
 pg:f.page=a / 64
 bl:f.done=false->1<=f.next->(feBl f).at'=a
 see:f.done=false->f.next=1->ab=true\/H (feBl f)
 no:f.done=true->f.gave=false->ab=true
theorem WW{a:Int}(hs:mayB s.p s.c s.m=true)(hc:0<=c/\c<s.c)(f:spB s a=true)(H:Bl->Prop)(ab:Bool):FG H ab a (uB s c a):=by
 have b:=dV (c:=c) hs hc f;refine⟨rfl,jP f,λ_ e=>?_,λ_ e=>?_,λe=>?_⟩
 .rw[b.2.1]at e;omega
 .rw[b.2.1]at e;cases e
 rw[b.1]at e;cases e
theorem z4z{t:Fe}{x:PW}(hd:t.done=false):(t.dC x).a=t.a/\(t.dC x).page=t.page/\(t.dC x).gave=t.gave/\(t.dC x).next=1/\(t.dC x).pk=x.kind/\(t.dC x).pa=x.pa/\(((t.dC x).done=false/\((x.kind=3/\t.a%64=0)\/(x.kind=2/\t.a%64%zA x.pa=0/\(t.dC x).slot=t.a%64/zA x.pa)))\/((t.dC x).done=true/\¬(x.kind=3/\t.a%64=0)/\¬(x.kind=2/\t.a%64%zA x.pa=0))):=by
 unfold Fe.dC;dsimp only;split
 .rename_i h;exact⟨rfl,rfl,rfl,rfl,rfl,rfl,.inl ⟨hd,.inl h⟩⟩
 rename_i h;split
 .rename_i h2;exact⟨rfl,rfl,rfl,rfl,rfl,rfl,.inl ⟨hd,.inr ⟨h2.1,h2.2,rfl⟩⟩⟩
 rename_i h2;exact⟨rfl,rfl,rfl,rfl,rfl,rfl,.inr ⟨rfl,h,h2⟩⟩
theorem xW(j:GI s σ){b:Bl}{a:Int}(hb:σ.has b)(f:b.at'=a):(∃n,b=.lar (a/64) n/\σ.pg (a/64)=.large n/\a%64=0)\/(∃i k q,b=.sm (a/64) i k/\σ.pg (a/64)=.super k q/\a%64=i*zA k/\0<=k/\k<=3/\0<=i/\i<mA k):=by
 cases b with
 |lar p n=>
  have h1:σ.pg p=.large n:=hb;have:=ZH j h1;simp only[Bl.at']at f;have e:p=a/64:=by omega
  subst e;exact .inl ⟨n,rfl,h1,by omega⟩
 |sm p i k=>
  obtain⟨⟨q,h1⟩,h2,h3,h4⟩:=KH j hb;have m:=DH h3 h2;simp only[Bl.at']at f;have e:p=a/64:=by omega
  subst e;exact .inr ⟨i,k,q,rfl,h1,by omega,h3.1,h3.2,h2.1,h2.2⟩
theorem z4u{k:Int}(h:0<=k/\k<=3):0<zA k:=by rcases HI h with⟨e,_⟩|⟨e,_⟩|⟨e,_⟩|⟨e,_⟩<;>rw[e]<;>decide
theorem mV{m:Mem}{t:Fe}{a:Int}{ab ab':Bool}(hr:Rep s m σ)(Z:GI s σ)(T:feIs s c t)(hd:t.done=false)(hw:t.next=1->t.pk=3->t.word=(PW.large t.pa).enc)(h:FG σ.has ab a t)(I:(∀b,σ.has b->b.at'≠a)->ab=true)(C:ab=true->ab'=true):
  FG (feA s t σ).2.has ab' a (feA s t σ).1:=by
 obtain⟨c1,c2,c3,c4,c5,c6,c7,c8,c9,b0⟩:=T.ok.cl hd;obtain⟨h1,h2,h3,h4,h5⟩:=h;unfold feA;rw[jN (by rw[hd];decide)];by_cases n0:t.next=0
 .rw[jP n0];obtain⟨l1,F,l3,l4,V,R,S⟩:=z4z (t:=t) (x:=σ.pg t.page) hd;dsimp only;rw[h2]at l1 F l3 l4 V R S|-;refine⟨l1.trans h1,F,λe _=>?_,λe _=>?_,λe _=>?_⟩
  .rcases S with⟨_,⟨f,o⟩|⟨f,o,G⟩⟩|⟨f,_⟩
   .unfold feBl;rw[jP (V.trans f)];show (t.dC _).page*64=a;rw[F];rw[h1]at o;omega
   .unfold feBl;rw[jN (by omega)];show (t.dC _).page*64+(t.dC _).slot*zA (t.dC _).pa=a;rw[F,G,R];rw[h1]at o|-;have:=Int.ediv_mul_cancel (Int.dvd_of_emod_eq_zero o);rw[this];omega
   rw[f]at e;cases e
  .rcases S with⟨_,⟨f,o⟩|⟨f,o,G⟩⟩|⟨f,_⟩
   .refine .inr ?_;unfold feBl;rw[jP (V.trans f)];show σ.pg (t.dC _).page=.large (t.dC _).pa;rw[F,R];cases p:σ.pg (a/64)<;>rw[p]at f<;>simp[PW.kind]at f;rfl
   .by_cases r:σ.has (feBl (t.dC (σ.pg (a/64))))
    .exact .inr r
    refine .inl (C (I λb hb z=>r ?_));have j:feBl (t.dC (σ.pg (a/64)))=.sm (a/64) (a%64/zA (σ.pg (a/64)).pa) (σ.pg (a/64)).pa:=by unfold feBl;rw[jN (by omega),F,G,R,h1]
    rcases xW Z hb z with⟨n,f1,f2,E⟩|⟨i,k,q,f1,f2,E,X,Y,f6⟩
    .rw[f2]at f;cases f
    rw[j,f2];show σ.has (.sm (a/64) (a%64/zA k) k);rw[E,Int.mul_ediv_cancel _ (by have:=z4u ⟨X,Y⟩;omega)];rw[f1]at hb;exact hb
   rw[f]at e;cases e
  rcases S with⟨f,_⟩|⟨_,f,o⟩
  .rw[f]at e;cases e
  refine C (I λb hb z=>?_);rw[h1]at f o;rcases xW Z hb z with⟨n,f1,f2,E⟩|⟨i,k,q,f1,f2,E,X,Y,f6⟩
  .exact f ⟨by rw[f2];rfl,E⟩
  exact o ⟨by rw[f2];rfl,by rw[f2];show a%64%zA k=0;rw[E];exact Int.mul_emod_left _ _⟩
 rw[jN n0];by_cases n1:t.next=1
 .rw[jP n1];have J:=T.gv (by omega);have L:¬ σ.has (feBl t)->ab'=true:=λhn=>by
   rcases h4 hd n1 with e|e
   .exact C e
   exact absurd e hn
  have j:=h3 hd (by omega);by_cases D:t.pk=3
  .rw[jP D];have B:feBl t=.lar t.page t.pa:=jP D;by_cases p:(σ.pg t.page).enc=t.word
   .rw[jP p];exact⟨h1,h2,λ_ _=>j,λ_ e=>(by cases e),λe=>(by cases e)⟩
   rw[jN p];refine⟨h1,h2,λe=>(by cases e),λe=>(by cases e),λ_ _=>L λr=>p ?_⟩;rw[B]at r;have r:σ.pg t.page=.large t.pa:=r;rw[r,hw n1 D]
  rw[jN D];have B:feBl t=.sm t.page t.slot t.pa:=jN D;have keep:∀g,(t.gotA s g).a=t.a/\(t.gotA s g).page=t.page/\(t.gotA s g).slot=t.slot/\(t.gotA s g).pk=t.pk/\(t.gotA s g).pa=t.pa/\(t.gotA s g).gave=g/\(t.gotA s g).done= !g/\(g=true->(t.gotA s g).next≠1):=λg=>by
   unfold Fe.gotA;dsimp only;split
   .unfold Fe.kept;dsimp only;split
    .exact⟨rfl,rfl,rfl,rfl,rfl,rfl,rfl,λ_=>(by dsimp only;first|decide|omega|simp)⟩
    split<;>exact⟨rfl,rfl,rfl,rfl,rfl,rfl,rfl,λ_=>(by dsimp only;first|decide|omega|simp)⟩
   exact⟨rfl,rfl,rfl,rfl,rfl,rfl,rfl,λ_=>(by dsimp only;first|decide|omega|simp)⟩
  by_cases p:σ.sl t.page t.slot=.taken t.pa
  .rw[jP p];obtain⟨k1,N,M,k4,k5,k6,O,k8⟩:=keep true;refine⟨k1.trans h1,N.trans h2,λ_ _=>?_,λ_ e=>absurd e (k8 rfl),λe=>?_⟩
   .rw[<-j];unfold feBl;rw[k4,jN D,jN D,N,M,k5]
   rw[O]at e;cases e
  rw[jN p];obtain⟨k1,N,M,k4,k5,k6,O,k8⟩:=keep false;refine⟨k1.trans h1,N.trans h2,λe=>(by rw[O]at e;cases e),λe=>(by rw[O]at e;cases e),λ_ _=>L λr=>p ?_⟩;rw[B]at r;exact r
 rw[jN n1];have J:=T.gv2 (by omega) hd;have j:=h3 hd (by omega);have fin:∀(t':Fe) (σ':Ab),t'.a=t.a->t'.page=t.page->t'.slot=t.slot->t'.pk=t.pk->t'.pa=t.pa->t'.gave=t.gave->(t'.next≠1)->FG σ'.has ab' a t':=λt' σ' f o G e4 e5 e6 e7=>⟨f.trans h1,o.trans h2,λ_ _=>by rw[<-j];unfold feBl;rw[e4,o,G,e5],λ_ e=>absurd e e7,λ_ e=>by rw[e6,J]at e;cases e⟩
 by_cases n2:t.next=2
 .rw[jP n2];obtain⟨_,x,p,_⟩:=c8 n2;rw[p];dsimp only;have U:∀y:Fe,y.kept.a=y.a/\y.kept.page=y.page/\y.kept.slot=y.slot/\y.kept.pk=y.pk/\y.kept.pa=y.pa/\y.kept.gave=y.gave/\(y.next≠1->y.kept.next≠1):=λy=>by
   unfold Fe.kept;split
   .split
    .exact⟨rfl,rfl,rfl,rfl,rfl,rfl,id⟩
    split
    .exact⟨rfl,rfl,rfl,rfl,rfl,rfl,λ_=>(by dsimp only;first|decide|omega|simp)⟩
    exact⟨rfl,rfl,rfl,rfl,rfl,rfl,id⟩
   exact⟨rfl,rfl,rfl,rfl,rfl,rfl,id⟩
  obtain⟨a1,a2,a3,a4,a5,a6,a7⟩:=U {t with put:=some (puA s x σ).1};exact fin _ _ a1 a2 a3 a4 a5 a6 (a7 n1)
 rw[jN n2];split
 .exact fin _ _ rfl rfl rfl rfl rfl rfl n1
 split
 .exact fin _ _ rfl rfl rfl rfl rfl rfl n1
 exact fin _ _ rfl rfl rfl rfl rfl rfl n1
end

section

attribute [local go_sem ↓] fI eI

def Hp.slB (h:Hp) (a:Int):Nat->List Bk
 | 0=>[]
 |i+1=>h.slB a i ++ (if h.sk a i=3 then [⟨a*64+i*zA (h.pa a),zA (h.pa a)⟩] else [])
def Hp.pgB (h:Hp) (a:Int):List Bk:=
 if h.pk a=3 then [⟨a*64,h.pa a*64⟩] else if h.pk a=2 then h.slB a (mA (h.pa a)).toNat else []
def Hp.blT (h:Hp):Nat->List Bk
 | 0=>[]
 |k+1=>h.blT k ++ h.pgB k
def Hp.bl (h:Hp):List Bk:=if h.ok=true then h.blT h.p.toNat else []
end

def Hp.QF (h:Hp) (a:Int):Nat->Bool
 | 0=>true
 |i+1=>h.QF a i&&h.sw a i==0
def Hp.bare (h:Hp) (a:Int):Bool:=h.QF a 16
def Hp.okS (h:Hp) (a k i:Int):Bool:=if i<mA k then (h.sk a i==2&&decide (h.sa a i<h.c))||((h.sk a i==1||h.sk a i==3)&&h.sa a i==k) else h.sw a i==0
def Hp.supT (h:Hp) (a k:Int):Nat->Bool
 | 0=>true
 |i+1=>h.supT a k i&&h.okS a k i
def Hp.sup (h:Hp) (a k:Int):Bool:=h.supT a k 16
def Hp.rowT (h:Hp) (a:Int):Nat->Bool
 | 0=>true
 |i+1=>h.rowT a i&&(h.pk (a+1+i)==4&&h.pa (a+1+i)==a)
def Hp.rowB (h:Hp) (a n:Int):Bool:=h.rowT a (n-1).toNat
def Hp.snd (h:Hp) (a:Int):Bool:=
 if h.pb a=true then
  (if h.pk a=2 then h.sup a (h.pa a)
   else if h.pk a=3 then h.bare a&&h.rowB a (h.pa a)
   else if h.pk a=4 then h.bare a&&(h.pk (h.pa a)==1||(h.pk (h.pa a)==3&&decide (a<h.pa a+h.pa (h.pa a))))
   else if h.pk a=0 then h.bare a
   else true)
 else false
def Hp.sndT (h:Hp):Nat->Bool
 | 0=>true
 |i+1=>h.sndT i&&h.snd i
theorem Hp.HR(h:Hp){n:Nat}(b:h.sndT n=true):∀i,i<n->h.snd (i:Nat)=true:=by
 induction n with
 |zero=>intro i hi;omega;|succ n f=>
  intro i hi;have h1:(h.sndT n&&h.snd n)=true:=b;rw[jC]at h1;rcases Nat.lt_or_ge i n with h2|h2
  .exact f h1.1 i h2
  have:i=n:=by omega
  subst this;exact h1.2
def Hp.sound (h:Hp):Bool:=h.ok&&h.sndT h.p.toNat
theorem Hp.OS{h:Hp}{a:Int}(hs:h.snd a=true):h.pb a=true:=by
 unfold Hp.snd at hs;split at hs
 .assumption
 cases hs
theorem Hp.yo3{h:Hp}{a:Int}{n:Nat}(hs:h.rowT a n=true):∀i:Nat,i<n->h.pk (a+1+i)=4/\h.pa (a+1+i)=a:=by
 induction n with
 |zero=>intro i hi;omega;|succ n b=>
  intro i hi;have h1:(h.rowT a n&&(h.pk (a+1+n)==4&&h.pa (a+1+n)==a))=true:=hs;simp only[jC,beq_iff_eq]at h1;rcases Nat.lt_or_ge i n with h2|h2
  .exact b h1.1 i h2
  have:i=n:=by omega
  subst this;exact h1.2
theorem okK.widen{W W':Int}(f:W<=W'){l:List Bk}:∀{lo:Int},okK W lo l->okK W' lo l:=by
 induction l with
 |nil=>exact λh=>Int.le_trans h f
 |cons b l i=>exact λh=>⟨h.1,h.2.1,i h.2.2⟩
theorem okK.append{W M:Int}{l k:List Bk}(f:okK W M k):∀{lo:Int},okK M lo l->okK W lo (l++k):=by
 induction l with
 |nil=>exact λh=>f.mono h
 |cons b l i=>exact λh=>⟨h.1,h.2.1,i h.2.2⟩
theorem Hp.oS{h:Hp}{a:Int}{q:Nat}{b:Bk}:b∈h.slB a q↔∃i:Nat,i<q/\h.sk a i=3/\b=⟨a*64+i*zA (h.pa a),zA (h.pa a)⟩:=by
 induction q with
 |zero=>simp[Hp.slB];|succ q f=>
  unfold Hp.slB;rw[List.mem_append,f];constructor
  .rintro(⟨i,h1,h2,h3⟩|h1)
   .exact⟨i,by omega,h2,h3⟩
   split at h1
   .rename_i h2;exact⟨q,by omega,h2,by simpa using h1⟩
   simp at h1
  rintro⟨i,h1,h2,h3⟩;rcases Nat.lt_or_ge i q with h4|h4
  .exact .inl ⟨i,h4,h2,h3⟩
  have:i=q:=by omega
  subst this;right;rw[jP h2];simp[h3]
theorem Hp.yp1{h:Hp}{k:Nat}{b:Bk}:b∈h.blT k↔∃a:Nat,a<k/\b∈h.pgB a:=by
 induction k with
 |zero=>simp[Hp.blT];|succ k f=>
  unfold Hp.blT;rw[List.mem_append,f];constructor
  .rintro(⟨a,h1,h2⟩|h1)
   .exact⟨a,by omega,h2⟩
   exact⟨k,by omega,h1⟩
  rintro⟨a,h1,h2⟩;rcases Nat.lt_or_ge a k with h4|h4
  .exact .inl ⟨a,h4,h2⟩
  have:a=k:=by omega
  subst this;exact .inr h2
theorem Hp.yq8{h:Hp}{a:Int}(f:1<=zA (h.pa a))(q:Nat):okK (a*64+q*zA (h.pa a)) (a*64) (h.slB a q):=by
 induction q with
 |zero=>show a*64<=a*64+((0:Nat):Int)*_;simp;|succ q b=>
  unfold Hp.slB;have e:((q+1:Nat):Int)*zA (h.pa a)=q*zA (h.pa a)+zA (h.pa a):=by rw[Int.natCast_add,Int.add_mul];simp
  rw[e];split
  .refine okK.append (M:=a*64+q*zA (h.pa a)) ?_ b;exact⟨Int.le_refl _,f,by show _+_<=_;simp only;omega⟩
  rw[List.append_nil];exact b.widen (by omega)
theorem Hp.row_of{h:Hp}{a:Int}(hs:h.snd a=true)(b:h.pk a=3):(1<=h.pa a/\h.pa a<=8/\h.pa a<=h.p-a)/\∀q:Int,a<q->q<a+h.pa a->h.pk q=4/\h.pa q=a:=by
 have f:=Hp.OS hs;refine⟨Hp.fO (by rw[f,b];rfl),λq h1 h2=>?_⟩;unfold Hp.snd at hs;rw[jP f,jN (by rw[b];decide),jP b,jC]at hs;have h3:=Hp.yo3 hs.2 (q-a-1).toNat (by omega);rw[show a+1+((q-a-1).toNat:Int)=q by omega]at h3;exact h3
theorem Hp.yrd{h:Hp}{a:Int}(hs:h.snd a=true)(o:h.pk a=2):∃z q:Nat,zA (h.pa a)=z/\mA (h.pa a)=q/\1<=z/\z*q=64:=by
 have p:=Hp.OS hs;have f:=Hp.aO (h:=h) (a:=a) (by rw[p,o];rfl);have b:=mY f;have t:=GH (h.pa a);have r:=CC (h.pa a);obtain⟨z,m⟩:∃z:Nat,zA (h.pa a)=z:=⟨(zA (h.pa a)).toNat,by omega⟩;obtain⟨q,j⟩:∃q:Nat,mA (h.pa a)=q:=⟨(mA (h.pa a)).toNat,by omega⟩;rw[m,j]at b;have i:z*q=64:=by exact_mod_cast b
 refine⟨z,q,m,j,?_,i⟩;rcases Nat.eq_zero_or_pos z with e|e
 .subst e;omega
 exact e
def Hp.en (h:Hp):Nat->Int
 | 0=>0
 |k+1=>if h.pk k=3 then k+h.pa k else max (h.en k) (k+1)
theorem Hp.yq3{h:Hp}{P:Nat}(L:h.p=P)(hs:∀i:Nat,i<P->h.snd i=true)(k:Nat)(N:k<=P):
  okK (64*h.en k) 0 (h.blT k)/\(k:Int)<=h.en k/\h.en k<=P/\∀q:Int,k<=q->q<h.en k->h.pk q=4:=by
 induction k with
 |zero=>exact⟨Int.le_refl 0,Int.le_refl 0,by show (0:Int)<=P;omega,λq h1 h2=>by have:h.en 0=0:=rfl;omega⟩;|succ k I=>
  obtain⟨m,O,R,B⟩:=I (by omega);have b:=hs k (by omega);have f:h.pk k≠4->h.en k=k:=λD=>by false_or_by_contra;exact D (B k (Int.le_refl _) (by omega))
  unfold Hp.blT Hp.pgB Hp.en;by_cases h3:h.pk k=3
  .rw[jP h3,jP h3];have o:=f (by rw[h3];decide);obtain⟨J,C⟩:=Hp.row_of b h3;refine⟨?_,by omega,by omega,λq h4 y=>(C q (by omega) y).1⟩;rw[o]at m;have j:okK (64*((k:Int)+h.pa k)) (64*k) [⟨(k:Int)*64,h.pa k*64⟩]:=⟨by show 64*(k:Int)<=k*64;omega,by show 1<=h.pa k*64;omega,by show (k:Int)*64+h.pa k*64<=_;omega⟩;exact okK.append j m
  rw[jN h3,jN h3];refine⟨?_,by omega,by omega,λq h4 y=>B q (by omega) (by omega)⟩;by_cases h2:h.pk k=2
  .rw[jP h2];have o:=f (by rw[h2];decide);obtain⟨z,q,F,E,G,t⟩:=Hp.yrd b h2;have r:=Hp.yq8 (h:=h) (a:=k) (by omega) q;rw[F]at r;have e:(q:Int)*z=64:=by rw[Int.mul_comm];exact_mod_cast t
   rw[e]at r;rw[E,Int.toNat_natCast];rw[o]at m|-;exact okK.append (M:=64*k) ((r.mono (by omega)).widen (by omega)) m
  rw[jN h2,List.append_nil];exact m.widen (by omega)
theorem Hp.ynp{h:Hp}(hs:h.sound=true):h.ok=true/\∃P:Nat,h.p=P/\h.p.toNat=P/\P<=64/\∀i:Nat,i<P->h.snd i=true:=by
 unfold Hp.sound at hs;rw[jC]at hs;have b:mayB h.p h.c h.m=true:=by have:=hs.1;unfold Hp.ok at this;rw[jC]at this;exact this.1
 have hb:=JA.1 b;exact⟨hs.1,h.p.toNat,by omega,rfl,by omega,Hp.HR h hs.2⟩
theorem Hp.yr2{h:Hp}(hs:h.sound=true):okK (64*h.p) 0 h.bl:=by
 obtain⟨m,P,i,b,j,f⟩:=Hp.ynp hs;unfold Hp.bl;rw[jP m,b];obtain⟨k1,o,q,r⟩:=Hp.yq3 i f P lr;exact k1.widen (by omega)
end Go.Proofs.YtkilokkopbajkaaGreat
