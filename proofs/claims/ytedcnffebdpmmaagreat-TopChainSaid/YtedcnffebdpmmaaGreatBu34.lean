/- Texts bound together: InvO InvQ InvR InvS InvT KilP. -/
import Derived.Test.YtedcnffebdpmmaaGreatBu33

import Derived.Test.YtedcnffebdpmmaaGreatBu28

set_option linter.all false
namespace Go.Proofs.YtedcnffebdpmmaaGreat

section

def KlAt (s:Sh) (c:Int) (σ:Ab) (k:Kl):Prop:=match k.job with
 | none=> zaz σ c .no
 | some j=> JbAt s c σ j
structure WI (s:Sh) (σ:Ab) (d:Wd):Prop where
 rep:Rep s d.m σ
 gi:GI s σ
 li:∀ c k,d.kl c=some k->σ.st c= .live/\KlAt s c σ k
 nl:∀ c,σ.st c= .live->∃ k,d.kl c=some k
 un:∀ c,σ.st c= .unused\/σ.st c= .done->zaz σ c .no/\∀ i,σ.mg c i= .none
 ow:∀ x a,σ.st x= .owned a->σ.st a≠ .unused/\(σ.st a= .live->∃ k t,d.kl a=some k/\k.job=some (.hei t)/\t.d=x/\t.done=false/\3<=t.next)
structure Chg (j j':Jb) (σ σ':Ab):Prop where
 gave:j.gave=false->j'.gave=true->(∃ f,j.fe=some f/\zr4 (feBl f) σ σ'/\f.next=1/\f.done=false)/\j'.done=false
 took:∀ b,j'.took=some b->Plus (zoa b) σ σ'
 calm:(j.gave=true\/j'.gave=false)->j'.took=none->Calm σ σ'
 st:∀ x,σ'.st x= .unused↔σ.st x= .unused
theorem z3h{σ:Ab}{x c:Int}(h:σ.st c= .live)(b:σ.st x≠ .live):x≠c:=fun e=>b (e ▸ h)
theorem KlAt.same{s:Sh}{c:Int}{σ σ':Ab}{k:Kl}(b:klOk s k)(hc:k.c=c)(h:KlAt s c σ k)(hs:Same c σ σ')(f:Later σ σ')(h3:∀ t,k.job=some (.hei t)->t.done=false->3<=t.next->σ'.st t.d= .owned c/\Same t.d σ σ'):KlAt s c σ' k:=by
 unfold KlAt at *;cases hj:k.job with
 |none=>rw[hj]at h;exact h.same hs;|some j=>rw[hj]at h;exact h.same (hc ▸ (b.jb j hj).1) hs f fun t e=>h3 t (by rw[hj,e])
theorem zup{s:Sh}{c:Int}{σ:Ab}{k:Kl}{t:Ad}(h:KlAt s c σ k)(b:k.job=some (.hei t)):zaz σ c .no/\znv s σ c t:=by
 unfold KlAt at h;rw[b]at h;exact h
theorem z6d{s:Sh}{σ σ':Ab}{d:Wd}{n:Nat}{c:Int}{k k':Kl}{j:Jb}{F:Mem}{tr:List Ev}{lg:List Acc}(h:WI s σ d)(hd:wdOk s d n)(B:d.kl c=some k)(M:k.job=some j)(L:∀ t,j≠ .hei t)
  (O:Rep s F σ') (b:Kept s c σ σ') (D:KlAt s c σ' k'):WI s σ' ⟨F,d.l.set c.toNat (some k'),tr,lg⟩:=by
 have z:=(h.li c k B).1;have r:=d.zdk (Wd.zfs B).1 (Wd.zfs B).2 (some k') F tr lg;have E:=Later.yc7 b.2.2;refine⟨O,b.1,fun x y f=>?_,fun x f=>?_,fun x f=>?_,fun x a f=>?_⟩
 ·rw[r]at f;split at f
  ·rename_i e;subst e;injection f with f;subst f;exact⟨(b.2.2 x).trans z,D⟩
  rename_i e;obtain⟨S,G⟩:=h.li x y f;refine⟨(b.2.2 x).trans S,G.same (hd.kl x y f).1 (hd.kl x y f).2.1 (b.2.1 x e) E fun t p q C=>?_⟩;have h3:=((zup G p).2.n3 q C).1;exact⟨(b.2.2 _).trans h3,b.2.1 _ (z3h z (by rw[h3];simp))⟩
 ·rw[b.2.2]at f;rw[r];split
  ·exact⟨_,rfl⟩
  exact h.nl x f
 ·rw[b.2.2]at f;have o:x≠c:=z3h z (by rcases f with e|e<;>rw[e]<;>simp);obtain⟨V,X⟩:=h.un x f;exact⟨V.same (b.2.1 x o),fun i=>((b.2.1 x o).m i).trans (X i)⟩
 rw[b.2.2]at f;rw[b.2.2];obtain⟨T,U⟩:=h.ow x a f;refine⟨T,fun N=>?_⟩;obtain⟨R,t,p,q,C,I,J⟩:=U N;have o:a≠c:=fun e=>by subst e;rw[B]at p;injection p with p;subst p;rw[M]at q;injection q with q;exact L t q
 exact⟨R,t,by rw[r,if_neg o];exact p,q,C,I,J⟩
theorem zzn{s:Sh}{σ:Ab}{d:Int}(f:GI s σ)(h1:zcg σ d s.p)(h2:zgu σ d s.m)(h3:zhg σ d s.p):zaz σ d .no/\∀ i,σ.mg d i= .none:=by
 have q:=zpb f h1;have r:=zsc f h2;refine⟨⟨fun p=>⟨fun e=>absurd e (q p),fun e=>e.elim⟩,fun p g=>⟨fun e=>absurd e.2 (q g),fun e=>e.elim⟩,fun p i k=>⟨fun e=>?_,fun e=>?_⟩,fun p i k j e=>e.elim⟩,r⟩
 ·obtain⟨⟨b,o⟩,t⟩:=e;have:=zjs f o;exact absurd ⟨⟨b,o⟩,t⟩ (h3 p i k this.1.1 this.1.2)
 rcases e with e|⟨j,e⟩
 ·exact e.elim
 rw[r j]at e;cases e
theorem yby{s:Sh}{σ:Ab}{d:Wd}{n:Nat}{c:Int}{k:Kl}{t:Ad}{tr:List Ev}{lg:List Acc}(h:WI s σ d)(hd:wdOk s d n)(hk:d.kl c=some k)(hj:k.job=some (.hei t))(b8:adOk s t)(B:t.done=false)
  (k':Kl) (b0:k'.job=if (adA s t σ).1.done=true then none else some (.hei (adA s t σ).1)) (m':Mem) (hr:Rep s m' (adA s t σ).2):WI s (adA s t σ).2 ⟨m',d.l.set c.toNat (some k'),tr,lg⟩/\Calm σ (adA s t σ).2/\∀ x,(adA s t σ).2.st x= .unused↔σ.st x= .unused:=by
 obtain⟨M,bh⟩:=h.li c k hk;obtain⟨b3,F⟩:=zup bh hj;have z:=d.zdk (Wd.zfs hk).1 (Wd.zfs hk).2 (some k') m' tr lg;obtain⟨c1,c2,c3,c4,c5,c6,c7,c8,c9,bj⟩:=b8.cl B;have G:=F.ne B;have J:=F.cl;have b4:∀ x,t.next<=2->σ.st x≠ .owned c:=fun x hn e=>by obtain⟨k2,O,D,r,E,Z,e5⟩:=(h.ow x c e).2 M;rw[hk]at D;injection D with D;subst D;rw[hj]at r;injection r with r;injection r with r;subst r;omega
 have b1:∀ x,σ.st x= .owned c->t.d=x:=fun x e=>by obtain⟨k2,O,D,r,E,Z,e5⟩:=(h.ow x c e).2 M;rw[hk]at D;injection D with D;subst D;rw[hj]at r;injection r with r;injection r with r;subst r;exact E
 have mk:∀ σ',(∀ t',t'=(adA s t σ).1->t'.done=false->znv s σ' c t')->zaz σ' c .no->KlAt s c σ' k':=fun σ' h1 h2=>by
  unfold KlAt;rw[b0];rcases Bool.eq_false_or_eq_true (adA s t σ).1.done with e|e
  ·rw[if_pos e];exact h2
  rw[if_neg (by rw[e];decide)];exact⟨h2,h1 _ rfl e⟩
 have N:(adA s t σ).2=σ->t.next<=2->(∀ t',t'=(adA s t σ).1->t'.done=false->znv s σ c t')->WI s (adA s t σ).2 ⟨m',d.l.set c.toNat (some k'),tr,lg⟩/\Calm σ (adA s t σ).2/\∀ x,(adA s t σ).2.st x= .unused↔σ.st x= .unused:=fun e0 D r=>by
  rw[e0]at hr ⊢;refine⟨⟨hr,h.gi,fun x y f=>?_,fun x f=>?_,h.un,fun x a f=>?_⟩,Calm.refl _,fun _=>.rfl⟩
  ·rw[z]at f;split at f
   ·rename_i e;subst e;injection f with f;subst f;exact⟨M,mk σ r b3⟩
   exact h.li x y f
  ·rw[z];split
   ·exact⟨_,rfl⟩
   exact h.nl x f
  obtain⟨o1,o2⟩:=h.ow x a f;refine⟨o1,fun U=>?_⟩;obtain⟨k2,O,E,Z,e5,e6,e7⟩:=o2 U;have I:a≠c:=fun e=>by subst e;exact b4 x D f
  exact⟨k2,O,by rw[z,if_neg I];exact E,Z,e5,e6,e7⟩
 have bi:zjc 0=true:=by decide
 by_cases h0:t.next=0
 ·have X:=ya2 (s:=s) (σ:=σ) B h0;refine N (by rw[X]) (by omega) fun t' e Y=>?_;rw[X]at e;have hf:=h.gi.tf t.d;cases f:σ.st t.d with
  |dead=>rw[f]at e;subst e;exact⟨J,fun _ e=>(by cases e),fun _ _=>.inl rfl,fun _ e=>by exfalso;have e:(3:Int)<=2:=e;omega,fun _=>G,fun _=>F.a0 (by omega)⟩
  |owned a=>rw[f]at e hf;subst e;exact⟨J,fun _ _=>⟨rfl,hf,(h.ow _ _ f).1⟩,fun _ e=>(by cases e),fun _ e=>by exfalso;have e:(3:Int)<=1:=e;omega,fun _=>G,fun _=>F.a0 (by omega)⟩
  |unused=>rw[f]at e;subst e;cases Y
  |live=>rw[f]at e;subst e;cases Y
  |done=>rw[f]at e;subst e;cases Y
 by_cases h1:t.next=1
 ·have X:adA s t σ=(if σ.st t.who= .live then({t with next:=2}:Ad).fin 4 else {t with next:=2},σ):=by unfold adA;rw[if_neg (by rw[B];decide),if_neg h0,if_pos h1]
  refine N (by rw[X]) (by omega) fun t' e Y=>?_;rw[X]at e;obtain⟨w1,w2,w3⟩:=F.n1 B h1;by_cases f:σ.st t.who= .live
  ·have e:t'=({t with next:=2}:Ad).fin 4:=by rw[e];exact if_pos f
   subst e;cases Y
  have e:t'= {t with next:=2}:=by rw[e];exact if_neg f
  subst e;exact⟨J,fun _ e=>(by cases e),fun _ _=>.inr ⟨_,w1,w2,w3,f⟩,fun _ e=>by exfalso;have e:(3:Int)<=2:=e;omega,fun _=>G,fun _=>F.a0 (by omega)⟩
 by_cases h2:t.next=2
 ·by_cases hw:(σ.st t.d).enc=t.was
  ·have X:adA s t σ=({t with next:=3},σ.stat t.d (.owned t.c)):=by unfold adA;rw[if_neg (by rw[B];decide),if_neg h0,if_neg h1,if_pos h2,if_pos hw]
   have R:σ.st t.d= .dead\/∃ o,σ.st t.d= .owned o/\σ.st o≠ .live:=by
    rcases F.n2 B h2 with e|⟨o,D,r,E,Z⟩
    ·exact .inl (TW.inj c1 (h.gi.tf _) (y:= .dead) trivial (hw.trans e))
    exact .inr ⟨o,TW.inj c1 (h.gi.tf _) r (hw.trans D),Z⟩
   have bc:σ.st t.d≠ .live:=by rcases R with e|⟨o,e,_⟩<;>rw[e]<;>simp
   have bg:σ.st t.d≠ .unused:=by rcases R with e|⟨o,e,_⟩<;>rw[e]<;>simp
   have S:σ.st t.d≠ .done:=by rcases R with e|⟨o,e,_⟩<;>rw[e]<;>simp
   have bf:∀ x,σ.st x= .live->σ.st t.d≠ .owned x:=fun x f e=>by
    rcases R with r|⟨o,r,E⟩
    ·rw[r]at e;cases e
    rw[r]at e;injection e with e;subst e;exact E f
   rw[X]at hr b0 mk ⊢;rw[J]at hr ⊢;dsimp only at hr ⊢;have L:Later σ (σ.stat t.d (.owned c)):=by
    refine⟨fun x f=>?_,fun x f b7=>?_⟩
    ·by_cases e:x=t.d
     ·rw[e,zbf];simp
     rw[zao _ _ e];exact f
    by_cases e:x=t.d
    ·rw[e,zbf];simp
    rw[zao _ _ e];exact b7
   have j:(σ.stat t.d (.owned c)).st t.d= .owned c:=zbf _ _ _;have b6:∀ x,(σ.stat t.d (.owned c)).st x= .unused↔σ.st x= .unused:=fun x=>by
    by_cases e:x=t.d
    ·subst e;rw[j];exact⟨fun e=>(by cases e),fun e=>absurd e bg⟩
    rw[zao _ _ e]
   refine⟨⟨hr,h.gi.stat (J ▸ c2) c3,fun x y f=>?_,fun x f=>?_,fun x f=>?_,fun x a f=>?_⟩,ztg,b6⟩
   ·rw[z]at f;split at f
    ·rename_i e;subst e;injection f with f;subst f;refine⟨(zao _ _ G.symm).trans M,mk _ (fun t' e Y=>?_) (b3.same (Same.stat _ _))⟩;subst e;refine⟨J,fun _ e=>(by cases e),fun _ e=>(by cases e),fun _ _=>⟨j,?_⟩,fun _=>G,fun e=>by exfalso;have e:(3:Int)<=2:=e;omega⟩;rw[adD3 rfl];intro p g a b;have b:p<t.at':=b;rw[F.a0 (by omega)]at b;omega
    rename_i e;obtain⟨l1,l2⟩:=h.li x y f;have q:x≠t.d:=fun e=>bc (e ▸ l1);refine⟨(zao _ _ q).trans l1,l2.same (hd.kl x y f).1 (hd.kl x y f).2.1 (Same.stat _ _) L fun O D r E=>?_⟩;have h3:=((zup l2 D).2.n3 r E).1;have:O.d≠t.d:=fun e=>by rw[e]at h3;exact bf x l1 h3
    exact⟨(zao _ _ this).trans h3,Same.stat _ _⟩
   ·have q:x≠t.d:=fun e=>by rw[e,j]at f;cases f
    rw[zao _ _ q]at f;rw[z];split
    ·exact⟨_,rfl⟩
    exact h.nl x f
   ·have q:x≠t.d:=fun e=>by rw[e,j]at f;rcases f with e|e<;>cases e
    rw[zao _ _ q]at f;obtain⟨u1,u2⟩:=h.un x f;exact⟨u1.same (Same.stat _ _),u2⟩
   by_cases q:x=t.d
   ·subst q;rw[j]at f;injection f with f;subst f;refine⟨by rw[zao _ _ G.symm,M];simp,fun _=>⟨k', {t with next:=3},by rw[z,if_pos rfl],?_,rfl,B,by show (3:Int)<=3;omega⟩⟩;rw[b0];exact if_neg (by dsimp only;rw[B];decide)
   rw[zao _ _ q]at f;obtain⟨o1,o2⟩:=h.ow x a f;refine⟨L.un a o1,fun U=>?_⟩;have b5:a≠t.d:=fun e=>by rw[e,j]at U;cases U
   rw[zao _ _ b5]at U;obtain⟨k2,O,E,Z,e5,e6,e7⟩:=o2 U;have I:a≠c:=fun e=>by subst e;exact b4 x (by omega) f
   exact⟨k2,O,by rw[z,if_neg I];exact E,Z,e5,e6,e7⟩
  have X:adA s t σ=(({t with next:=3}:Ad).fin 4,σ):=by unfold adA;rw[if_neg (by rw[B];decide),if_neg h0,if_neg h1,if_pos h2,if_neg hw]
  refine N (by rw[X]) (by omega) fun t' e Y=>?_;rw[X]at e;subst e;cases Y
 obtain⟨V,S⟩:=F.n3 B (by omega);have ba:∀ x,σ.st x= .live->x≠t.d:=fun x f e=>by rw[e,V]at f;cases f
 by_cases bb:t.next=13
 ·have X:adA s t σ=(t.fin 0,σ.stat t.d .done):=by unfold adA;rw[if_neg (by rw[B];decide)];iterate 13 rw[if_neg (by omega)]
  rw[z9t bb]at S;obtain⟨x1,x2⟩:=zzn h.gi S.1 S.2.1 S.2.2;rw[X]at hr b0 mk ⊢;dsimp only at hr ⊢;have j:(σ.stat t.d .done).st t.d= .done:=zbf _ _ _;have L:Later σ (σ.stat t.d .done):=by
   refine⟨fun x f=>?_,fun x f b7=>?_⟩
   ·by_cases e:x=t.d
    ·rw[e,zbf];simp
    rw[zao _ _ e];exact f
   by_cases e:x=t.d
   ·rw[e,zbf];simp
   rw[zao _ _ e];exact b7
  have b6:∀ x,(σ.stat t.d .done).st x= .unused↔σ.st x= .unused:=fun x=>by
   by_cases e:x=t.d
   ·subst e;rw[j,V];exact⟨fun e=>(by cases e),fun e=>(by cases e)⟩
   rw[zao _ _ e]
  refine⟨⟨hr,h.gi.stat trivial c3,fun x y f=>?_,fun x f=>?_,fun x f=>?_,fun x a f=>?_⟩,ztg,b6⟩
  ·rw[z]at f;split at f
   ·rename_i e;subst e;injection f with f;subst f;exact⟨(zao _ _ G.symm).trans M,mk _ (fun t' e Y=>by subst e;cases Y) (b3.same (Same.stat _ _))⟩
   rename_i e;obtain⟨l1,l2⟩:=h.li x y f;refine⟨(zao _ _ (ba x l1)).trans l1,l2.same (hd.kl x y f).1 (hd.kl x y f).2.1 (Same.stat _ _) L fun O D r E=>?_⟩;have h3:=((zup l2 D).2.n3 r E).1;have:O.d≠t.d:=fun r=>by rw[r,V]at h3;injection h3 with h3;exact e h3.symm
   exact⟨(zao _ _ this).trans h3,Same.stat _ _⟩
  ·have q:x≠t.d:=fun e=>by rw[e,j]at f;cases f
   rw[zao _ _ q]at f;rw[z];split
   ·exact⟨_,rfl⟩
   exact h.nl x f
  ·by_cases q:x=t.d
   ·subst q;exact⟨x1.same (Same.stat _ _),x2⟩
   rw[zao _ _ q]at f;obtain⟨u1,u2⟩:=h.un x f;exact⟨u1.same (Same.stat _ _),u2⟩
  have q:x≠t.d:=fun e=>by rw[e,j]at f;cases f
  rw[zao _ _ q]at f;obtain⟨o1,o2⟩:=h.ow x a f;refine⟨L.un a o1,fun U=>?_⟩;have b5:a≠t.d:=fun e=>by rw[e,j]at U;cases U
  rw[zao _ _ b5]at U;obtain⟨k2,O,E,Z,e5,e6,e7⟩:=o2 U;have I:a≠c:=fun e=>by subst e;exact q (b1 x f).symm
  exact⟨k2,O,by rw[z,if_neg I];exact E,Z,e5,e6,e7⟩
 have T:=yb6 h.gi b8 B (by omega) S;have j:=T.kept.2.2;have L:=Later.yc7 j;have b2:∀ x,x≠t.d->Same x σ (adA s t σ).2:=T.kept.2.1;refine⟨⟨hr,T.kept.1,fun x y f=>?_,fun x f=>?_,fun x f=>?_,fun x a f=>?_⟩,T.calm,fun x=>by rw[j]⟩
 ·rw[z]at f;split at f
  ·rename_i e;subst e;injection f with f;subst f;refine⟨(j _).trans M,mk _ (fun t' e Y=>?_) (b3.same (b2 _ G.symm))⟩;subst e;have C:=T.on;exact⟨C.c.trans J,fun _ e=>by have:=C.nx;omega,fun _ e=>by have:=C.nx;omega,fun _ _=>⟨by rw[j,C.d];exact V,C.dd⟩,fun _=>by rw[C.d];exact G,fun e=>by have:=C.nx;omega⟩
  rename_i e;obtain⟨l1,l2⟩:=h.li x y f;refine⟨(j x).trans l1,l2.same (hd.kl x y f).1 (hd.kl x y f).2.1 (b2 x (ba x l1)) L fun O D r E=>?_⟩;have h3:=((zup l2 D).2.n3 r E).1;have:O.d≠t.d:=fun r=>by rw[r,V]at h3;injection h3 with h3;exact e h3.symm
  exact⟨(j _).trans h3,b2 _ this⟩
 ·rw[j]at f;rw[z];split
  ·exact⟨_,rfl⟩
  exact h.nl x f
 ·rw[j]at f;have q:x≠t.d:=fun e=>by rw[e,V]at f;rcases f with e|e<;>cases e
  obtain⟨u1,u2⟩:=h.un x f;exact⟨u1.same (b2 x q),fun i=>((b2 x q).m i).trans (u2 i)⟩
 rw[j]at f;rw[j];obtain⟨o1,o2⟩:=h.ow x a f;refine⟨o1,fun U=>?_⟩;obtain⟨k2,O,E,Z,e5,e6,e7⟩:=o2 U;by_cases I:a=c
 ·subst I;have C:=T.on;have b9:(adA s t σ).1.done=false:=C.dn.trans B;refine⟨k',(adA s t σ).1,by rw[z,if_pos rfl],by rw[b0,if_neg (by rw[b9];decide)],C.d.trans (b1 x f),b9,C.nx.1⟩
 exact⟨k2,O,by rw[z,if_neg I];exact E,Z,e5,e6,e7⟩
theorem zt5{s:Sh}{σ:Ab}{d:Wd}{n:Nat}{c:Int}{k:Kl}{j:Jb}(h:WI s σ d)(hd:wdOk s d n)(D:d.kl c=some k)(B:k.job=some j):WI s (j.zhf s c σ).2 (d.step s c k).1/\Chg j (j.step s c d.m).1 σ (j.zhf s c σ).2/\(j.step s c d.m).1=(j.zhf s c σ).1:=by
 obtain⟨N,z,p⟩:=hd.kl c k D;obtain⟨M,C⟩:=h.li c k D;obtain⟨o,q,L,J⟩:=N.jb j B;rw[z]at o;have f:=ye9 h.rep h.gi o p;have y:=zqw (m:=d.m) o p q h.rep.fi hd.fit;have G:k.step s d.m=(k.after (j.step s c d.m).1,(j.step s c d.m).2,k.tells (j.step s c d.m).1,0):=by unfold Kl.step;rw[B,z]
 unfold Wd.step;rw[G];dsimp only;have F:KlAt s c σ k=JbAt s c σ j:=by unfold KlAt;rw[B]
 rw[F]at C;by_cases E:∃ t,j= .hei t
 ·obtain⟨t,rfl⟩:=E;have r:(za0 s t d.m).1=(adA s t σ).1:=by have:=f.1;injection this
  have I:=yby (tr:=d.tr++k.tells (.hei (za0 s t d.m).1)) (lg:=if d.m.st<((Jb.hei t).step s c d.m).2.st then d.lg++[((Jb.hei t).step s c d.m).2.la] else d.lg) h hd D B o.1 q (k.after (.hei (za0 s t d.m).1)) (by
   show (if (Jb.hei (za0 s t d.m).1).done=true then none else some (Jb.hei (za0 s t d.m).1))=_
   rw[r];rfl) _ f.2
  exact⟨I.1,⟨fun _ e=>(by cases e),fun b e=>(by cases e),fun _ _=>I.2.1,I.2.2⟩,f.1⟩
 have i:=ya1 h.rep h.gi o p q C (fun a e=>E ⟨a,e⟩);refine⟨z6d h hd D B (fun a e=>E ⟨a,e⟩) f.2 i.kept ?_,?_,f.1⟩
 ·unfold KlAt;show (match (if (j.step s c d.m).1.done=true then none else some (j.step s c d.m).1:Option Jb) with|none=>_|some j=>_);have h1:=i.at';rw[<-f.1]at h1;rcases Bool.eq_false_or_eq_true (j.step s c d.m).1.done with e|e
  ·rw[if_pos e];exact yb5 y.2.1 e h1
  rw[if_neg (by rw[e];decide)];exact h1
 have h1:=i.gave;have h2:=i.took;have h3:=i.calm;rw[<-f.1]at h1 h2 h3;exact⟨h1,h2,h3,fun x=>by rw[i.kept.2.2]⟩
variable {s:Sh} {σ:Ab} {d:Wd} {n:Nat} {c:Int} {k k':Kl}

theorem zw8(h:WI s σ d)(p:d.kl c=some k)(q:KlAt s c σ k')(j:k'.job=k.job\/k.job=none)(tr:List Ev)(lg:List Acc):WI s σ ⟨d.m,d.l.set c.toNat (some k'),tr,lg⟩:=by
 have f:=d.zdk (Wd.zfs p).1 (Wd.zfs p).2 (some k') d.m tr lg;refine⟨h.rep,h.gi,fun x y b=>?_,fun x b=>?_,h.un,fun x a b=>?_⟩
 ·rw[f]at b;split at b
  ·rename_i e;subst e;injection b with b;subst b;exact⟨(h.li x k p).1,q⟩
  exact h.li x y b
 ·rw[f];split
  ·exact⟨_,rfl⟩
  exact h.nl x b
 obtain⟨E,F⟩:=h.ow x a b;refine⟨E,fun C=>?_⟩;obtain⟨D,t,i,o,r,z,B⟩:=F C;rw[f];by_cases e:a=c
 ·subst e;rw[p]at i;injection i with i;subst i;rw[if_pos rfl];rcases j with j|j
  ·exact⟨k',t,rfl,j.trans o,r,z,B⟩
  rw[j]at o;cases o
 rw[if_neg e];exact⟨D,t,i,o,r,z,B⟩
theorem zwb(h:WI s σ d)(hd:wdOk s d n)(x:Ch)(o:d.kl x.client=some k):WI s σ (d.ask s x k).1:=by
 obtain⟨r,j,m⟩:=hd.kl _ k o;obtain⟨q,b⟩:=h.li _ k o;unfold Wd.ask;refine zw8 h o ?_ ?_ _ _
 ·unfold Kl.invoke;split
  ·exact b
  rename_i p;have f:k.job=none:=by
   cases f:k.job
   ·rfl
   simp[Kl.rests,f]at p
  have i:zaz σ x.client .no:=by unfold KlAt at b;rw[f]at b;exact b
  split
  ·exact b
  split
  ·show KlAt s x.client σ {k with op:=x.op,told:=false,steps:=0};unfold KlAt;dsimp only;rw[f];exact i
  unfold KlAt;dsimp only;rw[j];exact z5b h.rep.may m i _ _ _ _
 unfold Kl.invoke;split
 ·exact .inl rfl
 rename_i p;have f:k.job=none:=by
  cases f:k.job
  ·rfl
  simp[Kl.rests,f]at p
 exact .inr f
theorem zqr(h:WI s σ d)(hd:wdOk s d n)(x:Ch)(hc:0<=x.client/\x.client<s.c)(hu:d.stat x.client=0):WI s (σ.stat x.client .live) (d.begin s x).1:=by
 have G:=h.rep.may;have hb:=zar.1 G;have q:=(ixs h.rep.fi).2.2.2 _ hc;have f:σ.st x.client= .unused:=by have h1:=h.rep.st _ hc;rw[q]at h1;unfold Wd.stat at hu;rw[h1]at hu;have h2:=(TW.read G (h.gi.tf x.client)).1;rw[hu]at h2;cases hx:σ.st x.client<;>rw[hx]at h2<;>simp[TW.kind]at h2
 have hi:x.client.toNat<d.l.length:=by rw[hd.len];omega
 unfold Wd.begin;rw[if_pos hu];dsimp only;have i:=d.zdk hc.1 hi (some (zht x.client (Fl.zdr x.bias s.p))) (d.m.put x.client (za8 1 0)) (d.tr++[zcj x.client]) d.lg;have j:(σ.stat x.client .live).st x.client= .live:=zbf _ _ _;have r:Rep s (d.m.put x.client (za8 1 0)) (σ.stat x.client .live):=h.rep.zpm hc .live (by rw[q];rfl);have E:Later σ (σ.stat x.client .live):=by
  refine⟨fun y b=>?_,fun y b F=>?_⟩
  ·by_cases e:y=x.client
   ·rw[e,zbf];simp
   rw[zao _ _ e];exact b
  have e:y≠x.client:=fun e=>b (e ▸ f);rw[zao _ _ e];exact F
 refine⟨r,h.gi.stat trivial hc,fun y z b=>?_,fun y b=>?_,fun y b=>?_,fun y a b=>?_⟩
 ·rw[i]at b;split at b
  ·rename_i e;subst e;injection b with b;subst b;exact⟨j,(h.un _ (.inl f)).1.same (Same.stat _ _)⟩
  rename_i e;obtain⟨R,I⟩:=h.li y z b;refine⟨(zao _ _ e).trans R,I.same (hd.kl y z b).1 (hd.kl y z b).2.1 (Same.stat _ _) E fun t B C D=>?_⟩;have h3:=((zup I B).2.n3 C D).1;have:t.d≠x.client:=fun e=>by rw[e,f]at h3;cases h3
  exact⟨(zao _ _ this).trans h3,Same.stat _ _⟩
 ·rw[i];split
  ·exact⟨_,rfl⟩
  rename_i e;rw[zao _ _ e]at b;exact h.nl y b
 ·have e:y≠x.client:=fun e=>by rw[e,j]at b;rcases b with e|e<;>cases e
  rw[zao _ _ e]at b;obtain⟨T,U⟩:=h.un y b;exact⟨T.same (Same.stat _ _),U⟩
 have e:y≠x.client:=fun e=>by rw[e,j]at b;cases b
 rw[zao _ _ e]at b;obtain⟨J,S⟩:=h.ow y a b;have o:a≠x.client:=fun e=>J (e ▸ f);rw[zao _ _ o];refine⟨J,fun N=>?_⟩;obtain⟨O,t,B,C,D,L,M⟩:=S N;exact⟨O,t,by rw[i,if_neg o];exact B,C,D,L,M⟩
theorem zp4(h:WI s σ d)(hd:wdOk s d n)(E:d.kl c=some k):WI s (σ.stat c .dead) (d.kill c).1:=by
 obtain⟨X,M,hc⟩:=hd.kl _ k E;obtain⟨F,N⟩:=h.li _ k E;have D:=(ixs h.rep.fi).2.2.2 _ hc;have hi:c.toNat<d.l.length:=(Wd.zfs E).2;unfold Wd.kill;dsimp only;have i:=d.zdk hc.1 hi none (d.m.put c (za8 2 0)) (d.tr++[zdw c]) d.lg;have f:(σ.stat c .dead).st c= .dead:=zbf _ _ _;have p:Rep s (d.m.put c (za8 2 0)) (σ.stat c .dead):=h.rep.zpm hc .dead (by rw[D];rfl);have o:Later σ (σ.stat c .dead):=by
  refine⟨fun y b=>?_,fun y b G=>?_⟩
  ·by_cases e:y=c
   ·rw[e,zbf];simp
   rw[zao _ _ e];exact b
  by_cases e:y=c
  ·rw[e,zbf];simp
  rw[zao _ _ e];exact G
 refine⟨p,h.gi.stat trivial hc,fun y z b=>?_,fun y b=>?_,fun y b=>?_,fun y a b=>?_⟩
 ·rw[i]at b;split at b
  ·cases b
  rename_i e;obtain⟨R,I⟩:=h.li y z b;refine⟨(zao _ _ e).trans R,I.same (hd.kl y z b).1 (hd.kl y z b).2.1 (Same.stat _ _) o fun t r B C=>?_⟩;have h3:=((zup I r).2.n3 B C).1;have:t.d≠c:=fun e=>by rw[e,F]at h3;cases h3
  exact⟨(zao _ _ this).trans h3,Same.stat _ _⟩
 ·have e:y≠c:=fun e=>by rw[e,f]at b;cases b
  rw[zao _ _ e]at b;rw[i,if_neg e];exact h.nl y b
 ·have e:y≠c:=fun e=>by rw[e,f]at b;rcases b with e|e<;>cases e
  rw[zao _ _ e]at b;obtain⟨U,V⟩:=h.un y b;exact⟨U.same (Same.stat _ _),V⟩
 have e:y≠c:=fun e=>by rw[e,f]at b;cases b
 rw[zao _ _ e]at b;obtain⟨S,T⟩:=h.ow y a b;refine⟨o.un a S,fun q=>?_⟩;have j:a≠c:=fun e=>by rw[e,f]at q;cases q
 rw[zao _ _ j]at q;obtain⟨O,t,r,B,C,J,L⟩:=T q;exact⟨O,t,by rw[i,if_neg j];exact r,B,C,J,L⟩
def z9x:Ab:=⟨fun _=> .empty,fun _ _=> .none,fun _ _=> .none,fun _=> .unused⟩
theorem zqj(N:Nat)(a:Int):(zgj N).get a=0:=by
 unfold Mem.get zgj;dsimp only;rw[List.getD_eq_getElem?_getD,List.getElem?_replicate];split<;>rfl
theorem ydc(h:mayB s.p s.c s.m=true):WI s z9x (zde s):=by
 have h0:=zl9 h;have o:∀ c,zaz z9x c .no:=fun c=>by
  refine⟨fun p=>⟨fun e=>?_,fun e=>e.elim⟩,fun p g=>⟨fun e=>?_,fun e=>e.elim⟩,fun p i k=>⟨fun e=>?_,fun e=>?_⟩,fun p i k j e=>e.elim⟩
  ·cases e
  ·cases e.1
  ·obtain⟨⟨b,e⟩,_⟩:=e;cases e
  rcases e with e|⟨j,e⟩
  ·exact e.elim
  cases e
 refine⟨⟨h0.fi,fun p q=>?_,fun p i q hi=>?_,fun c i hc hi=>?_,fun c hc=>?_⟩,?_,fun c k f=>?_,fun c e=>(by cases e),fun c _=>⟨o c,fun _=>rfl⟩,fun x a e=>(by cases e)⟩
 ·exact zqj _ _
 ·exact zqj _ _
 ·exact zqj _ _
 ·exact(zqj _ _).trans (show (0:Int)=za8 0 0 by decide)
 ·exact⟨fun _=>trivial,fun _ _=>trivial,fun _ _=>trivial,fun _=>trivial,fun c i e=>absurd rfl e,fun c e=>absurd rfl e,fun p i=>rfl,fun p h e=>(by cases e),fun p n e=>(by cases e),fun c j p i k e=>(by cases e),fun c j j' p i k k' e=>(by cases e)⟩
 unfold Wd.kl zde at f;dsimp only at f;rw[List.getD_eq_getElem?_getD,List.getElem?_replicate]at f;split at f
 ·split at f<;>simp at f
 cases f
end

section

def Bl.at':Bl->Int
 | .lar p _=> p * 64
 | .sm p i k=> p * 64 + i * zbj k
def Bl.len:Bl->Int
 | .lar _ n=> n * 64
 | .sm _ _ k=> zbj k
variable {s:Sh} {σ:Ab}

theorem z1t{k:Int}(h:0<=k/\k<=3):(zbj k=4/\zah k=16)\/(zbj k=8/\zah k=8)\/(zbj k=16/\zah k=4)\/(zbj k=32/\zah k=2):=by
 have:k=0\/k=1\/k=2\/k=3:=by omega
 rcases this with rfl|rfl|rfl|rfl<;>decide
theorem zjt{i k:Int}(j:0<=k/\k<=3)(hi:0<=i/\i<zah k):0<=i*zbj k/\i*zbj k+zbj k<=64/\1<=zbj k:=by
 rcases z1t j with⟨b,f⟩|⟨b,f⟩|⟨b,f⟩|⟨b,f⟩<;>rw[b]<;>rw[f]at hi<;>omega
theorem zmt{i j k:Int}(m:0<=k/\k<=3)(h:i<j):i*zbj k+zbj k<=j*zbj k:=by
 rcases z1t m with⟨b,f⟩|⟨b,f⟩|⟨b,f⟩|⟨b,f⟩<;>rw[b]<;>omega
theorem zto(f:GI s σ){p i k:Int}(h:σ.has (.sm p i k)):(∃ b,σ.pg p= .super k b)/\(0<=i/\i<zah k)/\(0<=k/\k<=3)/\0<=p/\p<s.p:=by
 obtain⟨⟨b,h1⟩,h2⟩:=zhs f (.inr h);have h3:=zjs f h1;exact⟨⟨b,h1⟩,h2,h3.2.1,h3.1⟩
theorem zwn(f:GI s σ){b:Bl}(h:σ.has b):0<=b.at'/\1<=b.len/\b.at'+b.len<=s.p*64:=by
 cases b with
 |lar p n=>have:=zgt f h;simp only[Bl.at',Bl.len];omega
 |sm p i k=>obtain⟨_,h2,h3,h4⟩:=zto f h;have:=zjt h3 h2;simp only[Bl.at',Bl.len];omega
theorem zsn(f:GI s σ){a b:Bl}(t:σ.has a)(hb:σ.has b)(o:a≠b):¬ (a.at'<b.at'+b.len/\b.at'<a.at'+a.len):=by
 have lar:∀ p n q,σ.pg p= .large n->(∀ g,σ.pg q≠ .body g)->p<q->p+n<=q:=fun p n q h1 h2 h3=>by
  by_cases e:p+n<=q
  ·exact e
  have:=f.lg p n h1 (q-p) (by omega) (by omega);rw[show p+(q-p)=q by omega]at this;exact absurd this (h2 p)
 cases a with
 |lar p n=>
  cases b with
  |lar q m=>
   have h1:σ.pg p= .large n:=t
   have h2:σ.pg q= .large m:=hb
   have z:=zgt f h1
   have J:=zgt f h2
   simp only[Bl.at',Bl.len]
   rcases Int.lt_trichotomy p q with e|e|e
   ·have:=lar p n q h1 (fun g e=>by rw[h2]at e;cases e) e
    omega
   ·subst e
    rw[h1]at h2;injection h2 with h2;subst h2
    exact absurd rfl o
   ·have:=lar q m p h2 (fun g e=>by rw[h1]at e;cases e) e
    omega
  |sm q i k=>
   have h1:σ.pg p= .large n:=t
   obtain⟨⟨b,h2⟩,h3,h4,E⟩:=zto f hb
   have y:=zjt h4 h3
   have z:=zgt f h1
   simp only[Bl.at',Bl.len]
   rcases Int.lt_trichotomy p q with e|e|e
   ·have:=lar p n q h1 (fun g e=>by rw[h2]at e;cases e) e
    omega
   ·subst e;rw[h1]at h2;cases h2
   ·omega
 |sm p i k=>
  obtain⟨⟨F,h2⟩,h3,h4,E⟩:=zto f t
  have y:=zjt h4 h3
  cases b with
  |lar q m=>
   have h1:σ.pg q= .large m:=hb
   have z:=zgt f h1
   simp only[Bl.at',Bl.len]
   rcases Int.lt_trichotomy q p with e|e|e
   ·have:=lar q m p h1 (fun g e=>by rw[h2]at e;cases e) e
    omega
   ·subst e;rw[h1]at h2;cases h2
   ·omega
  |sm q j k'=>
   obtain⟨⟨G,r⟩,B,C,I⟩:=zto f hb
   have D:=zjt C B
   simp only[Bl.at',Bl.len]
   rcases Int.lt_trichotomy q p with e|e|e
   ·omega
   ·subst e
    rw[h2]at r;injection r with r _;subst r
    rcases Int.lt_trichotomy i j with e|e|e
    ·have:=zmt (i:=i) (j:=j) h4 e;omega
    ·subst e;exact absurd rfl o
    ·have:=zmt (i:=j) (j:=i) h4 e;omega
   ·omega
theorem ybm(f:GI s σ){a b:Bl}(i:σ.has a)(hb:σ.has b)(h:a.at'=b.at'):a=b:=by
 by_cases e:a=b
 ·exact e
 have h1:=zwn f i;have h2:=zwn f hb;exact absurd ⟨by omega,by omega⟩ (zsn f i hb e)
structure zjj (W:Int) (H:Bl->Prop) (l:List Bk):Prop where
 ok:okK W 0 l
 mem:∀ a n,⟨a,n⟩ ∈ l↔∃ b,H b/\b.at'=a/\b.len=n
def z5i (H:Bl->Prop):Prop:=∀ a b,H a->H b->a.at'=b.at'->a=b
variable {W:Int} {H H':Bl->Prop} {l:List Bk}

theorem zjj.found(h:zjj W H l)(a:Int):zd6 a l=true↔∃ b,H b/\b.at'=a:=by
 rw[zym h.ok];constructor
 ·rintro⟨⟨x,n⟩,hb,rfl⟩;obtain⟨b,h1,h2,h3⟩:=(h.mem x n).1 hb;exact⟨b,h1,h2⟩
 rintro⟨b,h1,h2⟩;exact⟨⟨a,b.len⟩,(h.mem _ _).2 ⟨b,h1,h2,rfl⟩,rfl⟩
theorem z90{a n:Int}{x:Bk}:x ∈ putB l a n↔x ∈ l\/x=⟨a,n⟩:=by
 unfold putB;rw[List.mem_append,List.mem_cons];have:x ∈ l↔x ∈ l.take (posB a l)\/x ∈ l.drop (posB a l):=by rw[<-List.mem_append,List.take_append_drop]
 rw[this];constructor
 ·rintro(h|h|h)
  ·exact .inl (.inl h)
  ·exact .inr h
  exact .inl (.inr h)
 rintro((h|h)|h)
 ·exact .inl h
 ·exact .inr (.inr h)
 exact .inr (.inl h)
theorem z7j{lo a:Int}(j:okK W lo l)(m:zd6 a l=true){x:Bk}:x ∈ ya7 l a↔x ∈ l/\x.a≠a:=by
 obtain⟨h1,h2⟩:=(zop a l).1 m;unfold ya7;constructor
 ·intro h;have f:x ∈ l:=by
   rcases List.mem_append.1 h with h|h
   ·exact List.mem_of_mem_take h
   exact List.mem_of_mem_drop h
  refine⟨f,fun e=>?_⟩;rcases List.mem_append.1 h with h|h
  ·obtain⟨i,hi,rfl⟩:=List.getElem_of_mem h;rw[List.length_take]at hi;rw[List.getElem_take]at e;have:=zo8 a l i (by omega) (by omega);omega
  obtain⟨i,hi,rfl⟩:=List.getElem_of_mem h;rw[List.length_drop]at hi;rw[List.getElem_drop]at e;have:=j.lt (posB a l) (posB a l+1+i) (by omega) (by omega);have:=(j.mem _ (List.getElem_mem h1)).2.1;omega
 rintro⟨f,b⟩;have h3:l=l.take (posB a l)++l[posB a l]::l.drop (posB a l+1):=by rw[<-List.drop_eq_getElem_cons h1,List.take_append_drop]
 rw[h3]at f;rcases List.mem_append.1 f with h|h
 ·exact List.mem_append.2 (.inl h)
 rcases List.mem_cons.1 h with h|h
 ·rw[h]at b;exact absurd h2 b
 exact List.mem_append.2 (.inr h)
theorem zjj.plus(h:zjj W H l){b:Bl}(m:∀ x,H' x↔(H x\/x=b))(f:0<=b.at'/\1<=b.len/\b.at'+b.len<=W)(j:∀ x,H x->¬ (x.at'<b.at'+b.len/\b.at'<x.at'+x.len)):zwf W l b.at' b.len=true/\zjj W H' (putB l b.at' b.len):=by
 have i:∀ x ∈ l,¬ (x.a<b.at'+b.len/\b.at'<x.a+x.n):=fun x o=>by obtain⟨y,h1,h2,h3⟩:=(h.mem x.a x.n).1 o;have:=j y h1;rw[h2,h3]at this;exact this
 refine⟨?_,⟨ya9 h.ok f.1 f.2.1 f.2.2 i,fun a n=>?_⟩⟩
 ·unfold zwf ydk;rw[decide_eq_true (by omega:1<=b.len/\0<=b.at'/\b.at'<=W/\b.len<=W-b.at'),Bool.true_and];have:l.any (fun x=>meets x b.at' b.len)=false:=by rw[List.any_eq_false];intro x o;simp only[meets,decide_eq_true_eq];exact i x o
  rw[this];rfl
 rw[z90,h.mem a n];constructor
 ·rintro(⟨x,h1,h2,h3⟩|e)
  ·exact⟨x,(m x).2 (.inl h1),h2,h3⟩
  injection e with p q;exact⟨b,(m b).2 (.inr rfl),p.symm,q.symm⟩
 rintro⟨x,h1,h2,h3⟩;rcases(m x).1 h1 with e|e
 ·exact .inl ⟨x,e,h2,h3⟩
 subst e;exact .inr (by rw[h2,h3])
theorem zjj.minus(h:zjj W H l)(h1:z5i H){b:Bl}(hb:H b)(q:∀ x,H' x↔(H x/\x≠b)):zd6 b.at' l=true/\zjj W H' (zse l b.at'):=by
 have m:zd6 b.at' l=true:=(h.found _).2 ⟨b,hb,rfl⟩;refine⟨m,⟨z7z h.ok,fun a n=>?_⟩⟩;unfold zse;rw[if_pos m,z7j h.ok m,h.mem a n];constructor
 ·rintro⟨⟨x,i,f,j⟩,o⟩;exact⟨x,(q x).2 ⟨i,fun e=>by subst e;exact o f.symm⟩,f,j⟩
 rintro⟨x,i,f,j⟩;obtain⟨p,r⟩:=(q x).1 i;exact⟨⟨x,p,f,j⟩,fun e=>r (h1 x b p hb (by rw[f];exact e))⟩
theorem zjj.congr(h:zjj W H l)(e:∀ x,H' x↔H x):zjj W H' l:=⟨h.ok,fun a n=>(h.mem a n).trans ⟨fun ⟨b,h1,h2⟩=>⟨b,(e b).2 h1,h2⟩,fun ⟨b,h1,h2⟩=>⟨b,(e b).1 h1,h2⟩⟩⟩
end

section

variable {s:Sh} {σ:Ab} {c:Int}

def zt2 (n:Int) (t:Rs):Prop:=(wi n 1 32=true/\t.k=zcn n/\∃ x,t.seeker=some x)\/(wi n 1 32=false/\wi n 33 512=true/\t.pages=runV n/\t.seeker=none)
theorem z7l(b:Blk):(zoa b).at'=b.at'/\(zoa b).len=b.len:=by
 unfold zoa Blk.at' Blk.len;split<;>exact⟨rfl,rfl⟩
theorem zrf{n:Int}{t:Rs}{b:Blk}(h:zt2 n t)(f:t.got=some b):b.len=lenV n:=by
 obtain⟨k,pg,sk,rn⟩:=t;unfold Rs.got at f;unfold lenV;rcases h with⟨h1,h2,x,h3⟩|⟨h1,h2,h3,h4⟩
 ·dsimp only at h2 h3 f;subst h3;dsimp only at f;split at f
  ·injection f with f;subst f;rw[if_pos h1,<- h2];rfl
  cases f
 dsimp only at h3 h4 f;subst h4;rcases rn with _|y
 ·cases f
 dsimp only at f;split at f
 ·injection f with f;subst f;rw[if_neg (by rw[h1];decide),<- h3];rfl
 cases f
theorem zr2{n:Int}(h:lenB n=true)(s:Sh)(c f:Int):zt2 n (zdh s c n f):=by
 have i:=zbc.1 (show wi n 1 512=true from h);unfold zdh zt2;by_cases h1:wi n 1 32=true
 ·rw[if_pos h1];exact .inl ⟨h1,rfl,_,rfl⟩
 have b:wi n 1 32=false:=by simpa using h1
 have j:=zgo.1 b;have h2:wi n 33 512=true:=zbc.2 (by omega);rw[if_neg h1,if_pos h2];exact .inr ⟨b,h2,rfl,rfl⟩
theorem zot{n:Int}{t:Rs}(h:zt2 n t)(s:Sh)(σ:Ab):zt2 n (rsA s t σ).1:=by
 obtain⟨k,pg,sk,rn⟩:=t;unfold rsA;rcases h with⟨h1,h2,x,h3⟩|⟨h1,h2,h3,h4⟩
 ·dsimp only at h2 h3;subst h3;exact .inl ⟨h1,h2,_,rfl⟩
 dsimp only at h3 h4;subst h4;rcases rn with _|y
 ·exact .inr ⟨h1,h2,h3,rfl⟩
 exact .inr ⟨h1,h2,h3,rfl⟩
structure zn9 (H:Bl->Prop) (ab:Bool) (a:Int) (f:Fe):Prop where
 ad:f.a=a
 pg:f.page=a / 64
 bl:f.done=false->1<=f.next->(feBl f).at'=a
 see:f.done=false->f.next=1->ab=true\/H (feBl f)
 no:f.done=true->f.gave=false->ab=true
theorem zsr{a:Int}(hs:mayB s.p s.c s.m=true)(hc:0<=c/\c<s.c)(f:spB s a=true)(H:Bl->Prop)(ab:Bool):zn9 H ab a (zc2 s c a):=by
 have b:=zmw (c:=c) hs hc f;refine⟨rfl,if_pos f,fun _ e=>?_,fun _ e=>?_,fun e=>?_⟩
 ·rw[b.2.1]at e;omega
 ·rw[b.2.1]at e;cases e
 rw[b.1]at e;cases e
theorem z4z{t:Fe}{x:PW}(hd:t.done=false):(t.zeg x).a=t.a/\(t.zeg x).page=t.page/\(t.zeg x).gave=t.gave/\(t.zeg x).next=1/\(t.zeg x).pk=x.kind/\(t.zeg x).pa=x.pa/\
  (((t.zeg x).done=false/\((x.kind=3/\t.a%64=0)\/(x.kind=2/\t.a%64%zbj x.pa=0/\(t.zeg x).slot=t.a%64/zbj x.pa)))\/((t.zeg x).done=true/\¬ (x.kind=3/\t.a%64=0)/\¬ (x.kind=2/\t.a%64%zbj x.pa=0))):=by
 unfold Fe.zeg;dsimp only;split
 ·rename_i h;exact⟨rfl,rfl,rfl,rfl,rfl,rfl,.inl ⟨hd,.inl h⟩⟩
 rename_i h;split
 ·rename_i h2;exact⟨rfl,rfl,rfl,rfl,rfl,rfl,.inl ⟨hd,.inr ⟨h2.1,h2.2,rfl⟩⟩⟩
 rename_i h2;exact⟨rfl,rfl,rfl,rfl,rfl,rfl,.inr ⟨rfl,h,h2⟩⟩
theorem zrx(j:GI s σ){b:Bl}{a:Int}(hb:σ.has b)(f:b.at'=a):(∃ n,b= .lar (a/64) n/\σ.pg (a/64)= .large n/\a%64=0)\/(∃ i k q,b= .sm (a/64) i k/\σ.pg (a/64)= .super k q/\a%64=i*zbj k/\0<=k/\k<=3/\0<=i/\i<zah k):=by
 cases b with
 |lar p n=>
  have h1:σ.pg p= .large n:=hb;have:=zgt j h1;simp only[Bl.at']at f;have e:p=a/64:=by omega
  subst e;exact .inl ⟨n,rfl,h1,by omega⟩
 |sm p i k=>
  obtain⟨⟨q,h1⟩,h2,h3,h4⟩:=zto j hb;have m:=zjt h3 h2;simp only[Bl.at']at f;have e:p=a/64:=by omega
  subst e;exact .inr ⟨i,k,q,rfl,h1,by omega,h3.1,h3.2,h2.1,h2.2⟩
theorem z4u{k:Int}(h:0<=k/\k<=3):0<zbj k:=by rcases z1t h with⟨e,_⟩|⟨e,_⟩|⟨e,_⟩|⟨e,_⟩<;>rw[e]<;>decide
theorem zo2{m:Mem}{t:Fe}{a:Int}{ab ab':Bool}(hr:Rep s m σ)(hg:GI s σ)(V:feIs s c t)(hd:t.done=false)(hw:t.next=1->t.pk=3->t.word=(PW.large t.pa).enc)(h:zn9 σ.has ab a t)(J:(∀ b,σ.has b->b.at'≠a)->ab=true)(D:ab=true->ab'=true):
  zn9 (feA s t σ).2.has ab' a (feA s t σ).1:=by
 obtain⟨c1,c2,c3,c4,c5,c6,c7,c8,c9,b0⟩:=V.ok.cl hd;obtain⟨h1,h2,h3,h4,h5⟩:=h;unfold feA;rw[if_neg (by rw[hd];decide)];by_cases n0:t.next=0
 ·rw[if_pos n0];obtain⟨l1,G,l3,l4,Y,T,U⟩:=z4z (t:=t) (x:=σ.pg t.page) hd;dsimp only;rw[h2]at l1 G l3 l4 Y T U ⊢;refine⟨l1.trans h1,G,fun e _=>?_,fun e _=>?_,fun e _=>?_⟩
  ·rcases U with⟨_,⟨f,o⟩|⟨f,o,I⟩⟩|⟨f,_⟩
   ·unfold feBl;rw[if_pos (Y.trans f)];show (t.zeg _).page*64=a;rw[G];rw[h1]at o;omega
   ·unfold feBl;rw[if_neg (by omega)];show (t.zeg _).page*64+(t.zeg _).slot*zbj (t.zeg _).pa=a;rw[G,I,T];rw[h1]at o ⊢;have:=Int.ediv_mul_cancel (Int.dvd_of_emod_eq_zero o);rw[this];omega
   rw[f]at e;cases e
  ·rcases U with⟨_,⟨f,o⟩|⟨f,o,I⟩⟩|⟨f,_⟩
   ·refine .inr ?_;unfold feBl;rw[if_pos (Y.trans f)];show σ.pg (t.zeg _).page= .large (t.zeg _).pa;rw[G,T];cases p:σ.pg (a/64)<;>rw[p]at f<;>simp[PW.kind]at f;rfl
   ·by_cases r:σ.has (feBl (t.zeg (σ.pg (a/64))))
    ·exact .inr r
    refine .inl (D (J fun b hb B=>r ?_));have j:feBl (t.zeg (σ.pg (a/64)))= .sm (a/64) (a%64/zbj (σ.pg (a/64)).pa) (σ.pg (a/64)).pa:=by unfold feBl;rw[if_neg (by omega),G,I,T,h1]
    rcases zrx hg hb B with⟨n,O,z,F⟩|⟨i,k,q,O,z,F,Z,f5,f6⟩
    ·rw[z]at f;cases f
    rw[j,z];show σ.has (.sm (a/64) (a%64/zbj k) k);rw[F,Int.mul_ediv_cancel _ (by have:=z4u ⟨Z,f5⟩;omega)];rw[O]at hb;exact hb
   rw[f]at e;cases e
  rcases U with⟨f,_⟩|⟨_,f,o⟩
  ·rw[f]at e;cases e
  refine D (J fun b hb B=>?_);rw[h1]at f o;rcases zrx hg hb B with⟨n,O,z,F⟩|⟨i,k,q,O,z,F,Z,f5,f6⟩
  ·exact f ⟨by rw[z];rfl,F⟩
  exact o ⟨by rw[z];rfl,by rw[z];show a%64%zbj k=0;rw[F];exact Int.mul_emod_left _ _⟩
 rw[if_neg n0];by_cases n1:t.next=1
 ·rw[if_pos n1];have L:=V.gv (by omega);have M:¬ σ.has (feBl t)->ab'=true:=fun hn=>by
   rcases h4 hd n1 with e|e
   ·exact D e
   exact absurd e hn
  have j:=h3 hd (by omega);by_cases E:t.pk=3
  ·rw[if_pos E];have C:feBl t= .lar t.page t.pa:=if_pos E;by_cases p:(σ.pg t.page).enc=t.word
   ·rw[if_pos p];exact⟨h1,h2,fun _ _=>j,fun _ e=>(by cases e),fun e=>(by cases e)⟩
   rw[if_neg p];refine⟨h1,h2,fun e=>(by cases e),fun e=>(by cases e),fun _ _=>M fun r=>p ?_⟩;rw[C]at r;have r:σ.pg t.page= .large t.pa:=r;rw[r,hw n1 E]
  rw[if_neg E];have C:feBl t= .sm t.page t.slot t.pa:=if_neg E;have keep:∀ g,(t.gotA s g).a=t.a/\(t.gotA s g).page=t.page/\(t.gotA s g).slot=t.slot/\(t.gotA s g).pk=t.pk/\(t.gotA s g).pa=t.pa/\(t.gotA s g).gave=g/\(t.gotA s g).done= !g/\(g=true->(t.gotA s g).next≠1):=fun g=>by
   unfold Fe.gotA;dsimp only;split
   ·unfold Fe.kept;dsimp only;split
    ·exact⟨rfl,rfl,rfl,rfl,rfl,rfl,rfl,fun _=>(by dsimp only;first|decide|omega|simp)⟩
    split<;>exact⟨rfl,rfl,rfl,rfl,rfl,rfl,rfl,fun _=>(by dsimp only;first|decide|omega|simp)⟩
   exact⟨rfl,rfl,rfl,rfl,rfl,rfl,rfl,fun _=>(by dsimp only;first|decide|omega|simp)⟩
  by_cases p:σ.sl t.page t.slot= .taken t.pa
  ·rw[if_pos p];obtain⟨k1,R,N,k4,k5,k6,S,k8⟩:=keep true;refine⟨k1.trans h1,R.trans h2,fun _ _=>?_,fun _ e=>absurd e (k8 rfl),fun e=>?_⟩
   ·rw[<-j];unfold feBl;rw[k4,if_neg E,if_neg E,R,N,k5]
   rw[S]at e;cases e
  rw[if_neg p];obtain⟨k1,R,N,k4,k5,k6,S,k8⟩:=keep false;refine⟨k1.trans h1,R.trans h2,fun e=>(by rw[S]at e;cases e),fun e=>(by rw[S]at e;cases e),fun _ _=>M fun r=>p ?_⟩;rw[C]at r;exact r
 rw[if_neg n1];have L:=V.gv2 (by omega) hd;have j:=h3 hd (by omega);have fin:∀ (t':Fe) (σ':Ab),t'.a=t.a->t'.page=t.page->t'.slot=t.slot->t'.pk=t.pk->t'.pa=t.pa->t'.gave=t.gave->(t'.next≠1)->zn9 σ'.has ab' a t':=fun t' σ' f o I e4 e5 e6 e7=>⟨f.trans h1,o.trans h2,fun _ _=>by rw[<-j];unfold feBl;rw[e4,o,I,e5],fun _ e=>absurd e e7,fun _ e=>by rw[e6,L]at e;cases e⟩
 by_cases n2:t.next=2
 ·rw[if_pos n2];obtain⟨_,x,p,_⟩:=c8 n2;rw[p];dsimp only;have X:∀ y:Fe,y.kept.a=y.a/\y.kept.page=y.page/\y.kept.slot=y.slot/\y.kept.pk=y.pk/\y.kept.pa=y.pa/\y.kept.gave=y.gave/\(y.next≠1->y.kept.next≠1):=fun y=>by
   unfold Fe.kept;split
   ·split
    ·exact⟨rfl,rfl,rfl,rfl,rfl,rfl,id⟩
    split
    ·exact⟨rfl,rfl,rfl,rfl,rfl,rfl,fun _=>(by dsimp only;first|decide|omega|simp)⟩
    exact⟨rfl,rfl,rfl,rfl,rfl,rfl,id⟩
   exact⟨rfl,rfl,rfl,rfl,rfl,rfl,id⟩
  obtain⟨a1,a2,a3,a4,a5,a6,a7⟩:=X {t with put:=some (puA s x σ).1};exact fin _ _ a1 a2 a3 a4 a5 a6 (a7 n1)
 rw[if_neg n2];split
 ·exact fin _ _ rfl rfl rfl rfl rfl rfl n1
 split
 ·exact fin _ _ rfl rfl rfl rfl rfl rfl n1
 exact fin _ _ rfl rfl rfl rfl rfl rfl n1
end

section

variable {s:Sh} {σ σ':Ab} {c:Int} {d d':Wd}

def zlq (H:Bl->Prop) (ab:Bool) (o:Op3):Jb->Prop
 | .mal r _=> o.k=1/\lenB o.n=true/\zt2 o.n r
 | .fre f=> o.k=2/\zn9 H ab o.a f
 | .aga r=> o.k=3/\lenB o.n=true/\(∀ x,r.res=some x->zt2 o.n x)/\(∀ f,r.free=some f->zn9 H ab o.a f)/\(r.done=true->r.err=0\/(r.err=3/\zb2 r=false)\/(r.err=1/\zb2 r=false/\ab=true))
 | .hei a=> o.k=4/\(a.done=true->a.err=0\/a.err=4\/a.err=5)
theorem zn9.mono{H H':Bl->Prop}{ab ab':Bool}{a:Int}{f:Fe}(h:zn9 H ab a f)(h1:ab=true->ab'=true)(h2:∀ b,b.at'=a->H b->ab'=true\/H' b):zn9 H' ab' a f:=by
 refine⟨h.ad,h.pg,h.bl,fun i j=>?_,fun i j=>h1 (h.no i j)⟩;rcases h.see i j with e|e
 ·exact .inl (h1 e)
 exact h2 _ (h.bl i (by omega)) e
theorem zlq.mono{H H':Bl->Prop}{ab ab':Bool}{o:Op3}{j:Jb}(h:zlq H ab o j)(h1:ab=true->ab'=true)(h2:∀ b,b.at'=o.a->H b->ab'=true\/H' b):zlq H' ab' o j:=by
 cases j with
 |mal r x=>exact h
 |fre f=>exact⟨h.1,h.2.mono h1 h2⟩
 |aga r=>exact⟨h.1,h.2.1,h.2.2.1,fun f i=>(h.2.2.2.1 f i).mono h1 h2,fun e=>(h.2.2.2.2 e).imp id (Or.imp id fun e=>⟨e.1,e.2.1,h1 e.2.2⟩)⟩
 |hei a=>exact h
theorem zor{H:Bl->Prop}{ab:Bool}{o:Op3}{j:Jb}{b:Blk}(h:zlq H ab o j)(hb:j.took=some b):b.len=lenV o.n/\lenB o.n=true/\(o.k=1\/o.k=3):=by
 cases j with
 |mal r x=>
  have hb:(if zck x=true then r.got else none)=some b:=hb;split at hb
  ·exact⟨zrf h.2.2 hb,h.2.1,.inl h.1⟩
  cases hb
 |fre f=>cases hb;|aga r=>
  have hb:(if r.done=true/\r.err=0 then(match r.res with|some x=>x.got|none=>none) else none)=some b:=hb;split at hb
  ·cases hr:r.res with
   |none=>rw[hr]at hb;cases hb
   |some x=>rw[hr]at hb;exact⟨zrf (h.2.2.1 x hr) hb,h.2.1,.inr h.1⟩
  cases hb
 |hei a=>cases hb
theorem zer(s:Sh)(t:Rr)(r:Rs)(f:Fe)(h1:t.res=some r)(h2:t.free=some f)(hd:t.done=false){ab:Bool}(hu:zev t.undo=true->f.gave=false/\ab=true)(m:r.done=true->r.got=none->f.gave=false):
  (t.settle s).res=some r/\(t.settle s).free=some f/\((t.settle s).done=true->(t.settle s).err=0\/((t.settle s).err=3/\zb2 (t.settle s)=false)\/((t.settle s).err=1/\zb2 (t.settle s)=false/\ab=true)):=by
 have i:∀ t':Rr,t'.free=some f->zb2 t'=f.gave:=fun t' e=>by unfold zb2;rw[e]
 rcases zcp s t r f h1 h2 with⟨k1,e⟩|⟨_,k1,e⟩|⟨_,_,k1,e⟩|⟨_,_,k1,j,e⟩|⟨b,_,_,k1,j,o,e⟩|⟨b,_,_,_,_,_,_,k1,_,e⟩|⟨b,_,_,_,_,_,_,k1,_,e⟩<;>rw[e]
 ·exact⟨h1,h2,fun _=>.inr (.inr ⟨rfl,(i _ h2).trans (hu k1).1,(hu k1).2⟩)⟩
 ·exact⟨h1,h2,fun _=>.inl rfl⟩
 ·exact⟨h1,h2,fun e=>(by rw[hd]at e;cases e)⟩
 ·exact⟨h1,h2,fun _=>.inr (.inl ⟨rfl,(i _ h2).trans (m k1 j)⟩)⟩
 ·exact⟨h1,h2,fun e=>(by rw[hd]at e;cases e)⟩
 ·exact⟨h1,h2,fun e=>(by have e:t.done=true:=e;rw[hd]at e;cases e)⟩
 exact⟨h1,h2,fun e=>(by have e:t.done=true:=e;rw[hd]at e;cases e)⟩
theorem z97{s:Sh}{σ:Ab}{t:Ad}(hd:t.done=false)(h4:0<=t.next/\t.next<=13)(e:(adA s t σ).1.done=true):(adA s t σ).1.err=0\/(adA s t σ).1.err=4\/(adA s t σ).1.err=5:=by
 have m:∀ (t':Ad) x y,t'.done=false->(t'.turn s x y).done=false:=fun t' x y h=>by
  unfold Ad.turn;dsimp only;split
  ·split<;>exact h
  split<;>exact h
 have sl:∀ t':Ad,t'.done=false->(t'.slot s).done=false:=fun t' h=>by
  unfold Ad.slot;split
  ·exact m _ _ _ h
  exact h
 have no:∀ (t':Ad),t'.done=false->t'.done=true->t'.err=0\/t'.err=4\/t'.err=5:=fun t' a b=>by rw[a]at b;cases b
 have f:t.next=0\/t.next=1\/t.next=2\/t.next=3\/t.next=4\/t.next=5\/t.next=6\/t.next=7\/t.next=8\/t.next=9\/t.next=10\/t.next=11\/t.next=12\/t.next=13:=by omega
 have j:∀ (p:Prop) [Decidable p] (a b:Ad),a.done=false->(b.done=false)->(if p then a else b).done=false:=fun p _ a b h1 h2=>by split<;>assumption
 have o:∀ (p:Prop) [Decidable p] (a b:Ad),(a.done=true->a.err=0\/a.err=4\/a.err=5)->(b.done=true->b.err=0\/b.err=4\/b.err=5)->(if p then a else b).done=true->(if p then a else b).err=0\/(if p then a else b).err=4\/(if p then a else b).err=5:=fun p _ a b h1 h2=>by split<;>assumption
 rcases f with f|f|f|f|f|f|f|f|f|f|f|f|f|f
 ·rw[ya2 hd f]at e ⊢;cases i:σ.st t.d with
  |dead=>rw[i]at e;exact no _ hd e
  |owned q=>rw[i]at e;exact no _ hd e
  |_=>exact .inr (.inr rfl)
 ·rw[yc1 hd f]at e ⊢;exact o _ _ _ (fun _=>.inr (.inl rfl)) (no _ hd) e
 ·rw[yee hd f]at e ⊢;by_cases i:(σ.st t.d).enc=t.was
  ·rw[if_pos i]at e ⊢;exact no _ hd e
  rw[if_neg i];exact .inr (.inl rfl)
 ·rw[ydj hd f]at e ⊢;cases i:σ.pg t.at' with
  |body h=>rw[i]at e;exact no _ hd e
  |_=>rw[i]at e;exact no _ (m _ _ _ hd) e
 ·rw[yd0 hd f]at e ⊢;exact no _ (j _ _ _ hd (m _ _ _ hd)) e
 ·rw[ydy hd f]at e ⊢;exact no _ (m _ _ _ hd) e
 ·rw[ydn hd f]at e ⊢;exact no _ (j _ _ _ hd (m _ _ _ hd)) e
 ·rw[yd2 hd f]at e ⊢;exact no _ (j _ _ _ hd hd) e
 ·rw[yei hd f]at e ⊢;exact no _ (m _ _ _ hd) e
 ·rw[yeh hd f]at e ⊢;exact no _ (j _ _ _ hd hd) e
 ·rw[z9b hd f]at e ⊢;cases i:σ.pg t.at' with
  |super k b=>rw[i]at e;exact no _ hd e
  |_=>rw[i]at e;exact no _ (m _ _ _ hd) e
 ·rw[z8z hd f]at e ⊢;exact no _ (j _ _ _ hd (sl _ hd)) e
 ·rw[z9f hd f]at e ⊢;exact no _ (sl _ hd) e
 rw[z8n hd f];exact .inl rfl
theorem zzb{m:Mem}{j:Jb}{o:Op3}{ab ab':Bool}(hr:Rep s m σ)(hg:GI s σ)(J:jbIs s c j)(b5:0<=c/\c<s.c)(hd:j.done=false)(R:JbAt s c σ j)(h:zlq σ.has ab o j)(b0:(∀ b,σ.has b->b.at'≠o.a)->ab=true)(S:ab=true->ab'=true)
  (p:(j.zhf s c σ).1.gave=j.gave->∀ b,b.at'=o.a->σ.has b->(j.zhf s c σ).2.has b):zlq (j.zhf s c σ).2.has ab' o (j.zhf s c σ).1:=by
 cases j with
 |mal r x=>
  unfold Jb.zhf;dsimp only;split
  ·exact⟨h.1,h.2.1,zot h.2.2 s σ⟩
  split
  ·exact h
  exact h
 |fre f=>exact⟨h.1,zo2 hr hg J hd (R.2.w hd) h.2 b0 S⟩;|aga t=>
  obtain⟨h1,h2,h3,h4,h5⟩:=h;obtain⟨r,f,F,q,o1,o2,o3,o4,o5,o6⟩:=J.ok.cl hd;have hd:t.done=false:=hd;have T:=h3 r F;have V:=h4 f q;show zlq (rrA s t σ).2.has ab' o (.aga (rrA s t σ).1);have p:zb2 (rrA s t σ).1=zb2 t->∀ b,b.at'=o.a->σ.has b->(rrA s t σ).2.has b:=p;have mono:∀ (σ':Ab),(∀ b,b.at'=o.a->σ.has b->σ'.has b)->zn9 σ'.has ab' o.a f:=fun σ' hb=>V.mono S fun b F q=>.inr (hb b F q);have ng:∀ u,t.undo=some u->f.gave=false:=fun u hu=>by obtain⟨O,a,b⟩:=J.ng u hu;rw[q]at a;injection a with a;subst a;exact b
  have Z:∀ u,t.undo=some u->ab'=true:=fun u hu=>by obtain⟨r',O,z,I,a3,a4⟩:=J.mid hd (.inl (by rw[hu];simp));rw[q]at a3;injection a3 with a3;subst a3;exact S (V.no a4 (ng u hu))
  have gn:r.done=true->r.got≠none:=fun C E=>by
   have G:=R.inv.ph
   have b2:¬ r.done=false:=by rw[C];decide
   cases hu:t.undo with
   |some u=>
    rw[zl0 hd F q b2 hu]at G
    exact G.2.2 r F E
   |none=>
    cases hc:t.com with
    |some u=>
     obtain⟨r',O,z,I,_⟩:=J.gv u hc
     rw[F]at z;injection z with z;subst z
     rw[E]at I;cases I
    |none=>
     rw[zgm hd F q b2 hu hc,E]at G
     have G:t.done=true:=G
     rw[hd]at G;cases G
  by_cases C:r.done=false
  ·rw[z1v hd F q C]at p ⊢;have b1:f.gave=false:=by have G:=R.inv.ph;have M:t.ph= .res r:=zpi hd F q C;rw[M]at G;exact(J.fre f q).gv (by rw[(G.2 f q).2.1];decide)
   obtain⟨X,N,Y⟩:=zer s {t with res:=some (rsA s r σ).1} (rsA s r σ).1 f rfl q hd (ab:=ab') (fun hu=>by
    cases y:t.undo with
    |none=>have hu:zev t.undo=true:=hu;rw[y]at hu;cases hu
    |some u=>exact⟨b1,Z u y⟩) (fun _ _=>b1)
   have L:=p (by unfold zb2;rw[N,q]);exact⟨h1,h2,fun x D=>by rw[X]at D;injection D with D;subst D;exact zot T s σ,fun O i=>by rw[N]at i;injection i with i;subst i;exact mono _ L,Y⟩
  have U:r.done=true:=by simpa using C
  have E:=gn U;by_cases B:f.done=false
  ·rw[z3m hd F q C B]at p ⊢
   have M:∃ b,t.ph= .fre b f:=by
    have b3:t.undo=none/\t.com=none:=by
     constructor
     ·cases hu:t.undo with
      |none=>rfl
      |some u=>obtain⟨r',O,_,_,z,I⟩:=J.mid hd (.inl (by rw[hu];simp));rw[q]at z;injection z with z;subst z;rw[B]at I;cases I
     ·cases hu:t.com with
      |none=>rfl
      |some u=>obtain⟨r',O,_,_,z,I⟩:=J.mid hd (.inr (by rw[hu];simp));rw[q]at z;injection z with z;subst z;rw[B]at I;cases I
    cases hb:r.got with
    |none=>exact absurd hb E
    |some b=>exact⟨b,by rw[zgm hd F q C b3.1 b3.2,hb]⟩
   obtain⟨b,M⟩:=M;have G:=R.inv.ph;rw[M]at G;have b4:=zo2 hr hg (J.fre f q) B (G.2.1.w B) V b0 S
   obtain⟨X,N,Y⟩:=zer s {t with free:=some (feA s f σ).1} r (feA s f σ).1 F rfl hd (ab:=ab') (fun hu=>by
    cases y:t.undo with
    |none=>have hu:zev t.undo=true:=hu;rw[y]at hu;cases hu
    |some u=>obtain⟨r',O,_,_,z,I⟩:=J.mid hd (.inl (by rw[y];simp));rw[q]at z;injection z with z;subst z;rw[B]at I;cases I) (fun _ e=>absurd e E)
   exact⟨h1,h2,fun x D=>by rw[X]at D;injection D with D;subst D;exact T,fun O i=>by rw[N]at i;injection i with i;subst i;exact b4,Y⟩
  cases hu:t.undo with
  |some u=>rw[z2h hd F q C B hu]at p ⊢;obtain⟨X,N,Y⟩:=zer s {t with undo:=some (unA u σ).1} r f F q hd (ab:=ab') (fun _=>⟨ng u hu,Z u hu⟩) (fun _ e=>absurd e E);have L:=p (by unfold zb2;rw[N,q]);exact⟨h1,h2,fun x D=>by rw[X]at D;injection D with D;subst D;exact T,fun O i=>by rw[N]at i;injection i with i;subst i;exact mono _ L,Y⟩
  |none=>
   cases hc:t.com with
   |none=>
    exfalso
    rcases o6 U (by simpa using B) with e|e
    ·exact e hu
    ·exact e hc
   |some u=>
    rw[zz2 hd F q C B hu hc]at p ⊢
    obtain⟨X,N,Y⟩:=zer s {t with com:=some (cmA u σ).1} r f F q hd (ab:=ab') (fun y=>by have y:zev t.undo=true:=y;rw[hu]at y;cases y) (fun _ e=>absurd e E)
    have L:=p (by unfold zb2;rw[N,q])
    exact⟨h1,h2,fun x D=>by rw[X]at D;injection D with D;subst D;exact T,fun O i=>by rw[N]at i;injection i with i;subst i;exact mono _ L,Y⟩
 |hei a=>refine⟨h.1,fun e=>?_⟩;have hd:a.done=false:=hd;have e:(adA s a σ).1.done=true:=e;show (adA s a σ).1.err=0\/(adA s a σ).1.err=4\/(adA s a σ).1.err=5;exact z97 (s:=s) (σ:=σ) hd (J.1.cl hd).2.2.2.1 e
end

section

theorem yas(k:Kl)(j:Jb):∀ e ∈ k.tells j,e.c=k.c:=fun e f=>by
 unfold Kl.tells at f
 rcases List.mem_append.1 f with h|h
 ·split at h
  ·rw[List.mem_singleton.1 h];rfl
  ·cases h
 ·split at h
  ·rcases List.mem_append.1 h with h|h
   ·cases ht:j.took with
    |none=>rw[ht]at h;cases h
    |some b=>rw[ht]at h;rw[List.mem_singleton.1 h];rfl
   ·rw[List.mem_singleton.1 h];rfl
  ·cases h
theorem z5u(s:Sh)(k:Kl)(o:Op3):∀ e ∈ (k.invoke s o).2.1,e.c=k.c:=fun e b=>by
 unfold Kl.invoke at b
 split at b
 ·cases b
 ·split at b
  ·cases b
  ·split at b
   ·rcases List.mem_cons.1 b with h|h
    ·rw[h];rfl
    ·rw[List.mem_singleton.1 h];rfl
   ·rw[List.mem_singleton.1 b];rfl
theorem yd6(s:Sh)(k:Kl)(m:Mem):∀ e ∈ (k.step s m).2.2.1,e.c=k.c:=fun e b=>by
 unfold Kl.step at b
 split at b
 ·cases b
 ·exact yas _ _ e b
theorem yd3{c:Int}{m b:Mem}(h:Acts c m b):b.la.c=c:=by cases h<;>rfl
def Gone (s:Sh) (d:Wd) (c:Int):Prop:=∃ σ,WI s σ d/\d.kl c=none/\σ.st c≠ .unused
theorem zs2{s:Sh}{d:Wd}{c:Int}(h:Gone s d c)(hc:0<=c/\c<s.c):d.stat c≠0/\d.stat c≠1:=by
 obtain⟨σ,h1,h2,h3⟩:=h;have j:=h1.rep.may;have b:=(ixs h1.rep.fi).2.2.2 _ hc;have h4:=h1.rep.st _ hc;rw[b]at h4;have i:=(TW.read j (h1.gi.tf c)).1;unfold Wd.stat;rw[h4,i];cases hx:σ.st c with
 |unused=>exact absurd hx h3
 |live=>obtain⟨k,f⟩:=h1.nl c hx;rw[h2]at f;cases f
 |dead=>exact⟨by decide,by decide⟩
 |owned a=>exact⟨show (3:Int)≠0 by decide,show (3:Int)≠1 by decide⟩
 |done=>exact⟨by decide,by decide⟩
structure Still (s:Sh) (c:Int) (d d':Wd):Prop where
 gone:Gone s d' c
 tr:∃ es,d'.tr=d.tr ++ es/\∀ e ∈ es,e.c≠c
 lg:∃ l,d'.lg=d.lg ++ l/\∀ a ∈ l,a.c≠c
theorem z7i{s:Sh}{d:Wd}{n:Nat}{c:Int}(h:Gone s d c)(hd:wdOk s d n)(hc:0<=c/\c<s.c)(x:Ch):Still s c d (d.act s x).1/\(x.client=c->(d.act s x).2≠0):=by
 have E:=zs2 h hc;have same:Still s c d d:=⟨h,⟨[],by simp,fun e i=>by cases i⟩,⟨[],by simp,fun e i=>by cases i⟩⟩;obtain⟨σ,h1,h2,h3⟩:=h;unfold Wd.act;split
 ·exact⟨same,fun _=>(show (1:Int)≠0 by decide)⟩
 rename_i hb;unfold Ch.bad at hb;have o:0<=x.client/\x.client<s.c:=by omega
 have hi:x.client.toNat<d.l.length:=by rw[hd.len];omega
 split
 ·by_cases hu:d.stat x.client=0
  ·have b:c≠x.client:=fun e=>E.1 (e ▸ hu);have B:=zqr h1 hd x o hu;have f:∀ y,(d.begin s x).1.kl y=if y=x.client then some (zht x.client (Fl.zdr x.bias s.p)) else d.kl y:=fun y=>by unfold Wd.begin;rw[if_pos hu];exact d.zdk o.1 hi _ _ _ _ _
   refine⟨⟨⟨_,B,by rw[f,if_neg b];exact h2,by rw[zao _ _ b];exact h3⟩,⟨[zcj x.client],by unfold Wd.begin;rw[if_pos hu],fun e i=>by rw[List.mem_singleton.1 i];exact fun e=>b e.symm⟩,⟨[],by unfold Wd.begin;rw[if_pos hu];simp,fun e i=>by cases i⟩⟩,fun e=>absurd e.symm b⟩
  have e:d.begin s x=(d,5):=if_neg hu;rw[e];exact⟨same,fun _=>(show (5:Int)≠0 by decide)⟩
 cases hk:d.kl x.client with
 |none=>exact⟨same,fun _=>(show (2:Int)≠0 by decide)⟩;|some k=>
  dsimp only;have b:c≠x.client:=fun e=>by rw[<-e,h2]at hk;cases hk
  obtain⟨D,C,_⟩:=hd.kl _ k hk;have q:k.c≠c:=fun e=>b (by rw[<-e,C]);split
  ·have f:∀ y,(d.step s x.client k).1.kl y=if y=x.client then some (k.step s d.m).1 else d.kl y:=fun y=>by unfold Wd.step;exact d.zdk o.1 hi _ _ _ _ _
   have z:∃ es,(d.step s x.client k).1.tr=d.tr++es/\∀ e ∈ es,e.c≠c:=⟨_,rfl,fun e i=>by rw[yd6 s k d.m e i];exact q⟩;rcases hj:k.job with _|j
   ·have e:k.step s d.m=(k,d.m, [],2):=by unfold Kl.step;rw[hj]
    refine⟨⟨⟨σ,?_,by rw[f,if_neg b];exact h2,h3⟩,z,⟨[],?_,fun a r=>by cases r⟩⟩,fun e=>absurd e.symm b⟩
    ·unfold Wd.step;rw[e];exact zw8 h1 hk (h1.li _ k hk).2 (.inl rfl) _ _
    unfold Wd.step;rw[e];dsimp only;rw[if_neg (by omega),List.append_nil]
   have B:=zt5 h1 hd hk hj;refine⟨⟨⟨_,B.1,by rw[f,if_neg b];exact h2,fun e=>h3 ((B.2.1.st c).1 e)⟩,z,?_⟩,fun e=>absurd e.symm b⟩;rcases zkh D hd.fi hd.fit with⟨t,_⟩|⟨_,_,r,_,_⟩
   ·rw[hj]at t;cases t
   have hs:=r.st;refine⟨[(k.step s d.m).2.1.la],?_,fun a F=>by rw[List.mem_singleton.1 F,yd3 r];exact q⟩;unfold Wd.step;dsimp only;rw[if_pos (by omega)]
  split
  ·have f:∀ y,(d.ask s x k).1.kl y=if y=x.client then some (k.invoke s x.op).1 else d.kl y:=fun y=>by unfold Wd.ask;exact d.zdk o.1 hi _ _ _ _ _
   exact⟨⟨⟨σ,zwb h1 hd x hk,by rw[f,if_neg b];exact h2,h3⟩,⟨_,rfl,fun e i=>by rw[z5u s k x.op e i];exact q⟩,⟨[],by unfold Wd.ask;simp,fun a r=>by cases r⟩⟩,fun e=>absurd e.symm b⟩
  have f:∀ y,(d.kill x.client).1.kl y=if y=x.client then none else d.kl y:=fun y=>by unfold Wd.kill;exact d.zdk o.1 hi _ _ _ _ _
  exact⟨⟨⟨_,zp4 h1 hd hk,by rw[f,if_neg b];exact h2,by rw[zao _ _ b];exact h3⟩,⟨[zdw x.client],rfl,fun e i=>by rw[List.mem_singleton.1 i];exact fun e=>b e.symm⟩,⟨[],by unfold Wd.kill;simp,fun a r=>by cases r⟩⟩,fun e=>absurd e.symm b⟩
end

end Go.Proofs.YtedcnffebdpmmaaGreat
