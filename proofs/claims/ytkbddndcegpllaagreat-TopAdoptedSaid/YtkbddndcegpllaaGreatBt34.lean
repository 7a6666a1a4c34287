/- Texts bound together: InvO InvQ InvR InvS InvT. -/
import Derived.Test.YtkbddndcegpllaaGreatBt33

set_option linter.all false
namespace Go.Proofs.YtkbddndcegpllaaGreat

section

def KlAt (s:Sh) (c:Int) (σ:Ab) (k:Kl):Prop:=match k.job with
 | none=> zaz σ c .no
 | some j=> JbAt s c σ j
structure WI (s:Sh) (σ:Ab) (d:Wd):Prop where
 rep:Rep s d.m σ
 gi:GI s σ
 li:∀ c k,d.kl c=some k->σ.st c= .live/\KlAt s c σ k
 nl:∀ c,σ.st c= .live->∃ k,d.kl c=some k
 un:∀ c,σ.st c= .unused\/σ.st c= .done->zaz σ c .no/\∀ i,σ.mg c i= .none
 ow:∀ x a,σ.st x= .owned a->σ.st a≠ .unused/\(σ.st a= .live->∃ k t,d.kl a=some k/\k.job=some (.hei t)/\t.d=x/\t.done=false/\3<=t.next)
structure Chg (j j':Jb) (σ σ':Ab):Prop where
 gave:j.gave=false->j'.gave=true->(∃ f,j.fe=some f/\zr4 (feBl f) σ σ'/\f.next=1/\f.done=false)/\j'.done=false
 took:∀ b,j'.took=some b->Plus (zoa b) σ σ'
 calm:(j.gave=true\/j'.gave=false)->j'.took=none->Calm σ σ'
 st:∀ x,σ'.st x= .unused↔σ.st x= .unused
theorem z3h{σ:Ab}{x c:Int}(h:σ.st c= .live)(b:σ.st x≠ .live):x≠c:=fun e=>b (e ▸ h)
theorem KlAt.same{s:Sh}{c:Int}{σ σ':Ab}{k:Kl}(f:klOk s k)(hc:k.c=c)(h:KlAt s c σ k)(hs:Same c σ σ')(i:Later σ σ')(b:∀ t,k.job=some (.hei t)->t.done=false->3<=t.next->σ'.st t.d= .owned c/\Same t.d σ σ'):KlAt s c σ' k:=by
 unfold KlAt at *;cases hj:k.job with
 |none=>rw[hj]at h;exact h.same hs;|some j=>rw[hj]at h;exact h.same (hc ▸ (f.jb j hj).1) hs i fun t e=>b t (by rw[hj,e])
theorem zup{s:Sh}{c:Int}{σ:Ab}{k:Kl}{t:Ad}(h:KlAt s c σ k)(b:k.job=some (.hei t)):zaz σ c .no/\znv s σ c t:=by
 unfold KlAt at h;rw[b]at h;exact h
theorem z6d{s:Sh}{σ σ':Ab}{d:Wd}{n:Nat}{c:Int}{k k':Kl}{j:Jb}{F:Mem}{tr:List Ev}{lg:List Acc}(h:WI s σ d)(hd:wdOk s d n)(B:d.kl c=some k)(N:k.job=some j)(M:∀ t,j≠ .hei t)
  (R:Rep s F σ') (b:Kept s c σ σ') (D:KlAt s c σ' k'):WI s σ' ⟨F,d.l.set c.toNat (some k'),tr,lg⟩:=by
 have z:=(h.li c k B).1;have r:=d.zdk (Wd.zfs B).1 (Wd.zfs B).2 (some k') F tr lg;have E:=Later.yc7 b.2.2;refine⟨R,b.1,fun x y f=>?_,fun x f=>?_,fun x f=>?_,fun x a f=>?_⟩
 ·rw[r]at f;split at f
  ·rename_i e;subst e;injection f with f;subst f;exact⟨(b.2.2 x).trans z,D⟩
  rename_i e;obtain⟨T,I⟩:=h.li x y f;refine⟨(b.2.2 x).trans T,I.same (hd.kl x y f).1 (hd.kl x y f).2.1 (b.2.1 x e) E fun t p q C=>?_⟩;have G:=((zup I p).2.n3 q C).1;exact⟨(b.2.2 _).trans G,b.2.1 _ (z3h z (by rw[G];simp))⟩
 ·rw[b.2.2]at f;rw[r];split
  ·exact⟨_,rfl⟩
  exact h.nl x f
 ·rw[b.2.2]at f;have o:x≠c:=z3h z (by rcases f with e|e<;>rw[e]<;>simp);obtain⟨X,Y⟩:=h.un x f;exact⟨X.same (b.2.1 x o),fun i=>((b.2.1 x o).m i).trans (Y i)⟩
 rw[b.2.2]at f;rw[b.2.2];obtain⟨U,V⟩:=h.ow x a f;refine⟨U,fun O=>?_⟩;obtain⟨S,t,p,q,C,J,L⟩:=V O;have o:a≠c:=fun e=>by subst e;rw[B]at p;injection p with p;subst p;rw[N]at q;injection q with q;exact M t q
 exact⟨S,t,by rw[r,if_neg o];exact p,q,C,J,L⟩
theorem zzn{s:Sh}{σ:Ab}{d:Int}(f:GI s σ)(y:zcg σ d s.p)(z:zgu σ d s.m)(B:zhg σ d s.p):zaz σ d .no/\∀ i,σ.mg d i= .none:=by
 have q:=zpb f y;have r:=zsc f z;refine⟨⟨fun p=>⟨fun e=>absurd e (q p),fun e=>e.elim⟩,fun p g=>⟨fun e=>absurd e.2 (q g),fun e=>e.elim⟩,fun p i k=>⟨fun e=>?_,fun e=>?_⟩,fun p i k j e=>e.elim⟩,r⟩
 ·obtain⟨⟨b,o⟩,t⟩:=e;have:=zjs f o;exact absurd ⟨⟨b,o⟩,t⟩ (B p i k this.1.1 this.1.2)
 rcases e with e|⟨j,e⟩
 ·exact e.elim
 rw[r j]at e;cases e
theorem yby{s:Sh}{σ:Ab}{d:Wd}{n:Nat}{c:Int}{k:Kl}{t:Ad}{tr:List Ev}{lg:List Acc}(h:WI s σ d)(hd:wdOk s d n)(hk:d.kl c=some k)(hj:k.job=some (.hei t))(b8:adOk s t)(B:t.done=false)
  (k':Kl) (b0:k'.job=if (adA s t σ).1.done=true then none else some (.hei (adA s t σ).1)) (m':Mem) (hr:Rep s m' (adA s t σ).2):WI s (adA s t σ).2 ⟨m',d.l.set c.toNat (some k'),tr,lg⟩/\Calm σ (adA s t σ).2/\∀ x,(adA s t σ).2.st x= .unused↔σ.st x= .unused:=by
 obtain⟨N,bh⟩:=h.li c k hk;obtain⟨b3,F⟩:=zup bh hj;have z:=d.zdk (Wd.zfs hk).1 (Wd.zfs hk).2 (some k') m' tr lg;obtain⟨c1,c2,c3,c4,c5,c6,c7,c8,c9,bj⟩:=b8.cl B;have G:=F.ne B;have L:=F.cl;have b4:∀ x,t.next<=2->σ.st x≠ .owned c:=fun x hn e=>by obtain⟨k2,R,D,r,E,e4,e5⟩:=(h.ow x c e).2 N;rw[hk]at D;injection D with D;subst D;rw[hj]at r;injection r with r;injection r with r;subst r;omega
 have b1:∀ x,σ.st x= .owned c->t.d=x:=fun x e=>by obtain⟨k2,R,D,r,E,e4,e5⟩:=(h.ow x c e).2 N;rw[hk]at D;injection D with D;subst D;rw[hj]at r;injection r with r;injection r with r;subst r;exact E
 have mk:∀ σ',(∀ t',t'=(adA s t σ).1->t'.done=false->znv s σ' c t')->zaz σ' c .no->KlAt s c σ' k':=fun σ' h1 h2=>by
  unfold KlAt;rw[b0];rcases Bool.eq_false_or_eq_true (adA s t σ).1.done with e|e
  ·rw[if_pos e];exact h2
  rw[if_neg (by rw[e];decide)];exact⟨h2,h1 _ rfl e⟩
 have O:(adA s t σ).2=σ->t.next<=2->(∀ t',t'=(adA s t σ).1->t'.done=false->znv s σ c t')->WI s (adA s t σ).2 ⟨m',d.l.set c.toNat (some k'),tr,lg⟩/\Calm σ (adA s t σ).2/\∀ x,(adA s t σ).2.st x= .unused↔σ.st x= .unused:=fun e0 D r=>by
  rw[e0]at hr ⊢;refine⟨⟨hr,h.gi,fun x y f=>?_,fun x f=>?_,h.un,fun x a f=>?_⟩,Calm.refl _,fun _=>.rfl⟩
  ·rw[z]at f;split at f
   ·rename_i e;subst e;injection f with f;subst f;exact⟨N,mk σ r b3⟩
   exact h.li x y f
  ·rw[z];split
   ·exact⟨_,rfl⟩
   exact h.nl x f
  obtain⟨o1,o2⟩:=h.ow x a f;refine⟨o1,fun V=>?_⟩;obtain⟨k2,R,E,e4,e5,e6,e7⟩:=o2 V;have I:a≠c:=fun e=>by subst e;exact b4 x D f
  exact⟨k2,R,by rw[z,if_neg I];exact E,e4,e5,e6,e7⟩
 have bi:zjc 0=true:=by decide
 by_cases h0:t.next=0
 ·have Y:=ya2 (s:=s) (σ:=σ) B h0;refine O (by rw[Y]) (by omega) fun t' e Z=>?_;rw[Y]at e;have hf:=h.gi.tf t.d;cases f:σ.st t.d with
  |dead=>rw[f]at e;subst e;exact⟨L,fun _ e=>(by cases e),fun _ _=>.inl rfl,fun _ e=>by exfalso;have e:(3:Int)<=2:=e;omega,fun _=>G,fun _=>F.a0 (by omega)⟩
  |owned a=>rw[f]at e hf;subst e;exact⟨L,fun _ _=>⟨rfl,hf,(h.ow _ _ f).1⟩,fun _ e=>(by cases e),fun _ e=>by exfalso;have e:(3:Int)<=1:=e;omega,fun _=>G,fun _=>F.a0 (by omega)⟩
  |unused=>rw[f]at e;subst e;cases Z
  |live=>rw[f]at e;subst e;cases Z
  |done=>rw[f]at e;subst e;cases Z
 by_cases h1:t.next=1
 ·have Y:adA s t σ=(if σ.st t.who= .live then({t with next:=2}:Ad).fin 4 else {t with next:=2},σ):=by unfold adA;rw[if_neg (by rw[B];decide),if_neg h0,if_pos h1]
  refine O (by rw[Y]) (by omega) fun t' e Z=>?_;rw[Y]at e;obtain⟨w1,w2,w3⟩:=F.n1 B h1;by_cases f:σ.st t.who= .live
  ·have e:t'=({t with next:=2}:Ad).fin 4:=by rw[e];exact if_pos f
   subst e;cases Z
  have e:t'= {t with next:=2}:=by rw[e];exact if_neg f
  subst e;exact⟨L,fun _ e=>(by cases e),fun _ _=>.inr ⟨_,w1,w2,w3,f⟩,fun _ e=>by exfalso;have e:(3:Int)<=2:=e;omega,fun _=>G,fun _=>F.a0 (by omega)⟩
 by_cases h2:t.next=2
 ·by_cases hw:(σ.st t.d).enc=t.was
  ·have Y:adA s t σ=({t with next:=3},σ.stat t.d (.owned t.c)):=by unfold adA;rw[if_neg (by rw[B];decide),if_neg h0,if_neg h1,if_pos h2,if_pos hw]
   have S:σ.st t.d= .dead\/∃ o,σ.st t.d= .owned o/\σ.st o≠ .live:=by
    rcases F.n2 B h2 with e|⟨o,D,r,E,e4⟩
    ·exact .inl (TW.inj c1 (h.gi.tf _) (y:= .dead) trivial (hw.trans e))
    exact .inr ⟨o,TW.inj c1 (h.gi.tf _) r (hw.trans D),e4⟩
   have bc:σ.st t.d≠ .live:=by rcases S with e|⟨o,e,_⟩<;>rw[e]<;>simp
   have bg:σ.st t.d≠ .unused:=by rcases S with e|⟨o,e,_⟩<;>rw[e]<;>simp
   have T:σ.st t.d≠ .done:=by rcases S with e|⟨o,e,_⟩<;>rw[e]<;>simp
   have bf:∀ x,σ.st x= .live->σ.st t.d≠ .owned x:=fun x f e=>by
    rcases S with r|⟨o,r,E⟩
    ·rw[r]at e;cases e
    rw[r]at e;injection e with e;subst e;exact E f
   rw[Y]at hr b0 mk ⊢;rw[L]at hr ⊢;dsimp only at hr ⊢;have M:Later σ (σ.stat t.d (.owned c)):=by
    refine⟨fun x f=>?_,fun x f b7=>?_⟩
    ·by_cases e:x=t.d
     ·rw[e,zbf];simp
     rw[zao _ _ e];exact f
    by_cases e:x=t.d
    ·rw[e,zbf];simp
    rw[zao _ _ e];exact b7
   have j:(σ.stat t.d (.owned c)).st t.d= .owned c:=zbf _ _ _;have b6:∀ x,(σ.stat t.d (.owned c)).st x= .unused↔σ.st x= .unused:=fun x=>by
    by_cases e:x=t.d
    ·subst e;rw[j];exact⟨fun e=>(by cases e),fun e=>absurd e bg⟩
    rw[zao _ _ e]
   refine⟨⟨hr,h.gi.stat (L ▸ c2) c3,fun x y f=>?_,fun x f=>?_,fun x f=>?_,fun x a f=>?_⟩,ztg,b6⟩
   ·rw[z]at f;split at f
    ·rename_i e;subst e;injection f with f;subst f;refine⟨(zao _ _ G.symm).trans N,mk _ (fun t' e Z=>?_) (b3.same (Same.stat _ _))⟩;subst e;refine⟨L,fun _ e=>(by cases e),fun _ e=>(by cases e),fun _ _=>⟨j,?_⟩,fun _=>G,fun e=>by exfalso;have e:(3:Int)<=2:=e;omega⟩;rw[adD3 rfl];intro p g a b;have b:p<t.at':=b;rw[F.a0 (by omega)]at b;omega
    rename_i e;obtain⟨l1,l2⟩:=h.li x y f;have q:x≠t.d:=fun e=>bc (e ▸ l1);refine⟨(zao _ _ q).trans l1,l2.same (hd.kl x y f).1 (hd.kl x y f).2.1 (Same.stat _ _) M fun R D r E=>?_⟩;have J:=((zup l2 D).2.n3 r E).1;have:R.d≠t.d:=fun e=>by rw[e]at J;exact bf x l1 J
    exact⟨(zao _ _ this).trans J,Same.stat _ _⟩
   ·have q:x≠t.d:=fun e=>by rw[e,j]at f;cases f
    rw[zao _ _ q]at f;rw[z];split
    ·exact⟨_,rfl⟩
    exact h.nl x f
   ·have q:x≠t.d:=fun e=>by rw[e,j]at f;rcases f with e|e<;>cases e
    rw[zao _ _ q]at f;obtain⟨u1,u2⟩:=h.un x f;exact⟨u1.same (Same.stat _ _),u2⟩
   by_cases q:x=t.d
   ·subst q;rw[j]at f;injection f with f;subst f;refine⟨by rw[zao _ _ G.symm,N];simp,fun _=>⟨k', {t with next:=3},by rw[z,if_pos rfl],?_,rfl,B,by show (3:Int)<=3;omega⟩⟩;rw[b0];exact if_neg (by dsimp only;rw[B];decide)
   rw[zao _ _ q]at f;obtain⟨o1,o2⟩:=h.ow x a f;refine⟨M.un a o1,fun V=>?_⟩;have b5:a≠t.d:=fun e=>by rw[e,j]at V;cases V
   rw[zao _ _ b5]at V;obtain⟨k2,R,E,e4,e5,e6,e7⟩:=o2 V;have I:a≠c:=fun e=>by subst e;exact b4 x (by omega) f
   exact⟨k2,R,by rw[z,if_neg I];exact E,e4,e5,e6,e7⟩
  have Y:adA s t σ=(({t with next:=3}:Ad).fin 4,σ):=by unfold adA;rw[if_neg (by rw[B];decide),if_neg h0,if_neg h1,if_pos h2,if_neg hw]
  refine O (by rw[Y]) (by omega) fun t' e Z=>?_;rw[Y]at e;subst e;cases Z
 obtain⟨X,T⟩:=F.n3 B (by omega);have ba:∀ x,σ.st x= .live->x≠t.d:=fun x f e=>by rw[e,X]at f;cases f
 by_cases bb:t.next=13
 ·have Y:adA s t σ=(t.fin 0,σ.stat t.d .done):=by unfold adA;rw[if_neg (by rw[B];decide)];iterate 13 rw[if_neg (by omega)]
  rw[z9t bb]at T;obtain⟨x1,x2⟩:=zzn h.gi T.1 T.2.1 T.2.2;rw[Y]at hr b0 mk ⊢;dsimp only at hr ⊢;have j:(σ.stat t.d .done).st t.d= .done:=zbf _ _ _;have M:Later σ (σ.stat t.d .done):=by
   refine⟨fun x f=>?_,fun x f b7=>?_⟩
   ·by_cases e:x=t.d
    ·rw[e,zbf];simp
    rw[zao _ _ e];exact f
   by_cases e:x=t.d
   ·rw[e,zbf];simp
   rw[zao _ _ e];exact b7
  have b6:∀ x,(σ.stat t.d .done).st x= .unused↔σ.st x= .unused:=fun x=>by
   by_cases e:x=t.d
   ·subst e;rw[j,X];exact⟨fun e=>(by cases e),fun e=>(by cases e)⟩
   rw[zao _ _ e]
  refine⟨⟨hr,h.gi.stat trivial c3,fun x y f=>?_,fun x f=>?_,fun x f=>?_,fun x a f=>?_⟩,ztg,b6⟩
  ·rw[z]at f;split at f
   ·rename_i e;subst e;injection f with f;subst f;exact⟨(zao _ _ G.symm).trans N,mk _ (fun t' e Z=>by subst e;cases Z) (b3.same (Same.stat _ _))⟩
   rename_i e;obtain⟨l1,l2⟩:=h.li x y f;refine⟨(zao _ _ (ba x l1)).trans l1,l2.same (hd.kl x y f).1 (hd.kl x y f).2.1 (Same.stat _ _) M fun R D r E=>?_⟩;have J:=((zup l2 D).2.n3 r E).1;have:R.d≠t.d:=fun r=>by rw[r,X]at J;injection J with J;exact e J.symm
   exact⟨(zao _ _ this).trans J,Same.stat _ _⟩
  ·have q:x≠t.d:=fun e=>by rw[e,j]at f;cases f
   rw[zao _ _ q]at f;rw[z];split
   ·exact⟨_,rfl⟩
   exact h.nl x f
  ·by_cases q:x=t.d
   ·subst q;exact⟨x1.same (Same.stat _ _),x2⟩
   rw[zao _ _ q]at f;obtain⟨u1,u2⟩:=h.un x f;exact⟨u1.same (Same.stat _ _),u2⟩
  have q:x≠t.d:=fun e=>by rw[e,j]at f;cases f
  rw[zao _ _ q]at f;obtain⟨o1,o2⟩:=h.ow x a f;refine⟨M.un a o1,fun V=>?_⟩;have b5:a≠t.d:=fun e=>by rw[e,j]at V;cases V
  rw[zao _ _ b5]at V;obtain⟨k2,R,E,e4,e5,e6,e7⟩:=o2 V;have I:a≠c:=fun e=>by subst e;exact q (b1 x f).symm
  exact⟨k2,R,by rw[z,if_neg I];exact E,e4,e5,e6,e7⟩
 have U:=yb6 h.gi b8 B (by omega) T;have j:=U.kept.2.2;have M:=Later.yc7 j;have b2:∀ x,x≠t.d->Same x σ (adA s t σ).2:=U.kept.2.1;refine⟨⟨hr,U.kept.1,fun x y f=>?_,fun x f=>?_,fun x f=>?_,fun x a f=>?_⟩,U.calm,fun x=>by rw[j]⟩
 ·rw[z]at f;split at f
  ·rename_i e;subst e;injection f with f;subst f;refine⟨(j _).trans N,mk _ (fun t' e Z=>?_) (b3.same (b2 _ G.symm))⟩;subst e;have C:=U.on;exact⟨C.c.trans L,fun _ e=>by have:=C.nx;omega,fun _ e=>by have:=C.nx;omega,fun _ _=>⟨by rw[j,C.d];exact X,C.dd⟩,fun _=>by rw[C.d];exact G,fun e=>by have:=C.nx;omega⟩
  rename_i e;obtain⟨l1,l2⟩:=h.li x y f;refine⟨(j x).trans l1,l2.same (hd.kl x y f).1 (hd.kl x y f).2.1 (b2 x (ba x l1)) M fun R D r E=>?_⟩;have J:=((zup l2 D).2.n3 r E).1;have:R.d≠t.d:=fun r=>by rw[r,X]at J;injection J with J;exact e J.symm
  exact⟨(j _).trans J,b2 _ this⟩
 ·rw[j]at f;rw[z];split
  ·exact⟨_,rfl⟩
  exact h.nl x f
 ·rw[j]at f;have q:x≠t.d:=fun e=>by rw[e,X]at f;rcases f with e|e<;>cases e
  obtain⟨u1,u2⟩:=h.un x f;exact⟨u1.same (b2 x q),fun i=>((b2 x q).m i).trans (u2 i)⟩
 rw[j]at f;rw[j];obtain⟨o1,o2⟩:=h.ow x a f;refine⟨o1,fun V=>?_⟩;obtain⟨k2,R,E,e4,e5,e6,e7⟩:=o2 V;by_cases I:a=c
 ·subst I;have C:=U.on;have b9:(adA s t σ).1.done=false:=C.dn.trans B;refine⟨k',(adA s t σ).1,by rw[z,if_pos rfl],by rw[b0,if_neg (by rw[b9];decide)],C.d.trans (b1 x f),b9,C.nx.1⟩
 exact⟨k2,R,by rw[z,if_neg I];exact E,e4,e5,e6,e7⟩
theorem zt5{s:Sh}{σ:Ab}{d:Wd}{n:Nat}{c:Int}{k:Kl}{j:Jb}(h:WI s σ d)(hd:wdOk s d n)(E:d.kl c=some k)(C:k.job=some j):WI s (j.zhf s c σ).2 (d.step s c k).1/\Chg j (j.step s c d.m).1 σ (j.zhf s c σ).2/\(j.step s c d.m).1=(j.zhf s c σ).1:=by
 obtain⟨S,B,p⟩:=hd.kl c k E;obtain⟨R,D⟩:=h.li c k E;obtain⟨o,q,O,N⟩:=S.jb j C;rw[B]at o;have f:=ye9 h.rep h.gi o p;have y:=zqw (m:=d.m) o p q h.rep.fi hd.fit;have I:k.step s d.m=(k.after (j.step s c d.m).1,(j.step s c d.m).2,k.tells (j.step s c d.m).1,0):=by unfold Kl.step;rw[C,B]
 unfold Wd.step;rw[I];dsimp only;have G:KlAt s c σ k=JbAt s c σ j:=by unfold KlAt;rw[C]
 rw[G]at D;by_cases F:∃ t,j= .hei t
 ·obtain⟨t,rfl⟩:=F;have r:(za0 s t d.m).1=(adA s t σ).1:=by have:=f.1;injection this
  have J:=yby (tr:=d.tr++k.tells (.hei (za0 s t d.m).1)) (lg:=if d.m.st<((Jb.hei t).step s c d.m).2.st then d.lg++[((Jb.hei t).step s c d.m).2.la] else d.lg) h hd E C o.1 q (k.after (.hei (za0 s t d.m).1)) (by
   show (if (Jb.hei (za0 s t d.m).1).done=true then none else some (Jb.hei (za0 s t d.m).1))=_
   rw[r];rfl) _ f.2
  exact⟨J.1,⟨fun _ e=>(by cases e),fun b e=>(by cases e),fun _ _=>J.2.1,J.2.2⟩,f.1⟩
 have i:=ya1 h.rep h.gi o p q D (fun a e=>F ⟨a,e⟩);refine⟨z6d h hd E C (fun a e=>F ⟨a,e⟩) f.2 i.kept ?_,?_,f.1⟩
 ·unfold KlAt;show (match (if (j.step s c d.m).1.done=true then none else some (j.step s c d.m).1:Option Jb) with|none=>_|some j=>_);have z:=i.at';rw[<-f.1]at z;rcases Bool.eq_false_or_eq_true (j.step s c d.m).1.done with e|e
  ·rw[if_pos e];exact yb5 y.2.1 e z
  rw[if_neg (by rw[e];decide)];exact z
 have z:=i.gave;have L:=i.took;have M:=i.calm;rw[<-f.1]at z L M;exact⟨z,L,M,fun x=>by rw[i.kept.2.2]⟩
variable {s:Sh} {σ:Ab} {d:Wd} {n:Nat} {c:Int} {k k':Kl}

theorem zw8(h:WI s σ d)(p:d.kl c=some k)(q:KlAt s c σ k')(j:k'.job=k.job\/k.job=none)(tr:List Ev)(lg:List Acc):WI s σ ⟨d.m,d.l.set c.toNat (some k'),tr,lg⟩:=by
 have f:=d.zdk (Wd.zfs p).1 (Wd.zfs p).2 (some k') d.m tr lg;refine⟨h.rep,h.gi,fun x y b=>?_,fun x b=>?_,h.un,fun x a b=>?_⟩
 ·rw[f]at b;split at b
  ·rename_i e;subst e;injection b with b;subst b;exact⟨(h.li x k p).1,q⟩
  exact h.li x y b
 ·rw[f];split
  ·exact⟨_,rfl⟩
  exact h.nl x b
 obtain⟨E,F⟩:=h.ow x a b;refine⟨E,fun C=>?_⟩;obtain⟨D,t,i,o,r,z,B⟩:=F C;rw[f];by_cases e:a=c
 ·subst e;rw[p]at i;injection i with i;subst i;rw[if_pos rfl];rcases j with j|j
  ·exact⟨k',t,rfl,j.trans o,r,z,B⟩
  rw[j]at o;cases o
 rw[if_neg e];exact⟨D,t,i,o,r,z,B⟩
theorem zwb(h:WI s σ d)(hd:wdOk s d n)(x:Ch)(o:d.kl x.client=some k):WI s σ (d.ask s x k).1:=by
 obtain⟨r,j,m⟩:=hd.kl _ k o;obtain⟨q,b⟩:=h.li _ k o;unfold Wd.ask;refine zw8 h o ?_ ?_ _ _
 ·unfold Kl.invoke;split
  ·exact b
  rename_i p;have f:k.job=none:=by
   cases f:k.job
   ·rfl
   simp[Kl.rests,f]at p
  have i:zaz σ x.client .no:=by unfold KlAt at b;rw[f]at b;exact b
  split
  ·exact b
  split
  ·show KlAt s x.client σ {k with op:=x.op,told:=false,steps:=0};unfold KlAt;dsimp only;rw[f];exact i
  unfold KlAt;dsimp only;rw[j];exact z5b h.rep.may m i _ _ _ _
 unfold Kl.invoke;split
 ·exact .inl rfl
 rename_i p;have f:k.job=none:=by
  cases f:k.job
  ·rfl
  simp[Kl.rests,f]at p
 exact .inr f
theorem zqr(h:WI s σ d)(hd:wdOk s d n)(x:Ch)(hc:0<=x.client/\x.client<s.c)(hu:d.stat x.client=0):WI s (σ.stat x.client .live) (d.begin s x).1:=by
 have L:=h.rep.may;have hb:=zar.1 L;have q:=(ixs h.rep.fi).2.2.2 _ hc;have f:σ.st x.client= .unused:=by have J:=h.rep.st _ hc;rw[q]at J;unfold Wd.stat at hu;rw[J]at hu;have E:=(TW.read L (h.gi.tf x.client)).1;rw[hu]at E;cases hx:σ.st x.client<;>rw[hx]at E<;>simp[TW.kind]at E
 have hi:x.client.toNat<d.l.length:=by rw[hd.len];omega
 unfold Wd.begin;rw[if_pos hu];dsimp only;have i:=d.zdk hc.1 hi (some (zht x.client (Fl.zdr x.bias s.p))) (d.m.put x.client (za8 1 0)) (d.tr++[zcj x.client]) d.lg;have j:(σ.stat x.client .live).st x.client= .live:=zbf _ _ _;have r:Rep s (d.m.put x.client (za8 1 0)) (σ.stat x.client .live):=h.rep.zpm hc .live (by rw[q];rfl);have G:Later σ (σ.stat x.client .live):=by
  refine⟨fun y b=>?_,fun y b I=>?_⟩
  ·by_cases e:y=x.client
   ·rw[e,zbf];simp
   rw[zao _ _ e];exact b
  have e:y≠x.client:=fun e=>b (e ▸ f);rw[zao _ _ e];exact I
 refine⟨r,h.gi.stat trivial hc,fun y z b=>?_,fun y b=>?_,fun y b=>?_,fun y a b=>?_⟩
 ·rw[i]at b;split at b
  ·rename_i e;subst e;injection b with b;subst b;exact⟨j,(h.un _ (.inl f)).1.same (Same.stat _ _)⟩
  rename_i e;obtain⟨U,M⟩:=h.li y z b;refine⟨(zao _ _ e).trans U,M.same (hd.kl y z b).1 (hd.kl y z b).2.1 (Same.stat _ _) G fun t B C D=>?_⟩;have F:=((zup M B).2.n3 C D).1;have:t.d≠x.client:=fun e=>by rw[e,f]at F;cases F
  exact⟨(zao _ _ this).trans F,Same.stat _ _⟩
 ·rw[i];split
  ·exact⟨_,rfl⟩
  rename_i e;rw[zao _ _ e]at b;exact h.nl y b
 ·have e:y≠x.client:=fun e=>by rw[e,j]at b;rcases b with e|e<;>cases e
  rw[zao _ _ e]at b;obtain⟨X,Y⟩:=h.un y b;exact⟨X.same (Same.stat _ _),Y⟩
 have e:y≠x.client:=fun e=>by rw[e,j]at b;cases b
 rw[zao _ _ e]at b;obtain⟨N,V⟩:=h.ow y a b;have o:a≠x.client:=fun e=>N (e ▸ f);rw[zao _ _ o];refine⟨N,fun S=>?_⟩;obtain⟨T,t,B,C,D,O,R⟩:=V S;exact⟨T,t,by rw[i,if_neg o];exact B,C,D,O,R⟩
theorem zp4(h:WI s σ d)(hd:wdOk s d n)(F:d.kl c=some k):WI s (σ.stat c .dead) (d.kill c).1:=by
 obtain⟨Y,N,hc⟩:=hd.kl _ k F;obtain⟨G,O⟩:=h.li _ k F;have E:=(ixs h.rep.fi).2.2.2 _ hc;have hi:c.toNat<d.l.length:=(Wd.zfs F).2;unfold Wd.kill;dsimp only;have i:=d.zdk hc.1 hi none (d.m.put c (za8 2 0)) (d.tr++[zdw c]) d.lg;have f:(σ.stat c .dead).st c= .dead:=zbf _ _ _;have p:Rep s (d.m.put c (za8 2 0)) (σ.stat c .dead):=h.rep.zpm hc .dead (by rw[E];rfl);have o:Later σ (σ.stat c .dead):=by
  refine⟨fun y b=>?_,fun y b I=>?_⟩
  ·by_cases e:y=c
   ·rw[e,zbf];simp
   rw[zao _ _ e];exact b
  by_cases e:y=c
  ·rw[e,zbf];simp
  rw[zao _ _ e];exact I
 refine⟨p,h.gi.stat trivial hc,fun y z b=>?_,fun y b=>?_,fun y b=>?_,fun y a b=>?_⟩
 ·rw[i]at b;split at b
  ·cases b
  rename_i e;obtain⟨S,J⟩:=h.li y z b;refine⟨(zao _ _ e).trans S,J.same (hd.kl y z b).1 (hd.kl y z b).2.1 (Same.stat _ _) o fun t r B C=>?_⟩;have D:=((zup J r).2.n3 B C).1;have:t.d≠c:=fun e=>by rw[e,G]at D;cases D
  exact⟨(zao _ _ this).trans D,Same.stat _ _⟩
 ·have e:y≠c:=fun e=>by rw[e,f]at b;cases b
  rw[zao _ _ e]at b;rw[i,if_neg e];exact h.nl y b
 ·have e:y≠c:=fun e=>by rw[e,f]at b;rcases b with e|e<;>cases e
  rw[zao _ _ e]at b;obtain⟨V,X⟩:=h.un y b;exact⟨V.same (Same.stat _ _),X⟩
 have e:y≠c:=fun e=>by rw[e,f]at b;cases b
 rw[zao _ _ e]at b;obtain⟨T,U⟩:=h.ow y a b;refine⟨o.un a T,fun q=>?_⟩;have j:a≠c:=fun e=>by rw[e,f]at q;cases q
 rw[zao _ _ j]at q;obtain⟨R,t,r,B,C,L,M⟩:=U q;exact⟨R,t,by rw[i,if_neg j];exact r,B,C,L,M⟩
def z9x:Ab:=⟨fun _=> .empty,fun _ _=> .none,fun _ _=> .none,fun _=> .unused⟩
theorem zqj(N:Nat)(a:Int):(zgj N).get a=0:=by
 unfold Mem.get zgj;dsimp only;rw[List.getD_eq_getElem?_getD,List.getElem?_replicate];split<;>rfl
theorem ydc(h:mayB s.p s.c s.m=true):WI s z9x (zde s):=by
 have q:=zl9 h;have o:∀ c,zaz z9x c .no:=fun c=>by
  refine⟨fun p=>⟨fun e=>?_,fun e=>e.elim⟩,fun p g=>⟨fun e=>?_,fun e=>e.elim⟩,fun p i k=>⟨fun e=>?_,fun e=>?_⟩,fun p i k j e=>e.elim⟩
  ·cases e
  ·cases e.1
  ·obtain⟨⟨b,e⟩,_⟩:=e;cases e
  rcases e with e|⟨j,e⟩
  ·exact e.elim
  cases e
 refine⟨⟨q.fi,fun p r=>?_,fun p i r hi=>?_,fun c i hc hi=>?_,fun c hc=>?_⟩,?_,fun c k f=>?_,fun c e=>(by cases e),fun c _=>⟨o c,fun _=>rfl⟩,fun x a e=>(by cases e)⟩
 ·exact zqj _ _
 ·exact zqj _ _
 ·exact zqj _ _
 ·exact(zqj _ _).trans (show (0:Int)=za8 0 0 by decide)
 ·exact⟨fun _=>trivial,fun _ _=>trivial,fun _ _=>trivial,fun _=>trivial,fun c i e=>absurd rfl e,fun c e=>absurd rfl e,fun p i=>rfl,fun p h e=>(by cases e),fun p n e=>(by cases e),fun c j p i k e=>(by cases e),fun c j j' p i k k' e=>(by cases e)⟩
 unfold Wd.kl zde at f;dsimp only at f;rw[List.getD_eq_getElem?_getD,List.getElem?_replicate]at f;split at f
 ·split at f<;>simp at f
 cases f
end

section

def Bl.at':Bl->Int
 | .lar p _=> p * 64
 | .sm p i k=> p * 64 + i * zbj k
def Bl.len:Bl->Int
 | .lar _ n=> n * 64
 | .sm _ _ k=> zbj k
variable {s:Sh} {σ:Ab}

theorem z1t{k:Int}(h:0<=k/\k<=3):(zbj k=4/\zah k=16)\/(zbj k=8/\zah k=8)\/(zbj k=16/\zah k=4)\/(zbj k=32/\zah k=2):=by
 have:k=0\/k=1\/k=2\/k=3:=by omega
 rcases this with rfl|rfl|rfl|rfl<;>decide
theorem zjt{i k:Int}(j:0<=k/\k<=3)(hi:0<=i/\i<zah k):0<=i*zbj k/\i*zbj k+zbj k<=64/\1<=zbj k:=by
 rcases z1t j with⟨b,f⟩|⟨b,f⟩|⟨b,f⟩|⟨b,f⟩<;>rw[b]<;>rw[f]at hi<;>omega
theorem zmt{i j k:Int}(m:0<=k/\k<=3)(h:i<j):i*zbj k+zbj k<=j*zbj k:=by
 rcases z1t m with⟨b,f⟩|⟨b,f⟩|⟨b,f⟩|⟨b,f⟩<;>rw[b]<;>omega
theorem zto(m:GI s σ){p i k:Int}(h:σ.has (.sm p i k)):(∃ b,σ.pg p= .super k b)/\(0<=i/\i<zah k)/\(0<=k/\k<=3)/\0<=p/\p<s.p:=by
 obtain⟨⟨b,f⟩,o⟩:=zhs m (.inr h);have j:=zjs m f;exact⟨⟨b,f⟩,o,j.2.1,j.1⟩
theorem zwn(f:GI s σ){b:Bl}(h:σ.has b):0<=b.at'/\1<=b.len/\b.at'+b.len<=s.p*64:=by
 cases b with
 |lar p n=>have:=zgt f h;simp only[Bl.at',Bl.len];omega
 |sm p i k=>obtain⟨_,j,m,o⟩:=zto f h;have:=zjt m j;simp only[Bl.at',Bl.len];omega
theorem zsn(r:GI s σ){a b:Bl}(C:σ.has a)(hb:σ.has b)(y:a≠b):¬ (a.at'<b.at'+b.len/\b.at'<a.at'+a.len):=by
 have lar:∀ p n q,σ.pg p= .large n->(∀ g,σ.pg q≠ .body g)->p<q->p+n<=q:=fun p n q o f B=>by
  by_cases e:p+n<=q
  ·exact e
  have:=r.lg p n o (q-p) (by omega) (by omega);rw[show p+(q-p)=q by omega]at this;exact absurd this (f p)
 cases a with
 |lar p n=>
  cases b with
  |lar q m=>
   have o:σ.pg p= .large n:=C
   have f:σ.pg q= .large m:=hb
   have E:=zgt r o
   have O:=zgt r f
   simp only[Bl.at',Bl.len]
   rcases Int.lt_trichotomy p q with e|e|e
   ·have:=lar p n q o (fun g e=>by rw[f]at e;cases e) e
    omega
   ·subst e
    rw[o]at f;injection f with f;subst f
    exact absurd rfl y
   ·have:=lar q m p f (fun g e=>by rw[o]at e;cases e) e
    omega
  |sm q i k=>
   have o:σ.pg p= .large n:=C
   obtain⟨⟨b,f⟩,B,t,J⟩:=zto r hb
   have D:=zjt t B
   have E:=zgt r o
   simp only[Bl.at',Bl.len]
   rcases Int.lt_trichotomy p q with e|e|e
   ·have:=lar p n q o (fun g e=>by rw[f]at e;cases e) e
    omega
   ·subst e;rw[o]at f;cases f
   ·omega
 |sm p i k=>
  obtain⟨⟨L,f⟩,B,t,J⟩:=zto r C
  have D:=zjt t B
  cases b with
  |lar q m=>
   have o:σ.pg q= .large m:=hb
   have E:=zgt r o
   simp only[Bl.at',Bl.len]
   rcases Int.lt_trichotomy q p with e|e|e
   ·have:=lar q m p o (fun g e=>by rw[f]at e;cases e) e
    omega
   ·subst e;rw[o]at f;cases f
   ·omega
  |sm q j k'=>
   obtain⟨⟨M,z⟩,F,G,N⟩:=zto r hb
   have I:=zjt G F
   simp only[Bl.at',Bl.len]
   rcases Int.lt_trichotomy q p with e|e|e
   ·omega
   ·subst e
    rw[f]at z;injection z with z _;subst z
    rcases Int.lt_trichotomy i j with e|e|e
    ·have:=zmt (i:=i) (j:=j) t e;omega
    ·subst e;exact absurd rfl y
    ·have:=zmt (i:=j) (j:=i) t e;omega
   ·omega
theorem ybm(f:GI s σ){a b:Bl}(i:σ.has a)(hb:σ.has b)(h:a.at'=b.at'):a=b:=by
 by_cases e:a=b
 ·exact e
 have j:=zwn f i;have m:=zwn f hb;exact absurd ⟨by omega,by omega⟩ (zsn f i hb e)
structure zjj (W:Int) (H:Bl->Prop) (l:List Bk):Prop where
 ok:okK W 0 l
 mem:∀ a n,⟨a,n⟩ ∈ l↔∃ b,H b/\b.at'=a/\b.len=n
def z5i (H:Bl->Prop):Prop:=∀ a b,H a->H b->a.at'=b.at'->a=b
variable {W:Int} {H H':Bl->Prop} {l:List Bk}

theorem zjj.found(h:zjj W H l)(a:Int):zd6 a l=true↔∃ b,H b/\b.at'=a:=by
 rw[zym h.ok];constructor
 ·rintro⟨⟨x,n⟩,hb,rfl⟩;obtain⟨b,f,i,j⟩:=(h.mem x n).1 hb;exact⟨b,f,i⟩
 rintro⟨b,f,i⟩;exact⟨⟨a,b.len⟩,(h.mem _ _).2 ⟨b,f,i,rfl⟩,rfl⟩
theorem z90{a n:Int}{x:Bk}:x ∈ putB l a n↔x ∈ l\/x=⟨a,n⟩:=by
 unfold putB;rw[List.mem_append,List.mem_cons];have:x ∈ l↔x ∈ l.take (posB a l)\/x ∈ l.drop (posB a l):=by rw[<-List.mem_append,List.take_append_drop]
 rw[this];constructor
 ·rintro(h|h|h)
  ·exact .inl (.inl h)
  ·exact .inr h
  exact .inl (.inr h)
 rintro((h|h)|h)
 ·exact .inl h
 ·exact .inr (.inr h)
 exact .inr (.inl h)
theorem z7j{lo a:Int}(m:okK W lo l)(q:zd6 a l=true){x:Bk}:x ∈ ya7 l a↔x ∈ l/\x.a≠a:=by
 obtain⟨j,o⟩:=(zop a l).1 q;unfold ya7;constructor
 ·intro h;have f:x ∈ l:=by
   rcases List.mem_append.1 h with h|h
   ·exact List.mem_of_mem_take h
   exact List.mem_of_mem_drop h
  refine⟨f,fun e=>?_⟩;rcases List.mem_append.1 h with h|h
  ·obtain⟨i,hi,rfl⟩:=List.getElem_of_mem h;rw[List.length_take]at hi;rw[List.getElem_take]at e;have:=zo8 a l i (by omega) (by omega);omega
  obtain⟨i,hi,rfl⟩:=List.getElem_of_mem h;rw[List.length_drop]at hi;rw[List.getElem_drop]at e;have:=m.lt (posB a l) (posB a l+1+i) (by omega) (by omega);have:=(m.mem _ (List.getElem_mem j)).2.1;omega
 rintro⟨f,b⟩;have p:l=l.take (posB a l)++l[posB a l]::l.drop (posB a l+1):=by rw[<-List.drop_eq_getElem_cons j,List.take_append_drop]
 rw[p]at f;rcases List.mem_append.1 f with h|h
 ·exact List.mem_append.2 (.inl h)
 rcases List.mem_cons.1 h with h|h
 ·rw[h]at b;exact absurd o b
 exact List.mem_append.2 (.inr h)
theorem zjj.plus(h:zjj W H l){b:Bl}(q:∀ x,H' x↔(H x\/x=b))(f:0<=b.at'/\1<=b.len/\b.at'+b.len<=W)(p:∀ x,H x->¬ (x.at'<b.at'+b.len/\b.at'<x.at'+x.len)):zwf W l b.at' b.len=true/\zjj W H' (putB l b.at' b.len):=by
 have o:∀ x ∈ l,¬ (x.a<b.at'+b.len/\b.at'<x.a+x.n):=fun x r=>by obtain⟨y,m,i,j⟩:=(h.mem x.a x.n).1 r;have:=p y m;rw[i,j]at this;exact this
 refine⟨?_,⟨ya9 h.ok f.1 f.2.1 f.2.2 o,fun a n=>?_⟩⟩
 ·unfold zwf ydk;rw[decide_eq_true (by omega:1<=b.len/\0<=b.at'/\b.at'<=W/\b.len<=W-b.at'),Bool.true_and];have:l.any (fun x=>meets x b.at' b.len)=false:=by rw[List.any_eq_false];intro x r;simp only[meets,decide_eq_true_eq];exact o x r
  rw[this];rfl
 rw[z90,h.mem a n];constructor
 ·rintro(⟨x,m,i,j⟩|e)
  ·exact⟨x,(q x).2 (.inl m),i,j⟩
  injection e with t z;exact⟨b,(q b).2 (.inr rfl),t.symm,z.symm⟩
 rintro⟨x,m,i,j⟩;rcases(q x).1 m with e|e
 ·exact .inl ⟨x,e,i,j⟩
 subst e;exact .inr (by rw[i,j])
theorem zjj.minus(h:zjj W H l)(t:z5i H){b:Bl}(hb:H b)(q:∀ x,H' x↔(H x/\x≠b)):zd6 b.at' l=true/\zjj W H' (zse l b.at'):=by
 have m:zd6 b.at' l=true:=(h.found _).2 ⟨b,hb,rfl⟩;refine⟨m,⟨z7z h.ok,fun a n=>?_⟩⟩;unfold zse;rw[if_pos m,z7j h.ok m,h.mem a n];constructor
 ·rintro⟨⟨x,i,f,j⟩,o⟩;exact⟨x,(q x).2 ⟨i,fun e=>by subst e;exact o f.symm⟩,f,j⟩
 rintro⟨x,i,f,j⟩;obtain⟨p,r⟩:=(q x).1 i;exact⟨⟨x,p,f,j⟩,fun e=>r (t x b p hb (by rw[f];exact e))⟩
theorem zjj.congr(h:zjj W H l)(e:∀ x,H' x↔H x):zjj W H' l:=⟨h.ok,fun a n=>(h.mem a n).trans ⟨fun ⟨b,f,i⟩=>⟨b,(e b).2 f,i⟩,fun ⟨b,f,i⟩=>⟨b,(e b).1 f,i⟩⟩⟩
end

section

variable {s:Sh} {σ:Ab} {c:Int}

def zt2 (n:Int) (t:Rs):Prop:=(wi n 1 32=true/\t.k=zcn n/\∃ x,t.seeker=some x)\/(wi n 1 32=false/\wi n 33 512=true/\t.pages=runV n/\t.seeker=none)
theorem z7l(b:Blk):(zoa b).at'=b.at'/\(zoa b).len=b.len:=by
 unfold zoa Blk.at' Blk.len;split<;>exact⟨rfl,rfl⟩
theorem zrf{n:Int}{t:Rs}{b:Blk}(h:zt2 n t)(f:t.got=some b):b.len=lenV n:=by
 obtain⟨k,pg,sk,rn⟩:=t;unfold Rs.got at f;unfold lenV;rcases h with⟨j,m,x,i⟩|⟨j,m,i,o⟩
 ·dsimp only at m i f;subst i;dsimp only at f;split at f
  ·injection f with f;subst f;rw[if_pos j,<- m];rfl
  cases f
 dsimp only at i o f;subst o;rcases rn with _|y
 ·cases f
 dsimp only at f;split at f
 ·injection f with f;subst f;rw[if_neg (by rw[j];decide),<- i];rfl
 cases f
theorem zr2{n:Int}(h:lenB n=true)(s:Sh)(c f:Int):zt2 n (zdh s c n f):=by
 have m:=zbc.1 (show wi n 1 512=true from h);unfold zdh zt2;by_cases i:wi n 1 32=true
 ·rw[if_pos i];exact .inl ⟨i,rfl,_,rfl⟩
 have b:wi n 1 32=false:=by simpa using i
 have o:=zgo.1 b;have j:wi n 33 512=true:=zbc.2 (by omega);rw[if_neg i,if_pos j];exact .inr ⟨b,j,rfl,rfl⟩
theorem zot{n:Int}{t:Rs}(h:zt2 n t)(s:Sh)(σ:Ab):zt2 n (rsA s t σ).1:=by
 obtain⟨k,pg,sk,rn⟩:=t;unfold rsA;rcases h with⟨i,f,x,b⟩|⟨i,f,b,j⟩
 ·dsimp only at f b;subst b;exact .inl ⟨i,f,_,rfl⟩
 dsimp only at b j;subst j;rcases rn with _|y
 ·exact .inr ⟨i,f,b,rfl⟩
 exact .inr ⟨i,f,b,rfl⟩
structure zn9 (H:Bl->Prop) (ab:Bool) (a:Int) (f:Fe):Prop where
 ad:f.a=a
 pg:f.page=a / 64
 bl:f.done=false->1<=f.next->(feBl f).at'=a
 see:f.done=false->f.next=1->ab=true\/H (feBl f)
 no:f.done=true->f.gave=false->ab=true
theorem zsr{a:Int}(hs:mayB s.p s.c s.m=true)(hc:0<=c/\c<s.c)(f:spB s a=true)(H:Bl->Prop)(ab:Bool):zn9 H ab a (zc2 s c a):=by
 have b:=zmw (c:=c) hs hc f;refine⟨rfl,if_pos f,fun _ e=>?_,fun _ e=>?_,fun e=>?_⟩
 ·rw[b.2.1]at e;omega
 ·rw[b.2.1]at e;cases e
 rw[b.1]at e;cases e
theorem z4z{t:Fe}{x:PW}(hd:t.done=false):(t.zeg x).a=t.a/\(t.zeg x).page=t.page/\(t.zeg x).gave=t.gave/\(t.zeg x).next=1/\(t.zeg x).pk=x.kind/\(t.zeg x).pa=x.pa/\
  (((t.zeg x).done=false/\((x.kind=3/\t.a%64=0)\/(x.kind=2/\t.a%64%zbj x.pa=0/\(t.zeg x).slot=t.a%64/zbj x.pa)))\/((t.zeg x).done=true/\¬ (x.kind=3/\t.a%64=0)/\¬ (x.kind=2/\t.a%64%zbj x.pa=0))):=by
 unfold Fe.zeg;dsimp only;split
 ·rename_i h;exact⟨rfl,rfl,rfl,rfl,rfl,rfl,.inl ⟨hd,.inl h⟩⟩
 rename_i h;split
 ·rename_i b;exact⟨rfl,rfl,rfl,rfl,rfl,rfl,.inl ⟨hd,.inr ⟨b.1,b.2,rfl⟩⟩⟩
 rename_i b;exact⟨rfl,rfl,rfl,rfl,rfl,rfl,.inr ⟨rfl,h,b⟩⟩
theorem zrx(r:GI s σ){b:Bl}{a:Int}(hb:σ.has b)(o:b.at'=a):(∃ n,b= .lar (a/64) n/\σ.pg (a/64)= .large n/\a%64=0)\/(∃ i k q,b= .sm (a/64) i k/\σ.pg (a/64)= .super k q/\a%64=i*zbj k/\0<=k/\k<=3/\0<=i/\i<zah k):=by
 cases b with
 |lar p n=>
  have f:σ.pg p= .large n:=hb;have:=zgt r f;simp only[Bl.at']at o;have e:p=a/64:=by omega
  subst e;exact .inl ⟨n,rfl,f,by omega⟩
 |sm p i k=>
  obtain⟨⟨q,f⟩,j,m,y⟩:=zto r hb;have t:=zjt m j;simp only[Bl.at']at o;have e:p=a/64:=by omega
  subst e;exact .inr ⟨i,k,q,rfl,f,by omega,m.1,m.2,j.1,j.2⟩
theorem z4u{k:Int}(h:0<=k/\k<=3):0<zbj k:=by rcases z1t h with⟨e,_⟩|⟨e,_⟩|⟨e,_⟩|⟨e,_⟩<;>rw[e]<;>decide
theorem zo2{m:Mem}{t:Fe}{a:Int}{ab ab':Bool}(hr:Rep s m σ)(hg:GI s σ)(V:feIs s c t)(hd:t.done=false)(hw:t.next=1->t.pk=3->t.word=(PW.large t.pa).enc)(h:zn9 σ.has ab a t)(L:(∀ b,σ.has b->b.at'≠a)->ab=true)(D:ab=true->ab'=true):
  zn9 (feA s t σ).2.has ab' a (feA s t σ).1:=by
 obtain⟨c1,c2,c3,c4,c5,c6,c7,c8,c9,b0⟩:=V.ok.cl hd;obtain⟨r,G,h3,h4,h5⟩:=h;unfold feA;rw[if_neg (by rw[hd];decide)];by_cases n0:t.next=0
 ·rw[if_pos n0];obtain⟨l1,I,l3,l4,Y,T,U⟩:=z4z (t:=t) (x:=σ.pg t.page) hd;dsimp only;rw[G]at l1 I l3 l4 Y T U ⊢;refine⟨l1.trans r,I,fun e _=>?_,fun e _=>?_,fun e _=>?_⟩
  ·rcases U with⟨_,⟨f,o⟩|⟨f,o,J⟩⟩|⟨f,_⟩
   ·unfold feBl;rw[if_pos (Y.trans f)];show (t.zeg _).page*64=a;rw[I];rw[r]at o;omega
   ·unfold feBl;rw[if_neg (by omega)];show (t.zeg _).page*64+(t.zeg _).slot*zbj (t.zeg _).pa=a;rw[I,J,T];rw[r]at o ⊢;have:=Int.ediv_mul_cancel (Int.dvd_of_emod_eq_zero o);rw[this];omega
   rw[f]at e;cases e
  ·rcases U with⟨_,⟨f,o⟩|⟨f,o,J⟩⟩|⟨f,_⟩
   ·refine .inr ?_;unfold feBl;rw[if_pos (Y.trans f)];show σ.pg (t.zeg _).page= .large (t.zeg _).pa;rw[I,T];cases p:σ.pg (a/64)<;>rw[p]at f<;>simp[PW.kind]at f;rfl
   ·by_cases z:σ.has (feBl (t.zeg (σ.pg (a/64))))
    ·exact .inr z
    refine .inl (D (L fun b hb B=>z ?_));have j:feBl (t.zeg (σ.pg (a/64)))= .sm (a/64) (a%64/zbj (σ.pg (a/64)).pa) (σ.pg (a/64)).pa:=by unfold feBl;rw[if_neg (by omega),I,J,T,r]
    rcases zrx hg hb B with⟨n,f1,f2,F⟩|⟨i,k,q,f1,f2,F,Z,f5,f6⟩
    ·rw[f2]at f;cases f
    rw[j,f2];show σ.has (.sm (a/64) (a%64/zbj k) k);rw[F,Int.mul_ediv_cancel _ (by have:=z4u ⟨Z,f5⟩;omega)];rw[f1]at hb;exact hb
   rw[f]at e;cases e
  rcases U with⟨f,_⟩|⟨_,f,o⟩
  ·rw[f]at e;cases e
  refine D (L fun b hb B=>?_);rw[r]at f o;rcases zrx hg hb B with⟨n,f1,f2,F⟩|⟨i,k,q,f1,f2,F,Z,f5,f6⟩
  ·exact f ⟨by rw[f2];rfl,F⟩
  exact o ⟨by rw[f2];rfl,by rw[f2];show a%64%zbj k=0;rw[F];exact Int.mul_emod_left _ _⟩
 rw[if_neg n0];by_cases n1:t.next=1
 ·rw[if_pos n1];have M:=V.gv (by omega);have N:¬ σ.has (feBl t)->ab'=true:=fun hn=>by
   rcases h4 hd n1 with e|e
   ·exact D e
   exact absurd e hn
  have j:=h3 hd (by omega);by_cases E:t.pk=3
  ·rw[if_pos E];have C:feBl t= .lar t.page t.pa:=if_pos E;by_cases p:(σ.pg t.page).enc=t.word
   ·rw[if_pos p];exact⟨r,G,fun _ _=>j,fun _ e=>(by cases e),fun e=>(by cases e)⟩
   rw[if_neg p];refine⟨r,G,fun e=>(by cases e),fun e=>(by cases e),fun _ _=>N fun z=>p ?_⟩;rw[C]at z;have z:σ.pg t.page= .large t.pa:=z;rw[z,hw n1 E]
  rw[if_neg E];have C:feBl t= .sm t.page t.slot t.pa:=if_neg E;have keep:∀ g,(t.gotA s g).a=t.a/\(t.gotA s g).page=t.page/\(t.gotA s g).slot=t.slot/\(t.gotA s g).pk=t.pk/\(t.gotA s g).pa=t.pa/\(t.gotA s g).gave=g/\(t.gotA s g).done= !g/\(g=true->(t.gotA s g).next≠1):=fun g=>by
   unfold Fe.gotA;dsimp only;split
   ·unfold Fe.kept;dsimp only;split
    ·exact⟨rfl,rfl,rfl,rfl,rfl,rfl,rfl,fun _=>(by dsimp only;first|decide|omega|simp)⟩
    split<;>exact⟨rfl,rfl,rfl,rfl,rfl,rfl,rfl,fun _=>(by dsimp only;first|decide|omega|simp)⟩
   exact⟨rfl,rfl,rfl,rfl,rfl,rfl,rfl,fun _=>(by dsimp only;first|decide|omega|simp)⟩
  by_cases p:σ.sl t.page t.slot= .taken t.pa
  ·rw[if_pos p];obtain⟨k1,R,O,k4,k5,k6,S,k8⟩:=keep true;refine⟨k1.trans r,R.trans G,fun _ _=>?_,fun _ e=>absurd e (k8 rfl),fun e=>?_⟩
   ·rw[<-j];unfold feBl;rw[k4,if_neg E,if_neg E,R,O,k5]
   rw[S]at e;cases e
  rw[if_neg p];obtain⟨k1,R,O,k4,k5,k6,S,k8⟩:=keep false;refine⟨k1.trans r,R.trans G,fun e=>(by rw[S]at e;cases e),fun e=>(by rw[S]at e;cases e),fun _ _=>N fun z=>p ?_⟩;rw[C]at z;exact z
 rw[if_neg n1];have M:=V.gv2 (by omega) hd;have j:=h3 hd (by omega);have fin:∀ (t':Fe) (σ':Ab),t'.a=t.a->t'.page=t.page->t'.slot=t.slot->t'.pk=t.pk->t'.pa=t.pa->t'.gave=t.gave->(t'.next≠1)->zn9 σ'.has ab' a t':=fun t' σ' f o J e4 e5 e6 e7=>⟨f.trans r,o.trans G,fun _ _=>by rw[<-j];unfold feBl;rw[e4,o,J,e5],fun _ e=>absurd e e7,fun _ e=>by rw[e6,M]at e;cases e⟩
 by_cases n2:t.next=2
 ·rw[if_pos n2];obtain⟨_,x,p,_⟩:=c8 n2;rw[p];dsimp only;have X:∀ y:Fe,y.kept.a=y.a/\y.kept.page=y.page/\y.kept.slot=y.slot/\y.kept.pk=y.pk/\y.kept.pa=y.pa/\y.kept.gave=y.gave/\(y.next≠1->y.kept.next≠1):=fun y=>by
   unfold Fe.kept;split
   ·split
    ·exact⟨rfl,rfl,rfl,rfl,rfl,rfl,id⟩
    split
    ·exact⟨rfl,rfl,rfl,rfl,rfl,rfl,fun _=>(by dsimp only;first|decide|omega|simp)⟩
    exact⟨rfl,rfl,rfl,rfl,rfl,rfl,id⟩
   exact⟨rfl,rfl,rfl,rfl,rfl,rfl,id⟩
  obtain⟨a1,a2,a3,a4,a5,a6,a7⟩:=X {t with put:=some (puA s x σ).1};exact fin _ _ a1 a2 a3 a4 a5 a6 (a7 n1)
 rw[if_neg n2];split
 ·exact fin _ _ rfl rfl rfl rfl rfl rfl n1
 split
 ·exact fin _ _ rfl rfl rfl rfl rfl rfl n1
 exact fin _ _ rfl rfl rfl rfl rfl rfl n1
end

section

variable {s:Sh} {σ σ':Ab} {c:Int} {d d':Wd}

def zlq (H:Bl->Prop) (ab:Bool) (o:Op3):Jb->Prop
 | .mal r _=> o.k=1/\lenB o.n=true/\zt2 o.n r
 | .fre f=> o.k=2/\zn9 H ab o.a f
 | .aga r=> o.k=3/\lenB o.n=true/\(∀ x,r.res=some x->zt2 o.n x)/\(∀ f,r.free=some f->zn9 H ab o.a f)/\(r.done=true->r.err=0\/(r.err=3/\zb2 r=false)\/(r.err=1/\zb2 r=false/\ab=true))
 | .hei a=> o.k=4/\(a.done=true->a.err=0\/a.err=4\/a.err=5)
theorem zn9.mono{H H':Bl->Prop}{ab ab':Bool}{a:Int}{f:Fe}(h:zn9 H ab a f)(m:ab=true->ab'=true)(o:∀ b,b.at'=a->H b->ab'=true\/H' b):zn9 H' ab' a f:=by
 refine⟨h.ad,h.pg,h.bl,fun i j=>?_,fun i j=>m (h.no i j)⟩;rcases h.see i j with e|e
 ·exact .inl (m e)
 exact o _ (h.bl i (by omega)) e
theorem zlq.mono{H H':Bl->Prop}{ab ab':Bool}{o:Op3}{j:Jb}(h:zlq H ab o j)(i:ab=true->ab'=true)(m:∀ b,b.at'=o.a->H b->ab'=true\/H' b):zlq H' ab' o j:=by
 cases j with
 |mal r x=>exact h
 |fre f=>exact⟨h.1,h.2.mono i m⟩
 |aga r=>exact⟨h.1,h.2.1,h.2.2.1,fun f p=>(h.2.2.2.1 f p).mono i m,fun e=>(h.2.2.2.2 e).imp id (Or.imp id fun e=>⟨e.1,e.2.1,i e.2.2⟩)⟩
 |hei a=>exact h
theorem zor{H:Bl->Prop}{ab:Bool}{o:Op3}{j:Jb}{b:Blk}(h:zlq H ab o j)(hb:j.took=some b):b.len=lenV o.n/\lenB o.n=true/\(o.k=1\/o.k=3):=by
 cases j with
 |mal r x=>
  have hb:(if zck x=true then r.got else none)=some b:=hb;split at hb
  ·exact⟨zrf h.2.2 hb,h.2.1,.inl h.1⟩
  cases hb
 |fre f=>cases hb;|aga r=>
  have hb:(if r.done=true/\r.err=0 then(match r.res with|some x=>x.got|none=>none) else none)=some b:=hb;split at hb
  ·cases hr:r.res with
   |none=>rw[hr]at hb;cases hb
   |some x=>rw[hr]at hb;exact⟨zrf (h.2.2.1 x hr) hb,h.2.1,.inr h.1⟩
  cases hb
 |hei a=>cases hb
theorem zer(s:Sh)(t:Rr)(r:Rs)(f:Fe)(j:t.res=some r)(i:t.free=some f)(hd:t.done=false){ab:Bool}(hu:zev t.undo=true->f.gave=false/\ab=true)(p:r.done=true->r.got=none->f.gave=false):
  (t.settle s).res=some r/\(t.settle s).free=some f/\((t.settle s).done=true->(t.settle s).err=0\/((t.settle s).err=3/\zb2 (t.settle s)=false)\/((t.settle s).err=1/\zb2 (t.settle s)=false/\ab=true)):=by
 have m:∀ t':Rr,t'.free=some f->zb2 t'=f.gave:=fun t' e=>by unfold zb2;rw[e]
 rcases zcp s t r f j i with⟨k1,e⟩|⟨_,k1,e⟩|⟨_,_,k1,e⟩|⟨_,_,k1,o,e⟩|⟨b,_,_,k1,o,q,e⟩|⟨b,_,_,_,_,_,_,k1,_,e⟩|⟨b,_,_,_,_,_,_,k1,_,e⟩<;>rw[e]
 ·exact⟨j,i,fun _=>.inr (.inr ⟨rfl,(m _ i).trans (hu k1).1,(hu k1).2⟩)⟩
 ·exact⟨j,i,fun _=>.inl rfl⟩
 ·exact⟨j,i,fun e=>(by rw[hd]at e;cases e)⟩
 ·exact⟨j,i,fun _=>.inr (.inl ⟨rfl,(m _ i).trans (p k1 o)⟩)⟩
 ·exact⟨j,i,fun e=>(by rw[hd]at e;cases e)⟩
 ·exact⟨j,i,fun e=>(by have e:t.done=true:=e;rw[hd]at e;cases e)⟩
 exact⟨j,i,fun e=>(by have e:t.done=true:=e;rw[hd]at e;cases e)⟩
theorem z97{s:Sh}{σ:Ab}{t:Ad}(hd:t.done=false)(B:0<=t.next/\t.next<=13)(e:(adA s t σ).1.done=true):(adA s t σ).1.err=0\/(adA s t σ).1.err=4\/(adA s t σ).1.err=5:=by
 have m:∀ (t':Ad) x y,t'.done=false->(t'.turn s x y).done=false:=fun t' x y h=>by
  unfold Ad.turn;dsimp only;split
  ·split<;>exact h
  split<;>exact h
 have sl:∀ t':Ad,t'.done=false->(t'.slot s).done=false:=fun t' h=>by
  unfold Ad.slot;split
  ·exact m _ _ _ h
  exact h
 have no:∀ (t':Ad),t'.done=false->t'.done=true->t'.err=0\/t'.err=4\/t'.err=5:=fun t' a b=>by rw[a]at b;cases b
 have f:t.next=0\/t.next=1\/t.next=2\/t.next=3\/t.next=4\/t.next=5\/t.next=6\/t.next=7\/t.next=8\/t.next=9\/t.next=10\/t.next=11\/t.next=12\/t.next=13:=by omega
 have j:∀ (p:Prop) [Decidable p] (a b:Ad),a.done=false->(b.done=false)->(if p then a else b).done=false:=fun p _ a b r z=>by split<;>assumption
 have o:∀ (p:Prop) [Decidable p] (a b:Ad),(a.done=true->a.err=0\/a.err=4\/a.err=5)->(b.done=true->b.err=0\/b.err=4\/b.err=5)->(if p then a else b).done=true->(if p then a else b).err=0\/(if p then a else b).err=4\/(if p then a else b).err=5:=fun p _ a b r z=>by split<;>assumption
 rcases f with f|f|f|f|f|f|f|f|f|f|f|f|f|f
 ·rw[ya2 hd f]at e ⊢;cases i:σ.st t.d with
  |dead=>rw[i]at e;exact no _ hd e
  |owned q=>rw[i]at e;exact no _ hd e
  |_=>exact .inr (.inr rfl)
 ·rw[yc1 hd f]at e ⊢;exact o _ _ _ (fun _=>.inr (.inl rfl)) (no _ hd) e
 ·rw[yee hd f]at e ⊢;by_cases i:(σ.st t.d).enc=t.was
  ·rw[if_pos i]at e ⊢;exact no _ hd e
  rw[if_neg i];exact .inr (.inl rfl)
 ·rw[ydj hd f]at e ⊢;cases i:σ.pg t.at' with
  |body h=>rw[i]at e;exact no _ hd e
  |_=>rw[i]at e;exact no _ (m _ _ _ hd) e
 ·rw[yd0 hd f]at e ⊢;exact no _ (j _ _ _ hd (m _ _ _ hd)) e
 ·rw[ydy hd f]at e ⊢;exact no _ (m _ _ _ hd) e
 ·rw[ydn hd f]at e ⊢;exact no _ (j _ _ _ hd (m _ _ _ hd)) e
 ·rw[yd2 hd f]at e ⊢;exact no _ (j _ _ _ hd hd) e
 ·rw[yei hd f]at e ⊢;exact no _ (m _ _ _ hd) e
 ·rw[yeh hd f]at e ⊢;exact no _ (j _ _ _ hd hd) e
 ·rw[z9b hd f]at e ⊢;cases i:σ.pg t.at' with
  |super k b=>rw[i]at e;exact no _ hd e
  |_=>rw[i]at e;exact no _ (m _ _ _ hd) e
 ·rw[z8z hd f]at e ⊢;exact no _ (j _ _ _ hd (sl _ hd)) e
 ·rw[z9f hd f]at e ⊢;exact no _ (sl _ hd) e
 rw[z8n hd f];exact .inl rfl
theorem zzb{m:Mem}{j:Jb}{o:Op3}{ab ab':Bool}(hr:Rep s m σ)(hg:GI s σ)(I:jbIs s c j)(b4:0<=c/\c<s.c)(hd:j.done=false)(O:JbAt s c σ j)(h:zlq σ.has ab o j)(Z:(∀ b,σ.has b->b.at'≠o.a)->ab=true)(R:ab=true->ab'=true)
  (p:(j.zhf s c σ).1.gave=j.gave->∀ b,b.at'=o.a->σ.has b->(j.zhf s c σ).2.has b):zlq (j.zhf s c σ).2.has ab' o (j.zhf s c σ).1:=by
 cases j with
 |mal r x=>
  unfold Jb.zhf;dsimp only;split
  ·exact⟨h.1,h.2.1,zot h.2.2 s σ⟩
  split
  ·exact h
  exact h
 |fre f=>exact⟨h.1,zo2 hr hg I hd (O.2.w hd) h.2 Z R⟩;|aga t=>
  obtain⟨h1,h2,h3,h4,h5⟩:=h;obtain⟨r,f,E,q,o1,o2,o3,o4,o5,o6⟩:=I.ok.cl hd;have hd:t.done=false:=hd;have S:=h3 r E;have U:=h4 f q;show zlq (rrA s t σ).2.has ab' o (.aga (rrA s t σ).1);have p:zb2 (rrA s t σ).1=zb2 t->∀ b,b.at'=o.a->σ.has b->(rrA s t σ).2.has b:=p;have mono:∀ (σ':Ab),(∀ b,b.at'=o.a->σ.has b->σ'.has b)->zn9 σ'.has ab' o.a f:=fun σ' hb=>U.mono R fun b E q=>.inr (hb b E q);have ng:∀ u,t.undo=some u->f.gave=false:=fun u hu=>by obtain⟨N,a,b⟩:=I.ng u hu;rw[q]at a;injection a with a;subst a;exact b
  have Y:∀ u,t.undo=some u->ab'=true:=fun u hu=>by obtain⟨r',N,a1,G,a3,a4⟩:=I.mid hd (.inl (by rw[hu];simp));rw[q]at a3;injection a3 with a3;subst a3;exact R (U.no a4 (ng u hu))
  have gn:r.done=true->r.got≠none:=fun B D=>by
   have F:=O.inv.ph
   have b1:¬ r.done=false:=by rw[B];decide
   cases hu:t.undo with
   |some u=>
    rw[zl0 hd E q b1 hu]at F
    exact F.2.2 r E D
   |none=>
    cases hc:t.com with
    |some u=>
     obtain⟨r',N,a1,G,_⟩:=I.gv u hc
     rw[E]at a1;injection a1 with a1;subst a1
     rw[D]at G;cases G
    |none=>
     rw[zgm hd E q b1 hu hc,D]at F
     have F:t.done=true:=F
     rw[hd]at F;cases F
  by_cases B:r.done=false
  ·rw[z1v hd E q B]at p ⊢;have b0:f.gave=false:=by have F:=O.inv.ph;have L:t.ph= .res r:=zpi hd E q B;rw[L]at F;exact(I.fre f q).gv (by rw[(F.2 f q).2.1];decide)
   obtain⟨V,M,X⟩:=zer s {t with res:=some (rsA s r σ).1} (rsA s r σ).1 f rfl q hd (ab:=ab') (fun hu=>by
    cases y:t.undo with
    |none=>have hu:zev t.undo=true:=hu;rw[y]at hu;cases hu
    |some u=>exact⟨b0,Y u y⟩) (fun _ _=>b0)
   have J:=p (by unfold zb2;rw[M,q]);exact⟨h1,h2,fun x C=>by rw[V]at C;injection C with C;subst C;exact zot S s σ,fun N i=>by rw[M]at i;injection i with i;subst i;exact mono _ J,X⟩
  have T:r.done=true:=by simpa using B
  have D:=gn T;by_cases z:f.done=false
  ·rw[z3m hd E q B z]at p ⊢
   have L:∃ b,t.ph= .fre b f:=by
    have b2:t.undo=none/\t.com=none:=by
     constructor
     ·cases hu:t.undo with
      |none=>rfl
      |some u=>obtain⟨r',N,_,_,a1,G⟩:=I.mid hd (.inl (by rw[hu];simp));rw[q]at a1;injection a1 with a1;subst a1;rw[z]at G;cases G
     ·cases hu:t.com with
      |none=>rfl
      |some u=>obtain⟨r',N,_,_,a1,G⟩:=I.mid hd (.inr (by rw[hu];simp));rw[q]at a1;injection a1 with a1;subst a1;rw[z]at G;cases G
    cases hb:r.got with
    |none=>exact absurd hb D
    |some b=>exact⟨b,by rw[zgm hd E q B b2.1 b2.2,hb]⟩
   obtain⟨b,L⟩:=L;have F:=O.inv.ph;rw[L]at F;have b3:=zo2 hr hg (I.fre f q) z (F.2.1.w z) U Z R
   obtain⟨V,M,X⟩:=zer s {t with free:=some (feA s f σ).1} r (feA s f σ).1 E rfl hd (ab:=ab') (fun hu=>by
    cases y:t.undo with
    |none=>have hu:zev t.undo=true:=hu;rw[y]at hu;cases hu
    |some u=>obtain⟨r',N,_,_,a1,G⟩:=I.mid hd (.inl (by rw[y];simp));rw[q]at a1;injection a1 with a1;subst a1;rw[z]at G;cases G) (fun _ e=>absurd e D)
   exact⟨h1,h2,fun x C=>by rw[V]at C;injection C with C;subst C;exact S,fun N i=>by rw[M]at i;injection i with i;subst i;exact b3,X⟩
  cases hu:t.undo with
  |some u=>rw[z2h hd E q B z hu]at p ⊢;obtain⟨V,M,X⟩:=zer s {t with undo:=some (unA u σ).1} r f E q hd (ab:=ab') (fun _=>⟨ng u hu,Y u hu⟩) (fun _ e=>absurd e D);have J:=p (by unfold zb2;rw[M,q]);exact⟨h1,h2,fun x C=>by rw[V]at C;injection C with C;subst C;exact S,fun N i=>by rw[M]at i;injection i with i;subst i;exact mono _ J,X⟩
  |none=>
   cases hc:t.com with
   |none=>
    exfalso
    rcases o6 T (by simpa using z) with e|e
    ·exact e hu
    ·exact e hc
   |some u=>
    rw[zz2 hd E q B z hu hc]at p ⊢
    obtain⟨V,M,X⟩:=zer s {t with com:=some (cmA u σ).1} r f E q hd (ab:=ab') (fun y=>by have y:zev t.undo=true:=y;rw[hu]at y;cases y) (fun _ e=>absurd e D)
    have J:=p (by unfold zb2;rw[M,q])
    exact⟨h1,h2,fun x C=>by rw[V]at C;injection C with C;subst C;exact S,fun N i=>by rw[M]at i;injection i with i;subst i;exact mono _ J,X⟩
 |hei a=>refine⟨h.1,fun e=>?_⟩;have hd:a.done=false:=hd;have e:(adA s a σ).1.done=true:=e;show (adA s a σ).1.err=0\/(adA s a σ).1.err=4\/(adA s a σ).1.err=5;exact z97 (s:=s) (σ:=σ) hd (I.1.cl hd).2.2.2.1 e
end

end Go.Proofs.YtkbddndcegpllaaGreat
