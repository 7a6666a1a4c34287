/- Lemmas for the claim. -/
import Derived.Test.YtmmbicppdjgbmaaGreatBw9

import Derived.Test.YtmmbicppdjgbmaaGreatBw10

import Derived.Test.YtmmbicppdjgbmaaGreatBw20

set_option linter.all false
set_option maxHeartbeats 2000000
set_option maxRecDepth 100000
namespace Go.Proofs.YtmmbicppdjgbmaaGreat

attribute [local go_sem] EA

section

variable {s:Sh} {σ σ':Ab} {c:Int}

def WF (s:Sh):Mc->Own
 | .tk t=> xF t
 | .sc t=> sF s t
 | .pc t=> yF s t
 | .sp t=> sD t
 | .bn t=> tD t
def KI (c:Int) (σ:Ab):Mc->Prop
 | .tk t=> MG c σ t
 | .sc t=> t.c=c
 | .pc t=> t.c=c
 | .sp t=> uK c t
 | .bn t=> WH c σ t
def sO (s:Sh) (t:Sk):Mc->Prop
 | .sp x=> x.page=t.here s
 | .bn x=> x.page=t.page/\x.k=t.k
 | _=> True
theorem LX{x:Mc}(j:GI s σ)(l:mcOk s x)(hd:x.done=false)(i:qA σ c (Own.no.add (WF s x)))(hi:KI c σ x):
  Goes s c σ (mcA s x σ) .no (WF s) (KI c)/\Calm σ (mcA s x σ).2/\∀ t,sO s t x->sO s t (mcA s x σ).1:=by
 cases x with
 |tk t=>obtain⟨⟨a,b,d⟩,e⟩:=yY (t:=t) j l hd i hi;exact⟨⟨a,b,d⟩,e,fun _ _=>trivial⟩
 |sc t=>obtain⟨⟨a,b,d⟩,e⟩:=wY (t:=t) j l hd i hi;exact⟨⟨a,b,d⟩,e,fun _ _=>trivial⟩
 |pc t=>obtain⟨⟨a,b,d⟩,e⟩:=pY (t:=t) j l hd i hi;exact⟨⟨a,b,d⟩,e,fun _ _=>trivial⟩
 |sp t=>obtain⟨⟨a,b,d⟩,e,f⟩:=rT (t:=t) j l hd (fun _ _ h=>h) i hi;exact⟨⟨a,b,d⟩,e,fun _ h=>f.trans h⟩
 |bn t=>obtain⟨⟨a,b,d⟩,e,f,g⟩:=aY (t:=t) j l hd id (fun _ h=>h) (fun _ _ h=>h) i hi;exact⟨⟨a,b,d⟩,e,fun _ h=>⟨f.trans h.1,g.trans h.2⟩⟩
theorem KI.same{x:Mc}(b:qA σ c (Own.no.add (WF s x)))(h:KI c σ x)(hs:Same c σ σ'):KI c σ' x:=by
 cases x with
 |tk t=>exact MG.same h hs
 |sc t=>exact h
 |pc t=>exact h
 |sp t=>exact h;|bn t=>
  refine WH.same h (fun hb=>?_) hs;have f:tD t= .page t.page:=by unfold tD;rw[hb];rfl
  have b:qA σ c (Own.no.add (tD t)):=b;rw[f]at b;exact(b.h t.page).2 (.inr rfl)
def fC (s:Sh) (t:Sk):Own:=if t.found=true then .way t.page t.slot t.k else match t.now with
 | some x=> WF s x
 | none=> .no
structure UD (s:Sh) (c:Int) (σ:Ab) (t:Sk):Prop where
 cl:t.c=c
 dn:t.done=true->t.found=false->t.now=none
 now:t.found=false->∀ x,t.now=some x->KI c σ x/\sO s t x
theorem WG{t:Sk}{x:Mc}(b:t.found=false)(f:t.now=some x):fC s t=WF s x:=by unfold fC;rw[b,f];rfl
theorem rJ{t:Sk}(b:t.found=false)(f:t.now=none):fC s t= .no:=by unfold fC;rw[b,f];rfl
theorem UD.same{t:Sk}(i:qA σ c (Own.no.add (fC s t)))(h:UD s c σ t)(hs:Same c σ σ'):UD s c σ' t:=by
 refine⟨h.cl,h.dn,fun b x f=>⟨?_,(h.now b x f).2⟩⟩;rw[WG b f]at i;exact(h.now b x f).1.same i hs
theorem zy0{s:Sh}{c p k:Int}(hs:mayB s.p s.c s.m=true)(hc:0<=c/\c<s.c)(f:0<=p/\p<s.p)(b:0<mA k):(uC s c p k).done=false:=by
 have hb:=LA.1 hs;have h1:uA s.p s.c s.m c=c:=by unfold uA;rw[jP ⟨hs,IA.2 (by omega)⟩]
 have h2:pA s.p s.c s.m p=s.c+p:=by unfold pA;rw[jP ⟨hs,IA.2 (by omega)⟩]
 simp only[uC,h1,h2];simp;omega
theorem Own.z2j(p k:Int):(Own.ways p 0 k).Eqv .no:=by
 exact⟨fun _=>.rfl,fun _ _=>.rfl,fun q i b=>⟨fun h=>by have h1:=h.2.1;omega,fun h=>h.elim⟩⟩
theorem Own.z8j(p k:Int):(Own.ways p 1 k).Eqv (Own.way p 0 k):=by
 refine⟨fun _=>.rfl,fun _ _=>.rfl,fun q i b=>?_⟩;simp only[Own.ways,Own.way];omega
theorem ZK{t:Sp}(b:t.held=false)(h0:t.i=0):(sD t).Eqv .no:=by
 unfold sD;rw[b,h0];exact Own.z2j _ _
theorem zu3{t:Sk}{x:Mc}(hs:mayB s.p s.c s.m=true)(G:skOk s t)(hd:t.done=false)(E:t.now=some x)(C:x.done=true)(f:qA σ c (Own.no.add (fC s t)))(hi:UD s c σ t):
  qA σ c (Own.no.add (fC s (t.after s x)))/\UD s c σ (t.after s x):=by
 have r:t.found=false:=KD G.fd hd;obtain⟨c1,c2,c3,c4,c5⟩:=G.cl hd;obtain⟨m1,m2⟩:=c5 x E;obtain⟨H,I⟩:=hi.now r x E;rw[WG r E]at f;have hc:=hi.cl;have hb:=LA.1 hs;have D:∀ y:Option Mc,(t.done=true->t.found=false->y=none):=fun y e=>by rw[hd]at e;cases e
 have l:∀ p:Int,(0<=p/\p<s.p)->qA σ c (Own.no.add (.page p))->qA σ c (Own.no.add (fC s (t.bind s p)))/\UD s c σ (t.bind s p):=fun p M f=>by
  refine⟨?_,⟨hc,D _,fun _ y F=>?_⟩⟩
  ·rw[WG (t:=t.bind s p) (x:= .bn (uC s t.c p t.k)) r rfl];exact f
  injection F with F;subst F;refine⟨⟨hc,fun _ j h0 h1=>?_,fun e=>?_⟩,⟨rfl,rfl⟩⟩
  ·simp only[uC]at h1;omega
  rw[zy0 hs c1 M c2]at e;cases e
 cases x with
 |tk y=>
  simp only[Sk.after];have B:y.k=t.k:=m2;split
  ·rename_i b;have h1:=(m1.en (m1.fd b).1).2.2;refine⟨?_,⟨hc,fun _ e=>(by cases e),fun e=>(by cases e)⟩⟩;have:fC s (t.fin y.ep y.es)=xF y:=by unfold fC xF;rw[jP b,h1,B];rfl
   rw[this];exact f
  rename_i b;have q:WF s (.tk y)= .no:=by show xF y=_;unfold xF;rw[jN b]
  rw[q]at f;refine⟨?_,⟨hc,D _,fun _ z n=>?_⟩⟩
  ·rw[WG (t:= {t with now:=some (.sc (TD s t.c t.k t.first))}) (x:= .sc (TD s t.c t.k t.first)) r rfl];exact f
  injection n with n;subst n;exact⟨hc,trivial⟩
 |sc y=>
  simp only[Sk.after];have B:y.k=t.k:=m2;split
  ·rename_i b;refine⟨?_,⟨hc,fun _ e=>(by cases e),fun e=>(by cases e)⟩⟩;have:fC s (t.fin (y.page s) y.i)=sF s y:=by unfold fC sF;rw[jP b,B];rfl
   rw[this];exact f
  rename_i b;have q:WF s (.sc y)= .no:=by show sF s y=_;unfold sF;rw[jN b]
  rw[q]at f;refine⟨?_,⟨hc,D _,fun _ z n=>?_⟩⟩
  ·rw[WG (t:= {t with now:=some (.pc (BF s t.c t.first))}) (x:= .pc (BF s t.c t.first)) r rfl];exact f
  injection n with n;subst n;exact⟨hc,trivial⟩
 |pc y=>
  simp only[Sk.after];split
  ·rename_i b;have q:WF s (.pc y)= .page (y.page s):=by show yF s y=_;unfold yF;rw[jP b]
   rw[q]at f;exact l _ (yI (by omega)) f
  rename_i b;have q:WF s (.pc y)= .no:=by show yF s y=_;unfold yF;rw[jN b]
  rw[q]at f;refine⟨?_,⟨hc,fun _ _=>rfl,fun _ z n=>by cases n⟩⟩;rw[rJ (t:= {t with now:=none}) r rfl];exact f
 |sp y=>
  simp only[Sk.after];have o:y.page=t.here s:=I;split
  ·rename_i b;have q:WF s (.sp y)= .page y.page:=by show sD y=_;unfold sD;rw[jP b]
   rw[q,o]at f;exact l _ (yI (by omega)) f
  rename_i b;have h0:=H.2 C (by simpa using b);refine⟨?_,⟨hc,fun _ _=>rfl,fun _ z n=>by cases n⟩⟩;rw[rJ (t:=t.turn s) r rfl];exact f.eqv (.add _ (ZK (by simpa using b) h0))
 |bn y=>
  simp only[Sk.after];have o:y.page=t.page/\y.k=t.k:=I;have h0:=H.2.2 C;refine⟨?_,⟨hc,fun _ e=>(by cases e),fun e=>(by cases e)⟩⟩;have J:fC s (t.fin t.page 0)= .way t.page 0 t.k:=rfl;have L:WF s (.bn y)= .ways t.page 1 t.k:=by show tD y=_;unfold tD;rw[jP h0.1,h0.2,o.1,o.2];rfl
  rw[L]at f;rw[J];exact f.eqv (.add _ (Own.z8j _ _))
theorem qU(hs:mayB s.p s.c s.m=true)(n:Nat):∀ {t:Sk},skOk s t->qA σ c (Own.no.add (fC s t))->UD s c σ t->qA σ c (Own.no.add (fC s (mB s n t)))/\UD s c σ (mB s n t):=by
 induction n with
 |zero=>intro t _ b hi;exact⟨b,hi⟩;|succ n j=>
  intro t f b hi;unfold mB;split
  ·rename_i x i;split
   ·rename_i hc;have h1:=zu3 hs f hc.1 i hc.2 b hi;exact j (eL f hc.1 i hc.2 (LA.1 hs).1) h1.1 h1.2
   exact⟨b,hi⟩
  exact⟨b,hi⟩
theorem MX{m:Mem}{t:Sk}(E:Rep s m σ)(o:GI s σ)(C:skOk s t)(n:XH t)(hd:t.done=false)(l:qA σ c (Own.no.add (fC s t)))(hi:UD s c σ t):
  Goes s c σ (skA s t σ) .no (fC s) (UD s c)/\Calm σ (skA s t σ).2:=by
 have hs:=E.may;have i:t.found=false:=KD C.fd hd;obtain⟨c1,c2,c3,c4,c5⟩:=C.cl hd;unfold skA;rw[jN (by rw[hd];decide)];cases hx:t.now with
 |some x=>
  have r:x.done=false:=by
   rcases n with e|e|⟨y,e,F⟩
   ·rw[hd]at e;cases e
   ·rw[hx]at e;cases e
   rw[hx]at e;injection e with e;subst e;exact F
  obtain⟨N,O⟩:=hi.now i x hx;rw[WG i hx]at l;obtain⟨⟨G,H,I⟩,J,L⟩:=LX o (c5 x hx).1 r l N;have p:skOk s {t with now:=some (mcA s x σ).1}:=by refine⟨fun _=>⟨c1,c2,c3,c4,fun z B=>?_⟩,fun e=>(by have e:t.found=true:=e;rw[i]at e;cases e)⟩;injection B with B;subst B;rw[<-(KT E o (c5 x hx).1).1];exact⟨sL m (c5 x hx).1,UK (t:=t) m (c5 x hx).2⟩
  have M:qA (mcA s x σ).2 c (Own.no.add (fC s {t with now:=some (mcA s x σ).1})):=by rw[WG (t:= {t with now:=some (mcA s x σ).1}) (x:=(mcA s x σ).1) i rfl];exact H
  have q:UD s c (mcA s x σ).2 {t with now:=some (mcA s x σ).1}:=⟨hi.cl,fun e=>(by have e:t.done=true:=e;rw[hd]at e;cases e),fun _ y f=>by
   injection f with f;subst f
   refine⟨I,?_⟩
   have:=L t O
   cases hm:(mcA s x σ).1<;>rw[hm]at this<;>exact this⟩
  have h1:=qU hs 5 p M q;exact⟨⟨G,h1.1,h1.2⟩,J⟩
 |none=>
  rw[rJ i hx]at l
  have D:∀ t':Sk,fC s t'= .no\/(fC s t').Eqv .no->UD s c σ t'->Goes s c σ (t',σ) .no (fC s) (UD s c)/\Calm σ σ:=fun t' h1 h2=>by
   refine⟨⟨Kept.refl o,?_,h2⟩,Calm.refl _⟩
   rcases h1 with h1|h1
   ·rw[h1];exact l
   ·exact l.eqv (.add _ h1.symm)
  have j:Goes s c σ (t.turn s,σ) .no (fC s) (UD s c)/\Calm σ σ:=D _ (.inl (rJ (t:=t.turn s) i rfl)) ⟨hi.cl,fun _ _=>rfl,fun _ y f=>by cases f⟩
  dsimp only
  cases hp:σ.pg (t.here s) with
  |super k b=>
   refine D _ (.inr ?_) ⟨hi.cl,fun e=>(by have e:t.done=true:=e;rw[hd]at e;cases e),fun _ y f=>?_⟩
   ·rw[WG (t:= {t with now:=some (.sp (rC s t.c (t.here s) k))}) (x:= .sp (rC s t.c (t.here s) k)) i rfl]
    exact ZK rfl rfl
   ·injection f with f;subst f
    exact⟨⟨hi.cl,fun _ _=>rfl⟩,rfl⟩
  |_=>exact j
end

section

variable {s:Sh} {σ σ':Ab} {c:Int}

def Own.run (h lo hi:Int):Own:=((Own.page h).add (.bodies h (h + 1) lo)).add (.pages lo hi)
inductive RnPh
 | found
 | dead
 | strip (x:Sp)
 | clear
 | undo
 | write
 | look
def Rn.ph (t:Rn):RnPh:=
 if t.found=true then .found else if t.done=true then .dead else if t.next=2 then (match t.strip with | some x=> .strip x | none=> .look)
 else if t.next=3 then .clear else if t.next=4 then .undo else if t.next=5 then .write else .look
def NC (t:Rn):Own:=match t.ph with
 | .found=> .run t.head (t.head + t.pages) (t.head + t.pages)
 | .dead=> .no
 | .strip x=> (Own.pages t.head t.at').add (sD x)
 | .clear=> .pages t.head (t.at' + 1)
 | .undo=> .pages t.head t.i
 | .write=> .run t.head t.i (t.head + t.pages)
 | .look=> .pages t.head t.at'
def BC (σ:Ab) (lo hi:Int):Prop:=∀ p i,lo<=p->p < hi->σ.sl p i= .none
def TJ (c:Int) (σ:Ab) (t:Rn):Prop:=t.c=c/\match t.ph with
 | .found=> BC σ t.head (t.head + 1)
 | .dead=> True
 | .strip x=> BC σ t.head t.at'/\x.page=t.at'/\uK c x
 | .clear=> t.head<=t.at'/\BC σ t.head t.at'/\∀ j,0<=j->j < t.i->σ.sl t.at' j= .none
 | .undo=> BC σ t.head t.i
 | .write=> BC σ t.head (t.head + 1)/\BC σ t.i (t.head + t.pages)
 | .look=> BC σ t.head t.at'
theorem Own.OO{lo hi:Int}(h:hi<=lo):(Own.pages lo hi).Eqv .no:=by
 exact⟨fun p=>⟨fun h=>by have h1:=h.1;have h2:=h.2;omega,fun h=>h.elim⟩,fun _ _=>.rfl,fun _ _ _=>.rfl⟩
theorem Own.dP{lo hi:Int}(h:lo<=hi):((Own.pages lo hi).add (.page hi)).Eqv (.pages lo (hi+1)):=by
 refine⟨fun p=>?_,fun _ _=>or_iff_left id,fun _ _ _=>or_iff_left id⟩;simp only[Own.add,Own.page,Own.pages];omega
theorem Own.z2n{h hi:Int}(b:h<hi):(Own.pages h hi).Eqv (.run h (h+1) hi):=by
 refine⟨fun p=>?_,fun p g=>?_,fun _ _ _=>?_⟩<;>simp only[Own.run,Own.add,Own.page,Own.bodies,Own.pages,or_false,false_or,iff_false,false_iff]<;>(try omega)
theorem BC.same{lo hi:Int}(h:BC σ lo hi)(b:∀ p,lo<=p->p<hi->σ.pg p= .held c)(hs:Same c σ σ'):BC σ' lo hi:=fun p i h0 h1=>(hs.hs p i (b p h0 h1)).trans (h p i h0 h1)
theorem TJ.same{t:Rn}(b:qA σ c (NC t))(h:TJ c σ t)(hs:Same c σ σ'):TJ c σ' t:=by
 obtain⟨h1,h2⟩:=h;refine⟨h1,?_⟩;unfold NC at b;cases hp:t.ph with
 |found=>rw[hp]at b h2;exact h2.same (fun p h0 h1=>(b.h p).2 (.inl (.inl (show p=t.head by omega)))) hs
 |dead=>trivial;|strip x=>rw[hp]at b h2;exact⟨h2.1.same (fun p h0 h1=>(b.h p).2 (.inl ⟨h0,h1⟩)) hs,h2.2⟩
 |clear=>rw[hp]at b h2;exact⟨h2.1,h2.2.1.same (fun p h0 h1=>(b.h p).2 ⟨h0,by omega⟩) hs,fun j h0 h1=>(hs.hs _ _ ((b.h _).2 ⟨h2.1,by omega⟩)).trans (h2.2.2 j h0 h1)⟩
 |undo=>rw[hp]at b h2;exact h2.same (fun p h0 h1=>(b.h p).2 ⟨h0,h1⟩) hs
 |write=>rw[hp]at b h2;exact⟨h2.1.same (fun p h0 h1=>(b.h p).2 (.inl (.inl (show p=t.head by omega)))) hs,h2.2.same (fun p h0 h1=>(b.h p).2 (.inr ⟨h0,h1⟩)) hs⟩
 |look=>rw[hp]at b h2;exact h2.same (fun p h0 h1=>(b.h p).2 ⟨h0,h1⟩) hs
def RnIn (c:Int) (σ:Ab) (t:Rn):Prop:=qA σ c (NC t)/\TJ c σ t
theorem mL{t:Rn}(b:t.ph= .look)(hc:t.c=c)(f:qA σ c (.pages t.head t.at'))(hb:BC σ t.head t.at'):RnIn c σ t:=by
 refine⟨?_,hc,?_⟩
 ·unfold NC;rw[b];exact f
 rw[b];exact hb
theorem pU{t:Rn}(j:t.found=false)(hd:t.done=false)(l:t.next=5)(hc:t.c=c)(f:qA σ c (.run t.head (t.i+1) (t.head+t.pages)))(h1:BC σ t.head (t.head+1))(h2:BC σ (t.i+1) (t.head+t.pages)):RnIn c σ t.written:=by
 unfold Rn.written;split
 ·rename_i e;have b:({t with i:=t.i+1,found:=true,done:=true}:Rn).ph= .found:=by unfold Rn.ph;rw[jP rfl]
  refine⟨?_,hc,?_⟩
  ·unfold NC;rw[b];dsimp only;rw[e]at f;exact f
  rw[b];exact h1
 have b:({t with i:=t.i+1}:Rn).ph= .write:=by unfold Rn.ph;dsimp only;rw[j,hd,l];rfl
 refine⟨?_,hc,?_⟩
 ·unfold NC;rw[b];exact f
 rw[b];exact⟨h1,h2⟩
theorem XW{t:Rn}(f:t.found=false)(hd:t.done=false)(hc:t.c=c)(l:1<=t.pages)(j:t.head<=t.at')(b:qA σ c (.pages t.head (t.at'+1)))(hb:BC σ t.head (t.at'+1)):RnIn c σ t.own:=by
 unfold Rn.own;split
 ·rename_i e;refine pU f hd rfl hc ?_ (fun p i h0 h1=>hb p i h0 (by dsimp only at h1;omega)) (fun p i h0 h1=>hb p i (by dsimp only at h0;omega) (by dsimp only at h1;omega));dsimp only;rw[e]at b;exact b.eqv (Own.z2n (by omega))
 refine mL ?_ hc b hb;unfold Rn.ph;dsimp only;rw[f,hd];rfl
theorem zW{t:Rn}(f:t.found=false)(hd:t.done=false)(n:t.next=4)(hc:t.c=c)(j:qA σ c (.pages t.head t.i))(hb:BC σ t.head t.i):RnIn c σ (t.gone s):=by
 unfold Rn.gone;split
 ·have l:t.ph= .undo:=by unfold Rn.ph;rw[f,hd,n];rfl
  refine⟨?_,hc,?_⟩
  ·unfold NC;rw[l];exact j
  rw[l];exact hb
 rename_i m;have b:qA σ c .no:=j.eqv (Own.OO (by omega));rcases jB (decide (s.p-t.pages<t.at'+1)) with e|e
 ·rw[e];refine⟨?_,hc,?_⟩
  ·unfold NC Rn.ph;dsimp only;rw[f];exact b
  unfold Rn.ph;dsimp only;rw[f];trivial
 rw[e];refine mL ?_ hc (b.eqv (Own.OO (by dsimp only;omega)).symm) (fun p i h0 h1=>by dsimp only at h0 h1;omega);unfold Rn.ph;dsimp only;rw[f];rfl
theorem mP{t:Rn}(f:t.found=false)(hd:t.done=false)(hc:t.c=c)(b:qA σ c (.pages t.head t.at'))(hb:BC σ t.head t.at'):RnIn c σ (t.miss s):=
 zW (t:= {t with next:=4,i:=t.at'}) f hd rfl hc b hb
structure FT (s:Sh) (c:Int) (σ:Ab) (r:Rn × Ab):Prop where
 kept:Kept s c σ r.2
 at':RnIn c r.2 r.1
 calm:Calm σ r.2
theorem cZ{t:Rn}(hs:mayB s.p s.c s.m=true)(G:GI s σ)(hk:rnOk s t)(hd:t.done=false)(h:RnIn c σ t):FT s c σ (rnA s t σ):=by
 have r:t.found=false:=KD (fun e=>⟨(hk.fd e).1,trivial⟩) hd;obtain⟨c1,c2,c3,c4,c5,c6,c7,c8,c9,S⟩:=hk.cl hd;obtain⟨o,hc,hi⟩:=h;rw[hc]at c1;unfold rnA;rw[jN (by rw[hd];decide)];have quiet:∀ t',RnIn c σ t'->FT s c σ (t',σ):=fun t' h=>⟨Kept.refl G,h,Calm.refl _⟩;by_cases h0:t.next=0
 ·rw[jP h0];have E:t.ph= .look:=by unfold Rn.ph;rw[r,hd,h0];rfl
  unfold NC at o;rw[E]at o hi;have H:RnIn c σ (t.miss s):=mP r hd hc o hi;cases F:σ.pg t.at' with
  |empty=>refine quiet _ (mL ?_ hc o hi);unfold Rn.ph;dsimp only;rw[r,hd];rfl
  |super k b=>
   refine quiet _ ⟨?_,hc,?_⟩
   ·have:({t with next:=2,strip:=some (rC s t.c t.at' k)}:Rn).ph= .strip (rC s t.c t.at' k):=by unfold Rn.ph;dsimp only;rw[r,hd];rfl
    unfold NC;rw[this];exact(o.eqv (Own.Eqv.YC _).symm).eqv (.add _ (ZK rfl rfl).symm)
   have:({t with next:=2,strip:=some (rC s t.c t.at' k)}:Rn).ph= .strip (rC s t.c t.at' k):=by unfold Rn.ph;dsimp only;rw[r,hd];rfl
   rw[this];exact⟨hi,rfl,hc,fun _ _=>rfl⟩
  |_=>exact quiet _ H
 rw[jN h0];by_cases h1:t.next=1
 ·rw[jP h1];have E:t.ph= .look:=by unfold Rn.ph;rw[r,hd,h1];rfl
  unfold NC at o;rw[E]at o hi;have hr:=c6 (by omega);by_cases F:σ.pg t.at'= .empty
  ·rw[jP F,hc];have l:=EJ G (.inl F);refine⟨YT G F (by omega) c1,XW r hd hc c2.1 c4.1 ((XT G o F).eqv (Own.dP c4.1)) (fun p i a b=>?_),iG (fun n e=>by cases e) (fun n e=>by rw[F]at e;cases e)⟩;show σ.sl p i= .none;by_cases e:p=t.at'
   ·rw[e];exact l i
   exact hi p i a (by omega)
  rw[jN F];exact quiet _ (mP r hd hc o hi)
 rw[jN h1];by_cases h2:t.next=2
 ·rw[jP h2];obtain⟨x,F,b3,b1⟩:=c7 h2;have hr:=c6 (by omega);have E:t.ph= .strip x:=by unfold Rn.ph;rw[r,hd,h2,F];rfl
  unfold NC at o;rw[E]at o hi;obtain⟨hb,N,b2⟩:=hi;rw[F];dsimp only;obtain⟨⟨U,O,g3⟩,V,g5⟩:=rT G b3 b1 (R:=Own.pages t.head t.at') (fun _ _ e=>e) o b2;have B:BC (spA s x σ).2 t.head t.at':=fun p i a b=>by
   have b5:σ.pg p= .held c:=(o.h p).2 (.inl ⟨a,b⟩);have M:p≠x.page:=by omega
   rw[<-hb p i a b];have b6:∀ q u,q≠p->(σ.page q u).sl p i=σ.sl p i:=fun q u _=>rfl;unfold spA;split
   ·rfl
   split
   ·exact LD _ _ (fun e=>M e.1)
   split
   ·rfl
   split
   ·exact LD _ _ (fun e=>M e.1)
   rfl
  rcases jB (spA s x σ).1.held with e|e
  ·rw[jP e];have z:({t with strip:=some (spA s x σ).1,next:=3,i:=0}:Rn).ph= .clear:=by unfold Rn.ph;dsimp only;rw[r,hd];rfl
   refine⟨U,⟨?_,hc,?_⟩,V⟩
   ·unfold NC;rw[z];have:sD (spA s x σ).1= .page t.at':=by unfold sD;rw[jP e,g5,N]
    rw[this]at O;exact O.eqv (Own.dP c4.1)
   rw[z];exact⟨c4.1,B,fun j a b=>by dsimp only at b;omega⟩
  rw[jN (by rw[e];decide)];rcases jB (spA s x σ).1.done with C|C
  ·rw[jP C];have X:=g3.2 C e;exact⟨U,mP (t:= {t with strip:=some (spA s x σ).1}) r hd hc ((O.eqv (.add _ (ZK e X))).eqv (.YC _)) B,V⟩
  rw[jN (by rw[C];decide)];have z:({t with strip:=some (spA s x σ).1}:Rn).ph= .strip (spA s x σ).1:=by unfold Rn.ph;dsimp only;rw[r,hd,h2];rfl
  refine⟨U,⟨?_,hc,?_⟩,V⟩
  ·unfold NC;rw[z];exact O
  rw[z];exact⟨B,g5.trans N,g3⟩
 rw[jN h2];by_cases h3:t.next=3
 ·rw[jP h3];have hr:=c6 (by omega);have h8:=c8 h3;have E:t.ph= .clear:=by unfold Rn.ph;rw[r,hd,h3];rfl
  unfold NC at o;rw[E]at o hi;have f:σ.pg t.at'= .held c:=(o.h _).2 ⟨c4.1,by omega⟩;have L:=LO G f (i:=t.i) (u:= .none) (.inl rfl);have I:=cU (i:=t.i) (u:= .none) o f;have Z:Calm σ (σ.slot t.at' t.i .none):=dG (fun n e=>by cases e) (fun n e=>by rcases lI G f t.i with C|C;(rw[C]at e;cases e);(rw[C.1]at e;cases e));have B:BC (σ.slot t.at' t.i .none) t.head t.at':=fun p i a b=>by rw[LD _ _ (fun e=>by omega)];exact hi.2.1 p i a b
  have hj:∀ j,0<=j->j<t.i+1->(σ.slot t.at' t.i .none).sl t.at' j= .none:=fun j a b=>by
   by_cases e:j=t.i
   ·subst e;exact dF _ _ _ _
   rw[LD _ _ (fun C=>e C.2)];exact hi.2.2 j a (by omega)
  refine⟨L,?_,Z⟩;by_cases e:t.i+1=16
  ·rw[jP e];refine XW (t:= {t with i:=t.i+1}) r hd hc c2.1 c4.1 I (fun p i a b=>?_);dsimp only at b;by_cases ep:p=t.at'
   ·subst ep;by_cases J:0<=i/\i<16
    ·exact hj i J.1 (by omega)
    have:(σ.slot t.at' t.i .none).pg t.at'= .held c:=f;rcases lI L.1 this i with T|T
    ·exact T
    exact absurd T.2 J
   exact B p i a (by omega)
  rw[jN e];have z:({t with i:=t.i+1}:Rn).ph= .clear:=by unfold Rn.ph;dsimp only;rw[r,hd,h3];rfl
  refine⟨?_,hc,?_⟩
  ·unfold NC;rw[z];exact I
  rw[z];exact⟨c4.1,B,hj⟩
 rw[jN h3];by_cases h4:t.next=4
 ·rw[jP h4];have h9:=c9 h4;have E:t.ph= .undo:=by unfold Rn.ph;rw[r,hd,h4];rfl
  unfold NC at o;rw[E]at o hi
  have y:qA σ c ((Own.pages t.head (t.i-1)).add (.page (t.i-1))):=o.eqv (by
   have:=Own.dP (lo:=t.head) (hi:=t.i-1) (by omega)
   rw[show t.i-1+1=t.i by omega]at this
   exact this.symm)
  have f:σ.pg (t.i-1)= .held c:=(y.h _).2 (.inr rfl);have D:∀ q,σ.pg q≠ .body (t.i-1):=fun q e=>by rcases(y.b q _).1 ⟨e,f⟩ with e|e<;>exact e
  have l:∀ i,σ.sl (t.i-1) i= .none:=fun i=>hi _ i (by omega) (by omega);refine⟨JO G f l D,zW (t:= {t with i:=t.i-1}) r hd h4 hc (ZT y (fun e=>by have C:t.i-1<t.i-1:=e.2;omega) D) (fun p i a b=>hi p i a (by have b:p<t.i-1:=b;omega)),iG (fun n e=>by cases e) (fun n e=>by rw[f]at e;cases e)⟩
 rw[jN h4];have Y:t.next=5:=by omega
 have b4:=S Y;have E:t.ph= .write:=by unfold Rn.ph;rw[r,hd,Y];rfl
 unfold NC at o;rw[E]at o hi
 have y:qA σ c ((((Own.page t.head).add (.bodies t.head (t.head+1) t.i)).add (.pages (t.i+1) (t.head+t.pages))).add (.page t.i)):=o.eqv (by
  refine⟨fun p=>?_,fun p g=>?_,fun _ _ _=>?_⟩<;>simp only[Own.run,Own.add,Own.page,Own.bodies,Own.pages,or_false,false_or,iff_false,false_iff]<;>(try omega))
 have f:σ.pg t.i= .held c:=(y.h _).2 (.inr rfl);have b0:σ.pg t.head= .held c:=(y.h _).2 (.inl (.inl (.inl rfl)));have D:∀ q,σ.pg q≠ .body t.i:=fun q e=>by
  rcases(y.b q _).1 ⟨e,f⟩ with((e|e)|e)|e
  ·exact e
  ·have:=e.1;omega
  ·exact e
  exact e
 have l:∀ i,σ.sl t.i i= .none:=fun i=>hi.2 _ i (by omega) (by omega);refine⟨zqm G f l D b0 (by omega),pU r hd Y hc ?_ hi.1 (fun p i a b=>hi.2 p i (by omega) b),iG (fun n e=>by cases e) (fun n e=>by rw[f]at e;cases e)⟩;refine(zn5 y ?_ D (.inl (.inl rfl)) (by omega)).eqv ?_
 ·intro e;simp only[Own.add,Own.page,Own.bodies,Own.pages,or_false,false_or]at e;omega
 refine⟨fun p=>?_,fun p g=>?_,fun _ _ _=>?_⟩<;>simp only[Own.run,Own.add,Own.page,Own.bodies,Own.pages,or_false,false_or,iff_false,false_iff]<;>(try omega)
end

section

open Go.RowKit

attribute [local go_sem ↓] Go.wp_at_zero Go.wp_at_succ

def Ad.asked (s:Sh) (t:Ad) (x:Int):Ad:=
 if ND x=2 then { t with was:=x,next:=2 }
 else if ND x≠3 then ({ t with was:=x }:Ad).fin 5
 else if uA s.p s.c s.m (nD x) < 0 then ({ t with was:=x }:Ad).fin 4
 else { t with was:=x,who:=nD x,next:=1 }
theorem z3b(q p b:Nat)(s:Sh)(t:Ad)(m:Mem)(w:World)(h0:At3 q p b w w (EA s t) 256 m)(X:Fits s m)(hs:m.st<1000000000)(hd:0<=t.d/\t.d<s.c):
  Calls Tryz.prog 267 #[some q,some p] w fun e w'=>e= .returned (.tuple #[])/\At3 q p b w w' (EA s (t.asked s (m.get (uA s.p s.c s.m t.d)))) 256 (m.load t.c (uA s.p s.c s.m t.d)):=by
 obtain⟨U,T⟩:=X.status hd;have y:=fun Y=>lC s.p s.c s.m t.d Y;rw[U]at y ⊢;have D:=fun Y (hY:oA Y p b m)=>fF p b m t.c t.d Y hY T hs;have z:=fun Y=>rs2 (m.get t.d) Y (Mem.kF h0.wds.fit _);generalize m.get t.d=x at *;have n:=fun Y=>lC s.p s.c s.m (nD x) Y;have j:=fun e Y (hY:aA Y q (EA s {t with was:=x}) 256)=>yJ q s {t with was:=x} e Y hY;clear U T X hd;unfold Ad.asked;obtain⟨t2,i,G⟩:∃ t2:Ad,Hid (t2=if ND x=2 then {t with was:=x,next:=2} else if ND x≠3 then({t with was:=x}:Ad).fin 5 else if uA s.p s.c s.m (nD x)<0 then({t with was:=x}:Ad).fin 4 else {t with was:=x,who:=nD x,next:=1})/\t2=_:=⟨_,hd' rfl,rfl⟩;rw[<-G];clear G;generalize ND x=k at *;generalize nD x=A at *;generalize uA s.p s.c s.m A=Z at *;obtain⟨sp,sc,sm⟩:=s;obtain⟨tc,td,tn,tw,L,ta,ti,pk,pa,pb,E,o⟩:=t;dsimp only at y D n j i ⊢;replace y:=hd' y;replace D:=hd' D;replace z:=hd' z;replace n:=hd' n;replace j:=hd' j;have b1:k=2\/((k==2)=false/\(k==3)=false)\/(k=3/\Z<0)\/(k=3/\¬ Z<0):=by
  by_cases h1:k=2
  ·exact .inl h1
  by_cases h2:k=3
  ·by_cases h3:Z<0
   ·exact .inr (.inr (.inl ⟨h2,h3⟩))
   exact .inr (.inr (.inr ⟨h2,h3⟩))
  exact .inr (.inl ⟨by simpa using h1,by simpa using h2⟩)
 have R:=h0;clear h0;have lw:=R.lt;go_in;go_upto_region 0 with fail
 refine NK 18 (last:= { dst:=none,op:=Op.store 113 (Operand.tmp 23) (Operand.tmp 21),type:=0,pos:=_,after:=_,guard:=none}) (x:=JA 2) (ld:=15) (v:= .int .u64 x) (ts:= [7,11,20])
  (K0:=fun Y=>At3 q p b w Y (EA ⟨sp,sc,sm⟩ ⟨tc,td,tn,tw,L,ta,ti,pk,pa,pb,E,o⟩) 256 m) (K1:=fun Y=>At3 q p b w Y (EA ⟨sp,sc,sm⟩ ⟨tc,td,tn,tw,L,ta,ti,pk,pa,pb,E,o⟩) 256 (m.load tc td))
  (by kernel_rfl) rfl (by kernel_rfl) (by simp only[List.take,JA,DD,LC,nopO,nopC,Nat.reduceBEq,Bool.or_false,Bool.or_true,Bool.false_eq_true,↓reduceIte,Nat.reduceAdd];exact rfl) (by kernel_rfl) (by kernel_rfl) (by kernel_rfl) (by simp[JA]) (by simp[JA]) (by simp[JA]) (by simp[JA]) (by kernel_rfl) (by simp[JA]) (by simp[JA])
  ⟨⟨fun Y Y' h1 h2 h3=>h1.far h2 h3 R.only.size⟩,⟨fun Y Y' h1 h2 h3=>h1.far h2 h3 R.only.size⟩⟩ R.drew ?_
 apply Exists.intro;refine⟨fun B hb hs=>?_,fun h=>(by simp[JA]at h),fun Q0=>?_,?_⟩;case refine_1=>
  have V:aA B q (EA ⟨sp,sc,sm⟩ ⟨tc,td,tn,tw,L,ta,ti,pk,pa,pb,E,o⟩) 256:=hb.elim (fun h=>h.row) (fun h=>h.row);have lB:=V.lt;have b6:=V.cell;repeat (go_big_quiet_step (((go_at_call 29;exact xA (y _)))))
  exact wpQuiet_nil rfl
 case refine_2=>exact gF rfl (fun _ _=>by simp[go_sem]) fun Y H hs=>(D Y H.wds).mono fun r Y' ⟨h1,h2,h3⟩=>⟨h1,H.load h2 h3,h3.weak fun k hk=>hk ▸ Nat.lt_of_lt_of_le H.ls.2.1 R.only.size⟩
 case refine_3=>
  intro a w4 M X;obtain⟨rfl,b4,F,_⟩:=X;have b0:=F.cell;have zf:=F.free;have N:=F.set 6 (.int .u64 x);simp only[JA,vput,List.take,List.size_toArray,List.length_cons,List.length_nil,Nat.reduceAdd,Nat.reduceLT,decide_false,Bool.false_eq_true,if_false];clear F R D y;go_upto_region 1 with fail;generalize World.setCell _ ⟨q,6,.none⟩ (.int .u64 x)=Y at *;clear b0 zf;have lY:=N.lt;have b7:=N.cell;rcases b1 with rfl|⟨b2,b3⟩|⟨rfl,J⟩|⟨rfl,J⟩
  ·replace i:=hd' (i.out.trans (jP rfl));clear j n;go_wp2_with (first|(go_at_call 54;refine(z _).mono ?_;rintro r w1 ⟨rfl,l⟩;have C:=N.below l;have b8:=C.cell;have zf:=C.free));go_returns;exact⟨rfl,by rw[i];exact C.set 5 _⟩
  ·replace i:=hd' ((i.out.trans (jN (by simpa using b2))).trans (jP (by simpa using b3)));clear n;go_wp2_with (first|(go_at_call 54;refine(z _).mono ?_;rintro r w1 ⟨rfl,l⟩;have C:=N.below l)|(go_at_call 134;(with_reducible refine(j _ _ C.row).mono ?_);rintro r w3 S;obtain rfl:=S.ret));go_returns;exact⟨rfl,by rw[i];exact C.turned S⟩
  ·replace i:=hd' (((i.out.trans (jN (by decide))).trans (jN (by decide))).trans (jP J));go_wp2_with (first|(go_at_call 54;refine(z _).mono ?_;rintro r w1 ⟨rfl,l⟩;have C:=N.below l;have b9:=C.cell)|(go_at_call 29;refine(n _).mono ?_;rintro r w2 ⟨rfl,I⟩;have O:=C.below I)|(go_at_call 134;(with_reducible refine(j _ _ O.row).mono ?_);rintro r w3 S;obtain rfl:=S.ret));go_returns;exact⟨rfl,by rw[i];exact O.turned S⟩
  replace i:=hd' (((i.out.trans (jN (by decide))).trans (jN (by decide))).trans (jN J));clear j;have b5:0<=Z:=by omega
  go_wp2_with (first|(go_at_call 54;refine(z _).mono ?_;rintro r w1 ⟨rfl,l⟩;have C:=N.below l;have ba:=C.cell)|(go_at_call 29;refine(n _).mono ?_;rintro r w2 ⟨rfl,I⟩;have O:=C.below I;have bb:=O.cell;have zf:=O.free));go_returns;exact⟨rfl,by rw[i];exact(O.set 7 _).set 5 _⟩
theorem FL(s:Sh)(t:Ad)(m:Mem)(h:t.done=false)(h0:t.next=0):GA s t m=(t.asked s (m.get (uA s.p s.c s.m t.d)),m.load t.c (uA s.p s.c s.m t.d)):=by
 unfold GA Ad.asked;simp[h,h0]
theorem cM(s:Sh)(t:Ad)(m:Mem)(h:t.done=false)(h0:t.next=1):GA s t m=(if ND (m.get (uA s.p s.c s.m t.who))=1 then({t with next:=2}:Ad).fin 4 else {t with next:=2},m.load t.c (uA s.p s.c s.m t.who)):=by
 unfold GA;simp[h,h0]
theorem UL(s:Sh)(t:Ad)(m:Mem)(h:t.done=false)(h0:t.next=2):GA s t m=(if m.get (uA s.p s.c s.m t.d)=t.was then {t with next:=3} else({t with next:=3}:Ad).fin 4,m.swap t.c (uA s.p s.c s.m t.d) t.was (YA 3 t.c)):=by
 unfold GA;simp[h,h0]
theorem zvq(q p b:Nat)(s:Sh)(t:Ad)(m:Mem)(w:World)(h0:At3 q p b w w (EA s t) 256 m)(S:Fits s m)(hs:m.st<1000000000)(y:t.done=false)(hn:0<=t.next/\t.next<=2)(hd:0<=t.d/\t.d<s.c)(hw:t.next=1->0<=t.who/\t.who<s.c):
  Calls Tryz.prog 264 #[some q,some p] w fun e w'=>e= .returned (.tuple #[])/\At3 q p b w w' (EA s (GA s t m).1) 256 (GA s t m).2:=by
 rcases(by omega:t.next=0\/t.next=1\/t.next=2) with b1|U|b2
 ·rw[FL s t m y b1];have E:=z3b q p b s t m w h0 S hs hd;obtain⟨G,i⟩:∃ G,G=t.asked s (m.get (uA s.p s.c s.m t.d)):=⟨_,rfl⟩;obtain⟨m2,b0⟩:∃ m2,m2=m.load t.c (uA s.p s.c s.m t.d):=⟨_,rfl⟩;rw[<-i,<- b0]at E;dsimp only;rw[<-i,<- b0];clear i b0 hd hw S hs hn;obtain⟨sp,sc,sm⟩:=s;obtain⟨O,X,tn,Z,z,ta,ti,pk,pa,pb,n,R⟩:=t;dsimp only at y b1;subst y b1;replace E:=hd' E;have b6:=h0.cell;clear h0;go_in;go_wp2_with (go_at_call 267;(with_reducible refine E.out.mono ?_);rintro r w1 ⟨rfl,T⟩);go_returns;exact⟨rfl,T⟩
 ·rw[cM s t m y U];obtain⟨L,I⟩:=S.status (hw U);have l:=fun Y=>lC s.p s.c s.m t.who Y;rw[L]at l ⊢;have H:=fun Y (hY:oA Y p b m)=>fF p b m t.c t.who Y hY I hs;have V:=fun Y=>rs2 (m.get t.who) Y (Mem.kF h0.wds.fit _);generalize m.get t.who=x at *;have j:=fun Y (hY:aA Y q (EA s {t with next:=2}) 256)=>yJ q s {t with next:=2} 4 Y hY;obtain⟨G,i,D⟩:∃ G:Ad,Hid (G=if ND x=1 then({t with next:=2}:Ad).fin 4 else {t with next:=2})/\G=_:=⟨_,hd' rfl,rfl⟩;dsimp only;rw[<-D];clear D L I S hd hw hn;generalize ND x=k at *;generalize nD x=A at *;obtain⟨sp,sc,sm⟩:=s;obtain⟨O,X,tn,Z,z,ta,ti,pk,pa,pb,n,R⟩:=t;dsimp only at l H j i y U;subst y U;replace l:=hd' l;replace H:=hd' H;replace V:=hd' V;replace j:=hd' j;have b7:=h0.cell;go_in;go_upto_region 7 with fail
  refine wrl (x:=JA 2) (ld:=14) (v:= .int .u64 x) (ts:= [48,52,61])
   (K0:=fun Y=>At3 q p b w Y (EA ⟨sp,sc,sm⟩ ⟨O,X,1,Z,z,ta,ti,pk,pa,pb,n,false⟩) 256 m) (K1:=fun Y=>At3 q p b w Y (EA ⟨sp,sc,sm⟩ ⟨O,X,1,Z,z,ta,ti,pk,pa,pb,n,false⟩) 256 (m.load O z))
   ⟨⟨fun Y Y' h1 h2 h3=>h1.far h2 h3 h0.only.size⟩,⟨fun Y Y' h1 h2 h3=>h1.far h2 h3 h0.only.size⟩⟩ h0.drew ?_
  apply Exists.intro;refine⟨fun B hb hs=>?_,fun h=>(by simp[JA]at h),?_,?_⟩;case refine_1=>
   have N:aA B q (EA ⟨sp,sc,sm⟩ ⟨O,X,1,Z,z,ta,ti,pk,pa,pb,n,false⟩) 256:=hb.elim (fun h=>h.row) (fun h=>h.row);have lB:=N.lt;have b8:=N.cell;repeat (go_big_quiet_step ((first|(go_at_call 29;exact xA (l _))|(go_at_call 54;exact xA (V _)))))
   exact wpQuiet_nil rfl
  case refine_2=>exact gF rfl (fun _ _=>by simp[go_sem]) fun Y C hs=>(H Y C.wds).mono fun r Y' ⟨h1,h2,h3⟩=>⟨h1,C.load h2 h3,h3.weak fun k hk=>hk ▸ Nat.lt_of_lt_of_le C.ls.2.1 h0.only.size⟩
  case refine_3=>
   intro a w4 M S;obtain⟨rfl,b4,T,_⟩:=S;simp only[JA,vput,List.size_toArray,List.length_cons,List.length_nil,Nat.reduceAdd,Nat.reduceLT,decide_false,Bool.false_eq_true,if_false];have b9:=T.cell;have zf:=T.free;have hB:=T.set 5 (.int .i64 2);clear h0 H l V;rcases(by by_cases h:k=1<;>simp[h]:k=1\/(k≠1/\(k==1)=false)) with rfl|⟨hk,hk2⟩
   ·replace i:=hd' (i.out.trans (jP rfl));go_wp2_with (go_at_call 134;(with_reducible refine(j _ hB.row).mono ?_);rintro r w3 hT;obtain rfl:=hT.ret);go_returns;exact⟨rfl,by rw[i];exact hB.turned hT⟩
   replace i:=hd' (i.out.trans (jN hk));clear j;go_wp2_with fail;go_returns;exact⟨rfl,by rw[i];exact hB⟩
 rw[UL s t m y b2];obtain⟨L,I⟩:=S.status hd;have l:=fun Y=>lC s.p s.c s.m t.d Y;rw[L]at l ⊢;have J:=fun Y=>tJ 3 t.c Y;have F:=fun Y (hY:oA Y p b m)=>HH p b m t.c t.d t.was (YA 3 t.c) Y hY I (BH _ _) hs;have j:=fun Y (hY:aA Y q (EA s {t with next:=3}) 256)=>yJ q s {t with next:=3} 4 Y hY;obtain⟨G,i,D⟩:∃ G:Ad,Hid (G=if m.get t.d=t.was then {t with next:=3} else({t with next:=3}:Ad).fin 4)/\G=_:=⟨_,hd' rfl,rfl⟩;dsimp only;rw[<-D];obtain⟨sb,b3⟩:∃ sb,sb=decide (m.get t.d=t.was):=⟨_,rfl⟩;rw[<-b3]at F;have o:(sb=true/\G= {t with next:=3})\/(sb=false/\G=({t with next:=3}:Ad).fin 4):=by rw[b3,i];by_cases h:m.get t.d=t.was<;>simp[h]
 clear D L I S hd hw hn i b3;obtain⟨sp,sc,sm⟩:=s;obtain⟨O,X,tn,Z,z,ta,ti,pk,pa,pb,n,R⟩:=t;dsimp only at l J F j o y b2 ⊢;subst y b2;replace l:=hd' l;replace J:=hd' J;replace F:=hd' F;replace j:=hd' j;replace o:=hd' o;have b5:=h0.cell;have zf:=h0.free;go_in;go_upto_region 2 with fail;have hX:=h0.set 5 (.int .i64 3);generalize World.setCell _ ⟨q,5,.none⟩ (.int .i64 3)=W at *;clear h0 b5 zf
 refine wrl (x:=JA 2) (ld:=23) (v:= .bool sb) (ts:= [13,17,26,30,35])
  (K0:=fun Y=>At3 q p b w Y (EA ⟨sp,sc,sm⟩ ⟨O,X,3,Z,z,ta,ti,pk,pa,pb,n,false⟩) 256 m) (K1:=fun Y=>At3 q p b w Y (EA ⟨sp,sc,sm⟩ ⟨O,X,3,Z,z,ta,ti,pk,pa,pb,n,false⟩) 256 (m.swap O X Z (YA 3 O)))
  ⟨⟨fun Y Y' h1 h2 h3=>h1.far h2 h3 hX.only.size⟩,⟨fun Y Y' h1 h2 h3=>h1.far h2 h3 hX.only.size⟩⟩ hX.drew ?_
 apply Exists.intro;refine⟨fun B hb hs=>?_,fun h=>(by simp[JA]at h),?_,?_⟩;case refine_1=>
  have N:aA B q (EA ⟨sp,sc,sm⟩ ⟨O,X,3,Z,z,ta,ti,pk,pa,pb,n,false⟩) 256:=hb.elim (fun h=>h.row) (fun h=>h.row);have lB:=N.lt;have ba:=N.cell;repeat (go_big_quiet_step ((first|(go_at_call 29;exact xA (l _))|(go_at_call 71;exact xA (J _)))))
  exact wpQuiet_nil rfl
 case refine_2=>exact gF rfl (fun _ _=>by simp[go_sem]) fun Y C hs=>(F Y C.wds).mono fun r Y' ⟨h1,h2,h3⟩=>⟨h1,C.access h2 h3,h3.weak fun k hk=>hk.elim (fun e=>e ▸ Nat.lt_of_lt_of_le C.ls.2.1 hX.only.size) (fun e=>e ▸ Nat.lt_of_lt_of_le C.ls.2.2 hX.only.size)⟩
 case refine_3=>
  intro a w4 M S;obtain⟨rfl,b4,T,_⟩:=S;simp only[JA,vput,List.size_toArray,List.length_cons,List.length_nil,Nat.reduceAdd,Nat.reduceLT,decide_false,Bool.false_eq_true,if_false];clear hX F l J;rcases o.out with⟨rfl,i⟩|⟨rfl,i⟩
  ·replace i:=hd' i;clear o j;go_wp2_with fail;go_returns;exact⟨rfl,by rw[i];exact T⟩
  replace i:=hd' i;clear o;go_wp2_with (go_at_call 134;(with_reducible refine(j _ T.row).mono ?_);rintro r w3 hT;obtain rfl:=hT.ret);go_returns;exact⟨rfl,by rw[i];exact T.turned hT⟩
end

end Go.Proofs.YtmmbicppdjgbmaaGreat
