/- Lemmas for the claim. -/
import Derived.Laws.CopyRow

import Derived.Lib.Overlaps

import Derived.Deep.Onto

import Derived.Test.YtkilokkopbajkaaGreatBw9

import Derived.Test.YtkilokkopbajkaaGreatBw10

set_option linter.all false
set_option maxHeartbeats 4000000
set_option maxRecDepth 100000
namespace Go.Proofs.YtkilokkopbajkaaGreat

section

variable {s:Sh} {σ σ':Ab} {c:Int}

def ZF (s:Sh):Mc->Own
 | .tk t=> xF t
 | .sc t=> sF s t
 | .pc t=> yF s t
 | .sp t=> uD t
 | .bn t=> xD t
def MI (c:Int) (σ:Ab):Mc->Prop
 | .tk t=> RG c σ t
 | .sc t=> t.c=c
 | .pc t=> t.c=c
 | .sp t=> BK c t
 | .bn t=> bI c σ t
def mO (s:Sh) (t:Sk):Mc->Prop
 | .sp x=> x.page=t.here s
 | .bn x=> x.page=t.page/\x.k=t.k
 | _=> True
theorem PX{x:Mc}(j:GI s σ)(m:mcOk s x)(hd:x.done=false)(i:uA σ c (Own.no.add (ZF s x)))(hi:MI c σ x):
  Goes s c σ (mcA s x σ) .no (ZF s) (MI c)/\Calm σ (mcA s x σ).2/\∀ t,mO s t x->mO s t (mcA s x σ).1:=by
 cases x with
 |tk t=>obtain⟨⟨a,b,d⟩,e⟩:=CY (t:=t) j m hd i hi;exact⟨⟨a,b,d⟩,e,fun _ _=>trivial⟩
 |sc t=>obtain⟨⟨a,b,d⟩,e⟩:=AY (t:=t) j m hd i hi;exact⟨⟨a,b,d⟩,e,fun _ _=>trivial⟩
 |pc t=>obtain⟨⟨a,b,d⟩,e⟩:=uY (t:=t) j m hd i hi;exact⟨⟨a,b,d⟩,e,fun _ _=>trivial⟩
 |sp t=>obtain⟨⟨a,b,d⟩,e,f⟩:=xT (t:=t) j m hd (fun _ _ h=>h) i hi;exact⟨⟨a,b,d⟩,e,fun _ h=>f.trans h⟩
 |bn t=>obtain⟨⟨a,b,d⟩,e,f,g⟩:=mY (t:=t) j m hd id (fun _ h=>h) (fun _ _ h=>h) i hi;exact⟨⟨a,b,d⟩,e,fun _ h=>⟨f.trans h.1,g.trans h.2⟩⟩
theorem MI.same{x:Mc}(b:uA σ c (Own.no.add (ZF s x)))(h:MI c σ x)(hs:Same c σ σ'):MI c σ' x:=by
 cases x with
 |tk t=>exact RG.same h hs
 |sc t=>exact h
 |pc t=>exact h
 |sp t=>exact h;|bn t=>
  refine bI.same h (fun hb=>?_) hs;have f:xD t= .page t.page:=by unfold xD;rw[hb];rfl
  have b:uA σ c (Own.no.add (xD t)):=b;rw[f]at b;exact(b.h t.page).2 (.inr rfl)
def gC (s:Sh) (t:Sk):Own:=if t.found=true then .way t.page t.slot t.k else match t.now with
 | some x=> ZF s x
 | none=> .no
structure XD (s:Sh) (c:Int) (σ:Ab) (t:Sk):Prop where
 cl:t.c=c
 dn:t.done=true->t.found=false->t.now=none
 now:t.found=false->∀ x,t.now=some x->MI c σ x/\mO s t x
theorem gH{t:Sk}{x:Mc}(b:t.found=false)(f:t.now=some x):gC s t=ZF s x:=by unfold gC;rw[b,f];rfl
theorem uJ{t:Sk}(b:t.found=false)(f:t.now=none):gC s t= .no:=by unfold gC;rw[b,f];rfl
theorem XD.same{t:Sk}(i:uA σ c (Own.no.add (gC s t)))(h:XD s c σ t)(hs:Same c σ σ'):XD s c σ' t:=by
 refine⟨h.cl,h.dn,fun b x f=>⟨?_,(h.now b x f).2⟩⟩;rw[gH b f]at i;exact(h.now b x f).1.same i hs
theorem zy0{s:Sh}{c p k:Int}(hs:mayB s.p s.c s.m=true)(hc:0<=c/\c<s.c)(f:0<=p/\p<s.p)(b:0<mA k):(xC s c p k).done=false:=by
 have hb:=LA.1 hs;have h1:zA s.p s.c s.m c=c:=by unfold zA;rw[jP ⟨hs,IA.2 (by omega)⟩]
 have h2:pA s.p s.c s.m p=s.c+p:=by unfold pA;rw[jP ⟨hs,IA.2 (by omega)⟩]
 simp only[xC,h1,h2];simp;omega
theorem Own.z2j(p k:Int):(Own.ways p 0 k).Eqv .no:=by
 exact⟨fun _=>.rfl,fun _ _=>.rfl,fun q i b=>⟨fun h=>by have h1:=h.2.1;omega,fun h=>h.elim⟩⟩
theorem Own.z8j(p k:Int):(Own.ways p 1 k).Eqv (Own.way p 0 k):=by
 refine⟨fun _=>.rfl,fun _ _=>.rfl,fun q i b=>?_⟩;simp only[Own.ways,Own.way];omega
theorem jL{t:Sp}(b:t.held=false)(h0:t.i=0):(uD t).Eqv .no:=by
 unfold uD;rw[b,h0];exact Own.z2j _ _
theorem zu3{t:Sk}{x:Mc}(hs:mayB s.p s.c s.m=true)(J:skOk s t)(hd:t.done=false)(H:t.now=some x)(F:x.done=true)(f:uA σ c (Own.no.add (gC s t)))(hi:XD s c σ t):
  uA σ c (Own.no.add (gC s (t.after s x)))/\XD s c σ (t.after s x):=by
 have C:t.found=false:=ND J.fd hd;obtain⟨c1,c2,c3,c4,c5⟩:=J.cl hd;obtain⟨m1,m2⟩:=c5 x H;obtain⟨L,M⟩:=hi.now C x H;rw[gH C H]at f;have hc:=hi.cl;have hb:=LA.1 hs;have G:∀ y:Option Mc,(t.done=true->t.found=false->y=none):=fun y e=>by rw[hd]at e;cases e
 have n:∀ p:Int,(0<=p/\p<s.p)->uA σ c (Own.no.add (.page p))->uA σ c (Own.no.add (gC s (t.bind s p)))/\XD s c σ (t.bind s p):=fun p R f=>by
  refine⟨?_,⟨hc,G _,fun _ y I=>?_⟩⟩
  ·rw[gH (t:=t.bind s p) (x:= .bn (xC s t.c p t.k)) C rfl];exact f
  injection I with I;subst I;refine⟨⟨hc,fun _ j h0 h1=>?_,fun e=>?_⟩,⟨rfl,rfl⟩⟩
  ·simp only[xC]at h1;omega
  rw[zy0 hs c1 R c2]at e;cases e
 cases x with
 |tk y=>
  simp only[Sk.after];have D:y.k=t.k:=m2;split
  ·rename_i b;have h1:=(m1.en (m1.fd b).1).2.2;refine⟨?_,⟨hc,fun _ e=>(by cases e),fun e=>(by cases e)⟩⟩;have:gC s (t.fin y.ep y.es)=xF y:=by unfold gC xF;rw[jP b,h1,D];rfl
   rw[this];exact f
  rename_i b;have r:ZF s (.tk y)= .no:=by show xF y=_;unfold xF;rw[jN b]
  rw[r]at f;refine⟨?_,⟨hc,G _,fun _ z o=>?_⟩⟩
  ·rw[gH (t:= {t with now:=some (.sc (WD s t.c t.k t.first))}) (x:= .sc (WD s t.c t.k t.first)) C rfl];exact f
  injection o with o;subst o;exact⟨hc,trivial⟩
 |sc y=>
  simp only[Sk.after];have D:y.k=t.k:=m2;split
  ·rename_i b;refine⟨?_,⟨hc,fun _ e=>(by cases e),fun e=>(by cases e)⟩⟩;have:gC s (t.fin (y.page s) y.i)=sF s y:=by unfold gC sF;rw[jP b,D];rfl
   rw[this];exact f
  rename_i b;have r:ZF s (.sc y)= .no:=by show sF s y=_;unfold sF;rw[jN b]
  rw[r]at f;refine⟨?_,⟨hc,G _,fun _ z o=>?_⟩⟩
  ·rw[gH (t:= {t with now:=some (.pc (BF s t.c t.first))}) (x:= .pc (BF s t.c t.first)) C rfl];exact f
  injection o with o;subst o;exact⟨hc,trivial⟩
 |pc y=>
  simp only[Sk.after];split
  ·rename_i b;have r:ZF s (.pc y)= .page (y.page s):=by show yF s y=_;unfold yF;rw[jP b]
   rw[r]at f;exact n _ (EI (by omega)) f
  rename_i b;have r:ZF s (.pc y)= .no:=by show yF s y=_;unfold yF;rw[jN b]
  rw[r]at f;refine⟨?_,⟨hc,fun _ _=>rfl,fun _ z o=>by cases o⟩⟩;rw[uJ (t:= {t with now:=none}) C rfl];exact f
 |sp y=>
  simp only[Sk.after];have q:y.page=t.here s:=M;split
  ·rename_i b;have r:ZF s (.sp y)= .page y.page:=by show uD y=_;unfold uD;rw[jP b]
   rw[r,q]at f;exact n _ (EI (by omega)) f
  rename_i b;have h0:=L.2 F (by simpa using b);refine⟨?_,⟨hc,fun _ _=>rfl,fun _ z o=>by cases o⟩⟩;rw[uJ (t:=t.turn s) C rfl];exact f.eqv (.add _ (jL (by simpa using b) h0))
 |bn y=>
  simp only[Sk.after];have q:y.page=t.page/\y.k=t.k:=M;have h0:=L.2.2 F;refine⟨?_,⟨hc,fun _ e=>(by cases e),fun e=>(by cases e)⟩⟩;have N:gC s (t.fin t.page 0)= .way t.page 0 t.k:=rfl;have O:ZF s (.bn y)= .ways t.page 1 t.k:=by show xD y=_;unfold xD;rw[jP h0.1,h0.2,q.1,q.2];rfl
  rw[O]at f;rw[N];exact f.eqv (.add _ (Own.z8j _ _))
theorem sU(hs:mayB s.p s.c s.m=true)(n:Nat):∀ {t:Sk},skOk s t->uA σ c (Own.no.add (gC s t))->XD s c σ t->uA σ c (Own.no.add (gC s (mB s n t)))/\XD s c σ (mB s n t):=by
 induction n with
 |zero=>intro t _ b hi;exact⟨b,hi⟩;|succ n j=>
  intro t f b hi;unfold mB;split
  ·rename_i x i;split
   ·rename_i hc;have h1:=zu3 hs f hc.1 i hc.2 b hi;exact j (kL f hc.1 i hc.2 (LA.1 hs).1) h1.1 h1.2
   exact⟨b,hi⟩
  exact⟨b,hi⟩
theorem QX{m:Mem}{t:Sk}(H:Rep s m σ)(p:GI s σ)(F:skOk s t)(o:eI t)(hd:t.done=false)(n:uA σ c (Own.no.add (gC s t)))(hi:XD s c σ t):
  Goes s c σ (skA s t σ) .no (gC s) (XD s c)/\Calm σ (skA s t σ).2:=by
 have hs:=H.may;have i:t.found=false:=ND F.fd hd;obtain⟨c1,c2,c3,c4,c5⟩:=F.cl hd;unfold skA;rw[jN (by rw[hd];decide)];cases hx:t.now with
 |some x=>
  have C:x.done=false:=by
   rcases o with e|e|⟨y,e,I⟩
   ·rw[hd]at e;cases e
   ·rw[hx]at e;cases e
   rw[hx]at e;injection e with e;subst e;exact I
  obtain⟨S,U⟩:=hi.now i x hx;rw[gH i hx]at n;obtain⟨⟨J,L,M⟩,N,O⟩:=PX p (c5 x hx).1 C n S;have q:skOk s {t with now:=some (mcA s x σ).1}:=by refine⟨fun _=>⟨c1,c2,c3,c4,fun z D=>?_⟩,fun e=>(by have e:t.found=true:=e;rw[i]at e;cases e)⟩;injection D with D;subst D;rw[<-(MT H p (c5 x hx).1).1];exact⟨AL m (c5 x hx).1,dL (t:=t) m (c5 x hx).2⟩
  have R:uA (mcA s x σ).2 c (Own.no.add (gC s {t with now:=some (mcA s x σ).1})):=by rw[gH (t:= {t with now:=some (mcA s x σ).1}) (x:=(mcA s x σ).1) i rfl];exact L
  have r:XD s c (mcA s x σ).2 {t with now:=some (mcA s x σ).1}:=⟨hi.cl,fun e=>(by have e:t.done=true:=e;rw[hd]at e;cases e),fun _ y f=>by
   injection f with f;subst f
   refine⟨M,?_⟩
   have:=O t U
   cases hm:(mcA s x σ).1<;>rw[hm]at this<;>exact this⟩
  have h1:=sU hs 5 q R r;exact⟨⟨J,h1.1,h1.2⟩,N⟩
 |none=>
  rw[uJ i hx]at n
  have G:∀ t':Sk,gC s t'= .no\/(gC s t').Eqv .no->XD s c σ t'->Goes s c σ (t',σ) .no (gC s) (XD s c)/\Calm σ σ:=fun t' h1 h2=>by
   refine⟨⟨Kept.refl p,?_,h2⟩,Calm.refl _⟩
   rcases h1 with h1|h1
   ·rw[h1];exact n
   ·exact n.eqv (.add _ h1.symm)
  have j:Goes s c σ (t.turn s,σ) .no (gC s) (XD s c)/\Calm σ σ:=G _ (.inl (uJ (t:=t.turn s) i rfl)) ⟨hi.cl,fun _ _=>rfl,fun _ y f=>by cases f⟩
  dsimp only
  cases hp:σ.pg (t.here s) with
  |super k b=>
   refine G _ (.inr ?_) ⟨hi.cl,fun e=>(by have e:t.done=true:=e;rw[hd]at e;cases e),fun _ y f=>?_⟩
   ·rw[gH (t:= {t with now:=some (.sp (pC s t.c (t.here s) k))}) (x:= .sp (pC s t.c (t.here s) k)) i rfl]
    exact jL rfl rfl
   ·injection f with f;subst f
    exact⟨⟨hi.cl,fun _ _=>rfl⟩,rfl⟩
  |_=>exact j
end

section

variable {s:Sh} {σ σ':Ab} {c:Int}

def Own.run (h lo hi:Int):Own:=((Own.page h).add (.bodies h (h + 1) lo)).add (.pages lo hi)
inductive RnPh
 | found
 | dead
 | strip (x:Sp)
 | clear
 | undo
 | write
 | look
def Rn.ph (t:Rn):RnPh:=
 if t.found=true then .found else if t.done=true then .dead else if t.next=2 then (match t.strip with | some x=> .strip x | none=> .look)
 else if t.next=3 then .clear else if t.next=4 then .undo else if t.next=5 then .write else .look
def PC (t:Rn):Own:=match t.ph with
 | .found=> .run t.head (t.head + t.pages) (t.head + t.pages)
 | .dead=> .no
 | .strip x=> (Own.pages t.head t.at').add (uD x)
 | .clear=> .pages t.head (t.at' + 1)
 | .undo=> .pages t.head t.i
 | .write=> .run t.head t.i (t.head + t.pages)
 | .look=> .pages t.head t.at'
def HC (σ:Ab) (lo hi:Int):Prop:=∀ p i,lo<=p->p < hi->σ.sl p i= .none
def YJ (c:Int) (σ:Ab) (t:Rn):Prop:=t.c=c/\match t.ph with
 | .found=> HC σ t.head (t.head + 1)
 | .dead=> True
 | .strip x=> HC σ t.head t.at'/\x.page=t.at'/\BK c x
 | .clear=> t.head<=t.at'/\HC σ t.head t.at'/\∀ j,0<=j->j < t.i->σ.sl t.at' j= .none
 | .undo=> HC σ t.head t.i
 | .write=> HC σ t.head (t.head + 1)/\HC σ t.i (t.head + t.pages)
 | .look=> HC σ t.head t.at'
theorem Own.GO{lo hi:Int}(h:hi<=lo):(Own.pages lo hi).Eqv .no:=by
 exact⟨fun p=>⟨fun h=>by have h1:=h.1;have h2:=h.2;omega,fun h=>h.elim⟩,fun _ _=>.rfl,fun _ _ _=>.rfl⟩
theorem Own.VO{lo hi:Int}(h:lo<=hi):((Own.pages lo hi).add (.page hi)).Eqv (.pages lo (hi+1)):=by
 refine⟨fun p=>?_,fun _ _=>or_iff_left id,fun _ _ _=>or_iff_left id⟩;simp only[Own.add,Own.page,Own.pages];omega
theorem Own.z2n{h hi:Int}(b:h<hi):(Own.pages h hi).Eqv (.run h (h+1) hi):=by
 refine⟨fun p=>?_,fun p g=>?_,fun _ _ _=>?_⟩<;>simp only[Own.run,Own.add,Own.page,Own.bodies,Own.pages,or_false,false_or,iff_false,false_iff]<;>(try omega)
theorem HC.same{lo hi:Int}(h:HC σ lo hi)(b:∀ p,lo<=p->p<hi->σ.pg p= .held c)(hs:Same c σ σ'):HC σ' lo hi:=fun p i h0 h1=>(hs.hs p i (b p h0 h1)).trans (h p i h0 h1)
theorem YJ.same{t:Rn}(b:uA σ c (PC t))(h:YJ c σ t)(hs:Same c σ σ'):YJ c σ' t:=by
 obtain⟨h1,h2⟩:=h;refine⟨h1,?_⟩;unfold PC at b;cases hp:t.ph with
 |found=>rw[hp]at b h2;exact h2.same (fun p h0 h1=>(b.h p).2 (.inl (.inl (show p=t.head by omega)))) hs
 |dead=>trivial;|strip x=>rw[hp]at b h2;exact⟨h2.1.same (fun p h0 h1=>(b.h p).2 (.inl ⟨h0,h1⟩)) hs,h2.2⟩
 |clear=>rw[hp]at b h2;exact⟨h2.1,h2.2.1.same (fun p h0 h1=>(b.h p).2 ⟨h0,by omega⟩) hs,fun j h0 h1=>(hs.hs _ _ ((b.h _).2 ⟨h2.1,by omega⟩)).trans (h2.2.2 j h0 h1)⟩
 |undo=>rw[hp]at b h2;exact h2.same (fun p h0 h1=>(b.h p).2 ⟨h0,h1⟩) hs
 |write=>rw[hp]at b h2;exact⟨h2.1.same (fun p h0 h1=>(b.h p).2 (.inl (.inl (show p=t.head by omega)))) hs,h2.2.same (fun p h0 h1=>(b.h p).2 (.inr ⟨h0,h1⟩)) hs⟩
 |look=>rw[hp]at b h2;exact h2.same (fun p h0 h1=>(b.h p).2 ⟨h0,h1⟩) hs
def RnIn (c:Int) (σ:Ab) (t:Rn):Prop:=uA σ c (PC t)/\YJ c σ t
theorem tL{t:Rn}(b:t.ph= .look)(hc:t.c=c)(f:uA σ c (.pages t.head t.at'))(hb:HC σ t.head t.at'):RnIn c σ t:=by
 refine⟨?_,hc,?_⟩
 ·unfold PC;rw[b];exact f
 rw[b];exact hb
theorem rU{t:Rn}(j:t.found=false)(hd:t.done=false)(m:t.next=5)(hc:t.c=c)(f:uA σ c (.run t.head (t.i+1) (t.head+t.pages)))(h1:HC σ t.head (t.head+1))(h2:HC σ (t.i+1) (t.head+t.pages)):RnIn c σ t.written:=by
 unfold Rn.written;split
 ·rename_i e;have b:({t with i:=t.i+1,found:=true,done:=true}:Rn).ph= .found:=by unfold Rn.ph;rw[jP rfl]
  refine⟨?_,hc,?_⟩
  ·unfold PC;rw[b];dsimp only;rw[e]at f;exact f
  rw[b];exact h1
 have b:({t with i:=t.i+1}:Rn).ph= .write:=by unfold Rn.ph;dsimp only;rw[j,hd,m];rfl
 refine⟨?_,hc,?_⟩
 ·unfold PC;rw[b];exact f
 rw[b];exact⟨h1,h2⟩
theorem cX{t:Rn}(f:t.found=false)(hd:t.done=false)(hc:t.c=c)(m:1<=t.pages)(j:t.head<=t.at')(b:uA σ c (.pages t.head (t.at'+1)))(hb:HC σ t.head (t.at'+1)):RnIn c σ t.own:=by
 unfold Rn.own;split
 ·rename_i e;refine rU f hd rfl hc ?_ (fun p i h0 h1=>hb p i h0 (by dsimp only at h1;omega)) (fun p i h0 h1=>hb p i (by dsimp only at h0;omega) (by dsimp only at h1;omega));dsimp only;rw[e]at b;exact b.eqv (Own.z2n (by omega))
 refine tL ?_ hc b hb;unfold Rn.ph;dsimp only;rw[f,hd];rfl
theorem EW{t:Rn}(f:t.found=false)(hd:t.done=false)(o:t.next=4)(hc:t.c=c)(j:uA σ c (.pages t.head t.i))(hb:HC σ t.head t.i):RnIn c σ (t.gone s):=by
 unfold Rn.gone;split
 ·have m:t.ph= .undo:=by unfold Rn.ph;rw[f,hd,o];rfl
  refine⟨?_,hc,?_⟩
  ·unfold PC;rw[m];exact j
  rw[m];exact hb
 rename_i n;have b:uA σ c .no:=j.eqv (Own.GO (by omega));rcases jB (decide (s.p-t.pages<t.at'+1)) with e|e
 ·rw[e];refine⟨?_,hc,?_⟩
  ·unfold PC Rn.ph;dsimp only;rw[f];exact b
  unfold Rn.ph;dsimp only;rw[f];trivial
 rw[e];refine tL ?_ hc (b.eqv (Own.GO (by dsimp only;omega)).symm) (fun p i h0 h1=>by dsimp only at h0 h1;omega);unfold Rn.ph;dsimp only;rw[f];rfl
theorem iP{t:Rn}(f:t.found=false)(hd:t.done=false)(hc:t.c=c)(b:uA σ c (.pages t.head t.at'))(hb:HC σ t.head t.at'):RnIn c σ (t.miss s):=
 EW (t:= {t with next:=4,i:=t.at'}) f hd rfl hc b hb
structure IT (s:Sh) (c:Int) (σ:Ab) (r:Rn × Ab):Prop where
 kept:Kept s c σ r.2
 at':RnIn c r.2 r.1
 calm:Calm σ r.2
theorem eZ{t:Rn}(hs:mayB s.p s.c s.m=true)(J:GI s σ)(hk:rnOk s t)(hd:t.done=false)(h:RnIn c σ t):IT s c σ (rnA s t σ):=by
 have y:t.found=false:=ND (fun e=>⟨(hk.fd e).1,trivial⟩) hd;obtain⟨c1,c2,c3,c4,c5,c6,c7,c8,c9,X⟩:=hk.cl hd;obtain⟨r,hc,hi⟩:=h;rw[hc]at c1;unfold rnA;rw[jN (by rw[hd];decide)];have quiet:∀ t',RnIn c σ t'->IT s c σ (t',σ):=fun t' h=>⟨Kept.refl J,h,Calm.refl _⟩;by_cases h0:t.next=0
 ·rw[jP h0];have H:t.ph= .look:=by unfold Rn.ph;rw[y,hd,h0];rfl
  unfold PC at r;rw[H]at r hi;have L:RnIn c σ (t.miss s):=iP y hd hc r hi;cases I:σ.pg t.at' with
  |empty=>refine quiet _ (tL ?_ hc r hi);unfold Rn.ph;dsimp only;rw[y,hd];rfl
  |super k b=>
   refine quiet _ ⟨?_,hc,?_⟩
   ·have:({t with next:=2,strip:=some (pC s t.c t.at' k)}:Rn).ph= .strip (pC s t.c t.at' k):=by unfold Rn.ph;dsimp only;rw[y,hd];rfl
    unfold PC;rw[this];exact(r.eqv (Own.Eqv.bD _).symm).eqv (.add _ (jL rfl rfl).symm)
   have:({t with next:=2,strip:=some (pC s t.c t.at' k)}:Rn).ph= .strip (pC s t.c t.at' k):=by unfold Rn.ph;dsimp only;rw[y,hd];rfl
   rw[this];exact⟨hi,rfl,hc,fun _ _=>rfl⟩
  |_=>exact quiet _ L
 rw[jN h0];by_cases h1:t.next=1
 ·rw[jP h1];have H:t.ph= .look:=by unfold Rn.ph;rw[y,hd,h1];rfl
  unfold PC at r;rw[H]at r hi;have hr:=c6 (by omega);by_cases I:σ.pg t.at'= .empty
  ·rw[jP I,hc];have o:=HJ J (.inl I);refine⟨aU J I (by omega) c1,cX y hd hc c2.1 c4.1 ((ZT J r I).eqv (Own.VO c4.1)) (fun p i a b=>?_),nG (fun n e=>by cases e) (fun n e=>by rw[I]at e;cases e)⟩;show σ.sl p i= .none;by_cases e:p=t.at'
   ·rw[e];exact o i
   exact hi p i a (by omega)
  rw[jN I];exact quiet _ (iP y hd hc r hi)
 rw[jN h1];by_cases h2:t.next=2
 ·rw[jP h2];obtain⟨x,I,b5,b3⟩:=c7 h2;have hr:=c6 (by omega);have H:t.ph= .strip x:=by unfold Rn.ph;rw[y,hd,h2,I];rfl
  unfold PC at r;rw[H]at r hi;obtain⟨hb,U,b4⟩:=hi;rw[I];dsimp only;obtain⟨⟨Z,V,g3⟩,g4,g5⟩:=xT J b5 b3 (R:=Own.pages t.head t.at') (fun _ _ e=>e) r b4;have D:HC (spA s x σ).2 t.head t.at':=fun p i a b=>by
   have b7:σ.pg p= .held c:=(r.h p).2 (.inl ⟨a,b⟩);have S:p≠x.page:=by omega
   rw[<-hb p i a b];have b8:∀ q u,q≠p->(σ.page q u).sl p i=σ.sl p i:=fun q u _=>rfl;unfold spA;split
   ·rfl
   split
   ·exact OD _ _ (fun e=>S e.1)
   split
   ·rfl
   split
   ·exact OD _ _ (fun e=>S e.1)
   rfl
  rcases jB (spA s x σ).1.held with e|e
  ·rw[jP e];have C:({t with strip:=some (spA s x σ).1,next:=3,i:=0}:Rn).ph= .clear:=by unfold Rn.ph;dsimp only;rw[y,hd];rfl
   refine⟨Z,⟨?_,hc,?_⟩,g4⟩
   ·unfold PC;rw[C];have:uD (spA s x σ).1= .page t.at':=by unfold uD;rw[jP e,g5,U]
    rw[this]at V;exact V.eqv (Own.VO c4.1)
   rw[C];exact⟨c4.1,D,fun j a b=>by dsimp only at b;omega⟩
  rw[jN (by rw[e];decide)];rcases jB (spA s x σ).1.done with F|F
  ·rw[jP F];have b0:=g3.2 F e;exact⟨Z,iP (t:= {t with strip:=some (spA s x σ).1}) y hd hc ((V.eqv (.add _ (jL e b0))).eqv (.bD _)) D,g4⟩
  rw[jN (by rw[F];decide)];have C:({t with strip:=some (spA s x σ).1}:Rn).ph= .strip (spA s x σ).1:=by unfold Rn.ph;dsimp only;rw[y,hd,h2];rfl
  refine⟨Z,⟨?_,hc,?_⟩,g4⟩
  ·unfold PC;rw[C];exact V
  rw[C];exact⟨D,g5.trans U,g3⟩
 rw[jN h2];by_cases h3:t.next=3
 ·rw[jP h3];have hr:=c6 (by omega);have h8:=c8 h3;have H:t.ph= .clear:=by unfold Rn.ph;rw[y,hd,h3];rfl
  unfold PC at r;rw[H]at r hi;have f:σ.pg t.at'= .held c:=(r.h _).2 ⟨c4.1,by omega⟩;have O:=DO J f (i:=t.i) (u:= .none) (.inl rfl);have M:=fU (i:=t.i) (u:= .none) r f;have b1:Calm σ (σ.slot t.at' t.i .none):=iG (fun n e=>by cases e) (fun n e=>by rcases qI J f t.i with F|F;(rw[F]at e;cases e);(rw[F.1]at e;cases e));have D:HC (σ.slot t.at' t.i .none) t.head t.at':=fun p i a b=>by rw[OD _ _ (fun e=>by omega)];exact hi.2.1 p i a b
  have hj:∀ j,0<=j->j<t.i+1->(σ.slot t.at' t.i .none).sl t.at' j= .none:=fun j a b=>by
   by_cases e:j=t.i
   ·subst e;exact dF _ _ _ _
   rw[OD _ _ (fun F=>e F.2)];exact hi.2.2 j a (by omega)
  refine⟨O,?_,b1⟩;by_cases e:t.i+1=16
  ·rw[jP e];refine cX (t:= {t with i:=t.i+1}) y hd hc c2.1 c4.1 M (fun p i a b=>?_);dsimp only at b;by_cases ep:p=t.at'
   ·subst ep;by_cases N:0<=i/\i<16
    ·exact hj i N.1 (by omega)
    have:(σ.slot t.at' t.i .none).pg t.at'= .held c:=f;rcases qI O.1 this i with Y|Y
    ·exact Y
    exact absurd Y.2 N
   exact D p i a (by omega)
  rw[jN e];have C:({t with i:=t.i+1}:Rn).ph= .clear:=by unfold Rn.ph;dsimp only;rw[y,hd,h3];rfl
  refine⟨?_,hc,?_⟩
  ·unfold PC;rw[C];exact M
  rw[C];exact⟨c4.1,D,hj⟩
 rw[jN h3];by_cases h4:t.next=4
 ·rw[jP h4];have h9:=c9 h4;have H:t.ph= .undo:=by unfold Rn.ph;rw[y,hd,h4];rfl
  unfold PC at r;rw[H]at r hi
  have z:uA σ c ((Own.pages t.head (t.i-1)).add (.page (t.i-1))):=r.eqv (by
   have:=Own.VO (lo:=t.head) (hi:=t.i-1) (by omega)
   rw[show t.i-1+1=t.i by omega]at this
   exact this.symm)
  have f:σ.pg (t.i-1)= .held c:=(z.h _).2 (.inr rfl);have G:∀ q,σ.pg q≠ .body (t.i-1):=fun q e=>by rcases(z.b q _).1 ⟨e,f⟩ with e|e<;>exact e
  have o:∀ i,σ.sl (t.i-1) i= .none:=fun i=>hi _ i (by omega) (by omega);refine⟨BO J f o G,EW (t:= {t with i:=t.i-1}) y hd h4 hc (bU z (fun e=>by have F:t.i-1<t.i-1:=e.2;omega) G) (fun p i a b=>hi p i a (by have b:p<t.i-1:=b;omega)),nG (fun n e=>by cases e) (fun n e=>by rw[f]at e;cases e)⟩
 rw[jN h4];have h5:t.next=5:=by omega
 have b6:=X h5;have H:t.ph= .write:=by unfold Rn.ph;rw[y,hd,h5];rfl
 unfold PC at r;rw[H]at r hi
 have z:uA σ c ((((Own.page t.head).add (.bodies t.head (t.head+1) t.i)).add (.pages (t.i+1) (t.head+t.pages))).add (.page t.i)):=r.eqv (by
  refine⟨fun p=>?_,fun p g=>?_,fun _ _ _=>?_⟩<;>simp only[Own.run,Own.add,Own.page,Own.bodies,Own.pages,or_false,false_or,iff_false,false_iff]<;>(try omega))
 have f:σ.pg t.i= .held c:=(z.h _).2 (.inr rfl);have b2:σ.pg t.head= .held c:=(z.h _).2 (.inl (.inl (.inl rfl)));have G:∀ q,σ.pg q≠ .body t.i:=fun q e=>by
  rcases(z.b q _).1 ⟨e,f⟩ with((e|e)|e)|e
  ·exact e
  ·have:=e.1;omega
  ·exact e
  exact e
 have o:∀ i,σ.sl t.i i= .none:=fun i=>hi.2 _ i (by omega) (by omega);refine⟨zqm J f o G b2 (by omega),rU y hd h5 hc ?_ hi.1 (fun p i a b=>hi.2 p i (by omega) b),nG (fun n e=>by cases e) (fun n e=>by rw[f]at e;cases e)⟩;refine(zn5 z ?_ G (.inl (.inl rfl)) (by omega)).eqv ?_
 ·intro e;simp only[Own.add,Own.page,Own.bodies,Own.pages,or_false,false_or]at e;omega
 refine⟨fun p=>?_,fun p g=>?_,fun _ _ _=>?_⟩<;>simp only[Own.run,Own.add,Own.page,Own.bodies,Own.pages,or_false,false_or,iff_false,false_iff]<;>(try omega)
end

section

open Go.RowKit

def Bk.cells (b:Bk):List Value:= [.int .i64 b.a,.int .i64 b.n]
def SA (l:List Bk):List Value:=l.flatMap Bk.cells
theorem kK(l k:List Bk):SA (l++k)=SA l++SA k:=by simp[SA]
theorem gK(l:List Bk)(i j:Nat)(hi:i<l.length)(n:j<2):(SA l)[i*2+j]?=(l[i].cells)[j]?:=by
 induction l generalizing i with
 |nil=>simp at hi
 |cons b l m=>
  show (b.cells++SA l)[i*2+j]?=_
  have f:b.cells.length=2:=rfl
  cases i with
  |zero=>rw[List.getElem?_append_left (by omega)];simp
  |succ i=>
   rw[List.getElem?_append_right (by omega),f,show (i+1)*2+j-2=i*2+j from by omega]
   simpa using m i (by simpa using hi)
def RdK (w:World) (v:Value) (l:List Bk):Prop:=RdS w 2 v l.length (SA l)
theorem RdK.nth{w:World}{v:Value}{l:List Bk}(r:RdK w v l):∃ ao cap,v= .slice ao l.length cap/\l.length<=cap/\(cap:Int)<=9223372036854775807/\(l≠ []->∃ b f,ao=some ⟨b,f,.none⟩/\b<w.heap.size/\
  ∀ i (hi:i<l.length),w.cell? ⟨b,f+i*2,.none⟩=some (.int .i64 l[i].a)/\w.cell? ⟨b,f+i*2+1,.none⟩=some (.int .i64 l[i].n)):=by
 obtain⟨ao,cap,e,h1,h2,_,h4⟩:=r;refine⟨ao,cap,e,h1,h2,fun o=>?_⟩;obtain⟨b,f,m,j,hc⟩:=h4 (fun h=>o (List.eq_nil_of_length_eq_zero h));refine⟨b,f,m,j,fun i hi=>⟨?_,?_⟩⟩
 ·have:=hc (i*2) (by omega);rw[this,show i*2=i*2+0 from rfl,gK l i 0 hi (by omega)];rfl
 have:=hc (i*2+1) (by omega);rw[Nat.add_assoc,this,gK l i 1 hi (by omega)];rfl
structure Mdl (T E:TypeId) (B:Nat) (w:World) (s:Nat) (sl:Value) (W:Int) (l:List Bk):Prop where
 lies:B<=s
 head:w.heap[s]?=some (.cells #[sl,W] T (0,0))
 owns:w.ownsRow B E 2 sl l.length (SA l)
 apart:sl.ownBlock≠some s
 ok:okK W 0 l
 small:W<=4096
section

variable {T E:TypeId} {B:Nat} {w w':World} {s:Nat} {sl:Value} {W:Int} {l:List Bk}

theorem Mdl.lt(h:Mdl T E B w s sl W l):s<w.heap.size:=(jE h.head)
theorem Mdl.lF(h:Mdl T E B w s sl W l):∀ k,sl.ownBlock=some k->B<=k/\k<w.heap.size:=h.owns.lt
theorem Mdl.cell0(h:Mdl T E B w s sl W l):w.cell? ⟨s,0,.none⟩=some sl:=by simpa using cell_of_row w s 0 _ T (0,0) h.head
theorem Mdl.cell1(h:Mdl T E B w s sl W l):w.cell? ⟨s,1,.none⟩=some (.int .i64 W):=by simpa using cell_of_row w s 1 _ T (0,0) h.head
theorem Mdl.free(h:Mdl T E B w s sl W l)(i:Nat):w.frozen? ⟨s,i,.none⟩=false:=GA h.head i
theorem Mdl.rd(h:Mdl T E B w s sl W l):RdK w sl l:=RdS.GC h.owns
theorem Mdl.blocks(h:Mdl T E B w s sl W l)(hb:∀ k,foot s sl k->w'.heap[k]?=w.heap[k]?):Mdl T E B w' s sl W l:=
 ⟨h.lies,by rw[hb s (.inl rfl)];exact h.head,bC h.owns (fun k b=>hb k (.inr b)),h.apart,h.ok,h.small⟩
theorem Mdl.below(h:Mdl T E B w s sl W l)(hb:Below w.heap.size w w'):Mdl T E B w' s sl W l:=
 h.blocks fun k b=>hb.block k (by rcases b with rfl|b;exact h.lt;exact(h.lF k b).2)
theorem Mdl.only{F:Nat->Prop}(h:Mdl T E B w s sl W l)(i:Only F w w')(f:∀ k,foot s sl k->¬ F k):Mdl T E B w' s sl W l:=
 h.blocks fun k b=>i.block k (by rcases b with rfl|b;exact h.lt;exact(h.lF k b).2) (f k b)
theorem Mdl.len(h:Mdl T E B w s sl W l):l.length<=4096:=by have:=h.ok.len;have:=h.small;omega
end

end

section

open Go.RowKit

def takeB (W:Int) (l:List Bk) (at' n:Int):List Bk:=if AB W l at' n then putB l at' n else l
theorem yis{W at' n:Int}{l:List Bk}(h:okK W 0 l):okK W 0 (takeB W l at' n):=by
 unfold takeB;by_cases hc:AB W l at' n=true
 ·rw[jP hc];simp only[AB,DF,jC,decide_eq_true_eq,Bool.not_eq_true',List.any_eq_false,meets]at hc;exact bK h hc.1.2.1 hc.1.1 (by omega) (fun b hb=>hc.2 b hb)
 rw[jN hc];exact h
theorem MQ(l:List Bk)(at' n:Int):(putB l at' n).length=l.length+1:=by
 have:=wQ at' l;unfold putB;rw[List.length_append,List.length_take,List.length_cons,List.length_drop];omega
theorem yN{W n a:Int}{l:List Bk}(h:AB W l a n=true):takeB W l a n=putB l a n:=by unfold takeB;rw[jP h]
theorem yiu{W n a:Int}{l:List Bk}(h:AB W l a n=false):takeB W l a n=l:=by unfold takeB;rw[jN (by simp[h])]
theorem yh0(l:List Bk):(SA l).length=l.length*2:=by
 induction l with
 |nil=>rfl
 |cons b l f=>show (b.cells++SA l).length=_;rw[List.length_append,f,List.length_cons];show 2+_=_;omega
theorem yib(l:List Bk)(k:Nat):(SA l).take (k*2)=SA (l.take k):=by
 induction k generalizing l with
 |zero=>simp[SA]
 |succ k f=>
  cases l with
  |nil=>simp[SA]
  |cons b l=>
   show (b.cells++SA l).take _=b.cells++SA (l.take k)
   rw[<-f,List.take_append,show b.cells.length=2 from rfl,show (k+1)*2-2=k*2 from by omega,List.take_of_length_le (by show 2<=_;omega)]
theorem yia(l:List Bk)(k:Nat):(SA l).drop (k*2)=SA (l.drop k):=by
 induction k generalizing l with
 |zero=>simp
 |succ k f=>
  cases l with
  |nil=>simp[SA]
  |cons b l=>
   show (b.cells++SA l).drop _=SA (l.drop k)
   rw[<-f,List.drop_append,show b.cells.length=2 from rfl,show (k+1)*2-2=k*2 from by omega,List.drop_of_length_le (by show 2<=_;omega)]
   rfl
theorem iK(l:List Bk):∀ u ∈ SA l,u.oneCell'=true:=by
 intro u hu;obtain⟨b,_,hb⟩:=List.mem_flatMap.1 hu;simp only[Bk.cells,List.mem_cons,List.not_mem_nil,or_false]at hb;rcases hb with rfl|rfl<;>rfl
end

section

open Go.RowKit

attribute [local go_sem ↓] Go.wp_at_zero Go.wp_at_succ

attribute [local go_sem high] gP mP YO

def capW (n:Int):Int:=if n < 0\/4096 < n then 0 else n
theorem yi7(n:Int):0<=capW n/\capW n<=4096:=by unfold capW;split<;>omega
theorem okK.take{W lo:Int}{l:List Bk}(h:okK W lo l)(k:Nat):okK W lo (l.take k):=by
 induction l generalizing lo k with
 |nil=>simpa using h
 |cons b l f=>
  cases k with
  |zero=>exact h.le
  |succ k=>exact⟨h.1,h.2.1,f h.2.2 k⟩
theorem jR:(Tryz.prog.info? 64).map (fun i=>(i.zero,i.size,i.bytes))=some (some (.agg #[.int .i64 0,.int .i64 0]),2,16):=by kernel_rfl
theorem Bk.one(b:Bk):∀ u ∈ b.cells,u.oneCell'=true:=by
 intro u hu;simp only[Bk.cells,List.mem_cons,List.not_mem_nil,or_false]at hu;rcases hu with rfl|rfl<;>rfl
abbrev RM:=Mdl 73 64
theorem pR(n:Int)(w:World):Calls Tryz.prog 22 #[n] w fun e w'=>e= .returned (.pointer (some ⟨w.heap.size,0,.none⟩))/\Below w.heap.size w w'/\RM w.heap.size w' w.heap.size (.slice none 0 0) (capW n) []:=by
 have key:∀ W:Int,W=capW n->RM w.heap.size (w.alloc (.cells #[.slice none 0 0,W] 73)) w.heap.size (.slice none 0 0) (capW n) []:=fun W e=>by have:=yi7 n;exact⟨Nat.le_refl _,by rw[<-e];exact jA w _,⟨rfl,.inl ⟨rfl,rfl⟩⟩,by simp[Value.ownBlock],by show (0:Int)<=capW n;omega,by omega⟩
 by_cases h1:n<0
 ·have k:=key 0 (by unfold capW;rw[jP (.inl h1)]);go_in;go_wp2;go_ret;exact⟨rfl,br.alloc lr _,k⟩
 by_cases h2:4096<n
 ·have k:=key 0 (by unfold capW;rw[jP (.inr h2)]);have hd:decide (4096<n)=true:=jT h2;go_in;go_wp2;go_ret;exact⟨rfl,br.alloc lr _,k⟩
 have k:=key n (by unfold capW;rw[jN (by omega)]);have hd:decide (4096<n)=false:=jF h2;go_in;go_wp2;go_ret;exact⟨rfl,br.alloc lr _,k⟩
theorem pK(E:TypeId)(sz:Nat)(B:Nat)(w:World):w.ownsRow B E sz (.slice none 0 0) 0 []:=⟨by simp,.inl ⟨rfl,rfl⟩⟩
theorem XQ{w:World}{ao:Option Addr}{cap n:Nat}{l:List Bk}(r:RdK w (.slice ao n cap) l)(b:n=l.length)(i:Nat)(hi:i<=n):RdS w 2 (cutV ao 0 i cap 2) i (SA (l.take i)):=by
 subst b;have:=RdS.cut r (l:=0) (h:=i) (Nat.zero_le _) hi;rwa [Nat.zero_mul,List.drop_zero,Nat.sub_zero,yib]at this
theorem YQ{w:World}{ao:Option Addr}{cap n:Nat}{l:List Bk}(r:RdK w (.slice ao n cap) l)(b:n=l.length)(i:Nat)(hi:i<=n):RdS w 2 (cutV ao i n cap 2) (n-i) (SA (l.drop i)):=by
 subst b;have:=RdS.cut r (l:=i) (h:=l.length) hi lr;rwa [yia,List.take_of_length_le (by rw[yh0,List.length_drop];exact Nat.le_refl _)]at this
theorem Mdl.reset{T E:TypeId}{B s:Nat}{w w':World}{sl v:Value}{W:Int}{l l':List Bk}{N:Nat}(h:Mdl T E B w s sl W l)(hb:Below w.heap.size w w')(m:w'.ownsRow w.heap.size E 2 v N (SA l'))(n:l'.length=N)(i:okK W 0 l'):
  Mdl T E B (w'.setCell ⟨s,0,.none⟩ v) s v W l'/\Only (foot s sl) w (w'.setCell ⟨s,0,.none⟩ v)/\∀ k,foot s v k->foot s sl k\/w.heap.size<=k:=by
 subst n;have f:=h.lt;have o:w'.heap[s]?=some (.cells #[sl,W] T (0,0)):=(hb.block s f).trans h.head;have j:∀ k,v.ownBlock=some k->w.heap.size<=k:=fun k b=>(m.lt k b).1;refine⟨⟨h.lies,by rw[heap_setCell_same w' s 0 _ _ _ o];rfl,?_,fun e=>by have:=j s e;omega,i,h.small⟩,(Only.of_below hb).setCell (.inl (.inl rfl)) _,fun k b=>?_⟩
 ·refine World.ownsRow.mono (base:=w.heap.size) (bC m fun k b=>heap_setCell_other w' ⟨s,0,.none⟩ k _ (fun e=>?_)) (by have:=h.lies;omega);have:=j k b;simp at e;omega
 rcases b with rfl|b
 ·exact .inl (.inl rfl)
 exact .inr (j k b)
theorem yie{w w':World}(h:w.grownBy w' (Value.slice none 0 0).ownBlock):Below w.heap.size w w':=⟨h.os,h.tape,h.output,h.size,fun k b=>h.block k b (fun e=>nomatch e)⟩
theorem yig{l:List Bk}{at' n:Int}{k:Nat}(b:posB at' l=k):SA (putB l at' n)=(SA (l.take k)++Bk.cells ⟨at',n⟩)++SA (l.drop k):=by
 unfold putB;rw[b,kK];show _++SA ([⟨at',n⟩]++l.drop k)=_;rw[kK,List.append_assoc];rfl
theorem yja{l:List Bk}{f:Bk->Bool}(i:Nat)(hi:i<l.length)(h:f l[i]=true):l.any f=true:=List.any_eq_true.2 ⟨_,List.getElem_mem hi,h⟩
theorem yi1{l:List Bk}{f:Bk->Bool}(h:∀ i (hi:i<l.length),f l[i]=false):l.any f=false:=by
 rw[List.any_eq_false];intro b hb;obtain⟨i,hi,rfl⟩:=List.getElem_of_mem hb;rw[h i hi];simp
theorem iR{B s:Nat}{w:World}{sl:Value}{W:Int}{l:List Bk}(h:RM B w s sl W l)(at' n:Int)(cu: -9223372036854775808<=at')(cv:at'<=9223372036854775807)(e7: -9223372036854775808<=n)(e8:n<=9223372036854775807):
  Calls Tryz.prog 28 #[some s,at',n] w fun e w'=>e= .returned (.bool (AB W l at' n))/\∃ c9,RM B w' s c9 W (takeB W l at' n)/\Only (foot s sl) w w'/\∀ k,foot s c9 k->foot s sl k\/w.heap.size<=k:=by
 have c1:=h.cell1;have cq:0<=W:=h.ok.le;have cr:=h.small;by_cases hf:DF W at' n=true;case neg=>
  have c6:AB W l at' n=false:=by unfold AB;rw[Bool.eq_false_iff.2 hf];rfl
  have cf:takeB W l at' n=l:=by unfold takeB;rw[jN (by rw[c6];simp)]
  rw[c6,cf];have bh:n<1\/(1<=n/\(at'<0\/(0<=at'/\(W<at'\/(at'<=W/\W-at'<n))))):=by simp only[DF,decide_eq_true_eq]at hf;omega
  clear hf;rcases bh with e1|⟨e1,e2|⟨e2,e3|⟨e3,e4⟩⟩⟩;all_goals go_in;go_wp2;go_ret;exact⟨rfl,_,h,Only.refl _ _,fun k hk=>.inl hk⟩
 case pos=>
  have b7:=hf;simp only[DF,decide_eq_true_eq]at b7;obtain⟨f1,f2,f3,f4⟩:=b7;have y:AB W l at' n= !l.any (fun b=>meets b at' n):=by unfold AB;rw[hf];rfl
  have c0:=h.cell0;have c4:=h.lt;have b8:=h.ok.mem;have bp:=h.ok.lt;have c7:=yis (at':=at') (n:=n) h.ok;have J:AB W l at' n=true->takeB W l at' n=putB l at' n:=yN;have q:AB W l at' n=false->takeB W l at' n=l:=yiu;generalize takeB W l at' n=lt at *;generalize AB W l at' n=ok at *;obtain⟨ao,cap,rfl,bv,cx,b1⟩:=h.rd.nth;have bx:=h.len;obtain⟨m,hm,c5⟩:=hidv l.length;have bm:=h.rd;rw[<-c5]at c0 bv bx bm h ⊢;clear c5 hf;obtain⟨i0,bj,bq,bs,bu⟩:=info_parts jR;have ch:IntKind.i64.wrap (at'+n)=at'+n:=by rw[IntKind.wrap_i64];omega
  have cp:IntKind.i64.wrap (W-at')=W-at':=by rw[IntKind.wrap_i64];omega
  replace y:=hd' y;go_in;go_wp2;go_loopw [7,8,9] (fun vk vi _ wr=>∃ i k:Nat,i<=m/\k<=i/\vi= .int .i64 i/\vk= .int .i64 k/\Hid (∀ j (F:j<l.length),j<i->meets l[j] at' n=false)/\Hid (∀ j (F:j<l.length),j<k->l[j].a<at')/\Hid (∀ j (F:j<l.length),k<=j->j<i->at'<=l[j].a)/\Below w.heap.size w wr) (fun _ vi _ _=>m-(intOf vi).toNat);case atStart=>exact⟨0,0,Nat.zero_le _,Nat.le_refl _,rfl,rfl,hd' (fun j F h=>absurd h (Nat.not_lt_zero _)),hd' (fun j F h=>absurd h (Nat.not_lt_zero _)),hd' (fun j F _ h=>absurd h (Nat.not_lt_zero _)),Below.refl _ _⟩
  case round=>
   obtain⟨i,k,hi,bw,rfl,rfl,bk,V,U,p⟩:=hrel;have d0:=iA p _ _ _ c0;have d1:=iA p _ _ _ c1;have D:=p.size;have d2:=fun o=>iA (p.alloc D o) _ _ _ c0;have d3:=fun o=>iA ((p.drew).alloc D o) _ _ _ c0;by_cases bz:i<m
   ·have R:i<l.length:=hm.out ▸ bz;obtain⟨b,e9,rfl,hb,hc⟩:=b1 (fun e=>by rw[e]at R;simp at R);obtain⟨x0,x1⟩:=hc i R;replace x0:=iA p _ _ _ x0;replace x1:=iA p _ _ _ x1;obtain⟨g1,g2,g3⟩:=b8 _ (List.getElem_mem R);have cy:(i:Int)<(m:Int):=by omega
    have cm:(0:Int)<=(i:Int):=by omega
    have ca:IntKind.i64.wrap (l[i].a+l[i].n)=l[i].a+l[i].n:=by rw[IntKind.wrap_i64];omega
    have b5:meets l[i] at' n=true->l.any (fun b=>meets b at' n)=true:=yja (f:=fun b=>meets b at' n) i R;have I:meets l[i] at' n=false->∀ j (F:j<l.length),j<i+1->meets l[j] at' n=false:=fun hx j F h=>by
     rcases Nat.lt_or_ge j i with h1|h1
     ·exact bk j F h1
     have:j=i:=by omega
     subst this;exact hx
    have C:l[i].a<at'->∀ j (F:j<l.length),j<i+1->l[j].a<at':=fun hx j F h=>by
     rcases Nat.lt_or_ge j i with h1|h1
     ·have:=bp j i h1 R;have:=(b8 _ (List.getElem_mem F)).2.1;omega
     have:j=i:=by omega
     subst this;exact hx
    have z:at'<=l[i].a->∀ j (F:j<l.length),k<=j->j<i+1->at'<=l[j].a:=fun hx j F h h'=>by
     rcases Nat.lt_or_ge j i with h1|h1
     ·exact U j F h h1
     have:j=i:=by omega
     subst this;exact hx
    have S:meets l[i] at' n=decide (l[i].a<at'+n/\at'<l[i].a+l[i].n):=rfl;clear hc b1;generalize meets l[i] at' n=mt at *;generalize l[i].a=ba at *;generalize l[i].n=bn at *;by_cases h1:ba<at'+n
    ·by_cases h2:at'<ba+bn
     ·have e1:mt=true:=by rw[S];exact jT ⟨h1,h2⟩
      have G:=b5 e1;have b9:ok=false:=by rw[y,G];rfl
      have Y:=q b9;subst b9;subst Y;clear b5 I C z S J q e1 G y;go_wp2;go_ret;exact⟨rfl,_,h.below (p.alloc D _),Only.of_below (p.alloc D _),fun k hk=>.inl hk⟩
     have e1:mt=false:=by rw[S];exact jF (fun h=>h2 h.2)
     have Z:=hd' (I e1);by_cases h3:ba<at'
     ·have bg:=hd' (C h3);clear b5 I C z S J q;go_wp2;exact⟨⟨i+1,i+1,by omega,by omega,by go_num,by go_num,Z,bg,hd' (fun j F h h'=>by omega),p.alloc D _⟩,by simp[intOf];omega⟩
     omega
    have e1:mt=false:=by rw[S];exact jF (fun h=>h1 h.1)
    have Z:=hd' (I e1);have h3:¬ ba<at':=by omega
    have bf:=hd' (z (by omega));clear b5 I C z S J q;go_wp2;exact⟨⟨i+1,k,by omega,by omega,by go_num,rfl,Z,V,bf,p.alloc D _⟩,by simp[intOf];omega⟩
   have cb:i=m:=by omega
   subst cb;have cz:¬ ((i:Int)<(i:Int)):=by omega
   have bc:posB at' l=k:=EM at' l k (by have:=hm.out;omega) (fun j F cc=>V j cc F) (fun hk=>U k hk lr (by have:=hm.out;omega));have G:=yi1 (l:=l) (f:=fun b=>meets b at' n) (fun j F=>bk j F (by have:=hm.out;omega));have bb:ok=true:=by rw[y,G];rfl
   have Y:=J bb;subst bb;have b2:=yig (n:=n) bc;rw[<-Y]at b2;have bi:lt.length=k+1+(i-k):=by rw[Y,MQ,<- hm];omega
   replace b2:=hd' b2;replace bi:=hd' bi;have c8:=(XQ bm hm k bw).below p;have cd:=YQ bm hm k bw;have e0:(0:Int)<=(k:Int):=by omega
   have e5:(k:Int)<=(cap:Int):=by omega
   have e6:(k:Int)<=(i:Int):=by omega
   clear bk V U bz Y G bc J q y b1;go_wp2
   go_region_law
    (first|(refine DG (by rfl) (.const (.slice none 0 0)) (.tmp 77) 71 (by rfl) w.heap.size 64 i0 _ 2 16 Tryz.underlying71 bj bq bs bu rfl (by omega) _ 0 [] (by rfl) (pK _ _ _ _) _ k (SA (l.take k)) (by rfl) (by first|exact c8.drew|exact c8.drew.alloc _) (iK _) (by simp only[maxLen];omega) (by omega) (by first|exact D|(simp;omega)) ?_;intro v1 w1 r O cj;have H:=iE (by first|exact p.drew|exact(p.drew).alloc (by simpa using D) _) (pK 64 2 w.heap.size _) (by first|exact D|(simp;omega)) O;have N:=H.size;simp only[Nat.zero_add,List.nil_append]at r;have q1:=iA H _ _ _ c0;have q5:=(fun o=>iA (H.alloc N o) _ _ _ c0);have cg:=yie O)|(refine DG (by rfl) (.tmp 78) (.tmp 82) 71 (by rfl) w.heap.size 64 i0 _ 2 16 Tryz.underlying71 bj bq bs bu rfl (by omega) _ k (SA (l.take k)) (by rfl) (by first|exact r|exact r.alloc _) _ 1 (Bk.cells ⟨at',n⟩) (by rfl) (by first|exact RdS.new (cs:=(Bk.cells ⟨at',n⟩).toArray) (t:=64) (sz:=2) (n:=1) (jA w1 _) rfl (by omega)|exact(RdS.new (cs:=(Bk.cells ⟨at',n⟩).toArray) (t:=64) (sz:=2) (n:=1) (jA wr.drew _) rfl (by omega)).below cg) (Bk.one _) (by simp only[maxLen];omega) (by omega) (by first|exact N|(simp;omega)) ?_;intro v2 w2 b0 b3 ck;have M:=iE (by first|exact H|exact H.alloc N _) (by first|exact r|exact r.alloc _) (by first|exact N|(simp;omega)) b3;have b6:=M.size;have q2:=iA M _ _ _ c0)|(refine DG (by rfl) (.tmp 83) (.tmp 89) 71 (by rfl) w.heap.size 64 i0 _ 2 16 Tryz.underlying71 bj bq bs bu rfl (by omega) _ (k+1) (SA (l.take k)++Bk.cells ⟨at',n⟩) (by rfl) b0 _ (i-k) (SA (l.drop k)) (by rfl) (cd.below M) (iK _) (by simp only[maxLen];omega) (by omega) b6 ?_;intro v3 w3 L b4 cl;have X:=iE M b0 b6 b4;obtain⟨so,sc,rfl,_,_,_⟩:=RdS.GC L;have q3:=iA X _ _ _ c0;have q4:w3.frozen? ⟨s,0,.none⟩=false:=GA ((X.block s c4).trans h.head) 0))
   all_goals rw[<-b2]at L;obtain⟨m1,m2,m3⟩:=Mdl.reset h X L bi c7;go_wp2;go_ret;exact⟨rfl,_,m1,m2,m3⟩
end

end Go.Proofs.YtkilokkopbajkaaGreat
