/- Texts bound together: InvF InvG CapW WdsW. -/
import Derived.Test.YtedcnffebdpmmaaGreatBu9

import Derived.Test.YtedcnffebdpmmaaGreatBu22

set_option linter.all false
set_option maxHeartbeats 4000000
set_option maxRecDepth 100000
namespace Go.Proofs.YtedcnffebdpmmaaGreat

attribute [local go_sem] rowW zio

section

variable {s:Sh} {σ σ':Ab} {c:Int}

def zmo (s:Sh):Mc->Own
 | .tk t=> zlr t
 | .sc t=> zln s t
 | .pc t=> zls s t
 | .sp t=> zhd t
 | .bn t=> zhe t
def zzi (c:Int) (σ:Ab):Mc->Prop
 | .tk t=> zqu c σ t
 | .sc t=> t.c=c
 | .pc t=> t.c=c
 | .sp t=> z4y c t
 | .bn t=> zu0 c σ t
def z3x (s:Sh) (t:Sk):Mc->Prop
 | .sp x=> x.page=t.here s
 | .bn x=> x.page=t.page/\x.k=t.k
 | _=> True
theorem ya5{x:Mc}(j:GI s σ)(l:mcOk s x)(hd:x.done=false)(i:zaz σ c (Own.no.add (zmo s x)))(hi:zzi c σ x):
  Goes s c σ (mcA s x σ) .no (zmo s) (zzi c)/\Calm σ (mcA s x σ).2/\∀ t,z3x s t x->z3x s t (mcA s x σ).1:=by
 cases x with
 |tk t=>obtain⟨⟨a,b,d⟩,e⟩:=yba (t:=t) j l hd i hi;exact⟨⟨a,b,d⟩,e,fun _ _=>trivial⟩
 |sc t=>obtain⟨⟨a,b,d⟩,e⟩:=yb8 (t:=t) j l hd i hi;exact⟨⟨a,b,d⟩,e,fun _ _=>trivial⟩
 |pc t=>obtain⟨⟨a,b,d⟩,e⟩:=yb1 (t:=t) j l hd i hi;exact⟨⟨a,b,d⟩,e,fun _ _=>trivial⟩
 |sp t=>obtain⟨⟨a,b,d⟩,e,f⟩:=z4c (t:=t) j l hd (fun _ _ h=>h) i hi;exact⟨⟨a,b,d⟩,e,fun _ h=>f.trans h⟩
 |bn t=>obtain⟨⟨a,b,d⟩,e,f,g⟩:=yar (t:=t) j l hd id (fun _ h=>h) (fun _ _ h=>h) i hi;exact⟨⟨a,b,d⟩,e,fun _ h=>⟨f.trans h.1,g.trans h.2⟩⟩
theorem zzi.same{x:Mc}(b:zaz σ c (Own.no.add (zmo s x)))(h:zzi c σ x)(hs:Same c σ σ'):zzi c σ' x:=by
 cases x with
 |tk t=>exact zqu.same h hs
 |sc t=>exact h
 |pc t=>exact h
 |sp t=>exact h;|bn t=>
  refine zu0.same h (fun hb=>?_) hs;have f:zhe t= .page t.page:=by unfold zhe;rw[hb];rfl
  have b:zaz σ c (Own.no.add (zhe t)):=b;rw[f]at b;exact(b.h t.page).2 (.inr rfl)
def zey (s:Sh) (t:Sk):Own:=if t.found=true then .way t.page t.slot t.k else match t.now with
 | some x=> zmo s x
 | none=> .no
structure zir (s:Sh) (c:Int) (σ:Ab) (t:Sk):Prop where
 cl:t.c=c
 dn:t.done=true->t.found=false->t.now=none
 now:t.found=false->∀ x,t.now=some x->zzi c σ x/\z3x s t x
theorem zeq{t:Sk}{x:Mc}(b:t.found=false)(f:t.now=some x):zey s t=zmo s x:=by unfold zey;rw[b,f];rfl
theorem zga{t:Sk}(b:t.found=false)(f:t.now=none):zey s t= .no:=by unfold zey;rw[b,f];rfl
theorem zir.same{t:Sk}(i:zaz σ c (Own.no.add (zey s t)))(h:zir s c σ t)(hs:Same c σ σ'):zir s c σ' t:=by
 refine⟨h.cl,h.dn,fun b x f=>⟨?_,(h.now b x f).2⟩⟩;rw[zeq b f]at i;exact(h.now b x f).1.same i hs
theorem zy0{s:Sh}{c p k:Int}(hs:mayB s.p s.c s.m=true)(hc:0<=c/\c<s.c)(f:0<=p/\p<s.p)(b:0<zah k):(zfi s c p k).done=false:=by
 have hb:=zar.1 hs;have h1:zae s.p s.c s.m c=c:=by unfold zae;rw[if_pos ⟨hs,zbc.2 (by omega)⟩]
 have h2:zak s.p s.c s.m p=s.c+p:=by unfold zak;rw[if_pos ⟨hs,zbc.2 (by omega)⟩]
 simp only[zfi,h1,h2];simp;omega
theorem Own.z2j(p k:Int):(Own.ways p 0 k).Eqv .no:=by
 exact⟨fun _=>.rfl,fun _ _=>.rfl,fun q i b=>⟨fun h=>by have h1:=h.2.1;omega,fun h=>h.elim⟩⟩
theorem Own.z8j(p k:Int):(Own.ways p 1 k).Eqv (Own.way p 0 k):=by
 refine⟨fun _=>.rfl,fun _ _=>.rfl,fun q i b=>?_⟩;simp only[Own.ways,Own.way];omega
theorem zia{t:Sp}(b:t.held=false)(h0:t.i=0):(zhd t).Eqv .no:=by
 unfold zhd;rw[b,h0];exact Own.z2j _ _
theorem zu3{t:Sk}{x:Mc}(hs:mayB s.p s.c s.m=true)(G:skOk s t)(hd:t.done=false)(E:t.now=some x)(C:x.done=true)(f:zaz σ c (Own.no.add (zey s t)))(hi:zir s c σ t):
  zaz σ c (Own.no.add (zey s (t.after s x)))/\zir s c σ (t.after s x):=by
 have r:t.found=false:=zb7 G.fd hd;obtain⟨c1,c2,c3,c4,c5⟩:=G.cl hd;obtain⟨J,L⟩:=c5 x E;obtain⟨H,I⟩:=hi.now r x E;rw[zeq r E]at f;have hc:=hi.cl;have hb:=zar.1 hs;have D:∀ y:Option Mc,(t.done=true->t.found=false->y=none):=fun y e=>by rw[hd]at e;cases e
 have l:∀ p:Int,(0<=p/\p<s.p)->zaz σ c (Own.no.add (.page p))->zaz σ c (Own.no.add (zey s (t.bind s p)))/\zir s c σ (t.bind s p):=fun p O f=>by
  refine⟨?_,⟨hc,D _,fun _ y F=>?_⟩⟩
  ·rw[zeq (t:=t.bind s p) (x:= .bn (zfi s t.c p t.k)) r rfl];exact f
  injection F with F;subst F;refine⟨⟨hc,fun _ j h0 h1=>?_,fun e=>?_⟩,⟨rfl,rfl⟩⟩
  ·simp only[zfi]at h1;omega
  rw[zy0 hs c1 O c2]at e;cases e
 cases x with
 |tk y=>
  simp only[Sk.after];have B:y.k=t.k:=L;split
  ·rename_i b;have h1:=(J.en (J.fd b).1).2.2;refine⟨?_,⟨hc,fun _ e=>(by cases e),fun e=>(by cases e)⟩⟩;have:zey s (t.fin y.ep y.es)=zlr y:=by unfold zey zlr;rw[if_pos b,h1,B];rfl
   rw[this];exact f
  rename_i b;have q:zmo s (.tk y)= .no:=by show zlr y=_;unfold zlr;rw[if_neg b]
  rw[q]at f;refine⟨?_,⟨hc,D _,fun _ z n=>?_⟩⟩
  ·rw[zeq (t:= {t with now:=some (.sc (ziq s t.c t.k t.first))}) (x:= .sc (ziq s t.c t.k t.first)) r rfl];exact f
  injection n with n;subst n;exact⟨hc,trivial⟩
 |sc y=>
  simp only[Sk.after];have B:y.k=t.k:=L;split
  ·rename_i b;refine⟨?_,⟨hc,fun _ e=>(by cases e),fun e=>(by cases e)⟩⟩;have:zey s (t.fin (y.page s) y.i)=zln s y:=by unfold zey zln;rw[if_pos b,B];rfl
   rw[this];exact f
  rename_i b;have q:zmo s (.sc y)= .no:=by show zln s y=_;unfold zln;rw[if_neg b]
  rw[q]at f;refine⟨?_,⟨hc,D _,fun _ z n=>?_⟩⟩
  ·rw[zeq (t:= {t with now:=some (.pc (zlu s t.c t.first))}) (x:= .pc (zlu s t.c t.first)) r rfl];exact f
  injection n with n;subst n;exact⟨hc,trivial⟩
 |pc y=>
  simp only[Sk.after];split
  ·rename_i b;have q:zmo s (.pc y)= .page (y.page s):=by show zls s y=_;unfold zls;rw[if_pos b]
   rw[q]at f;exact l _ (zpe (by omega)) f
  rename_i b;have q:zmo s (.pc y)= .no:=by show zls s y=_;unfold zls;rw[if_neg b]
  rw[q]at f;refine⟨?_,⟨hc,fun _ _=>rfl,fun _ z n=>by cases n⟩⟩;rw[zga (t:= {t with now:=none}) r rfl];exact f
 |sp y=>
  simp only[Sk.after];have o:y.page=t.here s:=I;split
  ·rename_i b;have q:zmo s (.sp y)= .page y.page:=by show zhd y=_;unfold zhd;rw[if_pos b]
   rw[q,o]at f;exact l _ (zpe (by omega)) f
  rename_i b;have h0:=H.2 C (by simpa using b);refine⟨?_,⟨hc,fun _ _=>rfl,fun _ z n=>by cases n⟩⟩;rw[zga (t:=t.turn s) r rfl];exact f.eqv (.add _ (zia (by simpa using b) h0))
 |bn y=>
  simp only[Sk.after];have o:y.page=t.page/\y.k=t.k:=I;have h0:=H.2.2 C;refine⟨?_,⟨hc,fun _ e=>(by cases e),fun e=>(by cases e)⟩⟩;have M:zey s (t.fin t.page 0)= .way t.page 0 t.k:=rfl;have N:zmo s (.bn y)= .ways t.page 1 t.k:=by show zhe y=_;unfold zhe;rw[if_pos h0.1,h0.2,o.1,o.2];rfl
  rw[N]at f;rw[M];exact f.eqv (.add _ (Own.z8j _ _))
theorem zk9(hs:mayB s.p s.c s.m=true)(n:Nat):∀ {t:Sk},skOk s t->zaz σ c (Own.no.add (zey s t))->zir s c σ t->zaz σ c (Own.no.add (zey s (za5 s n t)))/\zir s c σ (za5 s n t):=by
 induction n with
 |zero=>intro t _ b hi;exact⟨b,hi⟩;|succ n j=>
  intro t f b hi;unfold za5;split
  ·rename_i x i;split
   ·rename_i hc;have h1:=zu3 hs f hc.1 i hc.2 b hi;exact j (zid f hc.1 i hc.2 (zar.1 hs).1) h1.1 h1.2
   exact⟨b,hi⟩
  exact⟨b,hi⟩
theorem ya8{m:Mem}{t:Sk}(E:Rep s m σ)(o:GI s σ)(C:skOk s t)(n:zvw t)(hd:t.done=false)(l:zaz σ c (Own.no.add (zey s t)))(hi:zir s c σ t):
  Goes s c σ (skA s t σ) .no (zey s) (zir s c)/\Calm σ (skA s t σ).2:=by
 have hs:=E.may;have i:t.found=false:=zb7 C.fd hd;obtain⟨c1,c2,c3,c4,c5⟩:=C.cl hd;unfold skA;rw[if_neg (by rw[hd];decide)];cases hx:t.now with
 |some x=>
  have r:x.done=false:=by
   rcases n with e|e|⟨y,e,F⟩
   ·rw[hd]at e;cases e
   ·rw[hx]at e;cases e
   rw[hx]at e;injection e with e;subst e;exact F
  obtain⟨N,O⟩:=hi.now i x hx;rw[zeq i hx]at l;obtain⟨⟨G,H,I⟩,J,L⟩:=ya5 o (c5 x hx).1 r l N;have p:skOk s {t with now:=some (mcA s x σ).1}:=by refine⟨fun _=>⟨c1,c2,c3,c4,fun z B=>?_⟩,fun e=>(by have e:t.found=true:=e;rw[i]at e;cases e)⟩;injection B with B;subst B;rw[<-(z9a E o (c5 x hx).1).1];exact⟨zjq m (c5 x hx).1,zg1 (t:=t) m (c5 x hx).2⟩
  have M:zaz (mcA s x σ).2 c (Own.no.add (zey s {t with now:=some (mcA s x σ).1})):=by rw[zeq (t:= {t with now:=some (mcA s x σ).1}) (x:=(mcA s x σ).1) i rfl];exact H
  have q:zir s c (mcA s x σ).2 {t with now:=some (mcA s x σ).1}:=⟨hi.cl,fun e=>(by have e:t.done=true:=e;rw[hd]at e;cases e),fun _ y f=>by
   injection f with f;subst f
   refine⟨I,?_⟩
   have:=L t O
   cases hm:(mcA s x σ).1<;>rw[hm]at this<;>exact this⟩
  have h1:=zk9 hs 5 p M q;exact⟨⟨G,h1.1,h1.2⟩,J⟩
 |none=>
  rw[zga i hx]at l
  have D:∀ t':Sk,zey s t'= .no\/(zey s t').Eqv .no->zir s c σ t'->Goes s c σ (t',σ) .no (zey s) (zir s c)/\Calm σ σ:=fun t' h1 h2=>by
   refine⟨⟨Kept.refl o,?_,h2⟩,Calm.refl _⟩
   rcases h1 with h1|h1
   ·rw[h1];exact l
   ·exact l.eqv (.add _ h1.symm)
  have j:Goes s c σ (t.turn s,σ) .no (zey s) (zir s c)/\Calm σ σ:=D _ (.inl (zga (t:=t.turn s) i rfl)) ⟨hi.cl,fun _ _=>rfl,fun _ y f=>by cases f⟩
  dsimp only
  cases hp:σ.pg (t.here s) with
  |super k b=>
   refine D _ (.inr ?_) ⟨hi.cl,fun e=>(by have e:t.done=true:=e;rw[hd]at e;cases e),fun _ y f=>?_⟩
   ·rw[zeq (t:= {t with now:=some (.sp (zfa s t.c (t.here s) k))}) (x:= .sp (zfa s t.c (t.here s) k)) i rfl]
    exact zia rfl rfl
   ·injection f with f;subst f
    exact⟨⟨hi.cl,fun _ _=>rfl⟩,rfl⟩
  |_=>exact j
end

section

variable {s:Sh} {σ σ':Ab} {c:Int}

def Own.run (h lo hi:Int):Own:=((Own.page h).add (.bodies h (h + 1) lo)).add (.pages lo hi)
inductive RnPh
 | found
 | dead
 | strip (x:Sp)
 | clear
 | undo
 | write
 | look
def Rn.ph (t:Rn):RnPh:=
 if t.found=true then .found else if t.done=true then .dead else if t.next=2 then (match t.strip with | some x=> .strip x | none=> .look)
 else if t.next=3 then .clear else if t.next=4 then .undo else if t.next=5 then .write else .look
def zf2 (t:Rn):Own:=match t.ph with
 | .found=> .run t.head (t.head + t.pages) (t.head + t.pages)
 | .dead=> .no
 | .strip x=> (Own.pages t.head t.at').add (zhd x)
 | .clear=> .pages t.head (t.at' + 1)
 | .undo=> .pages t.head t.i
 | .write=> .run t.head t.i (t.head + t.pages)
 | .look=> .pages t.head t.at'
def zfr (σ:Ab) (lo hi:Int):Prop:=∀ p i,lo<=p->p < hi->σ.sl p i= .none
def zz8 (c:Int) (σ:Ab) (t:Rn):Prop:=t.c=c/\match t.ph with
 | .found=> zfr σ t.head (t.head + 1)
 | .dead=> True
 | .strip x=> zfr σ t.head t.at'/\x.page=t.at'/\z4y c x
 | .clear=> t.head<=t.at'/\zfr σ t.head t.at'/\∀ j,0<=j->j < t.i->σ.sl t.at' j= .none
 | .undo=> zfr σ t.head t.i
 | .write=> zfr σ t.head (t.head + 1)/\zfr σ t.i (t.head + t.pages)
 | .look=> zfr σ t.head t.at'
theorem Own.zi7{lo hi:Int}(h:hi<=lo):(Own.pages lo hi).Eqv .no:=by
 exact⟨fun p=>⟨fun h=>by have h1:=h.1;have h2:=h.2;omega,fun h=>h.elim⟩,fun _ _=>.rfl,fun _ _ _=>.rfl⟩
theorem Own.zks{lo hi:Int}(h:lo<=hi):((Own.pages lo hi).add (.page hi)).Eqv (.pages lo (hi+1)):=by
 refine⟨fun p=>?_,fun _ _=>or_iff_left id,fun _ _ _=>or_iff_left id⟩;simp only[Own.add,Own.page,Own.pages];omega
theorem Own.z2n{h hi:Int}(b:h<hi):(Own.pages h hi).Eqv (.run h (h+1) hi):=by
 refine⟨fun p=>?_,fun p g=>?_,fun _ _ _=>?_⟩<;>simp only[Own.run,Own.add,Own.page,Own.bodies,Own.pages,or_false,false_or,iff_false,false_iff]<;>(try omega)
theorem zfr.same{lo hi:Int}(h:zfr σ lo hi)(b:∀ p,lo<=p->p<hi->σ.pg p= .held c)(hs:Same c σ σ'):zfr σ' lo hi:=fun p i h0 h1=>(hs.hs p i (b p h0 h1)).trans (h p i h0 h1)
theorem zz8.same{t:Rn}(b:zaz σ c (zf2 t))(h:zz8 c σ t)(hs:Same c σ σ'):zz8 c σ' t:=by
 obtain⟨h1,h2⟩:=h;refine⟨h1,?_⟩;unfold zf2 at b;cases hp:t.ph with
 |found=>rw[hp]at b h2;exact h2.same (fun p h0 h1=>(b.h p).2 (.inl (.inl (show p=t.head by omega)))) hs
 |dead=>trivial;|strip x=>rw[hp]at b h2;exact⟨h2.1.same (fun p h0 h1=>(b.h p).2 (.inl ⟨h0,h1⟩)) hs,h2.2⟩
 |clear=>rw[hp]at b h2;exact⟨h2.1,h2.2.1.same (fun p h0 h1=>(b.h p).2 ⟨h0,by omega⟩) hs,fun j h0 h1=>(hs.hs _ _ ((b.h _).2 ⟨h2.1,by omega⟩)).trans (h2.2.2 j h0 h1)⟩
 |undo=>rw[hp]at b h2;exact h2.same (fun p h0 h1=>(b.h p).2 ⟨h0,h1⟩) hs
 |write=>rw[hp]at b h2;exact⟨h2.1.same (fun p h0 h1=>(b.h p).2 (.inl (.inl (show p=t.head by omega)))) hs,h2.2.same (fun p h0 h1=>(b.h p).2 (.inr ⟨h0,h1⟩)) hs⟩
 |look=>rw[hp]at b h2;exact h2.same (fun p h0 h1=>(b.h p).2 ⟨h0,h1⟩) hs
def RnIn (c:Int) (σ:Ab) (t:Rn):Prop:=zaz σ c (zf2 t)/\zz8 c σ t
theorem zj2{t:Rn}(b:t.ph= .look)(hc:t.c=c)(f:zaz σ c (.pages t.head t.at'))(hb:zfr σ t.head t.at'):RnIn c σ t:=by
 refine⟨?_,hc,?_⟩
 ·unfold zf2;rw[b];exact f
 rw[b];exact hb
theorem zk6{t:Rn}(j:t.found=false)(hd:t.done=false)(l:t.next=5)(hc:t.c=c)(f:zaz σ c (.run t.head (t.i+1) (t.head+t.pages)))(h1:zfr σ t.head (t.head+1))(h2:zfr σ (t.i+1) (t.head+t.pages)):RnIn c σ t.written:=by
 unfold Rn.written;split
 ·rename_i e;have b:({t with i:=t.i+1,found:=true,done:=true}:Rn).ph= .found:=by unfold Rn.ph;rw[if_pos rfl]
  refine⟨?_,hc,?_⟩
  ·unfold zf2;rw[b];dsimp only;rw[e]at f;exact f
  rw[b];exact h1
 have b:({t with i:=t.i+1}:Rn).ph= .write:=by unfold Rn.ph;dsimp only;rw[j,hd,l];rfl
 refine⟨?_,hc,?_⟩
 ·unfold zf2;rw[b];exact f
 rw[b];exact⟨h1,h2⟩
theorem zw9{t:Rn}(f:t.found=false)(hd:t.done=false)(hc:t.c=c)(l:1<=t.pages)(j:t.head<=t.at')(b:zaz σ c (.pages t.head (t.at'+1)))(hb:zfr σ t.head (t.at'+1)):RnIn c σ t.own:=by
 unfold Rn.own;split
 ·rename_i e;refine zk6 f hd rfl hc ?_ (fun p i h0 h1=>hb p i h0 (by dsimp only at h1;omega)) (fun p i h0 h1=>hb p i (by dsimp only at h0;omega) (by dsimp only at h1;omega));dsimp only;rw[e]at b;exact b.eqv (Own.z2n (by omega))
 refine zj2 ?_ hc b hb;unfold Rn.ph;dsimp only;rw[f,hd];rfl
theorem ztf{t:Rn}(f:t.found=false)(hd:t.done=false)(n:t.next=4)(hc:t.c=c)(j:zaz σ c (.pages t.head t.i))(hb:zfr σ t.head t.i):RnIn c σ (t.gone s):=by
 unfold Rn.gone;split
 ·have l:t.ph= .undo:=by unfold Rn.ph;rw[f,hd,n];rfl
  refine⟨?_,hc,?_⟩
  ·unfold zf2;rw[l];exact j
  rw[l];exact hb
 rename_i m;have b:zaz σ c .no:=j.eqv (Own.zi7 (by omega));rcases Bool.eq_false_or_eq_true (decide (s.p-t.pages<t.at'+1)) with e|e
 ·rw[e];refine⟨?_,hc,?_⟩
  ·unfold zf2 Rn.ph;dsimp only;rw[f];exact b
  unfold Rn.ph;dsimp only;rw[f];trivial
 rw[e];refine zj2 ?_ hc (b.eqv (Own.zi7 (by dsimp only;omega)).symm) (fun p i h0 h1=>by dsimp only at h0 h1;omega);unfold Rn.ph;dsimp only;rw[f];rfl
theorem zmj{t:Rn}(f:t.found=false)(hd:t.done=false)(hc:t.c=c)(b:zaz σ c (.pages t.head t.at'))(hb:zfr σ t.head t.at'):RnIn c σ (t.miss s):=
 ztf (t:= {t with next:=4,i:=t.at'}) f hd rfl hc b hb
structure z8t (s:Sh) (c:Int) (σ:Ab) (r:Rn × Ab):Prop where
 kept:Kept s c σ r.2
 at':RnIn c r.2 r.1
 calm:Calm σ r.2
theorem ycn{t:Rn}(hs:mayB s.p s.c s.m=true)(G:GI s σ)(hk:rnOk s t)(hd:t.done=false)(h:RnIn c σ t):z8t s c σ (rnA s t σ):=by
 have r:t.found=false:=zb7 (fun e=>⟨(hk.fd e).1,trivial⟩) hd;obtain⟨c1,c2,c3,c4,c5,c6,c7,c8,c9,S⟩:=hk.cl hd;obtain⟨o,hc,hi⟩:=h;rw[hc]at c1;unfold rnA;rw[if_neg (by rw[hd];decide)];have quiet:∀ t',RnIn c σ t'->z8t s c σ (t',σ):=fun t' h=>⟨Kept.refl G,h,Calm.refl _⟩;by_cases h0:t.next=0
 ·rw[if_pos h0];have E:t.ph= .look:=by unfold Rn.ph;rw[r,hd,h0];rfl
  unfold zf2 at o;rw[E]at o hi;have H:RnIn c σ (t.miss s):=zmj r hd hc o hi;cases F:σ.pg t.at' with
  |empty=>refine quiet _ (zj2 ?_ hc o hi);unfold Rn.ph;dsimp only;rw[r,hd];rfl
  |super k b=>
   refine quiet _ ⟨?_,hc,?_⟩
   ·have:({t with next:=2,strip:=some (zfa s t.c t.at' k)}:Rn).ph= .strip (zfa s t.c t.at' k):=by unfold Rn.ph;dsimp only;rw[r,hd];rfl
    unfold zf2;rw[this];exact(o.eqv (Own.Eqv.zeb _).symm).eqv (.add _ (zia rfl rfl).symm)
   have:({t with next:=2,strip:=some (zfa s t.c t.at' k)}:Rn).ph= .strip (zfa s t.c t.at' k):=by unfold Rn.ph;dsimp only;rw[r,hd];rfl
   rw[this];exact⟨hi,rfl,hc,fun _ _=>rfl⟩
  |_=>exact quiet _ H
 rw[if_neg h0];by_cases h1:t.next=1
 ·rw[if_pos h1];have E:t.ph= .look:=by unfold Rn.ph;rw[r,hd,h1];rfl
  unfold zf2 at o;rw[E]at o hi;have hr:=c6 (by omega);by_cases F:σ.pg t.at'= .empty
  ·rw[if_pos F,hc];have l:=zm3 G (.inl F);refine⟨zi0 G F (by omega) c1,zw9 r hd hc c2.1 c4.1 ((zh4 G o F).eqv (Own.zks c4.1)) (fun p i a b=>?_),zdt (fun n e=>by cases e) (fun n e=>by rw[F]at e;cases e)⟩;show σ.sl p i= .none;by_cases e:p=t.at'
   ·rw[e];exact l i
   exact hi p i a (by omega)
  rw[if_neg F];exact quiet _ (zmj r hd hc o hi)
 rw[if_neg h1];by_cases h2:t.next=2
 ·rw[if_pos h2];obtain⟨x,F,b3,b1⟩:=c7 h2;have hr:=c6 (by omega);have E:t.ph= .strip x:=by unfold Rn.ph;rw[r,hd,h2,F];rfl
  unfold zf2 at o;rw[E]at o hi;obtain⟨hb,N,b2⟩:=hi;rw[F];dsimp only;obtain⟨⟨U,O,g3⟩,V,g5⟩:=z4c G b3 b1 (R:=Own.pages t.head t.at') (fun _ _ e=>e) o b2;have B:zfr (spA s x σ).2 t.head t.at':=fun p i a b=>by
   have b5:σ.pg p= .held c:=(o.h p).2 (.inl ⟨a,b⟩);have M:p≠x.page:=by omega
   rw[<-hb p i a b];have b6:∀ q u,q≠p->(σ.page q u).sl p i=σ.sl p i:=fun q u _=>rfl;unfold spA;split
   ·rfl
   split
   ·exact zbq _ _ (fun e=>M e.1)
   split
   ·rfl
   split
   ·exact zbq _ _ (fun e=>M e.1)
   rfl
  rcases Bool.eq_false_or_eq_true (spA s x σ).1.held with e|e
  ·rw[if_pos e];have z:({t with strip:=some (spA s x σ).1,next:=3,i:=0}:Rn).ph= .clear:=by unfold Rn.ph;dsimp only;rw[r,hd];rfl
   refine⟨U,⟨?_,hc,?_⟩,V⟩
   ·unfold zf2;rw[z];have:zhd (spA s x σ).1= .page t.at':=by unfold zhd;rw[if_pos e,g5,N]
    rw[this]at O;exact O.eqv (Own.zks c4.1)
   rw[z];exact⟨c4.1,B,fun j a b=>by dsimp only at b;omega⟩
  rw[if_neg (by rw[e];decide)];rcases Bool.eq_false_or_eq_true (spA s x σ).1.done with C|C
  ·rw[if_pos C];have X:=g3.2 C e;exact⟨U,zmj (t:= {t with strip:=some (spA s x σ).1}) r hd hc ((O.eqv (.add _ (zia e X))).eqv (.zeb _)) B,V⟩
  rw[if_neg (by rw[C];decide)];have z:({t with strip:=some (spA s x σ).1}:Rn).ph= .strip (spA s x σ).1:=by unfold Rn.ph;dsimp only;rw[r,hd,h2];rfl
  refine⟨U,⟨?_,hc,?_⟩,V⟩
  ·unfold zf2;rw[z];exact O
  rw[z];exact⟨B,g5.trans N,g3⟩
 rw[if_neg h2];by_cases h3:t.next=3
 ·rw[if_pos h3];have hr:=c6 (by omega);have h8:=c8 h3;have E:t.ph= .clear:=by unfold Rn.ph;rw[r,hd,h3];rfl
  unfold zf2 at o;rw[E]at o hi;have f:σ.pg t.at'= .held c:=(o.h _).2 ⟨c4.1,by omega⟩;have L:=zgw G f (i:=t.i) (u:= .none) (.inl rfl);have I:=ziy (i:=t.i) (u:= .none) o f;have Z:Calm σ (σ.slot t.at' t.i .none):=zdn (fun n e=>by cases e) (fun n e=>by rcases zgg G f t.i with C|C;(rw[C]at e;cases e);(rw[C.1]at e;cases e));have B:zfr (σ.slot t.at' t.i .none) t.head t.at':=fun p i a b=>by rw[zbq _ _ (fun e=>by omega)];exact hi.2.1 p i a b
  have hj:∀ j,0<=j->j<t.i+1->(σ.slot t.at' t.i .none).sl t.at' j= .none:=fun j a b=>by
   by_cases e:j=t.i
   ·subst e;exact zbs _ _ _ _
   rw[zbq _ _ (fun C=>e C.2)];exact hi.2.2 j a (by omega)
  refine⟨L,?_,Z⟩;by_cases e:t.i+1=16
  ·rw[if_pos e];refine zw9 (t:= {t with i:=t.i+1}) r hd hc c2.1 c4.1 I (fun p i a b=>?_);dsimp only at b;by_cases ep:p=t.at'
   ·subst ep;by_cases J:0<=i/\i<16
    ·exact hj i J.1 (by omega)
    have:(σ.slot t.at' t.i .none).pg t.at'= .held c:=f;rcases zgg L.1 this i with T|T
    ·exact T
    exact absurd T.2 J
   exact B p i a (by omega)
  rw[if_neg e];have z:({t with i:=t.i+1}:Rn).ph= .clear:=by unfold Rn.ph;dsimp only;rw[r,hd,h3];rfl
  refine⟨?_,hc,?_⟩
  ·unfold zf2;rw[z];exact I
  rw[z];exact⟨c4.1,B,hj⟩
 rw[if_neg h3];by_cases h4:t.next=4
 ·rw[if_pos h4];have h9:=c9 h4;have E:t.ph= .undo:=by unfold Rn.ph;rw[r,hd,h4];rfl
  unfold zf2 at o;rw[E]at o hi
  have y:zaz σ c ((Own.pages t.head (t.i-1)).add (.page (t.i-1))):=o.eqv (by
   have:=Own.zks (lo:=t.head) (hi:=t.i-1) (by omega)
   rw[show t.i-1+1=t.i by omega]at this
   exact this.symm)
  have f:σ.pg (t.i-1)= .held c:=(y.h _).2 (.inr rfl);have D:∀ q,σ.pg q≠ .body (t.i-1):=fun q e=>by rcases(y.b q _).1 ⟨e,f⟩ with e|e<;>exact e
  have l:∀ i,σ.sl (t.i-1) i= .none:=fun i=>hi _ i (by omega) (by omega);refine⟨zg7 G f l D,ztf (t:= {t with i:=t.i-1}) r hd h4 hc (zi1 y (fun e=>by have C:t.i-1<t.i-1:=e.2;omega) D) (fun p i a b=>hi p i a (by have b:p<t.i-1:=b;omega)),zdt (fun n e=>by cases e) (fun n e=>by rw[f]at e;cases e)⟩
 rw[if_neg h4];have Y:t.next=5:=by omega
 have b4:=S Y;have E:t.ph= .write:=by unfold Rn.ph;rw[r,hd,Y];rfl
 unfold zf2 at o;rw[E]at o hi
 have y:zaz σ c ((((Own.page t.head).add (.bodies t.head (t.head+1) t.i)).add (.pages (t.i+1) (t.head+t.pages))).add (.page t.i)):=o.eqv (by
  refine⟨fun p=>?_,fun p g=>?_,fun _ _ _=>?_⟩<;>simp only[Own.run,Own.add,Own.page,Own.bodies,Own.pages,or_false,false_or,iff_false,false_iff]<;>(try omega))
 have f:σ.pg t.i= .held c:=(y.h _).2 (.inr rfl);have b0:σ.pg t.head= .held c:=(y.h _).2 (.inl (.inl (.inl rfl)));have D:∀ q,σ.pg q≠ .body t.i:=fun q e=>by
  rcases(y.b q _).1 ⟨e,f⟩ with((e|e)|e)|e
  ·exact e
  ·have:=e.1;omega
  ·exact e
  exact e
 have l:∀ i,σ.sl t.i i= .none:=fun i=>hi.2 _ i (by omega) (by omega);refine⟨zqm G f l D b0 (by omega),zk6 r hd Y hc ?_ hi.1 (fun p i a b=>hi.2 p i (by omega) b),zdt (fun n e=>by cases e) (fun n e=>by rw[f]at e;cases e)⟩;refine(zn5 y ?_ D (.inl (.inl rfl)) (by omega)).eqv ?_
 ·intro e;simp only[Own.add,Own.page,Own.bodies,Own.pages,or_false,false_or]at e;omega
 refine⟨fun p=>?_,fun p g=>?_,fun _ _ _=>?_⟩<;>simp only[Own.run,Own.add,Own.page,Own.bodies,Own.pages,or_false,false_or,iff_false,false_iff]<;>(try omega)
end

section

open Go.RowKit

attribute [local go_sem ↓] Go.wp_at_zero Go.wp_at_succ

theorem zyq(s:Sh)(c k a n:Int)(w:World)(hk:1<=k/\k<=4):
  Calls Tryz.prog 55 #[.agg #[s.p,s.c,s.m],c,.agg #[k,a,n]] w fun e w'=>e= .returned (.tuple #[.int .i64 (zjw s c k a n),.bool (ziu s c k a n)])/\Below w.heap.size w w':=by
 have B:=fun W=>zxk s a W;have J:=fun W=>zo1 n W;have y:=fun W=>zau s.p s.c s.m a W;have q:=fun W=>zur n W;obtain⟨z,l,F⟩:=hidv (zdl s c k a n);obtain⟨D,b,I⟩:=hidv (zk8 s k n);unfold zjw ziu;rw[<-F,<- I];clear F I;unfold zdl at l;unfold zk8 at b;generalize zae s.p s.c s.m a=sx at *;generalize spB s a=there at *;generalize lenB n=E at *;generalize wi n 33 512=large at *;generalize lenV n=ln at *;generalize runV n=pages at *;generalize (if there=true then a/64 else 0)=pg at *;generalize (if there=true then a%64 else 0)=b9 at *;obtain⟨sp,M,N⟩:=s;dsimp only at B y l b ⊢;replace B:=hd' B;replace J:=hd' J;replace y:=hd' y;replace q:=hd' q;have U:=((Below.refl w.heap.size w).alloc lr (.cells #[sp,M,N] 23)).alloc (by simp) (.cells #[k,a,n] 33);have V:zaa ((w.alloc (.cells #[sp,M,N] 23)).alloc (.cells #[k,a,n] 33)) w.heap.size #[sp,M,N] 23:=zaa.alloc (heap_alloc_new _ _) _;have Y:zaa ((w.alloc (.cells #[sp,M,N] 23)).alloc (.cells #[k,a,n] 33)) (w.heap.size+1) #[k,a,n] 33:=by have h:=heap_alloc_new (w.alloc (.cells #[sp,M,N] 23)) (.cells #[k,a,n] 33);rw[show (w.alloc (.cells #[sp,M,N] 23)).heap.size=w.heap.size+1 by simp]at h;exact h
 go_in;go_upto_region 1 with fail;generalize (w.alloc (.cells #[sp,M,N] 23)).alloc (.cells #[k,a,n] 33)=X at *;obtain⟨G,hG,O⟩:∃ G,Hid (G=w.heap.size+1)/\G=w.heap.size+1:=⟨_,hd' rfl,rfl⟩;simp only[<-O]at Y ⊢;clear O;obtain⟨H,hH,R⟩:=hidv w.heap.size;rw[<-R]at V ⊢;clear R;have b0:=V.cell;obtain⟨Z,d1,d2⟩:=ci3 k a n Y.cell;have lH:=V.lt;have lG:=Y.lt;go_upto_region 3 with(first|(go_at_call 84;(with_reducible refine(J.out _).mono ?_);rintro r w1 ⟨rfl,b5⟩;obtain rfl:=b5.symm)|(go_at_call 85;(with_reducible refine(B.out _).mono ?_);rintro r w2 ⟨rfl,b⟩));have s0:=V.below b;have s1:=Y.below b;have i:=zab U b;clear b0 Z d1 d2 lH lG U b V Y;have b7:=s0.cell;obtain⟨Z,d1,d2⟩:=ci3 k a n s1.cell;have lH:=s0.lt;have lG:=s1.lt;have b3:k=1\/k=2\/k=3\/k=4:=by omega
 clear hk;rcases b3 with rfl|rfl|rfl|rfl;case inl=>
  cases E;case false=>obtain rfl:z=true:=l.out.trans (by simp);go_wp2_with fail;go_returns;exact⟨rfl,i⟩
  case true=>
   obtain rfl:z=false:=l.out.trans (by simp);cases large;case false=>obtain rfl:D=false:=b.out.trans (by simp);go_wp2_with (go_at_call 86;(with_reducible refine(q.out _).mono ?_);rintro r C ⟨rfl,j⟩;obtain rfl:=j.symm);go_returns;exact⟨rfl,i⟩
   case true=>
    by_cases L:sp<pages
    ·obtain rfl:D=true:=b.out.trans (by simp[L]);go_wp2_with (go_at_call 86;(with_reducible refine(q.out _).mono ?_);rintro r C ⟨rfl,j⟩;obtain rfl:=j.symm);go_returns;exact⟨rfl,i⟩
    obtain rfl:D=false:=b.out.trans (by simp[L]);have b4:decide (sp<pages)=false:=decide_eq_false L;go_wp2_with (go_at_call 86;(with_reducible refine(q.out _).mono ?_);rintro r C ⟨rfl,j⟩;obtain rfl:=j.symm);go_returns;exact⟨rfl,i⟩
 case inr.inl=>
  obtain rfl:D=false:=b.out.trans (by simp);cases there;case false=>obtain rfl:z=true:=l.out.trans (by simp);go_wp2_with fail;go_returns;exact⟨rfl,i⟩
  case true=>obtain rfl:z=false:=l.out.trans (by simp);go_wp2_with (go_at_call 86;(with_reducible refine(q.out _).mono ?_);rintro r C ⟨rfl,j⟩;obtain rfl:=j.symm);go_returns;exact⟨rfl,i⟩
 case inr.inr.inl=>
  cases E;case false=>obtain rfl:z=true:=l.out.trans (by simp);go_wp2_with fail;go_returns;exact⟨rfl,i⟩
  case true=>
   cases there;case false=>obtain rfl:z=true:=l.out.trans (by simp);go_wp2_with fail;go_returns;exact⟨rfl,i⟩
   case true=>
    obtain rfl:z=false:=l.out.trans (by simp);cases large;case false=>obtain rfl:D=false:=b.out.trans (by simp);go_wp2_with (go_at_call 86;(with_reducible refine(q.out _).mono ?_);rintro r C ⟨rfl,j⟩;obtain rfl:=j.symm);go_returns;exact⟨rfl,i⟩
    case true=>
     by_cases L:sp<pages
     ·obtain rfl:D=true:=b.out.trans (by simp[L]);go_wp2_with (go_at_call 86;(with_reducible refine(q.out _).mono ?_);rintro r C ⟨rfl,j⟩;obtain rfl:=j.symm);go_returns;exact⟨rfl,i⟩
     obtain rfl:D=false:=b.out.trans (by simp[L]);have b4:decide (sp<pages)=false:=decide_eq_false L;go_wp2_with (go_at_call 86;(with_reducible refine(q.out _).mono ?_);rintro r C ⟨rfl,j⟩;obtain rfl:=j.symm);go_returns;exact⟨rfl,i⟩
 case inr.inr.inr=>
  obtain rfl:D=false:=b.out.trans (by simp);by_cases hs:sx<0
  ·obtain rfl:z=true:=l.out.trans (by simp[hs]);go_wp2_with (go_at_call 22;(with_reducible refine(y.out _).mono ?_);rintro r C ⟨rfl,o⟩);go_returns;exact⟨rfl,zab i o⟩
  have b8:decide (sx<0)=false:=decide_eq_false hs;by_cases S:a=c
  ·subst S;obtain rfl:z=true:=l.out.trans (by simp);go_wp2_with (go_at_call 22;(with_reducible refine(y.out _).mono ?_);rintro r C ⟨rfl,o⟩;have e1:=zai o _ _ _ d1;have e0:=zai o _ _ _ Z);go_returns;exact⟨rfl,zab i o⟩
  have T:(a==c)=false:=by simpa using S
  obtain rfl:z=false:=l.out.trans (by simp[hs,T]);go_wp2_with (first|(go_at_call 22;(with_reducible refine(y.out _).mono ?_);rintro r C ⟨rfl,o⟩;have e1:=zai o _ _ _ d1;have e0:=zai o _ _ _ Z;have e2:=zai o _ _ _ d2)|(go_at_call 86;(with_reducible refine(q.out _).mono ?_);rintro r w4 ⟨rfl,b6⟩;obtain rfl:=b6.symm));go_returns;exact⟨rfl,zab i o⟩
theorem z81:(Tryz.prog.info? 81).map (fun i=>(i.zero,i.size,i.bytes))=some (some (.int .u64 0),1,8):=by kernel_rfl
theorem zv8(n:Nat)(l:n<=100000):∀ u:World,(Instr.makeSlice 51 (.int .i64 (n:Int)) (.int .i64 (n:Int))).run Tryz.prog u= .ok (.slice (some ⟨u.heap.size,0,.none⟩) n n) (u.alloc (.cells (madeCells #[.int .u64 0] n) 81)):=fun u=>by
 obtain⟨j,hi,b,f,i⟩:=info_parts z81
 have h:=run_make (P:=Tryz.prog) u 51 81 j (.int .u64 0) Tryz.underlying51 hi b .i64 .i64 (n:Int) (n:Int) (by omega) (Int.le_refl _) (by rw[i];omega) (by omega)
 rw[Int.toNat_natCast]at h
 simpa[f,Value.cells] using h
def zgj (n:Nat):Mem:=⟨List.replicate n 0,0,⟨0,0,0,0,0,false⟩⟩
theorem zxf(n:Nat):madeCells #[.int .u64 0] n=rowW (List.replicate n 0):=by
 apply Array.toList_inj.1;rw[toList_madeCells_one];simp[rowW]
theorem zoj(n:Nat):(zgj n).fit:=fun x b=>by
 rw[List.eq_of_mem_replicate b];exact⟨by decide,by decide⟩
theorem z7s(n:Nat)(j:n<=2000)(w:World):
  Calls Tryz.prog 44 #[.int .i64 (n:Int)] w fun e w'=>∃ p b,e= .returned (.pointer (some ⟨p,0,.none⟩))/\zaq w' p b (zgj n)/\w.heap.size<=p/\w.heap.size<=b/\Below w.heap.size w w':=by
 have i:=zv8 n (by omega);have h1:decide ((n:Int)<0)=false:=decide_eq_false (by omega);have h2:decide ((2000:Int)<(n:Int))=false:=decide_eq_false (by omega);go_in;go_wp2_with fail;go_returns;refine⟨_,w.heap.size,rfl,⟨by simp,?_,?_,zoj n,by simp[zgj];omega,by simp[zgj]⟩,by simp,Nat.le_refl _,?_⟩
 ·have h:=heap_alloc_new (w.alloc (.cells (madeCells #[.int .u64 0] n) 81)) (.cells (zio w.heap.size (zgj n)) 132);simpa[zio,zgj] using h
 ·have h:=heap_alloc_new w (.cells (madeCells #[.int .u64 0] n) 81);rw[zxf]at h;have h2:=zaa.alloc (T:=81) h (.cells (zio w.heap.size (zgj n)) 132);simpa[zio,zgj,zaa,zxf] using h2
 exact(br.alloc lr _).alloc (by simp) _
theorem z5o(p b:Nat)(m:Mem)(a x:Int)(w:World)(h:zaq w p b m)(j:m.has a)(q:0<=x/\x<18446744073709551616):
  Calls Tryz.prog 58 #[some p,a,.int .u64 x] w fun e w'=>e= .returned (.bool true)/\zaq w' p b ⟨m.ws.set a.toNat x,m.st,m.la⟩/\Only (fun k=>k=b) w w':=by
 have h1:=hd' (zvd p b m a w h j);have l:=hd' (h.put j q);obtain⟨n,y,i⟩:=hidv m.ws.length;have B:w.cell? ⟨p,0,.none⟩=some (.slice (some ⟨b,0,.none⟩) n n):=by rw[i];exact zac h.blk 0
 have C:=h.cell j;have D:=zax h.row;have a0:(0:Int)<=a:=j.1;have t:a<(n:Int):=by rw[i];exact j.2
 clear i h j;go_in;go_wp2_with (go_at_call 63;refine h1.out.mono ?_;rintro r z ⟨rfl,o⟩;obtain rfl:=o.symm);go_returns;exact⟨rfl,l.out,Only.setCell (F:=fun k=>k=b) (Only.refl _ _) (.inl rfl) _⟩
theorem zoh(p b:Nat)(m:Mem)(w:World)(h:zaq w p b m):
  Calls Tryz.prog 51 #[some p] w fun e w'=>e= .returned (.int .i64 m.st)/\w'=w:=by
 have i:w.cell? ⟨p,1,.none⟩=some (.int .i64 m.st):=zac h.blk 1;clear h;go_in;go_wp2_with fail;go_returns;exact⟨rfl,rfl⟩
theorem z4k(p b:Nat)(m:Mem)(w:World)(h:zaq w p b m):
  Calls Tryz.prog 53 #[some p] w fun e w'=>e= .returned (accV m.la)/\Below w.heap.size w w':=by
 unfold accV;have z:=(Below.refl w.heap.size w).alloc lr (.cells #[.int .i64 0,.int .i64 0,.int .i64 0,.int .u64 0,.int .u64 0,.bool false] 116);have y:zaa (w.alloc (.cells #[.int .i64 0,.int .i64 0,.int .i64 0,.int .u64 0,.int .u64 0,.bool false] 116)) w.heap.size #[.int .i64 0,.int .i64 0,.int .i64 0,.int .u64 0,.int .u64 0,.bool false] 116:=heap_alloc_new _ _;have r:=h.below z;have F:w.heap.size≠p:=fun e=>by have:=h.ltp;omega
 obtain⟨la,B⟩:∃ la,la=m.la:=⟨_,rfl⟩;have G:(w.alloc (.cells #[.int .i64 0,.int .i64 0,.int .i64 0,.int .u64 0,.int .u64 0,.bool false] 116)).cell? ⟨p,2,.none⟩=some (.int .i64 m.la.c):=zac r.blk 2;have H:(w.alloc (.cells #[.int .i64 0,.int .i64 0,.int .i64 0,.int .u64 0,.int .u64 0,.bool false] 116)).cell? ⟨p,3,.none⟩=some (.int .i64 m.la.k):=zac r.blk 3;have I:(w.alloc (.cells #[.int .i64 0,.int .i64 0,.int .i64 0,.int .u64 0,.int .u64 0,.bool false] 116)).cell? ⟨p,4,.none⟩=some (.int .i64 m.la.a):=zac r.blk 4;have J:(w.alloc (.cells #[.int .i64 0,.int .i64 0,.int .i64 0,.int .u64 0,.int .u64 0,.bool false] 116)).cell? ⟨p,5,.none⟩=some (.int .u64 m.la.was):=zac r.blk 5;have L:(w.alloc (.cells #[.int .i64 0,.int .i64 0,.int .i64 0,.int .u64 0,.int .u64 0,.bool false] 116)).cell? ⟨p,6,.none⟩=some (.int .u64 m.la.put):=zac r.blk 6;have M:(w.alloc (.cells #[.int .i64 0,.int .i64 0,.int .i64 0,.int .u64 0,.int .u64 0,.bool false] 116)).cell? ⟨p,7,.none⟩=some (.bool m.la.ok):=zac r.blk 7;rw[<-B]at G H I J L M ⊢;clear h r B;obtain⟨l,n,lp,q,o,lo⟩:=la;dsimp only at G H I J L M ⊢;go_in;go_upto_region 1 with fail;generalize w.alloc (.cells #[.int .i64 0,.int .i64 0,.int .i64 0,.int .u64 0,.int .u64 0,.bool false] 116)=X at *;obtain⟨E,O,j⟩:=hidv w.heap.size;rw[<-j]at y F ⊢;have i:w.heap.size<=E:=by omega
 clear j;have lE:=y.lt;have Z:=zax y;have N:=y.cell;go_wp2_with fail;have C:zaa ((((((X.setCell ⟨E,0,.none⟩ (.int .i64 l)).setCell ⟨E,1,.none⟩ (.int .i64 n)).setCell ⟨E,2,.none⟩ (.int .i64 lp)).setCell ⟨E,3,.none⟩ (.int .u64 q)).setCell ⟨E,4,.none⟩ (.int .u64 o)).setCell ⟨E,5,.none⟩ (.bool lo)) E #[l,n,lp,.int .u64 q,.int .u64 o,lo] 116:=((((((y.set 0 (.int .i64 l)).set 1 (.int .i64 n)).set 2 (.int .i64 lp)).set 3 (.int .u64 q)).set 4 (.int .u64 o)).set 5 (.bool lo));have D:Below w.heap.size w ((((((X.setCell ⟨E,0,.none⟩ (.int .i64 l)).setCell ⟨E,1,.none⟩ (.int .i64 n)).setCell ⟨E,2,.none⟩ (.int .i64 lp)).setCell ⟨E,3,.none⟩ (.int .u64 q)).setCell ⟨E,4,.none⟩ (.int .u64 o)).setCell ⟨E,5,.none⟩ (.bool lo)):=((((((z.setCell (p:=⟨E,0,.none⟩) i (.int .i64 l)).setCell (p:=⟨E,1,.none⟩) i (.int .i64 n)).setCell (p:=⟨E,2,.none⟩) i (.int .i64 lp)).setCell (p:=⟨E,3,.none⟩) i (.int .u64 q)).setCell (p:=⟨E,4,.none⟩) i (.int .u64 o)).setCell (p:=⟨E,5,.none⟩) i (.bool lo));generalize (((((X.setCell ⟨E,0,.none⟩ (.int .i64 l)).setCell ⟨E,1,.none⟩ (.int .i64 n)).setCell ⟨E,2,.none⟩ (.int .i64 lp)).setCell ⟨E,3,.none⟩ (.int .u64 q)).setCell ⟨E,4,.none⟩ (.int .u64 o)).setCell ⟨E,5,.none⟩ (.bool lo)=U at *;obtain⟨r0,R,S⟩:=ci3 l n lp C.cell;have T:=ce (.int .u64 q) (C.cell 3);have V:=ce (.int .u64 o) (C.cell 4);have Y:=ce (.bool lo) (C.cell 5);exact bodyPost_ret (v:= .agg #[l,n,lp,.int .u64 q,.int .u64 o,lo]) (by simp[results,Tryz.results53,go_sem,r0,R,S,T,V,Y]) rfl ⟨rfl,D⟩
theorem z5x(xs:List Int)(v:Value)(w:World)(F:RdS w 1 v xs.length (xs.map (Value.int .u64)))(E:xs.length<=2000):
  Calls Tryz.prog 69 #[v] w fun e w'=>∃ v',e= .returned v'/\Below w.heap.size w w'/\w'.ownsRow w.heap.size 81 1 v' xs.length (xs.map (Value.int .u64)):=by
 obtain⟨ao,cap,rfl,D,G,J,o⟩:=id F;have n:∀ W:World,(binOp .eql 51 (.slice ao xs.length cap) (.slice none 0 0)).run Tryz.prog W= .ok (.bool ao.isNone) W:=fun W=>Lib.run_eql_slice_nil W _ _ ao _ _ _ _ Tryz.underlying51;rcases ao with _|ad
 ·have H:xs= []:=by
   rcases xs with _|⟨b,l⟩
   ·rfl
   obtain⟨_,_,h,_⟩:=o (by simp);cases h
  subst H;replace n:∀ W:World,(binOp .eql 51 (.slice none 0 cap) (.slice none 0 0)).run Tryz.prog W= .ok (.bool true) W:=n;show Calls Tryz.prog 69 #[.slice none 0 cap] w _;go_in;go_wp2;go_ret;exact⟨_,rfl,Below.refl _ _,⟨rfl,.inl ⟨rfl,rfl⟩⟩⟩
 obtain⟨I,q,y,z,B⟩:=info_parts z81;have m:(w.alloc (.cells #[] 81)).ownsRow w.heap.size 81 1 (.slice (some ⟨w.heap.size,0,.none⟩) 0 0) 0 []:=World.ownsRow_lit w #[] 0 lr (Nat.zero_le _) rfl;have r:RdS (w.alloc (.cells #[] 81)) 1 (.slice (some ad) xs.length cap) xs.length (xs.map (Value.int .u64)):=RdS.alloc F _;go_in;go_wp2_with (refine zay rfl (.tmp 5) (.tmp 6) 51 rfl w.heap.size 81 I _ 1 8 Tryz.underlying51 q y z B rfl (by omega) _ 0 [] rfl m _ xs.length (xs.map (Value.int .u64)) rfl r (by intro c hc;obtain⟨x,_,rfl⟩:=List.mem_map.1 hc;rfl) (by simp only[maxLen];omega) (by omega) (by simp) ?_;intro L M i j C;have p:=zaw ((Below.refl w.heap.size w).alloc lr _) m (by simp) j);go_ret;rw[Nat.zero_add,List.nil_append]at i;exact⟨_,rfl,p,i⟩
theorem zaq.rd{w:World}{p b:Nat}{m:Mem}(h:zaq w p b m):RdS w 1 (.slice (some ⟨b,0,.none⟩) m.ws.length m.ws.length) m.ws.length (m.ws.map (Value.int .u64)):=by
 have h2:=RdS.new (sz:=1) (n:=m.ws.length) h.row (by simp[rowW]) (by have:=h.few;omega);simpa[rowW] using h2
theorem z8c(p b:Nat)(m:Mem)(w:World)(h:zaq w p b m):
  Calls Tryz.prog 38 #[some p] w fun e w'=>∃ v',e= .returned v'/\Below w.heap.size w w'/\w'.ownsRow w.heap.size 81 1 v' m.ws.length (m.ws.map (Value.int .u64)):=by
 have o:w.cell? ⟨p,0,.none⟩=some (.slice (some ⟨b,0,.none⟩) m.ws.length m.ws.length):=zac h.blk 0;have hc:=hd' (z5x m.ws _ w h.rd h.few);go_in;go_wp2_with (go_at_call 69;refine hc.out.mono ?_;rintro e n ⟨l,rfl,i,j⟩);go_ret;exact⟨_,rfl,i,j⟩
end

end Go.Proofs.YtedcnffebdpmmaaGreat
