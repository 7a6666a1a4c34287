
import Derived.Test.YtkilokkopbajkaaGreatBw9

import Derived.Test.YtkilokkopbajkaaGreatBw10

import Derived.Test.YtkilokkopbajkaaGreatBw21

set_option linter.all false
namespace Go.Proofs.YtkilokkopbajkaaGreat

open RowKit

attribute [local go_sem ↓] wp_at_zero wp_at_succ

attribute [local go_sem] CA KB

section

variable {s:Sh}{σ σ':Ab}{c:Int}

def mG (s:Sh):Mc->Own
 |.tk t=>KF t
 |.sc t=>HF s t
 |.pc t=>LF s t
 |.sp t=>AD t
 |.bn t=>BD t
def kJ (c:Int) (σ:Ab):Mc->Prop
 |.tk t=>YG c σ t
 |.sc t=>t.c=c
 |.pc t=>t.c=c
 |.sp t=>iL c t
 |.bn t=>pI c σ t
def QO (s:Sh) (t:Sk):Mc->Prop
 |.sp x=>x.page=t.here s
 |.bn x=>x.page=t.page/\x.k=t.k
 |_=>True
theorem pY{x:Mc}(j:GI s σ)(l:mcOk s x)(hd:x.done=false)(i:xA σ c (Own.no.add (mG s x)))(hi:kJ c σ x):
  Goes s c σ (mcA s x σ) .no (mG s) (kJ c)/\Calm σ (mcA s x σ).2/\∀t,QO s t x->QO s t (mcA s x σ).1:=by
 cases x with
 |tk t=>obtain⟨⟨a,b,d⟩,e⟩:=SY (t:=t) j l hd i hi;exact⟨⟨a,b,d⟩,e,λ_ _=>trivial⟩
 |sc t=>obtain⟨⟨a,b,d⟩,e⟩:=QY (t:=t) j l hd i hi;exact⟨⟨a,b,d⟩,e,λ_ _=>trivial⟩
 |pc t=>obtain⟨⟨a,b,d⟩,e⟩:=KY (t:=t) j l hd i hi;exact⟨⟨a,b,d⟩,e,λ_ _=>trivial⟩
 |sp t=>obtain⟨⟨a,b,d⟩,e,f⟩:=QT (t:=t) j l hd (λ_ _ h=>h) i hi;exact⟨⟨a,b,d⟩,e,λ_ h=>f.trans h⟩
 |bn t=>obtain⟨⟨a,b,d⟩,e,f,g⟩:=FY (t:=t) j l hd id (λ_ h=>h) (λ_ _ h=>h) i hi;exact⟨⟨a,b,d⟩,e,λ_ h=>⟨f.trans h.1,g.trans h.2⟩⟩
theorem kJ.same{x:Mc}(b:xA σ c (Own.no.add (mG s x)))(h:kJ c σ x)(hs:Same c σ σ'):kJ c σ' x:=by
 cases x with
 |tk t=>exact YG.same h hs
 |sc t=>exact h
 |pc t=>exact h
 |sp t=>exact h;|bn t=>
  refine pI.same h (λhb=>?_) hs;have f:BD t=.page t.page:=by unfold BD;rw[hb];rfl
  have b:xA σ c (Own.no.add (BD t)):=b;rw[f]at b;exact(b.h t.page).2 (.inr rfl)
def lC (s:Sh) (t:Sk):Own:=if t.found=true then .way t.page t.slot t.k else match t.now with
 |some x=>mG s x
 |none=>.no
structure bE (s:Sh) (c:Int) (σ:Ab) (t:Sk):Prop where
 cl:t.c=c
 dn:t.done=true->t.found=false->t.now=none
 now:t.found=false->∀x,t.now=some x->kJ c σ x/\QO s t x
theorem qH{t:Sk}{x:Mc}(b:t.found=false)(f:t.now=some x):lC s t=mG s x:=by unfold lC;rw[b,f];rfl
theorem WJ{t:Sk}(b:t.found=false)(f:t.now=none):lC s t=.no:=by unfold lC;rw[b,f];rfl
theorem bE.same{t:Sk}(i:xA σ c (Own.no.add (lC s t)))(h:bE s c σ t)(hs:Same c σ σ'):bE s c σ' t:=by
 refine⟨h.cl,h.dn,λb x f=>⟨?_,(h.now b x f).2⟩⟩;rw[qH b f]at i;exact(h.now b x f).1.same i hs
theorem zy0{s:Sh}{c p k:Int}(hs:mayB s.p s.c s.m=true)(hc:0<=c/\c<s.c)(f:0<=p/\p<s.p)(b:0<mA k):(mC s c p k).done=false:=by
 have hb:=JA.1 hs;have h1:uA s.p s.c s.m c=c:=by unfold uA;rw[jP ⟨hs,BA.2 (by omega)⟩]
 have h2:pA s.p s.c s.m p=s.c+p:=by unfold pA;rw[jP ⟨hs,BA.2 (by omega)⟩]
 simp only[mC,h1,h2];simp;omega
theorem Own.z2j(p k:Int):(Own.ways p 0 k).Eqv .no:=by
 exact⟨λ_=>.rfl,λ_ _=>.rfl,λq i b=>⟨λh=>by have h1:=h.2.1;omega,λh=>h.elim⟩⟩
theorem Own.z8j(p k:Int):(Own.ways p 1 k).Eqv (Own.way p 0 k):=by
 refine⟨λ_=>.rfl,λ_ _=>.rfl,λq i b=>?_⟩;simp only[Own.ways,Own.way];omega
theorem VL{t:Sp}(b:t.held=false)(h0:t.i=0):(AD t).Eqv .no:=by
 unfold AD;rw[b,h0];exact Own.z2j _ _
theorem zu3{t:Sk}{x:Mc}(hs:mayB s.p s.c s.m=true)(G:skOk s t)(hd:t.done=false)(E:t.now=some x)(C:x.done=true)(f:xA σ c (Own.no.add (lC s t)))(hi:bE s c σ t):
  xA σ c (Own.no.add (lC s (t.after s x)))/\bE s c σ (t.after s x):=by
 have r:t.found=false:=VD G.fd hd;obtain⟨c1,c2,c3,c4,c5⟩:=G.cl hd;obtain⟨m1,m2⟩:=c5 x E;obtain⟨H,I⟩:=hi.now r x E;rw[qH r E]at f;have hc:=hi.cl;have hb:=JA.1 hs;have D:∀y:Option Mc,(t.done=true->t.found=false->y=none):=λy e=>by rw[hd]at e;cases e
 have l:∀p:Int,(0<=p/\p<s.p)->xA σ c (Own.no.add (.page p))->xA σ c (Own.no.add (lC s (t.bind s p)))/\bE s c σ (t.bind s p):=λp M f=>by
  refine⟨?_,⟨hc,D _,λ_ y F=>?_⟩⟩
  .rw[qH (t:=t.bind s p) (x:=.bn (mC s t.c p t.k)) r rfl];exact f
  injection F with F;subst F;refine⟨⟨hc,λ_ j h0 h1=>?_,λe=>?_⟩,⟨rfl,rfl⟩⟩
  .simp only[mC]at h1;omega
  rw[zy0 hs c1 M c2]at e;cases e
 cases x with
 |tk y=>
  simp only[Sk.after];have B:y.k=t.k:=m2;split
  .rename_i b;have h1:=(m1.en (m1.fd b).1).2.2;refine⟨?_,⟨hc,λ_ e=>(by cases e),λe=>(by cases e)⟩⟩;have:lC s (t.fin y.ep y.es)=KF y:=by unfold lC KF;rw[jP b,h1,B];rfl
   rw[this];exact f
  rename_i b;have q:mG s (.tk y)=.no:=by show KF y=_;unfold KF;rw[jN b]
  rw[q]at f;refine⟨?_,⟨hc,D _,λ_ z n=>?_⟩⟩
  .rw[qH (t:={t with now:=some (.sc (eD s t.c t.k t.first))}) (x:=.sc (eD s t.c t.k t.first)) r rfl];exact f
  injection n with n;subst n;exact⟨hc,trivial⟩
 |sc y=>
  simp only[Sk.after];have B:y.k=t.k:=m2;split
  .rename_i b;refine⟨?_,⟨hc,λ_ e=>(by cases e),λe=>(by cases e)⟩⟩;have:lC s (t.fin (y.page s) y.i)=HF s y:=by unfold lC HF;rw[jP b,B];rfl
   rw[this];exact f
  rename_i b;have q:mG s (.sc y)=.no:=by show HF s y=_;unfold HF;rw[jN b]
  rw[q]at f;refine⟨?_,⟨hc,D _,λ_ z n=>?_⟩⟩
  .rw[qH (t:={t with now:=some (.pc (mE s t.c t.first))}) (x:=.pc (mE s t.c t.first)) r rfl];exact f
  injection n with n;subst n;exact⟨hc,trivial⟩
 |pc y=>
  simp only[Sk.after];split
  .rename_i b;have q:mG s (.pc y)=.page (y.page s):=by show LF s y=_;unfold LF;rw[jP b]
   rw[q]at f;exact l _ (bJ (by omega)) f
  rename_i b;have q:mG s (.pc y)=.no:=by show LF s y=_;unfold LF;rw[jN b]
  rw[q]at f;refine⟨?_,⟨hc,λ_ _=>rfl,λ_ z n=>by cases n⟩⟩;rw[WJ (t:={t with now:=none}) r rfl];exact f
 |sp y=>
  simp only[Sk.after];have o:y.page=t.here s:=I;split
  .rename_i b;have q:mG s (.sp y)=.page y.page:=by show AD y=_;unfold AD;rw[jP b]
   rw[q,o]at f;exact l _ (bJ (by omega)) f
  rename_i b;have h0:=H.2 C (by simpa using b);refine⟨?_,⟨hc,λ_ _=>rfl,λ_ z n=>by cases n⟩⟩;rw[WJ (t:=t.turn s) r rfl];exact f.eqv (.add _ (VL (by simpa using b) h0))
 |bn y=>
  simp only[Sk.after];have o:y.page=t.page/\y.k=t.k:=I;have h0:=H.2.2 C;refine⟨?_,⟨hc,λ_ e=>(by cases e),λe=>(by cases e)⟩⟩;have J:lC s (t.fin t.page 0)=.way t.page 0 t.k:=rfl;have L:mG s (.bn y)=.ways t.page 1 t.k:=by show BD y=_;unfold BD;rw[jP h0.1,h0.2,o.1,o.2];rfl
  rw[L]at f;rw[J];exact f.eqv (.add _ (Own.z8j _ _))
theorem KU(hs:mayB s.p s.c s.m=true)(n:Nat):∀{t:Sk},skOk s t->xA σ c (Own.no.add (lC s t))->bE s c σ t->xA σ c (Own.no.add (lC s (OA s n t)))/\bE s c σ (OA s n t):=by
 induction n with
 |zero=>intro t _ b hi;exact⟨b,hi⟩;|succ n j=>
  intro t f b hi;unfold OA;split
  .rename_i x i;split
   .rename_i hc;have h1:=zu3 hs f hc.1 i hc.2 b hi;exact j (WL f hc.1 i hc.2 (JA.1 hs).1) h1.1 h1.2
   exact⟨b,hi⟩
  exact⟨b,hi⟩
theorem qY{m:Mem}{t:Sk}(E:Rep s m σ)(o:GI s σ)(C:skOk s t)(n:sI t)(hd:t.done=false)(l:xA σ c (Own.no.add (lC s t)))(hi:bE s c σ t):
  Goes s c σ (skA s t σ) .no (lC s) (bE s c)/\Calm σ (skA s t σ).2:=by
 have hs:=E.may;have i:t.found=false:=VD C.fd hd;obtain⟨c1,c2,c3,c4,c5⟩:=C.cl hd;unfold skA;rw[jN (by rw[hd];decide)];cases hx:t.now with
 |some x=>
  have r:x.done=false:=by
   rcases n with e|e|⟨y,e,F⟩
   .rw[hd]at e;cases e
   .rw[hx]at e;cases e
   rw[hx]at e;injection e with e;subst e;exact F
  obtain⟨N,O⟩:=hi.now i x hx;rw[qH i hx]at l;obtain⟨⟨G,H,I⟩,J,L⟩:=pY o (c5 x hx).1 r l N;have p:skOk s {t with now:=some (mcA s x σ).1}:=by refine⟨λ_=>⟨c1,c2,c3,c4,λz B=>?_⟩,λe=>(by have e:t.found=true:=e;rw[i]at e;cases e)⟩;injection B with B;subst B;rw[<-(fU E o (c5 x hx).1).1];exact⟨jM m (c5 x hx).1,QL (t:=t) m (c5 x hx).2⟩
  have M:xA (mcA s x σ).2 c (Own.no.add (lC s {t with now:=some (mcA s x σ).1})):=by rw[qH (t:={t with now:=some (mcA s x σ).1}) (x:=(mcA s x σ).1) i rfl];exact H
  have q:bE s c (mcA s x σ).2 {t with now:=some (mcA s x σ).1}:=⟨hi.cl,λe=>(by have e:t.done=true:=e;rw[hd]at e;cases e),λ_ y f=>by
   injection f with f;subst f
   refine⟨I,?_⟩
   have:=L t O
   cases hm:(mcA s x σ).1<;>rw[hm]at this<;>exact this⟩
  have h1:=KU hs 5 p M q;exact⟨⟨G,h1.1,h1.2⟩,J⟩
 |none=>
  rw[WJ i hx]at l
  have D:∀t':Sk,lC s t'=.no\/(lC s t').Eqv .no->bE s c σ t'->Goes s c σ (t',σ) .no (lC s) (bE s c)/\Calm σ σ:=λt' h1 h2=>by
   refine⟨⟨Kept.refl o,?_,h2⟩,Calm.refl _⟩
   rcases h1 with h1|h1
   .rw[h1];exact l
   .exact l.eqv (.add _ h1.symm)
  have j:Goes s c σ (t.turn s,σ) .no (lC s) (bE s c)/\Calm σ σ:=D _ (.inl (WJ (t:=t.turn s) i rfl)) ⟨hi.cl,λ_ _=>rfl,λ_ y f=>by cases f⟩
  dsimp only
  cases hp:σ.pg (t.here s) with
  |super k b=>
   refine D _ (.inr ?_) ⟨hi.cl,λe=>(by have e:t.done=true:=e;rw[hd]at e;cases e),λ_ y f=>?_⟩
   .rw[qH (t:={t with now:=some (.sp (VB s t.c (t.here s) k))}) (x:=.sp (VB s t.c (t.here s) k)) i rfl]
    exact VL rfl rfl
   .injection f with f;subst f
    exact⟨⟨hi.cl,λ_ _=>rfl⟩,rfl⟩
  |_=>exact j
def Own.run (h lo hi:Int):Own:=((Own.page h).add (.bodies h (h+1) lo)).add (.pages lo hi)
inductive RnPh
 |found
 |dead
 |strip (x:Sp)
 |clear
 |undo
 |write
 |look
def Rn.ph (t:Rn):RnPh:=
 if t.found=true then .found else if t.done=true then .dead else if t.next=2 then (match t.strip with|some x=>.strip x|none=>.look)
 else if t.next=3 then .clear else if t.next=4 then .undo else if t.next=5 then .write else .look
def VC (t:Rn):Own:=match t.ph with
 |.found=>.run t.head (t.head+t.pages) (t.head+t.pages)
 |.dead=>.no
 |.strip x=>(Own.pages t.head t.at').add (AD x)
 |.clear=>.pages t.head (t.at'+1)
 |.undo=>.pages t.head t.i
 |.write=>.run t.head t.i (t.head+t.pages)
 |.look=>.pages t.head t.at'
def LC (σ:Ab) (lo hi:Int):Prop:=∀p i,lo<=p->p<hi->σ.sl p i=.none
def DK (c:Int) (σ:Ab) (t:Rn):Prop:=t.c=c/\match t.ph with
 |.found=>LC σ t.head (t.head+1)
 |.dead=>True
 |.strip x=>LC σ t.head t.at'/\x.page=t.at'/\iL c x
 |.clear=>t.head<=t.at'/\LC σ t.head t.at'/\∀j,0<=j->j<t.i->σ.sl t.at' j=.none
 |.undo=>LC σ t.head t.i
 |.write=>LC σ t.head (t.head+1)/\LC σ t.i (t.head+t.pages)
 |.look=>LC σ t.head t.at'
theorem Own.pP{lo hi:Int}(h:hi<=lo):(Own.pages lo hi).Eqv .no:=by
 exact⟨λp=>⟨λh=>by have h1:=h.1;have h2:=h.2;omega,λh=>h.elim⟩,λ_ _=>.rfl,λ_ _ _=>.rfl⟩
theorem Own.BP{lo hi:Int}(h:lo<=hi):((Own.pages lo hi).add (.page hi)).Eqv (.pages lo (hi+1)):=by
 refine⟨λp=>?_,λ_ _=>or_iff_left id,λ_ _ _=>or_iff_left id⟩;simp only[Own.add,Own.page,Own.pages];omega
theorem Own.z2n{h hi:Int}(b:h<hi):(Own.pages h hi).Eqv (.run h (h+1) hi):=by
 refine⟨λp=>?_,λp g=>?_,λ_ _ _=>?_⟩<;>simp only[Own.run,Own.add,Own.page,Own.bodies,Own.pages,or_false,false_or,iff_false,false_iff]<;>(try omega)
theorem LC.same{lo hi:Int}(h:LC σ lo hi)(b:∀p,lo<=p->p<hi->σ.pg p=.held c)(hs:Same c σ σ'):LC σ' lo hi:=λp i h0 h1=>(hs.hs p i (b p h0 h1)).trans (h p i h0 h1)
theorem DK.same{t:Rn}(b:xA σ c (VC t))(h:DK c σ t)(hs:Same c σ σ'):DK c σ' t:=by
 obtain⟨h1,h2⟩:=h;refine⟨h1,?_⟩;unfold VC at b;cases hp:t.ph with
 |found=>rw[hp]at b h2;exact h2.same (λp h0 h1=>(b.h p).2 (.inl (.inl (show p=t.head by omega)))) hs
 |dead=>trivial;|strip x=>rw[hp]at b h2;exact⟨h2.1.same (λp h0 h1=>(b.h p).2 (.inl ⟨h0,h1⟩)) hs,h2.2⟩
 |clear=>rw[hp]at b h2;exact⟨h2.1,h2.2.1.same (λp h0 h1=>(b.h p).2 ⟨h0,by omega⟩) hs,λj h0 h1=>(hs.hs _ _ ((b.h _).2 ⟨h2.1,by omega⟩)).trans (h2.2.2 j h0 h1)⟩
 |undo=>rw[hp]at b h2;exact h2.same (λp h0 h1=>(b.h p).2 ⟨h0,h1⟩) hs
 |write=>rw[hp]at b h2;exact⟨h2.1.same (λp h0 h1=>(b.h p).2 (.inl (.inl (show p=t.head by omega)))) hs,h2.2.same (λp h0 h1=>(b.h p).2 (.inr ⟨h0,h1⟩)) hs⟩
 |look=>rw[hp]at b h2;exact h2.same (λp h0 h1=>(b.h p).2 ⟨h0,h1⟩) hs
def RnIn (c:Int) (σ:Ab) (t:Rn):Prop:=xA σ c (VC t)/\DK c σ t
theorem cM{t:Rn}(b:t.ph=.look)(hc:t.c=c)(f:xA σ c (.pages t.head t.at'))(hb:LC σ t.head t.at'):RnIn c σ t:=by
 refine⟨?_,hc,?_⟩
 .unfold VC;rw[b];exact f
 rw[b];exact hb
theorem JU{t:Rn}(j:t.found=false)(hd:t.done=false)(l:t.next=5)(hc:t.c=c)(f:xA σ c (.run t.head (t.i+1) (t.head+t.pages)))(h1:LC σ t.head (t.head+1))(h2:LC σ (t.i+1) (t.head+t.pages)):RnIn c σ t.written:=by
 unfold Rn.written;split
 .rename_i e;have b:({t with i:=t.i+1,found:=true,done:=true}:Rn).ph=.found:=by unfold Rn.ph;rw[jP rfl]
  refine⟨?_,hc,?_⟩
  .unfold VC;rw[b];dsimp only;rw[e]at f;exact f
  rw[b];exact h1
 have b:({t with i:=t.i+1}:Rn).ph=.write:=by unfold Rn.ph;dsimp only;rw[j,hd,l];rfl
 refine⟨?_,hc,?_⟩
 .unfold VC;rw[b];exact f
 rw[b];exact⟨h1,h2⟩
theorem AX{t:Rn}(f:t.found=false)(hd:t.done=false)(hc:t.c=c)(l:1<=t.pages)(j:t.head<=t.at')(b:xA σ c (.pages t.head (t.at'+1)))(hb:LC σ t.head (t.at'+1)):RnIn c σ t.own:=by
 unfold Rn.own;split
 .rename_i e;refine JU f hd rfl hc ?_ (λp i h0 h1=>hb p i h0 (by dsimp only at h1;omega)) (λp i h0 h1=>hb p i (by dsimp only at h0;omega) (by dsimp only at h1;omega));dsimp only;rw[e]at b;exact b.eqv (Own.z2n (by omega))
 refine cM ?_ hc b hb;unfold Rn.ph;dsimp only;rw[f,hd];rfl
theorem aX{t:Rn}(f:t.found=false)(hd:t.done=false)(n:t.next=4)(hc:t.c=c)(j:xA σ c (.pages t.head t.i))(hb:LC σ t.head t.i):RnIn c σ (t.gone s):=by
 unfold Rn.gone;split
 .have l:t.ph=.undo:=by unfold Rn.ph;rw[f,hd,n];rfl
  refine⟨?_,hc,?_⟩
  .unfold VC;rw[l];exact j
  rw[l];exact hb
 rename_i m;have b:xA σ c .no:=j.eqv (Own.pP (by omega));rcases jB (decide (s.p-t.pages<t.at'+1)) with e|e
 .rw[e];refine⟨?_,hc,?_⟩
  .unfold VC Rn.ph;dsimp only;rw[f];exact b
  unfold Rn.ph;dsimp only;rw[f];trivial
 rw[e];refine cM ?_ hc (b.eqv (Own.pP (by dsimp only;omega)).symm) (λp i h0 h1=>by dsimp only at h0 h1;omega);unfold Rn.ph;dsimp only;rw[f];rfl
theorem HP{t:Rn}(f:t.found=false)(hd:t.done=false)(hc:t.c=c)(b:xA σ c (.pages t.head t.at'))(hb:LC σ t.head t.at'):RnIn c σ (t.miss s):=
 aX (t:={t with next:=4,i:=t.at'}) f hd rfl hc b hb
structure aU (s:Sh) (c:Int) (σ:Ab) (r:Rn×Ab):Prop where
 kept:Kept s c σ r.2
 at':RnIn c r.2 r.1
 calm:Calm σ r.2
theorem AZ{t:Rn}(hs:mayB s.p s.c s.m=true)(G:GI s σ)(hk:rnOk s t)(hd:t.done=false)(h:RnIn c σ t):aU s c σ (rnA s t σ):=by
 have r:t.found=false:=VD (λe=>⟨(hk.fd e).1,trivial⟩) hd;obtain⟨c1,c2,c3,c4,c5,c6,c7,c8,c9,S⟩:=hk.cl hd;obtain⟨o,hc,hi⟩:=h;rw[hc]at c1;unfold rnA;rw[jN (by rw[hd];decide)];have quiet:∀t',RnIn c σ t'->aU s c σ (t',σ):=λt' h=>⟨Kept.refl G,h,Calm.refl _⟩;by_cases h0:t.next=0
 .rw[jP h0];have E:t.ph=.look:=by unfold Rn.ph;rw[r,hd,h0];rfl
  unfold VC at o;rw[E]at o hi;have H:RnIn c σ (t.miss s):=HP r hd hc o hi;cases F:σ.pg t.at' with
  |empty=>refine quiet _ (cM ?_ hc o hi);unfold Rn.ph;dsimp only;rw[r,hd];rfl
  |super k b=>
   refine quiet _ ⟨?_,hc,?_⟩
   .have:({t with next:=2,strip:=some (VB s t.c t.at' k)}:Rn).ph=.strip (VB s t.c t.at' k):=by unfold Rn.ph;dsimp only;rw[r,hd];rfl
    unfold VC;rw[this];exact(o.eqv (Own.Eqv.kD _).symm).eqv (.add _ (VL rfl rfl).symm)
   have:({t with next:=2,strip:=some (VB s t.c t.at' k)}:Rn).ph=.strip (VB s t.c t.at' k):=by unfold Rn.ph;dsimp only;rw[r,hd];rfl
   rw[this];exact⟨hi,rfl,hc,λ_ _=>rfl⟩
  |_=>exact quiet _ H
 rw[jN h0];by_cases h1:t.next=1
 .rw[jP h1];have E:t.ph=.look:=by unfold Rn.ph;rw[r,hd,h1];rfl
  unfold VC at o;rw[E]at o hi;have hr:=c6 (by omega);by_cases F:σ.pg t.at'=.empty
  .rw[jP F,hc];have l:=oK G (.inl F);refine⟨uU G F (by omega) c1,AX r hd hc c2.1 c4.1 ((tU G o F).eqv (Own.BP c4.1)) (λp i a b=>?_),xG (λn e=>by cases e) (λn e=>by rw[F]at e;cases e)⟩;show σ.sl p i=.none;by_cases e:p=t.at'
   .rw[e];exact l i
   exact hi p i a (by omega)
  rw[jN F];exact quiet _ (HP r hd hc o hi)
 rw[jN h1];by_cases h2:t.next=2
 .rw[jP h2];obtain⟨x,F,b3,b1⟩:=c7 h2;have hr:=c6 (by omega);have E:t.ph=.strip x:=by unfold Rn.ph;rw[r,hd,h2,F];rfl
  unfold VC at o;rw[E]at o hi;obtain⟨hb,N,b2⟩:=hi;rw[F];dsimp only;obtain⟨⟨U,O,g3⟩,V,g5⟩:=QT G b3 b1 (R:=Own.pages t.head t.at') (λ_ _ e=>e) o b2;have B:LC (spA s x σ).2 t.head t.at':=λp i a b=>by
   have b5:σ.pg p=.held c:=(o.h p).2 (.inl ⟨a,b⟩);have M:p≠x.page:=by omega
   rw[<-hb p i a b];have b6:∀q u,q≠p->(σ.page q u).sl p i=σ.sl p i:=λq u _=>rfl;unfold spA;split
   .rfl
   split
   .exact WD _ _ (λe=>M e.1)
   split
   .rfl
   split
   .exact WD _ _ (λe=>M e.1)
   rfl
  rcases jB (spA s x σ).1.held with e|e
  .rw[jP e];have z:({t with strip:=some (spA s x σ).1,next:=3,i:=0}:Rn).ph=.clear:=by unfold Rn.ph;dsimp only;rw[r,hd];rfl
   refine⟨U,⟨?_,hc,?_⟩,V⟩
   .unfold VC;rw[z];have:AD (spA s x σ).1=.page t.at':=by unfold AD;rw[jP e,g5,N]
    rw[this]at O;exact O.eqv (Own.BP c4.1)
   rw[z];exact⟨c4.1,B,λj a b=>by dsimp only at b;omega⟩
  rw[jN (by rw[e];decide)];rcases jB (spA s x σ).1.done with C|C
  .rw[jP C];have X:=g3.2 C e;exact⟨U,HP (t:={t with strip:=some (spA s x σ).1}) r hd hc ((O.eqv (.add _ (VL e X))).eqv (.kD _)) B,V⟩
  rw[jN (by rw[C];decide)];have z:({t with strip:=some (spA s x σ).1}:Rn).ph=.strip (spA s x σ).1:=by unfold Rn.ph;dsimp only;rw[r,hd,h2];rfl
  refine⟨U,⟨?_,hc,?_⟩,V⟩
  .unfold VC;rw[z];exact O
  rw[z];exact⟨B,g5.trans N,g3⟩
 rw[jN h2];by_cases h3:t.next=3
 .rw[jP h3];have hr:=c6 (by omega);have h8:=c8 h3;have E:t.ph=.clear:=by unfold Rn.ph;rw[r,hd,h3];rfl
  unfold VC at o;rw[E]at o hi;have f:σ.pg t.at'=.held c:=(o.h _).2 ⟨c4.1,by omega⟩;have L:=mP G f (i:=t.i) (u:=.none) (.inl rfl);have I:=zU (i:=t.i) (u:=.none) o f;have Z:Calm σ (σ.slot t.at' t.i .none):=uG (λn e=>by cases e) (λn e=>by rcases NI G f t.i with C|C;(rw[C]at e;cases e);(rw[C.1]at e;cases e));have B:LC (σ.slot t.at' t.i .none) t.head t.at':=λp i a b=>by rw[WD _ _ (λe=>by omega)];exact hi.2.1 p i a b
  have hj:∀j,0<=j->j<t.i+1->(σ.slot t.at' t.i .none).sl t.at' j=.none:=λj a b=>by
   by_cases e:j=t.i
   .subst e;exact pF _ _ _ _
   rw[WD _ _ (λC=>e C.2)];exact hi.2.2 j a (by omega)
  refine⟨L,?_,Z⟩;by_cases e:t.i+1=16
  .rw[jP e];refine AX (t:={t with i:=t.i+1}) r hd hc c2.1 c4.1 I (λp i a b=>?_);dsimp only at b;by_cases ep:p=t.at'
   .subst ep;by_cases J:0<=i/\i<16
    .exact hj i J.1 (by omega)
    have:(σ.slot t.at' t.i .none).pg t.at'=.held c:=f;rcases NI L.1 this i with T|T
    .exact T
    exact absurd T.2 J
   exact B p i a (by omega)
  rw[jN e];have z:({t with i:=t.i+1}:Rn).ph=.clear:=by unfold Rn.ph;dsimp only;rw[r,hd,h3];rfl
  refine⟨?_,hc,?_⟩
  .unfold VC;rw[z];exact I
  rw[z];exact⟨c4.1,B,hj⟩
 rw[jN h3];by_cases h4:t.next=4
 .rw[jP h4];have h9:=c9 h4;have E:t.ph=.undo:=by unfold Rn.ph;rw[r,hd,h4];rfl
  unfold VC at o;rw[E]at o hi
  have y:xA σ c ((Own.pages t.head (t.i-1)).add (.page (t.i-1))):=o.eqv (by
   have:=Own.BP (lo:=t.head) (hi:=t.i-1) (by omega)
   rw[show t.i-1+1=t.i by omega]at this
   exact this.symm)
  have f:σ.pg (t.i-1)=.held c:=(y.h _).2 (.inr rfl);have D:∀q,σ.pg q≠.body (t.i-1):=λq e=>by rcases(y.b q _).1 ⟨e,f⟩ with e|e<;>exact e
  have l:∀i,σ.sl (t.i-1) i=.none:=λi=>hi _ i (by omega) (by omega);refine⟨iP G f l D,aX (t:={t with i:=t.i-1}) r hd h4 hc (vU y (λe=>by have C:t.i-1<t.i-1:=e.2;omega) D) (λp i a b=>hi p i a (by have b:p<t.i-1:=b;omega)),xG (λn e=>by cases e) (λn e=>by rw[f]at e;cases e)⟩
 rw[jN h4];have Y:t.next=5:=by omega
 have b4:=S Y;have E:t.ph=.write:=by unfold Rn.ph;rw[r,hd,Y];rfl
 unfold VC at o;rw[E]at o hi
 have y:xA σ c ((((Own.page t.head).add (.bodies t.head (t.head+1) t.i)).add (.pages (t.i+1) (t.head+t.pages))).add (.page t.i)):=o.eqv (by
  refine⟨λp=>?_,λp g=>?_,λ_ _ _=>?_⟩<;>simp only[Own.run,Own.add,Own.page,Own.bodies,Own.pages,or_false,false_or,iff_false,false_iff]<;>(try omega))
 have f:σ.pg t.i=.held c:=(y.h _).2 (.inr rfl);have b0:σ.pg t.head=.held c:=(y.h _).2 (.inl (.inl (.inl rfl)));have D:∀q,σ.pg q≠.body t.i:=λq e=>by
  rcases(y.b q _).1 ⟨e,f⟩ with((e|e)|e)|e
  .exact e
  .have:=e.1;omega
  .exact e
  exact e
 have l:∀i,σ.sl t.i i=.none:=λi=>hi.2 _ i (by omega) (by omega);refine⟨zqm G f l D b0 (by omega),JU r hd Y hc ?_ hi.1 (λp i a b=>hi.2 p i (by omega) b),xG (λn e=>by cases e) (λn e=>by rw[f]at e;cases e)⟩;refine(zn5 y ?_ D (.inl (.inl rfl)) (by omega)).eqv ?_
 .intro e;simp only[Own.add,Own.page,Own.bodies,Own.pages,or_false,false_or]at e;omega
 refine⟨λp=>?_,λp g=>?_,λ_ _ _=>?_⟩<;>simp only[Own.run,Own.add,Own.page,Own.bodies,Own.pages,or_false,false_or,iff_false,false_iff]<;>(try omega)
end

theorem zxu(q2:Nat)(cs:Array Value)(g:Bool)(w:World)(h:aA w q2 cs 246)(m:cs[14]?=some (.bool g)):
  Calls Tryz.prog 242 #[.agg #[some q2]] w λe w'=>e=.returned (.bool g)/\Below w.heap.size w w':=by
 have i:=(Below.refl w.heap.size w).alloc lr (.cells #[some q2] 212);have t0:=jA w (.cells #[some q2] 212);go_in;go_upto_region 1 with fail;generalize w.alloc (.cells #[some q2] 212)=X at*;have j:=UL q2 cs g X (h.below i) m;replace j:=hd' j;obtain⟨H,o,b⟩:=hidv w.heap.size;rw[<-b]at t0|-;clear b;have p:H<X.heap.size:=(jE t0);have n:=iA t0;clear h t0;clear m;go_wp2_with (go_at_call 163;(with_reducible refine j.out.mono ?_);rintro r q ⟨rfl,l⟩;obtain rfl:=l.symm);go_returns;exact⟨rfl,i⟩
theorem z2s(q2:Nat)(cs:Array Value)(g:Bool)(w:World)(h:aA w q2 cs 246)(m:cs[14]?=some (.bool g)):
  Calls Tryz.prog 241 #[.agg #[some q2]] w λe w'=>e=.returned (.int .i64 (if g=true then 0 else 1))/\Below w.heap.size w w':=by
 have i:=(Below.refl w.heap.size w).alloc lr (.cells #[some q2] 212);have t0:=jA w (.cells #[some q2] 212);go_in;go_upto_region 1 with fail;generalize w.alloc (.cells #[some q2] 212)=X at*;have j:=UL q2 cs g X (h.below i) m;replace j:=hd' j;obtain⟨H,o,b⟩:=hidv w.heap.size;rw[<-b]at t0|-;clear b;have p:H<X.heap.size:=(jE t0);have n:=iA t0;clear h t0;clear m;cases g;all_goals go_wp2_with (go_at_call 163;(with_reducible refine j.out.mono ?_);rintro r q ⟨rfl,l⟩;obtain rfl:=l.symm);go_returns;exact⟨rfl,i⟩
theorem zz3(q2:Nat)(s:Sh)(t:Ad)(w:World)(h:aA w q2 (CA s t) 252):
  Calls Tryz.prog 263 #[.agg #[some q2]] w λe w'=>e=.returned (.int .i64 t.err)/\Below w.heap.size w w':=by
 have i:=(Below.refl w.heap.size w).alloc lr (.cells #[some q2] 220);have t0:=jA w (.cells #[some q2] 220);go_in;go_upto_region 1 with fail;generalize w.alloc (.cells #[some q2] 220)=X at*;have j:=z0i q2 s t X (h.below i);replace j:=hd' j;obtain⟨H,n,b⟩:=hidv w.heap.size;rw[<-b]at t0|-;clear b;have o:H<X.heap.size:=(jE t0);have m:=iA t0;clear h t0;go_wp2_with (go_at_call 266;(with_reducible refine j.out.mono ?_);rintro r p ⟨rfl,l⟩;obtain rfl:=l.symm);go_returns;exact⟨rfl,i⟩
theorem z1d(q2:Nat)(s:Sh)(t:Rr)(m n o p:Value)(w:World)(h:aA w q2 (KB s t m n o p) 249):
  Calls Tryz.prog 247 #[.agg #[some q2]] w λe w'=>e=.returned (.int .i64 t.err)/\Below w.heap.size w w':=by
 have i:=(Below.refl w.heap.size w).alloc lr (.cells #[some q2] 216);have t0:=jA w (.cells #[some q2] 216);go_in;go_upto_region 1 with fail;generalize w.alloc (.cells #[some q2] 216)=X at*;have j:=zzz q2 s t m n o p X (h.below i);replace j:=hd' j;obtain⟨H,y,b⟩:=hidv w.heap.size;rw[<-b]at t0|-;clear b;have z:H<X.heap.size:=(jE t0);have q:=iA t0;clear h t0;go_wp2_with (go_at_call 250;(with_reducible refine j.out.mono ?_);rintro r B ⟨rfl,l⟩;obtain rfl:=l.symm);go_returns;exact⟨rfl,i⟩
structure Bk where
 a:Int
 n:Int
 deriving DecidableEq
def okK (W:Int):Int->List Bk->Prop
 |lo,[]=>lo<=W
 |lo,b::l=>lo<=b.a/\1<=b.n/\okK W (b.a+b.n) l
theorem okK.le{W:Int}{l:List Bk}:∀{lo:Int},okK W lo l->lo<=W:=by
 induction l with
 |nil=>exact λh=>h
 |cons b l f=>exact λh=>by have:=f h.2.2;have:=h.1;have:=h.2.1;omega
theorem okK.mono{W:Int}{l:List Bk}{lo f:Int}(h:okK W lo l)(i:f<=lo):okK W f l:=by
 cases l with
 |nil=>exact Int.le_trans i h
 |cons b l=>exact⟨Int.le_trans i h.1,h.2⟩
theorem okK.mem{W:Int}{l:List Bk}:∀{lo:Int},okK W lo l->∀b∈l,lo<=b.a/\1<=b.n/\b.a+b.n<=W:=by
 induction l with
 |nil=>exact λ_ b hb=>by cases hb
 |cons c l f=>
  intro lo h b hb;rcases List.mem_cons.1 hb with rfl|hb
  .exact⟨h.1,h.2.1,h.2.2.le⟩
  have:=f h.2.2 b hb;have:=h.1;have:=h.2.1;omega
def posB (at':Int):List Bk->Nat
 | []=>0
 |b::l=>if b.a<at' then posB at' l+1 else 0
def WA (at':Int) (l:List Bk):Bool:=decide (∃b,l[posB at' l]?=some b/\b.a=at')
theorem OQ(at':Int)(l:List Bk):posB at' l<=l.length:=by
 induction l with
 |nil=>exact Nat.le_refl _
 |cons b l f=>simp only[posB,List.length_cons];split<;>omega
theorem sV(at':Int)(l:List Bk)(i:Nat)(hi:i<posB at' l)(h:i<l.length):l[i].a<at':=by
 induction l generalizing i with
 |nil=>simp at h;|cons b l f=>
  simp only[posB]at hi;split at hi
  .rename_i hb;cases i with
   |zero=>exact hb
   |succ i=>exact f i (by omega) (by simpa using h)
  omega
theorem z92(at':Int)(l:List Bk)(h:posB at' l<l.length):at'<=l[posB at' l].a:=by
 induction l with
 |nil=>simp at h;|cons b l f=>
  by_cases hb:b.a<at'
  .simp only[posB,jP hb,List.getElem_cons_succ];exact f (by simpa[posB,hb] using h)
  simp only[posB,jN hb,List.getElem_cons_zero];omega
theorem okK.lt{W:Int}{l:List Bk}{lo:Int}(h:okK W lo l):∀i j (_:i<j) (m:j<l.length),(l[i]'(by omega)).a+(l[i]'(by omega)).n<=l[j].a:=by
 induction l generalizing lo with
 |nil=>exact λi j _ m=>by simp at m
 |cons b l p=>
  intro i j o m
  cases j with
  |zero=>omega
  |succ j=>
   have f:j<l.length:=by simpa using m
   cases i with
   |zero=>exact(h.2.2.mem l[j] (List.getElem_mem f)).1
   |succ i=>exact p h.2.2 i j (by omega) f
theorem oN(at':Int)(l:List Bk)(i:Nat)(hi:i<=l.length)(h1:∀k (_:k<i) (b:k<l.length),l[k].a<at')(h2:∀b:i<l.length,at'<=l[i].a):posB at' l=i:=by
 rcases Nat.lt_trichotomy (posB at' l) i with h|h|h
 .have:=h1 _ h (by omega);have:=z92 at' l (by omega);omega
 .exact h
 have f:=OQ at' l;have:=sV at' l i h (by omega);have:=h2 (by omega);omega
theorem uK(at':Int)(l:List Bk):WA at' l=true↔∃h:posB at' l<l.length,l[posB at' l].a=at':=by
 simp only[WA,decide_eq_true_eq];constructor
 .rintro⟨b,h1,h2⟩;obtain⟨h3,rfl⟩:=List.getElem?_eq_some_iff.1 h1;exact⟨h3,h2⟩
 rintro⟨h1,h2⟩;exact⟨_,List.getElem?_eq_getElem h1,h2⟩
theorem vI{W lo at':Int}{l:List Bk}(h:okK W lo l):WA at' l=true↔∃b∈l,b.a=at':=by
 rw[uK];constructor
 .rintro⟨h1,h2⟩;exact⟨_,List.getElem_mem h1,h2⟩
 rintro⟨b,hb,rfl⟩;obtain⟨i,hi,rfl⟩:=List.getElem_of_mem hb;have m:=oN l[i].a l i (by omega) (λk j f=>by have:=h.lt k i j hi;have:=(h.mem _ (List.getElem_mem f)).2.1;omega) (λ_=>Int.le_refl _);exact⟨by omega,by simp only[m]⟩
def meets (b:Bk) (at' n:Int):Bool:=decide (b.a<at'+n/\at'<b.a+b.n)
def IG (W at' n:Int):Bool:=decide (1<=n/\0<=at'/\at'<=W/\n<=W-at')
def OB (W:Int) (l:List Bk) (at' n:Int):Bool:=IG W at' n && !l.any (λb=>meets b at' n)
def putB (l:List Bk) (at' n:Int):List Bk:=l.take (posB at' l) ++ ⟨at',n⟩::l.drop (posB at' l)
theorem FK{W lo at' n:Int}{l:List Bk}(h:okK W lo l)(f:lo<=at')(j:1<=n)(m:at'+n<=W)(hc:∀b∈l,¬(b.a<at'+n/\at'<b.a+b.n)):okK W lo (putB l at' n):=by
 induction l generalizing lo with
 |nil=>exact⟨f,j,m⟩;|cons b l q=>
  have hb:=hc b (by simp);have h1:=h.2.1;unfold putB;simp only[posB];split
  .rename_i p;simp only[List.take_succ_cons,List.drop_succ_cons,List.cons_append];exact⟨h.1,h.2.1,q h.2.2 (by omega) (λc i=>hc c (by simp[i]))⟩
  rename_i o;simp only[List.take_zero,List.drop_zero,List.nil_append];exact⟨f,j,⟨by show at'+n<=b.a;omega,h.2⟩⟩
def OF (l:List Bk) (at':Int):List Bk:=l.take (posB at' l) ++ l.drop (posB at' l+1)
def nB (l:List Bk) (at':Int):List Bk:=if WA at' l then OF l at' else l
theorem okK.z7t{W lo:Int}{l:List Bk}(h:okK W lo l)(i:Nat):okK W lo (l.take i++l.drop (i+1)):=by
 induction l generalizing lo i with
 |nil=>simpa using h
 |cons b l f=>
  cases i with
  |zero=>simpa using h.2.2.mono (by have:=h.1;have:=h.2.1;omega)
  |succ i=>exact⟨h.1,h.2.1,f h.2.2 i⟩
theorem zL{W at':Int}{l:List Bk}(h:okK W 0 l):okK W 0 (nB l at'):=by
 unfold nB;split
 .exact h.z7t _
 exact h
theorem okK.len{W lo:Int}{l:List Bk}(h:okK W lo l):(l.length:Int)<=W-lo:=by
 induction l generalizing lo with
 |nil=>have:=h.le;simp;omega;|cons b l f=>have:=f h.2.2;have:=h.1;have:=h.2.1;simp only[List.length_cons];omega
end Go.Proofs.YtkilokkopbajkaaGreat
