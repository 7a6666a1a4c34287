/- Texts bound together: InvJ InvK InvL LwA LwB. -/
import Derived.Test.YtkbddndcegpllaaGreatBt23

import Derived.Test.YtkbddndcegpllaaGreatBt28

set_option linter.all false
namespace Go.Proofs.YtkbddndcegpllaaGreat

section

variable {s:Sh} {σ σ':Ab} {c:Int}
inductive RrPh
 | dead
 | res (r:Rs)
 | fre (b:Blk) (f:Fe)
 | und (u:Un)
 | com (u:Cm)
def Rr.ph (t:Rr):RrPh:=if t.done=true then .dead else match t.res,t.free with
 | some r,some f=> if r.done=false then .res r else (match t.undo,t.com with
  | some u,_=> .und u
  | none,some u=> .com u
  | none,none=> match r.got with
   | some b=> .fre b f
   | none=> .dead)
 | _,_=> .dead
def zjm (s:Sh) (t:Rr):Own:=match t.ph with
 | .dead=> .no
 | .res r=> z3j s r
 | .fre b f=> (zgb b).add (ziw f)
 | .und u=> zqs u
 | .com u=> zgb u.b
def z0z (c:Int) (f:Fe):Prop:=f.done=false/\f.next=0/\f.c=c
structure ygt (s:Sh) (c:Int) (σ:Ab) (t:Rr):Prop where
 cl:t.c=c
 ph:match t.ph with
  | .dead=> t.done=true
  | .res r=> z0u s c σ r/\∀ f,t.free=some f->z0z c f
  | .fre b f=> zi6 σ b/\zr5 s c σ (zgb b) f/\f.done=false
  | .und u=> UnAt s c σ u/\u.done=false/\∀ r,t.res=some r->r.got≠none
  | .com u=> zi6 σ u.b/\u.done=false
structure RrAt (s:Sh) (c:Int) (σ:Ab) (t:Rr):Prop where
 ex:zaz σ c (zjm s t)
 inv:ygt s c σ t
theorem RrAt.same{t:Rr}(h:RrAt s c σ t)(hs:Same c σ σ'):RrAt s c σ' t:=by
 obtain⟨j,l,i⟩:=h;refine⟨j.same hs,l,?_⟩;unfold zjm at j;cases hp:t.ph with
 |dead=>rw[hp]at i;exact i;|res r=>rw[hp]at j i;exact⟨(RsAt.same ⟨j,i.1⟩ hs).inv,i.2⟩
 |fre b f=>rw[hp]at j i;exact⟨i.1.same (c:=c) (fun p hb=>(j.h p).2 (.inl hb)) hs,i.2.1.same j hs,i.2.2⟩
 |und u=>rw[hp]at i;exact⟨i.1.same hs,i.2⟩
 |com u=>rw[hp]at j i;exact⟨i.1.same (c:=c) (fun p hb=>(j.h p).2 hb) hs,i.2⟩
theorem zhq{t:Rr}(hd:t.done=true)(hc:t.c=c)(f:zaz σ c .no):RrAt s c σ t:=by
 have b:t.ph= .dead:=by unfold Rr.ph;rw[if_pos hd]
 refine⟨?_,hc,?_⟩
 ·unfold zjm;rw[b];exact f
 rw[b];exact hd
def zb2 (t:Rr):Bool:=match t.free with | some f=> f.gave | none=> false
structure zwj (s:Sh) (c:Int) (σ:Ab) (t:Rr) (r:Rr × Ab):Prop where
 kept:Kept s c σ r.2
 at':RrAt s c r.2 r.1
 gave:∀ f,t.free=some f->zb2 t=false->zb2 r.1=true->(zr4 (feBl f) σ r.2/\f.next=1/\f.done=false)/\r.1.done=false
 took:r.1.done=true->r.1.err=0->∃ x b,r.1.res=some x/\x.got=some b/\Plus (zoa b) σ r.2
 calm:(zb2 t=true\/zb2 r.1=false)->¬ (r.1.done=true/\r.1.err=0)->Calm σ r.2
theorem zmw{a:Int}(hs:mayB s.p s.c s.m=true)(hc:0<=c/\c<s.c)(f:spB s a=true):z0z c (zc2 s c a):=by
 have hb:=zar.1 hs;have b:zae s.p s.c s.m c=c:=by unfold zae;rw[if_pos ⟨hs,zbc.2 (by omega)⟩]
 refine⟨?_,rfl,rfl⟩;simp only[zc2,f,b];simp;omega
theorem z6k{b:Blk}(i:b.fits s c=true)(f:zaz σ c (zgb b))(hi:zi6 σ b):UnAt s c σ (zf1 s c b)/\(zf1 s c b).done=false:=by
 have hd:(zf1 s c b).done=false:=by simp[zf1,i]
 refine⟨⟨?_,fun _=>hi⟩,hd⟩;unfold zqs;rw[if_neg (by rw[hd];decide)];unfold zgb at f;simp only[zf1];rw[show b.page+1+0=b.page+1 by omega];exact f
theorem z1v{t:Rr}{r:Rs}{f:Fe}(hd:t.done=false)(l:t.res=some r)(m:t.free=some f)(h:r.done=false):rrA s t σ=(Rr.settle s {t with res:=some (rsA s r σ).1},(rsA s r σ).2):=by
 obtain⟨q,p,i,j,n,o,b⟩:=t;dsimp only at hd l m;subst hd l m;unfold rrA;exact if_pos h
theorem z3m{t:Rr}{r:Rs}{f:Fe}(hd:t.done=false)(l:t.res=some r)(m:t.free=some f)(h:¬ r.done=false)(q:f.done=false):rrA s t σ=(Rr.settle s {t with free:=some (feA s f σ).1},(feA s f σ).2):=by
 obtain⟨y,p,i,j,n,o,b⟩:=t;dsimp only at hd l m;subst hd l m;unfold rrA;exact(if_neg h).trans (if_pos q)
theorem z2h{t:Rr}{r:Rs}{f:Fe}{u:Un}(hd:t.done=false)(l:t.res=some r)(m:t.free=some f)(h:¬ r.done=false)(q:¬ f.done=false)(hu:t.undo=some u):rrA s t σ=(Rr.settle s {t with undo:=some (unA u σ).1},(unA u σ).2):=by
 obtain⟨y,p,i,j,n,o,b⟩:=t;dsimp only at hd l m hu;subst hd l m hu;unfold rrA;exact(if_neg h).trans (if_neg q)
theorem zz2{t:Rr}{r:Rs}{f:Fe}{u:Cm}(hd:t.done=false)(l:t.res=some r)(m:t.free=some f)(h:¬ r.done=false)(q:¬ f.done=false)(hu:t.undo=none)(hc:t.com=some u):rrA s t σ=(Rr.settle s {t with com:=some (cmA u σ).1},(cmA u σ).2):=by
 obtain⟨y,p,i,j,n,o,b⟩:=t;dsimp only at hd l m hu hc;subst hd l m hu hc;unfold rrA;exact(if_neg h).trans (if_neg q)
theorem zpi{t:Rr}{r:Rs}{f:Fe}(hd:t.done=false)(b:t.res=some r)(i:t.free=some f)(h:r.done=false):t.ph= .res r:=by
 unfold Rr.ph;rw[if_neg (by rw[hd];decide),b,i];exact if_pos h
theorem zl0{t:Rr}{r:Rs}{f:Fe}{u:Un}(hd:t.done=false)(b:t.res=some r)(i:t.free=some f)(h:¬ r.done=false)(hu:t.undo=some u):t.ph= .und u:=by
 unfold Rr.ph;rw[if_neg (by rw[hd];decide),b,i];dsimp only;rw[if_neg h,hu]
theorem zxc{t:Rr}{r:Rs}{f:Fe}{u:Cm}(hd:t.done=false)(b:t.res=some r)(i:t.free=some f)(h:¬ r.done=false)(hu:t.undo=none)(hc:t.com=some u):t.ph= .com u:=by
 unfold Rr.ph;rw[if_neg (by rw[hd];decide),b,i];dsimp only;rw[if_neg h,hu,hc]
theorem zgm{t:Rr}{r:Rs}{f:Fe}(hd:t.done=false)(i:t.res=some r)(j:t.free=some f)(h:¬ r.done=false)(hu:t.undo=none)(hc:t.com=none):t.ph=match r.got with|some b=>.fre b f|none=>.dead:=by
 unfold Rr.ph;rw[if_neg (by rw[hd];decide),i,j];dsimp only;rw[if_neg h,hu,hc]
theorem ybw{m:Mem}{t:Rr}(hr:Rep s m σ)(hg:GI s σ)(M:rrIs s c t)(b9:0<=c/\c<s.c)(hd:t.done=false)(h:RrAt s c σ t):zwj s c σ t (rrA s t σ):=by
 obtain⟨J,hc,hi⟩:=h;obtain⟨r,f,B,z,o1,o2,o3,o4,o5,o6⟩:=M.ok.cl hd;have X:=M.res r B;have b5:=M.fre f z;by_cases o:r.done=false
 ·rw[z1v hd B z o];have V:t.ph= .res r:=zpi hd B z o;have l:t.undo=none/\t.com=none:=by
   constructor
   ·cases hu:t.undo with
    |none=>rfl
    |some u=>obtain⟨Z,O,a1,G,_⟩:=M.mid hd (.inl (by rw[hu];simp));rw[B]at a1;injection a1 with a1;subst a1;rw[o]at G;cases G
   cases hu:t.com with
   |none=>rfl
   |some u=>obtain⟨Z,O,a1,G,_⟩:=M.mid hd (.inr (by rw[hu];simp));rw[B]at a1;injection a1 with a1;subst a1;rw[o]at G;cases G
  unfold zjm at J;rw[V]at J hi;have F:=hi.2 f z;have q:=z1q hr hg X o ⟨J,hi.1⟩;have R:rsIs s c (rsA s r σ).1:=by have:=(zvz (m:=m) X o hr.fi).2.1;rwa [(z0x hr hg o1).1]at this
  have b7:f.gave=false:=b5.gv (by rw[F.2.1];decide);have fin:∀ t':Rr,RrAt s c (rsA s r σ).2 t'->t'.free=some f->¬ (t'.done=true/\t'.err=0)->zwj s c σ t (t',(rsA s r σ).2):=fun t' j y C=>⟨q.kept,j,fun O _ _ e=>(by unfold zb2 at e;dsimp only at e;rw[y]at e;dsimp only at e;rw[b7]at e;cases e),fun a b=>absurd ⟨a,b⟩ C,fun _ _=>q.calm⟩
  rcases zcp s {t with res:=some (rsA s r σ).1} (rsA s r σ).1 f rfl z with⟨j,_⟩|⟨_,j,_⟩|⟨_,_,j,e⟩|⟨_,_,j,y,e⟩|⟨b,_,_,j,y,C,e⟩|⟨b,_,_,_,_,_,_,j,_,e⟩|⟨b,_,_,_,_,_,_,j,_,e⟩
  ·have j:zev t.undo=true:=j;rw[l.1]at j;cases j
  ·have j:zha t.com=true:=j;rw[l.2]at j;cases j
  ·rw[e];refine fin _ ?_ z (fun h=>by have:=h.1;rw[show ({t with res:=some (rsA s r σ).1}:Rr).done=t.done from rfl,hd]at this;cases this);have n:({t with res:=some (rsA s r σ).1}:Rr).ph= .res (rsA s r σ).1:=zpi hd rfl z j;refine⟨?_,hc,?_⟩
   ·unfold zjm;rw[n];exact q.at'.ex
   rw[n];exact⟨q.at'.inv,hi.2⟩
  ·rw[e];exact fin _ (zhq rfl hc ((zkv R j q.at').1 y)) z (fun h=>by have:=h.2;dsimp only at this;omega)
  ·rw[e];obtain⟨b1,b2⟩:=(zkv R j q.at').2 b y;refine fin _ ?_ z (fun h=>by have:=h.1;rw[show ({t with res:=some (rsA s r σ).1}:Rr).done=t.done from rfl,hd]at this;cases this);have n:({t with res:=some (rsA s r σ).1}:Rr).ph= .fre b f:=by rw[zgm (t:= {t with res:=some (rsA s r σ).1}) hd rfl z (by rw[j];decide) l.1 l.2,y]
   have b6:=zib (t:=f) (.inl F.2.1);refine⟨?_,hc,?_⟩
   ·unfold zjm;rw[n];dsimp only;rw[zcq b6];exact b1.eqv (Own.Eqv.zeb _).symm
   rw[n];exact⟨b2,zen F.2.2 b6 (fun _ e=>by rw[F.2.1]at e;cases e),F.1⟩
  ·have j:f.done=true:=j;rw[F.1]at j;cases j
  have j:f.done=true:=j;rw[F.1]at j;cases j
 have I:r.done=true:=by simpa using o
 by_cases E:f.done=false
 ·rw[z3m hd B z o E];have l:t.undo=none/\t.com=none:=by
   constructor
   ·cases hu:t.undo with
    |none=>rfl
    |some u=>obtain⟨Z,O,_,_,a1,G⟩:=M.mid hd (.inl (by rw[hu];simp));rw[z]at a1;injection a1 with a1;subst a1;rw[E]at G;cases G
   cases hu:t.com with
   |none=>rfl
   |some u=>obtain⟨Z,O,_,_,a1,G⟩:=M.mid hd (.inr (by rw[hu];simp));rw[z]at a1;injection a1 with a1;subst a1;rw[E]at G;cases G
  cases hgot:r.got with
  |none=>
   exfalso;have U:t.ph= .dead:=by rw[zgm hd B z o l.1 l.2,hgot]
   rw[U]at hi;rw[hd]at hi;cases hi
  |some b=>
   have V:t.ph= .fre b f:=by rw[zgm hd B z o l.1 l.2,hgot]
   unfold zjm at J;rw[V]at J hi;have q:=z4l hr hg b5 E J hi.2.1;have T:zi6 (feA s f σ).2 b:=fun hl p i h0 j=>by have bb:σ.pg p= .held c:=(J.h p).2 (.inl (by unfold zgb;rw[if_pos hl];exact .inl (show p=b.page by omega)));exact(q.sl p i bb).trans (hi.1 hl p i h0 j)
   have H:=(zlb X hr.may b9 hgot).1;have fin:∀ t':Rr,RrAt s c (feA s f σ).2 t'->t'.free=some (feA s f σ).1->t'.done=false->zwj s c σ t (t',(feA s f σ).2):=fun t' j y C=>by
    have S:zb2 t=f.gave:=by unfold zb2;rw[z]
    have L:zb2 t'=(feA s f σ).1.gave:=by unfold zb2;rw[y]
    refine⟨q.kept,j,fun O e a b=>⟨?_,C⟩,fun a=>(by rw[C]at a;cases a),fun a _=>q.chg.2 ?_⟩
    ·rw[z]at e;injection e with e;subst e;exact⟨(q.chg.1 (S ▸ a) (L ▸ b)).1,(q.chg.1 (S ▸ a) (L ▸ b)).2.2,E⟩
    rw[S,L]at a;exact a
   have b3:(feA s f σ).1.done=true->zaz (feA s f σ).2 c (zgb b):=fun e=>by have:=q.ex;rw[zcq (zdp e)]at this;exact this.eqv (Own.Eqv.zeb _)
   rcases zcp s {t with free:=some (feA s f σ).1} r (feA s f σ).1 B rfl with⟨j,_⟩|⟨_,j,_⟩|⟨_,_,j,e⟩|⟨_,_,j,y,e⟩|⟨b',_,_,j,y,C,e⟩|⟨b',_,_,_,y,_,_,j,C,e⟩|⟨b',_,_,_,y,_,_,j,C,e⟩
   ·have j:zev t.undo=true:=j;rw[l.1]at j;cases j
   ·have j:zha t.com=true:=j;rw[l.2]at j;cases j
   ·rw[I]at j;cases j
   ·rw[hgot]at y;cases y
   ·rw[e];have b4:(feA s f σ).1.done=false:=by
     rcases C with C|C|C
     ·exact absurd l.1 C
     ·exact absurd l.2 C.2
     exact C.2.2
    have n:({t with free:=some (feA s f σ).1}:Rr).ph= .fre b (feA s f σ).1:=by rw[zgm (t:= {t with free:=some (feA s f σ).1}) hd B rfl o l.1 l.2,hgot]
    refine fin _ ⟨?_,hc,?_⟩ rfl hd
    ·unfold zjm;rw[n];exact q.ex
    rw[n];exact⟨T,q.inv,b4⟩
   ·rw[e];rw[hgot]at y;injection y with y;subst y;have b8:(zc4 s t.c b).done=false:=by rw[hc];simp[zc4,H]
    have n:({t with free:=some (feA s f σ).1,com:=some (zc4 s t.c b)}:Rr).ph= .com (zc4 s t.c b):=zxc (t:= {t with free:=some (feA s f σ).1,com:=some (zc4 s t.c b)}) hd B rfl o l.1 rfl;refine fin _ ⟨?_,hc,?_⟩ rfl hd
    ·unfold zjm;rw[n];exact b3 j
    rw[n];exact⟨T,b8⟩
   rw[e];rw[hgot]at y;injection y with y;subst y;have Y:=z6k (s:=s) H (b3 j) T;have n:({t with free:=some (feA s f σ).1,undo:=some (zf1 s t.c b)}:Rr).ph= .und (zf1 s t.c b):=zl0 (t:= {t with free:=some (feA s f σ).1,undo:=some (zf1 s t.c b)}) hd B rfl o rfl;rw[hc]at n ⊢;refine fin _ ⟨?_,rfl,?_⟩ rfl hd
   ·unfold zjm;rw[n];exact Y.1.ex
   rw[n];exact⟨Y.1,Y.2,fun Z N=>by rw[B]at N;injection N with N;subst N;rw[hgot];simp⟩
 have same:∀ t':Rr,t'.free=t.free->zb2 t'=zb2 t:=fun t' h=>by unfold zb2;rw[h]
 cases hu:t.undo with
 |some u=>
  rw[z2h hd B z o E hu];have V:t.ph= .und u:=zl0 hd B z o hu;rw[V]at hi;obtain⟨i1,i2,i3⟩:=hi;obtain⟨S,L,g3,g4⟩:=yae hg (o3 u hu) i2 i1;have ba:t.com=none:=by
   rcases o5 with e|e
   ·rw[hu]at e;cases e
   exact e
  have fin:∀ t':Rr,RrAt s c (unA u σ).2 t'->t'.free=t.free->¬ (t'.done=true/\t'.err=0)->zwj s c σ t (t',(unA u σ).2):=fun t' j y C=>⟨S,j,fun O _ a b=>(by rw[same t' y,a]at b;cases b),fun a b=>absurd ⟨a,b⟩ C,fun _ _=>g3⟩
  rcases zcp s {t with undo:=some (unA u σ).1} r f B z with⟨j,e⟩|⟨_,j,_⟩|⟨_,_,j,e⟩|⟨_,_,j,y,e⟩|⟨b',h0,_,j,y,C,e⟩|⟨b',_,_,_,y,j,_,_,C,e⟩|⟨b',_,_,_,y,j,_,_,C,e⟩
  ·rw[e];have D:(unA u σ).1.done=true:=j;have:=L.ex;unfold zqs at this;rw[if_pos D]at this;exact fin _ (zhq rfl hc this) rfl (fun h=>by have:=h.2;dsimp only at this;omega)
  ·have j:zha t.com=true:=j;rw[ba]at j;cases j
  ·rw[I]at j;cases j
  ·exact absurd y (i3 r B)
  ·rw[e];have D:(unA u σ).1.done=false:=h0;have n:({t with undo:=some (unA u σ).1}:Rr).ph= .und (unA u σ).1:=zl0 (t:= {t with undo:=some (unA u σ).1}) hd B z o rfl;refine fin _ ⟨?_,hc,?_⟩ rfl (fun h=>by have:=h.1;rw[show ({t with undo:=some (unA u σ).1}:Rr).done=t.done from rfl,hd]at this;cases this)
   ·unfold zjm;rw[n];exact L.ex
   rw[n];exact⟨L,D,i3⟩
  ·cases j
  cases j
 |none=>
  cases hcm:t.com with
  |none=>
   exfalso
   rcases o6 I (by simpa using E) with e|e
   ·exact e hu
   ·exact e hcm
  |some u=>
   rw[zz2 hd B z o E hu hcm]
   have V:t.ph= .com u:=zxc hd B z o hu hcm
   unfold zjm at J
   rw[V]at J hi
   have b0:=M.cm u hcm
   obtain⟨S,L,g3,g4⟩:=z08 hg (b0.2 hd).1 (b0.2 hd).2 J hi.1
   have D:(cmA u σ).1.done=true:=by rw[g4]
   obtain⟨Z,O,a1,G,a3,a4⟩:=M.gv u hcm
   rcases zcp s {t with com:=some (cmA u σ).1} r f B z with⟨j,e⟩|⟨_,j,e⟩|⟨_,j,_⟩|⟨_,j,_⟩|⟨b',_,j,_⟩|⟨b',_,j,_⟩|⟨b',_,j,_⟩
   ·have j:zev t.undo=true:=j
    rw[hu]at j;cases j
   ·rw[e]
    refine⟨S,zhq rfl hc L,fun O _ a b=>?_,fun _ _=>⟨Z,u.b,a1,G,g3⟩,fun _ h=>absurd ⟨rfl,rfl⟩ h⟩
    have:zb2 {t with com:=some (cmA u σ).1,err:=0,done:=true}=zb2 t:=same _ rfl
    rw[this,a]at b;cases b
   ·have j:(cmA u σ).1.done=false:=j
    rw[D]at j;cases j
   ·have j:(cmA u σ).1.done=false:=j
    rw[D]at j;cases j
   ·have j:(cmA u σ).1.done=false:=j
    rw[D]at j;cases j
   ·have j:(cmA u σ).1.done=false:=j
    rw[D]at j;cases j
   ·have j:(cmA u σ).1.done=false:=j
    rw[D]at j;cases j
end

section

variable {s:Sh} {σ σ':Ab} {c d:Int}

def zge (σ:Ab) (d p h:Int):Prop:=σ.pg p= .body h/\σ.pg h= .held d
def zis (σ:Ab) (d p i k:Int):Prop:=(∃ b,σ.pg p= .super k b)/\σ.sl p i= .way d
def zdf (σ:Ab) (d n:Int):Prop:=∀ p h,0<=p->p < n->¬ zge σ d p h
def zcg (σ:Ab) (d n:Int):Prop:=∀ p,0<=p->p < n->σ.pg p≠ .held d
def zhg (σ:Ab) (d n:Int):Prop:=∀ p i k,0<=p->p < n->¬ zis σ d p i k
def zgu (σ:Ab) (d n:Int):Prop:=∀ i,0<=i->i < n->σ.mg d i= .none
def AdD (s:Sh) (σ:Ab) (t:Ad):Prop:=
 if t.next=3 then zdf σ t.d t.at'
 else if t.next=4 then zdf σ t.d t.at'/\(∀ h,zge σ t.d t.at' h->h=t.pa)/\(σ.pg t.pa= .held t.d->σ.pg t.at'= .body t.pa)
 else if t.next=5 then zdf σ t.d t.at'/\zge σ t.d t.at' t.pa
 else if t.next=6 then zdf σ t.d s.p/\zcg σ t.d t.at'
 else if t.next=7 then zdf σ t.d s.p/\zcg σ t.d t.at'/\σ.pg t.at'= .held t.d/\∀ j,0<=j->j < t.i->σ.sl t.at' j= .none
 else if t.next=8 then zdf σ t.d s.p/\zcg σ t.d t.at'/\σ.pg t.at'= .held t.d/\∀ j,σ.sl t.at' j= .none
 else if t.next=9 then zcg σ t.d s.p/\zgu σ t.d t.i/\t.at'=0
 else if t.next=10 then zcg σ t.d s.p/\zgu σ t.d s.m/\zhg σ t.d t.at'
 else if t.next=11 then zcg σ t.d s.p/\zgu σ t.d s.m/\zhg σ t.d t.at'/\∀ j k,zis σ t.d t.at' j k->k=t.pa/\t.i<=j
 else if t.next=12 then zcg σ t.d s.p/\zgu σ t.d s.m/\zhg σ t.d t.at'/\(∀ j k,zis σ t.d t.at' j k->k=t.pa/\t.i<=j)/\zis σ t.d t.at' t.i t.pa
 else zcg σ t.d s.p/\zgu σ t.d s.m/\zhg σ t.d s.p
section

variable {t:Ad}

theorem adD3(h:t.next=3):AdD s σ t=zdf σ t.d t.at':=by unfold AdD;simp[h]
theorem adD4(h:t.next=4):AdD s σ t=(zdf σ t.d t.at'/\(∀ h,zge σ t.d t.at' h->h=t.pa)/\(σ.pg t.pa= .held t.d->σ.pg t.at'= .body t.pa)):=by unfold AdD;simp[h]
theorem adD5(h:t.next=5):AdD s σ t=(zdf σ t.d t.at'/\zge σ t.d t.at' t.pa):=by unfold AdD;simp[h]
theorem adD6(h:t.next=6):AdD s σ t=(zdf σ t.d s.p/\zcg σ t.d t.at'):=by unfold AdD;simp[h]
theorem adD7(h:t.next=7):AdD s σ t=(zdf σ t.d s.p/\zcg σ t.d t.at'/\σ.pg t.at'= .held t.d/\∀ j,0<=j->j<t.i->σ.sl t.at' j= .none):=by unfold AdD;simp[h]
theorem adD8(h:t.next=8):AdD s σ t=(zdf σ t.d s.p/\zcg σ t.d t.at'/\σ.pg t.at'= .held t.d/\∀ j,σ.sl t.at' j= .none):=by unfold AdD;simp[h]
theorem adD9(h:t.next=9):AdD s σ t=(zcg σ t.d s.p/\zgu σ t.d t.i/\t.at'=0):=by unfold AdD;simp[h]
theorem z4i(h:t.next=10):AdD s σ t=(zcg σ t.d s.p/\zgu σ t.d s.m/\zhg σ t.d t.at'):=by unfold AdD;simp[h]
theorem z6n(h:t.next=11):AdD s σ t=(zcg σ t.d s.p/\zgu σ t.d s.m/\zhg σ t.d t.at'/\∀ j k,zis σ t.d t.at' j k->k=t.pa/\t.i<=j):=by unfold AdD;simp[h]
theorem yb2(h:t.next=12):AdD s σ t=(zcg σ t.d s.p/\zgu σ t.d s.m/\zhg σ t.d t.at'/\(∀ j k,zis σ t.d t.at' j k->k=t.pa/\t.i<=j)/\zis σ t.d t.at' t.i t.pa):=by unfold AdD;simp[h]
theorem z9t(h:t.next=13):AdD s σ t=(zcg σ t.d s.p/\zgu σ t.d s.m/\zhg σ t.d s.p):=by unfold AdD;simp[h]
end

theorem zjb(hs:Same d σ σ')(p h:Int):zge σ' d p h↔zge σ d p h:=by
 unfold zge;rw[hs.h h];exact⟨fun ⟨a,b⟩=>⟨(hs.b p h b).1 a,b⟩,fun ⟨a,b⟩=>⟨(hs.b p h b).2 a,b⟩⟩
theorem zin(hs:Same d σ σ')(p i k:Int):zis σ' d p i k↔zis σ d p i k:=hs.w p i k
theorem zdf.same{n:Int}(h:zdf σ d n)(hs:Same d σ σ'):zdf σ' d n:=fun p g b f e=>h p g b f ((zjb hs p g).1 e)
theorem zcg.same{n:Int}(h:zcg σ d n)(hs:Same d σ σ'):zcg σ' d n:=fun p b f e=>h p b f ((hs.h p).1 e)
theorem zhg.same{n:Int}(h:zhg σ d n)(hs:Same d σ σ'):zhg σ' d n:=fun p i k b f e=>h p i k b f ((zin hs p i k).1 e)
theorem zgu.same{n:Int}(h:zgu σ d n)(hs:Same d σ σ'):zgu σ' d n:=fun i b hi=>(hs.m i).trans (h i b hi)
theorem AdD.same{t:Ad}(f:3<=t.next/\t.next<=13)(h:AdD s σ t)(hs:Same t.d σ σ'):AdD s σ' t:=by
 have:t.next=3\/t.next=4\/t.next=5\/t.next=6\/t.next=7\/t.next=8\/t.next=9\/t.next=10\/t.next=11\/t.next=12\/t.next=13:=by omega
 rcases this with e|e|e|e|e|e|e|e|e|e|e
 ·rw[adD3 e]at *;exact h.same hs
 ·rw[adD4 e]at *;exact⟨h.1.same hs,fun g e=>h.2.1 g ((zjb hs _ _).1 e),fun e=>(hs.b _ _ ((hs.h _).1 e)).2 (h.2.2 ((hs.h _).1 e))⟩
 ·rw[adD5 e]at *;exact⟨h.1.same hs,(zjb hs _ _).2 h.2⟩
 ·rw[adD6 e]at *;exact⟨h.1.same hs,h.2.same hs⟩
 ·rw[adD7 e]at *;exact⟨h.1.same hs,h.2.1.same hs,(hs.h _).2 h.2.2.1,fun j a b=>(hs.hs _ _ h.2.2.1).trans (h.2.2.2 j a b)⟩
 ·rw[adD8 e]at *;exact⟨h.1.same hs,h.2.1.same hs,(hs.h _).2 h.2.2.1,fun j=>(hs.hs _ _ h.2.2.1).trans (h.2.2.2 j)⟩
 ·rw[adD9 e]at *;exact⟨h.1.same hs,h.2.1.same hs,h.2.2⟩
 ·rw[z4i e]at *;exact⟨h.1.same hs,h.2.1.same hs,h.2.2.same hs⟩
 ·rw[z6n e]at *;exact⟨h.1.same hs,h.2.1.same hs,h.2.2.1.same hs,fun j k e=>h.2.2.2 j k ((zin hs _ _ _).1 e)⟩
 ·rw[yb2 e]at *;exact⟨h.1.same hs,h.2.1.same hs,h.2.2.1.same hs,fun j k e=>h.2.2.2.1 j k ((zin hs _ _ _).1 e),(zin hs _ _ _).2 h.2.2.2.2⟩
 rw[z9t e]at *;exact⟨h.1.same hs,h.2.1.same hs,h.2.2.same hs⟩
theorem zdf.succ{n:Int}(h:zdf σ d n)(i:∀ g,¬ zge σ d n g):zdf σ d (n+1):=fun p g f j e=>by
 by_cases b:p=n
 ·subst b;exact i g e
 ·exact h p g f (by omega) e
theorem zcg.succ{n:Int}(h:zcg σ d n)(i:σ.pg n≠ .held d):zcg σ d (n+1):=fun p f j e=>by
 by_cases b:p=n
 ·subst b;exact i e
 ·exact h p f (by omega) e
theorem zhg.succ{n:Int}(h:zhg σ d n)(j:∀ i k,¬ zis σ d n i k):zhg σ d (n+1):=fun p i k f l e=>by
 by_cases b:p=n
 ·subst b;exact j i k e
 ·exact h p i k f (by omega) e
structure AdOn (s:Sh) (σ:Ab) (t t':Ad):Prop where
 dd:AdD s σ t'
 d:t'.d=t.d
 c:t'.c=t.c
 dn:t'.done=t.done
 nx:3<=t'.next/\t'.next<=13
theorem z2v{t:Ad}(h:zdf σ t.d (t.at'+1)):AdOn s σ t (t.turn s 3 6):=by
 unfold Ad.turn;dsimp only;by_cases e:t.at'+1=s.p
 ·rw[if_pos e];dsimp only;rw[if_neg (by omega)];refine⟨?_,rfl,rfl,rfl,by dsimp only;omega⟩;rw[adD6 rfl];exact⟨e ▸ h,fun p f b=>by dsimp only at b;omega⟩
 rw[if_neg e];dsimp only;rw[if_neg (by omega)];refine⟨?_,rfl,rfl,rfl,by dsimp only;omega⟩;rw[adD3 rfl];exact h
theorem zz1{t:Ad}(hb:zdf σ t.d s.p)(h:zcg σ t.d (t.at'+1)):AdOn s σ t (t.turn s 6 9):=by
 unfold Ad.turn;dsimp only;by_cases e:t.at'+1=s.p
 ·rw[if_pos e];dsimp only;by_cases f:s.m=0
  ·rw[if_pos ⟨rfl,f⟩];refine⟨?_,rfl,rfl,rfl,by dsimp only;omega⟩;rw[z4i rfl];exact⟨e ▸ h,fun i b hi=>by omega,fun p i k b j=>by dsimp only at j;omega⟩
  rw[if_neg (fun h=>f h.2)];refine⟨?_,rfl,rfl,rfl,by dsimp only;omega⟩;rw[adD9 rfl];exact⟨e ▸ h,fun i b hi=>by dsimp only at hi;omega,rfl⟩
 rw[if_neg e];dsimp only;rw[if_neg (by omega)];refine⟨?_,rfl,rfl,rfl,by dsimp only;omega⟩;rw[adD6 rfl];exact⟨hb,h⟩
theorem zwk{t:Ad}(b:zcg σ t.d s.p)(f:zgu σ t.d s.m)(h:zhg σ t.d (t.at'+1)):AdOn s σ t (t.turn s 10 13):=by
 unfold Ad.turn;dsimp only;by_cases e:t.at'+1=s.p
 ·rw[if_pos e];dsimp only;rw[if_neg (by omega)];refine⟨?_,rfl,rfl,rfl,by dsimp only;omega⟩;rw[z9t rfl];exact⟨b,f,e ▸ h⟩
 rw[if_neg e];dsimp only;rw[if_neg (by omega)];refine⟨?_,rfl,rfl,rfl,by dsimp only;omega⟩;rw[z4i rfl];exact⟨b,f,h⟩
theorem z8w{t:Ad}(y:GI s σ)(l:zcg σ t.d s.p)(o:zgu σ t.d s.m)(q:zhg σ t.d t.at')(h:∀ j k,zis σ t.d t.at' j k->k=t.pa/\t.i+1<=j):AdOn s σ t (t.slot s):=by
 unfold Ad.slot;split
 ·rename_i e
  have:=zwk (s:=s) (t:= {t with i:=0,next:=11}) l o (q.succ fun i k n=>by
   have r:=h i k n
   obtain⟨⟨b,z⟩,f⟩:=n
   have:=zke y z f
   rw[r.1]at this
   omega)
  exact⟨this.dd,this.d,this.c,this.dn,this.nx⟩
 refine⟨?_,rfl,rfl,rfl,by dsimp only;omega⟩;rw[z6n rfl];exact⟨l,o,q,h⟩
theorem zpb(b:GI s σ)(h:zcg σ d s.p)(p:Int):σ.pg p≠ .held d:=fun e=>by
 have:=zkn b e
 exact h p this.1.1 this.1.2 e
theorem zsc(b:GI s σ)(h:zgu σ d s.m)(i:Int):σ.mg d i= .none:=by
 by_cases e:σ.mg d i= .none
 ·exact e
 have:=b.mr d i e;exact h i this.2.1 this.2.2
theorem zzv(b:GI s σ)(h:zdf σ d s.p)(p g:Int):¬ zge σ d p g:=fun e=>by
 have:=zvc b e.1
 exact h p g this.2.2.2.1 this.2.2.2.2 e
structure zxh (s:Sh) (σ:Ab) (t:Ad) (r:Ad × Ab):Prop where
 kept:Kept s t.d σ r.2
 on:AdOn s r.2 t r.1
 calm:Calm σ r.2
theorem yb6{t:Ad}(G:GI s σ)(hk:adOk s t)(hd:t.done=false)(hn:3<=t.next/\t.next<=12)(h:AdD s σ t):zxh s σ t (adA s t σ):=by
 obtain⟨c1,c2,c3,c4,c5,c6,c7,c8,c9,b3⟩:=hk.cl hd;unfold adA;rw[if_neg (by rw[hd];decide),if_neg (by omega),if_neg (by omega),if_neg (by omega)];have quiet:∀ t',AdOn s σ t t'->zxh s σ t (t',σ):=fun t' h=>⟨Kept.refl G,h,Calm.refl _⟩;have b1:∀ t':Ad,t'.d=t.d->t'.c=t.c->t'.done=t.done->t'.at'=t.at'->(∀ g,¬ zge σ t.d t.at' g)->zdf σ t.d t.at'->AdOn s σ t (t'.turn s 3 6):=fun t' l r H N O R=>by have:=z2v (s:=s) (σ:=σ) (t:=t') (by rw[l,N];exact R.succ O);exact⟨this.dd,this.d.trans l,this.c.trans r,this.dn.trans H,this.nx⟩
 have b0:∀ t':Ad,t'.d=t.d->t'.c=t.c->t'.done=t.done->t'.at'=t.at'->zcg σ t.d s.p->zgu σ t.d s.m->(∀ i k,¬ zis σ t.d t.at' i k)->zhg σ t.d t.at'->AdOn s σ t (t'.turn s 10 13):=fun t' l r H N O R S U=>by have:=zwk (s:=s) (σ:=σ) (t:=t') (by rw[l];exact O) (by rw[l];exact R) (by rw[l,N];exact U.succ S);exact⟨this.dd,this.d.trans l,this.c.trans r,this.dn.trans H,this.nx⟩
 by_cases H:t.next=3
 ·rw[if_pos H];rw[adD3 H]at h;have other:(∀ g,σ.pg t.at'≠ .body g)->zxh s σ t ((t.zkp (σ.pg t.at')).turn s 3 6,σ):=fun f=>quiet _ (b1 _ rfl rfl rfl rfl (fun g e=>f g e.1) h);cases f:σ.pg t.at' with
  |body g=>refine quiet _ ⟨?_,rfl,rfl,rfl,by dsimp only;omega⟩;rw[adD4 rfl];exact⟨h,fun g' e=>by have:=e.1;dsimp only[Ad.zkp]at this;rw[f]at this;injection this with this;exact this.symm,fun _=>f⟩
  |_=>have:=other (fun g e=>by rw[f]at e;cases e);rw[f]at this;exact this
 rw[if_neg H];by_cases N:t.next=4
 ·rw[if_pos N];rw[adD4 N]at h;by_cases f:σ.pg t.pa= .held t.d
  ·rw[if_pos f];refine quiet _ ⟨?_,rfl,rfl,rfl,by dsimp only;omega⟩;rw[adD5 rfl];exact⟨h.1,h.2.2 f,f⟩
  rw[if_neg f];exact quiet _ (b1 _ rfl rfl rfl rfl (fun g e=>f (by rw[<-h.2.1 g e];exact e.2)) h.1)
 rw[if_neg N];by_cases O:t.next=5
 ·rw[if_pos O];rw[adD5 O]at h;obtain⟨E,C⟩:=h;have F:=zjz G C.1 C.2;have hb:∀ p g,zge (σ.page t.at' .empty) t.d p g->zge σ t.d p g:=fun p g e=>by
   have y:(σ.page t.at' .empty).pg g= .held t.d:=e.2;by_cases ep:p=t.at'
   ·subst ep;have:=e.1;rw[za4]at this;cases this
   have l:=e.1;rw[zbd _ _ ep]at l;refine⟨l,?_⟩;by_cases V:g=t.at'
   ·subst V;rw[za4]at y;cases y
   rw[zbd _ _ V]at y;exact y
  refine⟨F,z2v (zdf.succ (fun p g I B e=>E p g I B (hb p g e)) (fun g e=>by have:=e.1;rw[za4]at this;cases this)),zdt (fun n e=>by cases e) (fun n e=>by rw[C.1]at e;cases e)⟩
 rw[if_neg O];by_cases R:t.next=6
 ·rw[if_pos R];rw[adD6 R]at h;by_cases f:σ.pg t.at'= .held t.d
  ·rw[if_pos f];refine quiet _ ⟨?_,rfl,rfl,rfl,by dsimp only;omega⟩;rw[adD7 rfl];exact⟨h.1,h.2,f,fun j a b=>by dsimp only at b;omega⟩
  rw[if_neg f];exact quiet _ (zz1 h.1 (h.2.succ f))
 rw[if_neg R];by_cases S:t.next=7
 ·rw[if_pos S];rw[adD7 S]at h;obtain⟨E,C,D,J⟩:=h;have F:=zgw G D (i:=t.i) (u:= .none) (.inl rfl);have hj:∀ j,0<=j->j<t.i+1->(σ.slot t.at' t.i .none).sl t.at' j= .none:=fun j a b=>by
   by_cases e:j=t.i
   ·subst e;exact zbs _ _ _ _
   rw[zbq _ _ (fun r=>e r.2)];exact J j a (by omega)
  refine⟨F,?_,zdn (fun n e=>by cases e) (fun n e=>by rcases zgg G D t.i with r|r;(rw[r]at e;cases e);(rw[r.1]at e;cases e))⟩;by_cases e:t.i+1=16
  ·rw[if_pos e];refine⟨?_,rfl,rfl,rfl,by dsimp only;omega⟩;rw[adD8 rfl];refine⟨E,C,D,fun j=>?_⟩;by_cases X:0<=j/\j<16
   ·exact hj j X.1 (by omega)
   rcases zgg F.1 (p:=t.at') (c:=t.d) D j with H|H
   ·exact H
   exact absurd H.2 X
  rw[if_neg e];refine⟨?_,rfl,rfl,rfl,by dsimp only;omega⟩;rw[adD7 (by exact S)];exact⟨E,C,D,hj⟩
 rw[if_neg S];by_cases U:t.next=8
 ·rw[if_pos U];rw[adD8 U]at h;obtain⟨E,C,D,J⟩:=h;have b2:∀ q,σ.pg q≠ .body t.at':=fun q e=>zzv G E q _ ⟨e,D⟩;refine⟨zg7 G D J b2,zz1 (fun p g I B e=>?_) (zcg.succ (fun p I B e=>C p I B ?_) (fun e=>by rw[za4]at e;cases e)),zdt (fun n e=>by cases e) (fun n e=>by rw[D]at e;cases e)⟩
  ·have y:(σ.page t.at' .empty).pg g= .held t.d:=e.2;have l:=e.1;by_cases ep:p=t.at'
   ·subst ep;rw[za4]at l;cases l
   rw[zbd _ _ ep]at l;by_cases V:g=t.at'
   ·subst V;rw[za4]at y;cases y
   rw[zbd _ _ V]at y;exact E p g I B ⟨l,y⟩
  rw[zbd _ _ (by omega)]at e;exact e
 rw[if_neg U];by_cases e9:t.next=9
 ·rw[if_pos e9];rw[adD9 e9]at h;have hm:zgu (σ.mag t.d t.i .none) t.d (t.i+1):=fun j I hj=>by
   by_cases e:j=t.i
   ·subst e;exact zcb _ _ _ _
   rw[zci _ _ (fun r=>e r.2)];exact h.2.1 j I (by omega)
  refine⟨zi4 G,?_,zpy⟩;by_cases e:t.i+1=s.m
  ·rw[if_pos e];refine⟨?_,rfl,rfl,rfl,by dsimp only;omega⟩;rw[z4i rfl];exact⟨h.1,by rw[<-e];exact hm,fun p i k I B=>by dsimp only at B;omega⟩
  rw[if_neg e];refine⟨?_,rfl,rfl,rfl,by dsimp only;omega⟩;rw[adD9 (by exact e9)];exact⟨h.1,hm,h.2.2⟩
 rw[if_neg e9];by_cases L:t.next=10
 ·rw[if_pos L];rw[z4i L]at h;obtain⟨E,C,D⟩:=h;have other:(∀ k b,σ.pg t.at'≠ .super k b)->zxh s σ t ((t.zkp (σ.pg t.at')).turn s 10 13,σ):=fun f=>quiet _ (b0 _ rfl rfl rfl rfl E C (fun i k e=>by obtain⟨⟨b,e⟩,_⟩:=e;exact f k b e) D);cases f:σ.pg t.at' with
  |super k b=>refine quiet _ ⟨?_,rfl,rfl,rfl,by dsimp only;omega⟩;rw[z6n rfl];refine⟨E,C,D,fun j k' e=>?_⟩;obtain⟨⟨b',l⟩,r⟩:=e;have l:σ.pg t.at'= .super k' b':=l;have hr:=zke G l r;rw[f]at l;injection l with l _;exact⟨l.symm,hr.1⟩
  |_=>have:=other (fun k b e=>by rw[f]at e;cases e);rw[f]at this;exact this
 rw[if_neg L];by_cases M:t.next=11
 ·rw[if_pos M];rw[z6n M]at h;obtain⟨E,C,D,J⟩:=h;by_cases f:σ.sl t.at' t.i= .way t.d
  ·rw[if_pos f];refine quiet _ ⟨?_,rfl,rfl,rfl,by dsimp only;omega⟩;rw[yb2 rfl];refine⟨E,C,D,J,?_⟩;have z:=G.sk t.at' t.i;rw[f]at z;have Z:∀ k b,σ.pg t.at'= .super k b->zis σ t.d t.at' t.i t.pa:=fun k b e=>by have hw:zis σ t.d t.at' t.i k:=⟨⟨b,e⟩,f⟩;rw[<-(J _ _ hw).1];exact hw
   cases B:σ.pg t.at' with
   |super k b=>exact Z k b B;|held o=>
    exfalso;rw[B]at z;rcases z with e|e
    ·cases e
    injection e.1 with e;subst e;exact zpb G E _ B
   |empty=>rw[B]at z;cases z
   |large n=>rw[B]at z;cases z
   |body g=>rw[B]at z;cases z
  rw[if_neg f];refine quiet _ (z8w G E C D fun j k e=>⟨(J j k e).1,?_⟩);have:=(J j k e).2;have:j≠t.i:=fun ej=>f (by rw[<-ej];exact e.2);omega
 rw[if_neg M];have T:t.next=12:=by omega
 rw[if_pos T];rw[yb2 T]at h;obtain⟨E,C,D,J,⟨b,B⟩,Y⟩:=h;have F:=zc6 G B Y (u:= .opened t.pa) (.inl rfl) (fun j k' e=>by rw[zsc G C]at e;cases e);have hw:∀ p i k,zis (σ.slot t.at' t.i (.opened t.pa)) t.d p i k->zis σ t.d p i k/\¬ (p=t.at'/\i=t.i):=fun p i k e=>by
  obtain⟨l,r⟩:=e;by_cases ep:p=t.at'/\i=t.i
  ·obtain⟨rfl,rfl⟩:=ep;rw[zbs]at r;cases r
  rw[zbq _ _ ep]at r;exact⟨⟨l,r⟩,ep⟩
 refine⟨F,z8w F.1 E C (fun p i k I B e=>D p i k I B (hw p i k e).1) (fun j k e=>?_),zdn (fun n e=>by cases e) (fun n e=>by rw[Y]at e;cases e)⟩;obtain⟨l,r⟩:=hw _ _ _ e;have:=J j k l;refine⟨this.1,?_⟩;have:j≠t.i:=fun ej=>r ⟨rfl,ej⟩;omega
end

section

variable {s:Sh} {σ σ':Ab} {c:Int}

structure znv (s:Sh) (σ:Ab) (c:Int) (t:Ad):Prop where
 cl:t.c=c
 n1:t.done=false->t.next=1->t.was=(TW.owned t.who).enc/\(TW.owned t.who).fit s/\σ.st t.who≠ .unused
 n2:t.done=false->t.next=2->t.was=TW.dead.enc\/∃ o,t.was=(TW.owned o).enc/\(TW.owned o).fit s/\σ.st o≠ .unused/\σ.st o≠ .live
 n3:t.done=false->3<=t.next->σ.st t.d= .owned c/\AdD s σ t
 ne:t.done=false->t.d≠c
 a0:t.next<=2->t.at'=0
def JbAt (s:Sh) (c:Int) (σ:Ab):Jb->Prop
 | .mal r none=> RsAt s c σ r
 | .mal _ (some _)=> zaz σ c .no
 | .fre f=> zaz σ c (ziw f)/\zr5 s c σ .no f
 | .aga r=> RrAt s c σ r
 | .hei a=> zaz σ c .no/\znv s σ c a
theorem yb5{j:Jb}(b:jbIs s c j)(hd:j.done=true)(h:JbAt s c σ j):zaz σ c .no:=by
 cases j with
 |mal r x=>
  rcases x with _|x
  ·have hd:(r.done&&(!r.got.isSome||false))=true:=hd;rw[Bool.and_eq_true]at hd;refine(zkv b.1 hd.1 h).1 ?_;have:=hd.2;cases hg:r.got
   ·rfl
   rw[hg]at this;cases this
  exact h
 |fre f=>have:=h.1;rw[zcq (zdp hd)]at this;exact this
 |aga r=>
  have hd:r.done=true:=hd;have i:r.ph= .dead:=by unfold Rr.ph;rw[if_pos hd]
  have:=h.ex;unfold zjm at this;rw[i]at this;exact this
 |hei a=>exact h.1
def Jb.fe:Jb->Option Fe
 | .fre f=> some f
 | .aga r=> r.free
 | _=> none
structure ycz (s:Sh) (c:Int) (σ:Ab) (j:Jb) (r:Jb × Ab):Prop where
 kept:Kept s c σ r.2
 at':JbAt s c r.2 r.1
 gave:j.gave=false->r.1.gave=true->(∃ f,j.fe=some f/\zr4 (feBl f) σ r.2/\f.next=1/\f.done=false)/\r.1.done=false
 took:∀ b,r.1.took=some b->Plus (zoa b) σ r.2
 calm:(j.gave=true\/r.1.gave=false)->r.1.took=none->Calm σ r.2
theorem ya1{m:Mem}{j:Jb}(C:Rep s m σ)(B:GI s σ)(y:jbIs s c j)(z:0<=c/\c<s.c)(hd:j.done=false)(h:JbAt s c σ j)(R:∀ a,j≠ .hei a):ycz s c σ j (j.zhf s c σ):=by
 cases j with
 |mal r x=>
  unfold Jb.zhf;dsimp only;rcases x with _|x
  ·by_cases o:r.done=false
   ·rw[if_pos o];have i:=z1q C B y.1 o h;exact⟨i.kept,i.at',fun _ e=>(by cases e),fun b e=>(by cases e),fun _ _=>i.calm⟩
   rw[if_neg o];have p:r.done=true:=by simpa using o
   have hd':(r.done&&(!r.got.isSome||zck none))=false:=hd;rw[p,Bool.true_and,Bool.or_eq_false_iff]at hd';cases hgot:r.got with
   |none=>rw[hgot]at hd';cases hd'.1;|some b=>
    have S:zhp s c r none=some (zc4 s c b):=by unfold zhp;rw[hgot]
    rw[S];dsimp only;have q:=(zlb y.1 C.may z hgot).1;obtain⟨J,L⟩:=(zkv y.1 p h).2 b hgot;obtain⟨M,N,O,H⟩:=z08 (t:=zc4 s c b) B (by simp[zc4,q]) q J L;refine⟨M,N,fun _ e=>(by cases e),fun D e=>?_,fun _ e=>?_⟩
    ·have e:(if zck (some (cmA (zc4 s c b) σ).1)=true then r.got else none)=some D:=e;rw[if_pos (by show (cmA (zc4 s c b) σ).1.done=true;rw[H]),hgot]at e;injection e with e;subst e;exact O
    have e:(if zck (some (cmA (zc4 s c b) σ).1)=true then r.got else none)=none:=e;rw[if_pos (by show (cmA (zc4 s c b) σ).1.done=true;rw[H]),hgot]at e;cases e
  exfalso;have I:=y.2 x rfl;have:(Jb.mal r (some x)).done=true:=by show (r.done&&(!r.got.isSome||x.done))=true;rw[I.2.1,I.2.2.1];simp
  rw[this]at hd;cases hd
 |fre f=>have i:=z4l C B y hd h.1.zeb h.2;exact⟨i.kept,⟨i.ex.zrk,i.inv⟩,fun l n=>⟨⟨f,rfl,(i.chg.1 l n).1,(i.chg.1 l n).2.2,hd⟩,(i.chg.1 l n).2.1⟩,fun b e=>(by cases e),fun e _=>i.chg.2 e⟩
 |aga r=>
  have i:=ybw C B y z hd h;have T:∀ b,(Jb.aga (rrA s r σ).1).took=some b->Plus (zoa b) σ (rrA s r σ).2:=fun b e=>by
   have e:(if (rrA s r σ).1.done=true/\(rrA s r σ).1.err=0 then(match (rrA s r σ).1.res with|some x=>x.got|none=>none) else none)=some b:=e;split at e
   ·rename_i hc;obtain⟨x,D,l,n,G⟩:=i.took hc.1 hc.2;rw[l]at e;dsimp only at e;rw[n]at e;injection e with e;subst e;exact G
   cases e
  refine⟨i.kept,i.at',fun l n=>?_,T,fun l n=>i.calm l fun hc=>?_⟩
  ·have l:zb2 r=false:=l;cases q:r.free with
   |none=>obtain⟨_,f,_,F,_⟩:=y.ok.cl hd;rw[q]at F;cases F
   |some f=>exact⟨⟨f,q,(i.gave f q l n).1⟩,(i.gave f q l n).2⟩
  obtain⟨x,D,l,E,G⟩:=i.took hc.1 hc.2;have e:(if (rrA s r σ).1.done=true/\(rrA s r σ).1.err=0 then(match (rrA s r σ).1.res with|some x=>x.got|none=>none) else none)=none:=n;rw[if_pos hc,l]at e;dsimp only at e;rw[E]at e;cases e
 |hei a=>exact absurd rfl (R a)
theorem z8k(hs:mayB s.p s.c s.m=true)(i:zaz σ c .no)(k f:Int):zaz σ c (zey s (zhb s c k f))/\zir s c σ (zhb s c k f):=by
 unfold zhb;split
 ·rename_i h;have l:=zbe h.1;have n:=zar.1 hs;have o:=zcs h.2.2
  have j:skOk s ⟨c,k,f,some (.tk (zg3 s c k)),0,0,0,false,false⟩:=⟨fun _=>⟨by dsimp only;omega,h.2.1,by dsimp only;omega,by dsimp only;omega,fun x b=>by
   injection b with b;subst b;exact⟨zl1 _ _ _,rfl⟩⟩,fun e=>(by cases e)⟩
  have:=zk9 (σ:=σ) (c:=c) hs 5 j i.zeb ⟨rfl,fun e=>(by cases e),fun _ x b=>by injection b with b;subst b;exact⟨⟨rfl,fun e=>(by cases e)⟩,trivial⟩⟩;exact⟨this.1.zrk,this.2⟩
 exact⟨i,⟨rfl,fun _ _=>rfl,fun _ x b=>by cases b⟩⟩
theorem z7a(l:zaz σ c .no)(n:Int):RnIn c σ (zf8 s c n):=by
 rcases Bool.eq_false_or_eq_true (zf8 s c n).done with e|e
 ·have b:(zf8 s c n).ph= .dead:=by unfold Rn.ph;rw[if_neg (fun x:(zf8 s c n).found=true=>Bool.noConfusion x),if_pos e]
  refine⟨?_,rfl,?_⟩
  ·unfold zf2;rw[b];exact l
  rw[b];trivial
 have b:(zf8 s c n).ph= .look:=by unfold Rn.ph;rw[if_neg (fun x:(zf8 s c n).found=true=>Bool.noConfusion x),if_neg (by rw[e];decide)];rfl
 exact zj2 b rfl (l.eqv (Own.zi7 (by show (0:Int)<=0;omega)).symm) (fun p i f j=>by have f:0<=p:=f;have j:p<0:=j;omega)
theorem zwu(hs:mayB s.p s.c s.m=true)(b:zaz σ c .no)(n f:Int):RsAt s c σ (zdh s c n f):=by
 unfold zdh;split
 ·have:=z8k hs b (zcn n) f;exact⟨this.1,this.2⟩
 split
 ·have:=z7a (s:=s) b (runV n);exact⟨this.1,this.2⟩
 exact⟨b,trivial⟩
theorem z7w(hs:mayB s.p s.c s.m=true)(hc:0<=c/\c<s.c)(z:zaz σ c .no)(a n f:Int):RrAt s c σ (zhh s c a n f):=by
 unfold zhh;split
 ·rename_i h;have r:=zwu hs z n f;have B:=(z0h (s:=s) c n f hs).1;have j:=zmw (c:=c) hs hc h.1;have res:∀ t:Rr,t.c=c->t.done=false->t.res=some (zdh s c n f)->t.free=some (zc2 s c a)->(zdh s c n f).done=false->RrAt s c σ t:=fun t E F G y H=>by
   have o:t.ph= .res (zdh s c n f):=by unfold Rr.ph;rw[if_neg (by rw[F];decide),G,y];dsimp only;rw[if_pos H]
   refine⟨?_,E,?_⟩
   ·unfold zjm;rw[o];exact r.ex
   rw[o];exact⟨r.inv,fun I q=>by rw[y]at q;injection q with q;subst q;exact j⟩
  rcases zcp s ⟨c,some (zdh s c n f),some (zc2 s c a),none,none,0,false⟩ (zdh s c n f) (zc2 s c a) rfl rfl with⟨i,_⟩|⟨_,i,_⟩|⟨_,_,i,e⟩|⟨_,_,i,h2,e⟩|⟨b,_,_,i,h2,h3,e⟩|⟨b,_,_,_,_,_,_,i,_,e⟩|⟨b,_,_,_,_,_,_,i,_,e⟩
  ·cases i
  ·cases i
  ·rw[e];exact res _ rfl rfl rfl rfl i
  ·rw[e];exact zhq rfl rfl ((zkv B i r).1 h2)
  ·rw[e];obtain⟨C,D⟩:=(zkv B i r).2 b h2;have o:(⟨c,some (zdh s c n f),some (zc2 s c a),none,none,0,false⟩:Rr).ph= .fre b (zc2 s c a):=by unfold Rr.ph;dsimp only;rw[if_neg (by decide),if_neg (by rw[i];decide),h2]
   have l:=zib (t:=zc2 s c a) (.inl j.2.1);refine⟨?_,rfl,?_⟩
   ·unfold zjm;rw[o];dsimp only;rw[zcq l];exact C.eqv (Own.Eqv.zeb _).symm
   rw[o];exact⟨D,zen j.2.2 l (fun _ e=>by rw[j.2.1]at e;cases e),j.1⟩
  ·have i:(zc2 s c a).done=true:=i;rw[j.1]at i;cases i
  have i:(zc2 s c a).done=true:=i;rw[j.1]at i;cases i
 exact zhq rfl rfl z
theorem z5b(hs:mayB s.p s.c s.m=true)(hc:0<=c/\c<s.c)(i:zaz σ c .no)(f k a n:Int):JbAt s c σ (zgl s c f k a n):=by
 unfold zgl;split
 ·exact zwu hs i n f
 split
 ·have b:(zc2 s c a).ph= .idle:=zib (.inl rfl);exact⟨by rw[zcq b];exact i,zen rfl b (fun _ e=>by cases e)⟩
 split
 ·exact z7w hs hc i a n f
 refine⟨i,?_⟩;unfold zix;dsimp only;split
 ·exact⟨rfl,fun e=>(by cases e),fun e=>(by cases e),fun e=>(by cases e),fun e=>(by cases e),fun _=>rfl⟩
 rename_i h;exact⟨rfl,fun _ e=>(by cases e),fun _ e=>(by cases e),fun _ e=>by exfalso;have e:(3:Int)<=0:=e;omega,fun _ e=>h (.inr (.inr e.symm)),fun _=>rfl⟩
structure Later (σ σ':Ab):Prop where
 un:∀ x,σ.st x≠ .unused->σ'.st x≠ .unused
 lv:∀ x,σ.st x≠ .unused->σ.st x≠ .live->σ'.st x≠ .live
theorem Later.yc7(h:∀ x,σ'.st x=σ.st x):Later σ σ':=⟨fun x e=>by rw[h];exact e,fun x _ e=>by rw[h];exact e⟩
theorem znv.same{t:Ad}(p:adOk s t)(h:znv s σ c t)(l:Later σ σ')(m:t.done=false->3<=t.next->σ'.st t.d= .owned c/\Same t.d σ σ'):znv s σ' c t:=by
 refine⟨h.cl,fun a b=>?_,fun a b=>?_,fun a b=>⟨(m a b).1,AdD.same ⟨b,(p.cl a).2.2.2.1.2⟩ (h.n3 a b).2 (m a b).2⟩,h.ne,h.a0⟩
 ·obtain⟨i,j,f⟩:=h.n1 a b;exact⟨i,j,l.un _ f⟩
 rcases h.n2 a b with e|⟨o,i,j,f,n⟩
 ·exact .inl e
 exact .inr ⟨o,i,j,l.un _ f,l.lv _ f n⟩
theorem JbAt.same{j:Jb}(i:jbIs s c j)(h:JbAt s c σ j)(hs:Same c σ σ')(l:Later σ σ')(b:∀ t,j= .hei t->t.done=false->3<=t.next->σ'.st t.d= .owned c/\Same t.d σ σ'):JbAt s c σ' j:=by
 cases j with
 |mal r x=>
  rcases x with _|x
  ·exact RsAt.same h hs
  exact zaz.same h hs
 |fre f=>exact⟨h.1.same hs,h.2.same h.1.zeb hs⟩
 |aga r=>exact RrAt.same h hs
 |hei a=>exact⟨h.1.same hs,h.2.same i.1 l (b a rfl)⟩
end

section

open Go.RowKit

attribute [local go_sem ↓] Go.wp_at_zero Go.wp_at_succ

theorem yc0{c m C M:Int}(hc:0<=c/\c<=C)(b:0<=m/\m<=M):0<=c*m/\c*m<=C*M:=by
 refine⟨Int.mul_nonneg hc.1 b.1,?_⟩;exact Int.le_trans (Int.mul_le_mul_of_nonneg_right hc.2 b.1) (Int.mul_le_mul_of_nonneg_left b.2 (by omega))
theorem zoy{s:Sh}(h:mayB s.p s.c s.m=true):zb6 s.p s.c s.m=s.c+s.p+s.p*16+s.c*s.m/\18<=zb6 s.p s.c s.m/\zb6 s.p s.c s.m<=1196:=by
 have hb:=zar.1 h;have b:=yc0 (c:=s.c) (m:=s.m) (C:=12) (M:=8) (by omega) (by omega);have:zb6 s.p s.c s.m=s.c+s.p+s.p*16+s.c*s.m:=by unfold zb6;rw[if_pos h]
 omega
theorem zv0(s:Sh)(w:World):
  Calls Tryz.prog 92 #[.agg #[s.p,s.c,s.m]] w fun e w'=>e= .returned (.int .i64 (zb6 s.p s.c s.m))/\Below w.heap.size w w':=by
 obtain⟨p,c,m⟩:=s;dsimp only;by_cases i:mayB p c m=true
 ·have hb:=zar.1 i;have o:=yc0 (c:=c) (m:=m) (C:=12) (M:=8) (by omega) (by omega);have l:zb6 p c m=c+p+p*16+c*m:=by unfold zb6;rw[if_pos i]
  have n:=wrp (c+p);have q:=wrp (16*p);have r:=wrp (c+p+16*p);have y:=wrp (c*m);have z:=wrp (c+p+16*p+c*m);have b:=fun W=>refMay_any p c m W;rw[i]at b;replace b:=hd' b;rw[show zb6 p c m=c+p+16*p+c*m by omega];clear l o hb i;go_in;go_wp2_with (go_at_call 28;refine(b.out _).mono ?_;rintro e n ⟨rfl,rfl⟩);go_ret;exact⟨rfl,by go_grown⟩
 have j:mayB p c m=false:=by simpa using i
 have l:zb6 p c m=0:=by unfold zb6;rw[if_neg i]
 have b:=fun W=>refMay_any p c m W;rw[j]at b;replace b:=hd' b;rw[l];clear i j l;go_in;go_wp2_with (go_at_call 28;refine(b.out _).mono ?_;rintro e n ⟨rfl,rfl⟩);go_ret;exact⟨rfl,by go_grown⟩
end

end Go.Proofs.YtkbddndcegpllaaGreat
