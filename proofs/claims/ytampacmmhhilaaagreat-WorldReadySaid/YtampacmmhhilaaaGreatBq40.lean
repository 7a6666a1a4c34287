/- Texts bound together: InvJ InvK InvL. -/
import Derived.Test.YtampacmmhhilaaaGreatBq39

set_option linter.all false
namespace Go.Proofs.YtampacmmhhilaaaGreat

section

variable {s:Sh} {σ σ':Ab} {c:Int}
inductive RrPh
 | dead
 | res (r:Rs)
 | fre (b:Blk) (f:Fe)
 | und (u:Un)
 | com (u:Cm)
def Rr.ph (t:Rr):RrPh:=if t.done=true then .dead else match t.res,t.free with
 | some r,some f=> if r.done=false then .res r else (match t.undo,t.com with
  | some u,_=> .und u
  | none,some u=> .com u
  | none,none=> match r.got with
   | some b=> .fre b f
   | none=> .dead)
 | _,_=> .dead
def zjm (s:Sh) (t:Rr):Own:=match t.ph with
 | .dead=> .no
 | .res r=> z3j s r
 | .fre b f=> (zgb b).add (ziw f)
 | .und u=> zqs u
 | .com u=> zgb u.b
def z0z (c:Int) (f:Fe):Prop:=f.done=false/\f.next=0/\f.c=c
structure ygt (s:Sh) (c:Int) (σ:Ab) (t:Rr):Prop where
 cl:t.c=c
 ph:match t.ph with
  | .dead=> t.done=true
  | .res r=> z0u s c σ r/\∀ f,t.free=some f->z0z c f
  | .fre b f=> zi6 σ b/\zr5 s c σ (zgb b) f/\f.done=false
  | .und u=> UnAt s c σ u/\u.done=false/\∀ r,t.res=some r->r.got≠none
  | .com u=> zi6 σ u.b/\u.done=false
structure RrAt (s:Sh) (c:Int) (σ:Ab) (t:Rr):Prop where
 ex:zaz σ c (zjm s t)
 inv:ygt s c σ t
theorem RrAt.same {t:Rr} (h:RrAt s c σ t) (hs:Same c σ σ'):RrAt s c σ' t:=by
 obtain ⟨he,h1,h2⟩:=h
 refine ⟨he.same hs,h1,?_⟩
 unfold zjm at he
 cases hp:t.ph with
 | dead=> rw [hp] at h2;exact h2
 | res r=>
  rw [hp] at he h2
  exact ⟨(RsAt.same ⟨he,h2.1⟩ hs).inv,h2.2⟩
 | fre b f=>
  rw [hp] at he h2
  exact ⟨h2.1.same (c:=c) (fun p hb=> (he.h p).2 (.inl hb)) hs,h2.2.1.same he hs,h2.2.2⟩
 | und u=>
  rw [hp] at h2
  exact ⟨h2.1.same hs,h2.2⟩
 | com u=>
  rw [hp] at he h2
  exact ⟨h2.1.same (c:=c) (fun p hb=> (he.h p).2 hb) hs,h2.2⟩
theorem zhq {t:Rr} (hd:t.done=true) (hc:t.c=c) (he:zaz σ c .no):RrAt s c σ t:=by
 have hp:t.ph= .dead:=by unfold Rr.ph;rw [if_pos hd]
 refine ⟨?_,hc,?_⟩
 ·unfold zjm;rw [hp];exact he
 ·rw [hp];exact hd
def zb2 (t:Rr):Bool:=match t.free with | some f=> f.gave | none=> false
structure zwj (s:Sh) (c:Int) (σ:Ab) (t:Rr) (r:Rr × Ab):Prop where
 kept:Kept s c σ r.2
 at':RrAt s c r.2 r.1
 gave:∀ f,t.free=some f->zb2 t=false->zb2 r.1=true->(zr4 (feBl f) σ r.2/\f.next=1/\f.done=false)/\r.1.done=false
 took:r.1.done=true->r.1.err=0->∃ x b,r.1.res=some x/\x.got=some b/\Plus (zoa b) σ r.2
 calm:(zb2 t=true\/zb2 r.1=false)->¬ (r.1.done=true/\r.1.err=0)->Calm σ r.2
theorem zmw {a:Int} (hs:mayB s.p s.c s.m=true) (hc:0<=c/\c < s.c) (ha:spB s a=true):z0z c (zc2 s c a):=by
 have hb:=zar.1 hs
 have h1:zae s.p s.c s.m c=c:=by unfold zae;rw [if_pos ⟨hs,zbc.2 (by omega)⟩]
 refine ⟨?_,rfl,rfl⟩
 simp only [zc2,ha,h1]
 simp
 omega
theorem z6k {b:Blk} (hf:b.fits s c=true) (he:zaz σ c (zgb b)) (hi:zi6 σ b):UnAt s c σ (zf1 s c b)/\(zf1 s c b).done=false:=by
 have hd:(zf1 s c b).done=false:=by simp [zf1,hf]
 refine ⟨⟨?_,fun _=> hi⟩,hd⟩
 unfold zqs
 rw [if_neg (by rw [hd];decide)]
 unfold zgb at he
 simp only [zf1]
 rw [show b.page + 1 + 0=b.page + 1 by omega]
 exact he
theorem z1v {t:Rr} {r:Rs} {f:Fe} (hd:t.done=false) (e1:t.res=some r) (e2:t.free=some f) (h:r.done=false):rrA s t σ=(Rr.settle s { t with res:=some (rsA s r σ).1 },(rsA s r σ).2):=by
 obtain ⟨tc,tres,tfree,tundo,tcom,terr,tdone⟩:=t
 dsimp only at hd e1 e2
 subst hd e1 e2
 unfold rrA
 exact if_pos h
theorem z3m {t:Rr} {r:Rs} {f:Fe} (hd:t.done=false) (e1:t.res=some r) (e2:t.free=some f) (h:¬ r.done=false) (h2:f.done=false):rrA s t σ=(Rr.settle s { t with free:=some (feA s f σ).1 },(feA s f σ).2):=by
 obtain ⟨tc,tres,tfree,tundo,tcom,terr,tdone⟩:=t
 dsimp only at hd e1 e2
 subst hd e1 e2
 unfold rrA
 exact (if_neg h).trans (if_pos h2)
theorem z2h {t:Rr} {r:Rs} {f:Fe} {u:Un} (hd:t.done=false) (e1:t.res=some r) (e2:t.free=some f) (h:¬ r.done=false) (h2:¬ f.done=false) (hu:t.undo=some u):rrA s t σ=(Rr.settle s { t with undo:=some (unA u σ).1 },(unA u σ).2):=by
 obtain ⟨tc,tres,tfree,tundo,tcom,terr,tdone⟩:=t
 dsimp only at hd e1 e2 hu
 subst hd e1 e2 hu
 unfold rrA
 exact (if_neg h).trans (if_neg h2)
theorem zz2 {t:Rr} {r:Rs} {f:Fe} {u:Cm} (hd:t.done=false) (e1:t.res=some r) (e2:t.free=some f) (h:¬ r.done=false) (h2:¬ f.done=false) (hu:t.undo=none) (hc:t.com=some u):rrA s t σ=(Rr.settle s { t with com:=some (cmA u σ).1 },(cmA u σ).2):=by
 obtain ⟨tc,tres,tfree,tundo,tcom,terr,tdone⟩:=t
 dsimp only at hd e1 e2 hu hc
 subst hd e1 e2 hu hc
 unfold rrA
 exact (if_neg h).trans (if_neg h2)
theorem zpi {t:Rr} {r:Rs} {f:Fe} (hd:t.done=false) (e1:t.res=some r) (e2:t.free=some f) (h:r.done=false):t.ph= .res r:=by
 unfold Rr.ph;rw [if_neg (by rw [hd];decide),e1,e2];exact if_pos h
theorem zl0 {t:Rr} {r:Rs} {f:Fe} {u:Un} (hd:t.done=false) (e1:t.res=some r) (e2:t.free=some f) (h:¬ r.done=false) (hu:t.undo=some u):t.ph= .und u:=by
 unfold Rr.ph;rw [if_neg (by rw [hd];decide),e1,e2];dsimp only;rw [if_neg h,hu]
theorem zxc {t:Rr} {r:Rs} {f:Fe} {u:Cm} (hd:t.done=false) (e1:t.res=some r) (e2:t.free=some f) (h:¬ r.done=false) (hu:t.undo=none) (hc:t.com=some u):t.ph= .com u:=by
 unfold Rr.ph;rw [if_neg (by rw [hd];decide),e1,e2];dsimp only;rw [if_neg h,hu,hc]
theorem zgm {t:Rr} {r:Rs} {f:Fe} (hd:t.done=false) (e1:t.res=some r) (e2:t.free=some f) (h:¬ r.done=false) (hu:t.undo=none) (hc:t.com=none):t.ph=match r.got with | some b=> .fre b f | none=> .dead:=by
 unfold Rr.ph;rw [if_neg (by rw [hd];decide),e1,e2];dsimp only;rw [if_neg h,hu,hc]
theorem ybw {m:Mem} {t:Rr} (hr:Rep s m σ) (hg:GI s σ) (hk:rrIs s c t) (hcl:0<=c/\c < s.c) (hd:t.done=false) (h:RrAt s c σ t):zwj s c σ t (rrA s t σ):=by
 obtain ⟨he,hc,hi⟩:=h
 obtain ⟨r,f,e1,e2,o1,o2,o3,o4,o5,o6⟩:=hk.ok.cl hd
 have hrs:=hk.res r e1
 have hfe:=hk.fre f e2
 by_cases hrd:r.done=false
 ·rw [z1v hd e1 e2 hrd]
  have hp:t.ph= .res r:=zpi hd e1 e2 hrd
  have hnone:t.undo=none/\t.com=none:=by
   constructor
   ·cases hu:t.undo with
    | none=> rfl
    | some u=> obtain ⟨r',f',a1,a2,_⟩:=hk.mid hd (.inl (by rw [hu];simp));rw [e1] at a1;injection a1 with a1;subst a1;rw [hrd] at a2;cases a2
   ·cases hu:t.com with
    | none=> rfl
    | some u=> obtain ⟨r',f',a1,a2,_⟩:=hk.mid hd (.inr (by rw [hu];simp));rw [e1] at a1;injection a1 with a1;subst a1;rw [hrd] at a2;cases a2
  unfold zjm at he
  rw [hp] at he hi
  have hfr:=hi.2 f e2
  have hgo:=z1q hr hg hrs hrd ⟨he,hi.1⟩
  have hrs':rsIs s c (rsA s r σ).1:=by
   have:=(zvz (m:=m) hrs hrd hr.fi).2.1
   rwa [(z0x hr hg o1).1] at this
  have hnog:f.gave=false:=hfe.gv (by rw [hfr.2.1];decide)
  have fin:∀ t':Rr,RrAt s c (rsA s r σ).2 t'->t'.free=some f->¬ (t'.done=true/\t'.err=0)->zwj s c σ t (t',(rsA s r σ).2):=fun t' h1 h2 h3=>
   ⟨hgo.kept,h1,fun f' _ _ e=> (by unfold zb2 at e;dsimp only at e;rw [h2] at e;dsimp only at e;rw [hnog] at e;cases e),fun a b=> absurd ⟨a,b⟩ h3,fun _ _=> hgo.calm⟩
  rcases zcp s { t with res:=some (rsA s r σ).1 } (rsA s r σ).1 f rfl e2 with ⟨h1,_⟩ | ⟨_,h1,_⟩ | ⟨_,_,h1,e⟩ | ⟨_,_,h1,h2,e⟩ | ⟨b,_,_,h1,h2,h3,e⟩ | ⟨b,_,_,_,_,_,_,h1,_,e⟩ | ⟨b,_,_,_,_,_,_,h1,_,e⟩
  ·have h1:zev t.undo=true:=h1
   rw [hnone.1] at h1;cases h1
  ·have h1:zha t.com=true:=h1
   rw [hnone.2] at h1;cases h1
  ·rw [e]
   refine fin _ ?_ e2 (fun h=> by have:=h.1;rw [show ({ t with res:=some (rsA s r σ).1 }:Rr).done=t.done from rfl,hd] at this;cases this)
   have hp':({ t with res:=some (rsA s r σ).1 }:Rr).ph= .res (rsA s r σ).1:=zpi hd rfl e2 h1
   refine ⟨?_,hc,?_⟩
   ·unfold zjm;rw [hp'];exact hgo.at'.ex
   ·rw [hp'];exact ⟨hgo.at'.inv,hi.2⟩
  ·rw [e]
   exact fin _ (zhq rfl hc ((zkv hrs' h1 hgo.at').1 h2)) e2 (fun h=> by have:=h.2;dsimp only at this;omega)
  ·rw [e]
   obtain ⟨b1,b2⟩:=(zkv hrs' h1 hgo.at').2 b h2
   refine fin _ ?_ e2 (fun h=> by have:=h.1;rw [show ({ t with res:=some (rsA s r σ).1 }:Rr).done=t.done from rfl,hd] at this;cases this)
   have hp':({ t with res:=some (rsA s r σ).1 }:Rr).ph= .fre b f:=by rw [zgm (t:= { t with res:=some (rsA s r σ).1 }) hd rfl e2 (by rw [h1];decide) hnone.1 hnone.2,h2]
   have hid:=zib (t:=f) (.inl hfr.2.1)
   refine ⟨?_,hc,?_⟩
   ·unfold zjm;rw [hp'];dsimp only;rw [zcq hid];exact b1.eqv (Own.Eqv.zeb _).symm
   ·rw [hp'];exact ⟨b2,zen hfr.2.2 hid (fun _ e=> by rw [hfr.2.1] at e;cases e),hfr.1⟩
  ·have h1:f.done=true:=h1
   rw [hfr.1] at h1;cases h1
  ·have h1:f.done=true:=h1
   rw [hfr.1] at h1;cases h1
 ·have hrd':r.done=true:=by simpa using hrd
  by_cases hfd:f.done=false
  ·rw [z3m hd e1 e2 hrd hfd]
   have hnone:t.undo=none/\t.com=none:=by
    constructor
    ·cases hu:t.undo with
     | none=> rfl
     | some u=> obtain ⟨r',f',_,_,a1,a2⟩:=hk.mid hd (.inl (by rw [hu];simp));rw [e2] at a1;injection a1 with a1;subst a1;rw [hfd] at a2;cases a2
    ·cases hu:t.com with
     | none=> rfl
     | some u=> obtain ⟨r',f',_,_,a1,a2⟩:=hk.mid hd (.inr (by rw [hu];simp));rw [e2] at a1;injection a1 with a1;subst a1;rw [hfd] at a2;cases a2
   cases hgot:r.got with
   | none=>
    exfalso
    have hdead:t.ph= .dead:=by rw [zgm hd e1 e2 hrd hnone.1 hnone.2,hgot]
    rw [hdead] at hi
    rw [hd] at hi;cases hi
   | some b=>
    have hp:t.ph= .fre b f:=by rw [zgm hd e1 e2 hrd hnone.1 hnone.2,hgot]
    unfold zjm at he
    rw [hp] at he hi
    have hgo:=z4l hr hg hfe hfd he hi.2.1
    have hbi:zi6 (feA s f σ).2 b:=fun hl p i h0 h1=> by
     have hpg:σ.pg p= .held c:=(he.h p).2 (.inl (by unfold zgb;rw [if_pos hl];exact .inl (show p=b.page by omega)))
     exact (hgo.sl p i hpg).trans (hi.1 hl p i h0 h1)
    have hfits:=(zlb hrs hr.may hcl hgot).1
    have fin:∀ t':Rr,RrAt s c (feA s f σ).2 t'->t'.free=some (feA s f σ).1->t'.done=false->zwj s c σ t (t',(feA s f σ).2):=fun t' h1 h2 h3=> by
     have g1:zb2 t=f.gave:=by unfold zb2;rw [e2]
     have g2:zb2 t'=(feA s f σ).1.gave:=by unfold zb2;rw [h2]
     refine ⟨hgo.kept,h1,fun f' e a b=> ⟨?_,h3⟩,fun a=> (by rw [h3] at a;cases a),fun a _=> hgo.chg.2 ?_⟩
     ·rw [e2] at e;injection e with e;subst e
      exact ⟨(hgo.chg.1 (g1 ▸ a) (g2 ▸ b)).1,(hgo.chg.1 (g1 ▸ a) (g2 ▸ b)).2.2,hfd⟩
     ·rw [g1,g2] at a;exact a
    have hdn:(feA s f σ).1.done=true->zaz (feA s f σ).2 c (zgb b):=fun e=> by
     have:=hgo.ex
     rw [zcq (zdp e)] at this
     exact this.eqv (Own.Eqv.zeb _)
    rcases zcp s { t with free:=some (feA s f σ).1 } r (feA s f σ).1 e1 rfl with ⟨h1,_⟩ | ⟨_,h1,_⟩ | ⟨_,_,h1,e⟩ | ⟨_,_,h1,h2,e⟩ | ⟨b',_,_,h1,h2,h3,e⟩ | ⟨b',_,_,_,h2,_,_,h1,h3,e⟩ | ⟨b',_,_,_,h2,_,_,h1,h3,e⟩
    ·have h1:zev t.undo=true:=h1
     rw [hnone.1] at h1;cases h1
    ·have h1:zha t.com=true:=h1
     rw [hnone.2] at h1;cases h1
    ·rw [hrd'] at h1;cases h1
    ·rw [hgot] at h2;cases h2
    ·rw [e]
     have hfd':(feA s f σ).1.done=false:=by
      rcases h3 with h3 | h3 | h3
      ·exact absurd hnone.1 h3
      ·exact absurd hnone.2 h3.2
      ·exact h3.2.2
     have hp':({ t with free:=some (feA s f σ).1 }:Rr).ph= .fre b (feA s f σ).1:=by rw [zgm (t:= { t with free:=some (feA s f σ).1 }) hd e1 rfl hrd hnone.1 hnone.2,hgot]
     refine fin _ ⟨?_,hc,?_⟩ rfl hd
     ·unfold zjm;rw [hp'];exact hgo.ex
     ·rw [hp'];exact ⟨hbi,hgo.inv,hfd'⟩
    ·rw [e]
     rw [hgot] at h2;injection h2 with h2;subst h2
     have hcd:(zc4 s t.c b).done=false:=by rw [hc];simp [zc4,hfits]
     have hp':({ t with free:=some (feA s f σ).1,com:=some (zc4 s t.c b) }:Rr).ph= .com (zc4 s t.c b):=zxc (t:= { t with free:=some (feA s f σ).1,com:=some (zc4 s t.c b) }) hd e1 rfl hrd hnone.1 rfl
     refine fin _ ⟨?_,hc,?_⟩ rfl hd
     ·unfold zjm;rw [hp'];exact hdn h1
     ·rw [hp'];exact ⟨hbi,hcd⟩
    ·rw [e]
     rw [hgot] at h2;injection h2 with h2;subst h2
     have hun:=z6k (s:=s) hfits (hdn h1) hbi
     have hp':({ t with free:=some (feA s f σ).1,undo:=some (zf1 s t.c b) }:Rr).ph= .und (zf1 s t.c b):=zl0 (t:= { t with free:=some (feA s f σ).1,undo:=some (zf1 s t.c b) }) hd e1 rfl hrd rfl
     rw [hc] at hp' ⊢
     refine fin _ ⟨?_,rfl,?_⟩ rfl hd
     ·unfold zjm;rw [hp'];exact hun.1.ex
     ·rw [hp'];exact ⟨hun.1,hun.2,fun r' hr'=> by rw [e1] at hr';injection hr' with hr';subst hr';rw [hgot];simp⟩
  ·have same:∀ t':Rr,t'.free=t.free->zb2 t'=zb2 t:=fun t' h=> by unfold zb2;rw [h]
   cases hu:t.undo with
   | some u=>
    rw [z2h hd e1 e2 hrd hfd hu]
    have hp:t.ph= .und u:=zl0 hd e1 e2 hrd hu
    rw [hp] at hi
    obtain ⟨i1,i2,i3⟩:=hi
    obtain ⟨g1,g2,g3,g4⟩:=yae hg (o3 u hu) i2 i1
    have hcn:t.com=none:=by
     rcases o5 with e | e
     ·rw [hu] at e;cases e
     ·exact e
    have fin:∀ t':Rr,RrAt s c (unA u σ).2 t'->t'.free=t.free->¬ (t'.done=true/\t'.err=0)->zwj s c σ t (t',(unA u σ).2):=fun t' h1 h2 h3=>
     ⟨g1,h1,fun f' _ a b=> (by rw [same t' h2,a] at b;cases b),fun a b=> absurd ⟨a,b⟩ h3,fun _ _=> g3⟩
    rcases zcp s { t with undo:=some (unA u σ).1 } r f e1 e2 with ⟨h1,e⟩ | ⟨_,h1,_⟩ | ⟨_,_,h1,e⟩ | ⟨_,_,h1,h2,e⟩ | ⟨b',h0,_,h1,h2,h3,e⟩ | ⟨b',_,_,_,h2,h1,_,_,h3,e⟩ | ⟨b',_,_,_,h2,h1,_,_,h3,e⟩
    ·rw [e]
     have hud:(unA u σ).1.done=true:=h1
     have:=g2.ex
     unfold zqs at this
     rw [if_pos hud] at this
     exact fin _ (zhq rfl hc this) rfl (fun h=> by have:=h.2;dsimp only at this;omega)
    ·have h1:zha t.com=true:=h1
     rw [hcn] at h1;cases h1
    ·rw [hrd'] at h1;cases h1
    ·exact absurd h2 (i3 r e1)
    ·rw [e]
     have hud:(unA u σ).1.done=false:=h0
     have hp':({ t with undo:=some (unA u σ).1 }:Rr).ph= .und (unA u σ).1:=zl0 (t:= { t with undo:=some (unA u σ).1 }) hd e1 e2 hrd rfl
     refine fin _ ⟨?_,hc,?_⟩ rfl (fun h=> by have:=h.1;rw [show ({ t with undo:=some (unA u σ).1 }:Rr).done=t.done from rfl,hd] at this;cases this)
     ·unfold zjm;rw [hp'];exact g2.ex
     ·rw [hp'];exact ⟨g2,hud,i3⟩
    ·cases h1
    ·cases h1
   | none=>
    cases hcm:t.com with
    | none=>
     exfalso
     rcases o6 hrd' (by simpa using hfd) with e | e
     ·exact e hu
     ·exact e hcm
    | some u=>
     rw [zz2 hd e1 e2 hrd hfd hu hcm]
     have hp:t.ph= .com u:=zxc hd e1 e2 hrd hu hcm
     unfold zjm at he
     rw [hp] at he hi
     have hcu:=hk.cm u hcm
     obtain ⟨g1,g2,g3,g4⟩:=z08 hg (hcu.2 hd).1 (hcu.2 hd).2 he hi.1
     have hud:(cmA u σ).1.done=true:=by rw [g4]
     obtain ⟨r',f',a1,a2,a3,a4⟩:=hk.gv u hcm
     rcases zcp s { t with com:=some (cmA u σ).1 } r f e1 e2 with ⟨h1,e⟩ | ⟨_,h1,e⟩ | ⟨_,h1,_⟩ | ⟨_,h1,_⟩ | ⟨b',_,h1,_⟩ | ⟨b',_,h1,_⟩ | ⟨b',_,h1,_⟩
     ·have h1:zev t.undo=true:=h1
      rw [hu] at h1;cases h1
     ·rw [e]
      refine ⟨g1,zhq rfl hc g2,fun f' _ a b=> ?_,fun _ _=> ⟨r',u.b,a1,a2,g3⟩,fun _ h=> absurd ⟨rfl,rfl⟩ h⟩
      have:zb2 { t with com:=some (cmA u σ).1,err:=0,done:=true }=zb2 t:=same _ rfl
      rw [this,a] at b;cases b
     ·have h1:(cmA u σ).1.done=false:=h1
      rw [hud] at h1;cases h1
     ·have h1:(cmA u σ).1.done=false:=h1
      rw [hud] at h1;cases h1
     ·have h1:(cmA u σ).1.done=false:=h1
      rw [hud] at h1;cases h1
     ·have h1:(cmA u σ).1.done=false:=h1
      rw [hud] at h1;cases h1
     ·have h1:(cmA u σ).1.done=false:=h1
      rw [hud] at h1;cases h1
end

section

variable {s:Sh} {σ σ':Ab} {c d:Int}

def zge (σ:Ab) (d p h:Int):Prop:=σ.pg p= .body h/\σ.pg h= .held d
def zis (σ:Ab) (d p i k:Int):Prop:=(∃ b,σ.pg p= .super k b)/\σ.sl p i= .way d
def zdf (σ:Ab) (d n:Int):Prop:=∀ p h,0<=p->p < n->¬ zge σ d p h
def zcg (σ:Ab) (d n:Int):Prop:=∀ p,0<=p->p < n->σ.pg p≠ .held d
def zhg (σ:Ab) (d n:Int):Prop:=∀ p i k,0<=p->p < n->¬ zis σ d p i k
def zgu (σ:Ab) (d n:Int):Prop:=∀ i,0<=i->i < n->σ.mg d i= .none
def AdD (s:Sh) (σ:Ab) (t:Ad):Prop:=
 if t.next=3 then zdf σ t.d t.at'
 else if t.next=4 then zdf σ t.d t.at'/\(∀ h,zge σ t.d t.at' h->h=t.pa)/\(σ.pg t.pa= .held t.d->σ.pg t.at'= .body t.pa)
 else if t.next=5 then zdf σ t.d t.at'/\zge σ t.d t.at' t.pa
 else if t.next=6 then zdf σ t.d s.p/\zcg σ t.d t.at'
 else if t.next=7 then zdf σ t.d s.p/\zcg σ t.d t.at'/\σ.pg t.at'= .held t.d/\∀ j,0<=j->j < t.i->σ.sl t.at' j= .none
 else if t.next=8 then zdf σ t.d s.p/\zcg σ t.d t.at'/\σ.pg t.at'= .held t.d/\∀ j,σ.sl t.at' j= .none
 else if t.next=9 then zcg σ t.d s.p/\zgu σ t.d t.i/\t.at'=0
 else if t.next=10 then zcg σ t.d s.p/\zgu σ t.d s.m/\zhg σ t.d t.at'
 else if t.next=11 then zcg σ t.d s.p/\zgu σ t.d s.m/\zhg σ t.d t.at'/\∀ j k,zis σ t.d t.at' j k->k=t.pa/\t.i<=j
 else if t.next=12 then zcg σ t.d s.p/\zgu σ t.d s.m/\zhg σ t.d t.at'/\(∀ j k,zis σ t.d t.at' j k->k=t.pa/\t.i<=j)/\zis σ t.d t.at' t.i t.pa
 else zcg σ t.d s.p/\zgu σ t.d s.m/\zhg σ t.d s.p
section

variable {t:Ad}

theorem adD3 (h:t.next=3):AdD s σ t=zdf σ t.d t.at':=by unfold AdD;simp [h]
theorem adD4 (h:t.next=4):AdD s σ t=(zdf σ t.d t.at'/\(∀ h,zge σ t.d t.at' h->h=t.pa)/\(σ.pg t.pa= .held t.d->σ.pg t.at'= .body t.pa)):=by unfold AdD;simp [h]
theorem adD5 (h:t.next=5):AdD s σ t=(zdf σ t.d t.at'/\zge σ t.d t.at' t.pa):=by unfold AdD;simp [h]
theorem adD6 (h:t.next=6):AdD s σ t=(zdf σ t.d s.p/\zcg σ t.d t.at'):=by unfold AdD;simp [h]
theorem adD7 (h:t.next=7):AdD s σ t=(zdf σ t.d s.p/\zcg σ t.d t.at'/\σ.pg t.at'= .held t.d/\∀ j,0<=j->j < t.i->σ.sl t.at' j= .none):=by unfold AdD;simp [h]
theorem adD8 (h:t.next=8):AdD s σ t=(zdf σ t.d s.p/\zcg σ t.d t.at'/\σ.pg t.at'= .held t.d/\∀ j,σ.sl t.at' j= .none):=by unfold AdD;simp [h]
theorem adD9 (h:t.next=9):AdD s σ t=(zcg σ t.d s.p/\zgu σ t.d t.i/\t.at'=0):=by unfold AdD;simp [h]
theorem z4i (h:t.next=10):AdD s σ t=(zcg σ t.d s.p/\zgu σ t.d s.m/\zhg σ t.d t.at'):=by unfold AdD;simp [h]
theorem z6n (h:t.next=11):AdD s σ t=(zcg σ t.d s.p/\zgu σ t.d s.m/\zhg σ t.d t.at'/\∀ j k,zis σ t.d t.at' j k->k=t.pa/\t.i<=j):=by unfold AdD;simp [h]
theorem yb2 (h:t.next=12):AdD s σ t=(zcg σ t.d s.p/\zgu σ t.d s.m/\zhg σ t.d t.at'/\(∀ j k,zis σ t.d t.at' j k->k=t.pa/\t.i<=j)/\zis σ t.d t.at' t.i t.pa):=by unfold AdD;simp [h]
theorem z9t (h:t.next=13):AdD s σ t=(zcg σ t.d s.p/\zgu σ t.d s.m/\zhg σ t.d s.p):=by unfold AdD;simp [h]
end

theorem zjb (hs:Same d σ σ') (p h:Int):zge σ' d p h↔zge σ d p h:=by
 unfold zge
 rw [hs.h h]
 exact ⟨fun ⟨a,b⟩=> ⟨(hs.b p h b).1 a,b⟩,fun ⟨a,b⟩=> ⟨(hs.b p h b).2 a,b⟩⟩
theorem zin (hs:Same d σ σ') (p i k:Int):zis σ' d p i k↔zis σ d p i k:=hs.w p i k
theorem zdf.same {n:Int} (h:zdf σ d n) (hs:Same d σ σ'):zdf σ' d n:=fun p g h0 hp e=> h p g h0 hp ((zjb hs p g).1 e)
theorem zcg.same {n:Int} (h:zcg σ d n) (hs:Same d σ σ'):zcg σ' d n:=fun p h0 hp e=> h p h0 hp ((hs.h p).1 e)
theorem zhg.same {n:Int} (h:zhg σ d n) (hs:Same d σ σ'):zhg σ' d n:=fun p i k h0 hp e=> h p i k h0 hp ((zin hs p i k).1 e)
theorem zgu.same {n:Int} (h:zgu σ d n) (hs:Same d σ σ'):zgu σ' d n:=fun i h0 hi=> (hs.m i).trans (h i h0 hi)
theorem AdD.same {t:Ad} (hn:3<=t.next/\t.next<=13) (h:AdD s σ t) (hs:Same t.d σ σ'):AdD s σ' t:=by
 have:t.next=3\/t.next=4\/t.next=5\/t.next=6\/t.next=7\/t.next=8\/t.next=9\/t.next=10\/t.next=11\/t.next=12\/t.next=13:=by omega
 rcases this with e | e | e | e | e | e | e | e | e | e | e
 ·rw [adD3 e] at *;exact h.same hs
 ·rw [adD4 e] at *;exact ⟨h.1.same hs,fun g e=> h.2.1 g ((zjb hs _ _).1 e),fun e=> (hs.b _ _ ((hs.h _).1 e)).2 (h.2.2 ((hs.h _).1 e))⟩
 ·rw [adD5 e] at *;exact ⟨h.1.same hs,(zjb hs _ _).2 h.2⟩
 ·rw [adD6 e] at *;exact ⟨h.1.same hs,h.2.same hs⟩
 ·rw [adD7 e] at *;exact ⟨h.1.same hs,h.2.1.same hs,(hs.h _).2 h.2.2.1,fun j a b=> (hs.hs _ _ h.2.2.1).trans (h.2.2.2 j a b)⟩
 ·rw [adD8 e] at *;exact ⟨h.1.same hs,h.2.1.same hs,(hs.h _).2 h.2.2.1,fun j=> (hs.hs _ _ h.2.2.1).trans (h.2.2.2 j)⟩
 ·rw [adD9 e] at *;exact ⟨h.1.same hs,h.2.1.same hs,h.2.2⟩
 ·rw [z4i e] at *;exact ⟨h.1.same hs,h.2.1.same hs,h.2.2.same hs⟩
 ·rw [z6n e] at *;exact ⟨h.1.same hs,h.2.1.same hs,h.2.2.1.same hs,fun j k e=> h.2.2.2 j k ((zin hs _ _ _).1 e)⟩
 ·rw [yb2 e] at *;exact ⟨h.1.same hs,h.2.1.same hs,h.2.2.1.same hs,fun j k e=> h.2.2.2.1 j k ((zin hs _ _ _).1 e),(zin hs _ _ _).2 h.2.2.2.2⟩
 ·rw [z9t e] at *;exact ⟨h.1.same hs,h.2.1.same hs,h.2.2.same hs⟩
theorem zdf.succ {n:Int} (h:zdf σ d n) (hn:∀ g,¬ zge σ d n g):zdf σ d (n + 1):=fun p g h0 hp e=> by
 by_cases e2:p=n
 ·subst e2;exact hn g e
 ·exact h p g h0 (by omega) e
theorem zcg.succ {n:Int} (h:zcg σ d n) (hn:σ.pg n≠ .held d):zcg σ d (n + 1):=fun p h0 hp e=> by
 by_cases e2:p=n
 ·subst e2;exact hn e
 ·exact h p h0 (by omega) e
theorem zhg.succ {n:Int} (h:zhg σ d n) (hn:∀ i k,¬ zis σ d n i k):zhg σ d (n + 1):=fun p i k h0 hp e=> by
 by_cases e2:p=n
 ·subst e2;exact hn i k e
 ·exact h p i k h0 (by omega) e
structure AdOn (s:Sh) (σ:Ab) (t t':Ad):Prop where
 dd:AdD s σ t'
 d:t'.d=t.d
 c:t'.c=t.c
 dn:t'.done=t.done
 nx:3<=t'.next/\t'.next<=13
theorem z2v {t:Ad} (h:zdf σ t.d (t.at' + 1)):AdOn s σ t (t.turn s 3 6):=by
 unfold Ad.turn
 dsimp only
 by_cases e:t.at' + 1=s.p
 ·rw [if_pos e]
  dsimp only
  rw [if_neg (by omega)]
  refine ⟨?_,rfl,rfl,rfl,by dsimp only;omega⟩
  rw [adD6 rfl]
  exact ⟨e ▸ h,fun p h0 hp=> by dsimp only at hp;omega⟩
 ·rw [if_neg e]
  dsimp only
  rw [if_neg (by omega)]
  refine ⟨?_,rfl,rfl,rfl,by dsimp only;omega⟩
  rw [adD3 rfl]
  exact h
theorem zz1 {t:Ad} (hb:zdf σ t.d s.p) (h:zcg σ t.d (t.at' + 1)):AdOn s σ t (t.turn s 6 9):=by
 unfold Ad.turn
 dsimp only
 by_cases e:t.at' + 1=s.p
 ·rw [if_pos e]
  dsimp only
  by_cases hm:s.m=0
  ·rw [if_pos ⟨rfl,hm⟩]
   refine ⟨?_,rfl,rfl,rfl,by dsimp only;omega⟩
   rw [z4i rfl]
   exact ⟨e ▸ h,fun i h0 hi=> by omega,fun p i k h0 hp=> by dsimp only at hp;omega⟩
  ·rw [if_neg (fun h=> hm h.2)]
   refine ⟨?_,rfl,rfl,rfl,by dsimp only;omega⟩
   rw [adD9 rfl]
   exact ⟨e ▸ h,fun i h0 hi=> by dsimp only at hi;omega,rfl⟩
 ·rw [if_neg e]
  dsimp only
  rw [if_neg (by omega)]
  refine ⟨?_,rfl,rfl,rfl,by dsimp only;omega⟩
  rw [adD6 rfl]
  exact ⟨hb,h⟩
theorem zwk {t:Ad} (hh:zcg σ t.d s.p) (hm:zgu σ t.d s.m) (h:zhg σ t.d (t.at' + 1)):AdOn s σ t (t.turn s 10 13):=by
 unfold Ad.turn
 dsimp only
 by_cases e:t.at' + 1=s.p
 ·rw [if_pos e]
  dsimp only
  rw [if_neg (by omega)]
  refine ⟨?_,rfl,rfl,rfl,by dsimp only;omega⟩
  rw [z9t rfl]
  exact ⟨hh,hm,e ▸ h⟩
 ·rw [if_neg e]
  dsimp only
  rw [if_neg (by omega)]
  refine ⟨?_,rfl,rfl,rfl,by dsimp only;omega⟩
  rw [z4i rfl]
  exact ⟨hh,hm,h⟩
theorem z8w {t:Ad} (hg:GI s σ) (hh:zcg σ t.d s.p) (hm:zgu σ t.d s.m) (hw:zhg σ t.d t.at') (h:∀ j k,zis σ t.d t.at' j k->k=t.pa/\t.i + 1<=j):AdOn s σ t (t.slot s):=by
 unfold Ad.slot
 split
 ·rename_i e
  have:=zwk (s:=s) (t:= { t with i:=0,next:=11 }) hh hm (hw.succ fun i k hk=> by
   have h1:=h i k hk
   obtain ⟨⟨b,hp⟩,hsl⟩:=hk
   have:=zke hg hp hsl
   rw [h1.1] at this
   omega)
  exact ⟨this.dd,this.d,this.c,this.dn,this.nx⟩
 ·refine ⟨?_,rfl,rfl,rfl,by dsimp only;omega⟩
  rw [z6n rfl]
  exact ⟨hh,hm,hw,h⟩
theorem zpb (hg:GI s σ) (h:zcg σ d s.p) (p:Int):σ.pg p≠ .held d:=fun e=> by
 have:=zkn hg e
 exact h p this.1.1 this.1.2 e
theorem zsc (hg:GI s σ) (h:zgu σ d s.m) (i:Int):σ.mg d i= .none:=by
 by_cases e:σ.mg d i= .none
 ·exact e
 ·have:=hg.mr d i e
  exact h i this.2.1 this.2.2
theorem zzv (hg:GI s σ) (h:zdf σ d s.p) (p g:Int):¬ zge σ d p g:=fun e=> by
 have:=zvc hg e.1
 exact h p g this.2.2.2.1 this.2.2.2.2 e
structure zxh (s:Sh) (σ:Ab) (t:Ad) (r:Ad × Ab):Prop where
 kept:Kept s t.d σ r.2
 on:AdOn s r.2 t r.1
 calm:Calm σ r.2
theorem yb6 {t:Ad} (hg:GI s σ) (hk:adOk s t) (hd:t.done=false) (hn:3<=t.next/\t.next<=12) (h:AdD s σ t):zxh s σ t (adA s t σ):=by
 obtain ⟨c1,c2,c3,c4,c5,c6,c7,c8,c9,c10⟩:=hk.cl hd
 unfold adA
 rw [if_neg (by rw [hd];decide),if_neg (by omega),if_neg (by omega),if_neg (by omega)]
 have quiet:∀ t',AdOn s σ t t'->zxh s σ t (t',σ):=fun t' h=> ⟨Kept.refl hg,h,Calm.refl _⟩
 have on3:∀ t':Ad,t'.d=t.d->t'.c=t.c->t'.done=t.done->t'.at'=t.at'->(∀ g,¬ zge σ t.d t.at' g)->zdf σ t.d t.at'->AdOn s σ t (t'.turn s 3 6):=fun t' e1 e2 e3 e4 e5 e6=> by
  have:=z2v (s:=s) (σ:=σ) (t:=t') (by rw [e1,e4];exact e6.succ e5)
  exact ⟨this.dd,this.d.trans e1,this.c.trans e2,this.dn.trans e3,this.nx⟩
 have on10:∀ t':Ad,t'.d=t.d->t'.c=t.c->t'.done=t.done->t'.at'=t.at'->zcg σ t.d s.p->zgu σ t.d s.m->(∀ i k,¬ zis σ t.d t.at' i k)->zhg σ t.d t.at'->AdOn s σ t (t'.turn s 10 13):=fun t' e1 e2 e3 e4 e5 e6 e7 e8=> by
  have:=zwk (s:=s) (σ:=σ) (t:=t') (by rw [e1];exact e5) (by rw [e1];exact e6) (by rw [e1,e4];exact e8.succ e7)
  exact ⟨this.dd,this.d.trans e1,this.c.trans e2,this.dn.trans e3,this.nx⟩
 by_cases e3:t.next=3
 ·rw [if_pos e3]
  rw [adD3 e3] at h
  have other:(∀ g,σ.pg t.at'≠ .body g)->zxh s σ t ((t.zkp (σ.pg t.at')).turn s 3 6,σ):=fun hx=> quiet _ (on3 _ rfl rfl rfl rfl (fun g e=> hx g e.1) h)
  cases hx:σ.pg t.at' with
  | body g=>
   refine quiet _ ⟨?_,rfl,rfl,rfl,by dsimp only;omega⟩
   rw [adD4 rfl]
   exact ⟨h,fun g' e=> by have:=e.1;dsimp only [Ad.zkp] at this;rw [hx] at this;injection this with this;exact this.symm,fun _=> hx⟩
  | _=> have:=other (fun g e=> by rw [hx] at e;cases e);rw [hx] at this;exact this
 rw [if_neg e3]
 by_cases e4:t.next=4
 ·rw [if_pos e4]
  rw [adD4 e4] at h
  by_cases hx:σ.pg t.pa= .held t.d
  ·rw [if_pos hx]
   refine quiet _ ⟨?_,rfl,rfl,rfl,by dsimp only;omega⟩
   rw [adD5 rfl]
   exact ⟨h.1,h.2.2 hx,hx⟩
  ·rw [if_neg hx]
   exact quiet _ (on3 _ rfl rfl rfl rfl (fun g e=> hx (by rw [<- h.2.1 g e];exact e.2)) h.1)
 rw [if_neg e4]
 by_cases e5:t.next=5
 ·rw [if_pos e5]
  rw [adD5 e5] at h
  obtain ⟨h1,h2⟩:=h
  have hkp:=zjz hg h2.1 h2.2
  have hb:∀ p g,zge (σ.page t.at' .empty) t.d p g->zge σ t.d p g:=fun p g e=> by
   have hg':(σ.page t.at' .empty).pg g= .held t.d:=e.2
   by_cases ep:p=t.at'
   ·subst ep;have:=e.1;rw [za4] at this;cases this
   ·have e1:=e.1
    rw [zbd _ _ ep] at e1
    refine ⟨e1,?_⟩
    by_cases eg:g=t.at'
    ·subst eg;rw [za4] at hg';cases hg'
    ·rw [zbd _ _ eg] at hg';exact hg'
  refine ⟨hkp,z2v (zdf.succ (fun p g h0 hp e=> h1 p g h0 hp (hb p g e)) (fun g e=> by have:=e.1;rw [za4] at this;cases this)),zdt (fun n e=> by cases e) (fun n e=> by rw [h2.1] at e;cases e)⟩
 rw [if_neg e5]
 by_cases e6:t.next=6
 ·rw [if_pos e6]
  rw [adD6 e6] at h
  by_cases hx:σ.pg t.at'= .held t.d
  ·rw [if_pos hx]
   refine quiet _ ⟨?_,rfl,rfl,rfl,by dsimp only;omega⟩
   rw [adD7 rfl]
   exact ⟨h.1,h.2,hx,fun j a b=> by dsimp only at b;omega⟩
  ·rw [if_neg hx]
   exact quiet _ (zz1 h.1 (h.2.succ hx))
 rw [if_neg e6]
 by_cases e7:t.next=7
 ·rw [if_pos e7]
  rw [adD7 e7] at h
  obtain ⟨h1,h2,h3,h4⟩:=h
  have hkp:=zgw hg h3 (i:=t.i) (u:= .none) (.inl rfl)
  have hj:∀ j,0<=j->j < t.i + 1->(σ.slot t.at' t.i .none).sl t.at' j= .none:=fun j a b=> by
   by_cases e:j=t.i
   ·subst e;exact zbs _ _ _ _
   ·rw [zbq _ _ (fun e2=> e e2.2)];exact h4 j a (by omega)
  refine ⟨hkp,?_,zdn (fun n e=> by cases e) (fun n e=> by rcases zgg hg h3 t.i with e2 | e2;(rw [e2] at e;cases e);(rw [e2.1] at e;cases e))⟩
  by_cases e:t.i + 1=16
  ·rw [if_pos e]
   refine ⟨?_,rfl,rfl,rfl,by dsimp only;omega⟩
   rw [adD8 rfl]
   refine ⟨h1,h2,h3,fun j=> ?_⟩
   by_cases hin:0<=j/\j < 16
   ·exact hj j hin.1 (by omega)
   ·rcases zgg hkp.1 (p:=t.at') (c:=t.d) h3 j with e3 | e3
    ·exact e3
    ·exact absurd e3.2 hin
  ·rw [if_neg e]
   refine ⟨?_,rfl,rfl,rfl,by dsimp only;omega⟩
   rw [adD7 (by exact e7)]
   exact ⟨h1,h2,h3,hj⟩
 rw [if_neg e7]
 by_cases e8:t.next=8
 ·rw [if_pos e8]
  rw [adD8 e8] at h
  obtain ⟨h1,h2,h3,h4⟩:=h
  have hnb:∀ q,σ.pg q≠ .body t.at':=fun q e=> zzv hg h1 q _ ⟨e,h3⟩
  refine ⟨zg7 hg h3 h4 hnb,zz1 (fun p g h0 hp e=> ?_) (zcg.succ (fun p h0 hp e=> h2 p h0 hp ?_) (fun e=> by rw [za4] at e;cases e)),zdt (fun n e=> by cases e) (fun n e=> by rw [h3] at e;cases e)⟩
  ·have hg':(σ.page t.at' .empty).pg g= .held t.d:=e.2
   have e1:=e.1
   by_cases ep:p=t.at'
   ·subst ep;rw [za4] at e1;cases e1
   ·rw [zbd _ _ ep] at e1
    by_cases eg:g=t.at'
    ·subst eg;rw [za4] at hg';cases hg'
    ·rw [zbd _ _ eg] at hg';exact h1 p g h0 hp ⟨e1,hg'⟩
  ·rw [zbd _ _ (by omega)] at e;exact e
 rw [if_neg e8]
 by_cases e9:t.next=9
 ·rw [if_pos e9]
  rw [adD9 e9] at h
  have hm:zgu (σ.mag t.d t.i .none) t.d (t.i + 1):=fun j h0 hj=> by
   by_cases e:j=t.i
   ·subst e;exact zcb _ _ _ _
   ·rw [zci _ _ (fun e2=> e e2.2)];exact h.2.1 j h0 (by omega)
  refine ⟨zi4 hg,?_,zpy⟩
  by_cases e:t.i + 1=s.m
  ·rw [if_pos e]
   refine ⟨?_,rfl,rfl,rfl,by dsimp only;omega⟩
   rw [z4i rfl]
   exact ⟨h.1,by rw [<- e];exact hm,fun p i k h0 hp=> by dsimp only at hp;omega⟩
  ·rw [if_neg e]
   refine ⟨?_,rfl,rfl,rfl,by dsimp only;omega⟩
   rw [adD9 (by exact e9)]
   exact ⟨h.1,hm,h.2.2⟩
 rw [if_neg e9]
 by_cases e10:t.next=10
 ·rw [if_pos e10]
  rw [z4i e10] at h
  obtain ⟨h1,h2,h3⟩:=h
  have other:(∀ k b,σ.pg t.at'≠ .super k b)->zxh s σ t ((t.zkp (σ.pg t.at')).turn s 10 13,σ):=fun hx=> quiet _ (on10 _ rfl rfl rfl rfl h1 h2 (fun i k e=> by obtain ⟨⟨b,e⟩,_⟩:=e;exact hx k b e) h3)
  cases hx:σ.pg t.at' with
  | super k b=>
   refine quiet _ ⟨?_,rfl,rfl,rfl,by dsimp only;omega⟩
   rw [z6n rfl]
   refine ⟨h1,h2,h3,fun j k' e=> ?_⟩
   obtain ⟨⟨b',e1⟩,e2⟩:=e
   have e1:σ.pg t.at'= .super k' b':=e1
   have hr:=zke hg e1 e2
   rw [hx] at e1
   injection e1 with e1 _
   exact ⟨e1.symm,hr.1⟩
  | _=> have:=other (fun k b e=> by rw [hx] at e;cases e);rw [hx] at this;exact this
 rw [if_neg e10]
 by_cases e11:t.next=11
 ·rw [if_pos e11]
  rw [z6n e11] at h
  obtain ⟨h1,h2,h3,h4⟩:=h
  by_cases hx:σ.sl t.at' t.i= .way t.d
  ·rw [if_pos hx]
   refine quiet _ ⟨?_,rfl,rfl,rfl,by dsimp only;omega⟩
   rw [yb2 rfl]
   refine ⟨h1,h2,h3,h4,?_⟩
   have hsk:=hg.sk t.at' t.i
   rw [hx] at hsk
   have hsup:∀ k b,σ.pg t.at'= .super k b->zis σ t.d t.at' t.i t.pa:=fun k b e=> by
    have hw:zis σ t.d t.at' t.i k:=⟨⟨b,e⟩,hx⟩
    rw [<- (h4 _ _ hw).1];exact hw
   cases hp:σ.pg t.at' with
   | super k b=> exact hsup k b hp
   | held o=>
    exfalso
    rw [hp] at hsk
    rcases hsk with e | e
    ·cases e
    ·injection e.1 with e;subst e;exact zpb hg h1 _ hp
   | empty=> rw [hp] at hsk;cases hsk
   | large n=> rw [hp] at hsk;cases hsk
   | body g=> rw [hp] at hsk;cases hsk
  ·rw [if_neg hx]
   refine quiet _ (z8w hg h1 h2 h3 fun j k e=> ⟨(h4 j k e).1,?_⟩)
   have:=(h4 j k e).2
   have:j≠t.i:=fun ej=> hx (by rw [<- ej];exact e.2)
   omega
 rw [if_neg e11]
 have e12:t.next=12:=by omega
 rw [if_pos e12]
 rw [yb2 e12] at h
 obtain ⟨h1,h2,h3,h4,⟨b,hp⟩,hsl⟩:=h
 have hkp:=zc6 hg hp hsl (u:= .opened t.pa) (.inl rfl) (fun j k' e=> by rw [zsc hg h2] at e;cases e)
 have hw:∀ p i k,zis (σ.slot t.at' t.i (.opened t.pa)) t.d p i k->zis σ t.d p i k/\¬ (p=t.at'/\i=t.i):=fun p i k e=> by
  obtain ⟨e1,e2⟩:=e
  by_cases ep:p=t.at'/\i=t.i
  ·obtain ⟨rfl,rfl⟩:=ep;rw [zbs] at e2;cases e2
  ·rw [zbq _ _ ep] at e2;exact ⟨⟨e1,e2⟩,ep⟩
 refine ⟨hkp,z8w hkp.1 h1 h2 (fun p i k h0 hp e=> h3 p i k h0 hp (hw p i k e).1) (fun j k e=> ?_),zdn (fun n e=> by cases e) (fun n e=> by rw [hsl] at e;cases e)⟩
 obtain ⟨e1,e2⟩:=hw _ _ _ e
 have:=h4 j k e1
 refine ⟨this.1,?_⟩
 have:j≠t.i:=fun ej=> e2 ⟨rfl,ej⟩
 omega
end

section

variable {s:Sh} {σ σ':Ab} {c:Int}

structure znv (s:Sh) (σ:Ab) (c:Int) (t:Ad):Prop where
 cl:t.c=c
 n1:t.done=false->t.next=1->t.was=(TW.owned t.who).enc/\(TW.owned t.who).fit s/\σ.st t.who≠ .unused
 n2:t.done=false->t.next=2->t.was=TW.dead.enc\/∃ o,t.was=(TW.owned o).enc/\(TW.owned o).fit s/\σ.st o≠ .unused/\σ.st o≠ .live
 n3:t.done=false->3<=t.next->σ.st t.d= .owned c/\AdD s σ t
 ne:t.done=false->t.d≠c
 a0:t.next<=2->t.at'=0
def JbAt (s:Sh) (c:Int) (σ:Ab):Jb->Prop
 | .mal r none=> RsAt s c σ r
 | .mal _ (some _)=> zaz σ c .no
 | .fre f=> zaz σ c (ziw f)/\zr5 s c σ .no f
 | .aga r=> RrAt s c σ r
 | .hei a=> zaz σ c .no/\znv s σ c a
theorem yb5 {j:Jb} (hk:jbIs s c j) (hd:j.done=true) (h:JbAt s c σ j):zaz σ c .no:=by
 cases j with
 | mal r x=>
  rcases x with _ | x
  ·have hd:(r.done && (!r.got.isSome || false))=true:=hd
   rw [Bool.and_eq_true] at hd
   refine (zkv hk.1 hd.1 h).1 ?_
   have:=hd.2
   cases hg:r.got
   ·rfl
   ·rw [hg] at this;cases this
  ·exact h
 | fre f=>
  have:=h.1
  rw [zcq (zdp hd)] at this
  exact this
 | aga r=>
  have hd:r.done=true:=hd
  have hp:r.ph= .dead:=by unfold Rr.ph;rw [if_pos hd]
  have:=h.ex
  unfold zjm at this
  rw [hp] at this
  exact this
 | hei a=> exact h.1
def Jb.fe:Jb->Option Fe
 | .fre f=> some f
 | .aga r=> r.free
 | _=> none
structure ycz (s:Sh) (c:Int) (σ:Ab) (j:Jb) (r:Jb × Ab):Prop where
 kept:Kept s c σ r.2
 at':JbAt s c r.2 r.1
 gave:j.gave=false->r.1.gave=true->(∃ f,j.fe=some f/\zr4 (feBl f) σ r.2/\f.next=1/\f.done=false)/\r.1.done=false
 took:∀ b,r.1.took=some b->Plus (zoa b) σ r.2
 calm:(j.gave=true\/r.1.gave=false)->r.1.took=none->Calm σ r.2
theorem ya1 {m:Mem} {j:Jb} (hr:Rep s m σ) (hg:GI s σ) (hk:jbIs s c j) (hcl:0<=c/\c < s.c) (hd:j.done=false) (h:JbAt s c σ j) (ha:∀ a,j≠ .hei a):ycz s c σ j (j.zhf s c σ):=by
 cases j with
 | mal r x=>
  unfold Jb.zhf
  dsimp only
  rcases x with _ | x
  ·by_cases hrd:r.done=false
   ·rw [if_pos hrd]
    have hgo:=z1q hr hg hk.1 hrd h
    exact ⟨hgo.kept,hgo.at',fun _ e=> (by cases e),fun b e=> (by cases e),fun _ _=> hgo.calm⟩
   ·rw [if_neg hrd]
    have hrd':r.done=true:=by simpa using hrd
    have hd':(r.done && (!r.got.isSome || zck none))=false:=hd
    rw [hrd',Bool.true_and,Bool.or_eq_false_iff] at hd'
    cases hgot:r.got with
    | none=> rw [hgot] at hd';cases hd'.1
    | some b=>
     have hm:zhp s c r none=some (zc4 s c b):=by unfold zhp;rw [hgot]
     rw [hm]
     dsimp only
     have hf:=(zlb hk.1 hr.may hcl hgot).1
     obtain ⟨b1,b2⟩:=(zkv hk.1 hrd' h).2 b hgot
     obtain ⟨g1,g2,g3,g4⟩:=z08 (t:=zc4 s c b) hg (by simp [zc4,hf]) hf b1 b2
     refine ⟨g1,g2,fun _ e=> (by cases e),fun b' e=> ?_,fun _ e=> ?_⟩
     ·have e:(if zck (some (cmA (zc4 s c b) σ).1)=true then r.got else none)=some b':=e
      rw [if_pos (by show (cmA (zc4 s c b) σ).1.done=true;rw [g4]),hgot] at e
      injection e with e;subst e;exact g3
     ·have e:(if zck (some (cmA (zc4 s c b) σ).1)=true then r.got else none)=none:=e
      rw [if_pos (by show (cmA (zc4 s c b) σ).1.done=true;rw [g4]),hgot] at e
      cases e
  ·exfalso
   have hx:=hk.2 x rfl
   have:(Jb.mal r (some x)).done=true:=by
    show (r.done && (!r.got.isSome || x.done))=true
    rw [hx.2.1,hx.2.2.1];simp
   rw [this] at hd;cases hd
 | fre f=>
  have hgo:=z4l hr hg hk hd h.1.zeb h.2
  exact ⟨hgo.kept,⟨hgo.ex.zrk,hgo.inv⟩,fun e1 e2=> ⟨⟨f,rfl,(hgo.chg.1 e1 e2).1,(hgo.chg.1 e1 e2).2.2,hd⟩,(hgo.chg.1 e1 e2).2.1⟩,fun b e=> (by cases e),fun e _=> hgo.chg.2 e⟩
 | aga r=>
  have hgo:=ybw hr hg hk hcl hd h
  have ht:∀ b,(Jb.aga (rrA s r σ).1).took=some b->Plus (zoa b) σ (rrA s r σ).2:=fun b e=> by
   have e:(if (rrA s r σ).1.done=true/\(rrA s r σ).1.err=0 then (match (rrA s r σ).1.res with | some x=> x.got | none=> none) else none)=some b:=e
   split at e
   ·rename_i hc
    obtain ⟨x,b',e1,e2,e3⟩:=hgo.took hc.1 hc.2
    rw [e1] at e
    dsimp only at e
    rw [e2] at e
    injection e with e;subst e;exact e3
   ·cases e
  refine ⟨hgo.kept,hgo.at',fun e1 e2=> ?_,ht,fun e1 e2=> hgo.calm e1 fun hc=> ?_⟩
  ·have e1:zb2 r=false:=e1
   cases hf:r.free with
   | none=> 
    obtain ⟨_,f,_,a2,_⟩:=hk.ok.cl hd
    rw [hf] at a2;cases a2
   | some f=> exact ⟨⟨f,hf,(hgo.gave f hf e1 e2).1⟩,(hgo.gave f hf e1 e2).2⟩
  ·obtain ⟨x,b',e1,e2',e3⟩:=hgo.took hc.1 hc.2
   have e:(if (rrA s r σ).1.done=true/\(rrA s r σ).1.err=0 then (match (rrA s r σ).1.res with | some x=> x.got | none=> none) else none)=none:=e2
   rw [if_pos hc,e1] at e
   dsimp only at e
   rw [e2'] at e;cases e
 | hei a=> exact absurd rfl (ha a)
theorem z8k (hs:mayB s.p s.c s.m=true) (he:zaz σ c .no) (k f:Int):zaz σ c (zey s (zhb s c k f))/\zir s c σ (zhb s c k f):=by
 unfold zhb
 split
 ·rename_i h
  have h1:=zbe h.1
  have h2:=zar.1 hs
  have h3:=zcs h.2.2
  have ho:skOk s ⟨c,k,f,some (.tk (zg3 s c k)),0,0,0,false,false⟩:=⟨fun _=> ⟨by dsimp only;omega,h.2.1,by dsimp only;omega,by dsimp only;omega,fun x hx=> by
   injection hx with hx;subst hx;exact ⟨zl1 _ _ _,rfl⟩⟩,fun e=> (by cases e)⟩
  have:=zk9 (σ:=σ) (c:=c) hs 5 ho he.zeb ⟨rfl,fun e=> (by cases e),fun _ x hx=> by injection hx with hx;subst hx;exact ⟨⟨rfl,fun e=> (by cases e)⟩,trivial⟩⟩
  exact ⟨this.1.zrk,this.2⟩
 ·exact ⟨he,⟨rfl,fun _ _=> rfl,fun _ x hx=> by cases hx⟩⟩
theorem z7a (he:zaz σ c .no) (n:Int):RnIn c σ (zf8 s c n):=by
 rcases Bool.eq_false_or_eq_true (zf8 s c n).done with e | e
 ·have hp:(zf8 s c n).ph= .dead:=by unfold Rn.ph;rw [if_neg (fun x:(zf8 s c n).found=true=> Bool.noConfusion x),if_pos e]
  refine ⟨?_,rfl,?_⟩
  ·unfold zf2;rw [hp];exact he
  ·rw [hp];trivial
 ·have hp:(zf8 s c n).ph= .look:=by unfold Rn.ph;rw [if_neg (fun x:(zf8 s c n).found=true=> Bool.noConfusion x),if_neg (by rw [e];decide)];rfl
  exact zj2 hp rfl (he.eqv (Own.zi7 (by show (0:Int)<=0;omega)).symm) (fun p i h0 h1=> by have h0:0<=p:=h0;have h1:p < 0:=h1;omega)
theorem zwu (hs:mayB s.p s.c s.m=true) (he:zaz σ c .no) (n f:Int):RsAt s c σ (zdh s c n f):=by
 unfold zdh
 split
 ·have:=z8k hs he (zcn n) f
  exact ⟨this.1,this.2⟩
 ·split
  ·have:=z7a (s:=s) he (runV n)
   exact ⟨this.1,this.2⟩
  ·exact ⟨he,trivial⟩
theorem z7w (hs:mayB s.p s.c s.m=true) (hc:0<=c/\c < s.c) (he:zaz σ c .no) (a n f:Int):RrAt s c σ (zhh s c a n f):=by
 unfold zhh
 split
 ·rename_i h
  have hr:=zwu hs he n f
  have hk:=(z0h (s:=s) c n f hs).1
  have hfr:=zmw (c:=c) hs hc h.1
  have res:∀ t:Rr,t.c=c->t.done=false->t.res=some (zdh s c n f)->t.free=some (zc2 s c a)->(zdh s c n f).done=false->RrAt s c σ t:=fun t e1 e2 e3 e4 e5=> by
   have hp:t.ph= .res (zdh s c n f):=by unfold Rr.ph;rw [if_neg (by rw [e2];decide),e3,e4];dsimp only;rw [if_pos e5]
   refine ⟨?_,e1,?_⟩
   ·unfold zjm;rw [hp];exact hr.ex
   ·rw [hp];exact ⟨hr.inv,fun f' hf=> by rw [e4] at hf;injection hf with hf;subst hf;exact hfr⟩
  rcases zcp s ⟨c,some (zdh s c n f),some (zc2 s c a),none,none,0,false⟩ (zdh s c n f) (zc2 s c a) rfl rfl with ⟨h1,_⟩ | ⟨_,h1,_⟩ | ⟨_,_,h1,e⟩ | ⟨_,_,h1,h2,e⟩ | ⟨b,_,_,h1,h2,h3,e⟩ | ⟨b,_,_,_,_,_,_,h1,_,e⟩ | ⟨b,_,_,_,_,_,_,h1,_,e⟩
  ·cases h1
  ·cases h1
  ·rw [e];exact res _ rfl rfl rfl rfl h1
  ·rw [e];exact zhq rfl rfl ((zkv hk h1 hr).1 h2)
  ·rw [e]
   obtain ⟨b1,b2⟩:=(zkv hk h1 hr).2 b h2
   have hp:(⟨c,some (zdh s c n f),some (zc2 s c a),none,none,0,false⟩:Rr).ph= .fre b (zc2 s c a):=by unfold Rr.ph;dsimp only;rw [if_neg (by decide),if_neg (by rw [h1];decide),h2]
   have hid:=zib (t:=zc2 s c a) (.inl hfr.2.1)
   refine ⟨?_,rfl,?_⟩
   ·unfold zjm;rw [hp];dsimp only;rw [zcq hid];exact b1.eqv (Own.Eqv.zeb _).symm
   ·rw [hp];exact ⟨b2,zen hfr.2.2 hid (fun _ e=> by rw [hfr.2.1] at e;cases e),hfr.1⟩
  ·have h1:(zc2 s c a).done=true:=h1
   rw [hfr.1] at h1;cases h1
  ·have h1:(zc2 s c a).done=true:=h1
   rw [hfr.1] at h1;cases h1
 ·exact zhq rfl rfl he
theorem z5b (hs:mayB s.p s.c s.m=true) (hc:0<=c/\c < s.c) (he:zaz σ c .no) (f k a n:Int):JbAt s c σ (zgl s c f k a n):=by
 unfold zgl
 split
 ·exact zwu hs he n f
 ·split
  ·have hid:(zc2 s c a).ph= .idle:=zib (.inl rfl)
   exact ⟨by rw [zcq hid];exact he,zen rfl hid (fun _ e=> by cases e)⟩
  ·split
   ·exact z7w hs hc he a n f
   ·refine ⟨he,?_⟩
    unfold zix
    dsimp only
    split
    ·exact ⟨rfl,fun e=> (by cases e),fun e=> (by cases e),fun e=> (by cases e),fun e=> (by cases e),fun _=> rfl⟩
    ·rename_i h
     exact ⟨rfl,fun _ e=> (by cases e),fun _ e=> (by cases e),fun _ e=> by exfalso;have e:(3:Int)<=0:=e;omega,fun _ e=> h (.inr (.inr e.symm)),fun _=> rfl⟩
structure Later (σ σ':Ab):Prop where
 un:∀ x,σ.st x≠ .unused->σ'.st x≠ .unused
 lv:∀ x,σ.st x≠ .unused->σ.st x≠ .live->σ'.st x≠ .live
theorem Later.yc7 (h:∀ x,σ'.st x=σ.st x):Later σ σ':=⟨fun x e=> by rw [h];exact e,fun x _ e=> by rw [h];exact e⟩
theorem znv.same {t:Ad} (hk:adOk s t) (h:znv s σ c t) (hl:Later σ σ') (h3:t.done=false->3<=t.next->σ'.st t.d= .owned c/\Same t.d σ σ'):znv s σ' c t:=by
 refine ⟨h.cl,fun a b=> ?_,fun a b=> ?_,fun a b=> ⟨(h3 a b).1,AdD.same ⟨b,(hk.cl a).2.2.2.1.2⟩ (h.n3 a b).2 (h3 a b).2⟩,h.ne,h.a0⟩
 ·obtain ⟨e1,e2,e3⟩:=h.n1 a b
  exact ⟨e1,e2,hl.un _ e3⟩
 ·rcases h.n2 a b with e | ⟨o,e1,e2,e3,e4⟩
  ·exact .inl e
  ·exact .inr ⟨o,e1,e2,hl.un _ e3,hl.lv _ e3 e4⟩
theorem JbAt.same {j:Jb} (hk:jbIs s c j) (h:JbAt s c σ j) (hs:Same c σ σ') (hl:Later σ σ') (h3:∀ t,j= .hei t->t.done=false->3<=t.next->σ'.st t.d= .owned c/\Same t.d σ σ'):JbAt s c σ' j:=by
 cases j with
 | mal r x=>
  rcases x with _ | x
  ·exact RsAt.same h hs
  ·exact zaz.same h hs
 | fre f=> exact ⟨h.1.same hs,h.2.same h.1.zeb hs⟩
 | aga r=> exact RrAt.same h hs
 | hei a=> exact ⟨h.1.same hs,h.2.same hk.1 hl (h3 a rfl)⟩
end

end Go.Proofs.YtampacmmhhilaaaGreat
