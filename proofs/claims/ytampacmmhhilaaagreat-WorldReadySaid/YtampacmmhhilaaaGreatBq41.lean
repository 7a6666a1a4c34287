/- Texts bound together: InvO InvQ. -/
import Derived.Test.YtampacmmhhilaaaGreatBq40

import Derived.Test.YtampacmmhhilaaaGreatBq35

set_option linter.all false
namespace Go.Proofs.YtampacmmhhilaaaGreat

section

def KlAt (s:Sh) (c:Int) (σ:Ab) (k:Kl):Prop:=match k.job with
 | none=> zaz σ c .no
 | some j=> JbAt s c σ j
structure WI (s:Sh) (σ:Ab) (d:Wd):Prop where
 rep:Rep s d.m σ
 gi:GI s σ
 li:∀ c k,d.kl c=some k->σ.st c= .live/\KlAt s c σ k
 nl:∀ c,σ.st c= .live->∃ k,d.kl c=some k
 un:∀ c,σ.st c= .unused\/σ.st c= .done->zaz σ c .no/\∀ i,σ.mg c i= .none
 ow:∀ x a,σ.st x= .owned a->σ.st a≠ .unused/\(σ.st a= .live->∃ k t,d.kl a=some k/\k.job=some (.hei t)/\t.d=x/\t.done=false/\3<=t.next)
structure Chg (j j':Jb) (σ σ':Ab):Prop where
 gave:j.gave=false->j'.gave=true->(∃ f,j.fe=some f/\zr4 (feBl f) σ σ'/\f.next=1/\f.done=false)/\j'.done=false
 took:∀ b,j'.took=some b->Plus (zoa b) σ σ'
 calm:(j.gave=true\/j'.gave=false)->j'.took=none->Calm σ σ'
 st:∀ x,σ'.st x= .unused↔σ.st x= .unused
theorem z3h {σ:Ab} {x c:Int} (h:σ.st c= .live) (hx:σ.st x≠ .live):x≠c:=fun e=> hx (e ▸ h)
theorem KlAt.same {s:Sh} {c:Int} {σ σ':Ab} {k:Kl} (hk:klOk s k) (hc:k.c=c) (h:KlAt s c σ k) (hs:Same c σ σ') (hl:Later σ σ') (h3:∀ t,k.job=some (.hei t)->t.done=false->3<=t.next->σ'.st t.d= .owned c/\Same t.d σ σ'):KlAt s c σ' k:=by
 unfold KlAt at *
 cases hj:k.job with
 | none=> rw [hj] at h;exact h.same hs
 | some j=>
  rw [hj] at h
  exact h.same (hc ▸ (hk.jb j hj).1) hs hl fun t e=> h3 t (by rw [hj,e])
theorem zup {s:Sh} {c:Int} {σ:Ab} {k:Kl} {t:Ad} (h:KlAt s c σ k) (hj:k.job=some (.hei t)):zaz σ c .no/\znv s σ c t:=by
 unfold KlAt at h
 rw [hj] at h
 exact h
theorem z6d {s:Sh} {σ σ':Ab} {d:Wd} {n:Nat} {c:Int} {k k':Kl} {j:Jb} {m':Mem} {tr:List Ev} {lg:List Acc} (h:WI s σ d) (hd:wdOk s d n) (hk:d.kl c=some k) (hj:k.job=some j) (ha:∀ t,j≠ .hei t)
  (hr:Rep s m' σ') (hkp:Kept s c σ σ') (hk':KlAt s c σ' k'):WI s σ' ⟨m',d.l.set c.toNat (some k'),tr,lg⟩:=by
 have hlv:=(h.li c k hk).1
 have hcl:=d.zdk (Wd.zfs hk).1 (Wd.zfs hk).2 (some k') m' tr lg
 have hlt:=Later.yc7 hkp.2.2
 refine ⟨hr,hkp.1,fun x y hx=> ?_,fun x hx=> ?_,fun x hx=> ?_,fun x a hx=> ?_⟩
 ·rw [hcl] at hx
  split at hx
  ·rename_i e
   subst e
   injection hx with hx;subst hx
   exact ⟨(hkp.2.2 x).trans hlv,hk'⟩
  ·rename_i e
   obtain ⟨l1,l2⟩:=h.li x y hx
   refine ⟨(hkp.2.2 x).trans l1,l2.same (hd.kl x y hx).1 (hd.kl x y hx).2.1 (hkp.2.1 x e) hlt fun t e1 e2 e3=> ?_⟩
   have h3:=((zup l2 e1).2.n3 e2 e3).1
   exact ⟨(hkp.2.2 _).trans h3,hkp.2.1 _ (z3h hlv (by rw [h3];simp))⟩
 ·rw [hkp.2.2] at hx
  rw [hcl]
  split
  ·exact ⟨_,rfl⟩
  ·exact h.nl x hx
 ·rw [hkp.2.2] at hx
  have hne:x≠c:=z3h hlv (by rcases hx with e | e <;> rw [e] <;> simp)
  obtain ⟨u1,u2⟩:=h.un x hx
  exact ⟨u1.same (hkp.2.1 x hne),fun i=> ((hkp.2.1 x hne).m i).trans (u2 i)⟩
 ·rw [hkp.2.2] at hx
  rw [hkp.2.2]
  obtain ⟨o1,o2⟩:=h.ow x a hx
  refine ⟨o1,fun hl=> ?_⟩
  obtain ⟨k2,t,e1,e2,e3,e4,e5⟩:=o2 hl
  have hne:a≠c:=fun e=> by
   subst e
   rw [hk] at e1;injection e1 with e1;subst e1
   rw [hj] at e2;injection e2 with e2
   exact ha t e2
  exact ⟨k2,t,by rw [hcl,if_neg hne];exact e1,e2,e3,e4,e5⟩
theorem zzn {s:Sh} {σ:Ab} {d:Int} (hg:GI s σ) (h1:zcg σ d s.p) (h2:zgu σ d s.m) (h3:zhg σ d s.p):zaz σ d .no/\∀ i,σ.mg d i= .none:=by
 have hh:=zpb hg h1
 have hm:=zsc hg h2
 refine ⟨⟨fun p=> ⟨fun e=> absurd e (hh p),fun e=> e.elim⟩,fun p g=> ⟨fun e=> absurd e.2 (hh g),fun e=> e.elim⟩,fun p i k=> ⟨fun e=> ?_,fun e=> ?_⟩,fun p i k j e=> e.elim⟩,hm⟩
 ·obtain ⟨⟨b,e1⟩,e2⟩:=e
  have:=zjs hg e1
  exact absurd ⟨⟨b,e1⟩,e2⟩ (h3 p i k this.1.1 this.1.2)
 ·rcases e with e | ⟨j,e⟩
  ·exact e.elim
  ·rw [hm j] at e;cases e
theorem yby {s:Sh} {σ:Ab} {d:Wd} {n:Nat} {c:Int} {k:Kl} {t:Ad} {tr:List Ev} {lg:List Acc} (h:WI s σ d) (hd:wdOk s d n) (hk:d.kl c=some k) (hj:k.job=some (.hei t)) (hao:adOk s t) (htd:t.done=false)
  (k':Kl) (hjk:k'.job=if (adA s t σ).1.done=true then none else some (.hei (adA s t σ).1)) (m':Mem) (hr:Rep s m' (adA s t σ).2):WI s (adA s t σ).2 ⟨m',d.l.set c.toNat (some k'),tr,lg⟩/\Calm σ (adA s t σ).2/\∀ x,(adA s t σ).2.st x= .unused↔σ.st x= .unused:=by
 obtain ⟨hlv,hka⟩:=h.li c k hk
 obtain ⟨hex,hmi⟩:=zup hka hj
 have hcl:=d.zdk (Wd.zfs hk).1 (Wd.zfs hk).2 (some k') m' tr lg
 obtain ⟨c1,c2,c3,c4,c5,c6,c7,c8,c9,c10⟩:=hao.cl htd
 have hne:=hmi.ne htd
 have hcc:=hmi.cl
 have hown:∀ x,t.next<=2->σ.st x≠ .owned c:=fun x hn e=> by
  obtain ⟨k2,t2,e1,e2,e3,e4,e5⟩:=(h.ow x c e).2 hlv
  rw [hk] at e1;injection e1 with e1;subst e1
  rw [hj] at e2;injection e2 with e2;injection e2 with e2;subst e2
  omega
 have hown3:∀ x,σ.st x= .owned c->t.d=x:=fun x e=> by
  obtain ⟨k2,t2,e1,e2,e3,e4,e5⟩:=(h.ow x c e).2 hlv
  rw [hk] at e1;injection e1 with e1;subst e1
  rw [hj] at e2;injection e2 with e2;injection e2 with e2;subst e2
  exact e3
 have mk:∀ σ',(∀ t',t'=(adA s t σ).1->t'.done=false->znv s σ' c t')->zaz σ' c .no->KlAt s c σ' k':=fun σ' h1 h2=> by
  unfold KlAt
  rw [hjk]
  rcases Bool.eq_false_or_eq_true (adA s t σ).1.done with e | e
  ·rw [if_pos e];exact h2
  ·rw [if_neg (by rw [e];decide)];exact ⟨h2,h1 _ rfl e⟩
 have still:(adA s t σ).2=σ->t.next<=2->(∀ t',t'=(adA s t σ).1->t'.done=false->znv s σ c t')->WI s (adA s t σ).2 ⟨m',d.l.set c.toNat (some k'),tr,lg⟩/\Calm σ (adA s t σ).2/\∀ x,(adA s t σ).2.st x= .unused↔σ.st x= .unused:=fun e0 e1 e2=> by
  rw [e0] at hr ⊢
  refine ⟨⟨hr,h.gi,fun x y hx=> ?_,fun x hx=> ?_,h.un,fun x a hx=> ?_⟩,Calm.refl _,fun _=> .rfl⟩
  ·rw [hcl] at hx
   split at hx
   ·rename_i e
    subst e
    injection hx with hx;subst hx
    exact ⟨hlv,mk σ e2 hex⟩
   ·exact h.li x y hx
  ·rw [hcl]
   split
   ·exact ⟨_,rfl⟩
   ·exact h.nl x hx
  ·obtain ⟨o1,o2⟩:=h.ow x a hx
   refine ⟨o1,fun hl=> ?_⟩
   obtain ⟨k2,t2,e3,e4,e5,e6,e7⟩:=o2 hl
   have hac:a≠c:=fun e=> by subst e;exact hown x e1 hx
   exact ⟨k2,t2,by rw [hcl,if_neg hac];exact e3,e4,e5,e6,e7⟩
 have hstd:zjc 0=true:=by decide
 by_cases h0:t.next=0
 ·have ha:=ya2 (s:=s) (σ:=σ) htd h0
  refine still (by rw [ha]) (by omega) fun t' e e'=> ?_
  rw [ha] at e
  have hf:=h.gi.tf t.d
  cases hx:σ.st t.d with
  | dead=>
   rw [hx] at e
   subst e
   exact ⟨hcc,fun _ e=> (by cases e),fun _ _=> .inl rfl,fun _ e=> by exfalso;have e:(3:Int)<=2:=e;omega,fun _=> hne,fun _=> hmi.a0 (by omega)⟩
  | owned a=>
   rw [hx] at e hf
   subst e
   exact ⟨hcc,fun _ _=> ⟨rfl,hf,(h.ow _ _ hx).1⟩,fun _ e=> (by cases e),fun _ e=> by exfalso;have e:(3:Int)<=1:=e;omega,fun _=> hne,fun _=> hmi.a0 (by omega)⟩
  | unused=> rw [hx] at e;subst e;cases e'
  | live=> rw [hx] at e;subst e;cases e'
  | done=> rw [hx] at e;subst e;cases e'
 by_cases h1:t.next=1
 ·have ha:adA s t σ=(if σ.st t.who= .live then ({ t with next:=2 }:Ad).fin 4 else { t with next:=2 },σ):=by unfold adA;rw [if_neg (by rw [htd];decide),if_neg h0,if_pos h1]
  refine still (by rw [ha]) (by omega) fun t' e e'=> ?_
  rw [ha] at e
  obtain ⟨w1,w2,w3⟩:=hmi.n1 htd h1
  by_cases hx:σ.st t.who= .live
  ·have e:t'=({ t with next:=2 }:Ad).fin 4:=by rw [e];exact if_pos hx
   subst e;cases e'
  ·have e:t'= { t with next:=2 }:=by rw [e];exact if_neg hx
   subst e
   exact ⟨hcc,fun _ e=> (by cases e),fun _ _=> .inr ⟨_,w1,w2,w3,hx⟩,fun _ e=> by exfalso;have e:(3:Int)<=2:=e;omega,fun _=> hne,fun _=> hmi.a0 (by omega)⟩
 by_cases h2:t.next=2
 ·by_cases hw:(σ.st t.d).enc=t.was
  ·have ha:adA s t σ=({ t with next:=3 },σ.stat t.d (.owned t.c)):=by unfold adA;rw [if_neg (by rw [htd];decide),if_neg h0,if_neg h1,if_pos h2,if_pos hw]
   have hold:σ.st t.d= .dead\/∃ o,σ.st t.d= .owned o/\σ.st o≠ .live:=by
    rcases hmi.n2 htd h2 with e | ⟨o,e1,e2,e3,e4⟩
    ·exact .inl (TW.inj c1 (h.gi.tf _) (y:= .dead) trivial (hw.trans e))
    ·exact .inr ⟨o,TW.inj c1 (h.gi.tf _) e2 (hw.trans e1),e4⟩
   have hdl:σ.st t.d≠ .live:=by rcases hold with e | ⟨o,e,_⟩ <;> rw [e] <;> simp
   have hdu:σ.st t.d≠ .unused:=by rcases hold with e | ⟨o,e,_⟩ <;> rw [e] <;> simp
   have hdd:σ.st t.d≠ .done:=by rcases hold with e | ⟨o,e,_⟩ <;> rw [e] <;> simp
   have hdo:∀ x,σ.st x= .live->σ.st t.d≠ .owned x:=fun x hx e=> by
    rcases hold with e2 | ⟨o,e2,e3⟩
    ·rw [e2] at e;cases e
    ·rw [e2] at e;injection e with e;subst e;exact e3 hx
   rw [ha] at hr hjk mk ⊢
   rw [hcc] at hr ⊢
   dsimp only at hr ⊢
   have hlt:Later σ (σ.stat t.d (.owned c)):=by
    refine ⟨fun x hx=> ?_,fun x hx hx2=> ?_⟩
    ·by_cases e:x=t.d
     ·rw [e,zbf];simp
     ·rw [zao _ _ e];exact hx
    ·by_cases e:x=t.d
     ·rw [e,zbf];simp
     ·rw [zao _ _ e];exact hx2
   have hst:(σ.stat t.d (.owned c)).st t.d= .owned c:=zbf _ _ _
   have hsu:∀ x,(σ.stat t.d (.owned c)).st x= .unused↔σ.st x= .unused:=fun x=> by
    by_cases e:x=t.d
    ·subst e;rw [hst];exact ⟨fun e=> (by cases e),fun e=> absurd e hdu⟩
    ·rw [zao _ _ e]
   refine ⟨⟨hr,h.gi.stat (hcc ▸ c2) c3,fun x y hx=> ?_,fun x hx=> ?_,fun x hx=> ?_,fun x a hx=> ?_⟩,ztg,hsu⟩
   ·rw [hcl] at hx
    split at hx
    ·rename_i e
     subst e
     injection hx with hx;subst hx
     refine ⟨(zao _ _ hne.symm).trans hlv,mk _ (fun t' e e'=> ?_) (hex.same (Same.stat _ _))⟩
     subst e
     refine ⟨hcc,fun _ e=> (by cases e),fun _ e=> (by cases e),fun _ _=> ⟨hst,?_⟩,fun _=> hne,fun e=> by exfalso;have e:(3:Int)<=2:=e;omega⟩
     rw [adD3 rfl]
     intro p g a b
     have b:p < t.at':=b
     rw [hmi.a0 (by omega)] at b
     omega
    ·rename_i e
     obtain ⟨l1,l2⟩:=h.li x y hx
     have hxd:x≠t.d:=fun e=> hdl (e ▸ l1)
     refine ⟨(zao _ _ hxd).trans l1,l2.same (hd.kl x y hx).1 (hd.kl x y hx).2.1 (Same.stat _ _) hlt fun t2 e1 e2 e3=> ?_⟩
     have h3:=((zup l2 e1).2.n3 e2 e3).1
     have:t2.d≠t.d:=fun e=> by rw [e] at h3;exact hdo x l1 h3
     exact ⟨(zao _ _ this).trans h3,Same.stat _ _⟩
   ·have hxd:x≠t.d:=fun e=> by rw [e,hst] at hx;cases hx
    rw [zao _ _ hxd] at hx
    rw [hcl]
    split
    ·exact ⟨_,rfl⟩
    ·exact h.nl x hx
   ·have hxd:x≠t.d:=fun e=> by rw [e,hst] at hx;rcases hx with e | e <;> cases e
    rw [zao _ _ hxd] at hx
    obtain ⟨u1,u2⟩:=h.un x hx
    exact ⟨u1.same (Same.stat _ _),u2⟩
   ·by_cases hxd:x=t.d
    ·subst hxd
     rw [hst] at hx
     injection hx with hx
     subst hx
     refine ⟨by rw [zao _ _ hne.symm,hlv];simp,fun _=> ⟨k', { t with next:=3 },by rw [hcl,if_pos rfl],?_,rfl,htd,by show (3:Int)<=3;omega⟩⟩
     rw [hjk];exact if_neg (by dsimp only;rw [htd];decide)
    ·rw [zao _ _ hxd] at hx
     obtain ⟨o1,o2⟩:=h.ow x a hx
     refine ⟨hlt.un a o1,fun hl=> ?_⟩
     have had:a≠t.d:=fun e=> by rw [e,hst] at hl;cases hl
     rw [zao _ _ had] at hl
     obtain ⟨k2,t2,e3,e4,e5,e6,e7⟩:=o2 hl
     have hac:a≠c:=fun e=> by subst e;exact hown x (by omega) hx
     exact ⟨k2,t2,by rw [hcl,if_neg hac];exact e3,e4,e5,e6,e7⟩
  ·have ha:adA s t σ=(({ t with next:=3 }:Ad).fin 4,σ):=by unfold adA;rw [if_neg (by rw [htd];decide),if_neg h0,if_neg h1,if_pos h2,if_neg hw]
   refine still (by rw [ha]) (by omega) fun t' e e'=> ?_
   rw [ha] at e
   subst e;cases e'
 obtain ⟨hsd,hdd⟩:=hmi.n3 htd (by omega)
 have hdx:∀ x,σ.st x= .live->x≠t.d:=fun x hx e=> by rw [e,hsd] at hx;cases hx
 by_cases h13:t.next=13
 ·have ha:adA s t σ=(t.fin 0,σ.stat t.d .done):=by
   unfold adA;rw [if_neg (by rw [htd];decide)]
   iterate 13 rw [if_neg (by omega)]
  rw [z9t h13] at hdd
  obtain ⟨x1,x2⟩:=zzn h.gi hdd.1 hdd.2.1 hdd.2.2
  rw [ha] at hr hjk mk ⊢
  dsimp only at hr ⊢
  have hst:(σ.stat t.d .done).st t.d= .done:=zbf _ _ _
  have hlt:Later σ (σ.stat t.d .done):=by
   refine ⟨fun x hx=> ?_,fun x hx hx2=> ?_⟩
   ·by_cases e:x=t.d
    ·rw [e,zbf];simp
    ·rw [zao _ _ e];exact hx
   ·by_cases e:x=t.d
    ·rw [e,zbf];simp
    ·rw [zao _ _ e];exact hx2
  have hsu:∀ x,(σ.stat t.d .done).st x= .unused↔σ.st x= .unused:=fun x=> by
   by_cases e:x=t.d
   ·subst e;rw [hst,hsd];exact ⟨fun e=> (by cases e),fun e=> (by cases e)⟩
   ·rw [zao _ _ e]
  refine ⟨⟨hr,h.gi.stat trivial c3,fun x y hx=> ?_,fun x hx=> ?_,fun x hx=> ?_,fun x a hx=> ?_⟩,ztg,hsu⟩
  ·rw [hcl] at hx
   split at hx
   ·rename_i e
    subst e
    injection hx with hx;subst hx
    exact ⟨(zao _ _ hne.symm).trans hlv,mk _ (fun t' e e'=> by subst e;cases e') (hex.same (Same.stat _ _))⟩
   ·rename_i e
    obtain ⟨l1,l2⟩:=h.li x y hx
    refine ⟨(zao _ _ (hdx x l1)).trans l1,l2.same (hd.kl x y hx).1 (hd.kl x y hx).2.1 (Same.stat _ _) hlt fun t2 e1 e2 e3=> ?_⟩
    have h3:=((zup l2 e1).2.n3 e2 e3).1
    have:t2.d≠t.d:=fun e2=> by rw [e2,hsd] at h3;injection h3 with h3;exact e h3.symm
    exact ⟨(zao _ _ this).trans h3,Same.stat _ _⟩
  ·have hxd:x≠t.d:=fun e=> by rw [e,hst] at hx;cases hx
   rw [zao _ _ hxd] at hx
   rw [hcl]
   split
   ·exact ⟨_,rfl⟩
   ·exact h.nl x hx
  ·by_cases hxd:x=t.d
   ·subst hxd
    exact ⟨x1.same (Same.stat _ _),x2⟩
   ·rw [zao _ _ hxd] at hx
    obtain ⟨u1,u2⟩:=h.un x hx
    exact ⟨u1.same (Same.stat _ _),u2⟩
  ·have hxd:x≠t.d:=fun e=> by rw [e,hst] at hx;cases hx
   rw [zao _ _ hxd] at hx
   obtain ⟨o1,o2⟩:=h.ow x a hx
   refine ⟨hlt.un a o1,fun hl=> ?_⟩
   have had:a≠t.d:=fun e=> by rw [e,hst] at hl;cases hl
   rw [zao _ _ had] at hl
   obtain ⟨k2,t2,e3,e4,e5,e6,e7⟩:=o2 hl
   have hac:a≠c:=fun e=> by subst e;exact hxd (hown3 x hx).symm
   exact ⟨k2,t2,by rw [hcl,if_neg hac];exact e3,e4,e5,e6,e7⟩
 ·have hgo:=yb6 h.gi hao htd (by omega) hdd
  have hst:=hgo.kept.2.2
  have hlt:=Later.yc7 hst
  have hsx:∀ x,x≠t.d->Same x σ (adA s t σ).2:=hgo.kept.2.1
  refine ⟨⟨hr,hgo.kept.1,fun x y hx=> ?_,fun x hx=> ?_,fun x hx=> ?_,fun x a hx=> ?_⟩,hgo.calm,fun x=> by rw [hst]⟩
  ·rw [hcl] at hx
   split at hx
   ·rename_i e
    subst e
    injection hx with hx;subst hx
    refine ⟨(hst _).trans hlv,mk _ (fun t' e e'=> ?_) (hex.same (hsx _ hne.symm))⟩
    subst e
    have hon:=hgo.on
    exact ⟨hon.c.trans hcc,fun _ e=> by have:=hon.nx;omega,fun _ e=> by have:=hon.nx;omega,fun _ _=> ⟨by rw [hst,hon.d];exact hsd,hon.dd⟩,fun _=> by rw [hon.d];exact hne,fun e=> by have:=hon.nx;omega⟩
   ·rename_i e
    obtain ⟨l1,l2⟩:=h.li x y hx
    refine ⟨(hst x).trans l1,l2.same (hd.kl x y hx).1 (hd.kl x y hx).2.1 (hsx x (hdx x l1)) hlt fun t2 e1 e2 e3=> ?_⟩
    have h3:=((zup l2 e1).2.n3 e2 e3).1
    have:t2.d≠t.d:=fun e2=> by rw [e2,hsd] at h3;injection h3 with h3;exact e h3.symm
    exact ⟨(hst _).trans h3,hsx _ this⟩
  ·rw [hst] at hx
   rw [hcl]
   split
   ·exact ⟨_,rfl⟩
   ·exact h.nl x hx
  ·rw [hst] at hx
   have hxd:x≠t.d:=fun e=> by rw [e,hsd] at hx;rcases hx with e | e <;> cases e
   obtain ⟨u1,u2⟩:=h.un x hx
   exact ⟨u1.same (hsx x hxd),fun i=> ((hsx x hxd).m i).trans (u2 i)⟩
  ·rw [hst] at hx
   rw [hst]
   obtain ⟨o1,o2⟩:=h.ow x a hx
   refine ⟨o1,fun hl=> ?_⟩
   obtain ⟨k2,t2,e3,e4,e5,e6,e7⟩:=o2 hl
   by_cases hac:a=c
   ·subst hac
    have hon:=hgo.on
    have hdn:(adA s t σ).1.done=false:=hon.dn.trans htd
    refine ⟨k',(adA s t σ).1,by rw [hcl,if_pos rfl],by rw [hjk,if_neg (by rw [hdn];decide)],hon.d.trans (hown3 x hx),hdn,hon.nx.1⟩
   ·exact ⟨k2,t2,by rw [hcl,if_neg hac];exact e3,e4,e5,e6,e7⟩
theorem zt5 {s:Sh} {σ:Ab} {d:Wd} {n:Nat} {c:Int} {k:Kl} {j:Jb} (h:WI s σ d) (hd:wdOk s d n) (hk:d.kl c=some k) (hj:k.job=some j):WI s (j.zhf s c σ).2 (d.step s c k).1/\Chg j (j.step s c d.m).1 σ (j.zhf s c σ).2/\(j.step s c d.m).1=(j.zhf s c σ).1:=by
 obtain ⟨ho,hcc,hcr⟩:=hd.kl c k hk
 obtain ⟨hlv,hka⟩:=h.li c k hk
 obtain ⟨hji,hjd,hjt,hjo⟩:=ho.jb j hj
 rw [hcc] at hji
 have hsim:=ye9 h.rep h.gi hji hcr
 have hstep:=zqw (m:=d.m) hji hcr hjd h.rep.fi hd.fit
 have hks:k.step s d.m=(k.after (j.step s c d.m).1,(j.step s c d.m).2,k.tells (j.step s c d.m).1,0):=by unfold Kl.step;rw [hj,hcc]
 unfold Wd.step
 rw [hks]
 dsimp only
 have hkj:KlAt s c σ k=JbAt s c σ j:=by unfold KlAt;rw [hj]
 rw [hkj] at hka
 by_cases hh:∃ t,j= .hei t
 ·obtain ⟨t,rfl⟩:=hh
  have hsim2:(za0 s t d.m).1=(adA s t σ).1:=by have:=hsim.1;injection this
  have hw:=yby (tr:=d.tr ++ k.tells (.hei (za0 s t d.m).1)) (lg:=if d.m.st < ((Jb.hei t).step s c d.m).2.st then d.lg ++ [((Jb.hei t).step s c d.m).2.la] else d.lg) h hd hk hj hji.1 hjd (k.after (.hei (za0 s t d.m).1)) (by
   show (if (Jb.hei (za0 s t d.m).1).done=true then none else some (Jb.hei (za0 s t d.m).1))=_
   rw [hsim2];rfl) _ hsim.2
  exact ⟨hw.1,⟨fun _ e=> (by cases e),fun b e=> (by cases e),fun _ _=> hw.2.1,hw.2.2⟩,hsim.1⟩
 ·have hgo:=ya1 h.rep h.gi hji hcr hjd hka (fun a e=> hh ⟨a,e⟩)
  refine ⟨z6d h hd hk hj (fun a e=> hh ⟨a,e⟩) hsim.2 hgo.kept ?_,?_,hsim.1⟩
  ·unfold KlAt
   show (match (if (j.step s c d.m).1.done=true then none else some (j.step s c d.m).1:Option Jb) with | none=> _ | some j=> _)
   have h1:=hgo.at'
   rw [<- hsim.1] at h1
   rcases Bool.eq_false_or_eq_true (j.step s c d.m).1.done with e | e
   ·rw [if_pos e];exact yb5 hstep.2.1 e h1
   ·rw [if_neg (by rw [e];decide)];exact h1
  ·have h1:=hgo.gave
   have h2:=hgo.took
   have h3:=hgo.calm
   rw [<- hsim.1] at h1 h2 h3
   exact ⟨h1,h2,h3,fun x=> by rw [hgo.kept.2.2]⟩
variable {s:Sh} {σ:Ab} {d:Wd} {n:Nat} {c:Int} {k k':Kl}

theorem Mem.put_ws (m:Mem) (a x:Int):(m.put a x).ws=m.ws.set a.toNat x:=rfl
theorem zw8 (h:WI s σ d) (hk:d.kl c=some k) (hk':KlAt s c σ k') (hj:k'.job=k.job\/k.job=none) (tr:List Ev) (lg:List Acc):WI s σ ⟨d.m,d.l.set c.toNat (some k'),tr,lg⟩:=by
 have hcl:=d.zdk (Wd.zfs hk).1 (Wd.zfs hk).2 (some k') d.m tr lg
 refine ⟨h.rep,h.gi,fun x y hx=> ?_,fun x hx=> ?_,h.un,fun x a hx=> ?_⟩
 ·rw [hcl] at hx
  split at hx
  ·rename_i e;subst e
   injection hx with hx;subst hx
   exact ⟨(h.li x k hk).1,hk'⟩
  ·exact h.li x y hx
 ·rw [hcl]
  split
  ·exact ⟨_,rfl⟩
  ·exact h.nl x hx
 ·obtain ⟨o1,o2⟩:=h.ow x a hx
  refine ⟨o1,fun hl=> ?_⟩
  obtain ⟨k2,t,e1,e2,e3,e4,e5⟩:=o2 hl
  rw [hcl]
  by_cases e:a=c
  ·subst e
   rw [hk] at e1;injection e1 with e1;subst e1
   rw [if_pos rfl]
   rcases hj with hj | hj
   ·exact ⟨k',t,rfl,hj.trans e2,e3,e4,e5⟩
   ·rw [hj] at e2;cases e2
  ·rw [if_neg e];exact ⟨k2,t,e1,e2,e3,e4,e5⟩
theorem zwb (h:WI s σ d) (hd:wdOk s d n) (x:Ch) (hk:d.kl x.client=some k):WI s σ (d.ask s x k).1:=by
 obtain ⟨ho,hcc,hcr⟩:=hd.kl _ k hk
 obtain ⟨hlv,hka⟩:=h.li _ k hk
 unfold Wd.ask
 refine zw8 h hk ?_ ?_ _ _
 ·unfold Kl.invoke
  split
  ·exact hka
  ·rename_i hr
   have hj:k.job=none:=by
    cases hj:k.job
    ·rfl
    ·simp [Kl.rests,hj] at hr
   have hex:zaz σ x.client .no:=by unfold KlAt at hka;rw [hj] at hka;exact hka
   split
   ·exact hka
   ·split
    ·show KlAt s x.client σ { k with op:=x.op,told:=false,steps:=0 }
     unfold KlAt;dsimp only;rw [hj];exact hex
    ·unfold KlAt;dsimp only
     rw [hcc]
     exact z5b h.rep.may hcr hex _ _ _ _
 ·unfold Kl.invoke
  split
  ·exact .inl rfl
  ·rename_i hr
   have hj:k.job=none:=by
    cases hj:k.job
    ·rfl
    ·simp [Kl.rests,hj] at hr
   exact .inr hj
theorem zqr (h:WI s σ d) (hd:wdOk s d n) (x:Ch) (hc:0<=x.client/\x.client < s.c) (hu:d.stat x.client=0):WI s (σ.stat x.client .live) (d.begin s x).1:=by
 have hm:=h.rep.may
 have hb:=zar.1 hm
 have hix:=(ixs h.rep.fi).2.2.2 _ hc
 have hst0:σ.st x.client= .unused:=by
  have h1:=h.rep.st _ hc
  rw [hix] at h1
  unfold Wd.stat at hu
  rw [h1] at hu
  have h2:=(TW.read hm (h.gi.tf x.client)).1
  rw [hu] at h2
  cases hx:σ.st x.client <;> rw [hx] at h2 <;> simp [TW.kind] at h2
 have hi:x.client.toNat < d.l.length:=by rw [hd.len];omega
 unfold Wd.begin
 rw [if_pos hu]
 dsimp only
 have hcl:=d.zdk hc.1 hi (some (zht x.client (Fl.zdr x.bias s.p))) (d.m.put x.client (za8 1 0)) (d.tr ++ [zcj x.client]) d.lg
 have hst:(σ.stat x.client .live).st x.client= .live:=zbf _ _ _
 have hrep:Rep s (d.m.put x.client (za8 1 0)) (σ.stat x.client .live):=h.rep.zpm hc .live (by rw [hix];rfl)
 have hlt:Later σ (σ.stat x.client .live):=by
  refine ⟨fun y hy=> ?_,fun y hy hy2=> ?_⟩
  ·by_cases e:y=x.client
   ·rw [e,zbf];simp
   ·rw [zao _ _ e];exact hy
  ·have e:y≠x.client:=fun e=> hy (e ▸ hst0)
   rw [zao _ _ e];exact hy2
 refine ⟨hrep,h.gi.stat trivial hc,fun y z hy=> ?_,fun y hy=> ?_,fun y hy=> ?_,fun y a hy=> ?_⟩
 ·rw [hcl] at hy
  split at hy
  ·rename_i e
   subst e
   injection hy with hy;subst hy
   exact ⟨hst,(h.un _ (.inl hst0)).1.same (Same.stat _ _)⟩
  ·rename_i e
   obtain ⟨l1,l2⟩:=h.li y z hy
   refine ⟨(zao _ _ e).trans l1,l2.same (hd.kl y z hy).1 (hd.kl y z hy).2.1 (Same.stat _ _) hlt fun t e1 e2 e3=> ?_⟩
   have h3:=((zup l2 e1).2.n3 e2 e3).1
   have:t.d≠x.client:=fun e=> by rw [e,hst0] at h3;cases h3
   exact ⟨(zao _ _ this).trans h3,Same.stat _ _⟩
 ·rw [hcl]
  split
  ·exact ⟨_,rfl⟩
  ·rename_i e
   rw [zao _ _ e] at hy
   exact h.nl y hy
 ·have e:y≠x.client:=fun e=> by rw [e,hst] at hy;rcases hy with e | e <;> cases e
  rw [zao _ _ e] at hy
  obtain ⟨u1,u2⟩:=h.un y hy
  exact ⟨u1.same (Same.stat _ _),u2⟩
 ·have e:y≠x.client:=fun e=> by rw [e,hst] at hy;cases hy
  rw [zao _ _ e] at hy
  obtain ⟨o1,o2⟩:=h.ow y a hy
  have hac:a≠x.client:=fun e=> o1 (e ▸ hst0)
  rw [zao _ _ hac]
  refine ⟨o1,fun hl=> ?_⟩
  obtain ⟨k2,t,e1,e2,e3,e4,e5⟩:=o2 hl
  exact ⟨k2,t,by rw [hcl,if_neg hac];exact e1,e2,e3,e4,e5⟩
theorem zp4 (h:WI s σ d) (hd:wdOk s d n) (hk:d.kl c=some k):WI s (σ.stat c .dead) (d.kill c).1:=by
 obtain ⟨ho,hcc,hc⟩:=hd.kl _ k hk
 obtain ⟨hlv,hka⟩:=h.li _ k hk
 have hix:=(ixs h.rep.fi).2.2.2 _ hc
 have hi:c.toNat < d.l.length:=(Wd.zfs hk).2
 unfold Wd.kill
 dsimp only
 have hcl:=d.zdk hc.1 hi none (d.m.put c (za8 2 0)) (d.tr ++ [zdw c]) d.lg
 have hst:(σ.stat c .dead).st c= .dead:=zbf _ _ _
 have hrep:Rep s (d.m.put c (za8 2 0)) (σ.stat c .dead):=h.rep.zpm hc .dead (by rw [hix];rfl)
 have hlt:Later σ (σ.stat c .dead):=by
  refine ⟨fun y hy=> ?_,fun y hy hy2=> ?_⟩
  ·by_cases e:y=c
   ·rw [e,zbf];simp
   ·rw [zao _ _ e];exact hy
  ·by_cases e:y=c
   ·rw [e,zbf];simp
   ·rw [zao _ _ e];exact hy2
 refine ⟨hrep,h.gi.stat trivial hc,fun y z hy=> ?_,fun y hy=> ?_,fun y hy=> ?_,fun y a hy=> ?_⟩
 ·rw [hcl] at hy
  split at hy
  ·cases hy
  ·rename_i e
   obtain ⟨l1,l2⟩:=h.li y z hy
   refine ⟨(zao _ _ e).trans l1,l2.same (hd.kl y z hy).1 (hd.kl y z hy).2.1 (Same.stat _ _) hlt fun t e1 e2 e3=> ?_⟩
   have h3:=((zup l2 e1).2.n3 e2 e3).1
   have:t.d≠c:=fun e=> by rw [e,hlv] at h3;cases h3
   exact ⟨(zao _ _ this).trans h3,Same.stat _ _⟩
 ·have e:y≠c:=fun e=> by rw [e,hst] at hy;cases hy
  rw [zao _ _ e] at hy
  rw [hcl,if_neg e]
  exact h.nl y hy
 ·have e:y≠c:=fun e=> by rw [e,hst] at hy;rcases hy with e | e <;> cases e
  rw [zao _ _ e] at hy
  obtain ⟨u1,u2⟩:=h.un y hy
  exact ⟨u1.same (Same.stat _ _),u2⟩
 ·have e:y≠c:=fun e=> by rw [e,hst] at hy;cases hy
  rw [zao _ _ e] at hy
  obtain ⟨o1,o2⟩:=h.ow y a hy
  refine ⟨hlt.un a o1,fun hl=> ?_⟩
  have hac:a≠c:=fun e=> by rw [e,hst] at hl;cases hl
  rw [zao _ _ hac] at hl
  obtain ⟨k2,t,e1,e2,e3,e4,e5⟩:=o2 hl
  exact ⟨k2,t,by rw [hcl,if_neg hac];exact e1,e2,e3,e4,e5⟩
theorem ye5 (h:WI s σ d) (hd:wdOk s d n) (x:Ch):∃ σ',WI s σ' (d.act s x).1:=by
 unfold Wd.act
 split
 ·exact ⟨σ,h⟩
 ·rename_i hb
  unfold Ch.bad at hb
  split
  ·by_cases hu:d.stat x.client=0
   ·exact ⟨_,zqr h hd x (by omega) hu⟩
   ·unfold Wd.begin;rw [if_neg hu];exact ⟨σ,h⟩
  ·cases hk:d.kl x.client with
   | none=> exact ⟨σ,h⟩
   | some k=>
    dsimp only
    split
    ·cases hj:k.job with
     | none=>
      have:k.step s d.m=(k,d.m, [],2):=by unfold Kl.step;rw [hj]
      unfold Wd.step
      rw [this]
      dsimp only
      exact ⟨σ,zw8 h hk (h.li _ k hk).2 (.inl rfl) _ _⟩
     | some j=> exact ⟨_,(zt5 h hd hk hj).1⟩
    ·split
     ·exact ⟨σ,zwb h hd x hk⟩
     ·exact ⟨_,zp4 h hd hk⟩
def z9x:Ab:=⟨fun _=> .empty,fun _ _=> .none,fun _ _=> .none,fun _=> .unused⟩
theorem zqj (N:Nat) (a:Int):(zgj N).get a=0:=by
 unfold Mem.get zgj
 dsimp only
 rw [List.getD_eq_getElem?_getD,List.getElem?_replicate]
 split <;> rfl
theorem ydc (h:mayB s.p s.c s.m=true):WI s z9x (zde s):=by
 have h0:=zl9 h
 have hno:∀ c,zaz z9x c .no:=fun c=> by
  refine ⟨fun p=> ⟨fun e=> ?_,fun e=> e.elim⟩,fun p g=> ⟨fun e=> ?_,fun e=> e.elim⟩,fun p i k=> ⟨fun e=> ?_,fun e=> ?_⟩,fun p i k j e=> e.elim⟩
  ·cases e
  ·cases e.1
  ·obtain ⟨⟨b,e⟩,_⟩:=e
   cases e
  ·rcases e with e | ⟨j,e⟩
   ·exact e.elim
   ·cases e
 refine ⟨⟨h0.fi,fun p hp=> ?_,fun p i hp hi=> ?_,fun c i hc hi=> ?_,fun c hc=> ?_⟩,?_,fun c k hk=> ?_,fun c e=> (by cases e),fun c _=> ⟨hno c,fun _=> rfl⟩,fun x a e=> (by cases e)⟩
 ·exact zqj _ _
 ·exact zqj _ _
 ·exact zqj _ _
 ·exact (zqj _ _).trans (show (0:Int)=za8 0 0 by decide)
 ·exact ⟨fun _=> trivial,fun _ _=> trivial,fun _ _=> trivial,fun _=> trivial,fun c i e=> absurd rfl e,fun c e=> absurd rfl e,fun p i=> rfl,fun p h e=> (by cases e),fun p n e=> (by cases e),fun c j p i k e=> (by cases e),fun c j j' p i k k' e=> (by cases e)⟩
 ·unfold Wd.kl zde at hk
  dsimp only at hk
  rw [List.getD_eq_getElem?_getD,List.getElem?_replicate] at hk
  split at hk
  ·split at hk <;> simp at hk
  ·cases hk
end

end Go.Proofs.YtampacmmhhilaaaGreat
