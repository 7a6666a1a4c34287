/- Texts bound together: MchT CliP CliQ. -/
import Derived.Test.YthgekdlegbmehaaGreatBq23

set_option linter.all false
namespace Go.Proofs.YthgekdlegbmehaaGreat

structure rrIs (s:Sh) (cl:Int) (t:Rr):Prop where
 ok:rrOk s t
 c:t.c=cl
 res:∀ r,t.res=some r->rsIs s cl r
 fre:∀ f,t.free=some f->feIs s cl f
 un:∀ u,t.undo=some u->u.c=cl/\(t.done=false->u.done=false)
 cm:∀ u,t.com=some u->u.c=cl/\(t.done=false->u.done=false/\u.b.fits s cl=true)
 mid:t.done=false->(t.undo≠none\/t.com≠none)->∃ r f,t.res=some r/\r.done=true/\t.free=some f/\f.done=true
 fin:t.done=true->t.err=0->∃ r b f,t.res=some r/\r.got=some b/\t.free=some f/\f.gave=true
 gv:∀ u,t.com=some u->∃ r f,t.res=some r/\r.got=some u.b/\t.free=some f/\f.gave=true
 ng:∀ u,t.undo=some u->∃ f,t.free=some f/\f.gave=false
theorem zfb {s:Sh} (t:Rr) (r:Rs) (f:Fe) (h1:t.res=some r) (h2:t.free=some f):(t.settle s).free=t.free:=by
 rcases zcp s t r f h1 h2 with ⟨_,e⟩ | ⟨_,_,e⟩ | ⟨_,_,_,e⟩ | ⟨_,_,_,_,e⟩ | ⟨b,_,_,_,_,_,e⟩ | ⟨b,_,_,_,_,_,_,_,_,e⟩ | ⟨b,_,_,_,_,_,_,_,_,e⟩ <;> rw [e]
def zh0 (t:Rr):Int:=match t.undo,t.com with
 | some u,_=> ze0 u
 | none,some _=> 1
 | none,none=> 8
def zex (s:Sh) (t:Rr):Int:=if t.done=true then 0 else match t.res,t.free with
 | some r,some f=> zi3 s r + zcw s f + zh0 t
 | _,_=> 0
theorem zhv {s:Sh} {cl:Int} {t:Rr} {r:Rs} {f:Fe} (hm:mayB s.p s.c s.m=true) (hcl:0<=cl/\cl < s.c) (hnd:t.done=false) (hres:t.res=some r) (hfree:t.free=some f) (hc:t.c=cl) (hr:rsIs s cl r) (hf:feIs s cl f)
  (hu:∀ u,t.undo=some u->u.c=cl/\unOk s u/\r.done=true/\f.done=true/\f.gave=false) (hcm:∀ u,t.com=some u->u.c=cl/\cmOk s u/\u.b.fits s cl=true/\r.got=some u.b/\f.done=true/\f.gave=true) (hno:t.undo=none\/t.com=none)
  (htl:∀ u,t.undo=some u->0<=ze0 u):
  rrIs s cl (t.settle s)/\zex s (t.settle s)<=zi3 s r + zcw s f + (match t.undo,t.com with | some u,_=> ze0 u | none,some v=> (if v.done=true then 0 else 1) | none,none=> 8)/\(t.settle s).free=some f/\(t.settle s).res=some r:=by
 have hb:=zar.1 hm
 have hso:=zm9 (t:=t) hres hfree ⟨fun x hx=> (hr.sk x hx).1.ok,fun x hx=> (hr.rn x hx).ok⟩ hf.ok (fun u hu'=> (hu u hu').2.1) (fun u hu'=> (hcm u hu').2.1) hno
 have n1:=zf6 hr
 have n2:=zsa hf.ok (by omega:0<=s.m)
 have hd0:∀ u:Rr,u.done=true->zex s u=0:=fun u e=> by unfold zex;rw [if_pos e]
 have tl:0<=(match t.undo,t.com with | some u,_=> ze0 u | none,some v=> (if v.done=true then 0 else 1) | none,none=> 8:Int):=by
  rcases h1:t.undo with _ | u
  ·rcases h2:t.com with _ | v
   ·dsimp only;omega
   ·dsimp only;split <;> omega
  ·exact htl u h1
 have hres':∀ (u:Rr),u.res=t.res->∀ r',u.res=some r'->rsIs s cl r':=fun u e r' h=> by rw [e,hres] at h;injection h with h;subst h;exact hr
 have hfre':∀ (u:Rr),u.free=t.free->∀ r',u.free=some r'->feIs s cl r':=fun u e r' h=> by rw [e,hfree] at h;injection h with h;subst h;exact hf
 have hgv':∀ u,t.com=some u->∃ r f,t.res=some r/\r.got=some u.b/\t.free=some f/\f.gave=true:=fun u h=> ⟨r,f,hres,(hcm u h).2.2.2.1,hfree,(hcm u h).2.2.2.2.2⟩
 have hng':∀ u,t.undo=some u->∃ f,t.free=some f/\f.gave=false:=fun u h=> ⟨f,hfree,(hu u h).2.2.2.2⟩
 rcases zcp s t r f hres hfree with ⟨h1,e⟩ | ⟨h1,h2,e⟩ | ⟨h1,h2,h3,e⟩ | ⟨h1,h2,h3,h4,e⟩ | ⟨b,h1,h2,h3,h4,hw,e⟩ | ⟨b,h1,h2,h3,h4,e1,e2,h5,h6,e⟩ | ⟨b,h1,h2,h3,h4,e1,e2,h5,h6,e⟩
 all_goals rw [e] at hso ⊢
 ·refine ⟨⟨hso,hc,hres' _ rfl,hfre' _ rfl,fun u h=> ⟨(hu u h).1,fun h=> (by cases h)⟩,fun u h=> ⟨(hcm u h).1,fun h=> (by cases h)⟩,fun h=> (by cases h),fun _ h=> (by cases h),hgv',hng'⟩,?_,hfree,hres⟩
  rw [hd0 _ rfl];omega
 ·refine ⟨⟨hso,hc,hres' _ rfl,hfre' _ rfl,fun u h=> ⟨(hu u h).1,fun h=> (by cases h)⟩,fun u h=> ⟨(hcm u h).1,fun h=> (by cases h)⟩,fun h=> (by cases h),fun _ _=> ?_,hgv',hng'⟩,?_,hfree,hres⟩
  ·rcases h3:t.com with _ | u
   ·rw [h3] at h2;cases h2
   ·have:=hcm u h3
    exact ⟨r,u.b,f,hres,this.2.2.2.1,hfree,this.2.2.2.2.2⟩
  ·rw [hd0 _ rfl];omega
 ·have hn1:t.undo=none:=by
   rcases h:t.undo with _ | u
   ·rfl
   ·have:=(hu u h).2.2.1;rw [h3] at this;cases this
  have hn2:t.com=none:=by
   rcases h:t.com with _ | u
   ·rfl
   ·have h5:=(zlb hr hm hcl (hcm u h).2.2.2.1).2;rw [h3] at h5;cases h5
  refine ⟨⟨hso,hc,hres' _ rfl,hfre' _ rfl,fun u h=> (by rw [hn1] at h;cases h),fun u h=> (by rw [hn2] at h;cases h),fun _ h=> (by rcases h with h | h;exact absurd hn1 h;exact absurd hn2 h),fun h=> (by rw [hnd] at h;cases h),hgv',hng'⟩,?_,hfree,hres⟩
  unfold zex zh0
  rw [if_neg (by rw [hnd];decide),hres,hfree,hn1,hn2]
  dsimp only;omega
 ·refine ⟨⟨hso,hc,hres' _ rfl,hfre' _ rfl,fun u h=> ⟨(hu u h).1,fun h=> (by cases h)⟩,fun u h=> ⟨(hcm u h).1,fun h=> (by cases h)⟩,fun h=> (by cases h),fun _ h=> (by cases h),hgv',hng'⟩,?_,hfree,hres⟩
  rw [hd0 _ rfl];omega
 ·refine ⟨⟨hso,hc,hres' _ rfl,hfre' _ rfl,fun u h=> ⟨(hu u h).1,fun _=> (by rw [h] at h1;exact h1)⟩,fun u h=> ⟨(hcm u h).1,fun _=> ⟨(by rw [h] at h2;exact h2),(hcm u h).2.2.1⟩⟩,fun _ h=> ?_,fun h=> (by rw [hnd] at h;cases h),hgv',hng'⟩,?_,hfree,hres⟩
  ·rcases h with h | h
   ·rcases h':t.undo with _ | u
    ·exact absurd h' h
    ·exact ⟨r,f,hres,h3,hfree,(hu u h').2.2.2.1⟩
   ·rcases h':t.com with _ | u
    ·exact absurd h' h
    ·exact ⟨r,f,hres,h3,hfree,(hcm u h').2.2.2.2.1⟩
  ·unfold zex zh0
   rw [if_neg (by rw [hnd];decide),hres,hfree]
   dsimp only
   rcases h':t.undo with _ | u
   ·rcases h'':t.com with _ | v
    ·dsimp only;omega
    ·have:v.done=false:=by rw [h''] at h2;exact h2
     dsimp only;rw [if_neg (by rw [this];decide)];omega
   ·dsimp only;omega
 ·have hg:=zlb hr hm hcl h4
  refine ⟨⟨hso,hc,hres' _ rfl,hfre' _ rfl,fun u h=> ⟨(hu u h).1,fun _=> (by have h:t.undo=some u:=h;rw [e1] at h;cases h)⟩,fun u h=> ?_,fun _ _=> ⟨r,f,hres,h3,hfree,h5⟩,fun h=> (by have h:t.done=true:=h;rw [hnd] at h;cases h),fun u h=> ?_,hng'⟩,?_,hfree,hres⟩
  ·have h:some (zc4 s t.c b)=some u:=h
   injection h with h;subst h
   exact ⟨hc,fun _=> ⟨by simp [zc4,hc,hg.1],hg.1⟩⟩
  ·have h:some (zc4 s t.c b)=some u:=h
   injection h with h;subst h
   exact ⟨r,f,hres,h4,hfree,h6⟩
  ·unfold zex zh0
   dsimp only
   rw [if_neg (by rw [hnd];decide),hres,hfree,e1,e2]
   dsimp only;omega
 ·have hg:=zlb hr hm hcl h4
  have hun:=ydl t.c b (by rw [hc];exact hg.1)
  refine ⟨⟨hso,hc,hres' _ rfl,hfre' _ rfl,fun u h=> ?_,fun u h=> ⟨(hcm u h).1,fun _=> (by have h:t.com=some u:=h;rw [e2] at h;cases h)⟩,fun _ _=> ⟨r,f,hres,h3,hfree,h5⟩,fun h=> (by have h:t.done=true:=h;rw [hnd] at h;cases h),hgv',fun u h=> ⟨f,hfree,h6⟩⟩,?_,hfree,hres⟩
  ·have h:some (zf1 s t.c b)=some u:=h
   injection h with h;subst h
   exact ⟨hc,fun _=> hun.2⟩
  ·unfold zex zh0
   dsimp only
   rw [if_neg (by rw [hnd];decide),hres,hfree,e1,e2]
   dsimp only;omega
theorem ye2 {s:Sh} (c a n first:Int) (hm:mayB s.p s.c s.m=true) (hcl:0<=c/\c < s.c):rrIs s c (zhh s c a n first)/\zex s (zhh s c a n first)<=67 * s.p + 2 * s.m + 53:=by
 have hb:=zar.1 hm
 have ho:=z4q s c a n first
 unfold zhh at ho ⊢
 split at ho <;> rename_i h
 ·rw [if_pos h]
  have h1:=z0h c n first hm
  have h2:=z9h c a hm
  have h3:=zhv (t:=⟨c,some (zdh s c n first),some (zc2 s c a),none,none,0,false⟩) hm hcl rfl rfl rfl rfl h1.1 h2.1 (fun u h=> (by cases h)) (fun u h=> (by cases h)) (.inl rfl) (fun u h=> (by cases h))
  refine ⟨h3.1,Int.le_trans h3.2.1 ?_⟩
  dsimp only
  omega
 ·rw [if_neg h]
  refine ⟨⟨ho,rfl,fun r h=> (by cases h),fun r h=> (by cases h),fun r h=> (by cases h),fun r h=> (by cases h),fun h=> (by cases h),fun _ h=> (by cases h),fun u h=> (by cases h),fun u h=> (by cases h)⟩,?_⟩
  unfold zex
  rw [if_pos rfl]
  omega
theorem ybk {s:Sh} {cl:Int} {t:Rr} {m:Mem} (h:rrIs s cl t) (hcl:0<=cl/\cl < s.c) (hd:t.done=false) (hf:Fits s m) (hfit:m.fit):
  Acts cl m (zb9 s t m).2/\rrIs s cl (zb9 s t m).1/\zex s (zb9 s t m).1 + 1<=zex s t/\(∀ f f',t.free=some f->(zb9 s t m).1.free=some f'->f.gave=true->f'.gave=true):=by
 have hb:=hf.bd
 obtain ⟨r,f,hres,hfree,hro,hfo,huo,hco,hno,hsome⟩:=h.ok.cl hd
 have hL:zex s t=zi3 s r + zcw s f + zh0 t:=by unfold zex;rw [if_neg (by rw [hd];decide),hres,hfree]
 have hr:=h.res r hres
 have hfe:=h.fre f hfree
 rw [hL]
 rcases Bool.eq_false_or_eq_true r.done with hrd | hrd
 case inr=>
  have hs:zb9 s t m=(Rr.settle s { t with res:=some (zb0 s r m).1 },(zb0 s r m).2):=by unfold zb9;simp [hd,hres,hfree,hrd]
  have hn:t.undo=none/\t.com=none:=by
   refine ⟨?_,?_⟩
   ·rcases h1:t.undo with _ | u
    ·rfl
    ·obtain ⟨r',f',e1,e2,_⟩:=h.mid hd (.inl (by rw [h1];exact fun e=> by cases e))
     rw [hres] at e1;injection e1 with e1;subst e1;rw [hrd] at e2;cases e2
   ·rcases h1:t.com with _ | u
    ·rfl
    ·obtain ⟨r',f',e1,e2,_⟩:=h.mid hd (.inr (by rw [h1];exact fun e=> by cases e))
     rw [hres] at e1;injection e1 with e1;subst e1;rw [hrd] at e2;cases e2
  have h1:=zvz hr hrd hf
  have h2:=zhv (t:= { t with res:=some (zb0 s r m).1 }) hf.may hcl hd rfl hfree h.c h1.2.1 hfe (fun u e=> (by have e:t.undo=some u:=e;rw [hn.1] at e;cases e)) (fun u e=> (by have e:t.com=some u:=e;rw [hn.2] at e;cases e)) hno (fun u e=> (by have e:t.undo=some u:=e;rw [hn.1] at e;cases e))
  rw [hs]
  refine ⟨h1.1,h2.1,?_,fun f1 f2 e1 e2 e3=> ?_⟩
  ·have h3:=h2.2.1
   dsimp only at h3 ⊢
   rw [hn.1,hn.2] at h3
   unfold zh0
   rw [hn.1,hn.2]
   dsimp only at h3 ⊢
   omega
  ·dsimp only at e2
   rw [h2.2.2.1] at e2;rw [hfree] at e1
   injection e1 with e1;injection e2 with e2
   rw [<- e2,e1];exact e3
 rcases Bool.eq_false_or_eq_true f.done with hfd | hfd
 case inr=>
  have hs:zb9 s t m=(Rr.settle s { t with free:=some (zca s f m).1 },(zca s f m).2):=by unfold zb9;simp [hd,hres,hfree,hrd,hfd]
  have hn:t.undo=none/\t.com=none:=by
   refine ⟨?_,?_⟩
   ·rcases h1:t.undo with _ | u
    ·rfl
    ·obtain ⟨r',f',_,_,e1,e2⟩:=h.mid hd (.inl (by rw [h1];exact fun e=> by cases e))
     rw [hfree] at e1;injection e1 with e1;subst e1;rw [hfd] at e2;cases e2
   ·rcases h1:t.com with _ | u
    ·rfl
    ·obtain ⟨r',f',_,_,e1,e2⟩:=h.mid hd (.inr (by rw [h1];exact fun e=> by cases e))
     rw [hfree] at e1;injection e1 with e1;subst e1;rw [hfd] at e2;cases e2
  have h1:=z1e hfe hfd hf hfit
  have h2:=zhv (t:= { t with free:=some (zca s f m).1 }) hf.may hcl hd hres rfl h.c hr h1.2.1 (fun u e=> (by have e:t.undo=some u:=e;rw [hn.1] at e;cases e)) (fun u e=> (by have e:t.com=some u:=e;rw [hn.2] at e;cases e)) hno (fun u e=> (by have e:t.undo=some u:=e;rw [hn.1] at e;cases e))
  rw [hs]
  refine ⟨h1.1,h2.1,?_,fun f1 f2 e1 e2 e3=> ?_⟩
  ·have h3:=h2.2.1
   dsimp only at h3 ⊢
   rw [hn.1,hn.2] at h3
   unfold zh0
   rw [hn.1,hn.2]
   dsimp only at h3 ⊢
   omega
  ·dsimp only at e2
   rw [h2.2.2.1] at e2;rw [hfree] at e1
   injection e1 with e1;injection e2 with e2
   subst e1;rw [<- e2];exact h1.2.2.2 e3
 rcases hun:t.undo with _ | u
 ·rcases hcm:t.com with _ | v
  ·rcases hsome hrd hfd with e | e
   ·exact absurd hun e
   ·exact absurd hcm e
  ·have hs:zb9 s t m=(Rr.settle s { t with com:=some (zb3 s v m).1 },(zb3 s v m).2):=by unfold zb9;simp [hd,hres,hfree,hrd,hfd,hun,hcm]
   have hv:=h.cm v hcm
   obtain ⟨hv1,hv2⟩:=hv
   obtain ⟨hv2,hv3⟩:=hv2 hd
   obtain ⟨r',f',g1,g2,g3,g4⟩:=h.gv v hcm
   rw [hres] at g1;injection g1 with g1;subst g1
   rw [hfree] at g3;injection g3 with g3;subst g3
   have h1:=z3w (m:=m) (by rw [hv1];exact hv3) hv2 hf
   have h2:=zhv (t:= { t with com:=some (zb3 s v m).1 }) hf.may hcl hd hres hfree h.c hr hfe (fun u e=> (by have e:t.undo=some u:=e;rw [hun] at e;cases e)) (fun u e=> (by
    have e:some (zb3 s v m).1=some u:=e
    injection e with e;subst e
    rw [h1.2]
    exact ⟨hv1,fun e=> (by cases e),hv3,g2,hfd,g4⟩)) (.inl hun) (fun u e=> (by have e:t.undo=some u:=e;rw [hun] at e;cases e))
   rw [hs]
   refine ⟨h1.1.of hv1,h2.1,?_,fun f1 f2 e1 e2 e3=> ?_⟩
   ·have h3:=h2.2.1
    dsimp only at h3 ⊢
    rw [hun,h1.2] at h3
    unfold zh0
    rw [hun,hcm]
    dsimp only at h3 ⊢
    rw [if_pos rfl] at h3
    rw [h1.2]
    omega
   ·dsimp only at e2
    rw [h2.2.2.1] at e2;rw [hfree] at e1
    injection e1 with e1;injection e2 with e2
    rw [<- e2,e1];exact e3
 ·have hcm:t.com=none:=by
   rcases hno with e | e
   ·rw [hun] at e;cases e
   ·exact e
  have hs:zb9 s t m=(Rr.settle s { t with undo:=some (zcf s u m).1 },(zcf s u m).2):=by unfold zb9;simp [hd,hres,hfree,hrd,hfd,hun,hcm]
  obtain ⟨hv1,hv2⟩:=h.un u hun
  have hv2:=hv2 hd
  obtain ⟨f',g3,g4⟩:=h.ng u hun
  rw [hfree] at g3;injection g3 with g3;subst g3
  have h1:=ybv (huo u hun) hv2 hf
  have huo2:=z0o m (huo u hun)
  have nn:0<=ze0 (zcf s u m).1:=by
   rcases Bool.eq_false_or_eq_true (zcf s u m).1.done with e | e
   ·unfold ze0;rw [if_pos e];omega
   ·have:=z8p huo2 e;omega
  have h2:=zhv (t:= { t with undo:=some (zcf s u m).1 }) hf.may hcl hd hres hfree h.c hr hfe (fun v e=> (by
    have e:some (zcf s u m).1=some v:=e
    injection e with e;subst e
    exact ⟨h1.2.1.trans hv1,huo2,hrd,hfd,g4⟩)) (fun u e=> (by have e:t.com=some u:=e;rw [hcm] at e;cases e)) (.inr hcm) (fun v e=> (by
    have e:some (zcf s u m).1=some v:=e
    injection e with e;subst e;exact nn))
  rw [hs]
  refine ⟨h1.1.of hv1,h2.1,?_,fun f1 f2 e1 e2 e3=> ?_⟩
  ·have h3:=h2.2.1
   dsimp only at h3 ⊢
   unfold zh0
   rw [hun]
   dsimp only
   omega
  ·dsimp only at e2
   rw [h2.2.2.1] at e2;rw [hfree] at e1
   injection e1 with e1;injection e2 with e2
   rw [<- e2,e1];exact e3
theorem yd8 {s:Sh} {cl:Int} {t:Rr} (h:rrIs s cl t) (hm:0<=s.m) (hd:t.done=false):1<=zex s t:=by
 obtain ⟨r,f,hres,hfree,hro,hfo,huo,hco,hno,hsome⟩:=h.ok.cl hd
 have n1:=zf6 (h.res r hres)
 have n2:=zsa (h.fre f hfree).ok hm
 unfold zex zh0
 rw [if_neg (by rw [hd];decide),hres,hfree]
 dsimp only
 rcases hun:t.undo with _ | u
 ·rcases hcm:t.com with _ | v <;> dsimp only <;> omega
 ·have:=z8p (huo u hun) ((h.un u hun).2 hd)
  dsimp only;omega
def adL (s:Sh) (n a i k:Int):Int:=
 if n=0 then 3 + 55 * s.p + s.m + 1
 else if n=1 then 2 + 55 * s.p + s.m + 1
 else if n=2 then 1 + 55 * s.p + s.m + 1
 else if n=3 then 3 * (s.p - a) + 52 * s.p + s.m + 1
 else if n=4 then 3 * (s.p - a) - 1 + 52 * s.p + s.m + 1
 else if n=5 then 3 * (s.p - a) - 2 + 52 * s.p + s.m + 1
 else if n=6 then 18 * (s.p - a) + 34 * s.p + s.m + 1
 else if n=7 then 18 * (s.p - a - 1) + (16 - i) + 1 + 34 * s.p + s.m + 1
 else if n=8 then 18 * (s.p - a - 1) + 1 + 34 * s.p + s.m + 1
 else if n=9 then s.m - i + 34 * s.p + 1
 else if n=10 then 34 * (s.p - a) + 1
 else if n=11 then 34 * (s.p - a - 1) + 2 * (k - i) + 1
 else if n=12 then 34 * (s.p - a - 1) + 2 * (k - i)
 else 1
theorem yaw (s:Sh) (a i k:Int):adL s 0 a i k=3 + 55 * s.p + s.m + 1:=by simp [adL]
theorem yb0 (s:Sh) (a i k:Int):adL s 1 a i k=2 + 55 * s.p + s.m + 1:=by simp [adL]
theorem z8h (s:Sh) (a i k:Int):adL s 2 a i k=1 + 55 * s.p + s.m + 1:=by simp [adL]
theorem z4v (s:Sh) (a i k:Int):adL s 3 a i k=3 * (s.p - a) + 52 * s.p + s.m + 1:=by simp [adL]
theorem yaj (s:Sh) (a i k:Int):adL s 4 a i k=3 * (s.p - a) - 1 + 52 * s.p + s.m + 1:=by simp [adL]
theorem z99 (s:Sh) (a i k:Int):adL s 5 a i k=3 * (s.p - a) - 2 + 52 * s.p + s.m + 1:=by simp [adL]
theorem z5w (s:Sh) (a i k:Int):adL s 6 a i k=18 * (s.p - a) + 34 * s.p + s.m + 1:=by simp [adL]
theorem z7n (s:Sh) (a i k:Int):adL s 7 a i k=18 * (s.p - a - 1) + (16 - i) + 1 + 34 * s.p + s.m + 1:=by simp [adL]
theorem z98 (s:Sh) (a i k:Int):adL s 8 a i k=18 * (s.p - a - 1) + 1 + 34 * s.p + s.m + 1:=by simp [adL]
theorem z5g (s:Sh) (a i k:Int):adL s 9 a i k=s.m - i + 34 * s.p + 1:=by simp [adL]
theorem zr0 (s:Sh) (a i k:Int):adL s 10 a i k=34 * (s.p - a) + 1:=by simp [adL]
theorem zxa (s:Sh) (a i k:Int):adL s 11 a i k=34 * (s.p - a - 1) + 2 * (k - i) + 1:=by simp [adL]
theorem z0a (s:Sh) (a i k:Int):adL s 12 a i k=34 * (s.p - a - 1) + 2 * (k - i):=by simp [adL]
theorem z0m (s:Sh) (a i k:Int):adL s 13 a i k=1:=by simp [adL]
def zcu (s:Sh) (t:Ad):Int:=if t.done=true then 0 else adL s t.next t.at' t.i (zah t.pa)
theorem ye1 {s:Sh} {t:Ad} (h:adOk s t) (hd:t.done=false):1<=zcu s t:=by
 obtain ⟨hm,c1,c2,c3,c4,c5,c6,c7,c8,c9⟩:=h.cl hd
 have hb:=zar.1 hm
 unfold zcu
 rw [if_neg (by rw [hd];decide)]
 have:t.next=0\/t.next=1\/t.next=2\/t.next=3\/t.next=4\/t.next=5\/t.next=6\/t.next=7\/t.next=8\/t.next=9\/t.next=10\/t.next=11\/t.next=12\/t.next=13:=by omega
 rcases this with e | e | e | e | e | e | e | e | e | e | e | e | e | e
 ·rw [e,yaw];omega
 ·rw [e,yb0];omega
 ·rw [e,z8h];omega
 ·rw [e,z4v];omega
 ·rw [e,yaj];omega
 ·rw [e,z99];omega
 ·rw [e,z5w];omega
 ·rw [e,z7n];omega
 ·rw [e,z98];omega
 ·rw [e,z5g];omega
 ·rw [e,zr0];omega
 ·rw [e,zxa];omega
 ·rw [e,z0a];omega
 ·rw [e,z0m];omega
theorem zle {s:Sh} (t:Ad) (hd:t.done=false) (again next:Int) (hp:1<=s.p) (hm:0<=s.m) (h4:0<=t.at'/\t.at' < s.p) (ha:(again=3/\next=6)\/(again=6/\next=9)\/(again=10/\next=13)):
  zcu s (t.turn s again next)<=(if again=3 then 3 * (s.p - t.at' - 1) + 52 * s.p + s.m + 1 else if again=6 then 18 * (s.p - t.at' - 1) + 34 * s.p + s.m + 1 else 34 * (s.p - t.at' - 1) + 1)/\(t.turn s again next).c=t.c/\(t.turn s again next).d=t.d:=by
 have hk:=zp2 s t again next
 simp only [beq_eq_false_iff_ne,ne_eq] at hk
 have hnd:¬ t.done=true:=by rw [hd];decide
 rcases ha with ⟨rfl,rfl⟩ | ⟨rfl,rfl⟩ | ⟨rfl,rfl⟩
 ·rw [if_pos rfl]
  rcases hk with ⟨k1,k2,k3,e⟩ | ⟨k1,k2,k3,e⟩ | ⟨k1,k2,e⟩ | ⟨k1,k2,k3,e⟩ | ⟨k1,k2,k3,e⟩ | ⟨k1,k2,e⟩
  ·omega
  ·omega
  ·rw [e];refine ⟨?_,rfl,rfl⟩;unfold zcu;dsimp only;rw [if_neg hnd,z5w];omega
  ·omega
  ·omega
  ·rw [e];refine ⟨?_,rfl,rfl⟩;unfold zcu;dsimp only;rw [if_neg hnd,z4v];omega
 ·rw [if_neg (by decide),if_pos rfl]
  rcases hk with ⟨k1,k2,k3,e⟩ | ⟨k1,k2,k3,e⟩ | ⟨k1,k2,e⟩ | ⟨k1,k2,k3,e⟩ | ⟨k1,k2,k3,e⟩ | ⟨k1,k2,e⟩
  ·rw [e];refine ⟨?_,rfl,rfl⟩;unfold zcu;dsimp only;rw [if_neg hnd,zr0];omega
  ·rw [e];refine ⟨?_,rfl,rfl⟩;unfold zcu;dsimp only;rw [if_neg hnd,z5g];omega
  ·omega
  ·omega
  ·omega
  ·rw [e];refine ⟨?_,rfl,rfl⟩;unfold zcu;dsimp only;rw [if_neg hnd,z5w];omega
 ·rw [if_neg (by decide),if_neg (by decide)]
  rcases hk with ⟨k1,k2,k3,e⟩ | ⟨k1,k2,k3,e⟩ | ⟨k1,k2,e⟩ | ⟨k1,k2,k3,e⟩ | ⟨k1,k2,k3,e⟩ | ⟨k1,k2,e⟩
  ·omega
  ·omega
  ·rw [e];refine ⟨?_,rfl,rfl⟩;unfold zcu;dsimp only;rw [if_neg hnd,z0m];omega
  ·omega
  ·omega
  ·rw [e];refine ⟨?_,rfl,rfl⟩;unfold zcu;dsimp only;rw [if_neg hnd,zr0];omega
theorem zk1 {s:Sh} (t:Ad) (hd:t.done=false) (hp:1<=s.p) (hm:0<=s.m) (h4:0<=t.at'/\t.at' < s.p) (hi:0<=t.i/\t.i < zah t.pa):
  zcu s (t.slot s)<=34 * (s.p - t.at' - 1) + 2 * (zah t.pa - t.i) - 1/\(t.slot s).c=t.c/\(t.slot s).d=t.d:=by
 unfold Ad.slot
 split
 ·have:=zle (s:=s) { t with i:=0,next:=11 } hd 10 13 hp hm h4 (.inr (.inr ⟨rfl,rfl⟩))
  rw [if_neg (by decide),if_neg (by decide)] at this
  dsimp only at this
  exact ⟨by omega,this.2⟩
 ·refine ⟨?_,rfl,rfl⟩
  unfold zcu
  dsimp only
  rw [if_neg (by rw [hd];decide),zxa]
  omega
theorem ydx {s:Sh} (c d:Int) (hm:mayB s.p s.c s.m=true):zcu s (zix s c d)<=55 * s.p + s.m + 4/\(zix s c d).c=c/\(zix s c d).d=d:=by
 have hb:=zar.1 hm
 unfold zix
 dsimp only
 split
 ·refine ⟨?_,rfl,rfl⟩
  unfold zcu Ad.fin
  rw [if_pos rfl];omega
 ·refine ⟨?_,rfl,rfl⟩
  unfold zcu
  dsimp only
  rw [if_neg (by decide),yaw];omega
theorem yay {s:Sh} {t:Ad} {m:Mem} (h:adOk s t) (hd:t.done=false) (hf:Fits s m) (hfit:m.fit):Acts t.c m (za0 s t m).2/\(za0 s t m).1.c=t.c/\(za0 s t m).1.d=t.d/\zcu s (za0 s t m).1 + 1<=zcu s t:=by
 obtain ⟨hmy,c1,c2,c3,c4,c5,c6,c7,c8,c9⟩:=h.cl hd
 have hb:=hf.bd
 have hnd:¬ t.done=true:=by rw [hd];decide
 have hm1:=hf.zhu c4
 have hm2:=hf.zda c2
 have hfin:∀ (u:Ad) e,zcu s (u.fin e)=0:=fun u e=> by unfold zcu Ad.fin;rw [if_pos rfl]
 have hkeep:∀ a x,(t.keep s a x).c=t.c/\(t.keep s a x).d=t.d/\(t.keep s a x).done=t.done/\(t.keep s a x).at'=t.at':=fun a x=> ⟨rfl,rfl,rfl,rfl⟩
 have hT:∀ (u:Ad),u.done=t.done->u.at'=t.at'->u.c=t.c->u.d=t.d->∀ again next,((again=3/\next=6)\/(again=6/\next=9)\/(again=10/\next=13))->
   zcu s (u.turn s again next)<=(if again=3 then 3 * (s.p - t.at' - 1) + 52 * s.p + s.m + 1 else if again=6 then 18 * (s.p - t.at' - 1) + 34 * s.p + s.m + 1 else 34 * (s.p - t.at' - 1) + 1)/\(u.turn s again next).c=t.c/\(u.turn s again next).d=t.d:=fun u e1 e2 e3 e4 again next ha=> by
  have:=zle (s:=s) u (e1.trans hd) again next (by omega) (by omega) (by omega) ha
  rw [e2,e3,e4] at this
  exact this
 have hcs:t.next=0\/t.next=1\/t.next=2\/t.next=3\/t.next=4\/t.next=5\/t.next=6\/t.next=7\/t.next=8\/t.next=9\/t.next=10\/t.next=11\/t.next=12\/t.next=13:=by omega
 have hL:zcu s t=adL s t.next t.at' t.i (zah t.pa):=by unfold zcu;rw [if_neg hnd]
 have hS:∀ (u:Ad),u.done=false->zcu s u=adL s u.next u.at' u.i (zah u.pa):=fun u e0=> by unfold zcu;rw [if_neg (by rw [e0];decide)]
 rcases hcs with e | e | e | e | e | e | e | e | e | e | e | e | e | e
 ·rw [zl2 s t m hd e,hL,e,yaw]
  unfold Ad.asked
  dsimp only
  refine ⟨.load hm2,?_⟩
  split
  ·exact ⟨rfl,rfl,by rw [hS _ (by exact hd)];dsimp only;rw [z8h];omega⟩
  ·split
   ·exact ⟨rfl,rfl,by rw [hfin];omega⟩
   ·split
    ·exact ⟨rfl,rfl,by rw [hfin];omega⟩
    ·exact ⟨rfl,rfl,by rw [hS _ (by exact hd)];dsimp only;rw [yb0];omega⟩
 ·rw [zmf s t m hd e,hL,e,yb0]
  dsimp only
  refine ⟨.load (hf.zda (c5 e)),?_⟩
  split
  ·exact ⟨rfl,rfl,by rw [hfin];omega⟩
  ·exact ⟨rfl,rfl,by rw [hS _ (by exact hd)];dsimp only;rw [z8h];omega⟩
 ·rw [zlx s t m hd e,hL,e,z8h]
  dsimp only
  refine ⟨.swap hm2 (zdz _ _),?_⟩
  split
  ·exact ⟨rfl,rfl,by rw [hS _ (by exact hd)];dsimp only;rw [z4v];omega⟩
  ·exact ⟨rfl,rfl,by rw [hfin];omega⟩
 ·rw [zl7 s t m hd e,hL,e,z4v]
  dsimp only
  refine ⟨.load hm1,?_⟩
  split
  ·exact ⟨rfl,rfl,by rw [hS _ (by exact hd)];dsimp only [Ad.page];rw [yaj];omega⟩
  ·have:=hT (t.page s t.at' (m.get (zak s.p s.c s.m t.at'))) rfl rfl rfl rfl 3 6 (.inl ⟨rfl,rfl⟩)
   exact ⟨this.2.1,this.2.2,by have:=this.1;simp at this;omega⟩
 ·rw [zmc s t m hd e,hL,e,yaj]
  dsimp only
  refine ⟨.load (hf.zhu (c6 e)),?_⟩
  split
  ·exact ⟨rfl,rfl,by rw [hS _ (by exact hd)];dsimp only;rw [z99];omega⟩
  ·have:=hT t rfl rfl rfl rfl 3 6 (.inl ⟨rfl,rfl⟩)
   exact ⟨this.2.1,this.2.2,by have:=this.1;simp at this;omega⟩
 ·rw [zl5 s t m hd e,hL,e,z99]
  dsimp only
  refine ⟨.store hm1 zms,?_⟩
  have:=hT t rfl rfl rfl rfl 3 6 (.inl ⟨rfl,rfl⟩)
  exact ⟨this.2.1,this.2.2,by have:=this.1;simp at this;omega⟩
 ·rw [zmg s t m hd e,hL,e,z5w]
  dsimp only
  refine ⟨.load hm1,?_⟩
  split
  ·exact ⟨rfl,rfl,by rw [hS _ (by exact hd)];dsimp only;rw [z7n];omega⟩
  ·have:=hT t rfl rfl rfl rfl 6 9 (.inr (.inl ⟨rfl,rfl⟩))
   exact ⟨this.2.1,this.2.2,by have:=this.1;simp at this;omega⟩
 ·rw [zl3 s t m hd e,hL,e,z7n]
  have c7:=c7 e
  dsimp only
  refine ⟨.store (hf.zj0 c4 (by omega)) zms,?_⟩
  split
  ·exact ⟨rfl,rfl,by rw [hS _ (by exact hd)];dsimp only;rw [z98];omega⟩
  ·exact ⟨rfl,rfl,by rw [hS _ (by exact hd)];dsimp only;rw [z7n];omega⟩
 ·rw [zl6 s t m hd e,hL,e,z98]
  dsimp only
  refine ⟨.store hm1 zms,?_⟩
  have:=hT t rfl rfl rfl rfl 6 9 (.inr (.inl ⟨rfl,rfl⟩))
  exact ⟨this.2.1,this.2.2,by have:=this.1;simp at this;omega⟩
 ·rw [zl8 s t m hd e,hL,e,z5g]
  have c8:=c8 e
  dsimp only
  refine ⟨.store (hf.magA c2 c8) zms,?_⟩
  split
  ·exact ⟨rfl,rfl,by rw [hS _ (by exact hd)];dsimp only;rw [zr0];omega⟩
  ·exact ⟨rfl,rfl,by rw [hS _ (by exact hd)];dsimp only;rw [z5g];omega⟩
 ·rw [zjn s t m hd e,hL,e,zr0]
  dsimp only
  refine ⟨.load hm1,?_⟩
  split
  ·refine ⟨rfl,rfl,?_⟩
   have:zah (pgP s t.at' (m.get (zak s.p s.c s.m t.at')) 0)<=16:=by
    by_cases h:0 < zah (pgP s t.at' (m.get (zak s.p s.c s.m t.at')) 0)
    ·exact (zb4 h).2.2.2
    ·omega
   rw [hS _ (by exact hd)];dsimp only [Ad.page];rw [zxa];omega
  ·have:=hT (t.page s t.at' (m.get (zak s.p s.c s.m t.at'))) rfl rfl rfl rfl 10 13 (.inr (.inr ⟨rfl,rfl⟩))
   exact ⟨this.2.1,this.2.2,by have:=this.1;simp at this;omega⟩
 ·rw [zju s t m hd e,hL,e,zxa]
  have c9:=c9 (.inl e)
  have hsl:=zb4 c9.1
  dsimp only
  refine ⟨.load (hf.zj0 c4 (by omega)),?_⟩
  split
  ·exact ⟨rfl,rfl,by rw [hS _ (by exact hd)];dsimp only;rw [z0a];omega⟩
  ·have:=zk1 (s:=s) t hd (by omega) (by omega) c4 c9.2
   exact ⟨this.2.1,this.2.2,by have:=this.1;omega⟩
 ·rw [zkg s t m hd e,hL,e,z0a]
  have c9:=c9 (.inr e)
  have hsl:=zb4 c9.1
  dsimp only
  refine ⟨.store (hf.zj0 c4 (by omega)) (zch _ _),?_⟩
  have:=zk1 (s:=s) t hd (by omega) (by omega) c4 c9.2
  exact ⟨this.2.1,this.2.2,by have:=this.1;omega⟩
 ·rw [zj8 s t m hd e,hL,e,z0m]
  dsimp only
  exact ⟨.store hm2 (zdz _ _),rfl,rfl,by rw [hfin];omega⟩
def jbIs (s:Sh) (cl:Int):Jb->Prop
 | .mal r c=> rsIs s cl r/\∀ x,c=some x->x.c=cl/\x.done=true/\r.done=true/\r.got=some x.b
 | .fre f=> feIs s cl f
 | .aga r=> rrIs s cl r
 | .hei a=> adOk s a/\a.c=cl
def zg8 (s:Sh) (j:Jb):Int:=match j with
 | .mal r c=> if j.done=true then 0 else zi3 s r + 1
 | .fre f=> zcw s f
 | .aga r=> zex s r
 | .hei a=> zcu s a
theorem ydi {s:Sh} {cl:Int} {j:Jb} (h:jbIs s cl j) (hm:0<=s.m) (hd:j.done=false):1<=zg8 s j:=by
 cases j with
 | mal r c=>
  have:=zf6 h.1
  unfold zg8
  dsimp only
  rw [if_neg (by rw [hd];decide)]
  omega
 | fre f=> exact z9j h.ok hm hd
 | aga r=> exact yd8 h hm hd
 | hei a=> exact ye1 h.1 hd
theorem yer {s:Sh} (cl first kind a n:Int) (hm:mayB s.p s.c s.m=true) (hcl:0<=cl/\cl < s.c):jbIs s cl (zgl s cl first kind a n)/\zg8 s (zgl s cl first kind a n)<=110 * s.p + 4 * s.m + 60:=by
 have hb:=zar.1 hm
 unfold zgl
 split
 ·have h1:=z0h cl n first hm
  have h2:=zf6 h1.1
  refine ⟨⟨h1.1,fun x hx=> (by cases hx)⟩,?_⟩
  unfold zg8
  dsimp only
  split <;> omega
 ·split
  ·have h1:=z9h cl a hm
   refine ⟨h1.1,?_⟩
   show zcw s _<=_
   omega
  ·split
   ·have h1:=ye2 cl a n first hm hcl
    refine ⟨h1.1,?_⟩
    show zex s _<=_
    omega
   ·have h1:=ydx cl a hm
    refine ⟨⟨z7f _ _ _,h1.2.1⟩,?_⟩
    show zcu s _<=_
    omega
theorem zqw {s:Sh} {cl:Int} {j:Jb} {m:Mem} (h:jbIs s cl j) (hcl:0<=cl/\cl < s.c) (hd:j.done=false) (hf:Fits s m) (hfit:m.fit):
  Acts cl m (j.step s cl m).2/\jbIs s cl (j.step s cl m).1/\zg8 s (j.step s cl m).1 + 1<=zg8 s j/\(j.gave=true->(j.step s cl m).1.gave=true):=by
 have hb:=hf.bd
 cases j with
 | mal r c=>
  obtain ⟨h1,h2⟩:=h
  have hL:zg8 s (.mal r c)=zi3 s r + 1:=by unfold zg8;dsimp only;rw [if_neg (by rw [hd];decide)]
  rw [hL]
  unfold Jb.step
  dsimp only
  rcases Bool.eq_false_or_eq_true r.done with hrd | hrd
  ·rw [if_neg (by rw [hrd];decide)]
   have hd':(r.done && (!r.got.isSome || zck c))=false:=hd
   rw [hrd,Bool.true_and,Bool.or_eq_false_iff] at hd'
   obtain ⟨e1,e2⟩:=hd'
   rcases hc:c with _ | x
   ·rcases hg:r.got with _ | b
    ·rw [hg] at e1;cases e1
    ·have hgf:=zlb h1 hf.may hcl hg
     have hcm:zhp s cl r none=some (zc4 s cl b):=by unfold zhp;rw [hg]
     rw [hcm]
     dsimp only
     have h3:=z3w (t:=zc4 s cl b) (m:=m) hgf.1 (by simp [zc4,hgf.1]) hf
     refine ⟨h3.1,⟨h1,fun x hx=> ?_⟩,?_,fun e=> (by cases e)⟩
     ·injection hx with hx;subst hx
      rw [h3.2]
      exact ⟨rfl,rfl,hrd,hg⟩
     ·have h4:(Jb.mal r (some (zb3 s (zc4 s cl b) m).1)).done=true:=by
       show (r.done && (!r.got.isSome || (zb3 s (zc4 s cl b) m).1.done))=true
       rw [hrd,h3.2];simp
      have h5:=zf6 h1
      unfold zg8
      dsimp only
      rw [if_pos h4]
      omega
   ·have:=h2 x hc
    rw [hc] at e2
    have e2:x.done=false:=e2
    rw [this.2.1] at e2;cases e2
  ·rw [if_pos hrd]
   have h3:=zvz h1 hrd hf
   refine ⟨h3.1,⟨h3.2.1,fun x hx=> ?_⟩,?_,fun e=> (by cases e)⟩
   ·have:=(h2 x hx).2.2.1
    rw [hrd] at this;cases this
   ·have h5:=zf6 h3.2.1
    unfold zg8
    dsimp only
    split <;> omega
 | fre f=>
  have h1:=z1e h hd hf hfit
  exact ⟨h1.1,h1.2.1,h1.2.2.1,h1.2.2.2⟩
 | aga r=>
  have h1:=ybk h hcl hd hf hfit
  refine ⟨h1.1,h1.2.1,h1.2.2.1,fun e=> ?_⟩
  show (match (zb9 s r m).1.free with | some f=> f.gave | none=> false)=true
  have e:(match r.free with | some f=> f.gave | none=> false)=true:=e
  rcases hf1:r.free with _ | f
  ·rw [hf1] at e;cases e
  ·rw [hf1] at e
   rcases hf2:(zb9 s r m).1.free with _ | f'
   ·obtain ⟨r',f',e1,e2,_⟩:=h.ok.cl hd
    have:(zb9 s r m).1.free≠none:=by
     unfold zb9
     rw [if_neg (by rw [show r.done=false from hd];decide),e1,e2]
     dsimp only
     split
     ·dsimp only;rw [zfb _ _ _ rfl rfl];exact fun e=> by cases e
     ·split
      ·dsimp only;rw [zfb _ _ _ rfl rfl];exact fun e=> by cases e
      ·split
       ·dsimp only;rw [zfb _ _ _ rfl rfl];exact fun e=> by cases e
       ·dsimp only;rw [zfb _ _ _ rfl rfl];exact fun e=> by cases e
       ·rw [e2];exact fun e=> by cases e
    exact absurd hf2 this
   ·exact h1.2.2.2 f f' hf1 hf2 e
 | hei a=>
  have h1:=yay h.1 hd hf hfit
  exact ⟨h1.1.of h.2,⟨z0s m h.1,h1.2.1.trans h.2⟩,h1.2.2.2,fun e=> (by cases e)⟩
structure Op3 where
 k:Int
 a:Int
 n:Int
 deriving DecidableEq
def Op3.zero:Op3:=⟨0,0,0⟩
def zdl (s:Sh) (c k a n:Int):Bool:=(k==4 && (decide (zae s.p s.c s.m a < 0) || a==c)) || ((k==1 || k==3) && !lenB n) || ((k==2 || k==3) && !spB s a)
def zk8 (s:Sh) (k n:Int):Bool:=(k==1 || k==3) && wi n 33 512 && decide (s.p < runV n)
def ziu (s:Sh) (c k a n:Int):Bool:=zdl s c k a n || zk8 s k n
def zjw (s:Sh) (c k a n:Int):Int:=if zdl s c k a n=true then 1 else if zk8 s k n=true then 3 else 0
structure Kl where
 c:Int
 first:Int
 op:Op3
 job:Option Jb
 told:Bool
 steps:Int
 deriving DecidableEq
def zht (c first:Int):Kl:=⟨c,first,Op3.zero,none,false,0⟩
def Kl.rests (k:Kl):Bool:= !k.job.isSome
def zbh (c:Int) (o:Op3):Ev:=⟨2,c,o.k,o.a,o.n,0,0,0⟩
def zb5 (c at' n:Int):Ev:=⟨3,c,0,0,0,at',n,0⟩
def zbw (c at':Int):Ev:=⟨4,c,0,0,0,at',0,0⟩
def zaf (c:Int) (o:Op3) (at' e:Int):Ev:=⟨5,c,o.k,o.a,o.n,at',0,e⟩
def Kl.invoke (s:Sh) (k:Kl) (o:Op3):Kl × List Ev × Int:=
 if k.rests=false then (k, [],4)
 else if o.k < 1\/4 < o.k then (k, [],1)
 else if ziu s k.c o.k o.a o.n=true then ({ k with op:=o,told:=false,steps:=0 }, [zbh k.c o,zaf k.c o 0 (zjw s k.c o.k o.a o.n)],0)
 else ({ k with op:=o,told:=false,steps:=0,job:=some (zgl s k.c k.first o.k o.a o.n) }, [zbh k.c o],0)
def zb1:Option Blk->Int
 | some b=> b.at'
 | none=> 0
def Kl.tells (k:Kl) (j:Jb):List Ev:=
 (if j.gave=true/\k.told=false then [zbw k.c k.op.a] else []) ++
 (if j.done=true then (match j.took with | some b=> [zb5 k.c b.at' b.len] | none=> []) ++ [zaf k.c k.op (zb1 j.took) j.err] else [])
def Kl.after (k:Kl) (j:Jb):Kl:= { k with job:=if j.done=true then none else some j,told:=k.told || j.gave,steps:=k.steps + 1 }
def Kl.step (s:Sh) (k:Kl) (m:Mem):Kl × Mem × List Ev × Int:=match k.job with
 | none=> (k,m, [],2)
 | some j=> (k.after (j.step s k.c m).1,(j.step s k.c m).2,k.tells (j.step s k.c m).1,0)
structure klOk (s:Sh) (k:Kl):Prop where
 cl:0<=k.c/\k.c < s.c
 fi:0<=k.first/\k.first < s.p
 jb:∀ j,k.job=some j->jbIs s k.c j/\j.done=false/\(j.gave=true->k.told=true)/\(1<=k.op.k/\k.op.k<=4)
 st:0<=k.steps
 lf:∀ j,k.job=some j->zg8 s j + k.steps<=110 * s.p + 4 * s.m + 60
theorem zeu {s:Sh} {c:Int} (hm:mayB s.p s.c s.m=true) (hc:0<=c/\c < s.c):zae s.p s.c s.m c=c:=by unfold zae;rw [if_pos ⟨hm,zbc.2 (by omega)⟩]
theorem ybp {s:Sh} {c:Int} (hm:mayB s.p s.c s.m=true) (hc:0<=c/\c < s.p):zak s.p s.c s.m c=s.c + c:=by unfold zak;rw [if_pos ⟨hm,zbc.2 (by omega)⟩]
theorem zvk {n:Int} (h:wi n 1 32=true):0 < zah (zcn n):=by
 have h1:=zwh n
 have:zcn n=0\/zcn n=1\/zcn n=2\/zcn n=3:=by omega
 rcases this with e | e | e | e <;> rw [e] <;> decide
theorem zzs {s:Sh} {c k f:Int} (hm:mayB s.p s.c s.m=true) (hc:0<=c/\c < s.c) (hk:0 < zah k) (hf:0<=f/\f < s.p):(zhb s c k f).done=false:=by
 have hb:=zar.1 hm
 have h1:=zeu hm hc
 have h2:=ybp hm hf
 unfold zhb
 rw [if_pos ⟨by omega,hk,by omega⟩]
 rcases Bool.eq_false_or_eq_true (zg3 s c k).done with hd | hd
 ·have hsc:(ziq s c k f).done=false:=by
   simp only [ziq,Bool.not_eq_false',Bool.and_eq_true,decide_eq_true_eq]
   omega
  rw [zm5 (x:= .tk (zg3 s c k)) rfl rfl hd]
  have ha:Sk.after s ⟨c,k,f,some (.tk (zg3 s c k)),0,0,0,false,false⟩ (.tk (zg3 s c k))=⟨c,k,f,some (.sc (ziq s c k f)),0,0,0,false,false⟩:=by simp [Sk.after,zg3]
  rw [ha,zgs (.inr (.inr ⟨.sc (ziq s c k f),rfl,hsc⟩))]
 ·rw [zgs (.inr (.inr ⟨.tk (zg3 s c k),rfl,hd⟩))]
theorem zo7 {s:Sh} {c n f:Int} (hm:mayB s.p s.c s.m=true) (hc:0<=c/\c < s.c) (hf:0<=f/\f < s.p) (hl:lenB n=true) (hn:wi n 33 512=true->runV n<=s.p):(zdh s c n f).done=false:=by
 have hb:=zar.1 hm
 have h1:=zeu hm hc
 unfold zdh
 split
 ·rename_i hw
  exact zzs hm hc (zvk hw) hf
 ·split
  ·rename_i _ hw
   have h2:=hn hw
   have h3:=zbc.1 hw
   have h4:runV n=(n - 1) / 64 + 1:=by unfold runV;rw [if_pos hw]
   show (zf8 s c (runV n)).done=false
   simp only [zf8,Bool.not_eq_false',Bool.and_eq_true,decide_eq_true_eq]
   omega
  ·rename_i ha hb2
   have h5:wi n 1 512=true:=hl
   have h6:=zbc.1 h5
   exfalso
   by_cases h7:n<=32
   ·exact ha (zbc.2 (by omega))
   ·exact hb2 (zbc.2 (by omega))
theorem zpc {s:Sh} {c f k a n:Int} (hm:mayB s.p s.c s.m=true) (hc:0<=c/\c < s.c) (hf:0<=f/\f < s.p) (hk:1<=k/\k<=4) (ho:ziu s c k a n=false):(zgl s c f k a n).done=false/\(zgl s c f k a n).gave=false:=by
 have hb:=zar.1 hm
 have h1:=zeu hm hc
 unfold ziu at ho
 rw [Bool.or_eq_false_iff] at ho
 obtain ⟨h2,h3⟩:=ho
 have:k=1\/k=2\/k=3\/k=4:=by omega
 rcases this with rfl | rfl | rfl | rfl
 ·have hl:lenB n=true:=by simpa [zdl] using h2
  have hn:wi n 33 512=true->runV n<=s.p:=fun e=> by simpa [zk8,e] using h3
  refine ⟨?_,rfl⟩
  have hr:=zo7 hm hc hf hl hn
  show ((zdh s c n f).done && _)=false
  rw [hr];rfl
 ·have hl:spB s a=true:=by simpa [zdl] using h2
  refine ⟨?_,rfl⟩
  show (zc2 s c a).done=false
  simp only [zc2,hl,Bool.not_true,Bool.false_or,decide_eq_false_iff_not]
  omega
 ·have hl:lenB n=true/\spB s a=true:=by simpa [zdl] using h2
  have hn:wi n 33 512=true->runV n<=s.p:=fun e=> by simpa [zk8,e] using h3
  have hr:=zo7 hm hc hf hl.1 hn
  have e:zhh s c a n f=⟨c,some (zdh s c n f),some (zc2 s c a),none,none,0,false⟩:=by
   unfold zhh
   rw [if_pos ⟨hl.2,hl.1,by omega⟩]
   unfold Rr.settle
   dsimp only
   simp [hr]
  show (zhh s c a n f).done=false/\(Jb.aga (zhh s c a n f)).gave=false
  rw [e]
  exact ⟨rfl,rfl⟩
 ·have hl:0<=zae s.p s.c s.m a/\a≠c:=by
   have:=h2
   simp only [zdl,beq_self_eq_true,Bool.true_and,Bool.or_eq_false_iff,decide_eq_false_iff_not,beq_eq_false_iff_ne] at this
   exact ⟨by omega,this.1.1.2⟩
  refine ⟨?_,rfl⟩
  show (zix s c a).done=false
  unfold zix
  dsimp only
  rw [if_neg (by rintro (h | h | h);omega;omega;exact hl.2 h.symm)]
theorem z6w {s:Sh} {c f:Int} (hc:0<=c/\c < s.c) (hf:0<=f/\f < s.p):klOk s (zht c f):=⟨hc,hf,fun j h=> (by cases h),Int.le_refl _,fun j h=> (by cases h)⟩
theorem zwi {s:Sh} {k:Kl} (o:Op3) (hm:mayB s.p s.c s.m=true) (h:klOk s k):klOk s (k.invoke s o).1:=by
 unfold Kl.invoke
 split
 ·exact h
 ·rename_i hr
  split
  ·exact h
  ·rename_i hk
   have hj:k.job=none:=by
    cases hj:k.job
    ·rfl
    ·simp [Kl.rests,hj] at hr
   split
   ·refine ⟨h.cl,h.fi,fun j e=> ?_,Int.le_refl _,fun j e=> ?_⟩
    ·have e:k.job=some j:=e
     rw [hj] at e;cases e
    ·have e:k.job=some j:=e
     rw [hj] at e;cases e
   ·rename_i ho
    have ho:ziu s k.c o.k o.a o.n=false:=by simpa using ho
    have hn:=yer (s:=s) k.c k.first o.k o.a o.n hm h.cl
    have hl:=zpc hm h.cl h.fi (by omega) ho
    refine ⟨h.cl,h.fi,fun j e=> ?_,Int.le_refl _,fun j e=> ?_⟩
    ·have e:some (zgl s k.c k.first o.k o.a o.n)=some j:=e
     injection e with e;subst e
     exact ⟨hn.1,hl.1,fun e=> (by rw [hl.2] at e;cases e),(by dsimp only;omega)⟩
    ·have e:some (zgl s k.c k.first o.k o.a o.n)=some j:=e
     injection e with e;subst e
     dsimp only;omega
theorem zsh {s:Sh} {k:Kl} {m:Mem} {j:Jb} (h:klOk s k) (hj:k.job=some j) (hf:Fits s m) (hfit:m.fit):Acts k.c m (k.step s m).2.1/\klOk s (k.step s m).1:=by
 have hb:=hf.bd
 obtain ⟨h1,h2,h3,h4⟩:=h.jb j hj
 have hs:=zqw h1 h.cl h2 hf hfit
 have hl:=h.lf j hj
 unfold Kl.step
 rw [hj]
 dsimp only
 refine ⟨hs.1,h.cl,h.fi,fun x hx=> ?_,by have:=h.st;show 0<=k.steps + 1;omega,fun x hx=> ?_⟩
 ·have hx:(if (j.step s k.c m).1.done=true then none else some (j.step s k.c m).1)=some x:=hx
  split at hx
  ·cases hx
  ·rename_i hd
   injection hx with hx;subst hx
   refine ⟨hs.2.1,by simpa using hd,fun e=> ?_,h4⟩
   show (k.told || (j.step s k.c m).1.gave)=true
   rw [e];simp
 ·have hx:(if (j.step s k.c m).1.done=true then none else some (j.step s k.c m).1)=some x:=hx
  split at hx
  ·cases hx
  ·injection hx with hx;subst hx
   have:=hs.2.2.1
   show zg8 s _ + (k.steps + 1)<=_
   omega
theorem z6l (s:Sh) (k:Kl) (m:Mem):(k.step s m).1.c=k.c/\(k.step s m).1.first=k.first/\(k.step s m).1.op=k.op:=by
 unfold Kl.step
 split <;> exact ⟨rfl,rfl,rfl⟩
theorem yaa (s:Sh) (k:Kl) (o:Op3):(k.invoke s o).1.c=k.c/\(k.invoke s o).1.first=k.first:=by
 unfold Kl.invoke
 split
 ·exact ⟨rfl,rfl⟩
 ·split
  ·exact ⟨rfl,rfl⟩
  ·split <;> exact ⟨rfl,rfl⟩
theorem z8x {s:Sh} {k:Kl} {j:Jb} (h:klOk s k) (hm:0<=s.m) (hj:k.job=some j):k.steps + 1<=110 * s.p + 4 * s.m + 60:=by
 have h1:=h.lf j hj
 have h2:=ydi (h.jb j hj).1 hm (h.jb j hj).2.1
 omega
end Go.Proofs.YthgekdlegbmehaaGreat
