/- One that was killed does nothing any more: plain. -/
import Derived.Test.YtampacmmhhilaaaGreatBq41

import Derived.Test.YtampacmmhhilaaaGreatZStpP

set_option linter.all false
namespace Go.Proofs.YtampacmmhhilaaaGreat

theorem yas (k:Kl) (j:Jb):∀ e ∈ k.tells j,e.c=k.c:=fun e he=> by
 unfold Kl.tells at he
 rcases List.mem_append.1 he with h | h
 ·split at h
  ·rw [List.mem_singleton.1 h];rfl
  ·cases h
 ·split at h
  ·rcases List.mem_append.1 h with h | h
   ·cases ht:j.took with
    | none=> rw [ht] at h;cases h
    | some b=> rw [ht] at h;rw [List.mem_singleton.1 h];rfl
   ·rw [List.mem_singleton.1 h];rfl
  ·cases h
theorem z5u (s:Sh) (k:Kl) (o:Op3):∀ e ∈ (k.invoke s o).2.1,e.c=k.c:=fun e he=> by
 unfold Kl.invoke at he
 split at he
 ·cases he
 ·split at he
  ·cases he
  ·split at he
   ·rcases List.mem_cons.1 he with h | h
    ·rw [h];rfl
    ·rw [List.mem_singleton.1 h];rfl
   ·rw [List.mem_singleton.1 he];rfl
theorem yd6 (s:Sh) (k:Kl) (m:Mem):∀ e ∈ (k.step s m).2.2.1,e.c=k.c:=fun e he=> by
 unfold Kl.step at he
 split at he
 ·cases he
 ·exact yas _ _ e he
theorem yd3 {c:Int} {m m':Mem} (h:Acts c m m'):m'.la.c=c:=by cases h <;> rfl
def Gone (s:Sh) (d:Wd) (c:Int):Prop:=∃ σ,WI s σ d/\d.kl c=none/\σ.st c≠ .unused
theorem zs2 {s:Sh} {d:Wd} {c:Int} (h:Gone s d c) (hc:0<=c/\c < s.c):d.stat c≠0/\d.stat c≠1:=by
 obtain ⟨σ,h1,h2,h3⟩:=h
 have hm:=h1.rep.may
 have hix:=(ixs h1.rep.fi).2.2.2 _ hc
 have h4:=h1.rep.st _ hc
 rw [hix] at h4
 have h5:=(TW.read hm (h1.gi.tf c)).1
 unfold Wd.stat
 rw [h4,h5]
 cases hx:σ.st c with
 | unused=> exact absurd hx h3
 | live=> obtain ⟨k,hk⟩:=h1.nl c hx;rw [h2] at hk;cases hk
 | dead=> exact ⟨by decide,by decide⟩
 | owned a=> exact ⟨show (3:Int)≠0 by decide,show (3:Int)≠1 by decide⟩
 | done=> exact ⟨by decide,by decide⟩
structure Still (s:Sh) (c:Int) (d d':Wd):Prop where
 gone:Gone s d' c
 tr:∃ es,d'.tr=d.tr ++ es/\∀ e ∈ es,e.c≠c
 lg:∃ l,d'.lg=d.lg ++ l/\∀ a ∈ l,a.c≠c
theorem z7i {s:Sh} {d:Wd} {n:Nat} {c:Int} (h:Gone s d c) (hd:wdOk s d n) (hc:0<=c/\c < s.c) (x:Ch):Still s c d (d.act s x).1/\(x.client=c->(d.act s x).2≠0):=by
 have hst:=zs2 h hc
 have same:Still s c d d:=⟨h,⟨[],by simp,fun e he=> by cases he⟩,⟨[],by simp,fun e he=> by cases he⟩⟩
 obtain ⟨σ,h1,h2,h3⟩:=h
 unfold Wd.act
 split
 ·exact ⟨same,fun _=> (show (1:Int)≠0 by decide)⟩
 ·rename_i hb
  unfold Ch.bad at hb
  have hcl:0<=x.client/\x.client < s.c:=by omega
  have hi:x.client.toNat < d.l.length:=by rw [hd.len];omega
  split
  ·by_cases hu:d.stat x.client=0
   ·have hne:c≠x.client:=fun e=> hst.1 (e ▸ hu)
    have hw:=zqr h1 hd x hcl hu
    have hkl:∀ y,(d.begin s x).1.kl y=if y=x.client then some (zht x.client (Fl.zdr x.bias s.p)) else d.kl y:=fun y=> by
     unfold Wd.begin
     rw [if_pos hu]
     exact d.zdk hcl.1 hi _ _ _ _ _
    refine ⟨⟨⟨_,hw,by rw [hkl,if_neg hne];exact h2,by rw [zao _ _ hne];exact h3⟩,⟨[zcj x.client],by unfold Wd.begin;rw [if_pos hu],fun e he=> by rw [List.mem_singleton.1 he];exact fun e=> hne e.symm⟩,⟨[],by unfold Wd.begin;rw [if_pos hu];simp,fun e he=> by cases he⟩⟩,fun e=> absurd e.symm hne⟩
   ·have e:d.begin s x=(d,5):=if_neg hu
    rw [e]
    exact ⟨same,fun _=> (show (5:Int)≠0 by decide)⟩
  ·cases hk:d.kl x.client with
   | none=> exact ⟨same,fun _=> (show (2:Int)≠0 by decide)⟩
   | some k=>
    dsimp only
    have hne:c≠x.client:=fun e=> by rw [<- e,h2] at hk;cases hk
    obtain ⟨hok,hkc,_⟩:=hd.kl _ k hk
    have hkcn:k.c≠c:=fun e=> hne (by rw [<- e,hkc])
    split
    ·have hkl:∀ y,(d.step s x.client k).1.kl y=if y=x.client then some (k.step s d.m).1 else d.kl y:=fun y=> by
      unfold Wd.step
      exact d.zdk hcl.1 hi _ _ _ _ _
     have htr:∃ es,(d.step s x.client k).1.tr=d.tr ++ es/\∀ e ∈ es,e.c≠c:=⟨_,rfl,fun e he=> by rw [yd6 s k d.m e he];exact hkcn⟩
     rcases hj:k.job with _ | j
     ·have e:k.step s d.m=(k,d.m, [],2):=by unfold Kl.step;rw [hj]
      refine ⟨⟨⟨σ,?_,by rw [hkl,if_neg hne];exact h2,h3⟩,htr,⟨[],?_,fun a ha=> by cases ha⟩⟩,fun e=> absurd e.symm hne⟩
      ·unfold Wd.step
       rw [e]
       exact zw8 h1 hk (h1.li _ k hk).2 (.inl rfl) _ _
      ·unfold Wd.step
       rw [e]
       dsimp only
       rw [if_neg (by omega),List.append_nil]
     ·have hw:=zt5 h1 hd hk hj
      refine ⟨⟨⟨_,hw.1,by rw [hkl,if_neg hne];exact h2,fun e=> h3 ((hw.2.1.st c).1 e)⟩,htr,?_⟩,fun e=> absurd e.symm hne⟩
      rcases zkh hok hd.fi hd.fit with ⟨hj2,_⟩ | ⟨_,_,ha,_,_⟩
      ·rw [hj] at hj2;cases hj2
      ·have hs:=ha.st
       refine ⟨[(k.step s d.m).2.1.la],?_,fun a hm=> by rw [List.mem_singleton.1 hm,yd3 ha];exact hkcn⟩
       unfold Wd.step
       dsimp only
       rw [if_pos (by omega)]
    ·split
     ·have hkl:∀ y,(d.ask s x k).1.kl y=if y=x.client then some (k.invoke s x.op).1 else d.kl y:=fun y=> by
       unfold Wd.ask
       exact d.zdk hcl.1 hi _ _ _ _ _
      exact ⟨⟨⟨σ,zwb h1 hd x hk,by rw [hkl,if_neg hne];exact h2,h3⟩,⟨_,rfl,fun e he=> by rw [z5u s k x.op e he];exact hkcn⟩,⟨[],by unfold Wd.ask;simp,fun a ha=> by cases ha⟩⟩,fun e=> absurd e.symm hne⟩
     ·have hkl:∀ y,(d.kill x.client).1.kl y=if y=x.client then none else d.kl y:=fun y=> by
       unfold Wd.kill
       exact d.zdk hcl.1 hi _ _ _ _ _
      exact ⟨⟨⟨_,zp4 h1 hd hk,by rw [hkl,if_neg hne];exact h2,by rw [zao _ _ hne];exact h3⟩,⟨[zdw x.client],rfl,fun e he=> by rw [List.mem_singleton.1 he];exact fun e=> hne e.symm⟩,⟨[],by unfold Wd.kill;simp,fun a ha=> by cases ha⟩⟩,fun e=> absurd e.symm hne⟩
theorem z2e {s:Sh} {σ:Ab} {d:Wd} {n:Nat} {c:Int} (h:WI s σ d) (hd:wdOk s d n) (hc:0<=c/\c < s.c) (h0:(d.act s ⟨4,c,0,0,0,0⟩).2=0):Gone s (d.act s ⟨4,c,0,0,0,0⟩).1 c:=by
 have hb:¬ (⟨4,c,0,0,0,0⟩:Ch).bad s:=by unfold Ch.bad;dsimp only;omega
 have hi:c.toNat < d.l.length:=by rw [hd.len];omega
 have e:d.act s ⟨4,c,0,0,0,0⟩=match d.kl c with
  | none=> (d,2)
  | some _=> d.kill c:=by
  unfold Wd.act
  rw [if_neg hb,if_neg (show ¬ (4:Int)=1 by decide)]
  cases hk:d.kl c with
  | none=> simp only [hk]
  | some k=> simp only [hk];rw [if_neg (show ¬ (4:Int)=3 by decide),if_neg (show ¬ (4:Int)=2 by decide)]
 rw [e] at h0 ⊢
 cases hk:d.kl c with
 | none=> rw [hk] at h0;exact absurd h0 (show ¬ (2:Int)=0 by decide)
 | some k=>
  refine ⟨_,zp4 h hd hk,?_,by rw [zbf];simp⟩
  unfold Wd.kill
  exact (d.zdk hc.1 hi _ _ _ _ _).trans (if_pos rfl)
theorem ybt {s:Sh} (hm:mayB s.p s.c s.m=true) (l:List Ch):∃ σ,WI s σ ((zde s).acts s l):=by
 suffices ∀ (l:List Ch) (d:Wd) (n:Nat) (σ:Ab),WI s σ d->wdOk s d n->∃ σ',WI s σ' (d.acts s l) from this l _ 0 _ (ydc hm) (zl9 hm)
 intro l
 induction l with
 | nil=> exact fun d n σ h _=> ⟨σ,h⟩
 | cons x l ih=>
  intro d n σ h hd
  obtain ⟨σ',h'⟩:=ye5 h hd x
  exact ih _ _ _ h' (zeo hd x)
end Go.Proofs.YtampacmmhhilaaaGreat
