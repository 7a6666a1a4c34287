/- One that asks alone is answered: plain. -/
import Derived.Test.YtampacmmhhilaaaGreatZStpP

set_option linter.all false
namespace Go.Proofs.YtampacmmhhilaaaGreat

def Told (d:Wd) (c:Int):Prop:=∃ l e,d.tr=l ++ [e]/\e.k=5/\e.c=c
def Due (d:Wd) (c i:Int):Prop:=∃ k,d.kl c=some k/\((k.job≠none/\k.steps=i)\/(k.job=none/\Told d c))
def zjx (c:Int):Ch:=⟨3,c,0,0,0,0⟩
def Wd.goS (s:Sh) (c:Int) (d:Wd):Wd:=match d.kl c with
 | some k=> if k.job.isSome=true then (d.act s (zjx c)).1 else d
 | none=> d
def Wd.goN (s:Sh) (c:Int):Nat->Wd->Wd
 | 0,d=> d
 | n + 1,d=> (Wd.goN s c n d).goS s c
theorem z5q {s:Sh} {d:Wd} {c:Int} {k:Kl} (hk:d.kl c=some k) (hc:0<=c/\c < s.c):d.act s (zjx c)=d.step s c k:=by
 unfold Wd.act
 rw [if_neg (by unfold Ch.bad zjx;dsimp only;omega),if_neg (show ¬ (zjx c).kind=1 from (show ¬ (3:Int)=1 by decide))]
 have e:d.kl (zjx c).client=some k:=hk
 rw [e]
 exact if_pos rfl
theorem z6c {s:Sh} {d:Wd} {n:Nat} {c:Int} {k:Kl} {j:Jb} (ho:wdOk s d n) (hk:d.kl c=some k) (hj:k.job=some j):
  (d.act s (zjx c)).2=0/\Due (d.act s (zjx c)).1 c (k.steps + 1):=by
 obtain ⟨hok,hkc,hc⟩:=ho.kl _ _ hk
 rw [z5q hk hc]
 have hi:c.toNat < d.l.length:=by rw [ho.len];omega
 have e:k.step s d.m=(k.after (j.step s k.c d.m).1,(j.step s k.c d.m).2,k.tells (j.step s k.c d.m).1,0):=by unfold Kl.step;rw [hj]
 unfold Wd.step
 rw [e]
 dsimp only
 refine ⟨rfl,k.after (j.step s k.c d.m).1,?_,?_⟩
 ·rw [d.zdk hc.1 hi,if_pos rfl]
 ·unfold Kl.after
  dsimp only
  by_cases hd:(j.step s k.c d.m).1.done=true
  ·rw [if_pos hd]
   refine .inr ⟨rfl,?_⟩
   obtain ⟨l,hl⟩:∃ l,d.tr ++ k.tells (j.step s k.c d.m).1=l ++ [zaf k.c k.op (zb1 (j.step s k.c d.m).1.took) (j.step s k.c d.m).1.err]:=
    ⟨_,by unfold Kl.tells;rw [if_pos hd,<- List.append_assoc,<- List.append_assoc]⟩
   exact ⟨l,_,hl,rfl,hkc⟩
  ·rw [if_neg hd]
   exact .inl ⟨by simp,rfl⟩
theorem ya0 {s:Sh} {d:Wd} {n:Nat} {c i:Int} (ho:wdOk s d n) (h:Due d c i) (hi:110 * s.p + 4 * s.m + 60<=i):∃ k,d.kl c=some k/\k.job=none/\Told d c:=by
 obtain ⟨k,hk,h1 | h1⟩:=h
 ·rcases hj:k.job with _ | j
  ·exact absurd hj h1.1
  ·have:=z8x (ho.kl _ _ hk).1 (by have:=ho.fi.bd;omega) hj
   omega
 ·exact ⟨k,hk,h1⟩
theorem zw5 {s:Sh} {d:Wd} {c:Int} {k:Kl} (hk:d.kl c=some k) (hj:k.job=none):d.goS s c=d:=by
 unfold Wd.goS
 rw [hk]
 dsimp only
 rw [hj,if_neg (by simp)]
theorem z5n {s:Sh} {d:Wd} {c:Int} {k:Kl} (hk:d.kl c=some k) (hj:k.job≠none):d.goS s c=(d.act s (zjx c)).1:=by
 unfold Wd.goS
 rw [hk]
 dsimp only
 rw [if_pos (by rcases h:k.job with _ | j;exact absurd h hj;rfl)]
theorem ye0 {s:Sh} {d:Wd} {n:Nat} {c:Int} (ho:wdOk s d n):wdOk s (d.goS s c) (n + 1):=by
 have h:=zeo ho (zjx c)
 have h':wdOk s d (n + 1):=⟨ho.fi,ho.fit,ho.len,ho.kl,⟨ho.st.1,by have:=ho.st.2;omega⟩,by have:=ho.tr;omega,ho.lg⟩
 unfold Wd.goS
 split
 ·split
  ·exact h
  ·exact h'
 ·exact h'
theorem zz6 {s:Sh} {d:Wd} {n:Nat} {c:Int} (ho:wdOk s d n) (i:Nat):wdOk s (d.goN s c i) (n + i):=by
 induction i with
 | zero=> exact ho
 | succ i ih=> exact ye0 ih
theorem yfl {s:Sh} {d:Wd} {c:Int} {i:Nat} {k:Kl} (hk:(d.goN s c i).kl c=some k) (hj:k.job=none) (m:Nat):d.goN s c (i + m)=d.goN s c i:=by
 induction m with
 | zero=> rfl
 | succ m ih=>
  show (d.goN s c (i + m)).goS s c=_
  rw [ih,zw5 hk hj]
theorem yav {s:Sh} {d:Wd} {n:Nat} {c a:Int} (ho:wdOk s d n) (h:Due d c a) (i:Nat):Due (d.goN s c i) c (a + i):=by
 induction i with
 | zero=>
  show Due d c (a + ((0:Nat):Int))
  rw [show a + ((0:Nat):Int)=a by omega]
  exact h
 | succ i ih=>
  obtain ⟨k,hk,h1 | h1⟩:=ih
  ·have e:d.goN s c (i + 1)=((d.goN s c i).act s (zjx c)).1:=z5n hk h1.1
   rcases hj:k.job with _ | j
   ·exact absurd hj h1.1
   ·rw [e]
    have h2:=(z6c (zz6 ho i) hk hj).2
    rw [h1.2] at h2
    rw [show a + ((i + 1:Nat):Int)=a + i + 1 by omega]
    exact h2
  ·have e:d.goN s c (i + 1)=d.goN s c i:=zw5 hk h1.1
   rw [e]
   exact ⟨k,hk,.inr h1⟩
theorem yct {s:Sh} {d:Wd} {n:Nat} {x:Ch} (ho:wdOk s d n) (hx:x.kind=2) (h:(d.act s x).2=0):0<=x.client/\x.client < s.c/\Due (d.act s x).1 x.client 0:=by
 unfold Wd.act at h ⊢
 by_cases hb:x.bad s
 ·rw [if_pos hb] at h;exact absurd h (show (1:Int)≠0 by decide)
 ·rw [if_neg hb] at h ⊢
  unfold Ch.bad at hb
  have hc:0<=x.client/\x.client < s.c:=by omega
  refine ⟨hc.1,hc.2,?_⟩
  rw [if_neg (by omega)] at h ⊢
  cases hk:d.kl x.client with
  | none=> rw [hk] at h;exact absurd h (show (2:Int)≠0 by decide)
  | some k=>
   rw [hk] at h
   dsimp only at h ⊢
   rw [if_neg (by omega),if_pos hx] at h ⊢
   have hi:x.client.toNat < d.l.length:=by rw [ho.len];omega
   have hkc:=(ho.kl _ _ hk).2.1
   unfold Wd.ask at h ⊢
   dsimp only at h ⊢
   refine ⟨(k.invoke s x.op).1,by rw [d.zdk hc.1 hi,if_pos rfl],?_⟩
   unfold Kl.invoke at h ⊢
   split at h
   ·exact absurd h (show (4:Int)≠0 by decide)
   ·rename_i hr
    split at h
    ·exact absurd h (show (1:Int)≠0 by decide)
    ·rename_i hk2
     rw [if_neg hr,if_neg hk2]
     have hjn:k.job=none:=by
      unfold Kl.rests at hr
      rcases hj:k.job with _ | j
      ·rfl
      ·rw [hj] at hr;simp at hr
     split
     ·refine .inr ⟨hjn,?_⟩
      exact ⟨d.tr ++ [zbh k.c x.op],zaf k.c x.op 0 (zjw s k.c x.op.k x.op.a x.op.n),by simp,rfl,hkc⟩
     ·exact .inl ⟨by simp,rfl⟩
def z5k (s:Sh):Nat:=(110 * s.p + 4 * s.m + 60).toNat
def askW (s:Sh) (d:Wd) (c:Int) (o:Op3):Wd:=(d.act s ⟨2,c,o.k,o.a,o.n,0⟩).1.goN s c (z5k s)
def ygv (d:Wd):Int:=match d.tr.getLast? with
 | some e=> e.er
 | none=> 0
theorem yfn {s:Sh} {d:Wd} {n:Nat} {c:Int} {o:Op3} (ho:wdOk s d n) (h:(d.act s ⟨2,c,o.k,o.a,o.n,0⟩).2=0):∃ k,(askW s d c o).kl c=some k/\k.job=none/\Told (askW s d c o) c:=by
 have hb:=ho.fi.bd
 have h1:=yct ho (x:=⟨2,c,o.k,o.a,o.n,0⟩) rfl h
 have h2:=yav (zeo ho _) h1.2.2 (z5k s)
 exact ya0 (zz6 (zeo ho _) _) h2 (by unfold z5k;omega)
theorem yhe {s:Sh} {d:Wd} {n:Nat} {c:Int} {o:Op3} (ho:wdOk s d n):wdOk s (askW s d c o) (n + 1 + z5k s):=zz6 (zeo ho _) _
end Go.Proofs.YtampacmmhhilaaaGreat
