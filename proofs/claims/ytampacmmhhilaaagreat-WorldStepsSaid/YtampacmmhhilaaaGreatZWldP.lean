/- The world, plain: its words, its clients, its history; what a choice does. -/
import Derived.Test.YtampacmmhhilaaaGreatBm25

import Derived.Test.YtampacmmhhilaaaGreatBm26

import Derived.Test.YtampacmmhhilaaaGreatBm37

import Derived.Test.YtampacmmhhilaaaGreatBm38

set_option linter.all false
namespace Go.Proofs.YtampacmmhhilaaaGreat

/-- A world: its words, its clients, its events, its accesses. -/
structure Wd where
 m:Mem
 l:List (Option Kl)
 tr:List Ev
 lg:List Acc
def Ch.op (x:Ch):Op3:=⟨x.ok,x.oa,x.on⟩
def evStarted (c:Int):Ev:=⟨0,c,0,0,0,0,0,0⟩
def evKilled (c:Int):Ev:=⟨1,c,0,0,0,0,0,0⟩
def Mem.put (m:Mem) (a x:Int):Mem:=⟨m.ws.set a.toNat x,m.st,m.la⟩
def wdNew (s:Sh):Wd:=⟨memNew (totalV s.p s.c s.m).toNat,List.replicate s.c.toNat none, [], []⟩
/-- A client that lives. -/
def Wd.kl (d:Wd) (c:Int):Option Kl:=if 0≤c then d.l.getD c.toNat none else none
def Wd.stat (d:Wd) (c:Int):Int:=statusK (d.m.get c)
def Wd.begin (s:Sh) (d:Wd) (x:Ch):Wd × Int:=
 if d.stat x.client=0 then (⟨d.m.put x.client (statusV 1 0),d.l.set x.client.toNat (some (klNew x.client (Fl.shareI x.bias s.p))),d.tr ++ [evStarted x.client],d.lg⟩,0) else (d,5)
def Wd.step (s:Sh) (d:Wd) (c:Int) (k:Kl):Wd × Int:=
 (⟨(k.step s d.m).2.1,d.l.set c.toNat (some (k.step s d.m).1),d.tr ++ (k.step s d.m).2.2.1,if d.m.st < (k.step s d.m).2.1.st then d.lg ++ [(k.step s d.m).2.1.la] else d.lg⟩,(k.step s d.m).2.2.2)
def Wd.ask (s:Sh) (d:Wd) (x:Ch) (k:Kl):Wd × Int:=
 (⟨d.m,d.l.set x.client.toNat (some (k.invoke s x.op).1),d.tr ++ (k.invoke s x.op).2.1,d.lg⟩,(k.invoke s x.op).2.2)
def Wd.kill (d:Wd) (c:Int):Wd × Int:=(⟨d.m.put c (statusV 2 0),d.l.set c.toNat none,d.tr ++ [evKilled c],d.lg⟩,0)
def Ch.bad (s:Sh) (x:Ch):Prop:=x.kind < 1∨4 < x.kind∨x.client < 0∨s.c≤x.client
instance (s:Sh) (x:Ch):Decidable (x.bad s):=by unfold Ch.bad;infer_instance
/-- What a choice does: the world, the error. -/
def Wd.act (s:Sh) (d:Wd) (x:Ch):Wd × Int:=
 if x.bad s then (d,1)
 else if x.kind=1 then d.begin s x
 else match d.kl x.client with
  | none=> (d,2)
  | some k=> if x.kind=3 then d.step s x.client k else if x.kind=2 then d.ask s x k else d.kill x.client
def Wd.play (s:Sh) (d:Wd):List Ch→Wd × Int
 | []=> (d,0)
 | x::xs=> (((d.act s x).1.play s xs).1,(if (d.act s x).2=0 then 1 else 0) + ((d.act s x).1.play s xs).2)
/-- What a world keeps, with at most n choices done. -/
structure wdOk (s:Sh) (d:Wd) (n:Nat):Prop where
 fi:Fits s d.m
 fit:d.m.fit
 len:d.l.length=s.c.toNat
 kl:∀ c k,d.kl c=some k→klOk s k∧k.c=c∧0≤c∧c < s.c
 st:0≤d.m.st∧d.m.st≤n
 tr:d.tr.length≤3 * n
 lg:d.lg.length=d.m.st
theorem Wd.kl_lt {d:Wd} {c:Int} {k:Kl} (h:d.kl c=some k):0≤c∧c.toNat < d.l.length:=by
 unfold Wd.kl at h
 split at h
 ·rename_i h0
  by_cases hc:c.toNat < d.l.length
  ·exact ⟨h0,hc⟩
  ·rw [List.getD_eq_getElem?_getD,List.getElem?_eq_none (by omega)] at h
   simp at h
 ·cases h
theorem getD_set {α:Type} (l:List (Option α)) (i j:Nat) (v:Option α) (hi:i < l.length):(l.set i v).getD j none=if i=j then v else l.getD j none:=by
 rw [List.getD_eq_getElem?_getD,List.getD_eq_getElem?_getD,List.getElem?_set]
 by_cases h:i=j
 ·subst h
  simp [hi]
 ·simp [h]
theorem Wd.kl_set (d:Wd) {x:Int} (hx:0≤x) (hi:x.toNat < d.l.length) (v:Option Kl) (m:Mem) (tr:List Ev) (lg:List Acc) (c:Int):(⟨m,d.l.set x.toNat v,tr,lg⟩:Wd).kl c=if c=x then v else d.kl c:=by
 unfold Wd.kl
 dsimp only
 by_cases h0:0≤c
 ·rw [if_pos h0,if_pos h0,getD_set _ _ _ _ hi]
  by_cases h:c=x
  ·rw [if_pos (by omega),if_pos h]
  ·rw [if_neg (by omega),if_neg h]
 ·rw [if_neg h0,if_neg h0,if_neg (by omega)]
theorem Mem.put_fit {m:Mem} (h:m.fit) (a x:Int) (hx:0≤x∧x < 18446744073709551616):(m.put a x).fit:=fit_set h hx
theorem Kl.tells_len (k:Kl) (j:Jb):(k.tells j).length≤3:=by
 unfold Kl.tells
 rw [List.length_append]
 have h1:(if j.gave=true∧k.told=false then [evGave k.c k.op.a] else []).length≤1:=by split <;> simp
 have h2:(if j.done=true then (match j.took with | some b=> [evTook k.c b.at' b.len] | none=> []) ++ [evAnswer k.c k.op (tookAt j.took) j.err] else []).length≤2:=by
  split
  ·rw [List.length_append]
   have:(match j.took with | some b=> [evTook k.c b.at' b.len] | none=> []).length≤1:=by cases j.took <;> simp
   simp;omega
  ·simp
 exact Nat.add_le_add h1 h2
theorem Kl.step_len (s:Sh) (k:Kl) (m:Mem):(k.step s m).2.2.1.length≤3:=by
 unfold Kl.step
 split
 ·simp
 ·exact Kl.tells_len _ _
theorem Kl.invoke_len (s:Sh) (k:Kl) (o:Op3):(k.invoke s o).2.1.length≤2:=by
 unfold Kl.invoke
 split
 ·simp
 ·split
  ·simp
  ·split <;> simp
theorem wdNew_ok {s:Sh} (h:mayB s.p s.c s.m=true):wdOk s (wdNew s) 0:=by
 have ht:0≤totalV s.p s.c s.m:=(total_bd _ _ _).1
 refine ⟨⟨h,?_⟩,memNew_fit _,by simp [wdNew],fun c k hk=> ?_,⟨Int.le_refl _,Int.le_refl _⟩,by simp [wdNew],rfl⟩
 ·show (((List.replicate _ (0:Int)).length:Nat):Int)=_
  rw [List.length_replicate];omega
 ·unfold Wd.kl wdNew at hk
  dsimp only at hk
  rw [List.getD_eq_getElem?_getD,List.getElem?_replicate] at hk
  split at hk
  ·split at hk <;> simp at hk
  ·cases hk
/-- One access, or none. -/
theorem klStep_mem {s:Sh} {k:Kl} {m:Mem} (h:klOk s k) (hf:Fits s m) (hfit:m.fit):(k.job=none∧k.step s m=(k,m, [],2))∨(∃ j,k.job=some j∧Acts k.c m (k.step s m).2.1∧klOk s (k.step s m).1∧(k.step s m).2.2.2=0):=by
 rcases hj:k.job with _ | j
 ·exact .inl ⟨rfl,by unfold Kl.step;rw [hj]⟩
 ·have ho:=klStep_ok h hj hf hfit
  exact .inr ⟨j,rfl,ho.1,ho.2,by unfold Kl.step;rw [hj]⟩
theorem wdAct_ok {s:Sh} {d:Wd} {n:Nat} (h:wdOk s d n) (x:Ch):wdOk s (d.act s x).1 (n + 1):=by
 have hm:=h.fi.may
 have hb:=h.fi.bd
 have h1:=h.st
 have h2:=h.tr
 have h3:=h.lg
 have h0:wdOk s d (n + 1):=⟨h.fi,h.fit,h.len,h.kl,⟨h1.1,by omega⟩,by omega,h3⟩
 unfold Wd.act
 split
 ·exact h0
 ·rename_i hbad
  unfold Ch.bad at hbad
  have hc:0≤x.client∧x.client < s.c:=by omega
  have hi:x.client.toNat < d.l.length:=by rw [h.len];omega
  have hset:∀ (v:Option Kl),(∀ k,v=some k→klOk s k∧k.c=x.client)→∀ (m:Mem) tr lg c k,(⟨m,d.l.set x.client.toNat v,tr,lg⟩:Wd).kl c=some k→klOk s k∧k.c=c∧0≤c∧c < s.c:=fun v hv m tr lg c k hk=> by
   rw [d.kl_set hc.1 hi] at hk
   split at hk
   ·rename_i e
    subst e
    exact ⟨(hv k hk).1,(hv k hk).2,hc⟩
   ·exact h.kl c k hk
  split
  ·unfold Wd.begin
   split
   ·refine ⟨h.fi.of_len (by simp [Mem.put]),Mem.put_fit h.fit _ _ (statusV_u64 _ _),by simpa using h.len,?_,⟨h1.1,by show d.m.st≤_;omega⟩,by simp;omega,h3⟩
    exact hset _ (fun k hk=> by injection hk with hk;subst hk;exact ⟨klNew_ok hc (Fl.shareI_bd _ (by omega)),rfl⟩) _ _ _
   ·exact h0
  ·split
   ·exact h0
   ·rename_i k hk
    have hkl:=h.kl _ _ hk
    split
    ·have hl:=Kl.step_len s k d.m
     have hcc:=(klStep_c s k d.m).1
     unfold Wd.step
     rcases klStep_mem hkl.1 h.fi h.fit with ⟨hj,e⟩ | ⟨j,hj,ha,hok,he⟩
     ·rw [e]
      dsimp only
      rw [if_neg (by omega)]
      exact ⟨h.fi,h.fit,by simpa using h.len,hset _ (fun k' hk'=> by injection hk' with hk';subst hk';exact ⟨hkl.1,hkl.2.1⟩) _ _ _,⟨h1.1,by show d.m.st≤_;omega⟩,by simp;omega,h3⟩
     ·have hst:=ha.st
      rw [if_pos (by omega)]
      refine ⟨ha.fits h.fi,ha.fit h.fit,by simpa using h.len,hset _ (fun k' hk'=> by injection hk' with hk';subst hk';exact ⟨hok,hcc.trans hkl.2.1⟩) _ _ _,⟨by dsimp only;omega,by dsimp only;omega⟩,by simp;omega,by simp;omega⟩
    ·split
     ·have hl:=Kl.invoke_len s k x.op
      unfold Wd.ask
      exact ⟨h.fi,h.fit,by simpa using h.len,hset _ (fun k' hk'=> by injection hk' with hk';subst hk';exact ⟨klAsk_ok x.op hm hkl.1,(klAsk_c s k x.op).1.trans hkl.2.1⟩) _ _ _,⟨h1.1,by dsimp only;omega⟩,by simp;omega,h3⟩
     ·unfold Wd.kill
      exact ⟨h.fi.of_len (by simp [Mem.put]),Mem.put_fit h.fit _ _ (statusV_u64 _ _),by simpa using h.len,hset _ (fun k hk=> by cases hk) _ _ _,⟨h1.1,by show d.m.st≤_;omega⟩,by simp;omega,h3⟩
end Go.Proofs.YtampacmmhhilaaaGreat
