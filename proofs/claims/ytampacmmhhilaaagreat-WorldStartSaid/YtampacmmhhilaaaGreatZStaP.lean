/- Who is started, killed, asked for nothing: the plain law of WorldStart. -/
import Derived.Test.YtampacmmhhilaaaGreatZStpP

import Derived.Test.YtampacmmhhilaaaGreatZWWho

set_option linter.all false
namespace Go.Proofs.YtampacmmhhilaaaGreat

def staK (b:Int):Int:=if b % 4=0 then 1 else if b % 4=1 then 4 else if b % 4=2 then 2 else 3
def zvs (x k:Int):Int:=if k=1 then (if x=0 then 0 else 5) else if k=3 then 2 else if x=1 then 0 else 2
def zfy (x k:Int):Int:=if k=1/\x=0 then 1 else if k=4/\x=1 then 2 else x
structure StaI (s:Sh) (d:Wd) (st:List Int):Prop where
 len:st.length=s.c.toNat
 stt:∀ c:Nat,c < st.length->d.stat c=st.getD c 0/\(st.getD c 0=0\/st.getD c 0=1\/st.getD c 0=2)
 kl:∀ c:Nat,c < st.length->(st.getD c 0=1->∃ k,d.kl c=some k/\k.job=none)/\(st.getD c 0≠1->d.kl c=none)
 lg:d.lg= []
theorem zmi (st:List Int) (c y:Nat) (x:Int) (h:c < st.length):(st.set c x).getD y 0=if y=c then x else st.getD y 0:=by
 rw [List.getD_eq_getElem?_getD,List.getD_eq_getElem?_getD,List.getElem?_set]
 by_cases e:y=c
 ·subst e;simp [h]
 ·rw [if_neg (fun e'=> e e'.symm),if_neg e]
theorem ybq (m:Mem) (c y:Nat) (x:Int) (h:c < m.ws.length):(m.put c x).get y=if y=c then x else m.get y:=by
 unfold Mem.put Mem.get
 dsimp only
 rw [show ((c:Int)).toNat=c from rfl,show ((y:Int)).toNat=y from rfl,zmi _ _ _ _ h]
theorem StaI.upd {s:Sh} {d d':Wd} {st:List Int} (h:StaI s d st) {c:Nat} (hc:c < st.length) {x:Int} {v:Option Kl}
  (hs:∀ y:Nat,d'.stat y=if y=c then x else d.stat y) (hk:∀ y:Nat,d'.kl y=if y=c then v else d.kl y)
  (hx:x=0\/x=1\/x=2) (hv:(x=1->∃ k,v=some k/\k.job=none)/\(x≠1->v=none)) (hl:d'.lg= []):StaI s d' (st.set c x):=by
 refine ⟨by simpa using h.len,fun y hy=> ?_,fun y hy=> ?_,hl⟩
 ·rw [zmi _ _ _ _ hc,hs]
  by_cases e:y=c
  ·rw [if_pos e,if_pos e];exact ⟨rfl,hx⟩
  ·rw [if_neg e,if_neg e];exact h.stt y (by simpa using hy)
 ·rw [zmi _ _ _ _ hc,hk]
  by_cases e:y=c
  ·rw [if_pos e,if_pos e];exact hv
  ·rw [if_neg e,if_neg e];exact h.kl y (by simpa using hy)
theorem set_self (st:List Int) (c:Nat):st.set c (st.getD c 0)=st:=by
 by_cases h:c < st.length
 ·rw [List.getD_eq_getElem?_getD,List.getElem?_eq_getElem h]
  simp
 ·rw [List.set_eq_of_length_le (by omega)]
theorem yf9 {s:Sh} {d:Wd} {n:Nat} {st:List Int} (ho:wdOk s d n) (hI:StaI s d st) (c:Nat) (hc:(c:Int) < s.c) (k:Int) (hk:k=1\/k=2\/k=3\/k=4):
  (d.act s ⟨k,c,2, -1,0,0⟩).2=zvs (st.getD c 0) k/\StaI s (d.act s ⟨k,c,2, -1,0,0⟩).1 (st.set c (zfy (st.getD c 0) k)):=by
 have hlen:=hI.len
 have hcl:c < st.length:=by omega
 have hmw:c < d.m.ws.length:=by have:=(ho.fi.status (x:=(c:Int)) (by omega)).2;unfold Mem.has at this;omega
 have hi:((c:Int)).toNat < d.l.length:=by rw [ho.len];omega
 have hb:¬ (⟨k,c,2, -1,0,0⟩:Ch).bad s:=by unfold Ch.bad;dsimp only;omega
 obtain ⟨h1,h2⟩:=hI.stt c hcl
 obtain ⟨h3,h4⟩:=hI.kl c hcl
 have hkl:∀ (v:Option Kl) m tr lg (y:Nat),(⟨m,d.l.set ((c:Int)).toNat v,tr,lg⟩:Wd).kl y=if y=c then v else d.kl y:=fun v m tr lg y=> by
  rw [d.zdk (by omega) hi]
  by_cases e:y=c
  ·rw [if_pos e,if_pos (by omega)]
  ·rw [if_neg e,if_neg (by omega)]
 have hsp:∀ (v:Int) l tr lg (y:Nat),(⟨d.m.put c v,l,tr,lg⟩:Wd).stat y=if y=c then zdc v else d.stat y:=fun v l tr lg y=> by
  unfold Wd.stat
  dsimp only
  rw [ybq _ _ _ _ hmw]
  split <;> rfl
 have same:StaI s d (st.set c (st.getD c 0)):=by rw [set_self];exact hI
 unfold Wd.act
 rw [if_neg hb]
 by_cases hk1:k=1
 ·subst hk1
  rw [if_pos rfl]
  unfold Wd.begin zvs zfy
  rw [if_pos rfl]
  by_cases h0:st.getD c 0=0
  ·rw [h1,if_pos h0,if_pos h0,if_pos ⟨rfl,h0⟩]
   refine ⟨rfl,hI.upd hcl (v:=some (zht c (Fl.zdr 0 s.p))) (fun y=> ?_) (fun y=> hkl _ _ _ _ _) (.inr (.inl rfl)) ⟨fun _=> ⟨_,rfl,rfl⟩,fun e=> absurd rfl e⟩ hI.lg⟩
   rw [hsp]
   rfl
  ·rw [h1,if_neg h0,if_neg h0,if_neg (fun e=> h0 e.2),if_neg (fun e=> absurd e.1 (by decide))]
   exact ⟨rfl,same⟩
 ·rw [if_neg hk1]
  unfold zvs
  rw [if_neg hk1]
  by_cases hx:st.getD c 0=1
  ·obtain ⟨kl,e,hj⟩:=h3 hx
   dsimp only
   rw [e]
   dsimp only
   by_cases hk3:k=3
   ·subst hk3
    have e2:zfy (st.getD c 0) 3=st.getD c 0:=by unfold zfy;rw [if_neg (fun e=> absurd e.1 (by decide)),if_neg (fun e=> absurd e.1 (by decide))]
    rw [if_pos rfl,if_pos rfl,e2]
    have e3:kl.step s d.m=(kl,d.m, [],2):=by unfold Kl.step;rw [hj]
    unfold Wd.step
    rw [e3]
    refine ⟨rfl,hI.upd hcl (v:=some kl) (fun y=> ?_) (fun y=> hkl _ _ _ _ _) h2 ⟨fun _=> ⟨_,rfl,hj⟩,fun e=> absurd hx e⟩ ?_⟩
    ·show d.stat y=_
     by_cases e:y=c
     ·rw [if_pos e,e,h1]
     ·rw [if_neg e]
    ·dsimp only
     rw [if_neg (by omega)]
     exact hI.lg
   ·rw [if_neg hk3,if_neg hk3,if_pos hx]
    by_cases hk2:k=2
    ·subst hk2
     have e2:zfy (st.getD c 0) 2=st.getD c 0:=by unfold zfy;rw [if_neg (fun e=> absurd e.1 (by decide)),if_neg (fun e=> absurd e.1 (by decide))]
     rw [if_pos rfl,e2]
     have e3:kl.invoke s (⟨2,c,2, -1,0,0⟩:Ch).op=({ kl with op:=⟨2, -1,0⟩,told:=false,steps:=0 }, [zbh kl.c ⟨2, -1,0⟩,zaf kl.c ⟨2, -1,0⟩ 0 (zjw s kl.c 2 (-1) 0)],0):=by
      unfold Kl.invoke Kl.rests Ch.op
      rw [hj]
      rw [if_neg (by decide),if_neg (by dsimp only;omega),if_pos (by simp [ziu,zdl,spB,wi])]
     unfold Wd.ask
     rw [e3]
     refine ⟨rfl,hI.upd hcl (v:=some { kl with op:=⟨2, -1,0⟩,told:=false,steps:=0 }) (fun y=> ?_) (fun y=> hkl _ _ _ _ _) h2 ⟨fun _=> ⟨_,rfl,hj⟩,fun e=> absurd hx e⟩ hI.lg⟩
     show d.stat y=_
     by_cases e:y=c
     ·rw [if_pos e,e,h1]
     ·rw [if_neg e]
    ·have hk4:k=4:=by omega
     subst hk4
     rw [if_neg (by decide)]
     have e2:zfy (st.getD c 0) 4=2:=by unfold zfy;rw [if_neg (fun e=> absurd e.1 (by decide)),if_pos ⟨rfl,hx⟩]
     rw [e2]
     unfold Wd.kill
     refine ⟨rfl,hI.upd hcl (v:=none) (fun y=> ?_) (fun y=> hkl _ _ _ _ _) (.inr (.inr rfl)) ⟨fun e=> absurd e (by decide),fun _=> rfl⟩ hI.lg⟩
     rw [hsp]
     rfl
  ·have e2:zfy (st.getD c 0) k=st.getD c 0:=by unfold zfy;rw [if_neg (fun e=> absurd e.1 hk1),if_neg (fun e=> hx e.2)]
   dsimp only
   rw [h4 hx,e2,if_neg hx]
   refine ⟨?_,same⟩
   show (2:Int)=if k=3 then 2 else 2
   split <;> rfl
theorem ygh {s:Sh} (hm:mayB s.p s.c s.m=true):StaI s (zde s) (List.replicate s.c.toNat 0):=by
 have hb:=zar.1 hm
 refine ⟨by simp,fun c hc=> ?_,fun c hc=> ?_,rfl⟩
 ·have e:(List.replicate s.c.toNat (0:Int)).getD c 0=0:=by rw [List.getD_eq_getElem?_getD,List.getElem?_replicate];split <;> rfl
  rw [e]
  refine ⟨?_,.inl rfl⟩
  unfold Wd.stat zde zgj Mem.get
  dsimp only
  rw [List.getD_eq_getElem?_getD,List.getElem?_replicate]
  split <;> decide +kernel
 ·have e:(List.replicate s.c.toNat (0:Int)).getD c 0=0:=by rw [List.getD_eq_getElem?_getD,List.getElem?_replicate];split <;> rfl
  rw [e]
  refine ⟨fun e=> absurd e (by decide),fun _=> ?_⟩
  unfold Wd.kl zde
  dsimp only
  rw [List.getD_eq_getElem?_getD,List.getElem?_replicate]
  split
  ·split <;> rfl
  ·rfl
def staL (st:List Int) (n:Nat):List Int:=((List.range n).filter fun c=> st.getD c 0==1).map fun c:Nat=> (c:Int)
theorem yfc (st:List Int) (n:Nat):staL st (n + 1)=staL st n ++ if st.getD n 0=1 then [(n:Int)] else []:=by
 unfold staL
 rw [List.range_succ,List.filter_append,List.map_append]
 congr 1
 by_cases h:st.getD n 0=1
 ·rw [if_pos h,List.filter_cons_of_pos (by simpa using h)];rfl
 ·rw [if_neg h,List.filter_cons_of_neg (by simpa using h)];rfl
theorem ygj {s:Sh} {d:Wd} {n:Nat} {st:List Int} (ho:wdOk s d n) (hI:StaI s d st):
  whoL (fun _=> true) d.l d.l.length=staL st s.c.toNat/\whoL (fun k=> !k.rests) d.l d.l.length= []:=by
 have hkl:∀ c:Nat,d.kl (c:Int)=d.l.getD c none:=fun c=> by unfold Wd.kl;rw [if_pos (by omega)];rfl
 have hl:=hI.len
 rw [ho.len]
 constructor
 ·unfold whoL staL
  congr 1
  refine List.filter_congr fun c hc=> ?_
  have hc':c < st.length:=by rw [hl];exact List.mem_range.1 hc
  obtain ⟨h3,h4⟩:=hI.kl c hc'
  rw [hkl] at h3 h4
  unfold whoB
  by_cases h:st.getD c 0=1
  ·obtain ⟨k,e,_⟩:=h3 h
   rw [e,h];rfl
  ·rw [h4 h]
   simpa using h
 ·unfold whoL
  rw [List.filter_eq_nil_iff.2 (fun c hc=> ?_)]
  ·rfl
  ·have hc':c < st.length:=by rw [hl];exact List.mem_range.1 hc
   obtain ⟨h3,h4⟩:=hI.kl c hc'
   rw [hkl] at h3 h4
   unfold whoB
   by_cases h:st.getD c 0=1
   ·obtain ⟨k,e,e2⟩:=h3 h
    rw [e]
    simp [Kl.rests,e2]
   ·rw [h4 h];simp
theorem yfp (st:List Int) (n:Nat):(staL st n).length<=n:=by
 unfold staL
 rw [List.length_map]
 exact Nat.le_trans (List.length_filter_le _ _) (by simp)
end Go.Proofs.YtampacmmhhilaaaGreat
