/- Who is ready, behind each choice: plain. -/
import Derived.Test.YtampacmmhhilaaaGreatBq41

import Derived.Test.YtampacmmhhilaaaGreatZStpPR

import Derived.Test.YtampacmmhhilaaaGreatZWWhoR

set_option linter.all false
namespace Go.Proofs.YtampacmmhhilaaaGreat

def yg5 (s:Sh) (d d':Wd):Prop:=d'.tr=d.tr\/∃ l e,d'.tr=l ++ [e]/\d.tr.length<=l.length/\0<=e.c/\e.c < s.c/\(e.k=5->∀ k,d'.kl e.c=some k->k.job=none)
theorem yg9 {s:Sh} {d:Wd} {n:Nat} (ho:wdOk s d n) (x:Ch):yg5 s d (d.act s x).1:=by
 unfold Wd.act
 split
 ·exact .inl rfl
 ·rename_i hb
  unfold Ch.bad at hb
  have hc:0<=x.client/\x.client < s.c:=by omega
  have hi:x.client.toNat < d.l.length:=by rw [ho.len];omega
  split
  ·unfold Wd.begin
   split
   ·exact .inr ⟨d.tr,zcj x.client,rfl,Nat.le_refl _,hc.1,hc.2,fun e=> absurd e (show ¬ (0:Int)=5 by decide)⟩
   ·exact .inl rfl
  ·split
   ·exact .inl rfl
   ·rename_i k hk
    obtain ⟨hok,hkc,_⟩:=ho.kl _ k hk
    split
    ·unfold Wd.step
     rcases hj:k.job with _ | j
     ·have e:k.step s d.m=(k,d.m, [],2):=by unfold Kl.step;rw [hj]
      rw [e]
      exact .inl (List.append_nil _)
     ·have e:k.step s d.m=(k.after (j.step s k.c d.m).1,(j.step s k.c d.m).2,k.tells (j.step s k.c d.m).1,0):=by unfold Kl.step;rw [hj]
      rw [e]
      dsimp only
      generalize (j.step s k.c d.m).1=j'
      by_cases hd:j'.done=true
      ·obtain ⟨l,hl1,hl2⟩:∃ l,d.tr ++ k.tells j'=l ++ [zaf k.c k.op (zb1 j'.took) j'.err]/\d.tr.length<=l.length:=by
        refine ⟨_,by unfold Kl.tells;rw [if_pos hd,<- List.append_assoc,<- List.append_assoc],?_⟩
        simp only [List.length_append]
        omega
       refine .inr ⟨l,zaf k.c k.op (zb1 j'.took) j'.err,hl1,hl2,?_,?_,fun _ k' hk'=> ?_⟩
       ·show 0<=k.c
        omega
       ·show k.c < s.c
        omega
       ·have h1:(zaf k.c k.op (zb1 j'.took) j'.err).c=x.client:=hkc
        rw [h1,d.zdk hc.1 hi,if_pos rfl] at hk'
        injection hk' with hk'
        rw [<- hk']
        unfold Kl.after
        rw [if_pos hd]
      ·by_cases hg:j'.gave=true/\k.told=false
       ·refine .inr ⟨d.tr,zbw k.c k.op.a,?_,Nat.le_refl _,?_,?_,fun e=> absurd e (show ¬ (4:Int)=5 by decide)⟩
        ·show d.tr ++ k.tells j'=_
         unfold Kl.tells
         rw [if_neg hd,if_pos hg]
         simp
        ·show 0<=k.c
         omega
        ·show k.c < s.c
         omega
       ·refine .inl ?_
        show d.tr ++ k.tells j'=_
        unfold Kl.tells
        rw [if_neg hd,if_neg hg]
        simp
    ·split
     ·unfold Wd.ask
      dsimp only
      unfold Kl.invoke
      split
      ·exact .inl (List.append_nil _)
      ·rename_i hr
       have hjn:k.job=none:=by
        unfold Kl.rests at hr
        rcases hj:k.job with _ | j
        ·rfl
        ·rw [hj] at hr;simp at hr
       split
       ·exact .inl (List.append_nil _)
       ·split
        ·refine .inr ⟨d.tr ++ [zbh k.c x.op],zaf k.c x.op 0 (zjw s k.c x.op.k x.op.a x.op.n),by simp,by simp,?_,?_,fun _ k' hk'=> ?_⟩
         ·show 0<=k.c
          omega
         ·show k.c < s.c
          omega
         ·have h1:(zaf k.c x.op 0 (zjw s k.c x.op.k x.op.a x.op.n)).c=x.client:=hkc
          rw [h1,d.zdk hc.1 hi,if_pos rfl] at hk'
          injection hk' with hk'
          rw [<- hk']
          exact hjn
        ·refine .inr ⟨d.tr,zbh k.c x.op,rfl,Nat.le_refl _,?_,?_,fun e=> absurd e (show ¬ (2:Int)=5 by decide)⟩
         ·show 0<=k.c
          omega
         ·show k.c < s.c
          omega
     ·exact .inr ⟨d.tr,zdw x.client,rfl,Nat.le_refl _,hc.1,hc.2,fun e=> absurd e (show ¬ (1:Int)=5 by decide)⟩
theorem wi_all {s:Sh} (hm:mayB s.p s.c s.m=true) (l:List Ch):∃ σ,WI s σ ((zde s).acts s l):=by
 suffices ∀ (l:List Ch) (d:Wd) (n:Nat) (σ:Ab),WI s σ d->wdOk s d n->∃ σ',WI s σ' (d.acts s l) from this l _ 0 _ (ydc hm) (zl9 hm)
 intro l
 induction l with
 | nil=> exact fun d n σ h _=> ⟨σ,h⟩
 | cons x l ih=>
  intro d n σ h hd
  obtain ⟨σ',h'⟩:=ye5 h hd x
  exact ih _ _ _ h' (zeo hd x)
theorem yg7 {s:Sh} {σ:Ab} {d:Wd} {n:Nat} (h:WI s σ d) (ho:wdOk s d n) {c:Int} {k:Kl} (hk:d.kl c=some k):zrl s d c=1:=by
 obtain ⟨_,_,hc⟩:=ho.kl _ _ hk
 have hm:=h.rep.may
 have hix:=(ixs h.rep.fi).2.2.2 _ hc
 have h4:=h.rep.st _ hc
 rw [hix] at h4
 have h5:=(TW.read hm (h.gi.tf c)).1
 unfold zrl
 rw [hix,if_pos hc.1]
 unfold Wd.stat
 rw [h4,h5,(h.li c k hk).1]
 rfl
def rdyQ (d:Wd) (c:Int):Bool:=match d.kl c with
 | some k=> !k.rests
 | none=> false
theorem yg4 (d:Wd):whoL (fun k=> !k.rests) d.l d.l.length=(whoL (fun _=> true) d.l d.l.length).filter (rdyQ d):=by
 have hkl:∀ c:Nat,d.kl (c:Int)=d.l.getD c none:=fun c=> by unfold Wd.kl;rw [if_pos (by omega)];rfl
 unfold whoL
 rw [List.filter_map,List.filter_filter]
 congr 1
 refine List.filter_congr fun c _=> ?_
 simp only [Function.comp]
 unfold rdyQ whoB
 rw [hkl]
 cases d.l.getD c none with
 | none=> rfl
 | some k=> simp
theorem yg8 (d:Wd) (j:Nat) (h:j < (whoL (fun _=> true) d.l d.l.length).length):∃ k,d.kl (whoL (fun _=> true) d.l d.l.length)[j]=some k/\0<=(whoL (fun _=> true) d.l d.l.length)[j]/\(whoL (fun _=> true) d.l d.l.length)[j].toNat < d.l.length:=by
 have hm:=List.getElem_mem h
 generalize (whoL (fun _=> true) d.l d.l.length)[j]=c at *
 unfold whoL at hm
 obtain ⟨a,ha,rfl⟩:=List.mem_map.1 hm
 obtain ⟨h1,h2⟩:=List.mem_filter.1 ha
 have h3:=List.mem_range.1 h1
 unfold whoB at h2
 have e:d.kl (a:Int)=d.l.getD a none:=by unfold Wd.kl;rw [if_pos (by omega)];rfl
 rw [e]
 cases hx:d.l.getD a none with
 | none=> rw [hx] at h2;cases h2
 | some k=> exact ⟨k,rfl,by omega,by omega⟩
theorem yg3 (L:List Int) (Q:Int->Bool) (j:Nat) (h:j < L.length):
  ((L.take (j + 1)).filter Q).length=((L.take j).filter Q).length + (if Q L[j]=true then 1 else 0)/\(Q L[j]=true->∃ hk:((L.take j).filter Q).length < (L.filter Q).length,(L.filter Q)[((L.take j).filter Q).length]=L[j]):=by
 have e:L.take (j + 1)=L.take j ++ [L[j]]:=(List.take_append_getElem h).symm
 have hsplit:L.filter Q=(L.take j).filter Q ++ ((L.drop j).filter Q):=by rw [<- List.filter_append,List.take_append_drop]
 constructor
 ·rw [e,List.filter_append,List.length_append]
  by_cases hq:Q L[j]=true
  ·rw [if_pos hq];simp [hq]
  ·rw [if_neg hq];simp [hq]
 ·intro hq
  have hd:L.drop j=L[j]::L.drop (j + 1):=List.drop_eq_getElem_cons h
  rw [hd,List.filter_cons_of_pos hq] at hsplit
  refine ⟨by rw [hsplit];simp,?_⟩
  simp only [hsplit]
  rw [List.getElem_append_right lr]
  simp
end Go.Proofs.YtampacmmhhilaaaGreat
