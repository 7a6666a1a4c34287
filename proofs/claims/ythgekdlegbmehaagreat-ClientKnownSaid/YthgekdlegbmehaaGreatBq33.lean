/- Texts bound together: CliT GrdW CliU CliV CliW. -/
import Derived.Defers

import Derived.Recover

import Derived.Test.YthgekdlegbmehaaGreatBq29

import Derived.Test.YthgekdlegbmehaaGreatBq30

import Derived.Test.YthgekdlegbmehaaGreatBq31

import Derived.Test.YthgekdlegbmehaaGreatBq32

set_option linter.all false
set_option maxHeartbeats 4000000
set_option maxRecDepth 100000
namespace Go.Proofs.YthgekdlegbmehaaGreat

section

open Go.RowKit

def JbO (F:Nat->Prop) (w:World) (v:Value) (s:Sh) (cl:Int):Jb->Prop
 | .mal r c=> ∃ q,v= .iface 80 (.pointer (some ⟨q,0,.none⟩))/\MalO F w q s cl r c
 | .fre f=> ∃ q,v= .iface 89 (.agg #[.pointer (some ⟨q,0,.none⟩)])/\FeO F w q s f
 | .aga t=> ∃ q,v= .iface 93 (.agg #[.pointer (some ⟨q,0,.none⟩)])/\RrO F w q s t
 | .hei a=> ∃ q,v= .iface 97 (.agg #[.pointer (some ⟨q,0,.none⟩)])/\AdO F w q s a
theorem JbO.only {F G:Nat->Prop} {w w':World} {v:Value} {s:Sh} {cl:Int} {j:Jb} (h:JbO F w v s cl j) (ho:Only G w w') (hd:∀ k,F k->¬ G k):JbO F w' v s cl j:=by
 cases j with
 | mal r c=> obtain ⟨q,e,h⟩:=h;exact ⟨q,e,h.only ho hd⟩
 | fre f=> obtain ⟨q,e,h⟩:=h;exact ⟨q,e,h.only ho hd⟩
 | aga t=> obtain ⟨q,e,h⟩:=h;exact ⟨q,e,h.only ho hd⟩
 | hei a=> obtain ⟨q,e,h⟩:=h;exact ⟨q,e,h.only ho hd⟩
theorem JbO.below {F:Nat->Prop} {w w':World} {v:Value} {s:Sh} {cl:Int} {j:Jb} (h:JbO F w v s cl j) (hb:Below w.heap.size w w'):JbO F w' v s cl j:=h.only (Only.of_below (F:=fun _=> False) hb) (fun _ _ e=> e)
theorem yad {s:Sh} {cl:Int} {b:Blk} (h:b.fits s cl=true) (hp:s.p<=64) (hz:b.large=false->b.pages=0):(0<=b.page/\b.page<=64)/\(b.large=false->0<=b.slot/\b.slot<=16)/\(0<=b.pages/\b.pages<=64):=by
 have h1:=zdi.1 h
 refine ⟨by omega,fun hl=> ?_,?_⟩
 ·have h2:=h1.2.2.2.2 hl
  have:=zb4 (by omega:0 < zah b.k)
  omega
 ·cases hl:b.large
  ·rw [hz hl];omega
  ·have:=h1.2.2.2.1 hl;omega
theorem zrh {t:Rs} {b:Blk} (hg:t.got=some b):b.large=false->b.pages=0:=by
 intro hl
 obtain ⟨k,pg,sk,rn⟩:=t
 rcases sk with _ | x
 ·rcases rn with _ | y
  ·cases hg
  ·unfold Rs.got at hg
   dsimp only at hg
   split at hg
   ·injection hg with hg;subst hg;cases hl
   ·cases hg
 ·unfold Rs.got at hg
  dsimp only at hg
  split at hg
  ·injection hg with hg;subst hg;rfl
  ·cases hg
theorem z3z {s:Sh} {cl:Int} {j:Jb} {b:Blk} (h:jbIs s cl j) (hm:mayB s.p s.c s.m=true) (hc:0<=cl/\cl < s.c) (ht:j.took=some b):b.fits s cl=true/\(b.large=false->b.pages=0):=by
 cases j with
 | mal r c=>
  have ht':(if zck c=true then r.got else none)=some b:=ht
  split at ht'
  ·exact ⟨(zlb h.1 hm hc ht').1,zrh ht'⟩
  ·cases ht'
 | fre f=> cases ht
 | aga t=>
  have ht':(if t.done=true/\t.err=0 then (match t.res with | some x=> x.got | none=> none) else none)=some b:=ht
  split at ht'
  ·rcases hr:t.res with _ | r
   ·rw [hr] at ht';cases ht'
   ·rw [hr] at ht'
    exact ⟨(zlb (h.res r hr) hm hc ht').1,zrh ht'⟩
  ·cases ht'
 | hei a=> cases ht
theorem z4j {k:Kl} {t:Bool} (h:k.told=t):({ k with told:=t }:Kl)=k:=by cases k;cases h;rfl
theorem z6y {q sp:Nat} {G:Nat->Prop} {s:Sh} {k:Kl} {jv sl:Value} {most:Int} {fs:List Fr} {j:Jb} {w:World} (h:zaa w q (zat s k false jv (.pointer (some ⟨sp,0,.none⟩))) 55) (hs:SK 0 w sp sl most fs) (hqs:¬ foot sp sl q) (hJ:JbO G w jv s k.c j) (hG:∀ b,G b->b≠q/\¬ foot sp sl b) (hGl:∀ b,G b->b < w.heap.size)
  (hj:jbIs s k.c j) (hm:mayB s.p s.c s.m=true) (hc:0<=k.c/\k.c < s.c):
  Calls Tryz.prog 25 #[.pointer (some ⟨q,0,.none⟩)] w fun r w'=> zbp q sp s { k with told:=k.told || j.gave } j.done jv sl most fs (k.tells j) w w' r:=by
 have hb:=zar.1 hm
 have hbd:=fun b ht=> yad (z3z hj hm hc (b:=b) ht).1 (by omega) (z3z hj hm hc ht).2
 obtain ⟨told,htold⟩:∃ t,t=k.told:=⟨_,rfl⟩
 cases j with
 | fre f=>
  obtain ⟨q1,rfl,hJ⟩:=hJ
  cases hg:f.gave
  ·have e1:k.tells (.fre f)=if f.done=true then [zaf k.c k.op 0 (Jb.fre f).err] else []:=by
    unfold Kl.tells;cases hd:f.done <;> simp [Jb.gave,Jb.done,Jb.took,hg,hd,zb1]
   have e2:({ k with told:=k.told || (Jb.fre f).gave }:Kl)= { k with told:=k.told }:=by simp [Jb.gave,hg]
   rw [e1,e2]
   cases hd:f.done
   ·have e3:(Jb.fre f).done=false:=hd
    rw [e3]
    exact zvf f h hs hqs hJ hG hGl hg hd
   ·have e3:(Jb.fre f).done=true:=hd
    rw [e3]
    exact zts f h hs hqs hJ hG hGl hg hd
  ·cases ht:k.told
   ·have e1:k.tells (.fre f)=if f.done=true then [zbw k.c k.op.a,zaf k.c k.op 0 (Jb.fre f).err] else [zbw k.c k.op.a]:=by
     unfold Kl.tells;cases hd:f.done <;> simp [Jb.gave,Jb.done,Jb.took,hg,hd,ht,zb1]
    have e2:({ k with told:=false || (Jb.fre f).gave }:Kl)= { k with told:=true }:=by simp [Jb.gave,hg]
    rw [e1,e2]
    cases hd:f.done
    ·have e3:(Jb.fre f).done=false:=hd
     rw [e3]
     exact zul f h hs hqs hJ hG hGl hg ht hd
    ·have e3:(Jb.fre f).done=true:=hd
     rw [e3]
     exact zvo f h hs hqs hJ hG hGl hg ht hd
   ·have e1:k.tells (.fre f)=if f.done=true then [zaf k.c k.op 0 (Jb.fre f).err] else []:=by
     unfold Kl.tells;cases hd:f.done <;> simp [Jb.gave,Jb.done,Jb.took,ht,hd,zb1]
    have e2:({ k with told:=true || (Jb.fre f).gave }:Kl)=k:=by rw [Bool.true_or];exact z4j ht
    rw [e1,e2]
    cases hd:f.done
    ·have e3:(Jb.fre f).done=false:=hd
     rw [e3]
     exact zuj f h hs hqs hJ hG hGl hg ht hd
    ·have e3:(Jb.fre f).done=true:=hd
     rw [e3]
     exact zu9 f h hs hqs hJ hG hGl hg ht hd
 | hei a=>
  obtain ⟨q1,rfl,hJ⟩:=hJ
  have e1:k.tells (.hei a)=if a.done=true then [zaf k.c k.op 0 a.err] else []:=by
   unfold Kl.tells;cases hd:a.done <;> simp [Jb.gave,Jb.done,Jb.took,Jb.err,hd,zb1]
  have e2:({ k with told:=k.told || (Jb.hei a).gave }:Kl)= { k with told:=k.told }:=by simp [Jb.gave]
  rw [e1,e2]
  cases hd:a.done
  ·have e3:(Jb.hei a).done=false:=hd
   rw [e3]
   exact zuk a h hs hqs hJ hG hGl hd
  ·have e3:(Jb.hei a).done=true:=hd
   rw [e3]
   exact zuu a h hs hqs hJ hG hGl hd
 | mal r c=>
  obtain ⟨q1,rfl,hJ⟩:=hJ
  have e2:({ k with told:=k.told || (Jb.mal r c).gave }:Kl)= { k with told:=k.told }:=by simp [Jb.gave]
  rw [e2]
  cases hd:(Jb.mal r c).done
  ·have e1:k.tells (.mal r c)= []:=by unfold Kl.tells;simp [Jb.gave,hd]
   rw [e1]
   exact zuf r c h hs hqs hJ hG hGl hd
  ·rcases hk:(Jb.mal r c).took with _ | b
   ·have e1:k.tells (.mal r c)= [zaf k.c k.op 0 (Jb.mal r c).err]:=by unfold Kl.tells;simp [Jb.gave,hd,hk,zb1]
    rw [e1]
    exact zvr r c h hs hqs hJ hG hGl hd hk
   ·have e1:k.tells (.mal r c)= [zb5 k.c b.at' b.len,zaf k.c k.op b.at' (Jb.mal r c).err]:=by unfold Kl.tells;simp [Jb.gave,hd,hk,zb1]
    rw [e1]
    have hb:=hbd b hk
    exact zt3 r c h hs hqs hJ hG hGl hd b hk hb.1 hb.2.1 hb.2.2
 | aga t=>
  obtain ⟨q1,rfl,hJ⟩:=hJ
  have hfin:t.done=true->t.err=0->∃ r,t.res=some r:=fun h1 h2=> by obtain ⟨r,b,f,e,_⟩:=hj.fin h1 h2;exact ⟨r,e⟩
  cases hg:(Jb.aga t).gave
  ·have e2:({ k with told:=k.told || false }:Kl)= { k with told:=k.told }:=by simp
   rw [e2]
   cases hd:t.done
   ·have e3:(Jb.aga t).done=false:=hd
    have e1:k.tells (.aga t)= []:=by unfold Kl.tells;simp [hg,e3]
    rw [e1,e3]
    exact ztu t h hs hqs hJ hG hGl hg hd
   ·have e3:(Jb.aga t).done=true:=hd
    rcases hk:(Jb.aga t).took with _ | b
    ·have e1:k.tells (.aga t)= [zaf k.c k.op 0 (Jb.aga t).err]:=by unfold Kl.tells;simp [hg,e3,hk,zb1]
     rw [e1,e3]
     exact zvg t h hs hqs hJ hG hGl hg hd hk hfin
    ·have e1:k.tells (.aga t)= [zb5 k.c b.at' b.len,zaf k.c k.op b.at' (Jb.aga t).err]:=by unfold Kl.tells;simp [hg,e3,hk,zb1]
     rw [e1,e3]
     have hb:=hbd b hk
     exact zun t h hs hqs hJ hG hGl hg hd b hk hb.1 hb.2.1 hb.2.2 hfin
  ·cases ht:k.told
   ·have e2:({ k with told:=false || true }:Kl)= { k with told:=true }:=by simp
    rw [e2]
    cases hd:t.done
    ·have e3:(Jb.aga t).done=false:=hd
     have e1:k.tells (.aga t)= [zbw k.c k.op.a]:=by unfold Kl.tells;simp [hg,e3,ht]
     rw [e1,e3]
     exact zuo t h hs hqs hJ hG hGl hg ht hd
    ·have e3:(Jb.aga t).done=true:=hd
     rcases hk:(Jb.aga t).took with _ | b
     ·have e1:k.tells (.aga t)= [zbw k.c k.op.a,zaf k.c k.op 0 (Jb.aga t).err]:=by unfold Kl.tells;simp [hg,e3,hk,zb1,ht]
      rw [e1,e3]
      exact zvy t h hs hqs hJ hG hGl hg ht hd hk hfin
     ·have e1:k.tells (.aga t)= [zbw k.c k.op.a,zb5 k.c b.at' b.len,zaf k.c k.op b.at' (Jb.aga t).err]:=by unfold Kl.tells;simp [hg,e3,hk,zb1,ht]
      rw [e1,e3]
      have hb:=hbd b hk
      exact zvj t h hs hqs hJ hG hGl hg ht hd b hk hb.1 hb.2.1 hb.2.2 hfin
   ·have e2:({ k with told:=true || true }:Kl)=k:=by rw [Bool.true_or];exact z4j ht
    rw [e2]
    cases hd:t.done
    ·have e3:(Jb.aga t).done=false:=hd
     have e1:k.tells (.aga t)= []:=by unfold Kl.tells;simp [e3,ht]
     rw [e1,e3]
     exact zus t h hs hqs hJ hG hGl hg ht hd
    ·have e3:(Jb.aga t).done=true:=hd
     rcases hk:(Jb.aga t).took with _ | b
     ·have e1:k.tells (.aga t)= [zaf k.c k.op 0 (Jb.aga t).err]:=by unfold Kl.tells;simp [e3,hk,zb1,ht]
      rw [e1,e3]
      exact zvt t h hs hqs hJ hG hGl hg ht hd hk hfin
     ·have e1:k.tells (.aga t)= [zb5 k.c b.at' b.len,zaf k.c k.op b.at' (Jb.aga t).err]:=by unfold Kl.tells;simp [e3,hk,zb1,ht]
      rw [e1,e3]
      have hb:=hbd b hk
      exact zu8 t h hs hqs hJ hG hGl hg ht hd b hk hb.1 hb.2.1 hb.2.2 hfin
end

section

open Go.RowKit

attribute [local go_sem ↓] Go.wp_at_zero Go.wp_at_succ

theorem zzf (p:Addr) (w:World):
  CallsD Tryz.prog 42 #[.pointer (some p)] .returning w fun e u' w'=> e= .returned (.tuple #[])/\u'= .returning/\w'=w:=by
 refine callsD_of_wpS Tryz.func42 rfl fun c₀ cs hu=> ?_
 apply wpS_seq
 apply wpS_region
 simp [wpOpsS,go_sem,recoverD,hu,Tryz.ntmps42,Exit.thenS]
 refine wpS_cond (t:=false) (by simp [Act.eval,Array.replicate]) ?_
 simp only [Bool.false_eq_true,if_false]
 refine wpS_of_wp (wp_skip ?_)
 cases c₀
 simp_all [bodyPostS,results,Tryz.results42]
theorem zyf (B1 B2:Nat) (w:World) {Q:World->Prop}
  (h:Calls Tryz.prog 23 #[.pointer (some ⟨B1,0,.none⟩),.pointer (some ⟨B2,0,.none⟩)] (w.alloc (.cells #[.bool false] 4)) fun e w'=> e= .returned (.tuple #[])/\Q w'/\zaa w' w.heap.size #[.bool false] 4):
  Calls Tryz.prog 22 #[.func (.func 23) #[] #[.pointer (some ⟨B1,0,.none⟩),.pointer (some ⟨B2,0,.none⟩)]] w fun e w'=> e= .returned (.bool true)/\∃ Y,Q Y/\w'=Y.setCell ⟨w.heap.size,0,.none⟩ (.bool true):=by
 have hmf:∀ (fn:Fn) (first cap:Array Value) (w:World),(Instr.makeFunc fn first cap).run Tryz.prog w= .ok (.func fn first cap) w:=fun _ _ _ _=> rfl
 replace h:=hd' h
 go_enter_defers Tryz.func22,Tryz.ntmps22
 have heq:∀ W:World,(binOp .eql 1 (.func (.func 23) #[] #[.pointer (some ⟨B1,0,.none⟩),.pointer (some ⟨B2,0,.none⟩)]) .nilFunc).run Tryz.prog W= .ok (.bool false) W:=fun W=> by kernel_rfl
 go_upto_region 1 with fail
 generalize hX:w.alloc (.cells #[.bool false] 4)=X at *
 obtain ⟨E,hE,hE'⟩:=hidv w.heap.size
 simp only [<- hE'] at h ⊢
 clear hE' hX
 go_wp2_with (first | (go_at_call 23;(with_reducible refine h.out.mono ?_);rintro r w1 ⟨rfl,hQ,hr⟩;have c0:=ce (.bool false) (hr.cell 0);have fz:=zax hr) | fail)
 refine leaves_cons (f:=42) (args:= #[.pointer (some ⟨E,0,.none⟩)]) (by simp) (by simp [go_sem]) ?_
 refine (zzf ⟨E,0,.none⟩ _).mono ?_
 rintro e u' w'' ⟨rfl,rfl,rfl⟩
 have hr2:=hr.set 0 (.bool true)
 have c1:=ce (.bool true) (hr2.cell 0)
 rw [<- hE.out]
 generalize hZ:w1.setCell ⟨E,0,.none⟩ (.bool true)=Z at *
 have hfin:∃ Y,Q Y/\Z=Y.setCell ⟨E,0,.none⟩ (.bool true):=⟨w1,hQ,hZ.symm⟩
 clear hZ
 simp [Leaves,settle,results,Tryz.results22,go_sem,c1]
 exact hfin
theorem z7m {s:Sh} {cl:Int} {r:Rs} {c:Option Cm} (h:jbIs s cl (.mal r c)) (hd:(Jb.mal r c).done=false):r.done=false\/(r.done=true/\c=none/\∃ b,r.got=some b):=by
 have hd9:(r.done && (!r.got.isSome || zck c))=false:=hd
 cases hrd:r.done
 ·exact .inl rfl
 ·rw [hrd,Bool.true_and,Bool.or_eq_false_iff] at hd9
  refine .inr ⟨rfl,?_,?_⟩
  ·rcases hc:c with _ | x
   ·rfl
   ·have:=h.2 x hc
    have e2:=hd9.2
    rw [hc] at e2
    have e2:x.done=false:=e2
    rw [this.2.1] at e2;cases e2
  ·rcases hg:r.got with _ | b
   ·have e1:=hd9.1;rw [hg] at e1;cases e1
   ·exact ⟨b,rfl⟩
structure zhl (G:Nat->Prop) (p b:Nat) (w w':World) (jv:Value) (s:Sh) (cl:Int) (j:Jb) (m:Mem):Prop where
 wds:zaq w' p b (j.step s cl m).2
 only:Only (fun k=> G k\/k=p\/k=b) w w'
 job:JbO (grow G w w') w' jv s cl (j.step s cl m).1
theorem z6j {q q1 p B1 B2:Nat} {w:World} {Q:Ending->World->Prop} (h1:w.cell? ⟨B1,0,.none⟩=some (.pointer (some ⟨q,0,.none⟩))) (h2:w.cell? ⟨B2,0,.none⟩=some (.pointer (some ⟨p,0,.none⟩))) (l1:B1 < w.heap.size) (l2:B2 < w.heap.size) (lq:q < w.heap.size)
  (h8:w.cell? ⟨q,8,.none⟩=some (.iface 80 (.pointer (some ⟨q1,0,.none⟩)))) (hst:∀ Y,Below w.heap.size w Y->Calls Tryz.prog 110 #[.pointer (some ⟨q1,0,.none⟩),.pointer (some ⟨p,0,.none⟩)] Y fun e w'=> e= .returned (.tuple #[])/\Q e w'):
  Calls Tryz.prog 23 #[.pointer (some ⟨B1,0,.none⟩),.pointer (some ⟨B2,0,.none⟩)] w fun e w'=> e= .returned (.tuple #[])/\Q e w':=by
 replace hst:=hd' hst
 go_enter Tryz.func23,Tryz.ntmps23
 go_wp2_with fail
 refine zad 5 (by kernel_rfl) (by kernel_rfl) ?_
 dsimp only [List.take,List.drop]
 repeat (go_big_quiet_step (fail))
 refine wpQuiet_nil ?_
 rintro _ ⟨e',rfl⟩
 have hbe:=e'.below
 generalize e'.w=Z at *
 change wpList _ _ _ _ _ Z
 go_wp2_with (first | (go_at_call 110;(with_reducible refine (hst.out _ hbe).mono ?_);rintro r w1 ⟨rfl,hQ⟩) | fail)
 go_returns
 exact ⟨rfl,hQ⟩
theorem z4w {q q1 p B1 B2:Nat} {w:World} {Q:Ending->World->Prop} (h1:w.cell? ⟨B1,0,.none⟩=some (.pointer (some ⟨q,0,.none⟩))) (h2:w.cell? ⟨B2,0,.none⟩=some (.pointer (some ⟨p,0,.none⟩))) (l1:B1 < w.heap.size) (l2:B2 < w.heap.size) (lq:q < w.heap.size)
  (h8:w.cell? ⟨q,8,.none⟩=some (.iface 89 (.agg #[.pointer (some ⟨q1,0,.none⟩)]))) (hst:∀ Y,Below w.heap.size w Y->Calls Tryz.prog 140 #[.pointer (some ⟨q1,0,.none⟩),.pointer (some ⟨p,0,.none⟩)] Y fun e w'=> e= .returned (.tuple #[])/\Q e w'):
  Calls Tryz.prog 23 #[.pointer (some ⟨B1,0,.none⟩),.pointer (some ⟨B2,0,.none⟩)] w fun e w'=> e= .returned (.tuple #[])/\Q e w':=by
 replace hst:=hd' hst
 go_enter Tryz.func23,Tryz.ntmps23
 go_wp2_with fail
 refine zad 5 (by kernel_rfl) (by kernel_rfl) ?_
 dsimp only [List.take,List.drop]
 repeat (go_big_quiet_step (fail))
 refine wpQuiet_nil ?_
 rintro _ ⟨e',rfl⟩
 have hbe:=e'.below
 generalize e'.w=Z at *
 change wpList _ _ _ _ _ Z
 go_wp2_with (first | (go_at_call 140;(with_reducible refine (hst.out _ hbe).mono ?_);rintro r w1 ⟨rfl,hQ⟩) | fail)
 go_returns
 exact ⟨rfl,hQ⟩
theorem z5h {q q1 p B1 B2:Nat} {w:World} {Q:Ending->World->Prop} (h1:w.cell? ⟨B1,0,.none⟩=some (.pointer (some ⟨q,0,.none⟩))) (h2:w.cell? ⟨B2,0,.none⟩=some (.pointer (some ⟨p,0,.none⟩))) (l1:B1 < w.heap.size) (l2:B2 < w.heap.size) (lq:q < w.heap.size)
  (h8:w.cell? ⟨q,8,.none⟩=some (.iface 93 (.agg #[.pointer (some ⟨q1,0,.none⟩)]))) (hst:∀ Y,Below w.heap.size w Y->Calls Tryz.prog 155 #[.pointer (some ⟨q1,0,.none⟩),.pointer (some ⟨p,0,.none⟩)] Y fun e w'=> e= .returned (.tuple #[])/\Q e w'):
  Calls Tryz.prog 23 #[.pointer (some ⟨B1,0,.none⟩),.pointer (some ⟨B2,0,.none⟩)] w fun e w'=> e= .returned (.tuple #[])/\Q e w':=by
 replace hst:=hd' hst
 go_enter Tryz.func23,Tryz.ntmps23
 go_wp2_with fail
 refine zad 5 (by kernel_rfl) (by kernel_rfl) ?_
 dsimp only [List.take,List.drop]
 repeat (go_big_quiet_step (fail))
 refine wpQuiet_nil ?_
 rintro _ ⟨e',rfl⟩
 have hbe:=e'.below
 generalize e'.w=Z at *
 change wpList _ _ _ _ _ Z
 go_wp2_with (first | (go_at_call 155;(with_reducible refine (hst.out _ hbe).mono ?_);rintro r w1 ⟨rfl,hQ⟩) | fail)
 go_returns
 exact ⟨rfl,hQ⟩
theorem z7v {q q1 p B1 B2:Nat} {w:World} {Q:Ending->World->Prop} (h1:w.cell? ⟨B1,0,.none⟩=some (.pointer (some ⟨q,0,.none⟩))) (h2:w.cell? ⟨B2,0,.none⟩=some (.pointer (some ⟨p,0,.none⟩))) (l1:B1 < w.heap.size) (l2:B2 < w.heap.size) (lq:q < w.heap.size)
  (h8:w.cell? ⟨q,8,.none⟩=some (.iface 97 (.agg #[.pointer (some ⟨q1,0,.none⟩)]))) (hst:∀ Y,Below w.heap.size w Y->Calls Tryz.prog 164 #[.pointer (some ⟨q1,0,.none⟩),.pointer (some ⟨p,0,.none⟩)] Y fun e w'=> e= .returned (.tuple #[])/\Q e w'):
  Calls Tryz.prog 23 #[.pointer (some ⟨B1,0,.none⟩),.pointer (some ⟨B2,0,.none⟩)] w fun e w'=> e= .returned (.tuple #[])/\Q e w':=by
 replace hst:=hd' hst
 go_enter Tryz.func23,Tryz.ntmps23
 go_wp2_with fail
 refine zad 5 (by kernel_rfl) (by kernel_rfl) ?_
 dsimp only [List.take,List.drop]
 repeat (go_big_quiet_step (fail))
 refine wpQuiet_nil ?_
 rintro _ ⟨e',rfl⟩
 have hbe:=e'.below
 generalize e'.w=Z at *
 change wpList _ _ _ _ _ Z
 go_wp2_with (first | (go_at_call 164;(with_reducible refine (hst.out _ hbe).mono ?_);rintro r w1 ⟨rfl,hQ⟩) | fail)
 go_returns
 exact ⟨rfl,hQ⟩
theorem zh7 {G:Nat->Prop} {w Y Z:World} (hb:Below w.heap.size w Y) (hs:Y.heap.size<=Z.heap.size):∀ k,grow G Y Z k->grow G w Z k:=fun k hk=> hk.imp id (fun h=> ⟨Nat.le_trans hb.size h.1,h.2⟩)
theorem zhl.mk' {G:Nat->Prop} {p b:Nat} {w Y Z:World} {jv:Value} {s:Sh} {cl:Int} {j:Jb} {m:Mem} (hb:Below w.heap.size w Y) (h1:zaq Z p b (j.step s cl m).2) (h2:Only (fun k=> G k\/k=p\/k=b) Y Z) (h3:JbO (grow G w Z) Z jv s cl (j.step s cl m).1):zhl G p b w Z jv s cl j m:=
 ⟨h1,(Only.of_below (F:=fun k=> G k\/k=p\/k=b) hb).trans h2 (fun _ _ e=> e),h3⟩
theorem z6s {G:Nat->Prop} {q p b B1 B2:Nat} {s:Sh} {cl:Int} {j:Jb} {m:Mem} {w:World} {jv:Value} (h1:w.cell? ⟨B1,0,.none⟩=some (.pointer (some ⟨q,0,.none⟩))) (h2:w.cell? ⟨B2,0,.none⟩=some (.pointer (some ⟨p,0,.none⟩))) (l1:B1 < w.heap.size) (l2:B2 < w.heap.size) (lq:q < w.heap.size)
  (h8:w.cell? ⟨q,8,.none⟩=some jv) (hJ:JbO G w jv s cl j) (hGl:∀ k,G k->k < w.heap.size) (hw:zaq w p b m) (hp:¬ G p) (hb:¬ G b) (hf:Fits s m) (hj:jbIs s cl j) (hd:j.done=false) (hs:m.st < 1000000000):
  Calls Tryz.prog 23 #[.pointer (some ⟨B1,0,.none⟩),.pointer (some ⟨B2,0,.none⟩)] w fun e w'=> e= .returned (.tuple #[])/\zhl G p b w w' jv s cl j m:=by
 cases j with
 | mal r c=>
  obtain ⟨q1,rfl,hJ⟩:=hJ
  refine z6j h1 h2 l1 l2 lq h8 (Q:=fun _ w'=> zhl G p b w w' _ s cl (.mal r c) m) fun Y hY=> (zt8 (hJ.below hY) (hw.below hY) hp hb hf ⟨fun x hx=> (hj.1.sk x hx).1.ok,fun x hx=> (hj.1.rn x hx).ok⟩ hs (z7m hj hd)).mono fun e w' hS=> ?_
  obtain ⟨hO,r',c',e',hM⟩:=hS
  refine ⟨hO.ret,.mk' hY hO.wds hO.only ?_⟩
  rw [e']
  obtain ⟨a1,a2,x1,x2,F1,a3,a4,a5,a6⟩:=hM
  refine ⟨q1,rfl,fun k hk=> ?_,zh7 hY hO.only.size _ a2,x1,x2,F1,fun k hk=> ⟨zh7 hY hO.only.size _ (a3 k hk).1,(a3 k hk).2⟩,a4,a5,fun x hx=> ⟨⟨zh7 hY hO.only.size _ (a6 x hx).1.1,(a6 x hx).1.2⟩,(a6 x hx).2⟩⟩
  rcases hk with hk | hk
  ·exact Nat.lt_of_lt_of_le (hGl k hk) (Nat.le_trans hY.size hO.only.size)
  ·exact hk.2
 | fre f=>
  obtain ⟨q1,rfl,hJ⟩:=hJ
  refine z4w h1 h2 l1 l2 lq h8 (Q:=fun _ w'=> zhl G p b w w' _ s cl (.fre f) m) fun Y hY=> (zw0 (hJ.below hY) (hw.below hY) hp hb hf hj.ok hs).mono fun e w' hS=> ?_
  obtain ⟨hO,hM⟩:=hS
  refine ⟨hO.ret,.mk' hY hO.wds hO.only ?_⟩
  obtain ⟨a1,x1,a2,a3⟩:=hM
  exact ⟨q1,rfl,zh7 hY hO.only.size _ a1,x1,a2,fun h=> zh7 hY hO.only.size _ (a3 h)⟩
 | aga t=>
  obtain ⟨q1,rfl,hJ⟩:=hJ
  refine z5h h1 h2 l1 l2 lq h8 (Q:=fun _ w'=> zhl G p b w w' _ s cl (.aga t) m) fun Y hY=> (zza (hJ.below hY) (hw.below hY) hp hb hf hj.ok hs).mono fun e w' hS=> ?_
  obtain ⟨hO,hM⟩:=hS
  refine ⟨hO.ret,.mk' hY hO.wds hO.only ⟨q1,rfl,hM.weak (zh7 hY hO.only.size) fun k hk=> ?_⟩⟩
  rcases hk with hk | hk
  ·exact Nat.lt_of_lt_of_le (hGl k hk) (Nat.le_trans hY.size hO.only.size)
  ·exact hk.2
 | hei a=>
  obtain ⟨q1,rfl,hJ⟩:=hJ
  refine z7v h1 h2 l1 l2 lq h8 (Q:=fun _ w'=> zhl G p b w w' _ s cl (.hei a) m) fun Y hY=> (zyd q1 p b s a m Y (hJ.below hY).2 (hw.below hY) (fun e=> hp (e ▸ hJ.1)) (fun e=> hb (e ▸ hJ.1)) hf hj.1 hs).mono fun e w' hS=> ?_
  refine ⟨hS.ret,.mk' hY hS.wds (hS.only.weak fun k hk=> ?_) ⟨q1,rfl,.inl hJ.1,hS.row⟩⟩
  rcases hk with rfl | hk | hk
  ·exact .inl hJ.1
  ·exact .inr (.inl hk)
  ·exact .inr (.inr hk)
def zdv (k:Kl):List Fr:=match k.job with
 | some _=> [⟨k.op.k,k.steps, [k.op.a,k.op.n,0,0,0,0,0,0]⟩]
 | none=> []
structure KlO (F:Nat->Prop) (w:World) (q:Nat) (s:Sh) (k:Kl):Prop where
 lt:∀ b,F b->b < w.heap.size
 own:F q
 at':∃ sp sl jv G,zaa w q (zat s k (!k.job.isSome) jv (.pointer (some ⟨sp,0,.none⟩))) 55/\SK 0 w sp sl 1 (zdv k)/\(∀ b,foot sp sl b->F b/\b≠q)/\(∀ b,G b->F b/\b≠q/\¬ foot sp sl b)/\(k.job=none->jv= .nilIface)/\(∀ j,k.job=some j->JbO G w jv s k.c j)
theorem KlO.only {F G:Nat->Prop} {w w':World} {q:Nat} {s:Sh} {k:Kl} (h:KlO F w q s k) (ho:Only G w w') (hd:∀ b,F b->¬ G b):KlO F w' q s k:=by
 obtain ⟨h1,h2,sp,sl,jv,H,a1,a2,a3,a4,a5,a6⟩:=h
 exact ⟨fun b hb=> Nat.lt_of_lt_of_le (h1 b hb) ho.size,h2,sp,sl,jv,H,a1.only ho (hd q h2),ho.stk a2 (fun b hb=> hd b (a3 b hb).1),a3,a4,a5,fun j hj=> (a6 j hj).only ho (fun b hb=> hd b (a4 b hb).1)⟩
theorem KlO.below {F:Nat->Prop} {w w':World} {q:Nat} {s:Sh} {k:Kl} (h:KlO F w q s k) (hb:Below w.heap.size w w'):KlO F w' q s k:=h.only (Only.of_below (F:=fun _=> False) hb) (fun _ _ e=> e)
theorem KlO.weak {F G:Nat->Prop} {w:World} {q:Nat} {s:Sh} {k:Kl} (h:KlO F w q s k) (hG:∀ b,F b->G b) (hl:∀ b,G b->b < w.heap.size):KlO G w q s k:=by
 obtain ⟨h1,h2,sp,sl,jv,H,a1,a2,a3,a4,a5,a6⟩:=h
 exact ⟨hl,hG q h2,sp,sl,jv,H,a1,a2,fun b hb=> ⟨hG b (a3 b hb).1,(a3 b hb).2⟩,fun b hb=> ⟨hG b (a4 b hb).1,(a4 b hb).2⟩,a5,a6⟩
theorem ztx {q sp:Nat} {s:Sh} {k:Kl} {jv sl:Value} {most:Int} {fs:List Fr} {w:World} (i:Bool) (h:zaa w q (zat s k i jv (.pointer (some ⟨sp,0,.none⟩))) 55) (hs:SK 0 w sp sl most fs) (hf:i=false->fs.length=1):
  Calls Tryz.prog 17 #[.pointer (some ⟨q,0,.none⟩)] w fun e w'=> e= .returned (.bool i)/\w'=w:=by
 have lq:q < w.heap.size:=h.lt
 have c9:=ce (.bool i) (h.cell 9)
 have c11:=ce (.pointer (some ⟨sp,0,.none⟩)) (h.cell 11)
 have hdp:=zft hs
 cases i
 ·rw [hf rfl] at hdp
  replace hdp:=hd' hdp
  clear h hs hf
  go_enter Tryz.func17,Tryz.ntmps17
  go_wp2_with (first | (go_at_call 33;(with_reducible refine hdp.out.mono ?_);rintro r w1 ⟨rfl,hw1⟩;obtain rfl:=hw1.symm) | fail)
  go_returns
  exact ⟨rfl,rfl⟩
 ·clear h hs hf hdp
  go_enter Tryz.func17,Tryz.ntmps17
  go_wp2_with fail
  go_returns
  exact ⟨rfl,rfl⟩
theorem KlO.rests {F:Nat->Prop} {w:World} {q:Nat} {s:Sh} {k:Kl} (h:KlO F w q s k):Calls Tryz.prog 17 #[.pointer (some ⟨q,0,.none⟩)] w fun e w'=> e= .returned (.bool k.rests)/\w'=w:=by
 obtain ⟨h1,h2,sp,sl,jv,H,a1,a2,a3,a4,a5,a6⟩:=h
 refine ztx (!k.job.isSome) a1 a2 (fun e=> ?_)
 unfold zdv
 rcases hj:k.job with _ | j
 ·rw [hj] at e;cases e
 ·rfl
structure ztp (F:Nat->Prop) (q p b:Nat) (w w':World) (r:Ending) (s:Sh) (k:Kl) (m:Mem):Prop where
 ret:∃ v,r= .returned (.tuple #[v,.int .i64 (k.step s m).2.2.2])/\w'.ownsRow w.heap.size 37 8 v (k.step s m).2.2.1.length ((k.step s m).2.2.1.flatMap fun e=> e.cells.toList)
 wds:zaq w' p b (k.step s m).2.1
 kl:KlO (grow F w w') w' q s (k.step s m).1
 only:Only (fun i=> F i\/i=p\/i=b) w w'
theorem zuq {F:Nat->Prop} {q p b:Nat} {s:Sh} {k:Kl} {m:Mem} {w:World} (h:KlO F w q s k) (hw:zaq w p b m) (hj:k.job=none):
  Calls Tryz.prog 9 #[.pointer (some ⟨q,0,.none⟩),.pointer (some ⟨p,0,.none⟩)] w fun r w'=> ztp F q p b w w' r s k m:=by
 have hr:k.step s m=(k,m, [],2):=by unfold Kl.step;rw [hj]
 have hb0:=((Below.refl w.heap.size w).alloc lr (.cells #[.pointer (some ⟨q,0,.none⟩)] 25)).alloc (by simp) (.cells #[.pointer (some ⟨p,0,.none⟩)] 39)
 have hrs:k.rests=true:=by unfold Kl.rests;rw [hj];rfl
 have hre:=(h.below hb0).rests
 rw [hrs] at hre
 replace hre:=hd' hre
 have hfin:Hid (∀ W,Below w.heap.size w W->ztp F q p b w W (.returned (.tuple #[.slice none 0 0,.int .i64 2])) s k m):=hd' fun W hb=> by
  refine ⟨⟨_,by rw [hr],?_⟩,?_,?_,Only.of_below hb⟩
  ·rw [hr];exact zel _ _
  ·rw [hr];exact hw.below hb
  ·rw [hr];exact (h.below hb).weak (fun b hb=> .inl hb) (zec h.lt hb.size)
 clear h hw hr hj hrs
 go_enter Tryz.func9,Tryz.ntmps9
 go_upto_region 1 with fail
 have hH:zaa ((w.alloc (.cells #[.pointer (some ⟨q,0,.none⟩)] 25)).alloc (.cells #[.pointer (some ⟨p,0,.none⟩)] 39)) w.heap.size #[.pointer (some ⟨q,0,.none⟩)] 25:=zaa.alloc (heap_alloc_new _ _) _
 generalize (w.alloc (.cells #[.pointer (some ⟨q,0,.none⟩)] 25)).alloc (.cells #[.pointer (some ⟨p,0,.none⟩)] 39)=X at *
 obtain ⟨H,hHH,hHH'⟩:=hidv w.heap.size
 rw [<- hHH'] at hH ⊢
 clear hHH'
 have lH:H < X.heap.size:=hH.lt
 have c0:=ce (.pointer (some ⟨q,0,.none⟩)) (hH.cell 0)
 have hnil:∀ W:World,(binOp .eql 25 (.pointer (some ⟨q,0,.none⟩)) (.pointer none)).run Tryz.prog W= .ok (.bool false) W:=fun W=> by kernel_rfl
 go_wp2_with (first | (go_at_call 17;(with_reducible refine hre.out.mono ?_);rintro r w1 ⟨rfl,hw1⟩;obtain rfl:=hw1.symm) | fail)
 go_returns
 exact hfin.out _ hb0
theorem ybb {w:World} {B C:Nat} {E:TypeId} {size:Nat} {v:Value} {n:Nat} {xs:List Value} (h:w.ownsRow B E size v n xs) (hc:C<=B):w.ownsRow C E size v n xs:=by
 refine ⟨h.1,?_⟩
 rcases h.2 with hn | ⟨g,cap,cur,rfl,h1,r⟩
 ·exact .inl hn
 ·exact .inr ⟨g,cap,cur,rfl,Nat.le_trans hc h1,r⟩
theorem size_alloc (w:World) (o:Obj):(w.alloc o).heap.size=w.heap.size + 1:=by simp
theorem zzj {F G G':Nat->Prop} {q p b sp:Nat} {s:Sh} {k:Kl} {m:Mem} {j:Jb} {jv sl:Value} {w Y Z:World} {r:Ending} (hF:∀ i,F i->i < w.heap.size) (hq:F q) (hp:¬ F p) (hb:¬ F b) (hj:k.job=some j) (hft:∀ i,foot sp sl i->F i/\i≠q) (hG:∀ i,G i->F i/\i≠q/\¬ foot sp sl i)
  (hG':∀ i,G' i->G i\/(w.heap.size<=i/\i < Y.heap.size)) (hwY:zaq Y p b (j.step s k.c m).2) (hoY:Only (fun i=> F i\/i=p\/i=b) w Y) (hJY:JbO G' Y jv s k.c (j.step s k.c m).1)
  (hT:zbp q sp s { k with told:=k.told || (j.step s k.c m).1.gave,steps:=k.steps + 1 } (j.step s k.c m).1.done jv sl 1 [⟨k.op.k,k.steps + 1, [k.op.a,k.op.n,0,0,0,0,0,0]⟩] (k.tells (j.step s k.c m).1) Y Z r):
  ∃ v,r= .returned v/\ztp F q p b w Z (.returned (.tuple #[v,.int .i64 0])) s k m:=by
 have hr:k.step s m=(k.after (j.step s k.c m).1,(j.step s k.c m).2,k.tells (j.step s k.c m).1,0):=by unfold Kl.step;rw [hj]
 obtain ⟨v,hv,hown⟩:=hT.ret
 have hs1:=hoY.size
 have hs2:=hT.only.size
 have hlq:=hF q hq
 have hfq:∀ i,(i=q\/foot sp sl i)->F i:=fun i hi=> by rcases hi with rfl | hi;exact hq;exact (hft i hi).1
 have hG'd:∀ i,G' i->¬ (i=q\/foot sp sl i):=fun i hi e=> by
  rcases hG' i hi with h | h
  ·rcases e with e | e
   ·exact (hG i h).2.1 e
   ·exact (hG i h).2.2 e
  ·have:=hF i (hfq i e);omega
 refine ⟨v,hv,⟨⟨_,by rw [hr],?_⟩,?_,?_,?_⟩⟩
 ·rw [hr];exact ybb hown hs1
 ·rw [hr]
  exact hwY.only hT.only (fun e=> hp (hfq p e)) (fun e=> hb (hfq b e))
 ·rw [hr]
  generalize (j.step s k.c m).1=j' at *
  have hjob:=hJY.only hT.only hG'd
  have hrow:=hT.row
  have hstk:=hT.stk
  refine ⟨zec hF (Nat.le_trans hs1 hs2),.inl hq,?_⟩
  cases hd:j'.done
  ·rw [hd] at hrow hstk
   refine ⟨sp,sl,jv,G',?_,?_,fun i hi=> ⟨.inl (hft i hi).1,(hft i hi).2⟩,fun i hi=> ⟨?_,fun e=> hG'd i hi (.inl e),fun e=> hG'd i hi (.inr e)⟩,fun e=> ?_,fun x hx=> ?_⟩
   ·have e:(!(k.after j').job.isSome)=false:=by simp [Kl.after,hd]
    rw [e];exact hrow
   ·have e:zdv (k.after j')= [⟨k.op.k,k.steps + 1, [k.op.a,k.op.n,0,0,0,0,0,0]⟩]:=by unfold zdv Kl.after;simp [hd]
    rw [e];exact hstk
   ·rcases hG' i hi with h | h
    ·exact .inl (hG i h).1
    ·exact .inr ⟨h.1,Nat.lt_of_lt_of_le h.2 hs2⟩
   ·simp [Kl.after,hd] at e
   ·have e:(k.after j').job=some j':=by simp [Kl.after,hd]
    rw [e] at hx;injection hx with hx;subst hx
    exact hjob
  ·rw [hd] at hrow hstk
   refine ⟨sp,.slice none 0 0,.nilIface,fun _=> False,?_,?_,fun i hi=> ?_,fun i hi=> hi.elim,fun _=> rfl,fun x hx=> ?_⟩
   ·have e:(!(k.after j').job.isSome)=true:=by simp [Kl.after,hd]
    rw [e];exact hrow
   ·have e:zdv (k.after j')= []:=by unfold zdv Kl.after;simp [hd]
    rw [e];exact hstk
   ·rcases hi with rfl | hi
    ·exact ⟨.inl (hft _ (.inl rfl)).1,(hft _ (.inl rfl)).2⟩
    ·cases hi
   ·simp [Kl.after,hd] at hx
 ·exact hoY.trans hT.only (fun i _ hi=> .inl (hfq i hi))
theorem zty {F:Nat->Prop} {q p b:Nat} {s:Sh} {k:Kl} {m:Mem} {j:Jb} {w:World} (h:KlO F w q s k) (hw:zaq w p b m) (hp:¬ F p) (hb:¬ F b) (hf:Fits s m) (hfit:m.fit) (hj:k.job=some j) (hji:jbIs s k.c j) (hjd:j.done=false) (hc:0<=k.c/\k.c < s.c) (hst:0<=k.steps/\k.steps < 1000000) (hs:m.st < 1000000000):
  Calls Tryz.prog 9 #[.pointer (some ⟨q,0,.none⟩),.pointer (some ⟨p,0,.none⟩)] w fun r w'=> ztp F q p b w w' r s k m:=by
 have hrs:k.rests=false:=by unfold Kl.rests;rw [hj];rfl
 obtain ⟨hF,hq,sp,sl,jv,G,hrow,hstk,hft,hG,_,hjob⟩:=id h
 have hJ:=hjob j hj
 clear hjob
 have hi:(!k.job.isSome)=false:=by rw [hj];rfl
 rw [hi] at hrow
 have hfr:zdv k= [⟨k.op.k,k.steps, [k.op.a,k.op.n,0,0,0,0,0,0]⟩]:=by unfold zdv;rw [hj]
 rw [hfr] at hstk
 have hwr:IntKind.i64.wrap (k.steps + 1)=k.steps + 1:=by rw [IntKind.wrap_i64];omega
 have hb0:=((Below.refl w.heap.size w).alloc lr (.cells #[.pointer (some ⟨q,0,.none⟩)] 25)).alloc (by simp) (.cells #[.pointer (some ⟨p,0,.none⟩)] 39)
 have hH:zaa ((w.alloc (.cells #[.pointer (some ⟨q,0,.none⟩)] 25)).alloc (.cells #[.pointer (some ⟨p,0,.none⟩)] 39)) w.heap.size #[.pointer (some ⟨q,0,.none⟩)] 25:=zaa.alloc (heap_alloc_new _ _) _
 have hK:zaa ((w.alloc (.cells #[.pointer (some ⟨q,0,.none⟩)] 25)).alloc (.cells #[.pointer (some ⟨p,0,.none⟩)] 39)) (w.heap.size + 1) #[.pointer (some ⟨p,0,.none⟩)] 39:=by
  have h:=heap_alloc_new (w.alloc (.cells #[.pointer (some ⟨q,0,.none⟩)] 25)) (.cells #[.pointer (some ⟨p,0,.none⟩)] 39)
  rw [size_alloc] at h
  exact h
 have hre:=(h.below hb0).rests
 rw [hrs] at hre
 replace hre:=hd' hre
 clear h hrs hi hfr
 have hXs:((w.alloc (.cells #[.pointer (some ⟨q,0,.none⟩)] 25)).alloc (.cells #[.pointer (some ⟨p,0,.none⟩)] 39)).heap.size=w.heap.size + 2:=by rw [size_alloc,size_alloc]
 have hrowX:=hrow.below hb0
 have hstkX:=hstk.below hb0
 have hJX:=hJ.below hb0
 have hwX:=hw.below hb0
 go_enter Tryz.func9,Tryz.ntmps9
 go_upto_region 1 with fail
 generalize (w.alloc (.cells #[.pointer (some ⟨q,0,.none⟩)] 25)).alloc (.cells #[.pointer (some ⟨p,0,.none⟩)] 39)=X at *
 obtain ⟨B2,hB2,hB2'⟩:∃ H,Hid (H=w.heap.size + 1)/\H=w.heap.size + 1:=⟨_,hd' rfl,rfl⟩
 obtain ⟨B1,hB1,hB1'⟩:=hidv w.heap.size
 simp only [<- hB2'] at hK ⊢
 rw [<- hB1'] at hH ⊢
 have hB1w:w.heap.size<=B1:=by omega
 have hB2w:w.heap.size<=B2:=by omega
 clear hB1' hB2'
 have l1:B1 < X.heap.size:=hH.lt
 have c0:=ce (.pointer (some ⟨q,0,.none⟩)) (hH.cell 0)
 have hnil:∀ W:World,(binOp .eql 25 (.pointer (some ⟨q,0,.none⟩)) (.pointer none)).run Tryz.prog W= .ok (.bool false) W:=fun W=> by kernel_rfl
 have hmf:∀ (fn:Fn) (first cap:Array Value) (w:World),(Instr.makeFunc fn first cap).run Tryz.prog w= .ok (.func fn first cap) w:=fun _ _ _ _=> rfl
 have lqw:=hF q hq
 have hGl:∀ i,G i->i < w.heap.size:=fun i hi=> hF i (hG i hi).1
 have hpw:=hw.ltp
 have hbw:=hw.ltb
 have bX':=(Below.refl X.heap.size X).alloc lr (.cells #[.bool false] 4)
 have hclos:=z6s (w:=X.alloc (.cells #[.bool false] 4)) (q:=q) (p:=p) (b:=b) (G:=G) (s:=s) (cl:=k.c) (j:=j) (m:=m) (jv:=jv) (B1:=B1) (B2:=B2) ((hH.below bX').cell 0) ((hK.below bX').cell 0) (hH.below bX').lt (hK.below bX').lt (hrowX.below bX').lt ((hrowX.below bX').cell 8) (hJX.below bX') (fun i hi=> by have:=hGl i hi;rw [size_alloc];omega) (hwX.below bX') (fun e=> hp (hG p e).1) (fun e=> hb (hG b e).1) hf hji hjd hs
 have hg:=zyf B1 B2 X (Q:=fun Y=> zhl G p b (X.alloc (.cells #[.bool false] 4)) Y jv s k.c j m) (hclos.mono fun e w' hh=> ⟨hh.1,hh.2,by
  have hn:zaa (X.alloc (.cells #[.bool false] 4)) X.heap.size #[.bool false] 4:=heap_alloc_new _ _
  refine hn.only hh.2.only (fun e=> ?_)
  rcases e with e | e | e
  ·have:=hGl _ e;omega
  ·omega
  ·omega⟩)
 replace hg:=hd' hg
 clear hclos
 go_upto_region 7 with (first
  | (go_at_call 17;(with_reducible refine hre.out.mono ?_);rintro r w1 ⟨rfl,hw1⟩;obtain rfl:=hw1.symm)
  | (go_at_call 22;(with_reducible refine hg.out.mono ?_);rintro r w2 ⟨rfl,Y,hQ,hYZ⟩;have hrw2:zaa w2 B1 #[.pointer (some ⟨q,0,.none⟩)] 25:=(by rw [hYZ];exact ((hH.below bX').only hQ.only (fun e=> by rcases e with e | e | e;have:=hGl _ e;omega;omega;omega)).other (by omega) _ _);have c02:=ce (.pointer (some ⟨q,0,.none⟩)) (hrw2.cell 0);have l12:=hrw2.lt)
  | fail)
 have hYZ':w2=Y.setCell ⟨w.heap.size + 2,0,.none⟩ (.bool true):=by rw [hYZ,hXs]
 rw [<- hYZ']
 have hXe:X.heap.size=w.heap.size + 2:=hXs
 have hX's:(X.alloc (.cells #[.bool false] 4)).heap.size=w.heap.size + 3:=by rw [size_alloc,hXe]
 have hsz2:w2.heap.size=Y.heap.size:=by rw [hYZ'];exact size_set _ _ _
 have onX:Only (fun i=> F i\/i=p\/i=b) w (X.alloc (.cells #[.bool false] 4)):=Only.of_below (zab hb0 bX')
 have onY:Only (fun i=> F i\/i=p\/i=b) w Y:=onX.trans hQ.only (fun i _ hi=> hi.imp (fun e=> (hG i e).1) id)
 have on2:Only (fun i=> F i\/i=p\/i=b) w w2:=by rw [hYZ'];exact Only.setCell onY (.inr (by show w.heap.size<=w.heap.size + 2;omega)) _
 have hns:∀ i,(i=q\/foot sp sl i)->¬ (G i\/i=p\/i=b):=fun i hi e=> by
  have hFi:F i:=by rcases hi with rfl | hi;exact hq;exact (hft i hi).1
  rcases e with e | e | e
  ·rcases hi with rfl | hi
   ·exact (hG _ e).2.1 rfl
   ·exact (hG i e).2.2 hi
  ·exact hp (e ▸ hFi)
  ·exact hb (e ▸ hFi)
 have hlt:∀ i,(i=q\/foot sp sl i)->i < w.heap.size:=fun i hi=> by rcases hi with rfl | hi;exact lqw;exact hF i (hft i hi).1
 have oset:Only (fun i=> i=w.heap.size + 2) Y w2:=by rw [hYZ'];exact Only.setCell (F:=fun i=> i=w.heap.size + 2) (Only.refl _ _) (.inl rfl) _
 have hrow2:=((hrowX.below bX').only hQ.only (hns q (.inl rfl))).only oset (by omega)
 have hstk2:=oset.stk (hQ.only.stk (hstkX.below bX') (fun i hi=> hns i (.inr hi))) (fun i hi e=> by have:=hlt i (.inr hi);omega)
 have hJ2:=hQ.job.only oset (fun i hi e=> by
  rcases hi with hi | hi
  ·have:=hGl i hi;omega
  ·omega)
 have hw2:=hQ.wds.only oset (by omega) (by omega)
 have hG':∀ i,grow G (X.alloc (.cells #[.bool false] 4)) Y i->G i\/(w.heap.size<=i/\i < w2.heap.size):=fun i hi=> by
  rcases hi with hi | hi
  ·exact .inl hi
  ·exact .inr (by omega)
 generalize hGG:grow G (X.alloc (.cells #[.bool false] 4)) Y=G2 at *
 clear hYZ hYZ' hQ hg hXs hXe hX's onX onY oset bX' hre hrowX hstkX hJX hwX hJ hrow hstk hw hGG hsz2 hns
 have onq:∀ Z W:World,Only (fun i=> i=q\/foot sp sl i) Z W->Only (fun i=> F i\/i=p\/i=b) Z W:=fun Z W hh=> hh.weak (fun i hi=> .inl (by rcases hi with rfl | hi;exact hq;exact (hft i hi).1))
 have hend:=hd' (fun (W:World) (r:Ending) (Y2:World) (h1:zaq Y2 p b (j.step s k.c m).2) (h2:Only (fun i=> F i\/i=p\/i=b) w Y2) (h3:JbO G2 Y2 jv s k.c (j.step s k.c m).1) (h4:∀ i,G2 i->G i\/(w.heap.size<=i/\i < Y2.heap.size)) (hT:zbp q sp s { k with told:=k.told || (j.step s k.c m).1.gave,steps:=k.steps + 1 } (j.step s k.c m).1.done jv sl 1 [⟨k.op.k,k.steps + 1, [k.op.a,k.op.n,0,0,0,0,0,0]⟩] (k.tells (j.step s k.c m).1) Y2 W r)=> zzj hF hq hp hb hj hft hG h4 h1 h2 h3 hT)
 have hji2:=(zqw hji hc hjd hf (by exact hfit)).2.1
 have htell:=hd' (fun (Y2:World) (h1:zaa Y2 q (zat s { k with steps:=k.steps + 1 } false jv (.pointer (some ⟨sp,0,.none⟩))) 55) (h2:SK 0 Y2 sp sl 1 [⟨k.op.k,k.steps + 1, [k.op.a,k.op.n,0,0,0,0,0,0]⟩]) (h3:JbO G2 Y2 jv s k.c (j.step s k.c m).1) (h4:∀ i,G2 i->i < Y2.heap.size)=> z6y (k:= { k with steps:=k.steps + 1 }) h1 h2 (fun e=> (hft q e).2 rfl) h3 (fun i hi=> ⟨fun e=> by
   rcases hG' i hi with hh | hh
   ·exact (hG i hh).2.1 e
   ·have:=hlt i (.inl e);omega,fun e=> by
   rcases hG' i hi with hh | hh
   ·exact (hG i hh).2.2 e
   ·have:=hlt i (.inr e);omega⟩) h4 hji2 hf.may hc)
 generalize (j.step s k.c m).1=j2 at *
 generalize (j.step s k.c m).2=m2 at *
 obtain ⟨sp',sc,sm⟩:=s
 obtain ⟨kc,kf,⟨ok,oa,on⟩,kj,kt,ks⟩:=k
 dsimp only [zat] at hrow2 hstk2 hwr htell hJ2
 have lq2:q < w2.heap.size:=hrow2.lt
 have f2:=zax hrow2
 have c12:=ci ks (hrow2.cell 12)
 go_upto_region 8 with fail
 have hrow3:zaa (w2.setCell ⟨q,12,.none⟩ (.int .i64 (ks + 1))) q #[.int .i64 sp',.int .i64 sc,.int .i64 sm,.int .i64 kc,.int .i64 kf,.int .i64 ok,.int .i64 oa,.int .i64 on,jv,.bool false,.bool kt,.pointer (some ⟨sp,0,.none⟩),.int .i64 (ks + 1)] 55:=hrow2.set 12 (.int .i64 (ks + 1))
 have oq:Only (fun i=> i=q) w2 (w2.setCell ⟨q,12,.none⟩ (.int .i64 (ks + 1))):=Only.setCell (F:=fun i=> i=q) (Only.refl _ _) (.inl rfl) _
 have hstk3:=oq.stk hstk2 (fun i hi e=> (hft i hi).2 e)
 have hJ3:=hJ2.only oq (fun i hi e=> by
  rcases hG' i hi with hh | hh
  ·exact (hG i hh).2.1 e
  ·omega)
 have hw3:=hw2.only oq (fun e=> hp (e ▸ hq)) (fun e=> hb (e ▸ hq))
 have on3:=on2.trans oq (fun i _ hi=> .inl (by rw [hi];exact hq))
 have hb13:=hrw2.only oq (by omega)
 have hs3:w2.heap.size<=(w2.setCell ⟨q,12,.none⟩ (.int .i64 (ks + 1))).heap.size:=Nat.le_of_eq (size_set _ _ _).symm
 generalize w2.setCell ⟨q,12,.none⟩ (.int .i64 (ks + 1))=w3 at *
 clear hrow2 hstk2 hJ2 hw2 on2 hrw2 c02 l12 lq2 f2 c12 oq
 have lq3:q < w3.heap.size:=hrow3.lt
 have l13:B1 < w3.heap.size:=hb13.lt
 have d0:=ce (.pointer (some ⟨q,0,.none⟩)) (hb13.cell 0)
 have d11:=ce (.pointer (some ⟨sp,0,.none⟩)) (hrow3.cell 11)
 have d12:=ci (ks + 1) (hrow3.cell 12)
 refine zad 8 (by kernel_rfl) (by kernel_rfl) ?_
 dsimp only [List.take,List.drop]
 repeat (go_big_quiet_step (fail))
 refine wpQuiet_nil ?_
 rintro _ ⟨e',rfl⟩
 have hrow4:=hrow3.below e'.below
 have hstk4:=hstk3.below e'.below
 have hJ4:=hJ3.below e'.below
 have hw4:=hw3.below e'.below
 have hb14:=hb13.below e'.below
 have on4:=on3.trans (Only.of_below (F:=fun _=> False) e'.below) (fun _ _ hh=> hh.elim)
 have hs4:=e'.below.size
 generalize e'.w=w4 at *
 change wpList _ _ _ _ _ w4
 clear hrow3 hstk3 hJ3 hw3 on3 hb13 lq3 l13 d0 d11 d12
 have hgo:=zz4 (pc':=ks + 1) hstk4 (by simp)
 replace hgo:=hd' hgo
 go_upto_region 9 with (first | (go_at_call 24;(with_reducible refine hgo.out.mono ?_);rintro r w5 ⟨rfl,on5,hstk5⟩) | fail)
 have hqf:¬ foot sp sl q:=fun e=> (hft q e).2 rfl
 have hrow5:=hrow4.only on5 hqf
 have hJ5:=hJ4.only on5 (fun i hi e=> by
  rcases hG' i hi with hh | hh
  ·exact (hG i hh).2.2 e
  ·have:=hlt i (.inr e);omega)
 have hw5:=hw4.only on5 (fun e=> hp (hft p e).1) (fun e=> hb (hft b e).1)
 have hb15:=hb14.only on5 (fun e=> by have:=hlt B1 (.inr e);omega)
 have on6:=on4.trans on5 (fun i _ hi=> .inl (hft i hi).1)
 have hs5:=on5.size
 have hpl:zhx [(⟨ok,ks, [oa,on,0,0,0,0,0,0]⟩:Fr)] 1 (ks + 1)= [⟨ok,ks + 1, [oa,on,0,0,0,0,0,0]⟩]:=rfl
 rw [hpl] at hstk5
 clear hrow4 hstk4 hJ4 hw4 on4 hb14 hgo
 have l15:B1 < w5.heap.size:=hb15.lt
 have g0:=ce (.pointer (some ⟨q,0,.none⟩)) (hb15.cell 0)
 have ht5:=hd' (htell.out w5 hrow5 hstk5 hJ5 (fun i hi=> by
  rcases hG' i hi with hh | hh
  ·have:=hGl i hh;omega
  ·omega))
 have he5:=hd' (fun W r hT=> hend.out W r w5 hw5 on6 hJ5 (fun i hi=> by
  rcases hG' i hi with hh | hh
  ·exact .inl hh
  ·exact .inr (by omega)) hT)
 clear htell hend
 go_wp2_with (first | (go_at_call 25;(with_reducible refine ht5.out.mono ?_);rintro r w6 hT;obtain ⟨v6,rfl,hK6⟩:=he5.out _ _ hT) | fail)
 go_returns
 exact hK6
end

end Go.Proofs.YthgekdlegbmehaaGreat
