/- Texts bound together: CliT GrdW CliU CliV. -/
import Derived.Defers

import Derived.Recover

import Derived.Test.YtampacmmhhilaaaGreatBm31

import Derived.Test.YtampacmmhhilaaaGreatBm32

import Derived.Test.YtampacmmhhilaaaGreatBm33

import Derived.Test.YtampacmmhhilaaaGreatBm34

import Derived.Test.YtampacmmhhilaaaGreatBm3

set_option linter.all false
/- A client's job in memory, of whatever kind; what tell comes to. -/
namespace Go.Proofs.YtampacmmhhilaaaGreat

open Go.RowKit

/-- A job whose blocks are in F, and its value. -/
def JbO (F:Nat→Prop) (w:World) (v:Value) (s:Sh) (cl:Int):Jb→Prop
 | .mal r c=> ∃ q,v= .iface 227 (.pointer (some ⟨q,0, .none⟩))∧MalO F w q s cl r c
 | .fre f=> ∃ q,v= .iface 236 (.agg #[.pointer (some ⟨q,0, .none⟩)])∧FeO F w q s f
 | .aga t=> ∃ q,v= .iface 240 (.agg #[.pointer (some ⟨q,0, .none⟩)])∧RrO F w q s t
 | .hei a=> ∃ q,v= .iface 244 (.agg #[.pointer (some ⟨q,0, .none⟩)])∧AdO F w q s a
theorem JbO.only {F G:Nat→Prop} {w w':World} {v:Value} {s:Sh} {cl:Int} {j:Jb} (h:JbO F w v s cl j) (ho:Only G w w') (hd:∀ k,F k→¬ G k):JbO F w' v s cl j:=by
 cases j with
 | mal r c=> obtain ⟨q,e,h⟩:=h;exact ⟨q,e,h.only ho hd⟩
 | fre f=> obtain ⟨q,e,h⟩:=h;exact ⟨q,e,h.only ho hd⟩
 | aga t=> obtain ⟨q,e,h⟩:=h;exact ⟨q,e,h.only ho hd⟩
 | hei a=> obtain ⟨q,e,h⟩:=h;exact ⟨q,e,h.only ho hd⟩
theorem JbO.below {F:Nat→Prop} {w w':World} {v:Value} {s:Sh} {cl:Int} {j:Jb} (h:JbO F w v s cl j) (hb:Below w.heap.size w w'):JbO F w' v s cl j:=h.only (Only.of_below (F:=fun _=> False) hb) (fun _ _ e=> e)
theorem fits_bd {s:Sh} {cl:Int} {b:Blk} (h:b.fits s cl=true) (hp:s.p≤64) (hz:b.large=false→b.pages=0):(0≤b.page∧b.page≤64)∧(b.large=false→0≤b.slot∧b.slot≤16)∧(0≤b.pages∧b.pages≤64):=by
 have h1:=fits_iff.1 h
 refine ⟨by omega,fun hl=> ?_,?_⟩
 ·have h2:=h1.2.2.2.2 hl
  have:=slotsV_ok (by omega:0 < slotsV b.k)
  omega
 ·cases hl:b.large
  ·rw [hz hl];omega
  ·have:=h1.2.2.2.1 hl;omega
theorem got_small {t:Rs} {b:Blk} (hg:t.got=some b):b.large=false→b.pages=0:=by
 intro hl
 obtain ⟨k,pg,sk,rn⟩:=t
 rcases sk with _ | x
 ·rcases rn with _ | y
  ·cases hg
  ·unfold Rs.got at hg
   dsimp only at hg
   split at hg
   ·injection hg with hg;subst hg;cases hl
   ·cases hg
 ·unfold Rs.got at hg
  dsimp only at hg
  split at hg
  ·injection hg with hg;subst hg;rfl
  ·cases hg
/-- What was taken is a block of the heap. -/
theorem took_bd {s:Sh} {cl:Int} {j:Jb} {b:Blk} (h:jbIs s cl j) (hm:mayB s.p s.c s.m=true) (hc:0≤cl∧cl < s.c) (ht:j.took=some b):b.fits s cl=true∧(b.large=false→b.pages=0):=by
 cases j with
 | mal r c=>
  have ht':(if cmEnded c=true then r.got else none)=some b:=ht
  split at ht'
  ·exact ⟨(rs_got h.1 hm hc ht').1,got_small ht'⟩
  ·cases ht'
 | fre f=> cases ht
 | aga t=>
  have ht':(if t.done=true∧t.err=0 then (match t.res with | some x=> x.got | none=> none) else none)=some b:=ht
  split at ht'
  ·rcases hr:t.res with _ | r
   ·rw [hr] at ht';cases ht'
   ·rw [hr] at ht'
    exact ⟨(rs_got (h.res r hr) hm hc ht').1,got_small ht'⟩
  ·cases ht'
 | hei a=> cases ht
theorem kl_told {k:Kl} {t:Bool} (h:k.told=t):({ k with told:=t }:Kl)=k:=by cases k;cases h;rfl
theorem tell_any {q sp:Nat} {G:Nat→Prop} {s:Sh} {k:Kl} {jv sl:Value} {most:Int} {fs:List Fr} {j:Jb} {w:World} (h:RowAt w q (klCells s k false jv (.pointer (some ⟨sp,0, .none⟩))) 127) (hs:SK 0 w sp sl most fs) (hqs:¬ foot sp sl q) (hJ:JbO G w jv s k.c j) (hG:∀ b,G b→b≠q∧¬ foot sp sl b) (hGl:∀ b,G b→b < w.heap.size)
  (hj:jbIs s k.c j) (hm:mayB s.p s.c s.m=true) (hc:0≤k.c∧k.c < s.c):
  Calls Tryz.prog 149 #[.pointer (some ⟨q,0, .none⟩)] w fun r w'=> TellEnds q sp s { k with told:=k.told || j.gave } j.done jv sl most fs (k.tells j) w w' r:=by
 have hb:=mayB_iff.1 hm
 have hbd:=fun b ht=> fits_bd (took_bd hj hm hc (b:=b) ht).1 (by omega) (took_bd hj hm hc ht).2
 obtain ⟨told,htold⟩:∃ t,t=k.told:=⟨_,rfl⟩
 cases j with
 | fre f=>
  obtain ⟨q1,rfl,hJ⟩:=hJ
  cases hg:f.gave
  ·have e1:k.tells (.fre f)=if f.done=true then [evAnswer k.c k.op 0 (Jb.fre f).err] else []:=by
    unfold Kl.tells;cases hd:f.done <;> simp [Jb.gave,Jb.done,Jb.took,hg,hd,tookAt]
   have e2:({ k with told:=k.told || (Jb.fre f).gave }:Kl)= { k with told:=k.told }:=by simp [Jb.gave,hg]
   rw [e1,e2]
   cases hd:f.done
   ·have e3:(Jb.fre f).done=false:=hd
    rw [e3]
    exact tell_fre_B0 f h hs hqs hJ hG hGl hg hd
   ·have e3:(Jb.fre f).done=true:=hd
    rw [e3]
    exact tell_fre_Bn f h hs hqs hJ hG hGl hg hd
  ·cases ht:k.told
   ·have e1:k.tells (.fre f)=if f.done=true then [evGave k.c k.op.a,evAnswer k.c k.op 0 (Jb.fre f).err] else [evGave k.c k.op.a]:=by
     unfold Kl.tells;cases hd:f.done <;> simp [Jb.gave,Jb.done,Jb.took,hg,hd,ht,tookAt]
    have e2:({ k with told:=false || (Jb.fre f).gave }:Kl)= { k with told:=true }:=by simp [Jb.gave,hg]
    rw [e1,e2]
    cases hd:f.done
    ·have e3:(Jb.fre f).done=false:=hd
     rw [e3]
     exact tell_fre_A0 f h hs hqs hJ hG hGl hg ht hd
    ·have e3:(Jb.fre f).done=true:=hd
     rw [e3]
     exact tell_fre_An f h hs hqs hJ hG hGl hg ht hd
   ·have e1:k.tells (.fre f)=if f.done=true then [evAnswer k.c k.op 0 (Jb.fre f).err] else []:=by
     unfold Kl.tells;cases hd:f.done <;> simp [Jb.gave,Jb.done,Jb.took,ht,hd,tookAt]
    have e2:({ k with told:=true || (Jb.fre f).gave }:Kl)=k:=by rw [Bool.true_or];exact kl_told ht
    rw [e1,e2]
    cases hd:f.done
    ·have e3:(Jb.fre f).done=false:=hd
     rw [e3]
     exact tell_fre_C0 f h hs hqs hJ hG hGl hg ht hd
    ·have e3:(Jb.fre f).done=true:=hd
     rw [e3]
     exact tell_fre_Cn f h hs hqs hJ hG hGl hg ht hd
 | hei a=>
  obtain ⟨q1,rfl,hJ⟩:=hJ
  have e1:k.tells (.hei a)=if a.done=true then [evAnswer k.c k.op 0 a.err] else []:=by
   unfold Kl.tells;cases hd:a.done <;> simp [Jb.gave,Jb.done,Jb.took,Jb.err,hd,tookAt]
  have e2:({ k with told:=k.told || (Jb.hei a).gave }:Kl)= { k with told:=k.told }:=by simp [Jb.gave]
  rw [e1,e2]
  cases hd:a.done
  ·have e3:(Jb.hei a).done=false:=hd
   rw [e3]
   exact tell_hei_B0 a h hs hqs hJ hG hGl hd
  ·have e3:(Jb.hei a).done=true:=hd
   rw [e3]
   exact tell_hei_Bn a h hs hqs hJ hG hGl hd
 | mal r c=>
  obtain ⟨q1,rfl,hJ⟩:=hJ
  have e2:({ k with told:=k.told || (Jb.mal r c).gave }:Kl)= { k with told:=k.told }:=by simp [Jb.gave]
  rw [e2]
  cases hd:(Jb.mal r c).done
  ·have e1:k.tells (.mal r c)= []:=by unfold Kl.tells;simp [Jb.gave,hd]
   rw [e1]
   exact tell_mal_B0 r c h hs hqs hJ hG hGl hd
  ·rcases hk:(Jb.mal r c).took with _ | b
   ·have e1:k.tells (.mal r c)= [evAnswer k.c k.op 0 (Jb.mal r c).err]:=by unfold Kl.tells;simp [Jb.gave,hd,hk,tookAt]
    rw [e1]
    exact tell_mal_Bn r c h hs hqs hJ hG hGl hd hk
   ·have e1:k.tells (.mal r c)= [evTook k.c b.at' b.len,evAnswer k.c k.op b.at' (Jb.mal r c).err]:=by unfold Kl.tells;simp [Jb.gave,hd,hk,tookAt]
    rw [e1]
    have hb:=hbd b hk
    exact tell_mal_Bs r c h hs hqs hJ hG hGl hd b hk hb.1 hb.2.1 hb.2.2
 | aga t=>
  obtain ⟨q1,rfl,hJ⟩:=hJ
  have hfin:t.done=true→t.err=0→∃ r,t.res=some r:=fun h1 h2=> by obtain ⟨r,b,f,e,_⟩:=hj.fin h1 h2;exact ⟨r,e⟩
  cases hg:(Jb.aga t).gave
  ·have e2:({ k with told:=k.told || false }:Kl)= { k with told:=k.told }:=by simp
   rw [e2]
   cases hd:t.done
   ·have e3:(Jb.aga t).done=false:=hd
    have e1:k.tells (.aga t)= []:=by unfold Kl.tells;simp [hg,e3]
    rw [e1,e3]
    exact tell_aga_B0 t h hs hqs hJ hG hGl hg hd
   ·have e3:(Jb.aga t).done=true:=hd
    rcases hk:(Jb.aga t).took with _ | b
    ·have e1:k.tells (.aga t)= [evAnswer k.c k.op 0 (Jb.aga t).err]:=by unfold Kl.tells;simp [hg,e3,hk,tookAt]
     rw [e1,e3]
     exact tell_aga_Bn t h hs hqs hJ hG hGl hg hd hk hfin
    ·have e1:k.tells (.aga t)= [evTook k.c b.at' b.len,evAnswer k.c k.op b.at' (Jb.aga t).err]:=by unfold Kl.tells;simp [hg,e3,hk,tookAt]
     rw [e1,e3]
     have hb:=hbd b hk
     exact tell_aga_Bs t h hs hqs hJ hG hGl hg hd b hk hb.1 hb.2.1 hb.2.2 hfin
  ·cases ht:k.told
   ·have e2:({ k with told:=false || true }:Kl)= { k with told:=true }:=by simp
    rw [e2]
    cases hd:t.done
    ·have e3:(Jb.aga t).done=false:=hd
     have e1:k.tells (.aga t)= [evGave k.c k.op.a]:=by unfold Kl.tells;simp [hg,e3,ht]
     rw [e1,e3]
     exact tell_aga_A0 t h hs hqs hJ hG hGl hg ht hd
    ·have e3:(Jb.aga t).done=true:=hd
     rcases hk:(Jb.aga t).took with _ | b
     ·have e1:k.tells (.aga t)= [evGave k.c k.op.a,evAnswer k.c k.op 0 (Jb.aga t).err]:=by unfold Kl.tells;simp [hg,e3,hk,tookAt,ht]
      rw [e1,e3]
      exact tell_aga_An t h hs hqs hJ hG hGl hg ht hd hk hfin
     ·have e1:k.tells (.aga t)= [evGave k.c k.op.a,evTook k.c b.at' b.len,evAnswer k.c k.op b.at' (Jb.aga t).err]:=by unfold Kl.tells;simp [hg,e3,hk,tookAt,ht]
      rw [e1,e3]
      have hb:=hbd b hk
      exact tell_aga_As t h hs hqs hJ hG hGl hg ht hd b hk hb.1 hb.2.1 hb.2.2 hfin
   ·have e2:({ k with told:=true || true }:Kl)=k:=by rw [Bool.true_or];exact kl_told ht
    rw [e2]
    cases hd:t.done
    ·have e3:(Jb.aga t).done=false:=hd
     have e1:k.tells (.aga t)= []:=by unfold Kl.tells;simp [e3,ht]
     rw [e1,e3]
     exact tell_aga_C0 t h hs hqs hJ hG hGl hg ht hd
    ·have e3:(Jb.aga t).done=true:=hd
     rcases hk:(Jb.aga t).took with _ | b
     ·have e1:k.tells (.aga t)= [evAnswer k.c k.op 0 (Jb.aga t).err]:=by unfold Kl.tells;simp [e3,hk,tookAt,ht]
      rw [e1,e3]
      exact tell_aga_Cn t h hs hqs hJ hG hGl hg ht hd hk hfin
     ·have e1:k.tells (.aga t)= [evTook k.c b.at' b.len,evAnswer k.c k.op b.at' (Jb.aga t).err]:=by unfold Kl.tells;simp [e3,hk,tookAt,ht]
      rw [e1,e3]
      have hb:=hbd b hk
      exact tell_aga_Cs t h hs hqs hJ hG hGl hg ht hd b hk hb.1 hb.2.1 hb.2.2 hfin
end Go.Proofs.YtampacmmhhilaaaGreat
/- A call that is guarded. -/
namespace Go.Proofs.YtampacmmhhilaaaGreat

open Go.RowKit

attribute [local go_sem ↓] Go.wp_at_zero Go.wp_at_succ

theorem catch_idle (p:Addr) (w:World):
  CallsD Tryz.prog 172 #[.pointer (some p)] .returning w fun e u' w'=> e= .returned (.tuple #[])∧u'= .returning∧w'=w:=by
 refine callsD_of_wpS Tryz.func172 rfl fun c₀ cs hu=> ?_
 apply wpS_seq
 apply wpS_region
 simp [wpOpsS,go_sem,recoverD,hu,Tryz.ntmps172,Exit.thenS]
 refine wpS_cond (t:=false) (by simp [Act.eval,Array.replicate]) ?_
 simp only [Bool.false_eq_true,if_false]
 refine wpS_of_wp (wp_skip ?_)
 cases c₀
 simp_all [bodyPostS,results,Tryz.results172]
theorem guard_step (B1 B2:Nat) (w:World) {Q:World→Prop}
  (h:Calls Tryz.prog 147 #[.pointer (some ⟨B1,0, .none⟩), .pointer (some ⟨B2,0, .none⟩)] (w.alloc (.cells #[.bool false] 4)) fun e w'=> e= .returned (.tuple #[])∧Q w'∧RowAt w' w.heap.size #[.bool false] 4):
  Calls Tryz.prog 146 #[.func (.func 147) #[] #[.pointer (some ⟨B1,0, .none⟩), .pointer (some ⟨B2,0, .none⟩)]] w fun e w'=> e= .returned (.bool true)∧∃ Y,Q Y∧w'=Y.setCell ⟨w.heap.size,0, .none⟩ (.bool true):=by
 have hmf:∀ (fn:Fn) (first cap:Array Value) (w:World),(Instr.makeFunc fn first cap).run Tryz.prog w= .ok (.func fn first cap) w:=fun _ _ _ _=> rfl
 replace h:=Lib.hid h
 go_enter_defers Tryz.func146,Tryz.ntmps146
 have heq:∀ W:World,(binOp .eql 1 (.func (.func 147) #[] #[.pointer (some ⟨B1,0, .none⟩), .pointer (some ⟨B2,0, .none⟩)]) .nilFunc).run Tryz.prog W= .ok (.bool false) W:=fun W=> by kernel_rfl
 go_upto_region 1 with fail
 generalize hX:w.alloc (.cells #[.bool false] 4)=X at *
 obtain ⟨E,hE,hE'⟩:∃ E,Hid (E=w.heap.size)∧E=w.heap.size:=⟨_,Lib.hid rfl,rfl⟩
 simp only [← hE'] at h ⊢
 clear hE' hX
 go_wp2_with (first | (go_at_call 147;(with_reducible refine h.out.mono ?_);rintro r w1 ⟨rfl,hQ,hr⟩;have c0:w1.cell? ⟨E,0, .none⟩=some (.bool false):=hr.cell 0;have fz:=rowFree hr) | fail)
 refine leaves_cons (f:=172) (args:= #[.pointer (some ⟨E,0, .none⟩)]) (by simp) (by simp [go_sem]) ?_
 refine (catch_idle ⟨E,0, .none⟩ _).mono ?_
 rintro e u' w'' ⟨rfl,rfl,rfl⟩
 have hr2:=hr.set 0 (.bool true)
 have c1:(w1.setCell ⟨E,0, .none⟩ (.bool true)).cell? ⟨E,0, .none⟩=some (.bool true):=hr2.cell 0
 rw [← hE.out]
 generalize hZ:w1.setCell ⟨E,0, .none⟩ (.bool true)=Z at *
 have hfin:∃ Y,Q Y∧Z=Y.setCell ⟨E,0, .none⟩ (.bool true):=⟨w1,hQ,hZ.symm⟩
 clear hZ
 simp [Leaves,settle,results,Tryz.results146,go_sem,c1]
 exact hfin
end Go.Proofs.YtampacmmhhilaaaGreat
/- One access of a client's job, as the closure that is guarded does it. -/
namespace Go.Proofs.YtampacmmhhilaaaGreat

open Go.RowKit

attribute [local go_sem ↓] Go.wp_at_zero Go.wp_at_succ

theorem mal_case {s:Sh} {cl:Int} {r:Rs} {c:Option Cm} (h:jbIs s cl (.mal r c)) (hd:(Jb.mal r c).done=false):r.done=false∨(r.done=true∧c=none∧∃ b,r.got=some b):=by
 have hd':(r.done && (!r.got.isSome || cmEnded c))=false:=hd
 cases hrd:r.done
 ·exact .inl rfl
 ·rw [hrd,Bool.true_and,Bool.or_eq_false_iff] at hd'
  refine .inr ⟨rfl,?_,?_⟩
  ·rcases hc:c with _ | x
   ·rfl
   ·have:=h.2 x hc
    have e2:=hd'.2
    rw [hc] at e2
    have e2:x.done=false:=e2
    rw [this.2.1] at e2;cases e2
  ·rcases hg:r.got with _ | b
   ·have e1:=hd'.1;rw [hg] at e1;cases e1
   ·exact ⟨b,rfl⟩
/-- A job did an access. -/
structure JobStep (G:Nat→Prop) (p b:Nat) (w w':World) (jv:Value) (s:Sh) (cl:Int) (j:Jb) (m:Mem):Prop where
 wds:WdsAt w' p b (j.step s cl m).2
 only:Only (fun k=> G k∨k=p∨k=b) w w'
 job:JbO (grow G w w') w' jv s cl (j.step s cl m).1
set_option maxHeartbeats 1000000 in
theorem clos_mal {q q1 p B1 B2:Nat} {w:World} {Q:Ending→World→Prop} (h1:w.cell? ⟨B1,0, .none⟩=some (.pointer (some ⟨q,0, .none⟩))) (h2:w.cell? ⟨B2,0, .none⟩=some (.pointer (some ⟨p,0, .none⟩))) (l1:B1 < w.heap.size) (l2:B2 < w.heap.size) (lq:q < w.heap.size)
  (h8:w.cell? ⟨q,8, .none⟩=some (.iface 227 (.pointer (some ⟨q1,0, .none⟩)))) (hst:∀ Y,Below w.heap.size w Y→Calls Tryz.prog 254 #[.pointer (some ⟨q1,0, .none⟩), .pointer (some ⟨p,0, .none⟩)] Y fun e w'=> e= .returned (.tuple #[])∧Q e w'):
  Calls Tryz.prog 147 #[.pointer (some ⟨B1,0, .none⟩), .pointer (some ⟨B2,0, .none⟩)] w fun e w'=> e= .returned (.tuple #[])∧Q e w':=by
 replace hst:=Lib.hid hst
 go_enter Tryz.func147,Tryz.ntmps147
 go_wp2_with fail
 refine wp_region_ext_tail 5 (by kernel_rfl) (by kernel_rfl) ?_
 dsimp only [List.take,List.drop]
 repeat (go_big_quiet_step (fail))
 refine wpQuiet_nil ?_
 rintro _ ⟨e',rfl⟩
 have hbe:=e'.below
 generalize e'.w=Z at *
 change wpList _ _ _ _ _ Z
 go_wp2_with (first | (go_at_call 254;(with_reducible refine (hst.out _ hbe).mono ?_);rintro r w1 ⟨rfl,hQ⟩) | fail)
 go_returns
 exact ⟨rfl,hQ⟩
set_option maxHeartbeats 1000000 in
theorem clos_fre {q q1 p B1 B2:Nat} {w:World} {Q:Ending→World→Prop} (h1:w.cell? ⟨B1,0, .none⟩=some (.pointer (some ⟨q,0, .none⟩))) (h2:w.cell? ⟨B2,0, .none⟩=some (.pointer (some ⟨p,0, .none⟩))) (l1:B1 < w.heap.size) (l2:B2 < w.heap.size) (lq:q < w.heap.size)
  (h8:w.cell? ⟨q,8, .none⟩=some (.iface 236 (.agg #[.pointer (some ⟨q1,0, .none⟩)]))) (hst:∀ Y,Below w.heap.size w Y→Calls Tryz.prog 276 #[.pointer (some ⟨q1,0, .none⟩), .pointer (some ⟨p,0, .none⟩)] Y fun e w'=> e= .returned (.tuple #[])∧Q e w'):
  Calls Tryz.prog 147 #[.pointer (some ⟨B1,0, .none⟩), .pointer (some ⟨B2,0, .none⟩)] w fun e w'=> e= .returned (.tuple #[])∧Q e w':=by
 replace hst:=Lib.hid hst
 go_enter Tryz.func147,Tryz.ntmps147
 go_wp2_with fail
 refine wp_region_ext_tail 5 (by kernel_rfl) (by kernel_rfl) ?_
 dsimp only [List.take,List.drop]
 repeat (go_big_quiet_step (fail))
 refine wpQuiet_nil ?_
 rintro _ ⟨e',rfl⟩
 have hbe:=e'.below
 generalize e'.w=Z at *
 change wpList _ _ _ _ _ Z
 go_wp2_with (first | (go_at_call 276;(with_reducible refine (hst.out _ hbe).mono ?_);rintro r w1 ⟨rfl,hQ⟩) | fail)
 go_returns
 exact ⟨rfl,hQ⟩
set_option maxHeartbeats 1000000 in
theorem clos_aga {q q1 p B1 B2:Nat} {w:World} {Q:Ending→World→Prop} (h1:w.cell? ⟨B1,0, .none⟩=some (.pointer (some ⟨q,0, .none⟩))) (h2:w.cell? ⟨B2,0, .none⟩=some (.pointer (some ⟨p,0, .none⟩))) (l1:B1 < w.heap.size) (l2:B2 < w.heap.size) (lq:q < w.heap.size)
  (h8:w.cell? ⟨q,8, .none⟩=some (.iface 240 (.agg #[.pointer (some ⟨q1,0, .none⟩)]))) (hst:∀ Y,Below w.heap.size w Y→Calls Tryz.prog 289 #[.pointer (some ⟨q1,0, .none⟩), .pointer (some ⟨p,0, .none⟩)] Y fun e w'=> e= .returned (.tuple #[])∧Q e w'):
  Calls Tryz.prog 147 #[.pointer (some ⟨B1,0, .none⟩), .pointer (some ⟨B2,0, .none⟩)] w fun e w'=> e= .returned (.tuple #[])∧Q e w':=by
 replace hst:=Lib.hid hst
 go_enter Tryz.func147,Tryz.ntmps147
 go_wp2_with fail
 refine wp_region_ext_tail 5 (by kernel_rfl) (by kernel_rfl) ?_
 dsimp only [List.take,List.drop]
 repeat (go_big_quiet_step (fail))
 refine wpQuiet_nil ?_
 rintro _ ⟨e',rfl⟩
 have hbe:=e'.below
 generalize e'.w=Z at *
 change wpList _ _ _ _ _ Z
 go_wp2_with (first | (go_at_call 289;(with_reducible refine (hst.out _ hbe).mono ?_);rintro r w1 ⟨rfl,hQ⟩) | fail)
 go_returns
 exact ⟨rfl,hQ⟩
set_option maxHeartbeats 1000000 in
theorem clos_hei {q q1 p B1 B2:Nat} {w:World} {Q:Ending→World→Prop} (h1:w.cell? ⟨B1,0, .none⟩=some (.pointer (some ⟨q,0, .none⟩))) (h2:w.cell? ⟨B2,0, .none⟩=some (.pointer (some ⟨p,0, .none⟩))) (l1:B1 < w.heap.size) (l2:B2 < w.heap.size) (lq:q < w.heap.size)
  (h8:w.cell? ⟨q,8, .none⟩=some (.iface 244 (.agg #[.pointer (some ⟨q1,0, .none⟩)]))) (hst:∀ Y,Below w.heap.size w Y→Calls Tryz.prog 298 #[.pointer (some ⟨q1,0, .none⟩), .pointer (some ⟨p,0, .none⟩)] Y fun e w'=> e= .returned (.tuple #[])∧Q e w'):
  Calls Tryz.prog 147 #[.pointer (some ⟨B1,0, .none⟩), .pointer (some ⟨B2,0, .none⟩)] w fun e w'=> e= .returned (.tuple #[])∧Q e w':=by
 replace hst:=Lib.hid hst
 go_enter Tryz.func147,Tryz.ntmps147
 go_wp2_with fail
 refine wp_region_ext_tail 5 (by kernel_rfl) (by kernel_rfl) ?_
 dsimp only [List.take,List.drop]
 repeat (go_big_quiet_step (fail))
 refine wpQuiet_nil ?_
 rintro _ ⟨e',rfl⟩
 have hbe:=e'.below
 generalize e'.w=Z at *
 change wpList _ _ _ _ _ Z
 go_wp2_with (first | (go_at_call 298;(with_reducible refine (hst.out _ hbe).mono ?_);rintro r w1 ⟨rfl,hQ⟩) | fail)
 go_returns
 exact ⟨rfl,hQ⟩
theorem grow_bel {G:Nat→Prop} {w Y Z:World} (hb:Below w.heap.size w Y) (hs:Y.heap.size≤Z.heap.size):∀ k,grow G Y Z k→grow G w Z k:=fun k hk=> hk.imp id (fun h=> ⟨Nat.le_trans hb.size h.1,h.2⟩)
theorem JobStep.mk' {G:Nat→Prop} {p b:Nat} {w Y Z:World} {jv:Value} {s:Sh} {cl:Int} {j:Jb} {m:Mem} (hb:Below w.heap.size w Y) (h1:WdsAt Z p b (j.step s cl m).2) (h2:Only (fun k=> G k∨k=p∨k=b) Y Z) (h3:JbO (grow G w Z) Z jv s cl (j.step s cl m).1):JobStep G p b w Z jv s cl j m:=
 ⟨h1,(Only.of_below (F:=fun k=> G k∨k=p∨k=b) hb).trans h2 (fun _ _ e=> e),h3⟩
/-- The closure's access. -/
theorem clos_any {G:Nat→Prop} {q p b B1 B2:Nat} {s:Sh} {cl:Int} {j:Jb} {m:Mem} {w:World} {jv:Value} (h1:w.cell? ⟨B1,0, .none⟩=some (.pointer (some ⟨q,0, .none⟩))) (h2:w.cell? ⟨B2,0, .none⟩=some (.pointer (some ⟨p,0, .none⟩))) (l1:B1 < w.heap.size) (l2:B2 < w.heap.size) (lq:q < w.heap.size)
  (h8:w.cell? ⟨q,8, .none⟩=some jv) (hJ:JbO G w jv s cl j) (hGl:∀ k,G k→k < w.heap.size) (hw:WdsAt w p b m) (hp:¬ G p) (hb:¬ G b) (hf:Fits s m) (hj:jbIs s cl j) (hd:j.done=false) (hs:m.st < 1000000000):
  Calls Tryz.prog 147 #[.pointer (some ⟨B1,0, .none⟩), .pointer (some ⟨B2,0, .none⟩)] w fun e w'=> e= .returned (.tuple #[])∧JobStep G p b w w' jv s cl j m:=by
 cases j with
 | mal r c=>
  obtain ⟨q1,rfl,hJ⟩:=hJ
  refine clos_mal h1 h2 l1 l2 lq h8 (Q:=fun _ w'=> JobStep G p b w w' _ s cl (.mal r c) m) fun Y hY=> (malstep_any (hJ.below hY) (hw.below hY) hp hb hf ⟨fun x hx=> (hj.1.sk x hx).1.ok,fun x hx=> (hj.1.rn x hx).ok⟩ hs (mal_case hj hd)).mono fun e w' hS=> ?_
  obtain ⟨hO,r',c',e',hM⟩:=hS
  refine ⟨hO.ret, .mk' hY hO.wds hO.only ?_⟩
  rw [e']
  obtain ⟨a1,a2,x1,x2,F1,a3,a4,a5,a6⟩:=hM
  refine ⟨q1,rfl,fun k hk=> ?_,grow_bel hY hO.only.size _ a2,x1,x2,F1,fun k hk=> ⟨grow_bel hY hO.only.size _ (a3 k hk).1,(a3 k hk).2⟩,a4,a5,fun x hx=> ⟨⟨grow_bel hY hO.only.size _ (a6 x hx).1.1,(a6 x hx).1.2⟩,(a6 x hx).2⟩⟩
  rcases hk with hk | hk
  ·exact Nat.lt_of_lt_of_le (hGl k hk) (Nat.le_trans hY.size hO.only.size)
  ·exact hk.2
 | fre f=>
  obtain ⟨q1,rfl,hJ⟩:=hJ
  refine clos_fre h1 h2 l1 l2 lq h8 (Q:=fun _ w'=> JobStep G p b w w' _ s cl (.fre f) m) fun Y hY=> (feo_step (hJ.below hY) (hw.below hY) hp hb hf hj.ok hs).mono fun e w' hS=> ?_
  obtain ⟨hO,hM⟩:=hS
  refine ⟨hO.ret, .mk' hY hO.wds hO.only ?_⟩
  obtain ⟨a1,x1,a2,a3⟩:=hM
  exact ⟨q1,rfl,grow_bel hY hO.only.size _ a1,x1,a2,fun h=> grow_bel hY hO.only.size _ (a3 h)⟩
 | aga t=>
  obtain ⟨q1,rfl,hJ⟩:=hJ
  refine clos_aga h1 h2 l1 l2 lq h8 (Q:=fun _ w'=> JobStep G p b w w' _ s cl (.aga t) m) fun Y hY=> (rrstep_any (hJ.below hY) (hw.below hY) hp hb hf hj.ok hs).mono fun e w' hS=> ?_
  obtain ⟨hO,hM⟩:=hS
  refine ⟨hO.ret, .mk' hY hO.wds hO.only ⟨q1,rfl,hM.weak (grow_bel hY hO.only.size) fun k hk=> ?_⟩⟩
  rcases hk with hk | hk
  ·exact Nat.lt_of_lt_of_le (hGl k hk) (Nat.le_trans hY.size hO.only.size)
  ·exact hk.2
 | hei a=>
  obtain ⟨q1,rfl,hJ⟩:=hJ
  refine clos_hei h1 h2 l1 l2 lq h8 (Q:=fun _ w'=> JobStep G p b w w' _ s cl (.hei a) m) fun Y hY=> (adstep_any q1 p b s a m Y (hJ.below hY).2 (hw.below hY) (fun e=> hp (e ▸ hJ.1)) (fun e=> hb (e ▸ hJ.1)) hf hj.1 hs).mono fun e w' hS=> ?_
  refine ⟨hS.ret, .mk' hY hS.wds (hS.only.weak fun k hk=> ?_) ⟨q1,rfl, .inl hJ.1,hS.row⟩⟩
  rcases hk with rfl | hk | hk
  ·exact .inl hJ.1
  ·exact .inr (.inl hk)
  ·exact .inr (.inr hk)
end Go.Proofs.YtampacmmhhilaaaGreat
/- A client in memory: who owns what; Step. -/
namespace Go.Proofs.YtampacmmhhilaaaGreat

open Go.RowKit

attribute [local go_sem ↓] Go.wp_at_zero Go.wp_at_succ

/-- Its frames. -/
def klFrames (k:Kl):List Fr:=match k.job with
 | some _=> [⟨k.op.k,k.steps, [k.op.a,k.op.n,0,0,0,0,0,0]⟩]
 | none=> []
/-- A client whose blocks are in F. -/
structure KlO (F:Nat→Prop) (w:World) (q:Nat) (s:Sh) (k:Kl):Prop where
 lt:∀ b,F b→b < w.heap.size
 own:F q
 at':∃ sp sl jv G,RowAt w q (klCells s k (!k.job.isSome) jv (.pointer (some ⟨sp,0, .none⟩))) 127∧SK 0 w sp sl 1 (klFrames k)∧(∀ b,foot sp sl b→F b∧b≠q)∧(∀ b,G b→F b∧b≠q∧¬ foot sp sl b)∧(k.job=none→jv= .nilIface)∧(∀ j,k.job=some j→JbO G w jv s k.c j)
theorem KlO.only {F G:Nat→Prop} {w w':World} {q:Nat} {s:Sh} {k:Kl} (h:KlO F w q s k) (ho:Only G w w') (hd:∀ b,F b→¬ G b):KlO F w' q s k:=by
 obtain ⟨h1,h2,sp,sl,jv,H,a1,a2,a3,a4,a5,a6⟩:=h
 exact ⟨fun b hb=> Nat.lt_of_lt_of_le (h1 b hb) ho.size,h2,sp,sl,jv,H,a1.only ho (hd q h2),ho.stk a2 (fun b hb=> hd b (a3 b hb).1),a3,a4,a5,fun j hj=> (a6 j hj).only ho (fun b hb=> hd b (a4 b hb).1)⟩
theorem KlO.below {F:Nat→Prop} {w w':World} {q:Nat} {s:Sh} {k:Kl} (h:KlO F w q s k) (hb:Below w.heap.size w w'):KlO F w' q s k:=h.only (Only.of_below (F:=fun _=> False) hb) (fun _ _ e=> e)
theorem KlO.weak {F G:Nat→Prop} {w:World} {q:Nat} {s:Sh} {k:Kl} (h:KlO F w q s k) (hG:∀ b,F b→G b) (hl:∀ b,G b→b < w.heap.size):KlO G w q s k:=by
 obtain ⟨h1,h2,sp,sl,jv,H,a1,a2,a3,a4,a5,a6⟩:=h
 exact ⟨hl,hG q h2,sp,sl,jv,H,a1,a2,fun b hb=> ⟨hG b (a3 b hb).1,(a3 b hb).2⟩,fun b hb=> ⟨hG b (a4 b hb).1,(a4 b hb).2⟩,a5,a6⟩
theorem klrests_any {q sp:Nat} {s:Sh} {k:Kl} {jv sl:Value} {most:Int} {fs:List Fr} {w:World} (i:Bool) (h:RowAt w q (klCells s k i jv (.pointer (some ⟨sp,0, .none⟩))) 127) (hs:SK 0 w sp sl most fs) (hf:i=false→fs.length=1):
  Calls Tryz.prog 64 #[.pointer (some ⟨q,0, .none⟩)] w fun e w'=> e= .returned (.bool i)∧w'=w:=by
 have lq:q < w.heap.size:=h.lt
 have c9:w.cell? ⟨q,9, .none⟩=some (.bool i):=h.cell 9
 have c11:w.cell? ⟨q,11, .none⟩=some (.pointer (some ⟨sp,0, .none⟩)):=h.cell 11
 have hdp:=stkDepth_any hs
 cases i
 ·rw [hf rfl] at hdp
  replace hdp:=Lib.hid hdp
  clear h hs hf
  go_enter Tryz.func64,Tryz.ntmps64
  go_wp2_with (first | (go_at_call 108;(with_reducible refine hdp.out.mono ?_);rintro r w1 ⟨rfl,hw1⟩;obtain rfl:=hw1.symm) | fail)
  go_returns
  exact ⟨rfl,rfl⟩
 ·clear h hs hf hdp
  go_enter Tryz.func64,Tryz.ntmps64
  go_wp2_with fail
  go_returns
  exact ⟨rfl,rfl⟩
theorem KlO.rests {F:Nat→Prop} {w:World} {q:Nat} {s:Sh} {k:Kl} (h:KlO F w q s k):Calls Tryz.prog 64 #[.pointer (some ⟨q,0, .none⟩)] w fun e w'=> e= .returned (.bool k.rests)∧w'=w:=by
 obtain ⟨h1,h2,sp,sl,jv,H,a1,a2,a3,a4,a5,a6⟩:=h
 refine klrests_any (!k.job.isSome) a1 a2 (fun e=> ?_)
 unfold klFrames
 rcases hj:k.job with _ | j
 ·rw [hj] at e;cases e
 ·rfl
/-- A client's Step, its events. -/
structure KlStep (F:Nat→Prop) (q p b:Nat) (w w':World) (r:Ending) (s:Sh) (k:Kl) (m:Mem):Prop where
 ret:∃ v,r= .returned (.tuple #[v, .int .i64 (k.step s m).2.2.2])∧w'.ownsRow w.heap.size 50 8 v (k.step s m).2.2.1.length ((k.step s m).2.2.1.flatMap fun e=> e.cells.toList)
 wds:WdsAt w' p b (k.step s m).2.1
 kl:KlO (grow F w w') w' q s (k.step s m).1
 only:Only (fun i=> F i∨i=p∨i=b) w w'
theorem klstep_none {F:Nat→Prop} {q p b:Nat} {s:Sh} {k:Kl} {m:Mem} {w:World} (h:KlO F w q s k) (hw:WdsAt w p b m) (hj:k.job=none):
  Calls Tryz.prog 112 #[.pointer (some ⟨q,0, .none⟩), .pointer (some ⟨p,0, .none⟩)] w fun r w'=> KlStep F q p b w w' r s k m:=by
 have hr:k.step s m=(k,m, [],2):=by unfold Kl.step;rw [hj]
 have hb0:=((Below.refl w.heap.size w).alloc (Nat.le_refl _) (.cells #[.pointer (some ⟨q,0, .none⟩)] 36)).alloc (by simp) (.cells #[.pointer (some ⟨p,0, .none⟩)] 119)
 have hrs:k.rests=true:=by unfold Kl.rests;rw [hj];rfl
 have hre:=(h.below hb0).rests
 rw [hrs] at hre
 replace hre:=Lib.hid hre
 have hfin:Hid (∀ W,Below w.heap.size w W→KlStep F q p b w W (.returned (.tuple #[.slice none 0 0, .int .i64 2])) s k m):=Lib.hid fun W hb=> by
  refine ⟨⟨_,by rw [hr],?_⟩,?_,?_,Only.of_below hb⟩
  ·rw [hr];exact evNil _ _
  ·rw [hr];exact hw.below hb
  ·rw [hr];exact (h.below hb).weak (fun b hb=> .inl hb) (grow_lt h.lt hb.size)
 clear h hw hr hj hrs
 go_enter Tryz.func112,Tryz.ntmps112
 go_upto_region 1 with fail
 have hH:RowAt ((w.alloc (.cells #[.pointer (some ⟨q,0, .none⟩)] 36)).alloc (.cells #[.pointer (some ⟨p,0, .none⟩)] 119)) w.heap.size #[.pointer (some ⟨q,0, .none⟩)] 36:=RowAt.alloc (heap_alloc_new _ _) _
 generalize (w.alloc (.cells #[.pointer (some ⟨q,0, .none⟩)] 36)).alloc (.cells #[.pointer (some ⟨p,0, .none⟩)] 119)=X at *
 obtain ⟨H,hHH,hHH'⟩:∃ H,Hid (H=w.heap.size)∧H=w.heap.size:=⟨_,Lib.hid rfl,rfl⟩
 rw [← hHH'] at hH ⊢
 clear hHH'
 have lH:H < X.heap.size:=hH.lt
 have c0:X.cell? ⟨H,0, .none⟩=some (.pointer (some ⟨q,0, .none⟩)):=hH.cell 0
 have hnil:∀ W:World,(binOp .eql 36 (.pointer (some ⟨q,0, .none⟩)) (.pointer none)).run Tryz.prog W= .ok (.bool false) W:=fun W=> by kernel_rfl
 go_wp2_with (first | (go_at_call 64;(with_reducible refine hre.out.mono ?_);rintro r w1 ⟨rfl,hw1⟩;obtain rfl:=hw1.symm) | fail)
 go_returns
 exact hfin.out _ hb0
end Go.Proofs.YtampacmmhhilaaaGreat
