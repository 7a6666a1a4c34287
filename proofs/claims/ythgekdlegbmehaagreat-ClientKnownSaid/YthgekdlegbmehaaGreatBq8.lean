/- The magazine's machines in memory: Taker, Putter. -/
import Derived.Deep.CutBlock

import Derived.Test.YthgekdlegbmehaaGreatBq7

set_option linter.all false
set_option maxHeartbeats 1000000
set_option maxRecDepth 100000
namespace Go.Proofs.YthgekdlegbmehaaGreat

open Go.RowKit

attribute [local go_sem ↓] Go.wp_at_zero Go.wp_at_succ

def zd1 (s:Sh) (t:Tk):Array Value:= #[.int .i64 s.p,.int .i64 s.c,.int .i64 s.m,.int .i64 t.c,.int .i64 t.k,.int .i64 t.i,.int .i64 t.ep,.int .i64 t.es,.int .i64 t.ek,.bool t.hit,.bool t.found,.bool t.done]
def z1r (s:Sh) (c k:Int):Bool:=decide (0<=zae s.p s.c s.m c) && decide (0 < zah k)
theorem zwl (s:Sh) (c k:Int) (w:World):
  Calls Tryz.prog 72 #[.agg #[.int .i64 s.p,.int .i64 s.c,.int .i64 s.m],.int .i64 c,.int .i64 k] w fun e w'=> e= .returned (.bool (z1r s c k))/\Below w.heap.size w w':=by
 unfold z1r
 rcases Int.lt_or_le (zae s.p s.c s.m c) 0 with h1 | h1
 ·rw [decide_eq_false (by omega:¬ 0<=zae s.p s.c s.m c),Bool.false_and]
  go_enter Tryz.func72,Tryz.ntmps72
  go_wp2_with (first | (go_at_call 14;(with_reducible refine (zau _ _ _ _ _).mono ?_);rintro r w1 ⟨rfl,hb1⟩) | fail)
  go_ret
  exact ⟨rfl,boxedB hb1⟩
 ·rw [decide_eq_true h1,Bool.true_and]
  go_enter Tryz.func72,Tryz.ntmps72
  go_wp2_with (first | (go_at_call 14;(with_reducible refine (zau _ _ _ _ _).mono ?_);rintro r w1 ⟨rfl,hb1⟩) | (go_at_call 58;(with_reducible refine (slots_any _ _).mono ?_);rintro r w2 ⟨rfl,rfl⟩) | fail)
  go_ret
  exact ⟨rfl,boxedB hb1⟩
theorem z0e (s:Sh) (c k:Int) (w:World):
  Calls Tryz.prog 60 #[.agg #[.int .i64 s.p,.int .i64 s.c,.int .i64 s.m],.int .i64 c,.int .i64 k] w fun e w'=> Born w w' e (zd1 s (zg3 s c k)) 149:=by
 have hg:=fun W=> zwl s c k W
 obtain ⟨g,hgd,hgd'⟩:=hidv (z1r s c k)
 rw [<- hgd'] at hg
 clear hgd'
 obtain ⟨sp,sc,sm⟩:=s
 dsimp only at hg
 replace hg:=hd' hg
 have hn:zd1 ⟨sp,sc,sm⟩ (zg3 ⟨sp,sc,sm⟩ c k)= #[.int .i64 sp,.int .i64 sc,.int .i64 sm,.int .i64 c,.int .i64 k,.int .i64 0,.int .i64 0,.int .i64 0,.int .i64 0,.bool false,.bool false,.bool (!g || sm==0)]:=by
  rw [hgd.out];rfl
 rw [hn]
 clear hn hgd
 have hb0:=(Below.refl w.heap.size w).alloc lr (.cells #[.int .i64 sp,.int .i64 sc,.int .i64 sm] 24)
 have t0:=heap_alloc_new w (.cells #[.int .i64 sp,.int .i64 sc,.int .i64 sm] 24)
 go_enter Tryz.func60,Tryz.ntmps60
 go_upto_region 1 with fail
 generalize w.alloc (.cells #[.int .i64 sp,.int .i64 sc,.int .i64 sm] 24)=W at *
 obtain ⟨H,hH,hH'⟩:=hidv w.heap.size
 rw [<- hH'] at t0 ⊢
 have lH:H < W.heap.size:=(Array.getElem?_eq_some_iff.1 t0).1
 have c0:W.cell? ⟨H,0,.none⟩=some (.int .i64 sp):=zac t0 0
 have c1:W.cell? ⟨H,1,.none⟩=some (.int .i64 sc):=zac t0 1
 have c2:W.cell? ⟨H,2,.none⟩=some (.int .i64 sm):=zac t0 2
 clear hH' t0
 cases g
 all_goals
  refine zad 14 (by kernel_rfl) (by kernel_rfl) ?_
  dsimp only [List.take,List.drop]
  repeat (go_big_quiet_step ((first | (go_at_call 72;exact zam (hg.out _)) | fail)))
  refine wpQuiet_nil ?_
  rintro _ ⟨e',rfl⟩
  have hbe:=e'.below
  generalize e'.w=X at *
  change wpList _ _ _ _ _ X
  go_wp2_with fail
  go_ret
  exact za6 hb0 hbe rfl
def enP (s:Sh) (x:Int) (i:Nat):Int:=if zbi s.p s.c s.m x=true then za2 x i else 0
theorem zzr (s:Sh) (x:Int) (w:World) (hx:0<=x/\x < 18446744073709551616):
  Calls Tryz.prog 181 #[.agg #[.int .i64 s.p,.int .i64 s.c,.int .i64 s.m],.int .u64 x] w fun e w'=> e= .returned (.tuple #[.agg #[.int .i64 (enP s x 0),.int .i64 (enP s x 1),.int .i64 (enP s x 2)],.bool (zbi s.p s.c s.m x)])/\Below w.heap.size w w':=by
 refine (zp3 s.p s.c s.m x w hx.1 hx.2).mono ?_
 rintro e w' ⟨hb,rfl⟩
 refine ⟨?_,hb⟩
 unfold enP
 cases zbi s.p s.c s.m x <;> rfl
theorem yam {l:List Oper} {aF:Act} {Q:Exit->Act->World->Prop} {x:zd0} {a0 a1 a2:Int} {ty1 ty2:TypeId} {p1 p2:String} {af1 af2:Array Edge} {oz:Oper}
  (ht:x.t=147) (hz:x.zero= #[.int .i64 0,.int .i64 0,.int .i64 0]) (hv:x.val= #[.int .i64 a0,.int .i64 a1,.int .i64 a2]) (hF:aF.eval (.tmp x.src)= .agg #[.int .i64 a0,.int .i64 a1,.int .i64 a2])
  (h1:l.toArray[x.al]?=some { dst:=some x.d,op:= .alloc 147,type:=ty1,pos:=p1,after:=af1,guard:=none })
  (h2:l.toArray[x.st]?=some { dst:=none,op:= .store 147 (.tmp x.d) (.tmp x.src),type:=ty2,pos:=p2,after:=af2,guard:=none })
  (h3:l.toArray[x.so]?=some oz) (h4:oz.dst=some x.src) (ha:(af2.any fun e=> Region.binds .any e && e.on==x.al)=true) (hs:(af2.any fun e=> Region.binds .any e && e.on==x.so)=true):ze2 Tryz.prog l Q aF x:=by
 obtain ⟨al,st,so,d,src,t,zero,val⟩:=x
 subst ht hz hv
 dsimp only at *
 refine ⟨fun a w K hK=> ?_,fun a w K M e1 e2 hM hK=> ?_,fun listed hr=> ?_,⟨oz,h3,h4⟩⟩
 ·unfold wpOp
  rw [h1]
  simp only [Region.wanted,if_true]
  left
  simp [go_sem,Oper.wp]
  exact hK
 ·unfold wpOp
  rw [h2]
  simp only [Region.wanted,if_true]
  left
  have m0:w.cell? ⟨M,0,.none⟩=some (.int .i64 0):=zac hM 0
  have m1:w.cell? ⟨M,1,.none⟩=some (.int .i64 0):=zac hM 1
  have m2:w.cell? ⟨M,2,.none⟩=some (.int .i64 0):=zac hM 2
  have f0:∀ i,w.frozen? ⟨M,i,.none⟩=false:=fun i=> zax hM i
  rw [<- e2] at hF
  have e3:a.tmps[d]?.getD undef= .pointer (some ⟨M,0,.none⟩):=by simpa [Act.eval,vptr] using e1
  have e4:a.tmps[src]?.getD undef= .agg #[.int .i64 a0,.int .i64 a1,.int .i64 a2]:=by simpa [Act.eval] using hF
  simp [go_sem,Oper.wp,e3,e4,m0,m1,m2,f0]
  refine hK _ ?_ ?_ ?_
  ·rw [heap_setCell_same _ M 2 _ _ _ (heap_setCell_same _ M 1 _ _ _ (heap_setCell_same _ M 0 _ _ _ hM))];rfl
  ·exact ((((Only.refl (fun k=> k=M) w).setCell (p:=⟨M,0,.none⟩) (.inl rfl) _).setCell (p:=⟨M,1,.none⟩) (.inl rfl) _).setCell (p:=⟨M,2,.none⟩) (.inl rfl) _)
  ·simp [World.setCell]
 ·obtain ⟨_,o,ho,he⟩:=mem_ready.1 hr
  rw [h2] at ho
  injection ho with ho
  subst ho
  have out:∀ n,(af2.any fun e=> Region.binds .any e && e.on==n)=true->listed.getD n false=true:=fun n hn=> by
   obtain ⟨i,hi,hu⟩:=Array.any_eq_true.1 hn
   simp only [Bool.and_eq_true,beq_iff_eq] at hu
   exact hu.2 ▸ he _ (Array.getElem_mem hi) hu.1
  exact ⟨out _ ha,out _ hs⟩
def yen (t:Tk) (s:Sh) (_:Mem):Prop:=(0<=t.i/\t.i < s.m)/\0<=s.m/\s.m<=8
theorem zxs (q p b:Nat) (s:Sh) (t:Tk) (m:Mem) (w:World) (hq:zaa w q (zd1 s t) 149) (hw:zaq w p b m) (hqp:q≠p) (hqb:q≠b) (hf:Fits s m) (ho:tkOk s t) (hs:m.st < 1000000000):
  Calls Tryz.prog 180 #[.pointer (some ⟨q,0,.none⟩),.pointer (some ⟨p,0,.none⟩)] w fun e w'=> Stepped q p b w w' e (zd1 s (zd2 s t m).1) 149 (zd2 s t m).2:=by
 have h0:=At3.start hq hw hqp hqb
 clear hq hw
 rcases Bool.eq_false_or_eq_true t.done with hd | hd
 ·have hr:zd2 s t m=(t,m):=by unfold zd2;rw [if_pos hd]
  rw [hr]
  clear hr
  have c11:w.cell? ⟨q,11,.none⟩=some (.bool true):=by rw [<- hd];exact h0.cell 11
  clear ho hd hf
  go_enter Tryz.func180,Tryz.ntmps180
  go_wp2_with fail
  go_returns
  exact h0.fin rfl rfl
 obtain ⟨hc,hi⟩:=ho.cl hd
 obtain ⟨hix,hhas⟩:=hf.mag hc hi
 have hmg:=fun W=> zjh s.p s.c s.m t.c t.i W
 rw [hix] at hmg
 rcases Bool.eq_false_or_eq_true t.hit with hh | hh
 ·have hr:zd2 s t m=({ t with found:=true,done:=true },m.store t.c (s.c + s.p + s.p * 16 + t.c * s.m + t.i) 0):=by unfold zd2;rw [if_neg (by rw [hd];decide),if_pos hh,hix]
  rw [hr]
  clear hr
  have hst:=fun W (hW:zaq W p b m)=> zba p b m t.c (s.c + s.p + s.p * 16 + t.c * s.m + t.i) 0 W hW hhas (by decide) hs
  clear hix hhas hf ho hc hi
  obtain ⟨a,ha⟩:∃ a,a=s.c + s.p + s.p * 16 + t.c * s.m + t.i:=⟨_,rfl⟩
  rw [<- ha] at hst hmg ⊢
  clear ha
  obtain ⟨tc,tk,ti,tep,tes,tek,thit,tfound,tdone⟩:=t
  obtain ⟨sp,sc,sm⟩:=s
  dsimp only at hd hh hst hmg ⊢
  subst hd hh
  have lq:=h0.lt
  obtain ⟨c0,c1,c2,c3⟩:=ci4 sp sc sm tc h0.cell
  have c5:=ci ti (h0.cell 5)
  have c9:=ce (.bool true) (h0.cell 9)
  have c11:=ce (.bool false) (h0.cell 11)
  replace hst:=hd' hst
  replace hmg:=hd' hmg
  go_enter Tryz.func180,Tryz.ntmps180
  go_upto_region 1 with fail
  refine zaj (by kernel_rfl) (by kernel_rfl) ?_
  repeat (go_big_quiet_step ((first | (go_at_call 149;exact zam (hmg.out _)) | fail)))
  refine wpQuiet_nil ?_
  rintro _ ⟨e',rfl⟩
  have hX:=h0.below e'.below
  generalize e'.w=X at *
  have k3:=ci tc (hX.cell 3)
  have k5:=ci ti (hX.cell 5)
  have k9:=ce (.bool true) (hX.cell 9)
  clear c0 c1 c2 c3 c5 c9 c11 h0 hmg
  go_wp2_with (first | (go_at_call 118;(with_reducible refine (hst.out _ hX.wds).mono ?_);rintro r w1 ⟨rfl,hw1,ho1⟩;have hA:=hX.access hw1 ho1;have z10:=ce (.bool tfound) (hA.cell 10);have z11:=ce (.bool false) (hA.cell 11);have zf:=hA.free) | fail)
  go_returns
  exact ((hA.set 10 _).set 11 _).fin rfl rfl
 ·have hr:zd2 s t m=(if zbi s.p s.c s.m (m.get (s.c + s.p + s.p * 16 + t.c * s.m + t.i))=true/\enP s (m.get (s.c + s.p + s.p * 16 + t.c * s.m + t.i)) 2=t.k then { t with ep:=enP s (m.get (s.c + s.p + s.p * 16 + t.c * s.m + t.i)) 0,es:=enP s (m.get (s.c + s.p + s.p * 16 + t.c * s.m + t.i)) 1,ek:=enP s (m.get (s.c + s.p + s.p * 16 + t.c * s.m + t.i)) 2,hit:=true } else { t with i:=t.i + 1,done:=decide (t.i + 1=s.m) },m.load t.c (s.c + s.p + s.p * 16 + t.c * s.m + t.i)):=by
   unfold zd2 enP
   rw [if_neg (by rw [hd];decide),if_neg (by rw [hh];decide),hix]
   by_cases hx:zbi s.p s.c s.m (m.get (s.c + s.p + s.p * 16 + t.c * s.m + t.i))=true
   ·simp only [hx,true_and,if_true]
    split <;> rfl
   ·simp [hx]
  rw [hr]
  clear hr
  have hld:=fun W (hW:zaq W p b m)=> zc1 p b m t.c (s.c + s.p + s.p * 16 + t.c * s.m + t.i) W hW hhas hs
  have hre:=fun W=> zzr s (m.get (s.c + s.p + s.p * 16 + t.c * s.m + t.i)) W (Mem.ze4 h0.wds.fit _)
  have hib:yen t s m:=⟨hi,hf.bd.2.2.2.2⟩
  clear hix hhas hf ho hc hi
  obtain ⟨a,ha⟩:∃ a,a=s.c + s.p + s.p * 16 + t.c * s.m + t.i:=⟨_,rfl⟩
  rw [<- ha] at hld hmg hre ⊢
  clear ha
  obtain ⟨x,hx⟩:∃ x,x=m.get a:=⟨_,rfl⟩
  rw [<- hx] at hld hre ⊢
  clear hx
  obtain ⟨B,hB⟩:∃ B,B=zbi s.p s.c s.m x:=⟨_,rfl⟩
  obtain ⟨e0,he0⟩:∃ e,e=enP s x 0:=⟨_,rfl⟩
  obtain ⟨e1,he1⟩:∃ e,e=enP s x 1:=⟨_,rfl⟩
  obtain ⟨e2,he2⟩:∃ e,e=enP s x 2:=⟨_,rfl⟩
  rw [<- hB,<- he0,<- he1,<- he2] at hre ⊢
  clear hB he0 he1 he2
  obtain ⟨tc,tk,ti,tep,tes,tek,thit,tfound,tdone⟩:=t
  obtain ⟨sp,sc,sm⟩:=s
  dsimp only [yen] at hd hh hld hmg hre hib ⊢
  subst hd hh
  obtain ⟨⟨i0,i1⟩,i2,i3⟩:=hib
  obtain ⟨t2,ht2,ht2'⟩:∃ t2:Tk,Hid (t2=if B=true/\e2=tk then ⟨tc,tk,ti,e0,e1,e2,true,tfound,false⟩ else ⟨tc,tk,ti + 1,tep,tes,tek,false,tfound,decide (ti + 1=sm)⟩)/\t2=_:=⟨_,hd' rfl,rfl⟩
  rw [<- ht2']
  clear ht2'
  have lq:=h0.lt
  obtain ⟨c0,c1,c2,c3⟩:=ci4 sp sc sm tc h0.cell
  have c5:=ci ti (h0.cell 5)
  have c9:=ce (.bool false) (h0.cell 9)
  have c11:=ce (.bool false) (h0.cell 11)
  replace hld:=hd' hld
  replace hre:=hd' hre
  replace hmg:=hd' hmg
  go_enter Tryz.func180,Tryz.ntmps180
  go_upto_region 1 with fail
  refine zaj (by kernel_rfl) (by kernel_rfl) ?_
  repeat (go_big_quiet_step ((first | (go_at_call 149;exact zam (hmg.out _)) | fail)))
  refine wpQuiet_nil ?_
  rintro _ ⟨e',rfl⟩
  have hX:=h0.below e'.below
  generalize e'.w=X at *
  have lqX:=hX.lt
  obtain ⟨k0,k1,k2,k3⟩:=ci4 sp sc sm tc hX.cell
  have k5:=ci ti (hX.cell 5)
  have k9:=ce (.bool false) (hX.cell 9)
  clear c0 c1 c2 c3 c5 c9 c11 h0 hmg
  go_upto_region 5 with fail
  go_cut [5,6] (fun s5 s6 wx=> ∃ E,s5= .pointer (some ⟨E,0,.none⟩)/\s6= .bool B/\w.heap.size<=E/\zaa wx E #[.int .i64 e0,.int .i64 e1,.int .i64 e2] 147/\At3 q p b w wx (zd1 ⟨sp,sc,sm⟩ ⟨tc,tk,ti,tep,tes,tek,false,tfound,false⟩) 149 (m.load tc a))
  case first=>
   refine zcl (x:=⟨15,16,13,5,58,147, #[.int .i64 0,.int .i64 0,.int .i64 0], #[.int .i64 e0,.int .i64 e1,.int .i64 e2]⟩) (ld:=10) (v:= .int .u64 x) (ts:= [50,54,55])
    (K0:=fun Y=> At3 q p b w Y (zd1 ⟨sp,sc,sm⟩ ⟨tc,tk,ti,tep,tes,tek,false,tfound,false⟩) 149 m) (K1:=fun Y=> At3 q p b w Y (zd1 ⟨sp,sc,sm⟩ ⟨tc,tk,ti,tep,tes,tek,false,tfound,false⟩) 149 (m.load tc a))
    (by kernel_rfl) (by simp only [zfq,zej,nopO,nopC,Nat.reduceBEq,Bool.or_false,Bool.or_true,Bool.false_eq_true,↓reduceIte,Nat.reduceAdd];exact rfl) (by kernel_rfl) (by kernel_rfl) (by kernel_rfl) (by dsimp only;decide) (by dsimp only;simp) (by dsimp only;decide) (by dsimp only;simp) (by kernel_rfl) (by dsimp only;decide) (by simp)
    ⟨⟨fun Y Y' h1 h2 h3=> h1.far h2 h3 hX.only.size⟩,⟨fun Y Y' h1 h2 h3=> h1.far h2 h3 hX.only.size⟩⟩ hX.drew ?_
   apply Exists.intro
   refine ⟨fun B hb hs=> ?_,fun _=> ?_,?_,?_⟩
   case refine_1=>
    have hrB:zaa B q (zd1 ⟨sp,sc,sm⟩ ⟨tc,tk,ti,tep,tes,tek,false,tfound,false⟩) 149:=hb.elim (fun h=> h.row) (fun h=> h.row)
    have lB:=hrB.lt
    obtain ⟨k0,k1,k2,k3⟩:=ci4 sp sc sm tc hrB.cell
    repeat (go_big_quiet_step ((first | (go_at_call 181;exact zam (hre.out _)) | fail)))
    exact wpQuiet_nil rfl
   case refine_2=> exact yam rfl rfl rfl rfl rfl rfl rfl rfl (by dsimp only;decide +kernel) (by dsimp only;decide +kernel)
   case refine_3=> exact zcz rfl (fun _ _=> by simp [go_sem]) fun Y hY hs=> (hld.out Y hY.wds).mono fun r Y' ⟨h1,h2,h3⟩=> ⟨h1,hY.load h2 h3,h3.weak fun k hk=> hk ▸ Nat.lt_of_lt_of_le hY.ls.2.1 hX.only.size⟩
   case refine_4=>
    intro a w4 M hf
    obtain ⟨rfl,hbig,hk1,hone⟩:=hf
    obtain ⟨hM,hone⟩:=hone (by simp)
    simp only [Act.put,vput,vptr]
    go_wp2
    go_meet
    exact ⟨_,rfl,rfl,Nat.le_trans hX.only.size hM,hone,hk1⟩
  case rest=>
   obtain ⟨E,rfl,rfl,hE,hEr,hA⟩:=hcut
   have hEq:E≠q:=fun e=> by rw [e] at hE;omega
   obtain ⟨g0,g1,g2⟩:=ci3 e0 e1 e2 hEr.cell
   obtain ⟨z0,z1,z2,z3,z4,z5,z6,z7⟩:=ci8 sp sc sm tc tk ti tep tes hA.cell
   have z8:=ci tek (hA.cell 8)
   have z9:=ce (.bool false) (hA.cell 9)
   have z10:=ce (.bool tfound) (hA.cell 10)
   have z11:=ce (.bool false) (hA.cell 11)
   have zf:=hA.free
   clear k0 k1 k2 k3 k5 k9 hX lqX hld hre
   have w1:=wrp (ti + 1)
   have hgoon:∀ (Y:World),At3 q p b w Y (zd1 ⟨sp,sc,sm⟩ ⟨tc,tk,ti,tep,tes,tek,false,tfound,false⟩) 149 (m.load tc a)->True:=fun _ _=> trivial
   by_cases hB:B=true/\e2=tk
   ·obtain ⟨rfl,rfl⟩:=hB
    go_wp2_with fail
    go_quiet (fail)
    have hA2:=hA.drewN nq
    have hE2:=hEr.drewN nq
    clear g0 g1 g2 z0 z1 z2 z3 z4 z5 z6 z7 z8 z9 z10 z11 zf hEr hA w1 hgoon
    generalize wc.drewN nq=V at *
    obtain ⟨g0,g1,g2⟩:=ci3 e0 e1 e2 hE2.cell
    have z6:=ci tep (hA2.cell 6)
    have z7:=ci tes (hA2.cell 7)
    have z8:=ci tek (hA2.cell 8)
    have z9:=ce (.bool false) (hA2.cell 9)
    have z10:=ce (.bool tfound) (hA2.cell 10)
    have z11:=ce (.bool false) (hA2.cell 11)
    have zf:=hA2.free
    go_wp2_with fail
    go_returns
    exact ((((hA2.set 6 _).set 7 _).set 8 _).set 9 _).fin (by rw [ht2.out,if_pos (by simp)];rfl) rfl
   ·have hr:t2=⟨tc,tk,ti + 1,tep,tes,tek,false,tfound,decide (ti + 1=sm)⟩:=by rw [ht2.out,if_neg hB]
    replace hr:=hd' hr
    clear ht2
    have hne:B=false\/(B=true/\(e2==tk)=false):=by
     rcases Bool.eq_false_or_eq_true B with h | h
     ·exact .inr ⟨h,by simpa [h] using hB⟩
     ·exact .inl h
    clear hB
    rcases hne with rfl | ⟨rfl,hne⟩
    all_goals
     go_wp2_with fail
     go_quiet (fail)
     have hA2:=hA.drewN nq
     clear g0 g1 g2 z0 z1 z2 z3 z4 z5 z6 z7 z8 z9 z10 z11 zf hEr hA
     generalize wc.drewN nq=V at *
     obtain ⟨z0,z1,z2,z3⟩:=ci4 sp sc sm tc hA2.cell
     have z5:=ci ti (hA2.cell 5)
     have zf:=hA2.free
     go_upto_region 9 with fail
     have hA3:=hA2.set 5 (.int .i64 (ti + 1))
     generalize V.setCell ⟨q,5,.none⟩ (.int .i64 (ti + 1))=U at *
     have lU:=hA3.lt
     clear z0 z1 z2 z3 z5 zf hA2
     obtain ⟨z0,z1,z2,z3⟩:=ci4 sp sc sm tc hA3.cell
     have z5:=ci (ti + 1) (hA3.cell 5)
     refine zad 13 (by kernel_rfl) (by kernel_rfl) ?_
     dsimp only [List.take,List.drop]
     repeat (go_big_quiet_step (fail))
     refine wpQuiet_nil ?_
     rintro _ ⟨e2',rfl⟩
     have hA4:=hA3.below e2'.below
     clear z0 z1 z2 z3 z5 hA3 lU
     generalize e2'.w=T at *
     change wpList _ _ _ _ _ T
     have z11:=ce (.bool false) (hA4.cell 11)
     have zf:=hA4.free
     go_wp2_with fail
     go_returns
     exact (hA4.set 11 _).fin (by rw [hr.out];rfl) rfl
def zeh (s:Sh) (t:Pu):Array Value:= #[.int .i64 s.p,.int .i64 s.c,.int .i64 s.m,.int .i64 t.c,.int .i64 t.i,.int .i64 t.ep,.int .i64 t.es,.int .i64 t.ek,.bool t.hit,.bool t.put,.bool t.done]
theorem z00 (s:Sh) (c pg sl k:Int) (w:World):
  Calls Tryz.prog 148 #[.agg #[.int .i64 s.p,.int .i64 s.c,.int .i64 s.m],.int .i64 c,.int .i64 pg,.int .i64 sl,.int .i64 k] w fun e w'=> Born w w' e (zeh s (zg5 s c pg sl k)) 208:=by
 have hg:=fun W=> zwl s c k W
 have hp:=fun W=> planPage_any s.p s.c s.m pg W
 have hs:=fun W=> slots_any k W
 have hn:zeh s (zg5 s c pg sl k)= #[.int .i64 s.p,.int .i64 s.c,.int .i64 s.m,.int .i64 c,.int .i64 0,.int .i64 pg,.int .i64 sl,.int .i64 k,.bool false,.bool false,.bool (!(z1r s c k && decide (0<=zak s.p s.c s.m pg) && decide (0<=sl) && decide (sl < zah k)) || s.m==0)]:=rfl
 rw [hn]
 clear hn
 generalize z1r s c k=g at *
 generalize zak s.p s.c s.m pg=px at *
 generalize zah k=sv at *
 obtain ⟨sp,sc,sm⟩:=s
 dsimp only at hg hp ⊢
 replace hg:=hd' hg
 replace hp:=hd' hp
 replace hs:=hd' hs
 have hcs:(g=false)\/(g=true/\px < 0)\/(g=true/\0<=px/\sl < 0)\/(g=true/\0<=px/\0<=sl/\sl < sv)\/(g=true/\0<=px/\0<=sl/\sv<=sl):=by
  cases g <;> simp <;> omega
 have hb0:=(Below.refl w.heap.size w).alloc lr (.cells #[.int .i64 sp,.int .i64 sc,.int .i64 sm] 24)
 have t0:=heap_alloc_new w (.cells #[.int .i64 sp,.int .i64 sc,.int .i64 sm] 24)
 go_enter Tryz.func148,Tryz.ntmps148
 go_upto_region 1 with fail
 generalize w.alloc (.cells #[.int .i64 sp,.int .i64 sc,.int .i64 sm] 24)=W at *
 obtain ⟨H,hH,hH'⟩:=hidv w.heap.size
 rw [<- hH'] at t0 ⊢
 have lH:H < W.heap.size:=(Array.getElem?_eq_some_iff.1 t0).1
 have c0:W.cell? ⟨H,0,.none⟩=some (.int .i64 sp):=zac t0 0
 have c1:W.cell? ⟨H,1,.none⟩=some (.int .i64 sc):=zac t0 1
 have c2:W.cell? ⟨H,2,.none⟩=some (.int .i64 sm):=zac t0 2
 clear hH' t0
 rcases hcs with rfl | ⟨rfl,h1⟩ | ⟨rfl,h1,h2⟩ | ⟨rfl,h1,h2,h3⟩ | ⟨rfl,h1,h2,h3⟩
 all_goals
  go_wp2_with (first
   | (go_at_call 72;(with_reducible refine (hg.out _).mono ?_);rintro r w1 ⟨rfl,hb1⟩;have d0:=zai hb1 _ _ _ c0;have d1:=zai hb1 _ _ _ c1;have d2:=zai hb1 _ _ _ c2)
   | (go_at_call 59;(with_reducible refine (hp.out _).mono ?_);rintro r w2 ⟨rfl,hb2⟩;have k0:=zai hb2 _ _ _ d0;have k1:=zai hb2 _ _ _ d1;have k2:=zai hb2 _ _ _ d2)
   | (go_at_call 58;(with_reducible refine (hs.out _).mono ?_);rintro r w3 ⟨rfl,rfl⟩)
   | fail)
  go_returns
  first | exact za6 hb0 hb1 rfl | refine za6 hb0 (zab hb1 hb2) ?_
 ·simp [Int.not_le.2 h1]
 ·simp [Int.not_le.2 h2]
 ·simp [h1,h2,h3]
 ·simp [h1,h2,Int.not_lt.2 h3]
theorem zxz (q p b:Nat) (s:Sh) (t:Pu) (m:Mem) (w:World) (hq:zaa w q (zeh s t) 208) (hw:zaq w p b m) (hqp:q≠p) (hqb:q≠b) (hf:Fits s m) (ho:puOk s t) (hs:m.st < 1000000000):
  Calls Tryz.prog 144 #[.pointer (some ⟨q,0,.none⟩),.pointer (some ⟨p,0,.none⟩)] w fun e w'=> Stepped q p b w w' e (zeh s (zd3 s t m).1) 208 (zd3 s t m).2:=by
 have h0:=At3.start hq hw hqp hqb
 clear hq hw
 rcases Bool.eq_false_or_eq_true t.done with hd | hd
 ·have hr:zd3 s t m=(t,m):=by unfold zd3;rw [if_pos hd]
  rw [hr]
  clear hr
  have c10:w.cell? ⟨q,10,.none⟩=some (.bool true):=by rw [<- hd];exact h0.cell 10
  clear ho hd hf
  go_enter Tryz.func144,Tryz.ntmps144
  go_wp2_with fail
  go_returns
  exact h0.fin rfl rfl
 obtain ⟨hc,hi⟩:=ho.cl hd
 obtain ⟨hix,hhas⟩:=hf.mag hc hi
 have hib:=hf.bd.2.2.2.2
 have hmg:=fun W=> zjh s.p s.c s.m t.c t.i W
 rw [hix] at hmg
 have hld:=fun W (hW:zaq W p b m)=> zc1 p b m t.c (s.c + s.p + s.p * 16 + t.c * s.m + t.i) W hW hhas hs
 have hpe:=fun W=> zes t.ep t.es t.ek W
 have hst:=fun W (hW:zaq W p b m)=> zba p b m t.c (s.c + s.p + s.p * 16 + t.c * s.m + t.i) (putV 1 [t.ep,t.es,t.ek]) W hW hhas (zj3 _ _ (by decide) (by simp)) hs
 obtain ⟨r,hr⟩:∃ r,r=zd3 s t m:=⟨_,rfl⟩
 rw [<- hr]
 unfold zd3 at hr
 rw [if_neg (by rw [hd];decide),hix] at hr
 generalize s.c + s.p + s.p * 16 + t.c * s.m + t.i=a at hr hmg hld hst
 clear hix hhas hf ho
 obtain ⟨tc,ti,tep,tes,tek,thit,tput,tdone⟩:=t
 obtain ⟨sp,sc,sm⟩:=s
 dsimp only at hd hc hi hib hmg hld hpe hst hr
 subst hd
 obtain ⟨i0,i1⟩:=hi
 obtain ⟨i2,i3⟩:=hib
 clear hc
 have lq:=h0.lt
 generalize putV 1 [tep,tes,tek]=y at hst hpe hr
 have w1:=wrp (ti + 1)
 replace hmg:=hd' hmg
 replace hld:=hd' hld
 replace hpe:=hd' hpe
 replace hst:=hd' hst
 rcases Bool.eq_false_or_eq_true thit with hh | hh
 ·subst hh
  rw [if_pos rfl] at hr
  subst hr
  obtain ⟨c0,c1,c2,c3,c4,c5,c6,c7⟩:=ci8 sp sc sm tc ti tep tes tek h0.cell
  have c8:=ce (.bool true) (h0.cell 8)
  have c9:=ce (.bool tput) (h0.cell 9)
  have c10:=ce (.bool false) (h0.cell 10)
  go_enter Tryz.func144,Tryz.ntmps144
  go_upto_region 1 with fail
  refine zaj (by kernel_rfl) (by kernel_rfl) ?_
  repeat (go_big_quiet_step ((first | (go_at_call 149;exact zam (hmg.out _)) | fail)))
  refine wpQuiet_nil ?_
  rintro _ ⟨e',rfl⟩
  have hX:=h0.below e'.below
  generalize e'.w=X at *
  clear c0 c1 c2 c3 c4 c5 c6 c7 c8 c9 c10 h0
  have k3:=ci tc (hX.cell 3)
  have k5:=ci tep (hX.cell 5)
  have k6:=ci tes (hX.cell 6)
  have k7:=ci tek (hX.cell 7)
  have k8:=ce (.bool true) (hX.cell 8)
  have lX:=hX.lt
  go_upto_region 5 with fail
  refine zad 11 (by kernel_rfl) (by kernel_rfl) ?_
  dsimp only [List.take,List.drop]
  repeat (go_big_quiet_step ((first | (go_at_call 150;exact zam (hpe.out _)) | fail)))
  refine wpQuiet_nil ?_
  rintro _ ⟨e',rfl⟩
  have hY:=hX.below e'.below
  generalize e'.w=Y at *
  change wpList _ _ _ _ _ Y
  clear k3 k5 k6 k7 k8 hX lX
  go_wp2_with (first | (go_at_call 118;(with_reducible refine (hst.out _ hY.wds).mono ?_);rintro r w1 ⟨rfl,hw1,ho1⟩;have hA:=hY.access hw1 ho1;have z9:=ce (.bool tput) (hA.cell 9);have z10:=ce (.bool false) (hA.cell 10);have zf:=hA.free) | fail)
  go_returns
  exact ((hA.set 9 _).set 10 _).fin rfl rfl
 ·subst hh
  rw [if_neg (by decide)] at hr
  have hx:m.get a=0\/(m.get a==0)=false:=by
   by_cases h:m.get a=0
   ·exact .inl h
   ·exact .inr (by simpa using h)
  obtain ⟨x,hxx⟩:∃ x,x=m.get a:=⟨_,rfl⟩
  rw [<- hxx] at hx hr hld
  clear hxx
  obtain ⟨c0,c1,c2,c3,c4,c5,c6,c7⟩:=ci8 sp sc sm tc ti tep tes tek h0.cell
  have c8:=ce (.bool false) (h0.cell 8)
  have c9:=ce (.bool tput) (h0.cell 9)
  have c10:=ce (.bool false) (h0.cell 10)
  go_enter Tryz.func144,Tryz.ntmps144
  go_upto_region 1 with fail
  refine zaj (by kernel_rfl) (by kernel_rfl) ?_
  repeat (go_big_quiet_step ((first | (go_at_call 149;exact zam (hmg.out _)) | fail)))
  refine wpQuiet_nil ?_
  rintro _ ⟨e',rfl⟩
  have hX:=h0.below e'.below
  generalize e'.w=X at *
  clear c0 c1 c2 c3 c4 c5 c6 c7 c8 c9 c10 h0
  have k3:=ci tc (hX.cell 3)
  have k8:=ce (.bool false) (hX.cell 8)
  rcases hx with rfl | hx
  ·rw [if_pos rfl] at hr
   subst hr
   go_wp2_with (first | (go_at_call 123;(with_reducible refine (hld.out _ hX.wds).mono ?_);rintro r w1 ⟨rfl,hw1,ho1⟩;have hA:=hX.load hw1 ho1;have z8:=ce (.bool false) (hA.cell 8);have zf:=hA.free) | fail)
   go_returns
   exact (hA.set 8 _).fin rfl rfl
  ·rw [if_neg (by simpa using hx)] at hr
   subst hr
   go_upto_region 3 with (first | (go_at_call 123;(with_reducible refine (hld.out _ hX.wds).mono ?_);rintro r w1 ⟨rfl,hw1,ho1⟩;have hA:=hX.load hw1 ho1;have z4:=ci ti (hA.cell 4);have zf:=hA.free) | fail)
   have hB:=hA.set 4 (.int .i64 (ti + 1))
   generalize World.setCell _ ⟨q,4,.none⟩ (.int .i64 (ti + 1))=U at *
   clear z4 zf hA hX k3 k8
   obtain ⟨z0,z1,z2,z3,z4⟩:=ci5 sp sc sm tc (ti + 1) hB.cell
   have lU:=hB.lt
   refine zad 13 (by kernel_rfl) (by kernel_rfl) ?_
   dsimp only [List.take,List.drop]
   repeat (go_big_quiet_step (fail))
   refine wpQuiet_nil ?_
   rintro _ ⟨e',rfl⟩
   have hC:=hB.below e'.below
   generalize e'.w=T at *
   change wpList _ _ _ _ _ T
   have k10:=ce (.bool false) (hC.cell 10)
   have zf:=hC.free
   go_wp2_with fail
   go_returns
   exact (hC.set 10 _).fin rfl rfl
end Go.Proofs.YthgekdlegbmehaaGreat
