/- The Seeker in memory: its small methods. -/
import Derived.Test.YtampacmmhhilaaaGreatBm11

set_option linter.all false
namespace Go.Proofs.YtampacmmhhilaaaGreat

open Go.RowKit

attribute [local go_sem ↓] Go.wp_at_zero Go.wp_at_succ

theorem run_ta_tk_tk (v:Value) (W:World):(Instr.typeAssert (.iface 292 v) 289 292 true).run Tryz.prog W= .ok (.tuple #[v, .bool true]) W:=by kernel_rfl
theorem run_ta_sc_tk (v:Value) (W:World):(Instr.typeAssert (.iface 316 v) 289 292 true).run Tryz.prog W= .ok (.tuple #[.pointer none, .bool false]) W:=by kernel_rfl
theorem run_ta_sc_sc (v:Value) (W:World):(Instr.typeAssert (.iface 316 v) 289 316 true).run Tryz.prog W= .ok (.tuple #[v, .bool true]) W:=by kernel_rfl
theorem run_ta_pc_tk (v:Value) (W:World):(Instr.typeAssert (.iface 318 v) 289 292 true).run Tryz.prog W= .ok (.tuple #[.pointer none, .bool false]) W:=by kernel_rfl
theorem run_ta_pc_sc (v:Value) (W:World):(Instr.typeAssert (.iface 318 v) 289 316 true).run Tryz.prog W= .ok (.tuple #[.pointer none, .bool false]) W:=by kernel_rfl
theorem run_ta_pc_pc (v:Value) (W:World):(Instr.typeAssert (.iface 318 v) 289 318 true).run Tryz.prog W= .ok (.tuple #[v, .bool true]) W:=by kernel_rfl
theorem run_ta_sp_tk (v:Value) (W:World):(Instr.typeAssert (.iface 294 v) 289 292 true).run Tryz.prog W= .ok (.tuple #[.pointer none, .bool false]) W:=by kernel_rfl
theorem run_ta_sp_sc (v:Value) (W:World):(Instr.typeAssert (.iface 294 v) 289 316 true).run Tryz.prog W= .ok (.tuple #[.pointer none, .bool false]) W:=by kernel_rfl
theorem run_ta_sp_pc (v:Value) (W:World):(Instr.typeAssert (.iface 294 v) 289 318 true).run Tryz.prog W= .ok (.tuple #[.pointer none, .bool false]) W:=by kernel_rfl
theorem run_ta_sp_sp (v:Value) (W:World):(Instr.typeAssert (.iface 294 v) 289 294 true).run Tryz.prog W= .ok (.tuple #[v, .bool true]) W:=by kernel_rfl
theorem run_ta_bn_tk (v:Value) (W:World):(Instr.typeAssert (.iface 321 v) 289 292 true).run Tryz.prog W= .ok (.tuple #[.pointer none, .bool false]) W:=by kernel_rfl
theorem run_ta_bn_sc (v:Value) (W:World):(Instr.typeAssert (.iface 321 v) 289 316 true).run Tryz.prog W= .ok (.tuple #[.pointer none, .bool false]) W:=by kernel_rfl
theorem run_ta_bn_pc (v:Value) (W:World):(Instr.typeAssert (.iface 321 v) 289 318 true).run Tryz.prog W= .ok (.tuple #[.pointer none, .bool false]) W:=by kernel_rfl
theorem run_ta_bn_sp (v:Value) (W:World):(Instr.typeAssert (.iface 321 v) 289 294 true).run Tryz.prog W= .ok (.tuple #[.pointer none, .bool false]) W:=by kernel_rfl
theorem run_ta_bn_bn (v:Value) (W:World):(Instr.typeAssert (.iface 321 v) 289 321 true).run Tryz.prog W= .ok (.tuple #[v, .bool true]) W:=by kernel_rfl
attribute [local go_sem ↓] run_ta_tk_tk run_ta_sc_tk run_ta_sc_sc run_ta_pc_tk run_ta_pc_sc run_ta_pc_pc run_ta_sp_tk run_ta_sp_sc run_ta_sp_pc run_ta_sp_sp run_ta_bn_tk run_ta_bn_sc run_ta_bn_pc run_ta_bn_sp run_ta_bn_bn

def mcCells (s:Sh):Mc→Array Value
 | .tk t=> tkCells s t
 | .sc t=> scCells s t
 | .pc t=> pcCells s t
 | .sp t=> spCells s t
 | .bn t=> bnCells s t
def mcT:Mc→TypeId
 | .tk _=> 304
 | .sc _=> 323
 | .pc _=> 325
 | .sp _=> 328
 | .bn _=> 331
/-- A machine as a value of the interface's type. -/
def mcV:Mc→Nat→Value
 | .tk _,q=> .iface 292 (.pointer (some ⟨q,0, .none⟩))
 | .sc _,q=> .iface 316 (.pointer (some ⟨q,0, .none⟩))
 | .pc _,q=> .iface 318 (.pointer (some ⟨q,0, .none⟩))
 | .sp _,q=> .iface 294 (.pointer (some ⟨q,0, .none⟩))
 | .bn _,q=> .iface 321 (.pointer (some ⟨q,0, .none⟩))
def nowV (o:Option Mc) (q:Nat):Value:=match o with
 | none=> .nilIface
 | some x=> mcV x q
def skCells (s:Sh) (t:Sk) (nv:Value):Array Value:= #[.int .i64 s.p, .int .i64 s.c, .int .i64 s.m, .int .i64 t.c, .int .i64 t.k, .int .i64 t.first,nv, .int .i64 t.many, .int .i64 t.page, .int .i64 t.slot, .bool t.found, .bool t.done]
/-- The Seeker's object in block q, the machine at hand in block q2. -/
structure SkAt (w:World) (q q2:Nat) (s:Sh) (t:Sk):Prop where
 row:RowAt w q (skCells s t (nowV t.now q2)) 291
 inn:∀ x,t.now=some x→RowAt w q2 (mcCells s x) (mcT x)∧q≠q2
theorem SkAt.of_blocks {w w':World} {q q2:Nat} {s:Sh} {t:Sk} (h:SkAt w q q2 s t) (h1:w'.heap[q]?=w.heap[q]?) (h2:t.now≠none→w'.heap[q2]?=w.heap[q2]?):SkAt w' q q2 s t:=
 ⟨h1.trans h.row,fun x hx=> ⟨(h2 (by rw [hx];exact fun e=> by cases e)).trans (h.inn x hx).1,(h.inn x hx).2⟩⟩
theorem SkAt.below {w w':World} {q q2:Nat} {s:Sh} {t:Sk} (h:SkAt w q q2 s t) (hb:Below w.heap.size w w'):SkAt w' q q2 s t:=
 ⟨h.row.below hb,fun x hx=> ⟨(h.inn x hx).1.below hb,(h.inn x hx).2⟩⟩
/-- A method changed the Seeker in block q alone, and made what is new. -/
structure SkTurned (q q2:Nat) (w w':World) (e:Ending) (s:Sh) (t:Sk):Prop where
 ret:e= .returned (.tuple #[])
 at':∃ q3,SkAt w' q q3 s t∧(q3=q2∨w.heap.size≤q3)
 only:Only (fun k=> k=q) w w'
set_option maxHeartbeats 1000000 in
theorem skend_any (q:Nat) (s:Sh) (t:Sk) (nv:Value) (pg sl:Int) (w:World) (hq:RowAt w q (skCells s t nv) 291):
  Calls Tryz.prog 217 #[.pointer (some ⟨q,0, .none⟩), .int .i64 pg, .int .i64 sl] w fun e w'=> Turned q w w' e (skCells s (t.fin pg sl) nv) 291:=by
 have h0:=At1.start hq
 clear hq
 obtain ⟨sp,sc,sm⟩:=s
 obtain ⟨tc,tk,tf,tnow,tm,tpage,tslot,tfound,tdone⟩:=t
 have c8:w.cell? ⟨q,8, .none⟩=some (.int .i64 tpage):=h0.cell 8
 have c9:w.cell? ⟨q,9, .none⟩=some (.int .i64 tslot):=h0.cell 9
 have c10:w.cell? ⟨q,10, .none⟩=some (.bool tfound):=h0.cell 10
 have c11:w.cell? ⟨q,11, .none⟩=some (.bool tdone):=h0.cell 11
 have zf:=h0.free
 go_enter Tryz.func217,Tryz.ntmps217
 go_wp2_with fail
 go_returns
 exact ((((h0.set 8 _).set 9 _).set 10 _).set 11 _).fin rfl
set_option maxHeartbeats 1000000 in
theorem skturn_any (q:Nat) (s:Sh) (t:Sk) (nv:Value) (w:World) (hq:RowAt w q (skCells s t nv) 291) (h2:0≤t.many∧t.many < 64):
  Calls Tryz.prog 225 #[.pointer (some ⟨q,0, .none⟩)] w fun e w'=> Turned q w w' e (skCells s (t.turn s) .nilIface) 291:=by
 have h0:=At1.start hq
 clear hq
 unfold Sk.turn
 obtain ⟨sp,sc,sm⟩:=s
 obtain ⟨tc,tk,tf,tnow,tm,tpage,tslot,tfound,tdone⟩:=t
 dsimp only at h2 ⊢
 obtain ⟨m1,m2⟩:=h2
 have c0:w.cell? ⟨q,0, .none⟩=some (.int .i64 sp):=h0.cell 0
 have c1:w.cell? ⟨q,1, .none⟩=some (.int .i64 sc):=h0.cell 1
 have c2:w.cell? ⟨q,2, .none⟩=some (.int .i64 sm):=h0.cell 2
 have c3:w.cell? ⟨q,3, .none⟩=some (.int .i64 tc):=h0.cell 3
 have c4:w.cell? ⟨q,4, .none⟩=some (.int .i64 tk):=h0.cell 4
 have c5:w.cell? ⟨q,5, .none⟩=some (.int .i64 tf):=h0.cell 5
 have c6:w.cell? ⟨q,6, .none⟩=some (nv):=h0.cell 6
 have c7:w.cell? ⟨q,7, .none⟩=some (.int .i64 tm):=h0.cell 7
 have c8:w.cell? ⟨q,8, .none⟩=some (.int .i64 tpage):=h0.cell 8
 have c9:w.cell? ⟨q,9, .none⟩=some (.int .i64 tslot):=h0.cell 9
 have c10:w.cell? ⟨q,10, .none⟩=some (.bool tfound):=h0.cell 10
 have c11:w.cell? ⟨q,11, .none⟩=some (.bool tdone):=h0.cell 11
 have zf:=h0.free
 have w1:IntKind.i64.wrap (tm + 1)=tm + 1:=IntWalk.i64_in _ ⟨by omega,by omega⟩
 go_enter Tryz.func225,Tryz.ntmps225
 go_upto_region 2 with fail
 have hB:=(h0.set 6 .nilIface).set 7 (.int .i64 (tm + 1))
 generalize World.setCell _ ⟨q,7, .none⟩ (.int .i64 (tm + 1))=U at *
 clear c0 c1 c2 c3 c4 c5 c6 c7 c8 c9 c10 c11 h0 zf
 have z0:U.cell? ⟨q,0, .none⟩=some (.int .i64 sp):=hB.cell 0
 have z7:U.cell? ⟨q,7, .none⟩=some (.int .i64 (tm + 1)):=hB.cell 7
 have lU:=hB.lt
 refine wp_region_ext_tail 13 (by kernel_rfl) (by kernel_rfl) ?_
 dsimp only [List.take,List.drop]
 repeat (go_big_quiet_step (fail))
 refine wpQuiet_nil ?_
 rintro _ ⟨e',rfl⟩
 have hC:=hB.below e'.below
 generalize e'.w=T at *
 change wpList _ _ _ _ _ T
 have k11:T.cell? ⟨q,11, .none⟩=some (.bool tdone):=hC.cell 11
 have zf:=hC.free
 go_wp2_with fail
 go_returns
 exact (hC.set 11 _).fin rfl
set_option maxHeartbeats 1000000 in
theorem skhere_any (q:Nat) (s:Sh) (t:Sk) (nv:Value) (w:World) (hq:RowAt w q (skCells s t nv) 291) (hp:1≤s.p∧s.p≤64) (h1:0≤t.first∧t.first < 64) (h2:0≤t.many∧t.many≤64):
  Calls Tryz.prog 224 #[.pointer (some ⟨q,0, .none⟩)] w fun e w'=> e= .returned (.int .i64 (t.here s))∧Below w.heap.size w w':=by
 unfold Sk.here
 obtain ⟨sp,sc,sm⟩:=s
 obtain ⟨tc,tk,tf,tnow,tm,tpage,tslot,tfound,tdone⟩:=t
 dsimp only at hp h1 h2 ⊢
 have lq:=hq.lt
 have c0:w.cell? ⟨q,0, .none⟩=some (.int .i64 sp):=hq.cell 0
 have c5:w.cell? ⟨q,5, .none⟩=some (.int .i64 tf):=hq.cell 5
 have c7:w.cell? ⟨q,7, .none⟩=some (.int .i64 tm):=hq.cell 7
 obtain ⟨p1,p2⟩:=hp
 obtain ⟨f1,f2⟩:=h1
 obtain ⟨m1,m2⟩:=h2
 have w1:IntKind.i64.wrap (tf + tm)=tf + tm:=IntWalk.i64_in _ ⟨by omega,by omega⟩
 have w2:(tf + tm).tmod sp=(tf + tm) % sp:=Int.tmod_eq_emod_of_nonneg (by omega)
 have w4:(sp==0)=false:=by simp;omega
 have w3:IntKind.i64.wrap ((tf + tm) % sp)=(tf + tm) % sp:=by
  have b1:=Int.emod_nonneg (tf + tm) (by omega:sp≠0)
  have b2:=Int.emod_lt_of_pos (tf + tm) (by omega:0 < sp)
  exact IntWalk.i64_in _ ⟨by omega,by omega⟩
 clear hq
 go_enter Tryz.func224,Tryz.ntmps224
 go_wp2_with fail
 go_quiet (fail)
 have hb:=below_drewN (Below.refl w.heap.size w) nq
 go_wp2_with fail
 go_returns
 exact ⟨rfl,hb⟩
set_option maxHeartbeats 1000000 in
theorem skbind_any (q:Nat) (s:Sh) (t:Sk) (nv:Value) (pg:Int) (w:World) (hq:RowAt w q (skCells s t nv) 291):
  Calls Tryz.prog 222 #[.pointer (some ⟨q,0, .none⟩), .int .i64 pg] w fun e w'=> ∃ q3,w.heap.size≤q3∧RowAt w' q3 (bnCells s (bnNew s t.c pg t.k)) 331∧Turned q w w' e (skCells s (t.bind s pg) (mcV (.bn (bnNew s t.c pg t.k)) q3)) 291:=by
 have h0:=At1.start hq
 clear hq
 have hnw:=fun Y=> bnnew_any s t.c pg t.k Y
 generalize hbb:bnNew s t.c pg t.k=bb at *
 obtain ⟨t2,ht2,ht2'⟩:∃ t2:Sk,Hid (t2= { t with page:=pg,now:=some (.bn bb) })∧t2=t.bind s pg:=⟨_,Lib.hid (by rw [Sk.bind,hbb]),rfl⟩
 rw [← ht2']
 clear ht2' hbb
 obtain ⟨cs,hcs,hcs'⟩:∃ cs,Hid (cs=bnCells s bb)∧cs=bnCells s bb:=⟨_,Lib.hid rfl,rfl⟩
 rw [← hcs'] at hnw ⊢
 clear hcs' hcs
 obtain ⟨sp,sc,sm⟩:=s
 obtain ⟨tc,tk,tf,tnow,tm,tpage,tslot,tfound,tdone⟩:=t
 dsimp only at hnw ht2 ⊢
 replace hnw:=Lib.hid hnw
 have c0:w.cell? ⟨q,0, .none⟩=some (.int .i64 sp):=h0.cell 0
 have c1:w.cell? ⟨q,1, .none⟩=some (.int .i64 sc):=h0.cell 1
 have c2:w.cell? ⟨q,2, .none⟩=some (.int .i64 sm):=h0.cell 2
 have c3:w.cell? ⟨q,3, .none⟩=some (.int .i64 tc):=h0.cell 3
 have c4:w.cell? ⟨q,4, .none⟩=some (.int .i64 tk):=h0.cell 4
 have c5:w.cell? ⟨q,5, .none⟩=some (.int .i64 tf):=h0.cell 5
 have c6:w.cell? ⟨q,6, .none⟩=some (nv):=h0.cell 6
 have c7:w.cell? ⟨q,7, .none⟩=some (.int .i64 tm):=h0.cell 7
 have c8:w.cell? ⟨q,8, .none⟩=some (.int .i64 tpage):=h0.cell 8
 have c9:w.cell? ⟨q,9, .none⟩=some (.int .i64 tslot):=h0.cell 9
 have c10:w.cell? ⟨q,10, .none⟩=some (.bool tfound):=h0.cell 10
 have c11:w.cell? ⟨q,11, .none⟩=some (.bool tdone):=h0.cell 11
 have zf:=h0.free
 go_enter Tryz.func222,Tryz.ntmps222
 go_upto_region 1 with fail
 have hB:=h0.set 8 (.int .i64 pg)
 generalize World.setCell _ ⟨q,8, .none⟩ (.int .i64 pg)=U at *
 clear c0 c1 c2 c3 c4 c5 c6 c7 c8 c9 c10 c11 h0 zf
 replace hB:At1 q w U (skCells ⟨sp,sc,sm⟩ ⟨tc,tk,tf,tnow,tm,pg,tslot,tfound,tdone⟩ nv) 291:=hB
 have hS:=Lib.hid (fun (Y:World) (v:Value) (h:RowAt Y q (skCells ⟨sp,sc,sm⟩ ⟨tc,tk,tf,tnow,tm,pg,tslot,tfound,tdone⟩ v) 291)=> (⟨h.cell 0,h.cell 1,h.cell 2,h.cell 3,h.cell 4,h.cell 8⟩:Y.cell? ⟨q,0, .none⟩=some (.int .i64 sp)∧Y.cell? ⟨q,1, .none⟩=some (.int .i64 sc)∧Y.cell? ⟨q,2, .none⟩=some (.int .i64 sm)∧Y.cell? ⟨q,3, .none⟩=some (.int .i64 tc)∧Y.cell? ⟨q,4, .none⟩=some (.int .i64 tk)∧Y.cell? ⟨q,8, .none⟩=some (.int .i64 pg)))
 go_region_held3 (fun Y=> Y.cell? ⟨q,0, .none⟩=some (.int .i64 sp)∧Y.cell? ⟨q,1, .none⟩=some (.int .i64 sc)∧Y.cell? ⟨q,2, .none⟩=some (.int .i64 sm)∧Y.cell? ⟨q,3, .none⟩=some (.int .i64 tc)∧Y.cell? ⟨q,4, .none⟩=some (.int .i64 tk)∧Y.cell? ⟨q,8, .none⟩=some (.int .i64 pg))
  (first | exact hS.out _ _ hB.row.drew | exact hS.out _ _ hA.row | exact hS.out _ _ ((hA.set 6 _).row.cast rfl) | fail)
  (first | (go_at_call 229;(with_reducible refine (hnw.out _).mono ?_);rintro r w1 ⟨q3,rfl,hq3,hrow3,hb1⟩;have hA:=(At1.drewN hB 1).below hb1;have z6:w1.cell? ⟨q,6, .none⟩=some (nv):=hA.cell 6;have zf:=hA.free) | fail)
 go_wp2_with fail
 go_returns
 exact ⟨q3,Nat.le_trans hB.only.size hq3,hrow3.other (by have:=hB.ls;have:=hB.only.size;have hd:U.drew.heap.size=U.heap.size:=rfl;omega) _ _,(hA.set 6 _).fin (by rw [ht2.out];rfl)⟩
/-- Behind a method that left the machine at hand alone. -/
theorem SkTurned.of_turned {q q2:Nat} {w w':World} {e:Ending} {s:Sh} {t t':Sk} (h:SkAt w q q2 s t) (hn:t'.now=t.now∨t'.now=none) (hT:Turned q w w' e (skCells s t' (nowV t'.now q2)) 291):SkTurned q q2 w w' e s t':=by
 refine ⟨hT.ret,⟨q2,⟨hT.row,fun x hx=> ?_⟩, .inl rfl⟩,hT.only⟩
 rcases hn with hn | hn
 ·obtain ⟨h1,h2⟩:=h.inn x (hn ▸ hx)
  exact ⟨h1.only hT.only (fun e=> h2 e.symm),h2⟩
 ·rw [hn] at hx;cases hx
set_option maxRecDepth 100000 in
set_option maxHeartbeats 1000000 in
theorem skafter_tk (q q2:Nat) (s:Sh) (t:Sk) (x:Tk) (w:World) (h:SkAt w q q2 s t) (hx:t.now=some (.tk x)):
  Calls Tryz.prog 206 #[.pointer (some ⟨q,0, .none⟩)] w fun e w'=> SkTurned q q2 w w' e s (t.after s (.tk x)):=by
 obtain ⟨hin0,hne⟩:=h.inn _ hx
 have h0:=At1.start h.row
 rw [hx] at h0
 have hfd:=fun Y (hY:RowAt Y q2 (tkCells s x) 304)=> tkfound_any q2 s x Y hY
 have hin:RowAt w q2 (tkCells s x) 304:=hin0
 clear hin0
 have he:=fun Y (hY:RowAt Y q (skCells s t (mcV (.tk x) q2)) 291)=> skend_any q s t (mcV (.tk x) q2) x.ep x.es Y hY
 have hnw:=fun Y=> scnew_any s t.c t.k t.first Y
 have hr:t.after s (.tk x)=if x.found=true then t.fin x.ep x.es else { t with now:=some (.sc (scNew s t.c t.k t.first)) }:=rfl
 have hfin:Hid (∀ Y e,Turned q w Y e (skCells s (t.fin x.ep x.es) (mcV (.tk x) q2)) 291→SkTurned q q2 w Y e s (t.fin x.ep x.es)):=Lib.hid fun Y e hT=> SkTurned.of_turned h (.inl rfl) (by show Turned q w Y e (skCells s (t.fin x.ep x.es) (nowV t.now q2)) _;rw [hx];exact hT)
 rw [hr]
 clear hr h hx
 rcases Bool.eq_false_or_eq_true x.found with hf | hf
 ·rw [if_pos hf]
  unfold found2 at hfd
  rw [hf] at hfd
  clear hnw hf
  simp only [if_true] at hfd
  generalize x.ep=a at *
  generalize x.es=b at *
  generalize ht2:t.fin a b=t2 at *
  clear ht2
  generalize tkCells s x=ics at *
  have c6:w.cell? ⟨q,6, .none⟩=some (.iface 292 (.pointer (some ⟨q2,0, .none⟩))):=h0.cell 6
  replace hfd:=Lib.hid hfd
  replace he:=Lib.hid he
  go_enter Tryz.func206,Tryz.ntmps206
  go_wp2_with (first
   | (go_at_call 216;(with_reducible refine (hfd.out _ hin).mono ?_);rintro r w1 ⟨rfl,hb1⟩;have hA:=h0.below hb1)
   | (go_at_call 217;(with_reducible refine (he.out _ hA.row).mono ?_);rintro r w2 hT;obtain rfl:=hT.ret)
   | fail)
  go_returns
  exact hfin.out _ _ ((hA.turned hT).fin rfl)
 ·rw [if_neg (by rw [hf];decide)]
  unfold found2 at hfd
  rw [hf] at hfd
  clear hfin he hf
  simp only [Bool.false_eq_true,if_false] at hfd
  obtain ⟨y,hy,hy'⟩:∃ y,Hid (y=scNew s t.c t.k t.first)∧y=scNew s t.c t.k t.first:=⟨_,Lib.hid rfl,rfl⟩
  rw [← hy'] at hnw ⊢
  clear hy hy'
  obtain ⟨ycs,hycs⟩:∃ ycs,ycs=scCells s y:=⟨_,rfl⟩
  rw [← hycs] at hnw
  have hfin:Hid (∀ Y e q3,w.heap.size≤q3→RowAt Y q3 ycs 323→Turned q w Y e (skCells s { t with now:=some (.sc y) } (mcV (.sc y) q3)) 291→SkTurned q q2 w Y e s { t with now:=some (.sc y) }):=Lib.hid fun Y e q3 h3 hrow hT=> ⟨hT.ret,⟨q3,⟨hT.row,fun z hz=> by
   simp only [Option.some.injEq] at hz
   subst hz
   rw [hycs] at hrow
   exact ⟨hrow,by have:=h0.ls;omega⟩⟩, .inr h3⟩,hT.only⟩
  clear hycs
  generalize tkCells s x=ics at *
  obtain ⟨sp,sc,sm⟩:=s
  obtain ⟨tc,tk,tf,tnow,tm,tpage,tslot,tfound,tdone⟩:=t
  dsimp only at hnw hfin ⊢
  have c6:w.cell? ⟨q,6, .none⟩=some (.iface 292 (.pointer (some ⟨q2,0, .none⟩))):=h0.cell 6
  replace hfd:=Lib.hid hfd
  replace hnw:=Lib.hid hnw
  go_enter Tryz.func206,Tryz.ntmps206
  go_upto_region 6 with (first
   | (go_at_call 216;(with_reducible refine (hfd.out _ hin).mono ?_);rintro r w1 ⟨rfl,hb1⟩;have hA:=h0.below hb1)
   | fail)
  clear c6
  have hS:=Lib.hid (fun (Y:World) (v:Value) (h:RowAt Y q (skCells ⟨sp,sc,sm⟩ ⟨tc,tk,tf,tnow,tm,tpage,tslot,tfound,tdone⟩ v) 291)=> (⟨h.cell 0,h.cell 1,h.cell 2,h.cell 3,h.cell 4,h.cell 5⟩:Y.cell? ⟨q,0, .none⟩=some (.int .i64 sp)∧Y.cell? ⟨q,1, .none⟩=some (.int .i64 sc)∧Y.cell? ⟨q,2, .none⟩=some (.int .i64 sm)∧Y.cell? ⟨q,3, .none⟩=some (.int .i64 tc)∧Y.cell? ⟨q,4, .none⟩=some (.int .i64 tk)∧Y.cell? ⟨q,5, .none⟩=some (.int .i64 tf)))
  go_region_held3 (fun Y=> Y.cell? ⟨q,0, .none⟩=some (.int .i64 sp)∧Y.cell? ⟨q,1, .none⟩=some (.int .i64 sc)∧Y.cell? ⟨q,2, .none⟩=some (.int .i64 sm)∧Y.cell? ⟨q,3, .none⟩=some (.int .i64 tc)∧Y.cell? ⟨q,4, .none⟩=some (.int .i64 tk)∧Y.cell? ⟨q,5, .none⟩=some (.int .i64 tf))
   (first | exact hS.out _ _ hA.row.drew | exact hS.out _ _ hB.row | exact hS.out _ _ ((hB.set 6 _).row.cast rfl) | fail)
   (first | (go_at_call 218;(with_reducible refine (hnw.out _).mono ?_);rintro r w2 ⟨q3,rfl,hq3,hrow3,hb2⟩;have hB:=(At1.drewN hA 1).below hb2;have z6:=hB.cell 6;have zf:=hB.free) | fail)
  go_wp2_with fail
  go_returns
  exact hfin.out _ _ q3 (Nat.le_trans hA.only.size hq3) (hrow3.other (by have:=hA.ls;have:=hA.only.size;have hd:w1.drew.heap.size=w1.heap.size:=rfl;omega) _ _) ((hB.set 6 _).fin rfl)
set_option maxRecDepth 100000 in
set_option maxHeartbeats 1000000 in
theorem skafter_sc (q q2:Nat) (s:Sh) (t:Sk) (x:Sc) (w:World) (h:SkAt w q q2 s t) (hx:t.now=some (.sc x)) (hp:1≤s.p∧s.p≤64) (hxb:x.found=true→(0≤x.first∧x.first < 64)∧(0≤x.many∧x.many≤64)):
  Calls Tryz.prog 206 #[.pointer (some ⟨q,0, .none⟩)] w fun e w'=> SkTurned q q2 w w' e s (t.after s (.sc x)):=by
 obtain ⟨hin0,hne⟩:=h.inn _ hx
 have h0:=At1.start h.row
 rw [hx] at h0
 have hfd:=fun Y (hY:RowAt Y q2 (scCells s x) 323)=> scfound_any q2 s x Y hY hp hxb
 have hin:RowAt w q2 (scCells s x) 323:=hin0
 clear hin0
 have he:=fun Y (hY:RowAt Y q (skCells s t (mcV (.sc x) q2)) 291)=> skend_any q s t (mcV (.sc x) q2) (x.page s) x.i Y hY
 have hnw:=fun Y=> pcnew_any s t.c t.first Y
 have hr:t.after s (.sc x)=if x.found=true then t.fin (x.page s) x.i else { t with now:=some (.pc (pcNew s t.c t.first)) }:=rfl
 have hfin:Hid (∀ Y e,Turned q w Y e (skCells s (t.fin (x.page s) x.i) (mcV (.sc x) q2)) 291→SkTurned q q2 w Y e s (t.fin (x.page s) x.i)):=Lib.hid fun Y e hT=> SkTurned.of_turned h (.inl rfl) (by show Turned q w Y e (skCells s (t.fin (x.page s) x.i) (nowV t.now q2)) _;rw [hx];exact hT)
 rw [hr]
 clear hr h hx hxb
 unfold found2 at hfd
 rcases Bool.eq_false_or_eq_true x.found with hf | hf
 ·rw [if_pos hf]
  rw [hf] at hfd
  clear hnw hf
  simp only [if_true] at hfd
  generalize x.page s=a at *
  generalize x.i=b at *
  generalize ht2:t.fin a b=t2 at *
  clear ht2
  generalize scCells s x=ics at *
  have c6:w.cell? ⟨q,6, .none⟩=some (.iface 316 (.pointer (some ⟨q2,0, .none⟩))):=h0.cell 6
  replace hfd:=Lib.hid hfd
  replace he:=Lib.hid he
  go_enter Tryz.func206,Tryz.ntmps206
  go_wp2_with (first
   | (go_at_call 219;(with_reducible refine (hfd.out _ hin).mono ?_);rintro r w1 ⟨rfl,hb1⟩;have hA:=h0.below hb1)
   | (go_at_call 217;(with_reducible refine (he.out _ hA.row).mono ?_);rintro r w2 hT;obtain rfl:=hT.ret)
   | fail)
  go_returns
  exact hfin.out _ _ ((hA.turned hT).fin rfl)
 ·rw [if_neg (by rw [hf];decide)]
  rw [hf] at hfd
  clear hfin he hf
  simp only [Bool.false_eq_true,if_false] at hfd
  obtain ⟨y,hy,hy'⟩:∃ y,Hid (y=pcNew s t.c t.first)∧y=pcNew s t.c t.first:=⟨_,Lib.hid rfl,rfl⟩
  rw [← hy'] at hnw ⊢
  clear hy hy'
  obtain ⟨ycs,hycs⟩:∃ ycs,ycs=pcCells s y:=⟨_,rfl⟩
  rw [← hycs] at hnw
  have hfin:Hid (∀ Y e q3,w.heap.size≤q3→RowAt Y q3 ycs 325→Turned q w Y e (skCells s { t with now:=some (.pc y) } (mcV (.pc y) q3)) 291→SkTurned q q2 w Y e s { t with now:=some (.pc y) }):=Lib.hid fun Y e q3 h3 hrow hT=> ⟨hT.ret,⟨q3,⟨hT.row,fun z hz=> by
   simp only [Option.some.injEq] at hz
   subst hz
   rw [hycs] at hrow
   exact ⟨hrow,by have:=h0.ls;omega⟩⟩, .inr h3⟩,hT.only⟩
  clear hycs
  generalize scCells s x=ics at *
  obtain ⟨sp,sc,sm⟩:=s
  obtain ⟨tc,tk,tf,tnow,tm,tpage,tslot,tfound,tdone⟩:=t
  dsimp only at hnw hfin ⊢
  have c6:w.cell? ⟨q,6, .none⟩=some (.iface 316 (.pointer (some ⟨q2,0, .none⟩))):=h0.cell 6
  replace hfd:=Lib.hid hfd
  replace hnw:=Lib.hid hnw
  go_enter Tryz.func206,Tryz.ntmps206
  go_upto_region 12 with (first
   | (go_at_call 219;(with_reducible refine (hfd.out _ hin).mono ?_);rintro r w1 ⟨rfl,hb1⟩;have hA:=h0.below hb1)
   | fail)
  clear c6
  have hS:=Lib.hid (fun (Y:World) (v:Value) (h:RowAt Y q (skCells ⟨sp,sc,sm⟩ ⟨tc,tk,tf,tnow,tm,tpage,tslot,tfound,tdone⟩ v) 291)=> (⟨h.cell 0,h.cell 1,h.cell 2,h.cell 3,h.cell 4,h.cell 5⟩:Y.cell? ⟨q,0, .none⟩=some (.int .i64 sp)∧Y.cell? ⟨q,1, .none⟩=some (.int .i64 sc)∧Y.cell? ⟨q,2, .none⟩=some (.int .i64 sm)∧Y.cell? ⟨q,3, .none⟩=some (.int .i64 tc)∧Y.cell? ⟨q,4, .none⟩=some (.int .i64 tk)∧Y.cell? ⟨q,5, .none⟩=some (.int .i64 tf)))
  go_region_held3 (fun Y=> Y.cell? ⟨q,0, .none⟩=some (.int .i64 sp)∧Y.cell? ⟨q,1, .none⟩=some (.int .i64 sc)∧Y.cell? ⟨q,2, .none⟩=some (.int .i64 sm)∧Y.cell? ⟨q,3, .none⟩=some (.int .i64 tc)∧Y.cell? ⟨q,4, .none⟩=some (.int .i64 tk)∧Y.cell? ⟨q,5, .none⟩=some (.int .i64 tf))
   (first | exact hS.out _ _ hA.row.drew | exact hS.out _ _ hB.row | exact hS.out _ _ ((hB.set 6 _).row.cast rfl) | fail)
   (first | (go_at_call 220;(with_reducible refine (hnw.out _).mono ?_);rintro r w2 ⟨q3,rfl,hq3,hrow3,hb2⟩;have hB:=(At1.drewN hA 1).below hb2;have z6:=hB.cell 6;have zf:=hB.free) | fail)
  go_wp2_with fail
  go_returns
  exact hfin.out _ _ q3 (Nat.le_trans hA.only.size hq3) (hrow3.other (by have:=hA.ls;have:=hA.only.size;have hd:w1.drew.heap.size=w1.heap.size:=rfl;omega) _ _) ((hB.set 6 _).fin rfl)
set_option maxRecDepth 100000 in
set_option maxHeartbeats 1000000 in
theorem skafter_pc (q q2:Nat) (s:Sh) (t:Sk) (x:Pc) (w:World) (h:SkAt w q q2 s t) (hx:t.now=some (.pc x)) (hp:1≤s.p∧s.p≤64) (hxb:x.found=true→(0≤x.first∧x.first < 64)∧(0≤x.many∧x.many≤64)):
  Calls Tryz.prog 206 #[.pointer (some ⟨q,0, .none⟩)] w fun e w'=> SkTurned q q2 w w' e s (t.after s (.pc x)):=by
 obtain ⟨hin0,hne⟩:=h.inn _ hx
 have h0:At1 q w w (skCells s t (mcV (.pc x) q2)) 291:=by have h1:=At1.start h.row;rw [hx] at h1;exact h1
 have hin:RowAt w q2 (pcCells s x) 325:=hin0
 clear hin0
 have c6:w.cell? ⟨q,6, .none⟩=some (.iface 318 (.pointer (some ⟨q2,0, .none⟩))):=h0.cell 6
 have hfd:=pcfound_any q2 s x w hin hp hxb
 have hbi:=fun Y (hY:RowAt Y q (skCells s t (mcV (.pc x) q2)) 291)=> skbind_any q s t (mcV (.pc x) q2) (x.page s) Y hY
 have hr:t.after s (.pc x)=if x.found=true then t.bind s (x.page s) else { t with now:=none }:=rfl
 rw [hr]
 rcases Bool.eq_false_or_eq_true x.found with hf | hf
 ·rw [if_pos hf]
  rw [hf] at hfd
  simp only [if_true] at hfd
  have hfin:Hid (∀ Y e Y2 q3,Below w.heap.size w Y→Y.heap.size≤q3→RowAt Y2 q3 (bnCells s (bnNew s t.c (x.page s) t.k)) 331→Turned q Y Y2 e (skCells s (t.bind s (x.page s)) (mcV (.bn (bnNew s t.c (x.page s) t.k)) q3)) 291→SkTurned q q2 w Y2 e s (t.bind s (x.page s))):=Lib.hid fun Y e Y2 q3 hb h3 hrow hT=> ⟨hT.ret,⟨q3,⟨hT.row,fun z hz=> by
   simp only [Sk.bind,Option.some.injEq] at hz
   subst hz
   exact ⟨hrow,by have:=h0.ls;have:=hb.size;omega⟩⟩, .inr (by have:=hb.size;omega)⟩,(Only.of_below hb).trans hT.only (fun _ _ e=> e)⟩
  have h0r:=h0
  clear h hx hxb hr hf
  generalize skCells s t (mcV (.pc x) q2)=cs0 at *
  generalize bnCells s (bnNew s t.c (x.page s) t.k)=ics at *
  have hbi2:Hid (∀ Y,RowAt Y q cs0 291→Calls Tryz.prog 222 #[.pointer (some ⟨q,0, .none⟩), .int .i64 (x.page s)] Y fun e w'=> ∃ q3,Y.heap.size≤q3∧RowAt w' q3 ics 331∧Turned q Y w' e (skCells s (t.bind s (x.page s)) (mcV (.bn (bnNew s t.c (x.page s) t.k)) q3)) 291):=Lib.hid hbi
  generalize x.page s=a at *
  generalize t.bind s a=t2 at *
  clear hbi
  replace hfd:=Lib.hid hfd
  go_enter Tryz.func206,Tryz.ntmps206
  go_wp2_with (first
   | (go_at_call 221;(with_reducible refine hfd.out.mono ?_);rintro r w1 ⟨rfl,hb1⟩;have hA:=h0.below hb1)
   | (go_at_call 222;(with_reducible refine (hbi2.out _ hA.row).mono ?_);rintro r w2 ⟨q3,hq3,hrow3,hT⟩;obtain rfl:=hT.ret)
   | fail)
  go_returns
  exact hfin.out _ _ _ q3 hb1 hq3 hrow3 hT
 ·rw [if_neg (by rw [hf];decide)]
  rw [hf] at hfd
  simp only [Bool.false_eq_true,if_false] at hfd
  have hfin:Hid (∀ Y e,Turned q w Y e (skCells s { t with now:=none } .nilIface) 291→SkTurned q q2 w Y e s { t with now:=none }):=Lib.hid fun Y e hT=> ⟨hT.ret,⟨q2,⟨hT.row,fun z hz=> (by cases hz)⟩, .inl rfl⟩,hT.only⟩
  clear h hx hxb hr hf hbi
  replace hfd:=Lib.hid hfd
  go_enter Tryz.func206,Tryz.ntmps206
  go_wp2_with (first
   | (go_at_call 221;(with_reducible refine hfd.out.mono ?_);rintro r w1 ⟨rfl,hb1⟩;have hA:=h0.below hb1;have z6:=hA.cell 6;have zf:=hA.free)
   | fail)
  go_returns
  exact hfin.out _ _ ((hA.set 6 _).fin rfl)
set_option maxRecDepth 100000 in
set_option maxHeartbeats 1000000 in
theorem skafter_sp (q q2:Nat) (s:Sh) (t:Sk) (x:Sp) (w:World) (h:SkAt w q q2 s t) (hx:t.now=some (.sp x)) (hp:1≤s.p∧s.p≤64) (h1:0≤t.first∧t.first < 64) (h2:0≤t.many∧t.many < 64):
  Calls Tryz.prog 206 #[.pointer (some ⟨q,0, .none⟩)] w fun e w'=> SkTurned q q2 w w' e s (t.after s (.sp x)):=by
 obtain ⟨hin0,hne⟩:=h.inn _ hx
 have h0:At1 q w w (skCells s t (mcV (.sp x) q2)) 291:=by have h1:=At1.start h.row;rw [hx] at h1;exact h1
 have hin:RowAt w q2 (spCells s x) 328:=hin0
 clear hin0
 have c6:w.cell? ⟨q,6, .none⟩=some (.iface 294 (.pointer (some ⟨q2,0, .none⟩))):=h0.cell 6
 have hfd:=spheld_any q2 (spCells s x) x.held w hin rfl
 have hbi:=fun Y (hY:RowAt Y q (skCells s t (mcV (.sp x) q2)) 291)=> skbind_any q s t (mcV (.sp x) q2) (t.here s) Y hY
 have hhe:=fun Y (hY:RowAt Y q (skCells s t (mcV (.sp x) q2)) 291)=> skhere_any q s t (mcV (.sp x) q2) Y hY hp h1 (by omega)
 have htu:=fun Y (hY:RowAt Y q (skCells s t (mcV (.sp x) q2)) 291)=> skturn_any q s t (mcV (.sp x) q2) Y hY h2
 have hr:t.after s (.sp x)=if x.held=true then t.bind s (t.here s) else t.turn s:=rfl
 rw [hr]
 rcases Bool.eq_false_or_eq_true x.held with hf | hf
 ·rw [if_pos hf]
  rw [hf] at hfd
  have hfin:Hid (∀ Y e Y2 q3,Below w.heap.size w Y→Y.heap.size≤q3→RowAt Y2 q3 (bnCells s (bnNew s t.c (t.here s) t.k)) 331→Turned q Y Y2 e (skCells s (t.bind s (t.here s)) (mcV (.bn (bnNew s t.c (t.here s) t.k)) q3)) 291→SkTurned q q2 w Y2 e s (t.bind s (t.here s))):=Lib.hid fun Y e Y2 q3 hb h3 hrow hT=> ⟨hT.ret,⟨q3,⟨hT.row,fun z hz=> by
   simp only [Sk.bind,Option.some.injEq] at hz
   subst hz
   exact ⟨hrow,by have:=h0.ls;have:=hb.size;omega⟩⟩, .inr (by have:=hb.size;omega)⟩,(Only.of_below hb).trans hT.only (fun _ _ e=> e)⟩
  clear h hx hr hf htu h1 h2 hp
  generalize skCells s t (mcV (.sp x) q2)=cs0 at *
  generalize bnCells s (bnNew s t.c (t.here s) t.k)=ics at *
  have hbi2:Hid (∀ Y,RowAt Y q cs0 291→Calls Tryz.prog 222 #[.pointer (some ⟨q,0, .none⟩), .int .i64 (t.here s)] Y fun e w'=> ∃ q3,Y.heap.size≤q3∧RowAt w' q3 ics 331∧Turned q Y w' e (skCells s (t.bind s (t.here s)) (mcV (.bn (bnNew s t.c (t.here s) t.k)) q3)) 291):=Lib.hid hbi
  generalize t.here s=a at *
  generalize t.bind s a=t2 at *
  clear hbi
  replace hfd:=Lib.hid hfd
  replace hhe:=Lib.hid hhe
  go_enter Tryz.func206,Tryz.ntmps206
  go_wp2_with (first
   | (go_at_call 223;(with_reducible refine hfd.out.mono ?_);rintro r w1 ⟨rfl,hb1⟩;obtain rfl:=hb1.symm)
   | (go_at_call 224;(with_reducible refine (hhe.out _ h0.row).mono ?_);rintro r w2 ⟨rfl,hb2⟩;have hA:=h0.below hb2)
   | (go_at_call 222;(with_reducible refine (hbi2.out _ hA.row).mono ?_);rintro r w3 ⟨q3,hq3,hrow3,hT⟩;obtain rfl:=hT.ret)
   | fail)
  go_returns
  exact hfin.out _ _ _ q3 hb2 hq3 hrow3 hT
 ·rw [if_neg (by rw [hf];decide)]
  rw [hf] at hfd
  have hfin:Hid (∀ Y e,Turned q w Y e (skCells s (t.turn s) .nilIface) 291→SkTurned q q2 w Y e s (t.turn s)):=Lib.hid fun Y e hT=> ⟨hT.ret,⟨q2,⟨hT.row,fun z hz=> (by cases hz)⟩, .inl rfl⟩,hT.only⟩
  clear h hx hr hf hbi hhe h1 h2 hp
  generalize skCells s t (mcV (.sp x) q2)=cs0 at *
  generalize t.turn s=t2 at *
  replace hfd:=Lib.hid hfd
  replace htu:=Lib.hid htu
  go_enter Tryz.func206,Tryz.ntmps206
  go_wp2_with (first
   | (go_at_call 223;(with_reducible refine hfd.out.mono ?_);rintro r w1 ⟨rfl,hb1⟩;obtain rfl:=hb1.symm)
   | (go_at_call 225;(with_reducible refine (htu.out _ h0.row).mono ?_);rintro r w2 hT;obtain rfl:=hT.ret)
   | fail)
  go_returns
  exact hfin.out _ _ hT
set_option maxRecDepth 100000 in
set_option maxHeartbeats 1000000 in
theorem skafter_bn (q q2:Nat) (s:Sh) (t:Sk) (x:Bn) (w:World) (h:SkAt w q q2 s t) (hx:t.now=some (.bn x)):
  Calls Tryz.prog 206 #[.pointer (some ⟨q,0, .none⟩)] w fun e w'=> SkTurned q q2 w w' e s (t.after s (.bn x)):=by
 obtain ⟨hin0,hne⟩:=h.inn _ hx
 have h0:At1 q w w (skCells s t (mcV (.bn x) q2)) 291:=by have h1:=At1.start h.row;rw [hx] at h1;exact h1
 have hin:RowAt w q2 (bnCells s x) 331:=hin0
 clear hin0
 have c6:w.cell? ⟨q,6, .none⟩=some (.iface 321 (.pointer (some ⟨q2,0, .none⟩))):=h0.cell 6
 have he:=skend_any q s t (mcV (.bn x) q2) t.page 0 w h0.row
 have hr:t.after s (.bn x)=t.fin t.page 0:=rfl
 rw [hr]
 have hfin:Hid (∀ Y e,Turned q w Y e (skCells s (t.fin t.page 0) (mcV (.bn x) q2)) 291→SkTurned q q2 w Y e s (t.fin t.page 0)):=Lib.hid fun Y e hT=> SkTurned.of_turned h (.inl rfl) (by show Turned q w Y e (skCells s (t.fin t.page 0) (nowV t.now q2)) _;rw [hx];exact hT)
 have c8:w.cell? ⟨q,8, .none⟩=some (.int .i64 t.page):=h0.cell 8
 clear h hx hr
 generalize t.fin t.page 0=t2 at *
 generalize t.page=pg at *
 replace he:=Lib.hid he
 go_enter Tryz.func206,Tryz.ntmps206
 go_wp2_with (first
  | (go_at_call 217;(with_reducible refine he.out.mono ?_);rintro r w2 hT;obtain rfl:=hT.ret)
  | fail)
 go_returns
 exact hfin.out _ _ hT
/-- What follows a machine that is done. -/
theorem skafter_any (q q2:Nat) (s:Sh) (t:Sk) (x:Mc) (w:World) (h:SkAt w q q2 s t) (hx:t.now=some x) (hp:1≤s.p∧s.p≤64) (ho:skOk s t) (hd:t.done=false):
  Calls Tryz.prog 206 #[.pointer (some ⟨q,0, .none⟩)] w fun e w'=> SkTurned q q2 w w' e s (t.after s x):=by
 obtain ⟨c1,c2,c3,c4,c5⟩:=ho.cl hd
 obtain ⟨hxo,_⟩:=c5 x hx
 cases x with
 | tk x=> exact skafter_tk q q2 s t x w h hx
 | sc x=> exact skafter_sc q q2 s t x w h hx hp (fun hf=> by have:=hxo.fd hf;omega)
 | pc x=> exact skafter_pc q q2 s t x w h hx hp (fun hf=> by have:=hxo.fd hf;omega)
 | sp x=> exact skafter_sp q q2 s t x w h hx hp (by omega) (by omega)
 | bn x=> exact skafter_bn q q2 s t x w h hx
end Go.Proofs.YtampacmmhhilaaaGreat
