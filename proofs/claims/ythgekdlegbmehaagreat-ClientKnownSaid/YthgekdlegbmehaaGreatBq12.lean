/- The Seeker in memory: its small methods. -/
import Derived.Test.YthgekdlegbmehaaGreatBq11

set_option linter.all false
set_option maxHeartbeats 1000000
set_option maxRecDepth 100000
namespace Go.Proofs.YthgekdlegbmehaaGreat

open Go.RowKit

attribute [local go_sem ↓] Go.wp_at_zero Go.wp_at_succ

theorem zrb (v:Value) (W:World):(Instr.typeAssert (.iface 136 v) 133 136 true).run Tryz.prog W= .ok (.tuple #[v,.bool true]) W:=by kernel_rfl
theorem zrt (v:Value) (W:World):(Instr.typeAssert (.iface 158 v) 133 136 true).run Tryz.prog W= .ok (.tuple #[.pointer none,.bool false]) W:=by kernel_rfl
theorem zsu (v:Value) (W:World):(Instr.typeAssert (.iface 158 v) 133 158 true).run Tryz.prog W= .ok (.tuple #[v,.bool true]) W:=by kernel_rfl
theorem zr1 (v:Value) (W:World):(Instr.typeAssert (.iface 160 v) 133 136 true).run Tryz.prog W= .ok (.tuple #[.pointer none,.bool false]) W:=by kernel_rfl
theorem zr6 (v:Value) (W:World):(Instr.typeAssert (.iface 160 v) 133 158 true).run Tryz.prog W= .ok (.tuple #[.pointer none,.bool false]) W:=by kernel_rfl
theorem zsy (v:Value) (W:World):(Instr.typeAssert (.iface 160 v) 133 160 true).run Tryz.prog W= .ok (.tuple #[v,.bool true]) W:=by kernel_rfl
theorem zta (v:Value) (W:World):(Instr.typeAssert (.iface 138 v) 133 136 true).run Tryz.prog W= .ok (.tuple #[.pointer none,.bool false]) W:=by kernel_rfl
theorem zte (v:Value) (W:World):(Instr.typeAssert (.iface 138 v) 133 158 true).run Tryz.prog W= .ok (.tuple #[.pointer none,.bool false]) W:=by kernel_rfl
theorem zr7 (v:Value) (W:World):(Instr.typeAssert (.iface 138 v) 133 160 true).run Tryz.prog W= .ok (.tuple #[.pointer none,.bool false]) W:=by kernel_rfl
theorem zsl (v:Value) (W:World):(Instr.typeAssert (.iface 138 v) 133 138 true).run Tryz.prog W= .ok (.tuple #[v,.bool true]) W:=by kernel_rfl
theorem zsd (v:Value) (W:World):(Instr.typeAssert (.iface 163 v) 133 136 true).run Tryz.prog W= .ok (.tuple #[.pointer none,.bool false]) W:=by kernel_rfl
theorem zss (v:Value) (W:World):(Instr.typeAssert (.iface 163 v) 133 158 true).run Tryz.prog W= .ok (.tuple #[.pointer none,.bool false]) W:=by kernel_rfl
theorem zrc (v:Value) (W:World):(Instr.typeAssert (.iface 163 v) 133 160 true).run Tryz.prog W= .ok (.tuple #[.pointer none,.bool false]) W:=by kernel_rfl
theorem zr9 (v:Value) (W:World):(Instr.typeAssert (.iface 163 v) 133 138 true).run Tryz.prog W= .ok (.tuple #[.pointer none,.bool false]) W:=by kernel_rfl
theorem zq3 (v:Value) (W:World):(Instr.typeAssert (.iface 163 v) 133 163 true).run Tryz.prog W= .ok (.tuple #[v,.bool true]) W:=by kernel_rfl
attribute [local go_sem ↓] zrb zrt zsu zr1 zr6 zsy zta zte zr7 zsl zsd zss zrc zr9 zq3

def zku (s:Sh):Mc->Array Value
 | .tk t=> zd1 s t
 | .sc t=> zbt s t
 | .pc t=> zfn s t
 | .sp t=> zc9 s t
 | .bn t=> ze5 s t
def mcT:Mc->TypeId
 | .tk _=> 149
 | .sc _=> 165
 | .pc _=> 167
 | .sp _=> 170
 | .bn _=> 172
def mcV:Mc->Nat->Value
 | .tk _,q=> .iface 136 (.pointer (some ⟨q,0,.none⟩))
 | .sc _,q=> .iface 158 (.pointer (some ⟨q,0,.none⟩))
 | .pc _,q=> .iface 160 (.pointer (some ⟨q,0,.none⟩))
 | .sp _,q=> .iface 138 (.pointer (some ⟨q,0,.none⟩))
 | .bn _,q=> .iface 163 (.pointer (some ⟨q,0,.none⟩))
def nowV (o:Option Mc) (q:Nat):Value:=match o with
 | none=> .nilIface
 | some x=> mcV x q
def za1 (s:Sh) (t:Sk) (nv:Value):Array Value:= #[.int .i64 s.p,.int .i64 s.c,.int .i64 s.m,.int .i64 t.c,.int .i64 t.k,.int .i64 t.first,nv,.int .i64 t.many,.int .i64 t.page,.int .i64 t.slot,.bool t.found,.bool t.done]
structure SkAt (w:World) (q q2:Nat) (s:Sh) (t:Sk):Prop where
 row:zaa w q (za1 s t (nowV t.now q2)) 135
 inn:∀ x,t.now=some x->zaa w q2 (zku s x) (mcT x)/\q≠q2
theorem SkAt.zfe {w w':World} {q q2:Nat} {s:Sh} {t:Sk} (h:SkAt w q q2 s t) (h1:w'.heap[q]?=w.heap[q]?) (h2:t.now≠none->w'.heap[q2]?=w.heap[q2]?):SkAt w' q q2 s t:=
 ⟨h1.trans h.row,fun x hx=> ⟨(h2 (by rw [hx];exact fun e=> by cases e)).trans (h.inn x hx).1,(h.inn x hx).2⟩⟩
theorem SkAt.below {w w':World} {q q2:Nat} {s:Sh} {t:Sk} (h:SkAt w q q2 s t) (hb:Below w.heap.size w w'):SkAt w' q q2 s t:=
 ⟨h.row.below hb,fun x hx=> ⟨(h.inn x hx).1.below hb,(h.inn x hx).2⟩⟩
structure zbo (q q2:Nat) (w w':World) (e:Ending) (s:Sh) (t:Sk):Prop where
 ret:e= .returned (.tuple #[])
 at':∃ q3,SkAt w' q q3 s t/\(q3=q2\/w.heap.size<=q3)
 only:Only (fun k=> k=q) w w'
theorem zmr (q:Nat) (s:Sh) (t:Sk) (nv:Value) (pg sl:Int) (w:World) (hq:zaa w q (za1 s t nv) 135):
  Calls Tryz.prog 80 #[.pointer (some ⟨q,0,.none⟩),.int .i64 pg,.int .i64 sl] w fun e w'=> Turned q w w' e (za1 s (t.fin pg sl) nv) 135:=by
 have h0:=At1.start hq
 clear hq
 obtain ⟨sp,sc,sm⟩:=s
 obtain ⟨tc,tk,tf,tnow,tm,tpage,tslot,tfound,tdone⟩:=t
 have c8:=ci tpage (h0.cell 8)
 have c9:=ci tslot (h0.cell 9)
 have c10:=ce (.bool tfound) (h0.cell 10)
 have c11:=ce (.bool tdone) (h0.cell 11)
 have zf:=h0.free
 go_enter Tryz.func80,Tryz.ntmps80
 go_wp2_with fail
 go_returns
 exact ((((h0.set 8 _).set 9 _).set 10 _).set 11 _).fin rfl
theorem zol (q:Nat) (s:Sh) (t:Sk) (nv:Value) (w:World) (hq:zaa w q (za1 s t nv) 135) (h2:0<=t.many/\t.many < 64):
  Calls Tryz.prog 88 #[.pointer (some ⟨q,0,.none⟩)] w fun e w'=> Turned q w w' e (za1 s (t.turn s) .nilIface) 135:=by
 have h0:=At1.start hq
 clear hq
 unfold Sk.turn
 obtain ⟨sp,sc,sm⟩:=s
 obtain ⟨tc,tk,tf,tnow,tm,tpage,tslot,tfound,tdone⟩:=t
 dsimp only at h2 ⊢
 obtain ⟨m1,m2⟩:=h2
 obtain ⟨c0,c1,c2,c3,c4,c5⟩:=ci6 sp sc sm tc tk tf h0.cell
 have c6:=ce (nv) (h0.cell 6)
 have c7:=ci tm (h0.cell 7)
 have c8:=ci tpage (h0.cell 8)
 have c9:=ci tslot (h0.cell 9)
 have c10:=ce (.bool tfound) (h0.cell 10)
 have c11:=ce (.bool tdone) (h0.cell 11)
 have zf:=h0.free
 have w1:=wrp (tm + 1)
 go_enter Tryz.func88,Tryz.ntmps88
 go_upto_region 2 with fail
 have hB:=(h0.set 6 .nilIface).set 7 (.int .i64 (tm + 1))
 generalize World.setCell _ ⟨q,7,.none⟩ (.int .i64 (tm + 1))=U at *
 clear c0 c1 c2 c3 c4 c5 c6 c7 c8 c9 c10 c11 h0 zf
 have z0:=ci sp (hB.cell 0)
 have z7:=ci (tm + 1) (hB.cell 7)
 have lU:=hB.lt
 refine zad 13 (by kernel_rfl) (by kernel_rfl) ?_
 dsimp only [List.take,List.drop]
 repeat (go_big_quiet_step (fail))
 refine wpQuiet_nil ?_
 rintro _ ⟨e',rfl⟩
 have hC:=hB.below e'.below
 generalize e'.w=T at *
 change wpList _ _ _ _ _ T
 have k11:=ce (.bool tdone) (hC.cell 11)
 have zf:=hC.free
 go_wp2_with fail
 go_returns
 exact (hC.set 11 _).fin rfl
theorem zo6 (q:Nat) (s:Sh) (t:Sk) (nv:Value) (w:World) (hq:zaa w q (za1 s t nv) 135) (hp:1<=s.p/\s.p<=64) (h1:0<=t.first/\t.first < 64) (h2:0<=t.many/\t.many<=64):
  Calls Tryz.prog 87 #[.pointer (some ⟨q,0,.none⟩)] w fun e w'=> e= .returned (.int .i64 (t.here s))/\Below w.heap.size w w':=by
 unfold Sk.here
 obtain ⟨sp,sc,sm⟩:=s
 obtain ⟨tc,tk,tf,tnow,tm,tpage,tslot,tfound,tdone⟩:=t
 dsimp only at hp h1 h2 ⊢
 have lq:=hq.lt
 have c0:=ci sp (hq.cell 0)
 have c5:=ci tf (hq.cell 5)
 have c7:=ci tm (hq.cell 7)
 obtain ⟨p1,p2⟩:=hp
 obtain ⟨f1,f2⟩:=h1
 obtain ⟨m1,m2⟩:=h2
 have w1:=wrp (tf + tm)
 have w2:(tf + tm).tmod sp=(tf + tm) % sp:=Int.tmod_eq_emod_of_nonneg (by omega)
 have w4:(sp==0)=false:=by simp;omega
 have w3:IntKind.i64.wrap ((tf + tm) % sp)=(tf + tm) % sp:=by
  have b1:=Int.emod_nonneg (tf + tm) (by omega:sp≠0)
  have b2:=Int.emod_lt_of_pos (tf + tm) (by omega:0 < sp)
  exact IntWalk.i64_in _ ⟨by omega,by omega⟩
 clear hq
 go_enter Tryz.func87,Tryz.ntmps87
 go_wp2_with fail
 go_quiet (fail)
 have hb:=below_drewN (Below.refl w.heap.size w) nq
 go_wp2_with fail
 go_returns
 exact ⟨rfl,hb⟩
theorem zow (q:Nat) (s:Sh) (t:Sk) (nv:Value) (pg:Int) (w:World) (hq:zaa w q (za1 s t nv) 135):
  Calls Tryz.prog 85 #[.pointer (some ⟨q,0,.none⟩),.int .i64 pg] w fun e w'=> ∃ q3,w.heap.size<=q3/\zaa w' q3 (ze5 s (zfi s t.c pg t.k)) 172/\Turned q w w' e (za1 s (t.bind s pg) (mcV (.bn (zfi s t.c pg t.k)) q3)) 135:=by
 have h0:=At1.start hq
 clear hq
 have hnw:=fun Y=> z1j s t.c pg t.k Y
 generalize hbb:zfi s t.c pg t.k=bb at *
 obtain ⟨t2,ht2,ht2'⟩:∃ t2:Sk,Hid (t2= { t with page:=pg,now:=some (.bn bb) })/\t2=t.bind s pg:=⟨_,hd' (by rw [Sk.bind,hbb]),rfl⟩
 rw [<- ht2']
 clear ht2' hbb
 obtain ⟨cs,hcs,hcs'⟩:=hidv (ze5 s bb)
 rw [<- hcs'] at hnw ⊢
 clear hcs' hcs
 obtain ⟨sp,sc,sm⟩:=s
 obtain ⟨tc,tk,tf,tnow,tm,tpage,tslot,tfound,tdone⟩:=t
 dsimp only at hnw ht2 ⊢
 replace hnw:=hd' hnw
 obtain ⟨c0,c1,c2,c3,c4,c5⟩:=ci6 sp sc sm tc tk tf h0.cell
 have c6:=ce (nv) (h0.cell 6)
 have c7:=ci tm (h0.cell 7)
 have c8:=ci tpage (h0.cell 8)
 have c9:=ci tslot (h0.cell 9)
 have c10:=ce (.bool tfound) (h0.cell 10)
 have c11:=ce (.bool tdone) (h0.cell 11)
 have zf:=h0.free
 go_enter Tryz.func85,Tryz.ntmps85
 go_upto_region 1 with fail
 have hB:=h0.set 8 (.int .i64 pg)
 generalize World.setCell _ ⟨q,8,.none⟩ (.int .i64 pg)=U at *
 clear c0 c1 c2 c3 c4 c5 c6 c7 c8 c9 c10 c11 h0 zf
 replace hB:At1 q w U (za1 ⟨sp,sc,sm⟩ ⟨tc,tk,tf,tnow,tm,pg,tslot,tfound,tdone⟩ nv) 135:=hB
 have hS:=hd' (fun (Y:World) (v:Value) (h:zaa Y q (za1 ⟨sp,sc,sm⟩ ⟨tc,tk,tf,tnow,tm,pg,tslot,tfound,tdone⟩ v) 135)=> (⟨h.cell 0,h.cell 1,h.cell 2,h.cell 3,h.cell 4,h.cell 8⟩:Y.cell? ⟨q,0,.none⟩=some (.int .i64 sp)/\Y.cell? ⟨q,1,.none⟩=some (.int .i64 sc)/\Y.cell? ⟨q,2,.none⟩=some (.int .i64 sm)/\Y.cell? ⟨q,3,.none⟩=some (.int .i64 tc)/\Y.cell? ⟨q,4,.none⟩=some (.int .i64 tk)/\Y.cell? ⟨q,8,.none⟩=some (.int .i64 pg)))
 go_region_held3 (fun Y=> Y.cell? ⟨q,0,.none⟩=some (.int .i64 sp)/\Y.cell? ⟨q,1,.none⟩=some (.int .i64 sc)/\Y.cell? ⟨q,2,.none⟩=some (.int .i64 sm)/\Y.cell? ⟨q,3,.none⟩=some (.int .i64 tc)/\Y.cell? ⟨q,4,.none⟩=some (.int .i64 tk)/\Y.cell? ⟨q,8,.none⟩=some (.int .i64 pg))
  (first | exact hS.out _ _ hB.row.drew | exact hS.out _ _ hA.row | exact hS.out _ _ ((hA.set 6 _).row.cast rfl) | fail)
  (first | (go_at_call 91;(with_reducible refine (hnw.out _).mono ?_);rintro r w1 ⟨q3,rfl,hq3,hrow3,hb1⟩;have hA:=(At1.drewN hB 1).below hb1;have z6:=ce (nv) (hA.cell 6);have zf:=hA.free) | fail)
 go_wp2_with fail
 go_returns
 exact ⟨q3,Nat.le_trans hB.only.size hq3,hrow3.other (by have:=hB.ls;have:=hB.only.size;have hd:U.drew.heap.size=U.heap.size:=rfl;omega) _ _,(hA.set 6 _).fin (by rw [ht2.out];rfl)⟩
theorem zbo.zna {q q2:Nat} {w w':World} {e:Ending} {s:Sh} {t t':Sk} (h:SkAt w q q2 s t) (hn:t'.now=t.now\/t'.now=none) (hT:Turned q w w' e (za1 s t' (nowV t'.now q2)) 135):zbo q q2 w w' e s t':=by
 refine ⟨hT.ret,⟨q2,⟨hT.row,fun x hx=> ?_⟩,.inl rfl⟩,hT.only⟩
 rcases hn with hn | hn
 ·obtain ⟨h1,h2⟩:=h.inn x (hn ▸ hx)
  exact ⟨h1.only hT.only (fun e=> h2 e.symm),h2⟩
 ·rw [hn] at hx;cases hx
theorem zyv (q q2:Nat) (s:Sh) (t:Sk) (x:Tk) (w:World) (h:SkAt w q q2 s t) (hx:t.now=some (.tk x)):
  Calls Tryz.prog 73 #[.pointer (some ⟨q,0,.none⟩)] w fun e w'=> zbo q q2 w w' e s (t.after s (.tk x)):=by
 obtain ⟨hin0,hne⟩:=h.inn _ hx
 have h0:=At1.start h.row
 rw [hx] at h0
 have hfd:=fun Y (hY:zaa Y q2 (zd1 s x) 149)=> zu4 q2 s x Y hY
 have hin:zaa w q2 (zd1 s x) 149:=hin0
 clear hin0
 have he:=fun Y (hY:zaa Y q (za1 s t (mcV (.tk x) q2)) 135)=> zmr q s t (mcV (.tk x) q2) x.ep x.es Y hY
 have hnw:=fun Y=> z1s s t.c t.k t.first Y
 have hr:t.after s (.tk x)=if x.found=true then t.fin x.ep x.es else { t with now:=some (.sc (ziq s t.c t.k t.first)) }:=rfl
 have hfin:Hid (∀ Y e,Turned q w Y e (za1 s (t.fin x.ep x.es) (mcV (.tk x) q2)) 135->zbo q q2 w Y e s (t.fin x.ep x.es)):=hd' fun Y e hT=> zbo.zna h (.inl rfl) (by show Turned q w Y e (za1 s (t.fin x.ep x.es) (nowV t.now q2)) _;rw [hx];exact hT)
 rw [hr]
 clear hr h hx
 rcases Bool.eq_false_or_eq_true x.found with hf | hf
 ·rw [if_pos hf]
  unfold zgd at hfd
  rw [hf] at hfd
  clear hnw hf
  simp only [if_true] at hfd
  generalize x.ep=a at *
  generalize x.es=b at *
  generalize ht2:t.fin a b=t2 at *
  clear ht2
  generalize zd1 s x=ics at *
  have c6:=ce (.iface 136 (.pointer (some ⟨q2,0,.none⟩))) (h0.cell 6)
  replace hfd:=hd' hfd
  replace he:=hd' he
  go_enter Tryz.func73,Tryz.ntmps73
  go_wp2_with (first
   | (go_at_call 79;(with_reducible refine (hfd.out _ hin).mono ?_);rintro r w1 ⟨rfl,hb1⟩;have hA:=h0.below hb1)
   | (go_at_call 80;(with_reducible refine (he.out _ hA.row).mono ?_);rintro r w2 hT;obtain rfl:=hT.ret)
   | fail)
  go_returns
  exact hfin.out _ _ ((hA.turned hT).fin rfl)
 ·rw [if_neg (by rw [hf];decide)]
  unfold zgd at hfd
  rw [hf] at hfd
  clear hfin he hf
  simp only [Bool.false_eq_true,if_false] at hfd
  obtain ⟨y,hy,hy'⟩:=hidv (ziq s t.c t.k t.first)
  rw [<- hy'] at hnw ⊢
  clear hy hy'
  obtain ⟨ycs,hycs⟩:∃ ycs,ycs=zbt s y:=⟨_,rfl⟩
  rw [<- hycs] at hnw
  have hfin:Hid (∀ Y e q3,w.heap.size<=q3->zaa Y q3 ycs 165->Turned q w Y e (za1 s { t with now:=some (.sc y) } (mcV (.sc y) q3)) 135->zbo q q2 w Y e s { t with now:=some (.sc y) }):=hd' fun Y e q3 h3 hrow hT=> ⟨hT.ret,⟨q3,⟨hT.row,fun z hz=> by
   simp only [Option.some.injEq] at hz
   subst hz
   rw [hycs] at hrow
   exact ⟨hrow,by have:=h0.ls;omega⟩⟩,.inr h3⟩,hT.only⟩
  clear hycs
  generalize zd1 s x=ics at *
  obtain ⟨sp,sc,sm⟩:=s
  obtain ⟨tc,tk,tf,tnow,tm,tpage,tslot,tfound,tdone⟩:=t
  dsimp only at hnw hfin ⊢
  have c6:=ce (.iface 136 (.pointer (some ⟨q2,0,.none⟩))) (h0.cell 6)
  replace hfd:=hd' hfd
  replace hnw:=hd' hnw
  go_enter Tryz.func73,Tryz.ntmps73
  go_upto_region 6 with (first
   | (go_at_call 79;(with_reducible refine (hfd.out _ hin).mono ?_);rintro r w1 ⟨rfl,hb1⟩;have hA:=h0.below hb1)
   | fail)
  clear c6
  have hS:=hd' (fun (Y:World) (v:Value) (h:zaa Y q (za1 ⟨sp,sc,sm⟩ ⟨tc,tk,tf,tnow,tm,tpage,tslot,tfound,tdone⟩ v) 135)=> (⟨h.cell 0,h.cell 1,h.cell 2,h.cell 3,h.cell 4,h.cell 5⟩:Y.cell? ⟨q,0,.none⟩=some (.int .i64 sp)/\Y.cell? ⟨q,1,.none⟩=some (.int .i64 sc)/\Y.cell? ⟨q,2,.none⟩=some (.int .i64 sm)/\Y.cell? ⟨q,3,.none⟩=some (.int .i64 tc)/\Y.cell? ⟨q,4,.none⟩=some (.int .i64 tk)/\Y.cell? ⟨q,5,.none⟩=some (.int .i64 tf)))
  go_region_held3 (fun Y=> Y.cell? ⟨q,0,.none⟩=some (.int .i64 sp)/\Y.cell? ⟨q,1,.none⟩=some (.int .i64 sc)/\Y.cell? ⟨q,2,.none⟩=some (.int .i64 sm)/\Y.cell? ⟨q,3,.none⟩=some (.int .i64 tc)/\Y.cell? ⟨q,4,.none⟩=some (.int .i64 tk)/\Y.cell? ⟨q,5,.none⟩=some (.int .i64 tf))
   (first | exact hS.out _ _ hA.row.drew | exact hS.out _ _ hB.row | exact hS.out _ _ ((hB.set 6 _).row.cast rfl) | fail)
   (first | (go_at_call 81;(with_reducible refine (hnw.out _).mono ?_);rintro r w2 ⟨q3,rfl,hq3,hrow3,hb2⟩;have hB:=(At1.drewN hA 1).below hb2;have z6:=hB.cell 6;have zf:=hB.free) | fail)
  go_wp2_with fail
  go_returns
  exact hfin.out _ _ q3 (Nat.le_trans hA.only.size hq3) (hrow3.other (by have:=hA.ls;have:=hA.only.size;have hd:w1.drew.heap.size=w1.heap.size:=rfl;omega) _ _) ((hB.set 6 _).fin rfl)
theorem zx0 (q q2:Nat) (s:Sh) (t:Sk) (x:Sc) (w:World) (h:SkAt w q q2 s t) (hx:t.now=some (.sc x)) (hp:1<=s.p/\s.p<=64) (hxb:x.found=true->(0<=x.first/\x.first < 64)/\(0<=x.many/\x.many<=64)):
  Calls Tryz.prog 73 #[.pointer (some ⟨q,0,.none⟩)] w fun e w'=> zbo q q2 w w' e s (t.after s (.sc x)):=by
 obtain ⟨hin0,hne⟩:=h.inn _ hx
 have h0:=At1.start h.row
 rw [hx] at h0
 have hfd:=fun Y (hY:zaa Y q2 (zbt s x) 165)=> zum q2 s x Y hY hp hxb
 have hin:zaa w q2 (zbt s x) 165:=hin0
 clear hin0
 have he:=fun Y (hY:zaa Y q (za1 s t (mcV (.sc x) q2)) 135)=> zmr q s t (mcV (.sc x) q2) (x.page s) x.i Y hY
 have hnw:=fun Y=> z3d s t.c t.first Y
 have hr:t.after s (.sc x)=if x.found=true then t.fin (x.page s) x.i else { t with now:=some (.pc (zlu s t.c t.first)) }:=rfl
 have hfin:Hid (∀ Y e,Turned q w Y e (za1 s (t.fin (x.page s) x.i) (mcV (.sc x) q2)) 135->zbo q q2 w Y e s (t.fin (x.page s) x.i)):=hd' fun Y e hT=> zbo.zna h (.inl rfl) (by show Turned q w Y e (za1 s (t.fin (x.page s) x.i) (nowV t.now q2)) _;rw [hx];exact hT)
 rw [hr]
 clear hr h hx hxb
 unfold zgd at hfd
 rcases Bool.eq_false_or_eq_true x.found with hf | hf
 ·rw [if_pos hf]
  rw [hf] at hfd
  clear hnw hf
  simp only [if_true] at hfd
  generalize x.page s=a at *
  generalize x.i=b at *
  generalize ht2:t.fin a b=t2 at *
  clear ht2
  generalize zbt s x=ics at *
  have c6:=ce (.iface 158 (.pointer (some ⟨q2,0,.none⟩))) (h0.cell 6)
  replace hfd:=hd' hfd
  replace he:=hd' he
  go_enter Tryz.func73,Tryz.ntmps73
  go_wp2_with (first
   | (go_at_call 82;(with_reducible refine (hfd.out _ hin).mono ?_);rintro r w1 ⟨rfl,hb1⟩;have hA:=h0.below hb1)
   | (go_at_call 80;(with_reducible refine (he.out _ hA.row).mono ?_);rintro r w2 hT;obtain rfl:=hT.ret)
   | fail)
  go_returns
  exact hfin.out _ _ ((hA.turned hT).fin rfl)
 ·rw [if_neg (by rw [hf];decide)]
  rw [hf] at hfd
  clear hfin he hf
  simp only [Bool.false_eq_true,if_false] at hfd
  obtain ⟨y,hy,hy'⟩:=hidv (zlu s t.c t.first)
  rw [<- hy'] at hnw ⊢
  clear hy hy'
  obtain ⟨ycs,hycs⟩:∃ ycs,ycs=zfn s y:=⟨_,rfl⟩
  rw [<- hycs] at hnw
  have hfin:Hid (∀ Y e q3,w.heap.size<=q3->zaa Y q3 ycs 167->Turned q w Y e (za1 s { t with now:=some (.pc y) } (mcV (.pc y) q3)) 135->zbo q q2 w Y e s { t with now:=some (.pc y) }):=hd' fun Y e q3 h3 hrow hT=> ⟨hT.ret,⟨q3,⟨hT.row,fun z hz=> by
   simp only [Option.some.injEq] at hz
   subst hz
   rw [hycs] at hrow
   exact ⟨hrow,by have:=h0.ls;omega⟩⟩,.inr h3⟩,hT.only⟩
  clear hycs
  generalize zbt s x=ics at *
  obtain ⟨sp,sc,sm⟩:=s
  obtain ⟨tc,tk,tf,tnow,tm,tpage,tslot,tfound,tdone⟩:=t
  dsimp only at hnw hfin ⊢
  have c6:=ce (.iface 158 (.pointer (some ⟨q2,0,.none⟩))) (h0.cell 6)
  replace hfd:=hd' hfd
  replace hnw:=hd' hnw
  go_enter Tryz.func73,Tryz.ntmps73
  go_upto_region 12 with (first
   | (go_at_call 82;(with_reducible refine (hfd.out _ hin).mono ?_);rintro r w1 ⟨rfl,hb1⟩;have hA:=h0.below hb1)
   | fail)
  clear c6
  have hS:=hd' (fun (Y:World) (v:Value) (h:zaa Y q (za1 ⟨sp,sc,sm⟩ ⟨tc,tk,tf,tnow,tm,tpage,tslot,tfound,tdone⟩ v) 135)=> (⟨h.cell 0,h.cell 1,h.cell 2,h.cell 3,h.cell 4,h.cell 5⟩:Y.cell? ⟨q,0,.none⟩=some (.int .i64 sp)/\Y.cell? ⟨q,1,.none⟩=some (.int .i64 sc)/\Y.cell? ⟨q,2,.none⟩=some (.int .i64 sm)/\Y.cell? ⟨q,3,.none⟩=some (.int .i64 tc)/\Y.cell? ⟨q,4,.none⟩=some (.int .i64 tk)/\Y.cell? ⟨q,5,.none⟩=some (.int .i64 tf)))
  go_region_held3 (fun Y=> Y.cell? ⟨q,0,.none⟩=some (.int .i64 sp)/\Y.cell? ⟨q,1,.none⟩=some (.int .i64 sc)/\Y.cell? ⟨q,2,.none⟩=some (.int .i64 sm)/\Y.cell? ⟨q,3,.none⟩=some (.int .i64 tc)/\Y.cell? ⟨q,4,.none⟩=some (.int .i64 tk)/\Y.cell? ⟨q,5,.none⟩=some (.int .i64 tf))
   (first | exact hS.out _ _ hA.row.drew | exact hS.out _ _ hB.row | exact hS.out _ _ ((hB.set 6 _).row.cast rfl) | fail)
   (first | (go_at_call 83;(with_reducible refine (hnw.out _).mono ?_);rintro r w2 ⟨q3,rfl,hq3,hrow3,hb2⟩;have hB:=(At1.drewN hA 1).below hb2;have z6:=hB.cell 6;have zf:=hB.free) | fail)
  go_wp2_with fail
  go_returns
  exact hfin.out _ _ q3 (Nat.le_trans hA.only.size hq3) (hrow3.other (by have:=hA.ls;have:=hA.only.size;have hd:w1.drew.heap.size=w1.heap.size:=rfl;omega) _ _) ((hB.set 6 _).fin rfl)
theorem zyx (q q2:Nat) (s:Sh) (t:Sk) (x:Pc) (w:World) (h:SkAt w q q2 s t) (hx:t.now=some (.pc x)) (hp:1<=s.p/\s.p<=64) (hxb:x.found=true->(0<=x.first/\x.first < 64)/\(0<=x.many/\x.many<=64)):
  Calls Tryz.prog 73 #[.pointer (some ⟨q,0,.none⟩)] w fun e w'=> zbo q q2 w w' e s (t.after s (.pc x)):=by
 obtain ⟨hin0,hne⟩:=h.inn _ hx
 have h0:At1 q w w (za1 s t (mcV (.pc x) q2)) 135:=by have h1:=At1.start h.row;rw [hx] at h1;exact h1
 have hin:zaa w q2 (zfn s x) 167:=hin0
 clear hin0
 have c6:=ce (.iface 160 (.pointer (some ⟨q2,0,.none⟩))) (h0.cell 6)
 have hfd:=zu1 q2 s x w hin hp hxb
 have hbi:=fun Y (hY:zaa Y q (za1 s t (mcV (.pc x) q2)) 135)=> zow q s t (mcV (.pc x) q2) (x.page s) Y hY
 have hr:t.after s (.pc x)=if x.found=true then t.bind s (x.page s) else { t with now:=none }:=rfl
 rw [hr]
 rcases Bool.eq_false_or_eq_true x.found with hf | hf
 ·rw [if_pos hf]
  rw [hf] at hfd
  simp only [if_true] at hfd
  have hfin:Hid (∀ Y e Y2 q3,Below w.heap.size w Y->Y.heap.size<=q3->zaa Y2 q3 (ze5 s (zfi s t.c (x.page s) t.k)) 172->Turned q Y Y2 e (za1 s (t.bind s (x.page s)) (mcV (.bn (zfi s t.c (x.page s) t.k)) q3)) 135->zbo q q2 w Y2 e s (t.bind s (x.page s))):=hd' fun Y e Y2 q3 hb h3 hrow hT=> ⟨hT.ret,⟨q3,⟨hT.row,fun z hz=> by
   simp only [Sk.bind,Option.some.injEq] at hz
   subst hz
   exact ⟨hrow,by have:=h0.ls;have:=hb.size;omega⟩⟩,.inr (by have:=hb.size;omega)⟩,(Only.of_below hb).trans hT.only (fun _ _ e=> e)⟩
  have h0r:=h0
  clear h hx hxb hr hf
  generalize za1 s t (mcV (.pc x) q2)=cs0 at *
  generalize ze5 s (zfi s t.c (x.page s) t.k)=ics at *
  have hbi2:Hid (∀ Y,zaa Y q cs0 135->Calls Tryz.prog 85 #[.pointer (some ⟨q,0,.none⟩),.int .i64 (x.page s)] Y fun e w'=> ∃ q3,Y.heap.size<=q3/\zaa w' q3 ics 172/\Turned q Y w' e (za1 s (t.bind s (x.page s)) (mcV (.bn (zfi s t.c (x.page s) t.k)) q3)) 135):=hd' hbi
  generalize x.page s=a at *
  generalize t.bind s a=t2 at *
  clear hbi
  replace hfd:=hd' hfd
  go_enter Tryz.func73,Tryz.ntmps73
  go_wp2_with (first
   | (go_at_call 84;(with_reducible refine hfd.out.mono ?_);rintro r w1 ⟨rfl,hb1⟩;have hA:=h0.below hb1)
   | (go_at_call 85;(with_reducible refine (hbi2.out _ hA.row).mono ?_);rintro r w2 ⟨q3,hq3,hrow3,hT⟩;obtain rfl:=hT.ret)
   | fail)
  go_returns
  exact hfin.out _ _ _ q3 hb1 hq3 hrow3 hT
 ·rw [if_neg (by rw [hf];decide)]
  rw [hf] at hfd
  simp only [Bool.false_eq_true,if_false] at hfd
  have hfin:Hid (∀ Y e,Turned q w Y e (za1 s { t with now:=none } .nilIface) 135->zbo q q2 w Y e s { t with now:=none }):=hd' fun Y e hT=> ⟨hT.ret,⟨q2,⟨hT.row,fun z hz=> (by cases hz)⟩,.inl rfl⟩,hT.only⟩
  clear h hx hxb hr hf hbi
  replace hfd:=hd' hfd
  go_enter Tryz.func73,Tryz.ntmps73
  go_wp2_with (first
   | (go_at_call 84;(with_reducible refine hfd.out.mono ?_);rintro r w1 ⟨rfl,hb1⟩;have hA:=h0.below hb1;have z6:=hA.cell 6;have zf:=hA.free)
   | fail)
  go_returns
  exact hfin.out _ _ ((hA.set 6 _).fin rfl)
theorem zxn (q q2:Nat) (s:Sh) (t:Sk) (x:Sp) (w:World) (h:SkAt w q q2 s t) (hx:t.now=some (.sp x)) (hp:1<=s.p/\s.p<=64) (h1:0<=t.first/\t.first < 64) (h2:0<=t.many/\t.many < 64):
  Calls Tryz.prog 73 #[.pointer (some ⟨q,0,.none⟩)] w fun e w'=> zbo q q2 w w' e s (t.after s (.sp x)):=by
 obtain ⟨hin0,hne⟩:=h.inn _ hx
 have h0:At1 q w w (za1 s t (mcV (.sp x) q2)) 135:=by have h1:=At1.start h.row;rw [hx] at h1;exact h1
 have hin:zaa w q2 (zc9 s x) 170:=hin0
 clear hin0
 have c6:=ce (.iface 138 (.pointer (some ⟨q2,0,.none⟩))) (h0.cell 6)
 have hfd:=zpa q2 (zc9 s x) x.held w hin rfl
 have hbi:=fun Y (hY:zaa Y q (za1 s t (mcV (.sp x) q2)) 135)=> zow q s t (mcV (.sp x) q2) (t.here s) Y hY
 have hhe:=fun Y (hY:zaa Y q (za1 s t (mcV (.sp x) q2)) 135)=> zo6 q s t (mcV (.sp x) q2) Y hY hp h1 (by omega)
 have htu:=fun Y (hY:zaa Y q (za1 s t (mcV (.sp x) q2)) 135)=> zol q s t (mcV (.sp x) q2) Y hY h2
 have hr:t.after s (.sp x)=if x.held=true then t.bind s (t.here s) else t.turn s:=rfl
 rw [hr]
 rcases Bool.eq_false_or_eq_true x.held with hf | hf
 ·rw [if_pos hf]
  rw [hf] at hfd
  have hfin:Hid (∀ Y e Y2 q3,Below w.heap.size w Y->Y.heap.size<=q3->zaa Y2 q3 (ze5 s (zfi s t.c (t.here s) t.k)) 172->Turned q Y Y2 e (za1 s (t.bind s (t.here s)) (mcV (.bn (zfi s t.c (t.here s) t.k)) q3)) 135->zbo q q2 w Y2 e s (t.bind s (t.here s))):=hd' fun Y e Y2 q3 hb h3 hrow hT=> ⟨hT.ret,⟨q3,⟨hT.row,fun z hz=> by
   simp only [Sk.bind,Option.some.injEq] at hz
   subst hz
   exact ⟨hrow,by have:=h0.ls;have:=hb.size;omega⟩⟩,.inr (by have:=hb.size;omega)⟩,(Only.of_below hb).trans hT.only (fun _ _ e=> e)⟩
  clear h hx hr hf htu h1 h2 hp
  generalize za1 s t (mcV (.sp x) q2)=cs0 at *
  generalize ze5 s (zfi s t.c (t.here s) t.k)=ics at *
  have hbi2:Hid (∀ Y,zaa Y q cs0 135->Calls Tryz.prog 85 #[.pointer (some ⟨q,0,.none⟩),.int .i64 (t.here s)] Y fun e w'=> ∃ q3,Y.heap.size<=q3/\zaa w' q3 ics 172/\Turned q Y w' e (za1 s (t.bind s (t.here s)) (mcV (.bn (zfi s t.c (t.here s) t.k)) q3)) 135):=hd' hbi
  generalize t.here s=a at *
  generalize t.bind s a=t2 at *
  clear hbi
  replace hfd:=hd' hfd
  replace hhe:=hd' hhe
  go_enter Tryz.func73,Tryz.ntmps73
  go_wp2_with (first
   | (go_at_call 86;(with_reducible refine hfd.out.mono ?_);rintro r w1 ⟨rfl,hb1⟩;obtain rfl:=hb1.symm)
   | (go_at_call 87;(with_reducible refine (hhe.out _ h0.row).mono ?_);rintro r w2 ⟨rfl,hb2⟩;have hA:=h0.below hb2)
   | (go_at_call 85;(with_reducible refine (hbi2.out _ hA.row).mono ?_);rintro r w3 ⟨q3,hq3,hrow3,hT⟩;obtain rfl:=hT.ret)
   | fail)
  go_returns
  exact hfin.out _ _ _ q3 hb2 hq3 hrow3 hT
 ·rw [if_neg (by rw [hf];decide)]
  rw [hf] at hfd
  have hfin:Hid (∀ Y e,Turned q w Y e (za1 s (t.turn s) .nilIface) 135->zbo q q2 w Y e s (t.turn s)):=hd' fun Y e hT=> ⟨hT.ret,⟨q2,⟨hT.row,fun z hz=> (by cases hz)⟩,.inl rfl⟩,hT.only⟩
  clear h hx hr hf hbi hhe h1 h2 hp
  generalize za1 s t (mcV (.sp x) q2)=cs0 at *
  generalize t.turn s=t2 at *
  replace hfd:=hd' hfd
  replace htu:=hd' htu
  go_enter Tryz.func73,Tryz.ntmps73
  go_wp2_with (first
   | (go_at_call 86;(with_reducible refine hfd.out.mono ?_);rintro r w1 ⟨rfl,hb1⟩;obtain rfl:=hb1.symm)
   | (go_at_call 88;(with_reducible refine (htu.out _ h0.row).mono ?_);rintro r w2 hT;obtain rfl:=hT.ret)
   | fail)
  go_returns
  exact hfin.out _ _ hT
theorem zy4 (q q2:Nat) (s:Sh) (t:Sk) (x:Bn) (w:World) (h:SkAt w q q2 s t) (hx:t.now=some (.bn x)):
  Calls Tryz.prog 73 #[.pointer (some ⟨q,0,.none⟩)] w fun e w'=> zbo q q2 w w' e s (t.after s (.bn x)):=by
 obtain ⟨hin0,hne⟩:=h.inn _ hx
 have h0:At1 q w w (za1 s t (mcV (.bn x) q2)) 135:=by have h1:=At1.start h.row;rw [hx] at h1;exact h1
 have hin:zaa w q2 (ze5 s x) 172:=hin0
 clear hin0
 have c6:=ce (.iface 163 (.pointer (some ⟨q2,0,.none⟩))) (h0.cell 6)
 have he:=zmr q s t (mcV (.bn x) q2) t.page 0 w h0.row
 have hr:t.after s (.bn x)=t.fin t.page 0:=rfl
 rw [hr]
 have hfin:Hid (∀ Y e,Turned q w Y e (za1 s (t.fin t.page 0) (mcV (.bn x) q2)) 135->zbo q q2 w Y e s (t.fin t.page 0)):=hd' fun Y e hT=> zbo.zna h (.inl rfl) (by show Turned q w Y e (za1 s (t.fin t.page 0) (nowV t.now q2)) _;rw [hx];exact hT)
 have c8:=ci t.page (h0.cell 8)
 clear h hx hr
 generalize t.fin t.page 0=t2 at *
 generalize t.page=pg at *
 replace he:=hd' he
 go_enter Tryz.func73,Tryz.ntmps73
 go_wp2_with (first
  | (go_at_call 80;(with_reducible refine he.out.mono ?_);rintro r w2 hT;obtain rfl:=hT.ret)
  | fail)
 go_returns
 exact hfin.out _ _ hT
theorem zvb (q q2:Nat) (s:Sh) (t:Sk) (x:Mc) (w:World) (h:SkAt w q q2 s t) (hx:t.now=some x) (hp:1<=s.p/\s.p<=64) (ho:skOk s t) (hd:t.done=false):
  Calls Tryz.prog 73 #[.pointer (some ⟨q,0,.none⟩)] w fun e w'=> zbo q q2 w w' e s (t.after s x):=by
 obtain ⟨c1,c2,c3,c4,c5⟩:=ho.cl hd
 obtain ⟨hxo,_⟩:=c5 x hx
 cases x with
 | tk x=> exact zyv q q2 s t x w h hx
 | sc x=> exact zx0 q q2 s t x w h hx hp (fun hf=> by have:=hxo.fd hf;omega)
 | pc x=> exact zyx q q2 s t x w h hx hp (fun hf=> by have:=hxo.fd hf;omega)
 | sp x=> exact zxn q q2 s t x w h hx hp (by omega) (by omega)
 | bn x=> exact zy4 q q2 s t x w h hx
end Go.Proofs.YthgekdlegbmehaaGreat
