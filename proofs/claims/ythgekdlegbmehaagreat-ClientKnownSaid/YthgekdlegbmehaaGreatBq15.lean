/- The Runner's step in memory. -/
import Derived.Test.YthgekdlegbmehaaGreatBq14

set_option linter.all false
set_option maxHeartbeats 2000000
set_option maxRecDepth 100000
namespace Go.Proofs.YthgekdlegbmehaaGreat

open Go.RowKit

attribute [local go_sem ↓] Go.wp_at_zero Go.wp_at_succ

structure zbu (q q2 p b:Nat) (has:Bool) (w w':World) (e:Ending) (s:Sh) (t:Rn) (m:Mem):Prop where
 ret:e= .returned (.tuple #[])
 at':∃ q3,RnAt w' q q3 s t/\(q3=q2/\(has=false->t.strip=none)\/w.heap.size<=q3)
 wds:zaq w' p b m
 only:Only (fun k=> k=q\/(has=true/\k=q2)\/k=p\/k=b) w w'
theorem zbu.zoq {q q2 p b:Nat} {w w':World} {s:Sh} {t t':Rn} {m:Mem} (h:RnAt w q q2 s t) (hn:t.strip≠none->q2≠p/\q2≠b) (hA:At3 q p b w w' (za3 s t' (zbz t'.strip q2)) 140 m) (ht:t'.strip=t.strip):zbu q q2 p b t.strip.isSome w w' (.returned (.tuple #[])) s t' m:=by
 refine ⟨rfl,⟨q2,⟨hA.row,fun x hx=> ?_⟩,.inl ⟨rfl,fun e=> ?_⟩⟩,hA.wds,hA.only.weak fun k hk=> ?_⟩
 ·rw [ht] at hx
  obtain ⟨h1,h2⟩:=h.inn x hx
  have h3:=hn (by rw [hx];exact fun e=> by cases e)
  exact ⟨h1.only hA.only (by rintro (e | e | e);exact h2 e.symm;exact h3.1 e;exact h3.2 e),h2⟩
 ·rw [ht]
  rcases hq:t.strip with _ | x
  ·rfl
  ·rw [hq] at e;cases e
 ·rcases hk with hk | hk | hk
  ·exact .inl hk
  ·exact .inr (.inr (.inl hk))
  ·exact .inr (.inr (.inr hk))
def znx (s:Sh) (t:Rn) (m:Mem):Rn:=
 let pg:=zak s.p s.c s.m t.at'
 if zal s.p s.c s.m t.at' (m.get pg)=true/\zbx (m.get pg)=0 then { t with next:=1 }
 else if zal s.p s.c s.m t.at' (m.get pg)=true/\zbx (m.get pg)=2 then { t with next:=2,strip:=some (zfa s t.c t.at' (za2 (m.get pg) 0)) }
 else t.miss s
theorem zxl (q q2 p b:Nat) (s:Sh) (t:Rn) (m:Mem) (w:World) (h:RnAt w q q2 s t) (hw:zaq w p b m) (hqp:q≠p) (hqb:q≠b) (hn2:t.strip≠none->q2≠p/\q2≠b) (hf:Fits s m) (hs:m.st < 1000000000)
  (ha:0<=t.at'/\t.at' < s.p) (hpg:0<=t.pages/\t.pages<=8):
  Calls Tryz.prog 125 #[.pointer (some ⟨q,0,.none⟩),.pointer (some ⟨p,0,.none⟩)] w fun e w'=> zbu q q2 p b t.strip.isSome w w' e s (znx s t m) (m.load t.c (s.c + t.at')):=by
 have hbd:=hf.bd
 have h0:At3 q p b w w (za3 s t (zbz t.strip q2)) 140 m:=At3.start h.row hw hqp hqb
 obtain ⟨hpx,hph⟩:=hf.page ha
 have hcpp:=fun Y=> planPage_any s.p s.c s.m t.at' Y
 rw [hpx] at hcpp
 have hlp:=fun Y (hY:zaq Y p b m)=> zc1 p b m t.c (s.c + t.at') Y hY hph hs
 have hrp:=fun Y=> zh3 s t.at' (m.get (s.c + t.at')) Y (Mem.ze4 hw.fit _)
 have hms:=fun Y (hY:zaa Y q (za3 s t (zbz t.strip q2)) 140)=> zkl q s t (zbz t.strip q2) Y hY (by omega) (by omega) hpg
 have hnw:=fun k Y=> zs8 s t.c t.at' k Y
 have hr:znx s t m=if zal s.p s.c s.m t.at' (m.get (s.c + t.at'))=true/\pgK s t.at' (m.get (s.c + t.at'))=0 then { t with next:=1 } else if zal s.p s.c s.m t.at' (m.get (s.c + t.at'))=true/\pgK s t.at' (m.get (s.c + t.at'))=2 then { t with next:=2,strip:=some (zfa s t.c t.at' (pgP s t.at' (m.get (s.c + t.at')) 0)) } else t.miss s:=by
  unfold znx pgK pgP
  rw [hpx]
  by_cases hB:zal s.p s.c s.m t.at' (m.get (s.c + t.at'))=true <;> simp [hB]
 obtain ⟨t2,ht2,ht2'⟩:∃ t2:Rn,Hid (t2=znx s t m)/\t2=znx s t m:=⟨_,hd' rfl,rfl⟩
 rw [<- ht2']
 clear ht2'
 replace ht2:=hd' (ht2.out.trans hr)
 clear hr
 generalize s.c + t.at'=pa at *
 generalize m.get pa=x at *
 generalize zal s.p s.c s.m t.at' x=B at *
 generalize pgK s t.at' x=e0 at *
 generalize pgP s t.at' x 0=e1 at *
 generalize pgP s t.at' x 1=e2 at *
 replace hnw:=fun Y=> hnw e1 Y
 generalize hnb:zfa s t.c t.at' e1=nb at *
 have hmstrip:(t.miss s).strip=t.strip:=by unfold Rn.miss Rn.gone;split <;> rfl
 have hfin0:Hid (∀ Y,B=true/\e0=0->At3 q p b w Y (za3 s { t with next:=1 } (zbz t.strip q2)) 140 (m.load t.c pa)->zbu q q2 p b t.strip.isSome w Y (.returned (.tuple #[])) s t2 (m.load t.c pa)):=hd' fun Y hB hA=> by
  rw [ht2.out.trans (if_pos hB)]
  exact zbu.zoq h hn2 hA rfl
 have hfin1:Hid (∀ Y q3,B=true/\e0=2->w.heap.size<=q3->zaa Y q3 (zc9 s nb) 170->At3 q p b w Y (za3 s { t with next:=2,strip:=some nb } (.pointer (some ⟨q3,0,.none⟩))) 140 (m.load t.c pa)->zbu q q2 p b t.strip.isSome w Y (.returned (.tuple #[])) s t2 (m.load t.c pa)):=hd' fun Y q3 hB h3 hrow hA=> by
  have e:=ht2.out.trans (if_neg (fun h=> by have:=hB.2;have:=h.2;omega)) |>.trans (if_pos hB)
  rw [e]
  refine ⟨rfl,⟨q3,⟨hA.row,fun z hz=> ?_⟩,.inr h3⟩,hA.wds,hA.only.weak fun k hk=> ?_⟩
  ·simp only [Option.some.injEq] at hz
   subst hz
   exact ⟨hrow,by have:=h0.ls;omega⟩
  ·rcases hk with hk | hk | hk
   ·exact .inl hk
   ·exact .inr (.inr (.inl hk))
   ·exact .inr (.inr (.inr hk))
 have hfin2:Hid (∀ Y,¬ (B=true/\e0=0)->¬ (B=true/\e0=2)->At3 q p b w Y (za3 s (t.miss s) (zbz t.strip q2)) 140 (m.load t.c pa)->zbu q q2 p b t.strip.isSome w Y (.returned (.tuple #[])) s t2 (m.load t.c pa)):=hd' fun Y hB hB2 hA=> by
  rw [ht2.out.trans (if_neg hB) |>.trans (if_neg hB2)]
  exact zbu.zoq h hn2 (by rw [hmstrip];exact hA) hmstrip
 clear ht2 hnb hpx hph hbd hf h hw hn2 ha hpg hmstrip
 generalize t.miss s=tM at *
 generalize zbz t.strip q2=sv at *
 generalize t.strip.isSome=has at *
 generalize zc9 s nb=ics at *
 obtain ⟨sp,sc,sm⟩:=s
 obtain ⟨tc,tn,th,ta,ti,tx,tstrip,tfound,tdone⟩:=t
 dsimp only at hlp hrp hcpp hms hnw hfin0 hfin1 hfin2 ⊢
 replace hlp:=hd' hlp
 replace hrp:=hd' hrp
 replace hcpp:=hd' hcpp
 replace hms:=hd' hms
 replace hnw:=hd' hnw
 have lq:=h0.lt
 obtain ⟨c0,c1,c2,c3⟩:=ci4 sp sc sm tc h0.cell
 have c6:=ci ta (h0.cell 6)
 go_enter Tryz.func125,Tryz.ntmps125
 go_upto_region 0 with fail
 go_cut [4,5] (fun s4 s5 wx=> ∃ E,s4= .pointer (some ⟨E,0,.none⟩)/\s5= .bool B/\w.heap.size<=E/\zaa wx E #[.int .i64 e0,.int .i64 e1,.int .i64 e2] 120/\At3 q p b w wx (za3 ⟨sp,sc,sm⟩ ⟨tc,tn,th,ta,ti,tx,tstrip,tfound,tdone⟩ sv) 140 (m.load tc pa))
 case first=>
  refine zcl (x:=⟨27,28,25,4,31,120, #[.int .i64 0,.int .i64 0,.int .i64 0], #[.int .i64 e0,.int .i64 e1,.int .i64 e2]⟩) (ld:=22) (v:= .int .u64 x) (ts:= [15,19,28])
   (K0:=fun Y=> At3 q p b w Y (za3 ⟨sp,sc,sm⟩ ⟨tc,tn,th,ta,ti,tx,tstrip,tfound,tdone⟩ sv) 140 m) (K1:=fun Y=> At3 q p b w Y (za3 ⟨sp,sc,sm⟩ ⟨tc,tn,th,ta,ti,tx,tstrip,tfound,tdone⟩ sv) 140 (m.load tc pa))
   (by kernel_rfl) (by simp only [zfq,zej,nopO,nopC,Nat.reduceBEq,Bool.or_false,Bool.or_true,Bool.false_eq_true,↓reduceIte,Nat.reduceAdd];exact rfl) (by kernel_rfl) (by kernel_rfl) (by kernel_rfl) (by dsimp only;decide) (by dsimp only;simp) (by dsimp only;decide) (by dsimp only;simp) (by kernel_rfl) (by dsimp only;decide) (by simp)
   ⟨⟨fun Y Y' h1 h2 h3=> h1.far h2 h3 h0.only.size⟩,⟨fun Y Y' h1 h2 h3=> h1.far h2 h3 h0.only.size⟩⟩ h0.drew ?_
  apply Exists.intro
  refine ⟨fun B hb hs=> ?_,fun _=> ?_,?_,?_⟩
  case refine_1=>
   have hrB:zaa B q (za3 ⟨sp,sc,sm⟩ ⟨tc,tn,th,ta,ti,tx,tstrip,tfound,tdone⟩ sv) 140:=hb.elim (fun h=> h.row) (fun h=> h.row)
   have lB:=hrB.lt
   obtain ⟨k0,k1,k2,k3⟩:=ci4 sp sc sm tc hrB.cell
   have k6:=ci ta (hrB.cell 6)
   repeat (go_big_quiet_step ((first | (go_at_call 59;exact zam (hcpp.out _)) | (go_at_call 122;exact zam (hrp.out _)) | fail)))
   exact wpQuiet_nil rfl
  case refine_2=> exact zqa rfl rfl rfl rfl rfl rfl rfl rfl (by dsimp only;decide +kernel) (by dsimp only;decide +kernel)
  case refine_3=> exact zcz rfl (fun _ _=> by simp [go_sem]) fun Y hY2 hs=> (hlp.out Y hY2.wds).mono fun r Y' ⟨h1,h2,h3⟩=> ⟨h1,hY2.load h2 h3,h3.weak fun k hk=> hk ▸ hY2.ls.2.1⟩
  case refine_4=>
   intro a w4 M hf
   obtain ⟨rfl,hbig,hk1,hone⟩:=hf
   obtain ⟨hM,hone⟩:=hone (by simp)
   simp only [Act.put,vput,vptr]
   go_wp2
   go_meet
   exact ⟨_,rfl,rfl,hM,hone,hk1⟩
 case rest=>
  obtain ⟨E,rfl,rfl,hE,hEr,hA⟩:=hcut
  have hEq:E≠q:=fun e=> by rw [e] at hE;omega
  have g0:=ci e0 (hEr.cell 0)
  have g1:=ci e1 (hEr.cell 1)
  clear h0 c0 c1 c2 c3 c6 hlp hrp hcpp
  have z8:=ci tx (hA.cell 8)
  have zf:=hA.free
  by_cases hB:B=true/\e0=0
  ·replace hfin0:=hd' (fun Y=> hfin0.out Y hB)
   obtain ⟨rfl,rfl⟩:=hB
   clear hfin1 hfin2 hms hnw
   go_wp2_with fail
   go_returns
   exact hfin0.out _ (hA.set 8 _)
  by_cases hB2:B=true/\e0=2
  ·replace hfin1:=hd' (fun Y q3=> hfin1.out Y q3 hB2)
   obtain ⟨rfl,rfl⟩:=hB2
   clear hfin0 hfin2 hms hB z8 zf
   go_upto_region 5 with fail
   have hS:=hd' (fun (Y:World) (nx:Int) (v:Value) (h:zaa Y q (za3 ⟨sp,sc,sm⟩ ⟨tc,tn,th,ta,ti,nx,tstrip,tfound,tdone⟩ v) 140) (h2:zaa Y E #[.int .i64 2,.int .i64 e1,.int .i64 e2] 120)=> (⟨h.cell 0,h.cell 1,h.cell 2,h.cell 3,h.cell 6,h2.cell 1⟩:Y.cell? ⟨q,0,.none⟩=some (.int .i64 sp)/\Y.cell? ⟨q,1,.none⟩=some (.int .i64 sc)/\Y.cell? ⟨q,2,.none⟩=some (.int .i64 sm)/\Y.cell? ⟨q,3,.none⟩=some (.int .i64 tc)/\Y.cell? ⟨q,6,.none⟩=some (.int .i64 ta)/\Y.cell? ⟨E,1,.none⟩=some (.int .i64 e1)))
   go_region_held3 (fun Y=> Y.cell? ⟨q,0,.none⟩=some (.int .i64 sp)/\Y.cell? ⟨q,1,.none⟩=some (.int .i64 sc)/\Y.cell? ⟨q,2,.none⟩=some (.int .i64 sm)/\Y.cell? ⟨q,3,.none⟩=some (.int .i64 tc)/\Y.cell? ⟨q,6,.none⟩=some (.int .i64 ta)/\Y.cell? ⟨E,1,.none⟩=some (.int .i64 e1))
    (first | exact hS.out _ _ _ hA.row.drew hEr.drew | exact hS.out _ _ _ hC.row hE6 | exact hS.out _ 2 _ ((hC.set 8 _).row.cast rfl) (hE6.other hEq _ _) | exact hS.out _ 2 _ (((hC.set 8 _).set 9 _).row.cast rfl) ((hE6.other hEq _ _).other hEq _ _) | fail)
    (first
     | (go_at_call 124;(with_reducible refine (hnw.out _).mono ?_);rintro r w6 ⟨q3,rfl,hq3,hrow3,hb6⟩;have hC:=hA.drew.below hb6;have hE6:=hEr.drew.below hb6;have z8:=hC.cell 8;have z9:=hC.cell 9;have zf:=hC.free)
     | fail)
   go_wp2_with fail
   go_returns
   exact hfin1.out _ q3 (Nat.le_trans hA.only.size hq3) ((hrow3.other (by have:=hA.lt;have hd:wc.drew.heap.size=wc.heap.size:=rfl;omega) _ _).other (by have:=hA.lt;have hd:wc.drew.heap.size=wc.heap.size:=rfl;omega) _ _) ((hC.set 8 _).set 9 _)
  ·replace hfin2:=hd' (fun Y=> hfin2.out Y hB hB2)
   have hne:B=false\/(B=true/\(e0==0)=false/\(e0==2)=false):=by
    rcases Bool.eq_false_or_eq_true B with h | h
    ·exact .inr ⟨h,by simpa [h] using hB,by simpa [h] using hB2⟩
    ·exact .inl h
   clear hB hB2 hfin1 hfin0 hnw z8 zf
   rcases hne with rfl | ⟨rfl,hne,hne2⟩
   all_goals
    go_wp2_with (first | (go_at_call 128;(with_reducible refine (hms.out _ hA.row).mono ?_);rintro r w1 hT;obtain rfl:=hT.ret) | fail)
    go_returns
    exact hfin2.out _ (hA.turned hT)
theorem isSome_none {α:Type} {o:Option α} (h:o.isSome=false):o=none:=by cases o <;> simp_all
theorem zuh (q q2 p b:Nat) (s:Sh) (t:Rn) (m:Mem) (w:World) (h:RnAt w q q2 s t) (hw:zaq w p b m) (hd:t.done=true):
  Calls Tryz.prog 117 #[.pointer (some ⟨q,0,.none⟩),.pointer (some ⟨p,0,.none⟩)] w fun e w'=> zbu q q2 p b t.strip.isSome w w' e s (zcr s t m).1 (zcr s t m).2:=by
 have hr:zcr s t m=(t,m):=by unfold zcr;rw [if_pos hd]
 rw [hr]
 dsimp only
 have c11:w.cell? ⟨q,11,.none⟩=some (.bool true):=by rw [<- hd];exact h.row.cell 11
 have hfin:zbu q q2 p b t.strip.isSome w w (.returned (.tuple #[])) s t m:=⟨rfl,⟨q2,h,.inl ⟨rfl,isSome_none⟩⟩,hw,Only.refl _ _⟩
 replace hfin:=hd' hfin
 clear h hw hd hr
 go_enter Tryz.func117,Tryz.ntmps117
 go_wp2_with fail
 go_returns
 exact hfin.out
theorem zyl (q q2 p b:Nat) (s:Sh) (t:Rn) (m:Mem) (w:World) (h:RnAt w q q2 s t) (hw:zaq w p b m) (hqp:q≠p) (hqb:q≠b) (hn2:t.strip≠none->q2≠p/\q2≠b) (hf:Fits s m) (ho:rnOk s t) (hs:m.st < 1000000000):
  Calls Tryz.prog 117 #[.pointer (some ⟨q,0,.none⟩),.pointer (some ⟨p,0,.none⟩)] w fun e w'=> zbu q q2 p b t.strip.isSome w w' e s (zcr s t m).1 (zcr s t m).2:=by
 rcases Bool.eq_false_or_eq_true t.done with hd | hd
 ·exact zuh q q2 p b s t m w h hw hd
 obtain ⟨c1,c2,c3,c4,c5,c6,c7,c8,c9,c10⟩:=ho.cl hd
 have hbd:=hf.bd
 have h0:At3 q p b w w (za3 s t (zbz t.strip q2)) 140 m:=At3.start h.row hw hqp hqb
 have hfin:Hid (∀ Y (t':Rn) m',t'.strip=t.strip->At3 q p b w Y (za3 s t' (zbz t.strip q2)) 140 m'->zbu q q2 p b t.strip.isSome w Y (.returned (.tuple #[])) s t' m'):=hd' fun Y t' m' e hA=> zbu.zoq h hn2 (by rw [e];exact hA) e
 obtain ⟨r,hr⟩:∃ r,r=zcr s t m:=⟨_,rfl⟩
 rw [<- hr]
 unfold zcr at hr
 rw [if_neg (by rw [hd];decide)] at hr
 dsimp only at hr
 by_cases n0:t.next=0
 ·rw [if_pos n0] at hr
  have hr2:r=(znx s t m,m.load t.c (s.c + t.at')):=by rw [hr,<- (hf.page (x:=t.at') (by have:=c6 (by omega);omega)).1];rfl
  subst hr2
  dsimp only
  have hlk:=hd' (zxl q q2 p b s t m w h hw hqp hqb hn2 hf hs (by have:=c6 (by omega);omega) (by omega))
  have c11:w.cell? ⟨q,11,.none⟩=some (.bool false):=by rw [<- hd];exact h.row.cell 11
  have c8:w.cell? ⟨q,8,.none⟩=some (.int .i64 0):=by rw [<- n0];exact h.row.cell 8
  generalize znx s t m=t2 at *
  clear hr hfin h0 hbd c1 c2 c3 c4 c5 c6 c7 c9 c10 ho hf h hw n0 hd
  go_enter Tryz.func117,Tryz.ntmps117
  go_wp2_with (first | (go_at_call 125;(with_reducible refine hlk.out.mono ?_);rintro r w1 hS;obtain rfl:=hS.ret) | fail)
  go_returns
  exact hS
 rw [if_neg n0] at hr
 have hmstrip:(t.miss s).strip=t.strip:=by unfold Rn.miss Rn.gone;split <;> rfl
 have hostrip:t.own.strip=t.strip:=by unfold Rn.own Rn.written;split <;> (try split) <;> rfl
 by_cases n1:t.next=1
 ·rw [if_pos n1] at hr
  have c6:=c6 (by omega)
  obtain ⟨hpx,hph⟩:=hf.page (x:=t.at') (by omega)
  have hcpp:=fun Y=> planPage_any s.p s.c s.m t.at' Y
  rw [hpx] at hcpp hr
  have hcph:=fun Y=> zcd 1 t.c 0 Y
  have hhw:Hid (zf4 t.c=zb8 1 t.c 0):=hd' rfl
  rw [<- hhw.out] at hcph
  have hsw:=fun Y (hY:zaq Y p b m)=> zff p b m t.c (s.c + t.at') 0 (zf4 t.c) Y hY hph (zc0 _ _ _) hs
  have how:=fun Y (hY:zaa Y q (za3 s t (zbz t.strip q2)) 140)=> zrz q s t (zbz t.strip q2) Y hY (by omega) (by omega) (by omega)
  have hms:=fun Y (hY:zaa Y q (za3 s t (zbz t.strip q2)) 140)=> zkl q s t (zbz t.strip q2) Y hY (by omega) (by omega) (by omega)
  generalize s.c + t.at'=pa at *
  generalize zf4 t.c=hw at *
  obtain ⟨g,hg,hg'⟩:∃ g,Hid (g=decide (m.get pa=0))/\g=decide (m.get pa=0):=⟨_,hd' rfl,rfl⟩
  rw [<- hg'] at hsw
  have hfin2:Hid (∀ Y,At3 q p b w Y (za3 s (if g=true then t.own else t.miss s) (zbz t.strip q2)) 140 (m.swap t.c pa 0 hw)->zbu q q2 p b t.strip.isSome w Y (.returned (.tuple #[])) s r.1 r.2):=hd' fun Y hA=> by
   rw [hr]
   have e:(if m.get pa=0 then t.own else t.miss s)=(if g=true then t.own else t.miss s):=by rw [hg'];by_cases hz:m.get pa=0 <;> simp [hz]
   dsimp only
   rw [e]
   refine hfin.out Y _ _ ?_ hA
   split <;> assumption
  clear hr hfin hbd c1 c2 c3 c4 c5 c6 c7 c8 c9 c10 ho hf h hpx hph hhw hg' hg hmstrip hostrip n0
  generalize t.own=tO at *
  generalize t.miss s=tM at *
  generalize zbz t.strip q2=sv at *
  generalize t.strip.isSome=has at *
  obtain ⟨tc,tn,th,ta,ti,tx,tstrip,tfound,tdone⟩:=t
  obtain ⟨sp,sc,sm⟩:=s
  dsimp only at hd n1 hcpp hsw how hms hfin2 ⊢
  subst hd n1
  replace hcpp:=hd' hcpp
  replace hcph:=hd' hcph
  replace hsw:=hd' hsw
  replace how:=hd' how
  replace hms:=hd' hms
  have lq:=h0.lt
  obtain ⟨c0,c1,c2,c3⟩:=ci4 sp sc sm tc h0.cell
  have c6:=ci ta (h0.cell 6)
  have c8:=ci 1 (h0.cell 8)
  have c11:=ce (.bool false) (h0.cell 11)
  go_enter Tryz.func117,Tryz.ntmps117
  go_upto_region 5 with fail
  clear c8 c11
  refine zad 20 (by kernel_rfl) (by kernel_rfl) ?_
  dsimp only [List.take,List.drop]
  repeat (go_big_quiet_step ((first | (go_at_call 59;exact zam (hcpp.out _)) | (go_at_call 119;exact zam (hcph.out _)) | fail)))
  refine wpQuiet_nil ?_
  rintro _ ⟨e',rfl⟩
  have hZ:=h0.below e'.below
  generalize e'.w=Z at *
  change wpList _ _ _ _ _ Z
  clear c0 c1 c2 c3 c6 h0 lq
  cases g
  ·go_wp2_with (first
    | (go_at_call 126;(with_reducible refine (hsw.out _ hZ.wds).mono ?_);rintro r w2 ⟨rfl,hw2,ho2⟩;have hA:=hZ.access hw2 ho2)
    | (go_at_call 128;(with_reducible refine (hms.out _ hA.row).mono ?_);rintro r w3 hT;obtain rfl:=hT.ret) | fail)
   go_returns
   exact hfin2.out _ (hA.turned hT)
  ·go_wp2_with (first
    | (go_at_call 126;(with_reducible refine (hsw.out _ hZ.wds).mono ?_);rintro r w2 ⟨rfl,hw2,ho2⟩;have hA:=hZ.access hw2 ho2)
    | (go_at_call 127;(with_reducible refine (how.out _ hA.row).mono ?_);rintro r w3 hT;obtain rfl:=hT.ret) | fail)
   go_returns
   exact hfin2.out _ (hA.turned hT)
 rw [if_neg n1] at hr
 by_cases n2:t.next=2
 ·rw [if_pos n2] at hr
  have c6:=c6 (by omega)
  obtain ⟨x,hx,hxo,hxd⟩:=c7 n2
  rw [hx] at hr
  dsimp only at hr
  obtain ⟨hin,hne⟩:=h.inn x hx
  have hnn:=hn2 (by rw [hx];exact fun e=> by cases e)
  have hst:=zox q2 p b s x m w hin hw hnn.1 hnn.2 hf hxo hs
  have hrow0:=h.row
  rw [hx] at hrow0 h0
  have hrow:Hid (∀ Y e,Stepped q2 p b w Y e (zc9 s (zdu s x m).1) 170 (zdu s x m).2->At1 q Y Y (za3 s t (.pointer (some ⟨q2,0,.none⟩))) 140):=hd' fun Y e hS=> At1.start (hrow0.only hS.only (by rintro (e | e | e);exact hne e;exact hqp e;exact hqb e))
  generalize zdu s x m=ym at *
  obtain ⟨y,m2⟩:=ym
  dsimp only at hst hr hrow
  have hms:=fun Y (hY:zaa Y q (za3 s t (.pointer (some ⟨q2,0,.none⟩))) 140)=> zkl q s t (.pointer (some ⟨q2,0,.none⟩)) Y hY (by omega) (by omega) (by omega)
  have hhe:=fun Y (hY:zaa Y q2 (zc9 s y) 170)=> zpa q2 (zc9 s y) y.held Y hY rfl
  have hdo:=fun Y (hY:zaa Y q2 (zc9 s y) 170)=> zog q2 (zc9 s y) y.done Y hY rfl
  have hend:Hid (∀ Y e Z (t':Rn),Stepped q2 p b w Y e (zc9 s y) 170 m2->t'.strip=some y->At1 q Y Z (za3 s t' (.pointer (some ⟨q2,0,.none⟩))) 140->zbu q q2 p b t.strip.isSome w Z (.returned (.tuple #[])) s t' m2):=hd' fun Y e Z t' hS e2 hA=> by
   refine ⟨rfl,⟨q2,⟨by rw [e2];exact hA.row,fun z hz=> ?_⟩,.inl ⟨rfl,fun e=> by rw [hx] at e;cases e⟩⟩,hS.wds.only hA.only (fun e=> hqp e.symm) (fun e=> hqb e.symm),?_⟩
   ·rw [e2] at hz
    obtain rfl:=Option.some.inj hz
    exact ⟨hS.row.only hA.only (fun e=> hne e.symm),hne⟩
   ·refine (hS.only.weak (G:=fun k=> k=q\/(t.strip.isSome=true/\k=q2)\/k=p\/k=b) fun k e=> ?_).trans hA.only (fun _ _ e=> .inl e)
    rcases e with e | e | e
    ·exact .inr (.inl ⟨by rw [hx];rfl,e⟩)
    ·exact .inr (.inr (.inl e))
    ·exact .inr (.inr (.inr e))
  have hmiss2:({ t with strip:=some y }:Rn).miss s= { t.miss s with strip:=some y }:=by unfold Rn.miss Rn.gone;dsimp only;split <;> rfl
  rw [hmiss2] at hr
  have c11:w.cell? ⟨q,11,.none⟩=some (.bool false):=by rw [<- hd];exact h.row.cell 11
  have c8:w.cell? ⟨q,8,.none⟩=some (.int .i64 2):=by rw [<- n2];exact h.row.cell 8
  have c9:=ce (.pointer (some ⟨q2,0,.none⟩)) (hrow0.cell 9)
  have hms2:Hid (∀ Y Z e,zaa Y q (za3 s t (.pointer (some ⟨q2,0,.none⟩))) 140->Turned q Y Z e (za3 s (t.miss s) (.pointer (some ⟨q2,0,.none⟩))) 140->At1 q Y Z (za3 s { t.miss s with strip:=some y } (.pointer (some ⟨q2,0,.none⟩))) 140):=hd' fun Y Z e h1 hT=> ⟨hT.row,hT.only,h1.lt⟩
  replace hst:=hd' hst
  replace hms:=hd' hms
  replace hhe:=hd' hhe
  replace hdo:=hd' hdo
  have lq:=h.row.lt
  clear hfin h0 hbd c1 c2 c3 c4 c5 c6 c7 c10 ho hf h hw n0 n1 hmstrip hostrip hin hxo hxd hmiss2 hrow0 hnn hn2
  obtain ⟨r1,hr1⟩:∃ r1,r1=r.1:=⟨_,rfl⟩
  have hr3:r.2=m2:=by rw [hr]
  rw [<- hr1,hr3]
  have hr2:r1=if y.held=true then { t with strip:=some y,next:=3,i:=0 } else if y.done=true then { t.miss s with strip:=some y } else { t with strip:=some y }:=by rw [hr1,hr]
  clear hr hr1 hr3
  rcases Bool.eq_false_or_eq_true y.held with hh | hh
  ·rw [if_pos hh] at hr2
   replace hr2:=hd' hr2
   rw [hh] at hhe
   clear hms hdo hms2 hd n2
   have hcell:Hid (∀ Y,At1 q Y Y (za3 s t (.pointer (some ⟨q2,0,.none⟩))) 140->Y.cell? ⟨q,7,.none⟩=some (.int .i64 t.i)/\Y.cell? ⟨q,8,.none⟩=some (.int .i64 t.next)):=hd' fun Y hA=> ⟨hA.cell 7,hA.cell 8⟩
   go_enter Tryz.func117,Tryz.ntmps117
   go_wp2_with (first | (go_at_call 129;(with_reducible refine hst.out.mono ?_);rintro r w2 hS;obtain rfl:=hS.ret;have hA:=hrow.out _ _ hS;have z9:=ce (.pointer (some ⟨q2,0,.none⟩)) (hA.cell 9);obtain ⟨z7,z8⟩:=hcell.out _ hA;have zf:=hA.free) | (go_at_call 86;(with_reducible refine (hhe.out _ hS.row).mono ?_);rintro r w3 ⟨rfl,hw3⟩;obtain rfl:=hw3.symm) | fail)
   go_returns
   rw [hr2.out]
   exact hend.out _ _ _ _ hS rfl ((hA.set 8 _).set 7 _)
  ·rw [if_neg (by rw [hh];decide)] at hr2
   rw [hh] at hhe
   rcases Bool.eq_false_or_eq_true y.done with hyd | hyd
   ·rw [if_pos hyd] at hr2
    rw [hyd] at hdo
    replace hr2:=hd' hr2
    clear hd n2
    go_enter Tryz.func117,Tryz.ntmps117
    go_wp2_with (first | (go_at_call 129;(with_reducible refine hst.out.mono ?_);rintro r w2 hS;obtain rfl:=hS.ret;have hA:=hrow.out _ _ hS;have z9:=ce (.pointer (some ⟨q2,0,.none⟩)) (hA.cell 9)) | (go_at_call 86;(with_reducible refine (hhe.out _ hS.row).mono ?_);rintro r w3 ⟨rfl,hw3⟩;obtain rfl:=hw3.symm) | (go_at_call 130;(with_reducible refine (hdo.out _ hS.row).mono ?_);rintro r w4 ⟨rfl,hw4⟩;obtain rfl:=hw4.symm) | (go_at_call 128;(with_reducible refine (hms.out _ hA.row).mono ?_);rintro r w5 hT;obtain rfl:=hT.ret) | fail)
    go_returns
    rw [hr2.out]
    exact hend.out _ _ _ _ hS rfl (hms2.out _ _ _ hA.row hT)
   ·rw [if_neg (by rw [hyd];decide)] at hr2
    rw [hyd] at hdo
    replace hr2:=hd' hr2
    clear hd n2 hms hms2
    go_enter Tryz.func117,Tryz.ntmps117
    go_wp2_with (first | (go_at_call 129;(with_reducible refine hst.out.mono ?_);rintro r w2 hS;obtain rfl:=hS.ret;have hA:=hrow.out _ _ hS;have z9:=ce (.pointer (some ⟨q2,0,.none⟩)) (hA.cell 9)) | (go_at_call 86;(with_reducible refine (hhe.out _ hS.row).mono ?_);rintro r w3 ⟨rfl,hw3⟩;obtain rfl:=hw3.symm) | (go_at_call 130;(with_reducible refine (hdo.out _ hS.row).mono ?_);rintro r w4 ⟨rfl,hw4⟩;obtain rfl:=hw4.symm) | fail)
    go_returns
    rw [hr2.out]
    exact hend.out _ _ _ _ hS rfl ⟨hA.row,hA.only,hA.ls⟩
 rw [if_neg n2] at hr
 by_cases n3:t.next=3
 ·rw [if_pos n3] at hr
  have c6:=c6 (by omega)
  have c8:=c8 n3
  obtain ⟨hsx,hsh⟩:=hf.slot (x:=t.at') (i:=t.i) (by omega) c8
  have hcsl:=fun Y=> zbm s.p s.c s.m t.at' t.i Y
  rw [hsx] at hcsl hr
  have hst:=fun Y (hY:zaq Y p b m)=> zba p b m t.c (s.c + s.p + t.at' * 16 + t.i) 0 Y hY hsh (by decide) hs
  have how:=fun Y (hY:zaa Y q (za3 s { t with i:=t.i + 1 } (zbz t.strip q2)) 140)=> zrz q s { t with i:=t.i + 1 } (zbz t.strip q2) Y hY (by dsimp only;omega) (by dsimp only;omega) (by dsimp only;omega)
  have hostrip2:({ t with i:=t.i + 1 }:Rn).own.strip=t.strip:=by unfold Rn.own Rn.written;dsimp only;split <;> (try split) <;> rfl
  have hcs:t.i + 1=16\/(¬ t.i + 1=16/\(t.i + 1==16)=false):=by
   by_cases h:t.i + 1=16
   ·exact .inl h
   ·exact .inr ⟨h,by simpa using h⟩
  have w1:=wrp (t.i + 1)
  generalize s.c + s.p + t.at' * 16 + t.i=sa at *
  have hfin2:Hid (∀ Y,At3 q p b w Y (za3 s (if t.i + 1=16 then ({ t with i:=t.i + 1 }:Rn).own else { t with i:=t.i + 1 }) (zbz t.strip q2)) 140 (m.store t.c sa 0)->zbu q q2 p b t.strip.isSome w Y (.returned (.tuple #[])) s r.1 r.2):=hd' fun Y hA=> by
   rw [hr]
   refine hfin.out Y _ _ ?_ hA
   dsimp only
   split
   ·exact hostrip2
   ·rfl
  clear hr hfin hbd c1 c2 c3 c4 c5 c6 c7 c8 c9 c10 ho hf h hsx hsh hmstrip hostrip hostrip2 n0 n1 n2
  generalize ({ t with i:=t.i + 1 }:Rn).own=tO at *
  generalize zbz t.strip q2=sv at *
  generalize t.strip.isSome=has at *
  obtain ⟨tc,tn,th,ta,ti,tx,tstrip,tfound,tdone⟩:=t
  obtain ⟨sp,sc,sm⟩:=s
  dsimp only at hd n3 hcsl hst how hfin2 w1 hcs ⊢
  subst hd n3
  replace hcsl:=hd' hcsl
  replace hst:=hd' hst
  replace how:=hd' how
  have lq:=h0.lt
  obtain ⟨c0,c1,c2,c3⟩:=ci4 sp sc sm tc h0.cell
  have c6:=ci ta (h0.cell 6)
  have c7:=ci ti (h0.cell 7)
  have c8:=ci 3 (h0.cell 8)
  have c11:=ce (.bool false) (h0.cell 11)
  go_enter Tryz.func117,Tryz.ntmps117
  go_upto_region 15 with fail
  clear c8 c11
  refine zad 18 (by kernel_rfl) (by kernel_rfl) ?_
  dsimp only [List.take,List.drop]
  repeat (go_big_quiet_step ((first | (go_at_call 120;exact zam (hcsl.out _)) | fail)))
  refine wpQuiet_nil ?_
  rintro _ ⟨e',rfl⟩
  have hZ:=h0.below e'.below
  generalize e'.w=Z at *
  change wpList _ _ _ _ _ Z
  clear c0 c1 c2 c3 c6 c7 h0 lq
  rcases hcs with hcs | ⟨hne,hcs⟩
  ·rw [if_pos hcs] at hfin2
   have hb:(ti + 1==16)=true:=by simpa using hcs
   clear hcs
   go_wp2_with (first
    | (go_at_call 118;(with_reducible refine (hst.out _ hZ.wds).mono ?_);rintro r w2 ⟨rfl,hw2,ho2⟩;have hA:=hZ.access hw2 ho2;have z7:=ci ti (hA.cell 7);have zf:=hA.free;have hB:=hA.set 7 (.int .i64 (ti + 1)))
    | (go_at_call 127;(with_reducible refine (how.out _ (hB.row.cast rfl)).mono ?_);rintro r w3 hT;obtain rfl:=hT.ret) | fail)
   go_returns
   exact hfin2.out _ (hB.turned hT)
  ·rw [if_neg hne] at hfin2
   clear hne
   go_wp2_with (first
    | (go_at_call 118;(with_reducible refine (hst.out _ hZ.wds).mono ?_);rintro r w2 ⟨rfl,hw2,ho2⟩;have hA:=hZ.access hw2 ho2;have z7:=ci ti (hA.cell 7);have zf:=hA.free) | fail)
   go_returns
   exact hfin2.out _ (hA.set 7 _)
 rw [if_neg n3] at hr
 by_cases n4:t.next=4
 ·rw [if_pos n4] at hr
  have c6:=c6 (by omega)
  have c9:=c9 n4
  obtain ⟨hpx,hph⟩:=hf.page (x:=t.i - 1) (by omega)
  rw [hpx] at hr
  have hse:=fun W (hA:At3 q p b w W (za3 s t (zbz t.strip q2)) 140 m)=> zrp q p b s t (zbz t.strip q2) (t.i - 1) 0 0 0 m w W hA hf (by omega) hs
  have hgo:=fun Y (hY:zaa Y q (za3 s { t with i:=t.i - 1 } (zbz t.strip q2)) 140)=> zon q s { t with i:=t.i - 1 } (zbz t.strip q2) Y hY (by dsimp only;omega) (by omega) (by dsimp only;omega)
  have hgstrip:(({ t with i:=t.i - 1 }:Rn).gone s).strip=t.strip:=by unfold Rn.gone;dsimp only;split <;> rfl
  have w1:=wrp (t.i - 1)
  generalize s.c + (t.i - 1)=pa at *
  have hfin2:Hid (∀ Y,At3 q p b w Y (za3 s (({ t with i:=t.i - 1 }:Rn).gone s) (zbz t.strip q2)) 140 (m.store t.c pa (zb8 0 0 0))->zbu q q2 p b t.strip.isSome w Y (.returned (.tuple #[])) s r.1 r.2):=hd' fun Y hA=> by
   rw [hr]
   exact hfin.out Y _ _ hgstrip hA
  clear hr hfin hbd c1 c2 c3 c4 c5 c6 c7 c8 c9 c10 ho hf h hpx hph hmstrip hostrip hgstrip n0 n1 n2 n3
  generalize ({ t with i:=t.i - 1 }:Rn).gone s=tG at *
  generalize zbz t.strip q2=sv at *
  generalize t.strip.isSome=has at *
  generalize zb8 0 0 0=pv at *
  obtain ⟨tc,tn,th,ta,ti,tx,tstrip,tfound,tdone⟩:=t
  obtain ⟨sp,sc,sm⟩:=s
  dsimp only at hd n4 hse hgo hfin2 w1 ⊢
  subst hd n4
  replace hse:=hd' hse
  replace hgo:=hd' hgo
  have lq:=h0.lt
  have c7:=ci ti (h0.cell 7)
  have c8:=ci 4 (h0.cell 8)
  have c11:=ce (.bool false) (h0.cell 11)
  go_enter Tryz.func117,Tryz.ntmps117
  go_wp2_with (first
   | (go_at_call 131;(with_reducible refine (hse.out _ h0).mono ?_);rintro r w2 ⟨rfl,hA⟩;have z7:=ci ti (hA.cell 7);have zf:=hA.free;have hB:=hA.set 7 (.int .i64 (ti - 1)))
   | (go_at_call 132;(with_reducible refine (hgo.out _ (hB.row.cast rfl)).mono ?_);rintro r w3 hT;obtain rfl:=hT.ret) | fail)
  go_returns
  exact hfin2.out _ (hB.turned hT)
 rw [if_neg n4] at hr
 have n5:t.next=5:=by omega
 have c10:=c10 n5
 obtain ⟨hpx,hph⟩:=hf.page (x:=t.i) (by omega)
 rw [hpx] at hr
 have hse:=fun W (hA:At3 q p b w W (za3 s t (zbz t.strip q2)) 140 m)=> zrp q p b s t (zbz t.strip q2) t.i 4 t.head 0 m w W hA hf (by omega) hs
 have hwr:=fun Y (hY:zaa Y q (za3 s t (zbz t.strip q2)) 140)=> zj5 q s t (zbz t.strip q2) Y hY (by omega) (by omega) (by omega)
 have hwstrip:t.written.strip=t.strip:=by unfold Rn.written;split <;> rfl
 generalize s.c + t.i=pa at *
 have hfin2:Hid (∀ Y,At3 q p b w Y (za3 s t.written (zbz t.strip q2)) 140 (m.store t.c pa (zb8 4 t.head 0))->zbu q q2 p b t.strip.isSome w Y (.returned (.tuple #[])) s r.1 r.2):=hd' fun Y hA=> by
  rw [hr]
  exact hfin.out Y _ _ hwstrip hA
 clear hr hfin hbd c1 c2 c3 c4 c5 c6 c7 c8 c9 c10 ho hf h hpx hph hmstrip hostrip hwstrip n0 n1 n2 n3 n4
 generalize t.written=tW at *
 generalize zbz t.strip q2=sv at *
 generalize t.strip.isSome=has at *
 generalize zb8 4 t.head 0=pv at *
 obtain ⟨tc,tn,th,ta,ti,tx,tstrip,tfound,tdone⟩:=t
 obtain ⟨sp,sc,sm⟩:=s
 dsimp only at hd n5 hse hwr hfin2 ⊢
 subst hd n5
 replace hse:=hd' hse
 replace hwr:=hd' hwr
 have lq:=h0.lt
 have c5:=ci th (h0.cell 5)
 have c7:=ci ti (h0.cell 7)
 have c8:=ci 5 (h0.cell 8)
 have c11:=ce (.bool false) (h0.cell 11)
 go_enter Tryz.func117,Tryz.ntmps117
 go_upto_region 24 with fail
 refine zad 11 (by kernel_rfl) (by kernel_rfl) ?_
 dsimp only [List.take,List.drop]
 repeat (go_big_quiet_step (fail))
 refine wpQuiet_nil ?_
 rintro _ ⟨e',rfl⟩
 have hZ:=h0.below e'.below
 generalize e'.w=Z at *
 change wpList _ _ _ _ _ Z
 go_wp2_with (first
  | (go_at_call 131;(with_reducible refine (hse.out _ hZ).mono ?_);rintro r w2 ⟨rfl,hA⟩)
  | (go_at_call 133;(with_reducible refine (hwr.out _ hA.row).mono ?_);rintro r w3 hT;obtain rfl:=hT.ret) | fail)
 go_returns
 exact hfin2.out _ (hA.turned hT)
end Go.Proofs.YthgekdlegbmehaaGreat
