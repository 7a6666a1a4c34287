/- A client over words that lack what it looks at: it answers that there is no more, and rests. -/
import Derived.Test.YthgekdlegbmehaaGreatZGrdP

set_option linter.all false
set_option maxHeartbeats 4000000
set_option maxRecDepth 100000
namespace Go.Proofs.YthgekdlegbmehaaGreat

open Go.RowKit

attribute [local go_sem ↓] Go.wp_at_zero Go.wp_at_succ

structure KlDead (F:Nat->Prop) (q p b:Nat) (w w':World) (r:Ending) (s:Sh) (k:Kl) (m:Mem):Prop where
 ret:∃ v,r= .returned (.tuple #[v,.int .i64 0])/\w'.ownsRow w.heap.size 37 8 v 1 (zaf k.c k.op 0 8).cells.toList
 wds:zaq w' p b m
 kl:KlO (grow F w w') w' q s { k with job:=none }
 only:Only (fun i=> F i\/i=p\/i=b) w w'
theorem klstep_dies {F:Nat->Prop} {q p b:Nat} {s:Sh} {k:Kl} {m:Mem} {t:Fe} {w:World} (h:KlO F w q s k) (hw:zaq w p b m) (hp:¬ F p) (hb:¬ F b) (hj:k.job=some (.fre t)) (hno:∀ a,¬ m.has a) (hsp:spB s t.a=true) (htd:t.done=false) (htn:t.next=0):
  Calls Tryz.prog 9 #[.pointer (some ⟨q,0,.none⟩),.pointer (some ⟨p,0,.none⟩)] w fun r w'=> KlDead F q p b w w' r s k m:=by
 have hrs:k.rests=false:=by unfold Kl.rests;rw [hj];rfl
 obtain ⟨hF,hq,sp,sl,jv,G,hrow,hstk,hft,hG,_,hjob⟩:=id h
 obtain ⟨q1,rfl,hGq1,q2,hfe,_⟩:=hjob _ hj
 clear hjob
 have hrf:=hfe.row
 clear hfe
 have hq1:=hG q1 hGq1
 have hi:(!k.job.isSome)=false:=by rw [hj];rfl
 rw [hi] at hrow
 have hb0:=((Below.refl w.heap.size w).alloc lr (.cells #[.pointer (some ⟨q,0,.none⟩)] 25)).alloc (by simp) (.cells #[.pointer (some ⟨p,0,.none⟩)] 39)
 have hH:zaa ((w.alloc (.cells #[.pointer (some ⟨q,0,.none⟩)] 25)).alloc (.cells #[.pointer (some ⟨p,0,.none⟩)] 39)) w.heap.size #[.pointer (some ⟨q,0,.none⟩)] 25:=zaa.alloc (heap_alloc_new _ _) _
 have hK:zaa ((w.alloc (.cells #[.pointer (some ⟨q,0,.none⟩)] 25)).alloc (.cells #[.pointer (some ⟨p,0,.none⟩)] 39)) (w.heap.size + 1) #[.pointer (some ⟨p,0,.none⟩)] 39:=by
  have h:=heap_alloc_new (w.alloc (.cells #[.pointer (some ⟨q,0,.none⟩)] 25)) (.cells #[.pointer (some ⟨p,0,.none⟩)] 39)
  rw [size_alloc] at h
  exact h
 have hre:=(h.below hb0).rests
 rw [hrs] at hre
 replace hre:=hd' hre
 have hlt:∀ i,(i=q\/foot sp sl i)->i < w.heap.size:=fun i hi=> by rcases hi with rfl | hi;exact hF _ hq;exact hF i (hft i hi).1
 have hqs:¬ foot sp sl q:=fun e=> (hft q e).2 rfl
 have hend:=hd' (fun (W:World) (v:Value) (hr:zaa W q (zat s k true .nilIface (.pointer (some ⟨sp,0,.none⟩))) 55) (hs:SK 0 W sp (.slice none 0 0) 1 []) (hwd:zaq W p b m) (ho:Only (fun i=> F i\/i=p\/i=b) w W) (hv:W.ownsRow w.heap.size 37 8 v 1 (zaf k.c k.op 0 8).cells.toList)=>
  (⟨⟨v,rfl,hv⟩,hwd,⟨zec hF ho.size,.inl hq,sp,.slice none 0 0,.nilIface,fun _=> False,hr,hs,fun i hi=> (by
   rcases hi with rfl | hi
   ·exact ⟨.inl (hft _ (.inl rfl)).1,(hft _ (.inl rfl)).2⟩
   ·cases hi),fun i hi=> hi.elim,fun _=> rfl,fun x hx=> by cases hx⟩,ho⟩:KlDead F q p b w W (.returned (.tuple #[v,.int .i64 0])) s k m))
 clear h hrs hi
 have hXs:((w.alloc (.cells #[.pointer (some ⟨q,0,.none⟩)] 25)).alloc (.cells #[.pointer (some ⟨p,0,.none⟩)] 39)).heap.size=w.heap.size + 2:=by rw [size_alloc,size_alloc]
 have hrowX:=hrow.below hb0
 have hstkX:=hstk.below hb0
 have hrfX:=hrf.below hb0
 have hwX:=hw.below hb0
 go_enter Tryz.func9,Tryz.ntmps9
 go_upto_region 1 with fail
 generalize (w.alloc (.cells #[.pointer (some ⟨q,0,.none⟩)] 25)).alloc (.cells #[.pointer (some ⟨p,0,.none⟩)] 39)=X at *
 obtain ⟨B2,hB2,hB2'⟩:∃ H,Hid (H=w.heap.size + 1)/\H=w.heap.size + 1:=⟨_,hd' rfl,rfl⟩
 obtain ⟨B1,hB1,hB1'⟩:=hidv w.heap.size
 simp only [<- hB2'] at hK ⊢
 rw [<- hB1'] at hH ⊢
 have hB1w:w.heap.size<=B1:=by omega
 have hB2w:w.heap.size<=B2:=by omega
 clear hB1' hB2'
 have l1:B1 < X.heap.size:=hH.lt
 have c0:=ce (.pointer (some ⟨q,0,.none⟩)) (hH.cell 0)
 have hnil:∀ W:World,(binOp .eql 25 (.pointer (some ⟨q,0,.none⟩)) (.pointer none)).run Tryz.prog W= .ok (.bool false) W:=fun W=> by kernel_rfl
 have hmf:∀ (fn:Fn) (first cap:Array Value) (w:World),(Instr.makeFunc fn first cap).run Tryz.prog w= .ok (.func fn first cap) w:=fun _ _ _ _=> rfl
 have lqw:=hF q hq
 have lq1:=hF q1 hq1.1
 have hpw:=hw.ltp
 have hbw:=hw.ltb
 have hqp1:q1≠p:=fun e=> hp (e ▸ hq1.1)
 have hqb1:q1≠b:=fun e=> hb (e ▸ hq1.1)
 have bX':=(Below.refl X.heap.size X).alloc lr (.cells #[.bool false] 4)
 have hg:=guard_panics B1 B2 X (u:=9) (pv:= .string ⟨#[110,111,32,115,117,99,104,32,119,111,114,100]⟩) (Q:=fun Y=> zaq Y p b m/\Only (fun i=> i=q1\/i=p\/i=b) (X.alloc (.cells #[.bool false] 4)) Y) ((clos_no (w:=X.alloc (.cells #[.bool false] 4)) (q:=q) (p:=p) (B1:=B1) (B2:=B2) (q1:=q1) (Q:=fun Y=> zaq Y p b m/\Only (fun i=> i=q1\/i=p\/i=b) (X.alloc (.cells #[.bool false] 4)) Y) ((hH.below bX').cell 0) ((hK.below bX').cell 0) (hH.below bX').lt (hK.below bX').lt (hrowX.below bX').lt ((hrowX.below bX').cell 8) (fun Y hY=> (festep_no q1 p b s t (ptrV t.put q2) m Y (At3.start ((hrfX.below bX').below hY) ((hwX.below bX').below hY) hqp1 hqb1) hno hsp htd htn).mono fun e w' hh=> ⟨hh.1,hh.2.wds,(Only.of_below (F:=fun i=> i=q1\/i=p\/i=b) hY).trans hh.2.only (fun _ _ e=> e)⟩)).mono fun e w' hh=> ⟨hh.1,hh.2,by
  have hn:zaa (X.alloc (.cells #[.bool false] 4)) X.heap.size #[.bool false] 4:=heap_alloc_new _ _
  exact hn.only hh.2.2 (by omega)⟩)
 replace hg:=hd' hg
 go_upto_region 6 with (first
  | (go_at_call 17;(with_reducible refine hre.out.mono ?_);rintro r w1 ⟨rfl,hw1⟩;obtain rfl:=hw1.symm)
  | (go_at_call 22;(with_reducible refine hg.out.mono ?_);rintro r w2 ⟨rfl,Y,hQ,hYZ⟩;have hrw2:zaa w2 B1 #[.pointer (some ⟨q,0,.none⟩)] 25:=(by rw [hYZ];exact ((hH.below bX').only hQ.2 (by omega)).other (by omega) _ _);have c02:=ce (.pointer (some ⟨q,0,.none⟩)) (hrw2.cell 0);have l12:=hrw2.lt)
  | fail)
 have hYZ':w2=Y.setCell ⟨w.heap.size + 2,0,.none⟩ (.bool false):=by rw [hYZ,hXs]
 rw [<- hYZ']
 have oY:Only (fun i=> i=q1\/i=p\/i=b) X Y:=(Only.of_below (F:=fun i=> i=q1\/i=p\/i=b) bX').trans hQ.2 (fun _ _ e=> e)
 have o2:Only (fun i=> i=q1\/i=p\/i=b) X w2:=by rw [hYZ];exact Only.setCell oY (.inr lr) _
 have hqn:¬ (q=q1\/q=p\/q=b):=fun e=> by
  rcases e with e | e | e
  ·exact hq1.2.1 e.symm
  ·exact hp (e ▸ hq)
  ·exact hb (e ▸ hq)
 have hrow2:=hrowX.only o2 hqn
 have hstk2:=o2.stk hstkX (fun i hi e=> by
  rcases e with e | e | e
  ·exact hq1.2.2 (e ▸ hi)
  ·exact hp (e ▸ (hft i hi).1)
  ·exact hb (e ▸ (hft i hi).1))
 have hw2:zaq w2 p b m:=by rw [hYZ];exact hQ.1.other (by omega) (by omega) _ _
 have on2:Only (fun i=> F i\/i=p\/i=b) w w2:=(Only.of_below (F:=fun i=> F i\/i=p\/i=b) hb0).trans o2 (fun i _ hi=> hi.imp (fun e=> by rw [e];exact hq1.1) id)
 have cans:=zbn 8 0 hrow2 hstk2 hqs
 unfold Ev.val Ev.cells zaf at cans
 dsimp only at cans
 replace cans:=hd' cans
 have hw2s:=on2.size
 clear hYZ' hYZ hQ hg o2 oY bX' hre hrowX hstkX hrfX hwX hrow hstk hw hrf hH hK c0 l1 hB1 hB2
 go_wp2_with (first | (go_at_call 20;(with_reducible refine cans.out.mono ?_);rintro r w8 ⟨rfl,h8,hs8,on8⟩) | fail)
 go_returns
 have hbV:Below w8.heap.size w8 (w8.alloc (.cells (zaf k.c k.op 0 8).cells 37)):=br.alloc lr _
 have hw8:zaq w8 p b m:=hw2.only on8 (fun e=> by rcases e with e | e;exact hp (e ▸ hq);exact hp ((hft _ e).1)) (fun e=> by rcases e with e | e;exact hb (e ▸ hq);exact hb ((hft _ e).1))
 have hs8':=on8.size
 exact hend.out _ _ (h8.below hbV) (hs8.below hbV) (hw8.below hbV) ((on2.trans on8 (fun i _ hi=> .inl (by rcases hi with hi | hi;exact hi ▸ hq;exact (hft i hi).1))).trans (Only.of_below (F:=fun _=> False) hbV) (fun _ _ hh=> hh.elim)) (World.ownsRow_lit w8 (zaf k.c k.op 0 8).cells 1 (by omega) (by decide) rfl)
end Go.Proofs.YthgekdlegbmehaaGreat
