/- Texts bound together: CliW CliX CapW. -/
import Derived.Test.YtampacmmhhilaaaGreatBm35

import Derived.Test.YtampacmmhhilaaaGreatBm18

import Derived.Test.YtampacmmhhilaaaGreatBm25

set_option linter.all false
/- A client in memory: Step of one that has an operation. -/
namespace Go.Proofs.YtampacmmhhilaaaGreat

open Go.RowKit

attribute [local go_sem ↓] Go.wp_at_zero Go.wp_at_succ

theorem ownMono {w:World} {B C:Nat} {E:TypeId} {size:Nat} {v:Value} {n:Nat} {xs:List Value} (h:w.ownsRow B E size v n xs) (hc:C≤B):w.ownsRow C E size v n xs:=by
 refine ⟨h.1,?_⟩
 rcases h.2 with hn | ⟨g,cap,cur,rfl,h1,r⟩
 ·exact .inl hn
 ·exact .inr ⟨g,cap,cur,rfl,Nat.le_trans hc h1,r⟩
theorem size_alloc (w:World) (o:Obj):(w.alloc o).heap.size=w.heap.size + 1:=by simp
/-- What a client is behind an access of its job, ahead of what it tells. -/
theorem klstep_end {F G G':Nat→Prop} {q p b sp:Nat} {s:Sh} {k:Kl} {m:Mem} {j:Jb} {jv sl:Value} {w Y Z:World} {r:Ending} (hF:∀ i,F i→i < w.heap.size) (hq:F q) (hp:¬ F p) (hb:¬ F b) (hj:k.job=some j) (hft:∀ i,foot sp sl i→F i∧i≠q) (hG:∀ i,G i→F i∧i≠q∧¬ foot sp sl i)
  (hG':∀ i,G' i→G i∨(w.heap.size≤i∧i < Y.heap.size)) (hwY:WdsAt Y p b (j.step s k.c m).2) (hoY:Only (fun i=> F i∨i=p∨i=b) w Y) (hJY:JbO G' Y jv s k.c (j.step s k.c m).1)
  (hT:TellEnds q sp s { k with told:=k.told || (j.step s k.c m).1.gave,steps:=k.steps + 1 } (j.step s k.c m).1.done jv sl 1 [⟨k.op.k,k.steps + 1, [k.op.a,k.op.n,0,0,0,0,0,0]⟩] (k.tells (j.step s k.c m).1) Y Z r):
  ∃ v,r= .returned v∧KlStep F q p b w Z (.returned (.tuple #[v, .int .i64 0])) s k m:=by
 have hr:k.step s m=(k.after (j.step s k.c m).1,(j.step s k.c m).2,k.tells (j.step s k.c m).1,0):=by unfold Kl.step;rw [hj]
 obtain ⟨v,hv,hown⟩:=hT.ret
 have hs1:=hoY.size
 have hs2:=hT.only.size
 have hlq:=hF q hq
 have hfq:∀ i,(i=q∨foot sp sl i)→F i:=fun i hi=> by rcases hi with rfl | hi;exact hq;exact (hft i hi).1
 have hG'd:∀ i,G' i→¬ (i=q∨foot sp sl i):=fun i hi e=> by
  rcases hG' i hi with h | h
  ·rcases e with e | e
   ·exact (hG i h).2.1 e
   ·exact (hG i h).2.2 e
  ·have:=hF i (hfq i e);omega
 refine ⟨v,hv,⟨⟨_,by rw [hr],?_⟩,?_,?_,?_⟩⟩
 ·rw [hr];exact ownMono hown hs1
 ·rw [hr]
  exact hwY.only hT.only (fun e=> hp (hfq p e)) (fun e=> hb (hfq b e))
 ·rw [hr]
  generalize (j.step s k.c m).1=j' at *
  have hjob:=hJY.only hT.only hG'd
  have hrow:=hT.row
  have hstk:=hT.stk
  refine ⟨grow_lt hF (Nat.le_trans hs1 hs2), .inl hq,?_⟩
  cases hd:j'.done
  ·rw [hd] at hrow hstk
   refine ⟨sp,sl,jv,G',?_,?_,fun i hi=> ⟨.inl (hft i hi).1,(hft i hi).2⟩,fun i hi=> ⟨?_,fun e=> hG'd i hi (.inl e),fun e=> hG'd i hi (.inr e)⟩,fun e=> ?_,fun x hx=> ?_⟩
   ·have e:(!(k.after j').job.isSome)=false:=by simp [Kl.after,hd]
    rw [e];exact hrow
   ·have e:klFrames (k.after j')= [⟨k.op.k,k.steps + 1, [k.op.a,k.op.n,0,0,0,0,0,0]⟩]:=by unfold klFrames Kl.after;simp [hd]
    rw [e];exact hstk
   ·rcases hG' i hi with h | h
    ·exact .inl (hG i h).1
    ·exact .inr ⟨h.1,Nat.lt_of_lt_of_le h.2 hs2⟩
   ·simp [Kl.after,hd] at e
   ·have e:(k.after j').job=some j':=by simp [Kl.after,hd]
    rw [e] at hx;injection hx with hx;subst hx
    exact hjob
  ·rw [hd] at hrow hstk
   refine ⟨sp, .slice none 0 0, .nilIface,fun _=> False,?_,?_,fun i hi=> ?_,fun i hi=> hi.elim,fun _=> rfl,fun x hx=> ?_⟩
   ·have e:(!(k.after j').job.isSome)=true:=by simp [Kl.after,hd]
    rw [e];exact hrow
   ·have e:klFrames (k.after j')= []:=by unfold klFrames Kl.after;simp [hd]
    rw [e];exact hstk
   ·rcases hi with rfl | hi
    ·exact ⟨.inl (hft _ (.inl rfl)).1,(hft _ (.inl rfl)).2⟩
    ·cases hi
   ·simp [Kl.after,hd] at hx
 ·exact hoY.trans hT.only (fun i _ hi=> .inl (hfq i hi))
set_option maxRecDepth 100000 in
set_option maxHeartbeats 4000000 in
theorem klstep_some {F:Nat→Prop} {q p b:Nat} {s:Sh} {k:Kl} {m:Mem} {j:Jb} {w:World} (h:KlO F w q s k) (hw:WdsAt w p b m) (hp:¬ F p) (hb:¬ F b) (hf:Fits s m) (hfit:m.fit) (hj:k.job=some j) (hji:jbIs s k.c j) (hjd:j.done=false) (hc:0≤k.c∧k.c < s.c) (hst:0≤k.steps∧k.steps < 1000000) (hs:m.st < 1000000000):
  Calls Tryz.prog 112 #[.pointer (some ⟨q,0, .none⟩), .pointer (some ⟨p,0, .none⟩)] w fun r w'=> KlStep F q p b w w' r s k m:=by
 have hrs:k.rests=false:=by unfold Kl.rests;rw [hj];rfl
 obtain ⟨hF,hq,sp,sl,jv,G,hrow,hstk,hft,hG,_,hjob⟩:=id h
 have hJ:=hjob j hj
 clear hjob
 have hi:(!k.job.isSome)=false:=by rw [hj];rfl
 rw [hi] at hrow
 have hfr:klFrames k= [⟨k.op.k,k.steps, [k.op.a,k.op.n,0,0,0,0,0,0]⟩]:=by unfold klFrames;rw [hj]
 rw [hfr] at hstk
 have hwr:IntKind.i64.wrap (k.steps + 1)=k.steps + 1:=by rw [IntKind.wrap_i64];omega
 have hb0:=((Below.refl w.heap.size w).alloc (Nat.le_refl _) (.cells #[.pointer (some ⟨q,0, .none⟩)] 36)).alloc (by simp) (.cells #[.pointer (some ⟨p,0, .none⟩)] 119)
 have hH:RowAt ((w.alloc (.cells #[.pointer (some ⟨q,0, .none⟩)] 36)).alloc (.cells #[.pointer (some ⟨p,0, .none⟩)] 119)) w.heap.size #[.pointer (some ⟨q,0, .none⟩)] 36:=RowAt.alloc (heap_alloc_new _ _) _
 have hK:RowAt ((w.alloc (.cells #[.pointer (some ⟨q,0, .none⟩)] 36)).alloc (.cells #[.pointer (some ⟨p,0, .none⟩)] 119)) (w.heap.size + 1) #[.pointer (some ⟨p,0, .none⟩)] 119:=by
  have h:=heap_alloc_new (w.alloc (.cells #[.pointer (some ⟨q,0, .none⟩)] 36)) (.cells #[.pointer (some ⟨p,0, .none⟩)] 119)
  rw [size_alloc] at h
  exact h
 have hre:=(h.below hb0).rests
 rw [hrs] at hre
 replace hre:=Lib.hid hre
 clear h hrs hi hfr
 have hXs:((w.alloc (.cells #[.pointer (some ⟨q,0, .none⟩)] 36)).alloc (.cells #[.pointer (some ⟨p,0, .none⟩)] 119)).heap.size=w.heap.size + 2:=by rw [size_alloc,size_alloc]
 have hrowX:=hrow.below hb0
 have hstkX:=hstk.below hb0
 have hJX:=hJ.below hb0
 have hwX:=hw.below hb0
 go_enter Tryz.func112,Tryz.ntmps112
 go_upto_region 1 with fail
 generalize (w.alloc (.cells #[.pointer (some ⟨q,0, .none⟩)] 36)).alloc (.cells #[.pointer (some ⟨p,0, .none⟩)] 119)=X at *
 obtain ⟨B2,hB2,hB2'⟩:∃ H,Hid (H=w.heap.size + 1)∧H=w.heap.size + 1:=⟨_,Lib.hid rfl,rfl⟩
 obtain ⟨B1,hB1,hB1'⟩:∃ H,Hid (H=w.heap.size)∧H=w.heap.size:=⟨_,Lib.hid rfl,rfl⟩
 simp only [← hB2'] at hK ⊢
 rw [← hB1'] at hH ⊢
 have hB1w:w.heap.size≤B1:=by omega
 have hB2w:w.heap.size≤B2:=by omega
 clear hB1' hB2'
 have l1:B1 < X.heap.size:=hH.lt
 have c0:X.cell? ⟨B1,0, .none⟩=some (.pointer (some ⟨q,0, .none⟩)):=hH.cell 0
 have hnil:∀ W:World,(binOp .eql 36 (.pointer (some ⟨q,0, .none⟩)) (.pointer none)).run Tryz.prog W= .ok (.bool false) W:=fun W=> by kernel_rfl
 have hmf:∀ (fn:Fn) (first cap:Array Value) (w:World),(Instr.makeFunc fn first cap).run Tryz.prog w= .ok (.func fn first cap) w:=fun _ _ _ _=> rfl
 have lqw:=hF q hq
 have hGl:∀ i,G i→i < w.heap.size:=fun i hi=> hF i (hG i hi).1
 have hpw:=hw.ltp
 have hbw:=hw.ltb
 have bX':=(Below.refl X.heap.size X).alloc (Nat.le_refl _) (.cells #[.bool false] 4)
 have hclos:=clos_any (w:=X.alloc (.cells #[.bool false] 4)) (q:=q) (p:=p) (b:=b) (G:=G) (s:=s) (cl:=k.c) (j:=j) (m:=m) (jv:=jv) (B1:=B1) (B2:=B2) ((hH.below bX').cell 0) ((hK.below bX').cell 0) (hH.below bX').lt (hK.below bX').lt (hrowX.below bX').lt ((hrowX.below bX').cell 8) (hJX.below bX') (fun i hi=> by have:=hGl i hi;rw [size_alloc];omega) (hwX.below bX') (fun e=> hp (hG p e).1) (fun e=> hb (hG b e).1) hf hji hjd hs
 have hg:=guard_step B1 B2 X (Q:=fun Y=> JobStep G p b (X.alloc (.cells #[.bool false] 4)) Y jv s k.c j m) (hclos.mono fun e w' hh=> ⟨hh.1,hh.2,by
  have hn:RowAt (X.alloc (.cells #[.bool false] 4)) X.heap.size #[.bool false] 4:=heap_alloc_new _ _
  refine hn.only hh.2.only (fun e=> ?_)
  rcases e with e | e | e
  ·have:=hGl _ e;omega
  ·omega
  ·omega⟩)
 replace hg:=Lib.hid hg
 clear hclos
 go_upto_region 7 with (first
  | (go_at_call 64;(with_reducible refine hre.out.mono ?_);rintro r w1 ⟨rfl,hw1⟩;obtain rfl:=hw1.symm)
  | (go_at_call 146;(with_reducible refine hg.out.mono ?_);rintro r w2 ⟨rfl,Y,hQ,hYZ⟩;have hrw2:RowAt w2 B1 #[.pointer (some ⟨q,0, .none⟩)] 36:=(by rw [hYZ];exact ((hH.below bX').only hQ.only (fun e=> by rcases e with e | e | e;have:=hGl _ e;omega;omega;omega)).other (by omega) _ _);have c02:w2.cell? ⟨B1,0, .none⟩=some (.pointer (some ⟨q,0, .none⟩)):=hrw2.cell 0;have l12:=hrw2.lt)
  | fail)
 have hYZ':w2=Y.setCell ⟨w.heap.size + 2,0, .none⟩ (.bool true):=by rw [hYZ,hXs]
 rw [← hYZ']
 have hXe:X.heap.size=w.heap.size + 2:=hXs
 have hX's:(X.alloc (.cells #[.bool false] 4)).heap.size=w.heap.size + 3:=by rw [size_alloc,hXe]
 have hsz2:w2.heap.size=Y.heap.size:=by rw [hYZ'];exact size_set _ _ _
 have onX:Only (fun i=> F i∨i=p∨i=b) w (X.alloc (.cells #[.bool false] 4)):=Only.of_below (belowTrans hb0 bX')
 have onY:Only (fun i=> F i∨i=p∨i=b) w Y:=onX.trans hQ.only (fun i _ hi=> hi.imp (fun e=> (hG i e).1) id)
 have on2:Only (fun i=> F i∨i=p∨i=b) w w2:=by rw [hYZ'];exact Only.setCell onY (.inr (by show w.heap.size≤w.heap.size + 2;omega)) _
 have hns:∀ i,(i=q∨foot sp sl i)→¬ (G i∨i=p∨i=b):=fun i hi e=> by
  have hFi:F i:=by rcases hi with rfl | hi;exact hq;exact (hft i hi).1
  rcases e with e | e | e
  ·rcases hi with rfl | hi
   ·exact (hG _ e).2.1 rfl
   ·exact (hG i e).2.2 hi
  ·exact hp (e ▸ hFi)
  ·exact hb (e ▸ hFi)
 have hlt:∀ i,(i=q∨foot sp sl i)→i < w.heap.size:=fun i hi=> by rcases hi with rfl | hi;exact lqw;exact hF i (hft i hi).1
 have oset:Only (fun i=> i=w.heap.size + 2) Y w2:=by rw [hYZ'];exact Only.setCell (F:=fun i=> i=w.heap.size + 2) (Only.refl _ _) (.inl rfl) _
 have hrow2:=((hrowX.below bX').only hQ.only (hns q (.inl rfl))).only oset (by omega)
 have hstk2:=oset.stk (hQ.only.stk (hstkX.below bX') (fun i hi=> hns i (.inr hi))) (fun i hi e=> by have:=hlt i (.inr hi);omega)
 have hJ2:=hQ.job.only oset (fun i hi e=> by
  rcases hi with hi | hi
  ·have:=hGl i hi;omega
  ·omega)
 have hw2:=hQ.wds.only oset (by omega) (by omega)
 have hG':∀ i,grow G (X.alloc (.cells #[.bool false] 4)) Y i→G i∨(w.heap.size≤i∧i < w2.heap.size):=fun i hi=> by
  rcases hi with hi | hi
  ·exact .inl hi
  ·exact .inr (by omega)
 generalize hGG:grow G (X.alloc (.cells #[.bool false] 4)) Y=G2 at *
 clear hYZ hYZ' hQ hg hXs hXe hX's onX onY oset bX' hre hrowX hstkX hJX hwX hJ hrow hstk hw hGG hsz2 hns
 have onq:∀ Z W:World,Only (fun i=> i=q∨foot sp sl i) Z W→Only (fun i=> F i∨i=p∨i=b) Z W:=fun Z W hh=> hh.weak (fun i hi=> .inl (by rcases hi with rfl | hi;exact hq;exact (hft i hi).1))
 have hend:=Lib.hid (fun (W:World) (r:Ending) (Y2:World) (h1:WdsAt Y2 p b (j.step s k.c m).2) (h2:Only (fun i=> F i∨i=p∨i=b) w Y2) (h3:JbO G2 Y2 jv s k.c (j.step s k.c m).1) (h4:∀ i,G2 i→G i∨(w.heap.size≤i∧i < Y2.heap.size)) (hT:TellEnds q sp s { k with told:=k.told || (j.step s k.c m).1.gave,steps:=k.steps + 1 } (j.step s k.c m).1.done jv sl 1 [⟨k.op.k,k.steps + 1, [k.op.a,k.op.n,0,0,0,0,0,0]⟩] (k.tells (j.step s k.c m).1) Y2 W r)=> klstep_end hF hq hp hb hj hft hG h4 h1 h2 h3 hT)
 have hji2:=(jb_step hji hc hjd hf (by exact hfit)).2.1
 have htell:=Lib.hid (fun (Y2:World) (h1:RowAt Y2 q (klCells s { k with steps:=k.steps + 1 } false jv (.pointer (some ⟨sp,0, .none⟩))) 127) (h2:SK 0 Y2 sp sl 1 [⟨k.op.k,k.steps + 1, [k.op.a,k.op.n,0,0,0,0,0,0]⟩]) (h3:JbO G2 Y2 jv s k.c (j.step s k.c m).1) (h4:∀ i,G2 i→i < Y2.heap.size)=> tell_any (k:= { k with steps:=k.steps + 1 }) h1 h2 (fun e=> (hft q e).2 rfl) h3 (fun i hi=> ⟨fun e=> by
   rcases hG' i hi with hh | hh
   ·exact (hG i hh).2.1 e
   ·have:=hlt i (.inl e);omega,fun e=> by
   rcases hG' i hi with hh | hh
   ·exact (hG i hh).2.2 e
   ·have:=hlt i (.inr e);omega⟩) h4 hji2 hf.may hc)
 generalize (j.step s k.c m).1=j2 at *
 generalize (j.step s k.c m).2=m2 at *
 obtain ⟨sp',sc,sm⟩:=s
 obtain ⟨kc,kf,⟨ok,oa,on⟩,kj,kt,ks⟩:=k
 dsimp only [klCells] at hrow2 hstk2 hwr htell hJ2
 have lq2:q < w2.heap.size:=hrow2.lt
 have f2:=rowFree hrow2
 have c12:w2.cell? ⟨q,12, .none⟩=some (.int .i64 ks):=hrow2.cell 12
 go_upto_region 8 with fail
 have hrow3:RowAt (w2.setCell ⟨q,12, .none⟩ (.int .i64 (ks + 1))) q #[.int .i64 sp', .int .i64 sc, .int .i64 sm, .int .i64 kc, .int .i64 kf, .int .i64 ok, .int .i64 oa, .int .i64 on,jv, .bool false, .bool kt, .pointer (some ⟨sp,0, .none⟩), .int .i64 (ks + 1)] 127:=hrow2.set 12 (.int .i64 (ks + 1))
 have oq:Only (fun i=> i=q) w2 (w2.setCell ⟨q,12, .none⟩ (.int .i64 (ks + 1))):=Only.setCell (F:=fun i=> i=q) (Only.refl _ _) (.inl rfl) _
 have hstk3:=oq.stk hstk2 (fun i hi e=> (hft i hi).2 e)
 have hJ3:=hJ2.only oq (fun i hi e=> by
  rcases hG' i hi with hh | hh
  ·exact (hG i hh).2.1 e
  ·omega)
 have hw3:=hw2.only oq (fun e=> hp (e ▸ hq)) (fun e=> hb (e ▸ hq))
 have on3:=on2.trans oq (fun i _ hi=> .inl (by rw [hi];exact hq))
 have hb13:=hrw2.only oq (by omega)
 have hs3:w2.heap.size≤(w2.setCell ⟨q,12, .none⟩ (.int .i64 (ks + 1))).heap.size:=Nat.le_of_eq (size_set _ _ _).symm
 generalize w2.setCell ⟨q,12, .none⟩ (.int .i64 (ks + 1))=w3 at *
 clear hrow2 hstk2 hJ2 hw2 on2 hrw2 c02 l12 lq2 f2 c12 oq
 have lq3:q < w3.heap.size:=hrow3.lt
 have l13:B1 < w3.heap.size:=hb13.lt
 have d0:w3.cell? ⟨B1,0, .none⟩=some (.pointer (some ⟨q,0, .none⟩)):=hb13.cell 0
 have d11:w3.cell? ⟨q,11, .none⟩=some (.pointer (some ⟨sp,0, .none⟩)):=hrow3.cell 11
 have d12:w3.cell? ⟨q,12, .none⟩=some (.int .i64 (ks + 1)):=hrow3.cell 12
 refine wp_region_ext_tail 8 (by kernel_rfl) (by kernel_rfl) ?_
 dsimp only [List.take,List.drop]
 repeat (go_big_quiet_step (fail))
 refine wpQuiet_nil ?_
 rintro _ ⟨e',rfl⟩
 have hrow4:=hrow3.below e'.below
 have hstk4:=hstk3.below e'.below
 have hJ4:=hJ3.below e'.below
 have hw4:=hw3.below e'.below
 have hb14:=hb13.below e'.below
 have on4:=on3.trans (Only.of_below (F:=fun _=> False) e'.below) (fun _ _ hh=> hh.elim)
 have hs4:=e'.below.size
 generalize e'.w=w4 at *
 change wpList _ _ _ _ _ w4
 clear hrow3 hstk3 hJ3 hw3 on3 hb13 lq3 l13 d0 d11 d12
 have hgo:=stkGo_any (pc':=ks + 1) hstk4 (by simp)
 replace hgo:=Lib.hid hgo
 go_upto_region 9 with (first | (go_at_call 148;(with_reducible refine hgo.out.mono ?_);rintro r w5 ⟨rfl,on5,hstk5⟩) | fail)
 have hqf:¬ foot sp sl q:=fun e=> (hft q e).2 rfl
 have hrow5:=hrow4.only on5 hqf
 have hJ5:=hJ4.only on5 (fun i hi e=> by
  rcases hG' i hi with hh | hh
  ·exact (hG i hh).2.2 e
  ·have:=hlt i (.inr e);omega)
 have hw5:=hw4.only on5 (fun e=> hp (hft p e).1) (fun e=> hb (hft b e).1)
 have hb15:=hb14.only on5 (fun e=> by have:=hlt B1 (.inr e);omega)
 have on6:=on4.trans on5 (fun i _ hi=> .inl (hft i hi).1)
 have hs5:=on5.size
 have hpl:putLast [(⟨ok,ks, [oa,on,0,0,0,0,0,0]⟩:Fr)] 1 (ks + 1)= [⟨ok,ks + 1, [oa,on,0,0,0,0,0,0]⟩]:=rfl
 rw [hpl] at hstk5
 clear hrow4 hstk4 hJ4 hw4 on4 hb14 hgo
 have l15:B1 < w5.heap.size:=hb15.lt
 have g0:w5.cell? ⟨B1,0, .none⟩=some (.pointer (some ⟨q,0, .none⟩)):=hb15.cell 0
 have ht5:=Lib.hid (htell.out w5 hrow5 hstk5 hJ5 (fun i hi=> by
  rcases hG' i hi with hh | hh
  ·have:=hGl i hh;omega
  ·omega))
 have he5:=Lib.hid (fun W r hT=> hend.out W r w5 hw5 on6 hJ5 (fun i hi=> by
  rcases hG' i hi with hh | hh
  ·exact .inl hh
  ·exact .inr (by omega)) hT)
 clear htell hend
 go_wp2_with (first | (go_at_call 149;(with_reducible refine ht5.out.mono ?_);rintro r w6 hT;obtain ⟨v6,rfl,hK6⟩:=he5.out _ _ hT) | fail)
 go_returns
 exact hK6
end Go.Proofs.YtampacmmhhilaaaGreat
/- A client in memory: the machine of its operation. -/
namespace Go.Proofs.YtampacmmhhilaaaGreat

open Go.RowKit

attribute [local go_sem ↓] Go.wp_at_zero Go.wp_at_succ

/-- A job was made. -/
def JbBorn (w w':World) (e:Ending) (s:Sh) (cl:Int) (j:Jb):Prop:=∃ jv,e= .returned jv∧JbO (fun i=> w.heap.size≤i∧i < w'.heap.size) w' jv s cl j∧Below w.heap.size w w'
set_option maxRecDepth 100000 in
set_option maxHeartbeats 4000000 in
theorem klstart_any {q sp:Nat} {s:Sh} {k:Kl} {i:Bool} {jv:Value} {w:World} (h:RowAt w q (klCells s k i jv (.pointer (some ⟨sp,0, .none⟩))) 127) (hk:1≤k.op.k∧k.op.k≤4):
  Calls Tryz.prog 117 #[.pointer (some ⟨q,0, .none⟩)] w fun e w'=> JbBorn w w' e s k.c (jbNew s k.c k.first k.op.k k.op.a k.op.n):=by
 have g1:=fun W=> rsnew_any s k.c k.op.n k.first W
 have g2:=fun W=> fenew_any s k.c k.op.a W
 have g3:=fun W=> rrnew_any s k.c k.op.a k.op.n k.first W
 have g4:=fun W=> adnew_any s k.c k.op.a W
 have hcs:(k.op.k=1∧jbNew s k.c k.first k.op.k k.op.a k.op.n= .mal (rsNew s k.c k.op.n k.first) none)∨(k.op.k=2∧jbNew s k.c k.first k.op.k k.op.a k.op.n= .fre (feNew s k.c k.op.a))∨(k.op.k=3∧jbNew s k.c k.first k.op.k k.op.a k.op.n= .aga (rrNew s k.c k.op.a k.op.n k.first))∨(k.op.k=4∧jbNew s k.c k.first k.op.k k.op.a k.op.n= .hei (adNew s k.c k.op.a)):=by
  have:k.op.k=1∨k.op.k=2∨k.op.k=3∨k.op.k=4:=by omega
  rcases this with e | e | e | e
  ·exact .inl ⟨e,by rw [e];rfl⟩
  ·exact .inr (.inl ⟨e,by rw [e];rfl⟩)
  ·exact .inr (.inr (.inl ⟨e,by rw [e];rfl⟩))
  ·exact .inr (.inr (.inr ⟨e,by rw [e];rfl⟩))
 obtain ⟨j,hjj⟩:∃ j,j=jbNew s k.c k.first k.op.k k.op.a k.op.n:=⟨_,rfl⟩
 rw [← hjj] at hcs ⊢
 clear hjj hk
 have hfb:=fun (Y:World) (q:Nat) (h:RowAt Y q (feCells s (feNew s k.c k.op.a) (.pointer none)) 275)=> feo_born h
 generalize rsNew s k.c k.op.n k.first=rs0 at *
 generalize feNew s k.c k.op.a=fe0 at *
 generalize rrNew s k.c k.op.a k.op.n k.first=rr0 at *
 generalize adNew s k.c k.op.a=ad0 at *
 obtain ⟨kc,kf,⟨ok,oa,on⟩,kj,kt,ks⟩:=k
 dsimp only at hcs g1 g2 g3 g4 ⊢
 have hfin1:=Lib.hid (fun (X Y W:World) (q1 E:Nat) (hX:Below w.heap.size w X) (hO:RsO (fun i=> X.heap.size≤i∧i < Y.heap.size) Y q1 s rs0) (hb:Below X.heap.size X Y) (hE:RowAt W E (malCells s kc (.pointer (some ⟨q1,0, .none⟩)) (.pointer none)) 232) (hEE:Y.heap.size≤E) (hW:Below Y.heap.size Y W)=>
  (⟨_,rfl,⟨E,rfl,fun i hi=> hi.2,⟨Nat.le_trans (Nat.le_trans hX.size hb.size) hEE,hE.lt⟩,q1,0,fun i=> X.heap.size≤i∧i < Y.heap.size,fun i hi=> ⟨⟨Nat.le_trans hX.size hi.1,Nat.lt_of_lt_of_le hi.2 hW.size⟩,fun e=> by omega⟩,hE,hO.bel hW,fun x hx=> (by cases hx)⟩,belowTrans (belowTrans hX hb) hW⟩:JbBorn w W (.returned (.iface 227 (.pointer (some ⟨E,0, .none⟩)))) s kc (.mal rs0 none)))
 have hfin2:=Lib.hid (fun (X Y:World) (q1:Nat) (hX:Below w.heap.size w X) (h1:X.heap.size≤q1) (hr:RowAt Y q1 (feCells s fe0 (.pointer none)) 275) (hb:Below X.heap.size X Y)=>
  (⟨_,rfl,⟨q1,rfl,⟨Nat.le_trans hX.size h1,hr.lt⟩,(hfb Y q1 hr).2.imp (fun q2 hh=> ⟨hh.1,fun e=> by have:=hh.2 e;rw [this];exact ⟨Nat.le_trans hX.size h1,hr.lt⟩⟩)⟩,belowTrans hX hb⟩:JbBorn w Y (.returned (.iface 236 (.agg #[.pointer (some ⟨q1,0, .none⟩)]))) s kc (.fre fe0)))
 have hfin3:=Lib.hid (fun (X Y:World) (q1:Nat) (hX:Below w.heap.size w X) (hr:RrO (fun i=> X.heap.size≤i∧i < Y.heap.size) Y q1 s rr0) (hb:Below X.heap.size X Y)=>
  (⟨_,rfl,⟨q1,rfl,hr.weak (fun i hi=> ⟨Nat.le_trans hX.size hi.1,hi.2⟩) (fun i hi=> hi.2)⟩,belowTrans hX hb⟩:JbBorn w Y (.returned (.iface 240 (.agg #[.pointer (some ⟨q1,0, .none⟩)]))) s kc (.aga rr0)))
 have hfin4:=Lib.hid (fun (X Y:World) (q1:Nat) (hX:Below w.heap.size w X) (h1:X.heap.size≤q1) (hr:RowAt Y q1 (adCells s ad0) 281) (hb:Below X.heap.size X Y)=>
  (⟨_,rfl,⟨q1,rfl,⟨Nat.le_trans hX.size h1,hr.lt⟩,hr⟩,belowTrans hX hb⟩:JbBorn w Y (.returned (.iface 244 (.agg #[.pointer (some ⟨q1,0, .none⟩)]))) s kc (.hei ad0)))
 clear hfb
 obtain ⟨sp',sc,sm⟩:=s
 dsimp only [klCells] at h
 dsimp only at g1 g2 g3 g4
 replace g1:=Lib.hid g1
 replace g2:=Lib.hid g2
 replace g3:=Lib.hid g3
 replace g4:=Lib.hid g4
 have lq:q < w.heap.size:=h.lt
 have c5:w.cell? ⟨q,5, .none⟩=some (.int .i64 ok):=h.cell 5
 rcases hcs with ⟨rfl,hj⟩ | ⟨rfl,hj⟩ | ⟨rfl,hj⟩ | ⟨rfl,hj⟩
 case inl=>
  subst hj
  clear g2 g3 g4 hfin2 hfin3 hfin4
  go_enter Tryz.func117,Tryz.ntmps117
  go_upto_region 3 with fail
  have hd:=h.drew
  have bd:Below w.heap.size w w.drew:=(Below.refl _ _).drew
  clear lq c5 h
  have lq:q < w.drew.heap.size:=hd.lt
  have hS:=Lib.hid (fun (Y:World) (hr:RowAt Y q #[.int .i64 sp', .int .i64 sc, .int .i64 sm, .int .i64 kc, .int .i64 kf, .int .i64 1, .int .i64 oa, .int .i64 on,jv, .bool i, .bool kt, .pointer (some ⟨sp,0, .none⟩), .int .i64 ks] 127)=> (⟨hr.cell 0,hr.cell 1,hr.cell 2,hr.cell 3,hr.cell 4,hr.cell 7⟩:Y.cell? ⟨q,0, .none⟩=some (.int .i64 sp')∧Y.cell? ⟨q,1, .none⟩=some (.int .i64 sc)∧Y.cell? ⟨q,2, .none⟩=some (.int .i64 sm)∧Y.cell? ⟨q,3, .none⟩=some (.int .i64 kc)∧Y.cell? ⟨q,4, .none⟩=some (.int .i64 kf)∧Y.cell? ⟨q,7, .none⟩=some (.int .i64 on)))
  go_region_held3 (fun Y=> Y.cell? ⟨q,0, .none⟩=some (.int .i64 sp')∧Y.cell? ⟨q,1, .none⟩=some (.int .i64 sc)∧Y.cell? ⟨q,2, .none⟩=some (.int .i64 sm)∧Y.cell? ⟨q,3, .none⟩=some (.int .i64 kc)∧Y.cell? ⟨q,4, .none⟩=some (.int .i64 kf)∧Y.cell? ⟨q,7, .none⟩=some (.int .i64 on))
   (first | exact hS.out _ hd | exact hS.out _ h1 | exact hS.out _ (h1.alloc _) | fail)
   (first
    | (go_at_call 152;(with_reducible refine (g1.out _).mono ?_);rintro r w1 ⟨q1,rfl,hO1,hb1⟩;have h1:=hd.below hb1)
    | fail)
  go_wp2_with fail
  go_returns
  exact hfin1.out w.drew w1 _ q1 w1.heap.size bd hO1 hb1 (heap_alloc_new _ _) (Nat.le_refl _) ((Below.refl _ _).alloc (Nat.le_refl _) _)
 case inr.inl=>
  subst hj
  clear g1 g3 g4 hfin1 hfin3 hfin4
  go_enter Tryz.func117,Tryz.ntmps117
  go_upto_region 5 with fail
  have hd:=h.drew
  have bd:Below w.heap.size w w.drew:=(Below.refl _ _).drew
  clear lq c5 h
  have lq:q < w.drew.heap.size:=hd.lt
  have hS:=Lib.hid (fun (Y:World) (hr:RowAt Y q #[.int .i64 sp', .int .i64 sc, .int .i64 sm, .int .i64 kc, .int .i64 kf, .int .i64 2, .int .i64 oa, .int .i64 on,jv, .bool i, .bool kt, .pointer (some ⟨sp,0, .none⟩), .int .i64 ks] 127)=> (⟨hr.cell 0,hr.cell 1,hr.cell 2,hr.cell 3,hr.cell 6⟩:Y.cell? ⟨q,0, .none⟩=some (.int .i64 sp')∧Y.cell? ⟨q,1, .none⟩=some (.int .i64 sc)∧Y.cell? ⟨q,2, .none⟩=some (.int .i64 sm)∧Y.cell? ⟨q,3, .none⟩=some (.int .i64 kc)∧Y.cell? ⟨q,6, .none⟩=some (.int .i64 oa)))
  go_region_held3 (fun Y=> Y.cell? ⟨q,0, .none⟩=some (.int .i64 sp')∧Y.cell? ⟨q,1, .none⟩=some (.int .i64 sc)∧Y.cell? ⟨q,2, .none⟩=some (.int .i64 sm)∧Y.cell? ⟨q,3, .none⟩=some (.int .i64 kc)∧Y.cell? ⟨q,6, .none⟩=some (.int .i64 oa))
   (first | exact hS.out _ hd | exact hS.out _ h1 | exact hS.out _ (h1.alloc _) | fail)
   (first
    | (go_at_call 153;(with_reducible refine (g2.out _).mono ?_);rintro r w1 ⟨q1,rfl,hq1,hO1,hb1⟩;have h1:=hd.below hb1)
    | fail)
  go_wp2_with fail
  go_returns
  exact hfin2.out w.drew w1 q1 bd hq1 hO1 hb1
 case inr.inr.inl=>
  subst hj
  clear g1 g2 g4 hfin1 hfin2 hfin4
  go_enter Tryz.func117,Tryz.ntmps117
  go_upto_region 7 with fail
  have hd:=h.drew
  have bd:Below w.heap.size w w.drew:=(Below.refl _ _).drew
  clear lq c5 h
  have lq:q < w.drew.heap.size:=hd.lt
  have hS:=Lib.hid (fun (Y:World) (hr:RowAt Y q #[.int .i64 sp', .int .i64 sc, .int .i64 sm, .int .i64 kc, .int .i64 kf, .int .i64 3, .int .i64 oa, .int .i64 on,jv, .bool i, .bool kt, .pointer (some ⟨sp,0, .none⟩), .int .i64 ks] 127)=> (⟨hr.cell 0,hr.cell 1,hr.cell 2,hr.cell 3,hr.cell 4,hr.cell 6,hr.cell 7⟩:Y.cell? ⟨q,0, .none⟩=some (.int .i64 sp')∧Y.cell? ⟨q,1, .none⟩=some (.int .i64 sc)∧Y.cell? ⟨q,2, .none⟩=some (.int .i64 sm)∧Y.cell? ⟨q,3, .none⟩=some (.int .i64 kc)∧Y.cell? ⟨q,4, .none⟩=some (.int .i64 kf)∧Y.cell? ⟨q,6, .none⟩=some (.int .i64 oa)∧Y.cell? ⟨q,7, .none⟩=some (.int .i64 on)))
  go_region_held3 (fun Y=> Y.cell? ⟨q,0, .none⟩=some (.int .i64 sp')∧Y.cell? ⟨q,1, .none⟩=some (.int .i64 sc)∧Y.cell? ⟨q,2, .none⟩=some (.int .i64 sm)∧Y.cell? ⟨q,3, .none⟩=some (.int .i64 kc)∧Y.cell? ⟨q,4, .none⟩=some (.int .i64 kf)∧Y.cell? ⟨q,6, .none⟩=some (.int .i64 oa)∧Y.cell? ⟨q,7, .none⟩=some (.int .i64 on))
   (first | exact hS.out _ hd | exact hS.out _ h1 | exact hS.out _ (h1.alloc _) | fail)
   (first
    | (go_at_call 154;(with_reducible refine (g3.out _).mono ?_);rintro r w1 ⟨q1,rfl,hO1,hb1⟩;have h1:=hd.below hb1)
    | fail)
  go_wp2_with fail
  go_returns
  exact hfin3.out w.drew w1 q1 bd hO1 hb1
 case inr.inr.inr=>
  subst hj
  clear g1 g2 g3 hfin1 hfin2 hfin3
  go_enter Tryz.func117,Tryz.ntmps117
  go_upto_region 8 with fail
  have hd:=h.drew
  have bd:Below w.heap.size w w.drew:=(Below.refl _ _).drew
  clear lq c5 h
  have lq:q < w.drew.heap.size:=hd.lt
  have hS:=Lib.hid (fun (Y:World) (hr:RowAt Y q #[.int .i64 sp', .int .i64 sc, .int .i64 sm, .int .i64 kc, .int .i64 kf, .int .i64 4, .int .i64 oa, .int .i64 on,jv, .bool i, .bool kt, .pointer (some ⟨sp,0, .none⟩), .int .i64 ks] 127)=> (⟨hr.cell 0,hr.cell 1,hr.cell 2,hr.cell 3,hr.cell 6⟩:Y.cell? ⟨q,0, .none⟩=some (.int .i64 sp')∧Y.cell? ⟨q,1, .none⟩=some (.int .i64 sc)∧Y.cell? ⟨q,2, .none⟩=some (.int .i64 sm)∧Y.cell? ⟨q,3, .none⟩=some (.int .i64 kc)∧Y.cell? ⟨q,6, .none⟩=some (.int .i64 oa)))
  go_region_held3 (fun Y=> Y.cell? ⟨q,0, .none⟩=some (.int .i64 sp')∧Y.cell? ⟨q,1, .none⟩=some (.int .i64 sc)∧Y.cell? ⟨q,2, .none⟩=some (.int .i64 sm)∧Y.cell? ⟨q,3, .none⟩=some (.int .i64 kc)∧Y.cell? ⟨q,6, .none⟩=some (.int .i64 oa))
   (first | exact hS.out _ hd | exact hS.out _ h1 | exact hS.out _ (h1.alloc _) | fail)
   (first
    | (go_at_call 155;(with_reducible refine (g4.out _).mono ?_);rintro r w1 ⟨q1,rfl,hq1,hO1,hb1⟩;have h1:=hd.below hb1)
    | fail)
  go_wp2_with fail
  go_returns
  exact hfin4.out w.drew w1 q1 bd hq1 hO1 hb1
end Go.Proofs.YtampacmmhhilaaaGreat
/- How an operation is answered at once: the walk of cap.AtOnce. -/
namespace Go.Proofs.YtampacmmhhilaaaGreat

open Go.RowKit

attribute [local go_sem ↓] Go.wp_at_zero Go.wp_at_succ

set_option maxRecDepth 100000 in
set_option maxHeartbeats 4000000 in
theorem atOnce_any (s:Sh) (c k a n:Int) (w:World) (hk:1≤k∧k≤4):
  Calls Tryz.prog 115 #[.agg #[.int .i64 s.p, .int .i64 s.c, .int .i64 s.m], .int .i64 c, .agg #[.int .i64 k, .int .i64 a, .int .i64 n]] w fun e w'=> e= .returned (.tuple #[.int .i64 (onceE s c k a n), .bool (onceB s c k a n)])∧Below w.heap.size w w':=by
 have hc1:=fun W=> split3 s a W
 have hc2:=fun W=> length_any n W
 have hc3:=fun W=> planStatus_any s.p s.c s.m a W
 have hc4:=fun W=> run_any n W
 obtain ⟨b1,hb1,hb1'⟩:∃ b,Hid (b=onceBad s c k a n)∧b=onceBad s c k a n:=⟨_,Lib.hid rfl,rfl⟩
 obtain ⟨b2,hb2,hb2'⟩:∃ b,Hid (b=onceNo s k n)∧b=onceNo s k n:=⟨_,Lib.hid rfl,rfl⟩
 unfold onceE onceB
 rw [← hb1',← hb2']
 clear hb1' hb2'
 unfold onceBad at hb1
 unfold onceNo at hb2
 generalize statusIx s.p s.c s.m a=sx at *
 generalize spB s a=there at *
 generalize lenB n=fine at *
 generalize wi n 33 512=large at *
 generalize lenV n=ln at *
 generalize runV n=pages at *
 generalize (if there=true then a / 64 else 0)=pg at *
 generalize (if there=true then a % 64 else 0)=off at *
 obtain ⟨sp,sc,sm⟩:=s
 dsimp only at hc1 hc3 hb1 hb2 ⊢
 replace hc1:=Lib.hid hc1
 replace hc2:=Lib.hid hc2
 replace hc3:=Lib.hid hc3
 replace hc4:=Lib.hid hc4
 have hb0:=((Below.refl w.heap.size w).alloc (Nat.le_refl _) (.cells #[.int .i64 sp, .int .i64 sc, .int .i64 sm] 23)).alloc (by simp) (.cells #[.int .i64 k, .int .i64 a, .int .i64 n] 43)
 have t0:RowAt ((w.alloc (.cells #[.int .i64 sp, .int .i64 sc, .int .i64 sm] 23)).alloc (.cells #[.int .i64 k, .int .i64 a, .int .i64 n] 43)) w.heap.size #[.int .i64 sp, .int .i64 sc, .int .i64 sm] 23:=RowAt.alloc (heap_alloc_new _ _) _
 have t1:RowAt ((w.alloc (.cells #[.int .i64 sp, .int .i64 sc, .int .i64 sm] 23)).alloc (.cells #[.int .i64 k, .int .i64 a, .int .i64 n] 43)) (w.heap.size + 1) #[.int .i64 k, .int .i64 a, .int .i64 n] 43:=by
  have h:=heap_alloc_new (w.alloc (.cells #[.int .i64 sp, .int .i64 sc, .int .i64 sm] 23)) (.cells #[.int .i64 k, .int .i64 a, .int .i64 n] 43)
  rw [show (w.alloc (.cells #[.int .i64 sp, .int .i64 sc, .int .i64 sm] 23)).heap.size=w.heap.size + 1 by simp] at h
  exact h
 go_enter Tryz.func115,Tryz.ntmps115
 go_upto_region 1 with fail
 generalize (w.alloc (.cells #[.int .i64 sp, .int .i64 sc, .int .i64 sm] 23)).alloc (.cells #[.int .i64 k, .int .i64 a, .int .i64 n] 43)=X at *
 obtain ⟨G,hG,hG'⟩:∃ G,Hid (G=w.heap.size + 1)∧G=w.heap.size + 1:=⟨_,Lib.hid rfl,rfl⟩
 simp only [← hG'] at t1 ⊢
 clear hG'
 obtain ⟨H,hH,hH'⟩:∃ H,Hid (H=w.heap.size)∧H=w.heap.size:=⟨_,Lib.hid rfl,rfl⟩
 rw [← hH'] at t0 ⊢
 clear hH'
 have c0:X.cell? ⟨H,0, .none⟩=some (.int .i64 sp):=t0.cell 0
 have c1:X.cell? ⟨H,1, .none⟩=some (.int .i64 sc):=t0.cell 1
 have c2:X.cell? ⟨H,2, .none⟩=some (.int .i64 sm):=t0.cell 2
 have d0:X.cell? ⟨G,0, .none⟩=some (.int .i64 k):=t1.cell 0
 have d1:X.cell? ⟨G,1, .none⟩=some (.int .i64 a):=t1.cell 1
 have d2:X.cell? ⟨G,2, .none⟩=some (.int .i64 n):=t1.cell 2
 have lH:=t0.lt
 have lG:=t1.lt
 go_upto_region 3 with (first
  | (go_at_call 131;(with_reducible refine (hc2.out _).mono ?_);rintro r w1 ⟨rfl,hw1⟩;obtain rfl:=hw1.symm)
  | (go_at_call 150;(with_reducible refine (hc1.out _).mono ?_);rintro r w2 ⟨rfl,hb2⟩)
  | fail)
 have s0:=t0.below hb2
 have s1:=t1.below hb2
 have hbY:=belowTrans hb0 hb2
 clear c0 c1 c2 d0 d1 d2 lH lG hb0 hb2 t0 t1
 have c0:w2.cell? ⟨H,0, .none⟩=some (.int .i64 sp):=s0.cell 0
 have c1:w2.cell? ⟨H,1, .none⟩=some (.int .i64 sc):=s0.cell 1
 have c2:w2.cell? ⟨H,2, .none⟩=some (.int .i64 sm):=s0.cell 2
 have d0:w2.cell? ⟨G,0, .none⟩=some (.int .i64 k):=s1.cell 0
 have d1:w2.cell? ⟨G,1, .none⟩=some (.int .i64 a):=s1.cell 1
 have d2:w2.cell? ⟨G,2, .none⟩=some (.int .i64 n):=s1.cell 2
 have lH:=s0.lt
 have lG:=s1.lt
 have hk4:k=1∨k=2∨k=3∨k=4:=by omega
 clear hk
 rcases hk4 with rfl | rfl | rfl | rfl
 case inl=>
  cases fine
  case false=>
   obtain rfl:b1=true:=hb1.out.trans (by simp)
   go_wp2_with fail
   go_returns
   exact ⟨rfl,hbY⟩
  case true=>
   obtain rfl:b1=false:=hb1.out.trans (by simp)
   cases large
   case false=>
    obtain rfl:b2=false:=hb2.out.trans (by simp)
    go_wp2_with (first | (go_at_call 132;(with_reducible refine (hc4.out _).mono ?_);rintro r w3 ⟨rfl,hw3⟩;obtain rfl:=hw3.symm) | fail)
    go_returns
    exact ⟨rfl,hbY⟩
   case true=>
    by_cases hp:sp < pages
    ·obtain rfl:b2=true:=hb2.out.trans (by simp [hp])
     go_wp2_with (first | (go_at_call 132;(with_reducible refine (hc4.out _).mono ?_);rintro r w3 ⟨rfl,hw3⟩;obtain rfl:=hw3.symm) | fail)
     go_returns
     exact ⟨rfl,hbY⟩
    ·obtain rfl:b2=false:=hb2.out.trans (by simp [hp])
     have hp':decide (sp < pages)=false:=decide_eq_false hp
     go_wp2_with (first | (go_at_call 132;(with_reducible refine (hc4.out _).mono ?_);rintro r w3 ⟨rfl,hw3⟩;obtain rfl:=hw3.symm) | fail)
     go_returns
     exact ⟨rfl,hbY⟩
 case inr.inl=>
  obtain rfl:b2=false:=hb2.out.trans (by simp)
  cases there
  case false=>
   obtain rfl:b1=true:=hb1.out.trans (by simp)
   go_wp2_with fail
   go_returns
   exact ⟨rfl,hbY⟩
  case true=>
   obtain rfl:b1=false:=hb1.out.trans (by simp)
   go_wp2_with (first | (go_at_call 132;(with_reducible refine (hc4.out _).mono ?_);rintro r w3 ⟨rfl,hw3⟩;obtain rfl:=hw3.symm) | fail)
   go_returns
   exact ⟨rfl,hbY⟩
 case inr.inr.inl=>
  cases fine
  case false=>
   obtain rfl:b1=true:=hb1.out.trans (by simp)
   go_wp2_with fail
   go_returns
   exact ⟨rfl,hbY⟩
  case true=>
   cases there
   case false=>
    obtain rfl:b1=true:=hb1.out.trans (by simp)
    go_wp2_with fail
    go_returns
    exact ⟨rfl,hbY⟩
   case true=>
    obtain rfl:b1=false:=hb1.out.trans (by simp)
    cases large
    case false=>
     obtain rfl:b2=false:=hb2.out.trans (by simp)
     go_wp2_with (first | (go_at_call 132;(with_reducible refine (hc4.out _).mono ?_);rintro r w3 ⟨rfl,hw3⟩;obtain rfl:=hw3.symm) | fail)
     go_returns
     exact ⟨rfl,hbY⟩
    case true=>
     by_cases hp:sp < pages
     ·obtain rfl:b2=true:=hb2.out.trans (by simp [hp])
      go_wp2_with (first | (go_at_call 132;(with_reducible refine (hc4.out _).mono ?_);rintro r w3 ⟨rfl,hw3⟩;obtain rfl:=hw3.symm) | fail)
      go_returns
      exact ⟨rfl,hbY⟩
     ·obtain rfl:b2=false:=hb2.out.trans (by simp [hp])
      have hp':decide (sp < pages)=false:=decide_eq_false hp
      go_wp2_with (first | (go_at_call 132;(with_reducible refine (hc4.out _).mono ?_);rintro r w3 ⟨rfl,hw3⟩;obtain rfl:=hw3.symm) | fail)
      go_returns
      exact ⟨rfl,hbY⟩
 case inr.inr.inr=>
  obtain rfl:b2=false:=hb2.out.trans (by simp)
  by_cases hs:sx < 0
  ·obtain rfl:b1=true:=hb1.out.trans (by simp [hs])
   go_wp2_with (first | (go_at_call 67;(with_reducible refine (hc3.out _).mono ?_);rintro r w3 ⟨rfl,hb3⟩) | fail)
   go_returns
   exact ⟨rfl,belowTrans hbY hb3⟩
  ·have hs':decide (sx < 0)=false:=decide_eq_false hs
   by_cases hac:a=c
   ·subst hac
    obtain rfl:b1=true:=hb1.out.trans (by simp)
    go_wp2_with (first | (go_at_call 67;(with_reducible refine (hc3.out _).mono ?_);rintro r w3 ⟨rfl,hb3⟩;have e1:=keepF hb3 _ _ _ d1;have e0:=keepF hb3 _ _ _ d0) | fail)
    go_returns
    exact ⟨rfl,belowTrans hbY hb3⟩
   ·have hac':(a==c)=false:=by simpa using hac
    obtain rfl:b1=false:=hb1.out.trans (by simp [hs,hac'])
    go_wp2_with (first
     | (go_at_call 67;(with_reducible refine (hc3.out _).mono ?_);rintro r w3 ⟨rfl,hb3⟩;have e1:=keepF hb3 _ _ _ d1;have e0:=keepF hb3 _ _ _ d0;have e2:=keepF hb3 _ _ _ d2)
     | (go_at_call 132;(with_reducible refine (hc4.out _).mono ?_);rintro r w4 ⟨rfl,hw4⟩;obtain rfl:=hw4.symm) | fail)
    go_returns
    exact ⟨rfl,belowTrans hbY hb3⟩
end Go.Proofs.YtampacmmhhilaaaGreat
