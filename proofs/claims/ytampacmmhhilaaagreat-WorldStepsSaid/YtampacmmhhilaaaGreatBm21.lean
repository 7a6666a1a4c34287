/- Texts bound together: RenT RenU RenV QLas2 AdA AdB AudP. -/
import Derived.Test.YtampacmmhhilaaaGreatBm20

import Derived.Test.YtampacmmhhilaaaGreatBm18

import Derived.Test.YtampacmmhhilaaaGreatBm19

import Derived.Test.YtampacmmhhilaaaGreatBm1

import Derived.Test.YtampacmmhhilaaaGreatBm6

set_option linter.all false
/- The Renewer in memory: the steps of its Freer, Undoer, Committer. -/
namespace Go.Proofs.YtampacmmhhilaaaGreat

open Go.RowKit

theorem RrO.weak {F G:Nat→Prop} {w:World} {q:Nat} {s:Sh} {t:Rr} (h:RrO F w q s t) (hG:∀ k,F k→G k) (hb:∀ k,G k→k < w.heap.size):RrO G w q s t:=by
 obtain ⟨hF,h1,q1,q2,q3,q4,F1,F2,hF1,hF2,hrow,hr,hfr,hu,hc⟩:=h
 exact ⟨hb,hG q h1,q1,q2,q3,q4,F1,F2,fun k hk=> ⟨hG k (hF1 k hk).1,(hF1 k hk).2⟩,fun k hk=> ⟨hG k (hF2 k hk).1,(hF2 k hk).2⟩,hrow,hr,hfr,fun x hx=> ⟨⟨hG _ (hu x hx).1.1,(hu x hx).1.2⟩,(hu x hx).2⟩,fun x hx=> ⟨⟨hG _ (hc x hx).1.1,(hc x hx).1.2⟩,(hc x hx).2⟩⟩
/-- The Freer's step in a Renewer. -/
theorem RrO.freeStep {F:Nat→Prop} {q p b:Nat} {s:Sh} {t:Rr} {m:Mem} {w:World} (h:RrO F w q s t) {f:Fe} (hfree:t.free=some f) (hw:WdsAt w p b m) (hp:¬ F p) (hb:¬ F b) (hf:Fits s m) (ho:feOk s f) (hs:m.st < 1000000000):
  ∃ q2,w.cell? ⟨q,5, .none⟩=some (.pointer (some ⟨q2,0, .none⟩))∧Calls Tryz.prog 276 #[.pointer (some ⟨q2,0, .none⟩), .pointer (some ⟨p,0, .none⟩)] w fun e w'=> OStep F p b w w' e (feStep s f m).2∧RrO (grow F w w') w' q s { t with free:=some (feStep s f m).1 }:=by
 obtain ⟨hF,h1,q1,q2,q3,q4,F1,F2,hF1,hF2,hrow,hr,hfr,hu,hc⟩:=h
 have c5:w.cell? ⟨q,5, .none⟩=some (ptrV t.free q2):=hrow.cell 5
 rw [hfree] at c5
 refine ⟨q2,c5,(feo_step (hfr f hfree) hw (fun e=> hp (hF2 p e).1) (fun e=> hb (hF2 b e).1) hf ho hs).mono fun e w' hS=> ?_⟩
 obtain ⟨hO,hR⟩:=hS
 have hsz:=hO.only.size
 have hq:¬ (F2 q∨q=p∨q=b):=by
  rintro (e | e | e)
  ·exact (hF2 q e).2.1 rfl
  ·exact hp (e ▸ h1)
  ·exact hb (e ▸ h1)
 have hout:∀ k,F k→¬ F2 k→¬ (F2 k∨k=p∨k=b):=fun k hk hk1 e=> by
  rcases e with e | e | e
  ·exact hk1 e
  ·exact hp (e ▸ hk)
  ·exact hb (e ▸ hk)
 have hng:∀ k,F k→¬ F2 k→¬ grow F2 w w' k:=fun k hk hk1 e=> by
  rcases e with e | e
  ·exact hk1 e
  ·have:=hF k hk;omega
 refine ⟨⟨hO.ret,hO.wds,hO.only.weak fun k hk=> hk.imp (fun e=> (hF2 k e).1) id⟩,grow_lt hF hsz, .inl h1,q1,q2,q3,q4,F1,grow F2 w w',fun k hk=> ⟨.inl (hF1 k hk).1,(hF1 k hk).2⟩,fun k hk=> ?_,?_,?_,?_,?_,?_⟩
 ·rcases hk with hk | hk
  ·exact ⟨.inl (hF2 k hk).1,(hF2 k hk).2⟩
  ·exact ⟨.inr hk,fun e=> by have:=hF q h1;omega,fun e=> by have:=hF k (hF1 k e).1;omega⟩
 ·have:=hrow.only hO.only hq
  rw [hfree] at this
  exact this
 ·intro x hx
  exact (hr x hx).only hO.only (fun k hk=> hout k (hF1 k hk).1 (fun e=> (hF2 k e).2.2 hk))
 ·intro x hx
  injection hx with hx
  subst hx
  exact hR
 ·intro x hx
  obtain ⟨⟨a1,a2,a3,a4⟩,a5⟩:=hu x hx
  exact ⟨⟨.inl a1,a2,a3,hng _ a1 a4⟩,a5.only hO.only (hout _ a1 a4)⟩
 ·intro x hx
  obtain ⟨⟨a1,a2,a3,a4⟩,a5⟩:=hc x hx
  exact ⟨⟨.inl a1,a2,a3,hng _ a1 a4⟩,a5.only hO.only (hout _ a1 a4)⟩
/-- The Undoer's step in a Renewer. -/
theorem RrO.undoStep {F:Nat→Prop} {q p b:Nat} {s:Sh} {t:Rr} {m:Mem} {w:World} (h:RrO F w q s t) {u:Un} (hun:t.undo=some u) (hno:t.com=none) (hw:WdsAt w p b m) (hp:¬ F p) (hb:¬ F b) (hf:Fits s m) (ho:unOk s u) (hs:m.st < 1000000000):
  ∃ q3,w.cell? ⟨q,6, .none⟩=some (.pointer (some ⟨q3,0, .none⟩))∧Calls Tryz.prog 290 #[.pointer (some ⟨q3,0, .none⟩), .pointer (some ⟨p,0, .none⟩)] w fun e w'=> OStep F p b w w' e (unStep s u m).2∧RrO (grow F w w') w' q s { t with undo:=some (unStep s u m).1 }:=by
 obtain ⟨hF,h1,q1,q2,q3,q4,F1,F2,hF1,hF2,hrow,hr,hfr,hu,hc⟩:=h
 have c5:w.cell? ⟨q,6, .none⟩=some (ptrV t.undo q3):=hrow.cell 6
 rw [hun] at c5
 obtain ⟨⟨b1,b2,b3,b4⟩,b5⟩:=hu u hun
 refine ⟨q3,c5,(unstep_any q3 p b s u m w b5 hw (fun e=> hp (e ▸ b1)) (fun e=> hb (e ▸ b1)) hf ho hs).mono fun e w' hS=> ?_⟩
 have hsz:=hS.only.size
 have hq:¬ (q=q3∨q=p∨q=b):=by
  rintro (e | e | e)
  ·exact b2 e.symm
  ·exact hp (e ▸ h1)
  ·exact hb (e ▸ h1)
 have hout:∀ k,F k→k≠q3→¬ (k=q3∨k=p∨k=b):=fun k hk hk1 e=> by
  rcases e with e | e | e
  ·exact hk1 e
  ·exact hp (e ▸ hk)
  ·exact hb (e ▸ hk)
 refine ⟨⟨hS.ret,hS.wds,hS.only.weak fun k hk=> hk.imp (fun e=> by rw [e];exact b1) id⟩,grow_lt hF hsz, .inl h1,q1,q2,q3,q4,F1,F2,fun k hk=> ⟨.inl (hF1 k hk).1,(hF1 k hk).2⟩,fun k hk=> ⟨.inl (hF2 k hk).1,(hF2 k hk).2⟩,?_,?_,?_,?_,?_⟩
 ·have:=hrow.only hS.only hq
  rw [hun] at this
  exact this
 ·intro x hx
  exact (hr x hx).only hS.only (fun k hk=> hout k (hF1 k hk).1 (fun e=> b3 (e ▸ hk)))
 ·intro x hx
  exact (hfr x hx).only hS.only (fun k hk=> hout k (hF2 k hk).1 (fun e=> b4 (e ▸ hk)))
 ·intro x hx
  injection hx with hx
  subst hx
  exact ⟨⟨.inl b1,b2,b3,b4⟩,hS.row⟩
 ·intro x hx
  exact absurd hx (by rw [hno];exact fun e=> by cases e)
/-- The Committer's step in a Renewer. -/
theorem RrO.comStep {F:Nat→Prop} {q p b:Nat} {s:Sh} {t:Rr} {m:Mem} {w:World} (h:RrO F w q s t) {u:Cm} (hun:t.com=some u) (hno:t.undo=none) (hw:WdsAt w p b m) (hp:¬ F p) (hb:¬ F b) (hf:Fits s m) (ho:cmOk s u) (hs:m.st < 1000000000):
  ∃ q3,w.cell? ⟨q,7, .none⟩=some (.pointer (some ⟨q3,0, .none⟩))∧Calls Tryz.prog 259 #[.pointer (some ⟨q3,0, .none⟩), .pointer (some ⟨p,0, .none⟩)] w fun e w'=> OStep F p b w w' e (cmStep s u m).2∧RrO (grow F w w') w' q s { t with com:=some (cmStep s u m).1 }:=by
 obtain ⟨hF,h1,q1,q2,q3,q4,F1,F2,hF1,hF2,hrow,hr,hfr,hu,hc⟩:=h
 have c5:w.cell? ⟨q,7, .none⟩=some (ptrV t.com q4):=hrow.cell 7
 rw [hun] at c5
 obtain ⟨⟨b1,b2,b3,b4⟩,b5⟩:=hc u hun
 refine ⟨q4,c5,(cmstep_any q4 p b s u m w b5 hw (fun e=> hp (e ▸ b1)) (fun e=> hb (e ▸ b1)) hf ho hs).mono fun e w' hS=> ?_⟩
 have hsz:=hS.only.size
 have hq:¬ (q=q4∨q=p∨q=b):=by
  rintro (e | e | e)
  ·exact b2 e.symm
  ·exact hp (e ▸ h1)
  ·exact hb (e ▸ h1)
 have hout:∀ k,F k→k≠q4→¬ (k=q4∨k=p∨k=b):=fun k hk hk1 e=> by
  rcases e with e | e | e
  ·exact hk1 e
  ·exact hp (e ▸ hk)
  ·exact hb (e ▸ hk)
 refine ⟨⟨hS.ret,hS.wds,hS.only.weak fun k hk=> hk.imp (fun e=> by rw [e];exact b1) id⟩,grow_lt hF hsz, .inl h1,q1,q2,q3,q4,F1,F2,fun k hk=> ⟨.inl (hF1 k hk).1,(hF1 k hk).2⟩,fun k hk=> ⟨.inl (hF2 k hk).1,(hF2 k hk).2⟩,?_,?_,?_,?_,?_⟩
 ·have:=hrow.only hS.only hq
  rw [hun] at this
  exact this
 ·intro x hx
  exact (hr x hx).only hS.only (fun k hk=> hout k (hF1 k hk).1 (fun e=> b3 (e ▸ hk)))
 ·intro x hx
  exact (hfr x hx).only hS.only (fun k hk=> hout k (hF2 k hk).1 (fun e=> b4 (e ▸ hk)))
 ·intro x hx
  exact absurd hx (by rw [hno];exact fun e=> by cases e)
 ·intro x hx
  injection hx with hx
  subst hx
  exact ⟨⟨.inl b1,b2,b3,b4⟩,hS.row⟩
end Go.Proofs.YtampacmmhhilaaaGreat
/- The Renewer in memory: Step. -/
namespace Go.Proofs.YtampacmmhhilaaaGreat

open Go.RowKit

attribute [local go_sem ↓] Go.wp_at_zero Go.wp_at_succ

theorem rr_join {F:Nat→Prop} {q p b:Nat} {s:Sh} {t2:Rr} {m:Mem} {w w1 w2:World} {e1:Ending} (hF:∀ k,F k→k < w.heap.size) (hq:F q) (hp:¬ F p) (hb:¬ F b) (hO:OStep F p b w w1 e1 m) (ho:Only (fun k=> k=q) w1 w2) (hR:RrO (grow (grow F w w1) w1 w2) w2 q s t2):
  OStep F p b w w2 (.returned (.tuple #[])) m∧RrO (grow F w w2) w2 q s t2:=by
 have h1:=hO.only.size
 have h2:=ho.size
 refine ⟨⟨rfl,hO.wds.only ho (fun e=> hp (e ▸ hq)) (fun e=> hb (e ▸ hq)),hO.only.trans ho (fun k _ e=> .inl (by rw [e];exact hq))⟩,hR.weak (fun k hk=> ?_) (grow_lt hF (Nat.le_trans h1 h2))⟩
 rcases hk with (hk | hk) | hk
 ·exact .inl hk
 ·exact .inr ⟨hk.1,Nat.lt_of_lt_of_le hk.2 h2⟩
 ·exact .inr ⟨Nat.le_trans h1 hk.1,hk.2⟩
theorem RrO.resDone {F:Nat→Prop} {q q1:Nat} {s:Sh} {t:Rr} {w:World} (h:RrO F w q s t) {r:Rs} (hres:t.res=some r) (c:w.cell? ⟨q,4, .none⟩=some (.pointer (some ⟨q1,0, .none⟩))):
  Calls Tryz.prog 196 #[.pointer (some ⟨q1,0, .none⟩)] w fun e w'=> e= .returned (.bool r.done)∧w'=w:=by
 obtain ⟨hF,h1,q2,_,_,_,F1,F2,hF1,hF2,hrow,hr,_⟩:=h
 have c4:w.cell? ⟨q,4, .none⟩=some (ptrV t.res q2):=hrow.cell 4
 rw [hres] at c4
 have e:q1=q2:=by have:=c.symm.trans c4;simpa [ptrV] using this
 subst e
 exact rsdone_any (hr r hres)
theorem RrO.freeDone {F:Nat→Prop} {q q1:Nat} {s:Sh} {t:Rr} {w:World} (h:RrO F w q s t) {f:Fe} (hfree:t.free=some f) (c:w.cell? ⟨q,5, .none⟩=some (.pointer (some ⟨q1,0, .none⟩))):
  Calls Tryz.prog 197 #[.pointer (some ⟨q1,0, .none⟩)] w fun e w'=> e= .returned (.bool f.done)∧w'=w:=by
 obtain ⟨hF,h1,_,q2,_,_,F1,F2,hF1,hF2,hrow,_,hf,_⟩:=h
 have c4:w.cell? ⟨q,5, .none⟩=some (ptrV t.free q2):=hrow.cell 5
 rw [hfree] at c4
 have e:q1=q2:=by have:=c.symm.trans c4;simpa [ptrV] using this
 subst e
 obtain ⟨_,q3,h3,_⟩:=hf f hfree
 exact fedone_any q1 _ f.done w h3.row rfl
theorem RrO.cells {F:Nat→Prop} {q:Nat} {s:Sh} {t:Rr} {w:World} (h:RrO F w q s t):∃ q1 q2 q3 q4,w.cell? ⟨q,4, .none⟩=some (ptrV t.res q1)∧w.cell? ⟨q,5, .none⟩=some (ptrV t.free q2)∧w.cell? ⟨q,6, .none⟩=some (ptrV t.undo q3)∧w.cell? ⟨q,7, .none⟩=some (ptrV t.com q4)∧w.cell? ⟨q,9, .none⟩=some (.bool t.done):=by
 obtain ⟨hF,h1,q1,q2,q3,q4,F1,F2,hF1,hF2,hrow,_⟩:=h
 exact ⟨q1,q2,q3,q4,hrow.cell 4,hrow.cell 5,hrow.cell 6,hrow.cell 7,hrow.cell 9⟩
set_option maxHeartbeats 2000000 in
theorem rrstep_any {F:Nat→Prop} {q p b:Nat} {s:Sh} {t:Rr} {m:Mem} {w:World} (h:RrO F w q s t) (hw:WdsAt w p b m) (hp:¬ F p) (hb:¬ F b) (hf:Fits s m) (ho:rrOk s t) (hs:m.st < 1000000000):
  Calls Tryz.prog 289 #[.pointer (some ⟨q,0, .none⟩), .pointer (some ⟨p,0, .none⟩)] w fun e w'=> OStep F p b w w' e (rrStep s t m).2∧RrO (grow F w w') w' q s (rrStep s t m).1:=by
 obtain ⟨y1,y2,q5,q6,z4,z5,c6,c7,c9⟩:=h.cells
 clear z4 z5 y1 y2
 rcases Bool.eq_false_or_eq_true t.done with hd | hd
 ·have hr:rrStep s t m=(t,m):=by unfold rrStep;rw [if_pos hd]
  rw [hr]
  rw [hd] at c9
  have hfin:=Lib.hid (h.weak (G:=grow F w w) (fun k hk=> .inl hk) (grow_lt h.1 (Nat.le_refl _)))
  clear h hr hd ho hf c6 c7
  go_enter Tryz.func289,Tryz.ntmps289
  go_wp2_with fail
  go_returns
  exact ⟨⟨rfl,hw,Only.refl _ _⟩,hfin.out⟩
 obtain ⟨r,f,hres,hfree,hro,hfo,huo,hco,hno,hsome⟩:=ho.cl hd
 rw [hd] at c9
 have hF:=h.1
 have hq:=h.2.1
 rcases Bool.eq_false_or_eq_true r.done with hrd | hrd
 case inr=>
  have hr:rrStep s t m=(Rr.settle s { t with res:=some (rsStep s r m).1 },(rsStep s r m).2):=by unfold rrStep;simp [hd,hres,hfree,hrd]
  rw [hr]
  obtain ⟨q1,c4,hst⟩:=h.resStep hres hw hp hb hf hro hs
  have hdn:=h.resDone hres c4
  rw [hrd] at hdn
  have hset:=Lib.hid (fun (Y:World) (G:Nat→Prop) (hR:RrO G Y q s { t with res:=some (rsStep s r m).1 })=> hR.settled rfl hfree)
  have hfin:=Lib.hid (fun (Y Z:World) (e:Ending) (hO:OStep F p b w Y e (rsStep s r m).2) (hZ:Only (fun k=> k=q) Y Z) (hR:RrO (grow (grow F w Y) Y Z) Z q s (Rr.settle s { t with res:=some (rsStep s r m).1 }))=> rr_join hF hq hp hb hO hZ hR)
  replace hst:=Lib.hid hst
  replace hdn:=Lib.hid hdn
  clear h hr hd ho hf c6 c7 hres hfree hro hfo huo hco hno hsome hrd hw hF hq
  go_enter Tryz.func289,Tryz.ntmps289
  go_wp2_with (first
   | (go_at_call 196;(with_reducible refine hdn.out.mono ?_);rintro r w2 ⟨rfl,hw2⟩;obtain rfl:=hw2.symm)
   | (go_at_call 258;(with_reducible refine hst.out.mono ?_);rintro r w3 ⟨hO,hR⟩;obtain rfl:=hO.ret)
   | (go_at_call 179;(with_reducible refine (hset.out _ _ hR).mono ?_);rintro r w4 ⟨rfl,ho4,hR4⟩)
   | fail)
  go_returns
  exact hfin.out _ _ _ hO ho4 hR4
 rcases Bool.eq_false_or_eq_true f.done with hfd | hfd
 case inr=>
  have hr:rrStep s t m=(Rr.settle s { t with free:=some (feStep s f m).1 },(feStep s f m).2):=by unfold rrStep;simp [hd,hres,hfree,hrd,hfd]
  rw [hr]
  obtain ⟨q2,c5,hst⟩:=h.freeStep hfree hw hp hb hf hfo hs
  have hdn2:=h.freeDone hfree c5
  rw [hfd] at hdn2
  obtain ⟨q1,y2,y3,y4,c4,z5⟩:=h.cells
  clear z5 y2 y3 y4
  rw [hres] at c4
  replace c4:w.cell? ⟨q,4, .none⟩=some (.pointer (some ⟨q1,0, .none⟩)):=c4
  have hdn:=h.resDone hres c4
  rw [hrd] at hdn
  have hset:=Lib.hid (fun (Y:World) (G:Nat→Prop) (hR:RrO G Y q s { t with free:=some (feStep s f m).1 })=> hR.settled hres rfl)
  have hfin:=Lib.hid (fun (Y Z:World) (e:Ending) (hO:OStep F p b w Y e (feStep s f m).2) (hZ:Only (fun k=> k=q) Y Z) (hR:RrO (grow (grow F w Y) Y Z) Z q s (Rr.settle s { t with free:=some (feStep s f m).1 }))=> rr_join hF hq hp hb hO hZ hR)
  replace hst:=Lib.hid hst
  replace hdn:=Lib.hid hdn
  replace hdn2:=Lib.hid hdn2
  clear h hr hd ho hf c6 c7 hres hfree hro hfo huo hco hno hsome hrd hw hF hq hfd
  go_enter Tryz.func289,Tryz.ntmps289
  go_wp2_with (first
   | (go_at_call 196;(with_reducible refine hdn.out.mono ?_);rintro r w2 ⟨rfl,hw2⟩;obtain rfl:=hw2.symm)
   | (go_at_call 197;(with_reducible refine hdn2.out.mono ?_);rintro r w5 ⟨rfl,hw5⟩;obtain rfl:=hw5.symm)
   | (go_at_call 276;(with_reducible refine hst.out.mono ?_);rintro r w3 ⟨hO,hR⟩;obtain rfl:=hO.ret)
   | (go_at_call 179;(with_reducible refine (hset.out _ _ hR).mono ?_);rintro r w4 ⟨rfl,ho4,hR4⟩)
   | fail)
  go_returns
  exact hfin.out _ _ _ hO ho4 hR4
 obtain ⟨q1,q2,y3,y4,c4,c5,z6⟩:=h.cells
 clear z6 y3 y4
 rw [hres] at c4
 rw [hfree] at c5
 replace c4:w.cell? ⟨q,4, .none⟩=some (.pointer (some ⟨q1,0, .none⟩)):=c4
 replace c5:w.cell? ⟨q,5, .none⟩=some (.pointer (some ⟨q2,0, .none⟩)):=c5
 have hdn:=h.resDone hres c4
 have hdn2:=h.freeDone hfree c5
 rw [hrd] at hdn
 rw [hfd] at hdn2
 replace hdn:=Lib.hid hdn
 replace hdn2:=Lib.hid hdn2
 rcases hun:t.undo with _ | u
 ·obtain ⟨u,hcm⟩:∃ u,t.com=some u:=by
   rcases hsome hrd hfd with e | e
   ·exact absurd hun e
   ·rcases hc:t.com with _ | u
    ·exact absurd hc e
    ·exact ⟨u,rfl⟩
  have hr:rrStep s t m=(Rr.settle s { t with com:=some (cmStep s u m).1 },(cmStep s u m).2):=by unfold rrStep;simp [hd,hres,hfree,hrd,hfd,hun,hcm]
  rw [hr]
  obtain ⟨q3,cx,hst⟩:=h.comStep hcm hun hw hp hb hf (hco u hcm) hs
  have hset:=Lib.hid (fun (Y:World) (G:Nat→Prop) (hR:RrO G Y q s { t with com:=some (cmStep s u m).1 })=> hR.settled hres hfree)
  have hfin:=Lib.hid (fun (Y Z:World) (e:Ending) (hO:OStep F p b w Y e (cmStep s u m).2) (hZ:Only (fun k=> k=q) Y Z) (hR:RrO (grow (grow F w Y) Y Z) Z q s (Rr.settle s { t with com:=some (cmStep s u m).1 }))=> rr_join hF hq hp hb hO hZ hR)
  replace hst:=Lib.hid hst
  rw [hun] at c6
  replace c6:w.cell? ⟨q,6, .none⟩=some (.pointer none):=c6
  clear h hr hd ho hf c7 hres hfree hro hfo huo hco hno hsome hrd hw hF hq hfd hun hcm
  go_enter Tryz.func289,Tryz.ntmps289
  go_wp2_with (first
   | (go_at_call 196;(with_reducible refine hdn.out.mono ?_);rintro r w2 ⟨rfl,hw2⟩;obtain rfl:=hw2.symm)
   | (go_at_call 197;(with_reducible refine hdn2.out.mono ?_);rintro r w5 ⟨rfl,hw5⟩;obtain rfl:=hw5.symm)
   | (go_at_call 259;(with_reducible refine hst.out.mono ?_);rintro r w3 ⟨hO,hR⟩;obtain rfl:=hO.ret)
   | (go_at_call 179;(with_reducible refine (hset.out _ _ hR).mono ?_);rintro r w4 ⟨rfl,ho4,hR4⟩)
   | fail)
  go_returns
  exact hfin.out _ _ _ hO ho4 hR4
 ·have hcm:t.com=none:=by
   rcases hno with e | e
   ·rw [hun] at e;cases e
   ·exact e
  have hr:rrStep s t m=(Rr.settle s { t with undo:=some (unStep s u m).1 },(unStep s u m).2):=by unfold rrStep;simp [hd,hres,hfree,hrd,hfd,hun,hcm]
  rw [hr]
  obtain ⟨q3,cx,hst⟩:=h.undoStep hun hcm hw hp hb hf (huo u hun) hs
  have hset:=Lib.hid (fun (Y:World) (G:Nat→Prop) (hR:RrO G Y q s { t with undo:=some (unStep s u m).1 })=> hR.settled hres hfree)
  have hfin:=Lib.hid (fun (Y Z:World) (e:Ending) (hO:OStep F p b w Y e (unStep s u m).2) (hZ:Only (fun k=> k=q) Y Z) (hR:RrO (grow (grow F w Y) Y Z) Z q s (Rr.settle s { t with undo:=some (unStep s u m).1 }))=> rr_join hF hq hp hb hO hZ hR)
  replace hst:=Lib.hid hst
  rw [hun] at c6
  clear c6
  clear h hr hd ho hf c7 hres hfree hro hfo huo hco hno hsome hrd hw hF hq hfd hun hcm
  go_enter Tryz.func289,Tryz.ntmps289
  go_wp2_with (first
   | (go_at_call 196;(with_reducible refine hdn.out.mono ?_);rintro r w2 ⟨rfl,hw2⟩;obtain rfl:=hw2.symm)
   | (go_at_call 197;(with_reducible refine hdn2.out.mono ?_);rintro r w5 ⟨rfl,hw5⟩;obtain rfl:=hw5.symm)
   | (go_at_call 290;(with_reducible refine hst.out.mono ?_);rintro r w3 ⟨hO,hR⟩;obtain rfl:=hO.ret)
   | (go_at_call 179;(with_reducible refine (hset.out _ _ hR).mono ?_);rintro r w4 ⟨rfl,ho4,hR4⟩)
   | fail)
  go_returns
  exact hfin.out _ _ _ hO ho4 hR4
end Go.Proofs.YtampacmmhhilaaaGreat
/- What a Renewer keeps is kept. Plain. -/
namespace Go.Proofs.YtampacmmhhilaaaGreat

theorem rsNew_ok (s:Sh) (c n f:Int):(∀ x,(rsNew s c n f).seeker=some x→skOk s x)∧(∀ x,(rsNew s c n f).runner=some x→rnOk s x):=by
 unfold rsNew
 split
 ·exact ⟨fun x hx=> (by injection hx with hx;subst hx;exact skNew_ok _ _ _ _),fun x hx=> (by cases hx)⟩
 ·split
  ·exact ⟨fun x hx=> (by cases hx),fun x hx=> (by injection hx with hx;subst hx;exact rnNew_ok _ _ _)⟩
  ·exact ⟨fun x hx=> (by cases hx),fun x hx=> (by cases hx)⟩
theorem rrSettle_ok {s:Sh} {t:Rr} {r:Rs} {f:Fe} (hres:t.res=some r) (hfree:t.free=some f) (hro:(∀ x,r.seeker=some x→skOk s x)∧(∀ x,r.runner=some x→rnOk s x)) (hfo:feOk s f) (huo:∀ u,t.undo=some u→unOk s u) (hco:∀ u,t.com=some u→cmOk s u) (hno:t.undo=none∨t.com=none):rrOk s (t.settle s):=by
 rcases rr_settles s t r f hres hfree with ⟨_,e⟩ | ⟨_,_,e⟩ | ⟨_,_,h3,e⟩ | ⟨_,_,_,_,e⟩ | ⟨b,_,_,_,_,hw,e⟩ | ⟨b,_,_,_,_,e1,e2,_,_,e⟩ | ⟨b,_,_,_,_,e1,e2,_,_,e⟩
 all_goals rw [e]
 ·exact ⟨fun h=> by cases h⟩
 ·exact ⟨fun h=> by cases h⟩
 ·exact ⟨fun _=> ⟨r,f,hres,hfree,hro,hfo,huo,hco,hno,fun h=> by rw [h3] at h;cases h⟩⟩
 ·exact ⟨fun h=> by cases h⟩
 ·refine ⟨fun _=> ⟨r,f,hres,hfree,hro,hfo,huo,hco,hno,fun _ hf=> ?_⟩⟩
  rcases hw with h | ⟨_,h⟩ | ⟨_,_,h⟩
  ·exact .inl h
  ·exact .inr h
  ·rw [h] at hf;cases hf
 ·exact ⟨fun _=> ⟨r,f,hres,hfree,hro,hfo,huo,fun u hu=> by injection hu with hu;subst hu;exact cmNew_ok _ _ _, .inl e1,fun _ _=> .inr (fun h=> by cases h)⟩⟩
 ·exact ⟨fun _=> ⟨r,f,hres,hfree,hro,hfo,fun u hu=> by injection hu with hu;subst hu;exact unNew_ok _ _ _,hco, .inr e2,fun _ _=> .inl (fun h=> by cases h)⟩⟩
theorem rrNew_ok (s:Sh) (c a n first:Int):rrOk s (rrNew s c a n first):=by
 unfold rrNew
 split
 ·exact rrSettle_ok rfl rfl (rsNew_ok _ _ _ _) (feNew_ok _ _ _) (fun u hu=> by cases hu) (fun u hu=> by cases hu) (.inl rfl)
 ·exact ⟨fun h=> by cases h⟩
end Go.Proofs.YtampacmmhhilaaaGreat
/- A drawn region with one loud call, whose last two operations wait for all that lie ahead of them. -/
namespace Go.Proofs.YtampacmmhhilaaaGreat

open Go.RowKit

theorem wp_region_loud_last2 {P:Program} {Q:Exit→Act→World→Prop} {p q:Oper} {id:Nat} {a:Act} {W:World} {x:VarOp} {ld:Nat} {v:Value} {K0 K1:World→Prop} {l l':List Oper} {ts:List Nat} (n:Nat) (hm:P.follows .mixedOrders=true) (hd:l.drop n= [p,q]) (hlp:lastB (l.take n) p=true) (hlq:lastB (l.take n ++ [p]) q=true)
  (hl:nopMF x ld v 0 (l.take n)=l') (hB:Region.lexB .any l'.toArray=true) (hf:formM (l.take n).toArray x ld=true) (hsel:Region.noSelect (l.take n).toArray=true)
  (hn:x.al≠x.st∧x.al≠ld∧x.st≠ld∧x.src≠x.d) (hin:ld < (l.take n).toArray.size∧(x.al < (l.take n).toArray.size↔x.st < (l.take n).toArray.size)) (hso:x.so≠x.al∧x.so≠x.st) (hsl:x.al < (l.take n).toArray.size→x.so≠ld) (hw:waitsB (l.take n).toArray x ld ts=true) (hts:x.d ∉ ts) (hfit:x.d < a.tmps.size)
  (hc:KShut W K0∧KShut W K1) (h0:K0 W.drew)
  (hall:∃ aF,(∀ B,K0 B∨K1 B→W.heap.size≤B.heap.size→wpQuiet P l'.toArray (fun w'=> ∃ e:Ext B,w'=e.w) (fun a'=> a'=aF) l' a)∧(x.al < (l.take n).toArray.size→∀ Q0,VarStep P (l.take n) Q0 aF x)∧(∀ Q0,LoudStep P (l.take n) Q0 aF W ld v ts K0 K1)∧
   ∀ a w M,FilledL W x K1 (l.take n).toArray.size aF a w M→wpList P l.toArray Q [p,q] a w):(Code.region id l.toArray true).wp P Q a W:=by
 have hll:l=(l.take n ++ [p]) ++ [q]:=by
  have h:=(List.take_append_drop n l).symm
  rw [hd] at h
  simpa using h
 obtain ⟨aF,h1,h2,h3,h4⟩:=hall
 generalize hl0:l.take n=l0 at *
 subst hll
 have hgp:p.guard=none:=by
  simp only [lastB,Bool.and_eq_true] at hlq
  have:=List.all_eq_true.1 hlq.1.1.1 p (by simp)
  simp only [Bool.and_eq_true,Option.isNone_iff_eq_none] at this
  exact this.1
 have hwp:∀ k,Region.wanted p k=true:=fun k=> by unfold Region.wanted;rw [hgp]
 have h5:=loud_any (P:=P) (Q:=fun e a w=> match e with | .normal=> wpList P ((l0 ++ [p]) ++ [q]).toArray Q [p,q] a w | e=> Q e a w) hl hB hf hsel hn hin hso hsl hw hts hfit hc h0 ⟨aF,h1,fun hx=> h2 hx _,h3 _,h4⟩
 have h6:=wpAny_last (P:=P) (Q:=fun e a w=> match e with | .normal=> wpList P ((l0 ++ [p]) ++ [q]).toArray Q [q] a w | e=> Q e a w) hlp (fun e a w hne hq=> by cases e <;> first | exact absurd rfl hne | exact hq) (fun a w hq=> ?_) l0.toArray.size (Array.replicate l0.toArray.size false) a W.drew (by simp) (fun k o _ hk=> by rw [getD_replicate_false] at hk;cases hk) h5
 ·have hr:(Array.replicate l0.toArray.size false).push false=Array.replicate (l0 ++ [p]).toArray.size false:=by simp [Array.replicate_succ]
  rw [hr] at h6
  have hz1:l0.toArray.size + 1=(l0 ++ [p]).toArray.size:=by simp
  rw [hz1] at h6
  have h7:=wpAny_last (P:=P) (Q:=Q) hlq (fun e a w hne hq=> by cases e <;> first | exact absurd rfl hne | exact hq) (fun a w hq=> by unfold wpOp;rw [last_getn];exact hq) (l0 ++ [p]).toArray.size (Array.replicate (l0 ++ [p]).toArray.size false) a W.drew (by simp) (fun k o _ hk=> by rw [getD_replicate_false] at hk;cases hk) h6
  refine wp_region_any hm ?_
  have hz:((l0 ++ [p]) ++ [q]).toArray.size=(l0 ++ [p]).toArray.size + 1:=by simp
  rw [hz]
  have hr2:(Array.replicate (l0 ++ [p]).toArray.size false).push false=Array.replicate ((l0 ++ [p]).toArray.size + 1) false:=by rw [Array.replicate_succ]
  rw [← hr2]
  exact h7
 ·unfold wpOp
  rw [last_getn]
  simp only [hwp,if_true]
  have hq':wpList P ((l0 ++ [p]) ++ [q]).toArray Q [p,q] a w:=hq
  unfold wpList at hq'
  simp only [hwp,if_true] at hq'
  rcases hq' with h | ⟨h2,b,u,h3⟩
  ·exact .inl (upon_congr h (fun e a w hne hq=> by cases e <;> first | exact absurd rfl hne | exact hq))
  ·exact .inr ⟨h2,b,u,h3⟩
end Go.Proofs.YtampacmmhhilaaaGreat
/- The Adopter in memory: New and its small methods. -/
namespace Go.Proofs.YtampacmmhhilaaaGreat

open Go.RowKit

attribute [local go_sem ↓] Go.wp_at_zero Go.wp_at_succ

def adCells (s:Sh) (t:Ad):Array Value:= #[.int .i64 s.p, .int .i64 s.c, .int .i64 s.m, .int .i64 t.c, .int .i64 t.d, .int .i64 t.next, .int .u64 t.was, .int .i64 t.who, .int .i64 t.at', .int .i64 t.i, .int .i64 t.pk, .int .i64 t.pa, .int .i64 t.pb, .int .i64 t.err, .bool t.done]
theorem addone_any (q:Nat) (cs:Array Value) (v:Bool) (w:World) (h:RowAt w q cs 281) (hv:cs[14]?=some (.bool v)):Calls Tryz.prog 297 #[.pointer (some ⟨q,0, .none⟩)] w fun e w'=> e= .returned (.bool v)∧w'=w:=by
 have c:=(h.cell 14).trans hv
 clear h hv
 go_enter Tryz.func297,Tryz.ntmps297
 go_wp2_with fail
 go_returns
 exact ⟨rfl,rfl⟩
theorem adend_any (q:Nat) (s:Sh) (t:Ad) (x:Int) (w:World) (hq:RowAt w q (adCells s t) 281):
  Calls Tryz.prog 180 #[.pointer (some ⟨q,0, .none⟩), .int .i64 x] w fun e w'=> Turned q w w' e (adCells s (t.fin x)) 281:=by
 have h0:=At1.start hq
 clear hq
 obtain ⟨sp,sc,sm⟩:=s
 obtain ⟨tc,td,tn,tw,tby,ta,ti,pk,pa,pb,terr,tdone⟩:=t
 have c13:w.cell? ⟨q,13, .none⟩=some (.int .i64 terr):=h0.cell 13
 have c14:w.cell? ⟨q,14, .none⟩=some (.bool tdone):=h0.cell 14
 have zf:=h0.free
 go_enter Tryz.func180,Tryz.ntmps180
 go_wp2_with fail
 go_returns
 exact ((h0.set 13 _).set 14 _).fin rfl
theorem aderr_any (q:Nat) (s:Sh) (t:Ad) (w:World) (hq:RowAt w q (adCells s t) 281):
  Calls Tryz.prog 310 #[.pointer (some ⟨q,0, .none⟩)] w fun e w'=> e= .returned (.int .i64 t.err)∧w'=w:=by
 have c:w.cell? ⟨q,13, .none⟩=some (.int .i64 t.err):=hq.cell 13
 clear hq
 go_enter Tryz.func310,Tryz.ntmps310
 go_wp2_with fail
 go_returns
 exact ⟨rfl,rfl⟩
/-- What turn comes to. -/
theorem ad_turns (s:Sh) (t:Ad) (again next:Int):(t.at' + 1=s.p∧next=9∧s.m=0∧t.turn s again next= { t with at':=0,i:=0,next:=10 })∨(t.at' + 1=s.p∧next=9∧(s.m==0)=false∧t.turn s again next= { t with at':=0,i:=0,next:=9 })∨(t.at' + 1=s.p∧(next==9)=false∧t.turn s again next= { t with at':=0,i:=0,next:=next })
  ∨((t.at' + 1==s.p)=false∧again=9∧s.m=0∧t.turn s again next= { t with at':=t.at' + 1,next:=10 })∨((t.at' + 1==s.p)=false∧again=9∧(s.m==0)=false∧t.turn s again next= { t with at':=t.at' + 1,next:=9 })∨((t.at' + 1==s.p)=false∧(again==9)=false∧t.turn s again next= { t with at':=t.at' + 1,next:=again }):=by
 by_cases h1:t.at' + 1=s.p <;> by_cases h2:next=9 <;> by_cases h3:s.m=0 <;> by_cases h4:again=9 <;> simp [Ad.turn,h1,h2,h3,h4]
set_option maxHeartbeats 1000000 in
theorem adturn_any (q:Nat) (s:Sh) (t:Ad) (again next:Int) (w:World) (hq:RowAt w q (adCells s t) 281) (ha:0≤t.at'∧t.at' < 64):
  Calls Tryz.prog 305 #[.pointer (some ⟨q,0, .none⟩), .int .i64 again, .int .i64 next] w fun e w'=> Turned q w w' e (adCells s (t.turn s again next)) 281:=by
 have h0:=At1.start hq
 clear hq
 have hk:=ad_turns s t again next
 have w1:IntKind.i64.wrap (t.at' + 1)=t.at' + 1:=IntWalk.i64_in _ ⟨by omega,by omega⟩
 obtain ⟨t2,ht2⟩:∃ t2,t2=t.turn s again next:=⟨_,rfl⟩
 rw [← ht2] at hk ⊢
 clear ht2 ha
 obtain ⟨sp,sc,sm⟩:=s
 obtain ⟨tc,td,tn,tw,tby,ta,ti,pk,pa,pb,terr,tdone⟩:=t
 dsimp only at hk w1
 have c0:w.cell? ⟨q,0, .none⟩=some (.int .i64 sp):=h0.cell 0
 have c1:w.cell? ⟨q,1, .none⟩=some (.int .i64 sc):=h0.cell 1
 have c2:w.cell? ⟨q,2, .none⟩=some (.int .i64 sm):=h0.cell 2
 have c3:w.cell? ⟨q,3, .none⟩=some (.int .i64 tc):=h0.cell 3
 have c4:w.cell? ⟨q,4, .none⟩=some (.int .i64 td):=h0.cell 4
 have c5:w.cell? ⟨q,5, .none⟩=some (.int .i64 tn):=h0.cell 5
 have c6:w.cell? ⟨q,6, .none⟩=some (.int .u64 tw):=h0.cell 6
 have c7:w.cell? ⟨q,7, .none⟩=some (.int .i64 tby):=h0.cell 7
 have c8:w.cell? ⟨q,8, .none⟩=some (.int .i64 ta):=h0.cell 8
 have c9:w.cell? ⟨q,9, .none⟩=some (.int .i64 ti):=h0.cell 9
 have c10:w.cell? ⟨q,10, .none⟩=some (.int .i64 pk):=h0.cell 10
 have c11:w.cell? ⟨q,11, .none⟩=some (.int .i64 pa):=h0.cell 11
 have c12:w.cell? ⟨q,12, .none⟩=some (.int .i64 pb):=h0.cell 12
 have c13:w.cell? ⟨q,13, .none⟩=some (.int .i64 terr):=h0.cell 13
 have c14:w.cell? ⟨q,14, .none⟩=some (.bool tdone):=h0.cell 14
 have zf:=h0.free
 go_enter Tryz.func305,Tryz.ntmps305
 go_upto_region 2 with fail
 have hB:=(h0.set 8 (.int .i64 (ta + 1))).set 5 (.int .i64 again)
 generalize World.setCell _ ⟨q,5, .none⟩ (.int .i64 again)=U at *
 clear c0 c1 c2 c3 c4 c5 c6 c7 c8 c9 c10 c11 c12 c13 c14 h0 zf
 have z0:U.cell? ⟨q,0, .none⟩=some (.int .i64 sp):=hB.cell 0
 have z8:U.cell? ⟨q,8, .none⟩=some (.int .i64 (ta + 1)):=hB.cell 8
 have lU:=hB.lt
 refine wp_region_ext (by kernel_rfl) (by kernel_rfl) ?_
 repeat (go_big_quiet_step (fail))
 refine wpQuiet_nil ?_
 rintro _ ⟨e',rfl⟩
 have hX:=hB.below e'.below
 generalize e'.w=X at *
 have k0:X.cell? ⟨q,0, .none⟩=some (.int .i64 sp):=hX.cell 0
 have k2:X.cell? ⟨q,2, .none⟩=some (.int .i64 sm):=hX.cell 2
 have k5:X.cell? ⟨q,5, .none⟩=some (.int .i64 again):=hX.cell 5
 have k8:X.cell? ⟨q,8, .none⟩=some (.int .i64 (ta + 1)):=hX.cell 8
 have k9:X.cell? ⟨q,9, .none⟩=some (.int .i64 ti):=hX.cell 9
 have zf:=hX.free
 rcases hk with ⟨hs,rfl,hm,ht2⟩ | ⟨hs,rfl,hm,ht2⟩ | ⟨hs,hn,ht2⟩ | ⟨hs,rfl,hm,ht2⟩ | ⟨hs,rfl,hm,ht2⟩ | ⟨hs,hn,ht2⟩
 all_goals
  replace ht2:=Lib.hid ht2
  try subst hs
  go_wp2_with fail
  go_returns
 ·exact ((((hX.set 8 _).set 9 _).set 5 _).set 5 _).fin (by rw [ht2.out];rfl)
 ·exact (((hX.set 8 _).set 9 _).set 5 _).fin (by rw [ht2.out];rfl)
 ·exact (((hX.set 8 _).set 9 _).set 5 _).fin (by rw [ht2.out];rfl)
 ·exact (hX.set 5 _).fin (by rw [ht2.out];rfl)
 ·exact hX.fin (by rw [ht2.out];rfl)
 ·exact hX.fin (by rw [ht2.out];rfl)
set_option maxHeartbeats 1000000 in
theorem adslot_any (q:Nat) (s:Sh) (t:Ad) (w:World) (hq:RowAt w q (adCells s t) 281) (ha:0≤t.at'∧t.at' < 64) (hi:0≤t.i∧t.i < 16):
  Calls Tryz.prog 299 #[.pointer (some ⟨q,0, .none⟩)] w fun e w'=> Turned q w w' e (adCells s (t.slot s)) 281:=by
 have h0:=At1.start hq
 clear hq
 unfold Ad.slot
 have hsl:=fun W=> slots_any t.pa W
 have htn:=fun Y (hY:RowAt Y q (adCells s { t with i:=0,next:=11 }) 281)=> adturn_any q s { t with i:=0,next:=11 } 10 13 Y hY ha
 have w1:IntKind.i64.wrap (t.i + 1)=t.i + 1:=IntWalk.i64_in _ ⟨by omega,by omega⟩
 have hcs:t.i + 1=slotsV t.pa∨(¬ t.i + 1=slotsV t.pa∧(t.i + 1==slotsV t.pa)=false):=by
  by_cases h:t.i + 1=slotsV t.pa
  ·exact .inl h
  ·exact .inr ⟨h,by simpa using h⟩
 obtain ⟨t2,ht2,ht2'⟩:∃ t2:Ad,Hid (t2=if t.i + 1=slotsV t.pa then ({ t with i:=0,next:=11 }:Ad).turn s 10 13 else { t with i:=t.i + 1,next:=11 })∧t2=_:=⟨_,Lib.hid rfl,rfl⟩
 rw [← ht2']
 clear ht2'
 generalize slotsV t.pa=sv at *
 obtain ⟨sp,sc,sm⟩:=s
 obtain ⟨tc,td,tn,tw,tby,ta,ti,pk,pa,pb,terr,tdone⟩:=t
 dsimp only at hsl htn hcs ht2 w1
 clear ha hi
 replace hsl:=Lib.hid hsl
 replace htn:=Lib.hid htn
 have c0:w.cell? ⟨q,0, .none⟩=some (.int .i64 sp):=h0.cell 0
 have c1:w.cell? ⟨q,1, .none⟩=some (.int .i64 sc):=h0.cell 1
 have c2:w.cell? ⟨q,2, .none⟩=some (.int .i64 sm):=h0.cell 2
 have c3:w.cell? ⟨q,3, .none⟩=some (.int .i64 tc):=h0.cell 3
 have c4:w.cell? ⟨q,4, .none⟩=some (.int .i64 td):=h0.cell 4
 have c5:w.cell? ⟨q,5, .none⟩=some (.int .i64 tn):=h0.cell 5
 have c6:w.cell? ⟨q,6, .none⟩=some (.int .u64 tw):=h0.cell 6
 have c7:w.cell? ⟨q,7, .none⟩=some (.int .i64 tby):=h0.cell 7
 have c8:w.cell? ⟨q,8, .none⟩=some (.int .i64 ta):=h0.cell 8
 have c9:w.cell? ⟨q,9, .none⟩=some (.int .i64 ti):=h0.cell 9
 have c10:w.cell? ⟨q,10, .none⟩=some (.int .i64 pk):=h0.cell 10
 have c11:w.cell? ⟨q,11, .none⟩=some (.int .i64 pa):=h0.cell 11
 have c12:w.cell? ⟨q,12, .none⟩=some (.int .i64 pb):=h0.cell 12
 have c13:w.cell? ⟨q,13, .none⟩=some (.int .i64 terr):=h0.cell 13
 have c14:w.cell? ⟨q,14, .none⟩=some (.bool tdone):=h0.cell 14
 have zf:=h0.free
 go_enter Tryz.func299,Tryz.ntmps299
 go_upto_region 2 with fail
 have hB:=(h0.set 9 (.int .i64 (ti + 1))).set 5 (.int .i64 11)
 generalize World.setCell _ ⟨q,5, .none⟩ (.int .i64 11)=U at *
 clear c0 c1 c2 c3 c4 c5 c6 c7 c8 c9 c10 c11 c12 c13 c14 h0 zf
 have z9:U.cell? ⟨q,9, .none⟩=some (.int .i64 (ti + 1)):=hB.cell 9
 have z11:U.cell? ⟨q,11, .none⟩=some (.int .i64 pa):=hB.cell 11
 have lU:=hB.lt
 refine wp_region_ext (by kernel_rfl) (by kernel_rfl) ?_
 repeat (go_big_quiet_step ((first | (go_at_call 97;exact ext_same ((hsl.out _).mono fun _ _ h=> ⟨h.1,h.2⟩)) | fail)))
 refine wpQuiet_nil ?_
 rintro _ ⟨e',rfl⟩
 have hX:=hB.below e'.below
 generalize e'.w=X at *
 rcases hcs with hcs | ⟨hn,hcs⟩
 ·subst hcs
  replace ht2:=Lib.hid (ht2.out.trans (if_pos rfl))
  have k9:X.cell? ⟨q,9, .none⟩=some (.int .i64 (ti + 1)):=hX.cell 9
  have zf:=hX.free
  have hE:=hX.set 9 (.int .i64 0)
  go_wp2_with (first | (go_at_call 305;(with_reducible refine (htn.out _ hE.row).mono ?_);rintro r w1 hT;obtain rfl:=hT.ret) | fail)
  go_returns
  exact (hE.turned hT).fin (by rw [ht2.out])
 ·replace ht2:=Lib.hid (ht2.out.trans (if_neg hn))
  clear hn
  go_wp2_with fail
  go_returns
  exact hX.fin (by rw [ht2.out];rfl)
end Go.Proofs.YtampacmmhhilaaaGreat
/- The Adopter in memory: New, own, read. -/
namespace Go.Proofs.YtampacmmhhilaaaGreat

open Go.RowKit

attribute [local go_sem ↓] Go.wp_at_zero Go.wp_at_succ

set_option maxHeartbeats 1000000 in
theorem adown_any (q:Nat) (s:Sh) (t:Ad) (k a b:Int) (ok:Bool) (w:World) (hq:RowAt w q (adCells s t) 281):
  Calls Tryz.prog 306 #[.pointer (some ⟨q,0, .none⟩), .agg #[.int .i64 k, .int .i64 a, .int .i64 b], .bool ok] w fun e w'=> e= .returned (.bool (ok && (k==1 && a==t.d)))∧Below w.heap.size w w':=by
 have h0:=hq
 clear hq
 obtain ⟨sp,sc,sm⟩:=s
 obtain ⟨tc,td,tn,tw,tby,ta,ti,pk,pa,pb,terr,tdone⟩:=t
 dsimp only
 have hb0:=(Below.refl w.heap.size w).alloc (Nat.le_refl _) (.cells #[.int .i64 k, .int .i64 a, .int .i64 b] 160)
 have t0:=heap_alloc_new w (.cells #[.int .i64 k, .int .i64 a, .int .i64 b] 160)
 have lq:=h0.lt
 go_enter Tryz.func306,Tryz.ntmps306
 go_upto_region 1 with fail
 generalize w.alloc (.cells #[.int .i64 k, .int .i64 a, .int .i64 b] 160)=W at *
 have h1:=h0.below hb0
 obtain ⟨H,hH,hH'⟩:∃ H,Hid (H=w.heap.size)∧H=w.heap.size:=⟨_,Lib.hid rfl,rfl⟩
 rw [← hH'] at t0 ⊢
 have lH:H < W.heap.size:=(Array.getElem?_eq_some_iff.1 t0).1
 have c0:W.cell? ⟨H,0, .none⟩=some (.int .i64 k):=rowCells t0 0
 have c1:W.cell? ⟨H,1, .none⟩=some (.int .i64 a):=rowCells t0 1
 have d4:W.cell? ⟨q,4, .none⟩=some (.int .i64 td):=h1.cell 4
 have lqW:=h1.lt
 clear hH' t0 h0
 rcases (by cases ok <;> simp:ok=false∨ok=true) with rfl | rfl
 case inr=>
  rcases (by by_cases h:k=1 <;> simp [h]:k=1∨(k==1)=false) with rfl | hk
  all_goals
   refine wp_region_ext (by kernel_rfl) (by kernel_rfl) ?_
   repeat (go_big_quiet_step (fail))
   refine wpQuiet_nil ?_
   rintro _ ⟨e',rfl⟩
   have hbe:=e'.below
   generalize e'.w=X at *
   go_wp2_with fail
   go_returns
  ·exact ⟨by simp,belowTrans hb0 hbe⟩
  ·exact ⟨by simp [hk],belowTrans hb0 hbe⟩
 case inl=>
  refine wp_region_ext (by kernel_rfl) (by kernel_rfl) ?_
  repeat (go_big_quiet_step (fail))
  refine wpQuiet_nil ?_
  rintro _ ⟨e',rfl⟩
  have hbe:=e'.below
  generalize e'.w=X at *
  go_wp2_with fail
  go_returns
  exact ⟨by simp,belowTrans hb0 hbe⟩
set_option maxRecDepth 100000 in
set_option maxHeartbeats 2000000 in
theorem adread_any (q p b:Nat) (s:Sh) (t:Ad) (m:Mem) (a:Int) (w:World) (h0:At3 q p b w w (adCells s t) 281 m) (hf:Fits s m) (hs:m.st < 1000000000) (ha:0≤a∧a < s.p):
  Calls Tryz.prog 304 #[.pointer (some ⟨q,0, .none⟩), .pointer (some ⟨p,0, .none⟩), .int .i64 a] w fun e w'=> e= .returned (.tuple #[.agg #[.int .i64 (pgK s a (m.get (pageIx s.p s.c s.m a))), .int .i64 (pgP s a (m.get (pageIx s.p s.c s.m a)) 0), .int .i64 (pgP s a (m.get (pageIx s.p s.c s.m a)) 1)], .bool (readPageB s.p s.c s.m a (m.get (pageIx s.p s.c s.m a)))])∧At3 q p b w w' (adCells s t) 281 (m.load t.c (pageIx s.p s.c s.m a)):=by
 obtain ⟨hpx,hph⟩:=hf.page ha
 have hcpp:=fun Y=> planPage_any s.p s.c s.m a Y
 rw [hpx] at hcpp ⊢
 have hlp:=fun Y (hY:WdsAt Y p b m)=> wload_any p b m t.c (s.c + a) Y hY hph hs
 have hrp:=fun Y=> readPage3 s a (m.get (s.c + a)) Y (Mem.get_fit h0.wds.fit _)
 clear hpx hph hf ha
 generalize s.c + a=pga at *
 generalize m.get pga=x at *
 generalize readPageB s.p s.c s.m a x=B at *
 generalize pgK s a x=e0 at *
 generalize pgP s a x 0=e1 at *
 generalize pgP s a x 1=e2 at *
 obtain ⟨sp,sc,sm⟩:=s
 obtain ⟨tc,td,tn,tw,tby,ta,ti,pk,pa,pb,terr,tdone⟩:=t
 dsimp only at hcpp hlp hrp ⊢
 replace hcpp:=Lib.hid hcpp
 replace hlp:=Lib.hid hlp
 replace hrp:=Lib.hid hrp
 have t0:=heap_alloc_new w (.cells #[.int .i64 0, .int .i64 0, .int .i64 0] 160)
 have hX:=h0.alloc (.cells #[.int .i64 0, .int .i64 0, .int .i64 0] 160)
 go_enter Tryz.func304,Tryz.ntmps304
 go_upto_region 1 with fail
 generalize w.alloc (.cells #[.int .i64 0, .int .i64 0, .int .i64 0] 160)=X at *
 obtain ⟨H,hH,hH'⟩:∃ H,Hid (H=w.heap.size)∧H=w.heap.size:=⟨_,Lib.hid rfl,rfl⟩
 rw [← hH'] at t0 ⊢
 have hHw:w.heap.size≤H:=by omega
 clear hH'
 have hHq:H≠q:=fun e=> by have:=h0.lt;omega
 have hHp:H≠p:=fun e=> by have:=h0.wds.ltp;omega
 have hHb:H≠b:=fun e=> by have:=h0.wds.ltb;omega
 have hHr:RowAt X H #[.int .i64 0, .int .i64 0, .int .i64 0] 160:=t0
 clear t0
 have lX:=hX.lt
 refine wp_region_loud_last2 20 (p:= { dst:=none,op:=Op.store 160 (Operand.tmp 6) (Operand.tmp 26),type:=0,pos:=_,after:=_,guard:=none }) (q:= { dst:=some 7,op:=Op.assign (Operand.tmp 27),type:=_,pos:=_,after:=_,guard:=none }) (x:=noVar 4) (ld:=16) (v:= .int .u64 x) (ts:= [13,17,23])
  (K0:=fun Y=> At3 q p b w Y (adCells ⟨sp,sc,sm⟩ ⟨tc,td,tn,tw,tby,ta,ti,pk,pa,pb,terr,tdone⟩) 281 m∧RowAt Y H #[.int .i64 0, .int .i64 0, .int .i64 0] 160) (K1:=fun Y=> At3 q p b w Y (adCells ⟨sp,sc,sm⟩ ⟨tc,td,tn,tw,tby,ta,ti,pk,pa,pb,terr,tdone⟩) 281 (m.load tc pga)∧RowAt Y H #[.int .i64 0, .int .i64 0, .int .i64 0] 160)
  (by kernel_rfl) rfl (by kernel_rfl) (by kernel_rfl) (by simp only [List.take,noVar,nopMF,nopM1,nopO,nopC,Nat.reduceBEq,Bool.or_false,Bool.or_true,Bool.false_eq_true,↓reduceIte,Nat.reduceAdd];exact rfl) (by kernel_rfl) (by kernel_rfl) (by kernel_rfl) (by simp [noVar]) (by simp [noVar]) (by simp [noVar]) (by simp [noVar]) (by kernel_rfl) (by simp [noVar]) (by simp [noVar])
  ⟨⟨fun Y Y' h1 h2 h3=> ⟨h1.1.far h2 h3 hX.only.size,h1.2.only h3 (by have:=hHr.lt;omega)⟩⟩,⟨fun Y Y' h1 h2 h3=> ⟨h1.1.far h2 h3 hX.only.size,h1.2.only h3 (by have:=hHr.lt;omega)⟩⟩⟩ ⟨hX.drew,hHr.drew⟩ ?_
 apply Exists.intro
 refine ⟨fun B hb hs=> ?_,fun h=> (by simp [noVar] at h),fun Q0=> ?_,?_⟩
 case refine_1=>
  have hrB:RowAt B q (adCells ⟨sp,sc,sm⟩ ⟨tc,td,tn,tw,tby,ta,ti,pk,pa,pb,terr,tdone⟩) 281:=hb.elim (fun h=> h.1.row) (fun h=> h.1.row)
  have lB:=hrB.lt
  have k0:B.cell? ⟨q,0, .none⟩=some (.int .i64 sp):=hrB.cell 0
  have k1:B.cell? ⟨q,1, .none⟩=some (.int .i64 sc):=hrB.cell 1
  have k2:B.cell? ⟨q,2, .none⟩=some (.int .i64 sm):=hrB.cell 2
  have k3:B.cell? ⟨q,3, .none⟩=some (.int .i64 tc):=hrB.cell 3
  repeat (go_big_quiet_step ((first | (go_at_call 136;exact ext_of (hcpp.out _)) | (go_at_call 135;exact ext_of (hrp.out _)) | fail)))
  exact wpQuiet_nil rfl
 case refine_2=> exact loud_step rfl (fun _ _=> by simp [go_sem]) fun Y hY2 hs=> (hlp.out Y hY2.1.wds).mono fun r Y' ⟨h1,h2,h3⟩=> ⟨h1,⟨hY2.1.load h2 h3,hY2.2.only h3 hHp⟩,h3.weak fun k hk=> hk ▸ Nat.lt_of_lt_of_le hY2.1.ls.2.1 hX.only.size⟩
 case refine_3=>
  intro a w4 M hf
  obtain ⟨rfl,hbig,⟨hk1,hk2⟩,_⟩:=hf
  have z0:w4.cell? ⟨H,0, .none⟩=some (.int .i64 0):=hk2.cell 0
  have z1:w4.cell? ⟨H,1, .none⟩=some (.int .i64 0):=hk2.cell 1
  have z2:w4.cell? ⟨H,2, .none⟩=some (.int .i64 0):=hk2.cell 2
  have zf:∀ i,w4.frozen? ⟨H,i, .none⟩=false:=fun i=> rowFree hk2 i
  have hB:=((hk1.new hHw 0 (.int .i64 e0)).new hHw 1 (.int .i64 e1)).new hHw 2 (.int .i64 e2)
  have hR:=((hk2.set 0 (.int .i64 e0)).set 1 (.int .i64 e1)).set 2 (.int .i64 e2)
  simp only [noVar,vput,List.take,List.size_toArray,List.length_cons,List.length_nil,Nat.reduceAdd,Nat.reduceLT,decide_false,Bool.false_eq_true,if_false]
  clear hk1 hk2 hX h0
  go_wp2
  generalize World.setCell _ ⟨H,2, .none⟩ (.int .i64 e2)=V at *
  clear z0 z1 z2 zf
  have z0:V.cell? ⟨H,0, .none⟩=some (.int .i64 e0):=hR.cell 0
  have z1:V.cell? ⟨H,1, .none⟩=some (.int .i64 e1):=hR.cell 1
  have z2:V.cell? ⟨H,2, .none⟩=some (.int .i64 e2):=hR.cell 2
  refine bodyPost_ret (by simp [results,Tryz.results304,go_sem,z0,z1,z2];try rfl) rfl ?_
  exact ⟨rfl,hB⟩
end Go.Proofs.YtampacmmhhilaaaGreat
/- A heap's words as an auditor reads them: plain. -/
namespace Go.Proofs.YtampacmmhhilaaaGreat

/-- A shape and words. -/
structure Hp where
 p:Int
 c:Int
 m:Int
 xs:List Int
def wd (xs:List Int) (i:Int):Int:=xs.getD i.toNat 0
theorem wd_get {xs:List Int} {i:Int} (h0:0≤i) (h1:i < xs.length):wd xs i=xs[i.toNat]'(by omega):=by
 unfold wd
 rw [List.getD_eq_getElem?_getD,List.getElem?_eq_getElem (by omega)]
 rfl
def Hp.ok (h:Hp):Bool:=mayB h.p h.c h.m && decide (totalV h.p h.c h.m≤(h.xs.length:Int))
def Hp.pw (h:Hp) (a:Int):Int:=wd h.xs (h.c + a)
def Hp.pb (h:Hp) (a:Int):Bool:=readPageB h.p h.c h.m a (h.pw a)
def Hp.pk (h:Hp) (a:Int):Int:=if h.pb a=true then kindV (h.pw a) else 0
def Hp.pa (h:Hp) (a:Int):Int:=if h.pb a=true then partV (h.pw a) 0 else 0
def Hp.sw (h:Hp) (a i:Int):Int:=wd h.xs (h.c + h.p + a * 16 + i)
def Hp.sk (h:Hp) (a i:Int):Int:=if readSlotB (h.sw a i)=true then kindV (h.sw a i) else 0
def Hp.sa (h:Hp) (a i:Int):Int:=if readSlotB (h.sw a i)=true then partV (h.sw a i) 0 else 0
/-- Does anybody hold a page? Who? -/
def Hp.hd (h:Hp) (a:Int):Int:=if (h.pb a && h.pk a==4)=true then h.pa a else a
def Hp.hb (h:Hp) (a:Int):Bool:=h.pb (h.hd a) && h.pk (h.hd a)==1
def Hp.hc (h:Hp) (a:Int):Int:=if h.hb a=true then h.pa (h.hd a) else 0
/-- Are all slots below i open? -/
def Hp.op (h:Hp) (a:Int):Nat→Bool
 | 0=> true
 | i + 1=> h.op a i && h.sk a i==1
def Hp.fr (h:Hp) (a:Int):Bool:=if (h.pb a && h.pk a==2)=true then h.op a (slotsV (h.pa a)).toNat else h.pb a && h.pk a==0
/-- How many free pages in a row end ahead of page k. -/
def Hp.rw (h:Hp):Nat→Nat
 | 0=> 0
 | k + 1=> if h.fr k=true then h.rw k + 1 else 0
/-- Words that are words. -/
def Hp.fit (h:Hp):Prop:=∀ x ∈ h.xs,0≤x∧x < 18446744073709551616
end Go.Proofs.YtampacmmhhilaaaGreat
