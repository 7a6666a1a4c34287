/- Texts bound together: JobN JobS EvR StkP StkW. -/
import Derived.Deep.RegionLawGrows

import Derived.Deep.RegionHeldLaw

import Derived.Test.YthgekdlegbmehaaGreatBq26

set_option linter.all false
set_option maxHeartbeats 4000000
set_option maxRecDepth 100000
namespace Go.Proofs.YthgekdlegbmehaaGreat

section

open Go.RowKit

attribute [local go_sem ↓] Go.wp_at_zero Go.wp_at_succ

theorem zux {F:Nat->Prop} {q:Nat} {s:Sh} {cl:Int} {r:Rs} {c:Option Cm} {w:World} (h:MalO F w q s cl r c):
  Calls Tryz.prog 113 #[.pointer (some ⟨q,0,.none⟩)] w fun e w'=> e= .returned (gotV (Jb.mal r c).took)/\Below w.heap.size w w':=by
 obtain ⟨hF,h1,q1,q2,F1,hF1,hrow,hr,hc⟩:=h
 have hlt:q < w.heap.size:=hF q h1
 have hfo:=hd' (fun Y (hY:Below w.heap.size w Y)=> zei (hr.bel hY))
 have hcd:=hd' (fun Y (hY:Below w.heap.size w Y)=> z16 (fun x hx=> ((hc x hx).2.below hY)))
 have hk:=hd' (fun Y (hY:Below w.heap.size w Y)=> (⟨(hrow.below hY).cell 0,(hrow.below hY).cell 1⟩:Y.cell? ⟨q,0,.none⟩=some (.pointer (some ⟨q1,0,.none⟩))/\Y.cell? ⟨q,1,.none⟩=some (ptrV c q2)))
 have hres:(Jb.mal r c).took=if zck c=true then r.got else none:=rfl
 obtain ⟨tk,htk,htk'⟩:∃ t,Hid (t=(Jb.mal r c).took)/\t=(Jb.mal r c).took:=⟨_,hd' rfl,rfl⟩
 rw [<- htk']
 clear htk'
 rw [hres] at htk
 clear h1 hF hF1 hrow hr hc hres
 obtain ⟨⟨bl,bp,bs,bk,bn⟩,hb⟩:∃ b,b=r.got.getD Blk.zero:=⟨_,rfl⟩
 obtain ⟨oks,hoks⟩:∃ o,o=r.got.isSome:=⟨_,rfl⟩
 have hval:(oks=false/\gotV tk= .tuple #[.agg #[.bool false,.int .i64 0,.int .i64 0,.int .i64 0,.int .i64 0],.bool false])\/(oks=true/\zck c=false/\gotV tk= .tuple #[.agg #[.bool false,.int .i64 0,.int .i64 0,.int .i64 0,.int .i64 0],.bool false])\/(oks=true/\zck c=true/\gotV tk= .tuple #[.agg #[.bool bl,.int .i64 bp,.int .i64 bs,.int .i64 bk,.int .i64 bn],.bool true]):=by
  rcases hg:r.got with _ | ⟨gl,gp,gs,gk,gn⟩
  ·rw [hg] at htk hoks
   exact .inl ⟨hoks,by rw [htk.out];split <;> rfl⟩
  ·rw [hg] at htk hoks hb
   have hb':(⟨bl,bp,bs,bk,bn⟩:Blk)=⟨gl,gp,gs,gk,gn⟩:=hb
   cases hce:zck c
   ·exact .inr (.inl ⟨hoks,rfl,by rw [htk.out,hce];rfl⟩)
   ·exact .inr (.inr ⟨hoks,rfl,by rw [htk.out,hce,if_pos rfl,<- hb'];rfl⟩)
 unfold gotV at hfo
 rw [<- hb,<- hoks] at hfo
 dsimp only [zg0] at hfo
 clear hb hoks htk
 generalize zck c=cen at *
 generalize ptrV c q2=pv at *
 have hb0:=(Below.refl w.heap.size w).alloc lr (.cells #[.bool false,.int .i64 0,.int .i64 0,.int .i64 0,.int .i64 0] 101)
 have hE:zaa (w.alloc (.cells #[.bool false,.int .i64 0,.int .i64 0,.int .i64 0,.int .i64 0] 101)) w.heap.size #[.bool false,.int .i64 0,.int .i64 0,.int .i64 0,.int .i64 0] 101:=heap_alloc_new _ _
 go_enter Tryz.func113,Tryz.ntmps113
 go_upto_region 1 with fail
 generalize w.alloc (.cells #[.bool false,.int .i64 0,.int .i64 0,.int .i64 0,.int .i64 0] 101)=X0 at *
 obtain ⟨E,hEE,hEE'⟩:=hidv w.heap.size
 rw [<- hEE'] at hE ⊢
 have hEw:w.heap.size<=E:=by omega
 have hqE:q≠E:=by omega
 clear hEE'
 obtain ⟨k0,k1⟩:=hk.out X0 hb0
 have lq0:q < X0.heap.size:=Nat.lt_of_lt_of_le hlt hb0.size
 have hfo0:=hd' (hfo.out X0 hb0)
 go_upto_region 2 with (first | (go_at_call 62;(with_reducible refine hfo0.out.mono ?_);rintro r w1 ⟨rfl,hb1⟩) | fail)
 have hE1:=hE.below hb1
 have hbW:=zab hb0 hb1
 have hbX:=hbW.trans ((Below.refl w.heap.size w1).alloc hbW.size (.cells #[.bool bl,.int .i64 bp,.int .i64 bs,.int .i64 bk,.int .i64 bn] 101))
 have hE2:=hE1.alloc (.cells #[.bool bl,.int .i64 bp,.int .i64 bs,.int .i64 bk,.int .i64 bn] 101)
 have hG:zaa (w1.alloc (.cells #[.bool bl,.int .i64 bp,.int .i64 bs,.int .i64 bk,.int .i64 bn] 101)) w1.heap.size #[.bool bl,.int .i64 bp,.int .i64 bs,.int .i64 bk,.int .i64 bn] 101:=heap_alloc_new _ _
 have hGE:w1.heap.size≠E:=fun e=> by have:=hE1.lt;omega
 generalize w1.alloc (.cells #[.bool bl,.int .i64 bp,.int .i64 bs,.int .i64 bk,.int .i64 bn] 101)=X at *
 obtain ⟨G,hGG,hGG'⟩:=hidv w1.heap.size
 rw [<- hGG'] at hG hGE ⊢
 clear hGG' k0 k1 lq0
 have gcd:=hd' (hcd.out X hbX)
 obtain ⟨k0,k1⟩:=hk.out X hbX
 have lX:q < X.heap.size:=Nat.lt_of_lt_of_le hlt hbX.size
 have lE:E < X.heap.size:=hE2.lt
 have lG:G < X.heap.size:=hG.lt
 have fE:=zax hE2
 have e0:=ce (.bool false) (hE2.cell 0)
 have e1:=ci 0 (hE2.cell 1)
 have e2:=ci 0 (hE2.cell 2)
 have e3:=ci 0 (hE2.cell 3)
 have e4:=ci 0 (hE2.cell 4)
 have g0:=ce (.bool bl) (hG.cell 0)
 have g1:=ci bp (hG.cell 1)
 have g2:=ci bs (hG.cell 2)
 have g3:=ci bk (hG.cell 3)
 have g4:=ci bn (hG.cell 4)
 clear hcd hfo hfo0 hlt hk hb0 hb1 hE hE1 hbW
 replace hval:=hd' hval
 have hfinE:∀ (U:World) (x0:Bool) (x1 x2 x3 x4:Int),U=(((((X.setCell ⟨E,0,.none⟩ (.bool x0)).setCell ⟨E,1,.none⟩ (.int .i64 x1)).setCell ⟨E,2,.none⟩ (.int .i64 x2)).setCell ⟨E,3,.none⟩ (.int .i64 x3)).setCell ⟨E,4,.none⟩ (.int .i64 x4))->zaa U E #[.bool x0,.int .i64 x1,.int .i64 x2,.int .i64 x3,.int .i64 x4] 101/\Below w.heap.size w U:=fun U x0 x1 x2 x3 x4 hU=> by
  subst hU
  exact ⟨(((((hE2.set 0 (.bool x0)).set 1 (.int .i64 x1)).set 2 (.int .i64 x2)).set 3 (.int .i64 x3)).set 4 (.int .i64 x4)),(((((hbX.setCell (p:=⟨E,0,.none⟩) hEw (.bool x0)).setCell (p:=⟨E,1,.none⟩) hEw (.int .i64 x1)).setCell (p:=⟨E,2,.none⟩) hEw (.int .i64 x2)).setCell (p:=⟨E,3,.none⟩) hEw (.int .i64 x3)).setCell (p:=⟨E,4,.none⟩) hEw (.int .i64 x4))⟩
 replace hfinE:=hd' hfinE
 rcases hval.out with ⟨rfl,hv⟩ | ⟨rfl,rfl,hv⟩ | ⟨rfl,rfl,hv⟩
 case inl=>
  replace hv:=hd' hv
  go_wp2_with fail
  obtain ⟨hF,hbF⟩:=hfinE.out _ _ _ _ _ _ rfl
  generalize ((((X.setCell ⟨E,0,.none⟩ (.bool false)).setCell ⟨E,1,.none⟩ (.int .i64 0)).setCell ⟨E,2,.none⟩ (.int .i64 0)).setCell ⟨E,3,.none⟩ (.int .i64 0)).setCell ⟨E,4,.none⟩ (.int .i64 0)=U at *
  have r0:=ce (.bool false) (hF.cell 0)
  have r1:=ci 0 (hF.cell 1)
  have r2:=ci 0 (hF.cell 2)
  have r3:=ci 0 (hF.cell 3)
  have r4:=ci 0 (hF.cell 4)
  exact bodyPost_ret (v:= .tuple #[.agg #[.bool false,.int .i64 0,.int .i64 0,.int .i64 0,.int .i64 0],.bool false]) (by simp [results,Tryz.results113,go_sem,r0,r1,r2,r3,r4]) rfl ⟨by rw [hv.out],hbF⟩
 case inr.inl=>
  replace hv:=hd' hv
  go_wp2_with (first | (go_at_call 64;(with_reducible refine gcd.out.mono ?_);rintro r w3 ⟨rfl,hw3⟩;obtain rfl:=hw3.symm) | fail)
  obtain ⟨hF,hbF⟩:=hfinE.out _ _ _ _ _ _ rfl
  generalize ((((X.setCell ⟨E,0,.none⟩ (.bool false)).setCell ⟨E,1,.none⟩ (.int .i64 0)).setCell ⟨E,2,.none⟩ (.int .i64 0)).setCell ⟨E,3,.none⟩ (.int .i64 0)).setCell ⟨E,4,.none⟩ (.int .i64 0)=U at *
  have r0:=ce (.bool false) (hF.cell 0)
  have r1:=ci 0 (hF.cell 1)
  have r2:=ci 0 (hF.cell 2)
  have r3:=ci 0 (hF.cell 3)
  have r4:=ci 0 (hF.cell 4)
  exact bodyPost_ret (v:= .tuple #[.agg #[.bool false,.int .i64 0,.int .i64 0,.int .i64 0,.int .i64 0],.bool false]) (by simp [results,Tryz.results113,go_sem,r0,r1,r2,r3,r4]) rfl ⟨by rw [hv.out],hbF⟩
 case inr.inr=>
  replace hv:=hd' hv
  go_wp2_with (first | (go_at_call 64;(with_reducible refine gcd.out.mono ?_);rintro r w3 ⟨rfl,hw3⟩;obtain rfl:=hw3.symm) | fail)
  obtain ⟨hF,hbF⟩:=hfinE.out _ bl bp bs bk bn rfl
  generalize ((((X.setCell ⟨E,0,.none⟩ (.bool bl)).setCell ⟨E,1,.none⟩ (.int .i64 bp)).setCell ⟨E,2,.none⟩ (.int .i64 bs)).setCell ⟨E,3,.none⟩ (.int .i64 bk)).setCell ⟨E,4,.none⟩ (.int .i64 bn)=U at *
  have r0:=ce (.bool bl) (hF.cell 0)
  have r1:=ci bp (hF.cell 1)
  have r2:=ci bs (hF.cell 2)
  have r3:=ci bk (hF.cell 3)
  have r4:=ci bn (hF.cell 4)
  exact bodyPost_ret (v:= .tuple #[.agg #[.bool bl,.int .i64 bp,.int .i64 bs,.int .i64 bk,.int .i64 bn],.bool true]) (by simp [results,Tryz.results113,go_sem,r0,r1,r2,r3,r4]) rfl ⟨by rw [hv.out],hbF⟩
theorem MalO.zuw {F:Nat->Prop} {q p b:Nat} {s:Sh} {cl:Int} {r:Rs} {c:Option Cm} {m:Mem} {w:World} (h:MalO F w q s cl r c) (hw:zaq w p b m) (hp:¬ F p) (hb:¬ F b) (hf:Fits s m) (ho:(∀ x,r.seeker=some x->skOk s x)/\(∀ x,r.runner=some x->rnOk s x)) (hs:m.st < 1000000000):
  ∃ q1,w.cell? ⟨q,0,.none⟩=some (.pointer (some ⟨q1,0,.none⟩))/\(Calls Tryz.prog 65 #[.pointer (some ⟨q1,0,.none⟩)] w fun e w'=> e= .returned (.bool r.done)/\w'=w)/\
   Calls Tryz.prog 114 #[.pointer (some ⟨q1,0,.none⟩),.pointer (some ⟨p,0,.none⟩)] w fun e w'=> zef F p b w w' e (zb0 s r m).2/\MalO (grow F w w') w' q s cl (zb0 s r m).1 c:=by
 obtain ⟨hF,h1,q1,q2,F1,hF1,hrow,hr,hc⟩:=h
 refine ⟨q1,hrow.cell 0,zil hr,(zo5 hr hw (fun e=> hp (hF1 p e).1) (fun e=> hb (hF1 b e).1) hf ho hs).mono fun e w' hS=> ?_⟩
 obtain ⟨hO,hR⟩:=hS
 have hsz:=hO.only.size
 have hq:¬ (F1 q\/q=p\/q=b):=by
  rintro (e | e | e)
  ·exact (hF1 q e).2 rfl
  ·exact hp (e ▸ h1)
  ·exact hb (e ▸ h1)
 have hout:∀ k,F k->¬ F1 k->¬ (F1 k\/k=p\/k=b):=fun k hk hk1 e=> by
  rcases e with e | e | e
  ·exact hk1 e
  ·exact hp (e ▸ hk)
  ·exact hb (e ▸ hk)
 have hng:∀ k,F k->¬ F1 k->¬ grow F1 w w' k:=fun k hk hk1 e=> by
  rcases e with e | e
  ·exact hk1 e
  ·have:=hF k hk;omega
 refine ⟨⟨hO.ret,hO.wds,hO.only.weak fun k hk=> hk.imp (fun e=> (hF1 k e).1) id⟩,zec hF hsz,.inl h1,q1,q2,grow F1 w w',fun k hk=> ?_,hrow.only hO.only hq,hR,?_⟩
 ·rcases hk with hk | hk
  ·exact ⟨.inl (hF1 k hk).1,(hF1 k hk).2⟩
  ·exact ⟨.inr hk,fun e=> by have:=hF q h1;omega⟩
 ·intro x hx
  obtain ⟨⟨a1,a2,a3⟩,a4⟩:=hc x hx
  exact ⟨⟨.inl a1,a2,hng _ a1 a3⟩,a4.only hO.only (hout _ a1 a3)⟩
theorem zt8 {F:Nat->Prop} {q p b:Nat} {s:Sh} {cl:Int} {r:Rs} {c:Option Cm} {m:Mem} {w:World} (h:MalO F w q s cl r c) (hw:zaq w p b m) (hp:¬ F p) (hb:¬ F b) (hf:Fits s m) (ho:(∀ x,r.seeker=some x->skOk s x)/\(∀ x,r.runner=some x->rnOk s x)) (hs:m.st < 1000000000)
  (hcase:r.done=false\/(r.done=true/\c=none/\∃ b,r.got=some b)):
  Calls Tryz.prog 110 #[.pointer (some ⟨q,0,.none⟩),.pointer (some ⟨p,0,.none⟩)] w fun e w'=> zef F p b w w' e (Jb.step s cl m (.mal r c)).2/\∃ r' c',(Jb.step s cl m (.mal r c)).1= .mal r' c'/\MalO (grow F w w') w' q s cl r' c':=by
 obtain ⟨q1,c0,hdn,hst⟩:=h.zuw hw hp hb hf ho hs
 rcases hcase with hrd | ⟨hrd,rfl,⟨bl,bp,bs,bk,bn⟩,hg⟩
 ·have hr:Jb.step s cl m (.mal r c)=(.mal (zb0 s r m).1 c,(zb0 s r m).2):=by unfold Jb.step;dsimp only;rw [if_pos hrd]
  rw [hr]
  rw [hrd] at hdn
  replace hdn:=hd' hdn
  replace hst:=hd' hst
  have hfin:∀ (e:Ending) (w3:World),zef F p b w w3 e (zb0 s r m).2/\MalO (grow F w w3) w3 q s cl (zb0 s r m).1 c->zef F p b w w3 e (zb0 s r m).2/\∃ r' c',(Jb.mal (zb0 s r m).1 c,(zb0 s r m).2).1= .mal r' c'/\MalO (grow F w w3) w3 q s cl r' c':=fun e w3 hh=> ⟨hh.1,_,_,rfl,hh.2⟩
  replace hfin:=hd' hfin
  dsimp only at hfin ⊢
  have lq:q < w.heap.size:=h.1 q h.2.1
  clear h hr hw hp hb hf ho hs hrd
  go_enter Tryz.func110,Tryz.ntmps110
  go_wp2_with (first
   | (go_at_call 65;(with_reducible refine hdn.out.mono ?_);rintro r w2 ⟨rfl,hw2⟩;obtain rfl:=hw2.symm)
   | (go_at_call 114;(with_reducible refine hst.out.mono ?_);rintro r w3 hS;obtain rfl:=hS.1.ret)
   | fail)
  go_returns
  exact hfin.out _ _ hS
 ·have hr:Jb.step s cl m (.mal r none)=(.mal r (some (zb3 s (zc4 s cl ⟨bl,bp,bs,bk,bn⟩) m).1),(zb3 s (zc4 s cl ⟨bl,bp,bs,bk,bn⟩) m).2):=by
   unfold Jb.step;dsimp only;rw [if_neg (by rw [hrd];decide)]
   have:zhp s cl r none=some (zc4 s cl ⟨bl,bp,bs,bk,bn⟩):=by unfold zhp;rw [hg]
   rw [this]
  rw [hr]
  rw [hrd] at hdn
  replace hdn:=hd' hdn
  clear hst hr
  obtain ⟨hF,h1,q1',q2,F1,hF1,hrow,hrs,_⟩:=h
  have eq1:q1'=q1:=by
   have:=(hrow.cell 0).symm.trans c0
   simpa [zg2] using this
  subst eq1
  have lq:q < w.heap.size:=hF q h1
  have hfo:=zei hrs
  rw [hg] at hfo
  replace hfo:Calls Tryz.prog 62 #[.pointer (some ⟨q1',0,.none⟩)] w fun e w'=> e= .returned (.tuple #[.agg #[.bool bl,.int .i64 bp,.int .i64 bs,.int .i64 bk,.int .i64 bn],.bool true])/\Below w.heap.size w w':=hfo
  replace hfo:=hd' hfo
  have gn:=fun W=> ztm s cl ⟨bl,bp,bs,bk,bn⟩ W
  dsimp only at gn
  have hcs:=fun Y q6 (hY:zaa Y q6 (ze3 s (zc4 s cl ⟨bl,bp,bs,bk,bn⟩)) 155) (hwY:zaq Y p b m) (h6p:q6≠p) (h6b:q6≠b)=> zou q6 p b s (zc4 s cl ⟨bl,bp,bs,bk,bn⟩) m Y hY hwY h6p h6b hf (zpt _ _ _) hs
  have hpl:=hw.ltp
  have hbl:=hw.ltb
  have hqp:q≠p:=fun e=> hp (e ▸ h1)
  have hqb:q≠b:=fun e=> hb (e ▸ h1)
  have hfin:∀ (w4 w6:World) (e:Ending) (q6:Nat),Below w.heap.size w w4->w4.heap.size<=w6.heap.size->zaa w6 q (zg2 s cl (.pointer (some ⟨q1',0,.none⟩)) (.pointer (some ⟨q6,0,.none⟩))) 85->w.heap.size<=q6->zaa w6 q6 (ze3 s (zb3 s (zc4 s cl ⟨bl,bp,bs,bk,bn⟩) m).1) 155->zaq w6 p b (zb3 s (zc4 s cl ⟨bl,bp,bs,bk,bn⟩) m).2->Only (fun k=> k=q\/k=p\/k=b) w w6->
    zef F p b w w6 (.returned (.tuple #[])) (zb3 s (zc4 s cl ⟨bl,bp,bs,bk,bn⟩) m).2/\∃ r' c',Jb.mal r (some (zb3 s (zc4 s cl ⟨bl,bp,bs,bk,bn⟩) m).1)= .mal r' c'/\MalO (grow F w w6) w6 q s cl r' c':=fun w4 w6 e q6 hb4 hs6 hrow6 hq6 hc6 hw6 hon=> by
   have hsz:=hon.size
   refine ⟨⟨rfl,hw6,hon.weak fun k hk=> ?_⟩,_,_,rfl,zec hF hsz,.inl h1,q1',q6,F1,fun k hk=> ⟨.inl (hF1 k hk).1,(hF1 k hk).2⟩,hrow6,hrs.only hon (fun k hk hh=> ?_),fun x hx=> ?_⟩
   ·rcases hk with rfl | hk | hk
    ·exact .inl h1
    ·exact .inr (.inl hk)
    ·exact .inr (.inr hk)
   ·rcases hh with rfl | rfl | rfl
    ·exact (hF1 _ hk).2 rfl
    ·exact hp (hF1 _ hk).1
    ·exact hb (hF1 _ hk).1
   ·injection hx with hx
    subst hx
    exact ⟨⟨.inr ⟨hq6,hc6.lt⟩,fun e=> by omega,fun e=> by have:=hF _ (hF1 _ e).1;omega⟩,hc6⟩
  generalize zb3 s (zc4 s cl ⟨bl,bp,bs,bk,bn⟩) m=cs6 at *
  generalize zc4 s cl ⟨bl,bp,bs,bk,bn⟩=cm0 at *
  replace hcs:=hd' hcs
  replace hfin:=hd' hfin
  dsimp only at hfin ⊢
  obtain ⟨sp,sc,sm⟩:=s
  dsimp only at gn
  replace gn:=hd' gn
  clear hp hb hf ho hs hrd hg hF h1 hF1 hrs
  go_enter Tryz.func110,Tryz.ntmps110
  go_upto_region 3 with (first
   | (go_at_call 65;(with_reducible refine hdn.out.mono ?_);rintro r w2 ⟨rfl,hw2⟩;obtain rfl:=hw2.symm)
   | (go_at_call 62;(with_reducible refine hfo.out.mono ?_);rintro r w3 ⟨rfl,hb3⟩)
   | fail)
  have hbX:=hb3.trans ((Below.refl w.heap.size w3).alloc hb3.size (.cells #[.bool bl,.int .i64 bp,.int .i64 bs,.int .i64 bk,.int .i64 bn] 101))
  have hEX:zaa (w3.alloc (.cells #[.bool bl,.int .i64 bp,.int .i64 bs,.int .i64 bk,.int .i64 bn] 101)) w3.heap.size #[.bool bl,.int .i64 bp,.int .i64 bs,.int .i64 bk,.int .i64 bn] 101:=heap_alloc_new _ _
  have hEw:w.heap.size<=w3.heap.size:=hb3.size
  generalize w3.alloc (.cells #[.bool bl,.int .i64 bp,.int .i64 bs,.int .i64 bk,.int .i64 bn] 101)=X at *
  obtain ⟨E,hEE,hEE'⟩:=hidv w3.heap.size
  simp only [<- hEE'] at hEX hEw ⊢
  have hqE:q≠E:=by omega
  clear hEE' hEE hb3 c0 hfo hdn
  have hrX:zaa X q (zg2 ⟨sp,sc,sm⟩ cl (.pointer (some ⟨q1',0,.none⟩)) (.pointer none)) 85:=hrow.below hbX
  have hwX:=hw.below hbX
  have lX:q < X.heap.size:=hrX.lt
  have x0:=ce (.pointer (some ⟨q1',0,.none⟩)) (hrX.cell 0)
  have x1:=ce (.pointer none) (hrX.cell 1)
  go_upto_region 4 with fail
  have hrd:=hrX.drew
  have hEd:=hEX.drew
  have hwd:=hwX.drew
  have hbd:=hbX.drew
  clear x0 x1 lX
  have lX:q < X.drew.heap.size:=hrd.lt
  have lE:E < X.drew.heap.size:=hEd.lt
  have hS:=hd' (fun (Y:World) (v:Value) (h:zaa Y q (zg2 ⟨sp,sc,sm⟩ cl (.pointer (some ⟨q1',0,.none⟩)) v) 85) (h2:zaa Y E #[.bool bl,.int .i64 bp,.int .i64 bs,.int .i64 bk,.int .i64 bn] 101)=> (⟨h.cell 2,h.cell 3,h.cell 4,h.cell 5,h2.cell 0,h2.cell 1,h2.cell 2,h2.cell 3,h2.cell 4⟩:Y.cell? ⟨q,2,.none⟩=some (.int .i64 sp)/\Y.cell? ⟨q,3,.none⟩=some (.int .i64 sc)/\Y.cell? ⟨q,4,.none⟩=some (.int .i64 sm)/\Y.cell? ⟨q,5,.none⟩=some (.int .i64 cl)/\Y.cell? ⟨E,0,.none⟩=some (.bool bl)/\Y.cell? ⟨E,1,.none⟩=some (.int .i64 bp)/\Y.cell? ⟨E,2,.none⟩=some (.int .i64 bs)/\Y.cell? ⟨E,3,.none⟩=some (.int .i64 bk)/\Y.cell? ⟨E,4,.none⟩=some (.int .i64 bn)))
  go_region_held3 (fun Y=> Y.cell? ⟨q,2,.none⟩=some (.int .i64 sp)/\Y.cell? ⟨q,3,.none⟩=some (.int .i64 sc)/\Y.cell? ⟨q,4,.none⟩=some (.int .i64 sm)/\Y.cell? ⟨q,5,.none⟩=some (.int .i64 cl)/\Y.cell? ⟨E,0,.none⟩=some (.bool bl)/\Y.cell? ⟨E,1,.none⟩=some (.int .i64 bp)/\Y.cell? ⟨E,2,.none⟩=some (.int .i64 bs)/\Y.cell? ⟨E,3,.none⟩=some (.int .i64 bk)/\Y.cell? ⟨E,4,.none⟩=some (.int .i64 bn))
   (first | exact hS.out _ _ hrd hEd | exact hS.out _ _ hC hE6 | exact hS.out _ _ ((hC.set 1 _).cast rfl) (hE6.other (fun e=> hqE e.symm) _ _) | fail)
   (first
    | (go_at_call 68;(with_reducible refine (gn.out _).mono ?_);rintro r w6 ⟨q6,rfl,hq6,hrow6,hb6⟩;have hC:=hrd.below hb6;have hE6:=hEd.below hb6;have z1:=ce (.pointer none) (hC.cell 1);have zf:=zax hC)
    | fail)
  have h61:=hb6.size
  have hlw:w.heap.size<=X.drew.heap.size:=hbd.size
  have hq6q:q6≠q:=by omega
  have hq6p:q6≠p:=by omega
  have hq6b:q6≠b:=by omega
  have hw6:=(hwd.below hb6).other hqp hqb 1 (.pointer (some ⟨q6,0,.none⟩))
  have hr6:=(hC.set 1 (.pointer (some ⟨q6,0,.none⟩))).cast (cs':=zg2 ⟨sp,sc,sm⟩ cl (.pointer (some ⟨q1',0,.none⟩)) (.pointer (some ⟨q6,0,.none⟩))) rfl
  have hn6:=hrow6.other hq6q 1 (.pointer (some ⟨q6,0,.none⟩))
  have ho6:Only (fun k=> k=q) w (w6.setCell ⟨q,1,.none⟩ (.pointer (some ⟨q6,0,.none⟩))):=Only.setCell (F:=fun k=> k=q) (Only.of_below (zab hbd hb6)) (.inl rfl) _
  have hbz:Below w.heap.size w w6:=zab hbd hb6
  have hsz:w6.heap.size=(w6.setCell ⟨q,1,.none⟩ (.pointer (some ⟨q6,0,.none⟩))).heap.size:=(size_set _ _ _).symm
  clear hC hE6 z1 zf hrd hEd hwd hbd hrow6 hb6 hS hrX hwX hEX
  generalize w6.setCell ⟨q,1,.none⟩ (.pointer (some ⟨q6,0,.none⟩))=Z at *
  have y1:=ce (.pointer (some ⟨q6,0,.none⟩)) (hr6.cell 1)
  have lZ:q < Z.heap.size:=hr6.lt
  have hgo:=hd' (hcs.out Z q6 hn6 hw6 hq6p hq6b)
  clear hcs gn
  go_wp2_with (first
   | (go_at_call 115;(with_reducible refine hgo.out.mono ?_);rintro r w8 hSt;obtain rfl:=hSt.ret)
   | fail)
  go_returns
  have hs8:=hSt.only.size
  refine hfin.out w6 _ (.returned (.tuple #[])) q6 hbz (by omega) (hr6.only hSt.only ?_) (by omega) hSt.row hSt.wds ?_
  ·rintro (e | e | e)
   ·exact hq6q e.symm
   ·exact hqp e
   ·exact hqb e
  ·refine (ho6.weak (G:=fun k=> k=q\/k=p\/k=b) (fun k hk=> .inl hk)).trans hSt.only (fun k hk hh=> ?_)
   rcases hh with rfl | hh | hh
   ·omega
   ·exact .inr (.inl hh)
   ·exact .inr (.inr hh)
end

section

open Go.RowKit

def RdE (w:World) (v:Value) (es:List Ev):Prop:=RdS w 8 v es.length (es.flatMap fun e=> e.cells.toList)
theorem z0f (e:Ev):e.cells.toList.length=8:=rfl
theorem RdE.below {w w':World} {v:Value} {es:List Ev} (h:RdE w v es) (hb:Below w.heap.size w w'):RdE w' v es:=RdS.below h hb
theorem RdE.nth {w:World} {v:Value} {es:List Ev} (h:RdE w v es):∃ ao cap,v= .slice ao es.length cap/\es.length<=cap/\(cap:Int)<=9223372036854775807/\
  (es≠ []->∃ b off,ao=some ⟨b,off,.none⟩/\b < w.heap.size/\∀ i (hi:i < es.length) j,j < 8->w.cell? ⟨b,off + i * 8 + j,.none⟩=(es[i]).cells.toList[j]?):=by
 obtain ⟨ao,cap,e,h1,h2,h3,h4⟩:=h
 refine ⟨ao,cap,e,h1,h2,fun hn=> ?_⟩
 obtain ⟨b,off,e2,h5,h6⟩:=h4 (fun e=> hn (List.eq_nil_of_length_eq_zero e))
 refine ⟨b,off,e2,h5,fun i hi j hj=> ?_⟩
 rw [Nat.add_assoc,h6 _ (by omega)]
 exact zsm (fun e:Ev=> e.cells.toList) 8 z0f es i j hi hj
theorem RdE.take {w:World} {ao:Option Addr} {cap:Nat} {es:List Ev} (h:RdE w (.slice ao es.length cap) es) (n:Nat) (hn:n<=es.length):RdE w (cutV ao 0 n cap 8) (es.take n):=by
 have hc:=RdS.cut (l:=0) (h:=n) h (Nat.zero_le _) hn
 unfold RdE
 have hl:(es.take n).length=n:=by rw [List.length_take];omega
 rw [hl]
 have e:(es.take n).flatMap (fun e=> e.cells.toList)=((es.flatMap fun e=> e.cells.toList).drop (0 * 8)).take ((n - 0) * 8):=by
  rw [Nat.zero_mul,List.drop_zero,Nat.sub_zero]
  have h2:es.flatMap (fun e=> e.cells.toList)=(es.take n).flatMap (fun e=> e.cells.toList) ++ (es.drop n).flatMap (fun e=> e.cells.toList):=by
   rw [<- List.flatMap_append,List.take_append_drop]
  have h3:((es.take n).flatMap (fun e=> e.cells.toList)).length=n * 8:=by
   rw [zll _ 8 z0f,hl]
  rw [h2,<- h3,List.take_left]
 rw [e]
 simpa using hc
structure Fr where
 code:Int
 pc:Int
 regs:List Int
 deriving DecidableEq
def Fr.cells (f:Fr):List Value:= .int .i64 f.code:: .int .i64 f.pc::f.regs.map (.int .i64)
def flat (fs:List Fr):List Value:=fs.flatMap Fr.cells
def zj6 (fs:List Fr):Prop:=∀ f ∈ fs,f.regs.length=8
theorem znb {fs:List Fr} (h:zj6 fs):(flat fs).length=fs.length * 10:=by
 induction fs with
 | nil=> rfl
 | cons f fs ih=>
  have h1:=h f (by simp)
  have h2:=ih (fun g hg=> h g (by simp [hg]))
  simp only [flat,List.flatMap_cons,List.length_append] at h2 ⊢
  simp only [Fr.cells,List.length_cons,List.length_map,h1,h2]
  omega
theorem zja (fs:List Fr) (f:Fr):flat (fs ++ [f])=flat fs ++ f.cells:=by simp [flat]
theorem flat_get {fs:List Fr} (h:zj6 fs) (i j:Nat) (hi:i < fs.length) (hj:j < 10):(flat fs)[i * 10 + j]?=(fs[i].cells)[j]?:=by
 induction fs generalizing i with
 | nil=> simp at hi
 | cons f fs ih=>
  have h1:=h f (by simp)
  have hl:f.cells.length=10:=by simp [Fr.cells,h1]
  have h2:zj6 fs:=fun g hg=> h g (by simp [hg])
  show (f.cells ++ flat fs)[i * 10 + j]?=_
  cases i with
  | zero=> rw [List.getElem?_append_left (by omega)];simp
  | succ i=>
   rw [List.getElem?_append_right (by omega),hl,show (i + 1) * 10 + j - 10=i * 10 + j from by omega]
   simpa using ih h2 i (by simpa using hi)
structure Stk (T E:TypeId) (B:Nat) (w:World) (s:Nat) (sl:Value) (most:Int) (fs:List Fr):Prop where
 lies:B<=s
 head:w.heap[s]?=some (.cells #[sl,.int .i64 most] T (0,0))
 owns:w.ownsRow B E 10 sl fs.length (flat fs)
 apart:sl.ownBlock≠some s
 regs:zj6 fs
def zrq:Value:= .agg #[.int .i64 0,.int .i64 0,.int .i64 0,.int .i64 0,.int .i64 0,.int .i64 0,.int .i64 0,.int .i64 0,.int .i64 0,.int .i64 0]
def ydh:Fr:=⟨0,0, [0,0,0,0,0,0,0,0]⟩
def zn7 (fs:List Fr):Fr:=fs.getLast?.getD ydh
def Fr.put (f:Fr) (j:Nat) (x:Int):Fr:=if j=0 then { f with code:=x } else if j=1 then { f with pc:=x } else { f with regs:=f.regs.set (j - 2) x }
theorem Fr.z2m (f:Fr) (j:Nat) (x:Int):(f.put j x).cells=f.cells.set j (.int .i64 x):=by
 unfold Fr.put
 match j with
 | 0=> simp [Fr.cells]
 | 1=> simp [Fr.cells]
 | j + 2=> simp [Fr.cells,List.map_set]
theorem Fr.z5d (f:Fr) (j:Nat) (x:Int):(f.put j x).regs.length=f.regs.length:=by
 unfold Fr.put
 split
 ·rfl
 ·split <;> simp
def zhx (fs:List Fr) (j:Nat) (x:Int):List Fr:=fs.dropLast ++ [(zn7 fs).put j x]
theorem zod {fs:List Fr} (h:fs.length≠0) (j:Nat) (x:Int):(zhx fs j x).length=fs.length:=by simp [zhx];omega
theorem zx2 {fs:List Fr} (h:fs.length≠0):fs=fs.dropLast ++ [zn7 fs]:=by
 have h':fs≠ []:=fun e=> h (by simp [e])
 have:zn7 fs=fs.getLast h':=by simp [zn7,List.getLast?_eq_some_getLast h']
 rw [this];exact (List.dropLast_concat_getLast h').symm
section

variable {T E:TypeId} {B:Nat} {w w':World} {s:Nat} {sl:Value} {most:Int} {fs:List Fr}

theorem Stk.lt (h:Stk T E B w s sl most fs):s < w.heap.size:=(Array.getElem?_eq_some_iff.1 h.head).1
theorem Stk.zem (h:Stk T E B w s sl most fs):∀ k,sl.ownBlock=some k->B<=k/\k < w.heap.size:=h.owns.lt
theorem Stk.cell0 (h:Stk T E B w s sl most fs):w.cell? ⟨s,0,.none⟩=some sl:=by simpa using cell_of_row w s 0 _ T (0,0) h.head
theorem Stk.cell1 (h:Stk T E B w s sl most fs):w.cell? ⟨s,1,.none⟩=some (.int .i64 most):=by simpa using cell_of_row w s 1 _ T (0,0) h.head
theorem Stk.blocks (h:Stk T E B w s sl most fs) (hb:∀ k,foot s sl k->w'.heap[k]?=w.heap[k]?):Stk T E B w' s sl most fs:=
 ⟨h.lies,by rw [hb s (.inl rfl)];exact h.head,zas h.owns (fun k hk=> hb k (.inr hk)),h.apart,h.regs⟩
theorem Stk.below (h:Stk T E B w s sl most fs) (hb:Below w.heap.size w w'):Stk T E B w' s sl most fs:=
 h.blocks fun k hk=> hb.block k (by rcases hk with rfl | hk;exact h.lt;exact (h.zem k hk).2)
theorem Stk.form (h:Stk T E B w s sl most fs):(sl= .slice none 0 0/\fs= [])\/∃ g cap,sl= .slice (some ⟨g,0,.none⟩) fs.length cap/\fs.length<=cap/\g < w.heap.size/\g≠s/\B<=g/\(fs.length:Int)<=9223372036854775807/\
  ∀ i j,(hi:i < fs.length)->j < 10->w.cell? ⟨g,i * 10 + j,.none⟩=(fs[i].cells)[j]?:=by
 rcases h.owns.2 with ⟨h1,h2⟩ | ⟨g,cap,cur,rfl,h1,h2,h3,h4,h5,h6⟩
 ·exact .inl ⟨h1,List.eq_nil_of_length_eq_zero h2⟩
 ·refine .inr ⟨g,cap,rfl,h3,(Array.getElem?_eq_some_iff.1 h2).1,fun e=> h.apart (by rw [e];rfl),h1,by simp only [maxLen] at h4;omega,fun i j hi hj=> ?_⟩
  rw [cell_of_row w g _ cur E (0,0) h2,<- flat_get h.regs i j hi hj,<- h6,List.getElem?_take,if_pos (by omega)]
  simp
theorem Only.stk {F:Nat->Prop} (ho:Only F w w') (h:Stk T E B w s sl most fs) (hF:∀ k,foot s sl k->¬ F k):Stk T E B w' s sl most fs:=
 h.blocks fun k hk=> ho.block k (by rcases hk with rfl | hk;exact h.lt;exact (h.zem k hk).2) (hF k hk)
theorem zve {g cap j:Nat} {x:Int} (h:Stk T E B w s (.slice (some ⟨g,0,.none⟩) fs.length cap) most fs) (h0:fs.length≠0) (hj:j < 10):
  Stk T E B (w.setCell ⟨g,(fs.length - 1) * 10 + j,.none⟩ (.int .i64 x)) s (.slice (some ⟨g,0,.none⟩) fs.length cap) most (zhx fs j x):=by
 obtain ⟨h1,h2,h3,h4,h5⟩:=h
 have hgs:s≠g:=fun e=> h4 (by rw [e];rfl)
 have e:=zx2 h0
 have hreg:zj6 (zhx fs j x):=by
  intro f hf
  rcases List.mem_append.1 hf with hf | hf
  ·exact h5 f (List.dropLast_subset _ hf)
  ·rw [List.mem_singleton.1 hf,Fr.z5d]
   have hm:zn7 fs ∈ fs.dropLast ++ [zn7 fs]:=by simp
   rw [<- e] at hm
   exact h5 _ hm
 have hrd:zj6 fs.dropLast:=fun f hf=> h5 f (List.dropLast_subset _ hf)
 have hl:=znb hrd
 rw [List.length_dropLast] at hl
 have hflat:flat (zhx fs j x)=(flat fs).set ((fs.length - 1) * 10 + j) (.int .i64 x):=by
  have h7:flat fs=flat fs.dropLast ++ (zn7 fs).cells:=by rw [<- zja,<- e]
  rw [zhx,zja,Fr.z2m,h7,List.set_append_right _ _ (by omega),hl]
  congr 2
  omega
 refine ⟨h1,by rw [heap_setCell_other _ _ _ _ hgs];exact h2,⟨by rw [znb hreg],.inr ?_⟩,h4,hreg⟩
 rcases h3.2 with ⟨h,_⟩ | ⟨g',cap',cur,hv,k1,k2,k3,k4,k5,k6⟩
 ·cases h
 ·obtain ⟨rfl,rfl⟩:g=g'/\cap=cap':=by injection hv with a _ b;injection a with a;injection a with a;exact ⟨a,b⟩
  have hpl:=zod h0 j x
  refine ⟨g,cap,_,by rw [hpl],k1,heap_setCell_same w g _ cur E _ k2,by omega,k4,by simpa using k5,?_⟩
  rw [hpl,hflat,<- k6,Array.toList_setIfInBounds,List.take_set]
end

end

section

open Go.RowKit

abbrev SK:=Stk 74 45
theorem zxv (m:Int) (w:World):
  Calls Tryz.prog 16 #[.int .i64 m] w fun e w'=> e= .returned (.pointer (some ⟨w.heap.size,0,.none⟩))/\w'=w.alloc (.cells #[.slice none 0 0,.int .i64 (if m < 0\/16 < m then 0 else m)] 74):=by
 go_enter Tryz.func16,Tryz.ntmps16
 go_wp2
 all_goals go_ret
 all_goals exact ⟨rfl,rfl⟩
theorem zft {B:Nat} {w:World} {s:Nat} {sl:Value} {most:Int} {fs:List Fr} (h:SK B w s sl most fs):
  Calls Tryz.prog 33 #[.pointer (some ⟨s,0,.none⟩)] w fun e w'=> e= .returned (.int .i64 fs.length)/\w'=w:=by
 have c0:=h.cell0
 have hfm:=h.form
 rcases hfm with ⟨rfl,rfl⟩ | ⟨g,cap,rfl,hcap,hg,hgs,hB,hn,hc⟩
 ·clear h
  go_enter Tryz.func33,Tryz.ntmps33
  go_wp2
  all_goals go_ret
  all_goals exact ⟨rfl,rfl⟩
 ·clear h hc
  go_enter Tryz.func33,Tryz.ntmps33
  go_wp2
  all_goals go_ret
  all_goals exact ⟨rfl,rfl⟩
def znp (sl:Value) (n:Nat):Option Addr:=match sl with
 | .slice (some a) _ _=> if n=0 then none else some ⟨a.block,(n - 1) * 10,.none⟩
 | _=> none
theorem zx5 {B:Nat} {w:World} {s:Nat} {sl:Value} {most:Int} {fs:List Fr} (h:SK B w s sl most fs):
  Calls Tryz.prog 43 #[.pointer (some ⟨s,0,.none⟩)] w fun e w'=> e= .returned (.pointer (znp sl fs.length))/\∃ n,w'=w.drewN n:=by
 have c0:=h.cell0
 have hfm:=h.form
 rcases hfm with ⟨rfl,rfl⟩ | ⟨g,cap,rfl,hcap,hg,hgs,hB,hn,hc⟩
 ·go_enter Tryz.func43,Tryz.ntmps43
  go_wp2_with (go_at_call 33;refine (zft h).mono ?_;rintro e w1 ⟨rfl,rfl⟩)
  all_goals go_ret
  all_goals exact ⟨rfl,0,rfl⟩
 ·by_cases h0:fs.length=0
  ·have hl:((fs.length:Int)==0)=true:=by simp [h0]
   go_enter Tryz.func43,Tryz.ntmps43
   go_wp2_with (go_at_call 33;refine (zft h).mono ?_;rintro e w1 ⟨rfl,rfl⟩)
   all_goals go_ret
   all_goals exact ⟨by rw [znp,if_pos h0];rfl,0,rfl⟩
  ·have hl:((fs.length:Int)==0)=false:=by simpa using h0
   have hp:(1:Int)<=(fs.length:Int):=by omega
   go_enter Tryz.func43,Tryz.ntmps43
   go_wp2_with (go_at_call 33;refine (zft h).mono ?_;rintro e w1 ⟨rfl,rfl⟩)
   go_quiet (fail)
   go_wp2
   all_goals go_ret
   exact ⟨by rw [znp,if_neg h0];rfl,nq,rfl⟩
theorem zy6 {B:Nat} {w:World} {s:Nat} {sl:Value} {most:Int} {fs:List Fr} (h:SK B w s sl most fs) (h0:fs.length≠0):
  ∃ g cap code pc r0 r1 r2 r3 r4 r5 r6 r7,sl= .slice (some ⟨g,0,.none⟩) fs.length cap/\znp sl fs.length=some ⟨g,(fs.length - 1) * 10,.none⟩/\g < w.heap.size/\g≠s/\B<=g/\zn7 fs=⟨code,pc, [r0,r1,r2,r3,r4,r5,r6,r7]⟩/\
   w.cell? ⟨g,(fs.length - 1) * 10,.none⟩=some (.int .i64 code)/\w.cell? ⟨g,(fs.length - 1) * 10 + 1,.none⟩=some (.int .i64 pc)/\
   w.cell? ⟨g,(fs.length - 1) * 10 + 2,.none⟩=some (.int .i64 r0)/\w.cell? ⟨g,(fs.length - 1) * 10 + 3,.none⟩=some (.int .i64 r1)/\
   w.cell? ⟨g,(fs.length - 1) * 10 + 4,.none⟩=some (.int .i64 r2)/\w.cell? ⟨g,(fs.length - 1) * 10 + 5,.none⟩=some (.int .i64 r3)/\
   w.cell? ⟨g,(fs.length - 1) * 10 + 6,.none⟩=some (.int .i64 r4)/\w.cell? ⟨g,(fs.length - 1) * 10 + 7,.none⟩=some (.int .i64 r5)/\
   w.cell? ⟨g,(fs.length - 1) * 10 + 8,.none⟩=some (.int .i64 r6)/\w.cell? ⟨g,(fs.length - 1) * 10 + 9,.none⟩=some (.int .i64 r7)/\fs.length<=cap/\(fs.length:Int)<=9223372036854775807:=by
 rcases h.form with ⟨rfl,rfl⟩ | ⟨g,cap,rfl,hcap,hg,hgs,hB,hn,hc⟩
 ·simp at h0
 ·have hl:fs.length - 1 < fs.length:=by omega
  have hr:=h.regs _ (List.getElem_mem hl)
  have ht:zn7 fs=fs[fs.length - 1]:=by simp [zn7,List.getLast?_eq_getElem?,hl]
  rw [ht]
  generalize hf:fs[fs.length - 1]=f at hr
  have hc':=fun j=> hc (fs.length - 1) j hl
  rw [hf] at hc'
  obtain ⟨code,pc,regs⟩:=f
  match regs,hr with
  | [r0,r1,r2,r3,r4,r5,r6,r7],_=>
   exact ⟨g,cap,code,pc,r0,r1,r2,r3,r4,r5,r6,r7,rfl,by rw [znp,if_neg h0],hg,hgs,hB,rfl,hc' 0 (by omega),hc' 1 (by omega),hc' 2 (by omega),hc' 3 (by omega),hc' 4 (by omega),hc' 5 (by omega),hc' 6 (by omega),hc' 7 (by omega),hc' 8 (by omega),hc' 9 (by omega),hcap,hn⟩
theorem zhj {w:World} {b:Nat} {cs:Array Value} {t:TypeId} (h:w.heap[b]?=some (.cells cs t (0,0))) (i:Nat):w.frozen? ⟨b,i,.none⟩=false:=by
 simp [World.frozen?,h]
theorem zqq {B:Nat} {w:World} {s:Nat} {g cap n:Nat} {most:Int} {fs:List Fr} (h:SK B w s (.slice (some ⟨g,0,.none⟩) n cap) most fs) (_h0:fs.length≠0) (i:Nat):w.frozen? ⟨g,i,.none⟩=false:=by
 rcases h.owns.2 with ⟨h1,_⟩ | ⟨g',cap',cur,hv,k1,k2,_⟩
 ·cases h1
 ·obtain rfl:g=g':=by injection hv with a _ b;injection a with a;injection a with a
  exact zhj k2 i
theorem zz4 {B:Nat} {w:World} {s:Nat} {sl:Value} {most pc':Int} {fs:List Fr} (h:SK B w s sl most fs) (h0:fs.length≠0):
  Calls Tryz.prog 24 #[.pointer (some ⟨s,0,.none⟩),.int .i64 pc'] w fun e w'=> e= .returned (.bool true)/\Only (foot s sl) w w'/\SK B w' s sl most (zhx fs 1 pc'):=by
 obtain ⟨g,cap,code,pc,r0,r1,r2,r3,r4,r5,r6,r7,rfl,ha,hg,hgs,hB,ht,_,c1,_,_,_,_,_,_,_,_,hcap,hn⟩:=zy6 h h0
 have htop:=zx5 h
 rw [ha] at htop
 have fz:=zqq h h0
 clear ha
 go_enter Tryz.func24,Tryz.ntmps24
 go_wp2_with (go_at_call 43;refine htop.mono ?_;rintro e w1 ⟨rfl,nq,rfl⟩)
 go_ret
 exact ⟨rfl,Only.setCell (Only.drewN (Only.refl _ _) nq) (.inl (.inr rfl)) _,(zve h h0 (by decide)).blocks fun k _=> rfl⟩
theorem zq6 {B:Nat} {w:World} {s:Nat} {sl:Value} {most:Int} {fs:List Fr} (h:SK B w s sl most fs):
  Calls Tryz.prog 37 #[.pointer (some ⟨s,0,.none⟩)] w fun e w'=> e= .returned (.tuple #[])/\Only (foot s sl) w w'/\SK B w' s (.slice none 0 0) most []:=by
 have d0:=h.cell0
 have fz:=zhj h.head
 go_enter Tryz.func37,Tryz.ntmps37
 go_wp2
 go_end0
 refine ⟨rfl,Only.setCell (Only.refl _ _) (.inl (.inl rfl)) _,h.lies,?_,World.ownsRow_nil _ _ _ _,by simp [Value.ownBlock],fun f hf=> by cases hf⟩
 rw [heap_setCell_same w s 0 _ _ _ h.head];rfl
end

end Go.Proofs.YthgekdlegbmehaaGreat
