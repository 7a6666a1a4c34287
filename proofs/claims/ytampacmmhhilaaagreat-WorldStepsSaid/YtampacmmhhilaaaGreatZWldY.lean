/- A world in memory: one access of a client. -/
import Derived.Test.YtampacmmhhilaaaGreatZWldX

set_option linter.all false
namespace Go.Proofs.YtampacmmhhilaaaGreat

open Go.RowKit

attribute [local go_sem ↓] Go.wp_at_zero Go.wp_at_succ

theorem infoAc:(Tryz.prog.info? 59).map (fun i=> (i.zero,i.size,i.bytes))=some (some (.agg #[.int .i64 0, .int .i64 0, .int .i64 0, .int .u64 0, .int .u64 0, .bool false]),6,48):=by kernel_rfl
theorem own_thru {w w':World} {B:Nat} {E:TypeId} {size:Nat} {v:Value} {n:Nat} {xs:List Value} (h:w.ownsRow B E size v n xs) (hb:Below w.heap.size w w'):w'.ownsRow B E size v n xs:=
 ownsRow_of_blocks h fun k hk=> hb.block k (h.lt k hk).2
/-- The row of accesses has grown. -/
def Wx.logd (x:Wx) (sv:Value) (N:Nat):Wx:= { x with sv:=sv,ow:=fun i=> if N≤i then 5 else x.ow i }
theorem WdP.logged {B:Nat} {F:Nat→Prop} {W W' W2:World} {g:Nat} {s:Sh} {d:Wd} {x:Wx} {v':Value} {es:List Acc} (h:WdP B F W g s d x) (hB:B≤W.heap.size) (hg:W.grownBy W' x.sv.ownBlock)
  (ho:W'.ownsRow B 59 6 v' (d.lg.length + es.length) ((d.lg.flatMap fun e=> e.cells.toList) ++ es.flatMap fun e=> e.cells.toList))
  (hv:v'.ownBlock=x.sv.ownBlock∨v'.ownBlock=some W.heap.size) (h2:W2=W'.setCell ⟨g,6, .none⟩ v'):
  WdP B (grow F W W2) W2 g s { d with lg:=d.lg ++ es } (x.logd v' W.heap.size)∧Only (fun i=> (x.ow i=5∧F i)∨i=g) W W2:=by
 have hsz:W2.heap.size=W'.heap.size:=by rw [h2];simp [World.setCell]
 have hsv:∀ i,x.sv.ownBlock=some i→F i:=fun i hi=> (h.fs i hi).1
 have ho1:Only (fun i=> x.ow i=5∧F i) W W':=(Only.refl _ W).grown hg fun k hk=> .inl ⟨(h.fs k hk).2,(h.fs k hk).1⟩
 have ho2:Only (fun i=> (x.ow i=5∧F i)∨i=g) W W2:=by
  rw [h2]
  exact Only.setCell (Only.weak ho1 fun k hk=> .inl hk) (p:=⟨g,6, .none⟩) (.inl (.inr rfl)) v'
 have hlow:∀ i,F i→¬ W.heap.size≤i:=fun i hi=> by have:=(h.lt i hi).2;omega
 have how:∀ i,F i→(x.logd v' W.heap.size).ow i=x.ow i:=fun i hi=> if_neg (hlow i hi)
 have hno:∀ i,x.ow i≠5→i≠g→¬ ((x.ow i=5∧F i)∨i=g):=fun i h1 h2 e=> e.elim (fun e=> h1 e.1) h2
 have hgg:∀ i,x.ow i≠0→i≠g:=fun i hi e=> hi (e ▸ h.fg.2)
 have own:∀ i m,x.ow i=m→m≠5→m≠0→¬ ((x.ow i=5∧F i)∨i=g):=fun i m hm h4 h0=> hno i (by omega) (hgg i (by omega))
 refine ⟨⟨?_,h.wds.only ho2 (own _ 1 h.fp.2 (by decide) (by decide)) (own _ 2 h.fb.2 (by decide) (by decide)),h.lst.only ho2 (own _ 3 h.fl.2 (by decide) (by decide)),h.pl,h.pe,fun c k hk=> (h.cl c k hk).only ho2 (fun i hi=> own i (c + 6) (h.fc c i hi).2 (by omega) (by omega)),
  ownsRow_of_blocks h.tr fun i hi=> ho2.block i (h.tr.lt i hi).2 (own i 4 (h.ft i hi).2 (by decide) (by decide)),?_,fun i hi=> ?_,⟨.inl h.fg.1,(how _ h.fg.1).trans h.fg.2⟩,⟨.inl h.fp.1,(how _ h.fp.1).trans h.fp.2⟩,⟨.inl h.fb.1,(how _ h.fb.1).trans h.fb.2⟩,⟨.inl h.fl.1,(how _ h.fl.1).trans h.fl.2⟩,fun i hi=> ⟨.inl (h.ft i hi).1,(how _ (h.ft i hi).1).trans (h.ft i hi).2⟩,
  fun i hi=> ?_,fun c i hi=> ⟨.inl (h.fc c i hi).1,(how _ (h.fc c i hi).1).trans (h.fc c i hi).2⟩⟩,ho2⟩
 ·have ht:RowAt W' g (wdCells s x.p x.lb d.l.length x.tv x.sv) 122:=h.top.only ho1 (fun e=> by have:=h.fg.2;omega)
  rw [h2]
  exact ht.set 6 v'
 ·rw [h2]
  refine ownsRow_of_blocks (w:=W') ?_ fun i hi=> Below.heap_setCell _ ⟨g,6, .none⟩ _ i ?_
  ·simpa [Wx.logd] using ho
  ·rcases hv with hv | hv
   ·rw [show (x.logd v' W.heap.size).sv=v' from rfl,hv] at hi
    have:=(h.fs i hi).2
    exact hgg i (by omega)
   ·rw [show (x.logd v' W.heap.size).sv=v' from rfl,hv] at hi
    injection hi with hi
    have:=(h.lt _ h.fg.1).2
    show i≠g
    omega
 ·rcases hi with hi | hi
  ·exact ⟨(h.lt i hi).1,by have:=(h.lt i hi).2;have:=ho2.size;omega⟩
  ·exact ⟨by omega,hi.2⟩
 ·rw [show (x.logd v' W.heap.size).sv=v' from rfl] at hi
  rcases hv with hv | hv
  ·rw [hv] at hi
   exact ⟨.inl (h.fs i hi).1,(how _ (h.fs i hi).1).trans (h.fs i hi).2⟩
  ·have hlt:=ho.lt i hi
   rw [hv] at hi
   injection hi with hi
   subst hi
   exact ⟨.inr ⟨Nat.le_refl _,by rw [hsz];exact hlt.2⟩,if_pos (Nat.le_refl _)⟩
section

variable {B:Nat} {F:Nat→Prop} {W:World} {g:Nat} {s:Sh} {d:Wd} {x:Wx} {n:Nat}

set_option maxRecDepth 100000 in
set_option maxHeartbeats 4000000 in
theorem wstep_any (h:WdP B F W g s d x) (hB:B≤W.heap.size) (ho:wdOk s d n) (hn:n≤10000000) (c:Int) (k:Kl) (hk:d.kl c=some k):
  Calls Tryz.prog 69 #[.pointer (some ⟨g,0, .none⟩), .pointer (some ⟨x.qs c.toNat,0, .none⟩)] W fun e w'=> e= .returned (.int .i64 (d.step s c k).2)∧WdTo B F W w' g s (d.step s c k).1:=by
 obtain ⟨hok,hcc,hcr⟩:=ho.kl c k hk
 have hcl:=(Wd.kl_lt hk).2
 have hkD:d.l.getD c.toNat none=some k:=by
  have h1:=hk
  unfold Wd.kl at h1
  rw [if_pos hcr.1] at h1;exact h1
 have hst:=ho.st
 have hcw:=h.cw (n:=0) hkD hok ho.fi
 have hel:=Kl.step_len s k d.m
 have hlg:=ho.lg
 have htr:=ho.tr
 have hstp:=cw_step hcw hB (by omega)
 have hs1:=wsteps_any x.p x.b d.m W h.wds
 have hR:d.step s c k=(⟨(k.step s d.m).2.1,d.l.set c.toNat (some (k.step s d.m).1),d.tr ++ (k.step s d.m).2.2.1,if d.m.st < (k.step s d.m).2.1.st then d.lg ++ [(k.step s d.m).2.1.la] else d.lg⟩,(k.step s d.m).2.2.2):=rfl
 have hS':∀ r w',CwStep B (x.Fc c.toNat) W w' (x.qs c.toNat) x.p x.b s k d.m r→∃ v,r= .returned (.tuple #[v, .int .i64 (k.step s d.m).2.2.2])∧w'.ownsRow W.heap.size 50 8 v (k.step s d.m).2.2.1.length ((k.step s d.m).2.2.1.flatMap fun e=> e.cells.toList)∧
   WdP B (grow F W w') w' g s { d with m:=(k.step s d.m).2.1,l:=d.l.set c.toNat (some (k.step s d.m).1) } (x.mine c.toNat W.heap.size w'.heap.size)∧Only F W w':=fun r w' hS=> by
  obtain ⟨v,h1,h2⟩:=hS.ret
  have h3:=h.stepped hB hkD hcl hS.cw.kl hS.cw.wd hS.only
  exact ⟨v,h1,h2,h3.1,h3.2⟩
 have hgW:=(h.lt _ h.fg.1).2
 have c3:W.cell? ⟨g,3, .none⟩=some (.pointer (some ⟨x.p,0, .none⟩)):=h.top.cell 3
 have lg:=h.top.lt
 have hm9:∀ w',grow F W w' g:=fun w'=> .inl h.fg.1
 clear hcw h
 generalize (k.step s d.m).1=k' at *
 generalize (k.step s d.m).2.2.2=er at *
 generalize (k.step s d.m).2.2.1=es at *
 generalize (k.step s d.m).2.1=m' at *
 obtain ⟨R,hRe,hRe'⟩:∃ R:Wd × Int,Hid (R=d.step s c k)∧R=d.step s c k:=⟨_,Lib.hid rfl,rfl⟩
 rw [← hRe'] at hR ⊢
 clear hRe'
 replace hR:=Lib.hid hR
 replace hs1:=Lib.hid hs1
 replace hstp:=Lib.hid hstp
 replace hS':=Lib.hid hS'
 replace hlg:=Lib.hid hlg
 go_enter Tryz.func69,Tryz.ntmps69
 go_upto_region 3 with (first
  | (go_at_call 111;(with_reducible refine hs1.out.mono ?_);rintro r w1 ⟨rfl,hw1⟩;obtain rfl:=hw1.symm)
  | (go_at_call 112;(with_reducible refine hstp.out.mono ?_);rintro r w3 hS;obtain ⟨v,rfl,hown,hx3,ho3⟩:=hS'.out _ _ hS;clear hS;have f3:w3.cell? ⟨g,3, .none⟩=some (.pointer (some ⟨x.p,0, .none⟩)):=hx3.top.cell 3;have l3:=hx3.top.lt)
  | fail)
 have hB3:B≤w3.heap.size:=by have:=ho3.size;omega
 have hT3:WdTo B F W w3 g s { d with m:=m',l:=d.l.set c.toNat (some k') }:=⟨⟨_,hx3⟩,ho3,hB3⟩
 have hw3:WdsAt w3 x.p x.b m':=hx3.wds
 have hs3:=Lib.hid (wsteps_any x.p x.b m' w3 hw3)
 by_cases hlt:d.m.st < m'.st
 ·replace hR:=Lib.hid (hR.out.trans (by rw [if_pos hlt]:_=((⟨m',d.l.set c.toNat (some k'),d.tr ++ es,d.lg ++ [m'.la]⟩:Wd),er)))
  have hlast:=fun Y (hY:WdsAt Y x.p x.b m')=> wlast_any x.p x.b m' Y hY
  unfold accV at hlast
  have hwb:=fun Y (hb:Below w3.heap.size w3 Y)=> hw3.below hb
  have hlgo:w3.ownsRow B 59 6 x.sv d.lg.length (d.lg.flatMap fun e=> e.cells.toList):=hx3.lg
  have c6:w3.cell? ⟨g,6, .none⟩=some x.sv:=hx3.top.cell 6
  obtain ⟨i0,hi0,hz0,hz1,hz2⟩:=info_parts infoAc
  obtain ⟨at0,ct0,e0,h0⟩:=RdS.of_own hlgo
  clear h0
  have hlog:=fun Y W' v' W2 (hb:Below w3.heap.size w3 Y)=> WdP.logged (W:=Y) (W':=W') (W2:=W2) (v':=v') (es:= [m'.la]) (hx3.below hb) (by have:=hb.size;omega)
  have hgb:=hx3.fg.2
  rw [e0] at c6
  have hKw:∀ Y:World,Below w3.heap.size w3 Y→Y.ownsRow B 59 6 (.slice at0 d.lg.length ct0) d.lg.length (d.lg.flatMap fun e=> e.cells.toList)∧RowAt Y g (wdCells s x.p x.lb (d.l.set c.toNat (some k')).length x.tv x.sv) 122∧Y.cell? ⟨g,3, .none⟩=some (.pointer (some ⟨x.p,0, .none⟩))∧Y.cell? ⟨g,6, .none⟩=some (.slice at0 d.lg.length ct0):=fun Y hb=> ⟨e0 ▸ own_thru hlgo hb,hx3.top.below hb,(hx3.below hb).top.cell 3,e0 ▸ (hx3.below hb).top.cell 6⟩
  have hgs:∀ i,x.sv.ownBlock=some i→i≠g:=fun i hi e=> by have:=(hx3.fs i hi).2;rw [e,hgb] at this;cases this
  have hln:d.lg.length≤10000000:=by have:=hlg.out;omega
  replace hlast:=Lib.hid hlast
  replace hwb:=Lib.hid hwb
  replace hKw:=Lib.hid hKw
  replace hlog:=Lib.hid hlog
  replace hgs:=Lib.hid hgs
  replace e0:=Lib.hid e0
  replace hlgo:=Lib.hid hlgo
  have hno:(Value.slice at0 d.lg.length ct0).ownBlock≠some g:=fun e=> hgs.out g (by rw [e0.out];exact e) rfl
  have ht5:∀ Y w5:World,RowAt Y g (wdCells s x.p x.lb (d.l.set c.toNat (some k')).length x.tv x.sv) 122→∀ o,(Y.alloc o).grownBy w5 (Value.slice at0 d.lg.length ct0).ownBlock→RowAt w5 g (wdCells s x.p x.lb (d.l.set c.toNat (some k')).length x.tv x.sv) 122:=fun Y w5 h1 o h2=> (h2.block g (h1.alloc o).lt (fun e=> hno e.symm)).trans (h1.alloc o)
  replace ht5:=Lib.hid (fun Y w5 h1 {o} h2=> ht5 Y w5 h1 o h2)
  generalize hla:m'.la=la at *
  obtain ⟨ac,ak,aa,aw,ap,ao⟩:=la
  dsimp only at hlast
  have hon:∀ u ∈ ([.int .i64 ac, .int .i64 ak, .int .i64 aa, .int .u64 aw, .int .u64 ap, .bool ao]:List Value),u.oneCell'=true:=fun u hu=> by
   simp only [List.mem_cons,List.not_mem_nil,or_false] at hu
   rcases hu with rfl | rfl | rfl | rfl | rfl | rfl <;> rfl
  replace hon:=Lib.hid hon
  go_upto_region 4 with (first
   | (go_at_call 111;(with_reducible refine hs3.out.mono ?_);rintro r w4 ⟨rfl,hw4⟩;obtain rfl:=hw4.symm)
   | fail)
  have dd:=(Below.refl w3.heap.size w3).drew
  have d6:=(hKw.out _ dd).2.2.2
  have dd2:=Lib.hid dd
  clear dd
  go_region_law
   (first
    | (refine step_append_rd (by rfl) (.tmp 33) (.tmp 39) 55 (by rfl) B 59 i0 _ 6 48 Tryz.underlying55 hi0 hz0 hz1 hz2 rfl (by omega) _ d.lg.length _ (by rfl) (k4.1.alloc _) _ 1 [.int .i64 ac, .int .i64 ak, .int .i64 aa, .int .u64 aw, .int .u64 ap, .bool ao] (by rfl) (RdS.new (cs:= #[.int .i64 ac, .int .i64 ak, .int .i64 aa, .int .u64 aw, .int .u64 ap, .bool ao]) (t:=59) (sz:=6) (n:=1) (heap_alloc_new w4 _) rfl (by omega)) hon.out (by simp only [maxLen];omega) (by omega) (by simp;omega) ?_;intro v1 w5 hown5 hgrow5 hat5;obtain ⟨a5,c5,e5,_⟩:=RdS.of_own hown5;subst e5;have t5:=ht5.out _ _ k4.2.1 hgrow5;have l5:=t5.lt;have q5:w5.cell? ⟨g,6, .none⟩=some x.sv:=t5.cell 6;have z5:=rowFree t5)
    | (go_simp;go_at_call 113;(with_reducible refine (hlast.out _ (hwb.out _ dd2.out)).mono ?_);rintro r w4 ⟨rfl,hb4⟩;have hb34:=dd2.out.trans hb4;have k4:=hKw.out _ hb34;have y6:=k4.2.2.2;have l4:=k4.2.1.lt;have hs4:=hb34.size))
  all_goals
   have hbY:Below w3.heap.size w3 (w4.alloc (.cells #[.int .i64 ac, .int .i64 ak, .int .i64 aa, .int .u64 aw, .int .u64 ap, .bool ao] 59)):=belowTrans hb34 ((Below.refl w4.heap.size w4).alloc (Nat.le_refl _) _)
   have hx6:=hlog.out _ _ _ _ hbY (show World.grownBy _ _ x.sv.ownBlock from (by rw [e0.out];exact hgrow5)) hown5 (show Value.ownBlock _=x.sv.ownBlock∨_ from (by rw [e0.out];exact hat5)) rfl
   generalize World.setCell w5 ⟨g,6, .none⟩ _=w6 at *
   have hsY:=hbY.size
   have hs6:=hx6.2.size
   have hT36:WdTo B (grow F W w3) w3 w6 g s ⟨m',d.l.set c.toNat (some k'),d.tr,d.lg ++ [⟨ac,ak,aa,aw,ap,ao⟩]⟩:=WdTo.from hx3 hB3 hbY ⟨⟨_,hx6.1⟩,Only.weak hx6.2 (fun i hi=> hi.elim (fun e=> e.2) (fun e=> e ▸ hx3.fg.1)),by omega⟩
   have hv6:w6.ownsRow W.heap.size 50 8 v es.length (es.flatMap fun e=> e.cells.toList):=ownsRow_of_blocks (own_thru hown hbY) fun i hi=> hx6.2.block i (by have:=(hown.lt i hi).2;omega) (fun e=> by
    have h8:=(hown.lt i hi).1
    rcases e with e | e
    ·have h9:(x.mine c.toNat W.heap.size w3.heap.size).ow i=c.toNat + 6:=if_pos h8
     omega
    ·omega)
   have hT6:=WdTo.trans hT3 hT36
   obtain ⟨⟨x6,hx7⟩,_,hB6⟩:=id hT6
   have htl:=Lib.hid (wtell_to hx7 hB6 es v (rdE_own hv6) (by show d.tr.length + es.length≤_;omega))
   clear hx6 hT36 hv6 hown5 hgrow5 hat5 t5 q5 z5 l5 hlog
   go_wp2_with (first
    | (go_at_call 71;(with_reducible refine htl.out.mono ?_);rintro r w7 ⟨rfl,hT7⟩)
    | fail)
   go_returns
   rw [hR.out]
   exact ⟨rfl,WdTo.trans hT6 hT7⟩
 ·replace hR:=Lib.hid (hR.out.trans (by rw [if_neg hlt]:_=((⟨m',d.l.set c.toNat (some k'),d.tr ++ es,d.lg⟩:Wd),er)))
  have htl:=Lib.hid (wtell_to hx3 hB3 es v (rdE_own hown) (by show d.tr.length + es.length≤_;omega))
  go_wp2_with (first
   | (go_at_call 111;(with_reducible refine hs3.out.mono ?_);rintro r w4 ⟨rfl,hw4⟩;obtain rfl:=hw4.symm)
   | (go_at_call 71;(with_reducible refine htl.out.mono ?_);rintro r w5 ⟨rfl,hT5⟩)
   | fail)
  go_returns
  rw [hR.out]
  exact ⟨rfl,hT3.trans hT5⟩
end

end Go.Proofs.YtampacmmhhilaaaGreat
