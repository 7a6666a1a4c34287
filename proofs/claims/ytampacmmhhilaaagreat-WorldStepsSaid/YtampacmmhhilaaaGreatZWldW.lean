/- A world in memory: its statuses are read and set. -/
import Derived.Test.YtampacmmhhilaaaGreatZWldN

import Derived.Test.YtampacmmhhilaaaGreatBm22

import Derived.Test.YtampacmmhhilaaaGreatBm6

set_option linter.all false
namespace Go.Proofs.YtampacmmhhilaaaGreat

open Go.RowKit

attribute [local go_sem ↓] Go.wp_at_zero Go.wp_at_succ

set_option maxHeartbeats 1000000 in
theorem wlook_any (p b:Nat) (m:Mem) (a:Int) (w:World) (h:WdsAt w p b m) (ha:m.has a):
  Calls Tryz.prog 76 #[.pointer (some ⟨p,0, .none⟩), .int .i64 a] w fun e w'=> e= .returned (.int .u64 (m.get a))∧w'=w:=by
 have h1:=Lib.hid (win_any p b m a w h ha)
 obtain ⟨n,hn,hn'⟩:∃ n,Hid (n=m.ws.length)∧n=m.ws.length:=⟨_,Lib.hid rfl,rfl⟩
 have x0:w.cell? ⟨p,0, .none⟩=some (.slice (some ⟨b,0, .none⟩) n n):=by rw [hn'];exact rowCells h.blk 0
 have y0:=h.cell ha
 have a0:(0:Int)≤a:=ha.1
 have a1:a < (n:Int):=by rw [hn'];exact ha.2
 clear hn' h ha
 generalize m.get a=v at *
 go_enter Tryz.func76,Tryz.ntmps76
 go_wp2_with (first | (go_at_call 122;refine h1.out.mono ?_;rintro r w1 ⟨rfl,hw⟩;obtain rfl:=hw.symm) | fail)
 go_returns
 exact ⟨rfl,rfl⟩
section

variable {B:Nat} {F:Nat→Prop} {W:World} {g:Nat} {s:Sh} {d:Wd} {x:Wx}

set_option maxHeartbeats 2000000 in
theorem wsetstat_any (h:WdP B F W g s d x) (hf:Fits s d.m) (c kind:Int) (hc:0≤c∧c < s.c):
  Calls Tryz.prog 72 #[.pointer (some ⟨g,0, .none⟩), .int .i64 c, .int .i64 kind] W fun e w'=> e= .returned (.tuple #[])∧WdP B F w' g s { d with m:=d.m.put c (statusV kind 0) } x∧Only F W w':=by
 have hst:=(hf.status hc)
 have hcp:=fun Y=> planStatus_any s.p s.c s.m c Y
 rw [hst.1] at hcp
 have hps:=fun Y=> status_any kind 0 Y
 have hpt:=fun Y (hY:WdsAt Y x.p x.b d.m)=> wput_any x.p x.b d.m c (statusV kind 0) Y hY hst.2 (statusV_u64 _ _)
 have hfin:=fun Y w' (hb:Below W.heap.size W Y) (hw:WdsAt w' x.p x.b (d.m.put c (statusV kind 0))) (ho:Only (fun k=> k=x.b) Y w')=> (⟨WdP.put (h.below hb) (Only.weak ho fun i hi=> .inr hi) hw,Only.trans (F:=F) (Only.of_below hb) ho (fun i _ hi=> by subst hi;exact h.fb.1)⟩:WdP B F w' g s { d with m:=d.m.put c (statusV kind 0) } x∧Only F W w')
 have c0:W.cell? ⟨g,0, .none⟩=some (.int .i64 s.p):=h.top.cell 0
 have c1:W.cell? ⟨g,1, .none⟩=some (.int .i64 s.c):=h.top.cell 1
 have c2:W.cell? ⟨g,2, .none⟩=some (.int .i64 s.m):=h.top.cell 2
 have c3:W.cell? ⟨g,3, .none⟩=some (.pointer (some ⟨x.p,0, .none⟩)):=h.top.cell 3
 have lg:g < W.heap.size:=h.top.lt
 have hw:=Lib.hid h.wds
 replace hcp:=Lib.hid hcp
 replace hps:=Lib.hid hps
 replace hpt:=Lib.hid hpt
 replace hfin:=Lib.hid hfin
 clear h hf hst
 go_enter Tryz.func72,Tryz.ntmps72
 go_upto_region 0 with fail
 refine wp_region_ext_tail 12 (by kernel_rfl) (by kernel_rfl) ?_
 dsimp only [List.take,List.drop]
 repeat (go_big_quiet_step ((first | (go_at_call 67;exact ext_of (hcp.out _)) | (go_at_call 119;exact ext_of (hps.out _)) | fail)))
 refine wpQuiet_nil ?_
 rintro _ ⟨e',rfl⟩
 have hX:=e'.below
 generalize e'.w=X at *
 change wpList _ _ _ _ _ X
 have hwX:=hw.out.below hX
 clear c0 c1 c2 c3
 go_wp2_with (first | (go_at_call 118;(with_reducible refine (hpt.out _ hwX).mono ?_);rintro r w2 ⟨rfl,hw2,ho2⟩) | fail)
 refine bodyPost_end (results_none rfl _ _ _) rfl ⟨rfl,hfin.out _ _ hX hw2 ho2⟩
/-- A client's status, as a number. -/
def wstatV (s:Sh) (d:Wd) (c:Int):Int:=if 0≤statusIx s.p s.c s.m c then d.stat c else 0
set_option maxHeartbeats 2000000 in
theorem wstat_any (h:WdP B F W g s d x) (hf:Fits s d.m) (hfit:d.m.fit) (c:Int):
  Calls Tryz.prog 31 #[.pointer (some ⟨g,0, .none⟩), .int .i64 c] W fun e w'=> e= .returned (.int .i64 (wstatV s d c))∧Below W.heap.size W w':=by
 have hcp:=fun Y=> planStatus_any s.p s.c s.m c Y
 have c0:W.cell? ⟨g,0, .none⟩=some (.int .i64 s.p):=h.top.cell 0
 have c1:W.cell? ⟨g,1, .none⟩=some (.int .i64 s.c):=h.top.cell 1
 have c2:W.cell? ⟨g,2, .none⟩=some (.int .i64 s.m):=h.top.cell 2
 have c3:W.cell? ⟨g,3, .none⟩=some (.pointer (some ⟨x.p,0, .none⟩)):=h.top.cell 3
 have lg:g < W.heap.size:=h.top.lt
 have hnil:∀ (p:Nat) (W:World),(binOp .eql 27 (.pointer (some ⟨p,0, .none⟩)) (.pointer none)).run Tryz.prog W= .ok (.bool false) W:=fun p W=> by kernel_rfl
 unfold wstatV
 by_cases hc:0≤statusIx s.p s.c s.m c
 ·rw [if_pos hc]
  have hst:=statusIx_ok hc
  have hcr:0≤c∧c < s.c:=by omega
  have hix:=hf.status hcr
  rw [hix.1] at hcp hc
  have hlk:=fun Y (hY:WdsAt Y x.p x.b d.m)=> wlook_any x.p x.b d.m c Y hY hix.2
  have hrd:=fun Y=> readStatus_any (d.m.get c) Y (Mem.get_fit hfit c).1 (Mem.get_fit hfit c).2
  have hk:d.stat c=if (statusV (kindV (d.m.get c)) (partV (d.m.get c) 0)==d.m.get c)=true then kindV (d.m.get c) else 0:=rfl
  rw [hk]
  have hw:=Lib.hid h.wds
  have hnl:¬ c < 0:=by omega
  generalize d.m.get c=v at *
  generalize kindV v=kv at *
  generalize partV v 0=pv at *
  generalize (statusV kv pv==v)=bb at *
  have hhX:∀ Y,Below W.heap.size W Y→WdsAt Y x.p x.b d.m:=fun Y hY=> hw.out.below hY
  have hrd2:∀ Y,Calls Tryz.prog 75 #[.int .u64 v] Y fun e w'=> e= .returned (.tuple #[.int .i64 (if bb=true then kv else 0), .int .i64 (if bb=true then pv else 0)])∧Below Y.heap.size Y w':=fun Y=> (hrd Y).mono fun e w' ⟨a,b⟩=> ⟨by rw [b];cases bb <;> rfl,a⟩
  generalize (if bb=true then kv else 0)=k1 at *
  generalize (if bb=true then pv else 0)=k2 at *
  replace hhX:=Lib.hid hhX
  replace hcp:=Lib.hid hcp
  replace hlk:=Lib.hid hlk
  replace hrd2:=Lib.hid hrd2
  clear h hf hfit hst hix hk hrd
  go_enter Tryz.func31,Tryz.ntmps31
  go_upto_region 3 with (first | (go_at_call 67;(with_reducible refine (hcp.out _).mono ?_);rintro r w1 ⟨rfl,hb1⟩;have d0:=keepF hb1 _ _ _ c0;have d1:=keepF hb1 _ _ _ c1;have d2:=keepF hb1 _ _ _ c2;have d3:=keepF hb1 _ _ _ c3;have lg1:g < w1.heap.size:=(by have:=hb1.size;omega)) | fail)
  clear c0 c1 c2 c3
  refine wp_region_ext (by kernel_rfl) (by kernel_rfl) ?_
  repeat (go_big_quiet_step ((first | (go_at_call 67;exact ext_of (hcp.out _)) | (go_at_call 76;exact ext_same (hlk.out _ (hhX.out _ (belowTrans hb1 (Ext.below _))))) | (go_at_call 75;exact ext_of (hrd2.out _)) | fail)))
  refine wpQuiet_nil ?_
  rintro _ ⟨e',rfl⟩
  have hX:=belowTrans hb1 e'.below
  generalize e'.w=X at *
  go_wp2_with fail
  go_returns
  exact ⟨rfl,hX⟩
 ·rw [if_neg hc]
  have hlt:statusIx s.p s.c s.m c < 0:=by omega
  generalize statusIx s.p s.c s.m c=sx at *
  replace hcp:=Lib.hid hcp
  clear h hf hfit hc
  go_enter Tryz.func31,Tryz.ntmps31
  go_wp2_with (first | (go_at_call 67;(with_reducible refine (hcp.out _).mono ?_);rintro r w1 ⟨rfl,hb1⟩) | fail)
  go_returns
  exact ⟨rfl,hb1⟩
end

end Go.Proofs.YtampacmmhhilaaaGreat
