/- Texts bound together: WdsW LwA LwB CliG LwC. -/
import Derived.Lib.Hide

import Derived.Test.YtampacmmhhilaaaGreatBm3

import Derived.Test.YtampacmmhhilaaaGreatBm22

import Derived.Test.YtampacmmhhilaaaGreatBm29

import Derived.Test.YtampacmmhhilaaaGreatBm1

import Derived.Test.YtampacmmhhilaaaGreatBm30

import Derived.Test.YtampacmmhhilaaaGreatBm37

import Derived.Test.YtampacmmhhilaaaGreatBm25

set_option linter.all false
/- The shared words in memory: they are made, read, changed without an access. -/
namespace Go.Proofs.YtampacmmhhilaaaGreat

open Go.RowKit

attribute [local go_sem ↓] Go.wp_at_zero Go.wp_at_succ

theorem infoUw:(Tryz.prog.info? 57).map (fun i=> (i.zero,i.size,i.bytes))=some (some (.int .u64 0),1,8):=by kernel_rfl
theorem make_wds (n:Nat) (hn:n≤100000):∀ u:World,(Instr.makeSlice 61 (.int .i64 (n:Int)) (.int .i64 (n:Int))).run Tryz.prog u= .ok (.slice (some ⟨u.heap.size,0, .none⟩) n n) (u.alloc (.cells (madeCells #[.int .u64 0] n) 57)):=fun u=> by
 obtain ⟨i0,hi,hz0,hz1,hz2⟩:=info_parts infoUw
 have h:=run_make (P:=Tryz.prog) u 61 57 i0 (.int .u64 0) Tryz.underlying61 hi hz0 .i64 .i64 (n:Int) (n:Int) (by omega) (Int.le_refl _) (by rw [hz2];omega) (by omega)
 rw [Int.toNat_natCast] at h
 simpa [hz1,Value.cells] using h
/-- Words that are all nought. -/
def memNew (n:Nat):Mem:=⟨List.replicate n 0,0,⟨0,0,0,0,0,false⟩⟩
theorem rowW_new (n:Nat):madeCells #[.int .u64 0] n=rowW (List.replicate n 0):=by
 apply Array.toList_inj.1
 rw [toList_madeCells_one]
 simp [rowW]
theorem memNew_fit (n:Nat):(memNew n).fit:=fun x hx=> by
 rw [List.eq_of_mem_replicate hx];exact ⟨by decide,by decide⟩
theorem wnew_any (n:Nat) (hn:n≤2000) (w:World):
  Calls Tryz.prog 87 #[.int .i64 (n:Int)] w fun e w'=> ∃ p b,e= .returned (.pointer (some ⟨p,0, .none⟩))∧WdsAt w' p b (memNew n)∧w.heap.size≤p∧w.heap.size≤b∧Below w.heap.size w w':=by
 have hmk:=make_wds n (by omega)
 have h1:decide ((n:Int) < 0)=false:=decide_eq_false (by omega)
 have h2:decide ((2000:Int) < (n:Int))=false:=decide_eq_false (by omega)
 go_enter Tryz.func87,Tryz.ntmps87
 go_wp2_with fail
 go_returns
 refine ⟨_,w.heap.size,rfl,⟨by simp,?_,?_,memNew_fit n,by simp [memNew];omega,by simp [memNew]⟩,by simp,Nat.le_refl _,?_⟩
 ·have h:=heap_alloc_new (w.alloc (.cells (madeCells #[.int .u64 0] n) 57)) (.cells (memCells w.heap.size (memNew n)) 186)
  simpa [memCells,memNew] using h
 ·have h:=heap_alloc_new w (.cells (madeCells #[.int .u64 0] n) 57)
  rw [rowW_new] at h
  have h2:=RowAt.alloc (T:=57) h (.cells (memCells w.heap.size (memNew n)) 186)
  simpa [memCells,memNew,RowAt,rowW_new] using h2
 ·exact ((Below.refl _ _).alloc (Nat.le_refl _) _).alloc (by simp) _
theorem wput_any (p b:Nat) (m:Mem) (a x:Int) (w:World) (h:WdsAt w p b m) (ha:m.has a) (hx:0≤x∧x < 18446744073709551616):
  Calls Tryz.prog 118 #[.pointer (some ⟨p,0, .none⟩), .int .i64 a, .int .u64 x] w fun e w'=> e= .returned (.bool true)∧WdsAt w' p b ⟨m.ws.set a.toNat x,m.st,m.la⟩∧Only (fun k=> k=b) w w':=by
 have h1:=Lib.hid (win_any p b m a w h ha)
 have hput:=Lib.hid (h.put ha hx)
 obtain ⟨n,hn,hn'⟩:∃ n,Hid (n=m.ws.length)∧n=m.ws.length:=⟨_,Lib.hid rfl,rfl⟩
 have x0:w.cell? ⟨p,0, .none⟩=some (.slice (some ⟨b,0, .none⟩) n n):=by rw [hn'];exact rowCells h.blk 0
 have y0:=h.cell ha
 have yf:=rowFree h.row
 have a0:(0:Int)≤a:=ha.1
 have a1:a < (n:Int):=by rw [hn'];exact ha.2
 clear hn' h ha
 go_enter Tryz.func118,Tryz.ntmps118
 go_wp2_with (go_at_call 122;refine h1.out.mono ?_;rintro r w1 ⟨rfl,hw1⟩;obtain rfl:=hw1.symm)
 go_returns
 exact ⟨rfl,hput.out,Only.setCell (F:=fun k=> k=b) (Only.refl _ _) (.inl rfl) _⟩
theorem wsteps_any (p b:Nat) (m:Mem) (w:World) (h:WdsAt w p b m):
  Calls Tryz.prog 111 #[.pointer (some ⟨p,0, .none⟩)] w fun e w'=> e= .returned (.int .i64 m.st)∧w'=w:=by
 have x0:w.cell? ⟨p,1, .none⟩=some (.int .i64 m.st):=rowCells h.blk 1
 clear h
 go_enter Tryz.func111,Tryz.ntmps111
 go_wp2_with fail
 go_returns
 exact ⟨rfl,rfl⟩
theorem wlast_any (p b:Nat) (m:Mem) (w:World) (h:WdsAt w p b m):
  Calls Tryz.prog 113 #[.pointer (some ⟨p,0, .none⟩)] w fun e w'=> e= .returned (accV m.la)∧Below w.heap.size w w':=by
 unfold accV
 have hb0:=(Below.refl w.heap.size w).alloc (Nat.le_refl _) (.cells #[.int .i64 0, .int .i64 0, .int .i64 0, .int .u64 0, .int .u64 0, .bool false] 59)
 have hE:RowAt (w.alloc (.cells #[.int .i64 0, .int .i64 0, .int .i64 0, .int .u64 0, .int .u64 0, .bool false] 59)) w.heap.size #[.int .i64 0, .int .i64 0, .int .i64 0, .int .u64 0, .int .u64 0, .bool false] 59:=heap_alloc_new _ _
 have h':=h.below hb0
 have hpE:w.heap.size≠p:=fun e=> by have:=h.ltp;omega
 obtain ⟨la,hla⟩:∃ la,la=m.la:=⟨_,rfl⟩
 have x2:(w.alloc (.cells #[.int .i64 0, .int .i64 0, .int .i64 0, .int .u64 0, .int .u64 0, .bool false] 59)).cell? ⟨p,2, .none⟩=some (.int .i64 m.la.c):=rowCells h'.blk 2
 have x3:(w.alloc (.cells #[.int .i64 0, .int .i64 0, .int .i64 0, .int .u64 0, .int .u64 0, .bool false] 59)).cell? ⟨p,3, .none⟩=some (.int .i64 m.la.k):=rowCells h'.blk 3
 have x4:(w.alloc (.cells #[.int .i64 0, .int .i64 0, .int .i64 0, .int .u64 0, .int .u64 0, .bool false] 59)).cell? ⟨p,4, .none⟩=some (.int .i64 m.la.a):=rowCells h'.blk 4
 have x5:(w.alloc (.cells #[.int .i64 0, .int .i64 0, .int .i64 0, .int .u64 0, .int .u64 0, .bool false] 59)).cell? ⟨p,5, .none⟩=some (.int .u64 m.la.was):=rowCells h'.blk 5
 have x6:(w.alloc (.cells #[.int .i64 0, .int .i64 0, .int .i64 0, .int .u64 0, .int .u64 0, .bool false] 59)).cell? ⟨p,6, .none⟩=some (.int .u64 m.la.put):=rowCells h'.blk 6
 have x7:(w.alloc (.cells #[.int .i64 0, .int .i64 0, .int .i64 0, .int .u64 0, .int .u64 0, .bool false] 59)).cell? ⟨p,7, .none⟩=some (.bool m.la.ok):=rowCells h'.blk 7
 rw [← hla] at x2 x3 x4 x5 x6 x7 ⊢
 clear h h' hla
 obtain ⟨lc,lk,lp,lw,lu,lo⟩:=la
 dsimp only at x2 x3 x4 x5 x6 x7 ⊢
 go_enter Tryz.func113,Tryz.ntmps113
 go_upto_region 1 with fail
 generalize w.alloc (.cells #[.int .i64 0, .int .i64 0, .int .i64 0, .int .u64 0, .int .u64 0, .bool false] 59)=X at *
 obtain ⟨E,hEE,hEE'⟩:∃ E,Hid (E=w.heap.size)∧E=w.heap.size:=⟨_,Lib.hid rfl,rfl⟩
 rw [← hEE'] at hE hpE ⊢
 have hEw:w.heap.size≤E:=by omega
 clear hEE'
 have lE:=hE.lt
 have fE:=rowFree hE
 have e0:X.cell? ⟨E,0, .none⟩=some (.int .i64 0):=hE.cell 0
 have e1:X.cell? ⟨E,1, .none⟩=some (.int .i64 0):=hE.cell 1
 have e2:X.cell? ⟨E,2, .none⟩=some (.int .i64 0):=hE.cell 2
 have e3:X.cell? ⟨E,3, .none⟩=some (.int .u64 0):=hE.cell 3
 have e4:X.cell? ⟨E,4, .none⟩=some (.int .u64 0):=hE.cell 4
 have e5:X.cell? ⟨E,5, .none⟩=some (.bool false):=hE.cell 5
 go_wp2_with fail
 have hF:RowAt ((((((X.setCell ⟨E,0, .none⟩ (.int .i64 lc)).setCell ⟨E,1, .none⟩ (.int .i64 lk)).setCell ⟨E,2, .none⟩ (.int .i64 lp)).setCell ⟨E,3, .none⟩ (.int .u64 lw)).setCell ⟨E,4, .none⟩ (.int .u64 lu)).setCell ⟨E,5, .none⟩ (.bool lo)) E #[.int .i64 lc, .int .i64 lk, .int .i64 lp, .int .u64 lw, .int .u64 lu, .bool lo] 59:=((((((hE.set 0 (.int .i64 lc)).set 1 (.int .i64 lk)).set 2 (.int .i64 lp)).set 3 (.int .u64 lw)).set 4 (.int .u64 lu)).set 5 (.bool lo))
 have hbF:Below w.heap.size w ((((((X.setCell ⟨E,0, .none⟩ (.int .i64 lc)).setCell ⟨E,1, .none⟩ (.int .i64 lk)).setCell ⟨E,2, .none⟩ (.int .i64 lp)).setCell ⟨E,3, .none⟩ (.int .u64 lw)).setCell ⟨E,4, .none⟩ (.int .u64 lu)).setCell ⟨E,5, .none⟩ (.bool lo)):=((((((hb0.setCell (p:=⟨E,0, .none⟩) hEw (.int .i64 lc)).setCell (p:=⟨E,1, .none⟩) hEw (.int .i64 lk)).setCell (p:=⟨E,2, .none⟩) hEw (.int .i64 lp)).setCell (p:=⟨E,3, .none⟩) hEw (.int .u64 lw)).setCell (p:=⟨E,4, .none⟩) hEw (.int .u64 lu)).setCell (p:=⟨E,5, .none⟩) hEw (.bool lo))
 generalize (((((X.setCell ⟨E,0, .none⟩ (.int .i64 lc)).setCell ⟨E,1, .none⟩ (.int .i64 lk)).setCell ⟨E,2, .none⟩ (.int .i64 lp)).setCell ⟨E,3, .none⟩ (.int .u64 lw)).setCell ⟨E,4, .none⟩ (.int .u64 lu)).setCell ⟨E,5, .none⟩ (.bool lo)=U at *
 have r0:U.cell? ⟨E,0, .none⟩=some (.int .i64 lc):=hF.cell 0
 have r1:U.cell? ⟨E,1, .none⟩=some (.int .i64 lk):=hF.cell 1
 have r2:U.cell? ⟨E,2, .none⟩=some (.int .i64 lp):=hF.cell 2
 have r3:U.cell? ⟨E,3, .none⟩=some (.int .u64 lw):=hF.cell 3
 have r4:U.cell? ⟨E,4, .none⟩=some (.int .u64 lu):=hF.cell 4
 have r5:U.cell? ⟨E,5, .none⟩=some (.bool lo):=hF.cell 5
 exact bodyPost_ret (v:= .agg #[.int .i64 lc, .int .i64 lk, .int .i64 lp, .int .u64 lw, .int .u64 lu, .bool lo]) (by simp [results,Tryz.results113,go_sem,r0,r1,r2,r3,r4,r5]) rfl ⟨rfl,hbF⟩
theorem clone_us (xs:List Int) (v:Value) (w:World) (hr:RdS w 1 v xs.length (xs.map (Value.int .u64))) (hlen:xs.length≤2000):
  Calls Tryz.prog 123 #[v] w fun e w'=> ∃ v',e= .returned v'∧Below w.heap.size w w'∧w'.ownsRow w.heap.size 57 1 v' xs.length (xs.map (Value.int .u64)):=by
 obtain ⟨ao,cap,rfl,hcap,hcm,hl,hrow⟩:=id hr
 have heq:∀ W:World,(binOp .eql 61 (.slice ao xs.length cap) (.slice none 0 0)).run Tryz.prog W= .ok (.bool ao.isNone) W:=fun W=> Lib.run_eql_slice_nil W _ _ ao _ _ _ _ Tryz.underlying61
 rcases ao with _ | ad
 ·have hn:xs= []:=by
   rcases xs with _ | ⟨b,l⟩
   ·rfl
   ·obtain ⟨_,_,h,_⟩:=hrow (by simp);cases h
  subst hn
  replace heq:∀ W:World,(binOp .eql 61 (.slice none 0 cap) (.slice none 0 0)).run Tryz.prog W= .ok (.bool true) W:=heq
  show Calls Tryz.prog 123 #[.slice none 0 cap] w _
  go_enter Tryz.func123,Tryz.ntmps123
  go_wp2
  go_ret
  exact ⟨_,rfl,Below.refl _ _,⟨rfl, .inl ⟨rfl,rfl⟩⟩⟩
 ·obtain ⟨i0,hi0,hz0,hz1,hz2⟩:=info_parts infoUw
  have own0:(w.alloc (.cells #[] 57)).ownsRow w.heap.size 57 1 (.slice (some ⟨w.heap.size,0, .none⟩) 0 0) 0 []:=World.ownsRow_lit w #[] 0 (Nat.le_refl _) (Nat.zero_le _) rfl
  have hr1:RdS (w.alloc (.cells #[] 57)) 1 (.slice (some ad) xs.length cap) xs.length (xs.map (Value.int .u64)):=RdS.alloc hr _
  go_enter Tryz.func123,Tryz.ntmps123
  go_wp2_with (refine wpList_append_rd rfl (.tmp 5) (.tmp 6) 61 rfl w.heap.size 57 i0 _ 1 8 Tryz.underlying61 hi0 hz0 hz1 hz2 rfl (by omega) _ 0 [] rfl own0 _ xs.length (xs.map (Value.int .u64)) rfl hr1 (by intro c hc;obtain ⟨x,_,rfl⟩:=List.mem_map.1 hc;rfl) (by simp only [maxLen];omega) (by omega) (by simp) ?_;intro v1 w1 hown1 hgrow1 hat1;have hb1:=grown_belowS ((Below.refl w.heap.size w).alloc (Nat.le_refl _) _) own0 (by simp) hgrow1)
  go_ret
  rw [Nat.zero_add,List.nil_append] at hown1
  exact ⟨_,rfl,hb1,hown1⟩
theorem WdsAt.rd {w:World} {p b:Nat} {m:Mem} (h:WdsAt w p b m):RdS w 1 (.slice (some ⟨b,0, .none⟩) m.ws.length m.ws.length) m.ws.length (m.ws.map (Value.int .u64)):=by
 have h2:=RdS.new (sz:=1) (n:=m.ws.length) h.row (by simp [rowW]) (by have:=h.few;omega)
 simpa [rowW] using h2
theorem wall_any (p b:Nat) (m:Mem) (w:World) (h:WdsAt w p b m):
  Calls Tryz.prog 78 #[.pointer (some ⟨p,0, .none⟩)] w fun e w'=> ∃ v',e= .returned v'∧Below w.heap.size w w'∧w'.ownsRow w.heap.size 57 1 v' m.ws.length (m.ws.map (Value.int .u64)):=by
 have x0:w.cell? ⟨p,0, .none⟩=some (.slice (some ⟨b,0, .none⟩) m.ws.length m.ws.length):=rowCells h.blk 0
 have hc:=Lib.hid (clone_us m.ws _ w h.rd h.few)
 go_enter Tryz.func78,Tryz.ntmps78
 go_wp2_with (go_at_call 123;refine hc.out.mono ?_;rintro e w1 ⟨v1,rfl,hb1,ho1⟩)
 go_ret
 exact ⟨_,rfl,hb1,ho1⟩
end Go.Proofs.YtampacmmhhilaaaGreat
/- What laws over words and clients use: Total, Fair, Fill, Steps; are two rows of words, of events, the same? -/
namespace Go.Proofs.YtampacmmhhilaaaGreat

open Go.RowKit

attribute [local go_sem ↓] Go.wp_at_zero Go.wp_at_succ

theorem lwMul {c m C M:Int} (hc:0≤c∧c≤C) (hm:0≤m∧m≤M):0≤c * m∧c * m≤C * M:=by
 refine ⟨Int.mul_nonneg hc.1 hm.1,?_⟩
 exact Int.le_trans (Int.mul_le_mul_of_nonneg_right hc.2 hm.1) (Int.mul_le_mul_of_nonneg_left hm.2 (by omega))
theorem lwTotal_bd {s:Sh} (h:mayB s.p s.c s.m=true):totalV s.p s.c s.m=s.c + s.p + s.p * 16 + s.c * s.m∧18≤totalV s.p s.c s.m∧totalV s.p s.c s.m≤1196:=by
 have hb:=mayB_iff.1 h
 have hm:=lwMul (c:=s.c) (m:=s.m) (C:=12) (M:=8) (by omega) (by omega)
 have:totalV s.p s.c s.m=s.c + s.p + s.p * 16 + s.c * s.m:=by unfold totalV;rw [if_pos h]
 omega
theorem lwTotal_any (s:Sh) (w:World):
  Calls Tryz.prog 32 #[.agg #[.int .i64 s.p, .int .i64 s.c, .int .i64 s.m]] w fun e w'=> e= .returned (.int .i64 (totalV s.p s.c s.m))∧Below w.heap.size w w':=by
 obtain ⟨p,c,m⟩:=s
 dsimp only
 by_cases h1:mayB p c m=true
 ·have hb:=mayB_iff.1 h1
  have hm:=lwMul (c:=c) (m:=m) (C:=12) (M:=8) (by omega) (by omega)
  have ht:totalV p c m=c + p + p * 16 + c * m:=by unfold totalV;rw [if_pos h1]
  have w1:IntKind.i64.wrap (c + p)=c + p:=IntWalk.i64_in _ ⟨by omega,by omega⟩
  have w2:IntKind.i64.wrap (16 * p)=16 * p:=IntWalk.i64_in _ ⟨by omega,by omega⟩
  have w3:IntKind.i64.wrap (c + p + 16 * p)=c + p + 16 * p:=IntWalk.i64_in _ ⟨by omega,by omega⟩
  have w4:IntKind.i64.wrap (c * m)=c * m:=IntWalk.i64_in _ ⟨by omega,by omega⟩
  have w5:IntKind.i64.wrap (c + p + 16 * p + c * m)=c + p + 16 * p + c * m:=IntWalk.i64_in _ ⟨by omega,by omega⟩
  have hr:=fun W=> refMay_any p c m W
  rw [h1] at hr
  replace hr:=Lib.hid hr
  rw [show totalV p c m=c + p + 16 * p + c * m by omega]
  clear ht hm hb h1
  go_enter Tryz.func32,Tryz.ntmps32
  go_wp2_with (go_at_call 28;refine (hr.out _).mono ?_;rintro e w1 ⟨rfl,rfl⟩)
  go_ret
  exact ⟨rfl,by go_grown⟩
 ·have h1':mayB p c m=false:=by simpa using h1
  have ht:totalV p c m=0:=by unfold totalV;rw [if_neg h1]
  have hr:=fun W=> refMay_any p c m W
  rw [h1'] at hr
  replace hr:=Lib.hid hr
  rw [ht]
  clear h1 h1' ht
  go_enter Tryz.func32,Tryz.ntmps32
  go_wp2_with (go_at_call 28;refine (hr.out _).mono ?_;rintro e w1 ⟨rfl,rfl⟩)
  go_ret
  exact ⟨rfl,by go_grown⟩
end Go.Proofs.YtampacmmhhilaaaGreat
/- What laws over words and clients use: Fair, Steps; rows of words, of events, that are the same. -/
namespace Go.Proofs.YtampacmmhhilaaaGreat

open Go.RowKit

attribute [local go_sem ↓] Go.wp_at_zero Go.wp_at_succ

set_option maxHeartbeats 1000000 in
theorem sameWords_eq (xs:List Int) (v u:Value) (w:World) (hx:RdZ .u64 w v xs) (hy:RdZ .u64 w u xs):
  Calls Tryz.prog 34 #[v,u] w fun e w'=> e= .returned (.bool true)∧Below w.heap.size w w':=by
 obtain ⟨ax,cx,rfl,hcx,hmx,hrx⟩:=hx.cells
 obtain ⟨ay,cy,rfl,hcy,hmy,hry⟩:=hy.cells
 obtain ⟨n,hn,hn'⟩:∃ n,Hid (n=xs.length)∧n=xs.length:=⟨_,Lib.hid rfl,rfl⟩
 rw [← hn'] at hcx hcy ⊢
 have hlN:n≤9223372036854775807:=by omega
 clear hn'
 go_enter Tryz.func34,Tryz.ntmps34
 go_wp2
 go_loopw [5] (fun v5 wr=> ∃ j:Nat,j≤n∧v5= .int .i64 j∧Below w.heap.size w wr) (fun v5 _=> n - (intOf v5).toNat)
 case atStart=> exact ⟨0,Nat.zero_le _,rfl,Below.refl _ _⟩
 case round=>
  obtain ⟨j,hj,rfl,hbr⟩:=hrel
  by_cases hjn:j < n
  ·have hjl:(j:Int) < (n:Int):=by omega
   have hj0:(0:Int)≤(j:Int):=by omega
   have hjt:j < xs.length:=hn.out ▸ hjn
   obtain ⟨bx,ox,rfl,hbx,hcx'⟩:=hrx (fun h=> by subst h;simp at hjt)
   obtain ⟨by',oy,rfl,hby,hcy'⟩:=hry (fun h=> by subst h;simp at hjt)
   have X0:wr.cell? ⟨bx,ox + j, .none⟩=some (.int .u64 xs[j]):=keepF hbr _ _ _ (hcx' j hjt)
   have Y0:wr.cell? ⟨by',oy + j, .none⟩=some (.int .u64 xs[j]):=keepF hbr _ _ _ (hcy' j hjt)
   have wi1:IntKind.i64.wrap ((j:Int) + 1)=(j:Int) + 1:=IntWalk.i64_in _ ⟨by omega,by omega⟩
   clear hcx' hcy' hrx hry
   generalize xs[j]=a at *
   have hD:=fun n=> below_drewN hbr n
   go_wp2
   go_quiet (fail)
   go_wp2
   exact ⟨⟨j + 1,by omega,by go_num,hD _⟩,by simp [intOf];omega⟩
  ·have hje:j=n:=by omega
   subst hje
   have hj0:¬ ((j:Int) < (j:Int)):=by omega
   go_wp2
   go_ret
   exact ⟨rfl,hbr⟩
set_option maxRecDepth 100000 in
set_option maxHeartbeats 2000000 in
theorem sameTrace_eq (xs:List Ev) (v u:Value) (w:World) (hx:RdE w v xs) (hy:RdE w u xs):
  Calls Tryz.prog 44 #[v,u] w fun e w'=> e= .returned (.bool true)∧Below w.heap.size w w':=by
 obtain ⟨ax,cx,rfl,hcx,hmx,hrx⟩:=hx.nth
 obtain ⟨ay,cy,rfl,hcy,hmy,hry⟩:=hy.nth
 obtain ⟨n,hn,hn'⟩:∃ n,Hid (n=xs.length)∧n=xs.length:=⟨_,Lib.hid rfl,rfl⟩
 rw [← hn'] at hcx hcy ⊢
 have hlN:n≤9223372036854775807:=by omega
 clear hn'
 go_enter Tryz.func44,Tryz.ntmps44
 go_wp2
 go_loopw [5] (fun v5 wr=> ∃ j:Nat,j≤n∧v5= .int .i64 j∧Below w.heap.size w wr) (fun v5 _=> n - (intOf v5).toNat)
 case atStart=> exact ⟨0,Nat.zero_le _,rfl,Below.refl _ _⟩
 case round=>
  obtain ⟨j,hj,rfl,hbr⟩:=hrel
  by_cases hjn:j < n
  ·have hjl:(j:Int) < (n:Int):=by omega
   have hj0:(0:Int)≤(j:Int):=by omega
   have hjt:j < xs.length:=hn.out ▸ hjn
   obtain ⟨bx,ox,rfl,hbx,hcx'⟩:=hrx (fun h=> by subst h;simp at hjt)
   obtain ⟨by',oy,rfl,hby,hcy'⟩:=hry (fun h=> by subst h;simp at hjt)
   have X0:wr.cell? ⟨bx,ox + j * 8, .none⟩=some (.int .i64 xs[j].k):=keepF hbr _ _ _ ((hcx' j hjt 0 (by omega)).trans rfl)
   have X1:wr.cell? ⟨bx,ox + j * 8 + 1, .none⟩=some (.int .i64 xs[j].c):=keepF hbr _ _ _ ((hcx' j hjt 1 (by omega)).trans rfl)
   have X2:wr.cell? ⟨bx,ox + j * 8 + 2, .none⟩=some (.int .i64 xs[j].ok):=keepF hbr _ _ _ ((hcx' j hjt 2 (by omega)).trans rfl)
   have X3:wr.cell? ⟨bx,ox + j * 8 + 3, .none⟩=some (.int .i64 xs[j].oa):=keepF hbr _ _ _ ((hcx' j hjt 3 (by omega)).trans rfl)
   have X4:wr.cell? ⟨bx,ox + j * 8 + 4, .none⟩=some (.int .i64 xs[j].on):=keepF hbr _ _ _ ((hcx' j hjt 4 (by omega)).trans rfl)
   have X5:wr.cell? ⟨bx,ox + j * 8 + 5, .none⟩=some (.int .i64 xs[j].at'):=keepF hbr _ _ _ ((hcx' j hjt 5 (by omega)).trans rfl)
   have X6:wr.cell? ⟨bx,ox + j * 8 + 6, .none⟩=some (.int .i64 xs[j].n):=keepF hbr _ _ _ ((hcx' j hjt 6 (by omega)).trans rfl)
   have X7:wr.cell? ⟨bx,ox + j * 8 + 7, .none⟩=some (.int .i64 xs[j].er):=keepF hbr _ _ _ ((hcx' j hjt 7 (by omega)).trans rfl)
   have Y0:wr.cell? ⟨by',oy + j * 8, .none⟩=some (.int .i64 xs[j].k):=keepF hbr _ _ _ ((hcy' j hjt 0 (by omega)).trans rfl)
   have Y1:wr.cell? ⟨by',oy + j * 8 + 1, .none⟩=some (.int .i64 xs[j].c):=keepF hbr _ _ _ ((hcy' j hjt 1 (by omega)).trans rfl)
   have Y2:wr.cell? ⟨by',oy + j * 8 + 2, .none⟩=some (.int .i64 xs[j].ok):=keepF hbr _ _ _ ((hcy' j hjt 2 (by omega)).trans rfl)
   have Y3:wr.cell? ⟨by',oy + j * 8 + 3, .none⟩=some (.int .i64 xs[j].oa):=keepF hbr _ _ _ ((hcy' j hjt 3 (by omega)).trans rfl)
   have Y4:wr.cell? ⟨by',oy + j * 8 + 4, .none⟩=some (.int .i64 xs[j].on):=keepF hbr _ _ _ ((hcy' j hjt 4 (by omega)).trans rfl)
   have Y5:wr.cell? ⟨by',oy + j * 8 + 5, .none⟩=some (.int .i64 xs[j].at'):=keepF hbr _ _ _ ((hcy' j hjt 5 (by omega)).trans rfl)
   have Y6:wr.cell? ⟨by',oy + j * 8 + 6, .none⟩=some (.int .i64 xs[j].n):=keepF hbr _ _ _ ((hcy' j hjt 6 (by omega)).trans rfl)
   have Y7:wr.cell? ⟨by',oy + j * 8 + 7, .none⟩=some (.int .i64 xs[j].er):=keepF hbr _ _ _ ((hcy' j hjt 7 (by omega)).trans rfl)
   have wi1:IntKind.i64.wrap ((j:Int) + 1)=(j:Int) + 1:=IntWalk.i64_in _ ⟨by omega,by omega⟩
   clear hcx' hcy' hrx hry
   generalize xs[j]=a at *
   obtain ⟨a0,a1,a2,a3,a4,a5,a6,a7⟩:=a
   dsimp only at X0 X1 X2 X3 X4 X5 X6 X7 Y0 Y1 Y2 Y3 Y4 Y5 Y6 Y7
   have hD:=fun n=> below_drewN hbr n
   go_wp2
   go_quiet (fail)
   go_wp2
   exact ⟨⟨j + 1,by omega,by go_num,hD _⟩,by simp [intOf];omega⟩
  ·have hje:j=n:=by omega
   subst hje
   have hj0:¬ ((j:Int) < (j:Int)):=by omega
   go_wp2
   go_ret
   exact ⟨rfl,hbr⟩
end Go.Proofs.YtampacmmhhilaaaGreat
/- A client in memory: whether it rests, its steps, where it begins. -/
namespace Go.Proofs.YtampacmmhhilaaaGreat

open Go.RowKit

attribute [local go_sem ↓] Go.wp_at_zero Go.wp_at_succ

theorem klidle_any {F:Nat→Prop} {w:World} {q:Nat} {s:Sh} {k:Kl} (h:KlO F w q s k):Calls Tryz.prog 22 #[.pointer (some ⟨q,0, .none⟩)] w fun e w'=> e= .returned (.bool k.rests)∧w'=w:=by
 have hre:=Lib.hid h.rests
 clear h
 have hnil:∀ W:World,(binOp .neq 36 (.pointer (some ⟨q,0, .none⟩)) (.pointer none)).run Tryz.prog W= .ok (.bool true) W:=fun W=> by kernel_rfl
 generalize k.rests=r at *
 go_enter Tryz.func22,Tryz.ntmps22
 go_wp2_with (first | (go_at_call 64;(with_reducible refine hre.out.mono ?_);rintro r w1 ⟨rfl,hw1⟩;obtain rfl:=hw1.symm) | fail)
 go_returns
 exact ⟨rfl,rfl⟩
theorem klsteps_any {F:Nat→Prop} {w:World} {q:Nat} {s:Sh} {k:Kl} (h:KlO F w q s k):Calls Tryz.prog 23 #[.pointer (some ⟨q,0, .none⟩)] w fun e w'=> e= .returned (.int .i64 k.steps)∧w'=w:=by
 obtain ⟨_,_,sp,sl,jv,G,hrow,_⟩:=h
 have c12:w.cell? ⟨q,12, .none⟩=some (.int .i64 k.steps):=hrow.cell 12
 clear hrow
 go_enter Tryz.func23,Tryz.ntmps23
 go_wp2_with fail
 go_returns
 exact ⟨rfl,rfl⟩
end Go.Proofs.YtampacmmhhilaaaGreat
/- A client beside words: one access, one question, whatever is asked; all of it new memory. -/
namespace Go.Proofs.YtampacmmhhilaaaGreat

open Go.RowKit

attribute [local go_sem ↓] Go.wp_at_zero Go.wp_at_succ

/-- A client at q and words at p, its blocks in F, all from block B on. -/
structure CW (B:Nat) (F:Nat→Prop) (W:World) (q p b:Nat) (s:Sh) (k:Kl) (m:Mem):Prop where
 kl:KlO F W q s k
 wd:WdsAt W p b m
 fp:¬ F p
 fb:¬ F b
 lo:∀ i,F i→B≤i
 lp:B≤p
 lb:B≤b
 ok:klOk s k
 fi:Fits s m
section

variable {B:Nat} {F:Nat→Prop} {W W':World} {q p b:Nat} {s:Sh} {k:Kl} {m:Mem}

theorem CW.below (h:CW B F W q p b s k m) (hb:Below W.heap.size W W'):CW B F W' q p b s k m:=⟨h.kl.below hb,h.wd.below hb,h.fp,h.fb,h.lo,h.lp,h.lb,h.ok,h.fi⟩
theorem CW.only {G:Nat→Prop} (h:CW B F W q p b s k m) (ho:Only G W W') (hG:∀ i,G i→¬ F i∧i≠p∧i≠b):CW B F W' q p b s k m:=
 ⟨h.kl.only ho (fun i hi hg=> (hG i hg).1 hi),h.wd.only ho (fun e=> (hG p e).2.1 rfl) (fun e=> (hG b e).2.2 rfl),h.fp,h.fb,h.lo,h.lp,h.lb,h.ok,h.fi⟩
theorem grow_fresh {p:Nat} (h:¬ F p) (hp:p < W.heap.size):¬ grow F W W' p:=fun e=> by
 rcases e with e | e
 ·exact h e
 ·omega
/-- What a client's access comes to. -/
structure CwStep (B:Nat) (F:Nat→Prop) (W W':World) (q p b:Nat) (s:Sh) (k:Kl) (m:Mem) (r:Ending):Prop where
 ret:∃ v,r= .returned (.tuple #[v, .int .i64 (k.step s m).2.2.2])∧W'.ownsRow W.heap.size 50 8 v (k.step s m).2.2.1.length ((k.step s m).2.2.1.flatMap fun e=> e.cells.toList)
 cw:CW B (grow F W W') W' q p b s (k.step s m).1 (k.step s m).2.1
 only:Only (fun i=> F i∨i=p∨i=b) W W'
 below:Below B W W'
theorem cw_step (h:CW B F W q p b s k m) (hB:B≤W.heap.size) (hs:m.st < 1000000000):
  Calls Tryz.prog 112 #[.pointer (some ⟨q,0, .none⟩), .pointer (some ⟨p,0, .none⟩)] W fun r w'=> CwStep B F W w' q p b s k m r:=by
 have hm:=h.fi.may
 have hb:=h.fi.bd
 have key:∀ r w',KlStep F q p b W w' r s k m→klOk s (k.step s m).1→Fits s (k.step s m).2.1→CwStep B F W w' q p b s k m r:=fun r w' hS ho hf=> by
  refine ⟨hS.ret,⟨hS.kl,hS.wds,grow_fresh h.fp h.wd.ltp,grow_fresh h.fb h.wd.ltb,fun i hi=> ?_,h.lp,h.lb,ho,hf⟩,hS.only,hS.only.below hB (fun i hi=> ?_)⟩
  ·rcases hi with hi | hi
   ·exact h.lo i hi
   ·omega
  ·rcases hi with hi | rfl | rfl
   ·exact h.lo i hi
   ·exact h.lp
   ·exact h.lb
 rcases hj:k.job with _ | j
 ·refine (klstep_none h.kl h.wd hj).mono fun r w' hS=> key r w' hS ?_ ?_
  ·have e:k.step s m=(k,m, [],2):=by unfold Kl.step;rw [hj]
   rw [e];exact h.ok
  ·have e:k.step s m=(k,m, [],2):=by unfold Kl.step;rw [hj]
   rw [e];exact h.fi
 ·have ho:=klStep_ok h.ok hj h.fi h.wd.fit
  have hfew:=kl_few h.ok (by omega) hj
  refine (klstep_some h.kl h.wd h.fp h.fb h.fi h.wd.fit hj (h.ok.jb j hj).1 (h.ok.jb j hj).2.1 h.ok.cl ⟨h.ok.st,by omega⟩ hs).mono fun r w' hS=> key r w' hS ho.2 (ho.1.fits h.fi)
/-- What asking a client comes to. -/
structure CwAsk (B:Nat) (F:Nat→Prop) (W W':World) (q p b:Nat) (s:Sh) (k:Kl) (m:Mem) (o:Op3) (r:Ending):Prop where
 ret:∃ v,r= .returned (.tuple #[v, .int .i64 (k.invoke s o).2.2])∧W'.ownsRow W.heap.size 50 8 v (k.invoke s o).2.1.length ((k.invoke s o).2.1.flatMap fun e=> e.cells.toList)
 cw:CW B (grow F W W') W' q p b s (k.invoke s o).1 m
 only:Only F W W'
 below:Below B W W'
theorem cw_ask (o:Op3) (h:CW B F W q p b s k m) (hB:B≤W.heap.size):
  Calls Tryz.prog 70 #[.pointer (some ⟨q,0, .none⟩), .agg #[.int .i64 o.k, .int .i64 o.a, .int .i64 o.n]] W fun r w'=> CwAsk B F W w' q p b s k m o r:=by
 refine (klask_any (o:=o) h.kl).mono fun r w' hS=> ?_
 refine ⟨hS.ret,⟨hS.kl,h.wd.only hS.only h.fp h.fb,grow_fresh h.fp h.wd.ltp,grow_fresh h.fb h.wd.ltb,fun i hi=> ?_,h.lp,h.lb,klAsk_ok o h.fi.may h.ok,h.fi⟩,hS.only,hS.only.below hB h.lo⟩
 rcases hi with hi | hi
 ·exact h.lo i hi
 ·omega
end

theorem rdE_own {w:World} {B:Nat} {v:Value} {es:List Ev} (h:w.ownsRow B 50 8 v es.length (es.flatMap fun e=> e.cells.toList)):RdE w v es:=RdS.of_own h
end Go.Proofs.YtampacmmhhilaaaGreat
