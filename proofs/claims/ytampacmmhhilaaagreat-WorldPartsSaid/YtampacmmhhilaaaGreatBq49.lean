/- Texts bound together: ChO WStpW. -/
import Derived.Test.YtampacmmhhilaaaGreatZStpP

import Derived.Test.YtampacmmhhilaaaGreatZWAwk

set_option linter.all false
set_option maxRecDepth 20000
namespace Go.Proofs.YtampacmmhhilaaaGreat

section

open Go.RowKit Go.ChangeShapes Go.WideShapes Go.ChangeAt

section

variable {H:Type} {enc:TypeId × Value->H} {w:World}

theorem ygg {es:List Value} (h:Rd enc Tryz.prog w 43 es):∃ a b c:Int,es= [.int .i64 a,.int .i64 b,.int .i64 c]:=by
 obtain ⟨hl,hf⟩:=zmz Tryz.underlying43 h
 have ct:Tryz.prog.cellsOf 43=3:=by kernel_rfl
 have k1:Tryz.prog.cellsOf 3=1:=by kernel_rfl
 rw [ct] at hl
 obtain ⟨x,y,z,rfl⟩:=ye6 hl
 have g0:Rd enc Tryz.prog w 3 (([x,y,z].drop 0).take (Tryz.prog.cellsOf 3)):=hf 0 _ rfl
 have g1:Rd enc Tryz.prog w 3 (([x,y,z].drop 1).take (Tryz.prog.cellsOf 3)):=hf 1 _ rfl
 have g2:Rd enc Tryz.prog w 3 (([x,y,z].drop 2).take (Tryz.prog.cellsOf 3)):=hf 2 _ rfl
 rw [k1] at g0 g1 g2
 obtain ⟨a,ha,_⟩:=zj9 Tryz.underlying3 g0
 obtain ⟨b,hb,_⟩:=zj9 Tryz.underlying3 g1
 obtain ⟨c,hc,_⟩:=zj9 Tryz.underlying3 g2
 injection ha with ha;injection hb with hb;injection hc with hc
 subst ha hb hc
 exact ⟨a,b,c,rfl⟩
theorem yf3 {es:List Value} (hl:es.length=6) (h:Rd enc Tryz.prog w 54 es):∃ c:Ch,c.cells=es/\True:=by
 obtain ⟨_,hf⟩:=zmz Tryz.underlying54 h
 match es,hl with
 | [x0,x1,x2,x3,x4,x5],_=>
  have k1:Tryz.prog.cellsOf 3=1:=by kernel_rfl
  have k2:Tryz.prog.cellsOf 43=3:=by kernel_rfl
  have k3:Tryz.prog.cellsOf 44=1:=by kernel_rfl
  have g0:Rd enc Tryz.prog w 3 (([x0,x1,x2,x3,x4,x5].drop 0).take (Tryz.prog.cellsOf 3)):=hf 0 _ rfl
  have g1:Rd enc Tryz.prog w 3 (([x0,x1,x2,x3,x4,x5].drop 1).take (Tryz.prog.cellsOf 3)):=hf 1 _ rfl
  have g2:Rd enc Tryz.prog w 43 (([x0,x1,x2,x3,x4,x5].drop 2).take (Tryz.prog.cellsOf 43)):=hf 2 _ rfl
  have g3:Rd enc Tryz.prog w 44 (([x0,x1,x2,x3,x4,x5].drop 5).take (Tryz.prog.cellsOf 44)):=hf 3 _ rfl
  rw [k1] at g0 g1
  rw [k2] at g2
  rw [k3] at g3
  obtain ⟨a,ha,_⟩:=zj9 Tryz.underlying3 g0
  obtain ⟨b,hb,_⟩:=zj9 Tryz.underlying3 g1
  obtain ⟨c,d,e,hc⟩:=ygg g2
  obtain ⟨f,hd,hw⟩:=z7d Tryz.underlying44 g3
  injection ha with ha;injection hb with hb;injection hd with hd
  injection hc with h2 hc;injection hc with h3 hc;injection hc with h4 hc
  subst ha hb h2 h3 h4 hd
  exact ⟨⟨a,b,c,d,e,f⟩,rfl,trivial⟩
theorem z6m {v:Value} {r:Reach} {b0:Nat} {d:DataW H} {ps:List MemPlace} (hv:Value.okWide Tryz.prog w r b0 24 v) (h0:DataW.Trod enc Tryz.prog w 0 (fun _=> true) true 24 v d ps):
  ∃ xs:List Ch,RdS w 6 v xs.length (xs.flatMap Ch.cells):=by
 obtain ⟨xs,h1,h2⟩:=open_list Ch.cells (fun _=> True) Tryz.underlying24 (sz:=6) (by kernel_rfl) (by omega) (fun _=> rfl) (fun es h1 h2=> yf3 h1 h2) hv h0
 exact ⟨xs,h1⟩
end

end

section

open Go.RowKit

attribute [local go_sem ↓] Go.wp_at_zero Go.wp_at_succ

theorem zzm (ao:Option Addr) (n cap:Nat) (m:Nat) (hn:(n:Int)<=9223372036854775807) (w:World):Calls Tryz.prog 16 #[.slice ao n cap,.int .i64 (m:Int)] w fun e w'=> e= .returned (.bool (decide (n<=m)))/\w'=w:=by
 by_cases h:n<=m
 ·rw [decide_eq_true h]
  have h':(n:Int)<=(m:Int):=by omega
  go_enter Tryz.func16,Tryz.ntmps16
  go_wp2_with fail
  go_returns
  exact ⟨rfl,rfl⟩
 ·rw [decide_eq_false h]
  have h':¬ (n:Int)<=(m:Int):=by omega
  go_enter Tryz.func16,Tryz.ntmps16
  go_wp2_with fail
  go_returns
  exact ⟨rfl,rfl⟩
end

end Go.Proofs.YtampacmmhhilaaaGreat
