/- The first sentence of the layer: who is started asks, and is answered at once. -/
import Derived.Test.YtampacmmhhilaaaGreatBq48

set_option linter.all false
set_option maxHeartbeats 4000000
set_option maxRecDepth 100000
namespace Go.Proofs.YtampacmmhhilaaaGreat

open Go.RowKit

attribute [local go_sem ↓] Go.wp_at_zero Go.wp_at_succ

def sA:Sh:=⟨1,1,0⟩
def cA:Ch:=⟨1,0,0,0,0,0⟩
def cB:Ch:=⟨2,0,2, -1,0,0⟩
def dA:Wd:=((zde sA).act sA cA).1
def dB:Wd:=(dA.act sA cB).1
theorem yc4:((zde sA).act sA cA).2=0:=by decide +kernel
theorem yeb:(dA.act sA cB).2=0:=by decide +kernel
theorem z5l:dB.tr.length=3/\(dB.tr.flatMap fun e=> e.cells.toList)[16]?=some (.int .i64 5)/\(dB.tr.flatMap fun e=> e.cells.toList)[23]?=some (.int .i64 1):=⟨by decide +kernel,by kernel_rfl,by kernel_rfl⟩
theorem ygl:zrl sA dB 0=1:=by decide +kernel
theorem zn0 (W:World):Calls Tryz.prog 27 #[] W fun e w'=> e= .returned (.bool true)/\Below W.heap.size W w':=by
 have h0:=zl9 (s:=sA) (by decide)
 have h1:wdOk sA dA 1:=zeo h0 cA
 have h2:wdOk sA dB 2:=zeo h1 cB
 have hbeg:Calls Tryz.prog 17 #[.agg #[.int .i64 1,.int .i64 1,.int .i64 0]] W fun e w'=> Below W.heap.size W w'/\∃ g v x,e= .returned (.tuple #[.pointer (some ⟨g,0,.none⟩),.pointer (some ⟨v,0,.none⟩)])/\WdP W.heap.size (fun i=> W.heap.size<=i/\i < w'.heap.size) w' g sA (zde sA) x:=znk sA W (by decide)
 have hnil:∀ (p:Nat) (W:World),(binOp .eql 27 (.pointer (some ⟨p,0,.none⟩)) (.pointer none)).run Tryz.prog W= .ok (.bool false) W:=fun p W=> by kernel_rfl
 have hd1:∀ (F:Nat->Prop) X g x,WdP W.heap.size F X g sA (zde sA) x->W.heap.size<=X.heap.size->Calls Tryz.prog 25 #[.pointer (some ⟨g,0,.none⟩),.agg #[.int .i64 1,.int .i64 0,.int .i64 0,.int .i64 0,.int .i64 0,.float .f64 0]] X fun e w'=> e= .returned (.int .i64 0)/\WdTo W.heap.size F X w' g sA dA:=fun F X g x hx hB=> by
  have h:=zkm hx hB h0 (by omega) cA
  rw [yc4] at h
  exact h
 have hd2:∀ (F:Nat->Prop) X g x,WdP W.heap.size F X g sA dA x->W.heap.size<=X.heap.size->Calls Tryz.prog 25 #[.pointer (some ⟨g,0,.none⟩),.agg #[.int .i64 2,.int .i64 0,.int .i64 2,.int .i64 (-1),.int .i64 0,.float .f64 0]] X fun e w'=> e= .returned (.int .i64 0)/\WdTo W.heap.size F X w' g sA dB:=fun F X g x hx hB=> by
  have h:=zkm hx hB h1 (by omega) cB
  rw [yeb] at h
  exact h
 have htr:∀ (F:Nat->Prop) X g x,WdP W.heap.size F X g sA dB x->Calls Tryz.prog 26 #[.pointer (some ⟨g,0,.none⟩)] X fun e w'=> Below X.heap.size X w'/\∃ b off cap,e= .returned (.slice (some ⟨b,off,.none⟩) 3 cap)/\3<=cap/\(cap:Int)<=9223372036854775807/\w'.cell? ⟨b,off + 16,.none⟩=some (.int .i64 5)/\w'.cell? ⟨b,off + 23,.none⟩=some (.int .i64 1):=fun F X g x hx=> by
  refine (zko hx (by rw [z5l.1];omega)).mono fun e w' ⟨v,h1,h2,h3⟩=> ⟨h2,?_⟩
  obtain ⟨ao,cap,rfl,hc,hm,hl,hr⟩:=RdS.zew h3
  rw [z5l.1] at hc hr h1
  obtain ⟨b,off,rfl,hb,hcell⟩:=hr (by omega)
  exact ⟨b,off,cap,h1,hc,hm,(hcell 16 (by omega)).trans z5l.2.1,(hcell 23 (by omega)).trans z5l.2.2⟩
 have hst:∀ (F:Nat->Prop) X g x,WdP W.heap.size F X g sA dB x->Calls Tryz.prog 31 #[.pointer (some ⟨g,0,.none⟩),.int .i64 0] X fun e w'=> e= .returned (.int .i64 1)/\Below X.heap.size X w':=fun F X g x hx=> by
  have h:=zmv hx h2.fi h2.fit 0
  rw [ygl] at h
  exact h
 replace hbeg:=hd' hbeg
 replace hd1:=hd' hd1
 replace hd2:=hd' hd2
 replace htr:=hd' htr
 replace hst:=hd' hst
 clear h0 h1 h2
 go_enter Tryz.func27,Tryz.ntmps27
 go_wp2_with (first
  | (go_at_call 17;(with_reducible refine hbeg.out.mono ?_);rintro r w1 ⟨hb1,g,v,x,rfl,hx1⟩;have hs1:=hb1.size)
  | (go_at_call 25;(with_reducible refine (hd1.out _ _ _ _ hx1 hs1).mono ?_);rintro r w2 ⟨rfl,⟨x2,hx2⟩,ho2,hs2⟩)
  | (go_at_call 25;(with_reducible refine (hd2.out _ _ _ _ hx2 hs2).mono ?_);rintro r w3 ⟨rfl,⟨x3,hx3⟩,ho3,hs3⟩)
  | (go_at_call 26;(with_reducible refine (htr.out _ _ _ _ hx3).mono ?_);rintro r w4 ⟨hb4,b,off,cap,rfl,hc1,hc2,y16,y23⟩;have hx4:=hx3.below hb4)
  | (go_at_call 31;(with_reducible refine (hst.out _ _ _ _ hx4).mono ?_);rintro r w5 ⟨rfl,hb5⟩)
  | fail)
 go_returns
 have b2:Below W.heap.size w1 w2:=ho2.below hs1 (fun i hi=> hi.1)
 have b3:Below W.heap.size w2 w3:=ho3.below hs2 (fun i hi=> (hx2.lt i hi).1)
 have h4:=hb4.size
 exact ⟨rfl,hb1.trans (b2.trans (b3.trans ((hb4.mono hs3).trans (hb5.mono (by omega)))))⟩
end Go.Proofs.YtampacmmhhilaaaGreat
