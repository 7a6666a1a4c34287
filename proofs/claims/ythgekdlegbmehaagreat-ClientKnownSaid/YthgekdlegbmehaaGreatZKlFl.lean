/- Words by a list, for the client's closed laws (left out of the bundles). -/
import Derived.Test.YthgekdlegbmehaaGreatBq45

set_option linter.all false
set_option maxHeartbeats 1000000
namespace Go.Proofs.YthgekdlegbmehaaGreat

open Go.RowKit

attribute [local go_sem ↓] Go.wp_at_zero Go.wp_at_succ

attribute [local go_sem high] zm6 zml zky

def fillW (zs:List Int) (i:Nat):List Int:=zs.take i ++ List.replicate (zs.length - i) 0
theorem fillW_len (zs:List Int) {i:Nat} (h:i<=zs.length):(fillW zs i).length=zs.length:=by unfold fillW;simp;omega
theorem fillW_set (zs:List Int) {i:Nat} (h:i < zs.length):(fillW zs i).set i zs[i]=fillW zs (i + 1):=by
 unfold fillW
 rw [List.set_append_right _ _ (by simp;omega)]
 have e1:i - (zs.take i).length=0:=by simp;omega
 rw [e1,show zs.length - i=(zs.length - (i + 1)) + 1 by omega,List.replicate_succ,List.set_cons_zero,List.take_succ_eq_append_getElem h,List.append_assoc]
 rfl
def memOf (zs:List Int):Mem:=⟨zs,0,⟨0,0,0,0,0,false⟩⟩
def LwFilled (zs:List Int) (w w':World) (e:Ending):Prop:=∃ p b,e= .returned (.pointer (some ⟨p,0,.none⟩))/\zaq w' p b (memOf zs)/\w.heap.size<=p/\w.heap.size<=b/\Below w.heap.size w w'
theorem fill_any (zs:List Int) (v:Value) (w:World) (hr:RdZ .u64 w v zs) (hz:(memOf zs).fit) (hl:zs.length<=2000):
  Calls Tryz.prog 10 #[v] w fun e w'=> LwFilled zs w w' e:=by
 obtain ⟨ao,cap,rfl,hcap,hcm,hcell⟩:=hr.cells
 obtain ⟨n,hn,hn'⟩:=hidv zs.length
 rw [<- hn'] at hcap ⊢
 have hnew:=hd' (z7s n (by omega) w)
 clear hn'
 have hnil:∀ (p:Nat) (W:World),(binOp .neq 39 (.pointer (some ⟨p,0,.none⟩)) (.pointer none)).run Tryz.prog W= .ok (.bool true) W:=fun p W=> by kernel_rfl
 go_enter Tryz.func10,Tryz.ntmps10
 go_wp2_with (first | (go_at_call 26;(with_reducible refine hnew.out.mono ?_);rintro e w1 ⟨p,b,rfl,hw1,hp1,hb1,hB1⟩) | fail)
 go_loopw [4] (fun vi wr=> ∃ i:Nat,i<=n/\vi= .int .i64 i/\zaq wr p b ⟨fillW zs i,0,⟨0,0,0,0,0,false⟩⟩/\Below w.heap.size w wr) (fun vi _=> n - (intOf vi).toNat)
 case atStart=> exact ⟨0,Nat.zero_le _,rfl,by unfold fillW;rw [<- hn.out];exact hw1,hB1⟩
 case round=>
  obtain ⟨i,hi,rfl,hw,hB⟩:=hrel
  by_cases hin:i < n
  ·have hil:(i:Int) < (n:Int):=by omega
   have hi0:(0:Int)<=(i:Int):=by omega
   have hit:i < zs.length:=hn.out ▸ hin
   obtain ⟨bx,ox,rfl,hbx,hcx⟩:=hcell (fun e=> by rw [e] at hit;simp at hit)
   have X0:wr.cell? ⟨bx,ox + i,.none⟩=some (.int .u64 zs[i]):=zai hB _ _ _ (hcx i hit)
   have hput:=z5o p b ⟨fillW zs i,0,⟨0,0,0,0,0,false⟩⟩ i zs[i] wr hw ⟨by omega,by show (i:Int) < ((fillW zs i).length:Int);rw [fillW_len zs (by omega)];omega⟩ (hz _ (List.getElem_mem hit))
   have hset:(fillW zs i).set (i:Int).toNat zs[i]=fillW zs (i + 1):=by rw [Int.toNat_natCast];exact fillW_set zs hit
   dsimp only at hput
   rw [hset] at hput
   replace hput:=hd' hput
   have wi1:IntKind.i64.wrap ((i:Int) + 1)=(i:Int) + 1:=IntWalk.i64_in _ ⟨by omega,by omega⟩
   clear hset hcx hcell hw
   generalize zs[i]=x at *
   go_wp2_with (first | (go_at_call 27;(with_reducible refine hput.out.mono ?_);rintro e w3 ⟨rfl,hw3,ho3⟩) | fail)
   exact ⟨⟨i + 1,by omega,by go_num,hw3,hB.trans (ho3.below hB.size fun k hk=> by rw [hk];exact hb1)⟩,by simp [intOf];omega⟩
  ·have hie:i=n:=by omega
   subst hie
   have hj0:¬ ((i:Int) < (i:Int)):=by omega
   go_wp2_with fail
   go_returns
   have e:fillW zs i=zs:=by unfold fillW;rw [hn.out];simp
   rw [e] at hw
   exact ⟨p,b,rfl,hw,hp1,hb1,hB⟩
theorem cw_new {B:Nat} {W1 W2:World} {q p b:Nat} {s:Sh} {c:Int} {x:Nat} {m:Mem} (hk:KlO (fun i=> W1.heap.size<=i/\i < W2.heap.size) W2 q s (zht c (Fl.zdr x s.p))) (hw:zaq W2 p b m) (hp:p < W1.heap.size) (hb:b < W1.heap.size) (h1:B<=W1.heap.size) (h2:B<=p) (h3:B<=b) (hm:mayB s.p s.c s.m=true) (hc:0<=c/\c < s.c) (hf:Fits s m):
  CW B (fun i=> W1.heap.size<=i/\i < W2.heap.size) W2 q p b s (zht c (Fl.zdr x s.p)) m:=by
 have hbd:=zar.1 hm
 exact ⟨hk,hw,fun e=> by omega,fun e=> by omega,fun i hi=> by omega,h2,h3,z6w hc (Fl.z2u x (by omega)),hf⟩
end Go.Proofs.YthgekdlegbmehaaGreat
