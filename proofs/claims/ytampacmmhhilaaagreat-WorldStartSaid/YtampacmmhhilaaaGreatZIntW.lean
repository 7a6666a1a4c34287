/- Two equal rows of numbers: the walk of the law's Ints. -/
import Derived.Test.YtampacmmhhilaaaGreatBq49

set_option linter.all false
namespace Go.Proofs.YtampacmmhhilaaaGreat

open Go.RowKit

attribute [local go_sem ↓] Go.wp_at_zero Go.wp_at_succ

theorem yc9 (xs:List Int) (v u:Value) (w:World) (hx:RdZ .i64 w v xs) (hy:RdZ .i64 w u xs):
  Calls Tryz.prog 46 #[v,u] w fun e w'=> e= .returned (.bool true)/\Below w.heap.size w w':=by
 obtain ⟨ax,cx,rfl,hcx,hmx,hrx⟩:=hx.cells
 obtain ⟨ay,cy,rfl,hcy,hmy,hry⟩:=hy.cells
 obtain ⟨n,hn,hn'⟩:=hidv xs.length
 rw [<- hn'] at hcx hcy ⊢
 have hlN:n<=9223372036854775807:=by omega
 clear hn'
 go_enter Tryz.func46,Tryz.ntmps46
 go_wp2
 go_loopw [5] (fun v5 wr=> ∃ j:Nat,j<=n/\v5= .int .i64 j/\Below w.heap.size w wr) (fun v5 _=> n - (intOf v5).toNat)
 case atStart=> exact ⟨0,Nat.zero_le _,rfl,Below.refl _ _⟩
 case round=>
  obtain ⟨j,hj,rfl,hbr⟩:=hrel
  by_cases hjn:j < n
  ·have hjl:(j:Int) < (n:Int):=by omega
   have hj0:(0:Int)<=(j:Int):=by omega
   have hjt:j < xs.length:=hn.out ▸ hjn
   obtain ⟨bx,ox,rfl,hbx,hcx'⟩:=hrx (fun h=> by subst h;simp at hjt)
   obtain ⟨by',oy,rfl,hby,hcy'⟩:=hry (fun h=> by subst h;simp at hjt)
   have X0:wr.cell? ⟨bx,ox + j,.none⟩=some (.int .i64 xs[j]):=zai hbr _ _ _ (hcx' j hjt)
   have Y0:wr.cell? ⟨by',oy + j,.none⟩=some (.int .i64 xs[j]):=zai hbr _ _ _ (hcy' j hjt)
   have wi1:IntKind.i64.wrap ((j:Int) + 1)=(j:Int) + 1:=IntWalk.i64_in _ ⟨by omega,by omega⟩
   clear hcx' hcy' hrx hry
   generalize xs[j]=a at *
   have hD:=fun n=> below_drewN hbr n
   go_wp2
   go_quiet (fail)
   go_wp2
   exact ⟨⟨j + 1,by omega,by go_num,hD _⟩,by simp [intOf];omega⟩
  ·have hje:j=n:=by omega
   subst hje
   have hj0:¬ ((j:Int) < (j:Int)):=by omega
   go_wp2
   go_ret
   exact ⟨rfl,hbr⟩
end Go.Proofs.YtampacmmhhilaaaGreat
