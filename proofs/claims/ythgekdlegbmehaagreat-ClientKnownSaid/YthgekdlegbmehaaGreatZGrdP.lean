/- A guarded call that panics. -/
import Derived.Test.YthgekdlegbmehaaGreatZKlPa

set_option linter.all false
namespace Go.Proofs.YthgekdlegbmehaaGreat

open Go.RowKit

attribute [local go_sem ↓] Go.wp_at_zero Go.wp_at_succ

attribute [local go_sem high] zm6 zml zky

theorem catch_panicking (p:Addr) (x:Bool) (u:TypeId) (pv:Value) (older:List PanicEntry) (w:World) (hc:w.cell? p=some (.bool x)) (hz:w.frozen? p=false):
  CallsD Tryz.prog 42 #[.pointer (some p)] (.panicking ({ v:= .iface u pv,recovered:=false }::older)) w fun e u' w'=>
   e= .returned (.tuple #[])/\u'= .panicking ({ v:= .iface u pv,recovered:=true }::older)/\w'=w.setCell p (.bool false):=by
 refine callsD_of_wpS Tryz.func42 rfl fun c₀ cs hu=> ?_
 apply wpS_seq
 apply wpS_region
 simp [wpOpsS,go_sem,recoverD,hu,Tryz.ntmps42,Exit.thenS]
 refine wpS_cond (t:=true) (by simp [Act.eval,Array.replicate]) ?_
 simp only [if_true]
 apply wpS_region
 simp [wpOpsS,go_sem,hc,hz,bodyPostS,results,Tryz.results42]
theorem guard_panics (B1 B2:Nat) (w:World) {Q:World->Prop} {u:TypeId} {pv:Value}
  (h:Calls Tryz.prog 23 #[.pointer (some ⟨B1,0,.none⟩),.pointer (some ⟨B2,0,.none⟩)] (w.alloc (.cells #[.bool false] 4)) fun e w'=> e= .panicked [{ v:= .iface u pv,recovered:=false }]/\Q w'/\zaa w' w.heap.size #[.bool false] 4):
  Calls Tryz.prog 22 #[.func (.func 23) #[] #[.pointer (some ⟨B1,0,.none⟩),.pointer (some ⟨B2,0,.none⟩)]] w fun e w'=> e= .returned (.bool false)/\∃ Y,Q Y/\w'=Y.setCell ⟨w.heap.size,0,.none⟩ (.bool false):=by
 have hmf:∀ (fn:Fn) (first cap:Array Value) (w:World),(Instr.makeFunc fn first cap).run Tryz.prog w= .ok (.func fn first cap) w:=fun _ _ _ _=> rfl
 replace h:=hd' h
 go_enter_defers Tryz.func22,Tryz.ntmps22
 have heq:∀ W:World,(binOp .eql 1 (.func (.func 23) #[] #[.pointer (some ⟨B1,0,.none⟩),.pointer (some ⟨B2,0,.none⟩)]) .nilFunc).run Tryz.prog W= .ok (.bool false) W:=fun W=> by kernel_rfl
 go_upto_region 1 with fail
 generalize hX:w.alloc (.cells #[.bool false] 4)=X at *
 obtain ⟨E,hE,hE'⟩:=hidv w.heap.size
 simp only [<- hE'] at h ⊢
 clear hE' hX
 go_wp2_with (first | (go_at_call 23;(with_reducible refine h.out.mono ?_);rintro r w1 ⟨rfl,hQ,hr⟩;have c0:=ce (.bool false) (hr.cell 0);have fz:=zax hr) | fail)
 refine leaves_cons (f:=42) (args:= #[.pointer (some ⟨E,0,.none⟩)]) (by simp) (by simp [go_sem]) ?_
 refine (catch_panicking ⟨E,0,.none⟩ false u pv [] _ c0 (fz 0)).mono ?_
 rintro e u' w'' ⟨rfl,rfl,rfl⟩
 have hr2:=hr.set 0 (.bool false)
 have c1:=ce (.bool false) (hr2.cell 0)
 rw [<- hE.out]
 generalize hZ:w1.setCell ⟨E,0,.none⟩ (.bool false)=Z at *
 have hfin:∃ Y,Q Y/\Z=Y.setCell ⟨E,0,.none⟩ (.bool false):=⟨w1,hQ,hZ.symm⟩
 clear hZ
 simp [Leaves,settle,results,Tryz.results22,go_sem,c1]
 exact hfin
end Go.Proofs.YthgekdlegbmehaaGreat
