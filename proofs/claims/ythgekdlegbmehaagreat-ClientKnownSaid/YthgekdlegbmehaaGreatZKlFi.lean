/- Where a client's scans begin. -/
import Derived.Test.YthgekdlegbmehaaGreatBq33

set_option linter.all false
namespace Go.Proofs.YthgekdlegbmehaaGreat

open Go.RowKit

attribute [local go_sem ↓] Go.wp_at_zero Go.wp_at_succ

attribute [local go_sem high] zm6 zml zky

theorem klfirst_any {F:Nat->Prop} {w:World} {q:Nat} {s:Sh} {k:Kl} (h:KlO F w q s k):Calls Tryz.prog 6 #[.pointer (some ⟨q,0,.none⟩)] w fun e w'=> e= .returned (.int .i64 k.first)/\w'=w:=by
 obtain ⟨_,_,sp,sl,jv,G,hrow,_⟩:=h
 have c4:=ci k.first (hrow.cell 4)
 clear hrow
 go_enter Tryz.func6,Tryz.ntmps6
 go_wp2_with fail
 go_returns
 exact ⟨rfl,rfl⟩
end Go.Proofs.YthgekdlegbmehaaGreat
