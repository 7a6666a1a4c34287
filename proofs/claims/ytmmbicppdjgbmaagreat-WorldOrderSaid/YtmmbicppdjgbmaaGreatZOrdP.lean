/- What a judge heard in order are numbers that fit. Plain. -/
import Derived.Test.YtmmbicppdjgbmaaGreatBw44

set_option linter.all false
namespace Go.Proofs.YtmmbicppdjgbmaaGreat

theorem yrq(J:Jd)(e:Ev):(CA J e).W=J.W:=by
 unfold CA;split
 ·rfl
 split<;>rfl
theorem yrv(J:Jd)(es:List Ev):(runJ J es).W=J.W:=by
 induction es generalizing J with
 |nil=>rfl
 |cons e es b=>rw[dI,b,yrq]
theorem yr0{p c m:Int}(b:mayB p c m=true):(newJ p c m).W<=10000:=by
 have:=LA.1 b;unfold newJ;rw[jP b];show p*64<=10000;omega
theorem yqg{p c m:Int}(o:mayB p c m=true){es:List Ev}(h:(runJ (newJ p c m) es).why=0):∀ e ∈ es,e.k=3->e.fit:=fun e l n=>by
 obtain⟨i,hi,rfl⟩:=List.getElem_of_mem l
 have h1:(CA (runJ (newJ p c m) (es.take i)) es[i]).why=0:=by
  rw[<-List.take_append_drop (i+1) es,ZF]at h
  have h2:=YE h
  rwa [List.take_succ_eq_append_getElem hi,wH]at h2
 have h0:(runJ (newJ p c m) (es.take i)).why=0:=YE (es:= [es[i]]) h1
 have f:=(KN h0 h1 n).1
 have j:=yr0 o
 rw[<-yrv _ (es.take i)]at j
 generalize runJ (newJ p c m) (es.take i)=J at *
 unfold DC at f
 split at f
 ·cases f
 split at f
 ·rename_i b
  unfold iB xE at b
  have h3:=of_decide_eq_true (Bool.and_eq_true_iff.1 b).1
  unfold Ev.fit
  omega
 ·cases f
end Go.Proofs.YtmmbicppdjgbmaaGreat
