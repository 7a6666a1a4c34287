/- Lemmas for the claim. -/
import Derived.Test.YtkilokkopbajkaaGreatBw44

set_option linter.all false
namespace Go.Proofs.YtkilokkopbajkaaGreat

theorem ymo{s:Sh}{d:Wd}{l:List Ch}{i:Nat}(h:i<l.length):d.acts s (l.take (i+1))=((d.acts s (l.take i)).act s l[i]).1:=by
 rw[List.take_succ_eq_append_getElem h];generalize l.take i=a;induction a generalizing d with
 |nil=>rfl
 |cons x a b=>exact b
variable {s:Sh} {d:Wd} {n:Nat}

end Go.Proofs.YtkilokkopbajkaaGreat
