/- Opening a row of operations. -/
import Derived.Test.YtmmbicppdjgbmaaGreatBw39

set_option linter.all false
set_option maxRecDepth 20000
namespace Go.Proofs.YtmmbicppdjgbmaaGreat

open Go.RowKit Go.ChangeShapes Go.WideShapes Go.ChangeAt

def Op3.cells (o:Op3):List Value:= [.int .i64 o.k,.int .i64 o.a,.int .i64 o.n]
section

variable {H:Type} {enc:TypeId × Value->H} {w:World}

theorem ypu{v:Value}{r:Reach}{f:Nat}{d:DataW H}{ps:List MemPlace}(i:Value.okWide Tryz.prog w r f 49 v)(h0:DataW.Trod enc Tryz.prog w 0 (fun _=>true) true 49 v d ps):
  ∃ xs:List Op3,RdS w 3 v xs.length (xs.flatMap Op3.cells):=by
 obtain⟨xs,h1,_⟩:=open_list Op3.cells (fun _=>True) Tryz.underlying49 (sz:=3) (by kernel_rfl) (by omega) (fun _=>rfl) (fun es _ h2=>by
  obtain⟨a,b,c,rfl⟩:=JQ h2
  exact⟨⟨a,b,c⟩,rfl,trivial⟩) i h0
 exact⟨xs,h1⟩
end

theorem opAt{W:World}{xs:List Op3}{ao:Option Addr}{n cap:Nat}(E:n=xs.length)(z:RdS W 3 (.slice ao n cap) n (xs.flatMap Op3.cells)){i:Nat}(hi:i<xs.length):∃ f b,ao=some ⟨f,b,.none⟩/\∀ X,jW W X->(∀ k,k<3->X.cell? ⟨f,b+i*3+k,.none⟩=xs[i].cells[k]?)/\f<X.heap.size:=by
 obtain⟨r,o,e,q,t,D,l⟩:=z;injection e with s B C;subst s;obtain⟨f,b,rfl,m,j⟩:=l (by omega);refine⟨f,b,rfl,fun X hb=>⟨fun k y=>?_,by have:=hb.size;omega⟩⟩;have h1:X.cell? ⟨f,b+i*3+k,.none⟩=W.cell? ⟨f,b+i*3+k,.none⟩:=hb.cell (p:=⟨f,_,.none⟩) m;rw[h1,Nat.add_assoc,j _ (by omega)];exact NJ Op3.cells 3 (fun _=>rfl) xs i k hi y
end Go.Proofs.YtmmbicppdjgbmaaGreat
