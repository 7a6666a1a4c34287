/- Lemmas for the claim. -/
import Derived.Test.YtkilokkopbajkaaGreatBw39

set_option linter.all false
namespace Go.Proofs.YtkilokkopbajkaaGreat

section

open Go.RowKit

section

variable {W0 W W':World} {g:Nat} {s:Sh} {Kp Kq:Nat->Obj->Prop} {d d':Wd} {n:Nat}

theorem WR(h:BA W0 g s Kp d W)(b:d.tr.length<=100000000):
  Calls Tryz.prog 26 #[some g] W fun e w'=>∃ v',e= .returned v'/\Below W.heap.size W w'/\w'.ownsRow W.heap.size 62 8 v' d.tr.length (d.tr.flatMap fun e=>e.cells.toList):=by
 obtain⟨⟨F,x,h1,h2⟩,h3⟩:=h;exact UO h1 b
end

end

section

open Go.RowKit

def kpF (Kp:Nat->Obj->Prop) (Fb:Nat->Prop) (W:World):Nat->Obj->Prop:=fun k v=> Kp k v\/(Fb k/\W.heap[k]?=some v)
section

variable {W0 W X:World} {g:Nat} {s:Sh} {Kp:Nat->Obj->Prop} {Fb Fb':Nat->Prop} {d d':Wd}

theorem BA.blk(h:BA W0 g s (kpF Kp Fb W) d X){k:Nat}(b:Fb k)(f:k<W.heap.size):X.heap[k]?=W.heap[k]?:=by
 have h1:W.heap[k]?=some (W.heap[k]):=Array.getElem?_eq_getElem f;exact(h.keep (.inr ⟨b,h1⟩)).trans h1.symm
theorem BA.on(h:BA W0 g s (kpF Kp Fb W) d X)(f:∀ k,Fb k->k<W.heap.size):BA W0 g s (kpF Kp Fb X) d X:=
 h.imp fun k v b=>by
  rcases b with b|⟨h1,h2⟩
  ·exact .inl b
  ·exact .inr ⟨h1,by rw[<-h.blk h1 (f k h1)];exact h2⟩
theorem BA.own(h:BA W0 g s (kpF Kp Fb W) d W)(j:Only Fb W X)(f:∀ k,Fb k->W0.heap.size<=k/\k<W.heap.size)(hd:∀ k v,Kp k v->¬ Fb k)(i:∀ k,Fb' k->Fb k\/W.heap.size<=k):BA W0 g s (kpF Kp Fb' X) d X:=by
 refine h.other (G:=Fb) j (fun k b=>⟨(f k b).1,_,.inr ⟨b,Array.getElem?_eq_getElem (f k b).2⟩⟩) fun k v b=>?_;rcases b with b|⟨h1,h2⟩
 ·exact .inl ⟨.inl b,hd k v b⟩
 exact .inr ⟨i k h1,h2⟩
theorem BA.born(h:BA W0 g s Kp d W)(hb:Below W.heap.size W X)(l:∀ k,Fb k->W.heap.size<=k):BA W0 g s (kpF Kp Fb X) d X:=by
 obtain⟨⟨F,x,h1,h2⟩,h3⟩:=h.below hb;obtain⟨⟨j,p,b,f⟩,_⟩:=h;refine⟨⟨j,p,b.below hb,fun i o hi=>?_⟩,h3⟩;rcases hi with hi|⟨hi,m⟩
 ·exact⟨(h2 i o hi).1,(f i o hi).2⟩
 exact⟨m,fun e=>by have:=(b.lt i e).2;have:=l i hi;omega⟩
theorem BA.low(h:BA W0 g s (kpF Kp Fb W) d X):BA W0 g s Kp d X:=h.imp fun _ _ b=>.inl b
end

end

end Go.Proofs.YtkilokkopbajkaaGreat
