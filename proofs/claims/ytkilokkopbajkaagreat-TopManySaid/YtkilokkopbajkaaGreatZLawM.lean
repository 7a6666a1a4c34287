/- A world and the reference's model beside it, in memory. -/
import Derived.Test.YtkilokkopbajkaaGreatBw42

import Derived.Test.YtkilokkopbajkaaGreatBw47

set_option linter.all false
namespace Go.Proofs.YtkilokkopbajkaaGreat

open Go.RowKit

def LawM (W0:World) (g:Nat) (s:Sh) (Kp:Nat->Obj->Prop) (d:Wd) (ms:Nat) (Wc:Int) (l:List Bk) (W:World):Prop:=
 ∃ sl,RM W0.heap.size W ms sl Wc l/\BA W0 g s (kpF Kp (foot ms sl) W) d W/\∀ k v,Kp k v->¬ foot ms sl k
section

variable {W0 W W' X:World} {g ms:Nat} {s:Sh} {Kp Kq:Nat->Obj->Prop} {d d':Wd} {Wc:Int} {l:List Bk} {n:Nat}

theorem VI{B:Nat}{sl:Value}(h:RM B W ms sl Wc l):∀ k,foot ms sl k->B<=k/\k<W.heap.size:=fun k b=>by
 rcases b with rfl|b
 ·exact⟨h.lies,h.lt⟩
 ·exact h.lF k b
theorem LawM.law(h:LawM W0 g s Kp d ms Wc l W):BA W0 g s Kp d W:=by
 obtain⟨sl,_,h2,_⟩:=h;exact h2.low
theorem LawM.imp(h:LawM W0 g s Kp d ms Wc l W)(f:∀ k v,Kq k v->Kp k v):LawM W0 g s Kq d ms Wc l W:=by
 obtain⟨sl,h1,h2,h3⟩:=h;exact⟨sl,h1,h2.imp fun k v b=>b.imp (f k v) id,fun k v b=>h3 k v (f k v b)⟩
theorem LawM.news(h:LawM W0 g s Kp d ms Wc l W)(hb:Below W.heap.size W W'):LawM W0 g s (kpN Kp W W') d ms Wc l W':=by
 obtain⟨sl,h1,h2,h3⟩:=h;have i:=VI h1;refine⟨sl,h1.below hb,(h2.news hb).imp fun k v b=>?_,fun k v b f=>?_⟩
 ·rcases b with(b|b)|⟨f,j⟩
  ·exact .inl (.inl b)
  ·exact .inr b
  exact .inl (.inr ⟨f,by rw[<-hb.block k (i k f).2];exact j⟩)
 rcases b with b|⟨b,_⟩
 ·exact h3 k v b f
 have:=(i k f).2;omega
theorem LawM.below(h:LawM W0 g s Kp d ms Wc l W)(hb:Below W.heap.size W W'):LawM W0 g s Kp d ms Wc l W':=(h.news hb).imp fun _ _ b=>.inl b
theorem yoi(h:BA W0 g s Kp d W)(n:Int):
  Calls Tryz.prog 22 #[n] W fun e w'=>∃ ms,e= .returned (.pointer (some ⟨ms,0,.none⟩))/\LawM W0 g s Kp d ms (capW n) [] w':=
 (pR n W).mono fun e w' ⟨k1,o,b⟩=>⟨_,k1,.slice none 0 0,by
  have j:=h.ab.size
  exact⟨Nat.le_trans j b.lies,b.head,⟨rfl,.inl ⟨rfl,rfl⟩⟩,b.apart,b.ok,b.small⟩,h.born o fun k i=>(VI b k i).1,fun k v i m=>by
  have:=(jE (h.keep i))
  have:=(VI b k m).1
  omega⟩
theorem LawM.step{sl b:Value}{l':List Bk}(h1:RM W0.heap.size W ms sl Wc l)(h2:BA W0 g s (kpF Kp (foot ms sl) W) d W)(h3:∀ k v,Kp k v->¬ foot ms sl k)(m:RM W0.heap.size W' ms b Wc l')(o:Only (foot ms sl) W W')(i:∀ k,foot ms b k->foot ms sl k\/W.heap.size<=k):LawM W0 g s Kp d ms Wc l' W':=by
 refine⟨b,m,h2.own o (VI h1) h3 i,fun k v j f=>?_⟩;rcases i k f with h|h
 ·exact h3 k v j h
 have:=(jE (h2.keep (.inl j)));omega
theorem yob(h:LawM W0 g s Kp d ms Wc l W)(at' n:Int)(b:AB Wc l at' n=true):
  Calls Tryz.prog 28 #[some ms,at',n] W fun e w'=>e= .returned (.bool true)/\LawM W0 g s Kp d ms Wc (putB l at' n) w':=by
 obtain⟨sl,h1,h2,h3⟩:=h;have hs:=h1.small;have p:1<=n/\0<=at'/\at'<=Wc/\n<=Wc-at':=by unfold AB DF at b;have:=of_decide_eq_true (Bool.and_eq_true_iff.1 b).1;omega
 refine(iR h1 at' n (by omega) (by omega) (by omega) (by omega)).mono fun e w' ⟨k1,o,i,j,m⟩=>?_;rw[b]at k1;rw[yN b]at i;exact⟨k1,LawM.step h1 h2 h3 i j m⟩
theorem ynw(h:LawM W0 g s Kp d ms Wc l W):
  Calls Tryz.prog 40 #[some ms] W fun e w'=>e= .returned (.int .i64 (MB l))/\Below W.heap.size W w':=by
 obtain⟨sl,h1,_,_⟩:=h;exact yjl h1
theorem yru(h:LawM W0 g s Kp d ms Wc l W)(y:wdOk s d n)(t:n<=30000000)(o m p i cn:Int)(j:Nat):
  Calls Tryz.prog 11 #[some g,.agg #[o,m,p,i,cn,.float .f64 j]] W fun e w'=>e= .returned (.int .i64 (d.act s ⟨o,m,p,i,cn,j⟩).2)/\LawM W0 g s Kp (d.act s ⟨o,m,p,i,cn,j⟩).1 ms Wc l w':=by
 obtain⟨sl,h1,h2,h3⟩:=h;have b:=VI h1;exact(fG h2 y t o m p i cn j).mono fun e w' ⟨k1,r⟩=>⟨k1,sl,h1.blocks fun k q=>r.blk q (b k q).2,r.on fun k q=>(b k q).2,h3⟩
end

end Go.Proofs.YtkilokkopbajkaaGreat
