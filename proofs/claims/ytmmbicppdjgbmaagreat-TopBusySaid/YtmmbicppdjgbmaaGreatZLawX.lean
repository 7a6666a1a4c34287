/- A world in memory as a great law has it: what is made behind it is kept; schedules, who lives, who is ready. -/
import Derived.Test.YtmmbicppdjgbmaaGreatBw51

set_option linter.all false
namespace Go.Proofs.YtmmbicppdjgbmaaGreat

open Go.RowKit

theorem uAt{W:World}{k:IntKind}{l:List Int}{q:Option Addr}{f:Nat}(hu:RdZ k W (.slice q l.length f) l){j:Nat}(B:j<l.length):∃ m i,q=some ⟨m,i,.none⟩/\∀ X,jW W X->X.cell? ⟨m,i+j,.none⟩=some (.int k l[j])/\m<X.heap.size:=by
 obtain⟨ao,cap,e,h1,h2,h3,h4⟩:=hu;injection e with r C D;subst r;obtain⟨b,off,t,y,z⟩:=h4 (by omega);refine⟨b,off,t,fun X p=>⟨?_,Nat.lt_of_lt_of_le y p.size⟩⟩;have o:=z j (by omega);rw[List.getElem?_map,List.getElem?_eq_getElem B]at o;exact kA p _ _ _ o
def kpN (Kp:Nat->Obj->Prop) (W W':World):Nat->Obj->Prop:=fun k v=> Kp k v\/(W.heap.size<=k/\W'.heap[k]?=some v)
section

variable {W0 W W' X:World} {g:Nat} {s:Sh} {Kp:Nat->Obj->Prop} {d d':Wd} {n:Nat}

theorem KA.news(h:KA W0 g s Kp d W)(hb:Below W.heap.size W W'):KA W0 g s (kpN Kp W W') d W':=by
 obtain⟨⟨F,x,h1,h2⟩,h3⟩:=h.below hb;obtain⟨⟨j,m,b,f⟩,_⟩:=h;refine⟨⟨j,m,b.below hb,fun i o hi=>?_⟩,h3⟩;rcases hi with hi|⟨hi,l⟩
 ·exact⟨(h2 i o hi).1,(f i o hi).2⟩
 exact⟨l,fun e=>by have:=(b.lt i e).2;omega⟩
theorem KA.yr4(h:KA W0 g s (kpN Kp W W') d X){b o:Nat}(h1:W.heap.size<=b)(h2:b<W'.heap.size):X.cell? ⟨b,o,.none⟩=W'.cell? ⟨b,o,.none⟩/\b<X.heap.size:=by
 obtain⟨v,f⟩:∃ v,W'.heap[b]?=some v:=⟨_,Array.getElem?_eq_getElem h2⟩;have h3:=h.keep (.inr ⟨h1,f⟩);exact⟨World.cell?_of_block (h3.trans f.symm),(jE h3)⟩
theorem yo0(h:KA W0 g s Kp d W)(hb:Below W.heap.size W X)(p:wdOk s d n)(xs:List Ch)(o:n+xs.length<=10000000)(v:Value)(j:OwnC 37 W.heap.size X v xs):
  Calls Tryz.prog 17 #[some g,v] X fun e w'=>e= .returned (.int .i64 (d.play s xs).2)/\KA W0 g s Kp (d.acts s xs) w':=by
 obtain⟨⟨F,x,h1,h2⟩,h3⟩:=h;have h4:=h3.trans (hb.mono h3.size);refine(FZ (h1.below hb) h4.size p xs o v (RdS.AC j) (fun b off cap e m=>by have l:=(j.lt b (by rw[e];rfl)).1;have:=(h1.lt b m).2;omega)).mono fun e w' k=>⟨k.1,?_⟩;rw[<-ZP];exact KA.to h4 (h1.below hb) (fun k v i=>⟨(hb.block k (Array.getElem?_eq_some_iff.1 (h2 k v i).1).1).trans (h2 k v i).1,(h2 k v i).2⟩) k.2
theorem yo7(h:KA W0 g s Kp d W)(b:d.l.length<=100):
  Calls Tryz.prog 19 #[some g] W fun e w'=>∃ v,e= .returned v/\Below W.heap.size W w'/\w'.ownsRow W.heap.size 3 1 v (whoL (fun _=>true) d.l d.l.length).length ((whoL (fun _=>true) d.l d.l.length).map (Value.int .i64)):=by
 obtain⟨⟨F,x,h1,h2⟩,h3⟩:=h;exact EZ h1 b
theorem yne(h:KA W0 g s Kp d W)(b:d.l.length<=100):
  Calls Tryz.prog 22 #[some g] W fun e w'=>∃ v,e= .returned v/\Below W.heap.size W w'/\w'.ownsRow W.heap.size 3 1 v (whoL (fun k=>!k.rests) d.l d.l.length).length ((whoL (fun k=>!k.rests) d.l d.l.length).map (Value.int .i64)):=by
 obtain⟨⟨F,x,h1,h2⟩,h3⟩:=h;exact ycy h1 b
end

end Go.Proofs.YtmmbicppdjgbmaaGreat
