/- The closed law of the client: its values, and each call as the law meets it. -/
import Derived.Test.YthgekdlegbmehaaGreatZKlPb

import Derived.Test.YthgekdlegbmehaaGreatZKlFl

set_option linter.all false
namespace Go.Proofs.YthgekdlegbmehaaGreat

open Go.RowKit

def Kn.s:Sh:=⟨2,2,0⟩
theorem Kn.first:Fl.zdr 4602678819172646912 2=1:=by decide +kernel
def Kn.bad (o:Op3):Prop:=1<=o.k/\o.k<=4/\ziu Kn.s 1 o.k o.a o.n=true
structure Kn.Rest (k:Kl):Prop where
 job:k.job=none
 c:k.c=1
 first:k.first=1
theorem Kn.once {k:Kl} {o:Op3} (h:Kn.Rest k) (ho:Kn.bad o):k.invoke Kn.s o=({ k with op:=o,told:=false,steps:=0 }, [zbh 1 o,zaf 1 o 0 (zjw Kn.s 1 o.k o.a o.n)],0):=by
 unfold Kl.invoke
 have hr:k.rests=true:=by unfold Kl.rests;rw [h.job];rfl
 rw [if_neg (by rw [hr];decide),if_neg (by have:=ho.1;have:=ho.2.1;omega),h.c,if_pos ho.2.2]
theorem Kn.zero {k:Kl} (h:Kn.Rest k):k.invoke Kn.s ⟨0,0,0⟩=(k, [],1):=by
 unfold Kl.invoke
 have hr:k.rests=true:=by unfold Kl.rests;rw [h.job];rfl
 rw [if_neg (by rw [hr];decide),if_pos (by decide)]
theorem Kn.asks {k:Kl} (h:Kn.Rest k):k.invoke Kn.s ⟨2,3,0⟩=({ k with op:=⟨2,3,0⟩,told:=false,steps:=0,job:=some (.fre (zc2 Kn.s 1 3)) }, [zbh 1 ⟨2,3,0⟩],0):=by
 unfold Kl.invoke
 have hr:k.rests=true:=by unfold Kl.rests;rw [h.job];rfl
 rw [if_neg (by rw [hr];decide),if_neg (by decide),h.c,if_neg (by decide +kernel)]
 rfl
theorem Kn.busy {k:Kl} {j:Jb} (h:k.job=some j) (o:Op3):k.invoke Kn.s o=(k, [],4):=by
 unfold Kl.invoke
 rw [if_pos (by unfold Kl.rests;rw [h];rfl)]
theorem own_open {W:World} {B n:Nat} {E:TypeId} {v:Value} {xs:List Value} (h:W.ownsRow B E 8 v n xs) (hn:n≠0):∃ g cap cur,v= .slice (some ⟨g,0,.none⟩) n cap/\B<=g/\n<=cap/\zaa W g cur E/\∀ i,i < n * 8->cur[i]?=xs[i]?:=by
 rcases h.2 with ⟨_,h⟩ | ⟨g,cap,cur,rfl,h1,h2,h3,h4,h5,h6⟩
 ·exact absurd h hn
 ·refine ⟨g,cap,cur,rfl,h1,h3,h2,fun i hi=> ?_⟩
  rw [<- h6,List.getElem?_take_of_lt hi,Array.getElem?_toList]
theorem kn_ask {F:Nat->Prop} {W:World} {q:Nat} {k:Kl} (h:KlO F W q Kn.s k) (hk:Kn.Rest k) (o:Op3) (ho:Kn.bad o):
  Calls Tryz.prog 7 #[.pointer (some ⟨q,0,.none⟩),.agg #[.int .i64 o.k,.int .i64 o.a,.int .i64 o.n]] W fun r w'=> ∃ g cap cur k',r= .returned (.tuple #[.slice (some ⟨g,0,.none⟩) 2 cap,.int .i64 0])/\W.heap.size<=g/\2<=cap/\zaa w' g cur 37/\cur[8]?=some (.int .i64 5)/\cur[15]?=some (.int .i64 (zjw Kn.s 1 o.k o.a o.n))/\KlO F w' q Kn.s k'/\Kn.Rest k'/\Only F W w'/\¬ F g:=
 (z3l h).mono fun r w' hA=> by
  obtain ⟨⟨v,e,hv⟩,_,ho2,h0⟩:=hA
  rw [Kn.once hk ho] at e hv h0
  obtain ⟨g,cap,cur,rfl,h1,h2,h3,h4⟩:=own_open (n:=2) hv (by decide)
  exact ⟨g,cap,cur,_,e,h1,h2,h3,h4 8 (by decide),h4 15 (by decide),h0 hk.job,⟨hk.job,hk.c,hk.first⟩,ho2,fun hg=> by have:=h.lt g hg;omega⟩
theorem kn_zero {F:Nat->Prop} {W:World} {q:Nat} {k:Kl} (h:KlO F W q Kn.s k) (hk:Kn.Rest k):
  Calls Tryz.prog 7 #[.pointer (some ⟨q,0,.none⟩),.agg #[.int .i64 0,.int .i64 0,.int .i64 0]] W fun r w'=> ∃ v,r= .returned (.tuple #[v,.int .i64 1])/\KlO F w' q Kn.s k/\Only F W w':=
 (z3l (o:=⟨0,0,0⟩) h).mono fun r w' hA=> by
  obtain ⟨⟨v,e,hv⟩,_,ho2,h0⟩:=hA
  rw [Kn.zero hk] at e h0
  exact ⟨v,e,h0 hk.job,ho2⟩
theorem kn_free {F:Nat->Prop} {W:World} {q:Nat} {k:Kl} (h:KlO F W q Kn.s k) (hk:Kn.Rest k):
  Calls Tryz.prog 7 #[.pointer (some ⟨q,0,.none⟩),.agg #[.int .i64 2,.int .i64 3,.int .i64 0]] W fun r w'=> ∃ v,r= .returned (.tuple #[v,.int .i64 0])/\KlO (grow F W w') w' q Kn.s { k with op:=⟨2,3,0⟩,told:=false,steps:=0,job:=some (.fre (zc2 Kn.s 1 3)) }/\Only F W w':=
 (z3l (o:=⟨2,3,0⟩) h).mono fun r w' hA=> by
  obtain ⟨⟨v,e,hv⟩,h1,ho2,_⟩:=hA
  rw [Kn.asks hk] at e h1
  exact ⟨v,e,h1,ho2⟩
theorem kn_busy {F:Nat->Prop} {W:World} {q:Nat} {k:Kl} {j:Jb} (h:KlO F W q Kn.s k) (hk:k.job=some j):
  Calls Tryz.prog 7 #[.pointer (some ⟨q,0,.none⟩),.agg #[.int .i64 2,.int .i64 3,.int .i64 0]] W fun r w'=> ∃ v,r= .returned (.tuple #[v,.int .i64 4])/\KlO (grow F W w') w' q Kn.s k/\Only F W w':=
 (z3l (o:=⟨2,3,0⟩) h).mono fun r w' hA=> by
  obtain ⟨⟨v,e,hv⟩,h1,ho2,_⟩:=hA
  rw [Kn.busy hk] at e h1
  exact ⟨v,e,h1,ho2⟩
theorem kn_step {F:Nat->Prop} {W:World} {q p b:Nat} {k:Kl} {m:Mem} (h:KlO F W q Kn.s k) (hk:Kn.Rest k) (hw:zaq W p b m):
  Calls Tryz.prog 9 #[.pointer (some ⟨q,0,.none⟩),.pointer (some ⟨p,0,.none⟩)] W fun r w'=> ∃ v,r= .returned (.tuple #[v,.int .i64 2])/\KlO (grow F W w') w' q Kn.s k/\Only (fun i=> F i\/i=p\/i=b) W w':=
 (zuq h hw hk.job).mono fun r w' hA=> by
  obtain ⟨⟨v,e,hv⟩,_,h1,ho2⟩:=hA
  have hr:k.step Kn.s m=(k,m, [],2):=by unfold Kl.step;rw [hk.job]
  rw [hr] at e h1
  exact ⟨v,e,h1,ho2⟩
theorem kn_dies {F:Nat->Prop} {W:World} {q p b:Nat} {k:Kl} (h:KlO F W q Kn.s k) (hj:k.job=some (.fre (zc2 Kn.s 1 3))) (hw:zaq W p b (memOf [])) (hp:¬ F p) (hb:¬ F b):
  Calls Tryz.prog 9 #[.pointer (some ⟨q,0,.none⟩),.pointer (some ⟨p,0,.none⟩)] W fun r w'=> ∃ g cap cur,r= .returned (.tuple #[.slice (some ⟨g,0,.none⟩) 1 cap,.int .i64 0])/\W.heap.size<=g/\1<=cap/\zaa w' g cur 37/\cur[7]?=some (.int .i64 8)/\KlO (grow F W w') w' q Kn.s { k with job:=none }/\Only (fun i=> F i\/i=p\/i=b) W w':=
 (klstep_dies h hw hp hb hj (fun a ha=> by
  have h1:=ha.1
  have h2:a < ((([]:List Int).length:Nat):Int):=ha.2
  simp at h2;omega) (by decide +kernel) (by decide +kernel) rfl).mono fun r w' hA=> by
  obtain ⟨⟨v,e,hv⟩,_,h1,ho2⟩:=hA
  obtain ⟨g,cap,cur,rfl,h3,h4,h5,h6⟩:=own_open (n:=1) hv (by decide)
  exact ⟨g,cap,cur,e,h3,h4,h5,h6 7 (by decide),h1,ho2⟩
theorem kn_fill (W:World):Calls Tryz.prog 10 #[.slice none 0 0] W fun e w'=> LwFilled [] W w' e:=
 fill_any [] _ W ⟨none,0,rfl,Nat.le_refl _,by decide,rfl,fun h=> absurd rfl h⟩ (fun x hx=> by cases hx) (by decide)
theorem kn_new (W:World):Calls Tryz.prog 5 #[.agg #[.int .i64 2,.int .i64 2,.int .i64 0],.int .i64 1,.float .f64 4602678819172646912] W fun e w'=> ∃ q,e= .returned (.pointer (some ⟨q,0,.none⟩))/\KlO (fun i=> W.heap.size<=i/\i < w'.heap.size) w' q Kn.s (zht 1 1)/\Below W.heap.size W w':=
 (z0k Kn.s 1 4602678819172646912 W (by decide)).mono fun e w' ⟨h1,h2⟩=> by
  rw [if_neg (by decide)] at h2
  obtain ⟨q,e,h3⟩:=h2
  rw [show Fl.zdr 4602678819172646912 Kn.s.p=1 from Kn.first] at h3
  exact ⟨q,e,h3,h1⟩
theorem kn_nil (W:World):Calls Tryz.prog 5 #[.agg #[.int .i64 2,.int .i64 2,.int .i64 0],.int .i64 2,.float .f64 0] W fun e w'=> e= .returned (.pointer none)/\Below W.heap.size W w':=
 (z0k Kn.s 2 0 W (by decide)).mono fun e w' ⟨h1,h2⟩=> by
  rw [if_pos (by decide)] at h2
  exact ⟨h2,h1⟩
theorem kn_idle {F:Nat->Prop} {W:World} {q:Nat} {k:Kl} (h:KlO F W q Kn.s k) (hk:Kn.Rest k):Calls Tryz.prog 8 #[.pointer (some ⟨q,0,.none⟩)] W fun e w'=> e= .returned (.bool true)/\w'=W:=by
 have h2:=zyp h
 unfold Kl.rests at h2
 rw [hk.job] at h2
 exact h2
end Go.Proofs.YthgekdlegbmehaaGreat
