/- A world in memory: what a step, a question, a start, a kill make of who owns what. -/
import Derived.Test.YtampacmmhhilaaaGreatZWldM

set_option linter.all false
namespace Go.Proofs.YtampacmmhhilaaaGreat

open Go.RowKit

section

variable {B:Nat} {F:Nat→Prop} {W W':World} {g:Nat} {s:Sh} {d:Wd} {x:Wx}

/-- Its words are others. -/
theorem WdP.put {m':Mem} (h:WdP B F W g s d x) (ho:Only (fun i=> i=x.p∨i=x.b) W W') (hw:WdsAt W' x.p x.b m'):WdP B F W' g s { d with m:=m' } x:=by
 have own:∀ i n,x.ow i=n→n≠1→n≠2→¬ (i=x.p∨i=x.b):=fun i n hi h1 h2 e=> by
  rcases e with rfl | rfl
  ·have:=h.fp.2;omega
  ·have:=h.fb.2;omega
 exact ⟨h.top.only ho (own _ 0 h.fg.2 (by decide) (by decide)),hw,h.lst.only ho (own _ 3 h.fl.2 (by decide) (by decide)),h.pl,h.pe,fun c k hk=> (h.cl c k hk).only ho (fun i hi=> own i (c + 6) (h.fc c i hi).2 (by omega) (by omega)),
  ownsRow_of_blocks h.tr fun i hi=> ho.block i (h.tr.lt i hi).2 (own i 4 (h.ft i hi).2 (by decide) (by decide)),ownsRow_of_blocks h.lg fun i hi=> ho.block i (h.lg.lt i hi).2 (own i 5 (h.fs i hi).2 (by decide) (by decide)),fun i hi=> ⟨(h.lt i hi).1,Nat.lt_of_lt_of_le (h.lt i hi).2 ho.size⟩,
  h.fg,h.fp,h.fb,h.fl,h.ft,h.fs,h.fc⟩
theorem WdP.put_only (h:WdP B F W g s d x) (ho:Only (fun i=> i=x.p∨i=x.b) W W'):Only F W W':=Only.weak ho fun i hi=> by
 rcases hi with rfl | rfl
 ·exact h.fp.1
 ·exact h.fb.1
/-- New blocks are client c's. -/
def Wx.mine (x:Wx) (c N N':Nat):Wx:= { x with ow:=fun i=> if N≤i then c + 6 else x.ow i,Fc:=fun c' i=> x.Fc c' i∨(c'=c∧N≤i∧i < N') }
theorem getD_set_some {l:List (Option Kl)} {c i:Nat} {k:Kl} (hc:c < l.length):(l.set c (some k)).getD i none=if i=c then some k else l.getD i none:=by
 rw [getD_set _ _ _ _ hc]
 by_cases e:c=i
 ·subst e;simp
 ·rw [if_neg e,if_neg (fun h=> e h.symm)]
/-- A client has done something. -/
theorem WdP.stepped {c:Nat} {k k':Kl} {m':Mem} (h:WdP B F W g s d x) (hB:B≤W.heap.size) (hk:d.l.getD c none=some k) (hc:c < d.l.length)
  (hkl:KlO (grow (x.Fc c) W W') W' (x.qs c) s k') (hw:WdsAt W' x.p x.b m') (ho:Only (fun i=> x.Fc c i∨i=x.p∨i=x.b) W W'):
  WdP B (grow F W W') W' g s { d with m:=m',l:=d.l.set c (some k') } (x.mine c W.heap.size W'.heap.size)∧Only F W W':=by
 have own:∀ i n,x.ow i=n→n≠1→n≠2→n≠c + 6→¬ (x.Fc c i∨i=x.p∨i=x.b):=fun i n hi h1 h2 h3 e=> by
  rcases e with e | rfl | rfl
  ·have:=(h.fc c i e).2;omega
  ·have:=h.fp.2;omega
  ·have:=h.fb.2;omega
 have hlow:∀ i,F i→¬ W.heap.size≤i:=fun i hi=> by have:=(h.lt i hi).2;omega
 have how:∀ i,F i→(x.mine c W.heap.size W'.heap.size).ow i=x.ow i:=fun i hi=> if_neg (hlow i hi)
 refine ⟨⟨?_,hw,h.lst.only ho (own _ 3 h.fl.2 (by decide) (by decide) (by omega)),by simpa [Wx.mine] using h.pl,fun c' hc'=> ?_,fun c' k2 hk2=> ?_,
  ownsRow_of_blocks h.tr fun i hi=> ho.block i (h.tr.lt i hi).2 (own i 4 (h.ft i hi).2 (by decide) (by decide) (by omega)),ownsRow_of_blocks h.lg fun i hi=> ho.block i (h.lg.lt i hi).2 (own i 5 (h.fs i hi).2 (by decide) (by decide) (by omega)),fun i hi=> ?_,
  ⟨.inl h.fg.1,(how _ h.fg.1).trans h.fg.2⟩,⟨.inl h.fp.1,(how _ h.fp.1).trans h.fp.2⟩,⟨.inl h.fb.1,(how _ h.fb.1).trans h.fb.2⟩,⟨.inl h.fl.1,(how _ h.fl.1).trans h.fl.2⟩,fun i hi=> ⟨.inl (h.ft i hi).1,(how _ (h.ft i hi).1).trans (h.ft i hi).2⟩,
  fun i hi=> ⟨.inl (h.fs i hi).1,(how _ (h.fs i hi).1).trans (h.fs i hi).2⟩,fun c' i hi=> ?_⟩,Only.weak ho fun i hi=> ?_⟩
 ·have:=h.top.only ho (own _ 0 h.fg.2 (by decide) (by decide) (by omega))
  show RowAt W' g (wdCells s x.p x.lb (d.l.set c (some k')).length x.tv x.sv) _
  rw [List.length_set];exact this
 ·have hc':c' < (d.l.set c (some k')).length:=hc'
  rw [List.length_set] at hc'
  show x.ps[c']?=some (ptrK ((d.l.set c (some k')).getD c' none) (x.qs c'))
  rw [getD_set_some hc,h.pe c' hc']
  split
  ·rename_i e;subst e;rw [hk];rfl
  ·rfl
 ·have hk9:(d.l.set c (some k')).getD c' none=some k2:=hk2
  clear hk2
  have hk2:=hk9
  clear hk9
  rw [getD_set_some hc] at hk2
  show KlO (fun i=> x.Fc c' i∨(c'=c∧W.heap.size≤i∧i < W'.heap.size)) W' (x.qs c') s k2
  split at hk2
  ·rename_i e;subst e
   injection hk2 with hk2;subst hk2
   exact hkl.weak (fun i hi=> hi.elim .inl fun hi=> .inr ⟨rfl,hi⟩) (fun i hi=> by
    rcases hi with hi | hi
    ·have:=(h.lt i (h.fc _ i hi).1).2;have:=ho.size;omega
    ·exact hi.2.2)
  ·rename_i e
   have h1:=(h.cl c' k2 hk2).only ho (fun i hi=> own i (c' + 6) (h.fc c' i hi).2 (by omega) (by omega) (by omega))
   exact h1.weak (fun i hi=> .inl hi) (fun i hi=> by
    rcases hi with hi | hi
    ·exact h1.lt i hi
    ·exact absurd hi.1 e)
 ·rcases hi with hi | hi
  ·exact ⟨(h.lt i hi).1,Nat.lt_of_lt_of_le (h.lt i hi).2 ho.size⟩
  ·exact ⟨by omega,hi.2⟩
 ·rcases hi with hi | ⟨rfl,hi⟩
  ·exact ⟨.inl (h.fc c' i hi).1,(how _ (h.fc c' i hi).1).trans (h.fc c' i hi).2⟩
  ·exact ⟨.inr hi,if_pos hi.1⟩
 ·rcases hi with hi | rfl | rfl
  ·exact (h.fc c i hi).1
  ·exact h.fp.1
  ·exact h.fb.1
/-- A client, as a client beside words. -/
theorem WdP.cw {n:Nat} {c:Nat} {k:Kl} (h:WdP B F W g s d x) (hk:d.l.getD c none=some k) (ho:klOk s k) (hf:Fits s d.m):CW B (x.Fc c) W (x.qs c) x.p x.b s k d.m:=
 ⟨h.cl c k hk,h.wds,fun e=> by have:=(h.fc c _ e).2;have:=h.fp.2;omega,fun e=> by have:=(h.fc c _ e).2;have:=h.fb.2;omega,fun i hi=> (h.lt i (h.fc c i hi).1).1,(h.lt _ h.fp.1).1,(h.lt _ h.fb.1).1,ho,hf⟩
/-- A client's place in the row is written. -/
theorem WdP.place {c q:Nat} {o:Option Kl} {Fq:Nat→Prop} (h:WdP B F W g s d x) (hB:B≤W.heap.size) (hc:c < d.l.length) (hb:Below W.heap.size W W') (hq:∀ k,o=some k→KlO Fq W' q s k) (hFq:∀ i,Fq i→W.heap.size≤i∧i < W'.heap.size) {W2:World} (h2:W2=W'.setCell ⟨x.lb,c, .none⟩ (ptrK o q)):
  ∃ x',WdP B (grow F W W2) W2 g s { d with l:=d.l.set c o } x'∧Only F W W2∧x'.p=x.p∧x'.b=x.b:=by
 have hsz:W2.heap.size=W'.heap.size:=by rw [h2];simp [World.setCell]
 have hs:=hb.size
 have ho:Only (fun i=> i=x.lb) W W2:=by
  rw [h2];exact (Only.of_below (F:=fun i=> i=x.lb) hb).setCell (p:=⟨x.lb,c, .none⟩) (.inl rfl) _
 have own:∀ i n,x.ow i=n→n≠3→¬ (i=x.lb):=fun i n hi h3 e=> by
  subst e;have:=h.fl.2;omega
 have hlow:∀ i,F i→¬ W.heap.size≤i:=fun i hi=> by have:=(h.lt i hi).2;omega
 refine ⟨{ x with ps:=x.ps.set c (ptrK o q),qs:=fun c'=> if c'=c then q else x.qs c',ow:=fun i=> if W.heap.size≤i then c + 6 else x.ow i,Fc:=fun c' i=> if c'=c then Fq i else x.Fc c' i },
  ⟨?_,h.wds.only ho (own _ 1 h.fp.2 (by decide)) (own _ 2 h.fb.2 (by decide)),?_,by simpa using h.pl,fun c' hc'=> ?_,fun c' k2 hk2=> ?_,
  ownsRow_of_blocks h.tr fun i hi=> ho.block i (h.tr.lt i hi).2 (own i 4 (h.ft i hi).2 (by decide)),ownsRow_of_blocks h.lg fun i hi=> ho.block i (h.lg.lt i hi).2 (own i 5 (h.fs i hi).2 (by decide)),fun i hi=> ?_,
  ⟨.inl h.fg.1,(if_neg (hlow _ h.fg.1)).trans h.fg.2⟩,⟨.inl h.fp.1,(if_neg (hlow _ h.fp.1)).trans h.fp.2⟩,⟨.inl h.fb.1,(if_neg (hlow _ h.fb.1)).trans h.fb.2⟩,⟨.inl h.fl.1,(if_neg (hlow _ h.fl.1)).trans h.fl.2⟩,fun i hi=> ⟨.inl (h.ft i hi).1,(if_neg (hlow _ (h.ft i hi).1)).trans (h.ft i hi).2⟩,
  fun i hi=> ⟨.inl (h.fs i hi).1,(if_neg (hlow _ (h.fs i hi).1)).trans (h.fs i hi).2⟩,fun c' i hi=> ?_⟩,Only.weak ho fun i hi=> by subst hi;exact h.fl.1,rfl,rfl⟩
 ·have:=h.top.only ho (own _ 0 h.fg.2 (by decide))
  show RowAt W2 g (wdCells s x.p x.lb (d.l.set c o).length x.tv x.sv) _
  rw [List.length_set];exact this
 ·have h3:=(h.lst.below hb).set c (ptrK o q)
  rw [← h2] at h3
  refine h3.cast ?_
  simp
 ·have hc':c' < (d.l.set c o).length:=hc'
  rw [List.length_set] at hc'
  show (x.ps.set c (ptrK o q))[c']?=some (ptrK ((d.l.set c o).getD c' none) (if c'=c then q else x.qs c'))
  rw [getD_set _ _ _ _ hc,List.getElem?_set]
  by_cases e:c=c'
  ·subst e
   rw [if_pos rfl,if_pos (by rw [h.pl];exact hc),if_pos rfl,if_pos rfl]
  ·rw [if_neg e,if_neg e,if_neg (fun h=> e h.symm)]
   exact h.pe c' hc'
 ·have hk2:(d.l.set c o).getD c' none=some k2:=hk2
  rw [getD_set _ _ _ _ hc] at hk2
  show KlO (fun i=> if c'=c then Fq i else x.Fc c' i) W2 (if c'=c then q else x.qs c') s k2
  by_cases e:c=c'
  ·subst e
   rw [if_pos rfl] at hk2
   rw [if_pos rfl]
   have h4:=hq k2 hk2
   have hlb:∀ i,Fq i→i≠x.lb:=fun i hi e=> by have:=(h.lt _ h.fl.1).2;have:=(hFq i hi).1;omega
   have h5:KlO Fq W2 q s k2:=by
    rw [h2]
    exact h4.only (G:=fun i=> i=x.lb) ((Only.refl (fun i=> i=x.lb) W').setCell (p:=⟨x.lb,c, .none⟩) (.inl rfl) _) hlb
   exact h5.weak (fun i hi=> by rw [if_pos rfl];exact hi) (fun i hi=> by rw [if_pos rfl] at hi;exact h5.lt i hi)
  ·rw [if_neg e] at hk2
   rw [if_neg (fun h=> e h.symm)]
   have h5:=(h.cl c' k2 hk2).only ho (fun i hi=> own i (c' + 6) (h.fc c' i hi).2 (by omega))
   exact h5.weak (fun i hi=> by rw [if_neg (fun h=> e h.symm)];exact hi) (fun i hi=> by rw [if_neg (fun h=> e h.symm)] at hi;exact h5.lt i hi)
 ·rcases hi with hi | hi
  ·exact ⟨(h.lt i hi).1,by have:=(h.lt i hi).2;omega⟩
  ·exact ⟨by omega,hi.2⟩
 ·have hi9:if c'=c then Fq i else x.Fc c' i:=hi
  clear hi
  by_cases e:c'=c
  ·subst e
   rw [if_pos rfl] at hi9
   have h6:=hFq i hi9
   exact ⟨.inr ⟨h6.1,by rw [hsz];exact h6.2⟩,if_pos h6.1⟩
  ·rw [if_neg e] at hi9
   exact ⟨.inl (h.fc c' i hi9).1,(if_neg (hlow _ (h.fc c' i hi9).1)).trans (h.fc c' i hi9).2⟩
/-- More blocks, and more again. -/
theorem grow_grow {W1 W2:World} (h1:W.heap.size≤W1.heap.size) (h2:W1.heap.size≤W2.heap.size) (i:Nat):grow (grow F W W1) W1 W2 i↔grow F W W2 i:=by
 unfold grow
 constructor
 ·rintro ((h | h) | h)
  ·exact .inl h
  ·exact .inr ⟨h.1,by omega⟩
  ·exact .inr ⟨by omega,h.2⟩
 ·rintro (h | h)
  ·exact .inl (.inl h)
  ·by_cases e:i < W1.heap.size
   ·exact .inl (.inr ⟨h.1,e⟩)
   ·exact .inr ⟨by omega,h.2⟩
theorem WdP.eqv {G:Nat→Prop} (h:WdP B F W g s d x) (e:∀ i,F i↔G i):WdP B G W g s d x:=by
 have:F=G:=funext fun i=> propext (e i)
 exact this ▸ h
end

end Go.Proofs.YtampacmmhhilaaaGreat
