/- Texts bound together: QVars QLoud. -/
import Derived.Test.YthgekdlegbmehaaGreatBq6

set_option linter.all false
namespace Go.Proofs.YthgekdlegbmehaaGreat

section

open Go.RowKit

structure zd0 where
 al:Nat
 st:Nat
 so:Nat
 d:Nat
 src:Nat
 t:TypeId
 zero:Array Value
 val:Array Value
def vptr (N:Nat):Value:= .pointer (some ⟨N,0,.none⟩)
def vput (b:Bool) (d N:Nat) (a:Act):Act:=if b=true then a.put (some d) (vptr N) else a
def zd0.lies (x:zd0) (W w:World) (listed:Array Bool) (N:Nat):Prop:=
 listed.getD x.al false=true->W.heap.size<=N/\w.heap[N]?=some (.cells (if listed.getD x.st false=true then x.val else x.zero) x.t (0,0))
structure zhy (W:World) (x y:zd0) (listed:Array Bool) (aQ a:Act) (w:World):Prop where
 below:Below W.heap.size W w
 fits:x.d < aQ.tmps.size/\y.d < aQ.tmps.size
 firsts:(listed.getD x.st false=true->listed.getD x.al false=true)/\(listed.getD y.st false=true->listed.getD y.al false=true)
 there:∃ M N,a=vput (listed.getD x.al false) x.d M (vput (listed.getD y.al false) y.d N aQ)/\x.lies W w listed M/\y.lies W w listed N/\(listed.getD x.al false=true->listed.getD y.al false=true->M≠N)
def zhc (w:World):World->Prop:=fun w'=> Below w.heap.size w w'
def ownB (x y:zd0) (i:Nat):Bool:=i==x.al || i==x.st || i==y.al || i==y.st
def nopO (o:Oper):Oper:= { o with op:= .move (.const undef),dst:=none,guard:=none }
def nopL (x y:zd0) (l:List Oper):List Oper:=l.mapIdx fun i o=> if ownB x y i=true then nopO o else o
def z2q (ops:Array Oper) (x y:zd0):Bool:=
 (List.range ops.size).all fun i=> match ops[i]? with
  | some o=> (o.after.all fun e=> !Region.binds .any e || decide (e.on < i)) && (ownB x y i || (o.guard.isNone && o.dst !=some x.d && o.dst !=some y.d && !(o.looksAt ops).contains x.d && !(o.looksAt ops).contains y.d)) &&
    ((List.range ops.size).all fun j=> match ops[j]? with | some p=> i==j || o.dst.isNone || o.dst !=p.dst | none=> true)
  | none=> true
theorem Act.zjo {a:Act} {d:Tmp} {v:Value} (h:d < a.tmps.size):(a.put (some d) v).eval (.tmp d)=v:=by
 show (a.tmps.setIfInBounds d v).getD d undef=v
 simp [h]
theorem zlz {b:Bool} {d N:Nat} {a:Act} {t:Option Tmp} {v:Value} (h:t≠some d):(vput b d N a).put t v=vput b d N (a.put t v):=by
 unfold vput
 split
 ·exact Act.put_comm a _ _ fun e he hx=> h (by rw [hx,<- he])
 ·rfl
theorem zfk {b:Bool} {d N:Nat} {a:Act} {x:Operand} (h:x≠ .tmp d):(vput b d N a).eval x=a.eval x:=by
 unfold vput
 split
 ·exact Act.eval_put fun e he hx=> h (by rw [hx];injection he with he;rw [he])
 ·rfl
section

variable {P:Program} {ops ops':Array Oper} {md:Region.Mode} {aF:Act} {W:World} {Q:Exit->Act->World->Prop}

theorem zph {C:World->Prop} {i t:Nat} {o:Oper} (hi:ops'[i]?=some o) (hd:o.dst=some t) (hdist:∀ j p,ops'[j]?=some p->j≠i->p.dst≠some t) (f:Nat):
  ∀ (listed:Array Bool) (aQ:Act),listed.getD i false=true->wpAnyQ P md ops' C (fun a=> a=aF) f listed aQ->aQ.tmps[t]?=aF.tmps[t]?:=by
 induction f with
 | zero=> intro listed aQ _ h;rw [h.2]
 | succ f ih=>
  intro listed aQ hl h
  cases hr:Region.ready md ops' listed with
  | nil=> rw [h.1 hr]
  | cons j js=>
   have hj:j ∈ Region.ready md ops' listed:=by rw [hr];exact List.mem_cons_self ..
   obtain ⟨hju,p,hp,_⟩:=mem_ready.1 hj
   obtain ⟨v,_,hK⟩:=yieldsIn_of_qOp hp (h.2 j hj)
   have hji:j≠i:=fun e=> by
    subst e
    have:=getD_both hju
    rw [hl] at this;cases this
   have:=ih _ _ (getD_set_true hl) hK
   rw [<- this]
   have hne:=hdist j p hp hji
   cases hpd:p.dst with
   | none=> rfl
   | some d=>
    have:d≠t:=fun e=> hne (by rw [hpd,e])
    simp [Act.put,Array.getElem?_setIfInBounds_ne this]
theorem zqc {C:World->Prop} {i:Nat} {o:Oper} {v:Value} (hi:ops'[i]?=some o) (hdist:∀ t,o.dst=some t->∀ j p,ops'[j]?=some p->j≠i->p.dst≠some t) {f:Nat} {listed:Array Bool} {aQ:Act} (hu:i < listed.size)
  (h:wpAnyQ P md ops' C (fun a=> a=aF) f (listed.setIfInBounds i true) (aQ.put o.dst v)):aQ.put o.dst v=aQ.put o.dst ((o.dst.map fun t=> aF.tmps.getD t undef).getD undef):=by
 cases hd:o.dst with
 | none=> rfl
 | some t=>
  rw [hd] at h
  have h1:=zph hi hd (hdist t hd) f _ _ (by simp [hu]) h
  simp only [Option.map_some,Option.getD_some]
  rcases Nat.lt_or_ge t aQ.tmps.size with ht | ht
  ·have:(aQ.put (some t) v).tmps[t]?=some v:=by simp [Act.put,ht]
   rw [this] at h1
   rw [Array.getD_eq_getD_getElem?,<- h1];rfl
  ·simp [Act.put,Array.setIfInBounds_eq_of_size_le ht]
end

theorem gset {listed:Array Bool} {i j:Nat} (h:i < listed.size):(listed.setIfInBounds i true).getD j false=(decide (j=i) || listed.getD j false):=by
 by_cases e:j=i
 ·subst e;simp [h]
 ·have hne:i≠j:=fun e2=> e e2.symm
  simp [Array.getElem?_setIfInBounds_ne hne,e]
theorem zfh {listed:Array Bool} {i:Nat} (h:listed.getD i true=false):i < listed.size:=by
 rcases Nat.lt_or_ge i listed.size with h1 | h1
 ·exact h1
 ·simp [Array.getElem?_eq_none h1] at h
section

variable {P:Program} {l:List Oper} {md:Region.Mode} {aF:Act} {W:World} {Q:Exit->Act->World->Prop} {x y:zd0}

theorem zmy (i:Nat):(nopL x y l).toArray[i]?=(l.toArray[i]?).map fun o=> if ownB x y i=true then nopO o else o:=by
 simp [nopL,List.getElem?_mapIdx]
theorem zne (listed:Array Bool):Region.ready md (nopL x y l).toArray listed=Region.ready md l.toArray listed:=by
 unfold Region.ready
 have hs:(nopL x y l).toArray.size=l.toArray.size:=by simp [nopL]
 rw [hs]
 apply List.filter_congr
 intro i _
 rw [zmy]
 congr 1
 cases l.toArray[i]? with
 | none=> rfl
 | some o=>
  simp only [Option.map_some,Option.getD_some]
  split <;> rfl
structure yef (l:List Oper) (x y:zd0) (i:Nat) (o:Oper):Prop where
 low:∀ e ∈ o.after,Region.binds .any e=true->e.on < i
 quiet:ownB x y i=false->o.guard=none/\o.dst≠some x.d/\o.dst≠some y.d/\x.d ∉ o.looksAt l.toArray/\y.d ∉ o.looksAt l.toArray
 dist:∀ t,o.dst=some t->∀ j p,l.toArray[j]?=some p->j≠i->p.dst≠some t
theorem zm4 (h:z2q l.toArray x y=true) {i:Nat} {o:Oper} (hi:l.toArray[i]?=some o):yef l x y i o:=by
 have hlt:i < l.toArray.size:=(Array.getElem?_eq_some_iff.1 hi).1
 have h1:=List.all_eq_true.1 h i (List.mem_range.2 hlt)
 simp only [hi,Bool.and_eq_true,Bool.or_eq_true] at h1
 obtain ⟨⟨h2,h3⟩,h4⟩:=h1
 refine ⟨fun e he hbi=> ?_,fun hown=> ?_,fun t ht j p hj hne=> ?_⟩
 ·have:=(Array.all_eq_true_iff_forall_mem.1 h2) e he
  simpa [hbi] using this
 ·rw [hown] at h3
  simp only [Bool.false_eq_true,false_or,bne_iff_ne,ne_eq,Bool.not_eq_true',Option.isNone_iff_eq_none,List.contains_eq_mem,decide_eq_false_iff_not] at h3
  exact ⟨h3.1.1.1.1,h3.1.1.1.2,h3.1.1.2,h3.1.2,h3.2⟩
 ·have hjl:j < l.toArray.size:=(Array.getElem?_eq_some_iff.1 hj).1
  have h5:=List.all_eq_true.1 h4 j (List.mem_range.2 hjl)
  simp only [hj,ht,Bool.or_eq_true,beq_iff_eq,bne_iff_ne,ne_eq,Option.isNone_some,Bool.false_eq_true,or_false] at h5
  rcases h5 with h5 | h5
  ·exact absurd h5.symm hne
  ·exact fun e=> h5 e.symm
structure ze2 (P:Program) (l:List Oper) (Q:Exit->Act->World->Prop) (aF:Act) (x:zd0):Prop where
 make:∀ a w K,K (a.put (some x.d) (vptr w.heap.size)) (w.alloc (.cells x.zero x.t (0,0)))->wpOp P l.toArray Q x.al K a w
 fill:∀ a w K M,a.eval (.tmp x.d)=vptr M->a.eval (.tmp x.src)=aF.eval (.tmp x.src)->w.heap[M]?=some (.cells x.zero x.t (0,0))->
  (∀ w',w'.heap[M]?=some (.cells x.val x.t (0,0))->Only (fun k=> k=M) w w'->w'.heap.size=w.heap.size->K a w')->wpOp P l.toArray Q x.st K a w
 waits:∀ listed,x.st ∈ Region.ready .any l.toArray listed->listed.getD x.al false=true/\listed.getD x.so false=true
 src:∃ o,l.toArray[x.so]?=some o/\o.dst=some x.src
structure zlh (x y:zd0):Prop where
 n1:x.al≠x.st
 n2:x.al≠y.al
 n3:x.al≠y.st
 n4:x.st≠y.al
 n5:x.st≠y.st
 n6:y.al≠y.st
 d1:x.d≠y.d
 d2:x.src≠x.d
 d3:x.src≠y.d
 d4:y.src≠x.d
 d5:y.src≠y.d
theorem zlh.symm (h:zlh x y):zlh y x:=⟨h.n6,h.n2.symm,h.n4.symm,h.n3.symm,h.n5.symm,h.n1,h.d1.symm,h.d5,h.d4,h.d3,h.d2⟩
theorem z0g {b c:Bool} {d e M N:Nat} {a:Act} (h:d≠e):vput b d M (vput c e N a)=vput c e N (vput b d M a):=by
 unfold vput
 cases b <;> cases c <;> simp
 exact Act.put_comm a _ _ fun u hu hv=> h (by injection hu with hu;injection hv with hv;omega)
theorem zhy.symm {listed:Array Bool} {aQ a:Act} {w:World} (hp:zlh x y) (h:zhy W x y listed aQ a w):zhy W y x listed aQ a w:=by
 obtain ⟨M,N,h1,h2,h3,h4⟩:=h.there
 exact ⟨h.below,h.fits.symm,h.firsts.symm,N,M,by rw [h1,z0g hp.d1],h3,h2,fun u v=> (h4 v u).symm⟩
theorem z7g {listed:Array Bool} {aQ a:Act} {w:World} (hp:zlh x y) (hs:ze2 P l Q aF x) (h:zhy W x y listed aQ a w) (hu:listed.getD x.al true=false):
  wpOp P l.toArray Q x.al (fun a' w'=> zhy W x y (listed.setIfInBounds x.al true) aQ a' w') a w:=by
 have hlt:=zfh hu
 have hf:=getD_both hu
 obtain ⟨M,N,h1,h2,h3,h4⟩:=h.there
 have hst:listed.getD x.st false=false:=by
  rcases Bool.eq_false_or_eq_true (listed.getD x.st false) with e | e
  ·have:=h.firsts.1 e;rw [hf] at this;cases this
  ·exact e
 have gy:(listed.setIfInBounds x.al true).getD y.al false=listed.getD y.al false:=by rw [gset hlt,decide_eq_false hp.n2.symm,Bool.false_or]
 have gs:(listed.setIfInBounds x.al true).getD x.st false=false:=by rw [gset hlt,decide_eq_false hp.n1.symm,Bool.false_or];exact hst
 have gt:(listed.setIfInBounds x.al true).getD y.st false=listed.getD y.st false:=by rw [gset hlt,decide_eq_false hp.n3.symm,Bool.false_or]
 have gx:(listed.setIfInBounds x.al true).getD x.al false=true:=by rw [gset hlt,decide_eq_true rfl,Bool.true_or]
 refine hs.make a w _ ⟨h.below.alloc h.below.size _,h.fits,⟨fun e=> (by rw [gs] at e;cases e),fun e=> (by rw [gy];rw [gt] at e;exact h.firsts.2 e)⟩,⟨w.heap.size,N,?_,fun _=> ⟨h.below.size,?_⟩,fun e=> ?_,fun _ e=> ?_⟩⟩
 ·rw [gx,gy,h1,hf]
  rfl
 ·rw [gs,if_neg (by decide)];exact heap_alloc_new w _
 ·rw [gy] at e
  obtain ⟨k1,k2⟩:=h3 e
  rw [gt]
  refine ⟨k1,?_⟩
  have:N < w.heap.size:=(Array.getElem?_eq_some_iff.1 k2).1
  rw [Below.heap_alloc _ _ _ this];exact k2
 ·rw [gy] at e
  have:N < w.heap.size:=(Array.getElem?_eq_some_iff.1 (h3 e).2).1
  omega
theorem z6q {listed:Array Bool} {aQ a:Act} {w:World} (hp:zlh x y) (hs:ze2 P l Q aF x) (h:zhy W x y listed aQ a w) (hu:x.st ∈ Region.ready .any l.toArray listed) (hsrc:aQ.eval (.tmp x.src)=aF.eval (.tmp x.src)):
  wpOp P l.toArray Q x.st (fun a' w'=> zhy W x y (listed.setIfInBounds x.st true) aQ a' w') a w:=by
 have hul:=(mem_ready.1 hu).1
 have hlt:=zfh hul
 have hf:=getD_both hul
 obtain ⟨hal,hso⟩:=hs.waits listed hu
 obtain ⟨M,N,h1,h2,h3,h4⟩:=h.there
 obtain ⟨k1,k2⟩:=h2 hal
 rw [hf] at k2
 simp only [Bool.false_eq_true,if_false] at k2
 have gx:(listed.setIfInBounds x.st true).getD x.al false=true:=by rw [gset hlt,hal,Bool.or_true]
 have gs:(listed.setIfInBounds x.st true).getD x.st false=true:=by rw [gset hlt,decide_eq_true rfl,Bool.true_or]
 have gy:(listed.setIfInBounds x.st true).getD y.al false=listed.getD y.al false:=by rw [gset hlt,decide_eq_false hp.n4.symm,Bool.false_or]
 have gt:(listed.setIfInBounds x.st true).getD y.st false=listed.getD y.st false:=by rw [gset hlt,decide_eq_false hp.n5.symm,Bool.false_or]
 have ha:a=(vput (listed.getD y.al false) y.d N aQ).put (some x.d) (vptr M):=by rw [h1,hal];rfl
 have hsz:x.d < (vput (listed.getD y.al false) y.d N aQ).tmps.size:=by
  have:(vput (listed.getD y.al false) y.d N aQ).tmps.size=aQ.tmps.size:=by unfold vput;split <;> simp [Act.put]
  rw [this];exact h.fits.1
 have e1:a.eval (.tmp x.d)=vptr M:=by
  rw [ha];exact Act.zjo hsz
 have e2:a.eval (.tmp x.src)=aF.eval (.tmp x.src):=by
  rw [h1,zfk (fun e=> hp.d2 (by injection e)),zfk (fun e=> hp.d3 (by injection e))];exact hsrc
 refine hs.fill a w _ M e1 e2 k2 fun w' hw ho hz=> ?_
 have hM:M < w.heap.size:=(Array.getElem?_eq_some_iff.1 k2).1
 have hb:Below W.heap.size W w':=h.below.trans (ho.below (B:=W.heap.size) h.below.size fun k e=> e ▸ k1)
 refine ⟨hb,h.fits,⟨fun _=> gx,fun e=> (by rw [gy];rw [gt] at e;exact h.firsts.2 e)⟩,⟨M,N,?_,fun _=> ⟨k1,?_⟩,fun e=> ?_,fun _ e=> ?_⟩⟩
 ·rw [gx,gy,h1,hal]
 ·rw [gs];simpa using hw
 ·rw [gy] at e
  obtain ⟨j1,j2⟩:=h3 e
  rw [gt]
  refine ⟨j1,?_⟩
  have hN:N < w.heap.size:=(Array.getElem?_eq_some_iff.1 j2).1
  rw [ho.block N hN (fun e2=> h4 hal e e2.symm)];exact j2
 ·rw [gy] at e;exact h4 hal e
theorem zqv {a:Act} {t:Option Tmp} {v:Value}:(a.put t v).tmps.size=a.tmps.size:=by cases t <;> simp [Act.put]
theorem zmk {ops:Array Oper} {o:Oper} {d:Nat} (h:d ∉ o.looksAt ops):∀ z ∈ o.op.operands,z≠ .tmp d:=by
 intro z hz e
 subst e
 refine h (List.mem_append_left _ (List.mem_filterMap.2 ⟨.tmp d,by simpa using hz,rfl⟩))
theorem z2g {W w w':World} (h:Below W.heap.size W w) (k:Below w.heap.size w w'):Below W.heap.size W w':=
 ⟨k.os.trans h.os,k.tape.trans h.tape,k.output.trans h.output,Nat.le_trans h.size k.size,fun i hi=> (k.block i (Nat.lt_of_lt_of_le hi h.size)).trans (h.block i hi)⟩
theorem all_in (hf:z2q l.toArray x y=true) {listed:Array Bool} (hz:listed.size=l.toArray.size) (h:Region.ready .any l.toArray listed= []):∀ n i,i < n->i < l.toArray.size->listed.getD i true=true:=by
 intro n
 induction n with
 | zero=> intro i hi;omega
 | succ n ih=>
  intro i hi hl
  rcases Bool.eq_false_or_eq_true (listed.getD i true) with e | e
  ·exact e
  ·have ho:l.toArray[i]?=some l.toArray[i]:=Array.getElem?_eq_getElem hl
   have hm:i ∈ Region.ready .any l.toArray listed:=mem_ready.2 ⟨e,_,ho,fun ed he hbi=> by
    have hlow:=(zm4 hf ho).low ed he hbi
    have:=ih ed.on (by omega) (by omega)
    have hlt:ed.on < listed.size:=by omega
    simp only [Array.getD_eq_getD_getElem?,Array.getElem?_eq_getElem hlt,Option.getD_some] at this ⊢
    exact this⟩
   rw [h] at hm;cases hm
theorem zpl (hf:z2q l.toArray x y=true) {i:Nat} {o:Oper} (hi:l.toArray[i]?=some o):∀ t,o.dst=some t->∀ j p,(nopL x y l).toArray[j]?=some p->j≠i->p.dst≠some t:=by
 intro t ht j p hj hne
 rw [zmy] at hj
 cases hq:l.toArray[j]? with
 | none=> rw [hq] at hj;cases hj
 | some q=>
  rw [hq] at hj
  simp only [Option.map_some,Option.some.injEq] at hj
  subst hj
  split
  ·exact fun e=> by cases e
  ·exact (zm4 hf hi).dist t ht j q hq hne
theorem ycl {C:World->Prop} {i:Nat} {K:Act->Prop} {aQ:Act} (hown:ownB x y i=true) (hi:∃ o,l.toArray[i]?=some o) (h:qOp P (nopL x y l).toArray C i K aQ):K aQ:=by
 obtain ⟨o,ho⟩:=hi
 have h0:(nopL x y l).toArray[i]?=some (nopO o):=by rw [zmy,ho];simp [hown]
 obtain ⟨v,_,hK⟩:=yieldsIn_of_qOp h0 h
 exact hK
theorem z1u {listed:Array Bool} {aQ a a2:Act} {w w':World} {i:Nat} {t:Option Tmp} {v:Value} (hu:i < listed.size) (h:zhy W x y listed aQ a w) (hown:ownB x y i=false) (tx:t≠some x.d) (ty:t≠some y.d)
  (hb:Below w.heap.size w w') (ha:a2=a.put t v):zhy W x y (listed.setIfInBounds i true) (aQ.put t v) a2 w':=by
 simp only [ownB,Bool.or_eq_false_iff,beq_eq_false_iff_ne,ne_eq] at hown
 obtain ⟨⟨⟨n1,n2⟩,n3⟩,n4⟩:=hown
 have g:∀ j,j≠i->(listed.setIfInBounds i true).getD j false=listed.getD j false:=fun j hj=> by rw [gset hu,decide_eq_false hj,Bool.false_or]
 obtain ⟨M,N,h1,h2,h3,h4⟩:=h.there
 have lie:∀ (z:zd0) (R:Nat),z.al≠i->z.st≠i->z.lies W w listed R->z.lies W w' (listed.setIfInBounds i true) R:=fun z R z1 z2 hz e=> by
  rw [g _ z1] at e
  rw [g _ z2]
  obtain ⟨k1,k2⟩:=hz e
  exact ⟨k1,(hb.block R (Array.getElem?_eq_some_iff.1 k2).1).trans k2⟩
 refine ⟨z2g h.below hb,by rw [zqv];exact h.fits,?_,⟨M,N,?_,lie x M (Ne.symm n1) (Ne.symm n2) h2,lie y N (Ne.symm n3) (Ne.symm n4) h3,?_⟩⟩
 ·rw [g _ (Ne.symm n1),g _ (Ne.symm n2),g _ (Ne.symm n3),g _ (Ne.symm n4)];exact h.firsts
 ·rw [g _ (Ne.symm n1),g _ (Ne.symm n3),ha,h1,zlz tx,zlz ty]
 ·rw [g _ (Ne.symm n1),g _ (Ne.symm n3)];exact h4
structure Filled (W:World) (x y:zd0) (aF a:Act) (w:World) (M N:Nat):Prop where
 state:a=(aF.put (some y.d) (vptr N)).put (some x.d) (vptr M)
 below:Below W.heap.size W w
 apart:M≠N
 new:W.heap.size<=M/\W.heap.size<=N
 one:w.heap[M]?=some (.cells x.val x.t (0,0))
 two:w.heap[N]?=some (.cells y.val y.t (0,0))
def nopF (x y:zd0):Nat->List Oper->List Oper
 | _, []=> []
 | i,o::r=> (if ownB x y i=true then nopO o else o)::nopF x y (i + 1) r
theorem zwe:∀ (r:List Oper) (i j:Nat),(nopF x y i r)[j]?=(r[j]?).map fun o=> if ownB x y (i + j)=true then nopO o else o
 | [],_,_=> by simp [nopF]
 | o::r,i,0=> by simp [nopF]
 | o::r,i,j + 1=> by
  simp only [nopF,List.getElem?_cons_succ]
  rw [zwe r (i + 1) j,show i + 1 + j=i + (j + 1) by omega]
theorem ycp:nopL x y l=nopF x y 0 l:=by
 apply List.ext_getElem?
 intro j
 rw [zwe]
 simp [nopL,List.getElem?_mapIdx]
theorem zsj {B:World}:zhc B=fun w'=> ∃ e:Ext B,w'=e.w:=by
 funext w'
 exact propext ⟨fun h=> ⟨⟨w',h⟩,rfl⟩,fun ⟨e,h⟩=> h ▸ e.below⟩
end

end

section

open Go.RowKit

def nopC (v:Value) (o:Oper):Oper:= { o with op:= .move (.const v),guard:=none }
def z8f (x:zd0) (ld i:Nat):Bool:=i==x.al || i==x.st || i==ld
def zej (x:zd0) (ld:Nat) (v:Value) (i:Nat) (o:Oper):Oper:=if i==ld then nopC v o else if i==x.al || i==x.st then nopO o else o
def nopM (x:zd0) (ld:Nat) (v:Value) (l:List Oper):List Oper:=l.mapIdx (zej x ld v)
def zrg (ops:Array Oper) (x:zd0) (ld:Nat):Bool:=
 (List.range ops.size).all fun i=> match ops[i]? with
  | some o=> (o.after.all fun e=> !Region.binds .any e || decide (e.on < i)) && (z8f x ld i || (o.guard.isNone && o.dst !=some x.d && !(o.looksAt ops).contains x.d)) && (i !=ld || o.dst !=some x.d) &&
    ((List.range ops.size).all fun j=> match ops[j]? with | some p=> i==j || o.dst.isNone || o.dst !=p.dst | none=> true)
  | none=> true
def zsq (ops:Array Oper) (x:zd0) (ld:Nat) (ts:List Nat):Bool:=
 ts.all fun t=> (List.range ops.size).any fun j=> match ops[j]? with
  | some o=> o.dst==some t && j !=ld && j !=x.al && j !=x.st && (match ops[ld]? with | some p=> p.after.any fun e=> Region.binds .any e && e.on==j | none=> false)
  | none=> false
section

variable {P:Program} {l:List Oper} {md:Region.Mode} {aF:Act} {W:World} {Q:Exit->Act->World->Prop} {x:zd0} {ld:Nat} {v:Value} {K0 K1:World->Prop}

theorem zfv (i:Nat):(nopM x ld v l).toArray[i]?=(l.toArray[i]?).map (zej x ld v i):=by
 simp [nopM,List.getElem?_mapIdx]
theorem zt1 (i:Nat) (o:Oper):(zej x ld v i o).after=o.after:=by unfold zej;split <;> (try split) <;> rfl
theorem zzy (i:Nat) (o:Oper):(zej x ld v i o).dst=o.dst\/(zej x ld v i o).dst=none:=by unfold zej;split <;> (try split) <;> first | exact .inl rfl | exact .inr rfl
theorem zk0 (listed:Array Bool):Region.ready md (nopM x ld v l).toArray listed=Region.ready md l.toArray listed:=by
 unfold Region.ready
 have hs:(nopM x ld v l).toArray.size=l.toArray.size:=by simp [nopM]
 rw [hs]
 apply List.filter_congr
 intro i _
 rw [zfv]
 congr 1
 cases l.toArray[i]? with
 | none=> rfl
 | some o=> simp only [Option.map_some,Option.getD_some,zt1]
structure ygz (l:List Oper) (x:zd0) (ld i:Nat) (o:Oper):Prop where
 low:∀ e ∈ o.after,Region.binds .any e=true->e.on < i
 quiet:z8f x ld i=false->o.guard=none/\o.dst≠some x.d/\x.d ∉ o.looksAt l.toArray
 loud:i=ld->o.dst≠some x.d
 dist:∀ t,o.dst=some t->∀ j p,l.toArray[j]?=some p->j≠i->p.dst≠some t
theorem zik (h:zrg l.toArray x ld=true) {i:Nat} {o:Oper} (hi:l.toArray[i]?=some o):ygz l x ld i o:=by
 have hlt:i < l.toArray.size:=(Array.getElem?_eq_some_iff.1 hi).1
 have h1:=List.all_eq_true.1 h i (List.mem_range.2 hlt)
 simp only [hi,Bool.and_eq_true,Bool.or_eq_true] at h1
 obtain ⟨⟨⟨h2,h3⟩,h3'⟩,h4⟩:=h1
 refine ⟨fun e he hbi=> ?_,fun hown=> ?_,fun e=> ?_,fun t ht j p hj hne=> ?_⟩
 ·have:=(Array.all_eq_true_iff_forall_mem.1 h2) e he
  simpa [hbi] using this
 ·rw [hown] at h3
  simp only [Bool.false_eq_true,false_or,bne_iff_ne,ne_eq,Bool.not_eq_true',Option.isNone_iff_eq_none,List.contains_eq_mem,decide_eq_false_iff_not] at h3
  exact ⟨h3.1.1,h3.1.2,h3.2⟩
 ·subst e
  simpa using h3'
 ·have hjl:j < l.toArray.size:=(Array.getElem?_eq_some_iff.1 hj).1
  have h5:=List.all_eq_true.1 h4 j (List.mem_range.2 hjl)
  simp only [hj,ht,Bool.or_eq_true,beq_iff_eq,bne_iff_ne,ne_eq,Option.isNone_some,Bool.false_eq_true,or_false] at h5
  rcases h5 with h5 | h5
  ·exact absurd h5.symm hne
  ·exact fun e=> h5 e.symm
theorem yag (hf:zrg l.toArray x ld=true) {listed:Array Bool} (hz:listed.size=l.toArray.size) (h:Region.ready .any l.toArray listed= []):∀ n i,i < n->i < l.toArray.size->listed.getD i true=true:=by
 intro n
 induction n with
 | zero=> intro i hi;omega
 | succ n ih=>
  intro i hi hl
  rcases Bool.eq_false_or_eq_true (listed.getD i true) with e | e
  ·exact e
  ·have ho:l.toArray[i]?=some l.toArray[i]:=Array.getElem?_eq_getElem hl
   have hm:i ∈ Region.ready .any l.toArray listed:=mem_ready.2 ⟨e,_,ho,fun ed he hbi=> by
    have hlow:=(zik hf ho).low ed he hbi
    have:=ih ed.on (by omega) (by omega)
    have hlt:ed.on < listed.size:=by omega
    simp only [Array.getD_eq_getD_getElem?,Array.getElem?_eq_getElem hlt,Option.getD_some] at this ⊢
    exact this⟩
   rw [h] at hm;cases hm
theorem zkc (hf:zrg l.toArray x ld=true) {i:Nat} {o:Oper} (hi:l.toArray[i]?=some o):∀ t,o.dst=some t->∀ j p,(nopM x ld v l).toArray[j]?=some p->j≠i->p.dst≠some t:=by
 intro t ht j p hj hne
 rw [zfv] at hj
 cases hq:l.toArray[j]? with
 | none=> rw [hq] at hj;cases hj
 | some q=>
  rw [hq] at hj
  simp only [Option.map_some,Option.some.injEq] at hj
  subst hj
  rcases zzy (x:=x) (ld:=ld) (v:=v) j q with e | e <;> rw [e]
  ·exact (zik hf hi).dist t ht j q hq hne
  ·exact fun e=> by cases e
structure LRel (W:World) (x:zd0) (ld:Nat) (K0 K1:World->Prop) (listed:Array Bool) (aQ a:Act) (w:World):Prop where
 size:W.heap.size<=w.heap.size
 k0:listed.getD ld false=false->K0 w
 k1:listed.getD ld false=true->K1 w
 fits:x.d < aQ.tmps.size
 first:listed.getD x.st false=true->listed.getD x.al false=true
 there:∃ M,a=vput (listed.getD x.al false) x.d M aQ/\x.lies W w listed M
structure zn6 (W:World) (K:World->Prop):Prop where
 far:∀ Y Y',K Y->W.heap.size<=Y.heap.size->Only (fun k=> W.heap.size<=k) Y Y'->K Y'
def zij (P:Program) (l:List Oper) (Q:Exit->Act->World->Prop) (aF:Act) (W:World) (ld:Nat) (v:Value) (ts:List Nat) (K0 K1:World->Prop):Prop:=
 ∃ o,l.toArray[ld]?=some o/\∀ a w K,K0 w->W.heap.size<=w.heap.size->(∀ t ∈ ts,a.eval (.tmp t)=aF.eval (.tmp t))->(∀ w',K1 w'->Only (fun k=> k < W.heap.size) w w'->K (a.put o.dst v) w')->wpOp P l.toArray Q ld K a w
structure zni (W:World) (x:zd0) (K1:World->Prop) (size:Nat) (aF a:Act) (w:World) (M:Nat):Prop where
 state:a=vput (decide (x.al < size)) x.d M aF
 big:W.heap.size<=w.heap.size
 k1:K1 w
 one:x.al < size->W.heap.size<=M/\w.heap[M]?=some (.cells x.val x.t (0,0))
theorem yf2 (hf:zrg l.toArray x ld=true) (hsel:Region.noSelect l.toArray=true) (hx:x.al < l.toArray.size->ze2 P l Q aF x) (hn:x.al≠x.st/\x.al≠ld/\x.st≠ld/\x.src≠x.d)
  (hin:ld < l.toArray.size/\(x.al < l.toArray.size↔x.st < l.toArray.size)) (hso:x.so≠x.al/\x.so≠x.st) (hsl:x.al < l.toArray.size->x.so≠ld)
  (hc0:zn6 W K0) (hc1:zn6 W K1) {ts:List Nat} (hw:zsq l.toArray x ld ts=true) (hts:x.d ∉ ts) (hld:zij P l Q aF W ld v ts K0 K1)
  (hend:∀ a w M,zni W x K1 l.toArray.size aF a w M->Q .normal a w) (fuel:Nat):∀ (listed:Array Bool) (aQ a:Act) (w:World),listed.size=l.toArray.size->LRel W x ld K0 K1 listed aQ a w->
  (∀ B,K0 B\/K1 B->W.heap.size<=B.heap.size->wpAnyQ P .any (nopM x ld v l).toArray (zhc B) (fun a=> a=aF) fuel listed aQ)->wpAny P .any l.toArray Q fuel listed a w:=by
 have kk:∀ {listed aQ a w},LRel W x ld K0 K1 listed aQ a w->K0 w\/K1 w:=fun {listed aQ a w} h=> by
  rcases Bool.eq_false_or_eq_true (listed.getD ld false) with e | e
  ·exact .inr (h.k1 e)
  ·exact .inl (h.k0 e)
 have fin:∀ (listed:Array Bool) (aQ a:Act) (w:World),listed.size=l.toArray.size->LRel W x ld K0 K1 listed aQ a w->Region.ready .any l.toArray listed= []->aQ=aF->Q .normal a w:=by
  intro listed aQ a w hz hr h0 e
  have hall:∀ i,i < l.toArray.size->listed.getD i false=true:=fun i hi=> by
   have:=yag hf hz h0 (i + 1) i (by omega) hi
   have hlt:i < listed.size:=by omega
   simp only [Array.getD_eq_getD_getElem?,Array.getElem?_eq_getElem hlt,Option.getD_some] at this ⊢
   exact this
  obtain ⟨M,h1,h2⟩:=hr.there
  have hd:listed.getD x.al false=decide (x.al < l.toArray.size):=by
   by_cases hl:x.al < l.toArray.size
   ·rw [hall _ hl,decide_eq_true hl]
   ·rw [decide_eq_false hl]
    have:listed.size<=x.al:=by omega
    simp [Array.getElem?_eq_none this]
  refine hend a w M ⟨by rw [h1,e,hd],hr.size,hr.k1 (hall _ hin.1),fun hl=> ?_⟩
  obtain ⟨k1,k2⟩:=h2 (hall _ hl)
  rw [hall _ (hin.2.1 hl)] at k2
  exact ⟨k1,by simpa using k2⟩
 induction fuel with
 | zero=>
  intro listed aQ a w hz hr h
  have h1:=h w (kk hr) hr.size
  have h0:Region.ready .any l.toArray listed= []:=by rw [<- zk0 (x:=x) (ld:=ld) (v:=v)];exact h1.1
  exact ⟨h0,fin listed aQ a w hz hr h0 h1.2⟩
 | succ fuel ih=>
  intro listed aQ a w hz hr h
  refine ⟨fun h0=> fin listed aQ a w hz hr h0 ((h w (kk hr) hr.size).1 (by rw [zk0];exact h0)),fun i hi=> ?_⟩
  have hi':i ∈ Region.ready .any (nopM x ld v l).toArray listed:=by rw [zk0];exact hi
  obtain ⟨hun,o,ho,hedge⟩:=mem_ready.1 hi
  have hlt:=zfh hun
  have hil:i < l.toArray.size:=(Array.getElem?_eq_some_iff.1 ho).1
  have hz':(listed.setIfInBounds i true).size=l.toArray.size:=by simpa using hz
  have g:∀ j,j≠i->(listed.setIfInBounds i true).getD j false=listed.getD j false:=fun j hj=> by rw [gset hlt,decide_eq_false hj,Bool.false_or]
  have gi:(listed.setIfInBounds i true).getD i false=true:=by rw [gset hlt,decide_eq_true rfl,Bool.true_or]
  have gf:=getD_both hun
  obtain ⟨M,h1,h2⟩:=hr.there
  by_cases il:i=ld
  ·
   subst il
   obtain ⟨o',ho',hstep⟩:=hld
   rw [ho] at ho'
   obtain rfl:o=o':=Option.some.inj ho'
   have h0:(nopM x i v l).toArray[i]?=some (nopC v o):=by rw [zfv,ho];simp [zej]
   have hK:∀ B,K0 B\/K1 B->W.heap.size<=B.heap.size->wpAnyQ P .any (nopM x i v l).toArray (zhc B) (fun a=> a=aF) fuel (listed.setIfInBounds i true) (aQ.put o.dst v):=fun B hB hs=> by
    obtain ⟨u,hy,hKu⟩:=yieldsIn_of_qOp h0 ((h B hB hs).2 i hi')
    have hu:u=v:=by
     rcases hy with ⟨_,h2⟩ | ⟨h2,_⟩
     ·have h3:=h2 B br
      simp only [nopC,Oper.quietAt] at h3
      simp [go_sem,zhc] at h3
      exact h3.symm
     ·simp [nopC,Region.wanted] at h2
    rw [hu] at hKu
    exact hKu
   have hev:∀ t ∈ ts,a.eval (.tmp t)=aF.eval (.tmp t):=fun t ht=> by
    have hwt:=List.all_eq_true.1 hw t ht
    obtain ⟨j,hj,hjj⟩:=List.any_eq_true.1 hwt
    cases hp:l.toArray[j]? with
    | none=> rw [hp] at hjj;cases hjj
    | some p=>
     rw [hp] at hjj
     simp only [ho,Bool.and_eq_true,beq_iff_eq,bne_iff_ne,ne_eq] at hjj
     obtain ⟨⟨⟨⟨hpd,hjl⟩,hja⟩,hjs⟩,hjw⟩:=hjj
     have hjw:∃ e ∈ o.after,Region.binds .any e=true/\e.on=j:=by
      obtain ⟨e,he,hb⟩:=Array.any_eq_true'.1 hjw
      simp only [Bool.and_eq_true,beq_iff_eq] at hb
      exact ⟨e,he,hb⟩
     obtain ⟨e,he,hb1,hb2⟩:=hjw
     have hlj:listed.getD j false=true:=by rw [<- hb2];exact hedge e he hb1
     have hpd':x.d≠t:=fun e=> hts (e ▸ ht)
     have hne:t≠x.d:=fun e=> hpd' e.symm
     have hav:a.eval (.tmp t)=aQ.eval (.tmp t):=by rw [h1,zfk (fun e=> hne (by injection e))]
     have h3:(nopM x i v l).toArray[j]?=some p:=by
      rw [zfv,hp]
      simp [zej,hjl,hja,hjs]
     have:=zph h3 hpd (zkc hf hp t hpd) _ listed aQ hlj (h w (kk hr) hr.size)
     rw [hav]
     show aQ.tmps.getD t undef=aF.tmps.getD t undef
     rw [Array.getD_eq_getD_getElem?,Array.getD_eq_getD_getElem?,this]
   refine hstep a w _ (hr.k0 gf) hr.size hev fun w' hk1 ho2=> ih _ (aQ.put o.dst v) _ _ hz' ⟨Nat.le_trans hr.size ho2.size,fun e=> ?_,fun _=> hk1,by rw [zqv];exact hr.fits,?_,⟨M,?_,?_⟩⟩ hK
   ·rw [gi] at e;cases e
   ·rw [g _ hn.2.2.1,g _ hn.2.1];exact hr.first
   ·rw [g _ hn.2.1,h1,zlz ((zik hf ho).loud rfl)]
   ·intro e
    rw [g _ hn.2.1] at e
    rw [g _ hn.2.2.1]
    obtain ⟨k1,k2⟩:=h2 e
    exact ⟨k1,(ho2.block M (Array.getElem?_eq_some_iff.1 k2).1 (by omega)).trans k2⟩
  by_cases ia:i=x.al
  ·
   subst ia
   have hvs:=hx hil
   have h0:(nopM x ld v l).toArray[x.al]?=some (nopO o):=by rw [zfv,ho];simp [zej,hn.2.1]
   have hK:∀ B,K0 B\/K1 B->W.heap.size<=B.heap.size->wpAnyQ P .any (nopM x ld v l).toArray (zhc B) (fun a=> a=aF) fuel (listed.setIfInBounds x.al true) aQ:=fun B hB hs=> by
    obtain ⟨u,_,hKu⟩:=yieldsIn_of_qOp h0 ((h B hB hs).2 _ hi')
    exact hKu
   have hst:listed.getD x.st false=false:=by
    rcases Bool.eq_false_or_eq_true (listed.getD x.st false) with e | e
    ·have:=hr.first e;rw [gf] at this;cases this
    ·exact e
   have hbe:Below w.heap.size w (w.alloc (.cells x.zero x.t (0,0))):=br.alloc lr _
   have hfar:Only (fun k=> W.heap.size<=k) w (w.alloc (.cells x.zero x.t (0,0))):=Only.of_below hbe
   refine hvs.make a w _ (ih _ aQ _ _ hz' ⟨by have:=hr.size;simp;omega,fun e=> ?_,fun e=> ?_,hr.fits,fun _=> gi,⟨w.heap.size,?_,fun _=> ⟨hr.size,?_⟩⟩⟩ hK)
   ·rw [g _ hn.2.1.symm] at e;exact hc0.far _ _ (hr.k0 e) hr.size hfar
   ·rw [g _ hn.2.1.symm] at e;exact hc1.far _ _ (hr.k1 e) hr.size hfar
   ·rw [gi,h1,gf];rfl
   ·rw [g _ hn.1.symm,hst,if_neg (by decide)];exact heap_alloc_new w _
  by_cases is:i=x.st
  ·
   subst is
   have hvs:=hx (hin.2.2 hil)
   have h0:(nopM x ld v l).toArray[x.st]?=some (nopO o):=by rw [zfv,ho];simp [zej,hn.2.2.1]
   have hK:∀ B,K0 B\/K1 B->W.heap.size<=B.heap.size->wpAnyQ P .any (nopM x ld v l).toArray (zhc B) (fun a=> a=aF) fuel (listed.setIfInBounds x.st true) aQ:=fun B hB hs=> by
    obtain ⟨u,_,hKu⟩:=yieldsIn_of_qOp h0 ((h B hB hs).2 _ hi')
    exact hKu
   obtain ⟨hal,hsl2⟩:=hvs.waits listed hi
   obtain ⟨k1,k2⟩:=h2 hal
   rw [gf] at k2
   simp only [Bool.false_eq_true,if_false] at k2
   obtain ⟨oz,z1,z2⟩:=hvs.src
   have z3:(nopM x ld v l).toArray[x.so]?=some oz:=by
    rw [zfv,z1]
    have h4:=hsl (hin.2.2 hil)
    simp [zej,h4,hso.1,hso.2]
   have hsrc:aQ.eval (.tmp x.src)=aF.eval (.tmp x.src):=by
    have:=zph z3 z2 (zkc hf z1 _ z2) _ listed aQ hsl2 (h w (kk hr) hr.size)
    show aQ.tmps.getD x.src undef=aF.tmps.getD x.src undef
    rw [Array.getD_eq_getD_getElem?,Array.getD_eq_getD_getElem?,this]
   have ha:a=aQ.put (some x.d) (vptr M):=by rw [h1,hal];rfl
   have e1:a.eval (.tmp x.d)=vptr M:=by rw [ha];exact Act.zjo hr.fits
   have e2:a.eval (.tmp x.src)=aF.eval (.tmp x.src):=by rw [h1,zfk (fun e=> hn.2.2.2 (by injection e))];exact hsrc
   refine hvs.fill a w _ M e1 e2 k2 fun w' hw' ho2 hz2=> ih _ aQ _ _ hz' ⟨by have:=hr.size;omega,fun e=> ?_,fun e=> ?_,hr.fits,fun _=> by rw [g _ hn.1];exact hal,⟨M,?_,fun _=> ⟨k1,?_⟩⟩⟩ hK
   ·rw [g _ hn.2.2.1.symm] at e
    exact hc0.far _ _ (hr.k0 e) hr.size ⟨ho2.os,ho2.tape,ho2.output,ho2.size,fun k hk hk2=> ho2.block k hk (fun e=> hk2 (e ▸ k1))⟩
   ·rw [g _ hn.2.2.1.symm] at e
    exact hc1.far _ _ (hr.k1 e) hr.size ⟨ho2.os,ho2.tape,ho2.output,ho2.size,fun k hk hk2=> ho2.block k hk (fun e=> hk2 (e ▸ k1))⟩
   ·rw [g _ hn.1,hal,ha];rfl
   ·rw [gi];simpa using hw'
  ·
   have hown:z8f x ld i=false:=by simp [z8f,il,ia,is]
   obtain ⟨qg,qx,lx⟩:=(zik hf ho).quiet hown
   have h0:(nopM x ld v l).toArray[i]?=some o:=by rw [zfv,ho];simp [zej,il,ia,is]
   obtain ⟨u,hyv,hKv⟩:=yieldsIn_of_qOp h0 ((h w (kk hr) hr.size).2 i hi')
   have hv:=zqc h0 (zkc hf ho) hlt hKv
   have hK:∀ B,K0 B\/K1 B->W.heap.size<=B.heap.size->wpAnyQ P .any (nopM x ld v l).toArray (zhc B) (fun a=> a=aF) fuel (listed.setIfInBounds i true) (aQ.put o.dst u):=fun B hB hs=> by
    obtain ⟨u2,_,hKu⟩:=yieldsIn_of_qOp h0 ((h B hB hs).2 i hi')
    have hu:=zqc h0 (zkc hf ho) hlt hKu
    rw [hv,<- hu];exact hKu
   have hwant:∀ k,Region.wanted o k=true:=fun k=> by unfold Region.wanted;rw [qg]
   have hq:∀ w',zhc w w'->o.quietAt P aQ (zhc w) w' u:=by
    rcases hyv with ⟨_,h2⟩ | ⟨h2,_⟩
    ·exact h2
    ·rw [hwant] at h2;cases h2
   have hex:execOp a.eval o=execOp aQ.eval o:=execOp_congr o (fun cs b=> Region.noSelect_spec hsel i o cs b ho) fun z hz=> by
    rw [h1,zfk (zmk lx z hz)]
   unfold wpOp
   rw [ho]
   simp only [hwant,if_true]
   refine .inl (Oper.wp_of_quiet (C:=zhc w) (K:=fun a'=> a'=a.put o.dst u) br (fun a' w' hw' e=> ih _ (aQ.put o.dst u) _ _ hz' ⟨Nat.le_trans hr.size hw'.size,fun e=> ?_,fun e=> ?_,by rw [zqv];exact hr.fits,?_,⟨M,?_,?_⟩⟩ hK) ⟨u,fun w' hw'=> ?_,rfl⟩)
   ·rw [g _ (Ne.symm il)] at e;exact hc0.far _ _ (hr.k0 e) hr.size (Only.of_below hw')
   ·rw [g _ (Ne.symm il)] at e;exact hc1.far _ _ (hr.k1 e) hr.size (Only.of_below hw')
   ·rw [g _ (Ne.symm is),g _ (Ne.symm ia)];exact hr.first
   ·rw [g _ (Ne.symm ia),e,h1,zlz qx]
   ·intro e2
    rw [g _ (Ne.symm ia)] at e2
    rw [g _ (Ne.symm is)]
    obtain ⟨k1,k2⟩:=h2 e2
    exact ⟨k1,(hw'.block M (Array.getElem?_eq_some_iff.1 k2).1).trans k2⟩
   ·have:=hq w' hw'
    unfold Oper.quietAt at *
    rw [hex];exact this
def zfq (x:zd0) (ld:Nat) (v:Value):Nat->List Oper->List Oper
 | _, []=> []
 | i,o::r=> zej x ld v i o::zfq x ld v (i + 1) r
theorem zra:∀ (r:List Oper) (i j:Nat),(zfq x ld v i r)[j]?=(r[j]?).map (zej x ld v (i + j))
 | [],_,_=> by simp [zfq]
 | o::r,i,0=> by simp [zfq]
 | o::r,i,j + 1=> by
  simp only [zfq,List.getElem?_cons_succ]
  rw [zra r (i + 1) j,show i + 1 + j=i + (j + 1) by omega]
theorem yb7:nopM x ld v l=zfq x ld v 0 l:=by
 apply List.ext_getElem?
 intro j
 rw [zra]
 simp [nopM,List.getElem?_mapIdx]
theorem zqg {a:Act} {l':List Oper} {ts:List Nat} (hl:zfq x ld v 0 l=l') (hB:Region.lexB .any l'.toArray=true) (hf:zrg l.toArray x ld=true) (hsel:Region.noSelect l.toArray=true)
  (hn:x.al≠x.st/\x.al≠ld/\x.st≠ld/\x.src≠x.d) (hin:ld < l.toArray.size/\(x.al < l.toArray.size↔x.st < l.toArray.size)) (hso:x.so≠x.al/\x.so≠x.st) (hsl:x.al < l.toArray.size->x.so≠ld) (hw:zsq l.toArray x ld ts=true) (hts:x.d ∉ ts) (hfit:x.d < a.tmps.size)
  (hc:zn6 W K0/\zn6 W K1) (h0:K0 W.drew)
  (hall:∃ aF,(∀ B,K0 B\/K1 B->W.heap.size<=B.heap.size->wpQuiet P l'.toArray (fun w'=> ∃ e:Ext B,w'=e.w) (fun a'=> a'=aF) l' a)/\(x.al < l.toArray.size->ze2 P l Q aF x)/\zij P l Q aF W ld v ts K0 K1/\
   ∀ a w M,zni W x K1 l.toArray.size aF a w M->Q .normal a w):wpAny P .any l.toArray Q l.toArray.size (Array.replicate l.toArray.size false) a W.drew:=by
 subst hl
 obtain ⟨aF,h,hx,hld,hend⟩:=hall
 rw [<- yb7] at hB h
 simp only [Region.lexB,Bool.and_eq_true] at hB
 have hlen:(nopM x ld v l).length=l.toArray.size:=by simp [nopM]
 refine yf2 (W:=W.drew) (K0:=K0) (K1:=K1) hf hsel hx hn hin hso hsl ⟨hc.1.far⟩ ⟨hc.2.far⟩ hw hts hld (fun a w M hf=> hend a w M ⟨hf.state,hf.big,hf.k1,hf.one⟩) l.toArray.size _ a a _ (by simp) ⟨Nat.le_refl _,fun _=> h0,fun e=> ?_,hfit,fun e=> ?_,⟨0,?_,fun e=> ?_⟩⟩ fun B hb hs=> ?_
 ·rw [getD_replicate_false] at e;cases e
 ·rw [getD_replicate_false] at e;cases e
 ·rw [getD_replicate_false];rfl
 ·rw [getD_replicate_false] at e;cases e
 ·have h3:=h B hb hs
  rw [<- zsj] at h3
  have:=wpAnyQ_lex (C:=zhc B) (md:= .any) hB.1 (nopM x ld v l) 0 (Array.replicate l.toArray.size false) a (by simp) (by
   have h2:=hB.2
   simpa [nopM] using h2) h3
  rw [hlen] at this
  exact this
theorem zcl {id:Nat} {a:Act} {l':List Oper} {ts:List Nat} (hm:P.follows .mixedOrders=true) (hl:zfq x ld v 0 l=l') (hB:Region.lexB .any l'.toArray=true) (hf:zrg l.toArray x ld=true) (hsel:Region.noSelect l.toArray=true)
  (hn:x.al≠x.st/\x.al≠ld/\x.st≠ld/\x.src≠x.d) (hin:ld < l.toArray.size/\(x.al < l.toArray.size↔x.st < l.toArray.size)) (hso:x.so≠x.al/\x.so≠x.st) (hsl:x.al < l.toArray.size->x.so≠ld) (hw:zsq l.toArray x ld ts=true) (hts:x.d ∉ ts) (hfit:x.d < a.tmps.size)
  (hc:zn6 W K0/\zn6 W K1) (h0:K0 W.drew)
  (hall:∃ aF,(∀ B,K0 B\/K1 B->W.heap.size<=B.heap.size->wpQuiet P l'.toArray (fun w'=> ∃ e:Ext B,w'=e.w) (fun a'=> a'=aF) l' a)/\(x.al < l.toArray.size->ze2 P l Q aF x)/\zij P l Q aF W ld v ts K0 K1/\
   ∀ a w M,zni W x K1 l.toArray.size aF a w M->Q .normal a w):(Code.region id l.toArray true).wp P Q a W:=by
 exact wp_region_any hm (zqg hl hB hf hsel hn hin hso hsl hw hts hfit hc h0 hall)
def zbb (d:Nat):zd0:=⟨1000,1001,1002,d,d + 1,0, #[], #[]⟩
end

theorem zcz {P:Program} {l:List Oper} {Q:Exit->Act->World->Prop} {aF:Act} {W:World} {ld:Nat} {v:Value} {ts:List Nat} {K0 K1:World->Prop} {f:FuncId} {dst:Option Tmp} {aty:Array TypeId} {ty:TypeId} {pos:String} {af:Array Edge}
  (h1:l.toArray[ld]?=some { dst:=dst,op:= .call { callee:= .value (.func f),args:=(ts.map Operand.tmp).toArray,argTypes:=aty },type:=ty,pos:=pos,after:=af,guard:=none })
  (hcf:∀ args w,(callFunc f args).run P w= .ok (.enter f args) w)
  (h2:∀ w,K0 w->W.heap.size<=w.heap.size->Calls P f (ts.map fun t=> aF.eval (.tmp t)).toArray w fun r w'=> r= .returned v/\K1 w'/\Only (fun k=> k < W.heap.size) w w'):zij P l Q aF W ld v ts K0 K1:=by
 refine ⟨_,h1,fun a w K hk hs he hK=> ?_⟩
 unfold wpOp
 rw [h1]
 simp only [Region.wanted,if_true]
 left
 have hargs:((ts.map Operand.tmp).toArray).map a.eval=(ts.map fun t=> aF.eval (.tmp t)).toArray:=by
  simp only [List.map_toArray,List.map_map]
  congr 1
  exact List.map_congr_left fun t ht=> he t ht
 have h3:=h2 w hk hs
 rw [<- hargs] at h3
 have he1:(execOp a.eval { dst:=dst,op:= .call { callee:= .value (.func f),args:=(ts.map Operand.tmp).toArray,argTypes:=aty },type:=ty,pos:=pos,after:=af,guard:=none }).run P w= .ok (.enter f (((ts.map Operand.tmp).toArray).map a.eval)) w:=by
  have:=hcf (((ts.map Operand.tmp).toArray).map a.eval) w
  simp only [List.map_toArray,List.map_map] at this
  simp [go_sem,this]
 unfold Oper.wp
 rw [he1,Oper.upon_enter]
 refine h3.mono ?_
 rintro r w' ⟨rfl,k1,k2⟩
 exact hK w' k1 k2
end

end Go.Proofs.YthgekdlegbmehaaGreat
