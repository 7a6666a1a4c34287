/- Texts bound together: Open RwO AudW AdC AdD. -/
import Derived.ProofKit

import Derived.OpenShut

import Derived.SizedLaws

import Derived.ChangeSlices

import Derived.Test.YtampacmmhhilaaaGreatBm1

import Derived.Test.YtampacmmhhilaaaGreatBm2

import Derived.Test.YtampacmmhhilaaaGreatBm21

import Derived.Test.YtampacmmhhilaaaGreatBm6

set_option linter.all false
/- Opening arguments by their types, and closing a law's row: whatever the law reads, reads behind the call as it did, if nothing that was there has turned. -/
namespace Go.Proofs.YtampacmmhhilaaaGreat

open Go.RowKit Go.ChangeShapes Go.WideShapes Go.ChangeAt

theorem own:ownKnob Tryz.prog.godebug=none:=by kernel_rfl
theorem laidOut:laidOutB Tryz.prog=true:=by kernel_rfl
section

variable {H:Type} {enc:TypeId × Value→H} {P:Program} {w:World}

/-- Cells that can be read as a datum of a type. -/
def Rd (enc:TypeId × Value→H) (P:Program) (w:World) (t:TypeId) (cs:List Value):Prop:=∃ fuel x,DataW.trod enc P w 0 (fun _=> true) true fuel t cs=some x
theorem rd_of_trod {t:TypeId} {v:Value} {d:DataW H} {ps:List MemPlace} (h:DataW.Trod enc P w 0 (fun _=> true) true t v d ps):Rd enc P w t v.cells.toList:=
 let ⟨f,hf⟩:=h
 ⟨f,_,hf⟩
theorem rd_int {t:TypeId} {k:IntKind} {cs:List Value} (ht:P.underlying t=some (.int k)) (h:Rd enc P w t cs):∃ n,cs= [.int k n]∧(Lit.int k n).wf=true:=by
 obtain ⟨f,x,hf⟩:=h
 obtain ⟨n,h1,_,h2⟩:=DataW.trod_int ht hf
 exact ⟨n,h1,h2⟩
theorem rd_bool {t:TypeId} {cs:List Value} (ht:P.underlying t=some .bool) (h:Rd enc P w t cs):∃ b,cs= [.bool b]:=by
 obtain ⟨f,x,hf⟩:=h
 obtain ⟨b,h1,_⟩:=DataW.trod_bool ht hf
 exact ⟨b,h1⟩
theorem rd_float {t:TypeId} {k:FloatKind} {cs:List Value} (ht:P.underlying t=some (.float k)) (h:Rd enc P w t cs):∃ b,cs= [.float k b]∧(Lit.float k b).wf=true:=by
 obtain ⟨f,x,hf⟩:=h
 cases f with
 | zero=> simp [DataW.trod] at hf
 | succ n=>
  unfold DataW.trod at hf
  rw [ht] at hf
  split at hf <;> simp_all
theorem rd_struct {t:TypeId} {fs:Array Field} {cs:List Value} (ht:P.underlying t=some (.struct fs)) (h:Rd enc P w t cs):
  cs.length=P.cellsOf t∧∀ (i:Nat) (f:Field),fs[i]?=some f→Rd enc P w f.type ((cs.drop f.offset).take (P.cellsOf f.type)):=by
 obtain ⟨f,x,hf⟩:=h
 obtain ⟨xs,m,_,_,h1,h2,h3⟩:=DataW.trod_struct ht hf
 refine ⟨h1,fun i f hi=> ?_⟩
 have hlt:i < xs.length:=by rw [h2];exact (Array.getElem?_eq_some_iff.1 hi).1
 have:=h3 i f hi
 rw [List.getElem?_eq_getElem hlt] at this
 exact ⟨m,_,this⟩
theorem mapM_each {α β:Type} {f:α→Option β} {l:List α} {r:List β} (h:l.mapM f=some r) (i:Nat) (x:α) (hx:l[i]?=some x):∃ y,f x=some y:=by
 have h1:=mapM_some_get h i x hx
 have h2:=mapM_some_length h
 have hl:i < l.length:=(List.getElem?_eq_some_iff.1 hx).1
 rw [List.getElem?_eq_getElem (by omega)] at h1
 exact ⟨_,h1⟩
theorem rd_slice {t e:TypeId} {cs:List Value} (ht:P.underlying t=some (.slice e)) (h:Rd enc P w t cs):
  cs= [.slice none 0 0]∨∃ (a:Addr) (len cap:Nat),cs= [.slice (some a) len cap]∧len≤cap∧cap≤maxLen∧
   ∀ i,i < cap→∃ es,w.cells? 0 (a.add (i * P.cellsOf e)) (P.cellsOf e)=some es∧Rd enc P w e es:=by
 obtain ⟨f,x,hf⟩:=h
 cases f with
 | zero=> simp [DataW.trod] at hf
 | succ n=>
  unfold DataW.trod at hf
  rw [ht] at hf
  split at hf <;> (try (simp_all;done))
  rename_i e' a len cap he
  injection he with he;injection he with he;subst he
  right
  dsimp only at hf
  by_cases hc:0≤a.block∧len≤cap∧cap≤maxLen
  case neg=> rw [if_neg hc] at hf;cases hf
  rw [if_pos hc] at hf
  simp only [Option.bind_eq_some_iff,Option.map_eq_some_iff,if_true] at hf
  obtain ⟨elems,h1,rest,h2,_⟩:=hf
  refine ⟨a,len,cap,rfl,hc.2.1,hc.2.2,fun i hi=> ?_⟩
  have key:∃ y,(w.cells? 0 (a.add (i * P.cellsOf e)) (P.cellsOf e)).bind (DataW.trod enc P w 0 (fun _=> true) true n e)=some y:=by
   by_cases hl:i < len
   ·exact mapM_each h1 i i (by rw [List.getElem?_range hl])
   ·have:=mapM_each h2 (i - len) (i - len) (by rw [List.getElem?_range (by omega)])
    rwa [show len + (i - len)=i from by omega] at this
  obtain ⟨y,hy⟩:=key
  obtain ⟨es,h3,h4⟩:=Option.bind_eq_some_iff.1 hy
  exact ⟨es,h3,n,y,h4⟩
/-- The cells of a row that could be read, one by one. -/
theorem cells_at {a:Addr} {n:Nat} {es:List Value} (h:w.cells? 0 a n=some es):es.length=n∧∀ j,j < n→w.cell? (a.add j)=es[j]?:=by
 unfold World.cells? at h
 split at h
 ·have hl:=mapM_some_length h
  simp at hl
  exact ⟨hl,fun j hj=> mapM_some_get h j j (by simp [hj])⟩
 ·cases h
theorem agg_of {r:Reach} {b0:Nat} {t:TypeId} {v:Value} (ht:(∃ fs,P.underlying t=some (.struct fs))∨∃ n e,P.underlying t=some (.array n e)) (h:Value.okWide P w r b0 t v):∃ cs,v= .agg cs:=by
 rcases ht with ⟨fs,ht⟩ | ⟨n,e,ht⟩ <;> (simp only [Value.okWide,ht] at h;obtain ⟨cs,h1,_⟩:=h;exact ⟨cs,h1⟩)
theorem list3 {α:Type} {l:List α} (h:l.length=3):∃ a b c,l= [a,b,c]:=by
 match l,h with
 | [a,b,c],_=> exact ⟨a,b,c,rfl⟩
/-- A struct of three integers, by value. -/
theorem open_int3 {r:Reach} {b0:Nat} {t:TypeId} {k:IntKind} {f0 f1 f2:Field} {v:Value} {d:DataW H} {ps:List MemPlace} (ht:P.underlying t=some (.struct #[f0,f1,f2]))
  (u0:P.underlying f0.type=some (.int k)) (u1:P.underlying f1.type=some (.int k)) (u2:P.underlying f2.type=some (.int k)) (c0:P.cellsOf f0.type=1) (c1:P.cellsOf f1.type=1) (c2:P.cellsOf f2.type=1)
  (o0:f0.offset=0) (o1:f1.offset=1) (o2:f2.offset=2) (ct:P.cellsOf t=3) (hv:Value.okWide P w r b0 t v) (h:DataW.Trod enc P w 0 (fun _=> true) true t v d ps):
  ∃ a b c:Int,v= .agg #[.int k a, .int k b, .int k c]∧(Lit.int k a).wf=true∧(Lit.int k b).wf=true∧(Lit.int k c).wf=true:=by
 obtain ⟨cs,rfl⟩:=agg_of (.inl ⟨_,ht⟩) hv
 obtain ⟨hl,hf⟩:=rd_struct ht (rd_of_trod h)
 rw [ct] at hl
 obtain ⟨x,y,z,hx⟩:=list3 hl
 have g0:=hf 0 f0 rfl
 have g1:=hf 1 f1 rfl
 have g2:=hf 2 f2 rfl
 rw [hx,o0,c0] at g0
 rw [hx,o1,c1] at g1
 rw [hx,o2,c2] at g2
 obtain ⟨a,ha,wa⟩:=rd_int u0 g0
 obtain ⟨b,hb,wb⟩:=rd_int u1 g1
 obtain ⟨c,hc,wc⟩:=rd_int u2 g2
 simp only [List.drop_zero,List.take_succ_cons,List.take_zero,List.cons.injEq,and_true,List.drop_succ_cons] at ha hb hc
 subst ha hb hc
 refine ⟨a,b,c,?_,wa,wb,wc⟩
 congr 1
 exact Array.toList_inj.1 (by simpa [Value.cells] using hx)
/-- A row of elements that is not empty: where it lies, and that each element can be read. -/
theorem open_rows {t e:TypeId} {a0:Option Addr} {len cap sz:Nat} (ht:P.underlying t=some (.slice e)) (ce:P.cellsOf e=sz) (hsz:0 < sz) (h:Rd enc P w t (Value.slice a0 len cap).cells.toList) (hl:len≠0):
  ∃ b off:Nat,a0=some ⟨b,off, .none⟩∧b < w.heap.size∧len≤cap∧cap≤maxLen∧
   ∀ i,i < cap→∃ es,es.length=sz∧Rd enc P w e es∧∀ j,j < sz→w.cell? ⟨b,off + i * sz + j, .none⟩=es[j]?:=by
 rcases rd_slice ht h with h0 | ⟨a,len',cap',h0,h1,h2,h3⟩
 ·simp [Value.cells] at h0;omega
 ·simp [Value.cells] at h0
  obtain ⟨rfl,rfl,rfl⟩:=h0
  rw [ce] at h3
  obtain ⟨b,off,spot⟩:=a
  have hspot:spot=none:=by
   obtain ⟨es,h4,_⟩:=h3 0 (by omega)
   obtain ⟨h5,h6⟩:=cells_at h4
   have h7:=h6 0 hsz
   rw [List.getElem?_eq_getElem (by omega)] at h7
   simpa [Addr.add] using World.cell?_spot h7
  subst hspot
  have key:∀ i,i < cap→∃ es,es.length=sz∧Rd enc P w e es∧∀ j,j < sz→w.cell? ⟨b,off + i * sz + j, .none⟩=es[j]?:=fun i hi=> by
   obtain ⟨es,h4,h5⟩:=h3 i hi
   obtain ⟨h6,h7⟩:=cells_at h4
   exact ⟨es,h6,h5,fun j hj=> by have:=h7 j hj;simpa [add_plain,Nat.add_assoc] using this⟩
  refine ⟨b,off,rfl,?_,h1,h2,key⟩
  obtain ⟨es,h6,_,h7⟩:=key 0 (by omega)
  have h8:=h7 0 hsz
  rw [List.getElem?_eq_getElem (by omega)] at h8
  exact cell_lt h8
theorem trodAll_below (hl:laidOutB P=true) {W W':World} (hb:Below W.heap.size W W'):∀ {ts:List TypeId} {vs:List Value} {ds:List (DataW H)} {ps:List MemPlace},
  (ts.all fun t=> P.readableRec t && decide (t < P.types.size))=true→(∀ x ∈ ps,x.block < W.heap.size)→DataW.TrodAll enc P W 0 (fun _=> true) true ts vs ds ps→
  DataW.TrodAll enc P W' 0 (fun b=> decide (b < W.heap.size)) true ts vs ds ps
 | [], [], [],_,_,_,h=> h
 | [], [],_::_,_,_,_,h=> h.elim
 | [],_::_,_,_,_,_,h=> h.elim
 | _::_, [],_,_,_,_,h=> h.elim
 | _::_,_::_, [],_,_,_,h=> h.elim
 | t::ts,v::vs,d::ds,ps,ht,hp,h=> by
  obtain ⟨p,q,h1,h2,rfl⟩:=h
  simp only [List.all_cons,Bool.and_eq_true,decide_eq_true_eq] at ht
  exact ⟨p,q,Below.trod hl ht.1.1 ht.1.2 h1 hb (fun x hx=> hp x (by simp [hx])),trodAll_below hl hb ht.2 (fun x hx=> hp x (by simp [hx])) h2,rfl⟩
/-- A LAW's end: true, and each argument reads as it read. -/
theorem law_post {f:Func} {s:ChangeSpec} {W W':World} {args:Array Value} {ds gs:List (DataW H)} {before:List MemPlace} {tb:TypeId}
  (hl:laidOutB P=true) (hres:f.resultTypes= #[tb]) (hu:P.underlying tb=some .bool) (hv:s.vars= [])
  (hr:(f.params.toList.all fun t=> P.readableRec t && decide (t < P.types.size))=true)
  (hs:(s.fn H (ds ++ gs)).results= [.lit (.bool true)]∧(s.fn H (ds ++ gs)).args=ds∧(s.fn H (ds ++ gs)).vars= [])
  (hW:DataW.Whole enc P f.params.toList s.vars false W args.toList ds gs before) (hb:Below W.heap.size W W'):
  s.post enc P f false true false false W args (.bool true) W':=by
 have hW':=hW
 obtain ⟨p,q,hA,hV,rfl,hfz,_⟩:=hW
 rw [hv] at hV
 obtain ⟨rfl,rfl⟩:gs= []∧q= []:=by
  cases gs with
  | nil=> exact ⟨rfl,hV⟩
  | cons _ _=> exact hV.elim
 have hlt:∀ x ∈ p,x.block < W.heap.size:=fun x hx=> by simpa using hW'.lt x (by simp [hx])
 refine ⟨_,_,_, [],p, [],hW',?_,?_,?_,hb.frame _,fun h=> by cases h⟩
 ·rw [hs.1,hres];exact trodAll_mk1 (shut_bool hu _)
 ·rw [hs.2.1];exact trodAll_below hl hb hr hlt hA
 ·rw [hs.2.2,hv];rfl
end

end Go.Proofs.YtampacmmhhilaaaGreat
/- Opening an argument that is a slice: it reads as a list of what its elements are. -/
namespace Go.Proofs.YtampacmmhhilaaaGreat

open Go.RowKit Go.ChangeShapes Go.WideShapes Go.ChangeAt

theorem flatF_length {α:Type} (f:α→List Value) (sz:Nat) (hf:∀ a,(f a).length=sz) (xs:List α):(xs.flatMap f).length=xs.length * sz:=by
 induction xs with
 | nil=> simp
 | cons x xs ih=> rw [List.flatMap_cons,List.length_append,hf,ih,List.length_cons,Nat.add_mul,Nat.one_mul,Nat.add_comm]
theorem flatF_get {α:Type} (f:α→List Value) (sz:Nat) (hf:∀ a,(f a).length=sz) (xs:List α) (i j:Nat) (hi:i < xs.length) (hj:j < sz):(xs.flatMap f)[i * sz + j]?=(f xs[i])[j]?:=by
 induction xs generalizing i with
 | nil=> simp at hi
 | cons x xs ih=>
  rw [List.flatMap_cons]
  cases i with
  | zero=> rw [List.getElem?_append_left (by rw [hf];omega)];simp
  | succ i=>
   rw [List.getElem?_append_right (by rw [hf,Nat.add_mul,Nat.one_mul];omega),hf,show (i + 1) * sz + j - sz=i * sz + j from by rw [Nat.add_mul,Nat.one_mul];omega]
   simpa using ih i (by simpa using hi)
theorem flatF_one {α:Type} (f:α→Value) (xs:List α):xs.flatMap (fun a=> [f a])=xs.map f:=by
 induction xs with
 | nil=> rfl
 | cons x xs ih=> rw [List.flatMap_cons,ih];rfl
section

variable {H:Type} {enc:TypeId × Value→H} {P:Program} {w:World}

theorem open_list {α:Type} (f:α→List Value) (good:α→Prop) {t e:TypeId} {v:Value} {sz:Nat} (ht:P.underlying t=some (.slice e)) (ce:P.cellsOf e=sz) (hsz:0 < sz) (hf:∀ a,(f a).length=sz)
  (hα:∀ es,es.length=sz→Rd enc P w e es→∃ a,f a=es∧good a) {r:Reach} {b0:Nat} {d:DataW H} {ps:List MemPlace} (hv:Value.okWide P w r b0 t v) (h0:DataW.Trod enc P w 0 (fun _=> true) true t v d ps):
  ∃ xs:List α,RdS w sz v xs.length (xs.flatMap f)∧∀ a ∈ xs,good a:=by
 obtain ⟨a0,len,cap,rfl⟩:=okWide_slice ht hv
 have h:=rd_of_trod h0
 by_cases hl:len=0
 ·subst hl
  refine ⟨[],?_,fun a ha=> by cases ha⟩
  have hcap:cap≤maxLen:=by
   rcases rd_slice ht h with h0 | ⟨a,len',cap',h0,h1,h2,h3⟩
   ·simp [Value.cells] at h0
    omega
   ·simp [Value.cells] at h0
    obtain ⟨rfl,_,rfl⟩:=h0
    exact h2
  exact ⟨a0,cap,rfl,Nat.zero_le _,by simp only [maxLen] at hcap;omega,by simp,fun h=> absurd rfl h⟩
 ·obtain ⟨b,off,rfl,hb,hcap,hmax,hes⟩:=open_rows ht ce hsz h hl
  have key:∀ i:Fin len,∃ a,good a∧∀ j,j < sz→w.cell? ⟨b,off + i * sz + j, .none⟩=(f a)[j]?:=fun i=> by
   obtain ⟨es,h1,h2,h3⟩:=hes i (by have:=i.2;omega)
   obtain ⟨a,rfl,hg⟩:=hα es h1 h2
   exact ⟨a,hg,h3⟩
  let xs:List α:=List.ofFn fun i:Fin len=> Classical.choose (key i)
  have hxl:xs.length=len:=List.length_ofFn
  have hxi:∀ i (hi:i < xs.length),xs[i]=Classical.choose (key ⟨i,hxl ▸ hi⟩):=fun i hi=> List.getElem_ofFn _
  refine ⟨xs,?_,fun a ha=> ?_⟩
  ·rw [hxl]
   refine ⟨_,cap,rfl,hcap,by simp only [maxLen] at hmax;omega,by rw [flatF_length f sz hf,hxl],fun _=> ⟨b,off,rfl,hb,fun i hi=> ?_⟩⟩
   have h1:i / sz < xs.length:=by rw [hxl];exact Nat.div_lt_of_lt_mul (by rw [Nat.mul_comm];exact hi)
   have h2:=(Classical.choose_spec (key ⟨i / sz,hxl ▸ h1⟩)).2 (i % sz) (Nat.mod_lt _ hsz)
   have h3:=flatF_get f sz hf xs (i / sz) (i % sz) h1 (Nat.mod_lt _ hsz)
   rw [← hxi _ h1,← h3] at h2
   have e0:i / sz * sz + i % sz=i:=by rw [Nat.mul_comm];exact Nat.div_add_mod i sz
   have h4:w.cell? ⟨b,off + i / sz * sz + i % sz, .none⟩=(xs.flatMap f)[i / sz * sz + i % sz]?:=h2
   rw [Nat.add_assoc,e0] at h4
   exact h4
  ·obtain ⟨i,hi,rfl⟩:=List.getElem_of_mem ha
   rw [hxi i hi]
   exact (Classical.choose_spec (key ⟨i,hxl ▸ hi⟩)).1
/-- A slice of integers. -/
def RdZ (k:IntKind) (w:World) (v:Value) (zs:List Int):Prop:=RdS w 1 v zs.length (zs.map (.int k))
def RdBo (w:World) (v:Value) (l:List Bool):Prop:=RdS w 1 v l.length (l.map .bool)
theorem open_zs {t e:TypeId} {k:IntKind} {v:Value} (ht:P.underlying t=some (.slice e)) (he:P.underlying e=some (.int k)) (ce:P.cellsOf e=1)
  {r:Reach} {b0:Nat} {d:DataW H} {ps:List MemPlace} (hv:Value.okWide P w r b0 t v) (h0:DataW.Trod enc P w 0 (fun _=> true) true t v d ps):∃ zs:List Int,RdZ k w v zs∧∀ z ∈ zs,(Lit.int k z).wf=true:=by
 obtain ⟨xs,h1,h2⟩:=open_list (fun z:Int=> [Value.int k z]) (fun z=> (Lit.int k z).wf=true) ht ce (by omega) (fun _=> rfl) (fun es h1 h2=> by
  obtain ⟨n,rfl,hn⟩:=rd_int he h2
  exact ⟨n,rfl,hn⟩) hv h0
 rw [flatF_one] at h1
 exact ⟨xs,h1,h2⟩
end

theorem RdZ.cells {k:IntKind} {w:World} {v:Value} {zs:List Int} (h:RdZ k w v zs):∃ ao cap,v= .slice ao zs.length cap∧zs.length≤cap∧(cap:Int)≤9223372036854775807∧
  (zs≠ []→∃ b off,ao=some ⟨b,off, .none⟩∧b < w.heap.size∧∀ i (hi:i < zs.length),w.cell? ⟨b,off + i, .none⟩=some (.int k zs[i])):=by
 obtain ⟨ao,cap,e,h1,h2,_,h4⟩:=h
 refine ⟨ao,cap,e,h1,h2,fun hn=> ?_⟩
 obtain ⟨b,off,ea,hlt,hc⟩:=h4 (fun h=> hn (List.eq_nil_of_length_eq_zero h))
 refine ⟨b,off,ea,hlt,fun i hi=> (hc i (by omega)).trans ?_⟩
 simp [hi]
theorem RdBo.cells {w:World} {v:Value} {zs:List Bool} (h:RdBo w v zs):∃ ao cap,v= .slice ao zs.length cap∧zs.length≤cap∧(cap:Int)≤9223372036854775807∧
  (zs≠ []→∃ b off,ao=some ⟨b,off, .none⟩∧b < w.heap.size∧∀ i (hi:i < zs.length),w.cell? ⟨b,off + i, .none⟩=some (.bool zs[i])):=by
 obtain ⟨ao,cap,e,h1,h2,_,h4⟩:=h
 refine ⟨ao,cap,e,h1,h2,fun hn=> ?_⟩
 obtain ⟨b,off,ea,hlt,hc⟩:=h4 (fun h=> hn (List.eq_nil_of_length_eq_zero h))
 refine ⟨b,off,ea,hlt,fun i hi=> (hc i (by omega)).trans ?_⟩
 simp [hi]
theorem RdZ.below {k:IntKind} {w w':World} {v:Value} {zs:List Int} (h:RdZ k w v zs) (hb:Below w.heap.size w w'):RdZ k w' v zs:=RdS.below h hb
theorem RdBo.below {w w':World} {v:Value} {zs:List Bool} (h:RdBo w v zs) (hb:Below w.heap.size w w'):RdBo w' v zs:=RdS.below h hb
end Go.Proofs.YtampacmmhhilaaaGreat
/- The walks of package audit: a heap's book, its pages and slots. -/
namespace Go.Proofs.YtampacmmhhilaaaGreat

open Go.RowKit

abbrev shV (h:Hp):Value:= .agg #[.int .i64 h.p, .int .i64 h.c, .int .i64 h.m]
abbrev bookV (h:Hp) (v:Value):Value:= .agg #[.int .i64 h.p, .int .i64 h.c, .int .i64 h.m,v]
/-- What a book's methods lean on. -/
structure Bok (w:World) (v:Value) (h:Hp):Prop where
 ok:h.ok=true
 rd:RdZ .u64 w v h.xs
 fit:h.fit
theorem Bok.below {w w':World} {v:Value} {h:Hp} (b:Bok w v h) (hb:Below w.heap.size w w'):Bok w' v h:=⟨b.ok,b.rd.below hb,b.fit⟩
theorem Bok.may {w:World} {v:Value} {h:Hp} (b:Bok w v h):mayB h.p h.c h.m=true:=by
 have:=b.ok
 unfold Hp.ok at this
 rw [Bool.and_eq_true] at this
 exact this.1
theorem Bok.len {w:World} {v:Value} {h:Hp} (b:Bok w v h):totalV h.p h.c h.m≤(h.xs.length:Int):=by
 have:=b.ok
 unfold Hp.ok at this
 rw [Bool.and_eq_true,decide_eq_true_eq] at this
 exact this.2
theorem Bok.bd {w:World} {v:Value} {h:Hp} (b:Bok w v h):(1≤h.p∧h.p≤64)∧(1≤h.c∧h.c≤12)∧(0≤h.m∧h.m≤8)∧h.c + h.p + h.p * 16 + h.c * h.m≤(h.xs.length:Int):=by
 have h1:=mayB_iff.1 b.may
 have h2:=b.len
 unfold totalV at h2
 rw [if_pos b.may] at h2
 omega
/-- A word of the heap, in memory. -/
theorem Bok.word {w:World} {v:Value} {h:Hp} (b:Bok w v h) (i:Int) (h0:0≤i) (h1:i < (h.xs.length:Int)):∃ g off cap,∃ k:Nat,v= .slice (some ⟨g,off, .none⟩) h.xs.length cap∧h.xs.length≤cap∧g < w.heap.size∧i=(k:Int)∧k < h.xs.length∧w.cell? ⟨g,off + k, .none⟩=some (.int .u64 (wd h.xs i)):=by
 obtain ⟨ao,cap,e,hcap,hcm,hrow⟩:=b.rd.cells
 obtain ⟨g,off,rfl,hg,hc⟩:=hrow (fun e=> by rw [e] at h1;simp at h1;omega)
 refine ⟨g,off,cap,i.toNat,e,hcap,hg,by omega,by omega,?_⟩
 rw [hc i.toNat (by omega),wd_get h0 h1]
theorem readStatus_any (x:Int) (w:World) (h0:0≤x) (h1:x < 18446744073709551616):
  Calls Tryz.prog 75 #[.int .u64 x] w fun e w'=> Below w.heap.size w w'∧e= .returned (.tuple (if (statusV (kindV x) (partV x 0)==x)=true then #[.int .i64 (kindV x), .int .i64 (partV x 0)] else #[.int .i64 0, .int .i64 0])):=by
 have hp0:=fun w=> part_any x 0 w h0 h1 (by omega)
 have hk0:=fun w=> kind_any x w h0 h1
 generalize kindV x=k at *
 generalize partV x 0=A at *
 by_cases h2:statusV k A=x
 ·have h2':(statusV k A !=x)=false:=by simpa using h2
  have h3:(statusV k A==x)=true:=by simpa using h2
  rw [h3,if_pos rfl]
  clear h2 h3
  go_enter Tryz.func75,Tryz.ntmps75
  go_wp2_with (first
   | (go_at_call 120;refine (hk0 _).mono ?_;rintro e w1 ⟨rfl,rfl⟩)
   | (go_at_call 121;refine (hp0 _).mono ?_;rintro e w1 ⟨rfl,rfl⟩)
   | (go_at_call 119;refine (status_any _ _ _).mono ?_;rintro e w2 ⟨rfl,hb⟩))
  go_ret2
  exact ⟨hb,rfl⟩
 ·have h2':(statusV k A !=x)=true:=by simpa using h2
  have h3:(statusV k A==x)=false:=by simpa using h2
  rw [h3,if_neg Bool.false_ne_true]
  clear h2 h3
  go_enter Tryz.func75,Tryz.ntmps75
  go_wp2_with (first
   | (go_at_call 120;refine (hk0 _).mono ?_;rintro e w1 ⟨rfl,rfl⟩)
   | (go_at_call 121;refine (hp0 _).mono ?_;rintro e w1 ⟨rfl,rfl⟩)
   | (go_at_call 119;refine (status_any _ _ _).mono ?_;rintro e w2 ⟨rfl,hb⟩))
  go_ret2
  exact ⟨hb,rfl⟩
end Go.Proofs.YtampacmmhhilaaaGreat
/- The Adopter in memory: New, ask, begin. -/
namespace Go.Proofs.YtampacmmhhilaaaGreat

open Go.RowKit

attribute [local go_sem ↓] Go.wp_at_zero Go.wp_at_succ

theorem rs2 (x:Int) (w:World) (h0:0≤x∧x < 18446744073709551616):
  Calls Tryz.prog 75 #[.int .u64 x] w fun e w'=> e= .returned (.tuple #[.int .i64 (statusK x), .int .i64 (statusA x)])∧Below w.heap.size w w':=by
 refine (readStatus_any x w h0.1 h0.2).mono ?_
 rintro e w' ⟨hb,rfl⟩
 refine ⟨?_,hb⟩
 have h:(statusV (kindV x) (partV x 0)==x)=statusB x:=rfl
 rw [h]
 unfold statusK statusA
 cases statusB x <;> rfl
set_option maxHeartbeats 1000000 in
theorem adnew_any (s:Sh) (c d:Int) (w:World):
  Calls Tryz.prog 155 #[.agg #[.int .i64 s.p, .int .i64 s.c, .int .i64 s.m], .int .i64 c, .int .i64 d] w fun e w'=> Born w w' e (adCells s (adNew s c d)) 281:=by
 have hc1:=fun W=> planStatus_any s.p s.c s.m c W
 have hc2:=fun W=> planStatus_any s.p s.c s.m d W
 have hend:=fun k Y (hY:RowAt Y k (adCells s ⟨c,d,0,0,0,0,0,0,0,0,0,false⟩) 281)=> adend_any k s ⟨c,d,0,0,0,0,0,0,0,0,0,false⟩ 1 Y hY
 obtain ⟨t2,ht2,ht2'⟩:∃ t2:Ad,Hid (t2=if statusIx s.p s.c s.m c < 0∨statusIx s.p s.c s.m d < 0∨c=d then (⟨c,d,0,0,0,0,0,0,0,0,0,false⟩:Ad).fin 1 else ⟨c,d,0,0,0,0,0,0,0,0,0,false⟩)∧t2=adNew s c d:=⟨_,Lib.hid rfl,rfl⟩
 rw [← ht2']
 clear ht2'
 generalize statusIx s.p s.c s.m c=sx at *
 generalize statusIx s.p s.c s.m d=sd at *
 obtain ⟨sp,sc,sm⟩:=s
 dsimp only at hc1 hc2
 replace hc1:=Lib.hid hc1
 replace hc2:=Lib.hid hc2
 replace hend:=Lib.hid hend
 have hb0:=(Below.refl w.heap.size w).alloc (Nat.le_refl _) (.cells #[.int .i64 sp, .int .i64 sc, .int .i64 sm] 23)
 have t0:=heap_alloc_new w (.cells #[.int .i64 sp, .int .i64 sc, .int .i64 sm] 23)
 go_enter Tryz.func155,Tryz.ntmps155
 go_upto_region 1 with fail
 generalize w.alloc (.cells #[.int .i64 sp, .int .i64 sc, .int .i64 sm] 23)=W at *
 obtain ⟨H,hH,hH'⟩:∃ H,Hid (H=w.heap.size)∧H=w.heap.size:=⟨_,Lib.hid rfl,rfl⟩
 rw [← hH'] at t0 ⊢
 have hr0:RowAt W H #[.int .i64 sp, .int .i64 sc, .int .i64 sm] 23:=t0
 have lH:H < W.heap.size:=hr0.lt
 have c0:W.cell? ⟨H,0, .none⟩=some (.int .i64 sp):=hr0.cell 0
 have c1:W.cell? ⟨H,1, .none⟩=some (.int .i64 sc):=hr0.cell 1
 have c2:W.cell? ⟨H,2, .none⟩=some (.int .i64 sm):=hr0.cell 2
 clear t0 hH'
 have hWw:=Lib.hid hb0.size
 go_upto_region 2 with fail
 have hr:RowAt (W.alloc (.cells (adCells ⟨sp,sc,sm⟩ ⟨c,d,0,0,0,0,0,0,0,0,0,false⟩) 281)) W.heap.size (adCells ⟨sp,sc,sm⟩ ⟨c,d,0,0,0,0,0,0,0,0,0,false⟩) 281:=heap_alloc_new _ _
 have hbV:=hb0.trans ((Below.refl w.heap.size W).alloc hb0.size (.cells (adCells ⟨sp,sc,sm⟩ ⟨c,d,0,0,0,0,0,0,0,0,0,false⟩) 281))
 have hrr:=hr0.alloc (.cells (adCells ⟨sp,sc,sm⟩ ⟨c,d,0,0,0,0,0,0,0,0,0,false⟩) 281)
 dsimp only [adCells] at hr hbV hrr hend
 generalize W.alloc (.cells #[.int .i64 sp, .int .i64 sc, .int .i64 sm, .int .i64 c, .int .i64 d, .int .i64 0, .int .u64 0, .int .i64 0, .int .i64 0, .int .i64 0, .int .i64 0, .int .i64 0, .int .i64 0, .int .i64 0, .bool false] 281)=V at *
 obtain ⟨K,hK,hK'⟩:∃ K,Hid (K=W.heap.size)∧K=W.heap.size:=⟨_,Lib.hid rfl,rfl⟩
 rw [← hK'] at hr ⊢
 have hKw:w.heap.size≤K:=hK' ▸ hWw.out
 have lHV:H < V.heap.size:=hrr.lt
 have lKV:K < V.heap.size:=hr.lt
 clear hK' c0 c1 c2 lH hr0 hb0
 have c0:V.cell? ⟨H,0, .none⟩=some (.int .i64 sp):=hrr.cell 0
 have c1:V.cell? ⟨H,1, .none⟩=some (.int .i64 sc):=hrr.cell 1
 have c2:V.cell? ⟨H,2, .none⟩=some (.int .i64 sm):=hrr.cell 2
 clear hrr
 have hcs:sx < 0∨(0≤sx∧sd < 0)∨(0≤sx∧0≤sd∧c=d)∨(0≤sx∧0≤sd∧(c==d)=false):=by
  by_cases h1:sx < 0
  ·exact .inl h1
  by_cases h2:sd < 0
  ·exact .inr (.inl ⟨by omega,h2⟩)
  by_cases h:c=d
  ·exact .inr (.inr (.inl ⟨by omega,by omega,h⟩))
  ·exact .inr (.inr (.inr ⟨by omega,by omega,by simpa using h⟩))
 rcases hcs with h1 | ⟨h1,h2⟩ | ⟨h1,h2,rfl⟩ | ⟨h1,h2,h3⟩
 case inr.inr.inr=>
  replace ht2:=Lib.hid (ht2.out.trans (if_neg (by rintro (h | h | h) <;> first | omega | (rw [h] at h3;simp at h3))))
  clear hend
  go_wp2_with (first
   | (go_at_call 67;(with_reducible refine (hc1.out _).mono ?_);rintro r w1 ⟨rfl,hb1⟩;have d0:=keepF hb1 _ _ _ c0;have d1:=keepF hb1 _ _ _ c1;have d2:=keepF hb1 _ _ _ c2;have hr1:=hr.below hb1)
   | (go_at_call 67;(with_reducible refine (hc2.out _).mono ?_);rintro r w2 ⟨rfl,hb2⟩;have hr2:=hr1.below hb2)
   | fail)
  go_returns
  exact ⟨K,rfl,hKw,by rw [ht2.out];exact hr2,belowTrans (belowTrans hbV hb1) hb2⟩
 case inl=>
  replace ht2:=Lib.hid (ht2.out.trans (if_pos (.inl h1)))
  go_wp2_with (first
   | (go_at_call 67;(with_reducible refine (hc1.out _).mono ?_);rintro r w1 ⟨rfl,hb1⟩;have d0:=keepF hb1 _ _ _ c0;have d1:=keepF hb1 _ _ _ c1;have d2:=keepF hb1 _ _ _ c2;have hr1:=hr.below hb1)
   | (go_at_call 180;(with_reducible refine (hend.out _ _ hr1).mono ?_);rintro r w3 hT;obtain rfl:=hT.ret)
   | fail)
  go_returns
  have hbW:=belowTrans hbV hb1
  exact ⟨K,rfl,hKw,by rw [ht2.out];exact hT.row,hbW.trans (hT.only.below hbW.size fun k hk=> by rw [hk];exact hKw)⟩
 case inr.inl=>
  replace ht2:=Lib.hid (ht2.out.trans (if_pos (.inr (.inl h2))))
  go_wp2_with (first
   | (go_at_call 67;(with_reducible refine (hc1.out _).mono ?_);rintro r w1 ⟨rfl,hb1⟩;have d0:=keepF hb1 _ _ _ c0;have d1:=keepF hb1 _ _ _ c1;have d2:=keepF hb1 _ _ _ c2;have hr1:=hr.below hb1)
   | (go_at_call 67;(with_reducible refine (hc2.out _).mono ?_);rintro r w2 ⟨rfl,hb2⟩;have hr2:=hr1.below hb2)
   | (go_at_call 180;(with_reducible refine (hend.out _ _ hr2).mono ?_);rintro r w3 hT;obtain rfl:=hT.ret)
   | fail)
  go_returns
  have hbW:=belowTrans (belowTrans hbV hb1) hb2
  exact ⟨K,rfl,hKw,by rw [ht2.out];exact hT.row,hbW.trans (hT.only.below hbW.size fun k hk=> by rw [hk];exact hKw)⟩
 case inr.inr.inl=>
  replace ht2:=Lib.hid (ht2.out.trans (if_pos (.inr (.inr rfl))))
  go_wp2_with (first
   | (go_at_call 67;(with_reducible refine (hc1.out _).mono ?_);rintro r w1 ⟨rfl,hb1⟩;have d0:=keepF hb1 _ _ _ c0;have d1:=keepF hb1 _ _ _ c1;have d2:=keepF hb1 _ _ _ c2;have hr1:=hr.below hb1)
   | (go_at_call 67;(with_reducible refine (hc2.out _).mono ?_);rintro r w2 ⟨rfl,hb2⟩;have hr2:=hr1.below hb2)
   | (go_at_call 180;(with_reducible refine (hend.out _ _ hr2).mono ?_);rintro r w3 hT;obtain rfl:=hT.ret)
   | fail)
  go_returns
  have hbW:=belowTrans (belowTrans hbV hb1) hb2
  exact ⟨K,rfl,hKw,by rw [ht2.out];exact hT.row,hbW.trans (hT.only.below hbW.size fun k hk=> by rw [hk];exact hKw)⟩
end Go.Proofs.YtampacmmhhilaaaGreat
/- The Adopter in memory: ask, begin. -/
namespace Go.Proofs.YtampacmmhhilaaaGreat

open Go.RowKit

attribute [local go_sem ↓] Go.wp_at_zero Go.wp_at_succ

def Ad.asked (s:Sh) (t:Ad) (x:Int):Ad:=
 if statusK x=2 then { t with was:=x,next:=2 }
 else if statusK x≠3 then ({ t with was:=x }:Ad).fin 5
 else if statusIx s.p s.c s.m (statusA x) < 0 then ({ t with was:=x }:Ad).fin 4
 else { t with was:=x,who:=statusA x,next:=1 }
set_option maxRecDepth 100000 in
set_option maxHeartbeats 2000000 in
theorem adask_any (q p b:Nat) (s:Sh) (t:Ad) (m:Mem) (w:World) (h0:At3 q p b w w (adCells s t) 281 m) (hf:Fits s m) (hs:m.st < 1000000000) (hd:0≤t.d∧t.d < s.c):
  Calls Tryz.prog 303 #[.pointer (some ⟨q,0, .none⟩), .pointer (some ⟨p,0, .none⟩)] w fun e w'=> e= .returned (.tuple #[])∧At3 q p b w w' (adCells s (t.asked s (m.get (statusIx s.p s.c s.m t.d)))) 281 (m.load t.c (statusIx s.p s.c s.m t.d)):=by
 obtain ⟨hpx,hph⟩:=hf.status hd
 have hcp:=fun Y=> planStatus_any s.p s.c s.m t.d Y
 rw [hpx] at hcp ⊢
 have hlp:=fun Y (hY:WdsAt Y p b m)=> wload_any p b m t.c t.d Y hY hph hs
 have hrs:=fun Y=> rs2 (m.get t.d) Y (Mem.get_fit h0.wds.fit _)
 generalize m.get t.d=x at *
 have hst:=fun Y=> planStatus_any s.p s.c s.m (statusA x) Y
 have hend:=fun e Y (hY:RowAt Y q (adCells s { t with was:=x }) 281)=> adend_any q s { t with was:=x } e Y hY
 clear hpx hph hf hd
 unfold Ad.asked
 obtain ⟨t2,ht2,ht2'⟩:∃ t2:Ad,Hid (t2=if statusK x=2 then { t with was:=x,next:=2 } else if statusK x≠3 then ({ t with was:=x }:Ad).fin 5 else if statusIx s.p s.c s.m (statusA x) < 0 then ({ t with was:=x }:Ad).fin 4 else { t with was:=x,who:=statusA x,next:=1 })∧t2=_:=⟨_,Lib.hid rfl,rfl⟩
 rw [← ht2']
 clear ht2'
 generalize statusK x=k at *
 generalize statusA x=A at *
 generalize statusIx s.p s.c s.m A=sx at *
 obtain ⟨sp,sc,sm⟩:=s
 obtain ⟨tc,td,tn,tw,tby,ta,ti,pk,pa,pb,terr,tdone⟩:=t
 dsimp only at hcp hlp hst hend ht2 ⊢
 replace hcp:=Lib.hid hcp
 replace hlp:=Lib.hid hlp
 replace hrs:=Lib.hid hrs
 replace hst:=Lib.hid hst
 replace hend:=Lib.hid hend
 have hcs:k=2∨((k==2)=false∧(k==3)=false)∨(k=3∧sx < 0)∨(k=3∧¬ sx < 0):=by
  by_cases h1:k=2
  ·exact .inl h1
  by_cases h2:k=3
  ·by_cases h3:sx < 0
   ·exact .inr (.inr (.inl ⟨h2,h3⟩))
   ·exact .inr (.inr (.inr ⟨h2,h3⟩))
  ·exact .inr (.inl ⟨by simpa using h1,by simpa using h2⟩)
 have hX:=h0
 clear h0
 have lw:=hX.lt
 go_enter Tryz.func303,Tryz.ntmps303
 go_upto_region 0 with fail
 refine wp_region_loud_last 18 (last:= { dst:=none,op:=Op.store 57 (Operand.tmp 23) (Operand.tmp 21),type:=0,pos:=_,after:=_,guard:=none }) (x:=noVar 2) (ld:=15) (v:= .int .u64 x) (ts:= [7,11,20])
  (K0:=fun Y=> At3 q p b w Y (adCells ⟨sp,sc,sm⟩ ⟨tc,td,tn,tw,tby,ta,ti,pk,pa,pb,terr,tdone⟩) 281 m) (K1:=fun Y=> At3 q p b w Y (adCells ⟨sp,sc,sm⟩ ⟨tc,td,tn,tw,tby,ta,ti,pk,pa,pb,terr,tdone⟩) 281 (m.load tc td))
  (by kernel_rfl) rfl (by kernel_rfl) (by simp only [List.take,noVar,nopMF,nopM1,nopO,nopC,Nat.reduceBEq,Bool.or_false,Bool.or_true,Bool.false_eq_true,↓reduceIte,Nat.reduceAdd];exact rfl) (by kernel_rfl) (by kernel_rfl) (by kernel_rfl) (by simp [noVar]) (by simp [noVar]) (by simp [noVar]) (by simp [noVar]) (by kernel_rfl) (by simp [noVar]) (by simp [noVar])
  ⟨⟨fun Y Y' h1 h2 h3=> h1.far h2 h3 hX.only.size⟩,⟨fun Y Y' h1 h2 h3=> h1.far h2 h3 hX.only.size⟩⟩ hX.drew ?_
 apply Exists.intro
 refine ⟨fun B hb hs=> ?_,fun h=> (by simp [noVar] at h),fun Q0=> ?_,?_⟩
 case refine_1=>
  have hrB:RowAt B q (adCells ⟨sp,sc,sm⟩ ⟨tc,td,tn,tw,tby,ta,ti,pk,pa,pb,terr,tdone⟩) 281:=hb.elim (fun h=> h.row) (fun h=> h.row)
  have lB:=hrB.lt
  have k0:B.cell? ⟨q,0, .none⟩=some (.int .i64 sp):=hrB.cell 0
  have k1:B.cell? ⟨q,1, .none⟩=some (.int .i64 sc):=hrB.cell 1
  have k2:B.cell? ⟨q,2, .none⟩=some (.int .i64 sm):=hrB.cell 2
  have k3:B.cell? ⟨q,3, .none⟩=some (.int .i64 tc):=hrB.cell 3
  have k4:B.cell? ⟨q,4, .none⟩=some (.int .i64 td):=hrB.cell 4
  repeat (go_big_quiet_step ((first | (go_at_call 67;exact ext_of (hcp.out _)) | fail)))
  exact wpQuiet_nil rfl
 case refine_2=> exact loud_step rfl (fun _ _=> by simp [go_sem]) fun Y hY2 hs=> (hlp.out Y hY2.wds).mono fun r Y' ⟨h1,h2,h3⟩=> ⟨h1,hY2.load h2 h3,h3.weak fun k hk=> hk ▸ Nat.lt_of_lt_of_le hY2.ls.2.1 hX.only.size⟩
 case refine_3=>
  intro a w4 M hf
  obtain ⟨rfl,hbig,hk1,_⟩:=hf
  have z6:w4.cell? ⟨q,6, .none⟩=some (.int .u64 tw):=hk1.cell 6
  have zf:=hk1.free
  have hA:=hk1.set 6 (.int .u64 x)
  simp only [noVar,vput,List.take,List.size_toArray,List.length_cons,List.length_nil,Nat.reduceAdd,Nat.reduceLT,decide_false,Bool.false_eq_true,if_false]
  clear hk1 hX hlp hcp
  go_upto_region 1 with fail
  generalize World.setCell _ ⟨q,6, .none⟩ (.int .u64 x)=Y at *
  clear z6 zf
  have lY:=hA.lt
  have c6:Y.cell? ⟨q,6, .none⟩=some (.int .u64 x):=hA.cell 6
  rcases hcs with rfl | ⟨hk2,hk3⟩ | ⟨rfl,hsx⟩ | ⟨rfl,hsx⟩
  ·replace ht2:=Lib.hid (ht2.out.trans (if_pos rfl))
   clear hend hst
   go_wp2_with (first
    | (go_at_call 75;(with_reducible refine (hrs.out _).mono ?_);rintro r w1 ⟨rfl,hb1⟩;have hB:=hA.below hb1;have k5:w1.cell? ⟨q,5, .none⟩=some (.int .i64 tn):=hB.cell 5;have zf:=hB.free)
    | fail)
   go_returns
   exact ⟨rfl,by rw [ht2.out];exact hB.set 5 _⟩
  ·replace ht2:=Lib.hid ((ht2.out.trans (if_neg (by simpa using hk2))).trans (if_pos (by simpa using hk3)))
   clear hst
   go_wp2_with (first
    | (go_at_call 75;(with_reducible refine (hrs.out _).mono ?_);rintro r w1 ⟨rfl,hb1⟩;have hB:=hA.below hb1)
    | (go_at_call 180;(with_reducible refine (hend.out _ _ hB.row).mono ?_);rintro r w3 hT;obtain rfl:=hT.ret)
    | fail)
   go_returns
   exact ⟨rfl,by rw [ht2.out];exact hB.turned hT⟩
  ·replace ht2:=Lib.hid (((ht2.out.trans (if_neg (by decide))).trans (if_neg (by decide))).trans (if_pos hsx))
   go_wp2_with (first
    | (go_at_call 75;(with_reducible refine (hrs.out _).mono ?_);rintro r w1 ⟨rfl,hb1⟩;have hB:=hA.below hb1;have k0:w1.cell? ⟨q,0, .none⟩=some (.int .i64 sp):=hB.cell 0;have k1:w1.cell? ⟨q,1, .none⟩=some (.int .i64 sc):=hB.cell 1;have k2:w1.cell? ⟨q,2, .none⟩=some (.int .i64 sm):=hB.cell 2)
    | (go_at_call 67;(with_reducible refine (hst.out _).mono ?_);rintro r w2 ⟨rfl,hb2⟩;have hC:=hB.below hb2)
    | (go_at_call 180;(with_reducible refine (hend.out _ _ hC.row).mono ?_);rintro r w3 hT;obtain rfl:=hT.ret)
    | fail)
   go_returns
   exact ⟨rfl,by rw [ht2.out];exact hC.turned hT⟩
  ·replace ht2:=Lib.hid (((ht2.out.trans (if_neg (by decide))).trans (if_neg (by decide))).trans (if_neg hsx))
   clear hend
   have hsx':0≤sx:=by omega
   go_wp2_with (first
    | (go_at_call 75;(with_reducible refine (hrs.out _).mono ?_);rintro r w1 ⟨rfl,hb1⟩;have hB:=hA.below hb1;have k0:w1.cell? ⟨q,0, .none⟩=some (.int .i64 sp):=hB.cell 0;have k1:w1.cell? ⟨q,1, .none⟩=some (.int .i64 sc):=hB.cell 1;have k2:w1.cell? ⟨q,2, .none⟩=some (.int .i64 sm):=hB.cell 2)
    | (go_at_call 67;(with_reducible refine (hst.out _).mono ?_);rintro r w2 ⟨rfl,hb2⟩;have hC:=hB.below hb2;have l5:w2.cell? ⟨q,5, .none⟩=some (.int .i64 tn):=hC.cell 5;have l7:w2.cell? ⟨q,7, .none⟩=some (.int .i64 tby):=hC.cell 7;have zf:=hC.free)
    | fail)
   go_returns
   exact ⟨rfl,by rw [ht2.out];exact (hC.set 7 _).set 5 _⟩
end Go.Proofs.YtampacmmhhilaaaGreat
