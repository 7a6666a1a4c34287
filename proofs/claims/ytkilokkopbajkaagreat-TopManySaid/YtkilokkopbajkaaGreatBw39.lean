/- Lemmas for the claim. -/
import Derived.ChangeKeysEq

import Derived.Maps.Own

import Derived.Test.YtkilokkopbajkaaGreatBw38

set_option linter.all false
set_option maxHeartbeats 8000000
set_option maxRecDepth 100000
namespace Go.Proofs.YtkilokkopbajkaaGreat

section

open Go.RowKit

attribute [local go_sem ↓] Go.wp_at_zero Go.wp_at_succ

def sT:Sh:=⟨2,1,1⟩
theorem tM:JA sT=284:=by decide
theorem OQ(a b c d:Value)(w:World):(Instr.field 87 (.agg #[a,b,c,d]) 0).run Tryz.prog w= .ok a w:=by kernel_rfl
attribute [local go_sem ↓] OQ

end

section

open Go.RowKit

attribute [local go_sem ↓] Go.wp_at_zero Go.wp_at_succ

theorem yK{s:Sh}{d:Wd}{n:Nat}(h:AI s d n):(hpOf s d.m).bl=(jdOf s d).l:=by
 obtain⟨_,σ,f,b⟩:=h;have:=b.bl;rw[b.W]at this;exact yrx f.rep f.gi this
theorem qK{s:Sh}{d:Wd}{n:Nat}(h:AI s d n)(v:Value)(w:World)(z:RdZ .u64 w v d.m.ws):
  Calls Tryz.prog 34 #[.agg #[s.p,s.c,s.m],v] w fun e w'=>Below w.heap.size w w'/\∃ ao cap,e= .returned (.slice ao (jdOf s d).l.length cap)/\(jdOf s d).l.length<=cap/\(cap:Int)<=9223372036854775807/\
   Hid (∀ k (j:k<(jdOf s d).l.length),∃ b i,ao=some ⟨b,i,.none⟩/\(w.heap.size<=b/\b<w'.heap.size)/\w'.cell? ⟨b,i+k*2,.none⟩=some (.int .i64 ((jdOf s d).l[k]).a)/\w'.cell? ⟨b,i+k*2+1,.none⟩=some (.int .i64 ((jdOf s d).l[k]).n)):=by
 refine(yjc (hpOf s d.m) v w z h.1.fit).mono fun e w' ⟨v',h1,h2,h3⟩=>⟨h2,?_⟩;rw[yK h]at h3;obtain⟨ao,cap,rfl,q,r,_,t⟩:=RdS.GC h3;refine⟨ao,cap,h1,q,r,hd' fun k j=>?_⟩;obtain⟨b,i,o,hb,hc⟩:=t (by omega);have y:=(h3.lt b (by rw[o];rfl)).1;refine⟨b,i,o,⟨y,hb⟩,?_,?_⟩
 ·refine(hc (k*2) (by omega)).trans ?_;exact gK _ _ 0 j (by omega)
 rw[Nat.add_assoc];refine(hc (k*2+1) (by omega)).trans ?_;exact gK _ _ 1 j (by omega)
end

section

open Go.RowKit

structure BA (W0:World) (g:Nat) (s:Sh) (Kp:Nat->Obj->Prop) (d:Wd) (W:World):Prop where
 wd:∃ F x,WdP W0.heap.size F W g s d x/\∀ k v,Kp k v->W.heap[k]?=some v/\¬ F k
 ab:Below W0.heap.size W0 W
def kp1 (k:Nat) (v:Obj):Nat->Obj->Prop:=fun i o=> i=k/\o=v
def kpM (Kp:Nat->Obj->Prop) (k:Nat) (v:Obj):Nat->Obj->Prop:=fun i o=> Kp i o\/(i=k/\o=v)
section

variable {W0 W W':World} {g:Nat} {s:Sh} {Kp Kq:Nat->Obj->Prop} {d d':Wd} {n:Nat}

theorem BA.keep(h:BA W0 g s Kp d W){k:Nat}{v:Obj}(b:Kp k v):W.heap[k]?=some v:=by
 obtain⟨⟨F,x,_,h2⟩,_⟩:=h;exact(h2 k v b).1
theorem BA.imp(h:BA W0 g s Kp d W)(f:∀ k v,Kq k v->Kp k v):BA W0 g s Kq d W:=by
 obtain⟨⟨F,x,h1,h2⟩,h3⟩:=h;exact⟨⟨F,x,h1,fun k v b=>h2 k v (f k v b)⟩,h3⟩
theorem BA.below(h:BA W0 g s Kp d W)(hb:Below W.heap.size W W'):BA W0 g s Kp d W':=by
 obtain⟨⟨F,x,h1,h2⟩,h3⟩:=h;exact⟨⟨F,x,h1.below hb,fun k v b=>⟨(hb.block k (Array.getElem?_eq_some_iff.1 (h2 k v b).1).1).trans (h2 k v b).1,(h2 k v b).2⟩⟩,h3.trans (hb.mono h3.size)⟩
theorem BA.add(h:BA W0 g s Kp d W)(hb:Below W.heap.size W W'){k:Nat}{v:Obj}(q:W.heap.size<=k)(l:W'.heap[k]?=some v):BA W0 g s (kpM Kp k v) d W':=by
 obtain⟨⟨F,x,h1,h2⟩,h3⟩:=h.below hb;obtain⟨⟨j,p,b,f⟩,_⟩:=h;refine⟨⟨j,p,b.below hb,fun i o hi=>?_⟩,h3⟩;rcases hi with hi|⟨rfl,rfl⟩
 ·exact⟨(h2 i o hi).1,(f i o hi).2⟩
 exact⟨l,fun e=>by have:=(b.lt i e).2;omega⟩
theorem BA.to{F:Nat->Prop}{x:Wx}(h3:Below W0.heap.size W0 W)(h1:WdP W0.heap.size F W g s d x)(h2:∀ k v,Kp k v->W.heap[k]?=some v/\¬ F k)(h:WdTo W0.heap.size F W W' g s d'):BA W0 g s Kp d' W':=by
 obtain⟨⟨r,f⟩,o,t⟩:=h;refine⟨⟨_,r,f,fun k v q=>?_⟩,h3.trans (o.below h3.size (fun j p=>(h1.lt j p).1))⟩;obtain⟨i,l⟩:=h2 k v q;have b:=(jE i);exact⟨(o.block k b l).trans i,rH l b⟩
theorem HN{Y:World}(q:mayB s.p s.c s.m=true)(i:Below W0.heap.size W0 Y)(b:∀ k v,Kp k v->Y.heap[k]?=some v):
  Calls Tryz.prog 10 #[.agg #[s.p,s.c,s.m]] Y fun e w'=>∃ g v,e= .returned (.tuple #[.pointer (some ⟨g,0,.none⟩),.pointer (some ⟨v,0,.none⟩)])/\BA W0 g s Kp (ZA s) w'/\Below Y.heap.size Y w':=
 (MU s Y q).mono fun e w' ⟨hb,g,v,x,l,r⟩=>⟨g,v,l,⟨⟨_,x,r.lower i.size,fun k o j=>⟨(hb.block k (jE (b k o j))).trans (b k o j),fun e=>by have:=(jE (b k o j));omega⟩⟩,i.trans (hb.mono i.size)⟩,hb⟩
theorem fG(h:BA W0 g s Kp d W)(q:wdOk s d n)(p:n<=30000000)(l j o b cn:Int)(i:Nat):
  Calls Tryz.prog 11 #[some g,.agg #[l,j,o,b,cn,.float .f64 i]] W fun e w'=>e= .returned (.int .i64 (d.act s ⟨l,j,o,b,cn,i⟩).2)/\BA W0 g s Kp (d.act s ⟨l,j,o,b,cn,i⟩).1 w':=by
 obtain⟨⟨F,x,h1,h2⟩,h3⟩:=h;exact(TO h1 h3.size q p ⟨l,j,o,b,cn,i⟩).mono fun e w' k=>⟨k.1,BA.to h3 h1 h2 k.2⟩
theorem SI(h:BA W0 g s Kp d W):
  Calls Tryz.prog 15 #[some g] W fun e w'=>∃ v',e= .returned v'/\Below W.heap.size W w'/\RdZ .u64 w' v' d.m.ws:=by
 obtain⟨⟨F,x,h1,h2⟩,h3⟩:=h;exact(xQ h1).mono fun e w' ⟨v,k1,b,i⟩=>⟨v,k1,b,RdS.GC i⟩
theorem BA.other{G:Nat->Prop}(h:BA W0 g s Kp d W)(j:Only G W W')(p:∀ k,G k->W0.heap.size<=k/\∃ v,Kp k v)(r:∀ k v,Kq k v->(Kp k v/\¬ G k)\/((G k\/W.heap.size<=k)/\W'.heap[k]?=some v)):BA W0 g s Kq d W':=by
 obtain⟨⟨F,x,h1,h2⟩,h3⟩:=h;have hd:∀ k,F k->¬ G k:=fun k f b=>by obtain⟨_,v,o⟩:=p k b;exact(h2 k v o).2 f
 refine⟨⟨F,x,h1.only j hd,fun k v i=>?_⟩,h3.trans (j.below h3.size fun k i=>(p k i).1)⟩;rcases r k v i with⟨l,q⟩|⟨b,o⟩
 ·exact⟨(j.block k (Array.getElem?_eq_some_iff.1 (h2 k v l).1).1 q).trans (h2 k v l).1,(h2 k v l).2⟩
 refine⟨o,fun f=>?_⟩;rcases b with b|b
 ·exact hd k f b
 have:=(h1.lt k f).2;omega
end

end

section

open Go.RowKit

def kpN (Kp:Nat->Obj->Prop) (W W':World):Nat->Obj->Prop:=fun k v=> Kp k v\/(W.heap.size<=k/\W'.heap[k]?=some v)
section

variable {W0 W W' X:World} {g:Nat} {s:Sh} {Kp:Nat->Obj->Prop} {d d':Wd} {n:Nat}

theorem BA.news(h:BA W0 g s Kp d W)(hb:Below W.heap.size W W'):BA W0 g s (kpN Kp W W') d W':=by
 obtain⟨⟨F,x,h1,h2⟩,h3⟩:=h.below hb;obtain⟨⟨j,p,b,f⟩,_⟩:=h;refine⟨⟨j,p,b.below hb,fun i o hi=>?_⟩,h3⟩;rcases hi with hi|⟨hi,l⟩
 ·exact⟨(h2 i o hi).1,(f i o hi).2⟩
 exact⟨l,fun e=>by have:=(b.lt i e).2;omega⟩
theorem BA.EH(h:BA W0 g s (kpN Kp W W') d X){b o:Nat}(h1:W.heap.size<=b)(h2:b<W'.heap.size):X.cell? ⟨b,o,.none⟩=W'.cell? ⟨b,o,.none⟩/\b<X.heap.size:=by
 obtain⟨v,f⟩:∃ v,W'.heap[b]?=some v:=⟨_,Array.getElem?_eq_getElem h2⟩;have h3:=h.keep (.inr ⟨h1,f⟩);exact⟨World.cell?_of_block (h3.trans f.symm),(jE h3)⟩
end

end

section

open Go.RowKit

theorem yh6:(Tryz.prog.info? 3).isSome=true:=by kernel_rfl
theorem yiv:Tryz.prog.cellsOf 3=1:=by kernel_rfl
theorem QQ(w:World)(d:Nat)(f b:List Int):∀ (l:List Nat),(∀ i ∈ l,i<f.length/\i<b.length)->(Op.eqItems (d+1) 3 1 (f.map (Value.int .i64)).toArray (b.map (Value.int .i64)).toArray l).run Tryz.prog w= .ok (l.all fun i=>f.getD i 0==b.getD i 0) w
 | [],_=>by simp[Op.eqItems]
 |i::l,h=>by
  have hi:=h i (by simp)
  have q:=QQ w d f b l fun j p=>h j (by simp[p])
  have o:=Tryz.underlying3
  have r:(part 3 (f.map (Value.int .i64)).toArray (i*1)).run Tryz.prog w= .ok (.int .i64 (f.getD i 0)) w:=by
   simp[part,isAgg,run_underlying o,List.getD,List.getElem?_eq_getElem hi.1]
  have y:(part 3 (b.map (Value.int .i64)).toArray (i*1)).run Tryz.prog w= .ok (.int .i64 (b.getD i 0)) w:=by
   simp[part,isAgg,run_underlying o,List.getD,List.getElem?_eq_getElem hi.2]
  simp only[Op.eqItems,Sem.run_bind,r,y,run_equalIn_int w d _ .i64 .i64 _ _ o,Result.andThen_ok,List.all_cons]
  cases hb:(f.getD i 0==b.getD i 0)
  ·simp
  ·simpa using q
theorem yjm(a b c d:Int)(w:World):∃ r:Bool,(Op.equal 74 (.agg #[a,b]) (.agg #[c,d])).run Tryz.prog w= .ok r w/\r=([0,1].all fun i=>[a,b].getD i 0== [c,d].getD i 0):=by
 obtain⟨f,hi⟩:=Option.isSome_iff_exists.1 yh6;refine⟨_,?_,rfl⟩;show (Op.equalIn (9998+2) 74 (.agg ([a,b].map (Value.int .i64)).toArray) (.agg ([c,d].map (Value.int .i64)).toArray)).run Tryz.prog w=_;rw[run_equalIn_array w (9998+1) _ _ Tryz.underlying74 hi,yiv,QQ w 9998 [a,b] [c,d] _ (fun i hi=>by have:=List.mem_range.1 hi;simp;omega)];rfl
theorem UQ(e:Bool)(a b:Int)(w:World):(Instr.checkKey e 10000 74 (.agg #[a,b])).run Tryz.prog w= .ok () w:=by
 kernel_rfl
def AG (es:Array MapEntry):Prop:=∀ e ∈ es.toList,(∃ a b:Int,e.key= .agg #[a,b])/\e.val= .agg #[]
theorem AG.nil:AG #[]:=fun e b=>by simp at b
theorem AG.push{es:Array MapEntry}(h:AG es)(a b:Int)(n:Nat):AG (es.push ⟨.agg #[a,b],.agg #[],n⟩):=fun e f=>by
 simp only[Array.toList_push,List.mem_append,List.mem_singleton]at f
 rcases f with f|f
 ·exact h e f
 ·subst f;exact⟨⟨a,b,rfl⟩,rfl⟩
theorem VQ(a b:Int):∀ (es:List MapEntry) (i:Nat),(∀ e ∈ es,(∃ a b:Int,e.key= .agg #[a,b])/\e.val= .agg #[])->
  ∃ r:Option Nat,(∀ w:World,(Instr.findAsking 74 (.agg #[a,b]) es i).run Tryz.prog w= .ok (r.map fun j=>(j,.agg #[])) w)/\((∀ e ∈ es,e.key≠ .agg #[a,b])->r=none)
 | [],i,_=>⟨none,fun w=>rfl,fun _=>rfl⟩
 |e::es,i,h=>by
  obtain⟨⟨c,d,l⟩,B⟩:=h e (by simp)
  obtain⟨r,z,y⟩:=VQ a b es (i+1) fun e o=>h e (by simp[o])
  have f:=fun w=>yjm a b c d w
  cases hb:([0,1].all fun i=>[a,b].getD i 0== [c,d].getD i 0)
  ·refine⟨r,fun w=>?_,fun l=>y fun e o=>l e (by simp[o])⟩
   obtain⟨q,h1,h2⟩:=f w
   rw[hb]at h2;subst h2
   simp only[Instr.findAsking,Sem.run_bind,l,h1,Result.andThen_ok]
   exact z w
  ·refine⟨some i,fun w=>?_,fun p=>(p e (by simp) ?_).elim⟩
   rotate_left
   ·simp only[List.all_cons,List.all_nil,Bool.and_true,jC,List.getD_cons_zero,List.getD_cons_succ,beq_iff_eq]at hb
    rw[l,hb.1,hb.2]
   obtain⟨q,h1,h2⟩:=f w
   rw[hb]at h2;subst h2
   simp only[Instr.findAsking,Sem.run_bind,l,h1,Result.andThen_ok]
   simp[B]
theorem yjs(a b:Int)(es:Array MapEntry)(h:AG es):∃ r:Option Nat,(∀ w:World,(Instr.findKey 74 (.agg #[a,b]) es.toList).run Tryz.prog w= .ok (r.map fun j=>(j,.agg #[])) w)/\((∀ e ∈ es.toList,e.key≠ .agg #[a,b])->r=none):=by
 obtain⟨r,p,i⟩:=VQ a b es.toList 0 h;have hu:=Tryz.underlying74;cases hes:es.toList with
 |nil=>refine⟨none,fun w=>?_,fun _=>rfl⟩;simp[Instr.findKey,Instr.findNow,run_underlying hu]
 |cons e l=>
  refine⟨r,fun w=>?_,fun f=>i (hes ▸ f)⟩;rw[<-hes];have o:∀ d:TypeDesc,(∀ k,d≠ .int k)->d≠ .string->d≠ .bool->Instr.findNow d (.agg #[a,b]) es.toList 0=none:=fun d h1 h2 h3=>by rw[hes];obtain⟨⟨c,d',f⟩,_⟩:=h e (by rw[hes];simp);simp only[Instr.findNow,f];cases d<;>simp_all [Instr.sameNow]
  simp only[Instr.findKey,Sem.run_bind,run_underlying hu,Result.andThen_ok];rw[o _ (fun k=>by simp) (by simp) (by simp)];exact p w
theorem yju(w:World):(zeroValue 186).run Tryz.prog w= .ok (.agg #[]) w:=by kernel_rfl
def dG (w:World) (M:Nat) (es:Array MapEntry) (c:Nat):World:= { w with heap:=w.heap.setIfInBounds M (.map es c) }
theorem yij{w:World}{M:Nat}(es:Array MapEntry)(c:Nat)(h:M<w.heap.size):(dG w M es c).heap[M]?=some (.map es c):=by
 unfold dG;simp[h]
theorem yh4(w:World)(M:Nat)(es:Array MapEntry)(c:Nat):(dG w M es c).heap.size=w.heap.size:=by simp[dG]
theorem map2(a b:Int)(es:Array MapEntry)(h:AG es):∃ r:Bool,(∀ (w:World) (M c:Nat),w.heap[M]?=some (.map es c)->(Instr.lookup 182 (.map (some M)) (.agg #[a,b]) true).run Tryz.prog w= .ok (.tuple #[.agg #[],r]) w)/\(r=false->∀ (w:World) (M c:Nat),w.heap[M]?=some (.map es c)->(Instr.mapUpdate 182 (.map (some M)) (.agg #[a,b]) (.agg #[])).run Tryz.prog w= .ok () (dG w M (es.push ⟨.agg #[a,b],.agg #[],c⟩) (c+1)))/\((∀ e ∈ es.toList,e.key≠ .agg #[a,b])->r=false):=by
 obtain⟨r,q,p⟩:=yjs a b es h;have hu:=Tryz.underlying182;refine⟨r.isSome,fun w M c f=>?_,fun z w M c f=>?_,fun y=>by rw[p y];rfl⟩
 ·have l:(getObj M).run Tryz.prog w= .ok (.map es c) w:=by simp[getObj,Sem.run,f]
  have B:=yju w;have hc:=UQ es.isEmpty a b w;have i:=q w;cases r with
  |none=>simp[Instr.lookup,run_underlying hu,l,hc,i,B]
  |some j=>simp[Instr.lookup,run_underlying hu,l,hc,i]
 have l:(getObj M).run Tryz.prog w= .ok (.map es c) w:=by simp[getObj,Sem.run,f]
 have hc:=UQ false a b w;have i:=q w;cases r with
 |some j=>cases z;|none=>
  have hs:∀ o,(setObj M o).run Tryz.prog w= .ok () {w with heap:=w.heap.setIfInBounds M o}:=fun o=>by simp[setObj,Sem.run,f]
  simp[Instr.mapUpdate,run_underlying hu,l,hc,i,hs,dG]
end

section

open Go.RowKit

attribute [local go_sem ↓] Go.wp_at_zero Go.wp_at_succ

def Hp.mx (h:Hp) (c i:Int):Int:=wd h.xs (h.c + h.p + h.p * 16 + c * h.m + i)
structure Hp.xK (h:Hp):Prop where
 en:∀ c i:Nat,(c:Int) < h.c->(i:Int) < h.m->h.mx c i≠0->JC h.p h.c h.m (h.mx c i)=true/\h.pk (nA (h.mx c i) 0)=2/\h.pa (nA (h.mx c i) 0)=nA (h.mx c i) 2/\h.sk (nA (h.mx c i) 0) (nA (h.mx c i) 1)=2/\h.sa (nA (h.mx c i) 0) (nA (h.mx c i) 1)=c
 on:∀ c i c' i':Nat,(c:Int) < h.c->(i:Int) < h.m->(c':Int) < h.c->(i':Int) < h.m->h.mx c i≠0->h.mx c' i'≠0->nA (h.mx c i) 0=nA (h.mx c' i') 0->nA (h.mx c i) 1=nA (h.mx c' i') 1->c=c'/\i=i'
theorem Bok.yrw{w:World}{v:Value}{h:Hp}(b:Bok w v h):∃ ao cap,v= .slice ao h.xs.length cap/\
  ∀ c i:Nat,(c:Int)<h.c->(i:Int)<h.m->∃ (g f:Nat) (k:Nat),ao=some ⟨g,f,.none⟩/\g<w.heap.size/\fC h.p h.c h.m c i=(k:Int)/\k<h.xs.length/\w.cell? ⟨g,f+k,.none⟩=some (.int .u64 (h.mx c i))/\0<=h.mx c i/\h.mx c i<18446744073709551616:=by
 obtain⟨E,F,G,H⟩:=b.bd;obtain⟨ao,cap,q,_,_,_⟩:=b.rd.cells;refine⟨ao,cap,q,fun c i hc hi=>?_⟩;have t:=NE (c:=(c:Int)) (m:=h.m) (C:=h.c-1) (M:=h.m) (by omega) (by omega);have B:(h.c-1)*h.m=h.c*h.m-h.m:=by rw[Int.sub_mul,Int.one_mul]
 have h0:=NE (c:=h.c) (m:=h.m) (C:=12) (M:=8) (by omega) (by omega);obtain⟨g,f,o,k,j,_,y,z,l,D⟩:=b.word (h.c+h.p+h.p*16+c*h.m+i) (by omega) (by omega);rw[q]at j;injection j with r _ _;refine⟨g,f,k,r,y,?_,l,D,h.QK b.fit _⟩;unfold fC;rw[jP ⟨b.may,IA.2 (by omega),IA.2 (by omega)⟩,z]
def MapG (w:World) (M:Nat) (h:Hp) (c i:Nat):Prop:=∃ es n,AG es/\(∀ e ∈ es.toList,∃ d j:Nat,(d < c/\(j:Int) < h.m\/d=c/\j < i)/\h.mx d j≠0/\e.key= .agg #[.int .i64 (nA (h.mx d j) 0),.int .i64 (nA (h.mx d j) 1)])/\w.heap[M]?=some (.map es n)
theorem MapG.below{w w':World}{M:Nat}{h:Hp}{c i:Nat}(g:MapG w M h c i)(hb:Below w.heap.size w w'):MapG w' M h c i:=by
 obtain⟨es,n,j,f,b⟩:=g;exact⟨es,n,j,f,(hb.block M (jE b)).trans b⟩
theorem MapG.skip{w:World}{M:Nat}{h:Hp}{c i:Nat}(g:MapG w M h c i):MapG w M h c (i+1):=by
 obtain⟨es,n,o,f,l⟩:=g;refine⟨es,n,o,fun e b=>?_,l⟩;obtain⟨d,j,h1,h2,h3⟩:=f e b;exact⟨d,j,by omega,h2,h3⟩
theorem MapG.next{w:World}{M:Nat}{h:Hp}{c q:Nat}(g:MapG w M h c q)(o:h.m=q):MapG w M h (c+1) 0:=by
 obtain⟨es,n,l,f,i⟩:=g;refine⟨es,n,l,fun e b=>?_,i⟩;obtain⟨d,j,h1,h2,h3⟩:=f e b;exact⟨d,j,by omega,h2,h3⟩
theorem MapG.new{w:World}{M:Nat}{h:Hp}{c i:Nat}(o:h.xK)(g:MapG w M h c i)(hc:(c:Int)<h.c)(hi:(i:Int)<h.m)(h0:h.mx c i≠0):∃ es n,w.heap[M]?=some (.map es n)/\(∀ (w:World) (M n:Nat),w.heap[M]?=some (.map es n)->(Instr.lookup 182 (.map (some M)) (.agg #[.int .i64 (nA (h.mx c i) 0),.int .i64 (nA (h.mx c i) 1)]) true).run Tryz.prog w= .ok (.tuple #[.agg #[],.bool false]) w)/\(∀ (w:World) (M n:Nat),w.heap[M]?=some (.map es n)->(Instr.mapUpdate 182 (.map (some M)) (.agg #[.int .i64 (nA (h.mx c i) 0),.int .i64 (nA (h.mx c i) 1)]) (.agg #[])).run Tryz.prog w= .ok () (dG w M (es.push ⟨.agg #[.int .i64 (nA (h.mx c i) 0),.int .i64 (nA (h.mx c i) 1)],.agg #[],n⟩) (n+1)))/\(∀ (w:World) (M n:Nat),w.heap[M]?=some (.map es n)->MapG (dG w M (es.push ⟨.agg #[.int .i64 (nA (h.mx c i) 0),.int .i64 (nA (h.mx c i) 1)],.agg #[],n⟩) (n+1)) M h c (i+1)):=by
 obtain⟨es,n,y,q,B⟩:=g;obtain⟨r,h1,h2,h3⟩:=map2 (nA (h.mx c i) 0) (nA (h.mx c i) 1) es y;have C:r=false:=h3 fun e f b=>by obtain⟨d,j,k1,l,p⟩:=q e f;rw[p]at b;simp only[Value.agg.injEq,Array.mk.injEq,List.cons.injEq,Value.int.injEq,and_true,true_and]at b;have:=o.on d j c i (by omega) (by omega) hc hi l h0 b.1 b.2;omega
 subst C;refine⟨es,n,B,h1,h2 rfl,fun w M n z=>⟨_,_,y.push _ _ n,fun e f=>?_,yij _ _ (jE z)⟩⟩;simp only[Array.toList_push,List.mem_append,List.mem_singleton]at f;rcases f with f|rfl
 ·obtain⟨d,j,k1,l,p⟩:=q e f;exact⟨d,j,by omega,l,p⟩
 exact⟨c,i,by omega,h0,rfl⟩
theorem yng(h:Hp)(v:Value)(w:World)(b:Bok w v h)(o:h.xK):
  Calls Tryz.prog 80 #[XE h v] w fun e w'=>e= .returned (.bool true)/\Below w.heap.size w w':=by
 obtain⟨b1,b2,b3,b4⟩:=b.bd;obtain⟨ao,cap,hv,l⟩:=b.yrw;have b7:=fun x i=>xL h.p h.c h.m x i;have Z:=fun (c i:Nat) X (hX:Below w.heap.size w X) h0 h1 (k0:(c:Int)<h.c) (k1:(i:Int)<h.m) (k2:h.mx c i≠0)=>yop h v c (h.mx c i) X (b.below hX) h0 h1 (o.en c i k0 k1 k2).1 (o.en c i k0 k1 k2).2.1 (o.en c i k0 k1 k2).2.2.1 (o.en c i k0 k1 k2).2.2.2.1 (o.en c i k0 k1 k2).2.2.2.2;generalize h.xs.length=n at hv l;subst hv;obtain⟨C,hC⟩:∃ C:Nat,Hid (h.c=C):=⟨h.c.toNat,hd' (by omega)⟩;obtain⟨Q,hQ⟩:∃ Q:Nat,Hid (h.m=Q):=⟨h.m.toNat,hd' (by omega)⟩;replace l:=hd' l;replace b7:=hd' b7;replace Z:=hd' Z;have bx:=hd' o;clear b o;have bv:∀ u:World,(Instr.makeMap 182 none).run Tryz.prog u= .ok (.map (some u.heap.size)) (u.alloc (.map #[] 0)):=fun u=>by rfl
 obtain⟨t1,t2,t3,t4⟩:=PD w (.cells #[h.p,h.c,h.m,.slice ao n cap] 115) (.map #[] 0);go_in;go_upto_region 2 with fail;obtain⟨H,hH,S⟩:=hidv w.heap.size;generalize (w.alloc (.cells #[h.p,h.c,h.m,.slice ao n cap] 115)).alloc (.map #[] 0)=W at *;rw[<-S]at t1 t2 t3 t4 ⊢;have c4:w.heap.size<=H+1:=by omega
 have I:H≠H+1:=by omega
 have lH:H<W.heap.size:=by omega
 have lM:H+1<W.heap.size:=by omega
 rw[S]at t4;clear S t3;generalize H+1=M at *;have bu:MapG W M h 0 0:=⟨_,_,AG.nil,fun e he=>by simp at he,t2⟩;have c0:W.cell? ⟨H,0,.none⟩=some (.int .i64 h.p):=kA t1 0;have c1:W.cell? ⟨H,1,.none⟩=some (.int .i64 h.c):=kA t1 1;have c2:W.cell? ⟨H,2,.none⟩=some (.int .i64 h.m):=kA t1 2;have c3:W.cell? ⟨H,3,.none⟩=some (.slice ao n cap):=kA t1 3;have C1:W.cell? ⟨H,1,.none⟩=some (.int .i64 C):=by rw[c1,hC]
 replace C1:=hd' C1;clear t1 t2 bv;have lz:∀ X,Only (atN M) W X->X.cell? ⟨H,0,.none⟩=some (.int .i64 h.p)/\X.cell? ⟨H,1,.none⟩=some (.int .i64 h.c)/\X.cell? ⟨H,2,.none⟩=some (.int .i64 h.m)/\X.cell? ⟨H,3,.none⟩=some (.slice ao n cap)/\Below w.heap.size w X:=fun X ho=>⟨(ho.qC lH I 0).trans c0,(ho.qC lH I 1).trans c1,(ho.qC lH I 2).trans c2,(ho.qC lH I 3).trans c3,Only.FI t4 ho t4.size c4⟩
 replace lz:=hd' lz;clear C1;go_wp2_with fail;go_loopw [16] (fun vi wr=>∃ i:Nat,i<=C/\vi= .int .i64 i/\Only (atN M) W wr/\MapG wr M h i 0) (fun vi _=>C-(intOf vi).toNat);case atStart=>exact⟨0,Nat.zero_le _,rfl,Only.refl _ _,bu⟩
 case round=>
  obtain⟨i,hi,rfl,bj,bw⟩:=hrel;obtain⟨d0,d1,d2,d3,bp⟩:=lz _ bj;by_cases b6:(i:Int)<h.c
  ·have c9:i<C:=by have:=hC.out;omega
   go_wp2_with fail;obtain⟨Wr,rfl⟩:∃ V:World,V=wr:=⟨_,rfl⟩;go_loopw [22] (fun vj wr=>∃ j:Nat,j<=Q/\vj= .int .i64 j/\Only (atN M) W wr/\MapG wr M h i j) (fun vj _=>Q-(intOf vj).toNat);case atStart=>exact⟨0,Nat.zero_le _,rfl,bj,bw⟩
   case round=>
    obtain⟨j,hj,rfl,O,b9⟩:=hrel;obtain⟨f0,f1,f2,f3,bf⟩:=lz _ O;by_cases b0:(j:Int)<h.m
    ·have cb:j<Q:=by have:=hQ.out;omega
     obtain⟨g,cg,k,rfl,hg,bh,cf,hx,bk,bm⟩:=l i j b6 b0;have N:=b7 i j;rw[bh]at N;replace hx:=iA bf _ _ _ hx;have c6:H<wr.heap.size:=bG f0;have c7:g<wr.heap.size:=bG hx;have cc:(0:Int)<=(k:Int):=by omega
     have cd:(k:Int)<(n:Int):=by omega
     have c8:(0:Int)<=(i:Int):=by omega
     have ca:(0:Int)<=(j:Int):=by omega
     have D:=fun X hX R=>Z i j X hX bk bm b6 b0 R;have y:=fun X (hX:MapG X M h i j) R=>MapG.new bx hX b6 b0 R;generalize c5:h.mx i j=x at hx bk bm D y;replace N:=hd' N;replace D:=hd' D;replace y:=hd' y;clear bh d0 d1 d2 d3 c5;go_upto_region 8 with fail;refine wre ?_;repeat (go_big_quiet_step ((go_at_call 118;exact AA (N _))))
     refine wpQuiet_nil ?_;rintro _ ⟨e,rfl⟩;have ba:=O.trans (Only.of_below e.below) (fun _ _ h=>h);have bi:=b9.below e.below;clear b9 O f0 f1 f2 f3 hx c6 c7 bf;generalize e.w=V at *;clear e;obtain⟨f0,f1,f2,f3,bn⟩:=lz _ ba;by_cases R:x=0
     ·have bc:(x==0)=true:=by rw[beq_iff_eq];exact R
      go_wp2;exact⟨⟨j+1,by omega,by go_num,ba,bi.skip⟩,by simp[intOf];omega⟩
     have bc:(x==0)=false:=by rw[beq_eq_false_iff_ne];exact R
     go_wp2_with fail;have E:=y.out;have r:=D _ bn R;generalize nA x 0=z at r E;generalize nA x 1=B at r E;generalize nA x 2=e2 at r;replace E:=hd' E;clear R;refine r.mono ?_;rintro e w3 ⟨rfl,Y⟩;have o3:=(ba.trans (Only.of_below Y) (fun _ _ h=>h)).alloc (.cells #[z,B,e2] 183);have m3:=(bi.below Y).below (br.alloc lr (.cells #[z,B,e2] 183));have o4:=o3.alloc (.cells #[z,B] 74);have m4:=m3.below (br.alloc lr (.cells #[z,B] 74));have g4:=jA (w3.alloc (.cells #[z,B,e2] 183)) (.cells #[z,B] 74);go_upto_region 12 with fail;rw[show (w3.alloc (.cells #[z,B,e2] 183)).heap.size=w3.heap.size+1 from by simp]at g4;generalize w3.heap.size+1=A at g4 ⊢;generalize (w3.alloc (.cells #[z,B,e2] 183)).alloc (.cells #[z,B] 74)=U at *;have a0:U.cell? ⟨A,0,.none⟩=some (.int .i64 z):=kA g4 0;have a1:U.cell? ⟨A,1,.none⟩=some (.int .i64 B):=kA g4 1;clear o3 m3 Y D r;obtain⟨es,cl,J,b5,bb,b8⟩:=E U m4 (fun h0=>by rw[h0]at bc;cases bc);have hl:=b5 U M cl J;replace b5:=hd' b5;replace bb:=hd' bb;replace b8:=hd' b8;have o5:=o4.alloc (.cells #[] 186);have L:Below U.heap.size U (U.alloc (.cells #[] 186)):=br.alloc lr _;have a0:=iA L _ _ _ a0;have a1:=iA L _ _ _ a1;have bg:=(L.block M (jE J)).trans J;go_upto_region 13 with fail;clear hl J g4 L o4;generalize U.alloc (.cells #[] 186)=T at *;have hu:=bb T M cl bg
     have o6:Only (atN M) W (dG T M (es.push ⟨.agg #[z,B],.agg #[],cl⟩) (cl+1)):=o5.trans (F:=atN M) (G:=atN M) ⟨rfl,rfl,rfl,by rw[yh4];exact Nat.le_refl _,fun q hq bz=>by
      unfold dG
      simp only
      rw[Array.getElem?_setIfInBounds_ne (fun e=>bz e.symm)]⟩ (fun _ _ h=>h)
     have m6:=b8 T M cl bg;go_wp2;exact⟨⟨j+1,by omega,by go_num,o6,m6⟩,by simp[intOf];omega⟩
    have bs:j=Q:=by have:=hQ.out;omega
    subst bs;go_wp2;exact⟨⟨i+1,by omega,by go_num,O,b9.next hQ.out⟩,by simp[intOf];omega⟩
  have bq:i=C:=by have:=hC.out;omega
  subst bq;go_wp2;go_ret;exact⟨rfl,bp⟩
theorem LN(h:Hp)(v:Value)(w:World)(Y:RdZ .u64 w v h.xs)(hf:h.fit)(O:h.sound=true)(N:h.xK):
  Calls Tryz.prog 35 #[shV h,v] w fun e w'=>e= .returned (.bool true)/\Below w.heap.size w w':=by
 obtain⟨ao,cap,hv,_,_,_⟩:=Y.cells;generalize h.xs.length=m at hv;subst hv;have r:=fun X L=>CK h (.slice ao m cap) X (Y.below (w':=X) L);have R:=(Below.refl w.heap.size w).alloc lr (.cells #[h.p,h.c,h.m] 23);have l:h.sound=(h.ok&&h.sndT h.p.toNat):=rfl;rw[O,eq_comm,jC]at l;obtain⟨D,l⟩:=l;have b:Bok w (.slice ao m cap) h:=⟨D,Y,hf⟩;obtain⟨bp,_,_,_⟩:=b.bd;rw[D]at r;have E:=fun a X (L:Below w.heap.size w X) ha=>yik h (.slice ao m cap) a X (b.below L) ha;have C:=fun X (L:Below w.heap.size w X)=>yng h (.slice ao m cap) X (b.below L) N;obtain⟨P,S⟩:∃ P:Nat,Hid (h.p=P):=⟨h.p.toNat,hd' (by omega)⟩;have J:h.p.toNat=P:=by have:=S.out;omega
 rw[J]at l;have T:Hid (∀ i:Nat,i<P->h.snd i=true):=hd' fun i hi=>h.mR l i hi;replace r:=hd' r;replace E:=hd' E;replace C:=hd' C;clear D J b l O N;go_in;go_wp2_with fail;refine(r _ R).mono ?_;rintro e w1 ⟨rfl,q⟩;have z:=R.trans (q.mono R.size);have hB:=z.alloc z.size (.cells #[h.p,h.c,h.m,.slice ao m cap] 115);have M:=q.alloc q.size (.cells #[h.p,h.c,h.m,.slice ao m cap] 115);have r0:=(M.block _ (by simp)).trans (jA w (.cells #[h.p,h.c,h.m] 23));have F:=jA w1 (.cells #[h.p,h.c,h.m,.slice ao m cap] 115);go_upto_region 2 with fail;obtain⟨H,hH,G⟩:=hidv w.heap.size;obtain⟨K,hK,I⟩:=hidv w1.heap.size;rw[<-I]at F ⊢;rw[<-G]at r0 ⊢;clear I G q M z;generalize w1.alloc (.cells #[h.p,h.c,h.m,.slice ao m cap] 115)=W at *;have b0:=kA r0;have k0:W.cell? ⟨K,0,.none⟩=some (.int .i64 h.p):=kA F 0;have k1:W.cell? ⟨K,1,.none⟩=some (.int .i64 h.c):=kA F 1;have k2:W.cell? ⟨K,2,.none⟩=some (.int .i64 h.m):=kA F 2;have k3:W.cell? ⟨K,3,.none⟩=some (.slice ao m cap):=kA F 3;clear r0 F;go_wp2_with fail;go_loopw [18] (fun Z wr=>∃ i:Nat,i<=P/\Z= .int .i64 i/\Below W.heap.size W wr) (fun Z _=>P-(intOf Z).toNat);case atStart=>exact⟨0,Nat.zero_le _,rfl,Below.refl _ _⟩
 case round=>
  obtain⟨i,hi,rfl,j⟩:=hrel;have d0:=iA j _ _ _ k0;have d1:=iA j _ _ _ k1;have d2:=iA j _ _ _ k2;have d3:=iA j _ _ _ k3;have o:=hB.trans (j.mono hB.size);by_cases b2:(i:Int)<h.p
  ·have U:i<P:=by have:=S.out;omega
   have y:=E i wr o (by omega);rw[T i U]at y;replace y:=hd' y;go_wp2_with fail;refine y.out.mono ?_;rintro e w3 ⟨rfl,B⟩;go_wp2;exact⟨⟨i+1,by omega,by go_num,j.trans (B.mono j.size)⟩,by simp[intOf];omega⟩
  have V:i=P:=by have:=S.out;omega
  subst V;go_wp2_with fail;refine(C _ o).mono ?_;rintro e w3 ⟨rfl,B⟩;go_wp2;go_ret;exact⟨rfl,o.trans (B.mono o.size)⟩
end

section

variable {s:Sh} {m:Mem} {σ:Ab}

theorem yrt(b:Rep s m σ){c i:Int}(hc:0<=c/\c<s.c)(hi:0<=i/\i<s.m):(hpOf s m).mx c i=(σ.mg c i).enc:=by
 have:=b.mg c i hc hi;rw[(ixs b.fi).2.2.1 c i hc hi]at this;exact this
theorem SN(b:Rep s m σ){c i:Int}(hc:0<=c/\c<s.c)(hi:0<=i/\i<s.m)(h0:(hpOf s m).mx c i≠0):∃ p q k,σ.mg c i= .entry p q k/\(hpOf s m).mx c i=(MW.entry p q k).enc:=by
 rw[yrt b hc hi]at h0 ⊢;cases e:σ.mg c i with
 |none=>rw[e]at h0;exact absurd rfl h0
 |entry p q k=>exact⟨p,q,k,rfl,rfl⟩
theorem UN(j:Rep s m σ)(f:GI s σ):(hpOf s m).xK:=by
 refine⟨fun c i hc hi h0=>?_,fun c i c' i' hc hi G I h0 F L M=>?_⟩
 ·obtain⟨p,q,k,r,B⟩:=SN j (c:=c) (i:=i) ⟨by omega,hc⟩ ⟨by omega,hi⟩ h0;have o:=f.mf c i;rw[r]at o;obtain⟨a1,D,S⟩:=MW.read j.may o;rw[B,a1,D,S];obtain⟨⟨b,J⟩,R⟩:=f.mv c i p q k r;obtain⟨_,Z,b2,b3,b4,_⟩:=MW.LE j.may o;have z:=f.pf p;rw[J]at z;have N:0<=p/\p<s.p:=z.1;obtain⟨_,T,U⟩:=bH j f N;obtain⟨V,Y⟩:=YI j f N (i:=q) (by omega);exact⟨MW.BH j.may o,by rw[T,J];rfl,by rw[U,J];rfl,by rw[V,R];rfl,by rw[Y,R];rfl⟩
 obtain⟨p,q,k,r,B⟩:=SN j (c:=c) (i:=i) ⟨by omega,hc⟩ ⟨by omega,hi⟩ h0;obtain⟨p',q',O,l,t⟩:=SN j (c:=c') (i:=i') ⟨by omega,G⟩ ⟨by omega,I⟩ F;have o:=f.mf c i;have y:=f.mf c' i';rw[r]at o;rw[l]at y;obtain⟨a1,D,_⟩:=MW.read j.may o;obtain⟨C,E,_⟩:=MW.read j.may y;rw[B,t,a1,C]at L;rw[B,t,D,E]at M;subst L M;have v:=(f.mv c i p q k r).2;have v':=(f.mv c' i' p q O l).2;rw[v]at v';injection v' with v';have H:c=c':=by omega
 subst H;have:=f.mi c i i' p q k O r l;exact⟨rfl,by omega⟩
end

end Go.Proofs.YtkilokkopbajkaaGreat
