/- Texts bound together: StkP StkW StkV. -/
import Derived.Deep.RegionLawGrows

import Derived.Deep.RegionHeldLaw

import Derived.Test.YtkbddndcegpllaaGreatBt2

set_option linter.all false
set_option maxHeartbeats 1000000
namespace Go.Proofs.YtkbddndcegpllaaGreat

section

open Go.RowKit

structure Fr where
 code:Int
 pc:Int
 regs:List Int
 deriving DecidableEq
def Fr.cells (f:Fr):List Value:= .int .i64 f.code:: .int .i64 f.pc::f.regs.map (.int .i64)
def flat (fs:List Fr):List Value:=fs.flatMap Fr.cells
def zj6 (fs:List Fr):Prop:=∀ f ∈ fs,f.regs.length=8
theorem znb{fs:List Fr}(h:zj6 fs):(flat fs).length=fs.length*10:=by
 induction fs with
 |nil=>rfl;|cons f fs l=>have i:=h f (by simp);have b:=l (fun g j=>h g (by simp[j]));simp only[flat,List.flatMap_cons,List.length_append]at b ⊢;simp only[Fr.cells,List.length_cons,List.length_map,i,b];omega
theorem zja(fs:List Fr)(f:Fr):flat (fs++[f])=flat fs++f.cells:=by simp[flat]
theorem flat_get{fs:List Fr}(h:zj6 fs)(i j:Nat)(hi:i<fs.length)(p:j<10):(flat fs)[i*10+j]?=(fs[i].cells)[j]?:=by
 induction fs generalizing i with
 |nil=>simp at hi
 |cons f fs o=>
  have b:=h f (by simp)
  have n:f.cells.length=10:=by simp[Fr.cells,b]
  have l:zj6 fs:=fun g m=>h g (by simp[m])
  show (f.cells++flat fs)[i*10+j]?=_
  cases i with
  |zero=>rw[List.getElem?_append_left (by omega)];simp
  |succ i=>
   rw[List.getElem?_append_right (by omega),n,show (i+1)*10+j-10=i*10+j from by omega]
   simpa using o l i (by simpa using hi)
structure Stk (T E:TypeId) (B:Nat) (w:World) (s:Nat) (sl:Value) (most:Int) (fs:List Fr):Prop where
 lies:B<=s
 head:w.heap[s]?=some (.cells #[sl,most] T (0,0))
 owns:w.ownsRow B E 10 sl fs.length (flat fs)
 apart:sl.ownBlock≠some s
 regs:zj6 fs
def zrq:Value:= .agg #[.int .i64 0,.int .i64 0,.int .i64 0,.int .i64 0,.int .i64 0,.int .i64 0,.int .i64 0,.int .i64 0,.int .i64 0,.int .i64 0]
def ydh:Fr:=⟨0,0, [0,0,0,0,0,0,0,0]⟩
def zn7 (fs:List Fr):Fr:=fs.getLast?.getD ydh
def Fr.put (f:Fr) (j:Nat) (x:Int):Fr:=if j=0 then { f with code:=x } else if j=1 then { f with pc:=x } else { f with regs:=f.regs.set (j - 2) x }
theorem Fr.z2m(f:Fr)(j:Nat)(x:Int):(f.put j x).cells=f.cells.set j (.int .i64 x):=by
 unfold Fr.put;match j with
 |0=>simp[Fr.cells]
 |1=>simp[Fr.cells]
 |j+2=>simp[Fr.cells,List.map_set]
theorem Fr.z5d(f:Fr)(j:Nat)(x:Int):(f.put j x).regs.length=f.regs.length:=by
 unfold Fr.put;split
 ·rfl
 split<;>simp
def zhx (fs:List Fr) (j:Nat) (x:Int):List Fr:=fs.dropLast ++ [(zn7 fs).put j x]
theorem zod{fs:List Fr}(h:fs.length≠0)(j:Nat)(x:Int):(zhx fs j x).length=fs.length:=by simp[zhx];omega
theorem zx2{fs:List Fr}(h:fs.length≠0):fs=fs.dropLast++[zn7 fs]:=by
 have b:fs≠ []:=fun e=>h (by simp[e]);have:zn7 fs=fs.getLast b:=by simp[zn7,List.getLast?_eq_some_getLast b]
 rw[this];exact(List.dropLast_concat_getLast b).symm
section

variable {T E:TypeId} {B:Nat} {w w':World} {s:Nat} {sl:Value} {most:Int} {fs:List Fr}

theorem Stk.lt(h:Stk T E B w s sl most fs):s<w.heap.size:=(Array.getElem?_eq_some_iff.1 h.head).1
theorem Stk.zem(h:Stk T E B w s sl most fs):∀ k,sl.ownBlock=some k->B<=k/\k<w.heap.size:=h.owns.lt
theorem Stk.cell0(h:Stk T E B w s sl most fs):w.cell? ⟨s,0,.none⟩=some sl:=by simpa using cell_of_row w s 0 _ T (0,0) h.head
theorem Stk.cell1(h:Stk T E B w s sl most fs):w.cell? ⟨s,1,.none⟩=some (.int .i64 most):=by simpa using cell_of_row w s 1 _ T (0,0) h.head
theorem Stk.blocks(h:Stk T E B w s sl most fs)(hb:∀ k,foot s sl k->w'.heap[k]?=w.heap[k]?):Stk T E B w' s sl most fs:=
 ⟨h.lies,by rw[hb s (.inl rfl)];exact h.head,zas h.owns (fun k b=>hb k (.inr b)),h.apart,h.regs⟩
theorem Stk.below(h:Stk T E B w s sl most fs)(hb:Below w.heap.size w w'):Stk T E B w' s sl most fs:=
 h.blocks fun k b=>hb.block k (by rcases b with rfl|b;exact h.lt;exact(h.zem k b).2)
theorem Stk.form(h:Stk T E B w s sl most fs):(sl= .slice none 0 0/\fs= [])\/∃ g cap,sl= .slice (some ⟨g,0,.none⟩) fs.length cap/\fs.length<=cap/\g<w.heap.size/\g≠s/\B<=g/\(fs.length:Int)<=9223372036854775807/\
  ∀ i j,(hi:i<fs.length)->j<10->w.cell? ⟨g,i*10+j,.none⟩=(fs[i].cells)[j]?:=by
 rcases h.owns.2 with⟨l,b⟩|⟨g,cap,f,rfl,l,b,m,n,q,o⟩
 ·exact .inl ⟨l,List.eq_nil_of_length_eq_zero b⟩
 refine .inr ⟨g,cap,rfl,m,(Array.getElem?_eq_some_iff.1 b).1,fun e=>h.apart (by rw[e];rfl),l,by simp only[maxLen]at n;omega,fun i j hi p=>?_⟩;rw[cell_of_row w g _ f E (0,0) b,<- flat_get h.regs i j hi p,<- o,List.getElem?_take,if_pos (by omega)];simp
theorem Only.stk{F:Nat->Prop}(i:Only F w w')(h:Stk T E B w s sl most fs)(f:∀ k,foot s sl k->¬ F k):Stk T E B w' s sl most fs:=
 h.blocks fun k b=>i.block k (by rcases b with rfl|b;exact h.lt;exact(h.zem k b).2) (f k b)
theorem zve{g cap j:Nat}{x:Int}(h:Stk T E B w s (.slice (some ⟨g,0,.none⟩) fs.length cap) most fs)(y:fs.length≠0)(S:j<10):
  Stk T E B (w.setCell ⟨g,(fs.length-1)*10+j,.none⟩ (.int .i64 x)) s (.slice (some ⟨g,0,.none⟩) fs.length cap) most (zhx fs j x):=by
 obtain⟨G,H,I,z,q⟩:=h;have r:s≠g:=fun e=>z (by rw[e];rfl);have e:=zx2 y;have i:zj6 (zhx fs j x):=by
  intro f l;rcases List.mem_append.1 l with l|l
  ·exact q f (List.dropLast_subset _ l)
  rw[List.mem_singleton.1 l,Fr.z5d];have D:zn7 fs ∈ fs.dropLast++[zn7 fs]:=by simp
  rw[<-e]at D;exact q _ D
 have t:zj6 fs.dropLast:=fun f l=>q f (List.dropLast_subset _ l);have C:=znb t;rw[List.length_dropLast]at C;have m:flat (zhx fs j x)=(flat fs).set ((fs.length-1)*10+j) (.int .i64 x):=by
  have J:flat fs=flat fs.dropLast++(zn7 fs).cells:=by rw[<-zja,<- e]
  rw[zhx,zja,Fr.z2m,J,List.set_append_right _ _ (by omega),C];congr 2;omega
 refine⟨G,by rw[heap_setCell_other _ _ _ _ r];exact H,⟨by rw[znb i],.inr ?_⟩,z,i⟩;rcases I.2 with⟨h,_⟩|⟨F,n,p,L,k1,M,U,N,O,R⟩
 ·cases h
 obtain⟨rfl,rfl⟩:g=F/\cap=n:=by injection L with a _ b;injection a with a;injection a with a;exact⟨a,b⟩
 have o:=zod y j x;refine⟨g,cap,_,by rw[o],k1,heap_setCell_same w g _ p E _ M,by omega,N,by simpa using O,?_⟩;rw[o,m,<- R,Array.toList_setIfInBounds,List.take_set]
end

end

section

open Go.RowKit

abbrev SK:=Stk 223 226
theorem zxv(m:Int)(w:World):
  Calls Tryz.prog 142 #[m] w fun e w'=>e= .returned (.pointer (some ⟨w.heap.size,0,.none⟩))/\w'=w.alloc (.cells #[.slice none 0 0,.int .i64 (if m<0\/16<m then 0 else m)] 223):=by
 go_in;go_wp2;all_goals go_ret
 all_goals exact⟨rfl,rfl⟩
theorem zft{B:Nat}{w:World}{s:Nat}{sl:Value}{most:Int}{fs:List Fr}(h:SK B w s sl most fs):
  Calls Tryz.prog 127 #[some s] w fun e w'=>e= .returned (.int .i64 fs.length)/\w'=w:=by
 have c0:=h.cell0;have b:=h.form;rcases b with⟨rfl,rfl⟩|⟨g,cap,rfl,i,m,j,l,n,hc⟩
 ·clear h;go_in;go_wp2;all_goals go_ret
  all_goals exact⟨rfl,rfl⟩
 clear h hc;go_in;go_wp2;all_goals go_ret
 all_goals exact⟨rfl,rfl⟩
def znp (sl:Value) (n:Nat):Option Addr:=match sl with
 | .slice (some a) _ _=> if n=0 then none else some ⟨a.block,(n - 1) * 10,.none⟩
 | _=> none
theorem zx5{B:Nat}{w:World}{s:Nat}{sl:Value}{most:Int}{fs:List Fr}(h:SK B w s sl most fs):
  Calls Tryz.prog 169 #[some s] w fun e w'=>e= .returned (.pointer (znp sl fs.length))/\∃ n,w'=w.drewN n:=by
 have c0:=h.cell0;have i:=h.form;rcases i with⟨rfl,rfl⟩|⟨g,cap,rfl,j,q,m,p,r,hc⟩
 ·go_in;go_wp2_with (go_at_call 127;refine(zft h).mono ?_;rintro e l ⟨rfl,rfl⟩);all_goals go_ret
  all_goals exact⟨rfl,0,rfl⟩
 by_cases b:fs.length=0
 ·have o:((fs.length:Int)==0)=true:=by simp[b]
  go_in;go_wp2_with (go_at_call 127;refine(zft h).mono ?_;rintro e l ⟨rfl,rfl⟩);all_goals go_ret
  all_goals exact⟨by rw[znp,if_pos b];rfl,0,rfl⟩
 have o:((fs.length:Int)==0)=false:=by simpa using b
 have t:(1:Int)<=(fs.length:Int):=by omega
 go_in;go_wp2_with (go_at_call 127;refine(zft h).mono ?_;rintro e l ⟨rfl,rfl⟩);go_quiet (fail);go_wp2;all_goals go_ret
 exact⟨by rw[znp,if_neg b];rfl,nq,rfl⟩
theorem zy6{B:Nat}{w:World}{s:Nat}{sl:Value}{most:Int}{fs:List Fr}(h:SK B w s sl most fs)(y:fs.length≠0):
  ∃ g cap code pc r0 r1 l m n o p q,sl= .slice (some ⟨g,0,.none⟩) fs.length cap/\znp sl fs.length=some ⟨g,(fs.length-1)*10,.none⟩/\g<w.heap.size/\g≠s/\B<=g/\zn7 fs=⟨code,pc, [r0,r1,l,m,n,o,p,q]⟩/\
   w.cell? ⟨g,(fs.length-1)*10,.none⟩=some (.int .i64 code)/\w.cell? ⟨g,(fs.length-1)*10+1,.none⟩=some (.int .i64 pc)/\
   w.cell? ⟨g,(fs.length-1)*10+2,.none⟩=some (.int .i64 r0)/\w.cell? ⟨g,(fs.length-1)*10+3,.none⟩=some (.int .i64 r1)/\
   w.cell? ⟨g,(fs.length-1)*10+4,.none⟩=some (.int .i64 l)/\w.cell? ⟨g,(fs.length-1)*10+5,.none⟩=some (.int .i64 m)/\
   w.cell? ⟨g,(fs.length-1)*10+6,.none⟩=some (.int .i64 n)/\w.cell? ⟨g,(fs.length-1)*10+7,.none⟩=some (.int .i64 o)/\
   w.cell? ⟨g,(fs.length-1)*10+8,.none⟩=some (.int .i64 p)/\w.cell? ⟨g,(fs.length-1)*10+9,.none⟩=some (.int .i64 q)/\fs.length<=cap/\(fs.length:Int)<=9223372036854775807:=by
 rcases h.form with⟨rfl,rfl⟩|⟨g,cap,rfl,i,F,r,C,G,hc⟩
 ·simp at y
 have t:fs.length-1<fs.length:=by omega
 have z:=h.regs _ (List.getElem_mem t);have H:zn7 fs=fs[fs.length-1]:=by simp[zn7,List.getLast?_eq_getElem?,t]
 rw[H];generalize D:fs[fs.length-1]=f at z;have b:=fun j=>hc (fs.length-1) j t;rw[D]at b;obtain⟨code,pc,regs⟩:=f;match regs,z with
 | [r0,r1,l,m,n,o,p,q],_=>exact⟨g,cap,code,pc,r0,r1,l,m,n,o,p,q,rfl,by rw[znp,if_neg y],F,r,C,rfl,b 0 (by omega),b 1 (by omega),b 2 (by omega),b 3 (by omega),b 4 (by omega),b 5 (by omega),b 6 (by omega),b 7 (by omega),b 8 (by omega),b 9 (by omega),i,G⟩
theorem zhj{w:World}{b:Nat}{cs:Array Value}{t:TypeId}(h:w.heap[b]?=some (.cells cs t (0,0)))(i:Nat):w.frozen? ⟨b,i,.none⟩=false:=by
 simp[World.frozen?,h]
theorem zqq{B:Nat}{w:World}{s:Nat}{g cap n:Nat}{most:Int}{fs:List Fr}(h:SK B w s (.slice (some ⟨g,0,.none⟩) n cap) most fs)(_h0:fs.length≠0)(i:Nat):w.frozen? ⟨g,i,.none⟩=false:=by
 rcases h.owns.2 with⟨m,_⟩|⟨l,f,j,o,k1,p,_⟩
 ·cases m
 obtain rfl:g=l:=by injection o with a _ b;injection a with a;injection a with a
 exact zhj p i
theorem zz4{B:Nat}{w:World}{s:Nat}{sl:Value}{most pc':Int}{fs:List Fr}(h:SK B w s sl most fs)(i:fs.length≠0):
  Calls Tryz.prog 145 #[some s,pc'] w fun e w'=>e= .returned (.bool true)/\Only (foot s sl) w w'/\SK B w' s sl most (zhx fs 1 pc'):=by
 obtain⟨g,cap,code,pc,r0,r1,t,y,z,C,D,F,rfl,j,p,m,o,r,_,c1,_,_,_,_,_,_,_,_,l,q⟩:=zy6 h i;have b:=zx5 h;rw[j]at b;have n:=zqq h i;clear j;go_in;go_wp2_with (go_at_call 169;refine b.mono ?_;rintro e G ⟨rfl,nq,rfl⟩);go_ret;exact⟨rfl,Only.setCell (Only.drewN (Only.refl _ _) nq) (.inl (.inr rfl)) _,(zve h i (by decide)).blocks fun k _=>rfl⟩
theorem zq6{B:Nat}{w:World}{s:Nat}{sl:Value}{most:Int}{fs:List Fr}(h:SK B w s sl most fs):
  Calls Tryz.prog 148 #[some s] w fun e w'=>e= .returned (.tuple #[])/\Only (foot s sl) w w'/\SK B w' s (.slice none 0 0) most []:=by
 have i:=h.cell0;have j:=zhj h.head;go_in;go_wp2;go_end0;refine⟨rfl,Only.setCell (Only.refl _ _) (.inl (.inl rfl)) _,h.lies,?_,World.ownsRow_nil _ _ _ _,by simp[Value.ownBlock],fun f b=>by cases b⟩;rw[heap_setCell_same w s 0 _ _ _ h.head];rfl
theorem z0j:(Tryz.prog.info? 226).map (fun i=>(i.zero,i.size,i.bytes))=some (some zrq,10,80):=by kernel_rfl
theorem z3g{T E:TypeId}{B:Nat}{w Y:World}{s:Nat}{sl:Value}{most:Int}{fs:List Fr}(h:Stk T E B w s sl most fs)(hb:Below w.heap.size w Y):Y.ownsRow B E 10 sl fs.length (flat fs):=
 zas h.owns fun k b=>hb.block k (h.zem k b).2
def padded (zs:List Int):List Int:=zs ++ List.replicate (8 - zs.length) 0
theorem zj4{zs:List Int}(h:zs.length<=8):(padded zs).length=8:=by simp[padded];omega
theorem zqx(code:Int){zs:List Int}(h:zs.length<=8):splice [.int .i64 code,.int .i64 0,.int .i64 0,.int .i64 0,.int .i64 0,.int .i64 0,.int .i64 0,.int .i64 0,.int .i64 0,.int .i64 0] 2 (zs.map (.int .i64))=(Fr.mk code 0 (padded zs)).cells:=by
 match zs,h with
 | [],_=>rfl
 | [_],_=>rfl
 | [_,_],_=>rfl
 | [_,_,_],_=>rfl
 | [_,_,_,_],_=>rfl
 | [_,_,_,_,_],_=>rfl
 | [_,_,_,_,_,_],_=>rfl
 | [_,_,_,_,_,_,_],_=>rfl
 | [_,_,_,_,_,_,_,_],_=>rfl
theorem ygr{l:List Int}(h:l.length=8):∃ a b c d e f g i,l= [a,b,c,d,e,f,g,i]:=by
 match l,h with
 | [a,b,c,d,e,f,g,i],_=>exact⟨a,b,c,d,e,f,g,i,rfl⟩
theorem zu5{fs:List Fr}{f:Fr}(h:zj6 fs)(i:f.regs.length=8):zj6 (fs++[f]):=by
 intro x b;rcases List.mem_append.1 b with b|b
 ·exact h x b
 rw[List.mem_singleton.1 b];exact i
theorem z0y{T E:TypeId}{B s g b K H:Nat}{w q Y i:World}{sl:Value}{most:Int}{fs:List Fr}{f:Fr}(j:Stk T E B q s sl most fs)
  (o:i.ownsRow B E 10 (.slice (some ⟨g,0,.none⟩) (fs.length+1) b) (fs.length+1) (flat fs++f.cells)) (z:Y.grownBy i sl.ownBlock) (r:Below q.heap.size q Y)
  (D:Only (foot s sl) w q) (l:sl.ownBlock=some g\/g=K) (y:sl.ownBlock=some g\/g=K->sl.ownBlock=some g\/(H<=g/\q.heap.size<=g)) (G:zj6 (fs++[f])):
  Only (foot s sl) w (i.setCell ⟨s,0,.none⟩ (.slice (some ⟨g,0,.none⟩) (fs.length+1) b))/\∃ p,(∀ k,p.ownBlock=some k->sl.ownBlock=some k\/H<=k)/\
   Stk T E B (i.setCell ⟨s,0,.none⟩ (.slice (some ⟨g,0,.none⟩) (fs.length+1) b)) s p most (fs++[f]):=by
 have hs:=j.lt;have t:some s≠sl.ownBlock:=fun e=>j.apart e.symm;have C:i.heap[s]?=some (.cells #[sl,most] T (0,0)):=(z.block s (by have:=r.size;omega) t).trans ((r.block s hs).trans j.head);have m:g≠s:=by
  rcases y l with h|⟨_,h⟩
  ·intro e;exact j.apart (by rw[h,e])
  omega
 refine⟨Only.setCell (Only.grown (D.trans (Only.of_below (F:=fun _=>False) r) fun _ _ h=>h.elim) z fun k n=>.inl (.inr n)) (.inl (.inl rfl)) _,.slice (some ⟨g,0,.none⟩) (fs.length+1) b,?_,j.lies,?_,?_,?_,G⟩
 ·intro k n;obtain rfl:g=k:=by injection n
  rcases y l with h|h
  ·exact .inl h
  exact .inr h.1
 ·rw[heap_setCell_same i s 0 _ T _ C];rfl
 ·have e:(fs++[f]).length=fs.length+1:=by simp
  rw[e,zja];exact zas o fun k n=>by
   obtain rfl:g=k:=by injection n
   exact heap_setCell_other _ _ _ _ m
 intro e;exact m (by injection e)
theorem zt0{B:Nat}{w:World}{s:Nat}{sl:Value}{most code:Int}{fs:List Fr}{ao:Option Addr}{zs:List Int}{cap:Nat}(h:SK B w s sl most fs)(h1:fs.length<most)(hz:zs.length<=8)(hB:B<=w.heap.size)(hm:most<=100000)
  (hc:∀ a,ao=some a->∀ j v,(zs.map (Value.int .i64))[j]?=some v->w.cell? (a.add j)=some v) (hn:ao=none->zs= []):
  Calls Tryz.prog 112 #[some s,code,.slice ao zs.length cap] w fun e w'=>e= .returned (.bool true)/\Only (foot s sl) w w'/\
   ∃ m,(∀ k,m.ownBlock=some k->sl.ownBlock=some k\/w.heap.size<=k)/\SK B w' s m most (fs++[⟨code,0,padded zs⟩]):=by
 have c0:=h.cell0;have c1:=h.cell1;have b8:∃ a c,sl= .slice a fs.length c:=by
  rcases h.form with⟨rfl,rfl⟩|⟨g,cap,rfl,_⟩
  ·exact⟨_,_,rfl⟩
  exact⟨_,_,rfl⟩
 obtain⟨a,c,rfl⟩:=b8;have h3:decide (most<=(fs.length:Int))=false:=by simp;omega
 have h4:decide ((8:Int)<(zs.length:Int))=false:=by simp;omega
 go_in;go_wp2_with fail;go_quiet (fail);have O:SK B (w.drewN nq) s (.slice a fs.length c) most fs:=h.blocks fun _ _=>rfl;have V:∀ a,ao=some a->∀ j v,(zs.map (Value.int .i64))[j]?=some v->(w.drewN nq).cell? (a.add j)=some v:=hc;have ho:Only (foot s (.slice a fs.length c)) w (w.drewN nq):=Only.drewN (Only.refl _ _) nq;have z:(w.drewN nq).heap.size=w.heap.size:=rfl;generalize w.drewN nq=W at *;clear c0 c1 hc h;have c0:=O.cell0;have bk:=O.lt;go_upto_region 4 with fail;have hu:=Tryz.underlying220;have k1:(W.alloc (.cells #[code,.int .i64 0,.int .i64 0,.int .i64 0,.int .i64 0,.int .i64 0,.int .i64 0,.int .i64 0,.int .i64 0,.int .i64 0] 226)).heap[w.heap.size]?=some (.cells #[code,.int .i64 0,.int .i64 0,.int .i64 0,.int .i64 0,.int .i64 0,.int .i64 0,.int .i64 0,.int .i64 0,.int .i64 0] 226 (0,0)):=by rw[<-z];exact heap_alloc_new W _
 have k2:(zs.map (Value.int .i64)).length=Nat.min zs.length 8:=by rw[List.length_map];exact(Nat.min_eq_left hz).symm
 have k3:0<(zs.map (Value.int .i64)).length->(some (⟨w.heap.size,2,.none⟩:Addr))=some ⟨w.heap.size,2,.none⟩/\∃ ad,ao=some ad/\∀ j v,(zs.map (Value.int .i64))[j]?=some v->(W.alloc (.cells #[code,.int .i64 0,.int .i64 0,.int .i64 0,.int .i64 0,.int .i64 0,.int .i64 0,.int .i64 0,.int .i64 0,.int .i64 0] 226)).cell? (ad.add j)=some v:=by
  intro hp
  refine⟨rfl,?_⟩
  cases ao with
  |none=>rw[hn rfl]at hp;simp at hp
  |some ad=>exact⟨ad,rfl,fun j v hv=>(World.grownBy_alloc W _ none).cell (V ad rfl j v hv) (by simp)⟩
 have k4:2+(zs.map (Value.int .i64)).length<=([Value.int .i64 code,.int .i64 0,.int .i64 0,.int .i64 0,.int .i64 0,.int .i64 0,.int .i64 0,.int .i64 0,.int .i64 0,.int .i64 0]:List Value).length:=by simp;omega
 have k5:∀ v ∈ zs.map (Value.int .i64),v.oneCell'=true:=by intro v hv;obtain⟨x,_,rfl⟩:=List.mem_map.1 hv;rfl
 have k6:Below W.heap.size W (W.alloc (.cells #[code,.int .i64 0,.int .i64 0,.int .i64 0,.int .i64 0,.int .i64 0,.int .i64 0,.int .i64 0,.int .i64 0,.int .i64 0] 226)):=br.alloc lr _;go_wp2_with (refine wpList_copy_splice rfl (.tmp 30) (.tmp 31) 220 220 rfl 2 hu (by kernel_rfl) (some ⟨w.heap.size,2,.none⟩) ao 8 8 zs.length cap rfl rfl w.heap.size 2 [.int .i64 code,.int .i64 0,.int .i64 0,.int .i64 0,.int .i64 0,.int .i64 0,.int .i64 0,.int .i64 0,.int .i64 0,.int .i64 0] 226 k1 (zs.map (.int .i64)) k2 k3 k4 k5 W.heap.size W k6 (Nat.le_of_eq z) ?_;intro q hH U);have o:=hH.out;rw[zqx code hz]at o;obtain⟨C,D,G,I,J,L,M,N,he⟩:=ygr (zj4 hz);rw[he]at o;have hh:=fun i=>cell_of_row q w.heap.size i _ _ (0,0) o;simp only[Fr.cells,List.map_cons,List.map_nil]at hh o;have r:=O.below U;have b4:=ho.trans (Only.of_below (F:=fun _=>False) U) (fun _ _ h=>h.elim);have bm:s≠w.heap.size:=by omega
 have bj:W.heap.size<q.heap.size:=(Array.getElem?_eq_some_iff.1 (z ▸ o)).1;clear k1 k2 k3 k4 k5 k6 hH V hn ho hu;have ba:=Tryz.underlying221;obtain⟨i0,hi,bb,bc,bf⟩:=info_parts z0j;have c2:=r.cell0;have b0:=zhj r.head 0;have bi:=r.zem;have b5:=O.zem;have Z:some s≠(Value.slice a fs.length c).ownBlock:=fun e=>r.apart e.symm;have b:some w.heap.size≠(Value.slice a fs.length c).ownBlock:=fun e=>by have:=(b5 _ e.symm).2;omega
 have b1:B<=q.heap.size:=by omega
 have b6:s<q.heap.size:=r.lt;have X:∀ u ∈ ([.int .i64 code,.int .i64 0,.int .i64 C,.int .i64 D,.int .i64 G,.int .i64 I,.int .i64 J,.int .i64 L,.int .i64 M,.int .i64 N]:List Value),u.oneCell'=true:=by intro u hu;simp at hu;rcases hu with rfl|rfl|rfl|rfl|rfl|rfl|rfl|rfl|rfl|rfl<;>rfl
 have b2:(fs.length+1)*80<=140737488355328:=by omega
 have b3:fs.length+1<=maxLen:=by simp only[maxLen];omega
 generalize hH:w.heap.size=H at *;have g0:∀ i,q.cell? ⟨H,i,.none⟩=(#[code,.int .i64 0,C,D,G,I,J,L,M,N]:Array Value)[i]?:=hh;clear hh O h3 h4;have hS:∀ w',Below q.heap.size q w'->w'.cell? ⟨s,0,.none⟩=some (.slice a fs.length c)/\w'.frozen? ⟨s,0,.none⟩=false/\w'.cell? ⟨H,0,.none⟩=some (.int .i64 code)/\w'.cell? ⟨H,1,.none⟩=some (.int .i64 0)/\w'.cell? ⟨H,2,.none⟩=some (.int .i64 C)/\w'.cell? ⟨H,3,.none⟩=some (.int .i64 D)/\w'.cell? ⟨H,4,.none⟩=some (.int .i64 G)/\w'.cell? ⟨H,5,.none⟩=some (.int .i64 I)/\w'.cell? ⟨H,6,.none⟩=some (.int .i64 J)/\w'.cell? ⟨H,7,.none⟩=some (.int .i64 L)/\w'.cell? ⟨H,8,.none⟩=some (.int .i64 M)/\w'.cell? ⟨H,9,.none⟩=some (.int .i64 N):=by intro w' hb;have kk:=zai hb;refine⟨kk _ _ _ c2,(hb.frozen (p:=⟨s,0,.none⟩) b6).trans b0,?_⟩;(repeat' apply And.intro)<;>exact kk _ _ _ (g0 _)
 have R:∀ w1 w',Below q.heap.size q w1->w1.grownBy w' (Value.slice a fs.length c).ownBlock->w'.cell? ⟨s,0,.none⟩=some (.slice a fs.length c)/\w'.frozen? ⟨s,0,.none⟩=false/\w'.cell? ⟨H,0,.none⟩=some (.int .i64 code)/\w'.cell? ⟨H,1,.none⟩=some (.int .i64 0)/\w'.cell? ⟨H,2,.none⟩=some (.int .i64 C)/\w'.cell? ⟨H,3,.none⟩=some (.int .i64 D)/\w'.cell? ⟨H,4,.none⟩=some (.int .i64 G)/\w'.cell? ⟨H,5,.none⟩=some (.int .i64 I)/\w'.cell? ⟨H,6,.none⟩=some (.int .i64 J)/\w'.cell? ⟨H,7,.none⟩=some (.int .i64 L)/\w'.cell? ⟨H,8,.none⟩=some (.int .i64 M)/\w'.cell? ⟨H,9,.none⟩=some (.int .i64 N):=by
  intro w1 w' hb n;have h:=hS w1 hb;have b7:s<w1.heap.size:=by have:=hb.size;omega
  refine⟨n.cell h.1 Z,(World.frozen?_of_block (n.block s b7 Z)).trans h.2.1,?_⟩;obtain⟨_,_,h0,h1,r,h3,h4,h5,h6,h7,h8,h9⟩:=h;exact⟨n.cell h0 b,n.cell h1 b,n.cell r b,n.cell h3 b,n.cell h4 b,n.cell h5 b,n.cell h6 b,n.cell h7 b,n.cell h8 b,n.cell h9 b⟩
 go_cut [] (fun wx=>Only (foot s (.slice a fs.length c)) w wx/\∃ m,(∀ k,m.ownBlock=some k->(Value.slice a fs.length c).ownBlock=some k\/H<=k)/\SK B wx s m most (fs++[⟨code,0,padded zs⟩]));case first=>
  go_region_law
   (first|(refine step_append_lies _ rfl (.tmp 37) (.tmp 39) 221 rfl B 226 i0 zrq 10 80 ba hi bb bc bf rfl (by decide) (.slice a fs.length c) fs.length (flat fs) rfl (z3g r (by go_grown)) ⟨q.heap.size,0,.none⟩ 1 1 [.int .i64 code,.int .i64 0,.int .i64 C,.int .i64 D,.int .i64 G,.int .i64 I,.int .i64 J,.int .i64 L,.int .i64 M,.int .i64 N] rfl rfl (World.news_of_block (by exact heap_alloc_new q _)) X (by decide) b3 b2 (Nat.le_trans b1 (Below.size (B:=0) (by go_grown))) _ rfl ?_;intro g bg w3 y l S bh;have q1:=(R _ _ (by go_grown) l).1;have q2:=(R _ _ (by go_grown) l).2.1))
  all_goals go_wp2_with fail
  all_goals go_meet;case rel=>refine z0y r (he ▸ y) l ?_ b4 S (fun k=>by rcases k with k|k;exact .inl k;right;rw[k];simp;omega) (zu5 r.regs (zj4 hz));go_grown
 case rest=>obtain⟨hw,m,Y,b9⟩:=hcut;go_wp2_with fail;go_ret;exact⟨rfl,hw,m,by rw[hH];exact Y,b9⟩
end

end Go.Proofs.YtkbddndcegpllaaGreat
