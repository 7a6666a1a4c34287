
import Derived.Deep.RegionLawGrows

import Derived.Deep.RegionHeldLaw

import Derived.Test.YtkilokkopbajkaaGreatBw19

set_option linter.all false
set_option maxHeartbeats 2000000
set_option maxRecDepth 100000
namespace Go.Proofs.YtkilokkopbajkaaGreat

open RowKit

attribute [local go_sem] rowW CA iG

section

attribute [local go_sem ↓] wp_at_zero wp_at_succ

theorem dW(q:Nat)(s:Sh)(t:Ad)(k a b:Int)(ok:Bool)(w:World)(o:aA w q (CA s t) 252):
  Calls Tryz.prog 262 #[some q,.agg #[k,a,b],ok] w λe w'=>e=.returned (.bool (ok&&(k==1&&a==t.d)))/\Below w.heap.size w w':=by
 have h0:=o;clear o;obtain⟨sp,I,J⟩:=s;obtain⟨M,N,R,S,C,L,O,pk,pa,pb,p,n⟩:=t;dsimp only;have i:=(Below.refl w.heap.size w).alloc lr (.cells #[k,a,b] 136);have t0:=jA w (.cells #[k,a,b] 136);have G:=h0.lt;go_in;go_upto_region 1 with fail;generalize w.alloc (.cells #[k,a,b] 136)=W at*;have h1:=h0.below i;obtain⟨H,D,m⟩:=hidv w.heap.size;rw[<-m]at t0|-;have F:H<W.heap.size:=(jE t0);have r:=iA t0;have y:=h1.cell;have z:=h1.lt;clear m t0 h0;rcases(by cases ok<;>simp:ok=false\/ok=true) with rfl|rfl;case inr=>
  rcases(by by_cases h:k=1<;>simp[h]:k=1\/(k==1)=false) with rfl|hk;all_goals
   refine wre ?_;repeat (go_big_quiet_step (fail))
   refine wqn λX l=>?_;have j:=l;go_wp2_with fail;go_returns
  .exact⟨by simp,qA i j⟩
  exact⟨by simp[hk],qA i j⟩
 case inl=>
  refine wre ?_;repeat (go_big_quiet_step (fail))
  refine wqn λX l=>?_;have j:=l;go_wp2_with fail;go_returns;exact⟨by simp,qA i j⟩
theorem ZL(q p b:Nat)(s:Sh)(t:Ad)(m:Mem)(a:Int)(w:World)(h0:At3 q p b w w (CA s t) 252 m)(Z:Fits s m)(hs:m.st<1000000000)(ha:0<=a/\a<s.p):
  Calls Tryz.prog 260 #[some q,some p,a] w λe w'=>e=.returned (.tuple #[.agg #[.int .i64 (pgK s a (m.get (pA s.p s.c s.m a))),.int .i64 (pgP s a (m.get (pA s.p s.c s.m a)) 0),.int .i64 (pgP s a (m.get (pA s.p s.c s.m a)) 1)],.bool (LA s.p s.c s.m a (m.get (pA s.p s.c s.m a)))])/\At3 q p b w w' (CA s t) 252 (m.load t.c (pA s.p s.c s.m a)):=by
 obtain⟨O,N⟩:=Z.page ha;have j:=λY=>JB s.p s.c s.m a Y;rw[O]at j|-;have z:=λY (hY:oA Y p b m)=>uF p b m t.c (s.c+a) Y hY N hs;have C:=λY=>ZJ s a (m.get (s.c+a)) Y (Mem.yF h0.wds.fit _);clear O N Z ha;generalize s.c+a=S at*;generalize m.get S=x at*;generalize LA s.p s.c s.m a x=B at*;generalize pgK s a x=e0 at*;generalize pgP s a x 0=e1 at*;generalize pgP s a x 1=U at*;obtain⟨sp,sc,sm⟩:=s;obtain⟨tc,td,tn,tw,G,ta,ti,pk,pa,pb,n,l⟩:=t;dsimp only at j z C|-;replace j:=hd' j;replace z:=hd' z;replace C:=hd' C;have t0:=jA w (.cells #[.int .i64 0,.int .i64 0,.int .i64 0] 136);have I:=h0.alloc (.cells #[.int .i64 0,.int .i64 0,.int .i64 0] 136);go_in;go_upto_region 1 with fail;generalize w.alloc (.cells #[.int .i64 0,.int .i64 0,.int .i64 0] 136)=X at*;obtain⟨H,hH,J⟩:=hidv w.heap.size;rw[<-J]at t0|-;have F:w.heap.size<=H:=by omega
 clear J;have b4:H≠q:=λe=>by have:=h0.lt;omega
 have b0:H≠p:=λe=>by have:=h0.wds.ltp;omega
 have b3:H≠b:=λe=>by have:=h0.wds.ltb;omega
 have D:aA X H #[.int .i64 0,.int .i64 0,.int .i64 0] 136:=t0;clear t0;have lX:=I.lt
 refine ziv 20 (p:={dst:=none,op:=Op.store 136 (Operand.tmp 6) (Operand.tmp 26),type:=0,pos:=_,after:=_,guard:=none}) (q:={dst:=some 7,op:=Op.assign (Operand.tmp 27),type:=_,pos:=_,after:=_,guard:=none}) (x:=MA 4) (ld:=16) (v:=.int .u64 x) (ts:=[13,17,23])
  (K0:=λY=>At3 q p b w Y (CA ⟨sp,sc,sm⟩ ⟨tc,td,tn,tw,G,ta,ti,pk,pa,pb,n,l⟩) 252 m/\aA Y H #[.int .i64 0,.int .i64 0,.int .i64 0] 136) (K1:=λY=>At3 q p b w Y (CA ⟨sp,sc,sm⟩ ⟨tc,td,tn,tw,G,ta,ti,pk,pa,pb,n,l⟩) 252 (m.load tc S)/\aA Y H #[.int .i64 0,.int .i64 0,.int .i64 0] 136)
  (by kernel_rfl) rfl (by kernel_rfl) (by kernel_rfl) (by simp only[List.take,MA,LD,TC,nopO,nopC,Nat.reduceBEq,Bool.or_false,Bool.or_true,Bool.false_eq_true,↓reduceIte,Nat.reduceAdd];exact rfl) (by kernel_rfl) (by kernel_rfl) (by kernel_rfl) (by simp[MA]) (by simp[MA]) (by simp[MA]) (by simp[MA]) (by kernel_rfl) (by simp[MA]) (by simp[MA])
  ⟨⟨λY Y' h1 h2 h3=>⟨h1.1.far h2 h3 I.only.size,h1.2.only h3 (by have:=D.lt;omega)⟩⟩,⟨λY Y' h1 h2 h3=>⟨h1.1.far h2 h3 I.only.size,h1.2.only h3 (by have:=D.lt;omega)⟩⟩⟩ ⟨I.drew,D.drew⟩ ?_
 apply Exists.intro;refine⟨λB hb hs=>?_,λh=>(by simp[MA]at h),λQ0=>?_,?_⟩;case refine_1=>
  have R:aA B q (CA ⟨sp,sc,sm⟩ ⟨tc,td,tn,tw,G,ta,ti,pk,pa,pb,n,l⟩) 252:=hb.elim (λh=>h.1.row) (λh=>h.1.row);have lB:=R.lt;have b2:=R.cell;repeat (go_big_quiet_step ((first|(go_at_call 112;exact AA (j _))|(go_at_call 111;exact AA (C _)))))
  exact wpQuiet_nil rfl
 case refine_2=>exact vF rfl (λ_ _=>by simp[go_sem]) λY o hs=>(z Y o.1.wds).mono λr Y' ⟨h1,h2,h3⟩=>⟨h1,⟨o.1.load h2 h3,o.2.only h3 b0⟩,h3.weak λk hk=>hk▸Nat.lt_of_lt_of_le o.1.ls.2.1 I.only.size⟩
 case refine_3=>intro a w4 M Z;obtain⟨rfl,b1,⟨L,y⟩,_⟩:=Z;obtain⟨z0,z1,z2⟩:=ci3 0 0 0 y.cell;have zf:∀i,w4.frozen? ⟨H,i,.none⟩=false:=λi=>KA y i;have hB:=((L.new F 0 (.int .i64 e0)).new F 1 (.int .i64 e1)).new F 2 (.int .i64 U);have hR:=((y.set 0 (.int .i64 e0)).set 1 (.int .i64 e1)).set 2 (.int .i64 U);simp only[MA,vput,List.take,List.size_toArray,List.length_cons,List.length_nil,Nat.reduceAdd,Nat.reduceLT,decide_false,Bool.false_eq_true,if_false];clear L y I h0;go_wp2;generalize World.setCell _ ⟨H,2,.none⟩ (.int .i64 U)=V at*;clear z0 z1 z2 zf;obtain⟨z0,z1,z2⟩:=ci3 e0 e1 U hR.cell;refine bodyPost_ret (by simp[results,Tryz.results260,go_sem,z0,z1,z2];try rfl) rfl ?_;exact⟨rfl,hB⟩
end

structure Fr where
 code:Int
 pc:Int
 regs:List Int
 deriving DecidableEq
def Fr.cells (f:Fr):List Value:=.int .i64 f.code:: .int .i64 f.pc::f.regs.map (.int .i64)
def flat (fs:List Fr):List Value:=fs.flatMap Fr.cells
def SG (fs:List Fr):Prop:=∀f∈fs,f.regs.length=8
theorem fV{fs:List Fr}(h:SG fs):(flat fs).length=fs.length*10:=by
 induction fs with
 |nil=>rfl;|cons f fs i=>have h1:=h f (by simp);have h2:=i (λg b=>h g (by simp[b]));simp only[flat,List.flatMap_cons,List.length_append]at h2|-;simp only[Fr.cells,List.length_cons,List.length_map,h1,h2];omega
theorem qP(fs:List Fr)(f:Fr):flat (fs++[f])=flat fs++f.cells:=by simp[flat]
theorem flat_get{fs:List Fr}(h:SG fs)(i j:Nat)(hi:i<fs.length)(n:j<10):(flat fs)[i*10+j]?=(fs[i].cells)[j]?:=by
 induction fs generalizing i with
 |nil=>simp at hi
 |cons f fs m=>
  have h1:=h f (by simp)
  have l:f.cells.length=10:=by simp[Fr.cells,h1]
  have h2:SG fs:=λg b=>h g (by simp[b])
  show (f.cells++flat fs)[i*10+j]?=_
  cases i with
  |zero=>rw[List.getElem?_append_left (by omega)];simp
  |succ i=>
   rw[List.getElem?_append_right (by omega),l,show (i+1)*10+j-10=i*10+j from by omega]
   simpa using m h2 i (by simpa using hi)
structure Stk (T E:TypeId) (B:Nat) (w:World) (s:Nat) (sl:Value) (most:Int) (fs:List Fr):Prop where
 lies:B<=s
 head:w.heap[s]?=some (.cells #[sl,most] T (0,0))
 owns:w.ownsRow B E 10 sl fs.length (flat fs)
 apart:sl.ownBlock≠some s
 regs:SG fs
def rW:Value:=.agg #[.int .i64 0,.int .i64 0,.int .i64 0,.int .i64 0,.int .i64 0,.int .i64 0,.int .i64 0,.int .i64 0,.int .i64 0,.int .i64 0]
def PZ:Fr:=⟨0,0,[0,0,0,0,0,0,0,0]⟩
def EG (fs:List Fr):Fr:=fs.getLast?.getD PZ
def Fr.put (f:Fr) (j:Nat) (x:Int):Fr:=if j=0 then {f with code:=x} else if j=1 then {f with pc:=x} else {f with regs:=f.regs.set (j-2) x}
theorem Fr.z2m(f:Fr)(j:Nat)(x:Int):(f.put j x).cells=f.cells.set j (.int .i64 x):=by
 unfold Fr.put;match j with
 |0=>simp[Fr.cells]
 |1=>simp[Fr.cells]
 |j+2=>simp[Fr.cells,List.map_set]
theorem Fr.z5d(f:Fr)(j:Nat)(x:Int):(f.put j x).regs.length=f.regs.length:=by
 unfold Fr.put;split
 .rfl
 split<;>simp
def yH (fs:List Fr) (j:Nat) (x:Int):List Fr:=fs.dropLast ++ [(EG fs).put j x]
theorem zod{fs:List Fr}(h:fs.length≠0)(j:Nat)(x:Int):(yH fs j x).length=fs.length:=by simp[yH];omega
theorem zx2{fs:List Fr}(h:fs.length≠0):fs=fs.dropLast++[EG fs]:=by
 have b:fs≠ []:=λe=>h (by simp[e]);have:EG fs=fs.getLast b:=by simp[EG,List.getLast?_eq_some_getLast b]
 rw[this];exact(List.dropLast_concat_getLast b).symm
section

variable {T E:TypeId}{B:Nat}{w w':World}{s:Nat}{sl:Value}{most:Int}{fs:List Fr}

theorem Stk.lt(h:Stk T E B w s sl most fs):s<w.heap.size:=(jE h.head)
theorem Stk.AF(h:Stk T E B w s sl most fs):∀k,sl.ownBlock=some k->B<=k/\k<w.heap.size:=h.owns.lt
theorem Stk.cell0(h:Stk T E B w s sl most fs):w.cell? ⟨s,0,.none⟩=some sl:=by simpa using cell_of_row w s 0 _ T (0,0) h.head
theorem Stk.cell1(h:Stk T E B w s sl most fs):w.cell? ⟨s,1,.none⟩=some (.int .i64 most):=by simpa using cell_of_row w s 1 _ T (0,0) h.head
theorem Stk.blocks(h:Stk T E B w s sl most fs)(hb:∀k,foot s sl k->w'.heap[k]?=w.heap[k]?):Stk T E B w' s sl most fs:=
 ⟨h.lies,by rw[hb s (.inl rfl)];exact h.head,oC h.owns (λk b=>hb k (.inr b)),h.apart,h.regs⟩
theorem Stk.below(h:Stk T E B w s sl most fs)(hb:Below w.heap.size w w'):Stk T E B w' s sl most fs:=
 h.blocks λk b=>hb.block k (by rcases b with rfl|b;exact h.lt;exact(h.AF k b).2)
theorem Stk.form(h:Stk T E B w s sl most fs):(sl=.slice none 0 0/\fs=[])\/∃g cap,sl=.slice (some ⟨g,0,.none⟩) fs.length cap/\fs.length<=cap/\g<w.heap.size/\g≠s/\B<=g/\(fs.length:Int)<=9223372036854775807/\
  ∀i j,(hi:i<fs.length)->j<10->w.cell? ⟨g,i*10+j,.none⟩=(fs[i].cells)[j]?:=by
 rcases h.owns.2 with⟨h1,h2⟩|⟨g,cap,b,rfl,h1,h2,h3,h4,m,f⟩
 .exact .inl ⟨h1,List.eq_nil_of_length_eq_zero h2⟩
 refine .inr ⟨g,cap,rfl,h3,(jE h2),λe=>h.apart (by rw[e];rfl),h1,by simp only[maxLen]at h4;omega,λi j hi l=>?_⟩;rw[cell_of_row w g _ b E (0,0) h2,<- flat_get h.regs i j hi l,<- f,List.getElem?_take,jP (by omega)];simp
theorem Only.stk{F:Nat->Prop}(i:Only F w w')(h:Stk T E B w s sl most fs)(f:∀k,foot s sl k->¬F k):Stk T E B w' s sl most fs:=
 h.blocks λk b=>i.block k (by rcases b with rfl|b;exact h.lt;exact(h.AF k b).2) (f k b)
theorem zve{g cap j:Nat}{x:Int}(h:Stk T E B w s (.slice (some ⟨g,0,.none⟩) fs.length cap) most fs)(h0:fs.length≠0)(L:j<10):
  Stk T E B (w.setCell ⟨g,(fs.length-1)*10+j,.none⟩ (.int .i64 x)) s (.slice (some ⟨g,0,.none⟩) fs.length cap) most (yH fs j x):=by
 obtain⟨h1,h2,h3,h4,q⟩:=h;have r:s≠g:=λe=>h4 (by rw[e];rfl);have e:=zx2 h0;have i:SG (yH fs j x):=by
  intro f l;rcases List.mem_append.1 l with l|l
  .exact q f (List.dropLast_subset _ l)
  rw[List.mem_singleton.1 l,Fr.z5d];have z:EG fs∈fs.dropLast++[EG fs]:=by simp
  rw[<-e]at z;exact q _ z
 have t:SG fs.dropLast:=λf l=>q f (List.dropLast_subset _ l);have y:=fV t;rw[List.length_dropLast]at y;have m:flat (yH fs j x)=(flat fs).set ((fs.length-1)*10+j) (.int .i64 x):=by
  have D:flat fs=flat fs.dropLast++(EG fs).cells:=by rw[<-qP,<- e]
  rw[yH,qP,Fr.z2m,D,List.set_append_right _ _ (by omega),y];congr 2;omega
 refine⟨h1,by rw[heap_setCell_other _ _ _ _ r];exact h2,⟨by rw[fV i],.inr ?_⟩,h4,i⟩;rcases h3.2 with⟨h,_⟩|⟨C,n,p,F,k1,G,M,H,I,J⟩
 .cases h
 obtain⟨rfl,rfl⟩:g=C/\cap=n:=by injection F with a _ b;injection a with a;injection a with a;exact⟨a,b⟩
 have o:=zod h0 j x;refine⟨g,cap,_,by rw[o],k1,heap_setCell_same w g _ p E _ G,by omega,H,by simpa using I,?_⟩;rw[o,m,<- J,Array.toList_setIfInBounds,List.take_set]
end

abbrev SK:=Stk 197 200
theorem zxv(m:Int)(w:World):
  Calls Tryz.prog 121 #[m] w λe w'=>e=.returned (.pointer (some ⟨w.heap.size,0,.none⟩))/\w'=w.alloc (.cells #[.slice none 0 0,.int .i64 (if m<0\/16<m then 0 else m)] 197):=by
 go_in;go_wp2;all_goals go_ret
 all_goals exact⟨rfl,rfl⟩
theorem OL{B:Nat}{w:World}{s:Nat}{sl:Value}{most:Int}{fs:List Fr}(h:SK B w s sl most fs):
  Calls Tryz.prog 108 #[some s] w λe w'=>e=.returned (.int .i64 fs.length)/\w'=w:=by
 have c0:=h.cell0;have b:=h.form;rcases b with⟨rfl,rfl⟩|⟨g,cap,rfl,i,m,j,l,n,hc⟩
 .clear h;go_in;go_wp2;all_goals go_ret
  all_goals exact⟨rfl,rfl⟩
 clear h hc;go_in;go_wp2;all_goals go_ret
 all_goals exact⟨rfl,rfl⟩
def qK (sl:Value) (n:Nat):Option Addr:=match sl with
 |.slice (some a) _ _=>if n=0 then none else some ⟨a.block,(n-1)*10,.none⟩
 |_=>none
theorem zx5{B:Nat}{w:World}{s:Nat}{sl:Value}{most:Int}{fs:List Fr}(h:SK B w s sl most fs):
  Calls Tryz.prog 145 #[some s] w λe w'=>e=.returned (.pointer (qK sl fs.length))/\∃n,w'=w.drewN n:=by
 have c0:=h.cell0;have b:=h.form;rcases b with⟨rfl,rfl⟩|⟨g,cap,rfl,i,p,l,o,q,hc⟩
 .go_in;go_wp2_with (go_at_call 108;refine(OL h).mono ?_;rintro e j ⟨rfl,rfl⟩);all_goals go_ret
  all_goals exact⟨rfl,0,rfl⟩
 by_cases h0:fs.length=0
 .have m:((fs.length:Int)==0)=true:=by simp[h0]
  go_in;go_wp2_with (go_at_call 108;refine(OL h).mono ?_;rintro e j ⟨rfl,rfl⟩);all_goals go_ret
  all_goals exact⟨by rw[qK,jP h0];rfl,0,rfl⟩
 have m:((fs.length:Int)==0)=false:=by simpa using h0
 have r:(1:Int)<=(fs.length:Int):=by omega
 go_in;go_wp2_with (go_at_call 108;refine(OL h).mono ?_;rintro e j ⟨rfl,rfl⟩);go_quiet (fail);go_wp2;all_goals go_ret
 exact⟨by rw[qK,jN h0];rfl,nq,rfl⟩
theorem zy6{B:Nat}{w:World}{s:Nat}{sl:Value}{most:Int}{fs:List Fr}(h:SK B w s sl most fs)(h0:fs.length≠0):
  ∃g cap code pc r0 r1 l m n o p q,sl=.slice (some ⟨g,0,.none⟩) fs.length cap/\qK sl fs.length=some ⟨g,(fs.length-1)*10,.none⟩/\g<w.heap.size/\g≠s/\B<=g/\EG fs=⟨code,pc,[r0,r1,l,m,n,o,p,q]⟩/\
   w.cell? ⟨g,(fs.length-1)*10,.none⟩=some (.int .i64 code)/\w.cell? ⟨g,(fs.length-1)*10+1,.none⟩=some (.int .i64 pc)/\
   w.cell? ⟨g,(fs.length-1)*10+2,.none⟩=some (.int .i64 r0)/\w.cell? ⟨g,(fs.length-1)*10+3,.none⟩=some (.int .i64 r1)/\
   w.cell? ⟨g,(fs.length-1)*10+4,.none⟩=some (.int .i64 l)/\w.cell? ⟨g,(fs.length-1)*10+5,.none⟩=some (.int .i64 m)/\
   w.cell? ⟨g,(fs.length-1)*10+6,.none⟩=some (.int .i64 n)/\w.cell? ⟨g,(fs.length-1)*10+7,.none⟩=some (.int .i64 o)/\
   w.cell? ⟨g,(fs.length-1)*10+8,.none⟩=some (.int .i64 p)/\w.cell? ⟨g,(fs.length-1)*10+9,.none⟩=some (.int .i64 q)/\fs.length<=cap/\(fs.length:Int)<=9223372036854775807:=by
 rcases h.form with⟨rfl,rfl⟩|⟨g,cap,rfl,i,D,r,z,F,hc⟩
 .simp at h0
 have t:fs.length-1<fs.length:=by omega
 have y:=h.regs _ (List.getElem_mem t);have G:EG fs=fs[fs.length-1]:=by simp[EG,List.getLast?_eq_getElem?,t]
 rw[G];generalize C:fs[fs.length-1]=f at y;have b:=λj=>hc (fs.length-1) j t;rw[C]at b;obtain⟨code,pc,regs⟩:=f;match regs,y with
 | [r0,r1,l,m,n,o,p,q],_=>exact⟨g,cap,code,pc,r0,r1,l,m,n,o,p,q,rfl,by rw[qK,jN h0],D,r,z,rfl,b 0 (by omega),b 1 (by omega),b 2 (by omega),b 3 (by omega),b 4 (by omega),b 5 (by omega),b 6 (by omega),b 7 (by omega),b 8 (by omega),b 9 (by omega),i,F⟩
theorem oP{w:World}{b:Nat}{cs:Array Value}{t:TypeId}(h:w.heap[b]?=some (.cells cs t (0,0)))(i:Nat):w.frozen? ⟨b,i,.none⟩=false:=by
 simp[World.frozen?,h]
theorem zqq{B:Nat}{w:World}{s:Nat}{g cap n:Nat}{most:Int}{fs:List Fr}(h:SK B w s (.slice (some ⟨g,0,.none⟩) n cap) most fs)(_h0:fs.length≠0)(i:Nat):w.frozen? ⟨g,i,.none⟩=false:=by
 rcases h.owns.2 with⟨h1,_⟩|⟨l,f,j,m,k1,o,_⟩
 .cases h1
 obtain rfl:g=l:=by injection m with a _ b;injection a with a;injection a with a
 exact oP o i
theorem zz4{B:Nat}{w:World}{s:Nat}{sl:Value}{most pc':Int}{fs:List Fr}(h:SK B w s sl most fs)(h0:fs.length≠0):
  Calls Tryz.prog 124 #[some s,pc'] w λe w'=>e=.returned (.bool true)/\Only (foot s sl) w w'/\SK B w' s sl most (yH fs 1 pc'):=by
 obtain⟨g,cap,code,pc,r0,r1,r,t,y,z,C,D,rfl,i,o,l,n,q,_,c1,_,_,_,_,_,_,_,_,j,p⟩:=zy6 h h0;have b:=zx5 h;rw[i]at b;have m:=zqq h h0;clear i;go_in;go_wp2_with (go_at_call 145;refine b.mono ?_;rintro e F ⟨rfl,nq,rfl⟩);go_ret;exact⟨rfl,Only.setCell (Only.drewN (Only.refl _ _) nq) (.inl (.inr rfl)) _,(zve h h0 (by decide)).blocks λk _=>rfl⟩
theorem zq6{B:Nat}{w:World}{s:Nat}{sl:Value}{most:Int}{fs:List Fr}(h:SK B w s sl most fs):
  Calls Tryz.prog 127 #[some s] w λe w'=>e=.returned (.tuple #[])/\Only (foot s sl) w w'/\SK B w' s (.slice none 0 0) most []:=by
 have i:=h.cell0;have j:=oP h.head;go_in;go_wp2;go_end0;refine⟨rfl,Only.setCell (Only.refl _ _) (.inl (.inl rfl)) _,h.lies,?_,World.ownsRow_nil _ _ _ _,by simp[Value.ownBlock],λf b=>by cases b⟩;rw[heap_setCell_same w s 0 _ _ _ h.head];rfl
theorem z0j:(Tryz.prog.info? 200).map (λi=>(i.zero,i.size,i.bytes))=some (some rW,10,80):=by kernel_rfl
theorem z3g{T E:TypeId}{B:Nat}{w Y:World}{s:Nat}{sl:Value}{most:Int}{fs:List Fr}(h:Stk T E B w s sl most fs)(hb:Below w.heap.size w Y):Y.ownsRow B E 10 sl fs.length (flat fs):=
 oC h.owns λk b=>hb.block k (h.AF k b).2
def padded (zs:List Int):List Int:=zs ++ List.replicate (8-zs.length) 0
theorem AU{zs:List Int}(h:zs.length<=8):(padded zs).length=8:=by simp[padded];omega
theorem zqx(code:Int){zs:List Int}(h:zs.length<=8):splice [.int .i64 code,.int .i64 0,.int .i64 0,.int .i64 0,.int .i64 0,.int .i64 0,.int .i64 0,.int .i64 0,.int .i64 0,.int .i64 0] 2 (zs.map (.int .i64))=(Fr.mk code 0 (padded zs)).cells:=by
 match zs,h with
 | [],_=>rfl
 | [_],_=>rfl
 | [_,_],_=>rfl
 | [_,_,_],_=>rfl
 | [_,_,_,_],_=>rfl
 | [_,_,_,_,_],_=>rfl
 | [_,_,_,_,_,_],_=>rfl
 | [_,_,_,_,_,_,_],_=>rfl
 | [_,_,_,_,_,_,_,_],_=>rfl
theorem ygr{l:List Int}(h:l.length=8):∃a b c d e f g i,l=[a,b,c,d,e,f,g,i]:=by
 match l,h with
 | [a,b,c,d,e,f,g,i],_=>exact⟨a,b,c,d,e,f,g,i,rfl⟩
theorem zu5{fs:List Fr}{f:Fr}(h:SG fs)(i:f.regs.length=8):SG (fs++[f]):=by
 intro x b;rcases List.mem_append.1 b with b|b
 .exact h x b
 rw[List.mem_singleton.1 b];exact i
theorem z0y{T E:TypeId}{B s g b K H:Nat}{w p Y i:World}{sl:Value}{most:Int}{fs:List Fr}{f:Fr}(h2:Stk T E B p s sl most fs)(n:i.ownsRow B E 10 (.slice (some ⟨g,0,.none⟩) (fs.length+1) b) (fs.length+1) (flat fs++f.cells)) (y:Y.grownBy i sl.ownBlock) (q:Below p.heap.size p Y)(C:Only (foot s sl) w p) (j:sl.ownBlock=some g\/g=K) (t:sl.ownBlock=some g\/g=K->sl.ownBlock=some g\/(H<=g/\p.heap.size<=g)) (D:SG (fs++[f])):
  Only (foot s sl) w (i.setCell ⟨s,0,.none⟩ (.slice (some ⟨g,0,.none⟩) (fs.length+1) b))/\∃o,(∀k,o.ownBlock=some k->sl.ownBlock=some k\/H<=k)/\
   Stk T E B (i.setCell ⟨s,0,.none⟩ (.slice (some ⟨g,0,.none⟩) (fs.length+1) b)) s o most (fs++[f]):=by
 have hs:=h2.lt;have r:some s≠sl.ownBlock:=λe=>h2.apart e.symm;have z:i.heap[s]?=some (.cells #[sl,most] T (0,0)):=(y.block s (by have:=q.size;omega) r).trans ((q.block s hs).trans h2.head);have l:g≠s:=by
  rcases t j with h|⟨_,h⟩
  .intro e;exact h2.apart (by rw[h,e])
  omega
 refine⟨Only.setCell (Only.grown (C.trans (Only.of_below (F:=λ_=>False) q) λ_ _ h=>h.elim) y λk m=>.inl (.inr m)) (.inl (.inl rfl)) _,.slice (some ⟨g,0,.none⟩) (fs.length+1) b,?_,h2.lies,?_,?_,?_,D⟩
 .intro k m;obtain rfl:g=k:=by injection m
  rcases t j with h|h
  .exact .inl h
  exact .inr h.1
 .rw[heap_setCell_same i s 0 _ T _ z];rfl
 .have e:(fs++[f]).length=fs.length+1:=by simp
  rw[e,qP];exact oC n λk m=>by
   obtain rfl:g=k:=by injection m
   exact heap_setCell_other _ _ _ _ l
 intro e;exact l (by injection e)
theorem zt0{B:Nat}{w:World}{s:Nat}{sl:Value}{most code:Int}{fs:List Fr}{ao:Option Addr}{zs:List Int}{cap:Nat}(h:SK B w s sl most fs)(h1:fs.length<most)(hz:zs.length<=8)(hB:B<=w.heap.size)(hm:most<=100000)(hc:∀a,ao=some a->∀j v,(zs.map (Value.int .i64))[j]?=some v->w.cell? (a.add j)=some v) (hn:ao=none->zs=[]):
  Calls Tryz.prog 95 #[some s,code,.slice ao zs.length cap] w λe w'=>e=.returned (.bool true)/\Only (foot s sl) w w'/\
   ∃m,(∀k,m.ownBlock=some k->sl.ownBlock=some k\/w.heap.size<=k)/\SK B w' s m most (fs++[⟨code,0,padded zs⟩]):=by
 have c0:=h.cell0;have c1:=h.cell1;have b8:∃a c,sl=.slice a fs.length c:=by
  rcases h.form with⟨rfl,rfl⟩|⟨g,cap,rfl,_⟩
  .exact⟨_,_,rfl⟩
  exact⟨_,_,rfl⟩
 obtain⟨a,c,rfl⟩:=b8;have h3:decide (most<=(fs.length:Int))=false:=by simp;omega
 have h4:decide ((8:Int)<(zs.length:Int))=false:=by simp;omega
 go_in;go_wp2_with fail;go_quiet (fail);have N:SK B (w.drewN nq) s (.slice a fs.length c) most fs:=h.blocks λ_ _=>rfl;have U:∀a,ao=some a->∀j v,(zs.map (Value.int .i64))[j]?=some v->(w.drewN nq).cell? (a.add j)=some v:=hc;have ho:Only (foot s (.slice a fs.length c)) w (w.drewN nq):=Only.drewN (Only.refl _ _) nq;have y:(w.drewN nq).heap.size=w.heap.size:=rfl;generalize w.drewN nq=W at*;clear c0 c1 hc h;have c0:=N.cell0;have bk:=N.lt;go_upto_region 4 with fail;have hu:=Tryz.underlying194;have k1:(W.alloc (.cells #[code,.int .i64 0,.int .i64 0,.int .i64 0,.int .i64 0,.int .i64 0,.int .i64 0,.int .i64 0,.int .i64 0,.int .i64 0] 200)).heap[w.heap.size]?=some (.cells #[code,.int .i64 0,.int .i64 0,.int .i64 0,.int .i64 0,.int .i64 0,.int .i64 0,.int .i64 0,.int .i64 0,.int .i64 0] 200 (0,0)):=by rw[<-y];exact jA W _
 have k2:(zs.map (Value.int .i64)).length=Nat.min zs.length 8:=by rw[List.length_map];exact(Nat.min_eq_left hz).symm
 have k3:0<(zs.map (Value.int .i64)).length->(some (⟨w.heap.size,2,.none⟩:Addr))=some ⟨w.heap.size,2,.none⟩/\∃ad,ao=some ad/\∀j v,(zs.map (Value.int .i64))[j]?=some v->(W.alloc (.cells #[code,.int .i64 0,.int .i64 0,.int .i64 0,.int .i64 0,.int .i64 0,.int .i64 0,.int .i64 0,.int .i64 0,.int .i64 0] 200)).cell? (ad.add j)=some v:=by
  intro hp
  refine⟨rfl,?_⟩
  cases ao with
  |none=>rw[hn rfl]at hp;simp at hp
  |some ad=>exact⟨ad,rfl,λj v hv=>(World.grownBy_alloc W _ none).cell (U ad rfl j v hv) (by simp)⟩
 have k4:2+(zs.map (Value.int .i64)).length<=([Value.int .i64 code,.int .i64 0,.int .i64 0,.int .i64 0,.int .i64 0,.int .i64 0,.int .i64 0,.int .i64 0,.int .i64 0,.int .i64 0]:List Value).length:=by simp;omega
 have k5:∀v∈zs.map (Value.int .i64),v.oneCell'=true:=by intro v hv;obtain⟨x,_,rfl⟩:=List.mem_map.1 hv;rfl
 have k6:Below W.heap.size W (W.alloc (.cells #[code,.int .i64 0,.int .i64 0,.int .i64 0,.int .i64 0,.int .i64 0,.int .i64 0,.int .i64 0,.int .i64 0,.int .i64 0] 200)):=br.alloc lr _;go_wp2_with (refine wpList_copy_splice rfl (.tmp 30) (.tmp 31) 194 194 rfl 2 hu (by kernel_rfl) (some ⟨w.heap.size,2,.none⟩) ao 8 8 zs.length cap rfl rfl w.heap.size 2 [.int .i64 code,.int .i64 0,.int .i64 0,.int .i64 0,.int .i64 0,.int .i64 0,.int .i64 0,.int .i64 0,.int .i64 0,.int .i64 0] 200 k1 (zs.map (.int .i64)) k2 k3 k4 k5 W.heap.size W k6 (Nat.le_of_eq y) ?_;intro q hH S);have o:=hH.out;rw[zqx code hz]at o;obtain⟨z,C,D,G,I,J,L,M,he⟩:=ygr (AU hz);rw[he]at o;have hh:=λi=>cell_of_row q w.heap.size i _ _ (0,0) o;simp only[Fr.cells,List.map_cons,List.map_nil]at hh o;have h2:=N.below S;have b4:=ho.trans (Only.of_below (F:=λ_=>False) S) (λ_ _ h=>h.elim);have bm:s≠w.heap.size:=by omega
 have bj:W.heap.size<q.heap.size:=(jE (y▸o));clear k1 k2 k3 k4 k5 k6 hH U hn ho hu;have ba:=Tryz.underlying195;obtain⟨i0,hi,bb,bc,bf⟩:=info_parts z0j;have c2:=h2.cell0;have b0:=oP h2.head 0;have bi:=h2.AF;have b5:=N.AF;have Y:some s≠(Value.slice a fs.length c).ownBlock:=λe=>h2.apart e.symm;have b:some w.heap.size≠(Value.slice a fs.length c).ownBlock:=λe=>by have:=(b5 _ e.symm).2;omega
 have b1:B<=q.heap.size:=by omega
 have b6:s<q.heap.size:=h2.lt;have V:∀u∈([.int .i64 code,.int .i64 0,.int .i64 z,.int .i64 C,.int .i64 D,.int .i64 G,.int .i64 I,.int .i64 J,.int .i64 L,.int .i64 M]:List Value),u.oneCell'=true:=by intro u hu;simp at hu;rcases hu with rfl|rfl|rfl|rfl|rfl|rfl|rfl|rfl|rfl|rfl<;>rfl
 have b2:(fs.length+1)*80<=140737488355328:=by omega
 have b3:fs.length+1<=maxLen:=by simp only[maxLen];omega
 generalize hH:w.heap.size=H at*;have g0:∀i,q.cell? ⟨H,i,.none⟩=(#[code,.int .i64 0,z,C,D,G,I,J,L,M]:Array Value)[i]?:=hh;clear hh N h3 h4;have hS:∀w',jW q w'->w'.cell? ⟨s,0,.none⟩=some (.slice a fs.length c)/\w'.frozen? ⟨s,0,.none⟩=false/\w'.cell? ⟨H,0,.none⟩=some (.int .i64 code)/\w'.cell? ⟨H,1,.none⟩=some (.int .i64 0)/\w'.cell? ⟨H,2,.none⟩=some (.int .i64 z)/\w'.cell? ⟨H,3,.none⟩=some (.int .i64 C)/\w'.cell? ⟨H,4,.none⟩=some (.int .i64 D)/\w'.cell? ⟨H,5,.none⟩=some (.int .i64 G)/\w'.cell? ⟨H,6,.none⟩=some (.int .i64 I)/\w'.cell? ⟨H,7,.none⟩=some (.int .i64 J)/\w'.cell? ⟨H,8,.none⟩=some (.int .i64 L)/\w'.cell? ⟨H,9,.none⟩=some (.int .i64 M):=by intro w' hb;have kk:=kA hb;refine⟨kk _ _ _ c2,(hb.frozen (p:=⟨s,0,.none⟩) b6).trans b0,?_⟩;(repeat' apply And.intro)<;>exact kk _ _ _ (g0 _)
 have O:∀Z w',jW q Z->Z.grownBy w' (Value.slice a fs.length c).ownBlock->w'.cell? ⟨s,0,.none⟩=some (.slice a fs.length c)/\w'.frozen? ⟨s,0,.none⟩=false/\w'.cell? ⟨H,0,.none⟩=some (.int .i64 code)/\w'.cell? ⟨H,1,.none⟩=some (.int .i64 0)/\w'.cell? ⟨H,2,.none⟩=some (.int .i64 z)/\w'.cell? ⟨H,3,.none⟩=some (.int .i64 C)/\w'.cell? ⟨H,4,.none⟩=some (.int .i64 D)/\w'.cell? ⟨H,5,.none⟩=some (.int .i64 G)/\w'.cell? ⟨H,6,.none⟩=some (.int .i64 I)/\w'.cell? ⟨H,7,.none⟩=some (.int .i64 J)/\w'.cell? ⟨H,8,.none⟩=some (.int .i64 L)/\w'.cell? ⟨H,9,.none⟩=some (.int .i64 M):=by
  intro Z w' hb n;have h:=hS Z hb;have b7:s<Z.heap.size:=by have:=hb.size;omega
  refine⟨n.cell h.1 Y,(World.frozen?_of_block (n.block s b7 Y)).trans h.2.1,?_⟩;obtain⟨_,_,h0,h1,h2,h3,h4,h5,h6,h7,h8,h9⟩:=h;exact⟨n.cell h0 b,n.cell h1 b,n.cell h2 b,n.cell h3 b,n.cell h4 b,n.cell h5 b,n.cell h6 b,n.cell h7 b,n.cell h8 b,n.cell h9 b⟩
 go_cut [] (λwx=>Only (foot s (.slice a fs.length c)) w wx/\∃m,(∀k,m.ownBlock=some k->(Value.slice a fs.length c).ownBlock=some k\/H<=k)/\SK B wx s m most (fs++[⟨code,0,padded zs⟩]));case first=>
  go_region_law
   (first|(refine step_append_lies _ rfl (.tmp 37) (.tmp 39) 195 rfl B 200 i0 rW 10 80 ba hi bb bc bf rfl (by decide) (.slice a fs.length c) fs.length (flat fs) rfl (z3g h2 (by go_grown)) ⟨q.heap.size,0,.none⟩ 1 1 [.int .i64 code,.int .i64 0,.int .i64 z,.int .i64 C,.int .i64 D,.int .i64 G,.int .i64 I,.int .i64 J,.int .i64 L,.int .i64 M] rfl rfl (World.news_of_block (by exact jA q _)) V (by decide) b3 b2 (Nat.le_trans b1 (Below.size (B:=0) (by go_grown))) _ rfl ?_;intro g bg w3 r l R bh;have q1:=(O _ _ (by go_grown) l).1;have q2:=(O _ _ (by go_grown) l).2.1))
  all_goals go_wp2_with fail
  all_goals go_meet;case rel=>refine z0y h2 (he▸r) l ?_ b4 R (λk=>by rcases k with k|k;exact .inl k;right;rw[k];simp;omega) (zu5 h2.regs (AU hz));go_grown
 case rest=>obtain⟨hw,m,X,b9⟩:=hcut;go_wp2_with fail;go_ret;exact⟨rfl,hw,m,by rw[hH];exact X,b9⟩
section

attribute [local go_sem ↓] wp_at_zero wp_at_succ

theorem TT:(Tryz.prog.info? 118).map (λi=>(i.zero,i.size,i.bytes))=some (some (.int .u64 0),1,8):=by kernel_rfl
theorem qX(n:Nat)(l:n<=100000):∀u:World,(Instr.makeSlice 43 (.int .i64 (n:Int)) (.int .i64 (n:Int))).run Tryz.prog u=.ok (.slice (some ⟨u.heap.size,0,.none⟩) n n) (u.alloc (.cells (madeCells #[.int .u64 0] n) 118)):=λu=>by
 obtain⟨j,hi,b,f,i⟩:=info_parts TT
 have h:=run_make (P:=Tryz.prog) u 43 118 j (.int .u64 0) Tryz.underlying43 hi b .i64 .i64 (n:Int) (n:Int) (by omega) (Int.le_refl _) (by rw[i];omega) (by omega)
 rw[Int.toNat_natCast]at h
 simpa[f,Value.cells] using h
def DF (n:Nat):Mem:=⟨List.replicate n 0,0,⟨0,0,0,0,0,false⟩⟩
theorem ZX(n:Nat):madeCells #[.int .u64 0] n=rowW (List.replicate n 0):=by
 apply Array.toList_inj.1;rw[toList_madeCells_one];simp[rowW]
theorem zV(n:Nat):(DF n).fit:=λx b=>by
 rw[List.eq_of_mem_replicate b];exact⟨by decide,by decide⟩
theorem z7s(n:Nat)(j:n<=2000)(w:World):
  Calls Tryz.prog 87 #[.int .i64 (n:Int)] w λe w'=>∃p b,e=.returned (.pointer (some ⟨p,0,.none⟩))/\oA w' p b (DF n)/\w.heap.size<=p/\w.heap.size<=b/\Below w.heap.size w w':=by
 have i:=qX n (by omega);have h1:decide ((n:Int)<0)=false:=jF (by omega);have h2:decide ((2000:Int)<(n:Int))=false:=jF (by omega);go_in;go_wp2_with fail;go_returns;refine⟨_,w.heap.size,rfl,⟨by simp,?_,?_,zV n,by simp[DF];omega,by simp[DF]⟩,by simp,Nat.le_refl _,?_⟩
 .have h:=jA (w.alloc (.cells (madeCells #[.int .u64 0] n) 118)) (.cells (iG w.heap.size (DF n)) 173);simpa[iG,DF] using h
 .have h:=jA w (.cells (madeCells #[.int .u64 0] n) 118);rw[ZX]at h;have h2:=aA.alloc (T:=118) h (.cells (iG w.heap.size (DF n)) 173);simpa[iG,DF,aA,ZX] using h2
 exact(br.alloc lr _).alloc (by simp) _
theorem z5o(p b:Nat)(m:Mem)(a x:Int)(w:World)(h:oA w p b m)(j:m.has a)(q:0<=x/\x<18446744073709551616):
  Calls Tryz.prog 99 #[some p,a,.int .u64 x] w λe w'=>e=.returned (.bool true)/\oA w' p b ⟨m.ws.set a.toNat x,m.st,m.la⟩/\Only (λk=>k=b) w w':=by
 have h1:=hd' (FQ p b m a w h j);have l:=hd' (h.put j q);obtain⟨n,t,i⟩:=hidv m.ws.length;have z:w.cell? ⟨p,0,.none⟩=some (.slice (some ⟨b,0,.none⟩) n n):=by rw[i];exact iA h.blk 0
 have C:=h.cell j;have D:=KA h.row;have a0:(0:Int)<=a:=j.1;have a1:a<(n:Int):=by rw[i];exact j.2
 clear i h j;go_in;go_wp2_with (go_at_call 132;refine h1.out.mono ?_;rintro r y ⟨rfl,o⟩;obtain rfl:=o.symm);go_returns;exact⟨rfl,l.out,Only.setCell (F:=λk=>k=b) (Only.refl _ _) (.inl rfl) _⟩
theorem wV(p b:Nat)(m:Mem)(w:World)(h:oA w p b m):
  Calls Tryz.prog 92 #[some p] w λe w'=>e=.returned (.int .i64 m.st)/\w'=w:=by
 have i:w.cell? ⟨p,1,.none⟩=some (.int .i64 m.st):=iA h.blk 1;clear h;go_in;go_wp2_with fail;go_returns;exact⟨rfl,rfl⟩
theorem z4k(p b:Nat)(m:Mem)(w:World)(h:oA w p b m):
  Calls Tryz.prog 94 #[some p] w λe w'=>e=.returned (accV m.la)/\Below w.heap.size w w':=by
 unfold accV;have z:=(Below.refl w.heap.size w).alloc lr (.cells #[.int .i64 0,.int .i64 0,.int .i64 0,.int .u64 0,.int .u64 0,.bool false] 155);have y:aA (w.alloc (.cells #[.int .i64 0,.int .i64 0,.int .i64 0,.int .u64 0,.int .u64 0,.bool false] 155)) w.heap.size #[.int .i64 0,.int .i64 0,.int .i64 0,.int .u64 0,.int .u64 0,.bool false] 155:=jA _ _;have r:=h.below z;have G:w.heap.size≠p:=λe=>by have:=h.ltp;omega
 obtain⟨la,C⟩:∃la,la=m.la:=⟨_,rfl⟩;have H:(w.alloc (.cells #[.int .i64 0,.int .i64 0,.int .i64 0,.int .u64 0,.int .u64 0,.bool false] 155)).cell? ⟨p,2,.none⟩=some (.int .i64 m.la.c):=iA r.blk 2;have I:(w.alloc (.cells #[.int .i64 0,.int .i64 0,.int .i64 0,.int .u64 0,.int .u64 0,.bool false] 155)).cell? ⟨p,3,.none⟩=some (.int .i64 m.la.k):=iA r.blk 3;have J:(w.alloc (.cells #[.int .i64 0,.int .i64 0,.int .i64 0,.int .u64 0,.int .u64 0,.bool false] 155)).cell? ⟨p,4,.none⟩=some (.int .i64 m.la.a):=iA r.blk 4;have L:(w.alloc (.cells #[.int .i64 0,.int .i64 0,.int .i64 0,.int .u64 0,.int .u64 0,.bool false] 155)).cell? ⟨p,5,.none⟩=some (.int .u64 m.la.was):=iA r.blk 5;have M:(w.alloc (.cells #[.int .i64 0,.int .i64 0,.int .i64 0,.int .u64 0,.int .u64 0,.bool false] 155)).cell? ⟨p,6,.none⟩=some (.int .u64 m.la.put):=iA r.blk 6;have N:(w.alloc (.cells #[.int .i64 0,.int .i64 0,.int .i64 0,.int .u64 0,.int .u64 0,.bool false] 155)).cell? ⟨p,7,.none⟩=some (.bool m.la.ok):=iA r.blk 7;rw[<-C]at H I J L M N|-;clear h r C;obtain⟨l,n,lp,q,o,lo⟩:=la;dsimp only at H I J L M N|-;go_in;go_upto_region 1 with fail;generalize w.alloc (.cells #[.int .i64 0,.int .i64 0,.int .i64 0,.int .u64 0,.int .u64 0,.bool false] 155)=X at*;obtain⟨E,R,j⟩:=hidv w.heap.size;rw[<-j]at y G|-;have i:w.heap.size<=E:=by omega
 clear j;have lE:=y.lt;have fE:=KA y;have O:=y.cell;go_wp2_with fail;have D:aA ((((((X.setCell ⟨E,0,.none⟩ (.int .i64 l)).setCell ⟨E,1,.none⟩ (.int .i64 n)).setCell ⟨E,2,.none⟩ (.int .i64 lp)).setCell ⟨E,3,.none⟩ (.int .u64 q)).setCell ⟨E,4,.none⟩ (.int .u64 o)).setCell ⟨E,5,.none⟩ (.bool lo)) E #[l,n,lp,.int .u64 q,.int .u64 o,lo] 155:=((((((y.set 0 (.int .i64 l)).set 1 (.int .i64 n)).set 2 (.int .i64 lp)).set 3 (.int .u64 q)).set 4 (.int .u64 o)).set 5 (.bool lo));have F:Below w.heap.size w ((((((X.setCell ⟨E,0,.none⟩ (.int .i64 l)).setCell ⟨E,1,.none⟩ (.int .i64 n)).setCell ⟨E,2,.none⟩ (.int .i64 lp)).setCell ⟨E,3,.none⟩ (.int .u64 q)).setCell ⟨E,4,.none⟩ (.int .u64 o)).setCell ⟨E,5,.none⟩ (.bool lo)):=((((((z.setCell (p:=⟨E,0,.none⟩) i (.int .i64 l)).setCell (p:=⟨E,1,.none⟩) i (.int .i64 n)).setCell (p:=⟨E,2,.none⟩) i (.int .i64 lp)).setCell (p:=⟨E,3,.none⟩) i (.int .u64 q)).setCell (p:=⟨E,4,.none⟩) i (.int .u64 o)).setCell (p:=⟨E,5,.none⟩) i (.bool lo));generalize (((((X.setCell ⟨E,0,.none⟩ (.int .i64 l)).setCell ⟨E,1,.none⟩ (.int .i64 n)).setCell ⟨E,2,.none⟩ (.int .i64 lp)).setCell ⟨E,3,.none⟩ (.int .u64 q)).setCell ⟨E,4,.none⟩ (.int .u64 o)).setCell ⟨E,5,.none⟩ (.bool lo)=U at*;obtain⟨r0,r1,S⟩:=ci3 l n lp D.cell;have V:=ce (.int .u64 q) (D.cell 3);have Y:=ce (.int .u64 o) (D.cell 4);have Z:=ce (.bool lo) (D.cell 5);exact bodyPost_ret (v:=.agg #[l,n,lp,.int .u64 q,.int .u64 o,lo]) (by simp[results,Tryz.results94,go_sem,r0,r1,S,V,Y,Z]) rfl ⟨rfl,F⟩
theorem z5x(xs:List Int)(v:Value)(w:World)(H:RdS w 1 v xs.length (xs.map (Value.int .u64)))(G:xs.length<=2000):
  Calls Tryz.prog 103 #[v] w λe w'=>∃v',e=.returned v'/\Below w.heap.size w w'/\w'.ownsRow w.heap.size 118 1 v' xs.length (xs.map (Value.int .u64)):=by
 obtain⟨ao,cap,rfl,F,I,M,o⟩:=id H;have n:∀W:World,(binOp .eql 43 (.slice ao xs.length cap) (.slice none 0 0)).run Tryz.prog W=.ok (.bool ao.isNone) W:=λW=>Lib.run_eql_slice_nil W _ _ ao _ _ _ _ Tryz.underlying43;rcases ao with _|ad
 .have J:xs=[]:=by
   rcases xs with _|⟨b,l⟩
   .rfl
   obtain⟨_,_,h,_⟩:=o (by simp);cases h
  subst J;replace n:∀W:World,(binOp .eql 43 (.slice none 0 cap) (.slice none 0 0)).run Tryz.prog W=.ok (.bool true) W:=n;show Calls Tryz.prog 103 #[.slice none 0 cap] w _;go_in;go_wp2;go_ret;exact⟨_,rfl,Below.refl _ _,⟨rfl,.inl ⟨rfl,rfl⟩⟩⟩
 obtain⟨L,q,y,z,C⟩:=info_parts TT;have m:(w.alloc (.cells #[] 118)).ownsRow w.heap.size 118 1 (.slice (some ⟨w.heap.size,0,.none⟩) 0 0) 0 []:=World.ownsRow_lit w #[] 0 lr (Nat.zero_le _) rfl;have r:RdS (w.alloc (.cells #[] 118)) 1 (.slice (some ad) xs.length cap) xs.length (xs.map (Value.int .u64)):=RdS.alloc H _;go_in;go_wp2_with (refine nH rfl (.tmp 5) (.tmp 6) 43 rfl w.heap.size 118 L _ 1 8 Tryz.underlying43 q y z C rfl (by omega) _ 0 [] rfl m _ xs.length (xs.map (Value.int .u64)) rfl r (by intro c hc;obtain⟨x,_,rfl⟩:=List.mem_map.1 hc;rfl) (by simp only[maxLen];omega) (by omega) (by simp) ?_;intro N O i j D;have p:=sE ((Below.refl w.heap.size w).alloc lr _) m (by simp) j);go_ret;rw[Nat.zero_add,List.nil_append]at i;exact⟨_,rfl,p,i⟩
theorem oA.rd{w:World}{p b:Nat}{m:Mem}(h:oA w p b m):RdS w 1 (.slice (some ⟨b,0,.none⟩) m.ws.length m.ws.length) m.ws.length (m.ws.map (Value.int .u64)):=by
 have h2:=RdS.new (sz:=1) (n:=m.ws.length) h.row (by simp[rowW]) (by have:=h.few;omega);simpa[rowW] using h2
theorem z8c(p b:Nat)(m:Mem)(w:World)(h:oA w p b m):
  Calls Tryz.prog 53 #[some p] w λe w'=>∃v',e=.returned v'/\Below w.heap.size w w'/\w'.ownsRow w.heap.size 118 1 v' m.ws.length (m.ws.map (Value.int .u64)):=by
 have o:w.cell? ⟨p,0,.none⟩=some (.slice (some ⟨b,0,.none⟩) m.ws.length m.ws.length):=iA h.blk 0;have hc:=hd' (z5x m.ws _ w h.rd h.few);go_in;go_wp2_with (go_at_call 103;refine hc.out.mono ?_;rintro e n ⟨l,rfl,i,j⟩);go_ret;exact⟨_,rfl,i,j⟩
end

end Go.Proofs.YtkilokkopbajkaaGreat
