/- Texts bound together: PackW RwO EvR StkP StkW StkV MdlP MdlL JudP OpZ. -/
import Derived.Deep.RegionLawGrows

import Derived.Deep.RegionHeldLaw

import Derived.Test.YtedcnffebdpmmaaGreatBu2

set_option linter.all false
set_option maxHeartbeats 1000000
namespace Go.Proofs.YtedcnffebdpmmaaGreat

section

open Go.RowKit

theorem zua(k:Int)(xs:List Int)(b m:Nat)(w:World)(p:0<=k)(o:k<=15)(t:xs.length<=3)
  (hc:∀ i,i<xs.length->w.cell? ⟨b,m+i,.none⟩=some (.int .i64 (xs.getD i 0))):
  Calls Tryz.prog 92 #[k,.slice (some ⟨b,m,.none⟩) xs.length xs.length] w fun e w'=>e= .returned (.int .u64 (putV k xs))/\w'=w:=by
 go_in;go_wp2;go_loop [4,5,12] (fun r v i=>∃ j:Nat,j<=xs.length/\i= .int .i64 j/\r= .int .u64 0/\v= .int .u64 (k+16*horner (xs.take j))/\zjf (xs.take j)=true) (fun _ _ i=>xs.length-(intOf i).toNat);case atStart=>exact⟨0,Nat.zero_le _,rfl,rfl,by simp[horner],by simp[zjf]⟩
 case round=>
  obtain⟨j,q,rfl,rfl,rfl,l⟩:=hrel;have n:j<xs.length->w.cell? ⟨b,m+j,.none⟩=some (.int .i64 (xs.getD j 0)):=fun h=>hc j h;go_wp2;case roundEnd=>have hs:=z6p k xs j p o (by omega) ‹_› (by omega) (by omega) l;exact⟨⟨j+1,by omega,by go_num,rfl,by rw[hs.1],hs.2⟩,by simp[intOf];omega⟩
  all_goals go_ret
  ·exact⟨by rw[zw6 k xs j ‹_› (by omega)];rfl,rfl⟩
  ·exact⟨by rw[zw6 k xs j ‹_› (by omega)];rfl,rfl⟩
  have e:xs.take j=xs:=List.take_of_length_le (by omega);rw[e]at l ⊢;exact⟨by rw[zqo k xs l];rfl,rfl⟩
theorem put1(k a:Int)(b j:Nat)(w:World)(m:0<=k)(l:k<=15)(h0:w.cell? ⟨b,j,.none⟩=some (.int .i64 a)):
  Calls Tryz.prog 92 #[k,.slice (some ⟨b,j,.none⟩) 1 1] w fun e w'=>e= .returned (.int .u64 (putV k [a]))/\w'=w:=
 zua k [a] b j w m l (by simp) (fun i hi=>by
  match i,hi with
  |0,_=>exact h0)
theorem put2(k a c:Int)(b j:Nat)(w:World)(m:0<=k)(l:k<=15)(h0:w.cell? ⟨b,j,.none⟩=some (.int .i64 a))(h1:w.cell? ⟨b,j+1,.none⟩=some (.int .i64 c)):
  Calls Tryz.prog 92 #[k,.slice (some ⟨b,j,.none⟩) 2 2] w fun e w'=>e= .returned (.int .u64 (putV k [a,c]))/\w'=w:=
 zua k [a,c] b j w m l (by simp) (fun i hi=>by
  match i,hi with
  |0,_=>exact h0
  |1,_=>exact h1)
theorem put3(k a c d:Int)(b j:Nat)(w:World)(m:0<=k)(l:k<=15)(h0:w.cell? ⟨b,j,.none⟩=some (.int .i64 a))(h1:w.cell? ⟨b,j+1,.none⟩=some (.int .i64 c))(h2:w.cell? ⟨b,j+2,.none⟩=some (.int .i64 d)):
  Calls Tryz.prog 92 #[k,.slice (some ⟨b,j,.none⟩) 3 3] w fun e w'=>e= .returned (.int .u64 (putV k [a,c,d]))/\w'=w:=
 zua k [a,c,d] b j w m l (by simp) (fun i hi=>by
  match i,hi with
  |0,_=>exact h0
  |1,_=>exact h1
  |2,_=>exact h2)
theorem zcd(k a b:Int)(w:World):
  Calls Tryz.prog 93 #[.agg #[k,a,b]] w fun e w'=>e= .returned (.int .u64 (zb8 k a b))/\Below w.heap.size w w':=by
 go_in;go_wp2_with (go_at_call 92;refine(put2 _ a b _ _ _ (by omega) (by omega) (by go_simp) (by go_simp)).mono ?_;rintro e w' ⟨rfl,rfl⟩);all_goals go_ret
 all_goals refine⟨zf5 ?_,by go_grown⟩
 all_goals simp_all [zb8,zfm]
 all_goals omega
theorem zbl(k a:Int)(w:World):
  Calls Tryz.prog 110 #[.agg #[k,a]] w fun e w'=>e= .returned (.int .u64 (zc3 k a))/\Below w.heap.size w w':=by
 go_in;go_wp2_with (go_at_call 92;refine(put1 _ a _ _ _ (by omega) (by omega) (by go_simp)).mono ?_;rintro e w' ⟨rfl,rfl⟩);all_goals go_ret
 all_goals refine⟨zf5 ?_,by go_grown⟩
 all_goals simp_all [zc3,zgy]
 all_goals omega
theorem zes(a b c:Int)(w:World):
  Calls Tryz.prog 111 #[.agg #[a,b,c]] w fun e w'=>e= .returned (.int .u64 (putV 1 [a,b,c]))/\Below w.heap.size w w':=by
 go_in;go_wp2_with (go_at_call 92;refine(put3 _ a b c _ _ _ (by omega) (by omega) (by go_simp) (by go_simp) (by go_simp)).mono ?_;rintro e w' ⟨rfl,rfl⟩);all_goals go_ret
 all_goals exact⟨rfl,by go_grown⟩
theorem zgn(k a:Int)(w:World):
  Calls Tryz.prog 59 #[k,a] w fun e w'=>e= .returned (.int .u64 (za8 k a))/\Below w.heap.size w w':=by
 go_in;go_wp2_with (go_at_call 92;refine(put1 _ a _ _ _ (by omega) (by omega) (by go_simp)).mono ?_;rintro e w' ⟨rfl,rfl⟩);all_goals go_ret
 all_goals refine⟨zf5 ?_,by go_grown⟩
 all_goals simp_all [za8,zho]
 all_goals omega
end

section

open Go.RowKit Go.ChangeShapes Go.WideShapes Go.ChangeAt

theorem zll{b:Type}(f:b->List Value)(sz:Nat)(i:∀ a,(f a).length=sz)(xs:List b):(xs.flatMap f).length=xs.length*sz:=by
 induction xs with
 |nil=>simp
 |cons x xs j=>rw[List.flatMap_cons,List.length_append,i,j,List.length_cons,Nat.add_mul,Nat.one_mul,Nat.add_comm]
theorem zsm{l:Type}(f:l->List Value)(sz:Nat)(b:∀ a,(f a).length=sz)(xs:List l)(i j:Nat)(hi:i<xs.length)(n:j<sz):(xs.flatMap f)[i*sz+j]?=(f xs[i])[j]?:=by
 induction xs generalizing i with
 |nil=>simp at hi
 |cons x xs m=>
  rw[List.flatMap_cons]
  cases i with
  |zero=>rw[List.getElem?_append_left (by rw[b];omega)];simp
  |succ i=>
   rw[List.getElem?_append_right (by rw[b,Nat.add_mul,Nat.one_mul];omega),b,show (i+1)*sz+j-sz=i*sz+j from by rw[Nat.add_mul,Nat.one_mul];omega]
   simpa using m i (by simpa using hi)
section

variable {H:Type} {enc:TypeId × Value->H} {P:Program} {w:World}

theorem open_list{z:Type}(f:z->List Value)(m:z->Prop){t e:TypeId}{v:Value}{sz:Nat}(F:P.underlying t=some (.slice e))(ce:P.cellsOf e=sz)(o:0<sz)(J:∀ a,(f a).length=sz)
  (G:∀ es,es.length=sz->Rd enc P w e es->∃ a,f a=es/\m a) {r:Reach} {N:Nat} {d:DataW H} {ps:List MemPlace} (S:Value.okWide P w r N t v) (h0:DataW.Trod enc P w 0 (fun _=>true) true t v d ps):
  ∃ xs:List z,RdS w sz v xs.length (xs.flatMap f)/\∀ a ∈ xs,m a:=by
 obtain⟨a0,len,cap,rfl⟩:=okWide_slice F S;have h:=zom h0;by_cases L:len=0
 ·subst L;refine⟨[],?_,fun a C=>by cases C⟩;have n:cap<=maxLen:=by
   rcases zxe F h with h0|⟨a,M,I,h0,h1,h2,h3⟩
   ·simp[Value.cells]at h0;omega
   simp[Value.cells]at h0;obtain⟨rfl,_,rfl⟩:=h0;exact h2
  exact⟨a0,cap,rfl,Nat.zero_le _,by simp only[maxLen]at n;omega,by simp,fun h=>absurd rfl h⟩
 obtain⟨b,p,rfl,hb,n,q,D⟩:=z2c F ce o h L;have key:∀ i:Fin len,∃ a,m a/\∀ j,j<sz->w.cell? ⟨b,p+i*sz+j,.none⟩=(f a)[j]?:=fun i=>by obtain⟨es,h1,h2,h3⟩:=D i (by have:=i.2;omega);obtain⟨a,rfl,R⟩:=G es h1 h2;exact⟨a,R,h3⟩
 let xs:List z:=List.ofFn fun i:Fin len=>Classical.choose (key i);have l:xs.length=len:=List.length_ofFn;have y:∀ i (hi:i<xs.length),xs[i]=Classical.choose (key ⟨i,l ▸ hi⟩):=fun i hi=>List.getElem_ofFn _;refine⟨xs,?_,fun a C=>?_⟩
 ·rw[l];refine⟨_,cap,rfl,n,by simp only[maxLen]at q;omega,by rw[zll f sz J,l],fun _=>⟨b,p,rfl,hb,fun i hi=>?_⟩⟩;have h1:i/sz<xs.length:=by rw[l];exact Nat.div_lt_of_lt_mul (by rw[Nat.mul_comm];exact hi)
  have h2:=(Classical.choose_spec (key ⟨i/sz,l ▸ h1⟩)).2 (i%sz) (Nat.mod_lt _ o);have h3:=zsm f sz J xs (i/sz) (i%sz) h1 (Nat.mod_lt _ o);rw[<-y _ h1,<- h3]at h2;have O:i/sz*sz+i%sz=i:=by rw[Nat.mul_comm];exact Nat.div_add_mod i sz
  have h4:w.cell? ⟨b,p+i/sz*sz+i%sz,.none⟩=(xs.flatMap f)[i/sz*sz+i%sz]?:=h2;rw[Nat.add_assoc,O]at h4;exact h4
 obtain⟨i,hi,rfl⟩:=List.getElem_of_mem C;rw[y i hi];exact(Classical.choose_spec (key ⟨i,l ▸ hi⟩)).1
def RdZ (k:IntKind) (w:World) (v:Value) (zs:List Int):Prop:=RdS w 1 v zs.length (zs.map (.int k))
def RdBo (w:World) (v:Value) (l:List Bool):Prop:=RdS w 1 v l.length (l.map .bool)
end

theorem RdZ.cells{k:IntKind}{w:World}{v:Value}{zs:List Int}(h:RdZ k w v zs):∃ ao cap,v= .slice ao zs.length cap/\zs.length<=cap/\(cap:Int)<=9223372036854775807/\
  (zs≠ []->∃ b f,ao=some ⟨b,f,.none⟩/\b<w.heap.size/\∀ i (hi:i<zs.length),w.cell? ⟨b,f+i,.none⟩=some (.int k zs[i])):=by
 obtain⟨ao,cap,e,h1,h2,_,h4⟩:=h;refine⟨ao,cap,e,h1,h2,fun m=>?_⟩;obtain⟨b,f,l,j,hc⟩:=h4 (fun h=>m (List.eq_nil_of_length_eq_zero h));refine⟨b,f,l,j,fun i hi=>(hc i (by omega)).trans ?_⟩;simp[hi]
theorem RdBo.cells{w:World}{v:Value}{zs:List Bool}(h:RdBo w v zs):∃ ao cap,v= .slice ao zs.length cap/\zs.length<=cap/\(cap:Int)<=9223372036854775807/\
  (zs≠ []->∃ b f,ao=some ⟨b,f,.none⟩/\b<w.heap.size/\∀ i (hi:i<zs.length),w.cell? ⟨b,f+i,.none⟩=some (.bool zs[i])):=by
 obtain⟨ao,cap,e,h1,h2,_,h4⟩:=h;refine⟨ao,cap,e,h1,h2,fun m=>?_⟩;obtain⟨b,f,l,j,hc⟩:=h4 (fun h=>m (List.eq_nil_of_length_eq_zero h));refine⟨b,f,l,j,fun i hi=>(hc i (by omega)).trans ?_⟩;simp[hi]
theorem RdZ.below{k:IntKind}{w w':World}{v:Value}{zs:List Int}(h:RdZ k w v zs)(hb:Below w.heap.size w w'):RdZ k w' v zs:=RdS.below h hb
theorem RdBo.below{w w':World}{v:Value}{zs:List Bool}(h:RdBo w v zs)(hb:Below w.heap.size w w'):RdBo w' v zs:=RdS.below h hb
end

section

open Go.RowKit

def RdE (w:World) (v:Value) (es:List Ev):Prop:=RdS w 8 v es.length (es.flatMap fun e=> e.cells.toList)
theorem z0f(e:Ev):e.cells.toList.length=8:=rfl
theorem RdE.below{w w':World}{v:Value}{es:List Ev}(h:RdE w v es)(hb:Below w.heap.size w w'):RdE w' v es:=RdS.below h hb
theorem RdE.nth{w:World}{v:Value}{es:List Ev}(h:RdE w v es):∃ ao cap,v= .slice ao es.length cap/\es.length<=cap/\(cap:Int)<=9223372036854775807/\
  (es≠ []->∃ b f,ao=some ⟨b,f,.none⟩/\b<w.heap.size/\∀ i (hi:i<es.length) j,j<8->w.cell? ⟨b,f+i*8+j,.none⟩=(es[i]).cells.toList[j]?):=by
 obtain⟨ao,cap,e,h1,h2,h3,h4⟩:=h;refine⟨ao,cap,e,h1,h2,fun p=>?_⟩;obtain⟨b,f,l,m,n⟩:=h4 (fun e=>p (List.eq_nil_of_length_eq_zero e));refine⟨b,f,l,m,fun i hi j o=>?_⟩;rw[Nat.add_assoc,n _ (by omega)];exact zsm (fun e:Ev=>e.cells.toList) 8 z0f es i j hi o
theorem RdE.take{w:World}{ao:Option Addr}{cap:Nat}{es:List Ev}(h:RdE w (.slice ao es.length cap) es)(n:Nat)(f:n<=es.length):RdE w (cutV ao 0 n cap 8) (es.take n):=by
 have hc:=RdS.cut (l:=0) (h:=n) h (Nat.zero_le _) f;unfold RdE;have b:(es.take n).length=n:=by rw[List.length_take];omega
 rw[b];have e:(es.take n).flatMap (fun e=>e.cells.toList)=((es.flatMap fun e=>e.cells.toList).drop (0*8)).take ((n-0)*8):=by
  rw[Nat.zero_mul,List.drop_zero,Nat.sub_zero];have h2:es.flatMap (fun e=>e.cells.toList)=(es.take n).flatMap (fun e=>e.cells.toList)++(es.drop n).flatMap (fun e=>e.cells.toList):=by rw[<-List.flatMap_append,List.take_append_drop]
  have h3:((es.take n).flatMap (fun e=>e.cells.toList)).length=n*8:=by rw[zll _ 8 z0f,b]
  rw[h2,<- h3,List.take_left]
 rw[e];simpa using hc
structure Fr where
 code:Int
 pc:Int
 regs:List Int
 deriving DecidableEq
def Fr.cells (f:Fr):List Value:= .int .i64 f.code:: .int .i64 f.pc::f.regs.map (.int .i64)
def flat (fs:List Fr):List Value:=fs.flatMap Fr.cells
def zj6 (fs:List Fr):Prop:=∀ f ∈ fs,f.regs.length=8
theorem znb{fs:List Fr}(h:zj6 fs):(flat fs).length=fs.length*10:=by
 induction fs with
 |nil=>rfl;|cons f fs i=>have h1:=h f (by simp);have h2:=i (fun g b=>h g (by simp[b]));simp only[flat,List.flatMap_cons,List.length_append]at h2 ⊢;simp only[Fr.cells,List.length_cons,List.length_map,h1,h2];omega
theorem zja(fs:List Fr)(f:Fr):flat (fs++[f])=flat fs++f.cells:=by simp[flat]
theorem flat_get{fs:List Fr}(h:zj6 fs)(i j:Nat)(hi:i<fs.length)(n:j<10):(flat fs)[i*10+j]?=(fs[i].cells)[j]?:=by
 induction fs generalizing i with
 |nil=>simp at hi
 |cons f fs m=>
  have h1:=h f (by simp)
  have l:f.cells.length=10:=by simp[Fr.cells,h1]
  have h2:zj6 fs:=fun g b=>h g (by simp[b])
  show (f.cells++flat fs)[i*10+j]?=_
  cases i with
  |zero=>rw[List.getElem?_append_left (by omega)];simp
  |succ i=>
   rw[List.getElem?_append_right (by omega),l,show (i+1)*10+j-10=i*10+j from by omega]
   simpa using m h2 i (by simpa using hi)
structure Stk (T E:TypeId) (B:Nat) (w:World) (s:Nat) (sl:Value) (most:Int) (fs:List Fr):Prop where
 lies:B<=s
 head:w.heap[s]?=some (.cells #[sl,most] T (0,0))
 owns:w.ownsRow B E 10 sl fs.length (flat fs)
 apart:sl.ownBlock≠some s
 regs:zj6 fs
def zrq:Value:= .agg #[.int .i64 0,.int .i64 0,.int .i64 0,.int .i64 0,.int .i64 0,.int .i64 0,.int .i64 0,.int .i64 0,.int .i64 0,.int .i64 0]
def ydh:Fr:=⟨0,0, [0,0,0,0,0,0,0,0]⟩
def zn7 (fs:List Fr):Fr:=fs.getLast?.getD ydh
def Fr.put (f:Fr) (j:Nat) (x:Int):Fr:=if j=0 then { f with code:=x } else if j=1 then { f with pc:=x } else { f with regs:=f.regs.set (j - 2) x }
theorem Fr.z2m(f:Fr)(j:Nat)(x:Int):(f.put j x).cells=f.cells.set j (.int .i64 x):=by
 unfold Fr.put;match j with
 |0=>simp[Fr.cells]
 |1=>simp[Fr.cells]
 |j+2=>simp[Fr.cells,List.map_set]
theorem Fr.z5d(f:Fr)(j:Nat)(x:Int):(f.put j x).regs.length=f.regs.length:=by
 unfold Fr.put;split
 ·rfl
 split<;>simp
def zhx (fs:List Fr) (j:Nat) (x:Int):List Fr:=fs.dropLast ++ [(zn7 fs).put j x]
theorem zod{fs:List Fr}(h:fs.length≠0)(j:Nat)(x:Int):(zhx fs j x).length=fs.length:=by simp[zhx];omega
theorem zx2{fs:List Fr}(h:fs.length≠0):fs=fs.dropLast++[zn7 fs]:=by
 have b:fs≠ []:=fun e=>h (by simp[e]);have:zn7 fs=fs.getLast b:=by simp[zn7,List.getLast?_eq_some_getLast b]
 rw[this];exact(List.dropLast_concat_getLast b).symm
section

variable {T E:TypeId} {B:Nat} {w w':World} {s:Nat} {sl:Value} {most:Int} {fs:List Fr}

theorem Stk.lt(h:Stk T E B w s sl most fs):s<w.heap.size:=(Array.getElem?_eq_some_iff.1 h.head).1
theorem Stk.zem(h:Stk T E B w s sl most fs):∀ k,sl.ownBlock=some k->B<=k/\k<w.heap.size:=h.owns.lt
theorem Stk.cell0(h:Stk T E B w s sl most fs):w.cell? ⟨s,0,.none⟩=some sl:=by simpa using cell_of_row w s 0 _ T (0,0) h.head
theorem Stk.cell1(h:Stk T E B w s sl most fs):w.cell? ⟨s,1,.none⟩=some (.int .i64 most):=by simpa using cell_of_row w s 1 _ T (0,0) h.head
theorem Stk.blocks(h:Stk T E B w s sl most fs)(hb:∀ k,foot s sl k->w'.heap[k]?=w.heap[k]?):Stk T E B w' s sl most fs:=
 ⟨h.lies,by rw[hb s (.inl rfl)];exact h.head,zas h.owns (fun k b=>hb k (.inr b)),h.apart,h.regs⟩
theorem Stk.below(h:Stk T E B w s sl most fs)(hb:Below w.heap.size w w'):Stk T E B w' s sl most fs:=
 h.blocks fun k b=>hb.block k (by rcases b with rfl|b;exact h.lt;exact(h.zem k b).2)
theorem Stk.form(h:Stk T E B w s sl most fs):(sl= .slice none 0 0/\fs= [])\/∃ g cap,sl= .slice (some ⟨g,0,.none⟩) fs.length cap/\fs.length<=cap/\g<w.heap.size/\g≠s/\B<=g/\(fs.length:Int)<=9223372036854775807/\
  ∀ i j,(hi:i<fs.length)->j<10->w.cell? ⟨g,i*10+j,.none⟩=(fs[i].cells)[j]?:=by
 rcases h.owns.2 with⟨h1,h2⟩|⟨g,cap,b,rfl,h1,h2,h3,h4,m,f⟩
 ·exact .inl ⟨h1,List.eq_nil_of_length_eq_zero h2⟩
 refine .inr ⟨g,cap,rfl,h3,(Array.getElem?_eq_some_iff.1 h2).1,fun e=>h.apart (by rw[e];rfl),h1,by simp only[maxLen]at h4;omega,fun i j hi l=>?_⟩;rw[cell_of_row w g _ b E (0,0) h2,<- flat_get h.regs i j hi l,<- f,List.getElem?_take,if_pos (by omega)];simp
theorem Only.stk{F:Nat->Prop}(i:Only F w w')(h:Stk T E B w s sl most fs)(f:∀ k,foot s sl k->¬ F k):Stk T E B w' s sl most fs:=
 h.blocks fun k b=>i.block k (by rcases b with rfl|b;exact h.lt;exact(h.zem k b).2) (f k b)
theorem zve{g cap j:Nat}{x:Int}(h:Stk T E B w s (.slice (some ⟨g,0,.none⟩) fs.length cap) most fs)(h0:fs.length≠0)(M:j<10):
  Stk T E B (w.setCell ⟨g,(fs.length-1)*10+j,.none⟩ (.int .i64 x)) s (.slice (some ⟨g,0,.none⟩) fs.length cap) most (zhx fs j x):=by
 obtain⟨h1,h2,h3,h4,q⟩:=h;have r:s≠g:=fun e=>h4 (by rw[e];rfl);have e:=zx2 h0;have i:zj6 (zhx fs j x):=by
  intro f l;rcases List.mem_append.1 l with l|l
  ·exact q f (List.dropLast_subset _ l)
  rw[List.mem_singleton.1 l,Fr.z5d];have z:zn7 fs ∈ fs.dropLast++[zn7 fs]:=by simp
  rw[<-e]at z;exact q _ z
 have t:zj6 fs.dropLast:=fun f l=>q f (List.dropLast_subset _ l);have y:=znb t;rw[List.length_dropLast]at y;have m:flat (zhx fs j x)=(flat fs).set ((fs.length-1)*10+j) (.int .i64 x):=by
  have D:flat fs=flat fs.dropLast++(zn7 fs).cells:=by rw[<-zja,<- e]
  rw[zhx,zja,Fr.z2m,D,List.set_append_right _ _ (by omega),y];congr 2;omega
 refine⟨h1,by rw[heap_setCell_other _ _ _ _ r];exact h2,⟨by rw[znb i],.inr ?_⟩,h4,i⟩;rcases h3.2 with⟨h,_⟩|⟨C,n,p,F,k1,G,N,I,J,L⟩
 ·cases h
 obtain⟨rfl,rfl⟩:g=C/\cap=n:=by injection F with a _ b;injection a with a;injection a with a;exact⟨a,b⟩
 have o:=zod h0 j x;refine⟨g,cap,_,by rw[o],k1,heap_setCell_same w g _ p E _ G,by omega,I,by simpa using J,?_⟩;rw[o,m,<- L,Array.toList_setIfInBounds,List.take_set]
end

end

section

open Go.RowKit

abbrev SK:=Stk 165 168
theorem zxv(m:Int)(w:World):
  Calls Tryz.prog 79 #[m] w fun e w'=>e= .returned (.pointer (some ⟨w.heap.size,0,.none⟩))/\w'=w.alloc (.cells #[.slice none 0 0,.int .i64 (if m<0\/16<m then 0 else m)] 165):=by
 go_in;go_wp2;all_goals go_ret
 all_goals exact⟨rfl,rfl⟩
theorem zft{B:Nat}{w:World}{s:Nat}{sl:Value}{most:Int}{fs:List Fr}(h:SK B w s sl most fs):
  Calls Tryz.prog 60 #[some s] w fun e w'=>e= .returned (.int .i64 fs.length)/\w'=w:=by
 have c0:=h.cell0;have b:=h.form;rcases b with⟨rfl,rfl⟩|⟨g,cap,rfl,i,m,j,l,n,hc⟩
 ·clear h;go_in;go_wp2;all_goals go_ret
  all_goals exact⟨rfl,rfl⟩
 clear h hc;go_in;go_wp2;all_goals go_ret
 all_goals exact⟨rfl,rfl⟩
def znp (sl:Value) (n:Nat):Option Addr:=match sl with
 | .slice (some a) _ _=> if n=0 then none else some ⟨a.block,(n - 1) * 10,.none⟩
 | _=> none
theorem zx5{B:Nat}{w:World}{s:Nat}{sl:Value}{most:Int}{fs:List Fr}(h:SK B w s sl most fs):
  Calls Tryz.prog 101 #[some s] w fun e w'=>e= .returned (.pointer (znp sl fs.length))/\∃ n,w'=w.drewN n:=by
 have c0:=h.cell0;have b:=h.form;rcases b with⟨rfl,rfl⟩|⟨g,cap,rfl,i,p,l,o,q,hc⟩
 ·go_in;go_wp2_with (go_at_call 60;refine(zft h).mono ?_;rintro e j ⟨rfl,rfl⟩);all_goals go_ret
  all_goals exact⟨rfl,0,rfl⟩
 by_cases h0:fs.length=0
 ·have m:((fs.length:Int)==0)=true:=by simp[h0]
  go_in;go_wp2_with (go_at_call 60;refine(zft h).mono ?_;rintro e j ⟨rfl,rfl⟩);all_goals go_ret
  all_goals exact⟨by rw[znp,if_pos h0];rfl,0,rfl⟩
 have m:((fs.length:Int)==0)=false:=by simpa using h0
 have r:(1:Int)<=(fs.length:Int):=by omega
 go_in;go_wp2_with (go_at_call 60;refine(zft h).mono ?_;rintro e j ⟨rfl,rfl⟩);go_quiet (fail);go_wp2;all_goals go_ret
 exact⟨by rw[znp,if_neg h0];rfl,nq,rfl⟩
theorem zy6{B:Nat}{w:World}{s:Nat}{sl:Value}{most:Int}{fs:List Fr}(h:SK B w s sl most fs)(h0:fs.length≠0):
  ∃ g cap code pc r0 l m n o p q r,sl= .slice (some ⟨g,0,.none⟩) fs.length cap/\znp sl fs.length=some ⟨g,(fs.length-1)*10,.none⟩/\g<w.heap.size/\g≠s/\B<=g/\zn7 fs=⟨code,pc, [r0,l,m,n,o,p,q,r]⟩/\
   w.cell? ⟨g,(fs.length-1)*10,.none⟩=some (.int .i64 code)/\w.cell? ⟨g,(fs.length-1)*10+1,.none⟩=some (.int .i64 pc)/\
   w.cell? ⟨g,(fs.length-1)*10+2,.none⟩=some (.int .i64 r0)/\w.cell? ⟨g,(fs.length-1)*10+3,.none⟩=some (.int .i64 l)/\
   w.cell? ⟨g,(fs.length-1)*10+4,.none⟩=some (.int .i64 m)/\w.cell? ⟨g,(fs.length-1)*10+5,.none⟩=some (.int .i64 n)/\
   w.cell? ⟨g,(fs.length-1)*10+6,.none⟩=some (.int .i64 o)/\w.cell? ⟨g,(fs.length-1)*10+7,.none⟩=some (.int .i64 p)/\
   w.cell? ⟨g,(fs.length-1)*10+8,.none⟩=some (.int .i64 q)/\w.cell? ⟨g,(fs.length-1)*10+9,.none⟩=some (.int .i64 r)/\fs.length<=cap/\(fs.length:Int)<=9223372036854775807:=by
 rcases h.form with⟨rfl,rfl⟩|⟨g,cap,rfl,i,F,t,C,G,hc⟩
 ·simp at h0
 have y:fs.length-1<fs.length:=by omega
 have z:=h.regs _ (List.getElem_mem y);have I:zn7 fs=fs[fs.length-1]:=by simp[zn7,List.getLast?_eq_getElem?,y]
 rw[I];generalize D:fs[fs.length-1]=f at z;have b:=fun j=>hc (fs.length-1) j y;rw[D]at b;obtain⟨code,pc,regs⟩:=f;match regs,z with
 | [r0,l,m,n,o,p,q,r],_=>exact⟨g,cap,code,pc,r0,l,m,n,o,p,q,r,rfl,by rw[znp,if_neg h0],F,t,C,rfl,b 0 (by omega),b 1 (by omega),b 2 (by omega),b 3 (by omega),b 4 (by omega),b 5 (by omega),b 6 (by omega),b 7 (by omega),b 8 (by omega),b 9 (by omega),i,G⟩
theorem zhj{w:World}{b:Nat}{cs:Array Value}{t:TypeId}(h:w.heap[b]?=some (.cells cs t (0,0)))(i:Nat):w.frozen? ⟨b,i,.none⟩=false:=by
 simp[World.frozen?,h]
theorem zqq{B:Nat}{w:World}{s:Nat}{g cap n:Nat}{most:Int}{fs:List Fr}(h:SK B w s (.slice (some ⟨g,0,.none⟩) n cap) most fs)(_h0:fs.length≠0)(i:Nat):w.frozen? ⟨g,i,.none⟩=false:=by
 rcases h.owns.2 with⟨h1,_⟩|⟨l,f,j,m,k1,o,_⟩
 ·cases h1
 obtain rfl:g=l:=by injection m with a _ b;injection a with a;injection a with a
 exact zhj o i
theorem zz4{B:Nat}{w:World}{s:Nat}{sl:Value}{most pc':Int}{fs:List Fr}(h:SK B w s sl most fs)(h0:fs.length≠0):
  Calls Tryz.prog 82 #[some s,pc'] w fun e w'=>e= .returned (.bool true)/\Only (foot s sl) w w'/\SK B w' s sl most (zhx fs 1 pc'):=by
 obtain⟨g,cap,code,pc,r0,r,t,y,z,C,D,F,rfl,i,o,l,n,q,_,c1,_,_,_,_,_,_,_,_,j,p⟩:=zy6 h h0;have b:=zx5 h;rw[i]at b;have m:=zqq h h0;clear i;go_in;go_wp2_with (go_at_call 101;refine b.mono ?_;rintro e G ⟨rfl,nq,rfl⟩);go_ret;exact⟨rfl,Only.setCell (Only.drewN (Only.refl _ _) nq) (.inl (.inr rfl)) _,(zve h h0 (by decide)).blocks fun k _=>rfl⟩
theorem zq6{B:Nat}{w:World}{s:Nat}{sl:Value}{most:Int}{fs:List Fr}(h:SK B w s sl most fs):
  Calls Tryz.prog 87 #[some s] w fun e w'=>e= .returned (.tuple #[])/\Only (foot s sl) w w'/\SK B w' s (.slice none 0 0) most []:=by
 have i:=h.cell0;have j:=zhj h.head;go_in;go_wp2;go_end0;refine⟨rfl,Only.setCell (Only.refl _ _) (.inl (.inl rfl)) _,h.lies,?_,World.ownsRow_nil _ _ _ _,by simp[Value.ownBlock],fun f b=>by cases b⟩;rw[heap_setCell_same w s 0 _ _ _ h.head];rfl
theorem z0j:(Tryz.prog.info? 168).map (fun i=>(i.zero,i.size,i.bytes))=some (some zrq,10,80):=by kernel_rfl
theorem z3g{T E:TypeId}{B:Nat}{w Y:World}{s:Nat}{sl:Value}{most:Int}{fs:List Fr}(h:Stk T E B w s sl most fs)(hb:Below w.heap.size w Y):Y.ownsRow B E 10 sl fs.length (flat fs):=
 zas h.owns fun k b=>hb.block k (h.zem k b).2
def padded (zs:List Int):List Int:=zs ++ List.replicate (8 - zs.length) 0
theorem zj4{zs:List Int}(h:zs.length<=8):(padded zs).length=8:=by simp[padded];omega
theorem zqx(code:Int){zs:List Int}(h:zs.length<=8):splice [.int .i64 code,.int .i64 0,.int .i64 0,.int .i64 0,.int .i64 0,.int .i64 0,.int .i64 0,.int .i64 0,.int .i64 0,.int .i64 0] 2 (zs.map (.int .i64))=(Fr.mk code 0 (padded zs)).cells:=by
 match zs,h with
 | [],_=>rfl
 | [_],_=>rfl
 | [_,_],_=>rfl
 | [_,_,_],_=>rfl
 | [_,_,_,_],_=>rfl
 | [_,_,_,_,_],_=>rfl
 | [_,_,_,_,_,_],_=>rfl
 | [_,_,_,_,_,_,_],_=>rfl
 | [_,_,_,_,_,_,_,_],_=>rfl
theorem ygr{l:List Int}(h:l.length=8):∃ a b c d e f g i,l= [a,b,c,d,e,f,g,i]:=by
 match l,h with
 | [a,b,c,d,e,f,g,i],_=>exact⟨a,b,c,d,e,f,g,i,rfl⟩
theorem zu5{fs:List Fr}{f:Fr}(h:zj6 fs)(i:f.regs.length=8):zj6 (fs++[f]):=by
 intro x b;rcases List.mem_append.1 b with b|b
 ·exact h x b
 rw[List.mem_singleton.1 b];exact i
theorem z0y{T E:TypeId}{B s g b K H:Nat}{w p Y i:World}{sl:Value}{most:Int}{fs:List Fr}{f:Fr}(h2:Stk T E B p s sl most fs)
  (n:i.ownsRow B E 10 (.slice (some ⟨g,0,.none⟩) (fs.length+1) b) (fs.length+1) (flat fs++f.cells)) (y:Y.grownBy i sl.ownBlock) (q:Below p.heap.size p Y)
  (C:Only (foot s sl) w p) (j:sl.ownBlock=some g\/g=K) (t:sl.ownBlock=some g\/g=K->sl.ownBlock=some g\/(H<=g/\p.heap.size<=g)) (D:zj6 (fs++[f])):
  Only (foot s sl) w (i.setCell ⟨s,0,.none⟩ (.slice (some ⟨g,0,.none⟩) (fs.length+1) b))/\∃ o,(∀ k,o.ownBlock=some k->sl.ownBlock=some k\/H<=k)/\
   Stk T E B (i.setCell ⟨s,0,.none⟩ (.slice (some ⟨g,0,.none⟩) (fs.length+1) b)) s o most (fs++[f]):=by
 have hs:=h2.lt;have r:some s≠sl.ownBlock:=fun e=>h2.apart e.symm;have z:i.heap[s]?=some (.cells #[sl,most] T (0,0)):=(y.block s (by have:=q.size;omega) r).trans ((q.block s hs).trans h2.head);have l:g≠s:=by
  rcases t j with h|⟨_,h⟩
  ·intro e;exact h2.apart (by rw[h,e])
  omega
 refine⟨Only.setCell (Only.grown (C.trans (Only.of_below (F:=fun _=>False) q) fun _ _ h=>h.elim) y fun k m=>.inl (.inr m)) (.inl (.inl rfl)) _,.slice (some ⟨g,0,.none⟩) (fs.length+1) b,?_,h2.lies,?_,?_,?_,D⟩
 ·intro k m;obtain rfl:g=k:=by injection m
  rcases t j with h|h
  ·exact .inl h
  exact .inr h.1
 ·rw[heap_setCell_same i s 0 _ T _ z];rfl
 ·have e:(fs++[f]).length=fs.length+1:=by simp
  rw[e,zja];exact zas n fun k m=>by
   obtain rfl:g=k:=by injection m
   exact heap_setCell_other _ _ _ _ l
 intro e;exact l (by injection e)
theorem zt0{B:Nat}{w:World}{s:Nat}{sl:Value}{most code:Int}{fs:List Fr}{ao:Option Addr}{zs:List Int}{cap:Nat}(h:SK B w s sl most fs)(h1:fs.length<most)(hz:zs.length<=8)(hB:B<=w.heap.size)(hm:most<=100000)
  (hc:∀ a,ao=some a->∀ j v,(zs.map (Value.int .i64))[j]?=some v->w.cell? (a.add j)=some v) (hn:ao=none->zs= []):
  Calls Tryz.prog 54 #[some s,code,.slice ao zs.length cap] w fun e w'=>e= .returned (.bool true)/\Only (foot s sl) w w'/\
   ∃ m,(∀ k,m.ownBlock=some k->sl.ownBlock=some k\/w.heap.size<=k)/\SK B w' s m most (fs++[⟨code,0,padded zs⟩]):=by
 have c0:=h.cell0;have c1:=h.cell1;have b8:∃ a c,sl= .slice a fs.length c:=by
  rcases h.form with⟨rfl,rfl⟩|⟨g,cap,rfl,_⟩
  ·exact⟨_,_,rfl⟩
  exact⟨_,_,rfl⟩
 obtain⟨a,c,rfl⟩:=b8;have h3:decide (most<=(fs.length:Int))=false:=by simp;omega
 have h4:decide ((8:Int)<(zs.length:Int))=false:=by simp;omega
 go_in;go_wp2_with fail;go_quiet (fail);have N:SK B (w.drewN nq) s (.slice a fs.length c) most fs:=h.blocks fun _ _=>rfl;have U:∀ a,ao=some a->∀ j v,(zs.map (Value.int .i64))[j]?=some v->(w.drewN nq).cell? (a.add j)=some v:=hc;have ho:Only (foot s (.slice a fs.length c)) w (w.drewN nq):=Only.drewN (Only.refl _ _) nq;have y:(w.drewN nq).heap.size=w.heap.size:=rfl;generalize w.drewN nq=W at *;clear c0 c1 hc h;have c0:=N.cell0;have bk:=N.lt;go_upto_region 4 with fail;have hu:=Tryz.underlying162;have k1:(W.alloc (.cells #[code,.int .i64 0,.int .i64 0,.int .i64 0,.int .i64 0,.int .i64 0,.int .i64 0,.int .i64 0,.int .i64 0,.int .i64 0] 168)).heap[w.heap.size]?=some (.cells #[code,.int .i64 0,.int .i64 0,.int .i64 0,.int .i64 0,.int .i64 0,.int .i64 0,.int .i64 0,.int .i64 0,.int .i64 0] 168 (0,0)):=by rw[<-y];exact heap_alloc_new W _
 have k2:(zs.map (Value.int .i64)).length=Nat.min zs.length 8:=by rw[List.length_map];exact(Nat.min_eq_left hz).symm
 have k3:0<(zs.map (Value.int .i64)).length->(some (⟨w.heap.size,2,.none⟩:Addr))=some ⟨w.heap.size,2,.none⟩/\∃ ad,ao=some ad/\∀ j v,(zs.map (Value.int .i64))[j]?=some v->(W.alloc (.cells #[code,.int .i64 0,.int .i64 0,.int .i64 0,.int .i64 0,.int .i64 0,.int .i64 0,.int .i64 0,.int .i64 0,.int .i64 0] 168)).cell? (ad.add j)=some v:=by
  intro hp
  refine⟨rfl,?_⟩
  cases ao with
  |none=>rw[hn rfl]at hp;simp at hp
  |some ad=>exact⟨ad,rfl,fun j v hv=>(World.grownBy_alloc W _ none).cell (U ad rfl j v hv) (by simp)⟩
 have k4:2+(zs.map (Value.int .i64)).length<=([Value.int .i64 code,.int .i64 0,.int .i64 0,.int .i64 0,.int .i64 0,.int .i64 0,.int .i64 0,.int .i64 0,.int .i64 0,.int .i64 0]:List Value).length:=by simp;omega
 have k5:∀ v ∈ zs.map (Value.int .i64),v.oneCell'=true:=by intro v hv;obtain⟨x,_,rfl⟩:=List.mem_map.1 hv;rfl
 have k6:Below W.heap.size W (W.alloc (.cells #[code,.int .i64 0,.int .i64 0,.int .i64 0,.int .i64 0,.int .i64 0,.int .i64 0,.int .i64 0,.int .i64 0,.int .i64 0] 168)):=br.alloc lr _;go_wp2_with (refine wpList_copy_splice rfl (.tmp 30) (.tmp 31) 162 162 rfl 2 hu (by kernel_rfl) (some ⟨w.heap.size,2,.none⟩) ao 8 8 zs.length cap rfl rfl w.heap.size 2 [.int .i64 code,.int .i64 0,.int .i64 0,.int .i64 0,.int .i64 0,.int .i64 0,.int .i64 0,.int .i64 0,.int .i64 0,.int .i64 0] 168 k1 (zs.map (.int .i64)) k2 k3 k4 k5 W.heap.size W k6 (Nat.le_of_eq y) ?_;intro q hH S);have o:=hH.out;rw[zqx code hz]at o;obtain⟨z,C,D,G,I,J,L,M,he⟩:=ygr (zj4 hz);rw[he]at o;have hh:=fun i=>cell_of_row q w.heap.size i _ _ (0,0) o;simp only[Fr.cells,List.map_cons,List.map_nil]at hh o;have h2:=N.below S;have b4:=ho.trans (Only.of_below (F:=fun _=>False) S) (fun _ _ h=>h.elim);have bm:s≠w.heap.size:=by omega
 have bj:W.heap.size<q.heap.size:=(Array.getElem?_eq_some_iff.1 (y ▸ o)).1;clear k1 k2 k3 k4 k5 k6 hH U hn ho hu;have ba:=Tryz.underlying163;obtain⟨i0,hi,bb,bc,bf⟩:=info_parts z0j;have c2:=h2.cell0;have b0:=zhj h2.head 0;have bi:=h2.zem;have b5:=N.zem;have Y:some s≠(Value.slice a fs.length c).ownBlock:=fun e=>h2.apart e.symm;have b:some w.heap.size≠(Value.slice a fs.length c).ownBlock:=fun e=>by have:=(b5 _ e.symm).2;omega
 have b1:B<=q.heap.size:=by omega
 have b6:s<q.heap.size:=h2.lt;have V:∀ u ∈ ([.int .i64 code,.int .i64 0,.int .i64 z,.int .i64 C,.int .i64 D,.int .i64 G,.int .i64 I,.int .i64 J,.int .i64 L,.int .i64 M]:List Value),u.oneCell'=true:=by intro u hu;simp at hu;rcases hu with rfl|rfl|rfl|rfl|rfl|rfl|rfl|rfl|rfl|rfl<;>rfl
 have b2:(fs.length+1)*80<=140737488355328:=by omega
 have b3:fs.length+1<=maxLen:=by simp only[maxLen];omega
 generalize hH:w.heap.size=H at *;have g0:∀ i,q.cell? ⟨H,i,.none⟩=(#[code,.int .i64 0,z,C,D,G,I,J,L,M]:Array Value)[i]?:=hh;clear hh N h3 h4;have hS:∀ w',Below q.heap.size q w'->w'.cell? ⟨s,0,.none⟩=some (.slice a fs.length c)/\w'.frozen? ⟨s,0,.none⟩=false/\w'.cell? ⟨H,0,.none⟩=some (.int .i64 code)/\w'.cell? ⟨H,1,.none⟩=some (.int .i64 0)/\w'.cell? ⟨H,2,.none⟩=some (.int .i64 z)/\w'.cell? ⟨H,3,.none⟩=some (.int .i64 C)/\w'.cell? ⟨H,4,.none⟩=some (.int .i64 D)/\w'.cell? ⟨H,5,.none⟩=some (.int .i64 G)/\w'.cell? ⟨H,6,.none⟩=some (.int .i64 I)/\w'.cell? ⟨H,7,.none⟩=some (.int .i64 J)/\w'.cell? ⟨H,8,.none⟩=some (.int .i64 L)/\w'.cell? ⟨H,9,.none⟩=some (.int .i64 M):=by intro w' hb;have kk:=zai hb;refine⟨kk _ _ _ c2,(hb.frozen (p:=⟨s,0,.none⟩) b6).trans b0,?_⟩;(repeat' apply And.intro)<;>exact kk _ _ _ (g0 _)
 have O:∀ Z w',Below q.heap.size q Z->Z.grownBy w' (Value.slice a fs.length c).ownBlock->w'.cell? ⟨s,0,.none⟩=some (.slice a fs.length c)/\w'.frozen? ⟨s,0,.none⟩=false/\w'.cell? ⟨H,0,.none⟩=some (.int .i64 code)/\w'.cell? ⟨H,1,.none⟩=some (.int .i64 0)/\w'.cell? ⟨H,2,.none⟩=some (.int .i64 z)/\w'.cell? ⟨H,3,.none⟩=some (.int .i64 C)/\w'.cell? ⟨H,4,.none⟩=some (.int .i64 D)/\w'.cell? ⟨H,5,.none⟩=some (.int .i64 G)/\w'.cell? ⟨H,6,.none⟩=some (.int .i64 I)/\w'.cell? ⟨H,7,.none⟩=some (.int .i64 J)/\w'.cell? ⟨H,8,.none⟩=some (.int .i64 L)/\w'.cell? ⟨H,9,.none⟩=some (.int .i64 M):=by
  intro Z w' hb n;have h:=hS Z hb;have b7:s<Z.heap.size:=by have:=hb.size;omega
  refine⟨n.cell h.1 Y,(World.frozen?_of_block (n.block s b7 Y)).trans h.2.1,?_⟩;obtain⟨_,_,h0,h1,h2,h3,h4,h5,h6,h7,h8,h9⟩:=h;exact⟨n.cell h0 b,n.cell h1 b,n.cell h2 b,n.cell h3 b,n.cell h4 b,n.cell h5 b,n.cell h6 b,n.cell h7 b,n.cell h8 b,n.cell h9 b⟩
 go_cut [] (fun wx=>Only (foot s (.slice a fs.length c)) w wx/\∃ m,(∀ k,m.ownBlock=some k->(Value.slice a fs.length c).ownBlock=some k\/H<=k)/\SK B wx s m most (fs++[⟨code,0,padded zs⟩]));case first=>
  go_region_law
   (first|(refine step_append_lies _ rfl (.tmp 37) (.tmp 39) 163 rfl B 168 i0 zrq 10 80 ba hi bb bc bf rfl (by decide) (.slice a fs.length c) fs.length (flat fs) rfl (z3g h2 (by go_grown)) ⟨q.heap.size,0,.none⟩ 1 1 [.int .i64 code,.int .i64 0,.int .i64 z,.int .i64 C,.int .i64 D,.int .i64 G,.int .i64 I,.int .i64 J,.int .i64 L,.int .i64 M] rfl rfl (World.news_of_block (by exact heap_alloc_new q _)) V (by decide) b3 b2 (Nat.le_trans b1 (Below.size (B:=0) (by go_grown))) _ rfl ?_;intro g bg w3 r l R bh;have q1:=(O _ _ (by go_grown) l).1;have q2:=(O _ _ (by go_grown) l).2.1))
  all_goals go_wp2_with fail
  all_goals go_meet;case rel=>refine z0y h2 (he ▸ r) l ?_ b4 R (fun k=>by rcases k with k|k;exact .inl k;right;rw[k];simp;omega) (zu5 h2.regs (zj4 hz));go_grown
 case rest=>obtain⟨hw,m,X,b9⟩:=hcut;go_wp2_with fail;go_ret;exact⟨rfl,hw,m,by rw[hH];exact X,b9⟩
end

section

structure Bk where
 a:Int
 n:Int
 deriving DecidableEq
def okK (W:Int):Int->List Bk->Prop
 | lo, []=> lo<=W
 | lo,b::l=> lo<=b.a/\1<=b.n/\okK W (b.a + b.n) l
theorem okK.le{W:Int}{l:List Bk}:∀ {lo:Int},okK W lo l->lo<=W:=by
 induction l with
 |nil=>exact fun h=>h
 |cons b l f=>exact fun h=>by have:=f h.2.2;have:=h.1;have:=h.2.1;omega
theorem okK.mono{W:Int}{l:List Bk}{lo f:Int}(h:okK W lo l)(i:f<=lo):okK W f l:=by
 cases l with
 |nil=>exact Int.le_trans i h
 |cons b l=>exact⟨Int.le_trans i h.1,h.2⟩
theorem okK.mem{W:Int}{l:List Bk}:∀ {lo:Int},okK W lo l->∀ b ∈ l,lo<=b.a/\1<=b.n/\b.a+b.n<=W:=by
 induction l with
 |nil=>exact fun _ b hb=>by cases hb
 |cons c l f=>
  intro lo h b hb;rcases List.mem_cons.1 hb with rfl|hb
  ·exact⟨h.1,h.2.1,h.2.2.le⟩
  have:=f h.2.2 b hb;have:=h.1;have:=h.2.1;omega
def posB (at':Int):List Bk->Nat
 | []=> 0
 | b::l=> if b.a < at' then posB at' l + 1 else 0
def zd6 (at':Int) (l:List Bk):Bool:=decide (∃ b,l[posB at' l]?=some b/\b.a=at')
theorem yck(at':Int)(l:List Bk):posB at' l<=l.length:=by
 induction l with
 |nil=>exact Nat.le_refl _
 |cons b l f=>simp only[posB,List.length_cons];split<;>omega
theorem zo8(at':Int)(l:List Bk)(i:Nat)(hi:i<posB at' l)(h:i<l.length):l[i].a<at':=by
 induction l generalizing i with
 |nil=>simp at h;|cons b l f=>
  simp only[posB]at hi;split at hi
  ·rename_i hb;cases i with
   |zero=>exact hb
   |succ i=>exact f i (by omega) (by simpa using h)
  omega
theorem z92(at':Int)(l:List Bk)(h:posB at' l<l.length):at'<=l[posB at' l].a:=by
 induction l with
 |nil=>simp at h;|cons b l f=>
  by_cases hb:b.a<at'
  ·simp only[posB,if_pos hb,List.getElem_cons_succ];exact f (by simpa[posB,hb] using h)
  simp only[posB,if_neg hb,List.getElem_cons_zero];omega
theorem okK.lt{W:Int}{l:List Bk}{lo:Int}(h:okK W lo l):∀ i j (_:i<j) (m:j<l.length),(l[i]'(by omega)).a+(l[i]'(by omega)).n<=l[j].a:=by
 induction l generalizing lo with
 |nil=>exact fun i j _ m=>by simp at m
 |cons b l p=>
  intro i j o m
  cases j with
  |zero=>omega
  |succ j=>
   have f:j<l.length:=by simpa using m
   cases i with
   |zero=>exact(h.2.2.mem l[j] (List.getElem_mem f)).1
   |succ i=>exact p h.2.2 i j (by omega) f
theorem zvu(at':Int)(l:List Bk)(i:Nat)(hi:i<=l.length)(h1:∀ k (_:k<i) (b:k<l.length),l[k].a<at')(h2:∀ b:i<l.length,at'<=l[i].a):posB at' l=i:=by
 rcases Nat.lt_trichotomy (posB at' l) i with h|h|h
 ·have:=h1 _ h (by omega);have:=z92 at' l (by omega);omega
 ·exact h
 have f:=yck at' l;have:=zo8 at' l i h (by omega);have:=h2 (by omega);omega
theorem zop(at':Int)(l:List Bk):zd6 at' l=true↔∃ h:posB at' l<l.length,l[posB at' l].a=at':=by
 simp only[zd6,decide_eq_true_eq];constructor
 ·rintro⟨b,h1,h2⟩;obtain⟨h3,rfl⟩:=List.getElem?_eq_some_iff.1 h1;exact⟨h3,h2⟩
 rintro⟨h1,h2⟩;exact⟨_,List.getElem?_eq_getElem h1,h2⟩
theorem zym{W lo at':Int}{l:List Bk}(h:okK W lo l):zd6 at' l=true↔∃ b ∈ l,b.a=at':=by
 rw[zop];constructor
 ·rintro⟨h1,h2⟩;exact⟨_,List.getElem_mem h1,h2⟩
 rintro⟨b,hb,rfl⟩;obtain⟨i,hi,rfl⟩:=List.getElem_of_mem hb;have m:=zvu l[i].a l i (by omega) (fun k j f=>by have:=h.lt k i j hi;have:=(h.mem _ (List.getElem_mem f)).2.1;omega) (fun _=>Int.le_refl _);exact⟨by omega,by simp only[m]⟩
def meets (b:Bk) (at' n:Int):Bool:=decide (b.a < at' + n/\at' < b.a + b.n)
def ydk (W at' n:Int):Bool:=decide (1<=n/\0<=at'/\at'<=W/\n<=W - at')
def zwf (W:Int) (l:List Bk) (at' n:Int):Bool:=ydk W at' n && !l.any (fun b=> meets b at' n)
def putB (l:List Bk) (at' n:Int):List Bk:=l.take (posB at' l) ++ ⟨at',n⟩::l.drop (posB at' l)
theorem ya9{W lo at' n:Int}{l:List Bk}(h:okK W lo l)(f:lo<=at')(j:1<=n)(m:at'+n<=W)(hc:∀ b ∈ l,¬ (b.a<at'+n/\at'<b.a+b.n)):okK W lo (putB l at' n):=by
 induction l generalizing lo with
 |nil=>exact⟨f,j,m⟩;|cons b l q=>
  have hb:=hc b (by simp);have h1:=h.2.1;unfold putB;simp only[posB];split
  ·rename_i p;simp only[List.take_succ_cons,List.drop_succ_cons,List.cons_append];exact⟨h.1,h.2.1,q h.2.2 (by omega) (fun c i=>hc c (by simp[i]))⟩
  rename_i o;simp only[List.take_zero,List.drop_zero,List.nil_append];exact⟨f,j,⟨by show at'+n<=b.a;omega,h.2⟩⟩
def ya7 (l:List Bk) (at':Int):List Bk:=l.take (posB at' l) ++ l.drop (posB at' l + 1)
def zse (l:List Bk) (at':Int):List Bk:=if zd6 at' l then ya7 l at' else l
theorem okK.z7t{W lo:Int}{l:List Bk}(h:okK W lo l)(i:Nat):okK W lo (l.take i++l.drop (i+1)):=by
 induction l generalizing lo i with
 |nil=>simpa using h
 |cons b l f=>
  cases i with
  |zero=>simpa using h.2.2.mono (by have:=h.1;have:=h.2.1;omega)
  |succ i=>exact⟨h.1,h.2.1,f h.2.2 i⟩
theorem z7z{W at':Int}{l:List Bk}(h:okK W 0 l):okK W 0 (zse l at'):=by
 unfold zse;split
 ·exact h.z7t _
 exact h
theorem okK.len{W lo:Int}{l:List Bk}(h:okK W lo l):(l.length:Int)<=W-lo:=by
 induction l generalizing lo with
 |nil=>have:=h.le;simp;omega;|cons b l f=>have:=f h.2.2;have:=h.1;have:=h.2.1;simp only[List.length_cons];omega
structure Pt where
 was:Bool
 lives:Bool
 asks:Bool
 k:Int
 a:Int
 n:Int
 took:Bool
 gave:Bool
 at':Int
 ab:Bool
 deriving DecidableEq
def Pt.zero:Pt:=⟨false,false,false,0,0,0,false,false,0,false⟩
def zf0 (p:Pt) (e:Ev):Int:=
 if e.k=0 then (if p.was=true then 1 else 0)
 else if e.k=1 then (if p.lives=false then 1 else if p.asks=true/\p.took=true then 5 else 0)
 else if p.lives=false\/p.asks=true\/e.ok < 1\/4 < e.ok then 1 else 0
def zkj (p:Pt) (e:Ev):Pt:=
 if zf0 p e≠0 then p
 else if e.k=0 then { p with was:=true,lives:=true }
 else if e.k=1 then { p with lives:=false,asks:=false }
 else ⟨true,true,true,e.ok,e.oa,e.on,false,false,0,false⟩
def mayT (p:Pt):Bool:=decide (p.k=1) || (decide (p.k=3) && p.gave)
def z8g (W:Int) (l:List Bk) (p:Pt) (e:Ev):Int:=
 if mayT p=false\/p.took=true\/lenB p.n=false\/lenV p.n≠e.n then 5 else if zwf W l e.at' e.n=true then 0 else 2
def mayG (p:Pt):Bool:=decide (p.k=2) || decide (p.k=3)
def z8m (l:List Bk) (p:Pt) (e:Ev):Int:=
 if mayG p=false\/p.gave=true\/e.at'≠p.a then 5 else if zd6 e.at' l=true then 0 else 3
def zzo (p:Pt) (at':Int):Bool:=if p.k=1\/p.k=3 then p.took && (at'==p.at') else if p.k=2 then p.gave && (at'==0) else at'==0
def zie (p:Pt):Bool:=if p.k=1 then !lenB p.n else if p.k=2 then p.ab else if p.k=3 then p.ab || !lenB p.n else true
def zd9 (p:Pt) (e:Ev):Bool:=
 if e.er=0 then zzo p e.at' else if p.took=true\/p.gave=true\/e.at'≠0 then false
 else if e.er=1 then zie p else if e.er=3 then p.k==1 || p.k==3 else if e.er=4\/e.er=5 then p.k==4 else false
structure Wy where
 c:Int
 l:List Bk
 ps:List Pt
def whyJ (W:Int) (l:List Bk) (ps:List Pt) (e:Ev):Wy:=
 if e.c < 0\/(ps.length:Int)<=e.c\/e.k < 0\/5 < e.k then ⟨1,l,ps⟩
 else if e.k < 3 then ⟨zf0 (ps.getD e.c.toNat Pt.zero) e,l,ps.set e.c.toNat (zkj (ps.getD e.c.toNat Pt.zero) e)⟩
 else if (ps.getD e.c.toNat Pt.zero).lives=false\/(ps.getD e.c.toNat Pt.zero).asks=false then ⟨1,l,ps⟩
 else if e.k=3 then
  (if z8g W l (ps.getD e.c.toNat Pt.zero) e=0 then ⟨0,putB l e.at' e.n,ps.set e.c.toNat { ps.getD e.c.toNat Pt.zero with took:=true,at':=e.at' }⟩ else ⟨z8g W l (ps.getD e.c.toNat Pt.zero) e,l,ps⟩)
 else if e.k=4 then
  (if z8m l (ps.getD e.c.toNat Pt.zero) e=0 then ⟨0,zse l e.at',ps.set e.c.toNat { ps.getD e.c.toNat Pt.zero with gave:=true }⟩ else ⟨z8m l (ps.getD e.c.toNat Pt.zero) e,l,ps⟩)
 else if zd9 (ps.getD e.c.toNat Pt.zero) e=true then ⟨0,l,ps.set e.c.toNat { ps.getD e.c.toNat Pt.zero with asks:=false }⟩ else ⟨4,l,ps⟩
def abP (l:List Bk) (p:Pt):Pt:=if zd6 p.a l=false/\p.asks=true then { p with ab:=true } else p
structure Jd where
 W:Int
 l:List Bk
 ps:List Pt
 m:Int
 at':Int
 why:Int
def z4x (j:Jd) (e:Ev):Bool:=decide (j.why=0) && decide ((whyJ j.W j.l j.ps e).c=0)
def zdo (j:Jd) (e:Ev):Jd:=
 if j.why≠0 then j
 else if (whyJ j.W j.l j.ps e).c≠0 then { j with l:=(whyJ j.W j.l j.ps e).l,ps:=(whyJ j.W j.l j.ps e).ps,at':=j.m,why:=(whyJ j.W j.l j.ps e).c }
 else { j with l:=(whyJ j.W j.l j.ps e).l,ps:=(whyJ j.W j.l j.ps e).ps.map (abP (whyJ j.W j.l j.ps e).l),m:=j.m + 1 }
def newJ (p c m:Int):Jd:=if mayB p c m=true then ⟨p * 64, [],List.replicate c.toNat Pt.zero,0, -1,0⟩ else ⟨0, [], [],0, -1,0⟩
def runJ (j:Jd) (es:List Ev):Jd:=es.foldl zdo j
theorem yh5(j:Jd)(a b:List Ev):runJ j (a++b)=runJ (runJ j a) b:=by simp[runJ]
theorem yhy(j:Jd)(e:Ev)(b:List Ev):runJ j (e::b)=runJ (zdo j e) b:=rfl
theorem yjn(j:Jd)(e:Ev)(b:List Ev):runJ j (b++[e])=zdo (runJ j b) e:=by simp[runJ]
theorem yit{j:Jd}(h:j.why≠0)(e:Ev):zdo j e=j:=by unfold zdo;rw[if_pos h]
theorem yir{j:Jd}(h:j.why≠0)(es:List Ev):runJ j es=j:=by
 induction es with
 |nil=>rfl
 |cons e es b=>rw[yhy,yit h,b]
theorem zsk(j:Jd)(e:Ev):z4x j e=true↔j.why=0/\(whyJ j.W j.l j.ps e).c=0:=by simp[z4x]
theorem z9p{j:Jd}{e:Ev}(h:z4x j e=true):zdo j e= {j with l:=(whyJ j.W j.l j.ps e).l,ps:=(whyJ j.W j.l j.ps e).ps.map (abP (whyJ j.W j.l j.ps e).l),m:=j.m+1}:=by
 obtain⟨h1,h2⟩:=(zsk j e).1 h;unfold zdo;rw[if_neg (by omega),if_neg (by omega)]
end

section

open Go.RowKit

theorem z03{b:Type}(f:b->Value)(xs:List b):xs.flatMap (fun a=>[f a])=xs.map f:=by
 induction xs with
 |nil=>rfl
 |cons x xs i=>rw[List.flatMap_cons,i];rfl
section

variable {H:Type} {enc:TypeId × Value->H} {P:Program} {w:World}

theorem yf7{t e:TypeId}{k:IntKind}{v:Value}(j:P.underlying t=some (.slice e))(f:P.underlying e=some (.int k))(ce:P.cellsOf e=1)
  {r:Reach} {b:Nat} {d:DataW H} {ps:List MemPlace} (l:Value.okWide P w r b t v) (h0:DataW.Trod enc P w 0 (fun _=>true) true t v d ps):∃ zs:List Int,RdZ k w v zs/\∀ z ∈ zs,(Lit.int k z).wf=true:=by
 obtain⟨xs,h1,h2⟩:=open_list (fun z:Int=>[Value.int k z]) (fun z=>(Lit.int k z).wf=true) j ce (by omega) (fun _=>rfl) (fun es h1 h2=>by
  obtain⟨n,rfl,i⟩:=zj9 f h2
  exact⟨n,rfl,i⟩) l h0
 rw[z03]at h1;exact⟨xs,h1,h2⟩
end

theorem u16_bd{a:Int}(h:(Lit.int .u16 a).wf=true):0<=a/\a<=65535:=by
 simp[Lit.wf,IntKind.min,IntKind.max,IntKind.bits,IntKind.signed]at h;omega
end

end Go.Proofs.YtedcnffebdpmmaaGreat
