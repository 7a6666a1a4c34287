/- Texts bound together: Base PackP PackW PlanP PlanW PackR PlnP MchP. -/
import Derived.Test.YtkbddndcegpllaaGreatRows

import Derived.Handy

import Derived.WalkSpells

import Derived.Lib.Hide

import Derived.Laws.CopyOwn

import Derived.WalkLawsBesides

import Derived.Deep.QuietTactic

import Derived.BigQuiet

import Derived.RegionTactic

import Derived.Deep.RegionHeld3

import Derived.Deep.DeepCutAuto

import Derived.Laws.BitsLemmas

import Derived.Laws.BitsAllLaws

import Derived.Deep.RegionWith

set_option linter.all false
set_option maxHeartbeats 1000000
set_option maxRecDepth 100000
namespace Go.Proofs.YtkbddndcegpllaaGreat

section

open Go.RowKit
instance:Coe Int Value:=⟨.int .i64⟩
instance:Coe Bool Value:=⟨.bool⟩
instance:Coe Nat Value:=⟨fun x=> .int .i64 x⟩
instance (x:Nat):CoeDep (Option Nat) (some x) Value:=⟨.pointer (some ⟨x,0,.none⟩)⟩
theorem zf5{k:IntKind}{a b:Int}(h:a=b):Ending.returned (.int k a)=Ending.returned (.int k b):=by rw[h]
theorem zg6{a b:Bool}(h:a=b):Ending.returned (.bool a)=Ending.returned (.bool b):=by rw[h]
theorem ycx{p q:Bool}(h:p=true↔q=true):(p==q)=true:=by cases p<;>cases q<;>simp_all
theorem zqe{w:World}{b o:Nat}{v:Value}(h:w.cell? ⟨b,o,.none⟩=some v):b<w.heap.size:=by
 rcases Nat.lt_or_ge b w.heap.size with f|f
 ·exact f
 simp[World.cell?,Array.getElem?_eq_none f]at h
theorem ci{w:World}{p:Addr}(n:Int)(h:w.cell? p=some (.int .i64 n)):w.cell? p=some (.int .i64 n):=h
theorem ce{w:World}{p:Addr}(v:Value)(h:w.cell? p=some v):w.cell? p=some v:=h
theorem ci3{w:World}{q:Nat}(a b c:Int){t:List Value}(f:∀ i,w.cell? ⟨q,i,.none⟩=(Array.mk (.int .i64 a:: .int .i64 b:: .int .i64 c::t))[i]?):w.cell? ⟨q,0,.none⟩=some (.int .i64 a)/\w.cell? ⟨q,1,.none⟩=some (.int .i64 b)/\w.cell? ⟨q,2,.none⟩=some (.int .i64 c):=⟨f 0,f 1,f 2⟩
theorem ci4{w:World}{q:Nat}(a b c d:Int){t:List Value}(f:∀ i,w.cell? ⟨q,i,.none⟩=(Array.mk (.int .i64 a:: .int .i64 b:: .int .i64 c:: .int .i64 d::t))[i]?):w.cell? ⟨q,0,.none⟩=some (.int .i64 a)/\w.cell? ⟨q,1,.none⟩=some (.int .i64 b)/\w.cell? ⟨q,2,.none⟩=some (.int .i64 c)/\w.cell? ⟨q,3,.none⟩=some (.int .i64 d):=⟨f 0,f 1,f 2,f 3⟩
theorem ci5{w:World}{q:Nat}(a b c d e:Int){t:List Value}(f:∀ i,w.cell? ⟨q,i,.none⟩=(Array.mk (.int .i64 a:: .int .i64 b:: .int .i64 c:: .int .i64 d:: .int .i64 e::t))[i]?):w.cell? ⟨q,0,.none⟩=some (.int .i64 a)/\w.cell? ⟨q,1,.none⟩=some (.int .i64 b)/\w.cell? ⟨q,2,.none⟩=some (.int .i64 c)/\w.cell? ⟨q,3,.none⟩=some (.int .i64 d)/\w.cell? ⟨q,4,.none⟩=some (.int .i64 e):=⟨f 0,f 1,f 2,f 3,f 4⟩
theorem ci6{w:World}{q:Nat}(a b c d e f:Int){t:List Value}(j:∀ i,w.cell? ⟨q,i,.none⟩=(Array.mk (.int .i64 a:: .int .i64 b:: .int .i64 c:: .int .i64 d:: .int .i64 e:: .int .i64 f::t))[i]?):w.cell? ⟨q,0,.none⟩=some (.int .i64 a)/\w.cell? ⟨q,1,.none⟩=some (.int .i64 b)/\w.cell? ⟨q,2,.none⟩=some (.int .i64 c)/\w.cell? ⟨q,3,.none⟩=some (.int .i64 d)/\w.cell? ⟨q,4,.none⟩=some (.int .i64 e)/\w.cell? ⟨q,5,.none⟩=some (.int .i64 f):=⟨j 0,j 1,j 2,j 3,j 4,j 5⟩
theorem ci7{w:World}{q:Nat}(a b c d e f g:Int){t:List Value}(j:∀ i,w.cell? ⟨q,i,.none⟩=(Array.mk (.int .i64 a:: .int .i64 b:: .int .i64 c:: .int .i64 d:: .int .i64 e:: .int .i64 f:: .int .i64 g::t))[i]?):w.cell? ⟨q,0,.none⟩=some (.int .i64 a)/\w.cell? ⟨q,1,.none⟩=some (.int .i64 b)/\w.cell? ⟨q,2,.none⟩=some (.int .i64 c)/\w.cell? ⟨q,3,.none⟩=some (.int .i64 d)/\w.cell? ⟨q,4,.none⟩=some (.int .i64 e)/\w.cell? ⟨q,5,.none⟩=some (.int .i64 f)/\w.cell? ⟨q,6,.none⟩=some (.int .i64 g):=⟨j 0,j 1,j 2,j 3,j 4,j 5,j 6⟩
theorem ci8{w:World}{q:Nat}(a b c d e f g h:Int){t:List Value}(j:∀ i,w.cell? ⟨q,i,.none⟩=(Array.mk (.int .i64 a:: .int .i64 b:: .int .i64 c:: .int .i64 d:: .int .i64 e:: .int .i64 f:: .int .i64 g:: .int .i64 h::t))[i]?):w.cell? ⟨q,0,.none⟩=some (.int .i64 a)/\w.cell? ⟨q,1,.none⟩=some (.int .i64 b)/\w.cell? ⟨q,2,.none⟩=some (.int .i64 c)/\w.cell? ⟨q,3,.none⟩=some (.int .i64 d)/\w.cell? ⟨q,4,.none⟩=some (.int .i64 e)/\w.cell? ⟨q,5,.none⟩=some (.int .i64 f)/\w.cell? ⟨q,6,.none⟩=some (.int .i64 g)/\w.cell? ⟨q,7,.none⟩=some (.int .i64 h):=⟨j 0,j 1,j 2,j 3,j 4,j 5,j 6,j 7⟩
theorem hd'{p:Prop}(h:p):Hid p:=h
theorem hidv{b:Sort _}(a:b):∃ x,Hid (x=a)/\x=a:=⟨a,hd' rfl,rfl⟩
theorem lr{n:Nat}:n<=n:=Nat.le_refl n
theorem br{B:Nat}{w:World}:Below B w w:=Below.refl _ _
theorem wrp(n:Int)(h: -9223372036854775808<=n:=by omega)(k:n<=9223372036854775807:=by omega):IntKind.i64.wrap n=n:=IntWalk.i64_in n ⟨h,k⟩
theorem zai{w w':World}(hb:Below w.heap.size w w'):∀ b o v,w.cell? ⟨b,o,.none⟩=some v->w'.cell? ⟨b,o,.none⟩=some v:=
 fun b o v h=>by rw[hb.cell (zqe h)];exact h
theorem yff{B:Nat}{w a b:World}(f:w.heap.size=B)(h:Below B w a)(hb:Below a.heap.size a b):Below B w b:=
 h.trans (hb.mono (by have:=h.size;omega))
theorem zab{w a b:World}(h:Below w.heap.size w a)(hb:Below a.heap.size a b):Below w.heap.size w b:=
 h.trans (hb.mono h.size)
theorem zi9{W f:World}(hb:Below W.heap.size W f):∀ b o,b<W.heap.size->f.cell? ⟨b,o,.none⟩=W.cell? ⟨b,o,.none⟩:=fun b o h=>hb.cell (p:=⟨b,o,.none⟩) h
theorem zgi{W f:World}(hb:Below W.heap.size W f):∀ b o,b<W.heap.size->f.frozen? ⟨b,o,.none⟩=W.frozen? ⟨b,o,.none⟩:=fun b o h=>hb.frozen (p:=⟨b,o,.none⟩) h
theorem zac{w:World}{b:Nat}{cs:Array Value}{t:TypeId}(h:w.heap[b]?=some (.cells cs t (0,0))):∀ i,w.cell? ⟨b,i,.none⟩=cs[i]?:=fun i=>cell_of_row w b i cs t (0,0) h
theorem zax{w:World}{b:Nat}{cs:Array Value}{t:TypeId}(h:w.heap[b]?=some (.cells cs t (0,0))):∀ i,w.frozen? ⟨b,i,.none⟩=false:=fun i=>by simp[World.frozen?,h]
theorem zc5(w:World)(a b:Obj):((w.alloc a).alloc b).heap[w.heap.size]?=some a/\((w.alloc a).alloc b).heap[w.heap.size+1]?=some b/\((w.alloc a).alloc b).heap.size=w.heap.size+2/\Below w.heap.size w ((w.alloc a).alloc b):=by
 refine⟨?_,?_,by simp,by go_grown⟩
 ·rw[Below.heap_alloc _ _ _ (by simp)];exact heap_alloc_new w a
 have:=heap_alloc_new (w.alloc a) b;simpa using this
theorem zh5(w:World)(a b c:Obj):(((w.alloc a).alloc b).alloc c).heap[w.heap.size]?=some a/\(((w.alloc a).alloc b).alloc c).heap[w.heap.size+1]?=some b/\(((w.alloc a).alloc b).alloc c).heap[w.heap.size+1+1]?=some c/\(((w.alloc a).alloc b).alloc c).heap.size=w.heap.size+3/\Below w.heap.size w (((w.alloc a).alloc b).alloc c):=by
 obtain⟨f,i,j,l⟩:=zc5 w a b;refine⟨?_,?_,?_,by simp,by go_grown⟩
 ·rw[Below.heap_alloc _ _ _ (by omega)];exact f
 ·rw[Below.heap_alloc _ _ _ (by omega)];exact i
 have:=heap_alloc_new ((w.alloc a).alloc b) c;rw[j]at this;exact this
def Ext (w:World):= { w':World // Below w.heap.size w w' }
def Ext.w {w:World} (e:Ext w):World:=e.val
instance Ext.there {w:World}:Nonempty (Ext w):=⟨⟨w,Below.refl _ _⟩⟩
theorem Ext.below{w:World}(e:Ext w):Below w.heap.size w e.w:=e.property
@[go_sem, simp] theorem Ext.cell {w : World} (e : Ext w) (b o : Nat) (h : b < w.heap.size) : e.w.cell? ⟨b, o,.none⟩ = w.cell? ⟨b, o,.none⟩ := e.below.cell (p := ⟨b, o,.none⟩) h
@[go_sem, simp] theorem Ext.frozen {w : World} (e : Ext w) (b o : Nat) (h : b < w.heap.size) : e.w.frozen? ⟨b, o,.none⟩ = w.frozen? ⟨b, o,.none⟩ := e.below.frozen (p := ⟨b, o,.none⟩) h
theorem zaj{P:Program}{j:Nat}{Q:Exit->Act->World->Prop}{a:Act}{w:World}{l:List Oper}(i:P.follows .mixedOrders=true)(f:Region.lexB .any l.toArray=true)
  (h:wpQuiet P l.toArray (fun w'=>∃ e:Ext w,w'=e.w) (fun b=>∀ w',(∃ e:Ext w,w'=e.w)->Q .normal b w') l a):(Code.region j l.toArray true).wp P Q a w:=
 wp_region_quiet (C:=fun w'=>∃ e:Ext w,w'=e.w) i f ⟨⟨_,br.drew⟩,rfl⟩ (by simpa using h)
theorem zam{P:Program}{f:FuncId}{args:Array Value}{w:World}{e:Ext w}{v:Value}
  (h:Calls P f args e.w fun r b=>r= .returned v/\Below e.w.heap.size e.w b):Calls P f args e.w fun r b=>r= .returned v/\∃ i:Ext w,b=i.w:=
 h.mono fun _ b ⟨j,hb⟩=>⟨j,⟨b,zab e.below hb⟩,rfl⟩
theorem zdx{P:Program}{f:FuncId}{args:Array Value}{w:World}{e:Ext w}{v:Value}
  (h:Calls P f args e.w fun r b=>r= .returned v/\b=e.w):Calls P f args e.w fun r b=>r= .returned v/\∃ i:Ext w,b=i.w:=
 h.mono fun _ _ ⟨j,hb⟩=>⟨j,e,hb⟩
end

section

def horner:List Int->Int
 | []=> 0
 | x::xs=> x + 256 * horner xs
def okB (x:Int):Bool:=decide (0<=x) && decide (x<=255)
def zjf (xs:List Int):Bool:=xs.all okB
def putV (k:Int) (xs:List Int):Int:=if zjf xs=true then k + 16 * horner xs else 0
theorem zuz{x:Int}:okB x=true↔0<=x/\x<=255:=by simp[okB]
theorem zm1(n:Nat):(256:Int)^(n+1)=256*256^n:=by rw[Int.pow_succ,Int.mul_comm]
theorem zx8(n:Nat):(0:Int)<256^n:=Int.pow_pos (by decide)
theorem zsp(xs:List Int)(h:zjf xs=true):0<=horner xs/\horner xs<256^xs.length:=by
 induction xs with
 |nil=>simp[horner];|cons x xs b=>simp only[zjf,List.all_cons,Bool.and_eq_true]at h;have f:=zuz.1 h.1;have:=b h.2;simp only[horner,List.length_cons,zm1];omega
theorem zvn(xs:List Int)(x:Int):horner (xs++[x])=horner xs+x*256^xs.length:=by
 induction xs with
 |nil=>simp[horner];|cons y xs b=>simp only[List.cons_append,horner,b,List.length_cons,zm1];rw[Int.mul_add,Int.mul_left_comm 256 x];omega
theorem zyh(xs:List Int)(x:Int):zjf (xs++[x])=(zjf xs&&okB x):=by simp[zjf]
theorem zuv(xs:List Int)(j:Nat)(h:j<xs.length):xs.take (j+1)=xs.take j++[xs.getD j 0]:=by
 rw[List.take_succ_eq_append_getElem h];simp[List.getD_eq_getElem?_getD,h]
theorem zkd(n:Int)(b:0<=n)(f:n<18446744073709551616):IntKind.u64.wrap n=n:=by
 simp only[IntKind.wrap,IntKind.bits,IntKind.signed];simp;omega
theorem ybi(f x:Int)(j:Nat)(s:j<=6)(p:0<=f)(r:f<16*256^j)(l:0<=x)(m:x<=255):
  bits .or .u64 f (IntKind.u64.wrap (x*2^(4+8*j)))=f+16*(x*256^j):=by
 have o:(2:Int)^(4+8*j)=16*256^j:=by rw[Int.pow_add,Int.pow_mul];rfl
 have hb:(256:Int)^j<=281474976710656:=by
  have:j=0\/j=1\/j=2\/j=3\/j=4\/j=5\/j=6:=by omega
  rcases this with rfl|rfl|rfl|rfl|rfl|rfl|rfl<;>decide
 have y:=zx8 j;have t:x*(16*256^j)<=255*(16*256^j):=Int.mul_le_mul_of_nonneg_right m (by omega);have i:0<=x*(16*256^j):=Int.mul_nonneg l (by omega);have q:IntKind.u64.wrap (x*2^(4+8*j))=x*(16*256^j):=by rw[o];exact zkd _ i (by omega)
 rw[q];have hc:bits .or .u64 f (x*(16*256^j))=bits .or .u64 (x*(16*256^j)) f:=by simp only[bits,BitVec.or_comm]
 have hd:x*(16*256^j)%2^(4+8*j)=0:=by rw[o];exact Int.mul_emod_left _ _
 rw[hc,bits_join .u64 64 (by decide) (fun n a b=>zkd n a b) (4+8*j) _ _ i hd (by omega) p (by omega) (by omega)];rw[Int.mul_left_comm];omega
theorem zw6(k:Int)(xs:List Int)(j:Nat)(h:j<xs.length)(b:xs[j]<0\/255<xs[j]):putV k xs=0:=by
 have:zjf xs≠true:=fun hc=>by have:=List.all_eq_true.1 hc xs[j] (List.getElem_mem h);have:=zuz.1 this;omega
 rw[putV,if_neg this]
theorem z6p(k:Int)(xs:List Int)(j:Nat)(o:0<=k)(n:k<=15)(p:xs.length<=7)(h:j<xs.length)(i:0<=xs[j])(l:xs[j]<=255)(f:zjf (xs.take j)=true):
  bits .or .u64 (k+16*horner (xs.take j)) (IntKind.u64.wrap (xs[j]*2^(4+8*j)))=k+16*horner (xs.take (j+1))/\zjf (xs.take (j+1))=true:=by
 have hb:=zsp _ f;have b:(xs.take j).length=j:=by simp;omega
 rw[b]at hb;have m:xs.getD j 0=xs[j]:=by simp[List.getD_eq_getElem?_getD,h]
 rw[zuv xs j h,zvn,zyh,f,b,m,ybi _ _ j (by omega) (by omega) (by omega) i l];exact⟨by omega,by simpa using zuz.2 ⟨i,l⟩⟩
theorem zqo(k:Int)(xs:List Int)(h:zjf xs=true):putV k xs=k+16*horner xs:=by rw[putV,if_pos h]
def zfm (k a b:Int):Bool:=decide (k < 0) || decide (4 < k) || (k==0 && a !=0) || (k !=2 && b !=0)
def zb8 (k a b:Int):Int:=if zfm k a b=true then 0 else putV k [a,b]
def zgy (k a:Int):Bool:=decide (k < 0) || decide (3 < k) || (k==0 && a !=0)
def zc3 (k a:Int):Int:=if zgy k a=true then 0 else putV k [a]
def zho (k a:Int):Bool:=decide (k < 0) || decide (4 < k) || (k !=3 && a !=0)
def za8 (k a:Int):Int:=if zho k a=true then 0 else putV k [a]
theorem z7p(k a:Int)(b:0<=a)(f:a<=255):putV k [a]=k+16*a:=by
 rw[zqo k _ (by simp[zjf,okB];omega)];simp[horner]
theorem z8d(k a b:Int)(f:0<=a)(i:a<=255)(j:0<=b)(l:b<=255):putV k [a,b]=k+16*a+4096*b:=by
 rw[zqo k _ (by simp[zjf,okB];omega)];simp[horner];omega
theorem yf0(k a b c:Int)(f:0<=a)(i:a<=255)(j:0<=b)(l:b<=255)(m:0<=c)(n:c<=255):putV k [a,b,c]=k+16*a+4096*b+1048576*c:=by
 rw[zqo k _ (by simp[zjf,okB];omega)];simp[horner];omega
end

section

open Go.RowKit

theorem zua(k:Int)(xs:List Int)(b m:Nat)(w:World)(p:0<=k)(o:k<=15)(s:xs.length<=3)
  (hc:∀ i,i<xs.length->w.cell? ⟨b,m+i,.none⟩=some (.int .i64 (xs.getD i 0))):
  Calls Tryz.prog 153 #[k,.slice (some ⟨b,m,.none⟩) xs.length xs.length] w fun e w'=>e= .returned (.int .u64 (putV k xs))/\w'=w:=by
 go_in;go_wp2;go_loop [4,5,12] (fun r v i=>∃ j:Nat,j<=xs.length/\i= .int .i64 j/\r= .int .u64 0/\v= .int .u64 (k+16*horner (xs.take j))/\zjf (xs.take j)=true) (fun _ _ i=>xs.length-(intOf i).toNat);case atStart=>exact⟨0,Nat.zero_le _,rfl,rfl,by simp[horner],by simp[zjf]⟩
 case round=>
  obtain⟨j,q,rfl,rfl,rfl,l⟩:=hrel;have n:j<xs.length->w.cell? ⟨b,m+j,.none⟩=some (.int .i64 (xs.getD j 0)):=fun h=>hc j h;go_wp2;case roundEnd=>have hs:=z6p k xs j p o (by omega) ‹_› (by omega) (by omega) l;exact⟨⟨j+1,by omega,by go_num,rfl,by rw[hs.1],hs.2⟩,by simp[intOf];omega⟩
  all_goals go_ret
  ·exact⟨by rw[zw6 k xs j ‹_› (by omega)];rfl,rfl⟩
  ·exact⟨by rw[zw6 k xs j ‹_› (by omega)];rfl,rfl⟩
  have e:xs.take j=xs:=List.take_of_length_le (by omega);rw[e]at l ⊢;exact⟨by rw[zqo k xs l];rfl,rfl⟩
theorem put1(k a:Int)(b j:Nat)(w:World)(n:0<=k)(l:k<=15)(m:w.cell? ⟨b,j,.none⟩=some (.int .i64 a)):
  Calls Tryz.prog 153 #[k,.slice (some ⟨b,j,.none⟩) 1 1] w fun e w'=>e= .returned (.int .u64 (putV k [a]))/\w'=w:=
 zua k [a] b j w n l (by simp) (fun i hi=>by
  match i,hi with
  |0,_=>exact m)
theorem put2(k a c:Int)(b j:Nat)(w:World)(o:0<=k)(l:k<=15)(m:w.cell? ⟨b,j,.none⟩=some (.int .i64 a))(n:w.cell? ⟨b,j+1,.none⟩=some (.int .i64 c)):
  Calls Tryz.prog 153 #[k,.slice (some ⟨b,j,.none⟩) 2 2] w fun e w'=>e= .returned (.int .u64 (putV k [a,c]))/\w'=w:=
 zua k [a,c] b j w o l (by simp) (fun i hi=>by
  match i,hi with
  |0,_=>exact m
  |1,_=>exact n)
theorem put3(k a c d:Int)(b j:Nat)(w:World)(p:0<=k)(l:k<=15)(m:w.cell? ⟨b,j,.none⟩=some (.int .i64 a))(n:w.cell? ⟨b,j+1,.none⟩=some (.int .i64 c))(o:w.cell? ⟨b,j+2,.none⟩=some (.int .i64 d)):
  Calls Tryz.prog 153 #[k,.slice (some ⟨b,j,.none⟩) 3 3] w fun e w'=>e= .returned (.int .u64 (putV k [a,c,d]))/\w'=w:=
 zua k [a,c,d] b j w p l (by simp) (fun i hi=>by
  match i,hi with
  |0,_=>exact m
  |1,_=>exact n
  |2,_=>exact o)
theorem zcd(k a b:Int)(w:World):
  Calls Tryz.prog 154 #[.agg #[k,a,b]] w fun e w'=>e= .returned (.int .u64 (zb8 k a b))/\Below w.heap.size w w':=by
 go_in;go_wp2_with (go_at_call 153;refine(put2 _ a b _ _ _ (by omega) (by omega) (by go_simp) (by go_simp)).mono ?_;rintro e w' ⟨rfl,rfl⟩);all_goals go_ret
 all_goals refine⟨zf5 ?_,by go_grown⟩
 all_goals simp_all [zb8,zfm]
 all_goals omega
theorem zbl(k a:Int)(w:World):
  Calls Tryz.prog 156 #[.agg #[k,a]] w fun e w'=>e= .returned (.int .u64 (zc3 k a))/\Below w.heap.size w w':=by
 go_in;go_wp2_with (go_at_call 153;refine(put1 _ a _ _ _ (by omega) (by omega) (by go_simp)).mono ?_;rintro e w' ⟨rfl,rfl⟩);all_goals go_ret
 all_goals refine⟨zf5 ?_,by go_grown⟩
 all_goals simp_all [zc3,zgy]
 all_goals omega
theorem zes(a b c:Int)(w:World):
  Calls Tryz.prog 184 #[.agg #[a,b,c]] w fun e w'=>e= .returned (.int .u64 (putV 1 [a,b,c]))/\Below w.heap.size w w':=by
 go_in;go_wp2_with (go_at_call 153;refine(put3 _ a b c _ _ _ (by omega) (by omega) (by go_simp) (by go_simp) (by go_simp)).mono ?_;rintro e w' ⟨rfl,rfl⟩);all_goals go_ret
 all_goals exact⟨rfl,by go_grown⟩
theorem zgn(k a:Int)(w:World):
  Calls Tryz.prog 117 #[k,a] w fun e w'=>e= .returned (.int .u64 (za8 k a))/\Below w.heap.size w w':=by
 go_in;go_wp2_with (go_at_call 153;refine(put1 _ a _ _ _ (by omega) (by omega) (by go_simp)).mono ?_;rintro e w' ⟨rfl,rfl⟩);all_goals go_ret
 all_goals refine⟨zf5 ?_,by go_grown⟩
 all_goals simp_all [za8,zho]
 all_goals omega
end

section

def wi (n lo hi:Int):Bool:=decide (lo<=n) && decide (n<=hi)
theorem zbc{n lo hi:Int}:wi n lo hi=true↔lo<=n/\n<=hi:=by simp[wi]
theorem zgo{n lo hi:Int}:wi n lo hi=false↔¬ (lo<=n/\n<=hi):=by rw[<-zbc];simp
def mayB (p c m:Int):Bool:=wi p 1 64 && wi c 1 12 && wi m 0 8
theorem zar{p c m:Int}:mayB p c m=true↔1<=p/\p<=64/\1<=c/\c<=12/\0<=m/\m<=8:=by
 simp only[mayB,Bool.and_eq_true,zbc];omega
def zak (p c m at':Int):Int:=if mayB p c m=true/\wi at' 0 (p - 1)=true then c + at' else -1
def zbj (k:Int):Int:=if k=0 then 4 else if k=1 then 8 else if k=2 then 16 else if k=3 then 32 else 0
def zah (k:Int):Int:=if k=0 then 16 else if k=1 then 8 else if k=2 then 4 else if k=3 then 2 else 0
end

section

open Go.RowKit

theorem za9(n lo hi:Int)(w:World):
  Calls Tryz.prog 107 #[n,lo,hi] w fun e w'=>e= .returned (.bool (wi n lo hi))/\w'=w:=by
 go_in;go_wp2;all_goals go_ret
 all_goals refine⟨zg6 ?_,rfl⟩
 all_goals simp[wi]
 all_goals omega
theorem zcc(p c m:Int)(w:World):
  Calls Tryz.prog 96 #[.agg #[p,c,m]] w fun e w'=>e= .returned (.bool (mayB p c m))/\w'=w.alloc (.cells #[p,c,m] 23):=by
 have b:wi p 1 64=true\/wi p 1 64=false:=by cases wi p 1 64<;>simp
 have i:wi c 1 12=true\/wi c 1 12=false:=by cases wi c 1 12<;>simp
 rcases b with b|b<;>rcases i with i|i <;>
 ·go_in;go_wp2_with (go_at_call 107;refine(za9 _ _ _ _).mono ?_;rintro e w' ⟨rfl,rfl⟩);go_ret;exact⟨zg6 (by simp[mayB,b,i]),rfl⟩
theorem planPage_any(p c m a:Int)(w:World):
  Calls Tryz.prog 119 #[.agg #[p,c,m],a] w fun e w'=>e= .returned (.int .i64 (zak p c m a))/\Below w.heap.size w w':=by
 by_cases b:mayB p c m=true
 ·have hb:=zar.1 b;have q:wrap64 (p-1)=p-1:=IntWalk.wrap64_in _ ⟨by omega,by omega⟩;by_cases i:wi a 0 (p-1)=true
  ·have o:=zbc.1 i;go_in;go_wp2_with (first|(go_at_call 96;refine(zcc _ _ _ _).mono ?_;rintro e n ⟨rfl,rfl⟩)|(go_at_call 107;refine(za9 _ _ _ _).mono ?_;rintro e w' ⟨rfl,rfl⟩));go_ret;exact⟨zf5 (by rw[zak,if_pos ⟨b,i⟩]),by go_grown⟩
  have l:wi a 0 (p-1)=false:=by simpa using i
  clear i;go_in;go_wp2_with (first|(go_at_call 96;refine(zcc _ _ _ _).mono ?_;rintro e n ⟨rfl,rfl⟩)|(go_at_call 107;refine(za9 _ _ _ _).mono ?_;rintro e w' ⟨rfl,rfl⟩));go_ret;exact⟨zf5 (by rw[zak,if_neg (by simp[l])]),by go_grown⟩
 have j:mayB p c m=false:=by simpa using b
 clear b;go_in;go_wp2_with (first|(go_at_call 96;refine(zcc _ _ _ _).mono ?_;rintro e n ⟨rfl,rfl⟩)|(go_at_call 107;refine(za9 _ _ _ _).mono ?_;rintro e w' ⟨rfl,rfl⟩));go_ret;exact⟨zf5 (by rw[zak,if_neg (by simp[j])]),by go_grown⟩
theorem slots_any(k:Int)(w:World):
  Calls Tryz.prog 65 #[k] w fun e w'=>e= .returned (.int .i64 (zah k))/\w'=w:=by
 by_cases h:0<=k/\k<=3
 ·have b:wi k 0 3=true:=zbc.2 h;have:k=0\/k=1\/k=2\/k=3:=by omega
  rcases this with rfl|rfl|rfl|rfl <;>
  ·go_in;go_wp2_with (go_at_call 107;refine(za9 _ _ _ _).mono ?_;rintro e w' ⟨rfl,rfl⟩);go_ret;exact⟨rfl,rfl⟩
 have b:wi k 0 3=false:=zgo.2 h;go_in;go_wp2_with (go_at_call 107;refine(za9 _ _ _ _).mono ?_;rintro e w' ⟨rfl,rfl⟩);go_ret;exact⟨zf5 (by rw[zah,if_neg (by omega),if_neg (by omega),if_neg (by omega),if_neg (by omega)]),rfl⟩
theorem refMay_any(p c m:Int)(w:World):
  Calls Tryz.prog 28 #[.agg #[p,c,m]] w fun e w'=>e= .returned (.bool (mayB p c m))/\w'=w.alloc (.cells #[p,c,m] 23):=by
 go_in;go_wp2;all_goals go_ret
 all_goals refine⟨zg6 ?_,rfl⟩
 all_goals (rw[Bool.eq_iff_iff,zar];simp;omega)
def zbx (x:Int):Int:=x % 16
def za2 (x:Int) (i:Nat):Int:=x / (16 * 256 ^ i) % 256
theorem zw3(x:Int):0<=zbx x/\zbx x<=15:=by unfold zbx;omega
theorem zgv(x:Int)(i:Nat):0<=za2 x i/\za2 x i<=255:=by unfold za2;omega
theorem yf8(x:Int)(f:0<=x)(i:x<18446744073709551616):bits .and .u64 x 15=zbx x:=bits_mask .u64 64 (by decide) (fun n a b=>zkd n a b) 4 (by decide) x f i
theorem z0b(x:Int)(f:0<=x)(i:x<18446744073709551616):bits .and .u64 x 255=x%256:=bits_mask .u64 64 (by decide) (fun n a b=>zkd n a b) 8 (by decide) x f i
theorem zqi(x:Int)(w:World)(b:0<=x)(i:x<18446744073709551616):
  Calls Tryz.prog 138 #[.int .u64 x] w fun e w'=>e= .returned (.int .i64 (zbx x))/\w'=w:=by
 have hb:=zw3 x;have j:=yf8 x b i;have l:=wrp (zbx x);go_in;go_wp2;all_goals go_ret
 all_goals exact⟨rfl,rfl⟩
theorem zqh(x:Int)(i:Nat):x/2^(4+8*i)%256=za2 x i:=by
 unfold za2;rw[Int.pow_add,Int.pow_mul];rfl
theorem ze8(x:Int)(i:Nat)(w:World)(j:0<=x)(l:x<18446744073709551616)(hi:i<=2):
  Calls Tryz.prog 139 #[.int .u64 x,i] w fun e w'=>e= .returned (.int .i64 (za2 x i))/\w'=w:=by
 have hb:=zgv x i;have m:=wrp (za2 x i);have:i=0\/i=1\/i=2:=by omega
 rcases this with rfl|rfl|rfl
 ·have b:=z0b (x/16) (by omega) (by omega);have hs:x/16%256=za2 x 0:=zqh x 0;rw[hs]at b;clear hs;go_in;go_wp2;all_goals go_ret
  all_goals exact⟨rfl,rfl⟩
 ·have b:=z0b (x/4096) (by omega) (by omega);have hs:x/4096%256=za2 x 1:=zqh x 1;rw[hs]at b;clear hs;go_in;go_wp2;all_goals go_ret
  all_goals exact⟨rfl,rfl⟩
 have b:=z0b (x/1048576) (by omega) (by omega);have hs:x/1048576%256=za2 x 2:=zqh x 2;rw[hs]at b;clear hs;go_in;go_wp2;all_goals go_ret
 all_goals exact⟨rfl,rfl⟩
def zkb (p c a k x y:Int):Bool:=
 if k=1 then decide (x < c) else if k=2 then decide (x < 4) && decide (y < c) else if k=3 then decide (1<=x) && decide (x<=8) && decide (x<=p - a)
 else if k=4 then decide (x < a) && decide (a - 8 < x) else true
theorem zxg(p c m a k x y:Int)(w:World)(l:0<=p)(i:p<=64)(j:0<=a)(b:a<=64):
  Calls Tryz.prog 155 #[.agg #[p,c,m],a,.agg #[k,x,y]] w fun e w'=>e= .returned (.bool (zkb p c a k x y))/\Below w.heap.size w w':=by
 go_in;go_wp2;all_goals go_ret
 all_goals refine⟨zg6 ?_,by go_grown⟩
 all_goals simp_all [zkb]
 all_goals omega
theorem zjr{p c m a:Int}(h:0<=zak p c m a):mayB p c m=true/\wi a 0 (p-1)=true:=by
 unfold zak at h;split at h
 ·assumption
 omega
def zal (p c m a x:Int):Bool:=(zb8 (zbx x) (za2 x 0) (za2 x 1)==x) && decide (0<=zak p c m a) && zkb p c a (zbx x) (za2 x 0) (za2 x 1)
theorem zk2(p c m a x:Int)(w:World)(O:0<=x)(R:x<18446744073709551616):
  Calls Tryz.prog 118 #[.agg #[p,c,m],a,.int .u64 x] w fun e w'=>Below w.heap.size w w'/\
   e= .returned (.tuple #[.agg (if zal p c m a x=true then #[.int .i64 (zbx x),.int .i64 (za2 x 0),.int .i64 (za2 x 1)] else #[.int .i64 0,.int .i64 0,.int .i64 0]),.bool (zal p c m a x)]):=by
 have r:=fun i=>ze8 x i;generalize Z:zbx x=k at *;generalize X:za2 x 0=A at *;generalize Y:za2 x 1=B at *;have s:zal p c m a x=((zb8 k A B==x)&&decide (0<=zak p c m a)&&zkb p c a k A B):=by rw[zal,Z,X,Y]
 have o:∀ w,Calls Tryz.prog 138 #[.int .u64 x] w fun e w'=>e= .returned (.int .i64 k)/\w'=w:=fun w=>Z ▸ zqi x w O R;have D:∀ w,Calls Tryz.prog 139 #[.int .u64 x,.int .i64 0] w fun e w'=>e= .returned (.int .i64 A)/\w'=w:=fun w=>X ▸ ze8 x 0 w O R (by omega);have E:∀ w,Calls Tryz.prog 139 #[.int .u64 x,.int .i64 1] w fun e w'=>e= .returned (.int .i64 B)/\w'=w:=fun w=>Y ▸ ze8 x 1 w O R (by omega);clear r Z X Y;cases hrb:zal p c m a x;all_goals
  rw[hrb]at s;replace s:=s.symm;first|rw[if_pos rfl]|rw[if_neg Bool.false_ne_true]
  clear hrb;go_in;go_upto_region 2 with(first|(go_at_call 138;refine(o _).mono ?_;rintro e z ⟨rfl,rfl⟩)|(go_at_call_of 139 (Value.int .i64 0);refine(D _).mono ?_;rintro e z ⟨rfl,rfl⟩)|(go_at_call_of 139 (Value.int .i64 1);refine(E _).mono ?_;rintro e z ⟨rfl,rfl⟩));clear o D E;obtain⟨bS,N,bP,b1,q⟩:=zh5 w (.cells #[p,c,m] 23) (.cells #[.int .i64 0,.int .i64 0,.int .i64 0] 128) (.cells #[k,A,B] 128);generalize (((w.alloc (.cells #[p,c,m] 23)).alloc (.cells #[.int .i64 0,.int .i64 0,.int .i64 0] 128)).alloc (.cells #[k,A,B] 128))=W at *;generalize L:w.heap.size=H at *;have cS:=zac bS;have G:=zac N;have I:=zax N;have cP:=zac bP;have l0:H<W.heap.size:=by omega
  have M:H+1<W.heap.size:=by omega
  have l2:H+1+1<W.heap.size:=by omega
  have hb:=Below.refl W.heap.size W;clear bS N bP
 ·by_cases y:zb8 k A B=x
  ·have C:(zb8 k A B !=x)=false:=by simpa using y
   by_cases J:0<=zak p c m a
   ·obtain⟨S,U⟩:=zjr J;have T:=zar.1 S;have V:=zbc.1 U;have h6:zkb p c a k A B=false:=by simpa[y,J] using s
    clear s y;go_wp2_with (first|(go_at_call 154;refine(zcd _ _ _ _).mono ?_;rintro e z ⟨rfl,b⟩;have hb:=zab hb b;have hc:=zi9 hb;have l:=zgi hb)|(go_at_call 119;refine(planPage_any _ _ _ _ _).mono ?_;rintro e w2 ⟨rfl,b⟩;have hb:=zab hb b;have hc:=zi9 hb;have l:=zgi hb)|(go_at_call 155;refine(zxg _ _ _ _ _ _ _ _ (by omega) (by omega) (by omega) (by omega)).mono ?_;rintro e w3 ⟨rfl,b⟩;have hb:=zab hb b;have hc:=zi9 hb;have l:=zgi hb));have j:Below H w w3:=q.trans (hb.mono (by omega));have n:=j;rw[<-L]at j;refine bodyPost_ret (v:= .tuple #[.agg #[.int .i64 0,.int .i64 0,.int .i64 0],.bool false]) (by simp[results,Tryz.results118,go_sem,hc,l,G,I,M]) rfl ⟨?_,rfl⟩;go_grown
   have b0:zak p c m a<0:=by omega
   clear s y;go_wp2_with (first|(go_at_call 154;refine(zcd _ _ _ _).mono ?_;rintro e z ⟨rfl,b⟩;have hb:=zab hb b;have hc:=zi9 hb;have l:=zgi hb)|(go_at_call 119;refine(planPage_any _ _ _ _ _).mono ?_;rintro e w2 ⟨rfl,b⟩;have hb:=zab hb b;have hc:=zi9 hb;have l:=zgi hb));have j:Below H w w2:=q.trans (hb.mono (by omega));have n:=j;rw[<-L]at j;refine bodyPost_ret (v:= .tuple #[.agg #[.int .i64 0,.int .i64 0,.int .i64 0],.bool false]) (by simp[results,Tryz.results118,go_sem,hc,l,G,I,M]) rfl ⟨?_,rfl⟩;go_grown
  have C:(zb8 k A B !=x)=true:=by simpa using y
  clear s;go_wp2_with (first|(go_at_call 154;refine(zcd _ _ _ _).mono ?_;rintro e z ⟨rfl,b⟩;have hb:=zab hb b;have hc:=zi9 hb;have l:=zgi hb));have j:Below H w z:=q.trans (hb.mono (by omega));have n:=j;rw[<-L]at j;refine bodyPost_ret (v:= .tuple #[.agg #[.int .i64 0,.int .i64 0,.int .i64 0],.bool false]) (by simp[results,Tryz.results118,go_sem,hc,l,G,I,M]) rfl ⟨?_,rfl⟩;go_grown
 have F:=s;simp only[Bool.and_eq_true,beq_iff_eq,decide_eq_true_eq]at F;obtain⟨⟨y,J⟩,h6⟩:=F;have C:(zb8 k A B !=x)=false:=by simpa using y
 obtain⟨S,U⟩:=zjr J;have T:=zar.1 S;have V:=zbc.1 U;clear s y;go_wp2_with (first|(go_at_call 154;refine(zcd _ _ _ _).mono ?_;rintro e z ⟨rfl,b⟩;have hb:=zab hb b;have hc:=zi9 hb;have l:=zgi hb)|(go_at_call 119;refine(planPage_any _ _ _ _ _).mono ?_;rintro e w2 ⟨rfl,b⟩;have hb:=zab hb b;have hc:=zi9 hb;have l:=zgi hb)|(go_at_call 155;refine(zxg _ _ _ _ _ _ _ _ (by omega) (by omega) (by omega) (by omega)).mono ?_;rintro e w3 ⟨rfl,b⟩;have hb:=zab hb b;have hc:=zi9 hb;have l:=zgi hb));have j:Below H w w3:=q.trans (hb.mono (by omega));have n:=j;rw[<-L]at j;refine bodyPost_ret (v:= .tuple #[.agg #[k,A,B],.bool true]) (by simp[results,Tryz.results118,go_sem,hc,l,G,I,M]) rfl ⟨?_,rfl⟩;go_grown
def zbi (p c m x:Int):Bool:=(putV 1 [za2 x 0,za2 x 1,za2 x 2]==x) && decide (0<=zak p c m (za2 x 0)) && decide (za2 x 1 < zah (za2 x 2))
theorem zp3(p c m x:Int)(w:World)(M:0<=x)(N:x<18446744073709551616):
  Calls Tryz.prog 166 #[.agg #[p,c,m],.int .u64 x] w fun e w'=>Below w.heap.size w w'/\
   e= .returned (.tuple #[.agg (if zbi p c m x=true then #[.int .i64 (za2 x 0),.int .i64 (za2 x 1),.int .i64 (za2 x 2)] else #[.int .i64 0,.int .i64 0,.int .i64 0]),.bool (zbi p c m x)]):=by
 have n:=fun i=>ze8 x i;generalize O:za2 x 0=A at *;generalize R:za2 x 1=B at *;generalize S:za2 x 2=C at *;have o:zbi p c m x=((putV 1 [A,B,C]==x)&&decide (0<=zak p c m A)&&decide (B<zah C)):=by rw[zbi,O,R,S]
 have z:∀ w,Calls Tryz.prog 139 #[.int .u64 x,.int .i64 0] w fun e w'=>e= .returned (.int .i64 A)/\w'=w:=fun w=>O ▸ ze8 x 0 w M N (by omega);have D:∀ w,Calls Tryz.prog 139 #[.int .u64 x,.int .i64 1] w fun e w'=>e= .returned (.int .i64 B)/\w'=w:=fun w=>R ▸ ze8 x 1 w M N (by omega);have E:∀ w,Calls Tryz.prog 139 #[.int .u64 x,.int .i64 2] w fun e w'=>e= .returned (.int .i64 C)/\w'=w:=fun w=>S ▸ ze8 x 2 w M N (by omega);clear n O R S;cases hrb:zbi p c m x;all_goals
  rw[hrb]at o;replace o:=o.symm;first|rw[if_pos rfl]|rw[if_neg Bool.false_ne_true]
  clear hrb;go_in;go_upto_region 2 with(first|(go_at_call_of 139 (Value.int .i64 0);refine(z _).mono ?_;rintro e X ⟨rfl,rfl⟩)|(go_at_call_of 139 (Value.int .i64 1);refine(D _).mono ?_;rintro e X ⟨rfl,rfl⟩)|(go_at_call_of 139 (Value.int .i64 2);refine(E _).mono ?_;rintro e X ⟨rfl,rfl⟩));clear z D E;obtain⟨U,L,T,b0,l⟩:=zh5 w (.cells #[p,c,m] 23) (.cells #[.int .i64 0,.int .i64 0,.int .i64 0] 207) (.cells #[A,B,C] 207);generalize (((w.alloc (.cells #[p,c,m] 23)).alloc (.cells #[.int .i64 0,.int .i64 0,.int .i64 0] 207)).alloc (.cells #[A,B,C] 207))=W at *;generalize I:w.heap.size=H at *;have cS:=zac U;have F:=zac L;have G:=zax L;have cP:=zac T;have l0:H<W.heap.size:=by omega
  have J:H+1<W.heap.size:=by omega
  have l2:H+1+1<W.heap.size:=by omega
  clear U L T
 ·by_cases q:putV 1 [A,B,C]=x
  ·have s:(putV 1 [A,B,C] !=x)=false:=by simpa using q
   by_cases V:0<=zak p c m A
   ·have y:decide (zak p c m A<0)=false:=decide_eq_false (by omega);have Y:B>=zah C:=by simpa[q,V] using o
    clear o q;refine zaj (by kernel_rfl) (by kernel_rfl) ?_;repeat (go_big_quiet_step ((first|(go_at_call 184;exact zam (zes _ _ _ _))|(go_at_call 119;exact zam (planPage_any _ _ _ _ _))|(go_at_call 65;exact zdx (slots_any _ _)))))
    refine wpQuiet_nil ?_;rintro _ ⟨e,rfl⟩;go_wp2;have hc:=zi9 e.below;have r:=zgi e.below;have b:Below H w e.w:=l.trans (e.below.mono (by omega));have j:=b;rw[<-I]at b;refine bodyPost_ret (v:= .tuple #[.agg #[.int .i64 0,.int .i64 0,.int .i64 0],.bool false]) (by simp[results,Tryz.results166,go_sem,hc,r,F,G,J]) rfl ⟨?_,rfl⟩;go_grown
   have y:decide (zak p c m A<0)=true:=decide_eq_true (by omega);clear o q;refine zaj (by kernel_rfl) (by kernel_rfl) ?_;repeat (go_big_quiet_step ((first|(go_at_call 184;exact zam (zes _ _ _ _))|(go_at_call 119;exact zam (planPage_any _ _ _ _ _))|(go_at_call 65;exact zdx (slots_any _ _)))))
   refine wpQuiet_nil ?_;rintro _ ⟨e,rfl⟩;go_wp2;have hc:=zi9 e.below;have r:=zgi e.below;have b:Below H w e.w:=l.trans (e.below.mono (by omega));have j:=b;rw[<-I]at b;refine bodyPost_ret (v:= .tuple #[.agg #[.int .i64 0,.int .i64 0,.int .i64 0],.bool false]) (by simp[results,Tryz.results166,go_sem,hc,r,F,G,J]) rfl ⟨?_,rfl⟩;go_grown
  have s:(putV 1 [A,B,C] !=x)=true:=by simpa using q
  clear o;refine zaj (by kernel_rfl) (by kernel_rfl) ?_;repeat (go_big_quiet_step ((first|(go_at_call 184;exact zam (zes _ _ _ _))|(go_at_call 119;exact zam (planPage_any _ _ _ _ _))|(go_at_call 65;exact zdx (slots_any _ _)))))
  refine wpQuiet_nil ?_;rintro _ ⟨e,rfl⟩;go_wp2;have hc:=zi9 e.below;have r:=zgi e.below;have b:Below H w e.w:=l.trans (e.below.mono (by omega));have j:=b;rw[<-I]at b;refine bodyPost_ret (v:= .tuple #[.agg #[.int .i64 0,.int .i64 0,.int .i64 0],.bool false]) (by simp[results,Tryz.results166,go_sem,hc,r,F,G,J]) rfl ⟨?_,rfl⟩;go_grown
 simp only[Bool.and_eq_true,beq_iff_eq,decide_eq_true_eq]at o;obtain⟨⟨q,V⟩,Y⟩:=o;have s:(putV 1 [A,B,C] !=x)=false:=by simpa using q
 have y:decide (zak p c m A<0)=false:=decide_eq_false (by omega);have Z:¬ B>=zah C:=by omega
 clear q;refine zaj (by kernel_rfl) (by kernel_rfl) ?_;repeat (go_big_quiet_step ((first|(go_at_call 184;exact zam (zes _ _ _ _))|(go_at_call 119;exact zam (planPage_any _ _ _ _ _))|(go_at_call 65;exact zdx (slots_any _ _)))))
 refine wpQuiet_nil ?_;rintro _ ⟨e,rfl⟩;go_wp2;have hc:=zi9 e.below;have r:=zgi e.below;have b:Below H w e.w:=l.trans (e.below.mono (by omega));have j:=b;rw[<-I]at b;refine bodyPost_ret (v:= .tuple #[.agg #[A,B,C],.bool true]) (by simp[results,Tryz.results166,go_sem,hc,r,F,G,J]) rfl ⟨?_,rfl⟩;go_grown
def zet (x:Int):Bool:=zc3 (zbx x) (za2 x 0)==x
theorem zso(x:Int)(w:World)(D:0<=x)(E:x<18446744073709551616):
  Calls Tryz.prog 120 #[.int .u64 x] w fun e w'=>Below w.heap.size w w'/\
   e= .returned (.agg (if zet x=true then #[.int .i64 (zbx x),.int .i64 (za2 x 0)] else #[.int .i64 0,.int .i64 0])):=by
 generalize y:zbx x=k at *;generalize r:za2 x 0=A at *;have j:zet x=(zc3 k A==x):=by rw[zet,y,r]
 have i:∀ w,Calls Tryz.prog 138 #[.int .u64 x] w fun e w'=>e= .returned (.int .i64 k)/\w'=w:=fun w=>y ▸ zqi x w D E;have n:∀ w,Calls Tryz.prog 139 #[.int .u64 x,.int .i64 0] w fun e w'=>e= .returned (.int .i64 A)/\w'=w:=fun w=>r ▸ ze8 x 0 w D E (by omega);clear y r;cases hrb:zet x;all_goals
  rw[hrb]at j;replace j:=j.symm;first|rw[if_pos rfl]|rw[if_neg Bool.false_ne_true]
  clear hrb;go_in;go_upto_region 2 with(first|(go_at_call 138;refine(i _).mono ?_;rintro e o ⟨rfl,rfl⟩)|(go_at_call 139;refine(n _).mono ?_;rintro e o ⟨rfl,rfl⟩));clear i n;obtain⟨p,z,I,l⟩:=zc5 w (.cells #[.int .i64 0,.int .i64 0] 132) (.cells #[k,A] 132);generalize ((w.alloc (.cells #[.int .i64 0,.int .i64 0] 132)).alloc (.cells #[k,A] 132))=W at *;generalize F:w.heap.size=H at *;have B:=zac p;have C:=zax p;have J:=zac z;have G:H<W.heap.size:=by omega
  have L:H+1<W.heap.size:=by omega
  clear p z
 ·have q:(zc3 k A !=x)=true:=by simpa using j
  clear j;go_wp2_with (go_at_call 156;refine(zbl _ _ _).mono ?_;rintro e o ⟨rfl,hb⟩;have hc:=zi9 hb;have s:=zgi hb);have b:Below H w o:=l.trans (hb.mono (by omega));have m:=b;rw[<-F]at b;refine bodyPost_ret (v:= .agg #[.int .i64 0,.int .i64 0]) (by simp[results,Tryz.results120,go_sem,hc,s,B,C,G]) rfl ⟨?_,rfl⟩;go_grown
 have q:(zc3 k A !=x)=false:=by simpa using j
 clear j;go_wp2_with (go_at_call 156;refine(zbl _ _ _).mono ?_;rintro e o ⟨rfl,hb⟩;have hc:=zi9 hb;have s:=zgi hb);have b:Below H w o:=l.trans (hb.mono (by omega));have m:=b;rw[<-F]at b;refine bodyPost_ret (v:= .agg #[k,A]) (by simp[results,Tryz.results120,go_sem,hc,s,B,C,G]) rfl ⟨?_,rfl⟩;go_grown
end

section

def zcn (n:Int):Int:=if wi n 1 32=true then (if n<=4 then 0 else if n<=8 then 1 else if n<=16 then 2 else 3) else 0
def runV (n:Int):Int:=if wi n 33 512=true then (n - 1) / 64 + 1 else 0
def lenB (n:Int):Bool:=wi n 1 512
def lenV (n:Int):Int:=if wi n 1 32=true then zbj (zcn n) else runV n * 64
theorem zwh(n:Int):0<=zcn n/\zcn n<=3:=by unfold zcn;split<;>(try split)<;>(try split)<;>(try split)<;>omega
theorem zxo{n k:Int}(f:1<=n/\n<=32)(i:0<=k)(h:k<=zcn n):zbj k<n↔k<zcn n:=by
 have b:wi n 1 32=true:=zbc.2 f;unfold zcn at *;rw[if_pos b]at *;unfold zbj;split at h<;>(try split at h)<;>(try split at h)<;>(split<;>(try split)<;>(try split)<;>(try split)<;>(try split)<;>(try split)<;>(try split))<;>omega
theorem yc6(n:Int):0<=runV n/\runV n<=8:=by
 unfold runV;split
 ·rename_i h;have:=zbc.1 h;omega
 omega
theorem znt(k:Int):0<=zbj k/\zbj k<=32:=by unfold zbj;split<;>(try split)<;>(try split)<;>(try split)<;>omega
theorem zcy(k:Int):0<=zah k/\zah k<=16:=by unfold zah;split<;>(try split)<;>(try split)<;>(try split)<;>omega
theorem zzh{k:Int}(h:0<=k/\k<=3):zbj k*zah k=64:=by
 have:k=0\/k=1\/k=2\/k=3:=by omega
 rcases this with rfl|rfl|rfl|rfl<;>rfl
def zb6 (p c m:Int):Int:=if mayB p c m=true then c + p + p * 16 + c * m else 0
def zae (p c m x:Int):Int:=if mayB p c m=true/\wi x 0 (c - 1)=true then x else -1
def zbk (p c m a i:Int):Int:=if mayB p c m=true/\wi a 0 (p - 1)=true/\wi i 0 15=true then c + p + a * 16 + i else -1
def ze9 (p c m x i:Int):Int:=if mayB p c m=true/\wi x 0 (c - 1)=true/\wi i 0 (m - 1)=true then c + p + p * 16 + x * m + i else -1
theorem zk3{c m C M:Int}(hc:0<=c/\c<=C)(b:0<=m/\m<=M):0<=c*m/\c*m<=C*M:=
 ⟨Int.mul_nonneg hc.1 b.1,Int.mul_le_mul hc.2 b.2 b.1 (by omega)⟩
theorem z6x(p c m:Int):0<=zb6 p c m/\zb6 p c m<=1196:=by
 unfold zb6;split
 ·rename_i h;have h:=zar.1 h;have:=zk3 (c:=c) (m:=m) (C:=12) (M:=8) (by omega) (by omega);omega
 omega
structure Sh where
 p:Int
 c:Int
 m:Int
 deriving DecidableEq
structure Acc where
 c:Int
 k:Int
 a:Int
 was:Int
 put:Int
 ok:Bool
 deriving DecidableEq
structure Mem where
 ws:List Int
 st:Int
 la:Acc
def Mem.get (m:Mem) (a:Int):Int:=m.ws.getD a.toNat 0
def Mem.load (m:Mem) (c a:Int):Mem:=⟨m.ws,m.st + 1,⟨c,0,a,m.get a,0,true⟩⟩
def Mem.store (m:Mem) (c a x:Int):Mem:=⟨m.ws.set a.toNat x,m.st + 1,⟨c,1,a,m.get a,x,true⟩⟩
def Mem.swap (m:Mem) (c a was x:Int):Mem:=⟨if m.get a=was then m.ws.set a.toNat x else m.ws,m.st + 1,⟨c,2,a,m.get a,x,decide (m.get a=was)⟩⟩
def Mem.fit (m:Mem):Prop:=∀ x ∈ m.ws,0<=x/\x < 18446744073709551616
def Mem.has (m:Mem) (a:Int):Prop:=0<=a/\a < (m.ws.length:Int)
def zc8 (k:Int):Int:=zc3 1 k
def wayW (c:Int):Int:=zc3 2 c
def zfl (k:Int):Int:=zc3 3 k
def zf4 (c:Int):Int:=zb8 1 c 0
structure Tk where
 c:Int
 k:Int
 i:Int
 ep:Int
 es:Int
 ek:Int
 hit:Bool
 found:Bool
 done:Bool
 deriving DecidableEq
def zg3 (s:Sh) (c k:Int):Tk:=⟨c,k,0,0,0,0,false,false, !(decide (0<=zae s.p s.c s.m c) && decide (0 < zah k)) || s.m==0⟩
def zd2 (s:Sh) (t:Tk) (m:Mem):Tk × Mem:=
 if t.done=true then (t,m)
 else if t.hit=true then ({ t with found:=true,done:=true },m.store t.c (ze9 s.p s.c s.m t.c t.i) 0)
 else
  let x:=m.get (ze9 s.p s.c s.m t.c t.i)
  let m':=m.load t.c (ze9 s.p s.c s.m t.c t.i)
  if zbi s.p s.c s.m x=true/\za2 x 2=t.k then ({ t with ep:=za2 x 0,es:=za2 x 1,ek:=za2 x 2,hit:=true },m')
  else ({ t with i:=t.i + 1,done:=decide (t.i + 1=s.m) },m')
structure Pu where
 c:Int
 i:Int
 ep:Int
 es:Int
 ek:Int
 hit:Bool
 put:Bool
 done:Bool
 deriving DecidableEq
def zg5 (s:Sh) (c pg sl k:Int):Pu:=⟨c,0,pg,sl,k,false,false, !(decide (0<=zae s.p s.c s.m c) && decide (0 < zah k) && decide (0<=zak s.p s.c s.m pg) && decide (0<=sl) && decide (sl < zah k)) || s.m==0⟩
def zd3 (s:Sh) (t:Pu) (m:Mem):Pu × Mem:=
 if t.done=true then (t,m)
 else if t.hit=true then ({ t with put:=true,done:=true },m.store t.c (ze9 s.p s.c s.m t.c t.i) (putV 1 [t.ep,t.es,t.ek]))
 else
  let m':=m.load t.c (ze9 s.p s.c s.m t.c t.i)
  if m.get (ze9 s.p s.c s.m t.c t.i)=0 then ({ t with hit:=true },m')
  else ({ t with i:=t.i + 1,done:=decide (t.i + 1=s.m) },m')
structure Sc where
 c:Int
 k:Int
 first:Int
 many:Int
 i:Int
 next:Int
 found:Bool
 done:Bool
 deriving DecidableEq
def ziq (s:Sh) (c k first:Int):Sc:=⟨c,k,first,0,0,0,false, !(decide (0<=zae s.p s.c s.m c) && decide (0 < zah k) && decide (0<=zak s.p s.c s.m first))⟩
def Sc.page (s:Sh) (t:Sc):Int:=(t.first + t.many) % s.p
def Sc.turn (s:Sh) (t:Sc):Sc:= { t with many:=t.many + 1,i:=0,next:=0,done:=decide (t.many + 1=s.p) }
def Sc.miss (s:Sh) (t:Sc):Sc:=if t.i + 1=zah t.k then ({ t with i:=t.i + 1,next:=1 }:Sc).turn s else { t with i:=t.i + 1,next:=1 }
def zed (s:Sh) (t:Sc) (m:Mem):Sc × Mem:=
 if t.done=true then (t,m)
 else
  let at':=zbk s.p s.c s.m (t.page s) t.i
  let pg:=zak s.p s.c s.m (t.page s)
  if t.next=0 then
   let x:=m.get pg
   (if zal s.p s.c s.m (t.page s) x=true/\zbx x=2/\za2 x 0=t.k then { t with next:=1 } else t.turn s,m.load t.c pg)
  else if t.next=1 then (if m.get at'=zc8 t.k then { t with next:=2 } else t.miss s,m.load t.c at')
  else (if m.get at'=zc8 t.k then { t with found:=true,done:=true } else t.miss s,m.swap t.c at' (zc8 t.k) (wayW t.c))
structure Pc where
 c:Int
 first:Int
 many:Int
 empty:Bool
 found:Bool
 done:Bool
 deriving DecidableEq
def zlu (s:Sh) (c first:Int):Pc:=⟨c,first,0,false,false,decide (zae s.p s.c s.m c < 0) || decide (zak s.p s.c s.m first < 0)⟩
def Pc.page (s:Sh) (t:Pc):Int:=(t.first + t.many) % s.p
def ze7 (s:Sh) (t:Pc) (m:Mem):Pc × Mem:=
 if t.done=true then (t,m)
 else
  let at':=zak s.p s.c s.m (t.page s)
  if t.empty=false then
   (if m.get at'=0 then { t with empty:=true } else { t with empty:=false,many:=t.many + 1,done:=decide (t.many + 1=s.p) },m.load t.c at')
  else
   (if m.get at'=0 then { t with found:=true,done:=true } else { t with empty:=false,many:=t.many + 1,done:=decide (t.many + 1=s.p) },m.swap t.c at' 0 (zf4 t.c))
structure Sp where
 c:Int
 page:Int
 k:Int
 i:Int
 back:Bool
 held:Bool
 done:Bool
 deriving DecidableEq
def zfa (s:Sh) (c page k:Int):Sp:=⟨c,page,k,0,false,false, !(decide (0<=zae s.p s.c s.m c) && decide (0<=zak s.p s.c s.m page) && decide (0 < zah k))⟩
def zdu (s:Sh) (t:Sp) (m:Mem):Sp × Mem:=
 if t.done=true then (t,m)
 else if t.back=true then ({ t with i:=t.i - 1,done:=decide (t.i - 1=0) },m.store t.c (zbk s.p s.c s.m t.page (t.i - 1)) (zc8 t.k))
 else if t.i=zah t.k then ({ t with held:=true,done:=true },m.store t.c (zak s.p s.c s.m t.page) (zf4 t.c))
 else
  (if m.get (zbk s.p s.c s.m t.page t.i)=zc8 t.k then { t with i:=t.i + 1 } else { t with back:=true,done:=decide (t.i=0) },m.swap t.c (zbk s.p s.c s.m t.page t.i) (zc8 t.k) (wayW t.c))
structure Bn where
 c:Int
 page:Int
 k:Int
 i:Int
 bound:Bool
 done:Bool
 deriving DecidableEq
def zfi (s:Sh) (c page k:Int):Bn:=⟨c,page,k,0,false, !(decide (0<=zae s.p s.c s.m c) && decide (0<=zak s.p s.c s.m page) && decide (0 < zah k))⟩
def ze6 (s:Sh) (t:Bn) (m:Mem):Bn × Mem:=
 if t.done=true then (t,m)
 else if t.bound=true then ({ t with i:=t.i - 1,done:=decide (t.i - 1=0) },m.store t.c (zbk s.p s.c s.m t.page t.i) (zc8 t.k))
 else if t.i=16 then ({ t with bound:=true,i:=zah t.k - 1 },m.store t.c (zak s.p s.c s.m t.page) (zb8 2 t.k t.c))
 else ({ t with i:=t.i + 1 },m.store t.c (zbk s.p s.c s.m t.page t.i) (if t.i < zah t.k then wayW t.c else 0))
end

end Go.Proofs.YtkbddndcegpllaaGreat
