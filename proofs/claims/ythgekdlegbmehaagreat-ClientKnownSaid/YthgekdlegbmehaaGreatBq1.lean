/- Texts bound together: Base EvP PackP PackW PlanP PlanW PackR. -/
import Derived.Test.YthgekdlegbmehaaGreatRows

import Derived.Handy

import Derived.WalkSpells

import Derived.Lib.Hide

import Derived.Laws.CopyOwn

import Derived.WalkLawsBesides

import Derived.Deep.QuietTactic

import Derived.BigQuiet

import Derived.RegionTactic

import Derived.Deep.RegionHeld3

import Derived.Deep.DeepCutAuto

import Derived.Laws.BitsLemmas

import Derived.Laws.BitsAllLaws

import Derived.Deep.RegionWith

set_option linter.all false
set_option maxHeartbeats 1000000
set_option maxRecDepth 100000
namespace Go.Proofs.YthgekdlegbmehaaGreat

section

open Go.RowKit

theorem zf5 {k:IntKind} {a b:Int} (h:a=b):Ending.returned (.int k a)=Ending.returned (.int k b):=by rw [h]
theorem zg6 {a b:Bool} (h:a=b):Ending.returned (.bool a)=Ending.returned (.bool b):=by rw [h]
theorem ycx {p q:Bool} (h:p=true↔q=true):(p==q)=true:=by cases p <;> cases q <;> simp_all
theorem zqe {w:World} {b o:Nat} {v:Value} (h:w.cell? ⟨b,o,.none⟩=some v):b < w.heap.size:=by
 rcases Nat.lt_or_ge b w.heap.size with h' | h'
 ·exact h'
 ·simp [World.cell?,Array.getElem?_eq_none h'] at h
theorem ci {w:World} {p:Addr} (n:Int) (h:w.cell? p=some (.int .i64 n)):w.cell? p=some (.int .i64 n):=h
theorem ce {w:World} {p:Addr} (v:Value) (h:w.cell? p=some v):w.cell? p=some v:=h
theorem ci3 {w:World} {q:Nat} (a b c:Int) {t:List Value} (hh:∀ i,w.cell? ⟨q,i,.none⟩=(Array.mk (.int .i64 a:: .int .i64 b:: .int .i64 c::t))[i]?):w.cell? ⟨q,0,.none⟩=some (.int .i64 a)/\w.cell? ⟨q,1,.none⟩=some (.int .i64 b)/\w.cell? ⟨q,2,.none⟩=some (.int .i64 c):=⟨hh 0,hh 1,hh 2⟩
theorem ci4 {w:World} {q:Nat} (a b c d:Int) {t:List Value} (hh:∀ i,w.cell? ⟨q,i,.none⟩=(Array.mk (.int .i64 a:: .int .i64 b:: .int .i64 c:: .int .i64 d::t))[i]?):w.cell? ⟨q,0,.none⟩=some (.int .i64 a)/\w.cell? ⟨q,1,.none⟩=some (.int .i64 b)/\w.cell? ⟨q,2,.none⟩=some (.int .i64 c)/\w.cell? ⟨q,3,.none⟩=some (.int .i64 d):=⟨hh 0,hh 1,hh 2,hh 3⟩
theorem ci5 {w:World} {q:Nat} (a b c d e:Int) {t:List Value} (hh:∀ i,w.cell? ⟨q,i,.none⟩=(Array.mk (.int .i64 a:: .int .i64 b:: .int .i64 c:: .int .i64 d:: .int .i64 e::t))[i]?):w.cell? ⟨q,0,.none⟩=some (.int .i64 a)/\w.cell? ⟨q,1,.none⟩=some (.int .i64 b)/\w.cell? ⟨q,2,.none⟩=some (.int .i64 c)/\w.cell? ⟨q,3,.none⟩=some (.int .i64 d)/\w.cell? ⟨q,4,.none⟩=some (.int .i64 e):=⟨hh 0,hh 1,hh 2,hh 3,hh 4⟩
theorem ci6 {w:World} {q:Nat} (a b c d e f:Int) {t:List Value} (hh:∀ i,w.cell? ⟨q,i,.none⟩=(Array.mk (.int .i64 a:: .int .i64 b:: .int .i64 c:: .int .i64 d:: .int .i64 e:: .int .i64 f::t))[i]?):w.cell? ⟨q,0,.none⟩=some (.int .i64 a)/\w.cell? ⟨q,1,.none⟩=some (.int .i64 b)/\w.cell? ⟨q,2,.none⟩=some (.int .i64 c)/\w.cell? ⟨q,3,.none⟩=some (.int .i64 d)/\w.cell? ⟨q,4,.none⟩=some (.int .i64 e)/\w.cell? ⟨q,5,.none⟩=some (.int .i64 f):=⟨hh 0,hh 1,hh 2,hh 3,hh 4,hh 5⟩
theorem ci7 {w:World} {q:Nat} (a b c d e f g:Int) {t:List Value} (hh:∀ i,w.cell? ⟨q,i,.none⟩=(Array.mk (.int .i64 a:: .int .i64 b:: .int .i64 c:: .int .i64 d:: .int .i64 e:: .int .i64 f:: .int .i64 g::t))[i]?):w.cell? ⟨q,0,.none⟩=some (.int .i64 a)/\w.cell? ⟨q,1,.none⟩=some (.int .i64 b)/\w.cell? ⟨q,2,.none⟩=some (.int .i64 c)/\w.cell? ⟨q,3,.none⟩=some (.int .i64 d)/\w.cell? ⟨q,4,.none⟩=some (.int .i64 e)/\w.cell? ⟨q,5,.none⟩=some (.int .i64 f)/\w.cell? ⟨q,6,.none⟩=some (.int .i64 g):=⟨hh 0,hh 1,hh 2,hh 3,hh 4,hh 5,hh 6⟩
theorem ci8 {w:World} {q:Nat} (a b c d e f g h:Int) {t:List Value} (hh:∀ i,w.cell? ⟨q,i,.none⟩=(Array.mk (.int .i64 a:: .int .i64 b:: .int .i64 c:: .int .i64 d:: .int .i64 e:: .int .i64 f:: .int .i64 g:: .int .i64 h::t))[i]?):w.cell? ⟨q,0,.none⟩=some (.int .i64 a)/\w.cell? ⟨q,1,.none⟩=some (.int .i64 b)/\w.cell? ⟨q,2,.none⟩=some (.int .i64 c)/\w.cell? ⟨q,3,.none⟩=some (.int .i64 d)/\w.cell? ⟨q,4,.none⟩=some (.int .i64 e)/\w.cell? ⟨q,5,.none⟩=some (.int .i64 f)/\w.cell? ⟨q,6,.none⟩=some (.int .i64 g)/\w.cell? ⟨q,7,.none⟩=some (.int .i64 h):=⟨hh 0,hh 1,hh 2,hh 3,hh 4,hh 5,hh 6,hh 7⟩
theorem hd' {p:Prop} (h:p):Hid p:=h
theorem hidv {α:Sort _} (a:α):∃ x,Hid (x=a)/\x=a:=⟨a,hd' rfl,rfl⟩
theorem lr {n:Nat}:n<=n:=Nat.le_refl n
theorem br {B:Nat} {w:World}:Below B w w:=Below.refl _ _
theorem wrp (n:Int) (h: -9223372036854775808<=n:=by omega) (k:n<=9223372036854775807:=by omega):IntKind.i64.wrap n=n:=IntWalk.i64_in n ⟨h,k⟩
theorem zai {w w':World} (hb:Below w.heap.size w w'):∀ b o v,w.cell? ⟨b,o,.none⟩=some v->w'.cell? ⟨b,o,.none⟩=some v:=
 fun b o v h=> by rw [hb.cell (zqe h)];exact h
theorem yff {B:Nat} {w a b:World} (hB:w.heap.size=B) (h:Below B w a) (hb:Below a.heap.size a b):Below B w b:=
 h.trans (hb.mono (by have:=h.size;omega))
theorem zab {w a b:World} (h:Below w.heap.size w a) (hb:Below a.heap.size a b):Below w.heap.size w b:=
 h.trans (hb.mono h.size)
theorem zi9 {W w1:World} (hb:Below W.heap.size W w1):∀ b o,b < W.heap.size->w1.cell? ⟨b,o,.none⟩=W.cell? ⟨b,o,.none⟩:=fun b o h=> hb.cell (p:=⟨b,o,.none⟩) h
theorem zgi {W w1:World} (hb:Below W.heap.size W w1):∀ b o,b < W.heap.size->w1.frozen? ⟨b,o,.none⟩=W.frozen? ⟨b,o,.none⟩:=fun b o h=> hb.frozen (p:=⟨b,o,.none⟩) h
theorem zac {w:World} {b:Nat} {cs:Array Value} {t:TypeId} (h:w.heap[b]?=some (.cells cs t (0,0))):∀ i,w.cell? ⟨b,i,.none⟩=cs[i]?:=fun i=> cell_of_row w b i cs t (0,0) h
theorem zax {w:World} {b:Nat} {cs:Array Value} {t:TypeId} (h:w.heap[b]?=some (.cells cs t (0,0))):∀ i,w.frozen? ⟨b,i,.none⟩=false:=fun i=> by simp [World.frozen?,h]
theorem zc5 (w:World) (a b:Obj):((w.alloc a).alloc b).heap[w.heap.size]?=some a/\((w.alloc a).alloc b).heap[w.heap.size + 1]?=some b/\((w.alloc a).alloc b).heap.size=w.heap.size + 2/\Below w.heap.size w ((w.alloc a).alloc b):=by
 refine ⟨?_,?_,by simp,by go_grown⟩
 ·rw [Below.heap_alloc _ _ _ (by simp)];exact heap_alloc_new w a
 ·have:=heap_alloc_new (w.alloc a) b
  simpa using this
theorem zh5 (w:World) (a b c:Obj):(((w.alloc a).alloc b).alloc c).heap[w.heap.size]?=some a/\(((w.alloc a).alloc b).alloc c).heap[w.heap.size + 1]?=some b/\(((w.alloc a).alloc b).alloc c).heap[w.heap.size + 1 + 1]?=some c/\(((w.alloc a).alloc b).alloc c).heap.size=w.heap.size + 3/\Below w.heap.size w (((w.alloc a).alloc b).alloc c):=by
 obtain ⟨h1,h2,h3,h4⟩:=zc5 w a b
 refine ⟨?_,?_,?_,by simp,by go_grown⟩
 ·rw [Below.heap_alloc _ _ _ (by omega)];exact h1
 ·rw [Below.heap_alloc _ _ _ (by omega)];exact h2
 ·have:=heap_alloc_new ((w.alloc a).alloc b) c
  rw [h3] at this
  exact this
def Ext (w:World):= { w':World // Below w.heap.size w w' }
def Ext.w {w:World} (e:Ext w):World:=e.val
instance Ext.there {w:World}:Nonempty (Ext w):=⟨⟨w,Below.refl _ _⟩⟩
theorem Ext.below {w:World} (e:Ext w):Below w.heap.size w e.w:=e.property
@[go_sem, simp] theorem Ext.cell {w : World} (e : Ext w) (b o : Nat) (h : b < w.heap.size) : e.w.cell? ⟨b, o,.none⟩ = w.cell? ⟨b, o,.none⟩ := e.below.cell (p := ⟨b, o,.none⟩) h
@[go_sem, simp] theorem Ext.frozen {w : World} (e : Ext w) (b o : Nat) (h : b < w.heap.size) : e.w.frozen? ⟨b, o,.none⟩ = w.frozen? ⟨b, o,.none⟩ := e.below.frozen (p := ⟨b, o,.none⟩) h
theorem zaj {P:Program} {id:Nat} {Q:Exit->Act->World->Prop} {a:Act} {w:World} {l:List Oper} (hm:P.follows .mixedOrders=true) (hB:Region.lexB .any l.toArray=true)
  (h:wpQuiet P l.toArray (fun w'=> ∃ e:Ext w,w'=e.w) (fun a'=> ∀ w',(∃ e:Ext w,w'=e.w)->Q .normal a' w') l a):(Code.region id l.toArray true).wp P Q a w:=
 wp_region_quiet (C:=fun w'=> ∃ e:Ext w,w'=e.w) hm hB ⟨⟨_,br.drew⟩,rfl⟩ (by simpa using h)
theorem zam {P:Program} {f:FuncId} {args:Array Value} {w:World} {e:Ext w} {v:Value}
  (h:Calls P f args e.w fun r w''=> r= .returned v/\Below e.w.heap.size e.w w''):Calls P f args e.w fun r w''=> r= .returned v/\∃ e2:Ext w,w''=e2.w:=
 h.mono fun _ w'' ⟨hr,hb⟩=> ⟨hr,⟨w'',zab e.below hb⟩,rfl⟩
theorem zdx {P:Program} {f:FuncId} {args:Array Value} {w:World} {e:Ext w} {v:Value}
  (h:Calls P f args e.w fun r w''=> r= .returned v/\w''=e.w):Calls P f args e.w fun r w''=> r= .returned v/\∃ e2:Ext w,w''=e2.w:=
 h.mono fun _ _ ⟨hr,hb⟩=> ⟨hr,e,hb⟩
end

section

structure Ev where
 k:Int
 c:Int
 ok:Int
 oa:Int
 on:Int
 at':Int
 n:Int
 er:Int
 deriving DecidableEq
def Ev.cells (e:Ev):Array Value:= #[.int .i64 e.k,.int .i64 e.c,.int .i64 e.ok,.int .i64 e.oa,.int .i64 e.on,.int .i64 e.at',.int .i64 e.n,.int .i64 e.er]
def Ev.val (e:Ev):Value:= .agg e.cells
def horner:List Int->Int
 | []=> 0
 | x::xs=> x + 256 * horner xs
def okB (x:Int):Bool:=decide (0<=x) && decide (x<=255)
def zjf (xs:List Int):Bool:=xs.all okB
def putV (k:Int) (xs:List Int):Int:=if zjf xs=true then k + 16 * horner xs else 0
theorem zuz {x:Int}:okB x=true↔0<=x/\x<=255:=by simp [okB]
theorem zm1 (n:Nat):(256:Int) ^ (n + 1)=256 * 256 ^ n:=by rw [Int.pow_succ,Int.mul_comm]
theorem zx8 (n:Nat):(0:Int) < 256 ^ n:=Int.pow_pos (by decide)
theorem zsp (xs:List Int) (h:zjf xs=true):0<=horner xs/\horner xs < 256 ^ xs.length:=by
 induction xs with
 | nil=> simp [horner]
 | cons x xs ih=>
  simp only [zjf,List.all_cons,Bool.and_eq_true] at h
  have hx:=zuz.1 h.1
  have:=ih h.2
  simp only [horner,List.length_cons,zm1]
  omega
theorem zvn (xs:List Int) (x:Int):horner (xs ++ [x])=horner xs + x * 256 ^ xs.length:=by
 induction xs with
 | nil=> simp [horner]
 | cons y xs ih=>
  simp only [List.cons_append,horner,ih,List.length_cons,zm1]
  rw [Int.mul_add,Int.mul_left_comm 256 x]
  omega
theorem zyh (xs:List Int) (x:Int):zjf (xs ++ [x])=(zjf xs && okB x):=by simp [zjf]
theorem zuv (xs:List Int) (j:Nat) (h:j < xs.length):xs.take (j + 1)=xs.take j ++ [xs.getD j 0]:=by
 rw [List.take_succ_eq_append_getElem h];simp [List.getD_eq_getElem?_getD,h]
theorem zkd (n:Int) (h0:0<=n) (h1:n < 18446744073709551616):IntKind.u64.wrap n=n:=by
 simp only [IntKind.wrap,IntKind.bits,IntKind.signed]
 simp
 omega
theorem ybi (acc x:Int) (j:Nat) (hj:j<=6) (h0:0<=acc) (h1:acc < 16 * 256 ^ j) (hx0:0<=x) (hx1:x<=255):
  bits .or .u64 acc (IntKind.u64.wrap (x * 2 ^ (4 + 8 * j)))=acc + 16 * (x * 256 ^ j):=by
 have hp:(2:Int) ^ (4 + 8 * j)=16 * 256 ^ j:=by
  rw [Int.pow_add,Int.pow_mul];rfl
 have hb:(256:Int) ^ j<=281474976710656:=by
  have:j=0\/j=1\/j=2\/j=3\/j=4\/j=5\/j=6:=by omega
  rcases this with rfl | rfl | rfl | rfl | rfl | rfl | rfl <;> decide
 have pp:=zx8 j
 have hm:x * (16 * 256 ^ j)<=255 * (16 * 256 ^ j):=Int.mul_le_mul_of_nonneg_right hx1 (by omega)
 have hm0:0<=x * (16 * 256 ^ j):=Int.mul_nonneg hx0 (by omega)
 have hw:IntKind.u64.wrap (x * 2 ^ (4 + 8 * j))=x * (16 * 256 ^ j):=by
  rw [hp];exact zkd _ hm0 (by omega)
 rw [hw]
 have hc:bits .or .u64 acc (x * (16 * 256 ^ j))=bits .or .u64 (x * (16 * 256 ^ j)) acc:=by simp only [bits,BitVec.or_comm]
 have hd:x * (16 * 256 ^ j) % 2 ^ (4 + 8 * j)=0:=by rw [hp];exact Int.mul_emod_left _ _
 rw [hc,bits_join .u64 64 (by decide) (fun n a b=> zkd n a b) (4 + 8 * j) _ _ hm0 hd (by omega) h0 (by omega) (by omega)]
 rw [Int.mul_left_comm];omega
theorem zw6 (k:Int) (xs:List Int) (j:Nat) (h:j < xs.length) (hx:xs[j] < 0\/255 < xs[j]):putV k xs=0:=by
 have:zjf xs≠true:=fun hc=> by
  have:=List.all_eq_true.1 hc xs[j] (List.getElem_mem h)
  have:=zuz.1 this
  omega
 rw [putV,if_neg this]
theorem z6p (k:Int) (xs:List Int) (j:Nat) (hk:0<=k) (hk2:k<=15) (hl:xs.length<=7) (h:j < xs.length) (h0:0<=xs[j]) (h1:xs[j]<=255) (hok:zjf (xs.take j)=true):
  bits .or .u64 (k + 16 * horner (xs.take j)) (IntKind.u64.wrap (xs[j] * 2 ^ (4 + 8 * j)))=k + 16 * horner (xs.take (j + 1))/\zjf (xs.take (j + 1))=true:=by
 have hb:=zsp _ hok
 have hlen:(xs.take j).length=j:=by simp;omega
 rw [hlen] at hb
 have hg:xs.getD j 0=xs[j]:=by simp [List.getD_eq_getElem?_getD,h]
 rw [zuv xs j h,zvn,zyh,hok,hlen,hg,ybi _ _ j (by omega) (by omega) (by omega) h0 h1]
 exact ⟨by omega,by simpa using zuz.2 ⟨h0,h1⟩⟩
theorem zqo (k:Int) (xs:List Int) (h:zjf xs=true):putV k xs=k + 16 * horner xs:=by rw [putV,if_pos h]
def zfm (k a b:Int):Bool:=decide (k < 0) || decide (4 < k) || (k==0 && a !=0) || (k !=2 && b !=0)
def zb8 (k a b:Int):Int:=if zfm k a b=true then 0 else putV k [a,b]
def zgy (k a:Int):Bool:=decide (k < 0) || decide (3 < k) || (k==0 && a !=0)
def zc3 (k a:Int):Int:=if zgy k a=true then 0 else putV k [a]
def zho (k a:Int):Bool:=decide (k < 0) || decide (4 < k) || (k !=3 && a !=0)
def za8 (k a:Int):Int:=if zho k a=true then 0 else putV k [a]
theorem z7p (k a:Int) (h0:0<=a) (h1:a<=255):putV k [a]=k + 16 * a:=by
 rw [zqo k _ (by simp [zjf,okB];omega)];simp [horner]
theorem z8d (k a b:Int) (h0:0<=a) (h1:a<=255) (h2:0<=b) (h3:b<=255):putV k [a,b]=k + 16 * a + 4096 * b:=by
 rw [zqo k _ (by simp [zjf,okB];omega)];simp [horner];omega
theorem yf0 (k a b c:Int) (h0:0<=a) (h1:a<=255) (h2:0<=b) (h3:b<=255) (h4:0<=c) (h5:c<=255):putV k [a,b,c]=k + 16 * a + 4096 * b + 1048576 * c:=by
 rw [zqo k _ (by simp [zjf,okB];omega)];simp [horner];omega
end

section

open Go.RowKit

theorem zua (k:Int) (xs:List Int) (b off:Nat) (w:World) (hk:0<=k) (hk2:k<=15) (hl:xs.length<=3)
  (hc:∀ i,i < xs.length->w.cell? ⟨b,off + i,.none⟩=some (.int .i64 (xs.getD i 0))):
  Calls Tryz.prog 136 #[.int .i64 k,.slice (some ⟨b,off,.none⟩) xs.length xs.length] w fun e w'=> e= .returned (.int .u64 (putV k xs))/\w'=w:=by
 go_enter Tryz.func136,Tryz.ntmps136
 go_wp2
 go_loop [4,5,12] (fun r v i=> ∃ j:Nat,j<=xs.length/\i= .int .i64 j/\r= .int .u64 0/\v= .int .u64 (k + 16 * horner (xs.take j))/\zjf (xs.take j)=true) (fun _ _ i=> xs.length - (intOf i).toNat)
 case atStart=> exact ⟨0,Nat.zero_le _,rfl,rfl,by simp [horner],by simp [zjf]⟩
 case round=>
  obtain ⟨j,hj,rfl,rfl,rfl,hok⟩:=hrel
  have hcell:j < xs.length->w.cell? ⟨b,off + j,.none⟩=some (.int .i64 (xs.getD j 0)):=fun h=> hc j h
  go_wp2
  case roundEnd=>
   have hs:=z6p k xs j hk hk2 (by omega) ‹_› (by omega) (by omega) hok
   exact ⟨⟨j + 1,by omega,by go_num,rfl,by rw [hs.1],hs.2⟩,by simp [intOf];omega⟩
  all_goals go_ret
  ·exact ⟨by rw [zw6 k xs j ‹_› (by omega)];rfl,rfl⟩
  ·exact ⟨by rw [zw6 k xs j ‹_› (by omega)];rfl,rfl⟩
  ·have e:xs.take j=xs:=List.take_of_length_le (by omega)
   rw [e] at hok ⊢
   exact ⟨by rw [zqo k xs hok];rfl,rfl⟩
theorem put1 (k a:Int) (b off:Nat) (w:World) (hk:0<=k) (hk2:k<=15) (h0:w.cell? ⟨b,off,.none⟩=some (.int .i64 a)):
  Calls Tryz.prog 136 #[.int .i64 k,.slice (some ⟨b,off,.none⟩) 1 1] w fun e w'=> e= .returned (.int .u64 (putV k [a]))/\w'=w:=
 zua k [a] b off w hk hk2 (by simp) (fun i hi=> by
  match i,hi with
  | 0,_=> exact h0)
theorem put2 (k a c:Int) (b off:Nat) (w:World) (hk:0<=k) (hk2:k<=15) (h0:w.cell? ⟨b,off,.none⟩=some (.int .i64 a)) (h1:w.cell? ⟨b,off + 1,.none⟩=some (.int .i64 c)):
  Calls Tryz.prog 136 #[.int .i64 k,.slice (some ⟨b,off,.none⟩) 2 2] w fun e w'=> e= .returned (.int .u64 (putV k [a,c]))/\w'=w:=
 zua k [a,c] b off w hk hk2 (by simp) (fun i hi=> by
  match i,hi with
  | 0,_=> exact h0
  | 1,_=> exact h1)
theorem put3 (k a c d:Int) (b off:Nat) (w:World) (hk:0<=k) (hk2:k<=15) (h0:w.cell? ⟨b,off,.none⟩=some (.int .i64 a)) (h1:w.cell? ⟨b,off + 1,.none⟩=some (.int .i64 c)) (h2:w.cell? ⟨b,off + 2,.none⟩=some (.int .i64 d)):
  Calls Tryz.prog 136 #[.int .i64 k,.slice (some ⟨b,off,.none⟩) 3 3] w fun e w'=> e= .returned (.int .u64 (putV k [a,c,d]))/\w'=w:=
 zua k [a,c,d] b off w hk hk2 (by simp) (fun i hi=> by
  match i,hi with
  | 0,_=> exact h0
  | 1,_=> exact h1
  | 2,_=> exact h2)
theorem zcd (k a b:Int) (w:World):
  Calls Tryz.prog 119 #[.agg #[.int .i64 k,.int .i64 a,.int .i64 b]] w fun e w'=> e= .returned (.int .u64 (zb8 k a b))/\Below w.heap.size w w':=by
 go_enter Tryz.func119,Tryz.ntmps119
 go_wp2_with (go_at_call 136;refine (put2 _ a b _ _ _ (by omega) (by omega) (by go_simp) (by go_simp)).mono ?_;rintro e w' ⟨rfl,rfl⟩)
 all_goals go_ret
 all_goals refine ⟨zf5 ?_,by go_grown⟩
 all_goals simp_all [zb8,zfm]
 all_goals omega
theorem zbl (k a:Int) (w:World):
  Calls Tryz.prog 121 #[.agg #[.int .i64 k,.int .i64 a]] w fun e w'=> e= .returned (.int .u64 (zc3 k a))/\Below w.heap.size w w':=by
 go_enter Tryz.func121,Tryz.ntmps121
 go_wp2_with (go_at_call 136;refine (put1 _ a _ _ _ (by omega) (by omega) (by go_simp)).mono ?_;rintro e w' ⟨rfl,rfl⟩)
 all_goals go_ret
 all_goals refine ⟨zf5 ?_,by go_grown⟩
 all_goals simp_all [zc3,zgy]
 all_goals omega
theorem zes (a b c:Int) (w:World):
  Calls Tryz.prog 150 #[.agg #[.int .i64 a,.int .i64 b,.int .i64 c]] w fun e w'=> e= .returned (.int .u64 (putV 1 [a,b,c]))/\Below w.heap.size w w':=by
 go_enter Tryz.func150,Tryz.ntmps150
 go_wp2_with (go_at_call 136;refine (put3 _ a b c _ _ _ (by omega) (by omega) (by go_simp) (by go_simp) (by go_simp)).mono ?_;rintro e w' ⟨rfl,rfl⟩)
 all_goals go_ret
 all_goals exact ⟨rfl,by go_grown⟩
theorem zgn (k a:Int) (w:World):
  Calls Tryz.prog 171 #[.int .i64 k,.int .i64 a] w fun e w'=> e= .returned (.int .u64 (za8 k a))/\Below w.heap.size w w':=by
 go_enter Tryz.func171,Tryz.ntmps171
 go_wp2_with (go_at_call 136;refine (put1 _ a _ _ _ (by omega) (by omega) (by go_simp)).mono ?_;rintro e w' ⟨rfl,rfl⟩)
 all_goals go_ret
 all_goals refine ⟨zf5 ?_,by go_grown⟩
 all_goals simp_all [za8,zho]
 all_goals omega
end

section

def wi (n lo hi:Int):Bool:=decide (lo<=n) && decide (n<=hi)
theorem zbc {n lo hi:Int}:wi n lo hi=true↔lo<=n/\n<=hi:=by simp [wi]
theorem zgo {n lo hi:Int}:wi n lo hi=false↔¬ (lo<=n/\n<=hi):=by rw [<- zbc];simp
def mayB (p c m:Int):Bool:=wi p 1 64 && wi c 1 12 && wi m 0 8
theorem zar {p c m:Int}:mayB p c m=true↔1<=p/\p<=64/\1<=c/\c<=12/\0<=m/\m<=8:=by
 simp only [mayB,Bool.and_eq_true,zbc];omega
def zak (p c m at':Int):Int:=if mayB p c m=true/\wi at' 0 (p - 1)=true then c + at' else -1
def zbj (k:Int):Int:=if k=0 then 4 else if k=1 then 8 else if k=2 then 16 else if k=3 then 32 else 0
def zah (k:Int):Int:=if k=0 then 16 else if k=1 then 8 else if k=2 then 4 else if k=3 then 2 else 0
end

section

open Go.RowKit

theorem za9 (n lo hi:Int) (w:World):
  Calls Tryz.prog 31 #[.int .i64 n,.int .i64 lo,.int .i64 hi] w fun e w'=> e= .returned (.bool (wi n lo hi))/\w'=w:=by
 go_enter Tryz.func31,Tryz.ntmps31
 go_wp2
 all_goals go_ret
 all_goals refine ⟨zg6 ?_,rfl⟩
 all_goals simp [wi]
 all_goals omega
theorem zcc (p c m:Int) (w:World):
  Calls Tryz.prog 30 #[.agg #[.int .i64 p,.int .i64 c,.int .i64 m]] w fun e w'=> e= .returned (.bool (mayB p c m))/\w'=w.alloc (.cells #[.int .i64 p,.int .i64 c,.int .i64 m] 24):=by
 have h1:wi p 1 64=true\/wi p 1 64=false:=by cases wi p 1 64 <;> simp
 have h2:wi c 1 12=true\/wi c 1 12=false:=by cases wi c 1 12 <;> simp
 rcases h1 with h1 | h1 <;> rcases h2 with h2 | h2 <;>
 ·go_enter Tryz.func30,Tryz.ntmps30
  go_wp2_with (go_at_call 31;refine (za9 _ _ _ _).mono ?_;rintro e w' ⟨rfl,rfl⟩)
  go_ret
  exact ⟨zg6 (by simp [mayB,h1,h2]),rfl⟩
set_option maxHeartbeats 400000 in
theorem planPage_any (p c m a:Int) (w:World):
    Calls Tryz.prog 59 #[.agg #[.int .i64 p,.int .i64 c,.int .i64 m],.int .i64 a] w fun e w'=> e= .returned (.int .i64 (zak p c m a))/\Below w.heap.size w w':=by
  by_cases h1:mayB p c m=true
  · have hb:=zar.1 h1
    have hp1:wrap64 (p - 1)=p - 1:=IntWalk.wrap64_in _ ⟨by omega,by omega⟩
    by_cases h2:wi a 0 (p - 1)=true
    · have hb2:=zbc.1 h2
      go_enter Tryz.func59,Tryz.ntmps59
      go_wp2_with (first
        | (go_at_call 30;refine (zcc _ _ _ _).mono ?_;rintro e w1 ⟨rfl,rfl⟩)
        | (go_at_call 31;refine (za9 _ _ _ _).mono ?_;rintro e w' ⟨rfl,rfl⟩))
      go_ret
      exact ⟨zf5 (by rw [zak,if_pos ⟨h1,h2⟩]),by go_grown⟩
    · have h2':wi a 0 (p - 1)=false:=by simpa using h2
      clear h2
      go_enter Tryz.func59,Tryz.ntmps59
      go_wp2_with (first
        | (go_at_call 30;refine (zcc _ _ _ _).mono ?_;rintro e w1 ⟨rfl,rfl⟩)
        | (go_at_call 31;refine (za9 _ _ _ _).mono ?_;rintro e w' ⟨rfl,rfl⟩))
      go_ret
      exact ⟨zf5 (by rw [zak,if_neg (by simp [h2'])]),by go_grown⟩
  · have h1':mayB p c m=false:=by simpa using h1
    clear h1
    go_enter Tryz.func59,Tryz.ntmps59
    go_wp2_with (first
      | (go_at_call 30;refine (zcc _ _ _ _).mono ?_;rintro e w1 ⟨rfl,rfl⟩)
      | (go_at_call 31;refine (za9 _ _ _ _).mono ?_;rintro e w' ⟨rfl,rfl⟩))
    go_ret
    exact ⟨zf5 (by rw [zak,if_neg (by simp [h1'])]),by go_grown⟩
set_option maxHeartbeats 400000 in
theorem slots_any (k:Int) (w:World):
    Calls Tryz.prog 58 #[.int .i64 k] w fun e w'=> e= .returned (.int .i64 (zah k))/\w'=w:=by
  by_cases h:0<=k/\k<=3
  · have h1:wi k 0 3=true:=zbc.2 h
    have:k=0\/k=1\/k=2\/k=3:=by omega
    rcases this with rfl | rfl | rfl | rfl <;>
    · go_enter Tryz.func58,Tryz.ntmps58
      go_wp2_with (go_at_call 31;refine (za9 _ _ _ _).mono ?_;rintro e w' ⟨rfl,rfl⟩)
      go_ret
      exact ⟨rfl,rfl⟩
  · have h1:wi k 0 3=false:=zgo.2 h
    go_enter Tryz.func58,Tryz.ntmps58
    go_wp2_with (go_at_call 31;refine (za9 _ _ _ _).mono ?_;rintro e w' ⟨rfl,rfl⟩)
    go_ret
    exact ⟨zf5 (by rw [zah,if_neg (by omega),if_neg (by omega),if_neg (by omega),if_neg (by omega)]),rfl⟩
set_option maxHeartbeats 400000 in
theorem refMay_any (p c m:Int) (w:World):
    Calls Tryz.prog 29 #[.agg #[.int .i64 p,.int .i64 c,.int .i64 m]] w fun e w'=> e= .returned (.bool (mayB p c m))/\w'=w.alloc (.cells #[.int .i64 p,.int .i64 c,.int .i64 m] 24):=by
  go_enter Tryz.func29,Tryz.ntmps29
  go_wp2
  all_goals go_ret
  all_goals refine ⟨zg6 ?_,rfl⟩
  all_goals (rw [Bool.eq_iff_iff,zar];simp;omega)
def zbx (x:Int):Int:=x % 16
def za2 (x:Int) (i:Nat):Int:=x / (16 * 256 ^ i) % 256
theorem zw3 (x:Int):0<=zbx x/\zbx x<=15:=by unfold zbx;omega
theorem zgv (x:Int) (i:Nat):0<=za2 x i/\za2 x i<=255:=by unfold za2;omega
theorem yf8 (x:Int) (h0:0<=x) (h1:x < 18446744073709551616):bits .and .u64 x 15=zbx x:=bits_mask .u64 64 (by decide) (fun n a b=> zkd n a b) 4 (by decide) x h0 h1
theorem z0b (x:Int) (h0:0<=x) (h1:x < 18446744073709551616):bits .and .u64 x 255=x % 256:=bits_mask .u64 64 (by decide) (fun n a b=> zkd n a b) 8 (by decide) x h0 h1
theorem zqi (x:Int) (w:World) (h0:0<=x) (h1:x < 18446744073709551616):
  Calls Tryz.prog 137 #[.int .u64 x] w fun e w'=> e= .returned (.int .i64 (zbx x))/\w'=w:=by
 have hb:=zw3 x
 have ha:=yf8 x h0 h1
 have hw:=wrp (zbx x)
 go_enter Tryz.func137,Tryz.ntmps137
 go_wp2
 all_goals go_ret
 all_goals exact ⟨rfl,rfl⟩
theorem zqh (x:Int) (i:Nat):x / 2 ^ (4 + 8 * i) % 256=za2 x i:=by
 unfold za2
 rw [Int.pow_add,Int.pow_mul];rfl
theorem ze8 (x:Int) (i:Nat) (w:World) (h0:0<=x) (h1:x < 18446744073709551616) (hi:i<=2):
  Calls Tryz.prog 138 #[.int .u64 x,.int .i64 i] w fun e w'=> e= .returned (.int .i64 (za2 x i))/\w'=w:=by
 have hb:=zgv x i
 have hw:=wrp (za2 x i)
 have:i=0\/i=1\/i=2:=by omega
 rcases this with rfl | rfl | rfl
 ·have ha:=z0b (x / 16) (by omega) (by omega)
  have hs:x / 16 % 256=za2 x 0:=zqh x 0
  rw [hs] at ha
  clear hs
  go_enter Tryz.func138,Tryz.ntmps138
  go_wp2
  all_goals go_ret
  all_goals exact ⟨rfl,rfl⟩
 ·have ha:=z0b (x / 4096) (by omega) (by omega)
  have hs:x / 4096 % 256=za2 x 1:=zqh x 1
  rw [hs] at ha
  clear hs
  go_enter Tryz.func138,Tryz.ntmps138
  go_wp2
  all_goals go_ret
  all_goals exact ⟨rfl,rfl⟩
 ·have ha:=z0b (x / 1048576) (by omega) (by omega)
  have hs:x / 1048576 % 256=za2 x 2:=zqh x 2
  rw [hs] at ha
  clear hs
  go_enter Tryz.func138,Tryz.ntmps138
  go_wp2
  all_goals go_ret
  all_goals exact ⟨rfl,rfl⟩
def zkb (p c a k x y:Int):Bool:=
 if k=1 then decide (x < c) else if k=2 then decide (x < 4) && decide (y < c) else if k=3 then decide (1<=x) && decide (x<=8) && decide (x<=p - a)
 else if k=4 then decide (x < a) && decide (a - 8 < x) else true
theorem zxg (p c m a k x y:Int) (w:World) (hp:0<=p) (hp2:p<=64) (ha:0<=a) (ha2:a<=64):
  Calls Tryz.prog 139 #[.agg #[.int .i64 p,.int .i64 c,.int .i64 m],.int .i64 a,.agg #[.int .i64 k,.int .i64 x,.int .i64 y]] w fun e w'=> e= .returned (.bool (zkb p c a k x y))/\Below w.heap.size w w':=by
 go_enter Tryz.func139,Tryz.ntmps139
 go_wp2
 all_goals go_ret
 all_goals refine ⟨zg6 ?_,by go_grown⟩
 all_goals simp_all [zkb]
 all_goals omega
theorem zjr {p c m a:Int} (h:0<=zak p c m a):mayB p c m=true/\wi a 0 (p - 1)=true:=by
 unfold zak at h
 split at h
 ·assumption
 ·omega
def zal (p c m a x:Int):Bool:=(zb8 (zbx x) (za2 x 0) (za2 x 1)==x) && decide (0<=zak p c m a) && zkb p c a (zbx x) (za2 x 0) (za2 x 1)
theorem zk2 (p c m a x:Int) (w:World) (h0:0<=x) (h1:x < 18446744073709551616):
  Calls Tryz.prog 122 #[.agg #[.int .i64 p,.int .i64 c,.int .i64 m],.int .i64 a,.int .u64 x] w fun e w'=> Below w.heap.size w w'/\
   e= .returned (.tuple #[.agg (if zal p c m a x=true then #[.int .i64 (zbx x),.int .i64 (za2 x 0),.int .i64 (za2 x 1)] else #[.int .i64 0,.int .i64 0,.int .i64 0]),.bool (zal p c m a x)]):=by
 have hparts:=fun i=> ze8 x i
 generalize hk:zbx x=k at *
 generalize hA:za2 x 0=A at *
 generalize hB:za2 x 1=B at *
 have hr:zal p c m a x=((zb8 k A B==x) && decide (0<=zak p c m a) && zkb p c a k A B):=by rw [zal,hk,hA,hB]
 have hkind:∀ w,Calls Tryz.prog 137 #[.int .u64 x] w fun e w'=> e= .returned (.int .i64 k)/\w'=w:=fun w=> hk ▸ zqi x w h0 h1
 have hp0:∀ w,Calls Tryz.prog 138 #[.int .u64 x,.int .i64 0] w fun e w'=> e= .returned (.int .i64 A)/\w'=w:=fun w=> hA ▸ ze8 x 0 w h0 h1 (by omega)
 have hp1:∀ w,Calls Tryz.prog 138 #[.int .u64 x,.int .i64 1] w fun e w'=> e= .returned (.int .i64 B)/\w'=w:=fun w=> hB ▸ ze8 x 1 w h0 h1 (by omega)
 clear hparts hk hA hB
 cases hrb:zal p c m a x
 all_goals
  rw [hrb] at hr
  replace hr:=hr.symm
  first | rw [if_pos rfl] | rw [if_neg Bool.false_ne_true]
  clear hrb
  go_enter Tryz.func122,Tryz.ntmps122
  go_upto_region 2 with (first
   | (go_at_call 137;refine (hkind _).mono ?_;rintro e w1 ⟨rfl,rfl⟩)
   | (go_at_call_of 138 (Value.int .i64 0);refine (hp0 _).mono ?_;rintro e w1 ⟨rfl,rfl⟩)
   | (go_at_call_of 138 (Value.int .i64 1);refine (hp1 _).mono ?_;rintro e w1 ⟨rfl,rfl⟩))
  clear hkind hp0 hp1
  obtain ⟨bS,bR,bP,hsz,hbW⟩:=zh5 w (.cells #[.int .i64 p,.int .i64 c,.int .i64 m] 24) (.cells #[.int .i64 0,.int .i64 0,.int .i64 0] 120) (.cells #[.int .i64 k,.int .i64 A,.int .i64 B] 120)
  generalize (((w.alloc (.cells #[.int .i64 p,.int .i64 c,.int .i64 m] 24)).alloc (.cells #[.int .i64 0,.int .i64 0,.int .i64 0] 120)).alloc (.cells #[.int .i64 k,.int .i64 A,.int .i64 B] 120))=W at *
  generalize hH:w.heap.size=H at *
  have cS:=zac bS
  have cR:=zac bR
  have fR:=zax bR
  have cP:=zac bP
  have l0:H < W.heap.size:=by omega
  have l1:H + 1 < W.heap.size:=by omega
  have l2:H + 1 + 1 < W.heap.size:=by omega
  have hb:=Below.refl W.heap.size W
  clear bS bR bP
 ·by_cases h2:zb8 k A B=x
  ·have h2':(zb8 k A B !=x)=false:=by simpa using h2
   by_cases h3:0<=zak p c m a
   ·obtain ⟨h4,h5⟩:=zjr h3
    have h4':=zar.1 h4
    have h5':=zbc.1 h5
    have h6:zkb p c a k A B=false:=by simpa [h2,h3] using hr
    clear hr h2
    go_wp2_with (first
     | (go_at_call 119;refine (zcd _ _ _ _).mono ?_;rintro e w1 ⟨rfl,hb1⟩;have hb:=zab hb hb1;have hc:=zi9 hb;have hf:=zgi hb)
     | (go_at_call 59;refine (planPage_any _ _ _ _ _).mono ?_;rintro e w2 ⟨rfl,hb1⟩;have hb:=zab hb hb1;have hc:=zi9 hb;have hf:=zgi hb)
     | (go_at_call 139;refine (zxg _ _ _ _ _ _ _ _ (by omega) (by omega) (by omega) (by omega)).mono ?_;rintro e w3 ⟨rfl,hb1⟩;have hb:=zab hb hb1;have hc:=zi9 hb;have hf:=zgi hb))
    have hbb:Below H w w3:=hbW.trans (hb.mono (by omega))
    have hbb0:=hbb
    rw [<- hH] at hbb
    refine bodyPost_ret (v:= .tuple #[.agg #[.int .i64 0,.int .i64 0,.int .i64 0],.bool false]) (by simp [results,Tryz.results122,go_sem,hc,hf,cR,fR,l1]) rfl ⟨?_,rfl⟩
    go_grown
   ·have h3':zak p c m a < 0:=by omega
    clear hr h2
    go_wp2_with (first
     | (go_at_call 119;refine (zcd _ _ _ _).mono ?_;rintro e w1 ⟨rfl,hb1⟩;have hb:=zab hb hb1;have hc:=zi9 hb;have hf:=zgi hb)
     | (go_at_call 59;refine (planPage_any _ _ _ _ _).mono ?_;rintro e w2 ⟨rfl,hb1⟩;have hb:=zab hb hb1;have hc:=zi9 hb;have hf:=zgi hb))
    have hbb:Below H w w2:=hbW.trans (hb.mono (by omega))
    have hbb0:=hbb
    rw [<- hH] at hbb
    refine bodyPost_ret (v:= .tuple #[.agg #[.int .i64 0,.int .i64 0,.int .i64 0],.bool false]) (by simp [results,Tryz.results122,go_sem,hc,hf,cR,fR,l1]) rfl ⟨?_,rfl⟩
    go_grown
  ·have h2':(zb8 k A B !=x)=true:=by simpa using h2
   clear hr
   go_wp2_with (first
    | (go_at_call 119;refine (zcd _ _ _ _).mono ?_;rintro e w1 ⟨rfl,hb1⟩;have hb:=zab hb hb1;have hc:=zi9 hb;have hf:=zgi hb))
   have hbb:Below H w w1:=hbW.trans (hb.mono (by omega))
   have hbb0:=hbb
   rw [<- hH] at hbb
   refine bodyPost_ret (v:= .tuple #[.agg #[.int .i64 0,.int .i64 0,.int .i64 0],.bool false]) (by simp [results,Tryz.results122,go_sem,hc,hf,cR,fR,l1]) rfl ⟨?_,rfl⟩
   go_grown
 ·have hr':=hr
  simp only [Bool.and_eq_true,beq_iff_eq,decide_eq_true_eq] at hr'
  obtain ⟨⟨h2,h3⟩,h6⟩:=hr'
  have h2':(zb8 k A B !=x)=false:=by simpa using h2
  obtain ⟨h4,h5⟩:=zjr h3
  have h4':=zar.1 h4
  have h5':=zbc.1 h5
  clear hr h2
  go_wp2_with (first
   | (go_at_call 119;refine (zcd _ _ _ _).mono ?_;rintro e w1 ⟨rfl,hb1⟩;have hb:=zab hb hb1;have hc:=zi9 hb;have hf:=zgi hb)
   | (go_at_call 59;refine (planPage_any _ _ _ _ _).mono ?_;rintro e w2 ⟨rfl,hb1⟩;have hb:=zab hb hb1;have hc:=zi9 hb;have hf:=zgi hb)
   | (go_at_call 139;refine (zxg _ _ _ _ _ _ _ _ (by omega) (by omega) (by omega) (by omega)).mono ?_;rintro e w3 ⟨rfl,hb1⟩;have hb:=zab hb hb1;have hc:=zi9 hb;have hf:=zgi hb))
  have hbb:Below H w w3:=hbW.trans (hb.mono (by omega))
  have hbb0:=hbb
  rw [<- hH] at hbb
  refine bodyPost_ret (v:= .tuple #[.agg #[.int .i64 k,.int .i64 A,.int .i64 B],.bool true]) (by simp [results,Tryz.results122,go_sem,hc,hf,cR,fR,l1]) rfl ⟨?_,rfl⟩
  go_grown
def zbi (p c m x:Int):Bool:=(putV 1 [za2 x 0,za2 x 1,za2 x 2]==x) && decide (0<=zak p c m (za2 x 0)) && decide (za2 x 1 < zah (za2 x 2))
theorem zp3 (p c m x:Int) (w:World) (h0:0<=x) (h1:x < 18446744073709551616):
  Calls Tryz.prog 181 #[.agg #[.int .i64 p,.int .i64 c,.int .i64 m],.int .u64 x] w fun e w'=> Below w.heap.size w w'/\
   e= .returned (.tuple #[.agg (if zbi p c m x=true then #[.int .i64 (za2 x 0),.int .i64 (za2 x 1),.int .i64 (za2 x 2)] else #[.int .i64 0,.int .i64 0,.int .i64 0]),.bool (zbi p c m x)]):=by
 have hparts:=fun i=> ze8 x i
 generalize hA:za2 x 0=A at *
 generalize hB:za2 x 1=B at *
 generalize hC:za2 x 2=C at *
 have hr:zbi p c m x=((putV 1 [A,B,C]==x) && decide (0<=zak p c m A) && decide (B < zah C)):=by rw [zbi,hA,hB,hC]
 have hp0:∀ w,Calls Tryz.prog 138 #[.int .u64 x,.int .i64 0] w fun e w'=> e= .returned (.int .i64 A)/\w'=w:=fun w=> hA ▸ ze8 x 0 w h0 h1 (by omega)
 have hp1:∀ w,Calls Tryz.prog 138 #[.int .u64 x,.int .i64 1] w fun e w'=> e= .returned (.int .i64 B)/\w'=w:=fun w=> hB ▸ ze8 x 1 w h0 h1 (by omega)
 have hp2:∀ w,Calls Tryz.prog 138 #[.int .u64 x,.int .i64 2] w fun e w'=> e= .returned (.int .i64 C)/\w'=w:=fun w=> hC ▸ ze8 x 2 w h0 h1 (by omega)
 clear hparts hA hB hC
 cases hrb:zbi p c m x
 all_goals
  rw [hrb] at hr
  replace hr:=hr.symm
  first | rw [if_pos rfl] | rw [if_neg Bool.false_ne_true]
  clear hrb
  go_enter Tryz.func181,Tryz.ntmps181
  go_upto_region 2 with (first
   | (go_at_call_of 138 (Value.int .i64 0);refine (hp0 _).mono ?_;rintro e w1 ⟨rfl,rfl⟩)
   | (go_at_call_of 138 (Value.int .i64 1);refine (hp1 _).mono ?_;rintro e w1 ⟨rfl,rfl⟩)
   | (go_at_call_of 138 (Value.int .i64 2);refine (hp2 _).mono ?_;rintro e w1 ⟨rfl,rfl⟩))
  clear hp0 hp1 hp2
  obtain ⟨bS,bR,bP,hsz,hbW⟩:=zh5 w (.cells #[.int .i64 p,.int .i64 c,.int .i64 m] 24) (.cells #[.int .i64 0,.int .i64 0,.int .i64 0] 147) (.cells #[.int .i64 A,.int .i64 B,.int .i64 C] 147)
  generalize (((w.alloc (.cells #[.int .i64 p,.int .i64 c,.int .i64 m] 24)).alloc (.cells #[.int .i64 0,.int .i64 0,.int .i64 0] 147)).alloc (.cells #[.int .i64 A,.int .i64 B,.int .i64 C] 147))=W at *
  generalize hH:w.heap.size=H at *
  have cS:=zac bS
  have cR:=zac bR
  have fR:=zax bR
  have cP:=zac bP
  have l0:H < W.heap.size:=by omega
  have l1:H + 1 < W.heap.size:=by omega
  have l2:H + 1 + 1 < W.heap.size:=by omega
  clear bS bR bP
 ·by_cases h2:putV 1 [A,B,C]=x
  ·have h2':(putV 1 [A,B,C] !=x)=false:=by simpa using h2
   by_cases h3:0<=zak p c m A
   ·have h3':decide (zak p c m A < 0)=false:=decide_eq_false (by omega)
    have h6:B>=zah C:=by simpa [h2,h3] using hr
    clear hr h2
    refine zaj (by kernel_rfl) (by kernel_rfl) ?_
    repeat (go_big_quiet_step ((first
     | (go_at_call 150;exact zam (zes _ _ _ _))
     | (go_at_call 59;exact zam (planPage_any _ _ _ _ _))
     | (go_at_call 58;exact zdx (slots_any _ _)))))
    refine wpQuiet_nil ?_
    rintro _ ⟨e,rfl⟩
    go_wp2
    have hc:=zi9 e.below
    have hf:=zgi e.below
    have hbb:Below H w e.w:=hbW.trans (e.below.mono (by omega))
    have hbb0:=hbb
    rw [<- hH] at hbb
    refine bodyPost_ret (v:= .tuple #[.agg #[.int .i64 0,.int .i64 0,.int .i64 0],.bool false]) (by simp [results,Tryz.results181,go_sem,hc,hf,cR,fR,l1]) rfl ⟨?_,rfl⟩
    go_grown
   ·have h3':decide (zak p c m A < 0)=true:=decide_eq_true (by omega)
    clear hr h2
    refine zaj (by kernel_rfl) (by kernel_rfl) ?_
    repeat (go_big_quiet_step ((first
     | (go_at_call 150;exact zam (zes _ _ _ _))
     | (go_at_call 59;exact zam (planPage_any _ _ _ _ _))
     | (go_at_call 58;exact zdx (slots_any _ _)))))
    refine wpQuiet_nil ?_
    rintro _ ⟨e,rfl⟩
    go_wp2
    have hc:=zi9 e.below
    have hf:=zgi e.below
    have hbb:Below H w e.w:=hbW.trans (e.below.mono (by omega))
    have hbb0:=hbb
    rw [<- hH] at hbb
    refine bodyPost_ret (v:= .tuple #[.agg #[.int .i64 0,.int .i64 0,.int .i64 0],.bool false]) (by simp [results,Tryz.results181,go_sem,hc,hf,cR,fR,l1]) rfl ⟨?_,rfl⟩
    go_grown
  ·have h2':(putV 1 [A,B,C] !=x)=true:=by simpa using h2
   clear hr
   refine zaj (by kernel_rfl) (by kernel_rfl) ?_
   repeat (go_big_quiet_step ((first
    | (go_at_call 150;exact zam (zes _ _ _ _))
    | (go_at_call 59;exact zam (planPage_any _ _ _ _ _))
    | (go_at_call 58;exact zdx (slots_any _ _)))))
   refine wpQuiet_nil ?_
   rintro _ ⟨e,rfl⟩
   go_wp2
   have hc:=zi9 e.below
   have hf:=zgi e.below
   have hbb:Below H w e.w:=hbW.trans (e.below.mono (by omega))
   have hbb0:=hbb
   rw [<- hH] at hbb
   refine bodyPost_ret (v:= .tuple #[.agg #[.int .i64 0,.int .i64 0,.int .i64 0],.bool false]) (by simp [results,Tryz.results181,go_sem,hc,hf,cR,fR,l1]) rfl ⟨?_,rfl⟩
   go_grown
 ·simp only [Bool.and_eq_true,beq_iff_eq,decide_eq_true_eq] at hr
  obtain ⟨⟨h2,h3⟩,h6⟩:=hr
  have h2':(putV 1 [A,B,C] !=x)=false:=by simpa using h2
  have h3':decide (zak p c m A < 0)=false:=decide_eq_false (by omega)
  have h6':¬ B>=zah C:=by omega
  clear h2
  refine zaj (by kernel_rfl) (by kernel_rfl) ?_
  repeat (go_big_quiet_step ((first
   | (go_at_call 150;exact zam (zes _ _ _ _))
   | (go_at_call 59;exact zam (planPage_any _ _ _ _ _))
   | (go_at_call 58;exact zdx (slots_any _ _)))))
  refine wpQuiet_nil ?_
  rintro _ ⟨e,rfl⟩
  go_wp2
  have hc:=zi9 e.below
  have hf:=zgi e.below
  have hbb:Below H w e.w:=hbW.trans (e.below.mono (by omega))
  have hbb0:=hbb
  rw [<- hH] at hbb
  refine bodyPost_ret (v:= .tuple #[.agg #[.int .i64 A,.int .i64 B,.int .i64 C],.bool true]) (by simp [results,Tryz.results181,go_sem,hc,hf,cR,fR,l1]) rfl ⟨?_,rfl⟩
  go_grown
def zet (x:Int):Bool:=zc3 (zbx x) (za2 x 0)==x
end

end Go.Proofs.YthgekdlegbmehaaGreat
