/- Texts bound together: Base EvP PackP PackW PlanP PlanW PackR PlnP. -/
import Derived.Test.YtampacmmhhilaaaGreatRows

import Derived.Handy

import Derived.WalkSpells

import Derived.Lib.Hide

import Derived.Laws.CopyOwn

import Derived.WalkLawsBesides

import Derived.Deep.QuietTactic

import Derived.BigQuiet

import Derived.RegionTactic

import Derived.Deep.RegionHeld3

import Derived.Deep.DeepCutAuto

import Derived.Laws.BitsLemmas

import Derived.Laws.BitsAllLaws

import Derived.Deep.RegionWith

set_option linter.all false
/- Small helpers for walks: what stays when a call has only made memory of its own, and drawn regions whose operations only read or make memory. -/
namespace Go.Proofs.YtampacmmhhilaaaGreat

open Go.RowKit

theorem ret_int {k:IntKind} {a b:Int} (h:a=b):Ending.returned (.int k a)=Ending.returned (.int k b):=by rw [h]
theorem ret_bool {a b:Bool} (h:a=b):Ending.returned (.bool a)=Ending.returned (.bool b):=by rw [h]
theorem bool_eq_of {p q:Bool} (h:p=true↔q=true):(p==q)=true:=by cases p <;> cases q <;> simp_all
/-- A cell that is there lies in a block that is there. -/
theorem cell_lt {w:World} {b o:Nat} {v:Value} (h:w.cell? ⟨b,o, .none⟩=some v):b < w.heap.size:=by
 rcases Nat.lt_or_ge b w.heap.size with h' | h'
 ·exact h'
 ·simp [World.cell?,Array.getElem?_eq_none h'] at h
/-- Cells that were there are there still, behind a call that made memory of its own alone. -/
theorem keepF {w w':World} (hb:Below w.heap.size w w'):∀ b o v,w.cell? ⟨b,o, .none⟩=some v→w'.cell? ⟨b,o, .none⟩=some v:=
 fun b o v h=> by rw [hb.cell (cell_lt h)];exact h
theorem belowStep {B:Nat} {w a b:World} (hB:w.heap.size=B) (h:Below B w a) (hb:Below a.heap.size a b):Below B w b:=
 h.trans (hb.mono (by have:=h.size;omega))
theorem belowTrans {w a b:World} (h:Below w.heap.size w a) (hb:Below a.heap.size a b):Below w.heap.size w b:=
 h.trans (hb.mono h.size)
theorem bcell {W w1:World} (hb:Below W.heap.size W w1):∀ b o,b < W.heap.size→w1.cell? ⟨b,o, .none⟩=W.cell? ⟨b,o, .none⟩:=fun b o h=> hb.cell (p:=⟨b,o, .none⟩) h
theorem bfree {W w1:World} (hb:Below W.heap.size W w1):∀ b o,b < W.heap.size→w1.frozen? ⟨b,o, .none⟩=W.frozen? ⟨b,o, .none⟩:=fun b o h=> hb.frozen (p:=⟨b,o, .none⟩) h
theorem rowCells {w:World} {b:Nat} {cs:Array Value} {t:TypeId} (h:w.heap[b]?=some (.cells cs t (0,0))):∀ i,w.cell? ⟨b,i, .none⟩=cs[i]?:=fun i=> cell_of_row w b i cs t (0,0) h
theorem rowFree {w:World} {b:Nat} {cs:Array Value} {t:TypeId} (h:w.heap[b]?=some (.cells cs t (0,0))):∀ i,w.frozen? ⟨b,i, .none⟩=false:=fun i=> by simp [World.frozen?,h]
theorem two_blocks (w:World) (a b:Obj):((w.alloc a).alloc b).heap[w.heap.size]?=some a∧((w.alloc a).alloc b).heap[w.heap.size + 1]?=some b∧((w.alloc a).alloc b).heap.size=w.heap.size + 2∧Below w.heap.size w ((w.alloc a).alloc b):=by
 refine ⟨?_,?_,by simp,by go_grown⟩
 ·rw [Below.heap_alloc _ _ _ (by simp)];exact heap_alloc_new w a
 ·have:=heap_alloc_new (w.alloc a) b
  simpa using this
theorem three_blocks (w:World) (a b c:Obj):(((w.alloc a).alloc b).alloc c).heap[w.heap.size]?=some a∧(((w.alloc a).alloc b).alloc c).heap[w.heap.size + 1]?=some b∧(((w.alloc a).alloc b).alloc c).heap[w.heap.size + 1 + 1]?=some c∧(((w.alloc a).alloc b).alloc c).heap.size=w.heap.size + 3∧Below w.heap.size w (((w.alloc a).alloc b).alloc c):=by
 obtain ⟨h1,h2,h3,h4⟩:=two_blocks w a b
 refine ⟨?_,?_,?_,by simp,by go_grown⟩
 ·rw [Below.heap_alloc _ _ _ (by omega)];exact h1
 ·rw [Below.heap_alloc _ _ _ (by omega)];exact h2
 ·have:=heap_alloc_new ((w.alloc a).alloc b) c
  rw [h3] at this
  exact this
/-- A world in which what was there in 'w' is as it was. -/
def Ext (w:World):= { w':World // Below w.heap.size w w' }
def Ext.w {w:World} (e:Ext w):World:=e.val
instance Ext.there {w:World}:Nonempty (Ext w):=⟨⟨w,Below.refl _ _⟩⟩
theorem Ext.below {w:World} (e:Ext w):Below w.heap.size w e.w:=e.property
@[go_sem, simp] theorem Ext.cell {w : World} (e : Ext w) (b o : Nat) (h : b < w.heap.size) : e.w.cell? ⟨b, o, .none⟩ = w.cell? ⟨b, o, .none⟩ := e.below.cell (p := ⟨b, o, .none⟩) h
@[go_sem, simp] theorem Ext.frozen {w : World} (e : Ext w) (b o : Nat) (h : b < w.heap.size) : e.w.frozen? ⟨b, o, .none⟩ = w.frozen? ⟨b, o, .none⟩ := e.below.frozen (p := ⟨b, o, .none⟩) h
/-- A drawn region whose operations read what was there, or call what makes memory of its own: one walk, in the order of the text. -/
theorem wp_region_ext {P:Program} {id:Nat} {Q:Exit→Act→World→Prop} {a:Act} {w:World} {l:List Oper} (hm:P.follows .mixedOrders=true) (hB:Region.lexB .any l.toArray=true)
  (h:wpQuiet P l.toArray (fun w'=> ∃ e:Ext w,w'=e.w) (fun a'=> ∀ w',(∃ e:Ext w,w'=e.w)→Q .normal a' w') l a):(Code.region id l.toArray true).wp P Q a w:=
 wp_region_quiet (C:=fun w'=> ∃ e:Ext w,w'=e.w) hm hB ⟨⟨_,(Below.refl _ _).drew⟩,rfl⟩ (by simpa using h)
theorem ext_of {P:Program} {f:FuncId} {args:Array Value} {w:World} {e:Ext w} {v:Value}
  (h:Calls P f args e.w fun r w''=> r= .returned v∧Below e.w.heap.size e.w w''):Calls P f args e.w fun r w''=> r= .returned v∧∃ e2:Ext w,w''=e2.w:=
 h.mono fun _ w'' ⟨hr,hb⟩=> ⟨hr,⟨w'',belowTrans e.below hb⟩,rfl⟩
theorem ext_same {P:Program} {f:FuncId} {args:Array Value} {w:World} {e:Ext w} {v:Value}
  (h:Calls P f args e.w fun r w''=> r= .returned v∧w''=e.w):Calls P f args e.w fun r w''=> r= .returned v∧∃ e2:Ext w,w''=e2.w:=
 h.mono fun _ _ ⟨hr,hb⟩=> ⟨hr,e,hb⟩
end Go.Proofs.YtampacmmhhilaaaGreat
/- An event of a history. Plain. -/
namespace Go.Proofs.YtampacmmhhilaaaGreat

/-- An event: kind, client, its operation (kind, place, words), place, words, error. -/
structure Ev where
 k:Int
 c:Int
 ok:Int
 oa:Int
 on:Int
 at':Int
 n:Int
 er:Int
 deriving DecidableEq
def Ev.cells (e:Ev):Array Value:= #[.int .i64 e.k, .int .i64 e.c, .int .i64 e.ok, .int .i64 e.oa, .int .i64 e.on, .int .i64 e.at', .int .i64 e.n, .int .i64 e.er]
def Ev.val (e:Ev):Value:= .agg e.cells
end Go.Proofs.YtampacmmhhilaaaGreat
/- Plain facts on packed words: a kind and parts of eight bits each, put together and taken apart. -/
namespace Go.Proofs.YtampacmmhhilaaaGreat

/-- The number that parts of eight bits make. -/
def horner:List Int→Int
 | []=> 0
 | x::xs=> x + 256 * horner xs
def okB (x:Int):Bool:=decide (0≤x) && decide (x≤255)
def okAll (xs:List Int):Bool:=xs.all okB
/-- The word that 'put' makes. -/
def putV (k:Int) (xs:List Int):Int:=if okAll xs=true then k + 16 * horner xs else 0
theorem okB_iff {x:Int}:okB x=true↔0≤x∧x≤255:=by simp [okB]
theorem pow256_succ (n:Nat):(256:Int) ^ (n + 1)=256 * 256 ^ n:=by rw [Int.pow_succ,Int.mul_comm]
theorem pow256_pos (n:Nat):(0:Int) < 256 ^ n:=Int.pow_pos (by decide)
theorem horner_bd (xs:List Int) (h:okAll xs=true):0≤horner xs∧horner xs < 256 ^ xs.length:=by
 induction xs with
 | nil=> simp [horner]
 | cons x xs ih=>
  simp only [okAll,List.all_cons,Bool.and_eq_true] at h
  have hx:=okB_iff.1 h.1
  have:=ih h.2
  simp only [horner,List.length_cons,pow256_succ]
  omega
theorem horner_snoc (xs:List Int) (x:Int):horner (xs ++ [x])=horner xs + x * 256 ^ xs.length:=by
 induction xs with
 | nil=> simp [horner]
 | cons y xs ih=>
  simp only [List.cons_append,horner,ih,List.length_cons,pow256_succ]
  rw [Int.mul_add,Int.mul_left_comm 256 x]
  omega
theorem okAll_snoc (xs:List Int) (x:Int):okAll (xs ++ [x])=(okAll xs && okB x):=by simp [okAll]
theorem take_snoc_i (xs:List Int) (j:Nat) (h:j < xs.length):xs.take (j + 1)=xs.take j ++ [xs.getD j 0]:=by
 rw [List.take_succ_eq_append_getElem h];simp [List.getD_eq_getElem?_getD,h]
theorem u64_wraps (n:Int) (h0:0≤n) (h1:n < 18446744073709551616):IntKind.u64.wrap n=n:=by
 simp only [IntKind.wrap,IntKind.bits,IntKind.signed]
 simp
 omega
/-- One part more, laid in by a shift and an 'or'. -/
theorem or_step (acc x:Int) (j:Nat) (hj:j≤6) (h0:0≤acc) (h1:acc < 16 * 256 ^ j) (hx0:0≤x) (hx1:x≤255):
  bits .or .u64 acc (IntKind.u64.wrap (x * 2 ^ (4 + 8 * j)))=acc + 16 * (x * 256 ^ j):=by
 have hp:(2:Int) ^ (4 + 8 * j)=16 * 256 ^ j:=by
  rw [Int.pow_add,Int.pow_mul];rfl
 have hb:(256:Int) ^ j≤281474976710656:=by
  have:j=0∨j=1∨j=2∨j=3∨j=4∨j=5∨j=6:=by omega
  rcases this with rfl | rfl | rfl | rfl | rfl | rfl | rfl <;> decide
 have pp:=pow256_pos j
 have hm:x * (16 * 256 ^ j)≤255 * (16 * 256 ^ j):=Int.mul_le_mul_of_nonneg_right hx1 (by omega)
 have hm0:0≤x * (16 * 256 ^ j):=Int.mul_nonneg hx0 (by omega)
 have hw:IntKind.u64.wrap (x * 2 ^ (4 + 8 * j))=x * (16 * 256 ^ j):=by
  rw [hp];exact u64_wraps _ hm0 (by omega)
 rw [hw]
 have hc:bits .or .u64 acc (x * (16 * 256 ^ j))=bits .or .u64 (x * (16 * 256 ^ j)) acc:=by simp only [bits,BitVec.or_comm]
 have hd:x * (16 * 256 ^ j) % 2 ^ (4 + 8 * j)=0:=by rw [hp];exact Int.mul_emod_left _ _
 rw [hc,bits_join .u64 64 (by decide) (fun n a b=> u64_wraps n a b) (4 + 8 * j) _ _ hm0 hd (by omega) h0 (by omega) (by omega)]
 rw [Int.mul_left_comm];omega
theorem putV_bad (k:Int) (xs:List Int) (j:Nat) (h:j < xs.length) (hx:xs[j] < 0∨255 < xs[j]):putV k xs=0:=by
 have:okAll xs≠true:=fun hc=> by
  have:=List.all_eq_true.1 hc xs[j] (List.getElem_mem h)
  have:=okB_iff.1 this
  omega
 rw [putV,if_neg this]
theorem put_step (k:Int) (xs:List Int) (j:Nat) (hk:0≤k) (hk2:k≤15) (hl:xs.length≤7) (h:j < xs.length) (h0:0≤xs[j]) (h1:xs[j]≤255) (hok:okAll (xs.take j)=true):
  bits .or .u64 (k + 16 * horner (xs.take j)) (IntKind.u64.wrap (xs[j] * 2 ^ (4 + 8 * j)))=k + 16 * horner (xs.take (j + 1))∧okAll (xs.take (j + 1))=true:=by
 have hb:=horner_bd _ hok
 have hlen:(xs.take j).length=j:=by simp;omega
 rw [hlen] at hb
 have hg:xs.getD j 0=xs[j]:=by simp [List.getD_eq_getElem?_getD,h]
 rw [take_snoc_i xs j h,horner_snoc,okAll_snoc,hok,hlen,hg,or_step _ _ j (by omega) (by omega) (by omega) h0 h1]
 exact ⟨by omega,by simpa using okB_iff.2 ⟨h0,h1⟩⟩
theorem putV_ok (k:Int) (xs:List Int) (h:okAll xs=true):putV k xs=k + 16 * horner xs:=by rw [putV,if_pos h]
/-- What PutPage answers, of any numbers. -/
def pageBad (k a b:Int):Bool:=decide (k < 0) || decide (4 < k) || (k==0 && a !=0) || (k !=2 && b !=0)
def pageV (k a b:Int):Int:=if pageBad k a b=true then 0 else putV k [a,b]
def slotBad (k a:Int):Bool:=decide (k < 0) || decide (3 < k) || (k==0 && a !=0)
def slotV (k a:Int):Int:=if slotBad k a=true then 0 else putV k [a]
def statusBad (k a:Int):Bool:=decide (k < 0) || decide (4 < k) || (k !=3 && a !=0)
def statusV (k a:Int):Int:=if statusBad k a=true then 0 else putV k [a]
end Go.Proofs.YtampacmmhhilaaaGreat
/-  -/
namespace Go.Proofs.YtampacmmhhilaaaGreat

open Go.RowKit

set_option maxHeartbeats 400000 in
theorem put_any (k:Int) (xs:List Int) (b off:Nat) (w:World) (hk:0≤k) (hk2:k≤15) (hl:xs.length≤3)
  (hc:∀ i,i < xs.length→w.cell? ⟨b,off + i, .none⟩=some (.int .i64 (xs.getD i 0))):
  Calls Tryz.prog 156 #[.int .i64 k, .slice (some ⟨b,off, .none⟩) xs.length xs.length] w fun e w'=> e= .returned (.int .u64 (putV k xs))∧w'=w:=by
 go_enter Tryz.func156,Tryz.ntmps156
 go_wp2
 go_loop [4,5,12] (fun r v i=> ∃ j:Nat,j≤xs.length∧i= .int .i64 j∧r= .int .u64 0∧v= .int .u64 (k + 16 * horner (xs.take j))∧okAll (xs.take j)=true) (fun _ _ i=> xs.length - (intOf i).toNat)
 case atStart=> exact ⟨0,Nat.zero_le _,rfl,rfl,by simp [horner],by simp [okAll]⟩
 case round=>
  obtain ⟨j,hj,rfl,rfl,rfl,hok⟩:=hrel
  have hcell:j < xs.length→w.cell? ⟨b,off + j, .none⟩=some (.int .i64 (xs.getD j 0)):=fun h=> hc j h
  go_wp2
  case roundEnd=>
   have hs:=put_step k xs j hk hk2 (by omega) ‹_› (by omega) (by omega) hok
   exact ⟨⟨j + 1,by omega,by go_num,rfl,by rw [hs.1],hs.2⟩,by simp [intOf];omega⟩
  all_goals go_ret
  ·exact ⟨by rw [putV_bad k xs j ‹_› (by omega)];rfl,rfl⟩
  ·exact ⟨by rw [putV_bad k xs j ‹_› (by omega)];rfl,rfl⟩
  ·have e:xs.take j=xs:=List.take_of_length_le (by omega)
   rw [e] at hok ⊢
   exact ⟨by rw [putV_ok k xs hok];rfl,rfl⟩
theorem put1 (k a:Int) (b off:Nat) (w:World) (hk:0≤k) (hk2:k≤15) (h0:w.cell? ⟨b,off, .none⟩=some (.int .i64 a)):
  Calls Tryz.prog 156 #[.int .i64 k, .slice (some ⟨b,off, .none⟩) 1 1] w fun e w'=> e= .returned (.int .u64 (putV k [a]))∧w'=w:=
 put_any k [a] b off w hk hk2 (by simp) (fun i hi=> by
  match i,hi with
  | 0,_=> exact h0)
theorem put2 (k a c:Int) (b off:Nat) (w:World) (hk:0≤k) (hk2:k≤15) (h0:w.cell? ⟨b,off, .none⟩=some (.int .i64 a)) (h1:w.cell? ⟨b,off + 1, .none⟩=some (.int .i64 c)):
  Calls Tryz.prog 156 #[.int .i64 k, .slice (some ⟨b,off, .none⟩) 2 2] w fun e w'=> e= .returned (.int .u64 (putV k [a,c]))∧w'=w:=
 put_any k [a,c] b off w hk hk2 (by simp) (fun i hi=> by
  match i,hi with
  | 0,_=> exact h0
  | 1,_=> exact h1)
theorem put3 (k a c d:Int) (b off:Nat) (w:World) (hk:0≤k) (hk2:k≤15) (h0:w.cell? ⟨b,off, .none⟩=some (.int .i64 a)) (h1:w.cell? ⟨b,off + 1, .none⟩=some (.int .i64 c)) (h2:w.cell? ⟨b,off + 2, .none⟩=some (.int .i64 d)):
  Calls Tryz.prog 156 #[.int .i64 k, .slice (some ⟨b,off, .none⟩) 3 3] w fun e w'=> e= .returned (.int .u64 (putV k [a,c,d]))∧w'=w:=
 put_any k [a,c,d] b off w hk hk2 (by simp) (fun i hi=> by
  match i,hi with
  | 0,_=> exact h0
  | 1,_=> exact h1
  | 2,_=> exact h2)
set_option maxHeartbeats 400000 in
theorem putPage_any (k a b:Int) (w:World):
  Calls Tryz.prog 167 #[.agg #[.int .i64 k, .int .i64 a, .int .i64 b]] w fun e w'=> e= .returned (.int .u64 (pageV k a b))∧Below w.heap.size w w':=by
 go_enter Tryz.func167,Tryz.ntmps167
 go_wp2_with (go_at_call 156;refine (put2 _ a b _ _ _ (by omega) (by omega) (by go_simp) (by go_simp)).mono ?_;rintro e w' ⟨rfl,rfl⟩)
 all_goals go_ret
 all_goals refine ⟨ret_int ?_,by go_grown⟩
 all_goals simp_all [pageV,pageBad]
 all_goals omega
set_option maxHeartbeats 400000 in
theorem putSlot_any (k a:Int) (w:World):
  Calls Tryz.prog 169 #[.agg #[.int .i64 k, .int .i64 a]] w fun e w'=> e= .returned (.int .u64 (slotV k a))∧Below w.heap.size w w':=by
 go_enter Tryz.func169,Tryz.ntmps169
 go_wp2_with (go_at_call 156;refine (put1 _ a _ _ _ (by omega) (by omega) (by go_simp)).mono ?_;rintro e w' ⟨rfl,rfl⟩)
 all_goals go_ret
 all_goals refine ⟨ret_int ?_,by go_grown⟩
 all_goals simp_all [slotV,slotBad]
 all_goals omega
set_option maxHeartbeats 400000 in
theorem putEntry_any (a b c:Int) (w:World):
  Calls Tryz.prog 188 #[.agg #[.int .i64 a, .int .i64 b, .int .i64 c]] w fun e w'=> e= .returned (.int .u64 (putV 1 [a,b,c]))∧Below w.heap.size w w':=by
 go_enter Tryz.func188,Tryz.ntmps188
 go_wp2_with (go_at_call 156;refine (put3 _ a b c _ _ _ (by omega) (by omega) (by go_simp) (by go_simp) (by go_simp)).mono ?_;rintro e w' ⟨rfl,rfl⟩)
 all_goals go_ret
 all_goals exact ⟨rfl,by go_grown⟩
set_option maxHeartbeats 400000 in
theorem status_any (k a:Int) (w:World):
  Calls Tryz.prog 119 #[.int .i64 k, .int .i64 a] w fun e w'=> e= .returned (.int .u64 (statusV k a))∧Below w.heap.size w w':=by
 go_enter Tryz.func119,Tryz.ntmps119
 go_wp2_with (go_at_call 156;refine (put1 _ a _ _ _ (by omega) (by omega) (by go_simp)).mono ?_;rintro e w' ⟨rfl,rfl⟩)
 all_goals go_ret
 all_goals refine ⟨ret_int ?_,by go_grown⟩
 all_goals simp_all [statusV,statusBad]
 all_goals omega
end Go.Proofs.YtampacmmhhilaaaGreat
/- Plain facts on shapes: what may be, where words stand. -/
namespace Go.Proofs.YtampacmmhhilaaaGreat

def wi (n lo hi:Int):Bool:=decide (lo≤n) && decide (n≤hi)
theorem wi_iff {n lo hi:Int}:wi n lo hi=true↔lo≤n∧n≤hi:=by simp [wi]
theorem wi_false {n lo hi:Int}:wi n lo hi=false↔¬ (lo≤n∧n≤hi):=by rw [← wi_iff];simp
/-- May a shape be? -/
def mayB (p c m:Int):Bool:=wi p 1 64 && wi c 1 12 && wi m 0 8
theorem mayB_iff {p c m:Int}:mayB p c m=true↔1≤p∧p≤64∧1≤c∧c≤12∧0≤m∧m≤8:=by
 simp only [mayB,Bool.and_eq_true,wi_iff];omega
/-- Where a page's word stands; -1: nowhere. -/
def pageIx (p c m at':Int):Int:=if mayB p c m=true∧wi at' 0 (p - 1)=true then c + at' else -1
def sizeV (k:Int):Int:=if k=0 then 4 else if k=1 then 8 else if k=2 then 16 else if k=3 then 32 else 0
def slotsV (k:Int):Int:=if k=0 then 16 else if k=1 then 8 else if k=2 then 4 else if k=3 then 2 else 0
end Go.Proofs.YtampacmmhhilaaaGreat
/- The walks of package plan. -/
namespace Go.Proofs.YtampacmmhhilaaaGreat

open Go.RowKit

set_option maxHeartbeats 400000 in
theorem within_any (n lo hi:Int) (w:World):
  Calls Tryz.prog 109 #[.int .i64 n, .int .i64 lo, .int .i64 hi] w fun e w'=> e= .returned (.bool (wi n lo hi))∧w'=w:=by
 go_enter Tryz.func109,Tryz.ntmps109
 go_wp2
 all_goals go_ret
 all_goals refine ⟨ret_bool ?_,rfl⟩
 all_goals simp [wi]
 all_goals omega
set_option maxHeartbeats 400000 in
theorem may_any (p c m:Int) (w:World):
  Calls Tryz.prog 65 #[.agg #[.int .i64 p, .int .i64 c, .int .i64 m]] w fun e w'=> e= .returned (.bool (mayB p c m))∧w'=w.alloc (.cells #[.int .i64 p, .int .i64 c, .int .i64 m] 23):=by
 have h1:wi p 1 64=true∨wi p 1 64=false:=by cases wi p 1 64 <;> simp
 have h2:wi c 1 12=true∨wi c 1 12=false:=by cases wi c 1 12 <;> simp
 rcases h1 with h1 | h1 <;> rcases h2 with h2 | h2 <;>
 ·go_enter Tryz.func65,Tryz.ntmps65
  go_wp2_with (go_at_call 109;refine (within_any _ _ _ _).mono ?_;rintro e w' ⟨rfl,rfl⟩)
  go_ret
  exact ⟨ret_bool (by simp [mayB,h1,h2]),rfl⟩
set_option maxHeartbeats 400000 in
theorem planPage_any (p c m a:Int) (w:World):
    Calls Tryz.prog 136 #[.agg #[.int .i64 p, .int .i64 c, .int .i64 m], .int .i64 a] w fun e w'=> e= .returned (.int .i64 (pageIx p c m a))∧Below w.heap.size w w':=by
  by_cases h1:mayB p c m=true
  · have hb:=mayB_iff.1 h1
    have hp1:wrap64 (p - 1)=p - 1:=IntWalk.wrap64_in _ ⟨by omega,by omega⟩
    by_cases h2:wi a 0 (p - 1)=true
    · have hb2:=wi_iff.1 h2
      go_enter Tryz.func136,Tryz.ntmps136
      go_wp2_with (first
        | (go_at_call 65;refine (may_any _ _ _ _).mono ?_;rintro e w1 ⟨rfl,rfl⟩)
        | (go_at_call 109;refine (within_any _ _ _ _).mono ?_;rintro e w' ⟨rfl,rfl⟩))
      go_ret
      exact ⟨ret_int (by rw [pageIx,if_pos ⟨h1,h2⟩]),by go_grown⟩
    · have h2':wi a 0 (p - 1)=false:=by simpa using h2
      clear h2
      go_enter Tryz.func136,Tryz.ntmps136
      go_wp2_with (first
        | (go_at_call 65;refine (may_any _ _ _ _).mono ?_;rintro e w1 ⟨rfl,rfl⟩)
        | (go_at_call 109;refine (within_any _ _ _ _).mono ?_;rintro e w' ⟨rfl,rfl⟩))
      go_ret
      exact ⟨ret_int (by rw [pageIx,if_neg (by simp [h2'])]),by go_grown⟩
  · have h1':mayB p c m=false:=by simpa using h1
    clear h1
    go_enter Tryz.func136,Tryz.ntmps136
    go_wp2_with (first
      | (go_at_call 65;refine (may_any _ _ _ _).mono ?_;rintro e w1 ⟨rfl,rfl⟩)
      | (go_at_call 109;refine (within_any _ _ _ _).mono ?_;rintro e w' ⟨rfl,rfl⟩))
    go_ret
    exact ⟨ret_int (by rw [pageIx,if_neg (by simp [h1'])]),by go_grown⟩
set_option maxHeartbeats 400000 in
theorem slots_any (k:Int) (w:World):
    Calls Tryz.prog 97 #[.int .i64 k] w fun e w'=> e= .returned (.int .i64 (slotsV k))∧w'=w:=by
  by_cases h:0≤k∧k≤3
  · have h1:wi k 0 3=true:=wi_iff.2 h
    have:k=0∨k=1∨k=2∨k=3:=by omega
    rcases this with rfl | rfl | rfl | rfl <;>
    · go_enter Tryz.func97,Tryz.ntmps97
      go_wp2_with (go_at_call 109;refine (within_any _ _ _ _).mono ?_;rintro e w' ⟨rfl,rfl⟩)
      go_ret
      exact ⟨rfl,rfl⟩
  · have h1:wi k 0 3=false:=wi_false.2 h
    go_enter Tryz.func97,Tryz.ntmps97
    go_wp2_with (go_at_call 109;refine (within_any _ _ _ _).mono ?_;rintro e w' ⟨rfl,rfl⟩)
    go_ret
    exact ⟨ret_int (by rw [slotsV,if_neg (by omega),if_neg (by omega),if_neg (by omega),if_neg (by omega)]),rfl⟩
set_option maxHeartbeats 400000 in
theorem refMay_any (p c m:Int) (w:World):
    Calls Tryz.prog 28 #[.agg #[.int .i64 p, .int .i64 c, .int .i64 m]] w fun e w'=> e= .returned (.bool (mayB p c m))∧w'=w.alloc (.cells #[.int .i64 p, .int .i64 c, .int .i64 m] 23):=by
  go_enter Tryz.func28,Tryz.ntmps28
  go_wp2
  all_goals go_ret
  all_goals refine ⟨ret_bool ?_,rfl⟩
  all_goals (rw [Bool.eq_iff_iff,mayB_iff];simp;omega)
end Go.Proofs.YtampacmmhhilaaaGreat
/- The walks of package pack that read words. -/
namespace Go.Proofs.YtampacmmhhilaaaGreat

open Go.RowKit

/-- The kind and the parts of a word. -/
def kindV (x:Int):Int:=x % 16
def partV (x:Int) (i:Nat):Int:=x / (16 * 256 ^ i) % 256
theorem kindV_bd (x:Int):0≤kindV x∧kindV x≤15:=by unfold kindV;omega
theorem partV_bd (x:Int) (i:Nat):0≤partV x i∧partV x i≤255:=by unfold partV;omega
theorem and15 (x:Int) (h0:0≤x) (h1:x < 18446744073709551616):bits .and .u64 x 15=kindV x:=bits_mask .u64 64 (by decide) (fun n a b=> u64_wraps n a b) 4 (by decide) x h0 h1
theorem and255 (x:Int) (h0:0≤x) (h1:x < 18446744073709551616):bits .and .u64 x 255=x % 256:=bits_mask .u64 64 (by decide) (fun n a b=> u64_wraps n a b) 8 (by decide) x h0 h1
set_option maxHeartbeats 400000 in
theorem kind_any (x:Int) (w:World) (h0:0≤x) (h1:x < 18446744073709551616):
  Calls Tryz.prog 120 #[.int .u64 x] w fun e w'=> e= .returned (.int .i64 (kindV x))∧w'=w:=by
 have hb:=kindV_bd x
 have ha:=and15 x h0 h1
 have hw:IntKind.i64.wrap (kindV x)=kindV x:=IntWalk.i64_in _ ⟨by omega,by omega⟩
 go_enter Tryz.func120,Tryz.ntmps120
 go_wp2
 all_goals go_ret
 all_goals exact ⟨rfl,rfl⟩
theorem shr_part (x:Int) (i:Nat):x / 2 ^ (4 + 8 * i) % 256=partV x i:=by
 unfold partV
 rw [Int.pow_add,Int.pow_mul];rfl
set_option maxHeartbeats 400000 in
theorem part_any (x:Int) (i:Nat) (w:World) (h0:0≤x) (h1:x < 18446744073709551616) (hi:i≤2):
  Calls Tryz.prog 121 #[.int .u64 x, .int .i64 i] w fun e w'=> e= .returned (.int .i64 (partV x i))∧w'=w:=by
 have hb:=partV_bd x i
 have hw:IntKind.i64.wrap (partV x i)=partV x i:=IntWalk.i64_in _ ⟨by omega,by omega⟩
 have:i=0∨i=1∨i=2:=by omega
 rcases this with rfl | rfl | rfl
 ·have ha:=and255 (x / 16) (by omega) (by omega)
  have hs:x / 16 % 256=partV x 0:=shr_part x 0
  rw [hs] at ha
  clear hs
  go_enter Tryz.func121,Tryz.ntmps121
  go_wp2
  all_goals go_ret
  all_goals exact ⟨rfl,rfl⟩
 ·have ha:=and255 (x / 4096) (by omega) (by omega)
  have hs:x / 4096 % 256=partV x 1:=shr_part x 1
  rw [hs] at ha
  clear hs
  go_enter Tryz.func121,Tryz.ntmps121
  go_wp2
  all_goals go_ret
  all_goals exact ⟨rfl,rfl⟩
 ·have ha:=and255 (x / 1048576) (by omega) (by omega)
  have hs:x / 1048576 % 256=partV x 2:=shr_part x 2
  rw [hs] at ha
  clear hs
  go_enter Tryz.func121,Tryz.ntmps121
  go_wp2
  all_goals go_ret
  all_goals exact ⟨rfl,rfl⟩
/-- May a page's word stand at page 'a'? -/
def fitsB (p c a k x y:Int):Bool:=
 if k=1 then decide (x < c) else if k=2 then decide (x < 4) && decide (y < c) else if k=3 then decide (1≤x) && decide (x≤8) && decide (x≤p - a)
 else if k=4 then decide (x < a) && decide (a - 8 < x) else true
set_option maxHeartbeats 1000000 in
theorem fits_any (p c m a k x y:Int) (w:World) (hp:0≤p) (hp2:p≤64) (ha:0≤a) (ha2:a≤64):
  Calls Tryz.prog 168 #[.agg #[.int .i64 p, .int .i64 c, .int .i64 m], .int .i64 a, .agg #[.int .i64 k, .int .i64 x, .int .i64 y]] w fun e w'=> e= .returned (.bool (fitsB p c a k x y))∧Below w.heap.size w w':=by
 go_enter Tryz.func168,Tryz.ntmps168
 go_wp2
 all_goals go_ret
 all_goals refine ⟨ret_bool ?_,by go_grown⟩
 all_goals simp_all [fitsB]
 all_goals omega
theorem pageIx_nonneg {p c m a:Int} (h:0≤pageIx p c m a):mayB p c m=true∧wi a 0 (p - 1)=true:=by
 unfold pageIx at h
 split at h
 ·assumption
 ·omega
/-- Does a word say something as page a's? -/
def readPageB (p c m a x:Int):Bool:=(pageV (kindV x) (partV x 0) (partV x 1)==x) && decide (0≤pageIx p c m a) && fitsB p c a (kindV x) (partV x 0) (partV x 1)
set_option maxRecDepth 100000 in
set_option maxHeartbeats 1000000 in
theorem readPage_any (p c m a x:Int) (w:World) (h0:0≤x) (h1:x < 18446744073709551616):
  Calls Tryz.prog 135 #[.agg #[.int .i64 p, .int .i64 c, .int .i64 m], .int .i64 a, .int .u64 x] w fun e w'=> Below w.heap.size w w'∧
   e= .returned (.tuple #[.agg (if readPageB p c m a x=true then #[.int .i64 (kindV x), .int .i64 (partV x 0), .int .i64 (partV x 1)] else #[.int .i64 0, .int .i64 0, .int .i64 0]), .bool (readPageB p c m a x)]):=by
 have hparts:=fun i=> part_any x i
 generalize hk:kindV x=k at *
 generalize hA:partV x 0=A at *
 generalize hB:partV x 1=B at *
 have hr:readPageB p c m a x=((pageV k A B==x) && decide (0≤pageIx p c m a) && fitsB p c a k A B):=by rw [readPageB,hk,hA,hB]
 have hkind:∀ w,Calls Tryz.prog 120 #[.int .u64 x] w fun e w'=> e= .returned (.int .i64 k)∧w'=w:=fun w=> hk ▸ kind_any x w h0 h1
 have hp0:∀ w,Calls Tryz.prog 121 #[.int .u64 x, .int .i64 0] w fun e w'=> e= .returned (.int .i64 A)∧w'=w:=fun w=> hA ▸ part_any x 0 w h0 h1 (by omega)
 have hp1:∀ w,Calls Tryz.prog 121 #[.int .u64 x, .int .i64 1] w fun e w'=> e= .returned (.int .i64 B)∧w'=w:=fun w=> hB ▸ part_any x 1 w h0 h1 (by omega)
 clear hparts hk hA hB
 cases hrb:readPageB p c m a x
 all_goals
  rw [hrb] at hr
  replace hr:=hr.symm
  first | rw [if_pos rfl] | rw [if_neg Bool.false_ne_true]
  clear hrb
  go_enter Tryz.func135,Tryz.ntmps135
  go_upto_region 2 with (first
   | (go_at_call 120;refine (hkind _).mono ?_;rintro e w1 ⟨rfl,rfl⟩)
   | (go_at_call_of 121 (Value.int .i64 0);refine (hp0 _).mono ?_;rintro e w1 ⟨rfl,rfl⟩)
   | (go_at_call_of 121 (Value.int .i64 1);refine (hp1 _).mono ?_;rintro e w1 ⟨rfl,rfl⟩))
  clear hkind hp0 hp1
  obtain ⟨bS,bR,bP,hsz,hbW⟩:=three_blocks w (.cells #[.int .i64 p, .int .i64 c, .int .i64 m] 23) (.cells #[.int .i64 0, .int .i64 0, .int .i64 0] 160) (.cells #[.int .i64 k, .int .i64 A, .int .i64 B] 160)
  generalize (((w.alloc (.cells #[.int .i64 p, .int .i64 c, .int .i64 m] 23)).alloc (.cells #[.int .i64 0, .int .i64 0, .int .i64 0] 160)).alloc (.cells #[.int .i64 k, .int .i64 A, .int .i64 B] 160))=W at *
  generalize hH:w.heap.size=H at *
  have cS:=rowCells bS
  have cR:=rowCells bR
  have fR:=rowFree bR
  have cP:=rowCells bP
  have l0:H < W.heap.size:=by omega
  have l1:H + 1 < W.heap.size:=by omega
  have l2:H + 1 + 1 < W.heap.size:=by omega
  have hb:=Below.refl W.heap.size W
  clear bS bR bP
 ·by_cases h2:pageV k A B=x
  ·have h2':(pageV k A B !=x)=false:=by simpa using h2
   by_cases h3:0≤pageIx p c m a
   ·obtain ⟨h4,h5⟩:=pageIx_nonneg h3
    have h4':=mayB_iff.1 h4
    have h5':=wi_iff.1 h5
    have h6:fitsB p c a k A B=false:=by simpa [h2,h3] using hr
    clear hr h2
    go_wp2_with (first
     | (go_at_call 167;refine (putPage_any _ _ _ _).mono ?_;rintro e w1 ⟨rfl,hb1⟩;have hb:=belowTrans hb hb1;have hc:=bcell hb;have hf:=bfree hb)
     | (go_at_call 136;refine (planPage_any _ _ _ _ _).mono ?_;rintro e w2 ⟨rfl,hb1⟩;have hb:=belowTrans hb hb1;have hc:=bcell hb;have hf:=bfree hb)
     | (go_at_call 168;refine (fits_any _ _ _ _ _ _ _ _ (by omega) (by omega) (by omega) (by omega)).mono ?_;rintro e w3 ⟨rfl,hb1⟩;have hb:=belowTrans hb hb1;have hc:=bcell hb;have hf:=bfree hb))
    have hbb:Below H w w3:=hbW.trans (hb.mono (by omega))
    have hbb0:=hbb
    rw [← hH] at hbb
    refine bodyPost_ret (v:= .tuple #[.agg #[.int .i64 0, .int .i64 0, .int .i64 0], .bool false]) (by simp [results,Tryz.results135,go_sem,hc,hf,cR,fR,l1]) rfl ⟨?_,rfl⟩
    go_grown
   ·have h3':pageIx p c m a < 0:=by omega
    clear hr h2
    go_wp2_with (first
     | (go_at_call 167;refine (putPage_any _ _ _ _).mono ?_;rintro e w1 ⟨rfl,hb1⟩;have hb:=belowTrans hb hb1;have hc:=bcell hb;have hf:=bfree hb)
     | (go_at_call 136;refine (planPage_any _ _ _ _ _).mono ?_;rintro e w2 ⟨rfl,hb1⟩;have hb:=belowTrans hb hb1;have hc:=bcell hb;have hf:=bfree hb))
    have hbb:Below H w w2:=hbW.trans (hb.mono (by omega))
    have hbb0:=hbb
    rw [← hH] at hbb
    refine bodyPost_ret (v:= .tuple #[.agg #[.int .i64 0, .int .i64 0, .int .i64 0], .bool false]) (by simp [results,Tryz.results135,go_sem,hc,hf,cR,fR,l1]) rfl ⟨?_,rfl⟩
    go_grown
  ·have h2':(pageV k A B !=x)=true:=by simpa using h2
   clear hr
   go_wp2_with (first
    | (go_at_call 167;refine (putPage_any _ _ _ _).mono ?_;rintro e w1 ⟨rfl,hb1⟩;have hb:=belowTrans hb hb1;have hc:=bcell hb;have hf:=bfree hb))
   have hbb:Below H w w1:=hbW.trans (hb.mono (by omega))
   have hbb0:=hbb
   rw [← hH] at hbb
   refine bodyPost_ret (v:= .tuple #[.agg #[.int .i64 0, .int .i64 0, .int .i64 0], .bool false]) (by simp [results,Tryz.results135,go_sem,hc,hf,cR,fR,l1]) rfl ⟨?_,rfl⟩
   go_grown
 ·have hr':=hr
  simp only [Bool.and_eq_true,beq_iff_eq,decide_eq_true_eq] at hr'
  obtain ⟨⟨h2,h3⟩,h6⟩:=hr'
  have h2':(pageV k A B !=x)=false:=by simpa using h2
  obtain ⟨h4,h5⟩:=pageIx_nonneg h3
  have h4':=mayB_iff.1 h4
  have h5':=wi_iff.1 h5
  clear hr h2
  go_wp2_with (first
   | (go_at_call 167;refine (putPage_any _ _ _ _).mono ?_;rintro e w1 ⟨rfl,hb1⟩;have hb:=belowTrans hb hb1;have hc:=bcell hb;have hf:=bfree hb)
   | (go_at_call 136;refine (planPage_any _ _ _ _ _).mono ?_;rintro e w2 ⟨rfl,hb1⟩;have hb:=belowTrans hb hb1;have hc:=bcell hb;have hf:=bfree hb)
   | (go_at_call 168;refine (fits_any _ _ _ _ _ _ _ _ (by omega) (by omega) (by omega) (by omega)).mono ?_;rintro e w3 ⟨rfl,hb1⟩;have hb:=belowTrans hb hb1;have hc:=bcell hb;have hf:=bfree hb))
  have hbb:Below H w w3:=hbW.trans (hb.mono (by omega))
  have hbb0:=hbb
  rw [← hH] at hbb
  refine bodyPost_ret (v:= .tuple #[.agg #[.int .i64 k, .int .i64 A, .int .i64 B], .bool true]) (by simp [results,Tryz.results135,go_sem,hc,hf,cR,fR,l1]) rfl ⟨?_,rfl⟩
  go_grown
/-- Does a word say an entry? -/
def readEntryB (p c m x:Int):Bool:=(putV 1 [partV x 0,partV x 1,partV x 2]==x) && decide (0≤pageIx p c m (partV x 0)) && decide (partV x 1 < slotsV (partV x 2))
set_option maxRecDepth 100000 in
set_option maxHeartbeats 1000000 in
theorem readEntry_any (p c m x:Int) (w:World) (h0:0≤x) (h1:x < 18446744073709551616):
  Calls Tryz.prog 170 #[.agg #[.int .i64 p, .int .i64 c, .int .i64 m], .int .u64 x] w fun e w'=> Below w.heap.size w w'∧
   e= .returned (.tuple #[.agg (if readEntryB p c m x=true then #[.int .i64 (partV x 0), .int .i64 (partV x 1), .int .i64 (partV x 2)] else #[.int .i64 0, .int .i64 0, .int .i64 0]), .bool (readEntryB p c m x)]):=by
 have hparts:=fun i=> part_any x i
 generalize hA:partV x 0=A at *
 generalize hB:partV x 1=B at *
 generalize hC:partV x 2=C at *
 have hr:readEntryB p c m x=((putV 1 [A,B,C]==x) && decide (0≤pageIx p c m A) && decide (B < slotsV C)):=by rw [readEntryB,hA,hB,hC]
 have hp0:∀ w,Calls Tryz.prog 121 #[.int .u64 x, .int .i64 0] w fun e w'=> e= .returned (.int .i64 A)∧w'=w:=fun w=> hA ▸ part_any x 0 w h0 h1 (by omega)
 have hp1:∀ w,Calls Tryz.prog 121 #[.int .u64 x, .int .i64 1] w fun e w'=> e= .returned (.int .i64 B)∧w'=w:=fun w=> hB ▸ part_any x 1 w h0 h1 (by omega)
 have hp2:∀ w,Calls Tryz.prog 121 #[.int .u64 x, .int .i64 2] w fun e w'=> e= .returned (.int .i64 C)∧w'=w:=fun w=> hC ▸ part_any x 2 w h0 h1 (by omega)
 clear hparts hA hB hC
 cases hrb:readEntryB p c m x
 all_goals
  rw [hrb] at hr
  replace hr:=hr.symm
  first | rw [if_pos rfl] | rw [if_neg Bool.false_ne_true]
  clear hrb
  go_enter Tryz.func170,Tryz.ntmps170
  go_upto_region 2 with (first
   | (go_at_call_of 121 (Value.int .i64 0);refine (hp0 _).mono ?_;rintro e w1 ⟨rfl,rfl⟩)
   | (go_at_call_of 121 (Value.int .i64 1);refine (hp1 _).mono ?_;rintro e w1 ⟨rfl,rfl⟩)
   | (go_at_call_of 121 (Value.int .i64 2);refine (hp2 _).mono ?_;rintro e w1 ⟨rfl,rfl⟩))
  clear hp0 hp1 hp2
  obtain ⟨bS,bR,bP,hsz,hbW⟩:=three_blocks w (.cells #[.int .i64 p, .int .i64 c, .int .i64 m] 23) (.cells #[.int .i64 0, .int .i64 0, .int .i64 0] 207) (.cells #[.int .i64 A, .int .i64 B, .int .i64 C] 207)
  generalize (((w.alloc (.cells #[.int .i64 p, .int .i64 c, .int .i64 m] 23)).alloc (.cells #[.int .i64 0, .int .i64 0, .int .i64 0] 207)).alloc (.cells #[.int .i64 A, .int .i64 B, .int .i64 C] 207))=W at *
  generalize hH:w.heap.size=H at *
  have cS:=rowCells bS
  have cR:=rowCells bR
  have fR:=rowFree bR
  have cP:=rowCells bP
  have l0:H < W.heap.size:=by omega
  have l1:H + 1 < W.heap.size:=by omega
  have l2:H + 1 + 1 < W.heap.size:=by omega
  clear bS bR bP
 ·by_cases h2:putV 1 [A,B,C]=x
  ·have h2':(putV 1 [A,B,C] !=x)=false:=by simpa using h2
   by_cases h3:0≤pageIx p c m A
   ·have h3':decide (pageIx p c m A < 0)=false:=decide_eq_false (by omega)
    have h6:B≥slotsV C:=by simpa [h2,h3] using hr
    clear hr h2
    refine wp_region_ext (by kernel_rfl) (by kernel_rfl) ?_
    repeat (go_big_quiet_step ((first
     | (go_at_call 188;exact ext_of (putEntry_any _ _ _ _))
     | (go_at_call 136;exact ext_of (planPage_any _ _ _ _ _))
     | (go_at_call 97;exact ext_same (slots_any _ _)))))
    refine wpQuiet_nil ?_
    rintro _ ⟨e,rfl⟩
    go_wp2
    have hc:=bcell e.below
    have hf:=bfree e.below
    have hbb:Below H w e.w:=hbW.trans (e.below.mono (by omega))
    have hbb0:=hbb
    rw [← hH] at hbb
    refine bodyPost_ret (v:= .tuple #[.agg #[.int .i64 0, .int .i64 0, .int .i64 0], .bool false]) (by simp [results,Tryz.results170,go_sem,hc,hf,cR,fR,l1]) rfl ⟨?_,rfl⟩
    go_grown
   ·have h3':decide (pageIx p c m A < 0)=true:=decide_eq_true (by omega)
    clear hr h2
    refine wp_region_ext (by kernel_rfl) (by kernel_rfl) ?_
    repeat (go_big_quiet_step ((first
     | (go_at_call 188;exact ext_of (putEntry_any _ _ _ _))
     | (go_at_call 136;exact ext_of (planPage_any _ _ _ _ _))
     | (go_at_call 97;exact ext_same (slots_any _ _)))))
    refine wpQuiet_nil ?_
    rintro _ ⟨e,rfl⟩
    go_wp2
    have hc:=bcell e.below
    have hf:=bfree e.below
    have hbb:Below H w e.w:=hbW.trans (e.below.mono (by omega))
    have hbb0:=hbb
    rw [← hH] at hbb
    refine bodyPost_ret (v:= .tuple #[.agg #[.int .i64 0, .int .i64 0, .int .i64 0], .bool false]) (by simp [results,Tryz.results170,go_sem,hc,hf,cR,fR,l1]) rfl ⟨?_,rfl⟩
    go_grown
  ·have h2':(putV 1 [A,B,C] !=x)=true:=by simpa using h2
   clear hr
   refine wp_region_ext (by kernel_rfl) (by kernel_rfl) ?_
   repeat (go_big_quiet_step ((first
    | (go_at_call 188;exact ext_of (putEntry_any _ _ _ _))
    | (go_at_call 136;exact ext_of (planPage_any _ _ _ _ _))
    | (go_at_call 97;exact ext_same (slots_any _ _)))))
   refine wpQuiet_nil ?_
   rintro _ ⟨e,rfl⟩
   go_wp2
   have hc:=bcell e.below
   have hf:=bfree e.below
   have hbb:Below H w e.w:=hbW.trans (e.below.mono (by omega))
   have hbb0:=hbb
   rw [← hH] at hbb
   refine bodyPost_ret (v:= .tuple #[.agg #[.int .i64 0, .int .i64 0, .int .i64 0], .bool false]) (by simp [results,Tryz.results170,go_sem,hc,hf,cR,fR,l1]) rfl ⟨?_,rfl⟩
   go_grown
 ·simp only [Bool.and_eq_true,beq_iff_eq,decide_eq_true_eq] at hr
  obtain ⟨⟨h2,h3⟩,h6⟩:=hr
  have h2':(putV 1 [A,B,C] !=x)=false:=by simpa using h2
  have h3':decide (pageIx p c m A < 0)=false:=decide_eq_false (by omega)
  have h6':¬ B≥slotsV C:=by omega
  clear h2
  refine wp_region_ext (by kernel_rfl) (by kernel_rfl) ?_
  repeat (go_big_quiet_step ((first
   | (go_at_call 188;exact ext_of (putEntry_any _ _ _ _))
   | (go_at_call 136;exact ext_of (planPage_any _ _ _ _ _))
   | (go_at_call 97;exact ext_same (slots_any _ _)))))
  refine wpQuiet_nil ?_
  rintro _ ⟨e,rfl⟩
  go_wp2
  have hc:=bcell e.below
  have hf:=bfree e.below
  have hbb:Below H w e.w:=hbW.trans (e.below.mono (by omega))
  have hbb0:=hbb
  rw [← hH] at hbb
  refine bodyPost_ret (v:= .tuple #[.agg #[.int .i64 A, .int .i64 B, .int .i64 C], .bool true]) (by simp [results,Tryz.results170,go_sem,hc,hf,cR,fR,l1]) rfl ⟨?_,rfl⟩
  go_grown
/-- The way that a slot's word says. -/
def readSlotB (x:Int):Bool:=slotV (kindV x) (partV x 0)==x
end Go.Proofs.YtampacmmhhilaaaGreat
/- Plain facts on sizes and places. -/
namespace Go.Proofs.YtampacmmhhilaaaGreat

def classV (n:Int):Int:=if wi n 1 32=true then (if n≤4 then 0 else if n≤8 then 1 else if n≤16 then 2 else 3) else 0
def runV (n:Int):Int:=if wi n 33 512=true then (n - 1) / 64 + 1 else 0
def lenB (n:Int):Bool:=wi n 1 512
def lenV (n:Int):Int:=if wi n 1 32=true then sizeV (classV n) else runV n * 64
theorem class_bd (n:Int):0≤classV n∧classV n≤3:=by unfold classV;split <;> (try split) <;> (try split) <;> (try split) <;> omega
theorem class_next {n k:Int} (hn:1≤n∧n≤32) (h0:0≤k) (h:k≤classV n):sizeV k < n↔k < classV n:=by
 have h1:wi n 1 32=true:=wi_iff.2 hn
 unfold classV at *
 rw [if_pos h1] at *
 unfold sizeV
 split at h <;> (try split at h) <;> (try split at h) <;> (split <;> (try split) <;> (try split) <;> (try split) <;> (try split) <;> (try split) <;> (try split)) <;> omega
theorem run_bd (n:Int):0≤runV n∧runV n≤8:=by
 unfold runV;split
 ·rename_i h;have:=wi_iff.1 h;omega
 ·omega
theorem size_bd (k:Int):0≤sizeV k∧sizeV k≤32:=by unfold sizeV;split <;> (try split) <;> (try split) <;> (try split) <;> omega
def totalV (p c m:Int):Int:=if mayB p c m=true then c + p + p * 16 + c * m else 0
def statusIx (p c m x:Int):Int:=if mayB p c m=true∧wi x 0 (c - 1)=true then x else -1
def slotIx (p c m a i:Int):Int:=if mayB p c m=true∧wi a 0 (p - 1)=true∧wi i 0 15=true then c + p + a * 16 + i else -1
def magIx (p c m x i:Int):Int:=if mayB p c m=true∧wi x 0 (c - 1)=true∧wi i 0 (m - 1)=true then c + p + p * 16 + x * m + i else -1
theorem mul_bd {c m C M:Int} (hc:0≤c∧c≤C) (hm:0≤m∧m≤M):0≤c * m∧c * m≤C * M:=
 ⟨Int.mul_nonneg hc.1 hm.1,Int.mul_le_mul hc.2 hm.2 hm.1 (by omega)⟩
theorem total_bd (p c m:Int):0≤totalV p c m∧totalV p c m≤1196:=by
 unfold totalV;split
 ·rename_i h;have h:=mayB_iff.1 h
  have:=mul_bd (c:=c) (m:=m) (C:=12) (M:=8) (by omega) (by omega)
  omega
 ·omega
end Go.Proofs.YtampacmmhhilaaaGreat
