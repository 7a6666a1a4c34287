/- Texts bound together: EvR StkP StkW StkV CliA. -/
import Derived.Deep.AppendLies

import Derived.Deep.RegionLaw

import Derived.Deep.RegionLawGrows

import Derived.Deep.RegionHeldLaw

import Derived.Test.YtampacmmhhilaaaGreatBm1

import Derived.Test.YtampacmmhhilaaaGreatBm22

import Derived.Test.YtampacmmhhilaaaGreatBm2

import Derived.Test.YtampacmmhhilaaaGreatBm28

import Derived.Test.YtampacmmhhilaaaGreatBm25

set_option linter.all false
/- A slice of events in memory. -/
namespace Go.Proofs.YtampacmmhhilaaaGreat

open Go.RowKit

/-- A slice of events. -/
def RdE (w:World) (v:Value) (es:List Ev):Prop:=RdS w 8 v es.length (es.flatMap fun e=> e.cells.toList)
theorem evC_len (e:Ev):e.cells.toList.length=8:=rfl
theorem RdE.below {w w':World} {v:Value} {es:List Ev} (h:RdE w v es) (hb:Below w.heap.size w w'):RdE w' v es:=RdS.below h hb
theorem RdE.nth {w:World} {v:Value} {es:List Ev} (h:RdE w v es):∃ ao cap,v= .slice ao es.length cap∧es.length≤cap∧(cap:Int)≤9223372036854775807∧
  (es≠ []→∃ b off,ao=some ⟨b,off, .none⟩∧b < w.heap.size∧∀ i (hi:i < es.length) j,j < 8→w.cell? ⟨b,off + i * 8 + j, .none⟩=(es[i]).cells.toList[j]?):=by
 obtain ⟨ao,cap,e,h1,h2,h3,h4⟩:=h
 refine ⟨ao,cap,e,h1,h2,fun hn=> ?_⟩
 obtain ⟨b,off,e2,h5,h6⟩:=h4 (fun e=> hn (List.eq_nil_of_length_eq_zero e))
 refine ⟨b,off,e2,h5,fun i hi j hj=> ?_⟩
 rw [Nat.add_assoc,h6 _ (by omega)]
 exact flatF_get (fun e:Ev=> e.cells.toList) 8 evC_len es i j hi hj
theorem RdE.take {w:World} {ao:Option Addr} {cap:Nat} {es:List Ev} (h:RdE w (.slice ao es.length cap) es) (n:Nat) (hn:n≤es.length):RdE w (cutV ao 0 n cap 8) (es.take n):=by
 have hc:=RdS.cut (l:=0) (h:=n) h (Nat.zero_le _) hn
 unfold RdE
 have hl:(es.take n).length=n:=by rw [List.length_take];omega
 rw [hl]
 have e:(es.take n).flatMap (fun e=> e.cells.toList)=((es.flatMap fun e=> e.cells.toList).drop (0 * 8)).take ((n - 0) * 8):=by
  rw [Nat.zero_mul,List.drop_zero,Nat.sub_zero]
  have h2:es.flatMap (fun e=> e.cells.toList)=(es.take n).flatMap (fun e=> e.cells.toList) ++ (es.drop n).flatMap (fun e=> e.cells.toList):=by
   rw [← List.flatMap_append,List.take_append_drop]
  have h3:((es.take n).flatMap (fun e=> e.cells.toList)).length=n * 8:=by
   rw [flatF_length _ 8 evC_len,hl]
  rw [h2,← h3,List.take_left]
 rw [e]
 simpa using hc
end Go.Proofs.YtampacmmhhilaaaGreat
/- What a stack of frames is in memory, and which blocks a call may have changed. -/
namespace Go.Proofs.YtampacmmhhilaaaGreat

open Go.RowKit

/-- A frame: code, pc, registers. -/
structure Fr where
 code:Int
 pc:Int
 regs:List Int
 deriving DecidableEq
def Fr.cells (f:Fr):List Value:= .int .i64 f.code:: .int .i64 f.pc::f.regs.map (.int .i64)
def flat (fs:List Fr):List Value:=fs.flatMap Fr.cells
def okRegs (fs:List Fr):Prop:=∀ f ∈ fs,f.regs.length=8
theorem flat_length {fs:List Fr} (h:okRegs fs):(flat fs).length=fs.length * 10:=by
 induction fs with
 | nil=> rfl
 | cons f fs ih=>
  have h1:=h f (by simp)
  have h2:=ih (fun g hg=> h g (by simp [hg]))
  simp only [flat,List.flatMap_cons,List.length_append] at h2 ⊢
  simp only [Fr.cells,List.length_cons,List.length_map,h1,h2]
  omega
theorem flat_append (fs:List Fr) (f:Fr):flat (fs ++ [f])=flat fs ++ f.cells:=by simp [flat]
theorem flat_get {fs:List Fr} (h:okRegs fs) (i j:Nat) (hi:i < fs.length) (hj:j < 10):(flat fs)[i * 10 + j]?=(fs[i].cells)[j]?:=by
 induction fs generalizing i with
 | nil=> simp at hi
 | cons f fs ih=>
  have h1:=h f (by simp)
  have hl:f.cells.length=10:=by simp [Fr.cells,h1]
  have h2:okRegs fs:=fun g hg=> h g (by simp [hg])
  show (f.cells ++ flat fs)[i * 10 + j]?=_
  cases i with
  | zero=> rw [List.getElem?_append_left (by omega)];simp
  | succ i=>
   rw [List.getElem?_append_right (by omega),hl,show (i + 1) * 10 + j - 10=i * 10 + j from by omega]
   simpa using ih h2 i (by simpa using hi)
/-- The stack that lies at block s: its slice's value, how many may be, its frames. 'B': all of it lies from block B on. -/
structure Stk (T E:TypeId) (B:Nat) (w:World) (s:Nat) (sl:Value) (most:Int) (fs:List Fr):Prop where
 lies:B≤s
 head:w.heap[s]?=some (.cells #[sl, .int .i64 most] T (0,0))
 owns:w.ownsRow B E 10 sl fs.length (flat fs)
 apart:sl.ownBlock≠some s
 regs:okRegs fs
def zeroFrame:Value:= .agg #[.int .i64 0, .int .i64 0, .int .i64 0, .int .i64 0, .int .i64 0, .int .i64 0, .int .i64 0, .int .i64 0, .int .i64 0, .int .i64 0]
def zeroFr:Fr:=⟨0,0, [0,0,0,0,0,0,0,0]⟩
def topFr (fs:List Fr):Fr:=fs.getLast?.getD zeroFr
/-- A frame with one of its ten numbers changed. -/
def Fr.put (f:Fr) (j:Nat) (x:Int):Fr:=if j=0 then { f with code:=x } else if j=1 then { f with pc:=x } else { f with regs:=f.regs.set (j - 2) x }
theorem Fr.put_cells (f:Fr) (j:Nat) (x:Int):(f.put j x).cells=f.cells.set j (.int .i64 x):=by
 unfold Fr.put
 match j with
 | 0=> simp [Fr.cells]
 | 1=> simp [Fr.cells]
 | j + 2=> simp [Fr.cells,List.map_set]
theorem Fr.put_regs (f:Fr) (j:Nat) (x:Int):(f.put j x).regs.length=f.regs.length:=by
 unfold Fr.put
 split
 ·rfl
 ·split <;> simp
def putLast (fs:List Fr) (j:Nat) (x:Int):List Fr:=fs.dropLast ++ [(topFr fs).put j x]
theorem putLast_length {fs:List Fr} (h:fs.length≠0) (j:Nat) (x:Int):(putLast fs j x).length=fs.length:=by simp [putLast];omega
theorem split_last {fs:List Fr} (h:fs.length≠0):fs=fs.dropLast ++ [topFr fs]:=by
 have h':fs≠ []:=fun e=> h (by simp [e])
 have:topFr fs=fs.getLast h':=by simp [topFr,List.getLast?_eq_some_getLast h']
 rw [this];exact (List.dropLast_concat_getLast h').symm
section

variable {T E:TypeId} {B:Nat} {w w':World} {s:Nat} {sl:Value} {most:Int} {fs:List Fr}

theorem Stk.lt (h:Stk T E B w s sl most fs):s < w.heap.size:=(Array.getElem?_eq_some_iff.1 h.head).1
theorem Stk.rowLt (h:Stk T E B w s sl most fs):∀ k,sl.ownBlock=some k→B≤k∧k < w.heap.size:=h.owns.lt
theorem Stk.cell0 (h:Stk T E B w s sl most fs):w.cell? ⟨s,0, .none⟩=some sl:=by simpa using cell_of_row w s 0 _ T (0,0) h.head
theorem Stk.cell1 (h:Stk T E B w s sl most fs):w.cell? ⟨s,1, .none⟩=some (.int .i64 most):=by simpa using cell_of_row w s 1 _ T (0,0) h.head
/-- A world in which its blocks are as they were. -/
theorem Stk.blocks (h:Stk T E B w s sl most fs) (hb:∀ k,foot s sl k→w'.heap[k]?=w.heap[k]?):Stk T E B w' s sl most fs:=
 ⟨h.lies,by rw [hb s (.inl rfl)];exact h.head,ownsRow_of_blocks h.owns (fun k hk=> hb k (.inr hk)),h.apart,h.regs⟩
theorem Stk.below (h:Stk T E B w s sl most fs) (hb:Below w.heap.size w w'):Stk T E B w' s sl most fs:=
 h.blocks fun k hk=> hb.block k (by rcases hk with rfl | hk;exact h.lt;exact (h.rowLt k hk).2)
theorem Stk.form (h:Stk T E B w s sl most fs):(sl= .slice none 0 0∧fs= [])∨∃ g cap,sl= .slice (some ⟨g,0, .none⟩) fs.length cap∧fs.length≤cap∧g < w.heap.size∧g≠s∧B≤g∧(fs.length:Int)≤9223372036854775807∧
  ∀ i j,(hi:i < fs.length)→j < 10→w.cell? ⟨g,i * 10 + j, .none⟩=(fs[i].cells)[j]?:=by
 rcases h.owns.2 with ⟨h1,h2⟩ | ⟨g,cap,cur,rfl,h1,h2,h3,h4,h5,h6⟩
 ·exact .inl ⟨h1,List.eq_nil_of_length_eq_zero h2⟩
 ·refine .inr ⟨g,cap,rfl,h3,(Array.getElem?_eq_some_iff.1 h2).1,fun e=> h.apart (by rw [e];rfl),h1,by simp only [maxLen] at h4;omega,fun i j hi hj=> ?_⟩
  rw [cell_of_row w g _ cur E (0,0) h2,← flat_get h.regs i j hi hj,← h6,List.getElem?_take,if_pos (by omega)]
  simp
theorem Only.stk {F:Nat→Prop} (ho:Only F w w') (h:Stk T E B w s sl most fs) (hF:∀ k,foot s sl k→¬ F k):Stk T E B w' s sl most fs:=
 h.blocks fun k hk=> ho.block k (by rcases hk with rfl | hk;exact h.lt;exact (h.rowLt k hk).2) (hF k hk)
theorem Stk_setLast {g cap j:Nat} {x:Int} (h:Stk T E B w s (.slice (some ⟨g,0, .none⟩) fs.length cap) most fs) (h0:fs.length≠0) (hj:j < 10):
  Stk T E B (w.setCell ⟨g,(fs.length - 1) * 10 + j, .none⟩ (.int .i64 x)) s (.slice (some ⟨g,0, .none⟩) fs.length cap) most (putLast fs j x):=by
 obtain ⟨h1,h2,h3,h4,h5⟩:=h
 have hgs:s≠g:=fun e=> h4 (by rw [e];rfl)
 have e:=split_last h0
 have hreg:okRegs (putLast fs j x):=by
  intro f hf
  rcases List.mem_append.1 hf with hf | hf
  ·exact h5 f (List.dropLast_subset _ hf)
  ·rw [List.mem_singleton.1 hf,Fr.put_regs]
   have hm:topFr fs ∈ fs.dropLast ++ [topFr fs]:=by simp
   rw [← e] at hm
   exact h5 _ hm
 have hrd:okRegs fs.dropLast:=fun f hf=> h5 f (List.dropLast_subset _ hf)
 have hl:=flat_length hrd
 rw [List.length_dropLast] at hl
 have hflat:flat (putLast fs j x)=(flat fs).set ((fs.length - 1) * 10 + j) (.int .i64 x):=by
  have h7:flat fs=flat fs.dropLast ++ (topFr fs).cells:=by rw [← flat_append,← e]
  rw [putLast,flat_append,Fr.put_cells,h7,List.set_append_right _ _ (by omega),hl]
  congr 2
  omega
 refine ⟨h1,by rw [heap_setCell_other _ _ _ _ hgs];exact h2,⟨by rw [flat_length hreg], .inr ?_⟩,h4,hreg⟩
 rcases h3.2 with ⟨h,_⟩ | ⟨g',cap',cur,hv,k1,k2,k3,k4,k5,k6⟩
 ·cases h
 ·obtain ⟨rfl,rfl⟩:g=g'∧cap=cap':=by injection hv with a _ b;injection a with a;injection a with a;exact ⟨a,b⟩
  have hpl:=putLast_length h0 j x
  refine ⟨g,cap,_,by rw [hpl],k1,heap_setCell_same w g _ cur E _ k2,by omega,k4,by simpa using k5,?_⟩
  rw [hpl,hflat,← k6,Array.toList_setIfInBounds,List.take_set]
end

end Go.Proofs.YtampacmmhhilaaaGreat
/- The walks of the stack of frames (package frame). -/
namespace Go.Proofs.YtampacmmhhilaaaGreat

open Go.RowKit

abbrev SK:=Stk 216 224
set_option maxHeartbeats 400000 in
theorem stkNew_any (m:Int) (w:World):
  Calls Tryz.prog 145 #[.int .i64 m] w fun e w'=> e= .returned (.pointer (some ⟨w.heap.size,0, .none⟩))∧w'=w.alloc (.cells #[.slice none 0 0, .int .i64 (if m < 0∨16 < m then 0 else m)] 216):=by
 go_enter Tryz.func145,Tryz.ntmps145
 go_wp2
 all_goals go_ret
 all_goals exact ⟨rfl,rfl⟩
set_option maxHeartbeats 400000 in
theorem stkDepth_any {B:Nat} {w:World} {s:Nat} {sl:Value} {most:Int} {fs:List Fr} (h:SK B w s sl most fs):
  Calls Tryz.prog 108 #[.pointer (some ⟨s,0, .none⟩)] w fun e w'=> e= .returned (.int .i64 fs.length)∧w'=w:=by
 have c0:=h.cell0
 have hfm:=h.form
 rcases hfm with ⟨rfl,rfl⟩ | ⟨g,cap,rfl,hcap,hg,hgs,hB,hn,hc⟩
 ·clear h
  go_enter Tryz.func108,Tryz.ntmps108
  go_wp2
  all_goals go_ret
  all_goals exact ⟨rfl,rfl⟩
 ·clear h hc
  go_enter Tryz.func108,Tryz.ntmps108
  go_wp2
  all_goals go_ret
  all_goals exact ⟨rfl,rfl⟩
/-- Where the last frame lies. -/
def topAddr (sl:Value) (n:Nat):Option Addr:=match sl with
 | .slice (some a) _ _=> if n=0 then none else some ⟨a.block,(n - 1) * 10, .none⟩
 | _=> none
set_option maxHeartbeats 400000 in
theorem stktop_any {B:Nat} {w:World} {s:Nat} {sl:Value} {most:Int} {fs:List Fr} (h:SK B w s sl most fs):
  Calls Tryz.prog 173 #[.pointer (some ⟨s,0, .none⟩)] w fun e w'=> e= .returned (.pointer (topAddr sl fs.length))∧∃ n,w'=w.drewN n:=by
 have c0:=h.cell0
 have hfm:=h.form
 rcases hfm with ⟨rfl,rfl⟩ | ⟨g,cap,rfl,hcap,hg,hgs,hB,hn,hc⟩
 ·go_enter Tryz.func173,Tryz.ntmps173
  go_wp2_with (go_at_call 108;refine (stkDepth_any h).mono ?_;rintro e w1 ⟨rfl,rfl⟩)
  all_goals go_ret
  all_goals exact ⟨rfl,0,rfl⟩
 ·by_cases h0:fs.length=0
  ·have hl:((fs.length:Int)==0)=true:=by simp [h0]
   go_enter Tryz.func173,Tryz.ntmps173
   go_wp2_with (go_at_call 108;refine (stkDepth_any h).mono ?_;rintro e w1 ⟨rfl,rfl⟩)
   all_goals go_ret
   all_goals exact ⟨by rw [topAddr,if_pos h0];rfl,0,rfl⟩
  ·have hl:((fs.length:Int)==0)=false:=by simpa using h0
   have hp:(1:Int)≤(fs.length:Int):=by omega
   go_enter Tryz.func173,Tryz.ntmps173
   go_wp2_with (go_at_call 108;refine (stkDepth_any h).mono ?_;rintro e w1 ⟨rfl,rfl⟩)
   go_quiet (fail)
   go_wp2
   all_goals go_ret
   exact ⟨by rw [topAddr,if_neg h0];rfl,nq,rfl⟩
/-- The last frame, its cells one by one. -/
theorem last_cells {B:Nat} {w:World} {s:Nat} {sl:Value} {most:Int} {fs:List Fr} (h:SK B w s sl most fs) (h0:fs.length≠0):
  ∃ g cap code pc r0 r1 r2 r3 r4 r5 r6 r7,sl= .slice (some ⟨g,0, .none⟩) fs.length cap∧topAddr sl fs.length=some ⟨g,(fs.length - 1) * 10, .none⟩∧g < w.heap.size∧g≠s∧B≤g∧topFr fs=⟨code,pc, [r0,r1,r2,r3,r4,r5,r6,r7]⟩∧
   w.cell? ⟨g,(fs.length - 1) * 10, .none⟩=some (.int .i64 code)∧w.cell? ⟨g,(fs.length - 1) * 10 + 1, .none⟩=some (.int .i64 pc)∧
   w.cell? ⟨g,(fs.length - 1) * 10 + 2, .none⟩=some (.int .i64 r0)∧w.cell? ⟨g,(fs.length - 1) * 10 + 3, .none⟩=some (.int .i64 r1)∧
   w.cell? ⟨g,(fs.length - 1) * 10 + 4, .none⟩=some (.int .i64 r2)∧w.cell? ⟨g,(fs.length - 1) * 10 + 5, .none⟩=some (.int .i64 r3)∧
   w.cell? ⟨g,(fs.length - 1) * 10 + 6, .none⟩=some (.int .i64 r4)∧w.cell? ⟨g,(fs.length - 1) * 10 + 7, .none⟩=some (.int .i64 r5)∧
   w.cell? ⟨g,(fs.length - 1) * 10 + 8, .none⟩=some (.int .i64 r6)∧w.cell? ⟨g,(fs.length - 1) * 10 + 9, .none⟩=some (.int .i64 r7)∧fs.length≤cap∧(fs.length:Int)≤9223372036854775807:=by
 rcases h.form with ⟨rfl,rfl⟩ | ⟨g,cap,rfl,hcap,hg,hgs,hB,hn,hc⟩
 ·simp at h0
 ·have hl:fs.length - 1 < fs.length:=by omega
  have hr:=h.regs _ (List.getElem_mem hl)
  have ht:topFr fs=fs[fs.length - 1]:=by simp [topFr,List.getLast?_eq_getElem?,hl]
  rw [ht]
  generalize hf:fs[fs.length - 1]=f at hr
  have hc':=fun j=> hc (fs.length - 1) j hl
  rw [hf] at hc'
  obtain ⟨code,pc,regs⟩:=f
  match regs,hr with
  | [r0,r1,r2,r3,r4,r5,r6,r7],_=>
   exact ⟨g,cap,code,pc,r0,r1,r2,r3,r4,r5,r6,r7,rfl,by rw [topAddr,if_neg h0],hg,hgs,hB,rfl,hc' 0 (by omega),hc' 1 (by omega),hc' 2 (by omega),hc' 3 (by omega),hc' 4 (by omega),hc' 5 (by omega),hc' 6 (by omega),hc' 7 (by omega),hc' 8 (by omega),hc' 9 (by omega),hcap,hn⟩
theorem cell_free_of {w:World} {b:Nat} {cs:Array Value} {t:TypeId} (h:w.heap[b]?=some (.cells cs t (0,0))) (i:Nat):w.frozen? ⟨b,i, .none⟩=false:=by
 simp [World.frozen?,h]
theorem cell_free_row {B:Nat} {w:World} {s:Nat} {g cap n:Nat} {most:Int} {fs:List Fr} (h:SK B w s (.slice (some ⟨g,0, .none⟩) n cap) most fs) (_h0:fs.length≠0) (i:Nat):w.frozen? ⟨g,i, .none⟩=false:=by
 rcases h.owns.2 with ⟨h1,_⟩ | ⟨g',cap',cur,hv,k1,k2,_⟩
 ·cases h1
 ·obtain rfl:g=g':=by injection hv with a _ b;injection a with a;injection a with a
  exact cell_free_of k2 i
set_option maxHeartbeats 400000 in
theorem stkGo_any {B:Nat} {w:World} {s:Nat} {sl:Value} {most pc':Int} {fs:List Fr} (h:SK B w s sl most fs) (h0:fs.length≠0):
  Calls Tryz.prog 148 #[.pointer (some ⟨s,0, .none⟩), .int .i64 pc'] w fun e w'=> e= .returned (.bool true)∧Only (foot s sl) w w'∧SK B w' s sl most (putLast fs 1 pc'):=by
 obtain ⟨g,cap,code,pc,r0,r1,r2,r3,r4,r5,r6,r7,rfl,ha,hg,hgs,hB,ht,_,c1,_,_,_,_,_,_,_,_,hcap,hn⟩:=last_cells h h0
 have htop:=stktop_any h
 rw [ha] at htop
 have fz:=cell_free_row h h0
 clear ha
 go_enter Tryz.func148,Tryz.ntmps148
 go_wp2_with (go_at_call 173;refine htop.mono ?_;rintro e w1 ⟨rfl,nq,rfl⟩)
 go_ret
 exact ⟨rfl,Only.setCell (Only.drewN (Only.refl _ _) nq) (.inl (.inr rfl)) _,(Stk_setLast h h0 (by decide)).blocks fun k _=> rfl⟩
set_option maxHeartbeats 400000 in
theorem stkClear_any {B:Nat} {w:World} {s:Nat} {sl:Value} {most:Int} {fs:List Fr} (h:SK B w s sl most fs):
  Calls Tryz.prog 151 #[.pointer (some ⟨s,0, .none⟩)] w fun e w'=> e= .returned (.tuple #[])∧Only (foot s sl) w w'∧SK B w' s (.slice none 0 0) most []:=by
 have d0:=h.cell0
 have fz:=cell_free_of h.head
 go_enter Tryz.func151,Tryz.ntmps151
 go_wp2
 go_end0
 refine ⟨rfl,Only.setCell (Only.refl _ _) (.inl (.inl rfl)) _,h.lies,?_,World.ownsRow_nil _ _ _ _,by simp [Value.ownBlock],fun f hf=> by cases hf⟩
 rw [heap_setCell_same w s 0 _ _ _ h.head];rfl
end Go.Proofs.YtampacmmhhilaaaGreat
/- The walks of the stack of frames: Get and Push. -/
namespace Go.Proofs.YtampacmmhhilaaaGreat

open Go.RowKit

theorem infoFrame:(Tryz.prog.info? 224).map (fun i=> (i.zero,i.size,i.bytes))=some (some zeroFrame,10,80):=by kernel_rfl
theorem own_later {T E:TypeId} {B:Nat} {w Y:World} {s:Nat} {sl:Value} {most:Int} {fs:List Fr} (h:Stk T E B w s sl most fs) (hb:Below w.heap.size w Y):Y.ownsRow B E 10 sl fs.length (flat fs):=
 ownsRow_of_blocks h.owns fun k hk=> hb.block k (h.rowLt k hk).2
/-- The registers of a new frame. -/
def padded (zs:List Int):List Int:=zs ++ List.replicate (8 - zs.length) 0
theorem padded_length {zs:List Int} (h:zs.length≤8):(padded zs).length=8:=by simp [padded];omega
theorem padded_splice (code:Int) {zs:List Int} (h:zs.length≤8):splice [.int .i64 code, .int .i64 0, .int .i64 0, .int .i64 0, .int .i64 0, .int .i64 0, .int .i64 0, .int .i64 0, .int .i64 0, .int .i64 0] 2 (zs.map (.int .i64))=(Fr.mk code 0 (padded zs)).cells:=by
 match zs,h with
 | [],_=> rfl
 | [_],_=> rfl
 | [_,_],_=> rfl
 | [_,_,_],_=> rfl
 | [_,_,_,_],_=> rfl
 | [_,_,_,_,_],_=> rfl
 | [_,_,_,_,_,_],_=> rfl
 | [_,_,_,_,_,_,_],_=> rfl
 | [_,_,_,_,_,_,_,_],_=> rfl
theorem list8 {l:List Int} (h:l.length=8):∃ a b c d e f g i,l= [a,b,c,d,e,f,g,i]:=by
 match l,h with
 | [a,b,c,d,e,f,g,i],_=> exact ⟨a,b,c,d,e,f,g,i,rfl⟩
theorem okRegs_snoc {fs:List Fr} {f:Fr} (h:okRegs fs) (hf:f.regs.length=8):okRegs (fs ++ [f]):=by
 intro x hx
 rcases List.mem_append.1 hx with hx | hx
 ·exact h x hx
 ·rw [List.mem_singleton.1 hx];exact hf
theorem push_done {T E:TypeId} {B s g cap' K H:Nat} {w w2 Y w3:World} {sl:Value} {most:Int} {fs:List Fr} {f:Fr} (h2:Stk T E B w2 s sl most fs)
  (hown:w3.ownsRow B E 10 (.slice (some ⟨g,0, .none⟩) (fs.length + 1) cap') (fs.length + 1) (flat fs ++ f.cells)) (hg:Y.grownBy w3 sl.ownBlock) (hY:Below w2.heap.size w2 Y)
  (ho:Only (foot s sl) w w2) (hat:sl.ownBlock=some g∨g=K) (hK:sl.ownBlock=some g∨g=K→sl.ownBlock=some g∨(H≤g∧w2.heap.size≤g)) (hr:okRegs (fs ++ [f])):
  Only (foot s sl) w (w3.setCell ⟨s,0, .none⟩ (.slice (some ⟨g,0, .none⟩) (fs.length + 1) cap'))∧∃ sl',(∀ k,sl'.ownBlock=some k→sl.ownBlock=some k∨H≤k)∧
   Stk T E B (w3.setCell ⟨s,0, .none⟩ (.slice (some ⟨g,0, .none⟩) (fs.length + 1) cap')) s sl' most (fs ++ [f]):=by
 have hs:=h2.lt
 have ne1:some s≠sl.ownBlock:=fun e=> h2.apart e.symm
 have hh:w3.heap[s]?=some (.cells #[sl, .int .i64 most] T (0,0)):=(hg.block s (by have:=hY.size;omega) ne1).trans ((hY.block s hs).trans h2.head)
 have hgs:g≠s:=by
  rcases hK hat with h | ⟨_,h⟩
  ·intro e;exact h2.apart (by rw [h,e])
  ·omega
 refine ⟨Only.setCell (Only.grown (ho.trans (Only.of_below (F:=fun _=> False) hY) fun _ _ h=> h.elim) hg fun k hk=> .inl (.inr hk)) (.inl (.inl rfl)) _, .slice (some ⟨g,0, .none⟩) (fs.length + 1) cap',?_,h2.lies,?_,?_,?_,hr⟩
 ·intro k hk
  obtain rfl:g=k:=by injection hk
  rcases hK hat with h | h
  ·exact .inl h
  ·exact .inr h.1
 ·rw [heap_setCell_same w3 s 0 _ T _ hh];rfl
 ·have e:(fs ++ [f]).length=fs.length + 1:=by simp
  rw [e,flat_append]
  exact ownsRow_of_blocks hown fun k hk=> by
   obtain rfl:g=k:=by injection hk
   exact heap_setCell_other _ _ _ _ hgs
 ·intro e
  exact hgs (by injection e)
set_option maxHeartbeats 1000000 in
theorem stkPush_any {B:Nat} {w:World} {s:Nat} {sl:Value} {most code:Int} {fs:List Fr} {ao:Option Addr} {zs:List Int} {cap:Nat} (h:SK B w s sl most fs) (h1:fs.length < most) (hz:zs.length≤8) (hB:B≤w.heap.size) (hm:most≤100000)
  (hc:∀ a,ao=some a→∀ j v,(zs.map (Value.int .i64))[j]?=some v→w.cell? (a.add j)=some v) (hn:ao=none→zs= []):
  Calls Tryz.prog 114 #[.pointer (some ⟨s,0, .none⟩), .int .i64 code, .slice ao zs.length cap] w fun e w'=> e= .returned (.bool true)∧Only (foot s sl) w w'∧
   ∃ sl',(∀ k,sl'.ownBlock=some k→sl.ownBlock=some k∨w.heap.size≤k)∧SK B w' s sl' most (fs ++ [⟨code,0,padded zs⟩]):=by
 have c0:=h.cell0
 have c1:=h.cell1
 have hsl:∃ a c,sl= .slice a fs.length c:=by
  rcases h.form with ⟨rfl,rfl⟩ | ⟨g,cap,rfl,_⟩
  ·exact ⟨_,_,rfl⟩
  ·exact ⟨_,_,rfl⟩
 obtain ⟨a,c,rfl⟩:=hsl
 have h3:decide (most≤(fs.length:Int))=false:=by simp;omega
 have h4:decide ((8:Int) < (zs.length:Int))=false:=by simp;omega
 go_enter Tryz.func114,Tryz.ntmps114
 go_wp2_with fail
 go_quiet (fail)
 have h':SK B (w.drewN nq) s (.slice a fs.length c) most fs:=h.blocks fun _ _=> rfl
 have hc':∀ a,ao=some a→∀ j v,(zs.map (Value.int .i64))[j]?=some v→(w.drewN nq).cell? (a.add j)=some v:=hc
 have ho:Only (foot s (.slice a fs.length c)) w (w.drewN nq):=Only.drewN (Only.refl _ _) nq
 have hsz:(w.drewN nq).heap.size=w.heap.size:=rfl
 generalize w.drewN nq=W at *
 clear c0 c1 hc h
 have c0:=h'.cell0
 have hlt:=h'.lt
 go_upto_region 4 with fail
 have hu:=Tryz.underlying221
 have k1:(W.alloc (.cells #[.int .i64 code, .int .i64 0, .int .i64 0, .int .i64 0, .int .i64 0, .int .i64 0, .int .i64 0, .int .i64 0, .int .i64 0, .int .i64 0] 224)).heap[w.heap.size]?=some (.cells #[.int .i64 code, .int .i64 0, .int .i64 0, .int .i64 0, .int .i64 0, .int .i64 0, .int .i64 0, .int .i64 0, .int .i64 0, .int .i64 0] 224 (0,0)):=by rw [← hsz];exact heap_alloc_new W _
 have k2:(zs.map (Value.int .i64)).length=Nat.min zs.length 8:=by rw [List.length_map];exact (Nat.min_eq_left hz).symm
 have k3:0 < (zs.map (Value.int .i64)).length→(some (⟨w.heap.size,2, .none⟩:Addr))=some ⟨w.heap.size,2, .none⟩∧∃ ad,ao=some ad∧∀ j v,(zs.map (Value.int .i64))[j]?=some v→(W.alloc (.cells #[.int .i64 code, .int .i64 0, .int .i64 0, .int .i64 0, .int .i64 0, .int .i64 0, .int .i64 0, .int .i64 0, .int .i64 0, .int .i64 0] 224)).cell? (ad.add j)=some v:=by
  intro hp
  refine ⟨rfl,?_⟩
  cases ao with
  | none=> rw [hn rfl] at hp;simp at hp
  | some ad=> exact ⟨ad,rfl,fun j v hv=> (World.grownBy_alloc W _ none).cell (hc' ad rfl j v hv) (by simp)⟩
 have k4:2 + (zs.map (Value.int .i64)).length≤([Value.int .i64 code, .int .i64 0, .int .i64 0, .int .i64 0, .int .i64 0, .int .i64 0, .int .i64 0, .int .i64 0, .int .i64 0, .int .i64 0]:List Value).length:=by simp;omega
 have k5:∀ v ∈ zs.map (Value.int .i64),v.oneCell'=true:=by
  intro v hv
  obtain ⟨x,_,rfl⟩:=List.mem_map.1 hv
  rfl
 have k6:Below W.heap.size W (W.alloc (.cells #[.int .i64 code, .int .i64 0, .int .i64 0, .int .i64 0, .int .i64 0, .int .i64 0, .int .i64 0, .int .i64 0, .int .i64 0, .int .i64 0] 224)):=(Below.refl _ _).alloc (Nat.le_refl _) _
 go_wp2_with (refine wpList_copy_splice rfl (.tmp 30) (.tmp 31) 221 221 rfl 2 hu (by kernel_rfl) (some ⟨w.heap.size,2, .none⟩) ao 8 8 zs.length cap rfl rfl w.heap.size 2 [.int .i64 code, .int .i64 0, .int .i64 0, .int .i64 0, .int .i64 0, .int .i64 0, .int .i64 0, .int .i64 0, .int .i64 0, .int .i64 0] 224 k1 (zs.map (.int .i64)) k2 k3 k4 k5 W.heap.size W k6 (Nat.le_of_eq hsz) ?_;intro w2 hH hb2)
 have hH':=hH.out
 rw [padded_splice code hz] at hH'
 obtain ⟨e0,e1,e2,e3,e4,e5,e6,e7,he⟩:=list8 (padded_length hz)
 rw [he] at hH'
 have hh:=fun i=> cell_of_row w2 w.heap.size i _ _ (0,0) hH'
 simp only [Fr.cells,List.map_cons,List.map_nil] at hh hH'
 have h2:=h'.below hb2
 have ho2:=ho.trans (Only.of_below (F:=fun _=> False) hb2) (fun _ _ h=> h.elim)
 have hs1:s≠w.heap.size:=by omega
 have hsz2:W.heap.size < w2.heap.size:=(Array.getElem?_eq_some_iff.1 (hsz ▸ hH')).1
 clear k1 k2 k3 k4 k5 k6 hH hc' hn ho hu
 have hu2:=Tryz.underlying214
 obtain ⟨i0,hi,hz0,hz1,hz2⟩:=info_parts infoFrame
 have c2:=h2.cell0
 have fz2:=cell_free_of h2.head 0
 have hrow:=h2.rowLt
 have hrl:=h'.rowLt
 have ne1:some s≠(Value.slice a fs.length c).ownBlock:=fun e=> h2.apart e.symm
 have ne2:some w.heap.size≠(Value.slice a fs.length c).ownBlock:=fun e=> by have:=(hrl _ e.symm).2;omega
 have hB2:B≤w2.heap.size:=by omega
 have hs2:s < w2.heap.size:=h2.lt
 have hone:∀ u ∈ ([.int .i64 code, .int .i64 0, .int .i64 e0, .int .i64 e1, .int .i64 e2, .int .i64 e3, .int .i64 e4, .int .i64 e5, .int .i64 e6, .int .i64 e7]:List Value),u.oneCell'=true:=by intro u hu;simp at hu;rcases hu with rfl | rfl | rfl | rfl | rfl | rfl | rfl | rfl | rfl | rfl <;> rfl
 have hb1:(fs.length + 1) * 80≤140737488355328:=by omega
 have hb3:fs.length + 1≤maxLen:=by simp only [maxLen];omega
 generalize hH:w.heap.size=H at *
 have g0:∀ i,w2.cell? ⟨H,i, .none⟩=(#[.int .i64 code, .int .i64 0, .int .i64 e0, .int .i64 e1, .int .i64 e2, .int .i64 e3, .int .i64 e4, .int .i64 e5, .int .i64 e6, .int .i64 e7]:Array Value)[i]?:=hh
 clear hh h' h3 h4
 have hS:∀ w',Below w2.heap.size w2 w'→w'.cell? ⟨s,0, .none⟩=some (.slice a fs.length c)∧w'.frozen? ⟨s,0, .none⟩=false∧w'.cell? ⟨H,0, .none⟩=some (.int .i64 code)∧w'.cell? ⟨H,1, .none⟩=some (.int .i64 0)∧w'.cell? ⟨H,2, .none⟩=some (.int .i64 e0)∧w'.cell? ⟨H,3, .none⟩=some (.int .i64 e1)∧w'.cell? ⟨H,4, .none⟩=some (.int .i64 e2)∧w'.cell? ⟨H,5, .none⟩=some (.int .i64 e3)∧w'.cell? ⟨H,6, .none⟩=some (.int .i64 e4)∧w'.cell? ⟨H,7, .none⟩=some (.int .i64 e5)∧w'.cell? ⟨H,8, .none⟩=some (.int .i64 e6)∧w'.cell? ⟨H,9, .none⟩=some (.int .i64 e7):=by
  intro w' hb
  have kk:=keepF hb
  refine ⟨kk _ _ _ c2,(hb.frozen (p:=⟨s,0, .none⟩) hs2).trans fz2,?_⟩
  (repeat' apply And.intro) <;> exact kk _ _ _ (g0 _)
 have hS3:∀ w1 w',Below w2.heap.size w2 w1→w1.grownBy w' (Value.slice a fs.length c).ownBlock→w'.cell? ⟨s,0, .none⟩=some (.slice a fs.length c)∧w'.frozen? ⟨s,0, .none⟩=false∧w'.cell? ⟨H,0, .none⟩=some (.int .i64 code)∧w'.cell? ⟨H,1, .none⟩=some (.int .i64 0)∧w'.cell? ⟨H,2, .none⟩=some (.int .i64 e0)∧w'.cell? ⟨H,3, .none⟩=some (.int .i64 e1)∧w'.cell? ⟨H,4, .none⟩=some (.int .i64 e2)∧w'.cell? ⟨H,5, .none⟩=some (.int .i64 e3)∧w'.cell? ⟨H,6, .none⟩=some (.int .i64 e4)∧w'.cell? ⟨H,7, .none⟩=some (.int .i64 e5)∧w'.cell? ⟨H,8, .none⟩=some (.int .i64 e6)∧w'.cell? ⟨H,9, .none⟩=some (.int .i64 e7):=by
  intro w1 w' hb hg
  have h:=hS w1 hb
  have hs3:s < w1.heap.size:=by have:=hb.size;omega
  refine ⟨hg.cell h.1 ne1,(World.frozen?_of_block (hg.block s hs3 ne1)).trans h.2.1,?_⟩
  obtain ⟨_,_,h0,h1,h2,h3,h4,h5,h6,h7,h8,h9⟩:=h
  exact ⟨hg.cell h0 ne2,hg.cell h1 ne2,hg.cell h2 ne2,hg.cell h3 ne2,hg.cell h4 ne2,hg.cell h5 ne2,hg.cell h6 ne2,hg.cell h7 ne2,hg.cell h8 ne2,hg.cell h9 ne2⟩
 go_cut [] (fun wx=> Only (foot s (.slice a fs.length c)) w wx∧∃ sl',(∀ k,sl'.ownBlock=some k→(Value.slice a fs.length c).ownBlock=some k∨H≤k)∧SK B wx s sl' most (fs ++ [⟨code,0,padded zs⟩]))
 case first=>
  go_region_law
   (first
    | (refine step_append_lies _ rfl (.tmp 37) (.tmp 39) 214 rfl B 224 i0 zeroFrame 10 80 hu2 hi hz0 hz1 hz2 rfl (by decide) (.slice a fs.length c) fs.length (flat fs) rfl (own_later h2 (by go_grown)) ⟨w2.heap.size,0, .none⟩ 1 1 [.int .i64 code, .int .i64 0, .int .i64 e0, .int .i64 e1, .int .i64 e2, .int .i64 e3, .int .i64 e4, .int .i64 e5, .int .i64 e6, .int .i64 e7] rfl rfl (World.news_of_block (by exact heap_alloc_new w2 _)) hone (by decide) hb3 hb1 (Nat.le_trans hB2 (Below.size (B:=0) (by go_grown))) _ rfl ?_;intro g cap' w3 hown3 hgrow3 hat3 hlt3;have q1:=(hS3 _ _ (by go_grown) hgrow3).1;have q2:=(hS3 _ _ (by go_grown) hgrow3).2.1))
  all_goals go_wp2_with fail
  all_goals
   go_meet
   case rel=>
    refine push_done h2 (he ▸ hown3) hgrow3 ?_ ho2 hat3 (fun k=> by rcases k with k | k;exact .inl k;right;rw [k];simp;omega) (okRegs_snoc h2.regs (padded_length hz))
    go_grown
 case rest=>
  obtain ⟨hw,sl',hsl',hst⟩:=hcut
  go_wp2_with fail
  go_ret
  exact ⟨rfl,hw,sl',by rw [hH];exact hsl',hst⟩
end Go.Proofs.YtampacmmhhilaaaGreat
/- A client in memory: what lies there; its last event. -/
namespace Go.Proofs.YtampacmmhhilaaaGreat

open Go.RowKit

attribute [local go_sem ↓] Go.wp_at_zero Go.wp_at_succ

def klCells (s:Sh) (k:Kl) (idle:Bool) (jv sv:Value):Array Value:= #[.int .i64 s.p, .int .i64 s.c, .int .i64 s.m, .int .i64 k.c, .int .i64 k.first, .int .i64 k.op.k, .int .i64 k.op.a, .int .i64 k.op.n,jv, .bool idle, .bool k.told,sv, .int .i64 k.steps]
set_option maxRecDepth 100000 in
set_option maxHeartbeats 4000000 in
theorem klanswer_any {q sp:Nat} {s:Sh} {k:Kl} {i:Bool} {jv sl:Value} {most:Int} {fs:List Fr} (x at':Int) {w:World} (h:RowAt w q (klCells s k i jv (.pointer (some ⟨sp,0, .none⟩))) 127) (hs:SK 0 w sp sl most fs) (hqs:¬ foot sp sl q):
  Calls Tryz.prog 116 #[.pointer (some ⟨q,0, .none⟩), .int .i64 x, .int .i64 at'] w fun r w'=> r= .returned (evAnswer k.c k.op at' x).val∧RowAt w' q (klCells s k true .nilIface (.pointer (some ⟨sp,0, .none⟩))) 127∧SK 0 w' sp (.slice none 0 0) most []∧Only (fun b=> b=q∨foot sp sl b) w w':=by
 unfold Ev.val Ev.cells evAnswer
 dsimp only
 obtain ⟨sp',sc,sm⟩:=s
 obtain ⟨kc,kf,⟨ok,oa,on⟩,kj,kt,ks⟩:=k
 dsimp only [klCells] at h ⊢
 have hb0:=(Below.refl w.heap.size w).alloc (Nat.le_refl _) (.cells #[.int .i64 0, .int .i64 0, .int .i64 0, .int .i64 0, .int .i64 0, .int .i64 0, .int .i64 0, .int .i64 0] 50)
 have hE:RowAt (w.alloc (.cells #[.int .i64 0, .int .i64 0, .int .i64 0, .int .i64 0, .int .i64 0, .int .i64 0, .int .i64 0, .int .i64 0] 50)) w.heap.size #[.int .i64 0, .int .i64 0, .int .i64 0, .int .i64 0, .int .i64 0, .int .i64 0, .int .i64 0, .int .i64 0] 50:=heap_alloc_new _ _
 have lq:q < w.heap.size:=h.lt
 go_enter Tryz.func116,Tryz.ntmps116
 go_upto_region 1 with fail
 have hX:=h.below hb0
 have hsX:=hs.below hb0
 generalize w.alloc (.cells #[.int .i64 0, .int .i64 0, .int .i64 0, .int .i64 0, .int .i64 0, .int .i64 0, .int .i64 0, .int .i64 0] 50)=X at *
 obtain ⟨E,hEE,hEE'⟩:∃ E,Hid (E=w.heap.size)∧E=w.heap.size:=⟨_,Lib.hid rfl,rfl⟩
 rw [← hEE'] at hE ⊢
 have hEw:w.heap.size≤E:=by omega
 have hqE:q≠E:=by omega
 have hsE:∀ b,foot sp sl b→b≠E:=fun b hb=> by
  rcases hb with rfl | hb
  ·have:=hs.lt;omega
  ·have:=hs.rowLt b hb;omega
 have hspE:sp≠E:=hsE sp (.inl rfl)
 clear hEE'
 have lX:q < X.heap.size:=hX.lt
 have fX:=rowFree hX
 have c9:X.cell? ⟨q,9, .none⟩=some (.bool i):=hX.cell 9
 have c8:X.cell? ⟨q,8, .none⟩=some jv:=hX.cell 8
 go_upto_region 2 with fail
 have hX2:=(hX.set 9 (.bool true)).set 8 .nilIface
 have hqs':∀ b,foot sp sl b→b≠q:=fun b hb e=> hqs (e ▸ hb)
 have hs2:SK 0 ((X.setCell ⟨q,9, .none⟩ (.bool true)).setCell ⟨q,8, .none⟩ .nilIface) sp sl most fs:=hsX.blocks fun b hb=> by
  rw [Below.heap_setCell _ ⟨q,8, .none⟩ _ b (hqs' b hb),Below.heap_setCell _ ⟨q,9, .none⟩ _ b (hqs' b hb)]
 have hE2:=(hE.other (fun e=> hqE e.symm) 9 (.bool true)).other (fun e=> hqE e.symm) 8 .nilIface
 have ho2:Only (fun b=> b=q∨foot sp sl b) w ((X.setCell ⟨q,9, .none⟩ (.bool true)).setCell ⟨q,8, .none⟩ .nilIface):=Only.setCell (F:=fun b=> b=q∨foot sp sl b) (Only.setCell (F:=fun b=> b=q∨foot sp sl b) (Only.of_below hb0) (.inl (.inl rfl)) _) (.inl (.inl rfl)) _
 generalize (X.setCell ⟨q,9, .none⟩ (.bool true)).setCell ⟨q,8, .none⟩ .nilIface=Y at *
 clear c9 c8 lX fX hX hsX hs hb0
 replace hX2:=hX2.cast (cs':= #[.int .i64 sp', .int .i64 sc, .int .i64 sm, .int .i64 kc, .int .i64 kf, .int .i64 ok, .int .i64 oa, .int .i64 on, .nilIface, .bool true, .bool kt, .pointer (some ⟨sp,0, .none⟩), .int .i64 ks]) rfl
 have lY:q < Y.heap.size:=hX2.lt
 have c11:Y.cell? ⟨q,11, .none⟩=some (.pointer (some ⟨sp,0, .none⟩)):=hX2.cell 11
 have hcl:=Lib.hid (stkClear_any hs2)
 go_upto_region 3 with (first | (go_at_call 151;(with_reducible refine hcl.out.mono ?_);rintro r w1 ⟨rfl,ho1,hs1⟩) | fail)
 have hX3:=hX2.only ho1 hqs
 have hE3:=hE2.only ho1 (fun hb=> hsE E hb rfl)
 have ho3:=ho2.trans ho1 (fun b _ hb=> .inr hb)
 clear lY c11 hcl hX2 hE2 ho2 ho1 hs2 hsE
 have lq3:q < w1.heap.size:=hX3.lt
 have lE3:E < w1.heap.size:=hE3.lt
 have d3:w1.cell? ⟨q,3, .none⟩=some (.int .i64 kc):=hX3.cell 3
 have d5:w1.cell? ⟨q,5, .none⟩=some (.int .i64 ok):=hX3.cell 5
 have d6:w1.cell? ⟨q,6, .none⟩=some (.int .i64 oa):=hX3.cell 6
 have d7:w1.cell? ⟨q,7, .none⟩=some (.int .i64 on):=hX3.cell 7
 refine wp_region_ext_tail 11 (by kernel_rfl) (by kernel_rfl) ?_
 dsimp only [List.take,List.drop]
 repeat (go_big_quiet_step (fail))
 refine wpQuiet_nil ?_
 rintro _ ⟨e',rfl⟩
 have hXZ:=hX3.below e'.below
 have hEZ:=hE3.below e'.below
 have hsZ:=hs1.below e'.below
 have hoZ:=ho3.trans (Only.of_below (F:=fun _=> False) e'.below) (fun _ _ hb=> hb.elim)
 generalize e'.w=Z at *
 change wpList _ _ _ _ _ Z
 clear lq3 lE3 d3 d5 d6 d7 hX3 hE3 hs1 ho3
 have lE:E < Z.heap.size:=hEZ.lt
 have fE:=rowFree hEZ
 have e0:Z.cell? ⟨E,0, .none⟩=some (.int .i64 0):=hEZ.cell 0
 have e1:Z.cell? ⟨E,1, .none⟩=some (.int .i64 0):=hEZ.cell 1
 have e2:Z.cell? ⟨E,2, .none⟩=some (.int .i64 0):=hEZ.cell 2
 have e3:Z.cell? ⟨E,3, .none⟩=some (.int .i64 0):=hEZ.cell 3
 have e4:Z.cell? ⟨E,4, .none⟩=some (.int .i64 0):=hEZ.cell 4
 have e5:Z.cell? ⟨E,5, .none⟩=some (.int .i64 0):=hEZ.cell 5
 have e6:Z.cell? ⟨E,6, .none⟩=some (.int .i64 0):=hEZ.cell 6
 have e7:Z.cell? ⟨E,7, .none⟩=some (.int .i64 0):=hEZ.cell 7
 go_wp2_with fail
 have hF:RowAt ((((((((Z.setCell ⟨E,0, .none⟩ (.int .i64 5)).setCell ⟨E,1, .none⟩ (.int .i64 kc)).setCell ⟨E,2, .none⟩ (.int .i64 ok)).setCell ⟨E,3, .none⟩ (.int .i64 oa)).setCell ⟨E,4, .none⟩ (.int .i64 on)).setCell ⟨E,5, .none⟩ (.int .i64 at')).setCell ⟨E,6, .none⟩ (.int .i64 0)).setCell ⟨E,7, .none⟩ (.int .i64 x)) E #[.int .i64 5, .int .i64 kc, .int .i64 ok, .int .i64 oa, .int .i64 on, .int .i64 at', .int .i64 0, .int .i64 x] 50:=((((((((hEZ.set 0 (.int .i64 5)).set 1 (.int .i64 kc)).set 2 (.int .i64 ok)).set 3 (.int .i64 oa)).set 4 (.int .i64 on)).set 5 (.int .i64 at')).set 6 (.int .i64 0)).set 7 (.int .i64 x))
 have hqF:RowAt ((((((((Z.setCell ⟨E,0, .none⟩ (.int .i64 5)).setCell ⟨E,1, .none⟩ (.int .i64 kc)).setCell ⟨E,2, .none⟩ (.int .i64 ok)).setCell ⟨E,3, .none⟩ (.int .i64 oa)).setCell ⟨E,4, .none⟩ (.int .i64 on)).setCell ⟨E,5, .none⟩ (.int .i64 at')).setCell ⟨E,6, .none⟩ (.int .i64 0)).setCell ⟨E,7, .none⟩ (.int .i64 x)) q #[.int .i64 sp', .int .i64 sc, .int .i64 sm, .int .i64 kc, .int .i64 kf, .int .i64 ok, .int .i64 oa, .int .i64 on, .nilIface, .bool true, .bool kt, .pointer (some ⟨sp,0, .none⟩), .int .i64 ks] 127:=((((((((hXZ.other hqE 0 (.int .i64 5)).other hqE 1 (.int .i64 kc)).other hqE 2 (.int .i64 ok)).other hqE 3 (.int .i64 oa)).other hqE 4 (.int .i64 on)).other hqE 5 (.int .i64 at')).other hqE 6 (.int .i64 0)).other hqE 7 (.int .i64 x))
 have hoF:Only (fun b=> b=q∨foot sp sl b) w ((((((((Z.setCell ⟨E,0, .none⟩ (.int .i64 5)).setCell ⟨E,1, .none⟩ (.int .i64 kc)).setCell ⟨E,2, .none⟩ (.int .i64 ok)).setCell ⟨E,3, .none⟩ (.int .i64 oa)).setCell ⟨E,4, .none⟩ (.int .i64 on)).setCell ⟨E,5, .none⟩ (.int .i64 at')).setCell ⟨E,6, .none⟩ (.int .i64 0)).setCell ⟨E,7, .none⟩ (.int .i64 x)):=((((((((hoZ.setCell (p:=⟨E,0, .none⟩) (.inr hEw) (.int .i64 5)).setCell (p:=⟨E,1, .none⟩) (.inr hEw) (.int .i64 kc)).setCell (p:=⟨E,2, .none⟩) (.inr hEw) (.int .i64 ok)).setCell (p:=⟨E,3, .none⟩) (.inr hEw) (.int .i64 oa)).setCell (p:=⟨E,4, .none⟩) (.inr hEw) (.int .i64 on)).setCell (p:=⟨E,5, .none⟩) (.inr hEw) (.int .i64 at')).setCell (p:=⟨E,6, .none⟩) (.inr hEw) (.int .i64 0)).setCell (p:=⟨E,7, .none⟩) (.inr hEw) (.int .i64 x))
 have hsF:SK 0 ((((((((Z.setCell ⟨E,0, .none⟩ (.int .i64 5)).setCell ⟨E,1, .none⟩ (.int .i64 kc)).setCell ⟨E,2, .none⟩ (.int .i64 ok)).setCell ⟨E,3, .none⟩ (.int .i64 oa)).setCell ⟨E,4, .none⟩ (.int .i64 on)).setCell ⟨E,5, .none⟩ (.int .i64 at')).setCell ⟨E,6, .none⟩ (.int .i64 0)).setCell ⟨E,7, .none⟩ (.int .i64 x)) sp (.slice none 0 0) most []:=hsZ.blocks fun b hb=> by
  have hbE:b≠E:=by
   rcases hb with rfl | hb
   ·exact hspE
   ·cases hb
  simp only [Below.heap_setCell _ ⟨E,_, .none⟩ _ b hbE]
 generalize (((((((Z.setCell ⟨E,0, .none⟩ (.int .i64 5)).setCell ⟨E,1, .none⟩ (.int .i64 kc)).setCell ⟨E,2, .none⟩ (.int .i64 ok)).setCell ⟨E,3, .none⟩ (.int .i64 oa)).setCell ⟨E,4, .none⟩ (.int .i64 on)).setCell ⟨E,5, .none⟩ (.int .i64 at')).setCell ⟨E,6, .none⟩ (.int .i64 0)).setCell ⟨E,7, .none⟩ (.int .i64 x)=U at *
 have r0:U.cell? ⟨E,0, .none⟩=some (.int .i64 5):=hF.cell 0
 have r1:U.cell? ⟨E,1, .none⟩=some (.int .i64 kc):=hF.cell 1
 have r2:U.cell? ⟨E,2, .none⟩=some (.int .i64 ok):=hF.cell 2
 have r3:U.cell? ⟨E,3, .none⟩=some (.int .i64 oa):=hF.cell 3
 have r4:U.cell? ⟨E,4, .none⟩=some (.int .i64 on):=hF.cell 4
 have r5:U.cell? ⟨E,5, .none⟩=some (.int .i64 at'):=hF.cell 5
 have r6:U.cell? ⟨E,6, .none⟩=some (.int .i64 0):=hF.cell 6
 have r7:U.cell? ⟨E,7, .none⟩=some (.int .i64 x):=hF.cell 7
 exact bodyPost_ret (v:= .agg #[.int .i64 5, .int .i64 kc, .int .i64 ok, .int .i64 oa, .int .i64 on, .int .i64 at', .int .i64 0, .int .i64 x]) (by simp [results,Tryz.results116,go_sem,r0,r1,r2,r3,r4,r5,r6,r7]) rfl ⟨rfl,hqF,hsF,hoF⟩
end Go.Proofs.YtampacmmhhilaaaGreat
