/- A world in memory: who owns what; what it tells is put to its history. -/
import Derived.Test.YtampacmmhhilaaaGreatBm38

import Derived.Test.YtampacmmhhilaaaGreatZWldP

set_option linter.all false
namespace Go.Proofs.YtampacmmhhilaaaGreat

open Go.RowKit

attribute [local go_sem ↓] Go.wp_at_zero Go.wp_at_succ

def Acc.cells (a:Acc):Array Value:= #[.int .i64 a.c, .int .i64 a.k, .int .i64 a.a, .int .u64 a.was, .int .u64 a.put, .bool a.ok]
def wdCells (s:Sh) (p lb n:Nat) (tv sv:Value):Array Value:= #[.int .i64 s.p, .int .i64 s.c, .int .i64 s.m, .pointer (some ⟨p,0, .none⟩), .slice (some ⟨lb,0, .none⟩) n n,tv,sv]
def ptrK (o:Option Kl) (q:Nat):Value:=match o with
 | none=> .pointer none
 | some _=> .pointer (some ⟨q,0, .none⟩)
/-- Where a world's things lie. -/
structure Wx where
 p:Nat
 b:Nat
 lb:Nat
 tv:Value
 sv:Value
 ps:List Value
 qs:Nat→Nat
 ow:Nat→Nat
 Fc:Nat→Nat→Prop
/-- A world at block g, its blocks in F, all from block B on: the words' (1, 2), the clients' row (3), the events' (4), the accesses' (5), client c's (6 + c). -/
structure WdP (B:Nat) (F:Nat→Prop) (W:World) (g:Nat) (s:Sh) (d:Wd) (x:Wx):Prop where
 top:RowAt W g (wdCells s x.p x.lb d.l.length x.tv x.sv) 122
 wds:WdsAt W x.p x.b d.m
 lst:RowAt W x.lb x.ps.toArray 36
 pl:x.ps.length=d.l.length
 pe:∀ c,c < d.l.length→x.ps[c]?=some (ptrK (d.l.getD c none) (x.qs c))
 cl:∀ c k,d.l.getD c none=some k→KlO (x.Fc c) W (x.qs c) s k
 tr:W.ownsRow B 50 8 x.tv d.tr.length (d.tr.flatMap fun e=> e.cells.toList)
 lg:W.ownsRow B 59 6 x.sv d.lg.length (d.lg.flatMap fun a=> a.cells.toList)
 lt:∀ i,F i→B≤i∧i < W.heap.size
 fg:F g∧x.ow g=0
 fp:F x.p∧x.ow x.p=1
 fb:F x.b∧x.ow x.b=2
 fl:F x.lb∧x.ow x.lb=3
 ft:∀ i,x.tv.ownBlock=some i→F i∧x.ow i=4
 fs:∀ i,x.sv.ownBlock=some i→F i∧x.ow i=5
 fc:∀ c i,x.Fc c i→F i∧x.ow i=c + 6
section

variable {B:Nat} {F:Nat→Prop} {W W':World} {g:Nat} {s:Sh} {d:Wd} {x:Wx}

theorem WdP.ne (_h:WdP B F W g s d x) {i j:Nat} {m n:Nat} (hi:x.ow i=m) (hj:x.ow j=n) (hn:m≠n):i≠j:=fun e=> hn (by rw [← hi,← hj,e])
theorem WdP.only {G:Nat→Prop} (h:WdP B F W g s d x) (ho:Only G W W') (hG:∀ i,F i→¬ G i):WdP B F W' g s d x:=
 ⟨h.top.only ho (hG _ h.fg.1),h.wds.only ho (hG _ h.fp.1) (hG _ h.fb.1),h.lst.only ho (hG _ h.fl.1),h.pl,h.pe,fun c k hk=> (h.cl c k hk).only ho (fun i hi=> hG i (h.fc c i hi).1),
  ownsRow_of_blocks h.tr fun i hi=> ho.block i (h.tr.lt i hi).2 (hG i (h.ft i hi).1),ownsRow_of_blocks h.lg fun i hi=> ho.block i (h.lg.lt i hi).2 (hG i (h.fs i hi).1),fun i hi=> ⟨(h.lt i hi).1,Nat.lt_of_lt_of_le (h.lt i hi).2 ho.size⟩,
  h.fg,h.fp,h.fb,h.fl,h.ft,h.fs,h.fc⟩
theorem WdP.below (h:WdP B F W g s d x) (hb:Below W.heap.size W W'):WdP B F W' g s d x:=h.only (Only.of_below (F:=fun _=> False) hb) (fun _ _ e=> e)
/-- It may have more blocks. -/
theorem WdP.grows (h:WdP B F W g s d x) (hB:B≤W.heap.size) (hb:Below W.heap.size W W'):WdP B (grow F W W') W' g s d x:=by
 have h':=h.below hb
 refine ⟨h'.top,h'.wds,h'.lst,h'.pl,h'.pe,h'.cl,h'.tr,h'.lg,fun i hi=> ?_,⟨.inl h.fg.1,h.fg.2⟩,⟨.inl h.fp.1,h.fp.2⟩,⟨.inl h.fb.1,h.fb.2⟩,⟨.inl h.fl.1,h.fl.2⟩,fun i hi=> ⟨.inl (h.ft i hi).1,(h.ft i hi).2⟩,fun i hi=> ⟨.inl (h.fs i hi).1,(h.fs i hi).2⟩,fun c i hi=> ⟨.inl (h.fc c i hi).1,(h.fc c i hi).2⟩⟩
 rcases hi with hi | hi
 ·exact h'.lt i hi
 ·exact ⟨by omega,hi.2⟩
end

/-- A history's row has grown. -/
def Wx.told (x:Wx) (tv:Value) (N:Nat):Wx:= { x with tv:=tv,ow:=fun i=> if N≤i then 4 else x.ow i }
theorem WdP.told {B:Nat} {F:Nat→Prop} {W W' W2:World} {g:Nat} {s:Sh} {d:Wd} {x:Wx} {v':Value} {es:List Ev} (h:WdP B F W g s d x) (hB:B≤W.heap.size) (hg:W.grownBy W' x.tv.ownBlock)
  (ho:W'.ownsRow B 50 8 v' (d.tr.length + es.length) ((d.tr.flatMap fun e=> e.cells.toList) ++ es.flatMap fun e=> e.cells.toList))
  (hv:v'.ownBlock=x.tv.ownBlock∨v'.ownBlock=some W.heap.size) (h2:W2=W'.setCell ⟨g,5, .none⟩ v'):
  WdP B (grow F W W2) W2 g s { d with tr:=d.tr ++ es } (x.told v' W.heap.size)∧Only F W W2:=by
 have hsz:W2.heap.size=W'.heap.size:=by rw [h2];simp [World.setCell]
 have htv:∀ i,x.tv.ownBlock=some i→F i:=fun i hi=> (h.ft i hi).1
 have ho1:Only (fun i=> x.ow i=4∧F i) W W':=(Only.refl _ W).grown hg fun k hk=> .inl ⟨(h.ft k hk).2,(h.ft k hk).1⟩
 have ho2:Only (fun i=> (x.ow i=4∧F i)∨i=g) W W2:=by
  rw [h2]
  exact Only.setCell (Only.weak ho1 fun k hk=> .inl hk) (p:=⟨g,5, .none⟩) (.inl (.inr rfl)) v'
 have hlow:∀ i,F i→¬ W.heap.size≤i:=fun i hi=> by have:=(h.lt i hi).2;omega
 have how:∀ i,F i→(x.told v' W.heap.size).ow i=x.ow i:=fun i hi=> if_neg (hlow i hi)
 have hno:∀ i,x.ow i≠4→i≠g→¬ ((x.ow i=4∧F i)∨i=g):=fun i h1 h2 e=> e.elim (fun e=> h1 e.1) h2
 have hgg:∀ i,x.ow i≠0→i≠g:=fun i hi e=> hi (e ▸ h.fg.2)
 have own:∀ i m,x.ow i=m→m≠4→m≠0→¬ ((x.ow i=4∧F i)∨i=g):=fun i m hm h4 h0=> hno i (by omega) (hgg i (by omega))
 refine ⟨⟨?_,h.wds.only ho2 (own _ 1 h.fp.2 (by decide) (by decide)) (own _ 2 h.fb.2 (by decide) (by decide)),h.lst.only ho2 (own _ 3 h.fl.2 (by decide) (by decide)),h.pl,h.pe,fun c k hk=> (h.cl c k hk).only ho2 (fun i hi=> own i (c + 6) (h.fc c i hi).2 (by omega) (by omega)),
  ?_,ownsRow_of_blocks h.lg fun i hi=> ho2.block i (h.lg.lt i hi).2 (own i 5 (h.fs i hi).2 (by decide) (by decide)),fun i hi=> ?_,⟨.inl h.fg.1,(how _ h.fg.1).trans h.fg.2⟩,⟨.inl h.fp.1,(how _ h.fp.1).trans h.fp.2⟩,⟨.inl h.fb.1,(how _ h.fb.1).trans h.fb.2⟩,⟨.inl h.fl.1,(how _ h.fl.1).trans h.fl.2⟩,fun i hi=> ?_,
  fun i hi=> ⟨.inl (h.fs i hi).1,(how _ (h.fs i hi).1).trans (h.fs i hi).2⟩,fun c i hi=> ⟨.inl (h.fc c i hi).1,(how _ (h.fc c i hi).1).trans (h.fc c i hi).2⟩⟩,Only.weak ho2 fun k hk=> hk.elim (fun e=> e.2) (fun e=> e ▸ h.fg.1)⟩
 ·have ht:RowAt W' g (wdCells s x.p x.lb d.l.length x.tv x.sv) 122:=h.top.only ho1 (fun e=> by have:=h.fg.2;omega)
  rw [h2]
  exact ht.set 5 v'
 ·rw [h2]
  refine ownsRow_of_blocks (w:=W') ?_ fun i hi=> Below.heap_setCell _ ⟨g,5, .none⟩ _ i ?_
  ·simpa [Wx.told] using ho
  ·rcases hv with hv | hv
   ·rw [show (x.told v' W.heap.size).tv=v' from rfl,hv] at hi
    have:=(h.ft i hi).2
    exact hgg i (by omega)
   ·rw [show (x.told v' W.heap.size).tv=v' from rfl,hv] at hi
    injection hi with hi
    have:=(h.lt _ h.fg.1).2
    show i≠g
    omega
 ·rcases hi with hi | hi
  ·exact ⟨(h.lt i hi).1,by have:=(h.lt i hi).2;have:=ho2.size;omega⟩
  ·exact ⟨by omega,hi.2⟩
 ·rw [show (x.told v' W.heap.size).tv=v' from rfl] at hi
  rcases hv with hv | hv
  ·rw [hv] at hi
   exact ⟨.inl (h.ft i hi).1,(how _ (h.ft i hi).1).trans (h.ft i hi).2⟩
  ·have hlt:=ho.lt i hi
   rw [hv] at hi
   injection hi with hi
   subst hi
   exact ⟨.inr ⟨Nat.le_refl _,by rw [hsz];exact hlt.2⟩,if_pos (Nat.le_refl _)⟩
set_option maxRecDepth 100000 in
set_option maxHeartbeats 1000000 in
theorem wtell_any {B:Nat} {F:Nat→Prop} {W:World} {g:Nat} {s:Sh} {d:Wd} {x:Wx} (h:WdP B F W g s d x) (hB:B≤W.heap.size) (es:List Ev) (v:Value) (hr:RdE W v es) (hl:d.tr.length + es.length≤100000000):
  Calls Tryz.prog 71 #[.pointer (some ⟨g,0, .none⟩),v] W fun e w'=> e= .returned (.tuple #[])∧∃ x',WdP B (grow F W w') w' g s { d with tr:=d.tr ++ es } x'∧Only F W w':=by
 have x5:W.cell? ⟨g,5, .none⟩=some x.tv:=h.top.cell 5
 have lg:g < W.heap.size:=h.top.lt
 have fg:=rowFree h.top
 have hown:=h.tr
 obtain ⟨i0,hi0,hz0,hz1,hz2⟩:=info_parts infoEv
 have hones:∀ u ∈ es.flatMap (fun e=> e.cells.toList),u.oneCell'=true:=fun u hu=> by
  obtain ⟨e,_,he⟩:=List.mem_flatMap.1 hu
  simp only [Ev.cells,List.mem_cons,List.not_mem_nil,or_false] at he
  rcases he with rfl | rfl | rfl | rfl | rfl | rfl | rfl | rfl <;> rfl
 have htold:=fun W' W2 v'=> h.told (W':=W') (W2:=W2) (v':=v') (es:=es) hB
 obtain ⟨at0,ct0,e0,h0⟩:=RdS.of_own hown
 obtain ⟨at1,ct1,e1,h1⟩:=id hr
 clear h0 h1
 subst e1
 rw [e0] at hown x5
 have hg5:∀ W':World,W.grownBy W' x.tv.ownBlock→W'.heap[g]?=W.heap[g]?:=fun W' hg=> hg.block g lg (fun e=> by have:=(h.ft g e.symm).2;have:=h.fg.2;omega)
 rw [e0] at htold hg5
 replace htold:=Lib.hid htold
 replace hg5:=Lib.hid hg5
 replace e0:=Lib.hid e0
 have htop:=Lib.hid h.top
 clear h
 go_enter Tryz.func71,Tryz.ntmps71
 go_wp2_with (first
  | (refine wpList_append_rd rfl (.tmp 8) (.tmp 9) 47 rfl B 50 i0 _ 8 64 Tryz.underlying47 hi0 hz0 hz1 hz2 rfl (by omega) _ d.tr.length _ rfl hown _ es.length _ rfl hr hones (by simp only [maxLen];omega) (by omega) hB ?_;intro v7 w7 hown7 hgrow7 hat7;obtain ⟨a7,c7,e7,_⟩:=RdS.of_own hown7;subst e7;have f7:RowAt w7 g _ _:=(hg5.out w7 hgrow7).trans htop.out;have fg7:=rowFree f7;have l7:g < w7.heap.size:=f7.lt;have y5:w7.cell? ⟨g,5, .none⟩=some (.slice at0 d.tr.length ct0):=(f7.cell 5).trans (congrArg some e0.out))
  | fail)
 have ht:=htold.out w7 _ _ hgrow7 hown7 hat7 rfl
 refine bodyPost_end (results_none rfl _ _ _) rfl ⟨rfl,_,ht.1,ht.2⟩
end Go.Proofs.YtampacmmhhilaaaGreat
