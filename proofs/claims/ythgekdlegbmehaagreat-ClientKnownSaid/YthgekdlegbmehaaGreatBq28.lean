/- Texts bound together: StkV CliA TelP. -/
import Derived.Test.YthgekdlegbmehaaGreatBq27

import Derived.Test.YthgekdlegbmehaaGreatBq24

set_option linter.all false
set_option maxHeartbeats 4000000
set_option maxRecDepth 100000
namespace Go.Proofs.YthgekdlegbmehaaGreat

section

open Go.RowKit

theorem z0j:(Tryz.prog.info? 45).map (fun i=> (i.zero,i.size,i.bytes))=some (some zrq,10,80):=by kernel_rfl
theorem z3g {T E:TypeId} {B:Nat} {w Y:World} {s:Nat} {sl:Value} {most:Int} {fs:List Fr} (h:Stk T E B w s sl most fs) (hb:Below w.heap.size w Y):Y.ownsRow B E 10 sl fs.length (flat fs):=
 zas h.owns fun k hk=> hb.block k (h.zem k hk).2
def padded (zs:List Int):List Int:=zs ++ List.replicate (8 - zs.length) 0
theorem zj4 {zs:List Int} (h:zs.length<=8):(padded zs).length=8:=by simp [padded];omega
theorem zqx (code:Int) {zs:List Int} (h:zs.length<=8):splice [.int .i64 code,.int .i64 0,.int .i64 0,.int .i64 0,.int .i64 0,.int .i64 0,.int .i64 0,.int .i64 0,.int .i64 0,.int .i64 0] 2 (zs.map (.int .i64))=(Fr.mk code 0 (padded zs)).cells:=by
 match zs,h with
 | [],_=> rfl
 | [_],_=> rfl
 | [_,_],_=> rfl
 | [_,_,_],_=> rfl
 | [_,_,_,_],_=> rfl
 | [_,_,_,_,_],_=> rfl
 | [_,_,_,_,_,_],_=> rfl
 | [_,_,_,_,_,_,_],_=> rfl
 | [_,_,_,_,_,_,_,_],_=> rfl
theorem ygr {l:List Int} (h:l.length=8):∃ a b c d e f g i,l= [a,b,c,d,e,f,g,i]:=by
 match l,h with
 | [a,b,c,d,e,f,g,i],_=> exact ⟨a,b,c,d,e,f,g,i,rfl⟩
theorem zu5 {fs:List Fr} {f:Fr} (h:zj6 fs) (hf:f.regs.length=8):zj6 (fs ++ [f]):=by
 intro x hx
 rcases List.mem_append.1 hx with hx | hx
 ·exact h x hx
 ·rw [List.mem_singleton.1 hx];exact hf
theorem z0y {T E:TypeId} {B s g cap' K H:Nat} {w w2 Y w3:World} {sl:Value} {most:Int} {fs:List Fr} {f:Fr} (h2:Stk T E B w2 s sl most fs)
  (hown:w3.ownsRow B E 10 (.slice (some ⟨g,0,.none⟩) (fs.length + 1) cap') (fs.length + 1) (flat fs ++ f.cells)) (hg:Y.grownBy w3 sl.ownBlock) (hY:Below w2.heap.size w2 Y)
  (ho:Only (foot s sl) w w2) (hat:sl.ownBlock=some g\/g=K) (hK:sl.ownBlock=some g\/g=K->sl.ownBlock=some g\/(H<=g/\w2.heap.size<=g)) (hr:zj6 (fs ++ [f])):
  Only (foot s sl) w (w3.setCell ⟨s,0,.none⟩ (.slice (some ⟨g,0,.none⟩) (fs.length + 1) cap'))/\∃ sl',(∀ k,sl'.ownBlock=some k->sl.ownBlock=some k\/H<=k)/\
   Stk T E B (w3.setCell ⟨s,0,.none⟩ (.slice (some ⟨g,0,.none⟩) (fs.length + 1) cap')) s sl' most (fs ++ [f]):=by
 have hs:=h2.lt
 have ne1:some s≠sl.ownBlock:=fun e=> h2.apart e.symm
 have hh:w3.heap[s]?=some (.cells #[sl,.int .i64 most] T (0,0)):=(hg.block s (by have:=hY.size;omega) ne1).trans ((hY.block s hs).trans h2.head)
 have hgs:g≠s:=by
  rcases hK hat with h | ⟨_,h⟩
  ·intro e;exact h2.apart (by rw [h,e])
  ·omega
 refine ⟨Only.setCell (Only.grown (ho.trans (Only.of_below (F:=fun _=> False) hY) fun _ _ h=> h.elim) hg fun k hk=> .inl (.inr hk)) (.inl (.inl rfl)) _,.slice (some ⟨g,0,.none⟩) (fs.length + 1) cap',?_,h2.lies,?_,?_,?_,hr⟩
 ·intro k hk
  obtain rfl:g=k:=by injection hk
  rcases hK hat with h | h
  ·exact .inl h
  ·exact .inr h.1
 ·rw [heap_setCell_same w3 s 0 _ T _ hh];rfl
 ·have e:(fs ++ [f]).length=fs.length + 1:=by simp
  rw [e,zja]
  exact zas hown fun k hk=> by
   obtain rfl:g=k:=by injection hk
   exact heap_setCell_other _ _ _ _ hgs
 ·intro e
  exact hgs (by injection e)
theorem zt0 {B:Nat} {w:World} {s:Nat} {sl:Value} {most code:Int} {fs:List Fr} {ao:Option Addr} {zs:List Int} {cap:Nat} (h:SK B w s sl most fs) (h1:fs.length < most) (hz:zs.length<=8) (hB:B<=w.heap.size) (hm:most<=100000)
  (hc:∀ a,ao=some a->∀ j v,(zs.map (Value.int .i64))[j]?=some v->w.cell? (a.add j)=some v) (hn:ao=none->zs= []):
  Calls Tryz.prog 18 #[.pointer (some ⟨s,0,.none⟩),.int .i64 code,.slice ao zs.length cap] w fun e w'=> e= .returned (.bool true)/\Only (foot s sl) w w'/\
   ∃ sl',(∀ k,sl'.ownBlock=some k->sl.ownBlock=some k\/w.heap.size<=k)/\SK B w' s sl' most (fs ++ [⟨code,0,padded zs⟩]):=by
 have c0:=h.cell0
 have c1:=h.cell1
 have hsl:∃ a c,sl= .slice a fs.length c:=by
  rcases h.form with ⟨rfl,rfl⟩ | ⟨g,cap,rfl,_⟩
  ·exact ⟨_,_,rfl⟩
  ·exact ⟨_,_,rfl⟩
 obtain ⟨a,c,rfl⟩:=hsl
 have h3:decide (most<=(fs.length:Int))=false:=by simp;omega
 have h4:decide ((8:Int) < (zs.length:Int))=false:=by simp;omega
 go_enter Tryz.func18,Tryz.ntmps18
 go_wp2_with fail
 go_quiet (fail)
 have h':SK B (w.drewN nq) s (.slice a fs.length c) most fs:=h.blocks fun _ _=> rfl
 have hc':∀ a,ao=some a->∀ j v,(zs.map (Value.int .i64))[j]?=some v->(w.drewN nq).cell? (a.add j)=some v:=hc
 have ho:Only (foot s (.slice a fs.length c)) w (w.drewN nq):=Only.drewN (Only.refl _ _) nq
 have hsz:(w.drewN nq).heap.size=w.heap.size:=rfl
 generalize w.drewN nq=W at *
 clear c0 c1 hc h
 have c0:=h'.cell0
 have hlt:=h'.lt
 go_upto_region 4 with fail
 have hu:=Tryz.underlying75
 have k1:(W.alloc (.cells #[.int .i64 code,.int .i64 0,.int .i64 0,.int .i64 0,.int .i64 0,.int .i64 0,.int .i64 0,.int .i64 0,.int .i64 0,.int .i64 0] 45)).heap[w.heap.size]?=some (.cells #[.int .i64 code,.int .i64 0,.int .i64 0,.int .i64 0,.int .i64 0,.int .i64 0,.int .i64 0,.int .i64 0,.int .i64 0,.int .i64 0] 45 (0,0)):=by rw [<- hsz];exact heap_alloc_new W _
 have k2:(zs.map (Value.int .i64)).length=Nat.min zs.length 8:=by rw [List.length_map];exact (Nat.min_eq_left hz).symm
 have k3:0 < (zs.map (Value.int .i64)).length->(some (⟨w.heap.size,2,.none⟩:Addr))=some ⟨w.heap.size,2,.none⟩/\∃ ad,ao=some ad/\∀ j v,(zs.map (Value.int .i64))[j]?=some v->(W.alloc (.cells #[.int .i64 code,.int .i64 0,.int .i64 0,.int .i64 0,.int .i64 0,.int .i64 0,.int .i64 0,.int .i64 0,.int .i64 0,.int .i64 0] 45)).cell? (ad.add j)=some v:=by
  intro hp
  refine ⟨rfl,?_⟩
  cases ao with
  | none=> rw [hn rfl] at hp;simp at hp
  | some ad=> exact ⟨ad,rfl,fun j v hv=> (World.grownBy_alloc W _ none).cell (hc' ad rfl j v hv) (by simp)⟩
 have k4:2 + (zs.map (Value.int .i64)).length<=([Value.int .i64 code,.int .i64 0,.int .i64 0,.int .i64 0,.int .i64 0,.int .i64 0,.int .i64 0,.int .i64 0,.int .i64 0,.int .i64 0]:List Value).length:=by simp;omega
 have k5:∀ v ∈ zs.map (Value.int .i64),v.oneCell'=true:=by
  intro v hv
  obtain ⟨x,_,rfl⟩:=List.mem_map.1 hv
  rfl
 have k6:Below W.heap.size W (W.alloc (.cells #[.int .i64 code,.int .i64 0,.int .i64 0,.int .i64 0,.int .i64 0,.int .i64 0,.int .i64 0,.int .i64 0,.int .i64 0,.int .i64 0] 45)):=br.alloc lr _
 go_wp2_with (refine wpList_copy_splice rfl (.tmp 30) (.tmp 31) 75 75 rfl 2 hu (by kernel_rfl) (some ⟨w.heap.size,2,.none⟩) ao 8 8 zs.length cap rfl rfl w.heap.size 2 [.int .i64 code,.int .i64 0,.int .i64 0,.int .i64 0,.int .i64 0,.int .i64 0,.int .i64 0,.int .i64 0,.int .i64 0,.int .i64 0] 45 k1 (zs.map (.int .i64)) k2 k3 k4 k5 W.heap.size W k6 (Nat.le_of_eq hsz) ?_;intro w2 hH hb2)
 have hH':=hH.out
 rw [zqx code hz] at hH'
 obtain ⟨e0,e1,e2,e3,e4,e5,e6,e7,he⟩:=ygr (zj4 hz)
 rw [he] at hH'
 have hh:=fun i=> cell_of_row w2 w.heap.size i _ _ (0,0) hH'
 simp only [Fr.cells,List.map_cons,List.map_nil] at hh hH'
 have h2:=h'.below hb2
 have ho2:=ho.trans (Only.of_below (F:=fun _=> False) hb2) (fun _ _ h=> h.elim)
 have hs1:s≠w.heap.size:=by omega
 have hsz2:W.heap.size < w2.heap.size:=(Array.getElem?_eq_some_iff.1 (hsz ▸ hH')).1
 clear k1 k2 k3 k4 k5 k6 hH hc' hn ho hu
 have hu2:=Tryz.underlying41
 obtain ⟨i0,hi,hz0,hz1,hz2⟩:=info_parts z0j
 have c2:=h2.cell0
 have fz2:=zhj h2.head 0
 have hrow:=h2.zem
 have hrl:=h'.zem
 have ne1:some s≠(Value.slice a fs.length c).ownBlock:=fun e=> h2.apart e.symm
 have ne2:some w.heap.size≠(Value.slice a fs.length c).ownBlock:=fun e=> by have:=(hrl _ e.symm).2;omega
 have hB2:B<=w2.heap.size:=by omega
 have hs2:s < w2.heap.size:=h2.lt
 have hone:∀ u ∈ ([.int .i64 code,.int .i64 0,.int .i64 e0,.int .i64 e1,.int .i64 e2,.int .i64 e3,.int .i64 e4,.int .i64 e5,.int .i64 e6,.int .i64 e7]:List Value),u.oneCell'=true:=by intro u hu;simp at hu;rcases hu with rfl | rfl | rfl | rfl | rfl | rfl | rfl | rfl | rfl | rfl <;> rfl
 have hb1:(fs.length + 1) * 80<=140737488355328:=by omega
 have hb3:fs.length + 1<=maxLen:=by simp only [maxLen];omega
 generalize hH:w.heap.size=H at *
 have g0:∀ i,w2.cell? ⟨H,i,.none⟩=(#[.int .i64 code,.int .i64 0,.int .i64 e0,.int .i64 e1,.int .i64 e2,.int .i64 e3,.int .i64 e4,.int .i64 e5,.int .i64 e6,.int .i64 e7]:Array Value)[i]?:=hh
 clear hh h' h3 h4
 have hS:∀ w',Below w2.heap.size w2 w'->w'.cell? ⟨s,0,.none⟩=some (.slice a fs.length c)/\w'.frozen? ⟨s,0,.none⟩=false/\w'.cell? ⟨H,0,.none⟩=some (.int .i64 code)/\w'.cell? ⟨H,1,.none⟩=some (.int .i64 0)/\w'.cell? ⟨H,2,.none⟩=some (.int .i64 e0)/\w'.cell? ⟨H,3,.none⟩=some (.int .i64 e1)/\w'.cell? ⟨H,4,.none⟩=some (.int .i64 e2)/\w'.cell? ⟨H,5,.none⟩=some (.int .i64 e3)/\w'.cell? ⟨H,6,.none⟩=some (.int .i64 e4)/\w'.cell? ⟨H,7,.none⟩=some (.int .i64 e5)/\w'.cell? ⟨H,8,.none⟩=some (.int .i64 e6)/\w'.cell? ⟨H,9,.none⟩=some (.int .i64 e7):=by
  intro w' hb
  have kk:=zai hb
  refine ⟨kk _ _ _ c2,(hb.frozen (p:=⟨s,0,.none⟩) hs2).trans fz2,?_⟩
  (repeat' apply And.intro) <;> exact kk _ _ _ (g0 _)
 have hS3:∀ w1 w',Below w2.heap.size w2 w1->w1.grownBy w' (Value.slice a fs.length c).ownBlock->w'.cell? ⟨s,0,.none⟩=some (.slice a fs.length c)/\w'.frozen? ⟨s,0,.none⟩=false/\w'.cell? ⟨H,0,.none⟩=some (.int .i64 code)/\w'.cell? ⟨H,1,.none⟩=some (.int .i64 0)/\w'.cell? ⟨H,2,.none⟩=some (.int .i64 e0)/\w'.cell? ⟨H,3,.none⟩=some (.int .i64 e1)/\w'.cell? ⟨H,4,.none⟩=some (.int .i64 e2)/\w'.cell? ⟨H,5,.none⟩=some (.int .i64 e3)/\w'.cell? ⟨H,6,.none⟩=some (.int .i64 e4)/\w'.cell? ⟨H,7,.none⟩=some (.int .i64 e5)/\w'.cell? ⟨H,8,.none⟩=some (.int .i64 e6)/\w'.cell? ⟨H,9,.none⟩=some (.int .i64 e7):=by
  intro w1 w' hb hg
  have h:=hS w1 hb
  have hs3:s < w1.heap.size:=by have:=hb.size;omega
  refine ⟨hg.cell h.1 ne1,(World.frozen?_of_block (hg.block s hs3 ne1)).trans h.2.1,?_⟩
  obtain ⟨_,_,h0,h1,h2,h3,h4,h5,h6,h7,h8,h9⟩:=h
  exact ⟨hg.cell h0 ne2,hg.cell h1 ne2,hg.cell h2 ne2,hg.cell h3 ne2,hg.cell h4 ne2,hg.cell h5 ne2,hg.cell h6 ne2,hg.cell h7 ne2,hg.cell h8 ne2,hg.cell h9 ne2⟩
 go_cut [] (fun wx=> Only (foot s (.slice a fs.length c)) w wx/\∃ sl',(∀ k,sl'.ownBlock=some k->(Value.slice a fs.length c).ownBlock=some k\/H<=k)/\SK B wx s sl' most (fs ++ [⟨code,0,padded zs⟩]))
 case first=>
  go_region_law
   (first
    | (refine step_append_lies _ rfl (.tmp 37) (.tmp 39) 41 rfl B 45 i0 zrq 10 80 hu2 hi hz0 hz1 hz2 rfl (by decide) (.slice a fs.length c) fs.length (flat fs) rfl (z3g h2 (by go_grown)) ⟨w2.heap.size,0,.none⟩ 1 1 [.int .i64 code,.int .i64 0,.int .i64 e0,.int .i64 e1,.int .i64 e2,.int .i64 e3,.int .i64 e4,.int .i64 e5,.int .i64 e6,.int .i64 e7] rfl rfl (World.news_of_block (by exact heap_alloc_new w2 _)) hone (by decide) hb3 hb1 (Nat.le_trans hB2 (Below.size (B:=0) (by go_grown))) _ rfl ?_;intro g cap' w3 hown3 hgrow3 hat3 hlt3;have q1:=(hS3 _ _ (by go_grown) hgrow3).1;have q2:=(hS3 _ _ (by go_grown) hgrow3).2.1))
  all_goals go_wp2_with fail
  all_goals
   go_meet
   case rel=>
    refine z0y h2 (he ▸ hown3) hgrow3 ?_ ho2 hat3 (fun k=> by rcases k with k | k;exact .inl k;right;rw [k];simp;omega) (zu5 h2.regs (zj4 hz))
    go_grown
 case rest=>
  obtain ⟨hw,sl',hsl',hst⟩:=hcut
  go_wp2_with fail
  go_ret
  exact ⟨rfl,hw,sl',by rw [hH];exact hsl',hst⟩
end

section

open Go.RowKit

attribute [local go_sem ↓] Go.wp_at_zero Go.wp_at_succ

def zat (s:Sh) (k:Kl) (idle:Bool) (jv sv:Value):Array Value:= #[.int .i64 s.p,.int .i64 s.c,.int .i64 s.m,.int .i64 k.c,.int .i64 k.first,.int .i64 k.op.k,.int .i64 k.op.a,.int .i64 k.op.n,jv,.bool idle,.bool k.told,sv,.int .i64 k.steps]
theorem zbn {q sp:Nat} {s:Sh} {k:Kl} {i:Bool} {jv sl:Value} {most:Int} {fs:List Fr} (x at':Int) {w:World} (h:zaa w q (zat s k i jv (.pointer (some ⟨sp,0,.none⟩))) 55) (hs:SK 0 w sp sl most fs) (hqs:¬ foot sp sl q):
  Calls Tryz.prog 20 #[.pointer (some ⟨q,0,.none⟩),.int .i64 x,.int .i64 at'] w fun r w'=> r= .returned (zaf k.c k.op at' x).val/\zaa w' q (zat s k true .nilIface (.pointer (some ⟨sp,0,.none⟩))) 55/\SK 0 w' sp (.slice none 0 0) most []/\Only (fun b=> b=q\/foot sp sl b) w w':=by
 unfold Ev.val Ev.cells zaf
 dsimp only
 obtain ⟨sp',sc,sm⟩:=s
 obtain ⟨kc,kf,⟨ok,oa,on⟩,kj,kt,ks⟩:=k
 dsimp only [zat] at h ⊢
 have hb0:=(Below.refl w.heap.size w).alloc lr (.cells #[.int .i64 0,.int .i64 0,.int .i64 0,.int .i64 0,.int .i64 0,.int .i64 0,.int .i64 0,.int .i64 0] 37)
 have hE:zaa (w.alloc (.cells #[.int .i64 0,.int .i64 0,.int .i64 0,.int .i64 0,.int .i64 0,.int .i64 0,.int .i64 0,.int .i64 0] 37)) w.heap.size #[.int .i64 0,.int .i64 0,.int .i64 0,.int .i64 0,.int .i64 0,.int .i64 0,.int .i64 0,.int .i64 0] 37:=heap_alloc_new _ _
 have lq:q < w.heap.size:=h.lt
 go_enter Tryz.func20,Tryz.ntmps20
 go_upto_region 1 with fail
 have hX:=h.below hb0
 have hsX:=hs.below hb0
 generalize w.alloc (.cells #[.int .i64 0,.int .i64 0,.int .i64 0,.int .i64 0,.int .i64 0,.int .i64 0,.int .i64 0,.int .i64 0] 37)=X at *
 obtain ⟨E,hEE,hEE'⟩:=hidv w.heap.size
 rw [<- hEE'] at hE ⊢
 have hEw:w.heap.size<=E:=by omega
 have hqE:q≠E:=by omega
 have hsE:∀ b,foot sp sl b->b≠E:=fun b hb=> by
  rcases hb with rfl | hb
  ·have:=hs.lt;omega
  ·have:=hs.zem b hb;omega
 have hspE:sp≠E:=hsE sp (.inl rfl)
 clear hEE'
 have lX:q < X.heap.size:=hX.lt
 have fX:=zax hX
 have c9:=ce (.bool i) (hX.cell 9)
 have c8:=ce jv (hX.cell 8)
 go_upto_region 2 with fail
 have hX2:=(hX.set 9 (.bool true)).set 8 .nilIface
 have hqs':∀ b,foot sp sl b->b≠q:=fun b hb e=> hqs (e ▸ hb)
 have hs2:SK 0 ((X.setCell ⟨q,9,.none⟩ (.bool true)).setCell ⟨q,8,.none⟩ .nilIface) sp sl most fs:=hsX.blocks fun b hb=> by
  rw [Below.heap_setCell _ ⟨q,8,.none⟩ _ b (hqs' b hb),Below.heap_setCell _ ⟨q,9,.none⟩ _ b (hqs' b hb)]
 have hE2:=(hE.other (fun e=> hqE e.symm) 9 (.bool true)).other (fun e=> hqE e.symm) 8 .nilIface
 have ho2:Only (fun b=> b=q\/foot sp sl b) w ((X.setCell ⟨q,9,.none⟩ (.bool true)).setCell ⟨q,8,.none⟩ .nilIface):=Only.setCell (F:=fun b=> b=q\/foot sp sl b) (Only.setCell (F:=fun b=> b=q\/foot sp sl b) (Only.of_below hb0) (.inl (.inl rfl)) _) (.inl (.inl rfl)) _
 generalize (X.setCell ⟨q,9,.none⟩ (.bool true)).setCell ⟨q,8,.none⟩ .nilIface=Y at *
 clear c9 c8 lX fX hX hsX hs hb0
 replace hX2:=hX2.cast (cs':= #[.int .i64 sp',.int .i64 sc,.int .i64 sm,.int .i64 kc,.int .i64 kf,.int .i64 ok,.int .i64 oa,.int .i64 on,.nilIface,.bool true,.bool kt,.pointer (some ⟨sp,0,.none⟩),.int .i64 ks]) rfl
 have lY:q < Y.heap.size:=hX2.lt
 have c11:=ce (.pointer (some ⟨sp,0,.none⟩)) (hX2.cell 11)
 have hcl:=hd' (zq6 hs2)
 go_upto_region 3 with (first | (go_at_call 37;(with_reducible refine hcl.out.mono ?_);rintro r w1 ⟨rfl,ho1,hs1⟩) | fail)
 have hX3:=hX2.only ho1 hqs
 have hE3:=hE2.only ho1 (fun hb=> hsE E hb rfl)
 have ho3:=ho2.trans ho1 (fun b _ hb=> .inr hb)
 clear lY c11 hcl hX2 hE2 ho2 ho1 hs2 hsE
 have lq3:q < w1.heap.size:=hX3.lt
 have lE3:E < w1.heap.size:=hE3.lt
 have d3:=ci kc (hX3.cell 3)
 have d5:=ci ok (hX3.cell 5)
 have d6:=ci oa (hX3.cell 6)
 have d7:=ci on (hX3.cell 7)
 refine zad 11 (by kernel_rfl) (by kernel_rfl) ?_
 dsimp only [List.take,List.drop]
 repeat (go_big_quiet_step (fail))
 refine wpQuiet_nil ?_
 rintro _ ⟨e',rfl⟩
 have hXZ:=hX3.below e'.below
 have hEZ:=hE3.below e'.below
 have hsZ:=hs1.below e'.below
 have hoZ:=ho3.trans (Only.of_below (F:=fun _=> False) e'.below) (fun _ _ hb=> hb.elim)
 generalize e'.w=Z at *
 change wpList _ _ _ _ _ Z
 clear lq3 lE3 d3 d5 d6 d7 hX3 hE3 hs1 ho3
 have lE:E < Z.heap.size:=hEZ.lt
 have fE:=zax hEZ
 obtain ⟨e0,e1,e2,e3,e4,e5,e6,e7⟩:=ci8 0 0 0 0 0 0 0 0 hEZ.cell
 go_wp2_with fail
 have hF:zaa ((((((((Z.setCell ⟨E,0,.none⟩ (.int .i64 5)).setCell ⟨E,1,.none⟩ (.int .i64 kc)).setCell ⟨E,2,.none⟩ (.int .i64 ok)).setCell ⟨E,3,.none⟩ (.int .i64 oa)).setCell ⟨E,4,.none⟩ (.int .i64 on)).setCell ⟨E,5,.none⟩ (.int .i64 at')).setCell ⟨E,6,.none⟩ (.int .i64 0)).setCell ⟨E,7,.none⟩ (.int .i64 x)) E #[.int .i64 5,.int .i64 kc,.int .i64 ok,.int .i64 oa,.int .i64 on,.int .i64 at',.int .i64 0,.int .i64 x] 37:=((((((((hEZ.set 0 (.int .i64 5)).set 1 (.int .i64 kc)).set 2 (.int .i64 ok)).set 3 (.int .i64 oa)).set 4 (.int .i64 on)).set 5 (.int .i64 at')).set 6 (.int .i64 0)).set 7 (.int .i64 x))
 have hqF:zaa ((((((((Z.setCell ⟨E,0,.none⟩ (.int .i64 5)).setCell ⟨E,1,.none⟩ (.int .i64 kc)).setCell ⟨E,2,.none⟩ (.int .i64 ok)).setCell ⟨E,3,.none⟩ (.int .i64 oa)).setCell ⟨E,4,.none⟩ (.int .i64 on)).setCell ⟨E,5,.none⟩ (.int .i64 at')).setCell ⟨E,6,.none⟩ (.int .i64 0)).setCell ⟨E,7,.none⟩ (.int .i64 x)) q #[.int .i64 sp',.int .i64 sc,.int .i64 sm,.int .i64 kc,.int .i64 kf,.int .i64 ok,.int .i64 oa,.int .i64 on,.nilIface,.bool true,.bool kt,.pointer (some ⟨sp,0,.none⟩),.int .i64 ks] 55:=((((((((hXZ.other hqE 0 (.int .i64 5)).other hqE 1 (.int .i64 kc)).other hqE 2 (.int .i64 ok)).other hqE 3 (.int .i64 oa)).other hqE 4 (.int .i64 on)).other hqE 5 (.int .i64 at')).other hqE 6 (.int .i64 0)).other hqE 7 (.int .i64 x))
 have hoF:Only (fun b=> b=q\/foot sp sl b) w ((((((((Z.setCell ⟨E,0,.none⟩ (.int .i64 5)).setCell ⟨E,1,.none⟩ (.int .i64 kc)).setCell ⟨E,2,.none⟩ (.int .i64 ok)).setCell ⟨E,3,.none⟩ (.int .i64 oa)).setCell ⟨E,4,.none⟩ (.int .i64 on)).setCell ⟨E,5,.none⟩ (.int .i64 at')).setCell ⟨E,6,.none⟩ (.int .i64 0)).setCell ⟨E,7,.none⟩ (.int .i64 x)):=((((((((hoZ.setCell (p:=⟨E,0,.none⟩) (.inr hEw) (.int .i64 5)).setCell (p:=⟨E,1,.none⟩) (.inr hEw) (.int .i64 kc)).setCell (p:=⟨E,2,.none⟩) (.inr hEw) (.int .i64 ok)).setCell (p:=⟨E,3,.none⟩) (.inr hEw) (.int .i64 oa)).setCell (p:=⟨E,4,.none⟩) (.inr hEw) (.int .i64 on)).setCell (p:=⟨E,5,.none⟩) (.inr hEw) (.int .i64 at')).setCell (p:=⟨E,6,.none⟩) (.inr hEw) (.int .i64 0)).setCell (p:=⟨E,7,.none⟩) (.inr hEw) (.int .i64 x))
 have hsF:SK 0 ((((((((Z.setCell ⟨E,0,.none⟩ (.int .i64 5)).setCell ⟨E,1,.none⟩ (.int .i64 kc)).setCell ⟨E,2,.none⟩ (.int .i64 ok)).setCell ⟨E,3,.none⟩ (.int .i64 oa)).setCell ⟨E,4,.none⟩ (.int .i64 on)).setCell ⟨E,5,.none⟩ (.int .i64 at')).setCell ⟨E,6,.none⟩ (.int .i64 0)).setCell ⟨E,7,.none⟩ (.int .i64 x)) sp (.slice none 0 0) most []:=hsZ.blocks fun b hb=> by
  have hbE:b≠E:=by
   rcases hb with rfl | hb
   ·exact hspE
   ·cases hb
  simp only [Below.heap_setCell _ ⟨E,_,.none⟩ _ b hbE]
 generalize (((((((Z.setCell ⟨E,0,.none⟩ (.int .i64 5)).setCell ⟨E,1,.none⟩ (.int .i64 kc)).setCell ⟨E,2,.none⟩ (.int .i64 ok)).setCell ⟨E,3,.none⟩ (.int .i64 oa)).setCell ⟨E,4,.none⟩ (.int .i64 on)).setCell ⟨E,5,.none⟩ (.int .i64 at')).setCell ⟨E,6,.none⟩ (.int .i64 0)).setCell ⟨E,7,.none⟩ (.int .i64 x)=U at *
 obtain ⟨r0,r1,r2,r3,r4,r5,r6,r7⟩:=ci8 5 kc ok oa on at' 0 x hF.cell
 exact bodyPost_ret (v:= .agg #[.int .i64 5,.int .i64 kc,.int .i64 ok,.int .i64 oa,.int .i64 on,.int .i64 at',.int .i64 0,.int .i64 x]) (by simp [results,Tryz.results20,go_sem,r0,r1,r2,r3,r4,r5,r6,r7]) rfl ⟨rfl,hqF,hsF,hoF⟩
end

section

open Go.RowKit

theorem zdb:(Tryz.prog.info? 37).map (fun i=> (i.zero,i.size,i.bytes))=some (some (.agg #[.int .i64 0,.int .i64 0,.int .i64 0,.int .i64 0,.int .i64 0,.int .i64 0,.int .i64 0,.int .i64 0]),8,64):=by kernel_rfl
theorem zel (B:Nat) (w:World):w.ownsRow B 37 8 (.slice none 0 0) 0 []:=⟨by simp,.inl ⟨rfl,rfl⟩⟩
theorem zfo (e:Ev):∀ u ∈ e.cells.toList,u.oneCell'=true:=by
 intro u hu
 simp only [Ev.cells,List.mem_cons,List.not_mem_nil,or_false] at hu
 rcases hu with rfl | rfl | rfl | rfl | rfl | rfl | rfl | rfl <;> rfl
theorem evRd (e:Ev) (X:World):RdS (X.alloc (.cells e.cells 37)) 8 (.slice (some ⟨X.heap.size,0,.none⟩) 1 1) 1 e.cells.toList:=RdS.new (heap_alloc_new _ _) rfl (by decide)
theorem zav {w w':World} {B:Nat} {E:TypeId} {size:Nat} {v:Value} {n:Nat} {xs:List Value} (h:w.ownsRow B E size v n xs) (hb:Below w.heap.size w w'):w'.ownsRow B E size v n xs:=
 zas h fun k hk=> hb.block k (h.lt k hk).2
theorem zkk {w w':World} {B:Nat} {F:Nat->Prop} {E:TypeId} {size:Nat} {v:Value} {n:Nat} {xs:List Value} (h:w.ownsRow B E size v n xs) (ho:Only F w w') (hF:∀ b,B<=b->¬ F b):w'.ownsRow B E size v n xs:=
 zas h fun k hk=> ho.block k (h.lt k hk).2 (hF k (h.lt k hk).1)
theorem zaa.belB {B:Nat} {w w':World} {q:Nat} {cs:Array Value} {T:TypeId} (h:zaa w q cs T) (hb:Below B w w') (hq:q < B):zaa w' q cs T:=(hb.block q hq).trans h
theorem zfp {F:Nat->Prop} {w X Y:World} (h:Only F w X) (hb:Below w.heap.size X Y):Only F w Y:=
 ⟨hb.os.trans h.os,hb.tape.trans h.tape,hb.output.trans h.output,Nat.le_trans h.size hb.size,fun k hk hf=> (hb.block k hk).trans (h.block k hk hf)⟩
theorem zdy {B:Nat} {w w':World} (hb:Below B w w'):Only (fun b=> B<=b) w w':=⟨hb.os,hb.tape,hb.output,hb.size,fun k _ hf=> hb.block k (by omega)⟩
def AdO (F:Nat->Prop) (w:World) (q:Nat) (s:Sh) (a:Ad):Prop:=F q/\zaa w q (zan s a) 129
theorem AdO.only {F G:Nat->Prop} {w w':World} {q:Nat} {s:Sh} {a:Ad} (h:AdO F w q s a) (ho:Only G w w') (hd:∀ k,F k->¬ G k):AdO F w' q s a:=⟨h.1,h.2.only ho (hd q h.1)⟩
theorem AdO.below {F:Nat->Prop} {w w':World} {q:Nat} {s:Sh} {a:Ad} (h:AdO F w q s a) (hb:Below w.heap.size w w'):AdO F w' q s a:=⟨h.1,h.2.below hb⟩
theorem FeO.below {F:Nat->Prop} {w w':World} {q:Nat} {s:Sh} {t:Fe} (h:FeO F w q s t) (hb:Below w.heap.size w w'):FeO F w' q s t:=h.only (Only.of_below (F:=fun _=> False) hb) (fun _ _ e=> e)
theorem MalO.below {F:Nat->Prop} {w w':World} {q:Nat} {s:Sh} {cl:Int} {r:Rs} {c:Option Cm} (h:MalO F w q s cl r c) (hb:Below w.heap.size w w'):MalO F w' q s cl r c:=h.only (Only.of_below (F:=fun _=> False) hb) (fun _ _ e=> e)
structure zbp (q sp:Nat) (s:Sh) (k:Kl) (d:Bool) (jv sl:Value) (most:Int) (fs:List Fr) (es:List Ev) (w w':World) (r:Ending):Prop where
 ret:∃ v,r= .returned v/\w'.ownsRow w.heap.size 37 8 v es.length (es.flatMap fun e=> e.cells.toList)
 row:zaa w' q (zat s k d (if d=true then .nilIface else jv) (.pointer (some ⟨sp,0,.none⟩))) 55
 stk:SK 0 w' sp (if d=true then .slice none 0 0 else sl) most (if d=true then [] else fs)
 only:Only (fun b=> b=q\/foot sp sl b) w w'
section

variable {G:Nat->Prop} {Y:World} {q1:Nat} {s:Sh}

theorem zgh {f:Fe} (h:FeO G Y q1 s f):Calls Tryz.prog 152 #[.agg #[.pointer (some ⟨q1,0,.none⟩)]] Y fun e w'=> e= .returned (.bool f.gave)/\Below Y.heap.size Y w':=by
 obtain ⟨_,q2,h3,_⟩:=h
 exact zxu q1 _ f.gave Y h3.row rfl
theorem zf9 {f:Fe} (h:FeO G Y q1 s f):Calls Tryz.prog 66 #[.pointer (some ⟨q1,0,.none⟩)] Y fun e w'=> e= .returned (.bool f.done)/\Below Y.heap.size Y w':=by
 obtain ⟨_,q2,h3,_⟩:=h
 exact (zkw q1 _ f.done Y h3.row rfl).mono (fun e w' h=> ⟨h.1,h.2 ▸ Below.refl _ _⟩)
theorem zm8 {f:Fe} (_h:FeO G Y q1 s f):Calls Tryz.prog 153 #[.agg #[.pointer (some ⟨q1,0,.none⟩)]] Y fun e w'=> e= .returned (gotV none)/\Below Y.heap.size Y w':=zze _ Y
theorem zqy {f:Fe} (h:FeO G Y q1 s f):Calls Tryz.prog 151 #[.agg #[.pointer (some ⟨q1,0,.none⟩)]] Y fun e w'=> e= .returned (.int .i64 (Jb.fre f).err)/\Below Y.heap.size Y w':=by
 obtain ⟨_,q2,h3,_⟩:=h
 exact z2s q1 _ f.gave Y h3.row rfl
theorem zd8 {t:Rr} (h:RrO G Y q1 s t):Calls Tryz.prog 158 #[.agg #[.pointer (some ⟨q1,0,.none⟩)]] Y fun e w'=> e= .returned (.bool (Jb.aga t).gave)/\Below Y.heap.size Y w':=zyz h
theorem zd5 {t:Rr} (h:RrO G Y q1 s t):Calls Tryz.prog 154 #[.pointer (some ⟨q1,0,.none⟩)] Y fun e w'=> e= .returned (.bool t.done)/\Below Y.heap.size Y w':=by
 obtain ⟨_,_,_,_,_,_,_,_,_,_,hrow,_⟩:=h
 exact (zzc q1 _ t.done Y hrow rfl).mono (fun e w' h=> ⟨h.1,h.2 ▸ Below.refl _ _⟩)
theorem zgc {t:Rr} (hd:t.done=true->t.err=0->∃ r,t.res=some r) (h:RrO G Y q1 s t):Calls Tryz.prog 159 #[.agg #[.pointer (some ⟨q1,0,.none⟩)]] Y fun e w'=> e= .returned (gotV (Jb.aga t).took)/\Below Y.heap.size Y w':=zzp h hd
theorem zii {t:Rr} (h:RrO G Y q1 s t):Calls Tryz.prog 157 #[.agg #[.pointer (some ⟨q1,0,.none⟩)]] Y fun e w'=> e= .returned (.int .i64 (Jb.aga t).err)/\Below Y.heap.size Y w':=by
 obtain ⟨_,_,_,_,_,_,_,_,_,_,hrow,_⟩:=h
 exact z1d q1 s t _ _ _ _ Y hrow
theorem zno {cl:Int} {r:Rs} {c:Option Cm} (_h:MalO G Y q1 s cl r c):Calls Tryz.prog 112 #[.pointer (some ⟨q1,0,.none⟩)] Y fun e w'=> e= .returned (.bool false)/\Below Y.heap.size Y w':=(ztz _ Y).mono (fun e w' h=> ⟨h.1,h.2 ▸ Below.refl _ _⟩)
theorem zm2 {cl:Int} {r:Rs} {c:Option Cm} (h:MalO G Y q1 s cl r c):Calls Tryz.prog 109 #[.pointer (some ⟨q1,0,.none⟩)] Y fun e w'=> e= .returned (.bool (Jb.mal r c).done)/\Below Y.heap.size Y w':=zvm h
theorem zrs {cl:Int} {r:Rs} {c:Option Cm} (h:MalO G Y q1 s cl r c):Calls Tryz.prog 113 #[.pointer (some ⟨q1,0,.none⟩)] Y fun e w'=> e= .returned (gotV (Jb.mal r c).took)/\Below Y.heap.size Y w':=zux h
theorem zv7 {cl:Int} {r:Rs} {c:Option Cm} (h:MalO G Y q1 s cl r c):Calls Tryz.prog 111 #[.pointer (some ⟨q1,0,.none⟩)] Y fun e w'=> e= .returned (.int .i64 (Jb.mal r c).err)/\Below Y.heap.size Y w':=zy3 h
theorem zqz {a:Ad} (_h:AdO G Y q1 s a):Calls Tryz.prog 176 #[.agg #[.pointer (some ⟨q1,0,.none⟩)]] Y fun e w'=> e= .returned (.bool false)/\Below Y.heap.size Y w':=zy9 _ Y
theorem zti {a:Ad} (h:AdO G Y q1 s a):Calls Tryz.prog 163 #[.pointer (some ⟨q1,0,.none⟩)] Y fun e w'=> e= .returned (.bool a.done)/\Below Y.heap.size Y w':=(zxq q1 _ a.done Y h.2 rfl).mono (fun e w' h=> ⟨h.1,h.2 ▸ Below.refl _ _⟩)
theorem z0p {a:Ad} (_h:AdO G Y q1 s a):Calls Tryz.prog 177 #[.agg #[.pointer (some ⟨q1,0,.none⟩)]] Y fun e w'=> e= .returned (gotV none)/\Below Y.heap.size Y w':=zx3 _ Y
theorem z8a {a:Ad} (h:AdO G Y q1 s a):Calls Tryz.prog 175 #[.agg #[.pointer (some ⟨q1,0,.none⟩)]] Y fun e w'=> e= .returned (.int .i64 a.err)/\Below Y.heap.size Y w':=zz3 q1 s a Y h.2
end

end

end Go.Proofs.YthgekdlegbmehaaGreat
