/- The law's awake: a block is asked for. -/
import Derived.Test.YthgekdlegbmehaaGreatBq52

import Derived.Test.YthgekdlegbmehaaGreatZKlFl

set_option linter.all false
set_option maxHeartbeats 4000000
set_option maxRecDepth 100000
namespace Go.Proofs.YthgekdlegbmehaaGreat

open Go.RowKit

attribute [local go_sem ↓] Go.wp_at_zero Go.wp_at_succ

theorem infoU:(Tryz.prog.info? 67).map (fun i=> (i.zero,i.size,i.bytes))=some (some (.int .u64 0),1,8):=by kernel_rfl
theorem make_us (n:Nat) (hn:n<=100000):∀ u:World,(Instr.makeSlice 46 (.int .i64 (n:Int)) (.int .i64 (n:Int))).run Tryz.prog u= .ok (.slice (some ⟨u.heap.size,0,.none⟩) n n) (u.alloc (.cells (madeCells #[.int .u64 0] n) 67)):=fun u=> by
 obtain ⟨i0,hi,hz0,hz1,hz2⟩:=info_parts infoU
 have h:=run_make (P:=Tryz.prog) u 46 67 i0 (.int .u64 0) Tryz.underlying46 hi hz0 .i64 .i64 (n:Int) (n:Int) (by omega) (Int.le_refl _) (by rw [hz2];omega) (by omega)
 rw [Int.toNat_natCast] at h
 simpa [hz1,Value.cells] using h
theorem blank_rd (n:Nat) (hn:n<=100000) (u:World):RdZ .u64 (u.alloc (.cells (madeCells #[.int .u64 0] n) 67)) (.slice (some ⟨u.heap.size,0,.none⟩) n n) (List.replicate n 0):=by
 have h:=RdS.new (sz:=1) (n:=n) (heap_alloc_new u (.cells (madeCells #[.int .u64 0] n) 67)) (by rw [size_madeCells];omega) (by omega)
 unfold RdZ
 rw [List.length_replicate,List.map_replicate]
 rwa [toList_madeCells_one] at h
theorem evOnes (xs:List Ev):∀ u ∈ xs.flatMap (fun e=> e.cells.toList),u.oneCell'=true:=fun u hu=> by
 obtain ⟨e,_,h⟩:=List.mem_flatMap.1 hu
 exact zfo e u h
def AwAt (H:Nat) (w W:World) (q p b j:Nat) (v:Value):Prop:=∃ F,CW H F W q p b Aw.s1 (Aw.kk j).1 (Aw.kk j).2/\RowE H F W p b v (Aw.es j)/\Below H w W
theorem awake20 (w:World):Calls Tryz.prog 4 #[] w fun e w'=> e= .returned (.bool true)/\Below w.heap.size w w':=by
 obtain ⟨mk,hmk,hbl⟩:∃ mk:Array Value,(∀ u:World,(Instr.makeSlice 46 (.int .i64 18) (.int .i64 18)).run Tryz.prog u= .ok (.slice (some ⟨u.heap.size,0,.none⟩) 18 18) (u.alloc (.cells mk 67)))/\Hid (∀ u:World,RdZ .u64 (u.alloc (.cells mk 67)) (.slice (some ⟨u.heap.size,0,.none⟩) 18 18) (List.replicate 18 0)):=⟨_,make_us 18 (by omega),hd' (blank_rd 18 (by omega))⟩
 have htt:∀ w,Calls Tryz.prog 12 #[.agg #[.int .i64 1,.int .i64 1,.int .i64 0]] w fun e w'=> e= .returned (.int .i64 18)/\Below w.heap.size w w':=zv0 Aw.s1
 have hfl:∀ v w,RdZ .u64 w v (List.replicate 18 0)->Calls Tryz.prog 10 #[v] w fun e w'=> LwFilled (List.replicate 18 0) w w' e:=fun v w hr=> fill_any _ v w hr (by unfold Mem.fit memOf;intro x hx;rw [List.eq_of_mem_replicate hx];exact ⟨by decide,by decide⟩) (by decide)
 have hkn:=fun w=> z0k Aw.s1 0 0 w (by decide)
 have hnb:¬ zae Aw.s1.p Aw.s1.c Aw.s1.m 0 < 0:=by decide
 have hnil1:∀ (p:Nat) (W:World),(binOp .eql 39 (.pointer (some ⟨p,0,.none⟩)) (.pointer none)).run Tryz.prog W= .ok (.bool false) W:=fun p W=> by kernel_rfl
 have hnil2:∀ (p:Nat) (W:World),(binOp .eql 25 (.pointer (some ⟨p,0,.none⟩)) (.pointer none)).run Tryz.prog W= .ok (.bool false) W:=fun p W=> by kernel_rfl
 have hkn2:∀ w e w',z9c w w' e Aw.s1 0 0->∃ q,e= .returned (.pointer (some ⟨q,0,.none⟩))/\KlO (fun i=> w.heap.size<=i/\i < w'.heap.size) w' q Aw.s1 (zht 0 (Fl.zdr 0 1))/\Below w.heap.size w w':=fun w e w' h=> by
  obtain ⟨h1,h2⟩:=h
  rw [if_neg hnb] at h2
  obtain ⟨q,e,h3⟩:=h2
  exact ⟨q,e,h3,h1⟩
 clear hnb
 have hkn:=fun w=> (hkn w).mono (hkn2 w)
 clear hkn2
 dsimp only [Aw.s1,F64] at hkn
 replace htt:=hd' htt
 replace hfl:=hd' hfl
 replace hkn:=hd' hkn
 go_enter Tryz.func4,Tryz.ntmps4
 go_upto_region 2 with fail
 have b0:Below w.heap.size w (w.alloc (.cells #[.int .i64 1,.int .i64 1,.int .i64 0] 24)):=br.alloc lr _
 have t0:zaa (w.alloc (.cells #[.int .i64 1,.int .i64 1,.int .i64 0] 24)) w.heap.size #[.int .i64 1,.int .i64 1,.int .i64 0] 24:=heap_alloc_new _ _
 generalize w.alloc (.cells #[.int .i64 1,.int .i64 1,.int .i64 0] 24)=X at *
 obtain ⟨H,hH,hH'⟩:=hidv w.heap.size
 rw [<- hH'] at t0 b0 ⊢
 have hHX:H<=X.heap.size:=by rw [hH'];have:=b0.size;omega
 clear hH'
 have lH:H < X.heap.size:=t0.lt
 obtain ⟨c0,c1,c2⟩:=ci3 1 1 0 t0.cell
 go_upto_region 3 with (first
  | (go_at_call 12;(with_reducible refine (htt.out _).mono ?_);rintro r w1 ⟨rfl,hb1⟩)
  | (go_at_call 10;(with_reducible refine (hfl.out _ _ (hbl.out _)).mono ?_);rintro r w2 ⟨p,b,rfl,hw2,hp2,hb2,hB2⟩)
  | fail)
 have lp2:=hw2.ltp
 have lb2:=hw2.ltb
 have hX2:Below X.heap.size X w2:=hb1.trans (((Below.refl w1.heap.size w1).alloc lr (.cells mk 67)).trans (hB2.mono (by simp)) |>.mono hb1.size)
 have hp2':X.heap.size<=p:=by have:=hb1.size;simp at hp2;omega
 have hb2':X.heap.size<=b:=by have:=hb1.size;simp at hb2;omega
 clear hb1 hB2 hp2 hb2 htt hfl hmk hbl
 have d0:=zai hX2 _ _ _ c0
 have d1:=zai hX2 _ _ _ c1
 have d2:=zai hX2 _ _ _ c2
 have lH2:H < w2.heap.size:=by have:=hX2.size;omega
 go_upto_region 4 with (first
  | (go_at_call 5;(with_reducible refine (hkn.out _).mono ?_);rintro r w3 ⟨q,rfl,hk3,hB3⟩)
  | fail)
 have hcw:CW H _ w3 q p b Aw.s1 (zht 0 (Fl.zdr 0 1)) (memOf (List.replicate 18 0)):=cw_new (s:=Aw.s1) (c:=0) (x:=0) hk3 (hw2.below hB3) lp2 lb2 (by omega) (by omega) (by omega) Aw.may ⟨by decide,by decide⟩ ⟨Aw.may,by decide⟩
 have hsh:Fl.zdr 0 1=0:=by have:=Fl.z2u 0 (n:=1) (by decide);omega
 rw [hsh] at hcw
 have hX3:Below H w w3:=(b0.trans (hX2.mono hHX)).trans (hB3.mono (by omega))
 have hl3:H<=w3.heap.size:=by have:=hB3.size;omega
 clear hk3 hB3 hw2 hX2 d0 d1 d2 c0 c1 c2 t0 hsh lp2 lb2 hp2' hb2' b0 lH
 generalize hF:(fun i=> w2.heap.size<=i/\i < w3.heap.size)=F at hcw
 clear hF
 have hask:=yfi Aw.o1 hcw hl3
 have hask2:∀ r w',ygo H F w3 w' q p b Aw.s1 (zht 0 0) (memOf (List.replicate 18 0)) Aw.o1 r->∃ ao cap F,r= .returned (.tuple #[.slice ao 1 cap,.int .i64 0])/\CW H F w' q p b Aw.s1 (Aw.kk 0).1 (Aw.kk 0).2/\Below H w3 w':=fun r w' h=> by
  obtain ⟨⟨v,e,ho⟩,h2,h3,h4⟩:=h
  obtain ⟨ao,cap,e2,_⟩:=(zut ho).nth
  subst e2
  rw [Aw.asked.1,Aw.asked.2] at e
  exact ⟨ao,cap,_,e,h2,h4⟩
 have hask:=hask.mono hask2
 dsimp only [Aw.o1] at hask
 replace hask:=hd' hask
 clear hask2 hcw
 go_upto_region 8 with (first
  | (go_at_call 7;(with_reducible refine hask.out.mono ?_);rintro r w4 ⟨ao,cap,F4,rfl,hcw4,hB4⟩)
  | fail)
 have hX4:Below H w w4:=hX3.trans hB4
 have hl4:H<=w4.heap.size:=by have:=hB4.size;have:=hl3;omega
 clear hask hB4 hX3
 obtain ⟨i0,hi0,hz0,hz1,hz2⟩:=info_parts zdb
 go_wp2
 go_loopw [6,7] (fun v6 v7 wr=> ∃ j:Nat,j<=3/\v7= .int .i64 j/\AwAt H w wr q p b j v6) (fun _ v7 _=> 3 - (intOf v7).toNat)
 case atStart=> exact ⟨0,Nat.zero_le _,rfl,F4,hcw4,RowE.nil,hX4⟩
 case round=>
  obtain ⟨j,hj,rfl,Fr,hcr,her,hbr⟩:=hrel
  have hlr:H<=wr.heap.size:=by have:=hcr.lp;have:=hcr.wd.ltp;omega
  by_cases hj3:j < 3
  ·have hjl:(j:Int) < 3:=by omega
   have hj0:(0:Int)<=(j:Int):=by omega
   have wi1:IntKind.i64.wrap ((j:Int) + 1)=(j:Int) + 1:=IntWalk.i64_in _ ⟨by omega,by omega⟩
   have key:∀ r w',z2r H Fr wr w' q p b Aw.s1 (Aw.kk j).1 (Aw.kk j).2 r->∃ ao n cap e,r= .returned (.tuple #[.slice ao n cap,.int .i64 e])/\RdS w' 8 (.slice ao n cap) ((Aw.kk j).1.step Aw.s1 (Aw.kk j).2).2.2.1.length ((((Aw.kk j).1.step Aw.s1 (Aw.kk j).2).2.2.1).flatMap fun e=> e.cells.toList)/\(∃ F',CW H F' w' q p b Aw.s1 (Aw.kk (j + 1)).1 (Aw.kk (j + 1)).2/\RowE H F' w' p b u6 (Aw.es j))/\Below H w w'/\H<=w'.heap.size:=fun r w' h=> by
    obtain ⟨⟨v,e,ho⟩,h2,h3,h4⟩:=h
    have hrd:=RdS.zew ho
    obtain ⟨ao,cap,e2,_⟩:=hrd
    subst e2
    exact ⟨ao,_,cap,_,e,RdS.zew ho,⟨_,h2,her.only h3⟩,hbr.trans h4,by have:=h4.size;omega⟩
   have hstep:=(ybc hcr hlr (Aw.stp hj3)).mono key
   clear key
   replace hstep:=hd' hstep
   have hfew:=Aw.few hj
   have hfew2:=Aw.few hj3
   have hrow:Hid (Aw.es (j + 1)=Aw.es j ++ ((Aw.kk j).1.step Aw.s1 (Aw.kk j).2).2.2.1):=hd' rfl
   rw [hrow.out,List.length_append] at hfew2
   generalize ((Aw.kk j).1.step Aw.s1 (Aw.kk j).2).2.2.1=xs at *
   clear hcr her
   go_wp2_with (first
    | (go_at_call 9;(with_reducible refine hstep.out.mono ?_);rintro r w5 ⟨ao5,n5,cap5,e5,rfl,hrd5,⟨F5,hcw5,hro5⟩,hb5,hl5⟩)
    | (refine zay rfl (.tmp 39) (.tmp 40) 32 rfl H 37 i0 _ 8 64 Tryz.underlying32 hi0 hz0 hz1 hz2 rfl (by omega) _ (Aw.es j).length _ rfl hro5.own _ xs.length _ rfl hrd5 (evOnes xs) (by simp only [maxLen];omega) (by omega) hl5 ?_;intro v6' w6 hown6 hgrow6 hat6)
    | fail)
   have hput:=hro5.put hcw5 hgrow6 hown6 hat6
   rw [<- hrow.out] at hput
   exact ⟨⟨j + 1,by omega,by go_num,F5,hput.1,hput.2,zaw hb5 hro5.own hl5 hgrow6⟩,by simp [intOf];omega⟩
  ·have hje:j=3:=by omega
   subst hje
   have hj0:¬ (((3:Nat):Int) < 3):=by omega
   obtain ⟨ea,eb,hee,ha1,ha2,hb1⟩:∃ a b,Aw.es 3= [a,b]/\a.k=3/\a.n=64/\b.k=5:=by
    have h:=Aw.told
    rcases he:Aw.es 3 with _ | ⟨a,_ | ⟨b,_ | ⟨c,l⟩⟩⟩
    ·rw [he] at h;simp at h
    ·rw [he] at h;simp at h
    ·rw [he] at h
     simp only [List.map_cons,List.map_nil,List.cons.injEq,Prod.mk.injEq,and_true] at h
     exact ⟨a,b,rfl,h.1.1,h.1.2,h.2.1⟩
    ·rw [he] at h;simp at h
   have hrd:=her.rd
   rw [hee] at hrd
   obtain ⟨a6,k6,rfl,_,_,hcell⟩:=hrd.nth
   obtain ⟨g,o,rfl,hg,hcell⟩:=hcell (by simp)
   have X0:wr.cell? ⟨g,o,.none⟩=some (.int .i64 3):=by have:=hcell 0 (by simp) 0 (by omega);simpa [Ev.cells,ha1] using this
   have X4:wr.cell? ⟨g,o + 6,.none⟩=some (.int .i64 64):=by have:=hcell 0 (by simp) 6 (by omega);simpa [Ev.cells,ha2] using this
   have Y0:wr.cell? ⟨g,o + 8,.none⟩=some (.int .i64 5):=by have:=hcell 1 (by simp) 0 (by omega);simpa [Ev.cells,hb1] using this
   have hidle:=zyp hcr.kl
   have hsteps:=ya3 hcr.kl
   rw [Aw.last.1] at hidle
   rw [Aw.last.2] at hsteps
   replace hidle:=hd' hidle
   replace hsteps:=hd' hsteps
   clear hcell ha1 ha2 hb1 hee hcr her
   go_wp2_with (first
    | (go_at_call 8;(with_reducible refine hidle.out.mono ?_);rintro r w7 ⟨rfl,hw7⟩;obtain rfl:=hw7.symm)
    | (go_at_call 13;(with_reducible refine hsteps.out.mono ?_);rintro r w8 ⟨rfl,hw8⟩;obtain rfl:=hw8.symm)
    | fail)
   go_returns
   exact ⟨rfl,by rw [<- hH.out];exact hbr⟩
end Go.Proofs.YthgekdlegbmehaaGreat
