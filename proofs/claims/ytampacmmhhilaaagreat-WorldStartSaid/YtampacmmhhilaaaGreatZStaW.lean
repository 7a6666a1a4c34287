/- Each client is started once, lives till it is killed: the walk of the law. -/
import Derived.Test.YtampacmmhhilaaaGreatZStaP

import Derived.Test.YtampacmmhhilaaaGreatZIntW

set_option linter.all false
set_option maxHeartbeats 8000000
set_option maxRecDepth 100000
namespace Go.Proofs.YtampacmmhhilaaaGreat

open Go.RowKit

attribute [local go_sem ↓] Go.wp_at_zero Go.wp_at_succ

def rowI (st:List Int):Array Value:=(st.map (Value.int .i64)).toArray
theorem yfr (st:List Int) (k:Nat) (x:Int):(rowI st).setIfInBounds k (.int .i64 x)=rowI (st.set k x):=by
 unfold rowI
 simp [List.map_set]
theorem yfq {w:World} {M:Nat} {st:List Int} {T:TypeId} {k:Nat} (h:zaa w M (rowI st) T) (hk:k < st.length):w.cell? ⟨M,k,.none⟩=some (.int .i64 (st.getD k 0)):=by
 refine (h.cell k).trans ?_
 unfold rowI
 rw [List.getD_eq_getElem?_getD,List.getElem?_eq_getElem hk]
 simp [hk]
theorem z1f (n:Nat) (hn:n<=100):∀ u:World,(Instr.makeSlice 34 (.int .i64 (n:Int)) (.int .i64 (n:Int))).run Tryz.prog u= .ok (.slice (some ⟨u.heap.size,0,.none⟩) n n) (u.alloc (.cells (madeCells #[.int .i64 0] n) 3)):=fun u=> by
 obtain ⟨i0,hi,hz0,hz1,hz2⟩:=info_parts z1o
 have h:=run_make (P:=Tryz.prog) u 34 3 i0 (.int .i64 0) Tryz.underlying34 hi hz0 .i64 .i64 (n:Int) (n:Int) (by omega) (Int.le_refl _) (by rw [hz2];omega) (by omega)
 rw [Int.toNat_natCast] at h
 simpa [hz1,Value.cells] using h
theorem yfm (n:Nat):madeCells #[.int .i64 0] n=rowI (List.replicate n 0):=by
 unfold rowI
 rw [List.map_replicate]
 simp only [madeCells]
 apply Array.ext
 ·simp
 ·intro i h1 h2
  simp [Nat.mod_one]
theorem staK_or (b:Int):staK b=1\/staK b=2\/staK b=3\/staK b=4:=by
 unfold staK
 split
 ·exact .inl rfl
 ·split
  ·exact .inr (.inr (.inr rfl))
  ·split
   ·exact .inr (.inl rfl)
   ·exact .inr (.inr (.inl rfl))
theorem and3 (b:Nat) (hb:b < 256):bits .and .u8 (b:Int) 3=((b % 4:Nat):Int):=by
 have h:∀ b:Fin 256,bits .and .u8 ((b.val:Nat):Int) 3=((b.val % 4:Nat):Int):=by decide +kernel
 exact h ⟨b,hb⟩
theorem yfv (b:Nat) (hb:b < 256) (N:Nat) (hN:0 < N) (hN2:N<=100):∃ c k:Nat,c < N/\c=b / 4 % N/\k=b % 4/\k < 4/\Int.tmod ((b / 4:Nat):Int) (N:Int)=(c:Int):=
 ⟨b / 4 % N,b % 4,Nat.mod_lt _ hN,rfl,rfl,by omega,by rw [Int.tmod_eq_emod_of_nonneg (by omega)];omega⟩
theorem sta_set {B H M g:Nat} {F:Nat->Prop} {W w:World} {s:Sh} {d:Wd} {x:Wx} {st:List Int} {cs:Array Value} {T S:TypeId} (hx:WdP B F w g s d x) (hM:zaa w M (rowI st) T) (tH:zaa w H cs S) (nF:¬ F M) (hbr:Below H W w) (hHM:H < M) (c:Nat) (v:Int):
  WdP B F (w.setCell ⟨M,c,.none⟩ (.int .i64 v)) g s d x/\zaa (w.setCell ⟨M,c,.none⟩ (.int .i64 v)) M (rowI (st.set c v)) T/\zaa (w.setCell ⟨M,c,.none⟩ (.int .i64 v)) H cs S/\Below H W (w.setCell ⟨M,c,.none⟩ (.int .i64 v)):=
 ⟨hx.only (Only.setCell (Only.refl (fun k=> k=M) _) (p:=⟨M,c,.none⟩) (.inl rfl) _) (fun j hj e=> nF (e ▸ hj)),by rw [<- yfr];exact hM.set c _,tH.other (by omega) _ _,hbr.setCell (by show H<=M;omega) _⟩
theorem z9u (s:Sh) (zs:List Int) (hz:∀ z ∈ zs,0<=z/\z < 256) (v:Value) (W:World) (hr:RdZ .u8 W v zs):
  Calls Tryz.prog 9 #[.agg #[.int .i64 s.p,.int .i64 s.c,.int .i64 s.m],v] W fun e w'=> e= .returned (.bool true)/\Below W.heap.size W w':=by
 obtain ⟨ao,cap,rfl,hcap,hcm,hrow⟩:=hr.cells
 obtain ⟨n,hn,hn'⟩:=hidv zs.length
 rw [<- hn'] at hcap ⊢
 clear hn' hr
 have haw:=fun Y=> zn0 Y
 have hmy:=fun Y=> refMay_any s.p s.c s.m Y
 have hnil1:∀ (p:Nat) (W:World),(binOp .eql 27 (.pointer (some ⟨p,0,.none⟩)) (.pointer none)).run Tryz.prog W= .ok (.bool false) W:=fun p W=> by kernel_rfl
 have hnk1:∀ (p:Nat) (W:World),(binOp .neq 36 (.pointer (some ⟨p,0,.none⟩)) (.pointer none)).run Tryz.prog W= .ok (.bool true) W:=fun p W=> by kernel_rfl
 have hnk0:∀ (W:World),(binOp .neq 36 (.pointer none) (.pointer none)).run Tryz.prog W= .ok (.bool false) W:=fun W=> by kernel_rfl
 have hb0:=(Below.refl W.heap.size W).alloc lr (.cells #[.int .i64 s.p,.int .i64 s.c,.int .i64 s.m] 23)
 have t0:zaa (W.alloc (.cells #[.int .i64 s.p,.int .i64 s.c,.int .i64 s.m] 23)) W.heap.size #[.int .i64 s.p,.int .i64 s.c,.int .i64 s.m] 23:=heap_alloc_new _ _
 replace haw:=hd' haw
 replace hrow:=hd' hrow
 by_cases hlen:¬ n<=100
 ·have hl1:¬ (n:Int)<=100:=by omega
  have hl2:(100:Int) < (n:Int):=by omega
  clear hlen
  go_enter Tryz.func9,Tryz.ntmps9
  go_wp2_with (first
   | (go_at_call 27;(with_reducible refine (haw.out _).mono ?_);rintro r w1 ⟨rfl,hb1⟩)
   | fail)
  go_returns
  exact ⟨rfl,zab hb0 hb1⟩
 replace hlen:=Decidable.not_not.1 hlen
 have hl1:(n:Int)<=100:=by omega
 have hl2:¬ (100:Int) < (n:Int):=by omega
 by_cases hm:¬ mayB s.p s.c s.m=true
 ·have hm':mayB s.p s.c s.m=false:=by simpa using hm
  rw [hm'] at hmy
  replace hmy:=hd' hmy
  clear hm hm'
  go_enter Tryz.func9,Tryz.ntmps9
  go_upto_region 3 with (first
   | (go_at_call 27;(with_reducible refine (haw.out _).mono ?_);rintro r w1 ⟨rfl,hb1⟩)
   | fail)
  have t1:=t0.below hb1
  obtain ⟨c0,c1,c2⟩:=ci3 s.p s.c s.m t1.cell
  have hb01:=zab hb0 hb1
  clear t0 t1 hb0 hb1
  go_wp2_with (first
   | (go_at_call 28;(with_reducible refine (hmy.out _).mono ?_);rintro r w3 ⟨rfl,hw3⟩;obtain rfl:=hw3.symm)
   | fail)
  go_returns
  exact ⟨rfl,hb01.alloc hb01.size _⟩
 replace hm:=Decidable.not_not.1 hm
 rw [hm] at hmy
 replace hmy:=hd' hmy
 have hbg:=fun Y=> znk s Y hm
 have hbd:=zar.1 hm
 replace hbg:=hd' hbg
 obtain ⟨N,hN,hNN⟩:∃ N:Nat,s.c=(N:Int)/\1<=N/\N<=12:=⟨s.c.toNat,by omega,by omega⟩
 have hmk:=z1f N (by omega)
 replace hN:=hd' hN
 go_enter Tryz.func9,Tryz.ntmps9
 go_upto_region 3 with (first
  | (go_at_call 27;(with_reducible refine (haw.out _).mono ?_);rintro r w1 ⟨rfl,hb1⟩)
  | fail)
 have t1:=t0.below hb1
 have hb01:=zab hb0 hb1
 obtain ⟨H,hH,hH'⟩:=hidv W.heap.size
 rw [<- hH'] at t1 hb01 ⊢
 have hbH:∀ b,b < W.heap.size->b < H:=fun b h=> by omega
 replace hbH:=hd' hbH
 have lH:=t1.lt
 clear hH' t0 hb0 hb1
 obtain ⟨c0,c1,c2⟩:=ci3 s.p s.c s.m t1.cell
 go_upto_region 8 with (first
  | (go_at_call 28;(with_reducible refine (hmy.out _).mono ?_);rintro r w2 ⟨rfl,hw2⟩;obtain rfl:=hw2.symm)
  | (go_at_call 17;(with_reducible refine (hbg.out _).mono ?_);rintro r w3 ⟨hb3,g,vv,x0,rfl,hx3⟩)
  | fail)
 have ha:=(Below.refl w1.heap.size w1).alloc lr (.cells #[.int .i64 s.p,.int .i64 s.c,.int .i64 s.m] 23)
 have t3:=(t1.below ha).below hb3
 have hs1:=ha.size
 have hs3:=hb3.size
 have hx4:WdP H _ w3 g s (zde s) x0:=hx3.lower (by omega)
 have hb3W:Below H W w3:=hb01.trans ((zab ha hb3).mono (by omega))
 rw [hN.out] at t3
 have d1:=ci (N:Int) (t3.cell 1)
 have lH3:=t3.lt
 have hxF:=hx3.lt
 have lH1:H < w1.heap.size:=lH
 clear hx3 hb3 ha t1 c0 c1 c2 lH hb01 hmy hbg
 go_upto_region 9 with fail
 have hx5:=hx4.below ((Below.refl w3.heap.size w3).alloc lr (.cells (madeCells #[.int .i64 0] N) 3))
 have hM5:zaa (w3.alloc (.cells (madeCells #[.int .i64 0] N) 3)) w3.heap.size (rowI (List.replicate s.c.toNat 0)) 3:=by
  have h:=heap_alloc_new w3 (.cells (madeCells #[.int .i64 0] N) 3)
  rw [hN.out,Int.toNat_natCast,<- yfm]
  exact h
 have t5:=t3.below ((Below.refl w3.heap.size w3).alloc lr (.cells (madeCells #[.int .i64 0] N) 3))
 have hb5W:Below H W (w3.alloc (.cells (madeCells #[.int .i64 0] N) 3)):=hb3W.alloc (by omega) _
 generalize w3.alloc (.cells (madeCells #[.int .i64 0] N) 3)=X5 at *
 obtain ⟨M,hMd,hMd'⟩:=hidv w3.heap.size
 rw [<- hMd'] at hM5 ⊢
 obtain ⟨F0,hF0,hF0'⟩:∃ F:Nat->Prop,Hid (F=fun i=> (w1.alloc (.cells #[.int .i64 s.p,.int .i64 s.c,.int .i64 s.m] 23)).heap.size<=i/\i < w3.heap.size)/\F=_:=⟨_,hd' rfl,rfl⟩
 rw [<- hF0'] at hx5
 have hF0M:¬ F0 M:=fun e=> by rw [hF0'] at e;have:=e.2;omega
 have hF0H:¬ F0 H:=fun e=> by rw [hF0'] at e;have:=e.1;omega
 have hHM:H < M:=by omega
 have hst0:=ygh hm
 have hok0:=zl9 hm
 clear hMd' hF0' hF0 hs1 hs3 hx4 hb3W t3 d1 lH3 hxF lH1
 go_wp2
 go_loopw [8] (fun v8 wr=> ∃ (i:Nat) (F:Nat->Prop) (d:Wd) (x:Wx) (st:List Int),i<=n/\v8= .int .i64 i/\WdP H F wr g s d x/\wdOk s d i/\StaI s d st/\¬ F M/\¬ F H/\zaa wr M (rowI st) 3/\zaa wr H #[.int .i64 s.p,.int .i64 (N:Int),.int .i64 s.m] 23/\Below H W wr) (fun v8 _=> n - (intOf v8).toNat)
 case atStart=> exact ⟨0,F0,_,x0,_,Nat.zero_le _,rfl,hx5,hok0,hst0,hF0M,hF0H,hM5,t5,hb5W⟩
 case round=>
  clear hx5 hok0 hst0 hF0M hF0H hM5 t5 hb5W
  obtain ⟨i,F,d,x,st,hin,rfl,hx,hok,hI,hFM,hFH,hM,tH,hbr⟩:=hrel
  have hi0:(0:Int)<=(i:Int):=by omega
  by_cases hi:i < n
  ·have hii:(i:Int) < (n:Int):=by omega
   have wi1:IntKind.i64.wrap ((i:Int) + 1)=(i:Int) + 1:=IntWalk.i64_in _ ⟨by omega,by omega⟩
   have hil:i < zs.length:=hn.out ▸ hi
   obtain ⟨gb,gof,rfl,hgb,hcell⟩:=hrow.out (fun h=> by subst h;simp at hil)
   have hgbH:=hbH.out _ hgb
   have hzb:=hz zs[i] (List.getElem_mem hil)
   have hzc:∀ X,Below H W X->X.cell? ⟨gb,gof + i,.none⟩=some (.int .u8 zs[i])/\gb < X.heap.size:=fun X hb=> ⟨(hb.cell (p:=⟨gb,_,.none⟩) hgbH).trans (hcell i hil),by have:=hb.size;omega⟩
   generalize zs[i]=z at *
   obtain ⟨b,rfl⟩:∃ b:Nat,z=(b:Int):=⟨z.toNat,by omega⟩
   obtain ⟨z0,zl⟩:=hzc _ hbr
   have hHr:H<=wr.heap.size:=by have:=tH.lt;omega
   have d1:=ci (N:Int) (tH.cell 1)
   have lH:=tH.lt
   clear hcell
   go_upto_region 12 with fail
   go_quiet (fail)
   obtain ⟨c,hcN,hce⟩:∃ c:Nat,c < N/\(b:Int) / 4 % (N:Int)=(c:Int):=⟨b / 4 % N,Nat.mod_lt _ (by omega),by simp⟩
   rw [hce]
   have hD:=below_drewN (Below.refl wr.heap.size wr) nq
   have hx2:=hx.below hD
   have hM2:=hM.below hD
   have tH2:=tH.below hD
   have hbr2:=hbr.trans (hD.mono hHr)
   generalize wr.drewN nq=X at *
   clear hce hx hM tH hbr hD z0 zl d1 lH
   obtain ⟨z0,zl⟩:=hzc _ hbr2
   have hb4:(b:Int) % 4=0\/(b:Int) % 4=1\/(b:Int) % 4=2\/(b:Int) % 4=3:=by omega
   have hcs:c < st.length:=by rw [hI.len,hN.out];omega
   have hcc:(c:Int) < s.c:=by rw [hN.out];omega
   have hxs:=(hI.stt c hcs).2
   go_upto_region 13 with fail
   have ha3:=and3 b (by omega)
   obtain ⟨K,hKd,hKd'⟩:=hidv (staK b)
   have hK:K=1\/K=2\/K=3\/K=4:=by rw [hKd'];exact staK_or b
   clear hKd'
   have hact:=yf9 hok hI c hcc K hK
   have hok2:=zeo hok ⟨K,(c:Int),2, -1,0,0⟩
   have hdo:∀ Y,Below X.heap.size X Y->Calls Tryz.prog 25 #[.pointer (some ⟨g,0,.none⟩),.agg #[.int .i64 K,.int .i64 (c:Int),.int .i64 2,.int .i64 (-1),.int .i64 0,.float .f64 0]] Y fun e w'=> e= .returned (.int .i64 (d.act s ⟨K,(c:Int),2, -1,0,0⟩).2)/\WdTo H F Y w' g s (d.act s ⟨K,(c:Int),2, -1,0,0⟩).1:=fun Y hY=> zkm (hx2.below hY) (by have:=hY.size;have:=tH2.lt;omega) hok (by omega) ⟨K,(c:Int),2, -1,0,0⟩
   have hc0:(0:Int)<=(c:Int):=by omega
   have hcN2:(c:Int) < (N:Int):=by omega
   have hss:=set_self st c
   generalize (d.act s ⟨K,(c:Int),2, -1,0,0⟩).1=d' at *
   generalize (d.act s ⟨K,(c:Int),2, -1,0,0⟩).2=er at *
   generalize hx:st.getD c 0=xv at *
   obtain ⟨hae,haI⟩:=hact
   replace hdo:=hd' hdo
   replace hok2:=hd' hok2
   replace haI:=hd' haI
   replace hae:=hd' hae
   replace hss:=hd' hss
   replace hx:=hd' hx
   go_cut [10] from 50 to 57 (fun v10 wx=> v10= .int .i64 K/\Below X.heap.size X wx)
   case first=>
    have hZ:=(Below.refl X.heap.size X).alloc lr (.cells #[.int .i64 1,.int .i64 4,.int .i64 2,.int .i64 3] 3)
    rcases hb4 with hb4 | hb4 | hb4 | hb4
    ·replace ha3:bits .and .u8 (b:Int) 3=0:=ha3.trans (by omega)
     obtain rfl:K=1:=by rw [hKd.out];unfold staK;rw [if_pos hb4]
     go_wp2_with fail
     go_meet
     exact ⟨rfl,hZ⟩
    ·replace ha3:bits .and .u8 (b:Int) 3=1:=ha3.trans (by omega)
     obtain rfl:K=4:=by rw [hKd.out];unfold staK;rw [if_neg (by omega),if_pos hb4]
     go_wp2_with fail
     go_meet
     exact ⟨rfl,hZ⟩
    ·replace ha3:bits .and .u8 (b:Int) 3=2:=ha3.trans (by omega)
     obtain rfl:K=2:=by rw [hKd.out];unfold staK;rw [if_neg (by omega),if_neg (by omega),if_pos hb4]
     go_wp2_with fail
     go_meet
     exact ⟨rfl,hZ⟩
    ·replace ha3:bits .and .u8 (b:Int) 3=3:=ha3.trans (by omega)
     obtain rfl:K=3:=by rw [hKd.out];unfold staK;rw [if_neg (by omega),if_neg (by omega),if_neg (by omega)]
     go_wp2_with fail
     go_meet
     exact ⟨rfl,hZ⟩
   case rest=>
    obtain ⟨rfl,hZ⟩:=hcut
    obtain ⟨Z,hZe⟩:∃ Z,Z=wc:=⟨_,rfl⟩
    subst hZe
    have hdo2:=hd' (hdo.out _ hZ)
    have hM3:=hM2.below hZ
    have tH3:=tH2.below hZ
    have hbr3:=hbr2.trans (hZ.mono (by have:=tH2.lt;omega))
    have hlt3:=(hx2.below hZ).lt
    replace hlt3:=hd' hlt3
    clear z0 zl ha3 hb4 hx2 hM2 tH2 hbr2 hzc
    go_upto_block 2 with (first
     | (go_at_call 25;(with_reducible refine hdo2.out.mono ?_);rintro r w7 ⟨rfl,⟨x7,hx7⟩,ho7,hH7⟩)
     | fail)
    have hM7:=hM3.only ho7 hFM
    have tH7:=tH3.only ho7 hFH
    have nFM:=zif (W':=w7) hFM hM3.lt
    have nFH:=zif (W':=w7) hFH tH3.lt
    have zM7:=yfq hM7 hcs
    rw [hx.out] at zM7
    have hbr7:Below H W w7:=hbr3.trans (ho7.below (by have:=tH3.lt;omega) (fun j hj=> (hlt3.out j hj).1))
    have lM7:=hM7.lt
    have fM7:=zax hM7
    have hS:=sta_set hx7 hM7 tH7 nFM hbr7 hHM c
    generalize grow F Z w7=F7 at *
    go_cut [12] from 65 to 91 (fun v12 wx=> v12= .int .i64 (zvs xv K)/\WdP H F7 wx g s d' x7/\zaa wx M (rowI (st.set c (zfy xv K))) 3/\zaa wx H #[.int .i64 s.p,.int .i64 (N:Int),.int .i64 s.m] 23/\Below H W wx)
    case first=>
     have hsame:=(⟨hx7,by rw [hss.out];exact hM7,tH7,hbr7⟩:WdP H F7 w7 g s d' x7/\zaa w7 M (rowI (st.set c xv)) 3/\zaa w7 H #[.int .i64 s.p,.int .i64 (N:Int),.int .i64 s.m] 23/\Below H W w7)
     clear hx7 hM7 tH7 hbr7 hM3 tH3 hbr3
     replace hsame:=hd' hsame
     replace hS:=hd' hS
     rcases hK with rfl | rfl | rfl | rfl
     all_goals
      rcases hxs with rfl | rfl | rfl
      all_goals
       go_wp2_with fail
       go_meet
       first
        | exact ⟨rfl,hsame.out⟩
        | exact ⟨rfl,hS.out 1⟩
        | exact ⟨rfl,hS.out 2⟩
    case rest=>
     obtain ⟨rfl,hx8,hM8,tH8,hbr8⟩:=hcut
     obtain ⟨w8,hZe⟩:∃ Z,Z=wc:=⟨_,rfl⟩
     subst hZe
     have hst8:c < (st.set c (zfy xv K)).length:=by simpa using hcs
     have z8:=yfq hM8 hst8
     have hsI:=haI.out.stt c hst8
     have hkI:=haI.out.kl c hst8
     rw [zmi _ _ _ _ hcs,if_pos rfl] at z8 hsI hkI
     have hsta:=fun Y (hY:Below w8.heap.size w8 Y)=> zmv (hx8.below hY) hok2.out.fi hok2.out.fit (c:Int)
     rw [show zrl s d' (c:Int)=d'.stat c from if_pos (by rw [zeu hm ⟨hc0,hcc⟩];exact hc0),hsI.1] at hsta
     have hl2:d'.l.length<=100/\((c:Int)).toNat < d'.l.length:=by rw [hok2.out.len];omega
     have hcl:=fun Y (hY:Below w8.heap.size w8 Y)=> zva (hx8.below hY) (c:Int) ⟨hc0,hl2.2⟩ hl2.1
     have hfin:∀ Y,Below w8.heap.size w8 Y->∃ (i':Nat) (F:Nat->Prop) (d:Wd) (x:Wx) (st:List Int),i'<=n/\Value.int .i64 ((i:Int) + 1)= .int .i64 i'/\WdP H F Y g s d x/\wdOk s d i'/\StaI s d st/\¬ F M/\¬ F H/\zaa Y M (rowI st) 3/\zaa Y H #[.int .i64 s.p,.int .i64 (N:Int),.int .i64 s.m] 23/\Below H W Y:=fun Y hY=> ⟨i + 1,_,d',x7,_,by omega,by go_num,hx8.below hY,hok2.out,haI.out,nFM,nFH,hM8.below hY,tH8.below hY,hbr8.trans (hY.mono (by have:=tH8.lt;omega))⟩
     have l8:=hM8.lt
     replace hfin:=hd' hfin
     replace hsta:=hd' hsta
     rw [hae.out]
     generalize zvs xv K=wv at *
     generalize zfy xv K=nv at *
     clear hM8 tH8 hx8 hbr8 hM7 tH7 hx7 hbr7 hM3 tH3 hbr3 zM7 lM7 fM7 hS
     go_upto_region 29 with fail
     by_cases hn1:nv=1
     ·obtain ⟨k',hk',_⟩:=hkI.1 hn1
      rw [hk'] at hcl
      dsimp only [ptrK] at hcl
      subst hn1
      replace hcl:=hd' hcl
      clear hsI hkI
      refine zaj (by kernel_rfl) (by kernel_rfl) ?_
      repeat (go_big_quiet_step ((first | (go_at_call 31;exact zam (hsta.out _ (Ext.below _))) | (go_at_call 21;exact zam (hcl.out _ (Ext.below _))) | fail)))
      refine wpQuiet_nil ?_
      rintro _ ⟨e',rfl⟩
      have hX8:=e'.below
      generalize e'.w=Y at *
      go_wp2_with fail
      exact ⟨hfin.out _ hX8,by simp only [intOf];omega⟩
     ·have bn1:(nv==1)=false:=by rw [beq_eq_false_iff_ne];exact hn1
      rw [hkI.2 hn1] at hcl
      dsimp only [ptrK] at hcl
      replace hcl:=hd' hcl
      clear hsI hkI
      refine zaj (by kernel_rfl) (by kernel_rfl) ?_
      repeat (go_big_quiet_step ((first | (go_at_call 31;exact zam (hsta.out _ (Ext.below _))) | (go_at_call 21;exact zam (hcl.out _ (Ext.below _))) | fail)))
      refine wpQuiet_nil ?_
      rintro _ ⟨e',rfl⟩
      have hX8:=e'.below
      generalize e'.w=Y at *
      go_wp2_with fail
      exact ⟨hfin.out _ hX8,by simp only [intOf];omega⟩
  ·obtain rfl:i=n:=by omega
   have hno:¬ (i:Int) < (i:Int):=by omega
   obtain ⟨hw1,hw2⟩:=ygj hok hI
   have hll:d.l.length<=100:=by rw [hok.len];omega
   have hlv:∀ Y,Below wr.heap.size wr Y->Calls Tryz.prog 43 #[.pointer (some ⟨g,0,.none⟩)] Y fun e w'=> ∃ v,e= .returned v/\Below Y.heap.size Y w'/\RdZ .i64 w' v (staL st N):=fun Y hY=> (ydq (hx.below hY) hll).mono fun e w' ⟨v,h1,h2,h3⟩=> ⟨v,h1,h2,by rw [hw1,hN.out,Int.toNat_natCast] at h3;exact RdS.zew h3⟩
   have hry:∀ Y,Below wr.heap.size wr Y->Calls Tryz.prog 20 #[.pointer (some ⟨g,0,.none⟩)] Y fun e w'=> Below Y.heap.size Y w'/\∃ ao cap,e= .returned (.slice ao 0 cap):=fun Y hY=> (ycy (hx.below hY) hll).mono fun e w' ⟨v,h1,h2,h3⟩=> ⟨h2,by
    rw [hw2] at h3
    obtain ⟨ao,cap,rfl,_⟩:=RdS.zew h3
    exact ⟨ao,cap,h1⟩⟩
   have hsp:∀ Y,Below wr.heap.size wr Y->Calls Tryz.prog 30 #[.pointer (some ⟨g,0,.none⟩)] Y fun e w'=> Below Y.heap.size Y w'/\∃ ao cap,e= .returned (.slice ao 0 cap):=fun Y hY=> (zw1 (hx.below hY) (by rw [hI.lg];simp)).mono fun e w' ⟨v,h1,h2,h3⟩=> ⟨h2,by
    rw [hI.lg] at h3
    obtain ⟨ao,cap,rfl,_⟩:=RdS.zew h3
    exact ⟨ao,cap,h1⟩⟩
   have hin2:=fun v u Y hv hu=> yc9 (staL st N) v u Y hv hu
   have hHr:H<=wr.heap.size:=by have:=tH.lt;omega
   have hkeep:∀ Y,Below wr.heap.size wr Y->Y.cell? ⟨H,1,.none⟩=some (.int .i64 (N:Int))/\(∀ j,j < N->Y.cell? ⟨M,j,.none⟩=some (.int .i64 (st.getD j 0)))/\H < Y.heap.size/\M < Y.heap.size:=fun Y hY=> ⟨(tH.below hY).cell 1,fun j hj=> yfq (hM.below hY) (by rw [hI.len,hN.out];omega),(tH.below hY).lt,(hM.below hY).lt⟩
   obtain ⟨i0,hi0',hz0,hz1,hz2⟩:=info_parts z1o
   have hsu:=fun j=> yfc st j
   have hle:=fun j=> yfp st j
   have hown0:wr.ownsRow wr.heap.size 3 1 (.slice none 0 0) (staL st 0).length ((staL st 0).map (Value.int .i64)):=⟨by simp [staL],.inl ⟨rfl,by simp [staL]⟩⟩
   replace hlv:=hd' hlv
   replace hry:=hd' hry
   replace hsp:=hd' hsp
   replace hin2:=hd' hin2
   replace hkeep:=hd' hkeep
   replace hsu:=hd' hsu
   replace hle:=hd' hle
   clear hx hok hI hM tH hw1 hw2
   obtain ⟨V,hV⟩:∃ V,V=wr:=⟨_,rfl⟩
   subst hV
   go_wp2
   go_loopw [13,14] (fun v13 v14 wr=> ∃ j:Nat,j<=N/\v14= .int .i64 j/\Below V.heap.size V wr/\wr.ownsRow V.heap.size 3 1 v13 (staL st j).length ((staL st j).map (Value.int .i64))) (fun _ v14 _=> N - (intOf v14).toNat)
   case atStart=> exact ⟨0,Nat.zero_le _,rfl,Below.refl _ _,hown0⟩
   case round=>
    clear hown0
    obtain ⟨j,hjN,rfl,hbx,hown⟩:=hrel
    obtain ⟨c1,hcM,lH,lM⟩:=hkeep.out _ hbx
    have hj0:(0:Int)<=(j:Int):=by omega
    by_cases hj:j < N
    ·have hjj:(j:Int) < (N:Int):=by omega
     have wj1:IntKind.i64.wrap ((j:Int) + 1)=(j:Int) + 1:=IntWalk.i64_in _ ⟨by omega,by omega⟩
     have zj:=hcM j hj
     have hs:=hsu.out j
     have hlc:=hle.out j
     have hbs:=hbx.size
     by_cases h1:st.getD j 0=1
     ·rw [h1] at zj
      rw [if_pos h1] at hs
      generalize staL st j=L at *
      replace hs:=hd' hs
      clear h1 hcM
      go_wp2_with (first
       | (refine zay rfl (.tmp 128) (.tmp 130) 34 rfl V.heap.size 3 i0 _ 1 8 Tryz.underlying34 hi0' hz0 hz1 hz2 rfl (by omega) _ L.length _ rfl (hown.alloc _) _ 1 [.int .i64 j] rfl (RdS.new (cs:= #[.int .i64 j]) (t:=3) (sz:=1) (n:=1) (heap_alloc_new wr _) rfl (by omega)) (by intro u hu;simp at hu;subst hu;rfl) (by simp only [maxLen];omega) (by omega) (by simp;omega) ?_;intro v7 w7 hown7 hgrow7 hat7;have h7:=zaw (hbx.alloc (by omega) _) (hown.alloc _) (by simp;omega) hgrow7)
       | fail)
      exact ⟨⟨j + 1,by omega,by go_num,h7,by rw [hs.out,List.length_append,List.map_append];exact hown7⟩,by simp only [intOf];omega⟩
     ·have bz:(st.getD j 0==1)=false:=by rw [beq_eq_false_iff_ne];exact h1
      rw [if_neg h1,List.append_nil] at hs
      generalize st.getD j 0=zv at *
      replace hs:=hd' hs
      clear hcM
      go_wp2_with fail
      exact ⟨⟨j + 1,by omega,by go_num,hbx,by rw [hs.out];exact hown⟩,by simp only [intOf];omega⟩
    ·obtain rfl:j=N:=by omega
     have hnoj:¬ (j:Int) < (j:Int):=by omega
     have hu:RdZ .i64 _ _ (staL st j):=RdS.zew hown
     obtain ⟨ao3,cap3,rfl,_⟩:=hu.cells
     replace hu:=hd' hu
     clear hcM hown
     go_wp2_with (first
      | (go_at_call 43;(with_reducible refine (hlv.out _ hbx).mono ?_);rintro r y1 ⟨v,rfl,hy1,hv⟩;have hz1':=zab hbx hy1)
      | (go_at_call 46;(with_reducible refine (hin2.out _ _ _ hv (hu.out.below hy1)).mono ?_);rintro r y2 ⟨rfl,hy2⟩;have hz2':=zab hz1' hy2)
      | (go_at_call 20;(with_reducible refine (hry.out _ hz2').mono ?_);rintro r y3 ⟨hy3,ao4,cap4,rfl⟩;have hz3':=zab hz2' hy3)
      | (go_at_call 30;(with_reducible refine (hsp.out _ hz3').mono ?_);rintro r y4 ⟨hy4,ao5,cap5,rfl⟩;have hz4':=zab hz3' hy4)
      | fail)
     go_returns
     exact ⟨rfl,by rw [<- hH.out];exact hbr.trans (hz4'.mono hHr)⟩
end Go.Proofs.YtampacmmhhilaaaGreat
