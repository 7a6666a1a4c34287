/- Any one that has an operation, stepped alone, is answered within its bound: the walk of the law. -/
import Derived.Test.YtampacmmhhilaaaGreatZTAwk

import Derived.Test.YtampacmmhhilaaaGreatZWPlay

import Derived.Test.YtampacmmhhilaaaGreatZWWho

import Derived.Test.YtampacmmhhilaaaGreatBq49

set_option linter.all false
set_option maxHeartbeats 8000000
set_option maxRecDepth 100000
namespace Go.Proofs.YtampacmmhhilaaaGreat

open Go.RowKit

attribute [local go_sem ↓] Go.wp_at_zero Go.wp_at_succ

theorem rdC_of {w:World} {v:Value} {xs:List Ch} (h:RdS w 6 v xs.length (xs.flatMap Ch.cells)):RdC w v xs:=by
 obtain ⟨ao,cap,e,h1,h2,hl,hr⟩:=id h
 refine ⟨ao,cap,e,h1,h2,fun hx=> ?_⟩
 obtain ⟨b,off,ea,hb,hc⟩:=hr (by cases xs with | nil=> exact absurd rfl hx | cons a l=> simp)
 exact ⟨b,off,ea,hb,fun i j hi hj=> by rw [Nat.add_assoc,hc _ (by omega)];exact yan xs i hi j hj⟩
theorem who_at (P:Kl->Bool) (l:List (Option Kl)) (n j:Nat) (h:j < (whoL P l n).length):∃ c:Nat,(whoL P l n)[j]=(c:Int)/\c < n/\∃ k,l.getD c none=some k/\P k=true:=by
 have hm:=List.getElem_mem h
 generalize (whoL P l n)[j]=z at *
 unfold whoL at hm
 obtain ⟨a,ha,rfl⟩:=List.mem_map.1 hm
 obtain ⟨h1,h2⟩:=List.mem_filter.1 ha
 refine ⟨a,rfl,List.mem_range.1 h1,?_⟩
 unfold whoB at h2
 cases hx:l.getD a none with
 | none=> rw [hx] at h2;cases h2
 | some k=> rw [hx] at h2;exact ⟨k,rfl,h2⟩
theorem solo_any (s:Sh) (xs:List Ch) (v:Value) (who:Int) (hwho:0<=who/\who < 256) (W:World) (hr:RdS W 6 v xs.length (xs.flatMap Ch.cells)):
  Calls Tryz.prog 3 #[.agg #[.int .i64 s.p,.int .i64 s.c,.int .i64 s.m],v,.int .u8 who] W fun e w'=> e= .returned (.bool true)/\Below W.heap.size W w':=by
 have hrC:=rdC_of hr
 obtain ⟨ao,cap,rfl,hcap,hcm,hl,hrow⟩:=id hr
 obtain ⟨n,hn,hn'⟩:=hidv xs.length
 rw [<- hn'] at hcap hrC ⊢
 clear hn' hr hrow hl
 have haw:=fun Y=> yhf Y
 have hro:∀ Y,Calls Tryz.prog 16 #[.slice ao n cap,.int .i64 3000] Y fun e w'=> e= .returned (.bool (decide (n<=3000)))/\w'=Y:=fun Y=> zzm ao n cap 3000 (by omega) Y
 have hnil1:∀ (p:Nat) (W:World),(binOp .eql 27 (.pointer (some ⟨p,0,.none⟩)) (.pointer none)).run Tryz.prog W= .ok (.bool false) W:=fun p W=> by kernel_rfl
 have hnil0:∀ (W:World),(binOp .eql 27 (.pointer none) (.pointer none)).run Tryz.prog W= .ok (.bool true) W:=fun W=> by kernel_rfl
 have hnk:∀ (p:Nat) (W:World),(binOp .eql 36 (.pointer (some ⟨p,0,.none⟩)) (.pointer none)).run Tryz.prog W= .ok (.bool false) W:=fun p W=> by kernel_rfl
 have hb0:=(Below.refl W.heap.size W).alloc lr (.cells #[.int .i64 s.p,.int .i64 s.c,.int .i64 s.m] 23)
 have t0:zaa (W.alloc (.cells #[.int .i64 s.p,.int .i64 s.c,.int .i64 s.m] 23)) W.heap.size #[.int .i64 s.p,.int .i64 s.c,.int .i64 s.m] 23:=heap_alloc_new _ _
 replace haw:=hd' haw
 replace hrC:=hd' hrC
 by_cases hlen:¬ n<=3000
 ·rw [decide_eq_false hlen] at hro
  replace hro:=hd' hro
  clear hlen
  go_enter Tryz.func3,Tryz.ntmps3
  go_wp2_with (first
   | (go_at_call 15;(with_reducible refine (haw.out _).mono ?_);rintro r w1 ⟨rfl,hb1⟩)
   | (go_at_call 16;(with_reducible refine (hro.out _).mono ?_);rintro r w2 ⟨rfl,hw2⟩;obtain rfl:=hw2.symm)
   | fail)
  go_returns
  exact ⟨rfl,zab hb0 hb1⟩
 replace hlen:=Decidable.not_not.1 hlen
 rw [decide_eq_true hlen] at hro
 replace hro:=hd' hro
 by_cases hm:¬ mayB s.p s.c s.m=true
 ·have hbg:=fun Y=> yfo s Y hm
  replace hbg:=hd' hbg
  clear hm
  go_enter Tryz.func3,Tryz.ntmps3
  go_upto_region 5 with (first
   | (go_at_call 15;(with_reducible refine (haw.out _).mono ?_);rintro r w1 ⟨rfl,hb1⟩)
   | (go_at_call 16;(with_reducible refine (hro.out _).mono ?_);rintro r w2 ⟨rfl,hw2⟩;obtain rfl:=hw2.symm)
   | fail)
  have t1:=t0.below hb1
  obtain ⟨c0,c1,c2⟩:=ci3 s.p s.c s.m t1.cell
  have hb01:=zab hb0 hb1
  clear t0 t1 hb0 hb1
  go_wp2_with (first
   | (go_at_call 17;(with_reducible refine (hbg.out _).mono ?_);rintro r w3 ⟨hb3,rfl⟩)
   | fail)
  go_returns
  exact ⟨rfl,zab hb01 hb3⟩
 replace hm:=Decidable.not_not.1 hm
 have hbg:=fun Y=> znk s Y hm
 have hcs:=fun Y=> yg0 s hm Y
 have hbd:=zar.1 hm
 have hch:=fun Y (hY:Below W.heap.size W Y)=> ycu xs (.slice ao n cap) Y (hrC.out.below hY) (by rw [<- hn.out];omega)
 have hok0:=zl9 hm
 have hokP:wdOk s ((zde s).play s xs).1 n:=by
  have h:=zv6 hok0 xs
  rw [Nat.zero_add,<- hn.out] at h
  rw [ztk];exact h
 replace hbg:=hd' hbg
 replace hcs:=hd' hcs
 replace hch:=hd' hch
 go_enter Tryz.func3,Tryz.ntmps3
 go_upto_region 5 with (first
  | (go_at_call 15;(with_reducible refine (haw.out _).mono ?_);rintro r w1 ⟨rfl,hb1⟩)
  | (go_at_call 16;(with_reducible refine (hro.out _).mono ?_);rintro r w2 ⟨rfl,hw2⟩;obtain rfl:=hw2.symm)
  | fail)
 have t1:=t0.below hb1
 have hb01:=zab hb0 hb1
 obtain ⟨H,hH,hH'⟩:=hidv W.heap.size
 rw [<- hH'] at t1 ⊢
 have lH:=t1.lt
 have hHW:H<=w1.heap.size:=by omega
 clear hH' t0 hb0 hb1
 obtain ⟨c0,c1,c2⟩:=ci3 s.p s.c s.m t1.cell
 go_upto_region 8 with (first
  | (go_at_call 17;(with_reducible refine (hbg.out _).mono ?_);rintro r w3 ⟨hb3,g,vv,x0,rfl,hx3⟩)
  | fail)
 have t3:=t1.below hb3
 have hb03:=zab hb01 hb3
 have hs3:=hb3.size
 have hlt3:∀ i,w1.heap.size<=i/\i < w3.heap.size->w1.heap.size<=i/\i < w3.heap.size:=fun i h=> h
 obtain ⟨F,hF,hF'⟩:∃ F:Nat->Prop,Hid (F=fun i=> w1.heap.size<=i/\i < w3.heap.size)/\F=fun i=> w1.heap.size<=i/\i < w3.heap.size:=⟨_,hd' rfl,rfl⟩
 rw [<- hF'] at hx3
 have hltF:∀ i,F i->w1.heap.size<=i/\i < w3.heap.size:=fun i h=> by rw [hF'] at h;exact h
 have hFH:¬ F H:=fun e=> by have:=(hltF H e).1;omega
 clear hF' hlt3 c0 c1 c2 hb01
 have hpl:∀ X v,Below w3.heap.size w3 X->OwnC 46 w3.heap.size X v xs->Calls Tryz.prog 18 #[.pointer (some ⟨g,0,.none⟩),v] X fun e w'=> e= .returned (.int .i64 ((zde s).play s xs).2)/\WdTo w1.heap.size F X w' g s ((zde s).play s xs).1:=fun X v hb hv=>
  yds (hx3.below hb) (Nat.le_trans hs3 hb.size) hok0 xs (by rw [<- hn.out];omega) v (RdS.zew hv) (fun b off cap e hF=> by have h1:=(hv.lt b (by rw [e];rfl)).1;have:=(hltF b hF).2;omega)
 replace hpl:=hd' hpl
 generalize ((zde s).play s xs).1=d at *
 generalize ((zde s).play s xs).2=pz at *
 go_upto_region 9 with (first
  | (go_at_call 19;(with_reducible refine (hch.out _ hb03).mono ?_);rintro r w4 ⟨v4,rfl,hb4,hv4⟩)
  | (go_at_call 18;(with_reducible refine (hpl.out _ _ hb4 hv4).mono ?_);rintro r w5 ⟨rfl,hT5⟩)
  | fail)
 have hs4:=hb4.size
 have t5:zaa w5 H #[.int .i64 s.p,.int .i64 s.c,.int .i64 s.m] 23:=(t3.below hb4).only hT5.2.1 hFH
 have hb5W:Below W.heap.size W w5:=(zab hb03 hb4).trans ((hT5.2.1.below (B:=w1.heap.size) (Nat.le_trans hs3 hs4) (fun j hj=> (hltF j hj).1)).mono (by have:=hH.out;omega))
 obtain ⟨⟨x5,hx5⟩,ho5,hB5⟩:=hT5
 obtain ⟨F5,hF5,hF5'⟩:∃ F5:Nat->Prop,Hid (F5=grow F w4 w5)/\F5=grow F w4 w5:=⟨_,hd' rfl,rfl⟩
 rw [<- hF5'] at hx5
 have hF5H:¬ F5 H:=by rw [hF5'];exact zif hFH (t3.below hb4).lt
 have hll:d.l.length<=100:=by rw [hokP.len];omega
 have hrd:Calls Tryz.prog 20 #[.pointer (some ⟨g,0,.none⟩)] w5 fun e w'=> Below w5.heap.size w5 w'/\∃ ao cap,e= .returned (.slice ao (whoL (fun k=> !k.rests) d.l d.l.length).length cap)/\(whoL (fun k=> !k.rests) d.l d.l.length).length<=cap/\(cap:Int)<=9223372036854775807/\∀ j (hj:j < (whoL (fun k=> !k.rests) d.l d.l.length).length),∃ rb ro,ao=some ⟨rb,ro,.none⟩/\w'.cell? ⟨rb,ro + j,.none⟩=some (.int .i64 (whoL (fun k=> !k.rests) d.l d.l.length)[j]):=by
  refine (ycy hx5 hll).mono fun e w' ⟨v,h1,h2,h3⟩=> ⟨h2,?_⟩
  have h4:RdZ .i64 w' v _:=RdS.zew h3
  obtain ⟨ao,cap,rfl,h5,h6,h7⟩:=h4.cells
  refine ⟨ao,cap,h1,h5,h6,fun j hj=> ?_⟩
  obtain ⟨b,off,ha,hb,hc⟩:=h7 (fun e=> by rw [e] at hj;simp at hj)
  exact ⟨b,off,ha,hc j hj⟩
 have hwa:=fun j hj=> who_at (fun k=> !k.rests) d.l d.l.length j hj
 have hLl:=zwg (fun k=> !k.rests) d.l d.l.length
 generalize whoL (fun k=> !k.rests) d.l d.l.length=L at *
 obtain ⟨nl,hnl,hnl'⟩:=hidv L.length
 have hrd':=hrd
 rw [<- hnl'] at hLl
 replace hrd:Calls Tryz.prog 20 #[.pointer (some ⟨g,0,.none⟩)] w5 fun e w'=> Below w5.heap.size w5 w'/\∃ ao cap,e= .returned (.slice ao nl cap)/\nl<=cap/\(cap:Int)<=9223372036854775807/\Hid (∀ j (hj:j < L.length),∃ rb ro,ao=some ⟨rb,ro,.none⟩/\w'.cell? ⟨rb,ro + j,.none⟩=some (.int .i64 L[j])):=hrd'.mono fun e w' ⟨h1,ao,cap,h2,h3,h4,h5⟩=> ⟨h1,ao,cap,by rw [hnl'];exact h2,by rw [hnl'];exact h3,h4,hd' h5⟩
 clear hrd'
 have hnl2:nl<=100:=by omega
 replace hrd:=hd' hrd
 replace hwa:=hd' hwa
 clear hnl' hF5' hF5 hF hLl t3 t1 hb4 hv4 hb03 hx3 hltF hFH hpl hch lH
 go_upto_region 10 with (first
  | (go_at_call 20;(with_reducible refine hrd.out.mono ?_);rintro r w6 ⟨hb6,aR,cR,rfl,hc6,hc6',hR⟩)
  | fail)
 have hs6:=hb6.size
 have t6:=t5.below hb6
 have hx6:=hx5.below hb6
 have hb6W:=zab hb5W hb6
 clear hrd hx5 t5 ho5 hb5W
 by_cases hne:nl=0
 ·subst hne
  go_wp2_with fail
  go_returns
  exact ⟨rfl,hb6W⟩
 ·have bne:((nl:Int)==0)=false:=by rw [beq_eq_false_iff_ne];omega
  have bnl:¬ nl=0:=hne
  have ipos:(0:Int) < (nl:Int):=by omega
  have hnz:¬ (nl:Int)=0:=by omega
  obtain ⟨j,hjn,hje⟩:∃ j:Nat,j < nl/\who % (nl:Int)=(j:Int):=⟨(who % (nl:Int)).toNat,by have h1:=Int.emod_nonneg who (show (nl:Int)≠0 by omega);have h2:=Int.emod_lt_of_pos who ipos;omega,by have h1:=Int.emod_nonneg who (show (nl:Int)≠0 by omega);omega⟩
  have hrem:Int.tmod who (nl:Int)=(j:Int):=by rw [Int.tmod_eq_emod_of_nonneg hwho.1];exact hje
  have hwr:IntKind.i64.wrap who=who:=IntWalk.i64_in _ ⟨by omega,by omega⟩
  have hwj:IntKind.i64.wrap (j:Int)=(j:Int):=IntWalk.i64_in _ ⟨by omega,by omega⟩
  have hjl:j < L.length:=by rw [<- hnl.out];exact hjn
  obtain ⟨c,hcj,hcn,k,hk,hkr⟩:=hwa.out j hjl
  obtain ⟨rb,ro,rfl,hrc⟩:=hR.out j hjl
  have zj:w6.cell? ⟨rb,ro + j,.none⟩=some (.int .i64 (c:Int)):=hrc.trans (by rw [hcj])
  have j0:(0:Int)<=(j:Int):=by omega
  have jl:(j:Int) < (nl:Int):=by omega
  clear hrc hR hwa hcj hjl hne
  go_upto_region 13 with fail
  have hkl:d.kl (c:Int)=some k:=by unfold Wd.kl;rw [if_pos (by omega)];exact hk
  have hkr2:k.rests=false:=by simpa using hkr
  obtain ⟨hok,hkc,hcr⟩:=hokP.kl _ _ hkl
  have hc0:(0:Int)<=(c:Int):=by omega
  have hcl:=zva hx6 (c:Int) ⟨hc0,hcn⟩ hll
  rw [hkl] at hcl
  replace hcl:Hid (Calls Tryz.prog 21 #[.pointer (some ⟨g,0,.none⟩),.int .i64 (c:Int)] w6 fun e w'=> e= .returned (.pointer (some ⟨x5.qs c,0,.none⟩))/\Below w6.heap.size w6 w'):=hd' hcl
  have hid0:∀ Y,Below w6.heap.size w6 Y->Calls Tryz.prog 22 #[.pointer (some ⟨x5.qs c,0,.none⟩)] Y fun e w'=> e= .returned (.bool false)/\w'=Y:=fun Y hb=> by
   have h1:=zyp ((hx6.below hb).cl c k hk)
   rw [hkr2] at h1
   exact h1
  have hsp0:∀ Y,Below w6.heap.size w6 Y->Calls Tryz.prog 23 #[.pointer (some ⟨x5.qs c,0,.none⟩)] Y fun e w'=> e= .returned (.int .i64 k.steps)/\w'=Y:=fun Y hb=> ya3 ((hx6.below hb).cl c k hk)
  replace hid0:=hd' hid0
  replace hsp0:=hd' hsp0
  go_upto_region 16 with (first
   | (go_at_call 21;(with_reducible refine hcl.out.mono ?_);rintro r w7 ⟨rfl,hb7⟩)
   | (go_at_call 22;(with_reducible refine (hid0.out _ hb7).mono ?_);rintro r w8 ⟨rfl,hw8⟩;obtain rfl:=hw8.symm)
   | fail)
  have hx7:=hx6.below hb7
  have t7:=t6.below hb7
  have hb7W:=zab hb6W hb7
  have hs7:=hb7.size
  have hB7:w1.heap.size<=w7.heap.size:=by omega
  have hT7:WdTq (fun q=> q=x5.qs) w1.heap.size F5 w7 w7 g s d:=WdTq.start hx7 hB7 br rfl
  have hlt7:=hx7.lt
  have hD:Due d (c:Int) k.steps:=⟨k,hkl,.inl ⟨fun e=> by unfold Kl.rests at hkr2;rw [e] at hkr2;simp at hkr2,rfl⟩⟩
  have hk0:=hok.st
  have hkM:k.steps<=(z5k s:Int):=by
   rcases hj:k.job with _ | jb
   ·unfold Kl.rests at hkr2;rw [hj] at hkr2;simp at hkr2
   ·have:=z8x hok (by omega) hj
    unfold z5k;omega
  have hlast:∀ i:Nat,(z5k s:Int)<=k.steps + i->∃ k',(d.goN s c i).kl c=some k'/\k'.job=none:=fun i hi=> by
   obtain ⟨k',h1,h2,_⟩:=ya0 (zz6 hokP i) (yav hokP hD i) (by unfold z5k at hi;omega)
   exact ⟨k',h1,h2⟩
  have hM:z5k s<=8000:=by unfold z5k;omega
  generalize hQ:x5.qs=Q at *
  generalize z5k s=M at *
  replace hlast:=hd' hlast
  replace hQ:=hd' hQ
  obtain ⟨ks,hks,hks'⟩:=hidv k.steps
  rw [<- hks'] at hD hk0 hkM hlast hsp0
  clear hks' hx7 hx6 t6 hb6W hcl hid0 hkr hkr2 hok zj hkl hk
  have hend:∀ Y,Below w7.heap.size w7 Y->Below W.heap.size W Y:=fun Y h=> zab hb7W h
  have hltW:W.heap.size<=w1.heap.size:=by have:=hH.out;omega
  have hs7W:=hb7W.size
  replace hend:=hd' hend
  go_wp2_with (first
   | (go_at_call 23;(with_reducible refine (hsp0.out _ hb7).mono ?_);rintro r w8 ⟨rfl,hw8⟩;obtain rfl:=hw8.symm)
   | fail)
  go_loopw [12] (fun v12 wr=> ∃ i:Nat,ks + i<=M/\v12= .int .i64 (ks + i)/\WdTq (fun q=> q=Q) w1.heap.size F5 w7 wr g s (d.goN s c i)) (fun v12 _=> M - (intOf v12).toNat)
  case atStart=> exact ⟨0,by simpa using hkM,by simp,hT7⟩
  case round=>
   clear hT7 hkM hb7
   obtain ⟨i,hi,rfl,hT⟩:=hrel
   rename_i wr _
   have hoki:=zz6 hokP (c:=c) i
   have hDi:=yav hokP hD i
   have tr:=t7.only hT.2.1 hF5H
   have hnext:d.goN s c (i + 1)=(d.goN s c i).goS s c:=rfl
   have hgs:=fun k h1 h2=> (z5n (s:=s) (d:=d.goN s c i) (c:=c) (k:=k) h1 h2:(d.goN s c i).goS s c=_)
   have hlasti:=hlast.out i
   obtain ⟨k',hk',hDk⟩:=hDi
   generalize d.goN s c i=di at *
   have hTk:=hT
   obtain ⟨⟨x',hx',hq'⟩,ho',hB'⟩:=hT
   replace hq':x'.qs=Q:=hq'
   have hbrW:Below W.heap.size W wr:=(hend.out _ br).trans (ho'.below (B:=W.heap.size) hs7W (fun j hj=> Nat.le_trans hltW (hlt7 j hj).1))
   have hkD:di.l.getD c none=some k':=by
    have h1:=hk'
    unfold Wd.kl at h1
    rw [if_pos hc0] at h1;exact h1
   have hid:∀ Y,Below wr.heap.size wr Y->Calls Tryz.prog 22 #[.pointer (some ⟨Q c,0,.none⟩)] Y fun e w'=> e= .returned (.bool k'.rests)/\w'=Y:=fun Y hb=> by
    have h1:=zyp ((hx'.below hb).cl c k' hkD)
    rw [hq'] at h1
    exact h1
   obtain ⟨a0,a1,a2⟩:=ci3 s.p s.c s.m tr.cell
   have lA:=tr.lt
   have hi0:(0:Int)<=(i:Int):=by omega
   by_cases hr:k'.job=none
   ·have hkr:k'.rests=true:=by unfold Kl.rests;rw [hr];rfl
    rw [hkr] at hid
    have htold:Told di (c:Int):=hDk.elim (fun h=> absurd hr h.1) (fun h=> h.2)
    have htl:di.tr.length<=100000000:=by have:=hoki.tr;omega
    have htr:=fun Y (hb:Below wr.heap.size wr Y)=> yg2 (hx'.below hb) htl (c:Int) htold
    have hfin:∀ Y,Below wr.heap.size wr Y->Below W.heap.size W Y:=fun Y h=> zab hbrW h
    replace htr:=hd' htr
    replace hid:=hd' hid
    replace hfin:=hd' hfin
    clear hTk hx' hoki hDk hgs hnext hlasti hk' hkD htold htl hr hkr hbrW tr
    by_cases hlt:ks + i < (M:Int)
    all_goals
     go_upto_region 23 with (first
      | (go_at_call 24;(with_reducible refine (hcs.out _).mono ?_);rintro r w5 ⟨rfl,hb5⟩)
      | (go_at_call 22;(with_reducible refine (hid.out _ hb5).mono ?_);rintro r w6 ⟨rfl,hw6⟩;obtain rfl:=hw6.symm)
      | (go_at_call 26;(with_reducible refine (htr.out _ hb5).mono ?_);rintro r w7 ⟨hb7,v,rfl,bb,off,cap,m,rfl,hm1,hm2,lb,y0,y1,y7⟩)
      | fail)
     have b1:((m:Int) + 1==0)=false:=by rw [beq_eq_false_iff_ne];omega
     have b2:(0:Int) < (m:Int) + 1:=by omega
     have wm:IntKind.i64.wrap (m:Int)=(m:Int):=IntWalk.i64_in _ ⟨by omega,by omega⟩
     have wm1:IntKind.i64.wrap ((m:Int) + 1 - 1)=(m:Int):=IntWalk.i64_in _ ⟨by omega,by omega⟩ |>.trans (by omega)
     have im0:(0:Int)<=(m:Int):=by omega
     have im1:(m:Int) < (m:Int) + 1:=by omega
     have hb57:=zab hb5 hb7
     go_wp2_with (first
      | (go_at_call 22;(with_reducible refine (hid.out _ hb57).mono ?_);rintro r w6 ⟨rfl,hw6⟩;obtain rfl:=hw6.symm)
      | fail)
     go_returns
     exact ⟨rfl,hfin.out _ hb57⟩
   ·have hjr:k'.rests=false:=by
     unfold Kl.rests
     rcases hj:k'.job with _ | j
     ·exact absurd hj hr
     ·rfl
    rw [hjr] at hid
    have hlt:ks + i < (M:Int):=by
     rcases Int.lt_or_le (ks + i) M with h1 | h1
     ·exact h1
     ·obtain ⟨k2,hk2,hj2⟩:=hlasti h1
      rw [hk'] at hk2
      injection hk2 with hk2
      exact absurd (hk2 ▸ hj2) hr
    have her:(di.act s (zjx c)).2=0:=by
     rcases hj:k'.job with _ | j
     ·exact absurd hj hr
     ·exact (z6c hoki hk' hj).1
    have hdoS:∀ Y,Below wr.heap.size wr Y->Calls Tryz.prog 25 #[.pointer (some ⟨g,0,.none⟩),.agg #[.int .i64 3,.int .i64 (c:Int),.int .i64 0,.int .i64 0,.int .i64 0,.float .f64 0]] Y fun e w'=> e= .returned (.int .i64 0)/\WdTq (fun q=> q=Q) w1.heap.size (grow F5 w7 wr) wr w' g s (di.act s (zjx c)).1:=fun Y hb=> by
     refine (yg6 (hx'.below hb) (by have:=hb.size;omega) hoki (by omega) c hcr).mono fun e w' h=> ⟨her ▸ h.1,?_⟩
     have h2:=h.2
     rw [hq'] at h2
     exact WdTq.from hx' hB' hb h2
    have wi1:IntKind.i64.wrap (ks + (i:Int) + 1)=ks + (i:Int) + 1:=IntWalk.i64_in _ ⟨by omega,by omega⟩
    have hfinS:∀ Y,WdTq (fun q=> q=Q) w1.heap.size (grow F5 w7 wr) wr Y g s (di.act s (zjx c)).1->∃ i':Nat,ks + i'<=M/\Value.int .i64 (ks + (i:Int) + 1)= .int .i64 (ks + i')/\WdTq (fun q=> q=Q) w1.heap.size F5 w7 Y g s (d.goN s c i'):=fun Y h=> ⟨i + 1,by omega,by congr 1;omega,by
     rw [hnext,hgs k' hk' hr]
     exact WdTq.trans hTk.to h⟩
    replace hfinS:=hd' hfinS
    replace hid:=hd' hid
    replace hdoS:=hd' hdoS
    clear hTk hx' hoki hDk hgs hnext hlasti hk' hkD hr hjr her hbrW tr
    go_wp2_with (first
     | (go_at_call 24;(with_reducible refine (hcs.out _).mono ?_);rintro r w5 ⟨rfl,hb5⟩)
     | (go_at_call 22;(with_reducible refine (hid.out _ hb5).mono ?_);rintro r w6 ⟨rfl,hw6⟩;obtain rfl:=hw6.symm)
     | (go_at_call 25;(with_reducible refine (hdoS.out _ hb5).mono ?_);rintro r w7 ⟨rfl,hT7⟩)
     | fail)
    exact ⟨hfinS.out _ hT7,by simp only [intOf];omega⟩
end Go.Proofs.YtampacmmhhilaaaGreat
