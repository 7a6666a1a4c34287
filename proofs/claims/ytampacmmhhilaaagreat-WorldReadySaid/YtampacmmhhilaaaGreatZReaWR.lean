/- Who is ready, behind each choice: the walk of the law. -/
import Derived.Test.YtampacmmhhilaaaGreatZReaPR

import Derived.Test.YtampacmmhhilaaaGreatBq49R

set_option linter.all false
set_option maxHeartbeats 8000000
set_option maxRecDepth 100000
namespace Go.Proofs.YtampacmmhhilaaaGreat

open Go.RowKit

attribute [local go_sem ↓] Go.wp_at_zero Go.wp_at_succ

theorem evLast2 (l:List Ev) (e:Ev) (k:Nat):((l ++ [e]).flatMap fun e=> e.cells.toList)[l.length * 8 + k]?=e.cells.toList[k]?:=by
 have hl:(l.flatMap fun e=> e.cells.toList).length=l.length * 8:=by
  induction l with
  | nil=> rfl
  | cons a l ih=> rw [List.flatMap_cons,List.length_append,ih];show 8 + _=(l.length + 1) * 8;omega
 rw [List.flatMap_append,List.getElem?_append_right (by omega),hl,show l.length * 8 + k - l.length * 8=k by omega]
 simp
theorem rdz_open {w:World} {v:Value} {xs:List Int} {n:Nat} (h:RdZ .i64 w v xs) (hn:n=xs.length):∃ ao cap,v= .slice ao n cap/\n<=cap/\(cap:Int)<=9223372036854775807/\Hid (∀ j (hj:j < xs.length),∃ b off,ao=some ⟨b,off,.none⟩/\b < w.heap.size/\w.cell? ⟨b,off + j,.none⟩=some (.int .i64 xs[j])):=by
 subst hn
 obtain ⟨ao,cap,rfl,h5,h6,h7⟩:=h.cells
 refine ⟨ao,cap,rfl,h5,h6,hd' fun j hj=> ?_⟩
 obtain ⟨b,off,ha,hb,hc⟩:=h7 (fun e=> by rw [e] at hj;simp at hj)
 exact ⟨b,off,ha,hb,hc j hj⟩
theorem ready22_any (s:Sh) (xs:List Ch) (v:Value) (W:World) (hr:RdS W 6 v xs.length (xs.flatMap Ch.cells)):
  Calls Tryz.prog 7 #[.agg #[.int .i64 s.p,.int .i64 s.c,.int .i64 s.m],v] W fun e w'=> e= .returned (.bool true)/\Below W.heap.size W w':=by
 obtain ⟨ao,cap,rfl,hcap,hcm,hl,hrow⟩:=id hr
 obtain ⟨n,hn,hn'⟩:=hidv xs.length
 rw [<- hn'] at hcap hrow hl ⊢
 clear hn' hr
 have haw:=fun Y=> zn0 Y
 have hro:∀ Y,Calls Tryz.prog 16 #[.slice ao n cap,.int .i64 1000] Y fun e w'=> e= .returned (.bool (decide (n<=1000)))/\w'=Y:=fun Y=> zzm ao n cap 1000 (by omega) Y
 have hnil1:∀ (p:Nat) (W:World),(binOp .eql 27 (.pointer (some ⟨p,0,.none⟩)) (.pointer none)).run Tryz.prog W= .ok (.bool false) W:=fun p W=> by kernel_rfl
 have hnil0:∀ (W:World),(binOp .eql 27 (.pointer none) (.pointer none)).run Tryz.prog W= .ok (.bool true) W:=fun W=> by kernel_rfl
 have hnk:∀ (p:Nat) (W:World),(binOp .eql 36 (.pointer (some ⟨p,0,.none⟩)) (.pointer none)).run Tryz.prog W= .ok (.bool false) W:=fun p W=> by kernel_rfl
 have hnk1:∀ (p:Nat) (W:World),(binOp .neq 36 (.pointer (some ⟨p,0,.none⟩)) (.pointer none)).run Tryz.prog W= .ok (.bool true) W:=fun p W=> by kernel_rfl
 have hnk0:∀ (W:World),(binOp .neq 36 (.pointer none) (.pointer none)).run Tryz.prog W= .ok (.bool false) W:=fun W=> by kernel_rfl
 have hb0:=(Below.refl W.heap.size W).alloc lr (.cells #[.int .i64 s.p,.int .i64 s.c,.int .i64 s.m] 23)
 have t0:zaa (W.alloc (.cells #[.int .i64 s.p,.int .i64 s.c,.int .i64 s.m] 23)) W.heap.size #[.int .i64 s.p,.int .i64 s.c,.int .i64 s.m] 23:=heap_alloc_new _ _
 replace haw:=hd' haw
 replace hrow:=hd' hrow
 replace hl:=hd' hl
 by_cases hlen:¬ n<=1000
 ·rw [decide_eq_false hlen] at hro
  replace hro:=hd' hro
  clear hlen
  go_enter Tryz.func7,Tryz.ntmps7
  go_wp2_with (first
   | (go_at_call 27;(with_reducible refine (haw.out _).mono ?_);rintro r w1 ⟨rfl,hb1⟩)
   | (go_at_call 16;(with_reducible refine (hro.out _).mono ?_);rintro r w2 ⟨rfl,hw2⟩;obtain rfl:=hw2.symm)
   | fail)
  go_returns
  exact ⟨rfl,zab hb0 hb1⟩
 replace hlen:=Decidable.not_not.1 hlen
 rw [decide_eq_true hlen] at hro
 replace hro:=hd' hro
 by_cases hm:¬ mayB s.p s.c s.m=true
 ·have hbg:=fun Y=> yfo s Y hm
  replace hbg:=hd' hbg
  clear hm
  go_enter Tryz.func7,Tryz.ntmps7
  go_upto_region 5 with (first
   | (go_at_call 27;(with_reducible refine (haw.out _).mono ?_);rintro r w1 ⟨rfl,hb1⟩)
   | (go_at_call 16;(with_reducible refine (hro.out _).mono ?_);rintro r w2 ⟨rfl,hw2⟩;obtain rfl:=hw2.symm)
   | fail)
  have t1:=t0.below hb1
  obtain ⟨c0,c1,c2⟩:=ci3 s.p s.c s.m t1.cell
  have hb01:=zab hb0 hb1
  clear t0 t1 hb0 hb1
  go_wp2_with (first
   | (go_at_call 17;(with_reducible refine (hbg.out _).mono ?_);rintro r w3 ⟨hb3,rfl⟩)
   | fail)
  go_returns
  exact ⟨rfl,zab hb01 hb3⟩
 replace hm:=Decidable.not_not.1 hm
 have hbg:=fun Y=> znk s Y hm
 have hok:=fun i (hi:i<=n)=> ycf hm xs i (hn.out ▸ hi)
 have hWI:∀ i,∃ σ,WI s σ ((zde s).acts s (xs.take i)):=fun i=> wi_all hm _
 replace hbg:=hd' hbg
 replace hok:=hd' hok
 replace hWI:=hd' hWI
 go_enter Tryz.func7,Tryz.ntmps7
 go_upto_region 5 with (first
  | (go_at_call 27;(with_reducible refine (haw.out _).mono ?_);rintro r w1 ⟨rfl,hb1⟩)
  | (go_at_call 16;(with_reducible refine (hro.out _).mono ?_);rintro r w2 ⟨rfl,hw2⟩;obtain rfl:=hw2.symm)
  | fail)
 have t1:=t0.below hb1
 have hb01:=zab hb0 hb1
 obtain ⟨H,hH,hH'⟩:=hidv W.heap.size
 rw [<- hH'] at t1 hb01 ⊢
 replace hrow:=hd' (fun h=> (hrow.out h:_))
 have hbH:∀ b,b < W.heap.size->b < H:=fun b h=> by omega
 replace hbH:=hd' hbH
 have lH:=t1.lt
 clear hH' t0 hb0 hb1
 obtain ⟨c0,c1,c2⟩:=ci3 s.p s.c s.m t1.cell
 go_upto_region 8 with (first
  | (go_at_call 17;(with_reducible refine (hbg.out _).mono ?_);rintro r w3 ⟨hb3,g,vv,x0,rfl,hx3⟩)
  | fail)
 have s3:=hb3.size
 have hx4:WdP H (fun i=> w1.heap.size<=i/\i < w3.heap.size) w3 g s (zde s) x0:=hx3.lower (by omega)
 have hb4W:Below H W w3:=hb01.trans (hb3.mono (by omega))
 clear hb3 hx3 t1 c0 c1 c2 lH hb01
 go_wp2
 go_loopw [7] (fun v7 wr=> ∃ (i:Nat) (F:Nat->Prop) (x:Wx),i<=n/\v7= .int .i64 i/\WdP H F wr g s ((zde s).acts s (xs.take i)) x/\Below H W wr) (fun v7 _=> n - (intOf v7).toNat)
 case atStart=> exact ⟨0,_,x0,Nat.zero_le _,rfl,hx4,hb4W⟩
 case round=>
  clear hx4 hb4W
  obtain ⟨i,F,x,hin,rfl,hx,hbr⟩:=hrel
  have hoki:=hok.out i hin
  by_cases hi:i < n
  ·have hii:(i:Int) < (n:Int):=by omega
   have hi0:(0:Int)<=(i:Int):=by omega
   have wi1:IntKind.i64.wrap ((i:Int) + 1)=(i:Int) + 1:=IntWalk.i64_in _ ⟨by omega,by omega⟩
   have hil:i < xs.length:=hn.out ▸ hi
   have hat:=zm0 (s:=s) (d:=zde s) hil
   obtain ⟨σ',hWI1⟩:=hWI.out (i + 1)
   rw [hat] at hWI1
   obtain ⟨gb,gof,rfl,hgb,hcell⟩:=hrow.out (by omega)
   have hgbH:=hbH.out _ hgb
   have hcg:=fun k hk=> yan xs i hil k hk
   generalize (zde s).acts s (xs.take i)=d at *
   generalize hc:xs[i]=c at *
   have hla:=yg9 hoki c
   have hok1:=zeo hoki c
   obtain ⟨ck,cc,co,ca,cn,cb⟩:=c
   have hy:∀ X,Below H W X->X.cell? ⟨gb,gof + i * 6,.none⟩=some (.int .i64 ck)/\X.cell? ⟨gb,gof + i * 6 + 1,.none⟩=some (.int .i64 cc)/\X.cell? ⟨gb,gof + i * 6 + 2,.none⟩=some (.int .i64 co)/\X.cell? ⟨gb,gof + i * 6 + 3,.none⟩=some (.int .i64 ca)/\X.cell? ⟨gb,gof + i * 6 + 4,.none⟩=some (.int .i64 cn)/\X.cell? ⟨gb,gof + i * 6 + 5,.none⟩=some (.float .f64 cb)/\gb < X.heap.size:=fun X hb=> by
    have hk:∀ o,X.cell? ⟨gb,o,.none⟩=W.cell? ⟨gb,o,.none⟩:=fun o=> hb.cell (p:=⟨gb,o,.none⟩) hgbH
    have hq:∀ k,k < 6->X.cell? ⟨gb,gof + i * 6 + k,.none⟩=(Ch.cells ⟨ck,cc,co,ca,cn,cb⟩)[k]?:=fun k hk6=> by
     rw [hk,Nat.add_assoc,hcell _ (by omega)]
     exact hcg k hk6
    exact ⟨hq 0 (by omega),hq 1 (by omega),hq 2 (by omega),hq 3 (by omega),hq 4 (by omega),hq 5 (by omega),by have:=hb.size;omega⟩
   have htl:∀ F (d:Wd) x X,WdP H F X g s d x->d.tr.length<=100000000->Calls Tryz.prog 26 #[.pointer (some ⟨g,0,.none⟩)] X fun e w'=> Below X.heap.size X w'/\∃ ao cap,e= .returned (.slice ao d.tr.length cap)/\d.tr.length<=cap/\(cap:Int)<=9223372036854775807/\RdS w' 8 (.slice ao d.tr.length cap) d.tr.length (d.tr.flatMap fun e=> e.cells.toList):=fun F d x X hx hl=> by
    refine (zko hx hl).mono fun e w' ⟨v,h1,h2,h3⟩=> ⟨h2,?_⟩
    have h4:=RdS.zew h3
    obtain ⟨ao,cap,rfl,hc,hm,_⟩:=id h4
    exact ⟨ao,cap,h1,hc,hm,h4⟩
   have hdo:∀ X,WdP H F X g s d x->H<=X.heap.size->Calls Tryz.prog 25 #[.pointer (some ⟨g,0,.none⟩),.agg #[.int .i64 ck,.int .i64 cc,.int .i64 co,.int .i64 ca,.int .i64 cn,.float .f64 cb]] X fun e w'=> e= .returned (.int .i64 (d.act s ⟨ck,cc,co,ca,cn,cb⟩).2)/\WdTo H F X w' g s (d.act s ⟨ck,cc,co,ca,cn,cb⟩).1:=fun X hx hB=> zkm hx hB hoki (by omega) _
   have hch:∀ X,Calls Tryz.prog 29 #[.agg #[.int .i64 ck,.int .i64 cc,.int .i64 co,.int .i64 ca,.int .i64 cn,.float .f64 cb]] X fun e w'=> e= .returned (.agg #[.int .i64 ck,.int .i64 cc,.int .i64 co,.int .i64 ca,.int .i64 cn,.float .f64 cb])/\Below X.heap.size X w':=fun X=> znm ⟨ck,cc,co,ca,cn,cb⟩ X
   have hfin:∀ X F' x',WdP H F' X g s (d.act s ⟨ck,cc,co,ca,cn,cb⟩).1 x'->Below H W X->∃ (i':Nat) (F:Nat->Prop) (x:Wx),i'<=n/\Value.int .i64 ((i:Int) + 1)= .int .i64 i'/\WdP H F X g s ((zde s).acts s (xs.take i')) x/\Below H W X:=fun X F' x' h1 h2=> ⟨i + 1,F',x',by omega,by go_num,by rw [hat];exact h1,h2⟩
   have hxlt:=hx.lt
   have htrl:=hoki.tr
   have htrl1:=hok1.tr
   obtain ⟨n0,hn0,hn0'⟩:=hidv d.tr.length
   have hn0b:n0<=5000:=by omega
   have htA:=htl F d x
   rw [<- hn0'] at htA
   replace htA:=hd' htA
   have htB:=hd' htl
   replace hy:=hd' hy
   replace hdo:=hd' hdo
   replace hch:=hd' hch
   replace hfin:=hd' hfin
   replace hxlt:=hd' hxlt
   generalize (d.act s ⟨ck,cc,co,ca,cn,cb⟩).1=d' at *
   generalize (d.act s ⟨ck,cc,co,ca,cn,cb⟩).2=er at *
   have hHr:H<=wr.heap.size:=by have:=(hx.lt _ hx.fg.1);omega
   clear htl hcell hcg hc hat hoki hn0'
   replace hcap:=hd' hcap
   replace hcm:=hd' hcm
   go_upto_region 12 with (first
    | (go_at_call 26;(with_reducible refine (htA.out _ hx (by omega)).mono ?_);rintro r w5 ⟨hb5,ao5,cap5,rfl,hc5,hc6,hr5⟩;have hs5:=hb5.size)
    | fail)
   have hbr5:=hbr.trans (hb5.mono hHr)
   obtain ⟨z0,z1,z2,z3,z4,z5,zl⟩:=hy.out _ hbr5
   have hH5:H<=w5.heap.size:=by omega
   have hx5:=hx.below hb5
   clear hr5 hc5 hc6 hbr hx
   go_upto_region 13 with (first
    | (go_at_call 29;(with_reducible refine (hch.out _).mono ?_);rintro r w6 ⟨rfl,hb6⟩;have hx6:=hx5.below hb6;have hs6:=hb6.size;have hH6:H<=w6.heap.size:=(by omega))
    | (go_at_call 25;(with_reducible refine (hdo.out _ hx6 hH6).mono ?_);rintro r w7 ⟨rfl,⟨x7,hx7⟩,ho7,hH7⟩)
    | fail)
   have hbr7:Below H W w7:=(hbr5.trans (hb6.mono hH5)).trans (ho7.below hH6 (fun j hj=> (hxlt.out j hj).1))
   clear z0 z1 z2 z3 z4 z5 zl hx5 hx6 hb6 hbr5 hs6 hH6 hs5 hb5 hH5 ho7 hdo hch htA
   have hll:d'.l.length<=100:=by rw [hok1.len];have:=hok1.fi.bd;omega
   have hwf:=yg4 d'
   have hwl:=fun j hj=> yg8 d' j hj
   have hst1:=fun c k hk=> yg7 hWI1 hok1 (c:=c) (k:=k) hk
   have hsta:∀ F x X c,WdP H F X g s d' x->Calls Tryz.prog 31 #[.pointer (some ⟨g,0,.none⟩),.int .i64 c] X fun e w'=> e= .returned (.int .i64 (zrl s d' c))/\Below X.heap.size X w':=fun F x X c hx=> zmv hx hok1.fi hok1.fit c
   have hlv:∀ F x X,WdP H F X g s d' x->Calls Tryz.prog 43 #[.pointer (some ⟨g,0,.none⟩)] X fun e w'=> Below X.heap.size X w'/\∃ v,e= .returned v/\RdZ .i64 w' v (whoL (fun _=> true) d'.l d'.l.length):=fun F x X hx=> (ydq hx hll).mono fun e w' ⟨v,h1,h2,h3⟩=> ⟨h2,v,h1,RdS.zew h3⟩
   have hrv:∀ F x X,WdP H F X g s d' x->Calls Tryz.prog 20 #[.pointer (some ⟨g,0,.none⟩)] X fun e w'=> Below X.heap.size X w'/\∃ v,e= .returned v/\RdZ .i64 w' v ((whoL (fun _=> true) d'.l d'.l.length).filter (rdyQ d')):=fun F x X hx=> (ycy hx hll).mono fun e w' ⟨v,h1,h2,h3⟩=> ⟨h2,v,h1,by rw [<- hwf];exact RdS.zew h3⟩
   obtain ⟨L,hL,hL'⟩:∃ L,Hid (L=whoL (fun _=> true) d'.l d'.l.length)/\L=whoL (fun _=> true) d'.l d'.l.length:=⟨_,hd' rfl,rfl⟩
   rw [<- hL'] at hlv hrv hwl
   have hft:=fun j hj=> yg3 L (rdyQ d') j hj
   clear hL' hwf
   replace hlv:=hd' hlv
   replace hrv:=hd' hrv
   replace hwl:=hd' hwl
   replace hst1:=hd' hst1
   replace hsta:=hd' hsta
   replace hft:=hd' hft
   have htC:Calls Tryz.prog 26 #[.pointer (some ⟨g,0,.none⟩)] w7 fun r w'=> Below w7.heap.size w7 w'/\∃ ao nT cap,r= .returned (.slice ao nT cap)/\nT<=10000/\Hid (nT=n0\/∃ m b off ec ek,nT=m + 1/\n0<=m/\ao=some ⟨b,off,.none⟩/\b < w'.heap.size/\w'.cell? ⟨b,off + m * 8,.none⟩=some (.int .i64 ek)/\w'.cell? ⟨b,off + m * 8 + 1,.none⟩=some (.int .i64 ec)/\0<=ec/\ec.toNat < d'.l.length/\(ek=5->∀ k,d'.kl ec=some k->k.job=none)):=by
    refine (htB.out _ d' x7 w7 hx7 (by omega)).mono fun r w' ⟨h1,ao,cap,h2,h3,h4,h5⟩=> ⟨h1,ao,d'.tr.length,cap,h2,by omega,?_⟩
    rcases hla with hsame | ⟨l,e,hle,hl1,hec0,hec1,hed⟩
    ·exact hd' (.inl (by rw [hsame,hn0.out]))
    ·have hlen:d'.tr.length=l.length + 1:=by rw [hle];simp
     obtain ⟨ao2,cap2,hv,_,_,_,hr⟩:=h5
     obtain ⟨b,off,ha,hb,hc⟩:=hr (by omega)
     injection hv with hv1 hv2 hv3
     refine hd' (.inr ⟨l.length,b,off,e.c,e.k,hlen,by rw [hn0.out];exact hl1,by rw [hv1];exact ha,hb,?_,?_,hec0,by rw [hok1.len];omega,hed⟩)
     ·refine (hc (l.length * 8) (by omega)).trans ?_
      rw [hle]
      exact evLast2 l e 0
     ·rw [Nat.add_assoc]
      refine (hc (l.length * 8 + 1) (by omega)).trans ?_
      rw [hle]
      exact evLast2 l e 1
   replace htC:=hd' htC
   clear htB hla
   have hcl7:=fun Y (hY:Below w7.heap.size w7 Y) c hc=> zva (hx7.below hY) c hc hll
   have hid7:=fun Y (hY:Below w7.heap.size w7 Y) (c:Nat) k hk=> zyp ((hx7.below hY).cl c k hk)
   have hsta7:=fun Y (hY:Below w7.heap.size w7 Y) c=> hsta.out _ x7 Y c (hx7.below hY)
   have hfin7:=fun Y (hY:Below w7.heap.size w7 Y)=> hfin.out Y _ x7 (hx7.below hY) (hbr7.trans (hY.mono hH7))
   obtain ⟨nL,hnL,hnL'⟩:=hidv L.length
   obtain ⟨nR,hnR,hnR'⟩:∃ nR,Hid (nR=(L.filter (rdyQ d')).length)/\nR=(L.filter (rdyQ d')).length:=⟨_,hd' rfl,rfl⟩
   have hlv7:=fun Y (hY:Below w7.heap.size w7 Y)=> (hlv.out _ x7 Y (hx7.below hY)).mono fun r w' (h:Below Y.heap.size Y w'/\∃ v,r= .returned v/\RdZ .i64 w' v L)=> (⟨h.1,let ⟨_,v,h1,h2⟩:=h;let ⟨ao,cap,e,h3⟩:=rdz_open h2 hnL';⟨ao,cap,by rw [h1,e],h3⟩⟩:Below Y.heap.size Y w'/\∃ ao cap,r= .returned (.slice ao nL cap)/\nL<=cap/\(cap:Int)<=9223372036854775807/\Hid (∀ j (hj:j < L.length),∃ b off,ao=some ⟨b,off,.none⟩/\b < w'.heap.size/\w'.cell? ⟨b,off + j,.none⟩=some (.int .i64 L[j])))
   have hrv7:=fun Y (hY:Below w7.heap.size w7 Y)=> (hrv.out _ x7 Y (hx7.below hY)).mono fun r w' (h:Below Y.heap.size Y w'/\∃ v,r= .returned v/\RdZ .i64 w' v (L.filter (rdyQ d')))=> (⟨h.1,let ⟨_,v,h1,h2⟩:=h;let ⟨ao,cap,e,h3⟩:=rdz_open h2 hnR';⟨ao,cap,by rw [h1,e],h3⟩⟩:Below Y.heap.size Y w'/\∃ ao cap,r= .returned (.slice ao nR cap)/\nR<=cap/\(cap:Int)<=9223372036854775807/\Hid (∀ j (hj:j < (L.filter (rdyQ d')).length),∃ b off,ao=some ⟨b,off,.none⟩/\b < w'.heap.size/\w'.cell? ⟨b,off + j,.none⟩=some (.int .i64 (L.filter (rdyQ d'))[j])))
   have hnL2:nL<=100:=by rw [hnL',hL.out];have:=zwg (fun _=> true) d'.l d'.l.length;omega
   have hnR2:nR<=100:=by rw [hnR'];have:=List.length_filter_le (rdyQ d') L;omega
   clear hnL' hnR'
   have hkl7:∀ (c:Int) k,0<=c->d'.kl c=some k->d'.l.getD c.toNat none=some k:=fun c k h0 h=> by
    unfold Wd.kl at h
    rw [if_pos h0] at h;exact h
   replace hcl7:=hd' hcl7
   replace hid7:=hd' hid7
   replace hsta7:=hd' hsta7
   replace hfin7:=hd' hfin7
   replace hlv7:=hd' hlv7
   replace hrv7:=hd' hrv7
   replace hkl7:=hd' hkl7
   replace hx7:=hd' hx7
   go_upto_region 14 with (first
    | (go_at_call 26;(with_reducible refine htC.out.mono ?_);rintro r w8 ⟨hb8,aT,nT,cT,rfl,hnT,hTd⟩)
    | fail)
   by_cases hcont:(i:Int) % 3≠0/\nT=n0
   ·have h3:=hcont.1
    have b3:((i:Int) % 3==0)=false:=by rw [beq_eq_false_iff_ne];exact h3
    have h4:=hcont.2
    subst h4
    go_wp2_with fail
    exact ⟨hfin7.out _ hb8,by simp only [intOf];omega⟩
   ·have hgo:(i:Int) % 3=0\/((i:Int) % 3≠0/\nT≠n0):=by omega
    have hnn:nT≠n0\/nT=n0:=by omega
    rcases hgo with h3 | ⟨h3,h4⟩
    all_goals
     first
      | (have b3:((i:Int) % 3==0)=true:=by rw [beq_iff_eq];exact h3)
      | (have b3:((i:Int) % 3==0)=false:=by rw [beq_eq_false_iff_ne];exact h3)
     try (have b4:((nT:Int)==(n0:Int))=false:=by rw [beq_eq_false_iff_ne];omega)
     replace hcont:=hd' hcont
     replace hnn:=hd' hnn
     go_upto_region 15 with fail
     go_upto_region 16 with (first
      | (go_at_call 43;(with_reducible refine (hlv7.out _ hb8).mono ?_);rintro r w9 ⟨hb9,aL,cL,rfl,hcL,hmL,hLc⟩;have hb79:=zab hb8 hb9)
      | (go_at_call 20;(with_reducible refine (hrv7.out _ hb79).mono ?_);rintro r w10 ⟨hb10,aR,cR,rfl,hcR,hmR,hRc⟩;have hb710:=zab hb79 hb10)
      | fail)
     obtain ⟨V,hV⟩:∃ V,V=wr:=⟨_,rfl⟩
     subst hV
     obtain ⟨cnt,hcnt,hcnt'⟩:∃ cnt:Nat->Nat,Hid (cnt=fun j=> ((L.take j).filter (rdyQ d')).length)/\cnt=fun j=> ((L.take j).filter (rdyQ d')).length:=⟨_,hd' rfl,rfl⟩
     have hcnt0:cnt 0=0:=by rw [hcnt'];simp
     have hcntE:cnt nL=nR:=by rw [hcnt',hnR.out,hnL.out];show ((L.take L.length).filter _).length=_;rw [List.take_length]
     have hcntS:∀ j (hj:j < L.length),cnt (j + 1)=cnt j + (if rdyQ d' L[j]=true then 1 else 0)/\(rdyQ d' L[j]=true->∃ hk:cnt j < (L.filter (rdyQ d')).length,(L.filter (rdyQ d'))[cnt j]=L[j]):=fun j hj=> by rw [hcnt'];exact hft.out j hj
     have hcntB:∀ j,j<=nL->cnt j<=100:=fun j hj=> by
      rw [hcnt']
      have h1:=List.length_filter_le (rdyQ d') (L.take j)
      rw [List.length_take] at h1
      show (List.filter _ _).length<=100
      omega
     replace hcntS:=hd' hcntS
     replace hcntB:=hd' hcntB
     clear hcnt' hcnt hb8 hb79 hnL2
     go_wp2
     go_loopw [12,13,14] (fun v12 v13 v14 wr=> ∃ j:Nat,j<=nL/\v13= .int .i64 j/\v12= .int .i64 (cnt j:Nat)/\Below w10.heap.size w10 wr) (fun _ v13 _ _=> nL - (intOf v13).toNat)
     case atStart=> exact ⟨0,Nat.zero_le _,rfl,by rw [hcnt0];rfl,Below.refl _ _⟩
     case round=>
      obtain ⟨j,hjL,rfl,rfl,hbx⟩:=hrel
      have hj0:(0:Int)<=(j:Int):=by omega
      have h7r:=zab hb710 hbx
      by_cases hj:j < nL
      ·have hjj:(j:Int) < (nL:Int):=by omega
       have wj1:IntKind.i64.wrap ((j:Int) + 1)=(j:Int) + 1:=IntWalk.i64_in _ ⟨by omega,by omega⟩
       have hjl:j < L.length:=by rw [<- hnL.out];exact hj
       obtain ⟨k,hk,hz0,hzl⟩:=hwl.out j hjl
       obtain ⟨hS1,hS2⟩:=hcntS.out j hjl
       have hcb:=hcntB.out j hjL
       obtain ⟨bL,oL,rfl,hbL,hzL⟩:=hLc.out j hjl
       have zc:=zai hbx _ _ _ (zai hb10 _ _ _ hzL)
       have lbL:=zqe zc
       have hRr:=fun (h:rdyQ d' L[j]=true)=> (show ∃ bR oR,aR=some ⟨bR,oR,.none⟩/\cnt j < nR/\wr.cell? ⟨bR,oR + cnt j,.none⟩=some (.int .i64 L[j]) from by
        obtain ⟨hk1,hk2⟩:=hS2 h
        obtain ⟨b,o,h1,h2,h3⟩:=hRc.out (cnt j) hk1
        exact ⟨b,o,h1,by rw [hnR.out];exact hk1,by rw [<- hk2];exact zai hbx _ _ _ h3⟩)
       have hQ:rdyQ d' L[j]= !k.rests:=by unfold rdyQ;rw [hk]
       have hcl8:=hcl7.out wr h7r L[j] ⟨hz0,hzl⟩
       rw [hk] at hcl8
       dsimp only [ptrK] at hcl8
       have hst8:=fun Y (hY:Below wr.heap.size wr Y)=> hsta7.out Y (zab h7r hY) L[j]
       rw [hst1.out _ k hk] at hst8
       have hid8:=fun Y (hY:Below wr.heap.size wr Y)=> hid7.out Y (zab h7r hY) L[j].toNat k (hkl7.out _ k hz0 hk)
       rw [hQ] at hRr hS1
       generalize L[j]=cz at *
       generalize k.rests=kr at *
       generalize hcj:cnt j=cj at *
       have hcj0:(0:Int)<=(cj:Int):=by omega
       have wc1:IntKind.i64.wrap ((cj:Int) + 1)=(cj:Int) + 1:=IntWalk.i64_in _ ⟨by omega,by omega⟩
       have hnxt:∀ Y:World,Below wr.heap.size wr Y->∀ q:Nat,(q:Int)=(if (!kr)=true then (cj:Int) + 1 else (cj:Int))->∃ j':Nat,j'<=nL/\Value.int .i64 ((j:Int) + 1)= .int .i64 j'/\Value.int .i64 (q:Int)= .int .i64 (cnt j':Nat)/\Below w10.heap.size w10 Y:=fun Y hY q hq=> ⟨j + 1,by omega,by go_num,by
        rw [hS1];congr 1;cases kr <;> simp at hq ⊢ <;> omega,hbx.trans (hY.mono hbx.size)⟩
       replace hcl8:=hd' hcl8
       replace hst8:=hd' hst8
       replace hid8:=hd' hid8
       replace hRr:=hd' hRr
       replace hnxt:=hd' hnxt
       replace hcj:=hd' hcj
       clear hS1 hS2 hQ hzL hbL hk hz0 hzl
       go_upto_region 23 with (first
        | (go_at_call 21;(with_reducible refine hcl8.out.mono ?_);rintro r y1 ⟨rfl,hy1⟩;have zc1:=zai hy1 _ _ _ zc;have lb1:=zqe zc1)
        | (go_at_call 31;(with_reducible refine (hst8.out _ hy1).mono ?_);rintro r y2 ⟨rfl,hy2⟩;have zc2:=zai hy2 _ _ _ zc1;have hy12:=zab hy1 hy2)
        | fail)
       have hy12r:=hy12
       go_upto_region 23 with fail
       cases kr with
       | true=>
        go_wp2_with (first
         | (go_at_call 22;(with_reducible refine (hid8.out _ hy12).mono ?_);rintro r y3 ⟨rfl,hy3⟩;obtain rfl:=hy3.symm)
         | fail)
        exact ⟨hnxt.out _ hy12r cj (by simp),by simp only [intOf];omega⟩
       | false=>
        obtain ⟨bR,oR,rfl,hcjR,zR⟩:=hRr.out rfl
        have hcjR2:(cj:Int) < (nR:Int):=by omega
        have hcjR3:¬ (nR:Int)<=(cj:Int):=by omega
        have zR2:=zai hy12 _ _ _ zR
        have lR2:=zqe zR2
        have lL2:=zqe zc2
        clear zR
        go_upto_region 24 with (first
         | (go_at_call 22;(with_reducible refine (hid8.out _ hy12).mono ?_);rintro r y3 ⟨rfl,hy3⟩;obtain rfl:=hy3.symm)
         | fail)
        go_quiet (fail)
        have hy13:=hy12.trans ((below_drewN br nq).mono hy12.size)
        go_wp2_with fail
        exact ⟨hnxt.out _ hy13 (cj + 1) (by simp),by simp only [intOf];omega⟩
      ·obtain rfl:j=nL:=by omega
       have hnoj:¬ (j:Int) < (j:Int):=by omega
       rw [hcntE]
       clear hcntE hcntS hcntB
       rcases hTd.out with hT | ⟨m,bT,oT,ec,ek,hTm,hmn,rfl,hbT,zk0,zc0,hec0,hecl,hed⟩
       ·subst hT
        have hnoT:¬ (nT:Int) < (nT:Int):=by omega
        go_wp2_with fail
        exact ⟨hfin7.out _ h7r,by simp only [intOf];omega⟩
       ·subst hTm
        have b5:(n0:Int) < (m:Int) + 1:=by omega
        have zk:=zai hbx _ _ _ (zai hb10 _ _ _ (zai hb9 _ _ _ zk0))
        have zc:=zai hbx _ _ _ (zai hb10 _ _ _ (zai hb9 _ _ _ zc0))
        have lT:=zqe zk
        have wm:IntKind.i64.wrap (m:Int)=(m:Int):=IntWalk.i64_in _ ⟨by omega,by omega⟩
        have wm1:IntKind.i64.wrap ((m:Int) + 1 - 1)=(m:Int):=IntWalk.i64_in _ ⟨by omega,by omega⟩ |>.trans (by omega)
        have im0:(0:Int)<=(m:Int):=by omega
        have im1:(m:Int) < (m:Int) + 1:=by omega
        have hcl8:=fun Y (hY:Below wr.heap.size wr Y)=> hcl7.out Y (zab h7r hY) ec ⟨hec0,hecl⟩
        clear zk0 zc0 hbT
        by_cases he5:ek=5
        ·subst he5
         cases hke:d'.kl ec with
         | none=>
          rw [hke] at hcl8
          dsimp only [ptrK] at hcl8
          replace hcl8:=hd' hcl8
          go_wp2_with (first
           | (go_at_call 21;(with_reducible refine (hcl8.out _ br).mono ?_);rintro r y1 ⟨rfl,hy1⟩)
           | fail)
          exact ⟨hfin7.out _ (zab h7r hy1),by simp only [intOf];omega⟩
         | some k=>
          rw [hke] at hcl8
          dsimp only [ptrK] at hcl8
          have hkr:k.rests=true:=by unfold Kl.rests;rw [hed rfl k hke];rfl
          have hid8:=fun Y (hY:Below wr.heap.size wr Y)=> hid7.out Y (zab h7r hY) ec.toNat k (hkl7.out _ k hec0 hke)
          rw [hkr] at hid8
          replace hcl8:=hd' hcl8
          replace hid8:=hd' hid8
          clear hke hed hkr
          go_wp2_with (first
           | (go_at_call 21;(with_reducible refine (hcl8.out _ br).mono ?_);rintro r y1 ⟨rfl,hy1⟩;have zc1:=zai hy1 _ _ _ zc;have lT1:=zqe zc1)
           | (go_at_call 21;(with_reducible refine (hcl8.out _ hy1).mono ?_);rintro r y2 ⟨rfl,hy2⟩;have hy12:=zab hy1 hy2)
           | (go_at_call 22;(with_reducible refine (hid8.out _ hy12).mono ?_);rintro r y3 ⟨rfl,hy3⟩;obtain rfl:=hy3.symm)
           | fail)
          exact ⟨hfin7.out _ (zab h7r hy12),by simp only [intOf];omega⟩
        ·have be5:(ek==5)=false:=by rw [beq_eq_false_iff_ne];exact he5
         go_wp2_with fail
         exact ⟨hfin7.out _ h7r,by simp only [intOf];omega⟩
  ·obtain rfl:i=n:=by omega
   have hno:¬ (i:Int) < (i:Int):=by omega
   go_wp2_with fail
   go_returns
   exact ⟨rfl,by rw [<- hH.out];exact hbr⟩
end Go.Proofs.YtampacmmhhilaaaGreat
