/- One that was killed does nothing any more: the walk of the law. -/
import Derived.Test.YtampacmmhhilaaaGreatBq44

import Derived.Test.YtampacmmhhilaaaGreatBq49

set_option linter.all false
set_option maxHeartbeats 8000000
set_option maxRecDepth 100000
namespace Go.Proofs.YtampacmmhhilaaaGreat

open Go.RowKit

attribute [local go_sem ↓] Go.wp_at_zero Go.wp_at_succ

structure Since (s:Sh) (c:Int) (d d':Wd):Prop where
 gone:Gone s d' c
 tr:∃ es,d'.tr=d.tr ++ es/\∀ e ∈ es,e.c≠c
 lg:∃ l,d'.lg=d.lg ++ l/\∀ a ∈ l,a.c≠c
theorem Since.act {s:Sh} {c:Int} {d d':Wd} {n:Nat} (h:Since s c d d') (hd:wdOk s d' n) (hc:0<=c/\c < s.c) (x:Ch):Since s c d (d'.act s x).1/\(x.client=c->(d'.act s x).2≠0):=by
 obtain ⟨h1,h2⟩:=z7i h.gone hd hc x
 obtain ⟨es,e1,e2⟩:=h.tr
 obtain ⟨l,l1,l2⟩:=h.lg
 obtain ⟨es',e3,e4⟩:=h1.tr
 obtain ⟨l',l3,l4⟩:=h1.lg
 exact ⟨⟨h1.gone,⟨es ++ es',by rw [e3,e1,List.append_assoc],fun e he=> (List.mem_append.1 he).elim (e2 e) (e4 e)⟩,⟨l ++ l',by rw [l3,l1,List.append_assoc],fun a ha=> (List.mem_append.1 ha).elim (l2 a) (l4 a)⟩⟩,h2⟩
theorem zrj {α:Type} {P:α->Prop} {a b l:List α} (h:b=a ++ l) (hl:∀ x ∈ l,P x) (k:Nat) (h1:a.length<=k) (h2:k < b.length):P b[k]:=by
 subst h
 rw [List.getElem_append_right h1]
 exact hl _ (List.getElem_mem _)
theorem yf6 (l:List Ev):∀ (j:Nat) (h:j < l.length),(l.flatMap fun e=> e.cells.toList)[j * 8 + 1]?=some (.int .i64 l[j].c):=by
 induction l with
 | nil=> intro j h;simp at h
 | cons a l ih=>
  intro j h
  rw [List.flatMap_cons]
  cases j with
  | zero=> rfl
  | succ j=>
   rw [List.getElem?_append_right (by show 8<=_;omega),show (j + 1) * 8 + 1 - a.cells.toList.length=j * 8 + 1 by show (j + 1) * 8 + 1 - 8=_;omega]
   exact ih j (by simpa using h)
theorem ydr (l:List Acc):∀ (j:Nat) (h:j < l.length),(l.flatMap fun e=> e.cells.toList)[j * 6]?=some (.int .i64 l[j].c):=by
 induction l with
 | nil=> intro j h;simp at h
 | cons a l ih=>
  intro j h
  rw [List.flatMap_cons]
  cases j with
  | zero=> rfl
  | succ j=>
   rw [List.getElem?_append_right (by show 6<=_;omega),show (j + 1) * 6 - a.cells.toList.length=j * 6 by show (j + 1) * 6 - 6=_;omega]
   exact ih j (by simpa using h)
theorem zu7 (s:Sh) (xs:List Ch) (v:Value) (who:Int) (hwho:0<=who/\who < 256) (W:World) (hr:RdS W 6 v xs.length (xs.flatMap Ch.cells)):
  Calls Tryz.prog 4 #[.agg #[.int .i64 s.p,.int .i64 s.c,.int .i64 s.m],v,.int .u8 who] W fun e w'=> e= .returned (.bool true)/\Below W.heap.size W w':=by
 obtain ⟨ao,cap,rfl,hcap,hcm,hl,hrow⟩:=id hr
 obtain ⟨n,hn,hn'⟩:=hidv xs.length
 rw [<- hn'] at hcap hrow hl ⊢
 clear hn' hr
 have haw:=fun Y=> zn0 Y
 have hro:∀ Y,Calls Tryz.prog 16 #[.slice ao n cap,.int .i64 1000] Y fun e w'=> e= .returned (.bool (decide (n<=1000)))/\w'=Y:=fun Y=> zzm ao n cap 1000 (by omega) Y
 have hmy:=fun Y=> refMay_any s.p s.c s.m Y
 have hnil1:∀ (p:Nat) (W:World),(binOp .eql 27 (.pointer (some ⟨p,0,.none⟩)) (.pointer none)).run Tryz.prog W= .ok (.bool false) W:=fun p W=> by kernel_rfl
 have hb0:=(Below.refl W.heap.size W).alloc lr (.cells #[.int .i64 s.p,.int .i64 s.c,.int .i64 s.m] 23)
 have t0:zaa (W.alloc (.cells #[.int .i64 s.p,.int .i64 s.c,.int .i64 s.m] 23)) W.heap.size #[.int .i64 s.p,.int .i64 s.c,.int .i64 s.m] 23:=heap_alloc_new _ _
 replace haw:=hd' haw
 replace hrow:=hd' hrow
 replace hl:=hd' hl
 by_cases hlen:¬ n<=1000
 ·rw [decide_eq_false hlen] at hro
  replace hro:=hd' hro
  clear hlen
  go_enter Tryz.func4,Tryz.ntmps4
  go_wp2_with (first
   | (go_at_call 27;(with_reducible refine (haw.out _).mono ?_);rintro r w1 ⟨rfl,hb1⟩)
   | (go_at_call 16;(with_reducible refine (hro.out _).mono ?_);rintro r w2 ⟨rfl,hw2⟩;obtain rfl:=hw2.symm)
   | fail)
  go_returns
  exact ⟨rfl,zab hb0 hb1⟩
 replace hlen:=Decidable.not_not.1 hlen
 rw [decide_eq_true hlen] at hro
 replace hro:=hd' hro
 have enter:True:=trivial
 by_cases hm:¬ mayB s.p s.c s.m=true
 ·have hm':mayB s.p s.c s.m=false:=by simpa using hm
  rw [hm'] at hmy
  replace hmy:=hd' hmy
  clear hm hm'
  go_enter Tryz.func4,Tryz.ntmps4
  go_upto_region 3 with (first
   | (go_at_call 27;(with_reducible refine (haw.out _).mono ?_);rintro r w1 ⟨rfl,hb1⟩)
   | fail)
  have t1:=t0.below hb1
  obtain ⟨c0,c1,c2⟩:=ci3 s.p s.c s.m t1.cell
  have hb01:=zab hb0 hb1
  clear t0 t1 hb0 hb1
  go_wp2_with (first
   | (go_at_call 16;(with_reducible refine (hro.out _).mono ?_);rintro r w2 ⟨rfl,hw2⟩;obtain rfl:=hw2.symm)
   | (go_at_call 28;(with_reducible refine (hmy.out _).mono ?_);rintro r w3 ⟨rfl,hw3⟩;obtain rfl:=hw3.symm)
   | fail)
  go_returns
  exact ⟨rfl,hb01.alloc hb01.size _⟩
 replace hm:=Decidable.not_not.1 hm
 rw [hm] at hmy
 replace hmy:=hd' hmy
 have hbg:=fun Y=> znk s Y hm
 have hbd:=zar.1 hm
 have hok:=fun i (hi:i<=n)=> ycf hm xs i (hn.out ▸ hi)
 have hWI:∀ i,∃ σ,WI s σ ((zde s).acts s (xs.take i)):=fun i=> ybt hm _
 replace hbg:=hd' hbg
 replace hok:=hd' hok
 replace hWI:=hd' hWI
 obtain ⟨c,hcd,hcd'⟩:∃ c,Hid (c=who % s.c)/\c=who % s.c:=⟨_,hd' rfl,rfl⟩
 have hc:0<=c/\c < s.c:=by
  rw [hcd']
  exact ⟨Int.emod_nonneg _ (by omega),Int.emod_lt_of_pos _ (by omega)⟩
 clear hcd'
 go_enter Tryz.func4,Tryz.ntmps4
 go_upto_region 3 with (first
  | (go_at_call 27;(with_reducible refine (haw.out _).mono ?_);rintro r w1 ⟨rfl,hb1⟩)
  | fail)
 have t1:=t0.below hb1
 have hb01:=zab hb0 hb1
 obtain ⟨H,hH,hH'⟩:=hidv W.heap.size
 rw [<- hH'] at t1 hb01 ⊢
 have hbH:∀ b,b < W.heap.size->b < H:=fun b h=> by omega
 replace hbH:=hd' hbH
 have lH:=t1.lt
 clear hH' t0 hb0 hb1
 obtain ⟨c0,c1,c2⟩:=ci3 s.p s.c s.m t1.cell
 go_upto_region 8 with (first
  | (go_at_call 16;(with_reducible refine (hro.out _).mono ?_);rintro r w2 ⟨rfl,hw2⟩;obtain rfl:=hw2.symm)
  | (go_at_call 28;(with_reducible refine (hmy.out _).mono ?_);rintro r w2 ⟨rfl,hw2⟩;obtain rfl:=hw2.symm)
  | (go_at_call 17;(with_reducible refine (hbg.out _).mono ?_);rintro r w3 ⟨hb3,g,vv,x0,rfl,hx3⟩)
  | fail)
 have ha:=(Below.refl w1.heap.size w1).alloc lr (.cells #[.int .i64 s.p,.int .i64 s.c,.int .i64 s.m] 23)
 have t3:=(t1.below ha).below hb3
 have hs1:=ha.size
 have hx4:WdP H _ w3 g s (zde s) x0:=hx3.lower (by omega)
 have hb3W:Below H W w3:=hb01.trans ((zab ha hb3).mono (by omega))
 have d1:=ci s.c (t3.cell 1)
 have lH3:=t3.lt
 clear hx3 hb3 ha t1 c0 c1 c2 lH hb01 hs1 hmy hbg
 have hcn0:¬ s.c=0:=by omega
 have hbc:(s.c==0)=false:=by rw [beq_eq_false_iff_ne];exact hcn0
 have hrem:Int.tmod who s.c=c:=by rw [hcd.out];exact Int.tmod_eq_emod_of_nonneg hwho.1
 have ww:IntKind.i64.wrap who=who:=IntWalk.i64_in _ ⟨by omega,by omega⟩
 have wc:IntKind.i64.wrap c=c:=IntWalk.i64_in _ ⟨by omega,by omega⟩
 obtain ⟨m2,hm2⟩:∃ m2,m2=n / 2:=⟨_,rfl⟩
 have hm2n:m2<=n:=by omega
 have hdv:Int.tdiv (n:Int) 2=(m2:Int):=by
  rw [Int.tdiv_eq_ediv_of_nonneg (by omega)];omega
 have wm:IntKind.i64.wrap (m2:Int)=(m2:Int):=IntWalk.i64_in _ ⟨by omega,by omega⟩
 replace hm2:=hd' hm2
 go_upto_region 9 with fail
 clear d1 lH3 hrem ww hbc hcn0 t3
 go_wp2
 go_loopw [10] (fun v10 wr=> ∃ (i:Nat) (F:Nat->Prop) (x:Wx),i<=m2/\v10= .int .i64 i/\WdP H F wr g s ((zde s).acts s (xs.take i)) x/\Below H W wr) (fun v10 _=> m2 - (intOf v10).toNat)
 case atStart=> exact ⟨0,_,x0,Nat.zero_le _,rfl,hx4,hb3W⟩
 case round=>
  clear hx4 hb3W
  obtain ⟨i,F,x,hin,rfl,hx,hbr⟩:=hrel
  have hoki:=hok.out i (by omega)
  have hi0:(0:Int)<=(i:Int):=by omega
  by_cases hi:i < m2
  ·have hii:(i:Int) < (n:Int):=by omega
   have hi2:(i:Int) < (m2:Int):=by omega
   have wi1:IntKind.i64.wrap ((i:Int) + 1)=(i:Int) + 1:=IntWalk.i64_in _ ⟨by omega,by omega⟩
   have hat:=zm0 (s:=s) (d:=zde s) (l:=xs) (i:=i) (hn.out ▸ (by omega))
   have hin':i < n:=by omega
   generalize (zde s).acts s (xs.take i)=d at *
   have hil:i < xs.length:=hn.out ▸ (by omega)
   obtain ⟨gb,gof,rfl,hgb,hcell⟩:=hrow.out (by omega)
   have hgbH:=hbH.out _ hgb
   have hcg:=fun k hk=> yan xs (i) hil k hk
   generalize hxc:xs[i]=xc at *
   obtain ⟨ck,cc,co,ca,cn,cb⟩:=xc
   have hy:∀ X,Below H W X->X.cell? ⟨gb,gof + (i) * 6,.none⟩=some (.int .i64 ck)/\X.cell? ⟨gb,gof + (i) * 6 + 1,.none⟩=some (.int .i64 cc)/\X.cell? ⟨gb,gof + (i) * 6 + 2,.none⟩=some (.int .i64 co)/\X.cell? ⟨gb,gof + (i) * 6 + 3,.none⟩=some (.int .i64 ca)/\X.cell? ⟨gb,gof + (i) * 6 + 4,.none⟩=some (.int .i64 cn)/\X.cell? ⟨gb,gof + (i) * 6 + 5,.none⟩=some (.float .f64 cb)/\gb < X.heap.size:=fun X hb=> by
    have hk:∀ o,X.cell? ⟨gb,o,.none⟩=W.cell? ⟨gb,o,.none⟩:=fun o=> hb.cell (p:=⟨gb,o,.none⟩) hgbH
    have hq:∀ k,k < 6->X.cell? ⟨gb,gof + (i) * 6 + k,.none⟩=(Ch.cells ⟨ck,cc,co,ca,cn,cb⟩)[k]?:=fun k hk6=> by
     rw [hk,Nat.add_assoc,hcell _ (by omega)]
     exact hcg k hk6
    exact ⟨hq 0 (by omega),hq 1 (by omega),hq 2 (by omega),hq 3 (by omega),hq 4 (by omega),hq 5 (by omega),by have:=hb.size;omega⟩
   have hch:∀ X,Calls Tryz.prog 29 #[.agg #[.int .i64 ck,.int .i64 cc,.int .i64 co,.int .i64 ca,.int .i64 cn,.float .f64 cb]] X fun e w'=> e= .returned (.agg #[.int .i64 ck,.int .i64 cc,.int .i64 co,.int .i64 ca,.int .i64 cn,.float .f64 cb])/\Below X.heap.size X w':=fun X=> znm ⟨ck,cc,co,ca,cn,cb⟩ X
   have hdo:∀ X,WdP H F X g s d x->H<=X.heap.size->Calls Tryz.prog 25 #[.pointer (some ⟨g,0,.none⟩),.agg #[.int .i64 ck,.int .i64 cc,.int .i64 co,.int .i64 ca,.int .i64 cn,.float .f64 cb]] X fun e w'=> e= .returned (.int .i64 (d.act s ⟨ck,cc,co,ca,cn,cb⟩).2)/\WdTo H F X w' g s (d.act s ⟨ck,cc,co,ca,cn,cb⟩).1:=fun X hx hB=> zkm hx hB hoki (by omega) _
   have hxlt:=hx.lt
   have hH5:H<=wr.heap.size:=by have:=(hx.lt _ hx.fg.1);omega
   obtain ⟨z0,z1,z2,z3,z4,z5,zl⟩:=hy _ hbr
   replace hy:=hd' hy
   replace hdo:=hd' hdo
   replace hch:=hd' hch
   replace hxlt:=hd' hxlt
   clear hcell hcg
   have hfin:∀ X F' x',WdP H F' X g s (d.act s ⟨ck,cc,co,ca,cn,cb⟩).1 x'->Below H W X->∃ (i':Nat) (F:Nat->Prop) (x:Wx),i'<=m2/\Value.int .i64 ((i:Int) + 1)= .int .i64 i'/\WdP H F X g s ((zde s).acts s (xs.take i')) x/\Below H W X:=fun X F' x' h1 h2=> ⟨i + 1,F',x',by omega,by go_num,by rw [hat];exact h1,h2⟩
   replace hfin:=hd' hfin
   clear hat hoki
   generalize (d.act s ⟨ck,cc,co,ca,cn,cb⟩).1=d' at *
   generalize (d.act s ⟨ck,cc,co,ca,cn,cb⟩).2=er at *
   go_wp2_with (first
    | (go_at_call 29;(with_reducible refine (hch.out _).mono ?_);rintro r w6 ⟨rfl,hb6⟩;have hx6:=hx.below hb6;have hs6:=hb6.size;have hH6:H<=w6.heap.size:=(by omega))
    | (go_at_call 25;(with_reducible refine (hdo.out _ hx6 hH6).mono ?_);rintro r w7 ⟨rfl,⟨x7,hx7⟩,ho7,hH7⟩)
    | fail)
   have hbr7:Below H W w7:=(hbr.trans (hb6.mono hH5)).trans (ho7.below hH6 (fun j hj=> (hxlt.out j hj).1))
   exact ⟨hfin.out _ _ _ hx7 hbr7,by simp only [intOf];omega⟩
  ·obtain rfl:i=m2:=by omega
   have hno:¬ (i:Int) < (i:Int):=by omega
   go_upto_region 13 with fail
   obtain ⟨σ,hσ⟩:=hWI.out i
   generalize (zde s).acts s (xs.take i)=d0 at *
   have hdoK:∀ X,WdP H F X g s d0 x->H<=X.heap.size->Calls Tryz.prog 25 #[.pointer (some ⟨g,0,.none⟩),.agg #[.int .i64 4,.int .i64 c,.int .i64 0,.int .i64 0,.int .i64 0,.float .f64 0]] X fun e w'=> e= .returned (.int .i64 (d0.act s ⟨4,c,0,0,0,0⟩).2)/\WdTo H F X w' g s (d0.act s ⟨4,c,0,0,0,0⟩).1:=fun X hx hB=> zkm hx hB hoki (by omega) ⟨4,c,0,0,0,0⟩
   have hgk:=z2e hσ hoki hc
   have hokK:=zeo hoki ⟨4,c,0,0,0,0⟩
   have hxlt:=hx.lt
   have hH5:H<=wr.heap.size:=by have:=(hx.lt _ hx.fg.1);omega
   have hdoK2:=hd' (hdoK wr hx hH5)
   generalize (d0.act s ⟨4,c,0,0,0,0⟩).1=dK at *
   generalize (d0.act s ⟨4,c,0,0,0,0⟩).2=er at *
   replace hgk:=hd' hgk
   replace hxlt:=hd' hxlt
   clear hdoK hoki hσ hx
   by_cases h0:¬ er=0
   ·have be:(er==0)=false:=by rw [beq_eq_false_iff_ne];exact h0
    go_wp2_with (first
     | (go_at_call 25;(with_reducible refine hdoK2.out.mono ?_);rintro r w7 ⟨rfl,⟨x7,hx7⟩,ho7,hH7⟩)
     | fail)
    go_returns
    exact ⟨rfl,by rw [<- hH.out];exact hbr.trans (ho7.below hH5 (fun j hj=> (hxlt.out j hj).1))⟩
   ·replace h0:=Decidable.not_not.1 h0
    have hg:=hgk.out h0
    subst h0
    have hstl:=hokK.lg
    have hsts:=hokK.st
    have htrl:=hokK.tr
    have hsL:∀ F x X,WdP H F X g s dK x->Calls Tryz.prog 30 #[.pointer (some ⟨g,0,.none⟩)] X fun e w'=> Below X.heap.size X w'/\∃ ao cap,e= .returned (.slice ao dK.lg.length cap):=fun F x X hx=> by
     refine (zw1 hx (by omega)).mono fun e w' ⟨v,h1,h2,h3⟩=> ⟨h2,?_⟩
     obtain ⟨ao,cap,rfl,_⟩:=RdS.zew h3
     exact ⟨ao,cap,h1⟩
    have htL:∀ F x X,WdP H F X g s dK x->Calls Tryz.prog 26 #[.pointer (some ⟨g,0,.none⟩)] X fun e w'=> Below X.heap.size X w'/\∃ ao cap,e= .returned (.slice ao dK.tr.length cap):=fun F x X hx=> by
     refine (zko hx (by omega)).mono fun e w' ⟨v,h1,h2,h3⟩=> ⟨h2,?_⟩
     obtain ⟨ao,cap,rfl,_⟩:=RdS.zew h3
     exact ⟨ao,cap,h1⟩
    obtain ⟨n1,hn1,hn1'⟩:=hidv dK.lg.length
    obtain ⟨n2,hn2,hn2'⟩:=hidv dK.tr.length
    rw [<- hn1'] at hsL
    rw [<- hn2'] at htL
    have hn1b:n1<=2000:=by omega
    have hn2b:n2<=6000:=by omega
    replace hsL:=hd' hsL
    replace htL:=hd' htL
    have hS0:Since s c dK dK:=⟨hg,⟨[],by simp,fun e he=> by cases he⟩,⟨[],by simp,fun e he=> by cases he⟩⟩
    clear hn1' hn2' hgk hstl hsts htrl hg
    go_upto_region 17 with (first
     | (go_at_call 25;(with_reducible refine hdoK2.out.mono ?_);rintro r w7 ⟨rfl,⟨x7,hx7⟩,ho7,hH7⟩)
     | (go_at_call 30;(with_reducible refine (hsL.out _ _ _ hx7).mono ?_);rintro r w8 ⟨hb8,ao8,cap8,rfl⟩;have hx8:=hx7.below hb8)
     | (go_at_call 26;(with_reducible refine (htL.out _ _ _ hx8).mono ?_);rintro r w9 ⟨hb9,ao9,cap9,rfl⟩;have hx9:=hx8.below hb9)
     | fail)
    have hbr9:Below H W w9:=((hbr.trans (ho7.below hH5 (fun j hj=> (hxlt.out j hj).1))).trans (hb8.mono hH7)).trans (hb9.mono (by have:=hb8.size;omega))
    clear hx7 hx8 hb8 hb9 hbr ho7 hsL htL hH7 hdoK2 hxlt hH5
    have hacts2:∀ j (hj:i + j < n),(dK.acts s ((xs.drop i).take (j + 1)))=((dK.acts s ((xs.drop i).take j)).act s (xs[i + j]'(by rw [<- hn.out];exact hj))).1:=fun j hj=> by
     have hjl:j < (xs.drop i).length:=by rw [List.length_drop,<- hn.out];omega
     rw [zm0 hjl]
     simp
    replace hacts2:=hd' hacts2
    replace hokK:=hd' hokK
    go_wp2
    go_loopw [13] (fun v13 wr=> ∃ (j:Nat) (F:Nat->Prop) (x:Wx),i + j<=n/\v13= .int .i64 ((i + j:Nat):Int)/\WdP H F wr g s (dK.acts s ((xs.drop i).take j)) x/\wdOk s (dK.acts s ((xs.drop i).take j)) (i + 1 + j)/\Since s c dK (dK.acts s ((xs.drop i).take j))/\Below H W wr) (fun v13 _=> n - (intOf v13).toNat)
    case atStart=> exact ⟨0,_,_,by omega,rfl,hx9,hokK.out,hS0,hbr9⟩
    case round=>
     clear hx9 hS0 hbr9
     obtain ⟨j,F,x,hjn,rfl,hx,hoki,hS,hbr⟩:=hrel
     have hi0:(0:Int)<=((i + j:Nat):Int):=by omega
     by_cases hj:i + j < n
     ·have hii:((i + j:Nat):Int) < (n:Int):=by omega
      have wi1:IntKind.i64.wrap (((i + j:Nat):Int) + 1)=((i + j:Nat):Int) + 1:=IntWalk.i64_in _ ⟨by omega,by omega⟩
      have hat:=hacts2.out j hj
      generalize dK.acts s ((xs.drop i).take j)=dj at *
      have hil:i + j < xs.length:=hn.out ▸ (by omega)
      obtain ⟨gb,gof,rfl,hgb,hcell⟩:=hrow.out (by omega)
      have hgbH:=hbH.out _ hgb
      have hcg:=fun k hk=> yan xs (i + j) hil k hk
      generalize hxc:xs[i + j]=xc at *
      obtain ⟨ck,cc,co,ca,cn,cb⟩:=xc
      have hy:∀ X,Below H W X->X.cell? ⟨gb,gof + (i + j) * 6,.none⟩=some (.int .i64 ck)/\X.cell? ⟨gb,gof + (i + j) * 6 + 1,.none⟩=some (.int .i64 cc)/\X.cell? ⟨gb,gof + (i + j) * 6 + 2,.none⟩=some (.int .i64 co)/\X.cell? ⟨gb,gof + (i + j) * 6 + 3,.none⟩=some (.int .i64 ca)/\X.cell? ⟨gb,gof + (i + j) * 6 + 4,.none⟩=some (.int .i64 cn)/\X.cell? ⟨gb,gof + (i + j) * 6 + 5,.none⟩=some (.float .f64 cb)/\gb < X.heap.size:=fun X hb=> by
       have hk:∀ o,X.cell? ⟨gb,o,.none⟩=W.cell? ⟨gb,o,.none⟩:=fun o=> hb.cell (p:=⟨gb,o,.none⟩) hgbH
       have hq:∀ k,k < 6->X.cell? ⟨gb,gof + (i + j) * 6 + k,.none⟩=(Ch.cells ⟨ck,cc,co,ca,cn,cb⟩)[k]?:=fun k hk6=> by
        rw [hk,Nat.add_assoc,hcell _ (by omega)]
        exact hcg k hk6
       exact ⟨hq 0 (by omega),hq 1 (by omega),hq 2 (by omega),hq 3 (by omega),hq 4 (by omega),hq 5 (by omega),by have:=hb.size;omega⟩
      have hch:∀ X,Calls Tryz.prog 29 #[.agg #[.int .i64 ck,.int .i64 cc,.int .i64 co,.int .i64 ca,.int .i64 cn,.float .f64 cb]] X fun e w'=> e= .returned (.agg #[.int .i64 ck,.int .i64 cc,.int .i64 co,.int .i64 ca,.int .i64 cn,.float .f64 cb])/\Below X.heap.size X w':=fun X=> znm ⟨ck,cc,co,ca,cn,cb⟩ X
      have hdo:∀ X,WdP H F X g s dj x->H<=X.heap.size->Calls Tryz.prog 25 #[.pointer (some ⟨g,0,.none⟩),.agg #[.int .i64 ck,.int .i64 cc,.int .i64 co,.int .i64 ca,.int .i64 cn,.float .f64 cb]] X fun e w'=> e= .returned (.int .i64 (dj.act s ⟨ck,cc,co,ca,cn,cb⟩).2)/\WdTo H F X w' g s (dj.act s ⟨ck,cc,co,ca,cn,cb⟩).1:=fun X hx hB=> zkm hx hB hoki (by omega) _
      have hxlt:=hx.lt
      have hH5:H<=wr.heap.size:=by have:=(hx.lt _ hx.fg.1);omega
      obtain ⟨z0,z1,z2,z3,z4,z5,zl⟩:=hy _ hbr
      replace hy:=hd' hy
      replace hdo:=hd' hdo
      replace hch:=hd' hch
      replace hxlt:=hd' hxlt
      clear hcell hcg
      have hok':=zeo hoki ⟨ck,cc,co,ca,cn,cb⟩
      have hSs:=hS.act hoki hc ⟨ck,cc,co,ca,cn,cb⟩
      have hfin:∀ X F' x',WdP H F' X g s (dj.act s ⟨ck,cc,co,ca,cn,cb⟩).1 x'->Below H W X->∃ (j':Nat) (F:Nat->Prop) (x:Wx),i + j'<=n/\Value.int .i64 (((i + j:Nat):Int) + 1)= .int .i64 ((i + j':Nat):Int)/\WdP H F X g s (dK.acts s ((xs.drop i).take j')) x/\wdOk s (dK.acts s ((xs.drop i).take j')) (i + 1 + j')/\Since s c dK (dK.acts s ((xs.drop i).take j'))/\Below H W X:=fun X F' x' h1 h2=> ⟨j + 1,F',x',by omega,by go_num,by rw [hat];exact h1,by rw [hat];exact hok',by rw [hat];exact hSs.1,h2⟩
      have hne:=hSs.2
      dsimp only at hne
      replace hfin:=hd' hfin
      replace hne:=hd' hne
      clear hat hoki hok' hSs hS
      generalize (dj.act s ⟨ck,cc,co,ca,cn,cb⟩).1=d' at *
      generalize (dj.act s ⟨ck,cc,co,ca,cn,cb⟩).2=er at *
      go_upto_region 20 with (first
       | (go_at_call 29;(with_reducible refine (hch.out _).mono ?_);rintro r w6 ⟨rfl,hb6⟩;have hx6:=hx.below hb6;have hs6:=hb6.size;have hH6:H<=w6.heap.size:=(by omega))
       | (go_at_call 25;(with_reducible refine (hdo.out _ hx6 hH6).mono ?_);rintro r w7 ⟨rfl,⟨x7,hx7⟩,ho7,hH7⟩)
       | fail)
      have hbr7:Below H W w7:=(hbr.trans (hb6.mono hH5)).trans (ho7.below hH6 (fun j hj=> (hxlt.out j hj).1))
      obtain ⟨y0,y1,y2,y3,y4,y5,yl⟩:=hy.out _ hbr7
      clear z0 z1 z2 z3 z4 z5 zl
      by_cases hcc2:cc=c
      ·have h0:=hne.out hcc2
       have be:(er==0)=false:=by rw [beq_eq_false_iff_ne];exact h0
       subst hcc2
       go_wp2_with fail
       exact ⟨hfin.out _ _ _ hx7 hbr7,by simp only [intOf];omega⟩
      ·have bc:(cc==c)=false:=by rw [beq_eq_false_iff_ne];exact hcc2
       go_wp2_with fail
       exact ⟨hfin.out _ _ _ hx7 hbr7,by simp only [intOf];omega⟩
     ·obtain ⟨n',hn'⟩:∃ n',n'=i + j:=⟨_,rfl⟩
      have hnn:n'=n:=by omega
      have hno2:¬ ((i + j:Nat):Int) < (n:Int):=by omega
      generalize dK.acts s ((xs.drop i).take j)=dE at *
      have hlgE:=hoki.lg
      have hstE:=hoki.st
      have htrE:=hoki.tr
      go_upto_region 22 with fail
      have hL1:n1<=dE.lg.length:=by obtain ⟨l,e1,_⟩:=hS.lg;rw [e1,List.length_append,hn1.out];omega
      have hL2:n2<=dE.tr.length:=by obtain ⟨l,e1,_⟩:=hS.tr;rw [e1,List.length_append,hn2.out];omega
      have hl1b:dE.lg.length<=10000:=by omega
      have hl2b:dE.tr.length<=10000:=by omega
      have hgA:∀ k (hk:k < dE.lg.length),dE.lg[k].c=(dE.lg.map Acc.c).getD k 0:=fun k hk=> by
       rw [List.getD_eq_getElem?_getD,List.getElem?_map,List.getElem?_eq_getElem hk];rfl
      have hgT:∀ k (hk:k < dE.tr.length),dE.tr[k].c=(dE.tr.map Ev.c).getD k 0:=fun k hk=> by
       rw [List.getD_eq_getElem?_getD,List.getElem?_map,List.getElem?_eq_getElem hk];rfl
      have hsE:=(zw1 hx (by omega)).mono fun e w' (h:∃ v',e= .returned v'/\Below wr.heap.size wr w'/\w'.ownsRow wr.heap.size 59 6 v' dE.lg.length (dE.lg.flatMap fun e=> e.cells.toList))=> (by
       obtain ⟨v,h1,h2,h3⟩:=h
       have h4:=RdS.zew h3
       obtain ⟨ao,cap,rfl,hc1,hc2,_,h5⟩:=id h4
       refine ⟨h2,ao,cap,h1,hc1,hc2,fun hne=> ?_⟩
       obtain ⟨b,off,rfl,hb,hcell⟩:=h5 hne
       refine ⟨b,off,rfl,hb,fun k hk=> ?_⟩
       refine (hcell (k * 6) (by omega)).trans ((ydr dE.lg k hk).trans (by rw [hgA k hk])):Below wr.heap.size wr w'/\∃ ao cap,e= .returned (.slice ao dE.lg.length cap)/\dE.lg.length<=cap/\(cap:Int)<=9223372036854775807/\(dE.lg.length≠0->∃ b off,ao=some ⟨b,off,.none⟩/\b < w'.heap.size/\∀ k (hk:k < dE.lg.length),w'.cell? ⟨b,off + k * 6,.none⟩=some (.int .i64 ((dE.lg.map Acc.c).getD k 0))))
      have htE:∀ X,WdP H F X g s dE x->Calls Tryz.prog 26 #[.pointer (some ⟨g,0,.none⟩)] X fun e w'=> Below X.heap.size X w'/\∃ ao cap,e= .returned (.slice ao dE.tr.length cap)/\dE.tr.length<=cap/\(cap:Int)<=9223372036854775807/\(dE.tr.length≠0->∃ b off,ao=some ⟨b,off,.none⟩/\b < w'.heap.size/\∀ k (hk:k < dE.tr.length),w'.cell? ⟨b,off + k * 8 + 1,.none⟩=some (.int .i64 ((dE.tr.map Ev.c).getD k 0))):=fun X hx=> (zko hx (by omega)).mono fun e w' h=> by
       obtain ⟨v,h1,h2,h3⟩:=h
       have h4:=RdS.zew h3
       obtain ⟨ao,cap,rfl,hc1,hc2,_,h5⟩:=id h4
       refine ⟨h2,ao,cap,h1,hc1,hc2,fun hne=> ?_⟩
       obtain ⟨b,off,rfl,hb,hcell⟩:=h5 hne
       refine ⟨b,off,rfl,hb,fun k hk=> ?_⟩
       rw [Nat.add_assoc]
       exact (hcell (k * 8 + 1) (by omega)).trans ((yf6 dE.tr k hk).trans (by rw [hgT k hk]))
      have hlgne:∀ k (hk:k < dE.lg.length),n1<=k->(dE.lg.map Acc.c).getD k 0≠c:=fun k hk h1=> by
       rw [<- hgA k hk]
       obtain ⟨l,e1,e2⟩:=hS.lg
       exact zrj (P:=fun a=> a.c≠c) e1 e2 k (by rw [<- hn1.out];exact h1) hk
      have htrne:∀ k (hk:k < dE.tr.length),n2<=k->(dE.tr.map Ev.c).getD k 0≠c:=fun k hk h1=> by
       rw [<- hgT k hk]
       obtain ⟨l,e1,e2⟩:=hS.tr
       exact zrj (P:=fun a=> a.c≠c) e1 e2 k (by rw [<- hn2.out];exact h1) hk
      have hkl:dE.kl c=none:=by obtain ⟨σ',_,h,_⟩:=hS.gone;exact h
      have hstE1:=(zs2 hS.gone hc).2
      have hcl:∀ X,WdP H F X g s dE x->Calls Tryz.prog 21 #[.pointer (some ⟨g,0,.none⟩),.int .i64 c] X fun e w'=> e= .returned (.pointer none)/\Below X.heap.size X w':=fun X hx=> by
       have h:=zva hx c ⟨hc.1,by rw [hoki.len];omega⟩ (by rw [hoki.len];omega)
       rw [hkl] at h
       exact h
      have hsv:zrl s dE c=dE.stat c:=if_pos (by rw [zeu hm hc];exact hc.1)
      have hsta:∀ X,WdP H F X g s dE x->Calls Tryz.prog 31 #[.pointer (some ⟨g,0,.none⟩),.int .i64 c] X fun e w'=> e= .returned (.int .i64 (dE.stat c))/\Below X.heap.size X w':=fun X hx=> by
       have h:=zmv hx hoki.fi hoki.fit c
       rw [hsv] at h
       exact h
      have hnk:∀ (W:World),(binOp .eql 36 (.pointer none) (.pointer none)).run Tryz.prog W= .ok (.bool true) W:=fun W=> by kernel_rfl
      have hHr:H<=wr.heap.size:=by have:=(hx.lt _ hx.fg.1);omega
      clear hgA hgT
      generalize dE.stat c=sv at *
      generalize dE.lg.map Acc.c=lcs at *
      generalize dE.tr.map Ev.c=tcs at *
      generalize hLa:dE.lg.length=La at *
      generalize hLt:dE.tr.length=Lt at *
      replace hsE:=hd' hsE
      replace htE:=hd' htE
      replace hlgne:=hd' hlgne
      replace htrne:=hd' htrne
      replace hcl:=hd' hcl
      replace hsta:=hd' hsta
      replace hLa:=hd' hLa
      replace hLt:=hd' hLt
      replace hx:=hd' hx
      clear hkl hsv hoki hS hlgE hstE htrE hacts2 hokK
      go_upto_region 23 with (first
       | (go_at_call 30;(with_reducible refine hsE.out.mono ?_);rintro r X1 ⟨hbx1,aa,ca1,rfl,hca1,hca2,hA⟩;have hX1:=hx.out.below hbx1)
       | (go_at_call 26;(with_reducible refine (htE.out _ hX1).mono ?_);rintro r X2 ⟨hbx2,at2,ct2,rfl,hct1,hct2,hT⟩;have hX2:=hX1.below hbx2)
       | fail)
      have hbW2:Below H W X2:=hbr.trans ((zab hbx1 hbx2).mono hHr)
      replace hA:=hd' hA
      replace hT:=hd' hT
      go_wp2
      go_loopw [17] (fun v17 wx=> ∃ k:Nat,n1<=k/\k<=La/\v17= .int .i64 k/\wx=X2) (fun v17 _=> La - (intOf v17).toNat)
      case atStart=> exact ⟨n1,Nat.le_refl _,hL1,rfl,rfl⟩
      case round=>
       obtain ⟨k,hk1,hk2,rfl,hwx⟩:=hrel
       obtain rfl:=hwx.symm
       have hk0:(0:Int)<=(k:Int):=by omega
       by_cases hk:k < La
       ·have hkk:(k:Int) < (La:Int):=by omega
        have wk:IntKind.i64.wrap ((k:Int) + 1)=(k:Int) + 1:=IntWalk.i64_in _ ⟨by omega,by omega⟩
        obtain ⟨ab,aof,rfl,habl,hAc⟩:=hA.out (by omega)
        have zz:X2.cell? ⟨ab,aof + k * 6,.none⟩=some (.int .i64 (lcs.getD k 0)):=(hbx2.cell (p:=⟨ab,_,.none⟩) habl).trans (hAc k hk)
        have hnc:=hlgne.out k hk hk1
        have lab:ab < X2.heap.size:=by have:=hbx2.size;omega
        generalize lcs.getD k 0=lc at *
        have bn:(lc==c)=false:=by rw [beq_eq_false_iff_ne];exact hnc
        clear hAc
        go_wp2_with fail
        exact ⟨⟨k + 1,by omega,by omega,by go_num,by first | rfl | trivial⟩,by simp only [intOf];omega⟩
       ·have hno3:¬ (k:Int) < (La:Int):=by omega
        go_upto_region 29 with fail
        go_wp2
        go_loopw [18] (fun v18 wx=> ∃ k:Nat,n2<=k/\k<=Lt/\v18= .int .i64 k/\wx=X2) (fun v18 _=> Lt - (intOf v18).toNat)
        case atStart=> exact ⟨n2,Nat.le_refl _,hL2,rfl,rfl⟩
        case round=>
         obtain ⟨k2,hk1,hk2,rfl,hwx⟩:=hrel
         obtain rfl:=hwx.symm
         have hk0:(0:Int)<=(k2:Int):=by omega
         by_cases hk:k2 < Lt
         ·have hkk:(k2:Int) < (Lt:Int):=by omega
          have wk:IntKind.i64.wrap ((k2:Int) + 1)=(k2:Int) + 1:=IntWalk.i64_in _ ⟨by omega,by omega⟩
          obtain ⟨tb,tof,rfl,htbl,hTc⟩:=hT.out (by omega)
          have zz:X2.cell? ⟨tb,tof + k2 * 8 + 1,.none⟩=some (.int .i64 (tcs.getD k2 0)):=hTc k2 hk
          have hnc:=htrne.out k2 hk hk1
          generalize tcs.getD k2 0=lc at *
          have bn:(lc==c)=false:=by rw [beq_eq_false_iff_ne];exact hnc
          clear hTc
          go_wp2_with fail
          exact ⟨⟨k2 + 1,by omega,by omega,by go_num,by first | rfl | trivial⟩,by simp only [intOf];omega⟩
         ·have hno4:¬ (k2:Int) < (Lt:Int):=by omega
          have bs:(sv==1)=false:=by rw [beq_eq_false_iff_ne];exact hstE1
          have bs2:(sv !=1)=true:=by rw [bne,bs];rfl
          have bs3:decide (sv=1)=false:=decide_eq_false hstE1
          go_wp2_with (first
           | (go_at_call 21;(with_reducible refine (hcl.out _ hX2).mono ?_);rintro r Y1 ⟨rfl,hy1⟩;have hY1:=hX2.below hy1)
           | (go_at_call 31;(with_reducible refine (hsta.out _ hY1).mono ?_);rintro r Y2 ⟨rfl,hy2⟩)
           | fail)
          go_returns
          have hHX:H<=X2.heap.size:=by have:=hbx1.size;have:=hbx2.size;omega
          exact ⟨rfl,by rw [<- hH.out];exact (hbW2.trans (hy1.mono hHX)).trans (hy2.mono (by have:=hy1.size;omega))⟩
end Go.Proofs.YtampacmmhhilaaaGreat
