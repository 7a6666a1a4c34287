/- Texts bound together: AdF AdG AdH. -/
import Derived.Test.YthgekdlegbmehaaGreatBq22

set_option linter.all false
set_option maxHeartbeats 2000000
set_option maxRecDepth 100000
namespace Go.Proofs.YthgekdlegbmehaaGreat

open Go.RowKit

attribute [local go_sem ↓] Go.wp_at_zero Go.wp_at_succ

def Ad.page (s:Sh) (t:Ad) (a x:Int):Ad:= { t with pk:=pgK s a x,pa:=pgP s a x 0,pb:=pgP s a x 1 }
theorem z1l (s:Sh) (t:Ad) (a x:Int):t.keep s a x=t.page s a x:=rfl
theorem zpw (s:Sh) (a x k:Int):(zal s.p s.c s.m a x=true/\zbx x=k)↔(zal s.p s.c s.m a x=true/\pgK s a x=k):=by
 unfold pgK
 cases zal s.p s.c s.m a x <;> simp
theorem z8q (s:Sh) (t:Ad) (a x:Int):t.own s a x=(zal s.p s.c s.m a x && (pgK s a x==1 && pgP s a x 0==t.d)):=by
 unfold Ad.own pgK pgP
 cases zal s.p s.c s.m a x <;> simp
theorem zl7 (s:Sh) (t:Ad) (m:Mem) (h:t.done=false) (h0:t.next=3):za0 s t m=(if zal s.p s.c s.m t.at' (m.get (zak s.p s.c s.m t.at'))=true/\pgK s t.at' (m.get (zak s.p s.c s.m t.at'))=4 then { t.page s t.at' (m.get (zak s.p s.c s.m t.at')) with next:=4 } else (t.page s t.at' (m.get (zak s.p s.c s.m t.at'))).turn s 3 6,m.load t.c (zak s.p s.c s.m t.at')):=by
 unfold za0
 simp [h,h0,z1l,zpw]
theorem zmc (s:Sh) (t:Ad) (m:Mem) (h:t.done=false) (h0:t.next=4):za0 s t m=(if t.own s t.pa (m.get (zak s.p s.c s.m t.pa))=true then { t with next:=5 } else t.turn s 3 6,m.load t.c (zak s.p s.c s.m t.pa)):=by
 unfold za0
 simp [h,h0]
theorem zl5 (s:Sh) (t:Ad) (m:Mem) (h:t.done=false) (h0:t.next=5):za0 s t m=(t.turn s 3 6,m.store t.c (zak s.p s.c s.m t.at') 0):=by
 unfold za0
 simp [h,h0]
theorem zmg (s:Sh) (t:Ad) (m:Mem) (h:t.done=false) (h0:t.next=6):za0 s t m=(if t.own s t.at' (m.get (zak s.p s.c s.m t.at'))=true then { t with next:=7,i:=0 } else t.turn s 6 9,m.load t.c (zak s.p s.c s.m t.at')):=by
 unfold za0
 simp [h,h0]
theorem zl3 (s:Sh) (t:Ad) (m:Mem) (h:t.done=false) (h0:t.next=7):za0 s t m=(if t.i + 1=16 then { t with i:=t.i + 1,next:=8 } else { t with i:=t.i + 1 },m.store t.c (zbk s.p s.c s.m t.at' t.i) 0):=by
 unfold za0
 simp [h,h0]
theorem zl6 (s:Sh) (t:Ad) (m:Mem) (h:t.done=false) (h0:t.next=8):za0 s t m=(t.turn s 6 9,m.store t.c (zak s.p s.c s.m t.at') 0):=by
 unfold za0
 simp [h,h0]
theorem z9q (q p b:Nat) (s:Sh) (t:Ad) (m:Mem) (w:World) (h0:At3 q p b w w (zan s t) 129 m) (hf:Fits s m) (hs:m.st < 1000000000) (hdn:t.done=false) (hn:t.next=3) (hat:0<=t.at'/\t.at' < s.p):
  Calls Tryz.prog 167 #[.pointer (some ⟨q,0,.none⟩),.pointer (some ⟨p,0,.none⟩)] w fun e w'=> e= .returned (.tuple #[])/\At3 q p b w w' (zan s (za0 s t m).1) 129 (za0 s t m).2:=by
 have hat64:0<=t.at'/\t.at' < 64:=by have:=hf.bd;omega
 rw [zl7 s t m hdn hn]
 have hrd:=zim q p b s t m t.at' w h0 hf hs hat
 generalize zak s.p s.c s.m t.at'=pg at *
 generalize m.get pg=x at *
 unfold Ad.page
 have htn:=fun Y (hY:zaa Y q (zan s { t with pk:=pgK s t.at' x,pa:=pgP s t.at' x 0,pb:=pgP s t.at' x 1 }) 129)=> zek q s { t with pk:=pgK s t.at' x,pa:=pgP s t.at' x 0,pb:=pgP s t.at' x 1 } 3 6 Y hY hat64
 generalize zal s.p s.c s.m t.at' x=B at *
 generalize pgK s t.at' x=e0 at *
 generalize pgP s t.at' x 0=e1 at *
 generalize pgP s t.at' x 1=e2 at *
 dsimp only
 obtain ⟨t2,ht2,ht2'⟩:∃ t2:Ad,Hid (t2=if B=true/\e0=4 then { t with pk:=e0,pa:=e1,pb:=e2,next:=4 } else ({ t with pk:=e0,pa:=e1,pb:=e2 }:Ad).turn s 3 6)/\t2=_:=⟨_,hd' rfl,rfl⟩
 rw [<- ht2']
 clear ht2' hat64
 obtain ⟨sp,sc,sm⟩:=s
 obtain ⟨tc,td,tn,tw,tby,ta,ti,pk,pa,pb,terr,tdone⟩:=t
 dsimp only at hdn hn hat hrd htn ht2 ⊢
 subst hdn hn
 replace hrd:=hd' hrd
 replace htn:=hd' htn
 have lq:=h0.lt
 have c5:=ci 3 (h0.cell 5)
 have c8:=ci ta (h0.cell 8)
 clear hf hs
 go_enter Tryz.func167,Tryz.ntmps167
 go_upto_region 5 with (first | (go_at_call 172;(with_reducible refine hrd.out.mono ?_);rintro r w1 ⟨rfl,hA⟩) | fail)
 have hBx:=hA.alloc (.cells #[.int .i64 e0,.int .i64 e1,.int .i64 e2] 120)
 have hE:zaa (w1.alloc (.cells #[.int .i64 e0,.int .i64 e1,.int .i64 e2] 120)) w1.heap.size #[.int .i64 e0,.int .i64 e1,.int .i64 e2] 120:=heap_alloc_new _ _
 have hEq:w1.heap.size≠q:=fun e=> by have:=hA.lt;omega
 generalize w1.alloc (.cells #[.int .i64 e0,.int .i64 e1,.int .i64 e2] 120)=Y at *
 obtain ⟨E,hEE,hEE'⟩:=hidv w1.heap.size
 simp only [<- hEE'] at hE hEq ⊢
 clear hEE' hEE hA c5 c8 hrd
 have lY:=hBx.lt
 have lE:=hE.lt
 obtain ⟨g0,g1,g2⟩:=ci3 e0 e1 e2 hE.cell
 have c5:=ci 3 (hBx.cell 5)
 have c9:=ci ti (hBx.cell 9)
 have c10:=ci pk (hBx.cell 10)
 have c11:=ci pa (hBx.cell 11)
 have c12:=ci pb (hBx.cell 12)
 have zf:=hBx.free
 have hC:=((hBx.set 10 (.int .i64 e0)).set 11 (.int .i64 e1)).set 12 (.int .i64 e2)
 by_cases hc:B=true/\e0=4
 ·replace ht2:=hd' (ht2.out.trans (if_pos hc))
  obtain ⟨rfl,rfl⟩:=hc
  have hD:=((hC.set 5 (.int .i64 4)))
  clear htn
  go_wp2_with fail
  go_returns
  exact ⟨rfl,by rw [ht2.out];exact hD⟩
 ·replace ht2:=hd' (ht2.out.trans (if_neg hc))
  have hne:B=false\/(B=true/\(e0==4)=false):=by
   cases B
   ·exact .inl rfl
   ·exact .inr ⟨rfl,by simpa using hc⟩
  clear hc
  rcases hne with rfl | ⟨rfl,hne⟩
  all_goals
   go_wp2_with (first | (go_at_call 173;(with_reducible refine (htn.out _ hC.row).mono ?_);rintro r w3 hT;obtain rfl:=hT.ret) | fail)
   go_returns
   exact ⟨rfl,by rw [ht2.out];exact hC.turned hT⟩
theorem yak (q p b:Nat) (s:Sh) (t:Ad) (m:Mem) (w:World) (h0:At3 q p b w w (zan s t) 129 m) (hf:Fits s m) (hs:m.st < 1000000000) (hdn:t.done=false) (hn:t.next=4) (hat:0<=t.at'/\t.at' < s.p) (hpa:t.next=4->0<=t.pa/\t.pa < s.p):
  Calls Tryz.prog 167 #[.pointer (some ⟨q,0,.none⟩),.pointer (some ⟨p,0,.none⟩)] w fun e w'=> e= .returned (.tuple #[])/\At3 q p b w w' (zan s (za0 s t m).1) 129 (za0 s t m).2:=by
 have hat64:0<=t.at'/\t.at' < 64:=by have:=hf.bd;omega
 rw [zmc s t m hdn hn]
 rw [z8q]
 have hrd:=zim q p b s t m t.pa w h0 hf hs (hpa hn)
 have htn:=fun Y (hY:zaa Y q (zan s t) 129)=> zek q s t 3 6 Y hY hat64
 generalize zak s.p s.c s.m t.pa=pg at *
 generalize m.get pg=x at *
 generalize zal s.p s.c s.m t.pa x=B at *
 generalize pgK s t.pa x=e0 at *
 generalize pgP s t.pa x 0=e1 at *
 generalize pgP s t.pa x 1=e2 at *
 have hown:=fun Y (hY:zaa Y q (zan s t) 129)=> zr3 q s t e0 e1 e2 B Y hY
 generalize (B && (e0==1 && e1==t.d))=o at *
 dsimp only
 obtain ⟨t2,ht2,ht2'⟩:∃ t2:Ad,Hid (t2=if o=true then { t with next:=5 } else t.turn s 3 6)/\t2=_:=⟨_,hd' rfl,rfl⟩
 rw [<- ht2']
 clear ht2' hat64
 obtain ⟨sp,sc,sm⟩:=s
 obtain ⟨tc,td,tn,tw,tby,ta,ti,pk,pa,pb,terr,tdone⟩:=t
 dsimp only at hdn hn hat hrd htn hown ht2 ⊢
 subst hdn hn
 replace hrd:=hd' hrd
 replace htn:=hd' htn
 replace hown:=hd' hown
 have lq:=h0.lt
 have c5:=ci 4 (h0.cell 5)
 have c11:=ci pa (h0.cell 11)
 clear hf hs
 go_enter Tryz.func167,Tryz.ntmps167
 rcases (by cases o <;> simp:o=true\/o=false) with rfl | rfl
 ·replace ht2:=hd' (ht2.out.trans (if_pos rfl))
  clear htn
  go_wp2_with (first | (go_at_call 172;(with_reducible refine hrd.out.mono ?_);rintro r w1 ⟨rfl,hA⟩) | (go_at_call 174;(with_reducible refine (hown.out _ hA.row).mono ?_);rintro r w2 ⟨rfl,hb2⟩;have hB:=hA.below hb2;have k5:=ci 4 (hB.cell 5);have k9:=ci ti (hB.cell 9);have zf:=hB.free) | fail)
  go_returns
  exact ⟨rfl,by rw [ht2.out];exact hB.set 5 _⟩
 ·replace ht2:=hd' (ht2.out.trans (if_neg (by decide)))
  go_wp2_with (first | (go_at_call 172;(with_reducible refine hrd.out.mono ?_);rintro r w1 ⟨rfl,hA⟩) | (go_at_call 174;(with_reducible refine (hown.out _ hA.row).mono ?_);rintro r w2 ⟨rfl,hb2⟩;have hB:=hA.below hb2;have k5:=ci 4 (hB.cell 5);have k9:=ci ti (hB.cell 9);have zf:=hB.free) | (go_at_call 173;(with_reducible refine (htn.out _ hB.row).mono ?_);rintro r w3 hT;obtain rfl:=hT.ret) | fail)
  go_returns
  exact ⟨rfl,by rw [ht2.out];exact hB.turned hT⟩
theorem z9w (q p b:Nat) (s:Sh) (t:Ad) (m:Mem) (w:World) (h0:At3 q p b w w (zan s t) 129 m) (hf:Fits s m) (hs:m.st < 1000000000) (hdn:t.done=false) (hn:t.next=5) (hat:0<=t.at'/\t.at' < s.p):
  Calls Tryz.prog 167 #[.pointer (some ⟨q,0,.none⟩),.pointer (some ⟨p,0,.none⟩)] w fun e w'=> e= .returned (.tuple #[])/\At3 q p b w w' (zan s (za0 s t m).1) 129 (za0 s t m).2:=by
 have hat64:0<=t.at'/\t.at' < 64:=by have:=hf.bd;omega
 rw [zl5 s t m hdn hn]
 obtain ⟨hpx,hph⟩:=hf.page hat
 have hcpp:=fun Y=> planPage_any s.p s.c s.m t.at' Y
 rw [hpx] at hcpp ⊢
 have hst:=fun Y (hY:zaq Y p b m)=> zba p b m t.c (s.c + t.at') 0 Y hY hph (by decide) hs
 have htn:=fun Y (hY:zaa Y q (zan s t) 129)=> zek q s t 3 6 Y hY hat64
 generalize s.c + t.at'=pg at *
 dsimp only
 obtain ⟨t2,ht2⟩:∃ t2,t2=t.turn s 3 6:=⟨_,rfl⟩
 rw [<- ht2] at htn ⊢
 clear ht2 hpx hph hf hat64
 obtain ⟨sp,sc,sm⟩:=s
 obtain ⟨tc,td,tn,tw,tby,ta,ti,pk,pa,pb,terr,tdone⟩:=t
 dsimp only at hdn hn hat hcpp hst htn ⊢
 subst hdn hn
 replace hcpp:=hd' hcpp
 replace hst:=hd' hst
 replace htn:=hd' htn
 have lq:=h0.lt
 obtain ⟨c0,c1,c2,c3⟩:=ci4 sp sc sm tc h0.cell
 have c5:=ci 5 (h0.cell 5)
 have c8:=ci ta (h0.cell 8)
 clear hat
 go_enter Tryz.func167,Tryz.ntmps167
 go_upto_region 14 with fail
 refine zad 14 (by kernel_rfl) (by kernel_rfl) ?_
 dsimp only [List.take,List.drop]
 repeat (go_big_quiet_step ((first | (go_at_call 59;exact zam (hcpp.out _)) | fail)))
 refine wpQuiet_nil ?_
 rintro _ ⟨e',rfl⟩
 have hZ:=h0.below e'.below
 generalize e'.w=Z at *
 change wpList _ _ _ _ _ Z
 clear lq h0
 go_wp2_with (first
  | (go_at_call 118;(with_reducible refine (hst.out _ hZ.wds).mono ?_);rintro r w2 ⟨rfl,hw2,ho2⟩;have hA:=hZ.access hw2 ho2)
  | (go_at_call 173;(with_reducible refine (htn.out _ hA.row).mono ?_);rintro r w3 hT;obtain rfl:=hT.ret)
  | fail)
 go_returns
 exact ⟨rfl,hA.turned hT⟩
theorem yb9 (q p b:Nat) (s:Sh) (t:Ad) (m:Mem) (w:World) (h0:At3 q p b w w (zan s t) 129 m) (hf:Fits s m) (hs:m.st < 1000000000) (hdn:t.done=false) (hn:t.next=6) (hat:0<=t.at'/\t.at' < s.p):
  Calls Tryz.prog 167 #[.pointer (some ⟨q,0,.none⟩),.pointer (some ⟨p,0,.none⟩)] w fun e w'=> e= .returned (.tuple #[])/\At3 q p b w w' (zan s (za0 s t m).1) 129 (za0 s t m).2:=by
 have hat64:0<=t.at'/\t.at' < 64:=by have:=hf.bd;omega
 rw [zmg s t m hdn hn]
 rw [z8q]
 have hrd:=zim q p b s t m t.at' w h0 hf hs hat
 have htn:=fun Y (hY:zaa Y q (zan s t) 129)=> zek q s t 6 9 Y hY hat64
 generalize zak s.p s.c s.m t.at'=pg at *
 generalize m.get pg=x at *
 generalize zal s.p s.c s.m t.at' x=B at *
 generalize pgK s t.at' x=e0 at *
 generalize pgP s t.at' x 0=e1 at *
 generalize pgP s t.at' x 1=e2 at *
 have hown:=fun Y (hY:zaa Y q (zan s t) 129)=> zr3 q s t e0 e1 e2 B Y hY
 generalize (B && (e0==1 && e1==t.d))=o at *
 dsimp only
 obtain ⟨t2,ht2,ht2'⟩:∃ t2:Ad,Hid (t2=if o=true then { t with next:=7,i:=0 } else t.turn s 6 9)/\t2=_:=⟨_,hd' rfl,rfl⟩
 rw [<- ht2']
 clear ht2' hat64
 obtain ⟨sp,sc,sm⟩:=s
 obtain ⟨tc,td,tn,tw,tby,ta,ti,pk,pa,pb,terr,tdone⟩:=t
 dsimp only at hdn hn hat hrd htn hown ht2 ⊢
 subst hdn hn
 replace hrd:=hd' hrd
 replace htn:=hd' htn
 replace hown:=hd' hown
 have lq:=h0.lt
 have c5:=ci 6 (h0.cell 5)
 have c8:=ci ta (h0.cell 8)
 clear hf hs
 go_enter Tryz.func167,Tryz.ntmps167
 rcases (by cases o <;> simp:o=true\/o=false) with rfl | rfl
 ·replace ht2:=hd' (ht2.out.trans (if_pos rfl))
  clear htn
  go_wp2_with (first | (go_at_call 172;(with_reducible refine hrd.out.mono ?_);rintro r w1 ⟨rfl,hA⟩) | (go_at_call 174;(with_reducible refine (hown.out _ hA.row).mono ?_);rintro r w2 ⟨rfl,hb2⟩;have hB:=hA.below hb2;have k5:=ci 6 (hB.cell 5);have k9:=ci ti (hB.cell 9);have zf:=hB.free) | fail)
  go_returns
  exact ⟨rfl,by rw [ht2.out];exact (hB.set 5 _).set 9 _⟩
 ·replace ht2:=hd' (ht2.out.trans (if_neg (by decide)))
  go_wp2_with (first | (go_at_call 172;(with_reducible refine hrd.out.mono ?_);rintro r w1 ⟨rfl,hA⟩) | (go_at_call 174;(with_reducible refine (hown.out _ hA.row).mono ?_);rintro r w2 ⟨rfl,hb2⟩;have hB:=hA.below hb2;have k5:=ci 6 (hB.cell 5);have k9:=ci ti (hB.cell 9);have zf:=hB.free) | (go_at_call 173;(with_reducible refine (htn.out _ hB.row).mono ?_);rintro r w3 hT;obtain rfl:=hT.ret) | fail)
  go_returns
  exact ⟨rfl,by rw [ht2.out];exact hB.turned hT⟩
theorem yap (q p b:Nat) (s:Sh) (t:Ad) (m:Mem) (w:World) (h0:At3 q p b w w (zan s t) 129 m) (hf:Fits s m) (hs:m.st < 1000000000) (hdn:t.done=false) (hn:t.next=7) (hat:0<=t.at'/\t.at' < s.p) (hi:0<=t.i/\t.i < 16):
  Calls Tryz.prog 167 #[.pointer (some ⟨q,0,.none⟩),.pointer (some ⟨p,0,.none⟩)] w fun e w'=> e= .returned (.tuple #[])/\At3 q p b w w' (zan s (za0 s t m).1) 129 (za0 s t m).2:=by
 have hat64:0<=t.at'/\t.at' < 64:=by have:=hf.bd;omega
 rw [zl3 s t m hdn hn]
 obtain ⟨hpx,hph⟩:=hf.slot hat hi
 have hcpp:=fun Y=> zbm s.p s.c s.m t.at' t.i Y
 rw [hpx] at hcpp ⊢
 have hst:=fun Y (hY:zaq Y p b m)=> zba p b m t.c (s.c + s.p + t.at' * 16 + t.i) 0 Y hY hph (by decide) hs
 generalize s.c + s.p + t.at' * 16 + t.i=pg at *
 have w1:=wrp (t.i + 1)
 have hcs:t.i + 1=16\/(¬ t.i + 1=16/\(t.i + 1==16)=false):=by
  by_cases h:t.i + 1=16
  ·exact .inl h
  ·exact .inr ⟨h,by simpa using h⟩
 dsimp only
 obtain ⟨t2,ht2,ht2'⟩:∃ t2:Ad,Hid (t2=if t.i + 1=16 then { t with i:=t.i + 1,next:=8 } else { t with i:=t.i + 1 })/\t2=_:=⟨_,hd' rfl,rfl⟩
 rw [<- ht2']
 clear ht2' hpx hph hf hat64 hi
 obtain ⟨sp,sc,sm⟩:=s
 obtain ⟨tc,td,tn,tw,tby,ta,ti,pk,pa,pb,terr,tdone⟩:=t
 dsimp only at hdn hn hat hcpp hst ht2 hcs w1 ⊢
 subst hdn hn
 replace hcpp:=hd' hcpp
 replace hst:=hd' hst
 replace hcs:=hd' hcs
 have lq:=h0.lt
 obtain ⟨c0,c1,c2,c3⟩:=ci4 sp sc sm tc h0.cell
 have c5:=ci 7 (h0.cell 5)
 have c8:=ci ta (h0.cell 8)
 have c9:=ci ti (h0.cell 9)
 clear hat
 go_enter Tryz.func167,Tryz.ntmps167
 go_upto_region 21 with fail
 refine zad 18 (by kernel_rfl) (by kernel_rfl) ?_
 dsimp only [List.take,List.drop]
 repeat (go_big_quiet_step ((first | (go_at_call 120;exact zam (hcpp.out _)) | fail)))
 refine wpQuiet_nil ?_
 rintro _ ⟨e',rfl⟩
 have hZ:=h0.below e'.below
 generalize e'.w=Z at *
 change wpList _ _ _ _ _ Z
 clear lq h0
 go_upto_region 23 with (first
  | (go_at_call 118;(with_reducible refine (hst.out _ hZ.wds).mono ?_);rintro r w2 ⟨rfl,hw2,ho2⟩;have hA:=hZ.access hw2 ho2;have k5:=ci 7 (hA.cell 5);have k9:=ci ti (hA.cell 9);have zf:=hA.free)
  | fail)
 have hB:=hA.set 9 (.int .i64 (ti + 1))
 rcases hcs.out with h1 | ⟨h1,h2⟩
 ·replace ht2:=hd' (ht2.out.trans (if_pos h1))
  rw [h1] at ht2 hB w1
  simp only [h1]
  clear hcs h1
  go_wp2_with fail
  go_returns
  exact ⟨rfl,by rw [ht2.out];exact hB.set 5 _⟩
 ·replace ht2:=hd' (ht2.out.trans (if_neg h1))
  clear hcs h1
  go_wp2_with fail
  go_returns
  exact ⟨rfl,by rw [ht2.out];exact hB⟩
theorem yau (q p b:Nat) (s:Sh) (t:Ad) (m:Mem) (w:World) (h0:At3 q p b w w (zan s t) 129 m) (hf:Fits s m) (hs:m.st < 1000000000) (hdn:t.done=false) (hn:t.next=8) (hat:0<=t.at'/\t.at' < s.p):
  Calls Tryz.prog 167 #[.pointer (some ⟨q,0,.none⟩),.pointer (some ⟨p,0,.none⟩)] w fun e w'=> e= .returned (.tuple #[])/\At3 q p b w w' (zan s (za0 s t m).1) 129 (za0 s t m).2:=by
 have hat64:0<=t.at'/\t.at' < 64:=by have:=hf.bd;omega
 rw [zl6 s t m hdn hn]
 obtain ⟨hpx,hph⟩:=hf.page hat
 have hcpp:=fun Y=> planPage_any s.p s.c s.m t.at' Y
 rw [hpx] at hcpp ⊢
 have hst:=fun Y (hY:zaq Y p b m)=> zba p b m t.c (s.c + t.at') 0 Y hY hph (by decide) hs
 have htn:=fun Y (hY:zaa Y q (zan s t) 129)=> zek q s t 6 9 Y hY hat64
 generalize s.c + t.at'=pg at *
 dsimp only
 obtain ⟨t2,ht2⟩:∃ t2,t2=t.turn s 6 9:=⟨_,rfl⟩
 rw [<- ht2] at htn ⊢
 clear ht2 hpx hph hf hat64
 obtain ⟨sp,sc,sm⟩:=s
 obtain ⟨tc,td,tn,tw,tby,ta,ti,pk,pa,pb,terr,tdone⟩:=t
 dsimp only at hdn hn hat hcpp hst htn ⊢
 subst hdn hn
 replace hcpp:=hd' hcpp
 replace hst:=hd' hst
 replace htn:=hd' htn
 have lq:=h0.lt
 obtain ⟨c0,c1,c2,c3⟩:=ci4 sp sc sm tc h0.cell
 have c5:=ci 8 (h0.cell 5)
 have c8:=ci ta (h0.cell 8)
 clear hat
 go_enter Tryz.func167,Tryz.ntmps167
 go_upto_region 1 with fail
 refine zad 14 (by kernel_rfl) (by kernel_rfl) ?_
 dsimp only [List.take,List.drop]
 repeat (go_big_quiet_step ((first | (go_at_call 59;exact zam (hcpp.out _)) | fail)))
 refine wpQuiet_nil ?_
 rintro _ ⟨e',rfl⟩
 have hZ:=h0.below e'.below
 generalize e'.w=Z at *
 change wpList _ _ _ _ _ Z
 clear lq h0
 go_wp2_with (first
  | (go_at_call 118;(with_reducible refine (hst.out _ hZ.wds).mono ?_);rintro r w2 ⟨rfl,hw2,ho2⟩;have hA:=hZ.access hw2 ho2)
  | (go_at_call 173;(with_reducible refine (htn.out _ hA.row).mono ?_);rintro r w3 hT;obtain rfl:=hT.ret)
  | fail)
 go_returns
 exact ⟨rfl,hA.turned hT⟩
theorem zjn (s:Sh) (t:Ad) (m:Mem) (h:t.done=false) (h0:t.next=10):za0 s t m=(if zal s.p s.c s.m t.at' (m.get (zak s.p s.c s.m t.at'))=true/\pgK s t.at' (m.get (zak s.p s.c s.m t.at'))=2 then { t.page s t.at' (m.get (zak s.p s.c s.m t.at')) with next:=11,i:=0 } else (t.page s t.at' (m.get (zak s.p s.c s.m t.at'))).turn s 10 13,m.load t.c (zak s.p s.c s.m t.at')):=by
 unfold za0
 simp [h,h0,z1l,zpw]
theorem zju (s:Sh) (t:Ad) (m:Mem) (h:t.done=false) (h0:t.next=11):za0 s t m=(if m.get (zbk s.p s.c s.m t.at' t.i)=zc3 2 t.d then { t with next:=12 } else t.slot s,m.load t.c (zbk s.p s.c s.m t.at' t.i)):=by
 unfold za0
 simp [h,h0,wayW]
theorem zkg (s:Sh) (t:Ad) (m:Mem) (h:t.done=false) (h0:t.next=12):za0 s t m=(t.slot s,m.store t.c (zbk s.p s.c s.m t.at' t.i) (zc3 1 t.pa)):=by
 unfold za0
 simp [h,h0,zc8]
theorem zj8 (s:Sh) (t:Ad) (m:Mem) (h:t.done=false) (h0:t.next=13):za0 s t m=(t.fin 0,m.store t.c (zae s.p s.c s.m t.d) (za8 4 0)):=by
 unfold za0
 simp [h,h0]
theorem z7h (q p b:Nat) (s:Sh) (t:Ad) (m:Mem) (w:World) (h0:At3 q p b w w (zan s t) 129 m) (hf:Fits s m) (hs:m.st < 1000000000) (hdn:t.done=false) (hn:t.next=10) (hat:0<=t.at'/\t.at' < s.p):
  Calls Tryz.prog 168 #[.pointer (some ⟨q,0,.none⟩),.pointer (some ⟨p,0,.none⟩)] w fun e w'=> e= .returned (.tuple #[])/\At3 q p b w w' (zan s (za0 s t m).1) 129 (za0 s t m).2:=by
 have hat64:0<=t.at'/\t.at' < 64:=by have:=hf.bd;omega
 rw [zjn s t m hdn hn]
 have hrd:=zim q p b s t m t.at' w h0 hf hs hat
 generalize zak s.p s.c s.m t.at'=pg at *
 generalize m.get pg=x at *
 unfold Ad.page
 have htn:=fun Y (hY:zaa Y q (zan s { t with pk:=pgK s t.at' x,pa:=pgP s t.at' x 0,pb:=pgP s t.at' x 1 }) 129)=> zek q s { t with pk:=pgK s t.at' x,pa:=pgP s t.at' x 0,pb:=pgP s t.at' x 1 } 10 13 Y hY hat64
 generalize zal s.p s.c s.m t.at' x=B at *
 generalize pgK s t.at' x=e0 at *
 generalize pgP s t.at' x 0=e1 at *
 generalize pgP s t.at' x 1=e2 at *
 dsimp only
 obtain ⟨t2,ht2,ht2'⟩:∃ t2:Ad,Hid (t2=if B=true/\e0=2 then { t with pk:=e0,pa:=e1,pb:=e2,next:=11,i:=0 } else ({ t with pk:=e0,pa:=e1,pb:=e2 }:Ad).turn s 10 13)/\t2=_:=⟨_,hd' rfl,rfl⟩
 rw [<- ht2']
 clear ht2' hat64
 obtain ⟨sp,sc,sm⟩:=s
 obtain ⟨tc,td,tn,tw,tby,ta,ti,pk,pa,pb,terr,tdone⟩:=t
 dsimp only at hdn hn hat hrd htn ht2 ⊢
 subst hdn hn
 replace hrd:=hd' hrd
 replace htn:=hd' htn
 have lq:=h0.lt
 have c5:=ci 10 (h0.cell 5)
 have c8:=ci ta (h0.cell 8)
 clear hf hs
 go_enter Tryz.func168,Tryz.ntmps168
 go_upto_region 5 with (first | (go_at_call 172;(with_reducible refine hrd.out.mono ?_);rintro r w1 ⟨rfl,hA⟩) | fail)
 have hBx:=hA.alloc (.cells #[.int .i64 e0,.int .i64 e1,.int .i64 e2] 120)
 have hE:zaa (w1.alloc (.cells #[.int .i64 e0,.int .i64 e1,.int .i64 e2] 120)) w1.heap.size #[.int .i64 e0,.int .i64 e1,.int .i64 e2] 120:=heap_alloc_new _ _
 have hEq:w1.heap.size≠q:=fun e=> by have:=hA.lt;omega
 generalize w1.alloc (.cells #[.int .i64 e0,.int .i64 e1,.int .i64 e2] 120)=Y at *
 obtain ⟨E,hEE,hEE'⟩:=hidv w1.heap.size
 simp only [<- hEE'] at hE hEq ⊢
 clear hEE' hEE hA c5 c8 hrd
 have lY:=hBx.lt
 have lE:=hE.lt
 obtain ⟨g0,g1,g2⟩:=ci3 e0 e1 e2 hE.cell
 have c5:=ci 10 (hBx.cell 5)
 have c9:=ci ti (hBx.cell 9)
 have c10:=ci pk (hBx.cell 10)
 have c11:=ci pa (hBx.cell 11)
 have c12:=ci pb (hBx.cell 12)
 have zf:=hBx.free
 have hC:=((hBx.set 10 (.int .i64 e0)).set 11 (.int .i64 e1)).set 12 (.int .i64 e2)
 by_cases hc:B=true/\e0=2
 ·replace ht2:=hd' (ht2.out.trans (if_pos hc))
  obtain ⟨rfl,rfl⟩:=hc
  have hD:=((hC.set 5 (.int .i64 11)).set 9 (.int .i64 0))
  clear htn
  go_wp2_with fail
  go_returns
  exact ⟨rfl,by rw [ht2.out];exact hD⟩
 ·replace ht2:=hd' (ht2.out.trans (if_neg hc))
  have hne:B=false\/(B=true/\(e0==2)=false):=by
   cases B
   ·exact .inl rfl
   ·exact .inr ⟨rfl,by simpa using hc⟩
  clear hc
  rcases hne with rfl | ⟨rfl,hne⟩
  all_goals
   go_wp2_with (first | (go_at_call 173;(with_reducible refine (htn.out _ hC.row).mono ?_);rintro r w3 hT;obtain rfl:=hT.ret) | fail)
   go_returns
   exact ⟨rfl,by rw [ht2.out];exact hC.turned hT⟩
theorem z7x (q p b:Nat) (s:Sh) (t:Ad) (m:Mem) (w:World) (h0:At3 q p b w w (zan s t) 129 m) (hf:Fits s m) (hs:m.st < 1000000000) (hdn:t.done=false) (hn:t.next=11) (hat:0<=t.at'/\t.at' < s.p) (hi:0<=t.i/\t.i < 16):
  Calls Tryz.prog 168 #[.pointer (some ⟨q,0,.none⟩),.pointer (some ⟨p,0,.none⟩)] w fun e w'=> e= .returned (.tuple #[])/\At3 q p b w w' (zan s (za0 s t m).1) 129 (za0 s t m).2:=by
 have hat64:0<=t.at'/\t.at' < 64:=by have:=hf.bd;omega
 rw [zju s t m hdn hn]
 obtain ⟨hpx,hph⟩:=hf.slot hat hi
 have hcpp:=fun Y=> zbm s.p s.c s.m t.at' t.i Y
 rw [hpx] at hcpp ⊢
 have hlp:=fun Y (hY:zaq Y p b m)=> zc1 p b m t.c (s.c + s.p + t.at' * 16 + t.i) Y hY hph hs
 have hps:=fun Y=> zbl 2 t.d Y
 have hsl:=fun Y (hY:zaa Y q (zan s t) 129)=> zo4 q s t Y hY hat64 hi
 generalize s.c + s.p + t.at' * 16 + t.i=pg at *
 generalize m.get pg=x at *
 generalize zc3 2 t.d=y at *
 dsimp only
 obtain ⟨t2,ht2,ht2'⟩:∃ t2:Ad,Hid (t2=if x=y then { t with next:=12 } else t.slot s)/\t2=_:=⟨_,hd' rfl,rfl⟩
 rw [<- ht2']
 clear ht2' hpx hph hf hat64 hi
 obtain ⟨sp,sc,sm⟩:=s
 obtain ⟨tc,td,tn,tw,tby,ta,ti,pk,pa,pb,terr,tdone⟩:=t
 dsimp only at hdn hn hat hcpp hlp hps hsl ht2 ⊢
 subst hdn hn
 replace hcpp:=hd' hcpp
 replace hlp:=hd' hlp
 replace hps:=hd' hps
 replace hsl:=hd' hsl
 have lq:=h0.lt
 have c5:=ci 11 (h0.cell 5)
 clear hat
 go_enter Tryz.func168,Tryz.ntmps168
 go_upto_region 10 with fail
 refine zcl (x:=zbb 2) (ld:=18) (v:= .int .u64 x) (ts:= [60,64,77])
  (K0:=fun Y=> At3 q p b w Y (zan ⟨sp,sc,sm⟩ ⟨tc,td,11,tw,tby,ta,ti,pk,pa,pb,terr,false⟩) 129 m) (K1:=fun Y=> At3 q p b w Y (zan ⟨sp,sc,sm⟩ ⟨tc,td,11,tw,tby,ta,ti,pk,pa,pb,terr,false⟩) 129 (m.load tc pg))
  (by kernel_rfl) (by simp only [zbb,zfq,zej,nopO,nopC,Nat.reduceBEq,Bool.or_false,Bool.or_true,Bool.false_eq_true,↓reduceIte,Nat.reduceAdd];exact rfl) (by kernel_rfl) (by kernel_rfl) (by kernel_rfl) (by simp [zbb]) (by simp [zbb]) (by simp [zbb]) (by simp [zbb]) (by kernel_rfl) (by simp [zbb]) (by simp [zbb])
  ⟨⟨fun Y Y' h1 h2 h3=> h1.far h2 h3 h0.only.size⟩,⟨fun Y Y' h1 h2 h3=> h1.far h2 h3 h0.only.size⟩⟩ h0.drew ?_
 apply Exists.intro
 refine ⟨fun B hb hs=> ?_,fun h=> (by simp [zbb] at h),?_,?_⟩
 case refine_1=>
  have hrB:zaa B q (zan ⟨sp,sc,sm⟩ ⟨tc,td,11,tw,tby,ta,ti,pk,pa,pb,terr,false⟩) 129:=hb.elim (fun h=> h.row) (fun h=> h.row)
  have lB:=hrB.lt
  obtain ⟨k0,k1,k2,k3,k4⟩:=ci5 sp sc sm tc td hrB.cell
  have k8:=ci ta (hrB.cell 8)
  have k9:=ci ti (hrB.cell 9)
  repeat (go_big_quiet_step ((first | (go_at_call 120;exact zam (hcpp.out _)) | (go_at_call 121;exact zam (hps.out _)) | fail)))
  exact wpQuiet_nil rfl
 case refine_2=> exact zcz rfl (fun _ _=> by simp [go_sem]) fun Y hY2 hs=> (hlp.out Y hY2.wds).mono fun r Y' ⟨h1,h2,h3⟩=> ⟨h1,hY2.load h2 h3,h3.weak fun k hk=> hk ▸ Nat.lt_of_lt_of_le hY2.ls.2.1 h0.only.size⟩
 case refine_3=>
  intro a w4 M hf
  obtain ⟨rfl,hbig,hA,_⟩:=hf
  simp only [zbb,vput,List.size_toArray,List.length_cons,List.length_nil,Nat.reduceAdd,Nat.reduceLT,decide_false,Bool.false_eq_true,if_false]
  have z5:=ci 11 (hA.cell 5)
  have zf:=hA.free
  have lA:=hA.lt
  clear h0 hlp hcpp hps c5
  rcases (by by_cases h:x=y <;> simp [h]:x=y\/(x≠y/\(x==y)=false)) with rfl | ⟨hk,hk2⟩
  ·replace ht2:=hd' (ht2.out.trans (if_pos rfl))
   clear hsl
   go_wp2_with fail
   go_returns
   exact ⟨rfl,by rw [ht2.out];exact hA.set 5 _⟩
  ·replace ht2:=hd' (ht2.out.trans (if_neg hk))
   go_wp2_with (first | (go_at_call 165;(with_reducible refine (hsl.out _ hA.row).mono ?_);rintro r w3 hT;obtain rfl:=hT.ret) | fail)
   go_returns
   exact ⟨rfl,by rw [ht2.out];exact hA.turned hT⟩
theorem z6v (q p b:Nat) (s:Sh) (t:Ad) (m:Mem) (w:World) (h0:At3 q p b w w (zan s t) 129 m) (hf:Fits s m) (hs:m.st < 1000000000) (hdn:t.done=false) (hn:t.next=12) (hat:0<=t.at'/\t.at' < s.p) (hi:0<=t.i/\t.i < 16):
  Calls Tryz.prog 168 #[.pointer (some ⟨q,0,.none⟩),.pointer (some ⟨p,0,.none⟩)] w fun e w'=> e= .returned (.tuple #[])/\At3 q p b w w' (zan s (za0 s t m).1) 129 (za0 s t m).2:=by
 have hat64:0<=t.at'/\t.at' < 64:=by have:=hf.bd;omega
 rw [zkg s t m hdn hn]
 obtain ⟨hpx,hph⟩:=hf.slot hat hi
 have hcpp:=fun Y=> zbm s.p s.c s.m t.at' t.i Y
 rw [hpx] at hcpp ⊢
 have hst:=fun Y (hY:zaq Y p b m)=> zba p b m t.c (s.c + s.p + t.at' * 16 + t.i) (zc3 1 t.pa) Y hY hph (zch _ _) hs
 have hps:=fun Y=> zbl 1 t.pa Y
 have hsl:=fun Y (hY:zaa Y q (zan s t) 129)=> zo4 q s t Y hY hat64 hi
 generalize s.c + s.p + t.at' * 16 + t.i=pg at *
 generalize zc3 1 t.pa=y at *
 dsimp only
 obtain ⟨t2,ht2⟩:∃ t2,t2=t.slot s:=⟨_,rfl⟩
 rw [<- ht2] at hsl ⊢
 clear ht2 hpx hph hf hat64 hi
 obtain ⟨sp,sc,sm⟩:=s
 obtain ⟨tc,td,tn,tw,tby,ta,ti,pk,pa,pb,terr,tdone⟩:=t
 dsimp only at hdn hn hat hcpp hst hps hsl ⊢
 subst hdn hn
 replace hcpp:=hd' hcpp
 replace hst:=hd' hst
 replace hps:=hd' hps
 replace hsl:=hd' hsl
 have lq:=h0.lt
 obtain ⟨c0,c1,c2,c3⟩:=ci4 sp sc sm tc h0.cell
 have c5:=ci 12 (h0.cell 5)
 have c8:=ci ta (h0.cell 8)
 have c9:=ci ti (h0.cell 9)
 have c11:=ci pa (h0.cell 11)
 clear hat
 go_enter Tryz.func168,Tryz.ntmps168
 go_upto_region 14 with fail
 refine zad 25 (by kernel_rfl) (by kernel_rfl) ?_
 dsimp only [List.take,List.drop]
 repeat (go_big_quiet_step ((first | (go_at_call 120;exact zam (hcpp.out _)) | (go_at_call 121;exact zam (hps.out _)) | fail)))
 refine wpQuiet_nil ?_
 rintro _ ⟨e',rfl⟩
 have hZ:=h0.below e'.below
 generalize e'.w=Z at *
 change wpList _ _ _ _ _ Z
 clear lq h0
 go_wp2_with (first
  | (go_at_call 118;(with_reducible refine (hst.out _ hZ.wds).mono ?_);rintro r w2 ⟨rfl,hw2,ho2⟩;have hA:=hZ.access hw2 ho2)
  | (go_at_call 165;(with_reducible refine (hsl.out _ hA.row).mono ?_);rintro r w3 hT;obtain rfl:=hT.ret)
  | fail)
 go_returns
 exact ⟨rfl,hA.turned hT⟩
theorem z7k (q p b:Nat) (s:Sh) (t:Ad) (m:Mem) (w:World) (h0:At3 q p b w w (zan s t) 129 m) (hf:Fits s m) (hs:m.st < 1000000000) (hdn:t.done=false) (hn:t.next=13) (hat:0<=t.at'/\t.at' < s.p) (hd:0<=t.d/\t.d < s.c):
  Calls Tryz.prog 168 #[.pointer (some ⟨q,0,.none⟩),.pointer (some ⟨p,0,.none⟩)] w fun e w'=> e= .returned (.tuple #[])/\At3 q p b w w' (zan s (za0 s t m).1) 129 (za0 s t m).2:=by
 have hat64:0<=t.at'/\t.at' < 64:=by have:=hf.bd;omega
 rw [zj8 s t m hdn hn]
 obtain ⟨hpx,hph⟩:=hf.status hd
 have hcpp:=fun Y=> zau s.p s.c s.m t.d Y
 rw [hpx] at hcpp ⊢
 have hst:=fun Y (hY:zaq Y p b m)=> zba p b m t.c t.d (za8 4 0) Y hY hph (zdz _ _) hs
 have hps:=fun Y=> zgn 4 0 Y
 have hend:=fun Y (hY:zaa Y q (zan s t) 129)=> zhr q s t 0 Y hY
 generalize za8 4 0=y at *
 dsimp only
 obtain ⟨t2,ht2⟩:∃ t2,t2=t.fin 0:=⟨_,rfl⟩
 rw [<- ht2] at hend ⊢
 clear ht2 hpx hph hf hat64 hd
 obtain ⟨sp,sc,sm⟩:=s
 obtain ⟨tc,td,tn,tw,tby,ta,ti,pk,pa,pb,terr,tdone⟩:=t
 dsimp only at hdn hn hat hcpp hst hps hend ⊢
 subst hdn hn
 replace hcpp:=hd' hcpp
 replace hst:=hd' hst
 replace hps:=hd' hps
 replace hend:=hd' hend
 have lq:=h0.lt
 obtain ⟨c0,c1,c2,c3,c4,c5⟩:=ci6 sp sc sm tc td 13 h0.cell
 clear hat
 go_enter Tryz.func168,Tryz.ntmps168
 go_upto_region 1 with fail
 refine zad 15 (by kernel_rfl) (by kernel_rfl) ?_
 dsimp only [List.take,List.drop]
 repeat (go_big_quiet_step ((first | (go_at_call 14;exact zam (hcpp.out _)) | (go_at_call 171;exact zam (hps.out _)) | fail)))
 refine wpQuiet_nil ?_
 rintro _ ⟨e',rfl⟩
 have hZ:=h0.below e'.below
 generalize e'.w=Z at *
 change wpList _ _ _ _ _ Z
 clear lq h0
 go_wp2_with (first
  | (go_at_call 118;(with_reducible refine (hst.out _ hZ.wds).mono ?_);rintro r w2 ⟨rfl,hw2,ho2⟩;have hA:=hZ.access hw2 ho2)
  | (go_at_call 55;(with_reducible refine (hend.out _ hA.row).mono ?_);rintro r w3 hT;obtain rfl:=hT.ret)
  | fail)
 go_returns
 exact ⟨rfl,hA.turned hT⟩
theorem zl8 (s:Sh) (t:Ad) (m:Mem) (h:t.done=false) (h0:t.next=9):za0 s t m=(if t.i + 1=s.m then { t with i:=0,next:=10 } else { t with i:=t.i + 1 },m.store t.c (ze9 s.p s.c s.m t.d t.i) 0):=by
 unfold za0
 simp [h,h0]
theorem zkx (s:Sh) (t:Ad) (m:Mem) (h:t.done=true):za0 s t m=(t,m):=by
 unfold za0
 simp [h]
structure adOk (s:Sh) (t:Ad):Prop where
 cl:t.done=false->mayB s.p s.c s.m=true/\(0<=t.c/\t.c < s.c)/\(0<=t.d/\t.d < s.c)/\(0<=t.next/\t.next<=13)/\(0<=t.at'/\t.at' < s.p)/\(t.next=1->0<=t.who/\t.who < s.c)/\(t.next=4->0<=t.pa/\t.pa < s.p)/\
  (t.next=7->0<=t.i/\t.i < 16)/\(t.next=9->0<=t.i/\t.i < s.m)/\(t.next=11\/t.next=12->0 < zah t.pa/\0<=t.i/\t.i < zah t.pa)
theorem zh9 {s:Sh} (t:Ad) (e:Int):adOk s (t.fin e):=⟨fun h=> by cases h⟩
theorem z7f (s:Sh) (c d:Int):adOk s (zix s c d):=by
 unfold zix
 dsimp only
 split
 ·exact zh9 _ _
 ·rename_i h
  have h1:=zbe (by omega:0<=zae s.p s.c s.m c)
  have h2:=zbe (by omega:0<=zae s.p s.c s.m d)
  have hb:=zar.1 h1.1
  exact ⟨fun _=> ⟨h1.1,h1.2,h2.2,by dsimp only;omega,by dsimp only;omega,fun e=> by dsimp only at e;omega,fun e=> by dsimp only at e;omega,fun e=> by dsimp only at e;omega,fun e=> by dsimp only at e;omega,fun e=> by dsimp only at e;omega⟩⟩
theorem zsf {s:Sh} {t:Ad} {again next:Int} (h1:mayB s.p s.c s.m=true) (h2:0<=t.c/\t.c < s.c) (h3:0<=t.d/\t.d < s.c) (h4:0<=t.at'/\t.at' < s.p) (ha:again=3\/again=6\/again=10) (hn:next=6\/next=9\/next=13):adOk s (t.turn s again next):=by
 have hb:=zar.1 h1
 have hk:=zp2 s t again next
 simp only [beq_eq_false_iff_ne,ne_eq] at hk
 rcases hk with ⟨k1,k2,k3,e⟩ | ⟨k1,k2,k3,e⟩ | ⟨k1,k2,e⟩ | ⟨k1,k2,k3,e⟩ | ⟨k1,k2,k3,e⟩ | ⟨k1,k2,e⟩
 all_goals
  rw [e]
  refine ⟨fun _=> ⟨h1,h2,h3,?_,?_,fun e=> ?_,fun e=> ?_,fun e=> ?_,fun e=> ?_,fun e=> ?_⟩⟩
  all_goals try dsimp only at e
  all_goals dsimp only
  all_goals omega
theorem zs9 {s:Sh} {t:Ad} (h1:mayB s.p s.c s.m=true) (h2:0<=t.c/\t.c < s.c) (h3:0<=t.d/\t.d < s.c) (h4:0<=t.at'/\t.at' < s.p) (h5:0 < zah t.pa/\0<=t.i/\t.i < zah t.pa):adOk s (t.slot s):=by
 unfold Ad.slot
 split
 ·exact zsf h1 h2 h3 h4 (.inr (.inr rfl)) (.inr (.inr rfl))
 ·refine ⟨fun _=> ⟨h1,h2,h3,?_,h4,fun e=> ?_,fun e=> ?_,fun e=> ?_,fun e=> ?_,fun e=> ?_⟩⟩
  all_goals try dsimp only at e
  all_goals dsimp only
  all_goals omega
theorem z0s {s:Sh} {t:Ad} (m:Mem) (h:adOk s t):adOk s (za0 s t m).1:=by
 rcases Bool.eq_false_or_eq_true t.done with hd | hd
 ·rw [zkx s t m hd];exact h
 obtain ⟨h1,h2,h3,h4,h5,c1,c4,c7,c9,c11⟩:=h.cl hd
 have hb:=zar.1 h1
 have stay:∀ (u:Ad),u.c=t.c->u.d=t.d->u.at'=t.at'->(0<=u.next/\u.next<=13)->u.next≠1->u.next≠4->(u.next=7->0<=u.i/\u.i < 16)->(u.next=9->0<=u.i/\u.i < s.m)->(u.next=11\/u.next=12->0 < zah u.pa/\0<=u.i/\u.i < zah u.pa)->adOk s u:=fun u e1 e2 e3 e4 e5 e6 e7 e9 e11=>
  ⟨fun _=> ⟨h1,by rw [e1];exact h2,by rw [e2];exact h3,e4,by rw [e3];exact h5,fun e=> absurd e e5,fun e=> absurd e e6,e7,e9,e11⟩⟩
 have turn:∀ (u:Ad) again next,u.c=t.c->u.d=t.d->u.at'=t.at'->(again=3\/again=6\/again=10)->(next=6\/next=9\/next=13)->adOk s (u.turn s again next):=fun u a n e1 e2 e3 ha hn=>
  zsf h1 (by rw [e1];exact h2) (by rw [e2];exact h3) (by rw [e3];exact h5) ha hn
 rcases (by omega:t.next=0\/t.next=1\/t.next=2\/t.next=3\/t.next=4\/t.next=5\/t.next=6\/t.next=7\/t.next=8\/t.next=9\/t.next=10\/t.next=11\/t.next=12\/t.next=13) with n | n | n | n | n | n | n | n | n | n | n | n | n | n
 ·rw [zl2 s t m hd n]
  unfold Ad.asked
  dsimp only
  split
  ·exact stay _ rfl rfl rfl (by dsimp only;omega) (by dsimp only;omega) (by dsimp only;omega) (fun e=> by dsimp only at e;omega) (fun e=> by dsimp only at e;omega) (fun e=> by dsimp only at e;omega)
  split
  ·exact zh9 _ _
  split
  ·exact zh9 _ _
  ·rename_i hx
   have hx:=zbe (by omega:0<=zae s.p s.c s.m (zda (m.get (zae s.p s.c s.m t.d))))
   exact ⟨fun _=> ⟨h1,h2,h3,by dsimp only;omega,h5,fun _=> hx.2,fun e=> by dsimp only at e;omega,fun e=> by dsimp only at e;omega,fun e=> by dsimp only at e;omega,fun e=> by dsimp only at e;omega⟩⟩
 ·rw [zmf s t m hd n]
  dsimp only
  split
  ·exact zh9 _ _
  ·exact stay _ rfl rfl rfl (by dsimp only;omega) (by dsimp only;omega) (by dsimp only;omega) (fun e=> by dsimp only at e;omega) (fun e=> by dsimp only at e;omega) (fun e=> by dsimp only at e;omega)
 ·rw [zlx s t m hd n]
  dsimp only
  split
  ·exact stay _ rfl rfl rfl (by dsimp only;omega) (by dsimp only;omega) (by dsimp only;omega) (fun e=> by dsimp only at e;omega) (fun e=> by dsimp only at e;omega) (fun e=> by dsimp only at e;omega)
  ·exact zh9 _ _
 ·rw [zl7 s t m hd n]
  dsimp only
  split
  ·rename_i hk
   have hk':=(zpw s t.at' (m.get (zak s.p s.c s.m t.at')) 4).2 hk
   have hp:=zpu hk'.1 hk'.2
   refine ⟨fun _=> ⟨h1,h2,h3,by dsimp only;omega,h5,fun e=> by dsimp only at e;omega,fun _=> ?_,fun e=> by dsimp only at e;omega,fun e=> by dsimp only at e;omega,fun e=> by dsimp only at e;omega⟩⟩
   show 0<=pgP s t.at' (m.get (zak s.p s.c s.m t.at')) 0/\pgP s t.at' (m.get (zak s.p s.c s.m t.at')) 0 < s.p
   unfold pgP
   rw [if_pos hk.1]
   omega
  ·exact turn _ _ _ rfl rfl rfl (.inl rfl) (.inl rfl)
 ·rw [zmc s t m hd n]
  dsimp only
  split
  ·exact stay _ rfl rfl rfl (by dsimp only;omega) (by dsimp only;omega) (by dsimp only;omega) (fun e=> by dsimp only at e;omega) (fun e=> by dsimp only at e;omega) (fun e=> by dsimp only at e;omega)
  ·exact turn _ _ _ rfl rfl rfl (.inl rfl) (.inl rfl)
 ·rw [zl5 s t m hd n]
  exact turn _ _ _ rfl rfl rfl (.inl rfl) (.inl rfl)
 ·rw [zmg s t m hd n]
  dsimp only
  split
  ·exact stay _ rfl rfl rfl (by dsimp only;omega) (by dsimp only;omega) (by dsimp only;omega) (fun e=> by dsimp only;omega) (fun e=> by dsimp only at e;omega) (fun e=> by dsimp only at e;omega)
  ·exact turn _ _ _ rfl rfl rfl (.inr (.inl rfl)) (.inr (.inl rfl))
 ·rw [zl3 s t m hd n]
  have c7:=c7 n
  dsimp only
  split
  ·exact stay _ rfl rfl rfl (by dsimp only;omega) (by dsimp only;omega) (by dsimp only;omega) (fun e=> by dsimp only at e;omega) (fun e=> by dsimp only at e;omega) (fun e=> by dsimp only at e;omega)
  ·exact stay _ rfl rfl rfl (by dsimp only;omega) (by dsimp only;omega) (by dsimp only;omega) (fun e=> by dsimp only;omega) (fun e=> by dsimp only at e;omega) (fun e=> by dsimp only at e;omega)
 ·rw [zl6 s t m hd n]
  exact turn _ _ _ rfl rfl rfl (.inr (.inl rfl)) (.inr (.inl rfl))
 ·rw [zl8 s t m hd n]
  have c9:=c9 n
  dsimp only
  split
  ·exact stay _ rfl rfl rfl (by dsimp only;omega) (by dsimp only;omega) (by dsimp only;omega) (fun e=> by dsimp only at e;omega) (fun e=> by dsimp only at e;omega) (fun e=> by dsimp only at e;omega)
  ·exact stay _ rfl rfl rfl (by dsimp only;omega) (by dsimp only;omega) (by dsimp only;omega) (fun e=> by dsimp only at e;omega) (fun e=> by dsimp only;omega) (fun e=> by dsimp only at e;omega)
 ·rw [zjn s t m hd n]
  dsimp only
  split
  ·rename_i hk
   have hk':=(zpw s t.at' (m.get (zak s.p s.c s.m t.at')) 2).2 hk
   have hp:=(zdq hk'.1 hk'.2).2.2
   refine stay _ rfl rfl rfl (by dsimp only;omega) (by dsimp only;omega) (by dsimp only;omega) (fun e=> by dsimp only at e;omega) (fun e=> by dsimp only at e;omega) (fun _=> ?_)
   show 0 < zah (pgP s t.at' (m.get (zak s.p s.c s.m t.at')) 0)/\(0:Int)<=0/\0 < zah (pgP s t.at' (m.get (zak s.p s.c s.m t.at')) 0)
   unfold pgP
   rw [if_pos hk.1]
   omega
  ·exact turn _ _ _ rfl rfl rfl (.inr (.inr rfl)) (.inr (.inr rfl))
 ·rw [zju s t m hd n]
  have c11:=c11 (.inl n)
  dsimp only
  split
  ·exact stay _ rfl rfl rfl (by dsimp only;omega) (by dsimp only;omega) (by dsimp only;omega) (fun e=> by dsimp only at e;omega) (fun e=> by dsimp only at e;omega) (fun _=> c11)
  ·exact zs9 h1 h2 h3 h5 c11
 ·rw [zkg s t m hd n]
  exact zs9 h1 h2 h3 h5 (c11 (.inr n))
 ·rw [zj8 s t m hd n]
  exact zh9 _ _
end Go.Proofs.YthgekdlegbmehaaGreat
