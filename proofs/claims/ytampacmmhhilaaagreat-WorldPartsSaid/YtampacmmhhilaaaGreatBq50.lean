/- Texts bound together: AudP AudW AudX AudC. -/
import Derived.Test.YtampacmmhhilaaaGreatBq22

set_option linter.all false
set_option maxHeartbeats 8000000
set_option maxRecDepth 100000
namespace Go.Proofs.YtampacmmhhilaaaGreat

section

structure Hp where
 p:Int
 c:Int
 m:Int
 xs:List Int
def wd (xs:List Int) (i:Int):Int:=xs.getD i.toNat 0
theorem yc8 {xs:List Int} {i:Int} (h0:0<=i) (h1:i < xs.length):wd xs i=xs[i.toNat]'(by omega):=by
 unfold wd
 rw [List.getD_eq_getElem?_getD,List.getElem?_eq_getElem (by omega)]
 rfl
def Hp.ok (h:Hp):Bool:=mayB h.p h.c h.m && decide (zb6 h.p h.c h.m<=(h.xs.length:Int))
def Hp.pw (h:Hp) (a:Int):Int:=wd h.xs (h.c + a)
def Hp.pb (h:Hp) (a:Int):Bool:=zal h.p h.c h.m a (h.pw a)
def Hp.pk (h:Hp) (a:Int):Int:=if h.pb a=true then zbx (h.pw a) else 0
def Hp.pa (h:Hp) (a:Int):Int:=if h.pb a=true then za2 (h.pw a) 0 else 0
def Hp.pn (h:Hp) (a:Int):Int:=if h.pb a=true then za2 (h.pw a) 1 else 0
def Hp.sw (h:Hp) (a i:Int):Int:=wd h.xs (h.c + h.p + a * 16 + i)
def Hp.sk (h:Hp) (a i:Int):Int:=if zet (h.sw a i)=true then zbx (h.sw a i) else 0
def Hp.sa (h:Hp) (a i:Int):Int:=if zet (h.sw a i)=true then za2 (h.sw a i) 0 else 0
def Hp.hd (h:Hp) (a:Int):Int:=if (h.pb a && h.pk a==4)=true then h.pa a else a
def Hp.hb (h:Hp) (a:Int):Bool:=h.pb (h.hd a) && h.pk (h.hd a)==1
def Hp.hc (h:Hp) (a:Int):Int:=if h.hb a=true then h.pa (h.hd a) else 0
def ycd (x:Int):Bool:=za8 (zbx x) (za2 x 0)==x && zbx x==1
def Hp.lv (h:Hp) (x:Int):Bool:=mayB h.p h.c h.m && wi x 0 (h.c - 1) && ycd (wd h.xs x)
def Hp.op (h:Hp) (a:Int):Nat->Bool
 | 0=> true
 | i + 1=> h.op a i && h.sk a i==1
def Hp.fr (h:Hp) (a:Int):Bool:=if (h.pb a && h.pk a==2)=true then h.op a (zah (h.pa a)).toNat else h.pb a && h.pk a==0
def Hp.rw (h:Hp):Nat->Nat
 | 0=> 0
 | k + 1=> if h.fr k=true then h.rw k + 1 else 0
def Hp.fit (h:Hp):Prop:=∀ x ∈ h.xs,0<=x/\x < 18446744073709551616
theorem Hp.z95 {h:Hp} (hf:h.fit) (i:Int):0<=wd h.xs i/\wd h.xs i < 18446744073709551616:=by
 unfold wd
 rw [List.getD_eq_getElem?_getD]
 rcases Nat.lt_or_ge i.toNat h.xs.length with h1 | h1
 ·rw [List.getElem?_eq_getElem h1]
  exact hf _ (List.getElem_mem h1)
 ·rw [List.getElem?_eq_none h1]
  exact ⟨by decide,by decide⟩
theorem zpp {p c m a x:Int} (h:zal p c m a x=true):zkb p c a (zbx x) (za2 x 0) (za2 x 1)=true:=by
 unfold zal at h
 simp only [Bool.and_eq_true] at h
 exact h.2
theorem Hp.zq2 {h:Hp} {a:Int} (hp:h.pb a=true):zkb h.p h.c a (h.pk a) (h.pa a) (h.pn a)=true:=by
 unfold Hp.pk Hp.pa Hp.pn
 rw [if_pos hp,if_pos hp,if_pos hp]
 exact zpp hp
theorem Hp.z1z (h:Hp) (a:Int):(0<=h.pk a/\h.pk a<=15)/\(0<=h.pa a/\h.pa a<=255)/\0<=h.pn a/\h.pn a<=255:=by
 unfold Hp.pk Hp.pa Hp.pn
 have:=zw3 (h.pw a);have:=zgv (h.pw a) 0;have:=zgv (h.pw a) 1
 split <;> simp_all
theorem Hp.ygu {h:Hp} {a:Int} (hp:(h.pb a && h.pk a==4)=true):h.pa a < a/\a - 8 < h.pa a/\0<=h.pa a:=by
 simp only [Bool.and_eq_true,beq_iff_eq] at hp
 have:=h.zq2 hp.1
 rw [hp.2] at this
 simp [zkb] at this
 exact ⟨this.1,this.2,(h.z1z a).2.1.1⟩
theorem Hp.ygf {h:Hp} {a:Int} (hp:(h.pb a && h.pk a==2)=true):0<=h.pa a/\h.pa a<=3:=by
 simp only [Bool.and_eq_true,beq_iff_eq] at hp
 have:=h.zq2 hp.1
 rw [hp.2] at this
 simp [zkb] at this
 have:=(h.z1z a).2.1.1
 omega
theorem Hp.yfx {h:Hp} {a:Int} (h0:0<=a) (h1:a < h.p):0<=h.hd a/\h.hd a < h.p:=by
 unfold Hp.hd
 split
 ·rename_i hp;have:=Hp.ygu hp;omega
 ·exact ⟨h0,h1⟩
end

section

open Go.RowKit

abbrev shV (h:Hp):Value:= .agg #[.int .i64 h.p,.int .i64 h.c,.int .i64 h.m]
abbrev zzu (h:Hp) (v:Value):Value:= .agg #[.int .i64 h.p,.int .i64 h.c,.int .i64 h.m,v]
theorem z5c (h:Hp) (v:Value) (w:World) (hr:RdZ .u64 w v h.xs):
  Calls Tryz.prog 95 #[shV h,v] w fun e w'=> e= .returned (.tuple #[zzu h v,.bool h.ok])/\Below w.heap.size w w':=by
 obtain ⟨ao,cap,rfl,hcap,hcm,hrow⟩:=hr.cells
 clear hrow hr
 have hok:h.ok=(mayB h.p h.c h.m && decide (zb6 h.p h.c h.m<=(h.xs.length:Int))):=rfl
 have hm0:=zcc h.p h.c h.m
 have ht0:=zro h.p h.c h.m
 generalize h.xs.length=n at *
 generalize zb6 h.p h.c h.m=T at *
 generalize mayB h.p h.c h.m=mb at *
 replace hm0:=hd' hm0
 replace ht0:=hd' ht0
 rcases Bool.eq_false_or_eq_true mb with hmb | hmb
 case inr=>
  subst hmb
  rw [hok]
  clear hok
  go_enter Tryz.func95,Tryz.ntmps95
  go_upto_region 1 with fail
  obtain ⟨bS,bR,hsz,hbW⟩:=zc5 w (.cells #[.int .i64 h.p,.int .i64 h.c,.int .i64 h.m] 23) (.cells #[.int .i64 0,.int .i64 0,.int .i64 0,.slice none 0 0] 157)
  generalize (w.alloc (.cells #[.int .i64 h.p,.int .i64 h.c,.int .i64 h.m] 23)).alloc (.cells #[.int .i64 0,.int .i64 0,.int .i64 0,.slice none 0 0] 157)=W at *
  obtain ⟨H,hH,hH'⟩:=hidv w.heap.size
  rw [<- hH'] at bS bR hsz hbW ⊢
  clear hH'
  have c0:=zac bS 0
  have c1:=zac bS 1
  have c2:=zac bS 2
  have r0:=zac bR 0
  have r1:=zac bR 1
  have r2:=zac bR 2
  have r3:=zac bR 3
  have f0:=zax bR 0
  have f1:=zax bR 1
  have f2:=zax bR 2
  have f3:=zax bR 3
  have l0:H < W.heap.size:=by omega
  have l1:H + 1 < W.heap.size:=by omega
  refine wp_region_held_drew (S:=fun X=> X.cell? ⟨H,0,.none⟩=some (.int .i64 h.p)/\X.cell? ⟨H,1,.none⟩=some (.int .i64 h.c)/\X.cell? ⟨H,2,.none⟩=some (.int .i64 h.m)) (by kernel_rfl) ⟨c0,c1,c2⟩ (fun hHeld=> ?_)
  refine wpAnyH_take (i:=0) (v:= .agg #[.int .i64 h.p,.int .i64 h.c,.int .i64 h.m]) rfl (by kernel_rfl) (by kernel_rfl) (by kernel_rfl) (fun _ _ _ h=> h) (Or.inl ⟨by rfl,fun w2 ⟨q0,q1,q2⟩=> by go_simp⟩) (by assumption) ?_
  dsimp only [Act.put,List.getElem_toArray,List.getElem_cons_succ,List.getElem_cons_zero]
  simp only [List.setIfInBounds_toArray,List.set_cons_zero,List.set_cons_succ]
  refine wpAnyH_take (i:=1) (v:= .slice ao n cap) rfl (by kernel_rfl) (by kernel_rfl) (by kernel_rfl) (fun _ _ _ h=> h) (Or.inl ⟨by rfl,fun w2 ⟨q0,q1,q2⟩=> by go_simp⟩) (by assumption) ?_
  dsimp only [Act.put,List.getElem_toArray,List.getElem_cons_succ,List.getElem_cons_zero]
  simp only [List.setIfInBounds_toArray,List.set_cons_zero,List.set_cons_succ]
  refine wpAnyH_take (i:=2) (v:= .agg #[.int .i64 h.p,.int .i64 h.c,.int .i64 h.m,.slice ao n cap]) rfl (by kernel_rfl) (by kernel_rfl) (by kernel_rfl) (fun _ _ _ h=> h) (Or.inl ⟨by rfl,fun w2 ⟨q0,q1,q2⟩=> by go_simp⟩) (by assumption) ?_
  dsimp only [Act.put,List.getElem_toArray,List.getElem_cons_succ,List.getElem_cons_zero]
  simp only [List.setIfInBounds_toArray,List.set_cons_zero,List.set_cons_succ]
  refine wpAnyH_take (i:=3) (v:= .agg #[.int .i64 h.p,.int .i64 h.c,.int .i64 h.m]) rfl (by kernel_rfl) (by kernel_rfl) (by kernel_rfl) (fun _ _ _ h=> h) (Or.inl ⟨by rfl,fun w2 ⟨q0,q1,q2⟩=> by go_simp⟩) (by assumption) ?_
  dsimp only [Act.put,List.getElem_toArray,List.getElem_cons_succ,List.getElem_cons_zero]
  simp only [List.setIfInBounds_toArray,List.set_cons_zero,List.set_cons_succ]
  refine wpAnyH_ready (rs:= [4]) (by kernel_rfl) (by simp) ?_
  refine AllReadyH.cons rfl (fun K hK=> ?_) AllReadyH.nil
  rw [if_pos (by rfl)]
  go_simp
  refine (hm0.out _).mono ?_
  rintro e w1 ⟨rfl,rfl⟩
  dsimp only
  have hBa:Below W.heap.size W (W.drew.alloc (.cells #[.int .i64 h.p,.int .i64 h.c,.int .i64 h.m] 23)):=(br.drew).alloc lr _
  have hBw:=hbW.trans (hBa.mono (by omega))
  have c0':=zai hBa _ _ _ c0
  have c1':=zai hBa _ _ _ c1
  have c2':=zai hBa _ _ _ c2
  have r0':=zai hBa _ _ _ r0
  have r1':=zai hBa _ _ _ r1
  have r2':=zai hBa _ _ _ r2
  have r3':=zai hBa _ _ _ r3
  have fR':=fun o=> (zgi hBa (H + 1) o l1).trans (zax bR o)
  generalize W.drew.alloc (.cells #[.int .i64 h.p,.int .i64 h.c,.int .i64 h.m] 23)=W2 at *
  refine hK.out _ _ ⟨c0',c1',c2'⟩ (fun hHeld=> ?_)
  clear hK K
  refine wpAnyH_take (i:=5) (v:= .bool false) rfl (by kernel_rfl) (by kernel_rfl) (by kernel_rfl) (fun _ _ _ h=> h) (Or.inl ⟨by rfl,fun w2 ⟨q0,q1,q2⟩=> by go_simp⟩) (by assumption) ?_
  dsimp only [Act.put,List.getElem_toArray,List.getElem_cons_succ,List.getElem_cons_zero]
  simp only [List.setIfInBounds_toArray,List.set_cons_zero,List.set_cons_succ]
  refine wpAnyH_take (i:=6) (v:=undef) rfl (by kernel_rfl) (by kernel_rfl) (by kernel_rfl) (fun _ _ _ h=> h) (Or.inr ⟨by rfl,rfl⟩) (by assumption) ?_
  dsimp only [Act.put,List.getElem_toArray,List.getElem_cons_succ,List.getElem_cons_zero]
  simp only [List.setIfInBounds_toArray,List.set_cons_zero,List.set_cons_succ]
  refine wpAnyH_take (i:=7) (v:=undef) rfl (by kernel_rfl) (by kernel_rfl) (by kernel_rfl) (fun _ _ _ h=> h) (Or.inr ⟨by rfl,rfl⟩) (by assumption) ?_
  dsimp only [Act.put,List.getElem_toArray,List.getElem_cons_succ,List.getElem_cons_zero]
  simp only [List.setIfInBounds_toArray,List.set_cons_zero,List.set_cons_succ]
  refine wpAnyH_take (i:=8) (v:=undef) rfl (by kernel_rfl) (by kernel_rfl) (by kernel_rfl) (fun _ _ _ h=> h) (Or.inr ⟨by rfl,rfl⟩) (by assumption) ?_
  dsimp only [Act.put,List.getElem_toArray,List.getElem_cons_succ,List.getElem_cons_zero]
  simp only [List.setIfInBounds_toArray,List.set_cons_zero,List.set_cons_succ]
  refine wpAnyH_take (i:=9) (v:=undef) rfl (by kernel_rfl) (by kernel_rfl) (by kernel_rfl) (fun _ _ _ h=> h) (Or.inr ⟨by rfl,rfl⟩) (by assumption) ?_
  dsimp only [Act.put,List.getElem_toArray,List.getElem_cons_succ,List.getElem_cons_zero]
  simp only [List.setIfInBounds_toArray,List.set_cons_zero,List.set_cons_succ]
  refine wpAnyH_take (i:=10) (v:=undef) rfl (by kernel_rfl) (by kernel_rfl) (by kernel_rfl) (fun _ _ _ h=> h) (Or.inr ⟨by rfl,rfl⟩) (by assumption) ?_
  dsimp only [Act.put,List.getElem_toArray,List.getElem_cons_succ,List.getElem_cons_zero]
  simp only [List.setIfInBounds_toArray,List.set_cons_zero,List.set_cons_succ]
  refine wpAnyH_take (i:=11) (v:= .bool false) rfl (by kernel_rfl) (by kernel_rfl) (by kernel_rfl) (fun _ _ _ h=> h) (Or.inl ⟨by rfl,fun w2 ⟨q0,q1,q2⟩=> by go_simp⟩) (by assumption) ?_
  dsimp only [Act.put,List.getElem_toArray,List.getElem_cons_succ,List.getElem_cons_zero]
  simp only [List.setIfInBounds_toArray,List.set_cons_zero,List.set_cons_succ]
  refine wpAnyH_ready (rs:= [12]) (by kernel_rfl) (by simp) ?_
  refine AllReadyH.cons rfl (fun K hK=> ?_) AllReadyH.nil
  rw [if_pos (by rfl)]
  go_simp
  refine hK.out _ _ (by go_keep) (fun hHeld=> ?_)
  clear hK K
  refine wpAnyH_take (i:=13) (v:= .bool false) rfl (by kernel_rfl) (by kernel_rfl) (by kernel_rfl) (fun _ _ _ h=> h) (Or.inl ⟨by rfl,fun w2 ⟨q0,q1,q2⟩=> by go_simp⟩) (by assumption) ?_
  dsimp only [Act.put,List.getElem_toArray,List.getElem_cons_succ,List.getElem_cons_zero]
  simp only [List.setIfInBounds_toArray,List.set_cons_zero,List.set_cons_succ]
  refine wpAnyH_done (by kernel_rfl) ?_ _
  go_wp2
  exact bodyPost_ret (v:= .tuple #[.agg #[.int .i64 h.p,.int .i64 h.c,.int .i64 h.m,.slice ao n cap],.bool false]) (by simp [results,Tryz.results95,go_sem,r0',r1',r2',r3']) rfl ⟨rfl,by rw [<- hH.out];exact ((((hBw.setCell (by simp) _).setCell (by simp) _).setCell (by simp) _).setCell (by simp) _)⟩
 case inl=>
  subst hmb
  rcases Bool.eq_false_or_eq_true (decide (T<=(n:Int))) with hd | hd
  ·rw [hok]
   clear hok
   go_enter Tryz.func95,Tryz.ntmps95
   go_upto_region 1 with fail
   obtain ⟨bS,bR,hsz,hbW⟩:=zc5 w (.cells #[.int .i64 h.p,.int .i64 h.c,.int .i64 h.m] 23) (.cells #[.int .i64 0,.int .i64 0,.int .i64 0,.slice none 0 0] 157)
   generalize (w.alloc (.cells #[.int .i64 h.p,.int .i64 h.c,.int .i64 h.m] 23)).alloc (.cells #[.int .i64 0,.int .i64 0,.int .i64 0,.slice none 0 0] 157)=W at *
   obtain ⟨H,hH,hH'⟩:=hidv w.heap.size
   rw [<- hH'] at bS bR hsz hbW ⊢
   clear hH'
   have c0:=zac bS 0
   have c1:=zac bS 1
   have c2:=zac bS 2
   have r0:=zac bR 0
   have r1:=zac bR 1
   have r2:=zac bR 2
   have r3:=zac bR 3
   have f0:=zax bR 0
   have f1:=zax bR 1
   have f2:=zax bR 2
   have f3:=zax bR 3
   have l0:H < W.heap.size:=by omega
   have l1:H + 1 < W.heap.size:=by omega
   have hK:∀ X Y:World,(X.cell? ⟨H,0,.none⟩=some (.int .i64 h.p)/\X.cell? ⟨H,1,.none⟩=some (.int .i64 h.c)/\X.cell? ⟨H,2,.none⟩=some (.int .i64 h.m))->Below X.heap.size X Y->(Y.cell? ⟨H,0,.none⟩=some (.int .i64 h.p)/\Y.cell? ⟨H,1,.none⟩=some (.int .i64 h.c)/\Y.cell? ⟨H,2,.none⟩=some (.int .i64 h.m)):=fun X Y ⟨a,b,c⟩ hb=> ⟨zai hb _ _ _ a,zai hb _ _ _ b,zai hb _ _ _ c⟩
   replace hK:=hd' hK
   have hBa:Below W.heap.size W (W.drew.alloc (.cells #[.int .i64 h.p,.int .i64 h.c,.int .i64 h.m] 23)):=(br.drew).alloc lr _
   go_region_held3 (fun X=> X.cell? ⟨H,0,.none⟩=some (.int .i64 h.p)/\X.cell? ⟨H,1,.none⟩=some (.int .i64 h.c)/\X.cell? ⟨H,2,.none⟩=some (.int .i64 h.m))
    (first | go_keep | exact hK.out _ _ (by assumption) hb2)
    (first
     | (go_at_call 65;refine (hm0.out _).mono ?_;rintro e w1 ⟨rfl,rfl⟩)
     | (go_at_call 88;refine (ht0.out _).mono ?_;rintro e w2 ⟨rfl,hb2⟩;have hBx:=hBa.trans (hb2.mono (by simp));have r0':=zai hBx _ _ _ r0;have r1':=zai hBx _ _ _ r1;have r2':=zai hBx _ _ _ r2;have r3':=zai hBx _ _ _ r3;have fR':=fun o=> (zgi hBx (H + 1) o l1).trans (zax bR o);have hBw:=hbW.trans (hBx.mono (by omega))))
   go_wp2
   exact bodyPost_ret (v:= .tuple #[.agg #[.int .i64 h.p,.int .i64 h.c,.int .i64 h.m,.slice ao n cap],.bool true]) (by simp [results,Tryz.results95,go_sem,r0',r1',r2',r3']) rfl ⟨by rw [hd];rfl,by rw [<- hH.out];exact ((((hBw.setCell (by simp) _).setCell (by simp) _).setCell (by simp) _).setCell (by simp) _)⟩
  ·rw [hok]
   clear hok
   go_enter Tryz.func95,Tryz.ntmps95
   go_upto_region 1 with fail
   obtain ⟨bS,bR,hsz,hbW⟩:=zc5 w (.cells #[.int .i64 h.p,.int .i64 h.c,.int .i64 h.m] 23) (.cells #[.int .i64 0,.int .i64 0,.int .i64 0,.slice none 0 0] 157)
   generalize (w.alloc (.cells #[.int .i64 h.p,.int .i64 h.c,.int .i64 h.m] 23)).alloc (.cells #[.int .i64 0,.int .i64 0,.int .i64 0,.slice none 0 0] 157)=W at *
   obtain ⟨H,hH,hH'⟩:=hidv w.heap.size
   rw [<- hH'] at bS bR hsz hbW ⊢
   clear hH'
   have c0:=zac bS 0
   have c1:=zac bS 1
   have c2:=zac bS 2
   have r0:=zac bR 0
   have r1:=zac bR 1
   have r2:=zac bR 2
   have r3:=zac bR 3
   have f0:=zax bR 0
   have f1:=zax bR 1
   have f2:=zax bR 2
   have f3:=zax bR 3
   have l0:H < W.heap.size:=by omega
   have l1:H + 1 < W.heap.size:=by omega
   have hK:∀ X Y:World,(X.cell? ⟨H,0,.none⟩=some (.int .i64 h.p)/\X.cell? ⟨H,1,.none⟩=some (.int .i64 h.c)/\X.cell? ⟨H,2,.none⟩=some (.int .i64 h.m))->Below X.heap.size X Y->(Y.cell? ⟨H,0,.none⟩=some (.int .i64 h.p)/\Y.cell? ⟨H,1,.none⟩=some (.int .i64 h.c)/\Y.cell? ⟨H,2,.none⟩=some (.int .i64 h.m)):=fun X Y ⟨a,b,c⟩ hb=> ⟨zai hb _ _ _ a,zai hb _ _ _ b,zai hb _ _ _ c⟩
   replace hK:=hd' hK
   have hBa:Below W.heap.size W (W.drew.alloc (.cells #[.int .i64 h.p,.int .i64 h.c,.int .i64 h.m] 23)):=(br.drew).alloc lr _
   go_region_held3 (fun X=> X.cell? ⟨H,0,.none⟩=some (.int .i64 h.p)/\X.cell? ⟨H,1,.none⟩=some (.int .i64 h.c)/\X.cell? ⟨H,2,.none⟩=some (.int .i64 h.m))
    (first | go_keep | exact hK.out _ _ (by assumption) hb2)
    (first
     | (go_at_call 65;refine (hm0.out _).mono ?_;rintro e w1 ⟨rfl,rfl⟩)
     | (go_at_call 88;refine (ht0.out _).mono ?_;rintro e w2 ⟨rfl,hb2⟩;have hBx:=hBa.trans (hb2.mono (by simp));have r0':=zai hBx _ _ _ r0;have r1':=zai hBx _ _ _ r1;have r2':=zai hBx _ _ _ r2;have r3':=zai hBx _ _ _ r3;have fR':=fun o=> (zgi hBx (H + 1) o l1).trans (zax bR o);have hBw:=hbW.trans (hBx.mono (by omega))))
   go_wp2
   exact bodyPost_ret (v:= .tuple #[.agg #[.int .i64 h.p,.int .i64 h.c,.int .i64 h.m,.slice ao n cap],.bool false]) (by simp [results,Tryz.results95,go_sem,r0',r1',r2',r3']) rfl ⟨by rw [hd];rfl,by rw [<- hH.out];exact ((((hBw.setCell (by simp) _).setCell (by simp) _).setCell (by simp) _).setCell (by simp) _)⟩
structure Bok (w:World) (v:Value) (h:Hp):Prop where
 ok:h.ok=true
 rd:RdZ .u64 w v h.xs
 fit:h.fit
theorem Bok.below {w w':World} {v:Value} {h:Hp} (b:Bok w v h) (hb:Below w.heap.size w w'):Bok w' v h:=⟨b.ok,b.rd.below hb,b.fit⟩
theorem Bok.may {w:World} {v:Value} {h:Hp} (b:Bok w v h):mayB h.p h.c h.m=true:=by
 have:=b.ok
 unfold Hp.ok at this
 rw [Bool.and_eq_true] at this
 exact this.1
theorem Bok.len {w:World} {v:Value} {h:Hp} (b:Bok w v h):zb6 h.p h.c h.m<=(h.xs.length:Int):=by
 have:=b.ok
 unfold Hp.ok at this
 rw [Bool.and_eq_true,decide_eq_true_eq] at this
 exact this.2
theorem Bok.bd {w:World} {v:Value} {h:Hp} (b:Bok w v h):(1<=h.p/\h.p<=64)/\(1<=h.c/\h.c<=12)/\(0<=h.m/\h.m<=8)/\h.c + h.p + h.p * 16 + h.c * h.m<=(h.xs.length:Int):=by
 have h1:=zar.1 b.may
 have h2:=b.len
 unfold zb6 at h2
 rw [if_pos b.may] at h2
 omega
theorem Bok.word {w:World} {v:Value} {h:Hp} (b:Bok w v h) (i:Int) (h0:0<=i) (h1:i < (h.xs.length:Int)):∃ g off cap,∃ k:Nat,v= .slice (some ⟨g,off,.none⟩) h.xs.length cap/\h.xs.length<=cap/\g < w.heap.size/\i=(k:Int)/\k < h.xs.length/\w.cell? ⟨g,off + k,.none⟩=some (.int .u64 (wd h.xs i)):=by
 obtain ⟨ao,cap,e,hcap,hcm,hrow⟩:=b.rd.cells
 obtain ⟨g,off,rfl,hg,hc⟩:=hrow (fun e=> by rw [e] at h1;simp at h1;omega)
 refine ⟨g,off,cap,i.toNat,e,hcap,hg,by omega,by omega,?_⟩
 rw [hc i.toNat (by omega),yc8 h0 h1]
theorem zpo (h:Hp) (v:Value) (a:Int) (w:World) (b:Bok w v h) (ha:0<=a/\a < h.p):
  Calls Tryz.prog 96 #[zzu h v,.int .i64 a] w fun e w'=> e= .returned (.tuple #[.agg #[.int .i64 (h.pk a),.int .i64 (h.pa a),.int .i64 (h.pn a)],.bool (h.pb a)])/\Below w.heap.size w w':=by
 obtain ⟨b1,b2,b3,b4⟩:=b.bd
 have hcm:=zk3 (c:=h.c) (m:=h.m) (C:=12) (M:=8) (by omega) (by omega)
 have hix:zak h.p h.c h.m a=h.c + a:=by unfold zak;rw [if_pos ⟨b.may,zbc.2 (by omega)⟩]
 obtain ⟨g,off,cap,k,rfl,hcap,hg,hk,hkn,hc⟩:=b.word (h.c + a) (by omega) (by omega)
 have hw:=h.z95 b.fit (h.c + a)
 have hpg:=planPage_any h.p h.c h.m a
 rw [hix,hk] at hpg
 have hrp:=fun w=> zk2 h.p h.c h.m a (h.pw a) w hw.1 hw.2
 have hagg:(if zal h.p h.c h.m a (h.pw a)=true then #[.int .i64 (zbx (h.pw a)),.int .i64 (za2 (h.pw a) 0),.int .i64 (za2 (h.pw a) 1)] else #[.int .i64 0,.int .i64 0,.int .i64 0]:Array Value)= #[.int .i64 (h.pk a),.int .i64 (h.pa a),.int .i64 (h.pn a)]:=by
  unfold Hp.pk Hp.pa Hp.pn
  show (if h.pb a=true then _ else _)=_
  cases h.pb a <;> rfl
 rw [hagg] at hrp
 replace hrp:∀ w,Calls Tryz.prog 135 #[.agg #[.int .i64 h.p,.int .i64 h.c,.int .i64 h.m],.int .i64 a,.int .u64 (h.pw a)] w fun e w'=> Below w.heap.size w w'/\e= .returned (.tuple #[.agg #[.int .i64 (h.pk a),.int .i64 (h.pa a),.int .i64 (h.pn a)],.bool (h.pb a)]):=hrp
 have hx:wd h.xs (h.c + a)=h.pw a:=rfl
 rw [hx] at hc
 generalize h.pw a=x at *
 generalize h.pk a=k1 at *
 generalize h.pa a=k2 at *
 generalize h.pn a=k3 at *
 generalize h.pb a=k4 at *
 generalize h.xs.length=n at *
 replace hpg:=hd' hpg
 replace hrp:=hd' hrp
 have hk0:(0:Int)<=(k:Int):=by omega
 have hk1:(k:Int) < (n:Int):=by omega
 clear hagg hix hk b hw hx
 go_enter Tryz.func96,Tryz.ntmps96
 go_upto_region 1 with fail
 obtain ⟨bS,bR,hsz,hbW⟩:=zc5 w (.cells #[.int .i64 h.p,.int .i64 h.c,.int .i64 h.m,.slice (some ⟨g,off,.none⟩) n cap] 157) (.cells #[.int .i64 0,.int .i64 0,.int .i64 0] 160)
 replace hc:=zai hbW _ _ _ hc
 generalize (w.alloc (.cells #[.int .i64 h.p,.int .i64 h.c,.int .i64 h.m,.slice (some ⟨g,off,.none⟩) n cap] 157)).alloc (.cells #[.int .i64 0,.int .i64 0,.int .i64 0] 160)=W at *
 obtain ⟨H,hH,hH'⟩:=hidv w.heap.size
 rw [<- hH'] at bS bR hsz hbW ⊢
 have hgH:H + 1≠g:=by omega
 clear hH'
 have c0:W.cell? ⟨H,0,.none⟩=some (.int .i64 h.p):=zac bS 0
 have c1:W.cell? ⟨H,1,.none⟩=some (.int .i64 h.c):=zac bS 1
 have c2:W.cell? ⟨H,2,.none⟩=some (.int .i64 h.m):=zac bS 2
 have c3:W.cell? ⟨H,3,.none⟩=some (.slice (some ⟨g,off,.none⟩) n cap):=zac bS 3
 have r0:=zac bR 0
 have r1:=zac bR 1
 have r2:=zac bR 2
 have fR:=zax bR
 have l0:H < W.heap.size:=by omega
 have l1:H + 1 < W.heap.size:=by omega
 have hK:∀ Y,Below W.heap.size W Y->Y.cell? ⟨H,0,.none⟩=some (.int .i64 h.p)/\Y.cell? ⟨H,1,.none⟩=some (.int .i64 h.c)/\Y.cell? ⟨H,2,.none⟩=some (.int .i64 h.m)/\Y.cell? ⟨H,3,.none⟩=some (.slice (some ⟨g,off,.none⟩) n cap)/\Y.cell? ⟨g,off + k,.none⟩=some (.int .u64 x):=fun Y hb=> ⟨zai hb _ _ _ c0,zai hb _ _ _ c1,zai hb _ _ _ c2,zai hb _ _ _ c3,zai hb _ _ _ hc⟩
 replace hK:=hd' hK
 have hbd:Below W.heap.size W W.drew:=br.drew
 go_region_held3 (fun Y=> Y.cell? ⟨H,0,.none⟩=some (.int .i64 h.p)/\Y.cell? ⟨H,1,.none⟩=some (.int .i64 h.c)/\Y.cell? ⟨H,2,.none⟩=some (.int .i64 h.m)/\Y.cell? ⟨H,3,.none⟩=some (.slice (some ⟨g,off,.none⟩) n cap)/\Y.cell? ⟨g,off + k,.none⟩=some (.int .u64 x))
  (first | go_keep | exact hK.out _ (by assumption))
  (first
   | (go_at_call 136;refine (hpg.out _).mono ?_;rintro e w1 ⟨rfl,hb⟩;have hb1:=hbd.trans (hb.mono lr);have hbs1:=hb1.size)
   | (go_at_call 135;refine (hrp.out _).mono ?_;rintro e w2 ⟨hb,rfl⟩;have hb2:=hb1.trans (hb.mono hbs1);have r0':=zai hb2 _ _ _ r0;have r1':=zai hb2 _ _ _ r1;have r2':=zai hb2 _ _ _ r2;have fR':=fun o=> (zgi hb2 (H + 1) o l1).trans (fR o);have hBw:=hbW.trans (hb2.mono (by omega))))
 go_wp2
 exact bodyPost_ret (v:= .tuple #[.agg #[.int .i64 k1,.int .i64 k2,.int .i64 k3],.bool k4]) (by simp [results,Tryz.results96,go_sem,r0',r1',r2']) rfl ⟨rfl,by rw [<- hH.out];exact (((hBw.setCell (by simp) _).setCell (by simp) _).setCell (by simp) _)⟩
theorem z7y (h:Hp) (v:Value) (a i:Int) (w:World) (b:Bok w v h) (ha:0<=a/\a < h.p) (hi:0<=i/\i < 16):
  Calls Tryz.prog 98 #[zzu h v,.int .i64 a,.int .i64 i] w fun e w'=> e= .returned (.agg #[.int .i64 (h.sk a i),.int .i64 (h.sa a i)])/\Below w.heap.size w w':=by
 obtain ⟨b1,b2,b3,b4⟩:=b.bd
 have hcm:=zk3 (c:=h.c) (m:=h.m) (C:=12) (M:=8) (by omega) (by omega)
 have hix:zbk h.p h.c h.m a i=h.c + h.p + a * 16 + i:=by unfold zbk;rw [if_pos ⟨b.may,zbc.2 (by omega),zbc.2 (by omega)⟩]
 obtain ⟨g,off,cap,k,rfl,hcap,hg,hk,hkn,hc⟩:=b.word (h.c + h.p + a * 16 + i) (by omega) (by omega)
 have hw:=h.z95 b.fit (h.c + h.p + a * 16 + i)
 have hpg:=zbm h.p h.c h.m a i
 rw [hix,hk] at hpg
 have hrp:=fun w=> zso (h.sw a i) w hw.1 hw.2
 have hagg:(if zet (h.sw a i)=true then #[.int .i64 (zbx (h.sw a i)),.int .i64 (za2 (h.sw a i) 0)] else #[.int .i64 0,.int .i64 0]:Array Value)= #[.int .i64 (h.sk a i),.int .i64 (h.sa a i)]:=by
  unfold Hp.sk Hp.sa
  cases zet (h.sw a i) <;> rfl
 rw [hagg] at hrp
 replace hrp:∀ w,Calls Tryz.prog 137 #[.int .u64 (h.sw a i)] w fun e w'=> Below w.heap.size w w'/\e= .returned (.agg #[.int .i64 (h.sk a i),.int .i64 (h.sa a i)]):=hrp
 have hx:wd h.xs (h.c + h.p + a * 16 + i)=h.sw a i:=rfl
 rw [hx] at hc
 generalize h.sw a i=x at *
 generalize h.sk a i=k1 at *
 generalize h.sa a i=k2 at *
 generalize h.xs.length=n at *
 replace hpg:=hd' hpg
 replace hrp:=hd' hrp
 have hk0:(0:Int)<=(k:Int):=by omega
 have hk1:(k:Int) < (n:Int):=by omega
 clear hagg hix hk b hw hx
 go_enter Tryz.func98,Tryz.ntmps98
 go_upto_region 1 with fail
 obtain ⟨bS,bR,hsz,hbW⟩:=zc5 w (.cells #[.int .i64 h.p,.int .i64 h.c,.int .i64 h.m,.slice (some ⟨g,off,.none⟩) n cap] 157) (.cells #[.int .i64 0,.int .i64 0] 163)
 replace hc:=zai hbW _ _ _ hc
 generalize (w.alloc (.cells #[.int .i64 h.p,.int .i64 h.c,.int .i64 h.m,.slice (some ⟨g,off,.none⟩) n cap] 157)).alloc (.cells #[.int .i64 0,.int .i64 0] 163)=W at *
 obtain ⟨H,hH,hH'⟩:=hidv w.heap.size
 rw [<- hH'] at bS bR hsz hbW ⊢
 have hgH:H + 1≠g:=by omega
 clear hH'
 have c0:W.cell? ⟨H,0,.none⟩=some (.int .i64 h.p):=zac bS 0
 have c1:W.cell? ⟨H,1,.none⟩=some (.int .i64 h.c):=zac bS 1
 have c2:W.cell? ⟨H,2,.none⟩=some (.int .i64 h.m):=zac bS 2
 have c3:W.cell? ⟨H,3,.none⟩=some (.slice (some ⟨g,off,.none⟩) n cap):=zac bS 3
 have r0:=zac bR 0
 have r1:=zac bR 1
 have fR:=zax bR
 have l0:H < W.heap.size:=by omega
 have l1:H + 1 < W.heap.size:=by omega
 have hK:∀ Y,Below W.heap.size W Y->Y.cell? ⟨H,0,.none⟩=some (.int .i64 h.p)/\Y.cell? ⟨H,1,.none⟩=some (.int .i64 h.c)/\Y.cell? ⟨H,2,.none⟩=some (.int .i64 h.m)/\Y.cell? ⟨H,3,.none⟩=some (.slice (some ⟨g,off,.none⟩) n cap)/\Y.cell? ⟨g,off + k,.none⟩=some (.int .u64 x):=fun Y hb=> ⟨zai hb _ _ _ c0,zai hb _ _ _ c1,zai hb _ _ _ c2,zai hb _ _ _ c3,zai hb _ _ _ hc⟩
 replace hK:=hd' hK
 have hbd:Below W.heap.size W W.drew:=br.drew
 go_region_held3 (fun Y=> Y.cell? ⟨H,0,.none⟩=some (.int .i64 h.p)/\Y.cell? ⟨H,1,.none⟩=some (.int .i64 h.c)/\Y.cell? ⟨H,2,.none⟩=some (.int .i64 h.m)/\Y.cell? ⟨H,3,.none⟩=some (.slice (some ⟨g,off,.none⟩) n cap)/\Y.cell? ⟨g,off + k,.none⟩=some (.int .u64 x))
  (first | go_keep | exact hK.out _ (by assumption))
  (first
   | (go_at_call 138;refine (hpg.out _).mono ?_;rintro e w1 ⟨rfl,hb⟩;have hb1:=hbd.trans (hb.mono lr);have hbs1:=hb1.size)
   | (go_at_call 137;refine (hrp.out _).mono ?_;rintro e w2 ⟨hb,rfl⟩;have hb2:=hb1.trans (hb.mono hbs1);have r0':=zai hb2 _ _ _ r0;have r1':=zai hb2 _ _ _ r1;have fR':=fun o=> (zgi hb2 (H + 1) o l1).trans (fR o);have hBw:=hbW.trans (hb2.mono (by omega))))
 go_wp2
 exact bodyPost_ret (v:= .agg #[.int .i64 k1,.int .i64 k2]) (by simp [results,Tryz.results98,go_sem,r0',r1']) rfl ⟨rfl,by rw [<- hH.out];exact ((hBw.setCell (by simp) _).setCell (by simp) _)⟩
end

section

open Go.RowKit

attribute [local go_sem ↓] Go.wp_at_zero Go.wp_at_succ

theorem zhk (a b:Int) (w:World):(Instr.field 163 (.agg #[.int .i64 a,.int .i64 b]) 0).run Tryz.prog w= .ok (.int .i64 a) w:=by kernel_rfl
theorem zh6 (a b:Int) (w:World):(Instr.field 163 (.agg #[.int .i64 a,.int .i64 b]) 1).run Tryz.prog w= .ok (.int .i64 b) w:=by kernel_rfl
attribute [local go_sem ↓] zhk zh6

theorem zth (h:Hp) (v:Value) (x:Int) (w:World) (b:Bok w v h):
  Calls Tryz.prog 105 #[zzu h v,.int .i64 x] w fun e w'=> e= .returned (.bool (h.lv x))/\Below w.heap.size w w':=by
 obtain ⟨b1,b2,b3,b4⟩:=b.bd
 have hcm:=zk3 (c:=h.c) (m:=h.m) (C:=12) (M:=8) (by omega) (by omega)
 have hst:=zau h.p h.c h.m x
 by_cases hx:0<=x/\x<=h.c - 1
 ·have hwi:wi x 0 (h.c - 1)=true:=zbc.2 hx
  have hix:zae h.p h.c h.m x=x:=by unfold zae;rw [if_pos ⟨b.may,hwi⟩]
  have hlv:h.lv x=ycd (wd h.xs x):=by unfold Hp.lv;rw [b.may,hwi];rfl
  obtain ⟨g,off,cap,k,rfl,hcap,hg,hk,hkn,hc⟩:=b.word x (by omega) (by omega)
  have hw:=h.z95 b.fit x
  have hrs:=fun w=> zfz (wd h.xs x) w hw.1 hw.2
  rw [hlv]
  rw [hix] at hst
  unfold ycd
  subst hk
  generalize wd h.xs (k:Int)=z at *
  generalize zbx z=k1 at *
  generalize za2 z 0=k2 at *
  generalize h.xs.length=n at *
  have hk0:(0:Int)<=(k:Int):=by omega
  have hk1:(k:Int) < (n:Int):=by omega
  have hne:g≠w.heap.size:=by omega
  clear hix hlv hw b hwi
  rcases Bool.eq_false_or_eq_true (za8 k1 k2==z) with hs | hs
  ·rw [hs] at hrs ⊢
   replace hrs:∀ w,Calls Tryz.prog 75 #[.int .u64 z] w fun e w'=> Below w.heap.size w w'/\e= .returned (.tuple #[.int .i64 k1,.int .i64 k2]):=hrs
   clear hs
   replace hrs:=hd' hrs
   replace hst:=hd' hst
   go_enter Tryz.func105,Tryz.ntmps105
   go_wp2_with fail
   refine (hst.out _).mono ?_
   rintro e w1 ⟨rfl,hb1⟩
   have hBx:Below w.heap.size w w1:=((Below.refl w.heap.size w).alloc lr _).trans (hb1.mono (by simp))
   have q0:=zai hb1 _ _ _ (zac (heap_alloc_new w (.cells #[.int .i64 h.p,.int .i64 h.c,.int .i64 h.m,.slice (some ⟨g,off,.none⟩) n cap] 157)) 3)
   have q1:=zai hBx _ _ _ hc
   go_wp2_with fail
   refine (hrs.out _).mono ?_
   rintro e w2 ⟨hb2,rfl⟩
   have hBy:=hBx.trans (hb2.mono hBx.size)
   go_wp2
   go_ret
   exact ⟨by rw [Bool.true_and];rfl,hBy⟩
  ·rw [hs] at hrs ⊢
   replace hrs:∀ w,Calls Tryz.prog 75 #[.int .u64 z] w fun e w'=> Below w.heap.size w w'/\e= .returned (.tuple #[.int .i64 0,.int .i64 0]):=hrs
   clear hs
   replace hrs:=hd' hrs
   replace hst:=hd' hst
   go_enter Tryz.func105,Tryz.ntmps105
   go_wp2_with fail
   refine (hst.out _).mono ?_
   rintro e w1 ⟨rfl,hb1⟩
   have hBx:Below w.heap.size w w1:=((Below.refl w.heap.size w).alloc lr _).trans (hb1.mono (by simp))
   have q0:=zai hb1 _ _ _ (zac (heap_alloc_new w (.cells #[.int .i64 h.p,.int .i64 h.c,.int .i64 h.m,.slice (some ⟨g,off,.none⟩) n cap] 157)) 3)
   have q1:=zai hBx _ _ _ hc
   go_wp2_with fail
   refine (hrs.out _).mono ?_
   rintro e w2 ⟨hb2,rfl⟩
   have hBy:=hBx.trans (hb2.mono hBx.size)
   go_wp2
   go_ret
   exact ⟨rfl,hBy⟩
 ·have hwi:wi x 0 (h.c - 1)=false:=zgo.2 hx
  have hix:zae h.p h.c h.m x= -1:=by unfold zae;rw [if_neg (fun h=> by rw [hwi] at h;exact Bool.false_ne_true h.2)]
  have hlv:h.lv x=false:=by unfold Hp.lv;rw [hwi,Bool.and_false];rfl
  rw [hlv]
  rw [hix] at hst
  replace hst:=hd' hst
  clear hix hlv hwi
  go_enter Tryz.func105,Tryz.ntmps105
  go_wp2_with fail
  refine (hst.out _).mono ?_
  rintro e w1 ⟨rfl,hb1⟩
  have hBx:Below w.heap.size w w1:=((Below.refl w.heap.size w).alloc lr _).trans (hb1.mono (by simp))
  go_wp2
  go_ret
  exact ⟨rfl,hBx⟩
theorem zy8 (h:Hp) (v:Value) (a:Int) (w:World) (b:Bok w v h) (ha:0<=a/\a < h.p):
  Calls Tryz.prog 103 #[zzu h v,.int .i64 a] w fun e w'=> e= .returned (.tuple #[.int .i64 (h.hc a),.bool (h.hb a)])/\Below w.heap.size w w':=by
 have hbd:=Hp.yfx (h:=h) ha.1 ha.2
 have hp1:=fun X hX=> zpo h v a X (b.below hX) ha
 have hp2:=fun X hX=> zpo h v (h.hd a) X (b.below hX) hbd
 have e1:h.hc a=if h.hb a=true then h.pa (h.hd a) else 0:=rfl
 have e2:h.hb a=(h.pb (h.hd a) && h.pk (h.hd a)==1):=rfl
 by_cases h4:(h.pb a && h.pk a==4)=true
 ·have e3:h.hd a=h.pa a:=by unfold Hp.hd;rw [if_pos h4]
  rw [e1,e2]
  rw [e3] at hp2 ⊢
  have h5:=h4
  rw [Bool.and_eq_true,beq_iff_eq] at h5
  rw [h5.1,h5.2] at hp1
  generalize h.pa a=q at *
  generalize h.pn a=q' at *
  generalize h.pk q=k1 at *
  generalize h.pa q=k2 at *
  generalize h.pn q=k3 at *
  generalize h.pb q=k4 at *
  replace hp1:=hd' hp1
  replace hp2:=hd' hp2
  clear e1 e2 e3 h4 h5 hbd b
  have hk4:=Bool.eq_false_or_eq_true k4
  have hk1:=Decidable.em (k1=1)
  rcases hk4 with rfl | rfl <;> rcases hk1 with hk | hk <;>
  ·first
    | (have hk':(k1==1)=true:=by rw [beq_iff_eq];exact hk)
    | (have hk':(k1==1)=false:=by rw [beq_eq_false_iff_ne];exact hk)
   rw [hk']
   replace hk':=hd' hk'
   go_enter Tryz.func103,Tryz.ntmps103
   go_wp2_with fail
   refine (hp1.out _ (br.alloc lr _)).mono ?_
   rintro e w1 ⟨rfl,hb1⟩
   have hBx:Below w.heap.size w w1:=((Below.refl w.heap.size w).alloc lr _).trans (hb1.mono (by simp))
   have g0:=(hb1.block _ (by simp)).trans (heap_alloc_new w (.cells #[.int .i64 h.p,.int .i64 h.c,.int .i64 h.m,v] 157))
   have hBz:Below w.heap.size w (w1.alloc (.cells #[.int .i64 4,.int .i64 q,.int .i64 q'] 160)):=hBx.alloc hBx.size _
   have hz:=hBx.size
   have g1:=heap_alloc_new w1 (.cells #[.int .i64 4,.int .i64 q,.int .i64 q'] 160)
   have hlt:=(Array.getElem?_eq_some_iff.1 g0).1
   have c0:=zac g0 0
   have c1:=zac g0 1
   have c2:=zac g0 2
   have c3:=zac g0 3
   go_wp2_with fail
   refine (hp2.out _ hBz).mono ?_
   rintro e w2 ⟨rfl,hb2⟩
   have g2:=(hb2.block _ (by simp)).trans g1
   have hBy:=hBz.trans (hb2.mono hBz.size)
   have hlt2:w1.heap.size < w2.heap.size:=(Array.getElem?_eq_some_iff.1 g2).1
   have p0:=zac g2 0
   have p1:=zac g2 1
   have p2:=zac g2 2
   have fP:=zax g2
   clear g0 g1 g2
   go_wp2
   go_ret2
   exact ⟨rfl,((hBy.setCell (by simp;omega) _).setCell (by simp;omega) _).setCell (by simp;omega) _⟩
 ·have e3:h.hd a=a:=by unfold Hp.hd;rw [if_neg h4]
  rw [e1,e2]
  rw [e3]
  have h5:h.pb a=false\/(h.pb a=true/\h.pk a≠4):=by
   rcases Bool.eq_false_or_eq_true (h.pb a) with h | h
   ·right;refine ⟨h,fun e=> h4 ?_⟩;rw [h,e];rfl
   ·exact .inl h
  clear e1 e2 e3 h4 hbd hp2 b
  generalize h.pk a=k1 at *
  generalize h.pa a=k2 at *
  generalize h.pn a=k3 at *
  rcases h5 with h5 | ⟨h5,h6⟩
  ·rw [h5] at hp1 ⊢
   replace hp1:=hd' hp1
   clear h5
   go_enter Tryz.func103,Tryz.ntmps103
   go_wp2_with fail
   refine (hp1.out _ (br.alloc lr _)).mono ?_
   rintro e w1 ⟨rfl,hb1⟩
   have hBx:Below w.heap.size w w1:=((Below.refl w.heap.size w).alloc lr _).trans (hb1.mono (by simp))
   have hBz:Below w.heap.size w (w1.alloc (.cells #[.int .i64 k1,.int .i64 k2,.int .i64 k3] 160)):=hBx.alloc hBx.size _
   go_wp2
   go_ret2
   exact ⟨rfl,hBz⟩
  ·rw [h5] at hp1 ⊢
   replace hp1:=hd' hp1
   clear h5
   have h6':(k1==4)=false:=by rw [beq_eq_false_iff_ne];exact h6
   have hk1:=Decidable.em (k1=1)
   rcases hk1 with hk | hk <;>
   ·first
     | (have hk':(k1==1)=true:=by rw [beq_iff_eq];exact hk)
     | (have hk':(k1==1)=false:=by rw [beq_eq_false_iff_ne];exact hk)
    rw [hk']
    replace hk':=hd' hk'
    go_enter Tryz.func103,Tryz.ntmps103
    go_wp2_with fail
    refine (hp1.out _ (br.alloc lr _)).mono ?_
    rintro e w1 ⟨rfl,hb1⟩
    have hBx:Below w.heap.size w w1:=((Below.refl w.heap.size w).alloc lr _).trans (hb1.mono (by simp))
    go_wp2
    go_ret2
    exact ⟨rfl,hBx.alloc hBx.size _⟩
end

section

structure Cn where
 f:Int
 t:Int
 l:Int
 o:Int
 deriving DecidableEq
def Cn.zero:Cn:=⟨0,0,0,0⟩
def Cn.add (x y:Cn):Cn:=⟨x.f + y.f,x.t + y.t,x.l + y.l,x.o + y.o⟩
def Cn.sum (x:Cn):Int:=x.f + x.t + x.l + x.o
def Cn.nn (x:Cn):Prop:=0<=x.f/\0<=x.t/\0<=x.l/\0<=x.o
theorem Cn.zt6 (x y:Cn):(x.add y).sum=x.sum + y.sum:=by simp only [Cn.sum,Cn.add];omega
theorem Cn.z3s {x y:Cn} (h:x.nn) (k:y.nn):(x.add y).nn:=by unfold Cn.nn Cn.add at *;simp only;omega
theorem Cn.bd {x:Cn} {n:Int} (h:x.nn) (k:x.sum<=n):(0<=x.f/\x.f<=n)/\(0<=x.t/\x.t<=n)/\(0<=x.l/\x.l<=n)/\0<=x.o/\x.o<=n:=by unfold Cn.nn Cn.sum at *;omega
theorem Cn.add_assoc (x y z:Cn):(x.add y).add z=x.add (y.add z):=by simp only [Cn.add,Int.add_assoc]
theorem Cn.add_zero (x:Cn):x.add Cn.zero=x:=by simp [Cn.add,Cn.zero]
def zj7 (b:Bool) (k:Int):Cn:=if b=true then ⟨0,0,k,0⟩ else ⟨0,0,0,k⟩
theorem zri (b:Bool) (k:Int):(zj7 b k).sum=k:=by unfold zj7 Cn.sum;split <;> simp
theorem zwp (b:Bool) {k:Int} (h:0<=k):(zj7 b k).nn:=by unfold zj7 Cn.nn;split <;> simp [h]
def Hp.slC (h:Hp) (a z i:Int):Cn:=if h.sk a i=1 then ⟨z,0,0,0⟩ else if h.sk a i=3 then ⟨0,z,0,0⟩ else zj7 (h.sk a i==2 && h.lv (h.sa a i)) z
def Hp.slS (h:Hp) (a z:Int):Nat->Cn
 | 0=> Cn.zero
 | i + 1=> (h.slS a z i).add (h.slC a z i)
theorem Hp.ybf (h:Hp) (a z i:Int):(h.slC a z i).sum=z:=by
 unfold Hp.slC
 split
 ·simp [Cn.sum]
 ·split
  ·simp [Cn.sum]
  ·exact zri _ _
theorem Hp.ydg (h:Hp) (a i:Int) {z:Int} (hz:0<=z):(h.slC a z i).nn:=by
 unfold Hp.slC
 split
 ·simp [Cn.nn,hz]
 ·split
  ·simp [Cn.nn,hz]
  ·exact zwp _ hz
theorem Hp.z2x (h:Hp) (a z:Int) (i:Nat):(h.slS a z i).sum=z * i:=by
 induction i with
 | zero=> simp [Hp.slS,Cn.zero,Cn.sum]
 | succ i ih=>
  show ((h.slS a z i).add (h.slC a z i)).sum=_
  rw [Cn.zt6,ih,Hp.ybf,Int.natCast_add,Int.mul_add];simp
theorem Hp.z9d (h:Hp) (a:Int) {z:Int} (hz:0<=z) (i:Nat):(h.slS a z i).nn:=by
 induction i with
 | zero=> simp [Hp.slS,Cn.zero,Cn.nn]
 | succ i ih=> exact Cn.z3s ih (h.ydg a i hz)
def Hp.pgC (h:Hp) (a:Int):Cn:=
 if (h.hb a || !h.pb a)=true then zj7 (h.hb a && h.lv (h.hc a)) 64
 else if h.pk a=0 then ⟨64,0,0,0⟩
 else if h.pk a=2 then h.slS a (zbj (h.pa a)) (zah (h.pa a)).toNat
 else ⟨0,64,0,0⟩
def Hp.cn (h:Hp):Nat->Cn
 | 0=> Cn.zero
 | k + 1=> (h.cn k).add (h.pgC k)
def Hp.count (h:Hp):Cn:=if h.ok=true then h.cn h.p.toNat else Cn.zero
theorem Hp.ybs (h:Hp) (a:Int):(h.pgC a).sum=64:=by
 unfold Hp.pgC
 split
 ·exact zri _ _
 ·rename_i h1
  simp only [Bool.or_eq_true,Bool.not_eq_true',not_or,Bool.not_eq_false] at h1
  split
  ·simp [Cn.sum]
  ·split
   ·rename_i h2
    have:=Hp.ygf (h:=h) (a:=a) (by rw [h1.2,h2];rfl)
    have hb:=zcy (h.pa a)
    rw [Hp.z2x,Int.toNat_of_nonneg hb.1]
    exact zzh this
   ·simp [Cn.sum]
theorem Hp.yc5 (h:Hp) (a:Int):(h.pgC a).nn:=by
 unfold Hp.pgC
 split
 ·exact zwp _ (by decide)
 ·split
  ·simp [Cn.nn]
  ·split
   ·exact h.z9d a (znt _).1 _
   ·simp [Cn.nn]
theorem Hp.ydp (h:Hp) (k:Nat):(h.cn k).sum=64 * k:=by
 induction k with
 | zero=> simp [Hp.cn,Cn.zero,Cn.sum]
 | succ k ih=>
  show ((h.cn k).add (h.pgC k)).sum=_
  rw [Cn.zt6,ih,Hp.ybs];omega
theorem Hp.ygi (h:Hp) (k:Nat):(h.cn k).nn:=by
 induction k with
 | zero=> simp [Hp.cn,Cn.zero,Cn.nn]
 | succ k ih=> exact Cn.z3s ih (h.yc5 k)
end

end Go.Proofs.YtampacmmhhilaaaGreat
