/- Texts bound together: JobW RenY JobV JobM. -/
import Derived.Test.YthgekdlegbmehaaGreatBq25

set_option linter.all false
set_option maxHeartbeats 4000000
set_option maxRecDepth 100000
namespace Go.Proofs.YthgekdlegbmehaaGreat

open Go.RowKit

attribute [local go_sem ↓] Go.wp_at_zero Go.wp_at_succ

theorem zxu (q2:Nat) (cs:Array Value) (g:Bool) (w:World) (h:zaa w q2 cs 123) (hv:cs[14]?=some (.bool g)):
  Calls Tryz.prog 152 #[.agg #[.pointer (some ⟨q2,0,.none⟩)]] w fun e w'=> e= .returned (.bool g)/\Below w.heap.size w w':=by
 have hb0:=(Below.refl w.heap.size w).alloc lr (.cells #[.pointer (some ⟨q2,0,.none⟩)] 89)
 have t0:=heap_alloc_new w (.cells #[.pointer (some ⟨q2,0,.none⟩)] 89)
 go_enter Tryz.func152,Tryz.ntmps152
 go_upto_region 1 with fail
 generalize w.alloc (.cells #[.pointer (some ⟨q2,0,.none⟩)] 89)=X at *
 have hg:=zh8 q2 cs g X (h.below hb0) hv
 replace hg:=hd' hg
 obtain ⟨H,hH,hH'⟩:=hidv w.heap.size
 rw [<- hH'] at t0 ⊢
 clear hH'
 have lH:H < X.heap.size:=(Array.getElem?_eq_some_iff.1 t0).1
 have c0:X.cell? ⟨H,0,.none⟩=some (.pointer (some ⟨q2,0,.none⟩)):=zac t0 0
 clear h t0
 clear hv
 go_wp2_with (first | (go_at_call 67;(with_reducible refine hg.out.mono ?_);rintro r w1 ⟨rfl,hw1⟩;obtain rfl:=hw1.symm) | fail)
 go_returns
 exact ⟨rfl,hb0⟩
theorem z2s (q2:Nat) (cs:Array Value) (g:Bool) (w:World) (h:zaa w q2 cs 123) (hv:cs[14]?=some (.bool g)):
  Calls Tryz.prog 151 #[.agg #[.pointer (some ⟨q2,0,.none⟩)]] w fun e w'=> e= .returned (.int .i64 (if g=true then 0 else 1))/\Below w.heap.size w w':=by
 have hb0:=(Below.refl w.heap.size w).alloc lr (.cells #[.pointer (some ⟨q2,0,.none⟩)] 89)
 have t0:=heap_alloc_new w (.cells #[.pointer (some ⟨q2,0,.none⟩)] 89)
 go_enter Tryz.func151,Tryz.ntmps151
 go_upto_region 1 with fail
 generalize w.alloc (.cells #[.pointer (some ⟨q2,0,.none⟩)] 89)=X at *
 have hg:=zh8 q2 cs g X (h.below hb0) hv
 replace hg:=hd' hg
 obtain ⟨H,hH,hH'⟩:=hidv w.heap.size
 rw [<- hH'] at t0 ⊢
 clear hH'
 have lH:H < X.heap.size:=(Array.getElem?_eq_some_iff.1 t0).1
 have c0:X.cell? ⟨H,0,.none⟩=some (.pointer (some ⟨q2,0,.none⟩)):=zac t0 0
 clear h t0
 clear hv
 cases g
 all_goals
  go_wp2_with (first | (go_at_call 67;(with_reducible refine hg.out.mono ?_);rintro r w1 ⟨rfl,hw1⟩;obtain rfl:=hw1.symm) | fail)
  go_returns
  exact ⟨rfl,hb0⟩
theorem zz3 (q2:Nat) (s:Sh) (t:Ad) (w:World) (h:zaa w q2 (zan s t) 129):
  Calls Tryz.prog 175 #[.agg #[.pointer (some ⟨q2,0,.none⟩)]] w fun e w'=> e= .returned (.int .i64 t.err)/\Below w.heap.size w w':=by
 have hb0:=(Below.refl w.heap.size w).alloc lr (.cells #[.pointer (some ⟨q2,0,.none⟩)] 97)
 have t0:=heap_alloc_new w (.cells #[.pointer (some ⟨q2,0,.none⟩)] 97)
 go_enter Tryz.func175,Tryz.ntmps175
 go_upto_region 1 with fail
 generalize w.alloc (.cells #[.pointer (some ⟨q2,0,.none⟩)] 97)=X at *
 have hg:=z0i q2 s t X (h.below hb0)
 replace hg:=hd' hg
 obtain ⟨H,hH,hH'⟩:=hidv w.heap.size
 rw [<- hH'] at t0 ⊢
 clear hH'
 have lH:H < X.heap.size:=(Array.getElem?_eq_some_iff.1 t0).1
 have c0:X.cell? ⟨H,0,.none⟩=some (.pointer (some ⟨q2,0,.none⟩)):=zac t0 0
 clear h t0
 go_wp2_with (first | (go_at_call 178;(with_reducible refine hg.out.mono ?_);rintro r w1 ⟨rfl,hw1⟩;obtain rfl:=hw1.symm) | fail)
 go_returns
 exact ⟨rfl,hb0⟩
theorem z1d (q2:Nat) (s:Sh) (t:Rr) (v1 v2 v3 v4:Value) (w:World) (h:zaa w q2 (zby s t v1 v2 v3 v4) 126):
  Calls Tryz.prog 157 #[.agg #[.pointer (some ⟨q2,0,.none⟩)]] w fun e w'=> e= .returned (.int .i64 t.err)/\Below w.heap.size w w':=by
 have hb0:=(Below.refl w.heap.size w).alloc lr (.cells #[.pointer (some ⟨q2,0,.none⟩)] 93)
 have t0:=heap_alloc_new w (.cells #[.pointer (some ⟨q2,0,.none⟩)] 93)
 go_enter Tryz.func157,Tryz.ntmps157
 go_upto_region 1 with fail
 generalize w.alloc (.cells #[.pointer (some ⟨q2,0,.none⟩)] 93)=X at *
 have hg:=zzz q2 s t v1 v2 v3 v4 X (h.below hb0)
 replace hg:=hd' hg
 obtain ⟨H,hH,hH'⟩:=hidv w.heap.size
 rw [<- hH'] at t0 ⊢
 clear hH'
 have lH:H < X.heap.size:=(Array.getElem?_eq_some_iff.1 t0).1
 have c0:X.cell? ⟨H,0,.none⟩=some (.pointer (some ⟨q2,0,.none⟩)):=zac t0 0
 clear h t0
 go_wp2_with (first | (go_at_call 160;(with_reducible refine hg.out.mono ?_);rintro r w1 ⟨rfl,hw1⟩;obtain rfl:=hw1.symm) | fail)
 go_returns
 exact ⟨rfl,hb0⟩
def zk7 (w w':World) (e:Ending) (s:Sh) (t:Rr):Prop:=∃ q,e= .returned (.pointer (some ⟨q,0,.none⟩))/\RrO (fun k=> w.heap.size<=k/\k < w'.heap.size) w' q s t/\Below w.heap.size w w'
theorem zk7.bare {w w':World} {q:Nat} {s:Sh} {t:Rr} (h1:w.heap.size<=q) (hb:Below w.heap.size w w') (hr:zaa w' q (zby s t (.pointer none) (.pointer none) (.pointer none) (.pointer none)) 126)
  (e1:t.res=none) (e2:t.free=none) (e3:t.undo=none) (e4:t.com=none):zk7 w w' (.returned (.pointer (some ⟨q,0,.none⟩))) s t:=by
 refine ⟨q,rfl,⟨fun k hk=> hk.2,⟨h1,hr.lt⟩,0,0,0,0,fun _=> False,fun _=> False,fun k hk=> hk.elim,fun k hk=> hk.elim,?_,?_,?_,?_,?_⟩,hb⟩
 ·rw [e1,e2,e3,e4];exact hr
 ·intro x hx;rw [e1] at hx;cases hx
 ·intro x hx;rw [e2] at hx;cases hx
 ·intro x hx;rw [e3] at hx;cases hx
 ·intro x hx;rw [e4] at hx;cases hx
theorem RrO.join {w Y:World} {q q1 q2:Nat} {s:Sh} {c:Int} {r:Rs} {f:Fe} {F1 F2:Nat->Prop} (h1:w.heap.size<=q) (hb:Below w.heap.size w Y) (hrow:zaa Y q (zby s ⟨c,none,none,none,none,0,false⟩ (.pointer (some ⟨q1,0,.none⟩)) (.pointer (some ⟨q2,0,.none⟩)) (.pointer none) (.pointer none)) 126)
  (hr:RsO F1 Y q1 s r) (hf:FeO F2 Y q2 s f) (hF1:∀ k,F1 k->q < k/\k < Y.heap.size) (hF2:∀ k,F2 k->(q < k/\k < Y.heap.size)/\¬ F1 k):
  RrO (fun k=> w.heap.size<=k/\k < Y.heap.size) Y q s ⟨c,some r,some f,none,none,0,false⟩:=
 ⟨fun k hk=> hk.2,⟨h1,hrow.lt⟩,q1,q2,0,0,F1,F2,fun k hk=> ⟨⟨by have:=(hF1 k hk).1;omega,(hF1 k hk).2⟩,by have:=(hF1 k hk).1;omega⟩,fun k hk=> ⟨⟨by have:=(hF2 k hk).1.1;omega,(hF2 k hk).1.2⟩,by have:=(hF2 k hk).1.1;omega,(hF2 k hk).2⟩,hrow,fun x hx=> (by injection hx with hx;subst hx;exact hr),fun x hx=> (by injection hx with hx;subst hx;exact hf),fun x hx=> (by cases hx),fun x hx=> (by cases hx)⟩
theorem zws {Y:World} {q:Nat} {s:Sh} {c a:Int} (h:zaa Y q (za7 s (zc2 s c a) (.pointer none)) 123):FeO (fun k=> k=q) Y q s (zc2 s c a):=
 ⟨rfl,0,⟨h,fun x hx=> (by cases hx)⟩,fun h=> absurd rfl h⟩
theorem size_set (w:World) (a:Addr) (v:Value):(w.setCell a v).heap.size=w.heap.size:=by simp [World.setCell]
theorem RsO.setK {F:Nat->Prop} {w:World} {q K:Nat} {s:Sh} {t:Rs} (h:RsO F w q s t) (hK:¬ F K) (i:Nat) (v:Value):RsO F (w.setCell ⟨K,i,.none⟩ v) q s t:=
 h.only (Only.setCell (F:=fun k=> k=K) (Only.refl _ _) (.inl rfl) _) (fun k hk e=> hK (e ▸ hk))
theorem RsO.bel {F:Nat->Prop} {w w':World} {q:Nat} {s:Sh} {t:Rs} (h:RsO F w q s t) (hb:Below w.heap.size w w'):RsO F w' q s t:=h.only (Only.of_below (F:=fun _=> False) hb) (fun _ _ e=> e)
theorem z3p (s:Sh) (c a n f:Int) (w:World):
  Calls Tryz.prog 40 #[.agg #[.int .i64 s.p,.int .i64 s.c,.int .i64 s.m],.int .i64 c,.int .i64 a,.int .i64 n,.int .i64 f] w fun e w'=> zk7 w w' e s (zhh s c a n f):=by
 have hc1:=fun W=> zxk s a W
 have hc2:=fun W=> zo1 n W
 have hc3:=fun W=> zau s.p s.c s.m c W
 have hend:=fun k Y (hY:zaa Y k (zby s ⟨c,none,none,none,none,0,false⟩ (.pointer none) (.pointer none) (.pointer none) (.pointer none)) 126)=> zsi k s ⟨c,none,none,none,none,0,false⟩ _ _ _ _ 1 Y hY
 have hrs:=fun W=> ztd s c n f W
 have hfe:=fun W=> zq9 s c a W
 have hset:∀ (Y:World) (G:Nat->Prop) (k:Nat),RrO G Y k s ⟨c,some (zdh s c n f),some (zc2 s c a),none,none,0,false⟩->_:=fun Y G k h=> h.settled rfl rfl
 have hjoin:∀ (Y:World) (q q1 q2:Nat) (F1 F2:Nat->Prop),_->_->_->_->_->_->_->_:=fun Y q q1 q2 F1 F2=> @RrO.join w Y q q1 q2 s c (zdh s c n f) (zc2 s c a) F1 F2
 have hfb:∀ (Y:World) (q:Nat),zaa Y q (za7 s (zc2 s c a) (.pointer none)) 123->_:=fun Y q h=> zws h
 obtain ⟨t2,ht2,ht2'⟩:∃ t2:Rr,Hid (t2=if spB s a=true/\lenB n=true/\0<=zae s.p s.c s.m c then Rr.settle s ⟨c,some (zdh s c n f),some (zc2 s c a),none,none,0,false⟩ else ⟨c,none,none,none,none,1,true⟩)/\t2=zhh s c a n f:=⟨_,hd' rfl,rfl⟩
 rw [<- ht2']
 clear ht2'
 generalize zdh s c n f=rs0 at *
 generalize hfe0:zc2 s c a=fe0 at *
 clear hfe0
 generalize zae s.p s.c s.m c=sx at *
 generalize spB s a=ok1 at *
 generalize lenB n=ok2 at *
 generalize lenV n=ln at *
 generalize (if ok1=true then a / 64 else 0)=pg at *
 generalize (if ok1=true then a % 64 else 0)=off at *
 obtain ⟨sp,sc,sm⟩:=s
 dsimp only at hc1 hc3 hrs hfe
 replace hc1:=hd' hc1
 replace hc2:=hd' hc2
 replace hc3:=hd' hc3
 replace hend:=hd' hend
 replace hrs:=hd' hrs
 replace hfe:=hd' hfe
 replace hset:=hd' hset
 replace hjoin:=hd' hjoin
 replace hfb:=hd' hfb
 have hb0:=(Below.refl w.heap.size w).alloc lr (.cells #[.int .i64 sp,.int .i64 sc,.int .i64 sm] 24)
 have t0:=heap_alloc_new w (.cells #[.int .i64 sp,.int .i64 sc,.int .i64 sm] 24)
 go_enter Tryz.func40,Tryz.ntmps40
 go_upto_region 1 with fail
 generalize w.alloc (.cells #[.int .i64 sp,.int .i64 sc,.int .i64 sm] 24)=W at *
 obtain ⟨H,hH,hH'⟩:=hidv w.heap.size
 rw [<- hH'] at t0 ⊢
 have hr0:zaa W H #[.int .i64 sp,.int .i64 sc,.int .i64 sm] 24:=t0
 have lH:H < W.heap.size:=hr0.lt
 obtain ⟨c0,c1,c2⟩:=ci3 sp sc sm hr0.cell
 have hHw:w.heap.size<=H:=by omega
 clear t0 hH'
 go_upto_region 4 with (first
  | (go_at_call 35;(with_reducible refine (hc1.out _).mono ?_);rintro r w1 ⟨rfl,hb1⟩;have hr1:=hr0.below hb1;have d0:=ci sp (hr1.cell 0);have d1:=ci sc (hr1.cell 1);have d2:=ci sm (hr1.cell 2))
  | (go_at_call 34;(with_reducible refine (hc2.out _).mono ?_);rintro r w2 ⟨rfl,hw2⟩;obtain rfl:=hw2.symm)
  | fail)
 have hbW:=zab hb0 hb1
 have hr:zaa (w1.alloc (.cells (zby ⟨sp,sc,sm⟩ ⟨c,none,none,none,none,0,false⟩ (.pointer none) (.pointer none) (.pointer none) (.pointer none)) 126)) w1.heap.size (zby ⟨sp,sc,sm⟩ ⟨c,none,none,none,none,0,false⟩ (.pointer none) (.pointer none) (.pointer none) (.pointer none)) 126:=heap_alloc_new _ _
 have hbV:=hbW.trans ((Below.refl w.heap.size w1).alloc hbW.size (.cells (zby ⟨sp,sc,sm⟩ ⟨c,none,none,none,none,0,false⟩ (.pointer none) (.pointer none) (.pointer none) (.pointer none)) 126))
 have hrr:=hr1.alloc (.cells (zby ⟨sp,sc,sm⟩ ⟨c,none,none,none,none,0,false⟩ (.pointer none) (.pointer none) (.pointer none) (.pointer none)) 126)
 have hHK:H≠w1.heap.size:=fun e=> by have:=hr1.lt;omega
 have hKw:w.heap.size<=w1.heap.size:=hbW.size
 dsimp only [zby] at hr hbV hrr hend
 generalize w1.alloc (.cells #[.int .i64 sp,.int .i64 sc,.int .i64 sm,.int .i64 c,.pointer none,.pointer none,.pointer none,.pointer none,.int .i64 0,.bool false] 126)=V at *
 obtain ⟨K,hK,hK'⟩:=hidv w1.heap.size
 rw [<- hK'] at hr hHK hKw ⊢
 have lHV:H < V.heap.size:=hrr.lt
 have lKV:K < V.heap.size:=hr.lt
 clear hK' d0 d1 d2 c0 c1 c2 lH hr0 hb0 hbW hb1 hr1
 obtain ⟨c0,c1,c2⟩:=ci3 sp sc sm hrr.cell
 have hcs:(ok1=false/\t2=⟨c,none,none,none,none,1,true⟩)\/(ok1=true/\ok2=false/\t2=⟨c,none,none,none,none,1,true⟩)\/(ok1=true/\ok2=true/\decide (sx < 0)=true/\t2=⟨c,none,none,none,none,1,true⟩)\/(ok1=true/\ok2=true/\decide (sx < 0)=false/\t2=Rr.settle ⟨sp,sc,sm⟩ ⟨c,some rs0,some fe0,none,none,0,false⟩):=by
  rw [ht2.out]
  cases ok1
  ·exact .inl ⟨rfl,if_neg (by simp)⟩
  ·cases ok2
   ·exact .inr (.inl ⟨rfl,rfl,if_neg (by simp)⟩)
   ·by_cases h:sx < 0
    ·exact .inr (.inr (.inl ⟨rfl,rfl,decide_eq_true h,if_neg (by simp;omega)⟩))
    ·exact .inr (.inr (.inr ⟨rfl,rfl,decide_eq_false h,if_pos ⟨rfl,rfl,by omega⟩⟩))
 clear ht2
 rcases hcs with ⟨rfl,ht2⟩ | ⟨rfl,rfl,ht2⟩ | ⟨rfl,rfl,h1,ht2⟩ | ⟨rfl,rfl,h1,ht2⟩
 case inl=>
  replace ht2:=hd' ht2
  go_wp2_with (first | (go_at_call 53;(with_reducible refine (hend.out _ _ hr).mono ?_);rintro r w3 hT;obtain rfl:=hT.ret) | fail)
  go_returns
  rw [ht2.out]
  exact zk7.bare hKw (hbV.trans (hT.only.below hbV.size fun k hk=> by rw [hk];exact hKw)) hT.row rfl rfl rfl rfl
 case inr.inl=>
  replace ht2:=hd' ht2
  go_wp2_with (first | (go_at_call 53;(with_reducible refine (hend.out _ _ hr).mono ?_);rintro r w3 hT;obtain rfl:=hT.ret) | fail)
  go_returns
  rw [ht2.out]
  exact zk7.bare hKw (hbV.trans (hT.only.below hbV.size fun k hk=> by rw [hk];exact hKw)) hT.row rfl rfl rfl rfl
 case inr.inr.inl=>
  replace ht2:=hd' ht2
  go_wp2_with (first
   | (go_at_call 14;(with_reducible refine (hc3.out _).mono ?_);rintro r w4 ⟨rfl,hb4⟩;have hr4:=hr.below hb4)
   | (go_at_call 53;(with_reducible refine (hend.out _ _ hr4).mono ?_);rintro r w3 hT;obtain rfl:=hT.ret) | fail)
  go_returns
  rw [ht2.out]
  have hbU:=zab hbV hb4
  exact zk7.bare hKw (hbU.trans (hT.only.below hbU.size fun k hk=> by rw [hk];exact hKw)) hT.row rfl rfl rfl rfl
 case inr.inr.inr=>
  replace ht2:=hd' ht2
  go_upto_region 7 with (first
   | (go_at_call 14;(with_reducible refine (hc3.out _).mono ?_);rintro r w4 ⟨rfl,hb4⟩)
   | fail)
  have hK4:=hr.below hb4
  have hH4:=hrr.below hb4
  have hbU:=zab hbV hb4
  clear hr hrr hbV hb4 c0 c1 c2 lHV lKV hend hc1 hc2 hc3
  have hset2:=hd' (fun (Z:World) (q1 q2:Nat) (F1:Nat->Prop) (hb:Below w.heap.size w Z) (hrow:zaa Z K (zby ⟨sp,sc,sm⟩ ⟨c,none,none,none,none,0,false⟩ (.pointer (some ⟨q1,0,.none⟩)) (.pointer (some ⟨q2,0,.none⟩)) (.pointer none) (.pointer none)) 126) (h1:RsO F1 Z q1 ⟨sp,sc,sm⟩ rs0) (h2:zaa Z q2 (za7 ⟨sp,sc,sm⟩ fe0 (.pointer none)) 123) (h3:∀ k,F1 k->K < k/\k < Z.heap.size) (h4:K < q2/\¬ F1 q2)=>
   ((hset.out Z _ K (hjoin.out Z K q1 q2 F1 (fun k=> k=q2) hKw hb hrow h1 (hfb.out Z q2 h2) h3 (fun k hk=> by subst hk;exact ⟨⟨h4.1,h2.lt⟩,h4.2⟩))).mono (fun e w' hE=> (⟨hE.1,K,rfl,by
    have hs:=hE.2.1.size
    refine (ht2.out ▸ hE.2.2).weak (fun k hk=> ?_) (fun k hk=> hk.2)
    rcases hk with hk | hk
    ·exact ⟨hk.1,Nat.lt_of_lt_of_le hk.2 hs⟩
    ·exact ⟨Nat.le_trans hb.size hk.1,hk.2⟩,hb.trans (hE.2.1.below hb.size fun k hk=> by rw [hk];exact hKw)⟩:e= .returned (.tuple #[])/\zk7 w w' (.returned (.pointer (some ⟨K,0,.none⟩))) ⟨sp,sc,sm⟩ t2)):Calls Tryz.prog 54 #[.pointer (some ⟨K,0,.none⟩)] Z fun e w'=> e= .returned (.tuple #[])/\zk7 w w' (.returned (.pointer (some ⟨K,0,.none⟩))) ⟨sp,sc,sm⟩ t2))
  clear hset hjoin hfb ht2
  have hbd:Below w.heap.size w w4.drew:=hbU.drew
  have hHd:=hH4.drew
  have hKd:=hK4.drew
  have lHd:H < w4.drew.heap.size:=hHd.lt
  have lKd:K < w4.drew.heap.size:=hKd.lt
  have c4:=ce (.pointer none) (hKd.cell 4)
  have c5:=ce (.pointer none) (hKd.cell 5)
  have hS:=hd' (fun (Y:World) (h:zaa Y H #[.int .i64 sp,.int .i64 sc,.int .i64 sm] 24)=> (⟨h.cell 0,h.cell 1,h.cell 2⟩:Y.cell? ⟨H,0,.none⟩=some (.int .i64 sp)/\Y.cell? ⟨H,1,.none⟩=some (.int .i64 sc)/\Y.cell? ⟨H,2,.none⟩=some (.int .i64 sm)))
  have hKH:K≠H:=fun e=> hHK e.symm
  go_region_held3 (fun Y=> Y.cell? ⟨H,0,.none⟩=some (.int .i64 sp)/\Y.cell? ⟨H,1,.none⟩=some (.int .i64 sc)/\Y.cell? ⟨H,2,.none⟩=some (.int .i64 sm))
   (first | exact hS.out _ hHd | exact hS.out _ hHr | exact hS.out _ hHf | exact hS.out _ (hHr.other hHK _ _) | exact hS.out _ (hHf.other hHK _ _) | exact hS.out _ ((hHr.other hHK _ _).other hHK _ _) | exact hS.out _ ((hHf.other hHK _ _).other hHK _ _) | fail)
   (first
    | (go_at_call 38;(with_reducible refine (hrs.out _).mono ?_);rintro r wr ⟨q1,rfl,hOr,hbr⟩;have hHr:zaa wr H #[.int .i64 sp,.int .i64 sc,.int .i64 sm] 24:=(by first | exact hHd.below hbr | exact hHf.below hbr | exact (hHf.other hHK _ _).below hbr);obtain ⟨va,vb,hKr⟩:∃ va vb,zaa wr K #[.int .i64 sp,.int .i64 sc,.int .i64 sm,.int .i64 c,va,vb,.pointer none,.pointer none,.int .i64 0,.bool false] 126:=(by first | exact ⟨_,_,hKd.below hbr⟩ | exact ⟨_,_,hKf.below hbr⟩ | exact ⟨_,_,((hKf.set 5 _).cast rfl).below hbr⟩);have z4:=ce va (hKr.cell 4);have z5:=ce vb (hKr.cell 5);have zf:=zax hKr)
    | (go_at_call 39;(with_reducible refine (hfe.out _).mono ?_);rintro r wf ⟨q2,rfl,hq2,hOf,hbf⟩;have hHf:zaa wf H #[.int .i64 sp,.int .i64 sc,.int .i64 sm] 24:=(by first | exact hHd.below hbf | exact hHr.below hbf | exact (hHr.other hHK _ _).below hbf);obtain ⟨va,vb,hKf⟩:∃ va vb,zaa wf K #[.int .i64 sp,.int .i64 sc,.int .i64 sm,.int .i64 c,va,vb,.pointer none,.pointer none,.int .i64 0,.bool false] 126:=(by first | exact ⟨_,_,hKd.below hbf⟩ | exact ⟨_,_,hKr.below hbf⟩ | exact ⟨_,_,((hKr.set 4 _).cast rfl).below hbf⟩);have y4:=ce va (hKf.cell 4);have y5:=ce vb (hKf.cell 5);have yf:=zax hKf)
    | fail)
  have hsz1:=hbr.size
  have hsz2:=hbf.size
  have hq2':=hOf.lt
  have hK1:¬ (w4.drew.heap.size<=K/\K < wr.heap.size):=fun e=> by omega
  have hZ1:Below w.heap.size w ((wf.setCell ⟨K,4,.none⟩ (.pointer (some ⟨q1,0,.none⟩))).setCell ⟨K,5,.none⟩ (.pointer (some ⟨q2,0,.none⟩))):=((zab (zab hbd hbr) hbf).setCell (p:=⟨K,4,.none⟩) hKw _).setCell (p:=⟨K,5,.none⟩) hKw _
  have hZ2:=(((hKd.below hbr).below hbf).set 4 (.pointer (some ⟨q1,0,.none⟩))).set 5 (.pointer (some ⟨q2,0,.none⟩))
  have hZ3:=((hOr.bel hbf).setK hK1 4 (.pointer (some ⟨q1,0,.none⟩))).setK hK1 5 (.pointer (some ⟨q2,0,.none⟩))
  have hKq:q2≠K:=fun e=> by omega
  have hZ4:=(hOf.other hKq 4 (.pointer (some ⟨q1,0,.none⟩))).other hKq 5 (.pointer (some ⟨q2,0,.none⟩))
  have hZs:((wf.setCell ⟨K,4,.none⟩ (.pointer (some ⟨q1,0,.none⟩))).setCell ⟨K,5,.none⟩ (.pointer (some ⟨q2,0,.none⟩))).heap.size=wf.heap.size:=(size_set _ _ _).trans (size_set _ _ _)
  generalize (wf.setCell ⟨K,4,.none⟩ (.pointer (some ⟨q1,0,.none⟩))).setCell ⟨K,5,.none⟩ (.pointer (some ⟨q2,0,.none⟩))=Z at *
  have hgo:=hd' (hset2.out Z q1 q2 _ hZ1 (hZ2.cast rfl) hZ3 hZ4 (fun k hk=> by omega) ⟨by omega,fun e=> by omega⟩)
  clear hZ1 hZ2 hZ3 hZ4 hset2
  go_wp2_with (first | (go_at_call 54;(with_reducible refine hgo.out.mono ?_);rintro r w9 ⟨rfl,hB⟩) | fail)
  go_returns
  exact hB
theorem RrO.only {F G:Nat->Prop} {w w':World} {q:Nat} {s:Sh} {t:Rr} (h:RrO F w q s t) (ho:Only G w w') (hd:∀ k,F k->¬ G k):RrO F w' q s t:=by
 obtain ⟨hF,h1,q1,q2,q3,q4,F1,F2,hF1,hF2,hrow,hr,hf,hu,hc⟩:=h
 refine ⟨fun k hk=> Nat.lt_of_lt_of_le (hF k hk) ho.size,h1,q1,q2,q3,q4,F1,F2,hF1,hF2,hrow.only ho (hd q h1),fun x hx=> (hr x hx).only ho (fun k hk=> hd k (hF1 k hk).1),fun x hx=> (hf x hx).only ho (fun k hk=> hd k (hF2 k hk).1),fun x hx=> ⟨(hu x hx).1,(hu x hx).2.only ho (hd q3 (hu x hx).1.1)⟩,fun x hx=> ⟨(hc x hx).1,(hc x hx).2.only ho (hd q4 (hc x hx).1.1)⟩⟩
theorem RrO.below {F:Nat->Prop} {w w':World} {q:Nat} {s:Sh} {t:Rr} (h:RrO F w q s t) (hb:Below w.heap.size w w'):RrO F w' q s t:=h.only (Only.of_below (F:=fun _=> False) hb) (fun _ _ e=> e)
theorem RrO.found {F:Nat->Prop} {q:Nat} {s:Sh} {t:Rr} {w:World} (h:RrO F w q s t) (hd:t.done=true->t.err=0->∃ r,t.res=some r):
  Calls Tryz.prog 162 #[.pointer (some ⟨q,0,.none⟩)] w fun e w'=> e= .returned (gotV (Jb.aga t).took)/\Below w.heap.size w w':=by
 obtain ⟨hF,h1,q1,q2,q3,q4,F1,F2,hF1,hF2,hrow,hr,hf,hu,hc⟩:=h
 by_cases hh:t.done=true/\t.err=0
 ·obtain ⟨r,hres⟩:=hd hh.1 hh.2
  have e:(Jb.aga t).took=r.got:=by unfold Jb.took;dsimp only;rw [if_pos hh,hres]
  rw [e]
  rw [hres] at hrow
  exact ztt q q1 s t r _ _ _ w hrow (hr r hres) hh.1 hh.2
 ·have e:(Jb.aga t).took=none:=by unfold Jb.took;dsimp only;rw [if_neg hh]
  rw [e]
  refine zyb q s t _ _ _ _ w hrow ?_
  rcases Bool.eq_false_or_eq_true t.done with h1 | h1
  ·exact .inr (fun e=> hh ⟨h1,e⟩)
  ·exact .inl h1
theorem RrO.ygy {F:Nat->Prop} {q:Nat} {s:Sh} {t:Rr} {w:World} (h:RrO F w q s t):
  Calls Tryz.prog 161 #[.pointer (some ⟨q,0,.none⟩)] w fun e w'=> e= .returned (.bool (Jb.aga t).gave)/\w'=w:=by
 obtain ⟨hF,h1,q1,q2,q3,q4,F1,F2,hF1,hF2,hrow,hr,hf,hu,hc⟩:=h
 unfold Jb.gave
 dsimp only
 rcases hfr:t.free with _ | f
 ·rw [hfr] at hrow
  exact zob q s t _ _ _ w hrow
 ·rw [hfr] at hrow
  obtain ⟨_,q5,h3,_⟩:=hf f hfr
  exact zyg q q2 s t f _ _ _ _ w hrow h3.row
theorem zze (v:Value) (w:World):
  Calls Tryz.prog 153 #[.agg #[v]] w fun e w'=> e= .returned (gotV none)/\Below w.heap.size w w':=by
 have hb0:=((Below.refl w.heap.size w).alloc lr (.cells #[v] 89)).alloc (by simp) (.cells #[.bool false,.int .i64 0,.int .i64 0,.int .i64 0,.int .i64 0] 101)
 have hE:zaa ((w.alloc (.cells #[v] 89)).alloc (.cells #[.bool false,.int .i64 0,.int .i64 0,.int .i64 0,.int .i64 0] 101)) (w.heap.size + 1) #[.bool false,.int .i64 0,.int .i64 0,.int .i64 0,.int .i64 0] 101:=by
  have h:=heap_alloc_new (w.alloc (.cells #[v] 89)) (.cells #[.bool false,.int .i64 0,.int .i64 0,.int .i64 0,.int .i64 0] 101)
  rw [show (w.alloc (.cells #[v] 89)).heap.size=w.heap.size + 1 by simp] at h
  exact h
 have hw1:w.heap.size<=w.heap.size + 1:=by omega
 go_enter Tryz.func153,Tryz.ntmps153
 go_upto_region 1 with fail
 generalize (w.alloc (.cells #[v] 89)).alloc (.cells #[.bool false,.int .i64 0,.int .i64 0,.int .i64 0,.int .i64 0] 101)=X at *
 obtain ⟨E,hEE,hEE'⟩:∃ E,Hid (E=w.heap.size + 1)/\E=w.heap.size + 1:=⟨_,hd' rfl,rfl⟩
 simp only [<- hEE'] at hE hw1 ⊢
 clear hEE'
 have lE:=hE.lt
 have fE:=zax hE
 have e0:=ce (.bool false) (hE.cell 0)
 have e1:=ci 0 (hE.cell 1)
 have e2:=ci 0 (hE.cell 2)
 have e3:=ci 0 (hE.cell 3)
 have e4:=ci 0 (hE.cell 4)
 go_wp2_with fail
 have hF:zaa (((((X.setCell ⟨E,0,.none⟩ (.bool false)).setCell ⟨E,1,.none⟩ (.int .i64 0)).setCell ⟨E,2,.none⟩ (.int .i64 0)).setCell ⟨E,3,.none⟩ (.int .i64 0)).setCell ⟨E,4,.none⟩ (.int .i64 0)) E #[.bool false,.int .i64 0,.int .i64 0,.int .i64 0,.int .i64 0] 101:=(((((hE.set 0 (.bool false)).set 1 (.int .i64 0)).set 2 (.int .i64 0)).set 3 (.int .i64 0)).set 4 (.int .i64 0))
 have hbF:Below w.heap.size w (((((X.setCell ⟨E,0,.none⟩ (.bool false)).setCell ⟨E,1,.none⟩ (.int .i64 0)).setCell ⟨E,2,.none⟩ (.int .i64 0)).setCell ⟨E,3,.none⟩ (.int .i64 0)).setCell ⟨E,4,.none⟩ (.int .i64 0)):=(((((hb0.setCell (p:=⟨E,0,.none⟩) hw1 (.bool false)).setCell (p:=⟨E,1,.none⟩) hw1 (.int .i64 0)).setCell (p:=⟨E,2,.none⟩) hw1 (.int .i64 0)).setCell (p:=⟨E,3,.none⟩) hw1 (.int .i64 0)).setCell (p:=⟨E,4,.none⟩) hw1 (.int .i64 0))
 generalize ((((X.setCell ⟨E,0,.none⟩ (.bool false)).setCell ⟨E,1,.none⟩ (.int .i64 0)).setCell ⟨E,2,.none⟩ (.int .i64 0)).setCell ⟨E,3,.none⟩ (.int .i64 0)).setCell ⟨E,4,.none⟩ (.int .i64 0)=U at *
 have r0:=ce (.bool false) (hF.cell 0)
 have r1:=ci 0 (hF.cell 1)
 have r2:=ci 0 (hF.cell 2)
 have r3:=ci 0 (hF.cell 3)
 have r4:=ci 0 (hF.cell 4)
 exact bodyPost_ret (v:= .tuple #[.agg #[.bool false,.int .i64 0,.int .i64 0,.int .i64 0,.int .i64 0],.bool false]) (by simp [results,Tryz.results153,go_sem,r0,r1,r2,r3,r4]) rfl ⟨rfl,hbF⟩
theorem zx3 (v:Value) (w:World):
  Calls Tryz.prog 177 #[.agg #[v]] w fun e w'=> e= .returned (gotV none)/\Below w.heap.size w w':=by
 have hb0:=((Below.refl w.heap.size w).alloc lr (.cells #[v] 97)).alloc (by simp) (.cells #[.bool false,.int .i64 0,.int .i64 0,.int .i64 0,.int .i64 0] 101)
 have hE:zaa ((w.alloc (.cells #[v] 97)).alloc (.cells #[.bool false,.int .i64 0,.int .i64 0,.int .i64 0,.int .i64 0] 101)) (w.heap.size + 1) #[.bool false,.int .i64 0,.int .i64 0,.int .i64 0,.int .i64 0] 101:=by
  have h:=heap_alloc_new (w.alloc (.cells #[v] 97)) (.cells #[.bool false,.int .i64 0,.int .i64 0,.int .i64 0,.int .i64 0] 101)
  rw [show (w.alloc (.cells #[v] 97)).heap.size=w.heap.size + 1 by simp] at h
  exact h
 have hw1:w.heap.size<=w.heap.size + 1:=by omega
 go_enter Tryz.func177,Tryz.ntmps177
 go_upto_region 1 with fail
 generalize (w.alloc (.cells #[v] 97)).alloc (.cells #[.bool false,.int .i64 0,.int .i64 0,.int .i64 0,.int .i64 0] 101)=X at *
 obtain ⟨E,hEE,hEE'⟩:∃ E,Hid (E=w.heap.size + 1)/\E=w.heap.size + 1:=⟨_,hd' rfl,rfl⟩
 simp only [<- hEE'] at hE hw1 ⊢
 clear hEE'
 have lE:=hE.lt
 have fE:=zax hE
 have e0:=ce (.bool false) (hE.cell 0)
 have e1:=ci 0 (hE.cell 1)
 have e2:=ci 0 (hE.cell 2)
 have e3:=ci 0 (hE.cell 3)
 have e4:=ci 0 (hE.cell 4)
 go_wp2_with fail
 have hF:zaa (((((X.setCell ⟨E,0,.none⟩ (.bool false)).setCell ⟨E,1,.none⟩ (.int .i64 0)).setCell ⟨E,2,.none⟩ (.int .i64 0)).setCell ⟨E,3,.none⟩ (.int .i64 0)).setCell ⟨E,4,.none⟩ (.int .i64 0)) E #[.bool false,.int .i64 0,.int .i64 0,.int .i64 0,.int .i64 0] 101:=(((((hE.set 0 (.bool false)).set 1 (.int .i64 0)).set 2 (.int .i64 0)).set 3 (.int .i64 0)).set 4 (.int .i64 0))
 have hbF:Below w.heap.size w (((((X.setCell ⟨E,0,.none⟩ (.bool false)).setCell ⟨E,1,.none⟩ (.int .i64 0)).setCell ⟨E,2,.none⟩ (.int .i64 0)).setCell ⟨E,3,.none⟩ (.int .i64 0)).setCell ⟨E,4,.none⟩ (.int .i64 0)):=(((((hb0.setCell (p:=⟨E,0,.none⟩) hw1 (.bool false)).setCell (p:=⟨E,1,.none⟩) hw1 (.int .i64 0)).setCell (p:=⟨E,2,.none⟩) hw1 (.int .i64 0)).setCell (p:=⟨E,3,.none⟩) hw1 (.int .i64 0)).setCell (p:=⟨E,4,.none⟩) hw1 (.int .i64 0))
 generalize ((((X.setCell ⟨E,0,.none⟩ (.bool false)).setCell ⟨E,1,.none⟩ (.int .i64 0)).setCell ⟨E,2,.none⟩ (.int .i64 0)).setCell ⟨E,3,.none⟩ (.int .i64 0)).setCell ⟨E,4,.none⟩ (.int .i64 0)=U at *
 have r0:=ce (.bool false) (hF.cell 0)
 have r1:=ci 0 (hF.cell 1)
 have r2:=ci 0 (hF.cell 2)
 have r3:=ci 0 (hF.cell 3)
 have r4:=ci 0 (hF.cell 4)
 exact bodyPost_ret (v:= .tuple #[.agg #[.bool false,.int .i64 0,.int .i64 0,.int .i64 0,.int .i64 0],.bool false]) (by simp [results,Tryz.results177,go_sem,r0,r1,r2,r3,r4]) rfl ⟨rfl,hbF⟩
theorem zyz {F:Nat->Prop} {q:Nat} {s:Sh} {t:Rr} {w:World} (h:RrO F w q s t):
  Calls Tryz.prog 158 #[.agg #[.pointer (some ⟨q,0,.none⟩)]] w fun e w'=> e= .returned (.bool (Jb.aga t).gave)/\Below w.heap.size w w':=by
 have hb0:=(Below.refl w.heap.size w).alloc lr (.cells #[.pointer (some ⟨q,0,.none⟩)] 93)
 have t0:=heap_alloc_new w (.cells #[.pointer (some ⟨q,0,.none⟩)] 93)
 have hq:q < w.heap.size:=h.1 q h.2.1
 go_enter Tryz.func158,Tryz.ntmps158
 go_upto_region 1 with fail
 generalize w.alloc (.cells #[.pointer (some ⟨q,0,.none⟩)] 93)=X at *
 have hg:=(h.below hb0).ygy
 replace hg:=hd' hg
 obtain ⟨H,hH,hH'⟩:=hidv w.heap.size
 rw [<- hH'] at t0 ⊢
 clear hH'
 have lH:H < X.heap.size:=(Array.getElem?_eq_some_iff.1 t0).1
 have c0:X.cell? ⟨H,0,.none⟩=some (.pointer (some ⟨q,0,.none⟩)):=zac t0 0
 clear h t0
 go_wp2_with (first | (go_at_call 161;(with_reducible refine hg.out.mono ?_);rintro r w1 ⟨rfl,hw1⟩;obtain rfl:=hw1.symm) | fail)
 go_returns
 exact ⟨rfl,hb0⟩
theorem zy9 (v:Value) (w:World):
  Calls Tryz.prog 176 #[.agg #[v]] w fun e w'=> e= .returned (.bool false)/\Below w.heap.size w w':=by
 have hb0:=(Below.refl w.heap.size w).alloc lr (.cells #[v] 97)
 go_enter Tryz.func176,Tryz.ntmps176
 go_wp2_with fail
 go_returns
 exact ⟨rfl,hb0⟩
theorem zzp {F:Nat->Prop} {q:Nat} {s:Sh} {t:Rr} {w:World} (h:RrO F w q s t) (hd:t.done=true->t.err=0->∃ r,t.res=some r):
  Calls Tryz.prog 159 #[.agg #[.pointer (some ⟨q,0,.none⟩)]] w fun e w'=> e= .returned (gotV (Jb.aga t).took)/\Below w.heap.size w w':=by
 have hb0:=((Below.refl w.heap.size w).alloc lr (.cells #[.pointer (some ⟨q,0,.none⟩)] 93)).alloc (by simp) (.cells #[.bool false,.int .i64 0,.int .i64 0,.int .i64 0,.int .i64 0] 101)
 have hE:zaa ((w.alloc (.cells #[.pointer (some ⟨q,0,.none⟩)] 93)).alloc (.cells #[.bool false,.int .i64 0,.int .i64 0,.int .i64 0,.int .i64 0] 101)) (w.heap.size + 1) #[.bool false,.int .i64 0,.int .i64 0,.int .i64 0,.int .i64 0] 101:=by
  have h:=heap_alloc_new (w.alloc (.cells #[.pointer (some ⟨q,0,.none⟩)] 93)) (.cells #[.bool false,.int .i64 0,.int .i64 0,.int .i64 0,.int .i64 0] 101)
  rw [show (w.alloc (.cells #[.pointer (some ⟨q,0,.none⟩)] 93)).heap.size=w.heap.size + 1 by simp] at h
  exact h
 have hH:zaa ((w.alloc (.cells #[.pointer (some ⟨q,0,.none⟩)] 93)).alloc (.cells #[.bool false,.int .i64 0,.int .i64 0,.int .i64 0,.int .i64 0] 101)) w.heap.size #[.pointer (some ⟨q,0,.none⟩)] 93:=zaa.alloc (heap_alloc_new _ _) _
 have hfo:=(h.below hb0).found hd
 unfold gotV at hfo ⊢
 generalize (Jb.aga t).took.getD Blk.zero=gb at *
 generalize (Jb.aga t).took.isSome=gok at *
 obtain ⟨bl,bp,bs,bk,bn⟩:=gb
 dsimp only [zg0] at hfo ⊢
 clear h hd
 go_enter Tryz.func159,Tryz.ntmps159
 go_upto_region 1 with fail
 generalize (w.alloc (.cells #[.pointer (some ⟨q,0,.none⟩)] 93)).alloc (.cells #[.bool false,.int .i64 0,.int .i64 0,.int .i64 0,.int .i64 0] 101)=X at *
 obtain ⟨E,hEE,hEE'⟩:∃ E,Hid (E=w.heap.size + 1)/\E=w.heap.size + 1:=⟨_,hd' rfl,rfl⟩
 simp only [<- hEE'] at hE ⊢
 have hEw:w.heap.size<=E:=by omega
 clear hEE'
 obtain ⟨H,hHH,hHH'⟩:=hidv w.heap.size
 rw [<- hHH'] at hH ⊢
 clear hHH'
 have lH:H < X.heap.size:=hH.lt
 have c0:=ce (.pointer (some ⟨q,0,.none⟩)) (hH.cell 0)
 replace hfo:=hd' hfo
 go_wp2_with (first | (go_at_call 162;(with_reducible refine hfo.out.mono ?_);rintro r w1 ⟨rfl,hb1⟩;have hE1:=hE.below hb1;have e0:=ce (.bool false) (hE1.cell 0);have e1:=ci 0 (hE1.cell 1);have e2:=ci 0 (hE1.cell 2);have e3:=ci 0 (hE1.cell 3);have e4:=ci 0 (hE1.cell 4);have ef:=zax hE1;have lE:=hE1.lt) | fail)
 have hF:zaa (((((w1.setCell ⟨E,0,.none⟩ (.bool bl)).setCell ⟨E,1,.none⟩ (.int .i64 bp)).setCell ⟨E,2,.none⟩ (.int .i64 bs)).setCell ⟨E,3,.none⟩ (.int .i64 bk)).setCell ⟨E,4,.none⟩ (.int .i64 bn)) E #[.bool bl,.int .i64 bp,.int .i64 bs,.int .i64 bk,.int .i64 bn] 101:=(((((hE1.set 0 (.bool bl)).set 1 (.int .i64 bp)).set 2 (.int .i64 bs)).set 3 (.int .i64 bk)).set 4 (.int .i64 bn))
 have hbF:Below w.heap.size w (((((w1.setCell ⟨E,0,.none⟩ (.bool bl)).setCell ⟨E,1,.none⟩ (.int .i64 bp)).setCell ⟨E,2,.none⟩ (.int .i64 bs)).setCell ⟨E,3,.none⟩ (.int .i64 bk)).setCell ⟨E,4,.none⟩ (.int .i64 bn)):=((((((zab hb0 hb1).setCell (p:=⟨E,0,.none⟩) hEw (.bool bl)).setCell (p:=⟨E,1,.none⟩) hEw (.int .i64 bp)).setCell (p:=⟨E,2,.none⟩) hEw (.int .i64 bs)).setCell (p:=⟨E,3,.none⟩) hEw (.int .i64 bk)).setCell (p:=⟨E,4,.none⟩) hEw (.int .i64 bn))
 generalize ((((w1.setCell ⟨E,0,.none⟩ (.bool bl)).setCell ⟨E,1,.none⟩ (.int .i64 bp)).setCell ⟨E,2,.none⟩ (.int .i64 bs)).setCell ⟨E,3,.none⟩ (.int .i64 bk)).setCell ⟨E,4,.none⟩ (.int .i64 bn)=U at *
 have r0:=ce (.bool bl) (hF.cell 0)
 have r1:=ci bp (hF.cell 1)
 have r2:=ci bs (hF.cell 2)
 have r3:=ci bk (hF.cell 3)
 have r4:=ci bn (hF.cell 4)
 exact bodyPost_ret (v:= .tuple #[.agg #[.bool bl,.int .i64 bp,.int .i64 bs,.int .i64 bk,.int .i64 bn],.bool gok]) (by simp [results,Tryz.results159,go_sem,r0,r1,r2,r3,r4]) rfl ⟨rfl,hbF⟩
def zg2 (s:Sh) (cl:Int) (v1 v2:Value):Array Value:= #[v1,v2,.int .i64 s.p,.int .i64 s.c,.int .i64 s.m,.int .i64 cl]
def MalO (F:Nat->Prop) (w:World) (q:Nat) (s:Sh) (cl:Int) (r:Rs) (c:Option Cm):Prop:=
 (∀ k,F k->k < w.heap.size)/\F q/\∃ q1 q2 F1,(∀ k,F1 k->F k/\k≠q)/\zaa w q (zg2 s cl (.pointer (some ⟨q1,0,.none⟩)) (ptrV c q2)) 85/\RsO F1 w q1 s r/\
  (∀ x,c=some x->(F q2/\q2≠q/\¬ F1 q2)/\zaa w q2 (ze3 s x) 155)
theorem MalO.only {F G:Nat->Prop} {w w':World} {q:Nat} {s:Sh} {cl:Int} {r:Rs} {c:Option Cm} (h:MalO F w q s cl r c) (ho:Only G w w') (hd:∀ k,F k->¬ G k):MalO F w' q s cl r c:=by
 obtain ⟨hF,h1,q1,q2,F1,hF1,hrow,hr,hc⟩:=h
 exact ⟨fun k hk=> Nat.lt_of_lt_of_le (hF k hk) ho.size,h1,q1,q2,F1,hF1,hrow.only ho (hd q h1),hr.only ho (fun k hk=> hd k (hF1 k hk).1),fun x hx=> ⟨(hc x hx).1,(hc x hx).2.only ho (hd q2 (hc x hx).1.1)⟩⟩
theorem z16 {q2:Nat} {s:Sh} {c:Option Cm} {w:World} (h:∀ x,c=some x->zaa w q2 (ze3 s x) 155):Calls Tryz.prog 64 #[ptrV c q2] w fun e w'=> e= .returned (.bool (zck c))/\w'=w:=by
 rcases c with _ | u
 ·exact zi5 w
 ·exact zo9 q2 _ u.done w (h u rfl) rfl
theorem zvm {F:Nat->Prop} {q:Nat} {s:Sh} {cl:Int} {r:Rs} {c:Option Cm} {w:World} (h:MalO F w q s cl r c):
  Calls Tryz.prog 109 #[.pointer (some ⟨q,0,.none⟩)] w fun e w'=> e= .returned (.bool (Jb.mal r c).done)/\Below w.heap.size w w':=by
 obtain ⟨hF,h1,q1,q2,F1,hF1,hrow,hr,hc⟩:=h
 have hlt:q < w.heap.size:=hF q h1
 have c0:=ce (.pointer (some ⟨q1,0,.none⟩)) (hrow.cell 0)
 have hfo:=hd' (zei hr)
 have hdn:=hd' (fun Y (hY:Below w.heap.size w Y)=> zil (hr.bel hY))
 have hcd:=hd' (fun Y (hY:Below w.heap.size w Y)=> z16 (fun x hx=> ((hc x hx).2.below hY)))
 have hk:=hd' (fun Y (hY:Below w.heap.size w Y)=> (⟨(hrow.below hY).cell 0,(hrow.below hY).cell 1⟩:Y.cell? ⟨q,0,.none⟩=some (.pointer (some ⟨q1,0,.none⟩))/\Y.cell? ⟨q,1,.none⟩=some (ptrV c q2)))
 have hres:(Jb.mal r c).done=(r.done && (!r.got.isSome || zck c)):=rfl
 rw [hres]
 clear h1 hF hF1 hrow hr hc hres
 obtain ⟨⟨bl,bp,bs,bk,bn⟩,hb⟩:∃ b,b=r.got.getD Blk.zero:=⟨_,rfl⟩
 unfold gotV at hfo
 rw [<- hb] at hfo
 dsimp only [zg0] at hfo
 clear hb
 generalize r.got.isSome=oks at *
 generalize r.done=rd at *
 generalize zck c=ce at *
 generalize ptrV c q2=pv at *
 go_enter Tryz.func109,Tryz.ntmps109
 go_upto_region 2 with (first | (go_at_call 62;(with_reducible refine hfo.out.mono ?_);rintro r w1 ⟨rfl,hb1⟩) | fail)
 have hbX:=hb1.trans ((Below.refl w.heap.size w1).alloc hb1.size (.cells #[.bool bl,.int .i64 bp,.int .i64 bs,.int .i64 bk,.int .i64 bn] 101))
 generalize w1.alloc (.cells #[.bool bl,.int .i64 bp,.int .i64 bs,.int .i64 bk,.int .i64 bn] 101)=X at *
 have gdn:=hd' (hdn.out X hbX)
 have gcd:=hd' (hcd.out X hbX)
 obtain ⟨k0,k1⟩:=hk.out X hbX
 have lX:q < X.heap.size:=Nat.lt_of_lt_of_le hlt hbX.size
 clear hdn hcd hfo c0 hlt hk
 cases rd
 case false=>
  go_wp2_with (first | (go_at_call 65;(with_reducible refine gdn.out.mono ?_);rintro r w2 ⟨rfl,hw2⟩;obtain rfl:=hw2.symm) | fail)
  go_returns
  exact ⟨rfl,hbX⟩
 case true=>
  cases oks
  case false=>
   go_wp2_with (first | (go_at_call 65;(with_reducible refine gdn.out.mono ?_);rintro r w2 ⟨rfl,hw2⟩;obtain rfl:=hw2.symm) | fail)
   go_returns
   exact ⟨rfl,hbX⟩
  case true=>
   cases ce
   all_goals
    go_wp2_with (first
     | (go_at_call 65;(with_reducible refine gdn.out.mono ?_);rintro r w2 ⟨rfl,hw2⟩;obtain rfl:=hw2.symm)
     | (go_at_call 64;(with_reducible refine gcd.out.mono ?_);rintro r w3 ⟨rfl,hw3⟩;obtain rfl:=hw3.symm) | fail)
    go_returns
    exact ⟨rfl,hbX⟩
theorem zy3 {F:Nat->Prop} {q:Nat} {s:Sh} {cl:Int} {r:Rs} {c:Option Cm} {w:World} (h:MalO F w q s cl r c):
  Calls Tryz.prog 111 #[.pointer (some ⟨q,0,.none⟩)] w fun e w'=> e= .returned (.int .i64 (Jb.mal r c).err)/\Below w.heap.size w w':=by
 obtain ⟨hF,h1,q1,q2,F1,hF1,hrow,hr,hc⟩:=h
 have hlt:q < w.heap.size:=hF q h1
 have c0:=ce (.pointer (some ⟨q1,0,.none⟩)) (hrow.cell 0)
 have hfo:=hd' (zei hr)
 have hres:(Jb.mal r c).err=if r.got.isSome=true then 0 else 3:=rfl
 rw [hres]
 clear h1 hF hF1 hrow hr hc hres
 obtain ⟨⟨bl,bp,bs,bk,bn⟩,hb⟩:∃ b,b=r.got.getD Blk.zero:=⟨_,rfl⟩
 unfold gotV at hfo
 rw [<- hb] at hfo
 dsimp only [zg0] at hfo
 clear hb
 generalize r.got.isSome=oks at *
 go_enter Tryz.func111,Tryz.ntmps111
 go_upto_region 2 with (first | (go_at_call 62;(with_reducible refine hfo.out.mono ?_);rintro r w1 ⟨rfl,hb1⟩) | fail)
 have hbX:=hb1.trans ((Below.refl w.heap.size w1).alloc hb1.size (.cells #[.bool bl,.int .i64 bp,.int .i64 bs,.int .i64 bk,.int .i64 bn] 101))
 generalize w1.alloc (.cells #[.bool bl,.int .i64 bp,.int .i64 bs,.int .i64 bk,.int .i64 bn] 101)=X at *
 cases oks
 all_goals
  go_wp2_with fail
  go_returns
  exact ⟨rfl,hbX⟩
theorem ztz (v:Value) (w:World):
  Calls Tryz.prog 112 #[v] w fun e w'=> e= .returned (.bool false)/\w'=w:=by
 go_enter Tryz.func112,Tryz.ntmps112
 go_wp2_with fail
 go_returns
 exact ⟨rfl,rfl⟩
end Go.Proofs.YthgekdlegbmehaaGreat
