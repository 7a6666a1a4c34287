/- Texts bound together: RenW RenX RenF RenS RenT. -/
import Derived.Test.YthgekdlegbmehaaGreatBq19

set_option linter.all false
set_option maxHeartbeats 4000000
set_option maxRecDepth 100000
namespace Go.Proofs.YthgekdlegbmehaaGreat

section

open Go.RowKit

attribute [local go_sem ↓] Go.wp_at_zero Go.wp_at_succ

def zby (s:Sh) (t:Rr) (v1 v2 v3 v4:Value):Array Value:= #[.int .i64 s.p,.int .i64 s.c,.int .i64 s.m,.int .i64 t.c,v1,v2,v3,v4,.int .i64 t.err,.bool t.done]
def FeO (F:Nat->Prop) (w:World) (q:Nat) (s:Sh) (t:Fe):Prop:=F q/\∃ q2,FeAt w q q2 s t/\(t.put≠none->F q2)
theorem FeAt.znz {w w':World} {q q2:Nat} {s:Sh} {t:Fe} {G:Nat->Prop} (h:FeAt w q q2 s t) (ho:Only G w w') (h1:¬ G q) (h2:t.put≠none->¬ G q2):FeAt w' q q2 s t:=
 ⟨h.row.only ho h1,fun x hx=> ⟨(h.inn x hx).1.only ho (h2 (by rw [hx];exact fun e=> by cases e)),(h.inn x hx).2⟩⟩
theorem FeO.only {F G:Nat->Prop} {w w':World} {q:Nat} {s:Sh} {t:Fe} (h:FeO F w q s t) (ho:Only G w w') (hd:∀ k,F k->¬ G k):FeO F w' q s t:=by
 obtain ⟨h1,q2,h2,h3⟩:=h
 exact ⟨h1,q2,h2.znz ho (hd q h1) (fun e=> hd q2 (h3 e)),h3⟩
theorem zw0 {F:Nat->Prop} {q p b:Nat} {s:Sh} {t:Fe} {m:Mem} {w:World} (h:FeO F w q s t) (hw:zaq w p b m) (hp:¬ F p) (hb:¬ F b) (hf:Fits s m) (ho:feOk s t) (hs:m.st < 1000000000):
  Calls Tryz.prog 140 #[.pointer (some ⟨q,0,.none⟩),.pointer (some ⟨p,0,.none⟩)] w fun e w'=> zef F p b w w' e (zca s t m).2/\FeO (grow F w w') w' q s (zca s t m).1:=by
 obtain ⟨h1,q2,h2,h3⟩:=h
 refine (zyu q q2 p b s t m w h2 hw (fun e=> hp (e ▸ h1)) (fun e=> hb (e ▸ h1)) (fun hn=> ⟨fun e=> hp (e ▸ h3 hn),fun e=> hb (e ▸ h3 hn)⟩) hf ho hs).mono fun e w' hS=> ?_
 have hn:t.put.isSome=true->F q2:=fun e=> h3 (fun e2=> by rw [e2] at e;cases e)
 obtain ⟨q3,h4,h5⟩:=hS.at'
 refine ⟨⟨hS.ret,hS.wds,hS.only.weak fun k hk=> ?_⟩,.inl h1,q3,h4,fun hne=> ?_⟩
 ·rcases hk with rfl | ⟨e,rfl⟩ | hk | hk
  ·exact .inl h1
  ·exact .inl (hn e)
  ·exact .inr (.inl hk)
  ·exact .inr (.inr hk)
 ·rcases h5 with ⟨rfl,h5⟩ | h5
  ·cases hi:t.put.isSome
   ·exact absurd (h5 hi) hne
   ·exact .inl (hn hi)
  ·rcases hq:(zca s t m).1.put with _ | x
   ·exact absurd hq hne
   ·exact .inr ⟨h5,(h4.inn x hq).1.lt⟩
theorem zzc (q:Nat) (cs:Array Value) (v:Bool) (w:World) (h:zaa w q cs 126) (hv:cs[9]?=some (.bool v)):Calls Tryz.prog 154 #[.pointer (some ⟨q,0,.none⟩)] w fun e w'=> e= .returned (.bool v)/\w'=w:=by
 have c:=(h.cell 9).trans hv
 clear h hv
 go_enter Tryz.func154,Tryz.ntmps154
 go_wp2_with fail
 go_returns
 exact ⟨rfl,rfl⟩
theorem zzz (q:Nat) (s:Sh) (t:Rr) (v1 v2 v3 v4:Value) (w:World) (hq:zaa w q (zby s t v1 v2 v3 v4) 126):
  Calls Tryz.prog 160 #[.pointer (some ⟨q,0,.none⟩)] w fun e w'=> e= .returned (.int .i64 t.err)/\w'=w:=by
 have c:=ci t.err (hq.cell 8)
 clear hq
 go_enter Tryz.func160,Tryz.ntmps160
 go_wp2_with fail
 go_returns
 exact ⟨rfl,rfl⟩
theorem zsi (q:Nat) (s:Sh) (t:Rr) (v1 v2 v3 v4:Value) (x:Int) (w:World) (hq:zaa w q (zby s t v1 v2 v3 v4) 126):
  Calls Tryz.prog 53 #[.pointer (some ⟨q,0,.none⟩),.int .i64 x] w fun e w'=> Turned q w w' e (zby s { t with err:=x,done:=true } v1 v2 v3 v4) 126:=by
 have h0:=At1.start hq
 clear hq
 obtain ⟨sp,sc,sm⟩:=s
 obtain ⟨tc,tres,tfree,tundo,tcom,terr,tdone⟩:=t
 have c8:=ci terr (h0.cell 8)
 have c9:=ce (.bool tdone) (h0.cell 9)
 have zf:=h0.free
 go_enter Tryz.func53,Tryz.ntmps53
 go_wp2_with fail
 go_returns
 exact ((h0.set 8 _).set 9 _).fin rfl
theorem zyg (q q2:Nat) (s:Sh) (t:Rr) (f:Fe) (pv v1 v3 v4:Value) (w:World) (hq:zaa w q (zby s t v1 (.pointer (some ⟨q2,0,.none⟩)) v3 v4) 126) (hf:zaa w q2 (za7 s f pv) 123):
  Calls Tryz.prog 161 #[.pointer (some ⟨q,0,.none⟩)] w fun e w'=> e= .returned (.bool f.gave)/\w'=w:=by
 have c:=ce (.pointer (some ⟨q2,0,.none⟩)) (hq.cell 5)
 have hg:=hd' (zh8 q2 _ f.gave w hf rfl)
 clear hq hf
 go_enter Tryz.func161,Tryz.ntmps161
 go_wp2_with (first | (go_at_call 67;(with_reducible refine hg.out.mono ?_);rintro r w1 ⟨rfl,hw1⟩;obtain rfl:=hw1.symm) | fail)
 go_returns
 exact ⟨rfl,rfl⟩
theorem zob (q:Nat) (s:Sh) (t:Rr) (v1 v3 v4:Value) (w:World) (hq:zaa w q (zby s t v1 (.pointer none) v3 v4) 126):
  Calls Tryz.prog 161 #[.pointer (some ⟨q,0,.none⟩)] w fun e w'=> e= .returned (.bool false)/\w'=w:=by
 have c:=ce (.pointer none) (hq.cell 5)
 have hg:=hd' (zoc w)
 clear hq
 go_enter Tryz.func161,Tryz.ntmps161
 go_wp2_with (first | (go_at_call 67;(with_reducible refine hg.out.mono ?_);rintro r w1 ⟨rfl,hw1⟩;obtain rfl:=hw1.symm) | fail)
 go_returns
 exact ⟨rfl,rfl⟩
def zev (o:Option Un):Bool:=match o with | some u=> u.done | none=> false
def zha (o:Option Cm):Bool:=match o with | some u=> u.done | none=> false
theorem zcp (s:Sh) (t:Rr) (r:Rs) (f:Fe) (h1:t.res=some r) (h2:t.free=some f):
  (zev t.undo=true/\t.settle s= { t with err:=1,done:=true })\/(zev t.undo=false/\zha t.com=true/\t.settle s= { t with err:=0,done:=true })\/
  (zev t.undo=false/\zha t.com=false/\r.done=false/\t.settle s=t)\/(zev t.undo=false/\zha t.com=false/\r.done=true/\r.got=none/\t.settle s= { t with err:=3,done:=true })\/
  (∃ b,zev t.undo=false/\zha t.com=false/\r.done=true/\r.got=some b/\(t.undo≠none\/(t.undo=none/\t.com≠none)\/(t.undo=none/\t.com=none/\f.done=false))/\t.settle s=t)\/
  (∃ b,zev t.undo=false/\zha t.com=false/\r.done=true/\r.got=some b/\t.undo=none/\t.com=none/\f.done=true/\f.gave=true/\t.settle s= { t with com:=some (zc4 s t.c b) })\/
  (∃ b,zev t.undo=false/\zha t.com=false/\r.done=true/\r.got=some b/\t.undo=none/\t.com=none/\f.done=true/\f.gave=false/\t.settle s= { t with undo:=some (zf1 s t.c b) }):=by
 obtain ⟨tc,tres,tfree,tundo,tcom,terr,tdone⟩:=t
 dsimp only at h1 h2
 subst h1 h2
 unfold Rr.settle zev zha
 dsimp only
 rcases tundo with _ | u <;> rcases tcom with _ | v
 ·cases h3:r.done <;> cases h4:r.got <;> cases h5:f.done <;> cases h6:f.gave <;> simp [*]
 ·cases h7:v.done <;> cases h3:r.done <;> cases h4:r.got <;> simp [*]
 ·cases h7:u.done <;> cases h3:r.done <;> cases h4:r.got <;> simp [*]
 ·cases h8:u.done <;> cases h7:v.done <;> cases h3:r.done <;> cases h4:r.got <;> simp [*]
structure z7c (q q1 q2 q3 q4:Nat) (s:Sh) (t:Rr) (w w':World) (e:Ending):Prop where
 ret:e= .returned (.tuple #[])
 only:Only (fun k=> k=q) w w'
 at':∃ q5 q6,zaa w' q (zby s (t.settle s) (.pointer (some ⟨q1,0,.none⟩)) (.pointer (some ⟨q2,0,.none⟩)) (ptrV (t.settle s).undo q5) (ptrV (t.settle s).com q6)) 126/\
  (((t.settle s).undo=t.undo/\q5=q3)\/(t.undo=none/\w.heap.size<=q5/\∃ x,(t.settle s).undo=some x/\zaa w' q5 (zhm s x) 153))/\
  (((t.settle s).com=t.com/\q6=q4)\/(t.com=none/\w.heap.size<=q6/\∃ x,(t.settle s).com=some x/\zaa w' q6 (ze3 s x) 155))
theorem ztq {F1:Nat->Prop} (q q1 q2 q3 q4:Nat) (s:Sh) (t:Rr) (r:Rs) (f:Fe) (pv:Value) (w:World) (hres:t.res=some r) (hfree:t.free=some f)
  (hq:zaa w q (zby s t (.pointer (some ⟨q1,0,.none⟩)) (.pointer (some ⟨q2,0,.none⟩)) (ptrV t.undo q3) (ptrV t.com q4)) 126) (hr:RsO F1 w q1 s r) (hf:zaa w q2 (za7 s f pv) 123)
  (hu:∀ x,t.undo=some x->zaa w q3 (zhm s x) 153) (hc:∀ x,t.com=some x->zaa w q4 (ze3 s x) 155):
  Calls Tryz.prog 54 #[.pointer (some ⟨q,0,.none⟩)] w fun e w'=> z7c q q1 q2 q3 q4 s t w w' e:=by
 have h0:=At1.start hq
 clear hq
 have hcs:=zcp s t r f hres hfree
 have hfin:Hid (∀ Y (t':Rr),t.settle s=t'->t'.undo=t.undo->t'.com=t.com->At1 q w Y (zby s t' (.pointer (some ⟨q1,0,.none⟩)) (.pointer (some ⟨q2,0,.none⟩)) (ptrV t.undo q3) (ptrV t.com q4)) 126->z7c q q1 q2 q3 q4 s t w Y (.returned (.tuple #[]))):=hd' fun Y t' e1 e2 e3 hA=>
  ⟨rfl,hA.only,q3,q4,by rw [e1,e2,e3];exact hA.row,.inl ⟨by rw [e1,e2],rfl⟩,.inl ⟨by rw [e1,e3],rfl⟩⟩
 have hfC:Hid (∀ Y q6 (x:Cm),t.settle s= { t with com:=some x }->t.com=none->w.heap.size<=q6->zaa Y q6 (ze3 s x) 155->At1 q w Y (zby s t (.pointer (some ⟨q1,0,.none⟩)) (.pointer (some ⟨q2,0,.none⟩)) (ptrV t.undo q3) (.pointer (some ⟨q6,0,.none⟩))) 126->z7c q q1 q2 q3 q4 s t w Y (.returned (.tuple #[]))):=hd' fun Y q6 x e1 e2 h6 hx hA=>
  ⟨rfl,hA.only,q3,q6,by rw [e1];exact hA.row,.inl ⟨by rw [e1],rfl⟩,.inr ⟨e2,h6,x,by rw [e1],hx⟩⟩
 have hfU:Hid (∀ Y q5 (x:Un),t.settle s= { t with undo:=some x }->t.undo=none->w.heap.size<=q5->zaa Y q5 (zhm s x) 153->At1 q w Y (zby s t (.pointer (some ⟨q1,0,.none⟩)) (.pointer (some ⟨q2,0,.none⟩)) (.pointer (some ⟨q5,0,.none⟩)) (ptrV t.com q4)) 126->z7c q q1 q2 q3 q4 s t w Y (.returned (.tuple #[]))):=hd' fun Y q5 x e1 e2 h5 hx hA=>
  ⟨rfl,hA.only,q5,q4,by rw [e1];exact hA.row,.inr ⟨e2,h5,x,by rw [e1],hx⟩,.inl ⟨by rw [e1],rfl⟩⟩
 have hfo:=hd' (zei hr)
 have hrd:=fun Y (hY:Below w.heap.size w Y)=> zil (hr.only (Only.of_below (F:=fun _=> False) hY) (fun _ _ e=> e))
 have hfd:=fun Y (hY:Below w.heap.size w Y)=> zkw q2 _ f.done Y (hf.below hY) rfl
 have hfg:=fun Y (hY:Below w.heap.size w Y)=> zh8 q2 _ f.gave Y (hf.below hY) rfl
 have hud:∀ Y,Below w.heap.size w Y->Calls Tryz.prog 63 #[ptrV t.undo q3] Y fun e w'=> e= .returned (.bool (zev t.undo))/\w'=Y:=fun Y hY=> by
  rcases h:t.undo with _ | u
  ·exact zof Y
  ·exact zx6 q3 _ u.done Y ((hu u h).below hY) rfl
 have hcd:∀ Y,Below w.heap.size w Y->Calls Tryz.prog 64 #[ptrV t.com q4] Y fun e w'=> e= .returned (.bool (zha t.com))/\w'=Y:=fun Y hY=> by
  rcases h:t.com with _ | u
  ·exact zi5 Y
  ·exact zo9 q4 _ u.done Y ((hc u h).below hY) rfl
 have hend:=fun x Y (hY:zaa Y q (zby s t (.pointer (some ⟨q1,0,.none⟩)) (.pointer (some ⟨q2,0,.none⟩)) (ptrV t.undo q3) (ptrV t.com q4)) 126)=> zsi q s t _ _ _ _ x Y hY
 have hnc:=fun b W=> ztm s t.c b W
 have hnu:=fun b W=> z3q s t.c b W
 clear hr hf hu hc hres hfree
 generalize r.done=rd at *
 generalize f.done=fd at *
 generalize f.gave=fg at *
 unfold gotV at hfo
 generalize hgg:r.got=og at *
 obtain ⟨sp,sc,sm⟩:=s
 obtain ⟨tc,tres,tfree,tundo,tcom,terr,tdone⟩:=t
 dsimp only at hcs hud hcd hend hfin hfC hfU hnc hnu
 obtain ⟨vu,hvu⟩:∃ v,v=ptrV tundo q3:=⟨_,rfl⟩
 obtain ⟨vc,hvc⟩:∃ v,v=ptrV tcom q4:=⟨_,rfl⟩
 rw [<- hvu] at h0 hfin hfC hud hend
 rw [<- hvc] at h0 hfin hfU hcd hend
 replace hvu:=hd' hvu
 replace hvc:=hd' hvc
 generalize zev tundo=ud at *
 generalize zha tcom=cd at *
 obtain ⟨blk,hblk⟩:∃ b,b=og.getD Blk.zero:=⟨_,rfl⟩
 rw [<- hblk] at hfo
 obtain ⟨oks,hoks⟩:∃ b,b=og.isSome:=⟨_,rfl⟩
 rw [<- hoks] at hfo
 replace hoks:=hd' hoks
 replace hblk:=hd' hblk
 obtain ⟨blarge,bpage,bslot,bk,bpages⟩:=blk
 dsimp only [zg0] at hfo
 replace hrd:=hd' hrd
 replace hfd:=hd' hfd
 replace hfg:=hd' hfg
 replace hud:=hd' hud
 replace hcd:=hd' hcd
 replace hend:=hd' hend
 replace hnc:=hd' hnc
 replace hnu:=hd' hnu
 replace hcs:=hd' hcs
 have c4:=ce (.pointer (some ⟨q1,0,.none⟩)) (h0.cell 4)
 go_enter Tryz.func54,Tryz.ntmps54
 go_upto_region 2 with (first | (go_at_call 62;(with_reducible refine hfo.out.mono ?_);rintro r w1 ⟨rfl,hb1⟩) | fail)
 have hbX:=hb1.trans ((Below.refl w.heap.size w1).alloc hb1.size (.cells #[.bool blarge,.int .i64 bpage,.int .i64 bslot,.int .i64 bk,.int .i64 bpages] 101))
 have hE:zaa (w1.alloc (.cells #[.bool blarge,.int .i64 bpage,.int .i64 bslot,.int .i64 bk,.int .i64 bpages] 101)) w1.heap.size #[.bool blarge,.int .i64 bpage,.int .i64 bslot,.int .i64 bk,.int .i64 bpages] 101:=heap_alloc_new _ _
 have hEw:w.heap.size<=w1.heap.size:=hb1.size
 generalize w1.alloc (.cells #[.bool blarge,.int .i64 bpage,.int .i64 bslot,.int .i64 bk,.int .i64 bpages] 101)=X at *
 obtain ⟨E,hEE,hEE'⟩:=hidv w1.heap.size
 simp only [<- hEE'] at hE hEw ⊢
 have hqE:E≠q:=fun e=> by have:=h0.lt;omega
 clear hEE' hEE c4 hfo hb1
 have hX:=h0.below hbX
 have lX:=hX.lt
 have lE:=hE.lt
 have c4:=ce (.pointer (some ⟨q1,0,.none⟩)) (hX.cell 4)
 have c5:=ce (.pointer (some ⟨q2,0,.none⟩)) (hX.cell 5)
 have c6:=ce (vu) (hX.cell 6)
 have c7:=ce (vc) (hX.cell 7)
 replace hbX:=hd' hbX
 have gud:=hd' (hud.out X hbX.out)
 have gcd:=hd' (hcd.out X hbX.out)
 have grd:=hd' (hrd.out X hbX.out)
 have gfd:=hd' (hfd.out X hbX.out)
 have gfg:=hd' (hfg.out X hbX.out)
 clear hud hcd hrd hfd hfg
 rcases hcs.out with ⟨rfl,hs⟩ | ⟨rfl,rfl,hs⟩ | ⟨rfl,rfl,rfl,hs⟩ | ⟨rfl,rfl,rfl,rfl,hs⟩ | ⟨b,rfl,rfl,rfl,rfl,hw,hs⟩ | ⟨b,rfl,rfl,rfl,rfl,e1,e2,rfl,rfl,hs⟩ | ⟨b,rfl,rfl,rfl,rfl,e1,e2,rfl,rfl,hs⟩
 case inl=>
  clear hcs hnc hnu hfC hfU
  replace hs:=hd' hs
  go_wp2_with (first
   | (go_at_call 63;(with_reducible refine gud.out.mono ?_);rintro r w2 ⟨rfl,hw2⟩;obtain rfl:=hw2.symm)
   | (go_at_call 53;(with_reducible refine (hend.out _ _ hX.row).mono ?_);rintro r w7 hT;obtain rfl:=hT.ret)
   | fail)
  go_returns
  exact hfin.out _ _ hs.out rfl rfl (hX.turned hT)
 case inr.inl=>
  clear hcs hnc hnu hfC hfU
  replace hs:=hd' hs
  go_wp2_with (first
   | (go_at_call 63;(with_reducible refine gud.out.mono ?_);rintro r w2 ⟨rfl,hw2⟩;obtain rfl:=hw2.symm)
   | (go_at_call 64;(with_reducible refine gcd.out.mono ?_);rintro r w3 ⟨rfl,hw3⟩;obtain rfl:=hw3.symm)
   | (go_at_call 53;(with_reducible refine (hend.out _ _ hX.row).mono ?_);rintro r w7 hT;obtain rfl:=hT.ret)
   | fail)
  go_returns
  exact hfin.out _ _ hs.out rfl rfl (hX.turned hT)
 case inr.inr.inl=>
  clear hcs hnc hnu hfC hfU
  replace hs:=hd' hs
  go_wp2_with (first
   | (go_at_call 63;(with_reducible refine gud.out.mono ?_);rintro r w2 ⟨rfl,hw2⟩;obtain rfl:=hw2.symm)
   | (go_at_call 64;(with_reducible refine gcd.out.mono ?_);rintro r w3 ⟨rfl,hw3⟩;obtain rfl:=hw3.symm)
   | (go_at_call 65;(with_reducible refine grd.out.mono ?_);rintro r w4 ⟨rfl,hw4⟩;obtain rfl:=hw4.symm)
   | fail)
  go_returns
  exact hfin.out _ _ hs.out rfl rfl hX
 case inr.inr.inr.inl=>
  clear hcs hnc hnu hfC hfU
  replace hs:=hd' hs
  replace hoks:Hid (oks=false):=hd' hoks.out
  obtain rfl:oks=false:=hoks.out
  go_wp2_with (first
   | (go_at_call 63;(with_reducible refine gud.out.mono ?_);rintro r w2 ⟨rfl,hw2⟩;obtain rfl:=hw2.symm)
   | (go_at_call 64;(with_reducible refine gcd.out.mono ?_);rintro r w3 ⟨rfl,hw3⟩;obtain rfl:=hw3.symm)
   | (go_at_call 65;(with_reducible refine grd.out.mono ?_);rintro r w4 ⟨rfl,hw4⟩;obtain rfl:=hw4.symm)
   | (go_at_call 53;(with_reducible refine (hend.out _ _ hX.row).mono ?_);rintro r w7 hT;obtain rfl:=hT.ret)
   | fail)
  go_returns
  exact hfin.out _ _ hs.out rfl rfl (hX.turned hT)
 case inr.inr.inr.inr.inl=>
  clear hcs hnc hnu hfC hfU
  replace hs:=hd' hs
  obtain rfl:oks=true:=hoks.out
  rcases hw with hw | ⟨hw1,hw2⟩ | ⟨hw1,hw2,hw3⟩
  ·obtain rfl:vu= .pointer (some ⟨q3,0,.none⟩):=by
    rcases tundo with _ | u
    ·exact absurd rfl hw
    ·exact hvu.out
   go_wp2_with (first
    | (go_at_call 63;(with_reducible refine gud.out.mono ?_);rintro r w2 ⟨rfl,hw2⟩;obtain rfl:=hw2.symm)
    | (go_at_call 64;(with_reducible refine gcd.out.mono ?_);rintro r w3 ⟨rfl,hw3⟩;obtain rfl:=hw3.symm)
    | (go_at_call 65;(with_reducible refine grd.out.mono ?_);rintro r w4 ⟨rfl,hw4⟩;obtain rfl:=hw4.symm)
    | fail)
   go_returns
   exact hfin.out _ _ hs.out rfl rfl hX
  ·obtain rfl:vu= .pointer none:=by rw [hvu.out,hw1];rfl
   obtain rfl:vc= .pointer (some ⟨q4,0,.none⟩):=by
    rcases tcom with _ | u
    ·exact absurd rfl hw2
    ·exact hvc.out
   go_wp2_with (first
    | (go_at_call 63;(with_reducible refine gud.out.mono ?_);rintro r w2 ⟨rfl,hw2⟩;obtain rfl:=hw2.symm)
    | (go_at_call 64;(with_reducible refine gcd.out.mono ?_);rintro r w3 ⟨rfl,hw3⟩;obtain rfl:=hw3.symm)
    | (go_at_call 65;(with_reducible refine grd.out.mono ?_);rintro r w4 ⟨rfl,hw4⟩;obtain rfl:=hw4.symm)
    | fail)
   go_returns
   exact hfin.out _ _ hs.out rfl rfl hX
  ·obtain rfl:vu= .pointer none:=by rw [hvu.out,hw1];rfl
   obtain rfl:vc= .pointer none:=by rw [hvc.out,hw2];rfl
   subst hw3
   go_wp2_with (first
    | (go_at_call 63;(with_reducible refine gud.out.mono ?_);rintro r w2 ⟨rfl,hw2⟩;obtain rfl:=hw2.symm)
    | (go_at_call 64;(with_reducible refine gcd.out.mono ?_);rintro r w3 ⟨rfl,hw3⟩;obtain rfl:=hw3.symm)
    | (go_at_call 65;(with_reducible refine grd.out.mono ?_);rintro r w4 ⟨rfl,hw4⟩;obtain rfl:=hw4.symm)
    | (go_at_call 66;(with_reducible refine gfd.out.mono ?_);rintro r w5 ⟨rfl,hw5⟩;obtain rfl:=hw5.symm)
    | fail)
   go_returns
   exact hfin.out _ _ hs.out rfl rfl hX
 case inr.inr.inr.inr.inr.inl=>
  clear hcs hend hfin
  replace hs:=hd' hs
  obtain rfl:oks=true:=hoks.out
  obtain rfl:vu= .pointer none:=by rw [hvu.out,e1];rfl
  obtain rfl:vc= .pointer none:=by rw [hvc.out,e2];rfl
  have hbb:b=⟨blarge,bpage,bslot,bk,bpages⟩:=hblk.out.symm
  subst hbb
  have gn:=hnc.out ⟨blarge,bpage,bslot,bk,bpages⟩
  dsimp only at gn
  replace gn:=hd' gn
  replace hfx:=hd' (fun Y q0 x=> hfC.out Y q0 x)
  clear hnc hnu hfC hfU
  go_upto_region 11 with (first
   | (go_at_call 63;(with_reducible refine gud.out.mono ?_);rintro r w2 ⟨rfl,hw2⟩;obtain rfl:=hw2.symm)
   | (go_at_call 64;(with_reducible refine gcd.out.mono ?_);rintro r w3 ⟨rfl,hw3⟩;obtain rfl:=hw3.symm)
   | (go_at_call 65;(with_reducible refine grd.out.mono ?_);rintro r w4 ⟨rfl,hw4⟩;obtain rfl:=hw4.symm)
   | (go_at_call 66;(with_reducible refine gfd.out.mono ?_);rintro r w5 ⟨rfl,hw5⟩;obtain rfl:=hw5.symm)
   | (go_at_call 67;(with_reducible refine gfg.out.mono ?_);rintro r w6 ⟨rfl,hw6⟩;obtain rfl:=hw6.symm)
   | fail)
  have hXd:At1 q w X.drew _ _:=⟨hX.row.drew,hX.only.drew,hX.ls⟩
  have hEd:=hE.drew
  have hS:=hd' (fun (Y:World) (v:Value) (h:zaa Y q (zby ⟨sp,sc,sm⟩ ⟨tc,tres,tfree,tundo,tcom,terr,tdone⟩ (.pointer (some ⟨q1,0,.none⟩)) (.pointer (some ⟨q2,0,.none⟩)) (.pointer none) v) 126) (h2:zaa Y E #[.bool blarge,.int .i64 bpage,.int .i64 bslot,.int .i64 bk,.int .i64 bpages] 101)=> (⟨h.cell 0,h.cell 1,h.cell 2,h.cell 3,h2.cell 0,h2.cell 1,h2.cell 2,h2.cell 3,h2.cell 4⟩:Y.cell? ⟨q,0,.none⟩=some (.int .i64 sp)/\Y.cell? ⟨q,1,.none⟩=some (.int .i64 sc)/\Y.cell? ⟨q,2,.none⟩=some (.int .i64 sm)/\Y.cell? ⟨q,3,.none⟩=some (.int .i64 tc)/\Y.cell? ⟨E,0,.none⟩=some (.bool blarge)/\Y.cell? ⟨E,1,.none⟩=some (.int .i64 bpage)/\Y.cell? ⟨E,2,.none⟩=some (.int .i64 bslot)/\Y.cell? ⟨E,3,.none⟩=some (.int .i64 bk)/\Y.cell? ⟨E,4,.none⟩=some (.int .i64 bpages)))
  go_region_held3 (fun Y=> Y.cell? ⟨q,0,.none⟩=some (.int .i64 sp)/\Y.cell? ⟨q,1,.none⟩=some (.int .i64 sc)/\Y.cell? ⟨q,2,.none⟩=some (.int .i64 sm)/\Y.cell? ⟨q,3,.none⟩=some (.int .i64 tc)/\Y.cell? ⟨E,0,.none⟩=some (.bool blarge)/\Y.cell? ⟨E,1,.none⟩=some (.int .i64 bpage)/\Y.cell? ⟨E,2,.none⟩=some (.int .i64 bslot)/\Y.cell? ⟨E,3,.none⟩=some (.int .i64 bk)/\Y.cell? ⟨E,4,.none⟩=some (.int .i64 bpages))
   (first | exact hS.out _ _ hXd.row hEd | exact hS.out _ _ hC.row hE6 | exact hS.out _ _ ((hC.set 7 _).row.cast rfl) (hE6.other hqE _ _) | fail)
   (first
    | (go_at_call 68;(with_reducible refine (gn.out _).mono ?_);rintro r w6 ⟨q6,rfl,hq6,hrow6,hb6⟩;have hC:=hXd.below hb6;have hE6:=hEd.below hb6;have z7:=ce (.pointer none) (hC.cell 7);have zf:=hC.free)
    | fail)
  go_wp2_with fail
  go_returns
  exact hfx.out _ q6 _ hs.out e2 (Nat.le_trans hbX.out.size hq6) (hrow6.other (by have h1:=hX.lt;have h2:X.heap.size<=q6:=hq6;omega) _ _) (hC.set 7 _)
 case inr.inr.inr.inr.inr.inr=>
  clear hcs hend hfin
  replace hs:=hd' hs
  obtain rfl:oks=true:=hoks.out
  obtain rfl:vu= .pointer none:=by rw [hvu.out,e1];rfl
  obtain rfl:vc= .pointer none:=by rw [hvc.out,e2];rfl
  have hbb:b=⟨blarge,bpage,bslot,bk,bpages⟩:=hblk.out.symm
  subst hbb
  have gn:=hnu.out ⟨blarge,bpage,bslot,bk,bpages⟩
  dsimp only at gn
  replace gn:=hd' gn
  replace hfx:=hd' (fun Y q0 x=> hfU.out Y q0 x)
  clear hnc hnu hfC hfU
  go_upto_region 1 with (first
   | (go_at_call 63;(with_reducible refine gud.out.mono ?_);rintro r w2 ⟨rfl,hw2⟩;obtain rfl:=hw2.symm)
   | (go_at_call 64;(with_reducible refine gcd.out.mono ?_);rintro r w3 ⟨rfl,hw3⟩;obtain rfl:=hw3.symm)
   | (go_at_call 65;(with_reducible refine grd.out.mono ?_);rintro r w4 ⟨rfl,hw4⟩;obtain rfl:=hw4.symm)
   | (go_at_call 66;(with_reducible refine gfd.out.mono ?_);rintro r w5 ⟨rfl,hw5⟩;obtain rfl:=hw5.symm)
   | (go_at_call 67;(with_reducible refine gfg.out.mono ?_);rintro r w6 ⟨rfl,hw6⟩;obtain rfl:=hw6.symm)
   | fail)
  have hXd:At1 q w X.drew _ _:=⟨hX.row.drew,hX.only.drew,hX.ls⟩
  have hEd:=hE.drew
  have hS:=hd' (fun (Y:World) (v:Value) (h:zaa Y q (zby ⟨sp,sc,sm⟩ ⟨tc,tres,tfree,tundo,tcom,terr,tdone⟩ (.pointer (some ⟨q1,0,.none⟩)) (.pointer (some ⟨q2,0,.none⟩)) v (.pointer none)) 126) (h2:zaa Y E #[.bool blarge,.int .i64 bpage,.int .i64 bslot,.int .i64 bk,.int .i64 bpages] 101)=> (⟨h.cell 0,h.cell 1,h.cell 2,h.cell 3,h2.cell 0,h2.cell 1,h2.cell 2,h2.cell 3,h2.cell 4⟩:Y.cell? ⟨q,0,.none⟩=some (.int .i64 sp)/\Y.cell? ⟨q,1,.none⟩=some (.int .i64 sc)/\Y.cell? ⟨q,2,.none⟩=some (.int .i64 sm)/\Y.cell? ⟨q,3,.none⟩=some (.int .i64 tc)/\Y.cell? ⟨E,0,.none⟩=some (.bool blarge)/\Y.cell? ⟨E,1,.none⟩=some (.int .i64 bpage)/\Y.cell? ⟨E,2,.none⟩=some (.int .i64 bslot)/\Y.cell? ⟨E,3,.none⟩=some (.int .i64 bk)/\Y.cell? ⟨E,4,.none⟩=some (.int .i64 bpages)))
  go_region_held3 (fun Y=> Y.cell? ⟨q,0,.none⟩=some (.int .i64 sp)/\Y.cell? ⟨q,1,.none⟩=some (.int .i64 sc)/\Y.cell? ⟨q,2,.none⟩=some (.int .i64 sm)/\Y.cell? ⟨q,3,.none⟩=some (.int .i64 tc)/\Y.cell? ⟨E,0,.none⟩=some (.bool blarge)/\Y.cell? ⟨E,1,.none⟩=some (.int .i64 bpage)/\Y.cell? ⟨E,2,.none⟩=some (.int .i64 bslot)/\Y.cell? ⟨E,3,.none⟩=some (.int .i64 bk)/\Y.cell? ⟨E,4,.none⟩=some (.int .i64 bpages))
   (first | exact hS.out _ _ hXd.row hEd | exact hS.out _ _ hC.row hE6 | exact hS.out _ _ ((hC.set 6 _).row.cast rfl) (hE6.other hqE _ _) | fail)
   (first
    | (go_at_call 69;(with_reducible refine (gn.out _).mono ?_);rintro r w6 ⟨q6,rfl,hq6,hrow6,hb6⟩;have hC:=hXd.below hb6;have hE6:=hEd.below hb6;have z6:=ce (.pointer none) (hC.cell 6);have zf:=hC.free)
    | fail)
  go_wp2_with fail
  go_returns
  exact hfx.out _ q6 _ hs.out e1 (Nat.le_trans hbX.out.size hq6) (hrow6.other (by have h1:=hX.lt;have h2:X.heap.size<=q6:=hq6;omega) _ _) (hC.set 6 _)
theorem ztt {F1:Nat->Prop} (q q1:Nat) (s:Sh) (t:Rr) (r:Rs) (v2 v3 v4:Value) (w:World) (hq:zaa w q (zby s t (.pointer (some ⟨q1,0,.none⟩)) v2 v3 v4) 126) (hr:RsO F1 w q1 s r) (hd:t.done=true) (he:t.err=0):
  Calls Tryz.prog 162 #[.pointer (some ⟨q,0,.none⟩)] w fun e w'=> e= .returned (gotV r.got)/\Below w.heap.size w w':=by
 have hfo:=fun Y (hY:Below w.heap.size w Y)=> zei (hr.only (Only.of_below (F:=fun _=> False) hY) (fun _ _ e=> e))
 clear hr
 unfold gotV at hfo ⊢
 generalize r.got.getD Blk.zero=blk at *
 generalize r.got.isSome=oks at *
 obtain ⟨blarge,bpage,bslot,bk,bpages⟩:=blk
 dsimp only [zg0] at hfo ⊢
 replace hfo:=hd' hfo
 have hb0:=(Below.refl w.heap.size w).alloc lr (.cells #[.bool false,.int .i64 0,.int .i64 0,.int .i64 0,.int .i64 0] 101)
 have hE:zaa (w.alloc (.cells #[.bool false,.int .i64 0,.int .i64 0,.int .i64 0,.int .i64 0] 101)) w.heap.size #[.bool false,.int .i64 0,.int .i64 0,.int .i64 0,.int .i64 0] 101:=heap_alloc_new _ _
 go_enter Tryz.func162,Tryz.ntmps162
 go_upto_region 1 with fail
 generalize w.alloc (.cells #[.bool false,.int .i64 0,.int .i64 0,.int .i64 0,.int .i64 0] 101)=X at *
 obtain ⟨E,hEE,hEE'⟩:=hidv w.heap.size
 simp only [<- hEE'] at hE ⊢
 have hEw:w.heap.size<=E:=by omega
 clear hEE'
 have lE:=hE.lt
 have hqX:=hq.below hb0
 have c9:X.cell? ⟨q,9,.none⟩=some (.bool true):=by rw [<- hd];exact hqX.cell 9
 have c8:X.cell? ⟨q,8,.none⟩=some (.int .i64 0):=by rw [<- he];exact hqX.cell 8
 have c4:=ce (.pointer (some ⟨q1,0,.none⟩)) (hqX.cell 4)
 clear hd he hq hqX
 go_wp2_with (first
  | (go_at_call 62;(with_reducible refine (hfo.out _ hb0).mono ?_);rintro r w1 ⟨rfl,hb1⟩;have hb2:=zab hb0 hb1;have hE1:=hE.below hb1;have e0:=ce (.bool false) (hE1.cell 0);have e1:=ci 0 (hE1.cell 1);have e2:=ci 0 (hE1.cell 2);have e3:=ci 0 (hE1.cell 3);have e4:=ci 0 (hE1.cell 4);have ef:=zax hE1)
  | fail)
 have hF:zaa (((((w1.setCell ⟨E,0,.none⟩ (.bool blarge)).setCell ⟨E,1,.none⟩ (.int .i64 bpage)).setCell ⟨E,2,.none⟩ (.int .i64 bslot)).setCell ⟨E,3,.none⟩ (.int .i64 bk)).setCell ⟨E,4,.none⟩ (.int .i64 bpages)) E #[.bool blarge,.int .i64 bpage,.int .i64 bslot,.int .i64 bk,.int .i64 bpages] 101:=(((((hE1.set 0 (.bool blarge)).set 1 (.int .i64 bpage)).set 2 (.int .i64 bslot)).set 3 (.int .i64 bk)).set 4 (.int .i64 bpages))
 have hbF:Below w.heap.size w (((((w1.setCell ⟨E,0,.none⟩ (.bool blarge)).setCell ⟨E,1,.none⟩ (.int .i64 bpage)).setCell ⟨E,2,.none⟩ (.int .i64 bslot)).setCell ⟨E,3,.none⟩ (.int .i64 bk)).setCell ⟨E,4,.none⟩ (.int .i64 bpages)):=(((((hb2.setCell (p:=⟨E,0,.none⟩) hEw (.bool blarge)).setCell (p:=⟨E,1,.none⟩) hEw (.int .i64 bpage)).setCell (p:=⟨E,2,.none⟩) hEw (.int .i64 bslot)).setCell (p:=⟨E,3,.none⟩) hEw (.int .i64 bk)).setCell (p:=⟨E,4,.none⟩) hEw (.int .i64 bpages))
 generalize ((((w1.setCell ⟨E,0,.none⟩ (.bool blarge)).setCell ⟨E,1,.none⟩ (.int .i64 bpage)).setCell ⟨E,2,.none⟩ (.int .i64 bslot)).setCell ⟨E,3,.none⟩ (.int .i64 bk)).setCell ⟨E,4,.none⟩ (.int .i64 bpages)=U at *
 have r0:=ce (.bool blarge) (hF.cell 0)
 have r1:=ci bpage (hF.cell 1)
 have r2:=ci bslot (hF.cell 2)
 have r3:=ci bk (hF.cell 3)
 have r4:=ci bpages (hF.cell 4)
 exact bodyPost_ret (v:= .tuple #[.agg #[.bool blarge,.int .i64 bpage,.int .i64 bslot,.int .i64 bk,.int .i64 bpages],.bool oks]) (by simp [results,Tryz.results162,go_sem,r0,r1,r2,r3,r4]) rfl ⟨rfl,hbF⟩
theorem zyb (q:Nat) (s:Sh) (t:Rr) (v1 v2 v3 v4:Value) (w:World) (hq:zaa w q (zby s t v1 v2 v3 v4) 126) (hn:t.done=false\/t.err≠0):
  Calls Tryz.prog 162 #[.pointer (some ⟨q,0,.none⟩)] w fun e w'=> e= .returned (gotV none)/\Below w.heap.size w w':=by
 have hn':t.done=false\/(t.done=true/\(t.err==0)=false):=by
  cases h:t.done
  ·exact .inl rfl
  ·exact .inr ⟨rfl,by simpa [h] using hn⟩
 have hb0:=(Below.refl w.heap.size w).alloc lr (.cells #[.bool false,.int .i64 0,.int .i64 0,.int .i64 0,.int .i64 0] 101)
 have hE:zaa (w.alloc (.cells #[.bool false,.int .i64 0,.int .i64 0,.int .i64 0,.int .i64 0] 101)) w.heap.size #[.bool false,.int .i64 0,.int .i64 0,.int .i64 0,.int .i64 0] 101:=heap_alloc_new _ _
 go_enter Tryz.func162,Tryz.ntmps162
 go_upto_region 1 with fail
 generalize w.alloc (.cells #[.bool false,.int .i64 0,.int .i64 0,.int .i64 0,.int .i64 0] 101)=X at *
 obtain ⟨E,hEE,hEE'⟩:=hidv w.heap.size
 simp only [<- hEE'] at hE ⊢
 have hEw:w.heap.size<=E:=by omega
 clear hEE'
 have lE:=hE.lt
 have hqX:=hq.below hb0
 have e0:=ce (.bool false) (hE.cell 0)
 have e1:=ci 0 (hE.cell 1)
 have e2:=ci 0 (hE.cell 2)
 have e3:=ci 0 (hE.cell 3)
 have e4:=ci 0 (hE.cell 4)
 have ef:=zax hE
 have c9:=ce (.bool t.done) (hqX.cell 9)
 have c8:=ci t.err (hqX.cell 8)
 clear hn hq hqX
 generalize t.done=td at *
 generalize t.err=te at *
 rcases hn' with rfl | ⟨rfl,hne⟩
 all_goals
  go_wp2_with fail
  have hF:zaa (((((X.setCell ⟨E,0,.none⟩ (.bool false)).setCell ⟨E,1,.none⟩ (.int .i64 0)).setCell ⟨E,2,.none⟩ (.int .i64 0)).setCell ⟨E,3,.none⟩ (.int .i64 0)).setCell ⟨E,4,.none⟩ (.int .i64 0)) E #[.bool false,.int .i64 0,.int .i64 0,.int .i64 0,.int .i64 0] 101:=(((((hE.set 0 (.bool false)).set 1 (.int .i64 0)).set 2 (.int .i64 0)).set 3 (.int .i64 0)).set 4 (.int .i64 0))
  have hbF:Below w.heap.size w (((((X.setCell ⟨E,0,.none⟩ (.bool false)).setCell ⟨E,1,.none⟩ (.int .i64 0)).setCell ⟨E,2,.none⟩ (.int .i64 0)).setCell ⟨E,3,.none⟩ (.int .i64 0)).setCell ⟨E,4,.none⟩ (.int .i64 0)):=(((((hb0.setCell (p:=⟨E,0,.none⟩) hEw (.bool false)).setCell (p:=⟨E,1,.none⟩) hEw (.int .i64 0)).setCell (p:=⟨E,2,.none⟩) hEw (.int .i64 0)).setCell (p:=⟨E,3,.none⟩) hEw (.int .i64 0)).setCell (p:=⟨E,4,.none⟩) hEw (.int .i64 0))
  generalize ((((X.setCell ⟨E,0,.none⟩ (.bool false)).setCell ⟨E,1,.none⟩ (.int .i64 0)).setCell ⟨E,2,.none⟩ (.int .i64 0)).setCell ⟨E,3,.none⟩ (.int .i64 0)).setCell ⟨E,4,.none⟩ (.int .i64 0)=U at *
  have r0:=ce (.bool false) (hF.cell 0)
  have r1:=ci 0 (hF.cell 1)
  have r2:=ci 0 (hF.cell 2)
  have r3:=ci 0 (hF.cell 3)
  have r4:=ci 0 (hF.cell 4)
  exact bodyPost_ret (v:= .tuple #[.agg #[.bool false,.int .i64 0,.int .i64 0,.int .i64 0,.int .i64 0],.bool false]) (by simp [results,Tryz.results162,go_sem,r0,r1,r2,r3,r4]) rfl ⟨rfl,hbF⟩
end

section

open Go.RowKit

def RrO (F:Nat->Prop) (w:World) (q:Nat) (s:Sh) (t:Rr):Prop:=
 (∀ k,F k->k < w.heap.size)/\F q/\∃ q1 q2 q3 q4 F1 F2,(∀ k,F1 k->F k/\k≠q)/\(∀ k,F2 k->F k/\k≠q/\¬ F1 k)/\
  zaa w q (zby s t (ptrV t.res q1) (ptrV t.free q2) (ptrV t.undo q3) (ptrV t.com q4)) 126/\
  (∀ x,t.res=some x->RsO F1 w q1 s x)/\(∀ x,t.free=some x->FeO F2 w q2 s x)/\
  (∀ x,t.undo=some x->(F q3/\q3≠q/\¬ F1 q3/\¬ F2 q3)/\zaa w q3 (zhm s x) 153)/\
  (∀ x,t.com=some x->(F q4/\q4≠q/\¬ F1 q4/\¬ F2 q4)/\zaa w q4 (ze3 s x) 155)
theorem zec {F:Nat->Prop} {w w':World} (h:∀ k,F k->k < w.heap.size) (hs:w.heap.size<=w'.heap.size):∀ k,grow F w w' k->k < w'.heap.size:=fun k e=> e.elim (fun e=> Nat.lt_of_lt_of_le (h k e) hs) (fun e=> e.2)
theorem RrO.settled {F:Nat->Prop} {w:World} {q:Nat} {s:Sh} {t:Rr} (h:RrO F w q s t) {r:Rs} {f:Fe} (hres:t.res=some r) (hfree:t.free=some f):
  Calls Tryz.prog 54 #[.pointer (some ⟨q,0,.none⟩)] w fun e w'=> e= .returned (.tuple #[])/\Only (fun k=> k=q) w w'/\RrO (grow F w w') w' q s (t.settle s):=by
 obtain ⟨hF,h1,q1,q2,q3,q4,F1,F2,hF1,hF2,hrow,hr,hf,hu,hc⟩:=h
 have hff:=hf f hfree
 obtain ⟨f1,q7,f2,f3⟩:=hff
 have hrow':zaa w q (zby s t (.pointer (some ⟨q1,0,.none⟩)) (.pointer (some ⟨q2,0,.none⟩)) (ptrV t.undo q3) (ptrV t.com q4)) 126:=by rw [hres,hfree] at hrow;exact hrow
 refine (ztq q q1 q2 q3 q4 s t r f (ptrV f.put q7) w hres hfree hrow' (hr r hres) f2.row (fun x hx=> (hu x hx).2) (fun x hx=> (hc x hx).2)).mono fun e w' hS=> ?_
 obtain ⟨q5,q6,g1,g2,g3⟩:=hS.at'
 have hsz:=hS.only.size
 have er:(t.settle s).res=t.res/\(t.settle s).free=t.free:=by
  rcases zcp s t r f hres hfree with ⟨_,e⟩ | ⟨_,_,e⟩ | ⟨_,_,_,e⟩ | ⟨_,_,_,_,e⟩ | ⟨b,_,_,_,_,_,e⟩ | ⟨b,_,_,_,_,_,_,_,_,e⟩ | ⟨b,_,_,_,_,_,_,_,_,e⟩ <;> rw [e] <;> exact ⟨rfl,rfl⟩
 refine ⟨hS.ret,hS.only,zec hF hsz,.inl h1,q1,q2,q5,q6,F1,F2,fun k hk=> ⟨.inl (hF1 k hk).1,(hF1 k hk).2⟩,fun k hk=> ⟨.inl (hF2 k hk).1,(hF2 k hk).2⟩,?_,?_,?_,?_,?_⟩
 ·rw [er.1,er.2,hres,hfree];exact g1
 ·intro x hx
  rw [er.1] at hx
  exact (hr x hx).only hS.only (fun k hk=> (hF1 k hk).2)
 ·intro x hx
  rw [er.2] at hx
  exact (hf x hx).only hS.only (fun k hk=> (hF2 k hk).2.1)
 ·intro x hx
  rcases g2 with ⟨g2,rfl⟩ | ⟨g2,g4,y,g5,g6⟩
  ·rw [g2] at hx
   obtain ⟨⟨a1,a2,a3,a4⟩,a5⟩:=hu x hx
   exact ⟨⟨.inl a1,a2,a3,a4⟩,a5.only hS.only a2⟩
  ·rw [g5] at hx
   injection hx with hx
   subst hx
   exact ⟨⟨.inr ⟨g4,g6.lt⟩,fun e=> by have:=hF q h1;omega,fun e=> by have:=hF _ (hF1 _ e).1;omega,fun e=> by have:=hF _ (hF2 _ e).1;omega⟩,g6⟩
 ·intro x hx
  rcases g3 with ⟨g3,rfl⟩ | ⟨g3,g4,y,g5,g6⟩
  ·rw [g3] at hx
   obtain ⟨⟨a1,a2,a3,a4⟩,a5⟩:=hc x hx
   exact ⟨⟨.inl a1,a2,a3,a4⟩,a5.only hS.only a2⟩
  ·rw [g5] at hx
   injection hx with hx
   subst hx
   exact ⟨⟨.inr ⟨g4,g6.lt⟩,fun e=> by have:=hF q h1;omega,fun e=> by have:=hF _ (hF1 _ e).1;omega,fun e=> by have:=hF _ (hF2 _ e).1;omega⟩,g6⟩
structure rrOk (s:Sh) (t:Rr):Prop where
 cl:t.done=false->∃ r f,t.res=some r/\t.free=some f/\((∀ x,r.seeker=some x->skOk s x)/\(∀ x,r.runner=some x->rnOk s x))/\feOk s f/\(∀ u,t.undo=some u->unOk s u)/\(∀ u,t.com=some u->cmOk s u)/\(t.undo=none\/t.com=none)/\(r.done=true->f.done=true->t.undo≠none\/t.com≠none)
theorem RrO.zuw {F:Nat->Prop} {q p b:Nat} {s:Sh} {t:Rr} {m:Mem} {w:World} (h:RrO F w q s t) {r:Rs} (hres:t.res=some r) (hw:zaq w p b m) (hp:¬ F p) (hb:¬ F b) (hf:Fits s m) (ho:(∀ x,r.seeker=some x->skOk s x)/\(∀ x,r.runner=some x->rnOk s x)) (hs:m.st < 1000000000):
  ∃ q1,w.cell? ⟨q,4,.none⟩=some (.pointer (some ⟨q1,0,.none⟩))/\Calls Tryz.prog 114 #[.pointer (some ⟨q1,0,.none⟩),.pointer (some ⟨p,0,.none⟩)] w fun e w'=> zef F p b w w' e (zb0 s r m).2/\RrO (grow F w w') w' q s { t with res:=some (zb0 s r m).1 }:=by
 obtain ⟨hF,h1,q1,q2,q3,q4,F1,F2,hF1,hF2,hrow,hr,hfr,hu,hc⟩:=h
 have c4:=ce (ptrV t.res q1) (hrow.cell 4)
 rw [hres] at c4
 refine ⟨q1,c4,(zo5 (hr r hres) hw (fun e=> hp (hF1 p e).1) (fun e=> hb (hF1 b e).1) hf ho hs).mono fun e w' hS=> ?_⟩
 obtain ⟨hO,hR⟩:=hS
 have hsz:=hO.only.size
 have hq:¬ (F1 q\/q=p\/q=b):=by
  rintro (e | e | e)
  ·exact (hF1 q e).2 rfl
  ·exact hp (e ▸ h1)
  ·exact hb (e ▸ h1)
 have hout:∀ k,F k->¬ F1 k->¬ (F1 k\/k=p\/k=b):=fun k hk hk1 e=> by
  rcases e with e | e | e
  ·exact hk1 e
  ·exact hp (e ▸ hk)
  ·exact hb (e ▸ hk)
 have hng:∀ k,F k->¬ F1 k->¬ grow F1 w w' k:=fun k hk hk1 e=> by
  rcases e with e | e
  ·exact hk1 e
  ·have:=hF k hk;omega
 refine ⟨⟨hO.ret,hO.wds,hO.only.weak fun k hk=> hk.imp (fun e=> (hF1 k e).1) id⟩,zec hF hsz,.inl h1,q1,q2,q3,q4,grow F1 w w',F2,fun k hk=> ?_,fun k hk=> ⟨.inl (hF2 k hk).1,(hF2 k hk).2.1,hng k (hF2 k hk).1 (hF2 k hk).2.2⟩,?_,?_,?_,?_,?_⟩
 ·rcases hk with hk | hk
  ·exact ⟨.inl (hF1 k hk).1,(hF1 k hk).2⟩
  ·exact ⟨.inr hk,fun e=> by have:=hF q h1;omega⟩
 ·have:=hrow.only hO.only hq
  rw [hres] at this
  exact this
 ·intro x hx
  injection hx with hx
  subst hx
  exact hR
 ·intro x hx
  exact (hfr x hx).only hO.only (fun k hk=> hout k (hF2 k hk).1 (hF2 k hk).2.2)
 ·intro x hx
  obtain ⟨⟨a1,a2,a3,a4⟩,a5⟩:=hu x hx
  exact ⟨⟨.inl a1,a2,hng _ a1 a3,a4⟩,a5.only hO.only (hout _ a1 a3)⟩
 ·intro x hx
  obtain ⟨⟨a1,a2,a3,a4⟩,a5⟩:=hc x hx
  exact ⟨⟨.inl a1,a2,hng _ a1 a3,a4⟩,a5.only hO.only (hout _ a1 a3)⟩
theorem RrO.weak {F G:Nat->Prop} {w:World} {q:Nat} {s:Sh} {t:Rr} (h:RrO F w q s t) (hG:∀ k,F k->G k) (hb:∀ k,G k->k < w.heap.size):RrO G w q s t:=by
 obtain ⟨hF,h1,q1,q2,q3,q4,F1,F2,hF1,hF2,hrow,hr,hfr,hu,hc⟩:=h
 exact ⟨hb,hG q h1,q1,q2,q3,q4,F1,F2,fun k hk=> ⟨hG k (hF1 k hk).1,(hF1 k hk).2⟩,fun k hk=> ⟨hG k (hF2 k hk).1,(hF2 k hk).2⟩,hrow,hr,hfr,fun x hx=> ⟨⟨hG _ (hu x hx).1.1,(hu x hx).1.2⟩,(hu x hx).2⟩,fun x hx=> ⟨⟨hG _ (hc x hx).1.1,(hc x hx).1.2⟩,(hc x hx).2⟩⟩
theorem RrO.z5a {F:Nat->Prop} {q p b:Nat} {s:Sh} {t:Rr} {m:Mem} {w:World} (h:RrO F w q s t) {f:Fe} (hfree:t.free=some f) (hw:zaq w p b m) (hp:¬ F p) (hb:¬ F b) (hf:Fits s m) (ho:feOk s f) (hs:m.st < 1000000000):
  ∃ q2,w.cell? ⟨q,5,.none⟩=some (.pointer (some ⟨q2,0,.none⟩))/\Calls Tryz.prog 140 #[.pointer (some ⟨q2,0,.none⟩),.pointer (some ⟨p,0,.none⟩)] w fun e w'=> zef F p b w w' e (zca s f m).2/\RrO (grow F w w') w' q s { t with free:=some (zca s f m).1 }:=by
 obtain ⟨hF,h1,q1,q2,q3,q4,F1,F2,hF1,hF2,hrow,hr,hfr,hu,hc⟩:=h
 have c5:=ce (ptrV t.free q2) (hrow.cell 5)
 rw [hfree] at c5
 refine ⟨q2,c5,(zw0 (hfr f hfree) hw (fun e=> hp (hF2 p e).1) (fun e=> hb (hF2 b e).1) hf ho hs).mono fun e w' hS=> ?_⟩
 obtain ⟨hO,hR⟩:=hS
 have hsz:=hO.only.size
 have hq:¬ (F2 q\/q=p\/q=b):=by
  rintro (e | e | e)
  ·exact (hF2 q e).2.1 rfl
  ·exact hp (e ▸ h1)
  ·exact hb (e ▸ h1)
 have hout:∀ k,F k->¬ F2 k->¬ (F2 k\/k=p\/k=b):=fun k hk hk1 e=> by
  rcases e with e | e | e
  ·exact hk1 e
  ·exact hp (e ▸ hk)
  ·exact hb (e ▸ hk)
 have hng:∀ k,F k->¬ F2 k->¬ grow F2 w w' k:=fun k hk hk1 e=> by
  rcases e with e | e
  ·exact hk1 e
  ·have:=hF k hk;omega
 refine ⟨⟨hO.ret,hO.wds,hO.only.weak fun k hk=> hk.imp (fun e=> (hF2 k e).1) id⟩,zec hF hsz,.inl h1,q1,q2,q3,q4,F1,grow F2 w w',fun k hk=> ⟨.inl (hF1 k hk).1,(hF1 k hk).2⟩,fun k hk=> ?_,?_,?_,?_,?_,?_⟩
 ·rcases hk with hk | hk
  ·exact ⟨.inl (hF2 k hk).1,(hF2 k hk).2⟩
  ·exact ⟨.inr hk,fun e=> by have:=hF q h1;omega,fun e=> by have:=hF k (hF1 k e).1;omega⟩
 ·have:=hrow.only hO.only hq
  rw [hfree] at this
  exact this
 ·intro x hx
  exact (hr x hx).only hO.only (fun k hk=> hout k (hF1 k hk).1 (fun e=> (hF2 k e).2.2 hk))
 ·intro x hx
  injection hx with hx
  subst hx
  exact hR
 ·intro x hx
  obtain ⟨⟨a1,a2,a3,a4⟩,a5⟩:=hu x hx
  exact ⟨⟨.inl a1,a2,a3,hng _ a1 a4⟩,a5.only hO.only (hout _ a1 a4)⟩
 ·intro x hx
  obtain ⟨⟨a1,a2,a3,a4⟩,a5⟩:=hc x hx
  exact ⟨⟨.inl a1,a2,a3,hng _ a1 a4⟩,a5.only hO.only (hout _ a1 a4)⟩
theorem RrO.z5y {F:Nat->Prop} {q p b:Nat} {s:Sh} {t:Rr} {m:Mem} {w:World} (h:RrO F w q s t) {u:Un} (hun:t.undo=some u) (hno:t.com=none) (hw:zaq w p b m) (hp:¬ F p) (hb:¬ F b) (hf:Fits s m) (ho:unOk s u) (hs:m.st < 1000000000):
  ∃ q3,w.cell? ⟨q,6,.none⟩=some (.pointer (some ⟨q3,0,.none⟩))/\Calls Tryz.prog 156 #[.pointer (some ⟨q3,0,.none⟩),.pointer (some ⟨p,0,.none⟩)] w fun e w'=> zef F p b w w' e (zcf s u m).2/\RrO (grow F w w') w' q s { t with undo:=some (zcf s u m).1 }:=by
 obtain ⟨hF,h1,q1,q2,q3,q4,F1,F2,hF1,hF2,hrow,hr,hfr,hu,hc⟩:=h
 have c5:=ce (ptrV t.undo q3) (hrow.cell 6)
 rw [hun] at c5
 obtain ⟨⟨b1,b2,b3,b4⟩,b5⟩:=hu u hun
 refine ⟨q3,c5,(zyo q3 p b s u m w b5 hw (fun e=> hp (e ▸ b1)) (fun e=> hb (e ▸ b1)) hf ho hs).mono fun e w' hS=> ?_⟩
 have hsz:=hS.only.size
 have hq:¬ (q=q3\/q=p\/q=b):=by
  rintro (e | e | e)
  ·exact b2 e.symm
  ·exact hp (e ▸ h1)
  ·exact hb (e ▸ h1)
 have hout:∀ k,F k->k≠q3->¬ (k=q3\/k=p\/k=b):=fun k hk hk1 e=> by
  rcases e with e | e | e
  ·exact hk1 e
  ·exact hp (e ▸ hk)
  ·exact hb (e ▸ hk)
 refine ⟨⟨hS.ret,hS.wds,hS.only.weak fun k hk=> hk.imp (fun e=> by rw [e];exact b1) id⟩,zec hF hsz,.inl h1,q1,q2,q3,q4,F1,F2,fun k hk=> ⟨.inl (hF1 k hk).1,(hF1 k hk).2⟩,fun k hk=> ⟨.inl (hF2 k hk).1,(hF2 k hk).2⟩,?_,?_,?_,?_,?_⟩
 ·have:=hrow.only hS.only hq
  rw [hun] at this
  exact this
 ·intro x hx
  exact (hr x hx).only hS.only (fun k hk=> hout k (hF1 k hk).1 (fun e=> b3 (e ▸ hk)))
 ·intro x hx
  exact (hfr x hx).only hS.only (fun k hk=> hout k (hF2 k hk).1 (fun e=> b4 (e ▸ hk)))
 ·intro x hx
  injection hx with hx
  subst hx
  exact ⟨⟨.inl b1,b2,b3,b4⟩,hS.row⟩
 ·intro x hx
  exact absurd hx (by rw [hno];exact fun e=> by cases e)
theorem RrO.z9y {F:Nat->Prop} {q p b:Nat} {s:Sh} {t:Rr} {m:Mem} {w:World} (h:RrO F w q s t) {u:Cm} (hun:t.com=some u) (hno:t.undo=none) (hw:zaq w p b m) (hp:¬ F p) (hb:¬ F b) (hf:Fits s m) (ho:cmOk s u) (hs:m.st < 1000000000):
  ∃ q3,w.cell? ⟨q,7,.none⟩=some (.pointer (some ⟨q3,0,.none⟩))/\Calls Tryz.prog 115 #[.pointer (some ⟨q3,0,.none⟩),.pointer (some ⟨p,0,.none⟩)] w fun e w'=> zef F p b w w' e (zb3 s u m).2/\RrO (grow F w w') w' q s { t with com:=some (zb3 s u m).1 }:=by
 obtain ⟨hF,h1,q1,q2,q3,q4,F1,F2,hF1,hF2,hrow,hr,hfr,hu,hc⟩:=h
 have c5:=ce (ptrV t.com q4) (hrow.cell 7)
 rw [hun] at c5
 obtain ⟨⟨b1,b2,b3,b4⟩,b5⟩:=hc u hun
 refine ⟨q4,c5,(zou q4 p b s u m w b5 hw (fun e=> hp (e ▸ b1)) (fun e=> hb (e ▸ b1)) hf ho hs).mono fun e w' hS=> ?_⟩
 have hsz:=hS.only.size
 have hq:¬ (q=q4\/q=p\/q=b):=by
  rintro (e | e | e)
  ·exact b2 e.symm
  ·exact hp (e ▸ h1)
  ·exact hb (e ▸ h1)
 have hout:∀ k,F k->k≠q4->¬ (k=q4\/k=p\/k=b):=fun k hk hk1 e=> by
  rcases e with e | e | e
  ·exact hk1 e
  ·exact hp (e ▸ hk)
  ·exact hb (e ▸ hk)
 refine ⟨⟨hS.ret,hS.wds,hS.only.weak fun k hk=> hk.imp (fun e=> by rw [e];exact b1) id⟩,zec hF hsz,.inl h1,q1,q2,q3,q4,F1,F2,fun k hk=> ⟨.inl (hF1 k hk).1,(hF1 k hk).2⟩,fun k hk=> ⟨.inl (hF2 k hk).1,(hF2 k hk).2⟩,?_,?_,?_,?_,?_⟩
 ·have:=hrow.only hS.only hq
  rw [hun] at this
  exact this
 ·intro x hx
  exact (hr x hx).only hS.only (fun k hk=> hout k (hF1 k hk).1 (fun e=> b3 (e ▸ hk)))
 ·intro x hx
  exact (hfr x hx).only hS.only (fun k hk=> hout k (hF2 k hk).1 (fun e=> b4 (e ▸ hk)))
 ·intro x hx
  exact absurd hx (by rw [hno];exact fun e=> by cases e)
 ·intro x hx
  injection hx with hx
  subst hx
  exact ⟨⟨.inl b1,b2,b3,b4⟩,hS.row⟩
end

end Go.Proofs.YthgekdlegbmehaaGreat
