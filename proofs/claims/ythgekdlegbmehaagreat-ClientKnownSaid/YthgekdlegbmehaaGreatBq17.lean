/- The Reserver in memory; which blocks a machine that is made of others has. -/
import Derived.Test.YthgekdlegbmehaaGreatBq16

set_option linter.all false
set_option maxHeartbeats 1000000
namespace Go.Proofs.YthgekdlegbmehaaGreat

open Go.RowKit

attribute [local go_sem ↓] Go.wp_at_zero Go.wp_at_succ

def grow (F:Nat->Prop) (w w':World):Nat->Prop:=fun k=> F k\/(w.heap.size<=k/\k < w'.heap.size)
theorem z2p {F G:Nat->Prop} {w w':World} (h:∀ k,F k->G k):∀ k,grow F w w' k->grow G w w' k:=fun k e=> e.imp (h k) id
def SkO (F:Nat->Prop) (w:World) (q:Nat) (s:Sh) (t:Sk):Prop:=F q/\∃ q2,SkAt w q q2 s t/\(t.now≠none->F q2)
def RnO (F:Nat->Prop) (w:World) (q:Nat) (s:Sh) (t:Rn):Prop:=F q/\∃ q2,RnAt w q q2 s t/\(t.strip≠none->F q2)
theorem RnAt.znz {w w':World} {q q2:Nat} {s:Sh} {t:Rn} {G:Nat->Prop} (h:RnAt w q q2 s t) (ho:Only G w w') (h1:¬ G q) (h2:t.strip≠none->¬ G q2):RnAt w' q q2 s t:=
 ⟨h.row.only ho h1,fun x hx=> ⟨(h.inn x hx).1.only ho (h2 (by rw [hx];exact fun e=> by cases e)),(h.inn x hx).2⟩⟩
theorem SkAt.znz {w w':World} {q q2:Nat} {s:Sh} {t:Sk} {G:Nat->Prop} (h:SkAt w q q2 s t) (ho:Only G w w') (h1:¬ G q) (h2:t.now≠none->¬ G q2):SkAt w' q q2 s t:=
 ⟨h.row.only ho h1,fun x hx=> ⟨(h.inn x hx).1.only ho (h2 (by rw [hx];exact fun e=> by cases e)),(h.inn x hx).2⟩⟩
theorem SkO.only {F G:Nat->Prop} {w w':World} {q:Nat} {s:Sh} {t:Sk} (h:SkO F w q s t) (ho:Only G w w') (hd:∀ k,F k->¬ G k):SkO F w' q s t:=by
 obtain ⟨h1,q2,h2,h3⟩:=h
 exact ⟨h1,q2,h2.znz ho (hd q h1) (fun e=> hd q2 (h3 e)),h3⟩
theorem RnO.only {F G:Nat->Prop} {w w':World} {q:Nat} {s:Sh} {t:Rn} (h:RnO F w q s t) (ho:Only G w w') (hd:∀ k,F k->¬ G k):RnO F w' q s t:=by
 obtain ⟨h1,q2,h2,h3⟩:=h
 exact ⟨h1,q2,h2.znz ho (hd q h1) (fun e=> hd q2 (h3 e)),h3⟩
structure zef (F:Nat->Prop) (p b:Nat) (w w':World) (e:Ending) (m:Mem):Prop where
 ret:e= .returned (.tuple #[])
 wds:zaq w' p b m
 only:Only (fun k=> F k\/k=p\/k=b) w w'
theorem z5m {F:Nat->Prop} {q p b:Nat} {s:Sh} {t:Sk} {m:Mem} {w:World} (h:SkO F w q s t) (hw:zaq w p b m) (hp:¬ F p) (hb:¬ F b) (hf:Fits s m) (ho:skOk s t) (hs:m.st < 1000000000):
  Calls Tryz.prog 116 #[.pointer (some ⟨q,0,.none⟩),.pointer (some ⟨p,0,.none⟩)] w fun e w'=> zef F p b w w' e (zbv s t m).2/\SkO (grow F w w') w' q s (zbv s t m).1:=by
 obtain ⟨h1,q2,h2,h3⟩:=h
 have key:∀ now e w',(now=true->F q2)->zez q q2 p b now w w' e s (zbv s t m).1 (zbv s t m).2->zef F p b w w' e (zbv s t m).2/\SkO (grow F w w') w' q s (zbv s t m).1:=fun now e w' hn hS=> by
  obtain ⟨q3,h4,h5⟩:=hS.at'
  refine ⟨⟨hS.ret,hS.wds,hS.only.weak fun k hk=> ?_⟩,.inl h1,q3,h4,fun hne=> ?_⟩
  ·rcases hk with rfl | ⟨e,rfl⟩ | hk | hk
   ·exact .inl h1
   ·exact .inl (hn e)
   ·exact .inr (.inl hk)
   ·exact .inr (.inr hk)
  ·rcases h5 with ⟨rfl,h5⟩ | h5
   ·cases now
    ·exact absurd (h5 rfl) hne
    ·exact .inl (hn rfl)
   ·rcases hq:(zbv s t m).1.now with _ | x
    ·exact absurd hq hne
    ·exact .inr ⟨h5,(h4.inn x hq).1.lt⟩
 rcases Bool.eq_false_or_eq_true t.done with hd | hd
 ·rcases hx:t.now with _ | x
  ·exact (zns q q2 p b s t m w h2 hw hd false (fun _=> hx)).mono fun e w' hS=> key false e w' (fun e=> by cases e) hS
  ·exact (zns q q2 p b s t m w h2 hw hd true (fun e=> by cases e)).mono fun e w' hS=> key true e w' (fun _=> h3 (by rw [hx];exact fun e=> by cases e)) hS
 ·rcases hx:t.now with _ | x
  ·exact (zuy q q2 p b s t m w h2 hx hw (fun e=> hp (e ▸ h1)) (fun e=> hb (e ▸ h1)) hf ho hs hd).mono fun e w' hS=> key false e w' (fun e=> by cases e) hS
  ·have h4:=h3 (by rw [hx];exact fun e=> by cases e)
   exact (zzl q q2 p b s t x m w h2 hx hw ⟨fun e=> hp (e ▸ h1),fun e=> hp (e ▸ h4)⟩ ⟨fun e=> hb (e ▸ h1),fun e=> hb (e ▸ h4)⟩ hf ho hs hd).mono fun e w' hS=> key true e w' (fun _=> h4) hS
theorem z7o {F:Nat->Prop} {q p b:Nat} {s:Sh} {t:Rn} {m:Mem} {w:World} (h:RnO F w q s t) (hw:zaq w p b m) (hp:¬ F p) (hb:¬ F b) (hf:Fits s m) (ho:rnOk s t) (hs:m.st < 1000000000):
  Calls Tryz.prog 117 #[.pointer (some ⟨q,0,.none⟩),.pointer (some ⟨p,0,.none⟩)] w fun e w'=> zef F p b w w' e (zcr s t m).2/\RnO (grow F w w') w' q s (zcr s t m).1:=by
 obtain ⟨h1,q2,h2,h3⟩:=h
 refine (zyl q q2 p b s t m w h2 hw (fun e=> hp (e ▸ h1)) (fun e=> hb (e ▸ h1)) (fun hn=> ⟨fun e=> hp (e ▸ h3 hn),fun e=> hb (e ▸ h3 hn)⟩) hf ho hs).mono fun e w' hS=> ?_
 have hn:t.strip.isSome=true->F q2:=fun e=> h3 (fun e2=> by rw [e2] at e;cases e)
 obtain ⟨q3,h4,h5⟩:=hS.at'
 refine ⟨⟨hS.ret,hS.wds,hS.only.weak fun k hk=> ?_⟩,.inl h1,q3,h4,fun hne=> ?_⟩
 ·rcases hk with rfl | ⟨e,rfl⟩ | hk | hk
  ·exact .inl h1
  ·exact .inl (hn e)
  ·exact .inr (.inl hk)
  ·exact .inr (.inr hk)
 ·rcases h5 with ⟨rfl,h5⟩ | h5
  ·cases hi:t.strip.isSome
   ·exact absurd (h5 hi) hne
   ·exact .inl (hn hi)
  ·rcases hq:(zcr s t m).1.strip with _ | x
   ·exact absurd hq hne
   ·exact .inr ⟨h5,(h4.inn x hq).1.lt⟩
def ptrV {α:Type} (o:Option α) (q:Nat):Value:=match o with
 | none=> .pointer none
 | some _=> .pointer (some ⟨q,0,.none⟩)
def zjd (t:Rs) (v1 v2:Value):Array Value:= #[.int .i64 t.k,.int .i64 t.pages,v1,v2]
def RsO (F:Nat->Prop) (w:World) (q:Nat) (s:Sh) (t:Rs):Prop:=
 F q/\∃ q1 G,(∀ k,G k->F k/\k≠q)/\zaa w q (zjd t (ptrV t.seeker q1) (ptrV t.runner q1)) 117/\(t.seeker=none\/t.runner=none)/\(∀ x,t.seeker=some x->SkO G w q1 s x)/\(∀ x,t.runner=some x->RnO G w q1 s x)
theorem RsO.only {F G:Nat->Prop} {w w':World} {q:Nat} {s:Sh} {t:Rs} (h:RsO F w q s t) (ho:Only G w w') (hd:∀ k,F k->¬ G k):RsO F w' q s t:=by
 obtain ⟨h1,q1,H,h2,h3,h4,h5,h6⟩:=h
 exact ⟨h1,q1,H,h2,h3.only ho (hd q h1),h4,fun x hx=> (h5 x hx).only ho (fun k hk=> hd k (h2 k hk).1),fun x hx=> (h6 x hx).only ho (fun k hk=> hd k (h2 k hk).1)⟩
theorem RsO.weak {F G:Nat->Prop} {w:World} {q:Nat} {s:Sh} {t:Rs} (h:RsO F w q s t) (hG:∀ k,F k->G k):RsO G w q s t:=by
 obtain ⟨h1,q1,H,h2,h⟩:=h
 exact ⟨hG q h1,q1,H,fun k hk=> ⟨hG k (h2 k hk).1,(h2 k hk).2⟩,h⟩
theorem zpx (t:Rs) (h:t.seeker=none\/t.runner=none):(∃ x,t.seeker=some x/\t.runner=none)\/(∃ x,t.seeker=none/\t.runner=some x)\/(t.seeker=none/\t.runner=none):=by
 rcases h1:t.seeker with _ | x <;> rcases h2:t.runner with _ | y
 ·exact .inr (.inr ⟨rfl,rfl⟩)
 ·exact .inr (.inl ⟨y,rfl,rfl⟩)
 ·exact .inl ⟨x,rfl,rfl⟩
 ·rcases h with h | h
  ·rw [h1] at h;cases h
  ·rw [h2] at h;cases h
theorem zil {F:Nat->Prop} {q:Nat} {s:Sh} {t:Rs} {w:World} (h:RsO F w q s t):
  Calls Tryz.prog 65 #[.pointer (some ⟨q,0,.none⟩)] w fun e w'=> e= .returned (.bool t.done)/\w'=w:=by
 obtain ⟨h1,q1,H,h2,h3,h4,h5,h6⟩:=h
 have c2:=ce (ptrV t.seeker q1) (h3.cell 2)
 have c3:=ce (ptrV t.runner q1) (h3.cell 3)
 rcases zpx t h4 with ⟨x,e1,e2⟩ | ⟨x,e1,e2⟩ | ⟨e1,e2⟩
 ·obtain ⟨_,q2,hsk,_⟩:=h5 x e1
  have hd:=hd' (zzq q1 _ x.done w hsk.row rfl)
  have hr:t.done=x.done:=by unfold Rs.done;rw [e1]
  rw [hr]
  rw [e1] at c2
  replace c2:w.cell? ⟨q,2,.none⟩=some (.pointer (some ⟨q1,0,.none⟩)):=c2
  clear h1 h2 h3 h4 h5 h6 c3 hr e1 e2 hsk
  go_enter Tryz.func65,Tryz.ntmps65
  go_wp2_with (first | (go_at_call 76;(with_reducible refine hd.out.mono ?_);rintro r w1 ⟨rfl,hw1⟩;obtain rfl:=hw1.symm) | fail)
  go_returns
  exact ⟨rfl,rfl⟩
 ·obtain ⟨_,q2,hrn,_⟩:=h6 x e2
  have hd:=hd' (zy1 q1 _ x.done w hrn.row rfl)
  have hr:t.done=x.done:=by unfold Rs.done;rw [e1,e2]
  rw [hr]
  rw [e1] at c2
  rw [e2] at c3
  replace c2:w.cell? ⟨q,2,.none⟩=some (.pointer none):=c2
  replace c3:w.cell? ⟨q,3,.none⟩=some (.pointer (some ⟨q1,0,.none⟩)):=c3
  clear h1 h2 h3 h4 h5 h6 hr e1 e2 hrn
  go_enter Tryz.func65,Tryz.ntmps65
  go_wp2_with (first | (go_at_call 77;(with_reducible refine hd.out.mono ?_);rintro r w1 ⟨rfl,hw1⟩;obtain rfl:=hw1.symm) | fail)
  go_returns
  exact ⟨rfl,rfl⟩
 ·have hr:t.done=true:=by unfold Rs.done;rw [e1,e2]
  rw [hr]
  rw [e1] at c2
  rw [e2] at c3
  replace c2:w.cell? ⟨q,2,.none⟩=some (.pointer none):=c2
  replace c3:w.cell? ⟨q,3,.none⟩=some (.pointer none):=c3
  clear h1 h2 h3 h4 h5 h6 hr e1 e2
  go_enter Tryz.func65,Tryz.ntmps65
  go_wp2_with fail
  go_returns
  exact ⟨rfl,rfl⟩
theorem zo5 {F:Nat->Prop} {q p b:Nat} {s:Sh} {t:Rs} {m:Mem} {w:World} (h:RsO F w q s t) (hw:zaq w p b m) (hp:¬ F p) (hb:¬ F b) (hf:Fits s m) (ho:(∀ x,t.seeker=some x->skOk s x)/\(∀ x,t.runner=some x->rnOk s x)) (hs:m.st < 1000000000):
  Calls Tryz.prog 114 #[.pointer (some ⟨q,0,.none⟩),.pointer (some ⟨p,0,.none⟩)] w fun e w'=> zef F p b w w' e (zb0 s t m).2/\RsO (grow F w w') w' q s (zb0 s t m).1:=by
 obtain ⟨h1,q1,H,h2,h3,h4,h5,h6⟩:=h
 have c2:=ce (ptrV t.seeker q1) (h3.cell 2)
 have c3:=ce (ptrV t.runner q1) (h3.cell 3)
 have hHp:¬ H p:=fun e=> hp (h2 p e).1
 have hHb:¬ H b:=fun e=> hb (h2 b e).1
 have hqp:q≠p:=fun e=> hp (e ▸ h1)
 have hqb:q≠b:=fun e=> hb (e ▸ h1)
 have hlq:=h3.lt
 have hHq:∀ k,H k->k≠q:=fun k hk=> (h2 k hk).2
 have hGq:∀ w' k,grow H w w' k->grow F w w' k/\k≠q:=fun w' k hk=> ⟨z2p (fun k e=> (h2 k e).1) k hk,by rcases hk with e | e;exact (h2 k e).2;omega⟩
 rcases zpx t h4 with ⟨x,e1,e2⟩ | ⟨x,e1,e2⟩ | ⟨e1,e2⟩
 ·have hsk:=z5m (h5 x e1) hw hHp hHb hf (ho.1 x e1) hs
  have hr:zb0 s t m=({ t with seeker:=some (zbv s x m).1 },(zbv s x m).2):=by unfold zb0;rw [e1]
  rw [hr]
  dsimp only
  have hfin:Hid (∀ e w',zef H p b w w' e (zbv s x m).2/\SkO (grow H w w') w' q1 s (zbv s x m).1->zef F p b w w' (.returned (.tuple #[])) (zbv s x m).2/\RsO (grow F w w') w' q s { t with seeker:=some (zbv s x m).1 }):=hd' fun e w' hS=> by
   refine ⟨⟨rfl,hS.1.wds,hS.1.only.weak fun k hk=> hk.imp (fun e=> (h2 k e).1) id⟩,.inl h1,q1,grow H w w',hGq w',?_,.inr e2,fun z hz=> ?_,fun z hz=> ?_⟩
   ·have h7:=h3.only hS.1.only (by rintro (e | e | e);exact hHq q e rfl;exact hqp e;exact hqb e)
    rw [e1] at h7
    exact h7
   ·simp only [Option.some.injEq] at hz;subst hz;exact hS.2
   ·have hz:t.runner=some z:=hz
    rw [e2] at hz;cases hz
  rw [e1] at c2
  rw [e2] at c3
  replace c2:w.cell? ⟨q,2,.none⟩=some (.pointer (some ⟨q1,0,.none⟩)):=c2
  replace c3:w.cell? ⟨q,3,.none⟩=some (.pointer none):=c3
  have hmid:Hid (∀ e w',zef H p b w w' e (zbv s x m).2->w'.cell? ⟨q,3,.none⟩=some (.pointer none)):=hd' fun e w' hS=> by
   have h7:=h3.only hS.only (by rintro (e | e | e);exact hHq q e rfl;exact hqp e;exact hqb e)
   rw [e1,e2] at h7
   exact h7.cell 3
  have hrn:=hd' (fun w=> zpd p w)
  replace hsk:=hd' hsk
  clear hr h1 h2 h3 h4 h5 h6 hHp hHb hqp hqb hHq hGq e1 e2 hw hp hb hf ho hs
  go_enter Tryz.func114,Tryz.ntmps114
  go_wp2_with (first
   | (go_at_call 116;(with_reducible refine hsk.out.mono ?_);rintro r w1 hS;obtain rfl:=hS.1.ret;have c3':=hmid.out _ _ hS.1)
   | (go_at_call 117;(with_reducible refine (hrn.out _).mono ?_);rintro r w2 ⟨rfl,hw2⟩;obtain rfl:=hw2.symm)
   | fail)
  go_returns
  exact hfin.out _ _ hS
 ·have hrn:=z7o (h6 x e2) hw hHp hHb hf (ho.2 x e2) hs
  have hr:zb0 s t m=({ t with runner:=some (zcr s x m).1 },(zcr s x m).2):=by unfold zb0;rw [e1,e2]
  rw [hr]
  dsimp only
  have hfin:Hid (∀ e w',zef H p b w w' e (zcr s x m).2/\RnO (grow H w w') w' q1 s (zcr s x m).1->zef F p b w w' (.returned (.tuple #[])) (zcr s x m).2/\RsO (grow F w w') w' q s { t with runner:=some (zcr s x m).1 }):=hd' fun e w' hS=> by
   refine ⟨⟨rfl,hS.1.wds,hS.1.only.weak fun k hk=> hk.imp (fun e=> (h2 k e).1) id⟩,.inl h1,q1,grow H w w',hGq w',?_,.inl e1,fun z hz=> ?_,fun z hz=> ?_⟩
   ·have h7:=h3.only hS.1.only (by rintro (e | e | e);exact hHq q e rfl;exact hqp e;exact hqb e)
    rw [e2] at h7
    exact h7
   ·have hz:t.seeker=some z:=hz
    rw [e1] at hz;cases hz
   ·simp only [Option.some.injEq] at hz;subst hz;exact hS.2
  rw [e1] at c2
  rw [e2] at c3
  replace c2:w.cell? ⟨q,2,.none⟩=some (.pointer none):=c2
  replace c3:w.cell? ⟨q,3,.none⟩=some (.pointer (some ⟨q1,0,.none⟩)):=c3
  have hsk:=hd' (fun w=> zos p w)
  replace hrn:=hd' hrn
  clear hr h1 h2 h3 h4 h5 h6 hHp hHb hqp hqb hHq hGq e1 e2 hw hp hb hf ho hs
  go_enter Tryz.func114,Tryz.ntmps114
  go_wp2_with (first
   | (go_at_call 116;(with_reducible refine (hsk.out _).mono ?_);rintro r w2 ⟨rfl,hw2⟩;obtain rfl:=hw2.symm)
   | (go_at_call 117;(with_reducible refine hrn.out.mono ?_);rintro r w1 hS;obtain rfl:=hS.1.ret)
   | fail)
  go_returns
  exact hfin.out _ _ hS
 ·have hr:zb0 s t m=(t,m):=by unfold zb0;rw [e1,e2]
  rw [hr]
  dsimp only
  have hfin:Hid (zef F p b w w (.returned (.tuple #[])) m/\RsO (grow F w w) w q s t):=hd' ⟨⟨rfl,hw,Only.refl _ _⟩,RsO.weak ⟨h1,q1,H,h2,h3,h4,h5,h6⟩ fun k hk=> .inl hk⟩
  rw [e1] at c2
  rw [e2] at c3
  replace c2:w.cell? ⟨q,2,.none⟩=some (.pointer none):=c2
  replace c3:w.cell? ⟨q,3,.none⟩=some (.pointer none):=c3
  have hsk:=hd' (fun w=> zos p w)
  have hrn:=hd' (fun w=> zpd p w)
  clear hr h1 h2 h3 h4 h5 h6 hHp hHb hqp hqb hHq hGq e1 e2 hw hp hb hf ho hs
  go_enter Tryz.func114,Tryz.ntmps114
  go_wp2_with (first
   | (go_at_call 116;(with_reducible refine (hsk.out _).mono ?_);rintro r w1 ⟨rfl,hw1⟩;obtain rfl:=hw1.symm)
   | (go_at_call 117;(with_reducible refine (hrn.out _).mono ?_);rintro r w2 ⟨rfl,hw2⟩;obtain rfl:=hw2.symm)
   | fail)
  go_returns
  exact hfin.out
def zww (w w':World) (e:Ending) (s:Sh) (t:Rs):Prop:=∃ q,e= .returned (.pointer (some ⟨q,0,.none⟩))/\RsO (fun k=> w.heap.size<=k/\k < w'.heap.size) w' q s t/\Below w.heap.size w w'
theorem ztd (s:Sh) (c n f:Int) (w:World):
  Calls Tryz.prog 38 #[.agg #[.int .i64 s.p,.int .i64 s.c,.int .i64 s.m],.int .i64 c,.int .i64 n,.int .i64 f] w fun e w'=> zww w w' e s (zdh s c n f):=by
 have hcl:=fun W=> zmu n W
 have hru:=fun W=> zur n W
 have hsk:=fun W=> z1m s c (zcn n) f W
 have hrn:=fun W=> z07 s c (runV n) W
 obtain ⟨tN,htN,htN'⟩:=hidv (zdh s c n f)
 rw [<- htN']
 clear htN'
 have hb0:=(Below.refl w.heap.size w).alloc lr (.cells #[.int .i64 s.p,.int .i64 s.c,.int .i64 s.m] 24)
 have t0:=heap_alloc_new w (.cells #[.int .i64 s.p,.int .i64 s.c,.int .i64 s.m] 24)
 have hcase:(wi n 1 32=true/\tN=⟨zcn n,0,some (zhb s c (zcn n) f),none⟩)\/(wi n 1 32=false/\wi n 33 512=true/\tN=⟨0,runV n,none,some (zf8 s c (runV n))⟩)\/(wi n 1 32=false/\wi n 33 512=false/\tN=⟨0,0,none,none⟩):=by
  rw [htN.out]
  unfold zdh
  cases h1:wi n 1 32
  ·cases h2:wi n 33 512
   ·exact .inr (.inr ⟨rfl,rfl,rfl⟩)
   ·exact .inr (.inl ⟨rfl,rfl,rfl⟩)
  ·exact .inl ⟨rfl,rfl⟩
 clear htN
 generalize hx:zhb s c (zcn n) f=x at *
 generalize hy:zf8 s c (runV n)=y at *
 have hys:y.strip=none:=by rw [<- hy];rfl
 generalize zcn n=k at *
 generalize runV n=pg at *
 clear hx hy
 rcases hcase with ⟨h1,h2⟩ | ⟨h1,h2,h3⟩ | ⟨h1,h2,h3⟩
 ·rw [h1] at hcl
  clear h1 hru hrn hys
  have hfin:Hid (∀ W Y e,Below w.heap.size w W->z02 W Y e s x->∀ q1,e= .returned (.pointer (some ⟨q1,0,.none⟩))->zww w (Y.alloc (.cells (zjd ⟨k,0,some x,none⟩ (.pointer (some ⟨q1,0,.none⟩)) (.pointer none)) 117)) (.returned (.pointer (some ⟨Y.heap.size,0,.none⟩))) s tN):=hd' fun W Y e hb hS q1 he=> by
   obtain ⟨⟨q,q2,e3,h4,h5,h6⟩,h7⟩:=hS
   rw [e3] at he
   obtain rfl:q=q1:=by injection he with he;injection he with he;injection he with he;injection he
   have hs1:=hb.size
   have hs2:=h7.size
   have hz:(Y.alloc (.cells (zjd ⟨k,0,some x,none⟩ (.pointer (some ⟨q,0,.none⟩)) (.pointer none)) 117)).heap.size=Y.heap.size + 1:=by simp
   have hbY:=zab hb h7
   rw [h2]
   refine ⟨Y.heap.size,rfl,⟨⟨by omega,by omega⟩,q,fun k=> w.heap.size<=k/\k < Y.heap.size,fun k hk=> ⟨⟨hk.1,by omega⟩,by omega⟩,heap_alloc_new _ _,.inr rfl,fun z hz=> ?_,fun z hz=> (by cases hz)⟩,hbY.trans (br.alloc hbY.size _)⟩
   simp only [Option.some.injEq] at hz
   subst hz
   have hlq:=h5.row.lt
   refine ⟨⟨by omega,hlq⟩,q2,h5.below (br.alloc lr _),fun hn=> ?_⟩
   rcases hq:x.now with _ | u
   ·exact absurd hq hn
   ·have:=(h5.inn u hq).1.lt
    exact ⟨by have:=h6 hn;omega,this⟩
  clear h2
  obtain ⟨sp,sc,sm⟩:=s
  dsimp only at hsk hb0 t0 ⊢
  replace hcl:=hd' hcl
  replace hsk:=hd' hsk
  go_enter Tryz.func38,Tryz.ntmps38
  go_upto_region 1 with fail
  generalize w.alloc (.cells #[.int .i64 sp,.int .i64 sc,.int .i64 sm] 24)=W at *
  have c0:W.cell? ⟨w.heap.size,0,.none⟩=some (.int .i64 sp):=zac t0 0
  have c1:W.cell? ⟨w.heap.size,1,.none⟩=some (.int .i64 sc):=zac t0 1
  have c2:W.cell? ⟨w.heap.size,2,.none⟩=some (.int .i64 sm):=zac t0 2
  clear t0
  go_wp2_with (first
   | (go_at_call 49;(with_reducible refine (hcl.out _).mono ?_);rintro r w1 ⟨rfl,rfl⟩)
   | (go_at_call 51;(with_reducible refine (hsk.out _).mono ?_);rintro r w2 hS;obtain ⟨q1,q2,rfl,_⟩:=id hS.at')
   | fail)
  go_returns
  exact hfin.out _ _ _ hb0 hS _ rfl
 ·rw [h1] at hcl
  rw [h2] at hru
  clear h1 h2 hsk
  have hfin:Hid (∀ W Y e,Below w.heap.size w W->Born W Y e (za3 s y (.pointer none)) 140->∀ q1,e= .returned (.pointer (some ⟨q1,0,.none⟩))->zww w (Y.alloc (.cells (zjd ⟨0,pg,none,some y⟩ (.pointer none) (.pointer (some ⟨q1,0,.none⟩))) 117)) (.returned (.pointer (some ⟨Y.heap.size,0,.none⟩))) s tN):=hd' fun W Y e hb hS q1 he=> by
   obtain ⟨q,e3,h4,h5,h7⟩:=hS
   rw [e3] at he
   obtain rfl:q=q1:=by injection he with he;injection he with he;injection he with he;injection he
   have hs1:=hb.size
   have hs2:=h7.size
   have hz:(Y.alloc (.cells (zjd ⟨0,pg,none,some y⟩ (.pointer none) (.pointer (some ⟨q,0,.none⟩))) 117)).heap.size=Y.heap.size + 1:=by simp
   have hbY:=zab hb h7
   rw [h3]
   refine ⟨Y.heap.size,rfl,⟨⟨by omega,by omega⟩,q,fun k=> w.heap.size<=k/\k < Y.heap.size,fun k hk=> ⟨⟨hk.1,by omega⟩,by omega⟩,heap_alloc_new _ _,.inl rfl,fun z hz=> (by cases hz),fun z hz=> ?_⟩,hbY.trans (br.alloc hbY.size _)⟩
   simp only [Option.some.injEq] at hz
   subst hz
   have hlq:=h5.lt
   refine ⟨⟨by omega,hlq⟩,0,⟨by rw [hys];exact h5.below (br.alloc lr _),fun z hz=> by rw [hys] at hz;cases hz⟩,fun hn=> absurd hys hn⟩
  clear h3 hys
  obtain ⟨sp,sc,sm⟩:=s
  dsimp only at hrn hb0 t0 hfin ⊢
  generalize za3 ⟨sp,sc,sm⟩ y (.pointer none)=rcs at *
  replace hcl:=hd' hcl
  replace hru:=hd' hru
  replace hrn:=hd' hrn
  go_enter Tryz.func38,Tryz.ntmps38
  go_upto_region 1 with fail
  generalize w.alloc (.cells #[.int .i64 sp,.int .i64 sc,.int .i64 sm] 24)=W at *
  have c0:W.cell? ⟨w.heap.size,0,.none⟩=some (.int .i64 sp):=zac t0 0
  have c1:W.cell? ⟨w.heap.size,1,.none⟩=some (.int .i64 sc):=zac t0 1
  have c2:W.cell? ⟨w.heap.size,2,.none⟩=some (.int .i64 sm):=zac t0 2
  clear t0
  go_wp2_with (first
   | (go_at_call 49;(with_reducible refine (hcl.out _).mono ?_);rintro r w1 ⟨rfl,rfl⟩)
   | (go_at_call 36;(with_reducible refine (hru.out _).mono ?_);rintro r w1 ⟨rfl,rfl⟩)
   | (go_at_call 52;(with_reducible refine (hrn.out _).mono ?_);rintro r w2 hS;obtain ⟨q1,rfl,_⟩:=id hS)
   | fail)
  go_returns
  exact hfin.out _ _ _ hb0 hS _ rfl
 ·rw [h1] at hcl
  rw [h2] at hru
  clear h1 h2 hsk hrn hys
  have hfin:Hid (∀ Y,Below w.heap.size w Y->zww w (Y.alloc (.cells (zjd ⟨0,0,none,none⟩ (.pointer none) (.pointer none)) 117)) (.returned (.pointer (some ⟨Y.heap.size,0,.none⟩))) s tN):=hd' fun Y hb=> by
   have hs1:=hb.size
   have hz:(Y.alloc (.cells (zjd ⟨0,0,none,none⟩ (.pointer none) (.pointer none)) 117)).heap.size=Y.heap.size + 1:=by simp
   rw [h3]
   exact ⟨Y.heap.size,rfl,⟨⟨by omega,by omega⟩,0,fun k=> False,fun k hk=> hk.elim,heap_alloc_new _ _,.inl rfl,fun z hz=> (by cases hz),fun z hz=> (by cases hz)⟩,hb.trans (br.alloc hb.size _)⟩
  clear h3
  obtain ⟨sp,sc,sm⟩:=s
  dsimp only at hb0 t0 hfin ⊢
  replace hcl:=hd' hcl
  replace hru:=hd' hru
  go_enter Tryz.func38,Tryz.ntmps38
  go_upto_region 1 with fail
  generalize w.alloc (.cells #[.int .i64 sp,.int .i64 sc,.int .i64 sm] 24)=W at *
  clear t0
  go_wp2_with (first
   | (go_at_call 49;(with_reducible refine (hcl.out _).mono ?_);rintro r w1 ⟨rfl,rfl⟩)
   | (go_at_call 36;(with_reducible refine (hru.out _).mono ?_);rintro r w1 ⟨rfl,rfl⟩)
   | fail)
  go_returns
  exact hfin.out _ hb0
def gotV (o:Option Blk):Value:= .tuple #[.agg (zg0 (o.getD Blk.zero)),.bool o.isSome]
theorem zei {F:Nat->Prop} {q:Nat} {s:Sh} {t:Rs} {w:World} (h:RsO F w q s t):
  Calls Tryz.prog 62 #[.pointer (some ⟨q,0,.none⟩)] w fun e w'=> e= .returned (gotV t.got)/\Below w.heap.size w w':=by
 obtain ⟨h1,q1,H,h2,h3,h4,h5,h6⟩:=h
 have c0:=ci t.k (h3.cell 0)
 have c1:=ci t.pages (h3.cell 1)
 have c2:=ce (ptrV t.seeker q1) (h3.cell 2)
 have c3:=ce (ptrV t.runner q1) (h3.cell 3)
 have hlq:=h3.lt
 have hkeep:Hid (∀ X,Below w.heap.size w X->X.cell? ⟨q,0,.none⟩=some (.int .i64 t.k)/\X.cell? ⟨q,1,.none⟩=some (.int .i64 t.pages)/\X.cell? ⟨q,3,.none⟩=some (ptrV t.runner q1)):=hd' fun X hX=> ⟨zai hX _ _ _ c0,zai hX _ _ _ c1,zai hX _ _ _ c3⟩
 clear c0 c1 hlq
 have hb0:=(Below.refl w.heap.size w).alloc lr (.cells #[.bool false,.int .i64 0,.int .i64 0,.int .i64 0,.int .i64 0] 101)
 have hE:zaa (w.alloc (.cells #[.bool false,.int .i64 0,.int .i64 0,.int .i64 0,.int .i64 0] 101)) w.heap.size #[.bool false,.int .i64 0,.int .i64 0,.int .i64 0,.int .i64 0] 101:=heap_alloc_new _ _
 have hlE:=hE.lt
 have hqE:q≠w.heap.size:=by have:=h3.lt;omega
 have k2:=zai hb0 _ _ _ c2
 have k3:=zai hb0 _ _ _ c3
 clear c2 c3
 rcases zpx t h4 with ⟨x,e1,e2⟩ | ⟨x,e1,e2⟩ | ⟨e1,e2⟩
 ·obtain ⟨_,q2,hsk0,_⟩:=h5 x e1
  have hsk:=hd' (fun X (hX:zaa X q1 (za1 s x (nowV x.now q2)) 135)=> zt7 q1 s x (nowV x.now q2) X hX)
  have hrow:Hid (∀ X,Below w.heap.size w X->zaa X q1 (za1 s x (nowV x.now q2)) 135):=hd' fun X hX=> hsk0.row.below hX
  have hr:t.got=if x.found=true then some ⟨false,x.page,x.slot,t.k,0⟩ else none:=by unfold Rs.got;rw [e1]
  rw [e1] at k2
  rw [e2] at k3 hkeep
  replace k2:_=some (Value.pointer (some ⟨q1,0,.none⟩)):=k2
  replace k3:_=some (Value.pointer none):=k3
  have hk3:Hid (∀ X,Below w.heap.size w X->X.cell? ⟨q,0,.none⟩=some (.int .i64 t.k)/\X.cell? ⟨q,3,.none⟩=some (.pointer none)):=hd' fun X hX=> ⟨(hkeep.out X hX).1,(hkeep.out X hX).2.2⟩
  have hrn:=hd' (fun w=> znf w)
  clear h1 h2 h3 h4 h5 h6 hsk0 e1 e2 hkeep
  obtain ⟨g,hg,hg'⟩:=hidv t.got
  rw [<- hg']
  replace hr:=hd' (hg'.trans hr)
  clear hg hg'
  rcases Bool.eq_false_or_eq_true x.found with hf | hf
  ·replace hr:=hd' (hr.out.trans (if_pos hf))
   rw [hf] at hsk
   simp only [zgd,if_true] at hsk
   generalize x.page=a at *
   generalize x.slot=c at *
   generalize t.k=k at *
   generalize za1 s x (nowV x.now q2)=ics at *
   go_enter Tryz.func62,Tryz.ntmps62
   go_upto_region 1 with fail
   generalize w.alloc (.cells #[.bool false,.int .i64 0,.int .i64 0,.int .i64 0,.int .i64 0] 101)=X at *
   obtain ⟨E,hEE,hEE'⟩:=hidv w.heap.size
   simp only [<- hEE'] at hE hlE hqE ⊢
   have hEw:w.heap.size<=E:=by omega
   clear hEE'
   go_wp2_with (first
    | (go_at_call 74;(with_reducible refine (hsk.out _ (hrow.out _ hb0)).mono ?_);rintro r w1 ⟨rfl,hb1⟩;have hb2:=hb0.trans (hb1.mono hb0.size);have hE1:=hE.below hb1;obtain ⟨z0,z3⟩:=hk3.out _ hb2;have e0:=ce (.bool false) (hE1.cell 0);have e1:=ci 0 (hE1.cell 1);have e2:=ci 0 (hE1.cell 2);have e3:=ci 0 (hE1.cell 3);have e4:=ci 0 (hE1.cell 4);have ef:=zax hE1)
    | (go_at_call 75;(with_reducible refine (hrn.out _).mono ?_);rintro r w2 ⟨rfl,hw2⟩;obtain rfl:=hw2.symm)
    | fail)
   have hF:zaa (((((w1.setCell ⟨E,0,.none⟩ (.bool false)).setCell ⟨E,1,.none⟩ (.int .i64 a)).setCell ⟨E,2,.none⟩ (.int .i64 c)).setCell ⟨E,3,.none⟩ (.int .i64 k)).setCell ⟨E,4,.none⟩ (.int .i64 0)) E #[.bool false,.int .i64 a,.int .i64 c,.int .i64 k,.int .i64 0] 101:=(((((hE1.set 0 (.bool false)).set 1 (.int .i64 a)).set 2 (.int .i64 c)).set 3 (.int .i64 k)).set 4 (.int .i64 0))
   have hbF:Below w.heap.size w (((((w1.setCell ⟨E,0,.none⟩ (.bool false)).setCell ⟨E,1,.none⟩ (.int .i64 a)).setCell ⟨E,2,.none⟩ (.int .i64 c)).setCell ⟨E,3,.none⟩ (.int .i64 k)).setCell ⟨E,4,.none⟩ (.int .i64 0)):=(((((hb2.setCell (p:=⟨E,0,.none⟩) hEw (.bool false)).setCell (p:=⟨E,1,.none⟩) hEw (.int .i64 a)).setCell (p:=⟨E,2,.none⟩) hEw (.int .i64 c)).setCell (p:=⟨E,3,.none⟩) hEw (.int .i64 k)).setCell (p:=⟨E,4,.none⟩) hEw (.int .i64 0))
   generalize ((((w1.setCell ⟨E,0,.none⟩ (.bool false)).setCell ⟨E,1,.none⟩ (.int .i64 a)).setCell ⟨E,2,.none⟩ (.int .i64 c)).setCell ⟨E,3,.none⟩ (.int .i64 k)).setCell ⟨E,4,.none⟩ (.int .i64 0)=U at *
   have r0:=ce (.bool false) (hF.cell 0)
   have r1:=ci a (hF.cell 1)
   have r2:=ci c (hF.cell 2)
   have r3:=ci k (hF.cell 3)
   have r4:=ci 0 (hF.cell 4)
   exact bodyPost_ret (v:= .tuple #[.agg #[.bool false,.int .i64 a,.int .i64 c,.int .i64 k,.int .i64 0],.bool true]) (by simp [results,Tryz.results62,go_sem,r0,r1,r2,r3,r4]) rfl ⟨by rw [hr.out];rfl,hbF⟩
  ·replace hr:=hd' (hr.out.trans (if_neg (by rw [hf];decide)))
   rw [hf] at hsk
   simp only [zgd,Bool.false_eq_true,if_false] at hsk
   generalize za1 s x (nowV x.now q2)=ics at *
   go_enter Tryz.func62,Tryz.ntmps62
   go_upto_region 1 with fail
   generalize w.alloc (.cells #[.bool false,.int .i64 0,.int .i64 0,.int .i64 0,.int .i64 0] 101)=X at *
   obtain ⟨E,hEE,hEE'⟩:=hidv w.heap.size
   simp only [<- hEE'] at hE hlE hqE ⊢
   have hEw:w.heap.size<=E:=by omega
   clear hEE'
   go_wp2_with (first
    | (go_at_call 74;(with_reducible refine (hsk.out _ (hrow.out _ hb0)).mono ?_);rintro r w1 ⟨rfl,hb1⟩;have hb2:=hb0.trans (hb1.mono hb0.size);have hE1:=hE.below hb1;obtain ⟨z0,z3⟩:=hk3.out _ hb2;have e0:=ce (.bool false) (hE1.cell 0);have e1:=ci 0 (hE1.cell 1);have e2:=ci 0 (hE1.cell 2);have e3:=ci 0 (hE1.cell 3);have e4:=ci 0 (hE1.cell 4);have ef:=zax hE1)
    | (go_at_call 75;(with_reducible refine (hrn.out _).mono ?_);rintro r w2 ⟨rfl,hw2⟩;obtain rfl:=hw2.symm)
    | fail)
   have hF:zaa (((((w1.setCell ⟨E,0,.none⟩ (.bool false)).setCell ⟨E,1,.none⟩ (.int .i64 0)).setCell ⟨E,2,.none⟩ (.int .i64 0)).setCell ⟨E,3,.none⟩ (.int .i64 0)).setCell ⟨E,4,.none⟩ (.int .i64 0)) E #[.bool false,.int .i64 0,.int .i64 0,.int .i64 0,.int .i64 0] 101:=(((((hE1.set 0 (.bool false)).set 1 (.int .i64 0)).set 2 (.int .i64 0)).set 3 (.int .i64 0)).set 4 (.int .i64 0))
   have hbF:Below w.heap.size w (((((w1.setCell ⟨E,0,.none⟩ (.bool false)).setCell ⟨E,1,.none⟩ (.int .i64 0)).setCell ⟨E,2,.none⟩ (.int .i64 0)).setCell ⟨E,3,.none⟩ (.int .i64 0)).setCell ⟨E,4,.none⟩ (.int .i64 0)):=(((((hb2.setCell (p:=⟨E,0,.none⟩) hEw (.bool false)).setCell (p:=⟨E,1,.none⟩) hEw (.int .i64 0)).setCell (p:=⟨E,2,.none⟩) hEw (.int .i64 0)).setCell (p:=⟨E,3,.none⟩) hEw (.int .i64 0)).setCell (p:=⟨E,4,.none⟩) hEw (.int .i64 0))
   generalize ((((w1.setCell ⟨E,0,.none⟩ (.bool false)).setCell ⟨E,1,.none⟩ (.int .i64 0)).setCell ⟨E,2,.none⟩ (.int .i64 0)).setCell ⟨E,3,.none⟩ (.int .i64 0)).setCell ⟨E,4,.none⟩ (.int .i64 0)=U at *
   have r0:=ce (.bool false) (hF.cell 0)
   have r1:=ci 0 (hF.cell 1)
   have r2:=ci 0 (hF.cell 2)
   have r3:=ci 0 (hF.cell 3)
   have r4:=ci 0 (hF.cell 4)
   exact bodyPost_ret (v:= .tuple #[.agg #[.bool false,.int .i64 0,.int .i64 0,.int .i64 0,.int .i64 0],.bool false]) (by simp [results,Tryz.results62,go_sem,r0,r1,r2,r3,r4]) rfl ⟨by rw [hr.out];rfl,hbF⟩
 ·obtain ⟨_,q2,hrn0,_⟩:=h6 x e2
  have hrn:=hd' (fun X (hX:zaa X q1 (za3 s x (zbz x.strip q2)) 140)=> zvi q1 s x (zbz x.strip q2) X hX)
  have hrow:=hrn0.row.below hb0
  have hr:t.got=if x.found=true then some ⟨true,x.head,0,0,t.pages⟩ else none:=by unfold Rs.got;rw [e1,e2]
  rw [e1] at k2
  rw [e2] at k3
  replace k2:_=some (Value.pointer none):=k2
  replace k3:_=some (Value.pointer (some ⟨q1,0,.none⟩)):=k3
  have k1:=(hkeep.out _ hb0).2.1
  have hsk:Hid (∀ W:World,Calls Tryz.prog 74 #[.pointer none] W fun e w'=> e= .returned (.tuple #[.int .i64 0,.int .i64 0,.bool false])/\w'=W):=hd' (fun W=> zmh W)
  clear h1 h2 h3 h4 h5 h6 hrn0 e1 e2 hkeep
  obtain ⟨g,hg,hg'⟩:=hidv t.got
  rw [<- hg']
  replace hr:=hd' (hg'.trans hr)
  clear hg hg'
  rcases Bool.eq_false_or_eq_true x.found with hf | hf
  ·replace hr:=hd' (hr.out.trans (if_pos hf))
   rw [hf] at hrn
   simp only [if_true] at hrn
   generalize x.head=a at *
   generalize t.pages=pg at *
   generalize za3 s x (zbz x.strip q2)=ics at *
   go_enter Tryz.func62,Tryz.ntmps62
   go_upto_region 1 with fail
   generalize w.alloc (.cells #[.bool false,.int .i64 0,.int .i64 0,.int .i64 0,.int .i64 0] 101)=X at *
   obtain ⟨E,hEE,hEE'⟩:=hidv w.heap.size
   simp only [<- hEE'] at hE hlE hqE ⊢
   have hEw:w.heap.size<=E:=by omega
   clear hEE'
   have e0:=ce (.bool false) (hE.cell 0)
   have e1:=ci 0 (hE.cell 1)
   have e2:=ci 0 (hE.cell 2)
   have e3:=ci 0 (hE.cell 3)
   have e4:=ci 0 (hE.cell 4)
   have ef:=zax hE
   go_wp2_with (first
    | (go_at_call 74;(with_reducible refine (hsk.out _).mono ?_);rintro r w2 ⟨rfl,hw2⟩;obtain rfl:=hw2.symm)
    | (go_at_call 75;(with_reducible refine (hrn.out _ hrow).mono ?_);rintro r w2 ⟨rfl,hw2⟩;obtain rfl:=hw2.symm)
    | fail)
   have hF:zaa (((((X.setCell ⟨E,0,.none⟩ (.bool true)).setCell ⟨E,1,.none⟩ (.int .i64 a)).setCell ⟨E,2,.none⟩ (.int .i64 0)).setCell ⟨E,3,.none⟩ (.int .i64 0)).setCell ⟨E,4,.none⟩ (.int .i64 pg)) E #[.bool true,.int .i64 a,.int .i64 0,.int .i64 0,.int .i64 pg] 101:=(((((hE.set 0 (.bool true)).set 1 (.int .i64 a)).set 2 (.int .i64 0)).set 3 (.int .i64 0)).set 4 (.int .i64 pg))
   have hbF:Below w.heap.size w (((((X.setCell ⟨E,0,.none⟩ (.bool true)).setCell ⟨E,1,.none⟩ (.int .i64 a)).setCell ⟨E,2,.none⟩ (.int .i64 0)).setCell ⟨E,3,.none⟩ (.int .i64 0)).setCell ⟨E,4,.none⟩ (.int .i64 pg)):=(((((hb0.setCell (p:=⟨E,0,.none⟩) hEw (.bool true)).setCell (p:=⟨E,1,.none⟩) hEw (.int .i64 a)).setCell (p:=⟨E,2,.none⟩) hEw (.int .i64 0)).setCell (p:=⟨E,3,.none⟩) hEw (.int .i64 0)).setCell (p:=⟨E,4,.none⟩) hEw (.int .i64 pg))
   generalize ((((X.setCell ⟨E,0,.none⟩ (.bool true)).setCell ⟨E,1,.none⟩ (.int .i64 a)).setCell ⟨E,2,.none⟩ (.int .i64 0)).setCell ⟨E,3,.none⟩ (.int .i64 0)).setCell ⟨E,4,.none⟩ (.int .i64 pg)=U at *
   have r0:=ce (.bool true) (hF.cell 0)
   have r1:=ci a (hF.cell 1)
   have r2:=ci 0 (hF.cell 2)
   have r3:=ci 0 (hF.cell 3)
   have r4:=ci pg (hF.cell 4)
   exact bodyPost_ret (v:= .tuple #[.agg #[.bool true,.int .i64 a,.int .i64 0,.int .i64 0,.int .i64 pg],.bool true]) (by simp [results,Tryz.results62,go_sem,r0,r1,r2,r3,r4]) rfl ⟨by rw [hr.out];rfl,hbF⟩
  ·replace hr:=hd' (hr.out.trans (if_neg (by rw [hf];decide)))
   rw [hf] at hrn
   simp only [Bool.false_eq_true,if_false] at hrn
   generalize za3 s x (zbz x.strip q2)=ics at *
   go_enter Tryz.func62,Tryz.ntmps62
   go_upto_region 1 with fail
   generalize w.alloc (.cells #[.bool false,.int .i64 0,.int .i64 0,.int .i64 0,.int .i64 0] 101)=X at *
   obtain ⟨E,hEE,hEE'⟩:=hidv w.heap.size
   simp only [<- hEE'] at hE hlE hqE ⊢
   have hEw:w.heap.size<=E:=by omega
   clear hEE'
   have e0:=ce (.bool false) (hE.cell 0)
   have e1:=ci 0 (hE.cell 1)
   have e2:=ci 0 (hE.cell 2)
   have e3:=ci 0 (hE.cell 3)
   have e4:=ci 0 (hE.cell 4)
   have ef:=zax hE
   go_wp2_with (first
    | (go_at_call 74;(with_reducible refine (hsk.out _).mono ?_);rintro r w2 ⟨rfl,hw2⟩;obtain rfl:=hw2.symm)
    | (go_at_call 75;(with_reducible refine (hrn.out _ hrow).mono ?_);rintro r w2 ⟨rfl,hw2⟩;obtain rfl:=hw2.symm)
    | fail)
   have hF:zaa (((((X.setCell ⟨E,0,.none⟩ (.bool false)).setCell ⟨E,1,.none⟩ (.int .i64 0)).setCell ⟨E,2,.none⟩ (.int .i64 0)).setCell ⟨E,3,.none⟩ (.int .i64 0)).setCell ⟨E,4,.none⟩ (.int .i64 0)) E #[.bool false,.int .i64 0,.int .i64 0,.int .i64 0,.int .i64 0] 101:=(((((hE.set 0 (.bool false)).set 1 (.int .i64 0)).set 2 (.int .i64 0)).set 3 (.int .i64 0)).set 4 (.int .i64 0))
   have hbF:Below w.heap.size w (((((X.setCell ⟨E,0,.none⟩ (.bool false)).setCell ⟨E,1,.none⟩ (.int .i64 0)).setCell ⟨E,2,.none⟩ (.int .i64 0)).setCell ⟨E,3,.none⟩ (.int .i64 0)).setCell ⟨E,4,.none⟩ (.int .i64 0)):=(((((hb0.setCell (p:=⟨E,0,.none⟩) hEw (.bool false)).setCell (p:=⟨E,1,.none⟩) hEw (.int .i64 0)).setCell (p:=⟨E,2,.none⟩) hEw (.int .i64 0)).setCell (p:=⟨E,3,.none⟩) hEw (.int .i64 0)).setCell (p:=⟨E,4,.none⟩) hEw (.int .i64 0))
   generalize ((((X.setCell ⟨E,0,.none⟩ (.bool false)).setCell ⟨E,1,.none⟩ (.int .i64 0)).setCell ⟨E,2,.none⟩ (.int .i64 0)).setCell ⟨E,3,.none⟩ (.int .i64 0)).setCell ⟨E,4,.none⟩ (.int .i64 0)=U at *
   have r0:=ce (.bool false) (hF.cell 0)
   have r1:=ci 0 (hF.cell 1)
   have r2:=ci 0 (hF.cell 2)
   have r3:=ci 0 (hF.cell 3)
   have r4:=ci 0 (hF.cell 4)
   exact bodyPost_ret (v:= .tuple #[.agg #[.bool false,.int .i64 0,.int .i64 0,.int .i64 0,.int .i64 0],.bool false]) (by simp [results,Tryz.results62,go_sem,r0,r1,r2,r3,r4]) rfl ⟨by rw [hr.out];rfl,hbF⟩
 ·have hr:t.got=none:=by unfold Rs.got;rw [e1,e2]
  rw [e1] at k2
  rw [e2] at k3
  replace k2:_=some (Value.pointer none):=k2
  replace k3:_=some (Value.pointer none):=k3
  have hsk:Hid (∀ W:World,Calls Tryz.prog 74 #[.pointer none] W fun e w'=> e= .returned (.tuple #[.int .i64 0,.int .i64 0,.bool false])/\w'=W):=hd' (fun W=> zmh W)
  have hrn:=hd' (fun w=> znf w)
  clear h1 h2 h3 h4 h5 h6 e1 e2 hkeep
  obtain ⟨g,hg,hg'⟩:=hidv t.got
  rw [<- hg']
  replace hr:=hd' (hg'.trans hr)
  clear hg hg'
  ·skip
   go_enter Tryz.func62,Tryz.ntmps62
   go_upto_region 1 with fail
   generalize w.alloc (.cells #[.bool false,.int .i64 0,.int .i64 0,.int .i64 0,.int .i64 0] 101)=X at *
   obtain ⟨E,hEE,hEE'⟩:=hidv w.heap.size
   simp only [<- hEE'] at hE hlE hqE ⊢
   have hEw:w.heap.size<=E:=by omega
   clear hEE'
   have e0:=ce (.bool false) (hE.cell 0)
   have e1:=ci 0 (hE.cell 1)
   have e2:=ci 0 (hE.cell 2)
   have e3:=ci 0 (hE.cell 3)
   have e4:=ci 0 (hE.cell 4)
   have ef:=zax hE
   go_wp2_with (first
    | (go_at_call 74;(with_reducible refine (hsk.out _).mono ?_);rintro r w2 ⟨rfl,hw2⟩;obtain rfl:=hw2.symm)
    | (go_at_call 75;(with_reducible refine (hrn.out _).mono ?_);rintro r w2 ⟨rfl,hw2⟩;obtain rfl:=hw2.symm)
    | fail)
   have hF:zaa (((((X.setCell ⟨E,0,.none⟩ (.bool false)).setCell ⟨E,1,.none⟩ (.int .i64 0)).setCell ⟨E,2,.none⟩ (.int .i64 0)).setCell ⟨E,3,.none⟩ (.int .i64 0)).setCell ⟨E,4,.none⟩ (.int .i64 0)) E #[.bool false,.int .i64 0,.int .i64 0,.int .i64 0,.int .i64 0] 101:=(((((hE.set 0 (.bool false)).set 1 (.int .i64 0)).set 2 (.int .i64 0)).set 3 (.int .i64 0)).set 4 (.int .i64 0))
   have hbF:Below w.heap.size w (((((X.setCell ⟨E,0,.none⟩ (.bool false)).setCell ⟨E,1,.none⟩ (.int .i64 0)).setCell ⟨E,2,.none⟩ (.int .i64 0)).setCell ⟨E,3,.none⟩ (.int .i64 0)).setCell ⟨E,4,.none⟩ (.int .i64 0)):=(((((hb0.setCell (p:=⟨E,0,.none⟩) hEw (.bool false)).setCell (p:=⟨E,1,.none⟩) hEw (.int .i64 0)).setCell (p:=⟨E,2,.none⟩) hEw (.int .i64 0)).setCell (p:=⟨E,3,.none⟩) hEw (.int .i64 0)).setCell (p:=⟨E,4,.none⟩) hEw (.int .i64 0))
   generalize ((((X.setCell ⟨E,0,.none⟩ (.bool false)).setCell ⟨E,1,.none⟩ (.int .i64 0)).setCell ⟨E,2,.none⟩ (.int .i64 0)).setCell ⟨E,3,.none⟩ (.int .i64 0)).setCell ⟨E,4,.none⟩ (.int .i64 0)=U at *
   have r0:=ce (.bool false) (hF.cell 0)
   have r1:=ci 0 (hF.cell 1)
   have r2:=ci 0 (hF.cell 2)
   have r3:=ci 0 (hF.cell 3)
   have r4:=ci 0 (hF.cell 4)
   exact bodyPost_ret (v:= .tuple #[.agg #[.bool false,.int .i64 0,.int .i64 0,.int .i64 0,.int .i64 0],.bool false]) (by simp [results,Tryz.results62,go_sem,r0,r1,r2,r3,r4]) rfl ⟨by rw [hr.out];rfl,hbF⟩
end Go.Proofs.YthgekdlegbmehaaGreat
