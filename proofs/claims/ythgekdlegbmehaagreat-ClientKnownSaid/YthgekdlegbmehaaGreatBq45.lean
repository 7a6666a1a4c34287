/- Texts bound together: LwA LwB CliG LwC WldM WldN WldW. -/
import Derived.Test.YthgekdlegbmehaaGreatBq35

set_option linter.all false
set_option maxHeartbeats 2000000
set_option maxRecDepth 100000
namespace Go.Proofs.YthgekdlegbmehaaGreat

section

open Go.RowKit

attribute [local go_sem ↓] Go.wp_at_zero Go.wp_at_succ

theorem yc0 {c m C M:Int} (hc:0<=c/\c<=C) (hm:0<=m/\m<=M):0<=c * m/\c * m<=C * M:=by
 refine ⟨Int.mul_nonneg hc.1 hm.1,?_⟩
 exact Int.le_trans (Int.mul_le_mul_of_nonneg_right hc.2 hm.1) (Int.mul_le_mul_of_nonneg_left hm.2 (by omega))
theorem zoy {s:Sh} (h:mayB s.p s.c s.m=true):zb6 s.p s.c s.m=s.c + s.p + s.p * 16 + s.c * s.m/\18<=zb6 s.p s.c s.m/\zb6 s.p s.c s.m<=1196:=by
 have hb:=zar.1 h
 have hm:=yc0 (c:=s.c) (m:=s.m) (C:=12) (M:=8) (by omega) (by omega)
 have:zb6 s.p s.c s.m=s.c + s.p + s.p * 16 + s.c * s.m:=by unfold zb6;rw [if_pos h]
 omega
theorem zv0 (s:Sh) (w:World):
  Calls Tryz.prog 12 #[.agg #[.int .i64 s.p,.int .i64 s.c,.int .i64 s.m]] w fun e w'=> e= .returned (.int .i64 (zb6 s.p s.c s.m))/\Below w.heap.size w w':=by
 obtain ⟨p,c,m⟩:=s
 dsimp only
 by_cases h1:mayB p c m=true
 ·have hb:=zar.1 h1
  have hm:=yc0 (c:=c) (m:=m) (C:=12) (M:=8) (by omega) (by omega)
  have ht:zb6 p c m=c + p + p * 16 + c * m:=by unfold zb6;rw [if_pos h1]
  have w1:=wrp (c + p)
  have w2:=wrp (16 * p)
  have w3:=wrp (c + p + 16 * p)
  have w4:=wrp (c * m)
  have w5:=wrp (c + p + 16 * p + c * m)
  have hr:=fun W=> refMay_any p c m W
  rw [h1] at hr
  replace hr:=hd' hr
  rw [show zb6 p c m=c + p + 16 * p + c * m by omega]
  clear ht hm hb h1
  go_enter Tryz.func12,Tryz.ntmps12
  go_wp2_with (go_at_call 29;refine (hr.out _).mono ?_;rintro e w1 ⟨rfl,rfl⟩)
  go_ret
  exact ⟨rfl,by go_grown⟩
 ·have h1':mayB p c m=false:=by simpa using h1
  have ht:zb6 p c m=0:=by unfold zb6;rw [if_neg h1]
  have hr:=fun W=> refMay_any p c m W
  rw [h1'] at hr
  replace hr:=hd' hr
  rw [ht]
  clear h1 h1' ht
  go_enter Tryz.func12,Tryz.ntmps12
  go_wp2_with (go_at_call 29;refine (hr.out _).mono ?_;rintro e w1 ⟨rfl,rfl⟩)
  go_ret
  exact ⟨rfl,by go_grown⟩
theorem zyp {F:Nat->Prop} {w:World} {q:Nat} {s:Sh} {k:Kl} (h:KlO F w q s k):Calls Tryz.prog 8 #[.pointer (some ⟨q,0,.none⟩)] w fun e w'=> e= .returned (.bool k.rests)/\w'=w:=by
 have hre:=hd' h.rests
 clear h
 have hnil:∀ W:World,(binOp .neq 25 (.pointer (some ⟨q,0,.none⟩)) (.pointer none)).run Tryz.prog W= .ok (.bool true) W:=fun W=> by kernel_rfl
 generalize k.rests=r at *
 go_enter Tryz.func8,Tryz.ntmps8
 go_wp2_with (first | (go_at_call 17;(with_reducible refine hre.out.mono ?_);rintro r w1 ⟨rfl,hw1⟩;obtain rfl:=hw1.symm) | fail)
 go_returns
 exact ⟨rfl,rfl⟩
theorem ya3 {F:Nat->Prop} {w:World} {q:Nat} {s:Sh} {k:Kl} (h:KlO F w q s k):Calls Tryz.prog 13 #[.pointer (some ⟨q,0,.none⟩)] w fun e w'=> e= .returned (.int .i64 k.steps)/\w'=w:=by
 obtain ⟨_,_,sp,sl,jv,G,hrow,_⟩:=h
 have c12:=ci k.steps (hrow.cell 12)
 clear hrow
 go_enter Tryz.func13,Tryz.ntmps13
 go_wp2_with fail
 go_returns
 exact ⟨rfl,rfl⟩
structure CW (B:Nat) (F:Nat->Prop) (W:World) (q p b:Nat) (s:Sh) (k:Kl) (m:Mem):Prop where
 kl:KlO F W q s k
 wd:zaq W p b m
 fp:¬ F p
 fb:¬ F b
 lo:∀ i,F i->B<=i
 lp:B<=p
 lb:B<=b
 ok:klOk s k
 fi:Fits s m
section

variable {B:Nat} {F:Nat->Prop} {W W':World} {q p b:Nat} {s:Sh} {k:Kl} {m:Mem}

theorem CW.below (h:CW B F W q p b s k m) (hb:Below W.heap.size W W'):CW B F W' q p b s k m:=⟨h.kl.below hb,h.wd.below hb,h.fp,h.fb,h.lo,h.lp,h.lb,h.ok,h.fi⟩
theorem CW.only {G:Nat->Prop} (h:CW B F W q p b s k m) (ho:Only G W W') (hG:∀ i,G i->¬ F i/\i≠p/\i≠b):CW B F W' q p b s k m:=
 ⟨h.kl.only ho (fun i hi hg=> (hG i hg).1 hi),h.wd.only ho (fun e=> (hG p e).2.1 rfl) (fun e=> (hG b e).2.2 rfl),h.fp,h.fb,h.lo,h.lp,h.lb,h.ok,h.fi⟩
theorem zif {p:Nat} (h:¬ F p) (hp:p < W.heap.size):¬ grow F W W' p:=fun e=> by
 rcases e with e | e
 ·exact h e
 ·omega
structure z2r (B:Nat) (F:Nat->Prop) (W W':World) (q p b:Nat) (s:Sh) (k:Kl) (m:Mem) (r:Ending):Prop where
 ret:∃ v,r= .returned (.tuple #[v,.int .i64 (k.step s m).2.2.2])/\W'.ownsRow W.heap.size 37 8 v (k.step s m).2.2.1.length ((k.step s m).2.2.1.flatMap fun e=> e.cells.toList)
 cw:CW B (grow F W W') W' q p b s (k.step s m).1 (k.step s m).2.1
 only:Only (fun i=> F i\/i=p\/i=b) W W'
 below:Below B W W'
theorem ybc (h:CW B F W q p b s k m) (hB:B<=W.heap.size) (hs:m.st < 1000000000):
  Calls Tryz.prog 9 #[.pointer (some ⟨q,0,.none⟩),.pointer (some ⟨p,0,.none⟩)] W fun r w'=> z2r B F W w' q p b s k m r:=by
 have hm:=h.fi.may
 have hb:=h.fi.bd
 have key:∀ r w',ztp F q p b W w' r s k m->klOk s (k.step s m).1->Fits s (k.step s m).2.1->z2r B F W w' q p b s k m r:=fun r w' hS ho hf=> by
  refine ⟨hS.ret,⟨hS.kl,hS.wds,zif h.fp h.wd.ltp,zif h.fb h.wd.ltb,fun i hi=> ?_,h.lp,h.lb,ho,hf⟩,hS.only,hS.only.below hB (fun i hi=> ?_)⟩
  ·rcases hi with hi | hi
   ·exact h.lo i hi
   ·omega
  ·rcases hi with hi | rfl | rfl
   ·exact h.lo i hi
   ·exact h.lp
   ·exact h.lb
 rcases hj:k.job with _ | j
 ·refine (zuq h.kl h.wd hj).mono fun r w' hS=> key r w' hS ?_ ?_
  ·have e:k.step s m=(k,m, [],2):=by unfold Kl.step;rw [hj]
   rw [e];exact h.ok
  ·have e:k.step s m=(k,m, [],2):=by unfold Kl.step;rw [hj]
   rw [e];exact h.fi
 ·have ho:=zsh h.ok hj h.fi h.wd.fit
  have hfew:=z8x h.ok (by omega) hj
  refine (zty h.kl h.wd h.fp h.fb h.fi h.wd.fit hj (h.ok.jb j hj).1 (h.ok.jb j hj).2.1 h.ok.cl ⟨h.ok.st,by omega⟩ hs).mono fun r w' hS=> key r w' hS ho.2 (ho.1.fits h.fi)
structure ygo (B:Nat) (F:Nat->Prop) (W W':World) (q p b:Nat) (s:Sh) (k:Kl) (m:Mem) (o:Op3) (r:Ending):Prop where
 ret:∃ v,r= .returned (.tuple #[v,.int .i64 (k.invoke s o).2.2])/\W'.ownsRow W.heap.size 37 8 v (k.invoke s o).2.1.length ((k.invoke s o).2.1.flatMap fun e=> e.cells.toList)
 cw:CW B (grow F W W') W' q p b s (k.invoke s o).1 m
 only:Only F W W'
 below:Below B W W'
theorem yfi (o:Op3) (h:CW B F W q p b s k m) (hB:B<=W.heap.size):
  Calls Tryz.prog 7 #[.pointer (some ⟨q,0,.none⟩),.agg #[.int .i64 o.k,.int .i64 o.a,.int .i64 o.n]] W fun r w'=> ygo B F W w' q p b s k m o r:=by
 refine (z3l (o:=o) h.kl).mono fun r w' hS=> ?_
 refine ⟨hS.ret,⟨hS.kl,h.wd.only hS.only h.fp h.fb,zif h.fp h.wd.ltp,zif h.fb h.wd.ltb,fun i hi=> ?_,h.lp,h.lb,zwi o h.fi.may h.ok,h.fi⟩,hS.only,hS.only.below hB h.lo⟩
 rcases hi with hi | hi
 ·exact h.lo i hi
 ·omega
end

theorem zut {w:World} {B:Nat} {v:Value} {es:List Ev} (h:w.ownsRow B 37 8 v es.length (es.flatMap fun e=> e.cells.toList)):RdE w v es:=RdS.zew h
end

section

open Go.RowKit

attribute [local go_sem ↓] Go.wp_at_zero Go.wp_at_succ

def Acc.cells (a:Acc):Array Value:= #[.int .i64 a.c,.int .i64 a.k,.int .i64 a.a,.int .u64 a.was,.int .u64 a.put,.bool a.ok]
def zfd (s:Sh) (p lb n:Nat) (tv sv:Value):Array Value:= #[.int .i64 s.p,.int .i64 s.c,.int .i64 s.m,.pointer (some ⟨p,0,.none⟩),.slice (some ⟨lb,0,.none⟩) n n,tv,sv]
def ptrK (o:Option Kl) (q:Nat):Value:=match o with
 | none=> .pointer none
 | some _=> .pointer (some ⟨q,0,.none⟩)
structure Wx where
 p:Nat
 b:Nat
 lb:Nat
 tv:Value
 sv:Value
 ps:List Value
 qs:Nat->Nat
 ow:Nat->Nat
 Fc:Nat->Nat->Prop
section

variable {B:Nat} {F:Nat->Prop} {W W':World} {g:Nat} {s:Sh} {d:Wd} {x:Wx}

end

def Wx.told (x:Wx) (tv:Value) (N:Nat):Wx:= { x with tv:=tv,ow:=fun i=> if N<=i then 4 else x.ow i }
end

section

open Go.RowKit

section

variable {B:Nat} {F:Nat->Prop} {W W':World} {g:Nat} {s:Sh} {d:Wd} {x:Wx}

def Wx.mine (x:Wx) (c N N':Nat):Wx:= { x with ow:=fun i=> if N<=i then c + 6 else x.ow i,Fc:=fun c' i=> x.Fc c' i\/(c'=c/\N<=i/\i < N') }
theorem zjv {l:List (Option Kl)} {c i:Nat} {k:Kl} (hc:c < l.length):(l.set c (some k)).getD i none=if i=c then some k else l.getD i none:=by
 rw [zme _ _ _ _ hc]
 by_cases e:c=i
 ·subst e;simp
 ·rw [if_neg e,if_neg (fun h=> e h.symm)]
theorem grow_grow {W1 W2:World} (h1:W.heap.size<=W1.heap.size) (h2:W1.heap.size<=W2.heap.size) (i:Nat):grow (grow F W W1) W1 W2 i↔grow F W W2 i:=by
 unfold grow
 constructor
 ·rintro ((h | h) | h)
  ·exact .inl h
  ·exact .inr ⟨h.1,by omega⟩
  ·exact .inr ⟨by omega,h.2⟩
 ·rintro (h | h)
  ·exact .inl (.inl h)
  ·by_cases e:i < W1.heap.size
   ·exact .inl (.inr ⟨h.1,e⟩)
   ·exact .inr ⟨by omega,h.2⟩
end

end

section

open Go.RowKit

attribute [local go_sem ↓] Go.wp_at_zero Go.wp_at_succ

section

variable {B:Nat} {F:Nat->Prop} {W:World} {g:Nat} {s:Sh} {d:Wd} {x:Wx}

def zrl (s:Sh) (d:Wd) (c:Int):Int:=if 0<=zae s.p s.c s.m c then d.stat c else 0
end

end

end Go.Proofs.YthgekdlegbmehaaGreat
