/- Texts bound together: LwA LwB CliG LwC WldM WldN WldW. -/
import Derived.Test.YtampacmmhhilaaaGreatBq35

set_option linter.all false
set_option maxHeartbeats 2000000
set_option maxRecDepth 100000
namespace Go.Proofs.YtampacmmhhilaaaGreat

section

open Go.RowKit

attribute [local go_sem ↓] Go.wp_at_zero Go.wp_at_succ

theorem yc0 {c m C M:Int} (hc:0<=c/\c<=C) (hm:0<=m/\m<=M):0<=c * m/\c * m<=C * M:=by
 refine ⟨Int.mul_nonneg hc.1 hm.1,?_⟩
 exact Int.le_trans (Int.mul_le_mul_of_nonneg_right hc.2 hm.1) (Int.mul_le_mul_of_nonneg_left hm.2 (by omega))
theorem zoy {s:Sh} (h:mayB s.p s.c s.m=true):zb6 s.p s.c s.m=s.c + s.p + s.p * 16 + s.c * s.m/\18<=zb6 s.p s.c s.m/\zb6 s.p s.c s.m<=1196:=by
 have hb:=zar.1 h
 have hm:=yc0 (c:=s.c) (m:=s.m) (C:=12) (M:=8) (by omega) (by omega)
 have:zb6 s.p s.c s.m=s.c + s.p + s.p * 16 + s.c * s.m:=by unfold zb6;rw [if_pos h]
 omega
theorem zv0 (s:Sh) (w:World):
  Calls Tryz.prog 32 #[.agg #[.int .i64 s.p,.int .i64 s.c,.int .i64 s.m]] w fun e w'=> e= .returned (.int .i64 (zb6 s.p s.c s.m))/\Below w.heap.size w w':=by
 obtain ⟨p,c,m⟩:=s
 dsimp only
 by_cases h1:mayB p c m=true
 ·have hb:=zar.1 h1
  have hm:=yc0 (c:=c) (m:=m) (C:=12) (M:=8) (by omega) (by omega)
  have ht:zb6 p c m=c + p + p * 16 + c * m:=by unfold zb6;rw [if_pos h1]
  have w1:=wrp (c + p)
  have w2:=wrp (16 * p)
  have w3:=wrp (c + p + 16 * p)
  have w4:=wrp (c * m)
  have w5:=wrp (c + p + 16 * p + c * m)
  have hr:=fun W=> refMay_any p c m W
  rw [h1] at hr
  replace hr:=hd' hr
  rw [show zb6 p c m=c + p + 16 * p + c * m by omega]
  clear ht hm hb h1
  go_enter Tryz.func32,Tryz.ntmps32
  go_wp2_with (go_at_call 28;refine (hr.out _).mono ?_;rintro e w1 ⟨rfl,rfl⟩)
  go_ret
  exact ⟨rfl,by go_grown⟩
 ·have h1':mayB p c m=false:=by simpa using h1
  have ht:zb6 p c m=0:=by unfold zb6;rw [if_neg h1]
  have hr:=fun W=> refMay_any p c m W
  rw [h1'] at hr
  replace hr:=hd' hr
  rw [ht]
  clear h1 h1' ht
  go_enter Tryz.func32,Tryz.ntmps32
  go_wp2_with (go_at_call 28;refine (hr.out _).mono ?_;rintro e w1 ⟨rfl,rfl⟩)
  go_ret
  exact ⟨rfl,by go_grown⟩
theorem z8v (xs:List Int) (v u:Value) (w:World) (hx:RdZ .u64 w v xs) (hy:RdZ .u64 w u xs):
  Calls Tryz.prog 34 #[v,u] w fun e w'=> e= .returned (.bool true)/\Below w.heap.size w w':=by
 obtain ⟨ax,cx,rfl,hcx,hmx,hrx⟩:=hx.cells
 obtain ⟨ay,cy,rfl,hcy,hmy,hry⟩:=hy.cells
 obtain ⟨n,hn,hn'⟩:=hidv xs.length
 rw [<- hn'] at hcx hcy ⊢
 have hlN:n<=9223372036854775807:=by omega
 clear hn'
 go_enter Tryz.func34,Tryz.ntmps34
 go_wp2
 go_loopw [5] (fun v5 wr=> ∃ j:Nat,j<=n/\v5= .int .i64 j/\Below w.heap.size w wr) (fun v5 _=> n - (intOf v5).toNat)
 case atStart=> exact ⟨0,Nat.zero_le _,rfl,Below.refl _ _⟩
 case round=>
  obtain ⟨j,hj,rfl,hbr⟩:=hrel
  by_cases hjn:j < n
  ·have hjl:(j:Int) < (n:Int):=by omega
   have hj0:(0:Int)<=(j:Int):=by omega
   have hjt:j < xs.length:=hn.out ▸ hjn
   obtain ⟨bx,ox,rfl,hbx,hcx'⟩:=hrx (fun h=> by subst h;simp at hjt)
   obtain ⟨by',oy,rfl,hby,hcy'⟩:=hry (fun h=> by subst h;simp at hjt)
   have X0:wr.cell? ⟨bx,ox + j,.none⟩=some (.int .u64 xs[j]):=zai hbr _ _ _ (hcx' j hjt)
   have Y0:wr.cell? ⟨by',oy + j,.none⟩=some (.int .u64 xs[j]):=zai hbr _ _ _ (hcy' j hjt)
   have wi1:IntKind.i64.wrap ((j:Int) + 1)=(j:Int) + 1:=IntWalk.i64_in _ ⟨by omega,by omega⟩
   clear hcx' hcy' hrx hry
   generalize xs[j]=a at *
   have hD:=fun n=> below_drewN hbr n
   go_wp2
   go_quiet (fail)
   go_wp2
   exact ⟨⟨j + 1,by omega,by go_num,hD _⟩,by simp [intOf];omega⟩
  ·have hje:j=n:=by omega
   subst hje
   have hj0:¬ ((j:Int) < (j:Int)):=by omega
   go_wp2
   go_ret
   exact ⟨rfl,hbr⟩
theorem z9i (xs:List Ev) (v u:Value) (w:World) (hx:RdE w v xs) (hy:RdE w u xs):
  Calls Tryz.prog 44 #[v,u] w fun e w'=> e= .returned (.bool true)/\Below w.heap.size w w':=by
 obtain ⟨ax,cx,rfl,hcx,hmx,hrx⟩:=hx.nth
 obtain ⟨ay,cy,rfl,hcy,hmy,hry⟩:=hy.nth
 obtain ⟨n,hn,hn'⟩:=hidv xs.length
 rw [<- hn'] at hcx hcy ⊢
 have hlN:n<=9223372036854775807:=by omega
 clear hn'
 go_enter Tryz.func44,Tryz.ntmps44
 go_wp2
 go_loopw [5] (fun v5 wr=> ∃ j:Nat,j<=n/\v5= .int .i64 j/\Below w.heap.size w wr) (fun v5 _=> n - (intOf v5).toNat)
 case atStart=> exact ⟨0,Nat.zero_le _,rfl,Below.refl _ _⟩
 case round=>
  obtain ⟨j,hj,rfl,hbr⟩:=hrel
  by_cases hjn:j < n
  ·have hjl:(j:Int) < (n:Int):=by omega
   have hj0:(0:Int)<=(j:Int):=by omega
   have hjt:j < xs.length:=hn.out ▸ hjn
   obtain ⟨bx,ox,rfl,hbx,hcx'⟩:=hrx (fun h=> by subst h;simp at hjt)
   obtain ⟨by',oy,rfl,hby,hcy'⟩:=hry (fun h=> by subst h;simp at hjt)
   have X0:wr.cell? ⟨bx,ox + j * 8,.none⟩=some (.int .i64 xs[j].k):=zai hbr _ _ _ ((hcx' j hjt 0 (by omega)).trans rfl)
   have X1:wr.cell? ⟨bx,ox + j * 8 + 1,.none⟩=some (.int .i64 xs[j].c):=zai hbr _ _ _ ((hcx' j hjt 1 (by omega)).trans rfl)
   have X2:wr.cell? ⟨bx,ox + j * 8 + 2,.none⟩=some (.int .i64 xs[j].ok):=zai hbr _ _ _ ((hcx' j hjt 2 (by omega)).trans rfl)
   have X3:wr.cell? ⟨bx,ox + j * 8 + 3,.none⟩=some (.int .i64 xs[j].oa):=zai hbr _ _ _ ((hcx' j hjt 3 (by omega)).trans rfl)
   have X4:wr.cell? ⟨bx,ox + j * 8 + 4,.none⟩=some (.int .i64 xs[j].on):=zai hbr _ _ _ ((hcx' j hjt 4 (by omega)).trans rfl)
   have X5:wr.cell? ⟨bx,ox + j * 8 + 5,.none⟩=some (.int .i64 xs[j].at'):=zai hbr _ _ _ ((hcx' j hjt 5 (by omega)).trans rfl)
   have X6:wr.cell? ⟨bx,ox + j * 8 + 6,.none⟩=some (.int .i64 xs[j].n):=zai hbr _ _ _ ((hcx' j hjt 6 (by omega)).trans rfl)
   have X7:wr.cell? ⟨bx,ox + j * 8 + 7,.none⟩=some (.int .i64 xs[j].er):=zai hbr _ _ _ ((hcx' j hjt 7 (by omega)).trans rfl)
   have Y0:wr.cell? ⟨by',oy + j * 8,.none⟩=some (.int .i64 xs[j].k):=zai hbr _ _ _ ((hcy' j hjt 0 (by omega)).trans rfl)
   have Y1:wr.cell? ⟨by',oy + j * 8 + 1,.none⟩=some (.int .i64 xs[j].c):=zai hbr _ _ _ ((hcy' j hjt 1 (by omega)).trans rfl)
   have Y2:wr.cell? ⟨by',oy + j * 8 + 2,.none⟩=some (.int .i64 xs[j].ok):=zai hbr _ _ _ ((hcy' j hjt 2 (by omega)).trans rfl)
   have Y3:wr.cell? ⟨by',oy + j * 8 + 3,.none⟩=some (.int .i64 xs[j].oa):=zai hbr _ _ _ ((hcy' j hjt 3 (by omega)).trans rfl)
   have Y4:wr.cell? ⟨by',oy + j * 8 + 4,.none⟩=some (.int .i64 xs[j].on):=zai hbr _ _ _ ((hcy' j hjt 4 (by omega)).trans rfl)
   have Y5:wr.cell? ⟨by',oy + j * 8 + 5,.none⟩=some (.int .i64 xs[j].at'):=zai hbr _ _ _ ((hcy' j hjt 5 (by omega)).trans rfl)
   have Y6:wr.cell? ⟨by',oy + j * 8 + 6,.none⟩=some (.int .i64 xs[j].n):=zai hbr _ _ _ ((hcy' j hjt 6 (by omega)).trans rfl)
   have Y7:wr.cell? ⟨by',oy + j * 8 + 7,.none⟩=some (.int .i64 xs[j].er):=zai hbr _ _ _ ((hcy' j hjt 7 (by omega)).trans rfl)
   have wi1:IntKind.i64.wrap ((j:Int) + 1)=(j:Int) + 1:=IntWalk.i64_in _ ⟨by omega,by omega⟩
   clear hcx' hcy' hrx hry
   generalize xs[j]=a at *
   obtain ⟨a0,a1,a2,a3,a4,a5,a6,a7⟩:=a
   dsimp only at X0 X1 X2 X3 X4 X5 X6 X7 Y0 Y1 Y2 Y3 Y4 Y5 Y6 Y7
   have hD:=fun n=> below_drewN hbr n
   go_wp2
   go_quiet (fail)
   go_wp2
   exact ⟨⟨j + 1,by omega,by go_num,hD _⟩,by simp [intOf];omega⟩
  ·have hje:j=n:=by omega
   subst hje
   have hj0:¬ ((j:Int) < (j:Int)):=by omega
   go_wp2
   go_ret
   exact ⟨rfl,hbr⟩
theorem zyp {F:Nat->Prop} {w:World} {q:Nat} {s:Sh} {k:Kl} (h:KlO F w q s k):Calls Tryz.prog 22 #[.pointer (some ⟨q,0,.none⟩)] w fun e w'=> e= .returned (.bool k.rests)/\w'=w:=by
 have hre:=hd' h.rests
 clear h
 have hnil:∀ W:World,(binOp .neq 36 (.pointer (some ⟨q,0,.none⟩)) (.pointer none)).run Tryz.prog W= .ok (.bool true) W:=fun W=> by kernel_rfl
 generalize k.rests=r at *
 go_enter Tryz.func22,Tryz.ntmps22
 go_wp2_with (first | (go_at_call 64;(with_reducible refine hre.out.mono ?_);rintro r w1 ⟨rfl,hw1⟩;obtain rfl:=hw1.symm) | fail)
 go_returns
 exact ⟨rfl,rfl⟩
theorem ya3 {F:Nat->Prop} {w:World} {q:Nat} {s:Sh} {k:Kl} (h:KlO F w q s k):Calls Tryz.prog 23 #[.pointer (some ⟨q,0,.none⟩)] w fun e w'=> e= .returned (.int .i64 k.steps)/\w'=w:=by
 obtain ⟨_,_,sp,sl,jv,G,hrow,_⟩:=h
 have c12:=ci k.steps (hrow.cell 12)
 clear hrow
 go_enter Tryz.func23,Tryz.ntmps23
 go_wp2_with fail
 go_returns
 exact ⟨rfl,rfl⟩
structure CW (B:Nat) (F:Nat->Prop) (W:World) (q p b:Nat) (s:Sh) (k:Kl) (m:Mem):Prop where
 kl:KlO F W q s k
 wd:zaq W p b m
 fp:¬ F p
 fb:¬ F b
 lo:∀ i,F i->B<=i
 lp:B<=p
 lb:B<=b
 ok:klOk s k
 fi:Fits s m
section

variable {B:Nat} {F:Nat->Prop} {W W':World} {q p b:Nat} {s:Sh} {k:Kl} {m:Mem}

theorem CW.below (h:CW B F W q p b s k m) (hb:Below W.heap.size W W'):CW B F W' q p b s k m:=⟨h.kl.below hb,h.wd.below hb,h.fp,h.fb,h.lo,h.lp,h.lb,h.ok,h.fi⟩
theorem CW.only {G:Nat->Prop} (h:CW B F W q p b s k m) (ho:Only G W W') (hG:∀ i,G i->¬ F i/\i≠p/\i≠b):CW B F W' q p b s k m:=
 ⟨h.kl.only ho (fun i hi hg=> (hG i hg).1 hi),h.wd.only ho (fun e=> (hG p e).2.1 rfl) (fun e=> (hG b e).2.2 rfl),h.fp,h.fb,h.lo,h.lp,h.lb,h.ok,h.fi⟩
theorem zif {p:Nat} (h:¬ F p) (hp:p < W.heap.size):¬ grow F W W' p:=fun e=> by
 rcases e with e | e
 ·exact h e
 ·omega
structure z2r (B:Nat) (F:Nat->Prop) (W W':World) (q p b:Nat) (s:Sh) (k:Kl) (m:Mem) (r:Ending):Prop where
 ret:∃ v,r= .returned (.tuple #[v,.int .i64 (k.step s m).2.2.2])/\W'.ownsRow W.heap.size 50 8 v (k.step s m).2.2.1.length ((k.step s m).2.2.1.flatMap fun e=> e.cells.toList)
 cw:CW B (grow F W W') W' q p b s (k.step s m).1 (k.step s m).2.1
 only:Only (fun i=> F i\/i=p\/i=b) W W'
 below:Below B W W'
theorem ybc (h:CW B F W q p b s k m) (hB:B<=W.heap.size) (hs:m.st < 1000000000):
  Calls Tryz.prog 112 #[.pointer (some ⟨q,0,.none⟩),.pointer (some ⟨p,0,.none⟩)] W fun r w'=> z2r B F W w' q p b s k m r:=by
 have hm:=h.fi.may
 have hb:=h.fi.bd
 have key:∀ r w',ztp F q p b W w' r s k m->klOk s (k.step s m).1->Fits s (k.step s m).2.1->z2r B F W w' q p b s k m r:=fun r w' hS ho hf=> by
  refine ⟨hS.ret,⟨hS.kl,hS.wds,zif h.fp h.wd.ltp,zif h.fb h.wd.ltb,fun i hi=> ?_,h.lp,h.lb,ho,hf⟩,hS.only,hS.only.below hB (fun i hi=> ?_)⟩
  ·rcases hi with hi | hi
   ·exact h.lo i hi
   ·omega
  ·rcases hi with hi | rfl | rfl
   ·exact h.lo i hi
   ·exact h.lp
   ·exact h.lb
 rcases hj:k.job with _ | j
 ·refine (zuq h.kl h.wd hj).mono fun r w' hS=> key r w' hS ?_ ?_
  ·have e:k.step s m=(k,m, [],2):=by unfold Kl.step;rw [hj]
   rw [e];exact h.ok
  ·have e:k.step s m=(k,m, [],2):=by unfold Kl.step;rw [hj]
   rw [e];exact h.fi
 ·have ho:=zsh h.ok hj h.fi h.wd.fit
  have hfew:=z8x h.ok (by omega) hj
  refine (zty h.kl h.wd h.fp h.fb h.fi h.wd.fit hj (h.ok.jb j hj).1 (h.ok.jb j hj).2.1 h.ok.cl ⟨h.ok.st,by omega⟩ hs).mono fun r w' hS=> key r w' hS ho.2 (ho.1.fits h.fi)
structure ygo (B:Nat) (F:Nat->Prop) (W W':World) (q p b:Nat) (s:Sh) (k:Kl) (m:Mem) (o:Op3) (r:Ending):Prop where
 ret:∃ v,r= .returned (.tuple #[v,.int .i64 (k.invoke s o).2.2])/\W'.ownsRow W.heap.size 50 8 v (k.invoke s o).2.1.length ((k.invoke s o).2.1.flatMap fun e=> e.cells.toList)
 cw:CW B (grow F W W') W' q p b s (k.invoke s o).1 m
 only:Only F W W'
 below:Below B W W'
theorem yfi (o:Op3) (h:CW B F W q p b s k m) (hB:B<=W.heap.size):
  Calls Tryz.prog 70 #[.pointer (some ⟨q,0,.none⟩),.agg #[.int .i64 o.k,.int .i64 o.a,.int .i64 o.n]] W fun r w'=> ygo B F W w' q p b s k m o r:=by
 refine (z3l (o:=o) h.kl).mono fun r w' hS=> ?_
 refine ⟨hS.ret,⟨hS.kl,h.wd.only hS.only h.fp h.fb,zif h.fp h.wd.ltp,zif h.fb h.wd.ltb,fun i hi=> ?_,h.lp,h.lb,zwi o h.fi.may h.ok,h.fi⟩,hS.only,hS.only.below hB h.lo⟩
 rcases hi with hi | hi
 ·exact h.lo i hi
 ·omega
end

theorem zut {w:World} {B:Nat} {v:Value} {es:List Ev} (h:w.ownsRow B 50 8 v es.length (es.flatMap fun e=> e.cells.toList)):RdE w v es:=RdS.zew h
end

section

open Go.RowKit

attribute [local go_sem ↓] Go.wp_at_zero Go.wp_at_succ

def Acc.cells (a:Acc):Array Value:= #[.int .i64 a.c,.int .i64 a.k,.int .i64 a.a,.int .u64 a.was,.int .u64 a.put,.bool a.ok]
def zfd (s:Sh) (p lb n:Nat) (tv sv:Value):Array Value:= #[.int .i64 s.p,.int .i64 s.c,.int .i64 s.m,.pointer (some ⟨p,0,.none⟩),.slice (some ⟨lb,0,.none⟩) n n,tv,sv]
def ptrK (o:Option Kl) (q:Nat):Value:=match o with
 | none=> .pointer none
 | some _=> .pointer (some ⟨q,0,.none⟩)
structure Wx where
 p:Nat
 b:Nat
 lb:Nat
 tv:Value
 sv:Value
 ps:List Value
 qs:Nat->Nat
 ow:Nat->Nat
 Fc:Nat->Nat->Prop
structure WdP (B:Nat) (F:Nat->Prop) (W:World) (g:Nat) (s:Sh) (d:Wd) (x:Wx):Prop where
 top:zaa W g (zfd s x.p x.lb d.l.length x.tv x.sv) 122
 wds:zaq W x.p x.b d.m
 lst:zaa W x.lb x.ps.toArray 36
 pl:x.ps.length=d.l.length
 pe:∀ c,c < d.l.length->x.ps[c]?=some (ptrK (d.l.getD c none) (x.qs c))
 cl:∀ c k,d.l.getD c none=some k->KlO (x.Fc c) W (x.qs c) s k
 tr:W.ownsRow B 50 8 x.tv d.tr.length (d.tr.flatMap fun e=> e.cells.toList)
 lg:W.ownsRow B 59 6 x.sv d.lg.length (d.lg.flatMap fun a=> a.cells.toList)
 lt:∀ i,F i->B<=i/\i < W.heap.size
 fg:F g/\x.ow g=0
 fp:F x.p/\x.ow x.p=1
 fb:F x.b/\x.ow x.b=2
 fl:F x.lb/\x.ow x.lb=3
 ft:∀ i,x.tv.ownBlock=some i->F i/\x.ow i=4
 fs:∀ i,x.sv.ownBlock=some i->F i/\x.ow i=5
 fc:∀ c i,x.Fc c i->F i/\x.ow i=c + 6
section

variable {B:Nat} {F:Nat->Prop} {W W':World} {g:Nat} {s:Sh} {d:Wd} {x:Wx}

theorem WdP.ne (_h:WdP B F W g s d x) {i j:Nat} {m n:Nat} (hi:x.ow i=m) (hj:x.ow j=n) (hn:m≠n):i≠j:=fun e=> hn (by rw [<- hi,<- hj,e])
theorem WdP.only {G:Nat->Prop} (h:WdP B F W g s d x) (ho:Only G W W') (hG:∀ i,F i->¬ G i):WdP B F W' g s d x:=
 ⟨h.top.only ho (hG _ h.fg.1),h.wds.only ho (hG _ h.fp.1) (hG _ h.fb.1),h.lst.only ho (hG _ h.fl.1),h.pl,h.pe,fun c k hk=> (h.cl c k hk).only ho (fun i hi=> hG i (h.fc c i hi).1),
  zas h.tr fun i hi=> ho.block i (h.tr.lt i hi).2 (hG i (h.ft i hi).1),zas h.lg fun i hi=> ho.block i (h.lg.lt i hi).2 (hG i (h.fs i hi).1),fun i hi=> ⟨(h.lt i hi).1,Nat.lt_of_lt_of_le (h.lt i hi).2 ho.size⟩,
  h.fg,h.fp,h.fb,h.fl,h.ft,h.fs,h.fc⟩
theorem WdP.below (h:WdP B F W g s d x) (hb:Below W.heap.size W W'):WdP B F W' g s d x:=h.only (Only.of_below (F:=fun _=> False) hb) (fun _ _ e=> e)
theorem WdP.grows (h:WdP B F W g s d x) (hB:B<=W.heap.size) (hb:Below W.heap.size W W'):WdP B (grow F W W') W' g s d x:=by
 have h':=h.below hb
 refine ⟨h'.top,h'.wds,h'.lst,h'.pl,h'.pe,h'.cl,h'.tr,h'.lg,fun i hi=> ?_,⟨.inl h.fg.1,h.fg.2⟩,⟨.inl h.fp.1,h.fp.2⟩,⟨.inl h.fb.1,h.fb.2⟩,⟨.inl h.fl.1,h.fl.2⟩,fun i hi=> ⟨.inl (h.ft i hi).1,(h.ft i hi).2⟩,fun i hi=> ⟨.inl (h.fs i hi).1,(h.fs i hi).2⟩,fun c i hi=> ⟨.inl (h.fc c i hi).1,(h.fc c i hi).2⟩⟩
 rcases hi with hi | hi
 ·exact h'.lt i hi
 ·exact ⟨by omega,hi.2⟩
end

def Wx.told (x:Wx) (tv:Value) (N:Nat):Wx:= { x with tv:=tv,ow:=fun i=> if N<=i then 4 else x.ow i }
theorem WdP.told {B:Nat} {F:Nat->Prop} {W W' W2:World} {g:Nat} {s:Sh} {d:Wd} {x:Wx} {v':Value} {es:List Ev} (h:WdP B F W g s d x) (hB:B<=W.heap.size) (hg:W.grownBy W' x.tv.ownBlock)
  (ho:W'.ownsRow B 50 8 v' (d.tr.length + es.length) ((d.tr.flatMap fun e=> e.cells.toList) ++ es.flatMap fun e=> e.cells.toList))
  (hv:v'.ownBlock=x.tv.ownBlock\/v'.ownBlock=some W.heap.size) (h2:W2=W'.setCell ⟨g,5,.none⟩ v'):
  WdP B (grow F W W2) W2 g s { d with tr:=d.tr ++ es } (x.told v' W.heap.size)/\Only F W W2:=by
 have hsz:W2.heap.size=W'.heap.size:=by rw [h2];simp [World.setCell]
 have htv:∀ i,x.tv.ownBlock=some i->F i:=fun i hi=> (h.ft i hi).1
 have ho1:Only (fun i=> x.ow i=4/\F i) W W':=(Only.refl _ W).grown hg fun k hk=> .inl ⟨(h.ft k hk).2,(h.ft k hk).1⟩
 have ho2:Only (fun i=> (x.ow i=4/\F i)\/i=g) W W2:=by
  rw [h2]
  exact Only.setCell (Only.weak ho1 fun k hk=> .inl hk) (p:=⟨g,5,.none⟩) (.inl (.inr rfl)) v'
 have hlow:∀ i,F i->¬ W.heap.size<=i:=fun i hi=> by have:=(h.lt i hi).2;omega
 have how:∀ i,F i->(x.told v' W.heap.size).ow i=x.ow i:=fun i hi=> if_neg (hlow i hi)
 have hno:∀ i,x.ow i≠4->i≠g->¬ ((x.ow i=4/\F i)\/i=g):=fun i h1 h2 e=> e.elim (fun e=> h1 e.1) h2
 have hgg:∀ i,x.ow i≠0->i≠g:=fun i hi e=> hi (e ▸ h.fg.2)
 have own:∀ i m,x.ow i=m->m≠4->m≠0->¬ ((x.ow i=4/\F i)\/i=g):=fun i m hm h4 h0=> hno i (by omega) (hgg i (by omega))
 refine ⟨⟨?_,h.wds.only ho2 (own _ 1 h.fp.2 (by decide) (by decide)) (own _ 2 h.fb.2 (by decide) (by decide)),h.lst.only ho2 (own _ 3 h.fl.2 (by decide) (by decide)),h.pl,h.pe,fun c k hk=> (h.cl c k hk).only ho2 (fun i hi=> own i (c + 6) (h.fc c i hi).2 (by omega) (by omega)),
  ?_,zas h.lg fun i hi=> ho2.block i (h.lg.lt i hi).2 (own i 5 (h.fs i hi).2 (by decide) (by decide)),fun i hi=> ?_,⟨.inl h.fg.1,(how _ h.fg.1).trans h.fg.2⟩,⟨.inl h.fp.1,(how _ h.fp.1).trans h.fp.2⟩,⟨.inl h.fb.1,(how _ h.fb.1).trans h.fb.2⟩,⟨.inl h.fl.1,(how _ h.fl.1).trans h.fl.2⟩,fun i hi=> ?_,
  fun i hi=> ⟨.inl (h.fs i hi).1,(how _ (h.fs i hi).1).trans (h.fs i hi).2⟩,fun c i hi=> ⟨.inl (h.fc c i hi).1,(how _ (h.fc c i hi).1).trans (h.fc c i hi).2⟩⟩,Only.weak ho2 fun k hk=> hk.elim (fun e=> e.2) (fun e=> e ▸ h.fg.1)⟩
 ·have ht:zaa W' g (zfd s x.p x.lb d.l.length x.tv x.sv) 122:=h.top.only ho1 (fun e=> by have:=h.fg.2;omega)
  rw [h2]
  exact ht.set 5 v'
 ·rw [h2]
  refine zas (w:=W') ?_ fun i hi=> Below.heap_setCell _ ⟨g,5,.none⟩ _ i ?_
  ·simpa [Wx.told] using ho
  ·rcases hv with hv | hv
   ·rw [show (x.told v' W.heap.size).tv=v' from rfl,hv] at hi
    have:=(h.ft i hi).2
    exact hgg i (by omega)
   ·rw [show (x.told v' W.heap.size).tv=v' from rfl,hv] at hi
    injection hi with hi
    have:=(h.lt _ h.fg.1).2
    show i≠g
    omega
 ·rcases hi with hi | hi
  ·exact ⟨(h.lt i hi).1,by have:=(h.lt i hi).2;have:=ho2.size;omega⟩
  ·exact ⟨by omega,hi.2⟩
 ·rw [show (x.told v' W.heap.size).tv=v' from rfl] at hi
  rcases hv with hv | hv
  ·rw [hv] at hi
   exact ⟨.inl (h.ft i hi).1,(how _ (h.ft i hi).1).trans (h.ft i hi).2⟩
  ·have hlt:=ho.lt i hi
   rw [hv] at hi
   injection hi with hi
   subst hi
   exact ⟨.inr ⟨Nat.le_refl _,by rw [hsz];exact hlt.2⟩,if_pos lr⟩
theorem z04 {B:Nat} {F:Nat->Prop} {W:World} {g:Nat} {s:Sh} {d:Wd} {x:Wx} (h:WdP B F W g s d x) (hB:B<=W.heap.size) (es:List Ev) (v:Value) (hr:RdE W v es) (hl:d.tr.length + es.length<=100000000):
  Calls Tryz.prog 71 #[.pointer (some ⟨g,0,.none⟩),v] W fun e w'=> e= .returned (.tuple #[])/\∃ x',WdP B (grow F W w') w' g s { d with tr:=d.tr ++ es } x'/\Only F W w'/\x'.qs=x.qs:=by
 have x5:=ce x.tv (h.top.cell 5)
 have lg:g < W.heap.size:=h.top.lt
 have fg:=zax h.top
 have hown:=h.tr
 obtain ⟨i0,hi0,hz0,hz1,hz2⟩:=info_parts zdb
 have hones:∀ u ∈ es.flatMap (fun e=> e.cells.toList),u.oneCell'=true:=fun u hu=> by
  obtain ⟨e,_,he⟩:=List.mem_flatMap.1 hu
  simp only [Ev.cells,List.mem_cons,List.not_mem_nil,or_false] at he
  rcases he with rfl | rfl | rfl | rfl | rfl | rfl | rfl | rfl <;> rfl
 have htold:=fun W' W2 v'=> h.told (W':=W') (W2:=W2) (v':=v') (es:=es) hB
 obtain ⟨at0,ct0,e0,h0⟩:=RdS.zew hown
 obtain ⟨at1,ct1,e1,h1⟩:=id hr
 clear h0 h1
 subst e1
 rw [e0] at hown x5
 have hg5:∀ W':World,W.grownBy W' x.tv.ownBlock->W'.heap[g]?=W.heap[g]?:=fun W' hg=> hg.block g lg (fun e=> by have:=(h.ft g e.symm).2;have:=h.fg.2;omega)
 rw [e0] at htold hg5
 replace htold:=hd' htold
 replace hg5:=hd' hg5
 replace e0:=hd' e0
 have htop:=hd' h.top
 clear h
 go_enter Tryz.func71,Tryz.ntmps71
 go_wp2_with (first
  | (refine zay rfl (.tmp 8) (.tmp 9) 47 rfl B 50 i0 _ 8 64 Tryz.underlying47 hi0 hz0 hz1 hz2 rfl (by omega) _ d.tr.length _ rfl hown _ es.length _ rfl hr hones (by simp only [maxLen];omega) (by omega) hB ?_;intro v7 w7 hown7 hgrow7 hat7;obtain ⟨a7,c7,e7,_⟩:=RdS.zew hown7;subst e7;have f7:zaa w7 g _ _:=(hg5.out w7 hgrow7).trans htop.out;have fg7:=zax f7;have l7:g < w7.heap.size:=f7.lt;have y5:w7.cell? ⟨g,5,.none⟩=some (.slice at0 d.tr.length ct0):=(f7.cell 5).trans (congrArg some e0.out))
  | fail)
 have ht:=htold.out w7 _ _ hgrow7 hown7 hat7 rfl
 refine bodyPost_end (results_none rfl _ _ _) rfl ⟨rfl,_,ht.1,ht.2,rfl⟩
end

section

open Go.RowKit

section

variable {B:Nat} {F:Nat->Prop} {W W':World} {g:Nat} {s:Sh} {d:Wd} {x:Wx}

theorem WdP.put {m':Mem} (h:WdP B F W g s d x) (ho:Only (fun i=> i=x.p\/i=x.b) W W') (hw:zaq W' x.p x.b m'):WdP B F W' g s { d with m:=m' } x:=by
 have own:∀ i n,x.ow i=n->n≠1->n≠2->¬ (i=x.p\/i=x.b):=fun i n hi h1 h2 e=> by
  rcases e with rfl | rfl
  ·have:=h.fp.2;omega
  ·have:=h.fb.2;omega
 exact ⟨h.top.only ho (own _ 0 h.fg.2 (by decide) (by decide)),hw,h.lst.only ho (own _ 3 h.fl.2 (by decide) (by decide)),h.pl,h.pe,fun c k hk=> (h.cl c k hk).only ho (fun i hi=> own i (c + 6) (h.fc c i hi).2 (by omega) (by omega)),
  zas h.tr fun i hi=> ho.block i (h.tr.lt i hi).2 (own i 4 (h.ft i hi).2 (by decide) (by decide)),zas h.lg fun i hi=> ho.block i (h.lg.lt i hi).2 (own i 5 (h.fs i hi).2 (by decide) (by decide)),fun i hi=> ⟨(h.lt i hi).1,Nat.lt_of_lt_of_le (h.lt i hi).2 ho.size⟩,
  h.fg,h.fp,h.fb,h.fl,h.ft,h.fs,h.fc⟩
theorem WdP.yfs (h:WdP B F W g s d x) (ho:Only (fun i=> i=x.p\/i=x.b) W W'):Only F W W':=Only.weak ho fun i hi=> by
 rcases hi with rfl | rfl
 ·exact h.fp.1
 ·exact h.fb.1
def Wx.mine (x:Wx) (c N N':Nat):Wx:= { x with ow:=fun i=> if N<=i then c + 6 else x.ow i,Fc:=fun c' i=> x.Fc c' i\/(c'=c/\N<=i/\i < N') }
theorem zjv {l:List (Option Kl)} {c i:Nat} {k:Kl} (hc:c < l.length):(l.set c (some k)).getD i none=if i=c then some k else l.getD i none:=by
 rw [zme _ _ _ _ hc]
 by_cases e:c=i
 ·subst e;simp
 ·rw [if_neg e,if_neg (fun h=> e h.symm)]
theorem WdP.stepped {c:Nat} {k k':Kl} {m':Mem} (h:WdP B F W g s d x) (hB:B<=W.heap.size) (hk:d.l.getD c none=some k) (hc:c < d.l.length)
  (hkl:KlO (grow (x.Fc c) W W') W' (x.qs c) s k') (hw:zaq W' x.p x.b m') (ho:Only (fun i=> x.Fc c i\/i=x.p\/i=x.b) W W'):
  WdP B (grow F W W') W' g s { d with m:=m',l:=d.l.set c (some k') } (x.mine c W.heap.size W'.heap.size)/\Only F W W':=by
 have own:∀ i n,x.ow i=n->n≠1->n≠2->n≠c + 6->¬ (x.Fc c i\/i=x.p\/i=x.b):=fun i n hi h1 h2 h3 e=> by
  rcases e with e | rfl | rfl
  ·have:=(h.fc c i e).2;omega
  ·have:=h.fp.2;omega
  ·have:=h.fb.2;omega
 have hlow:∀ i,F i->¬ W.heap.size<=i:=fun i hi=> by have:=(h.lt i hi).2;omega
 have how:∀ i,F i->(x.mine c W.heap.size W'.heap.size).ow i=x.ow i:=fun i hi=> if_neg (hlow i hi)
 refine ⟨⟨?_,hw,h.lst.only ho (own _ 3 h.fl.2 (by decide) (by decide) (by omega)),by simpa [Wx.mine] using h.pl,fun c' hc'=> ?_,fun c' k2 hk2=> ?_,
  zas h.tr fun i hi=> ho.block i (h.tr.lt i hi).2 (own i 4 (h.ft i hi).2 (by decide) (by decide) (by omega)),zas h.lg fun i hi=> ho.block i (h.lg.lt i hi).2 (own i 5 (h.fs i hi).2 (by decide) (by decide) (by omega)),fun i hi=> ?_,
  ⟨.inl h.fg.1,(how _ h.fg.1).trans h.fg.2⟩,⟨.inl h.fp.1,(how _ h.fp.1).trans h.fp.2⟩,⟨.inl h.fb.1,(how _ h.fb.1).trans h.fb.2⟩,⟨.inl h.fl.1,(how _ h.fl.1).trans h.fl.2⟩,fun i hi=> ⟨.inl (h.ft i hi).1,(how _ (h.ft i hi).1).trans (h.ft i hi).2⟩,
  fun i hi=> ⟨.inl (h.fs i hi).1,(how _ (h.fs i hi).1).trans (h.fs i hi).2⟩,fun c' i hi=> ?_⟩,Only.weak ho fun i hi=> ?_⟩
 ·have:=h.top.only ho (own _ 0 h.fg.2 (by decide) (by decide) (by omega))
  show zaa W' g (zfd s x.p x.lb (d.l.set c (some k')).length x.tv x.sv) _
  rw [List.length_set];exact this
 ·have hc':c' < (d.l.set c (some k')).length:=hc'
  rw [List.length_set] at hc'
  show x.ps[c']?=some (ptrK ((d.l.set c (some k')).getD c' none) (x.qs c'))
  rw [zjv hc,h.pe c' hc']
  split
  ·rename_i e;subst e;rw [hk];rfl
  ·rfl
 ·have hk9:(d.l.set c (some k')).getD c' none=some k2:=hk2
  clear hk2
  have hk2:=hk9
  clear hk9
  rw [zjv hc] at hk2
  show KlO (fun i=> x.Fc c' i\/(c'=c/\W.heap.size<=i/\i < W'.heap.size)) W' (x.qs c') s k2
  split at hk2
  ·rename_i e;subst e
   injection hk2 with hk2;subst hk2
   exact hkl.weak (fun i hi=> hi.elim .inl fun hi=> .inr ⟨rfl,hi⟩) (fun i hi=> by
    rcases hi with hi | hi
    ·have:=(h.lt i (h.fc _ i hi).1).2;have:=ho.size;omega
    ·exact hi.2.2)
  ·rename_i e
   have h1:=(h.cl c' k2 hk2).only ho (fun i hi=> own i (c' + 6) (h.fc c' i hi).2 (by omega) (by omega) (by omega))
   exact h1.weak (fun i hi=> .inl hi) (fun i hi=> by
    rcases hi with hi | hi
    ·exact h1.lt i hi
    ·exact absurd hi.1 e)
 ·rcases hi with hi | hi
  ·exact ⟨(h.lt i hi).1,Nat.lt_of_lt_of_le (h.lt i hi).2 ho.size⟩
  ·exact ⟨by omega,hi.2⟩
 ·rcases hi with hi | ⟨rfl,hi⟩
  ·exact ⟨.inl (h.fc c' i hi).1,(how _ (h.fc c' i hi).1).trans (h.fc c' i hi).2⟩
  ·exact ⟨.inr hi,if_pos hi.1⟩
 ·rcases hi with hi | rfl | rfl
  ·exact (h.fc c i hi).1
  ·exact h.fp.1
  ·exact h.fb.1
theorem WdP.cw {n:Nat} {c:Nat} {k:Kl} (h:WdP B F W g s d x) (hk:d.l.getD c none=some k) (ho:klOk s k) (hf:Fits s d.m):CW B (x.Fc c) W (x.qs c) x.p x.b s k d.m:=
 ⟨h.cl c k hk,h.wds,fun e=> by have:=(h.fc c _ e).2;have:=h.fp.2;omega,fun e=> by have:=(h.fc c _ e).2;have:=h.fb.2;omega,fun i hi=> (h.lt i (h.fc c i hi).1).1,(h.lt _ h.fp.1).1,(h.lt _ h.fb.1).1,ho,hf⟩
theorem WdP.place {c q:Nat} {o:Option Kl} {Fq:Nat->Prop} (h:WdP B F W g s d x) (hB:B<=W.heap.size) (hc:c < d.l.length) (hb:Below W.heap.size W W') (hq:∀ k,o=some k->KlO Fq W' q s k) (hFq:∀ i,Fq i->W.heap.size<=i/\i < W'.heap.size) {W2:World} (h2:W2=W'.setCell ⟨x.lb,c,.none⟩ (ptrK o q)):
  ∃ x',WdP B (grow F W W2) W2 g s { d with l:=d.l.set c o } x'/\Only F W W2/\x'.p=x.p/\x'.b=x.b:=by
 have hsz:W2.heap.size=W'.heap.size:=by rw [h2];simp [World.setCell]
 have hs:=hb.size
 have ho:Only (fun i=> i=x.lb) W W2:=by
  rw [h2];exact (Only.of_below (F:=fun i=> i=x.lb) hb).setCell (p:=⟨x.lb,c,.none⟩) (.inl rfl) _
 have own:∀ i n,x.ow i=n->n≠3->¬ (i=x.lb):=fun i n hi h3 e=> by
  subst e;have:=h.fl.2;omega
 have hlow:∀ i,F i->¬ W.heap.size<=i:=fun i hi=> by have:=(h.lt i hi).2;omega
 refine ⟨{ x with ps:=x.ps.set c (ptrK o q),qs:=fun c'=> if c'=c then q else x.qs c',ow:=fun i=> if W.heap.size<=i then c + 6 else x.ow i,Fc:=fun c' i=> if c'=c then Fq i else x.Fc c' i },
  ⟨?_,h.wds.only ho (own _ 1 h.fp.2 (by decide)) (own _ 2 h.fb.2 (by decide)),?_,by simpa using h.pl,fun c' hc'=> ?_,fun c' k2 hk2=> ?_,
  zas h.tr fun i hi=> ho.block i (h.tr.lt i hi).2 (own i 4 (h.ft i hi).2 (by decide)),zas h.lg fun i hi=> ho.block i (h.lg.lt i hi).2 (own i 5 (h.fs i hi).2 (by decide)),fun i hi=> ?_,
  ⟨.inl h.fg.1,(if_neg (hlow _ h.fg.1)).trans h.fg.2⟩,⟨.inl h.fp.1,(if_neg (hlow _ h.fp.1)).trans h.fp.2⟩,⟨.inl h.fb.1,(if_neg (hlow _ h.fb.1)).trans h.fb.2⟩,⟨.inl h.fl.1,(if_neg (hlow _ h.fl.1)).trans h.fl.2⟩,fun i hi=> ⟨.inl (h.ft i hi).1,(if_neg (hlow _ (h.ft i hi).1)).trans (h.ft i hi).2⟩,
  fun i hi=> ⟨.inl (h.fs i hi).1,(if_neg (hlow _ (h.fs i hi).1)).trans (h.fs i hi).2⟩,fun c' i hi=> ?_⟩,Only.weak ho fun i hi=> by subst hi;exact h.fl.1,rfl,rfl⟩
 ·have:=h.top.only ho (own _ 0 h.fg.2 (by decide))
  show zaa W2 g (zfd s x.p x.lb (d.l.set c o).length x.tv x.sv) _
  rw [List.length_set];exact this
 ·have h3:=(h.lst.below hb).set c (ptrK o q)
  rw [<- h2] at h3
  refine h3.cast ?_
  simp
 ·have hc':c' < (d.l.set c o).length:=hc'
  rw [List.length_set] at hc'
  show (x.ps.set c (ptrK o q))[c']?=some (ptrK ((d.l.set c o).getD c' none) (if c'=c then q else x.qs c'))
  rw [zme _ _ _ _ hc,List.getElem?_set]
  by_cases e:c=c'
  ·subst e
   rw [if_pos rfl,if_pos (by rw [h.pl];exact hc),if_pos rfl,if_pos rfl]
  ·rw [if_neg e,if_neg e,if_neg (fun h=> e h.symm)]
   exact h.pe c' hc'
 ·have hk2:(d.l.set c o).getD c' none=some k2:=hk2
  rw [zme _ _ _ _ hc] at hk2
  show KlO (fun i=> if c'=c then Fq i else x.Fc c' i) W2 (if c'=c then q else x.qs c') s k2
  by_cases e:c=c'
  ·subst e
   rw [if_pos rfl] at hk2
   rw [if_pos rfl]
   have h4:=hq k2 hk2
   have hlb:∀ i,Fq i->i≠x.lb:=fun i hi e=> by have:=(h.lt _ h.fl.1).2;have:=(hFq i hi).1;omega
   have h5:KlO Fq W2 q s k2:=by
    rw [h2]
    exact h4.only (G:=fun i=> i=x.lb) ((Only.refl (fun i=> i=x.lb) W').setCell (p:=⟨x.lb,c,.none⟩) (.inl rfl) _) hlb
   exact h5.weak (fun i hi=> by rw [if_pos rfl];exact hi) (fun i hi=> by rw [if_pos rfl] at hi;exact h5.lt i hi)
  ·rw [if_neg e] at hk2
   rw [if_neg (fun h=> e h.symm)]
   have h5:=(h.cl c' k2 hk2).only ho (fun i hi=> own i (c' + 6) (h.fc c' i hi).2 (by omega))
   exact h5.weak (fun i hi=> by rw [if_neg (fun h=> e h.symm)];exact hi) (fun i hi=> by rw [if_neg (fun h=> e h.symm)] at hi;exact h5.lt i hi)
 ·rcases hi with hi | hi
  ·exact ⟨(h.lt i hi).1,by have:=(h.lt i hi).2;omega⟩
  ·exact ⟨by omega,hi.2⟩
 ·have hi9:if c'=c then Fq i else x.Fc c' i:=hi
  clear hi
  by_cases e:c'=c
  ·subst e
   rw [if_pos rfl] at hi9
   have h6:=hFq i hi9
   exact ⟨.inr ⟨h6.1,by rw [hsz];exact h6.2⟩,if_pos h6.1⟩
  ·rw [if_neg e] at hi9
   exact ⟨.inl (h.fc c' i hi9).1,(if_neg (hlow _ (h.fc c' i hi9).1)).trans (h.fc c' i hi9).2⟩
theorem grow_grow {W1 W2:World} (h1:W.heap.size<=W1.heap.size) (h2:W1.heap.size<=W2.heap.size) (i:Nat):grow (grow F W W1) W1 W2 i↔grow F W W2 i:=by
 unfold grow
 constructor
 ·rintro ((h | h) | h)
  ·exact .inl h
  ·exact .inr ⟨h.1,by omega⟩
  ·exact .inr ⟨by omega,h.2⟩
 ·rintro (h | h)
  ·exact .inl (.inl h)
  ·by_cases e:i < W1.heap.size
   ·exact .inl (.inr ⟨h.1,e⟩)
   ·exact .inr ⟨by omega,h.2⟩
theorem WdP.eqv {G:Nat->Prop} (h:WdP B F W g s d x) (e:∀ i,F i↔G i):WdP B G W g s d x:=by
 have:F=G:=funext fun i=> propext (e i)
 exact this ▸ h
end

end

section

open Go.RowKit

attribute [local go_sem ↓] Go.wp_at_zero Go.wp_at_succ

theorem z3c (p b:Nat) (m:Mem) (a:Int) (w:World) (h:zaq w p b m) (ha:m.has a):
  Calls Tryz.prog 76 #[.pointer (some ⟨p,0,.none⟩),.int .i64 a] w fun e w'=> e= .returned (.int .u64 (m.get a))/\w'=w:=by
 have h1:=hd' (zvd p b m a w h ha)
 obtain ⟨n,hn,hn'⟩:=hidv m.ws.length
 have x0:w.cell? ⟨p,0,.none⟩=some (.slice (some ⟨b,0,.none⟩) n n):=by rw [hn'];exact zac h.blk 0
 have y0:=h.cell ha
 have a0:(0:Int)<=a:=ha.1
 have a1:a < (n:Int):=by rw [hn'];exact ha.2
 clear hn' h ha
 generalize m.get a=v at *
 go_enter Tryz.func76,Tryz.ntmps76
 go_wp2_with (first | (go_at_call 122;refine h1.out.mono ?_;rintro r w1 ⟨rfl,hw⟩;obtain rfl:=hw.symm) | fail)
 go_returns
 exact ⟨rfl,rfl⟩
section

variable {B:Nat} {F:Nat->Prop} {W:World} {g:Nat} {s:Sh} {d:Wd} {x:Wx}

theorem zlc (h:WdP B F W g s d x) (hf:Fits s d.m) (c kind:Int) (hc:0<=c/\c < s.c):
  Calls Tryz.prog 72 #[.pointer (some ⟨g,0,.none⟩),.int .i64 c,.int .i64 kind] W fun e w'=> e= .returned (.tuple #[])/\WdP B F w' g s { d with m:=d.m.put c (za8 kind 0) } x/\Only F W w':=by
 have hst:=(hf.status hc)
 have hcp:=fun Y=> zau s.p s.c s.m c Y
 rw [hst.1] at hcp
 have hps:=fun Y=> zgn kind 0 Y
 have hpt:=fun Y (hY:zaq Y x.p x.b d.m)=> z5o x.p x.b d.m c (za8 kind 0) Y hY hst.2 (zdz _ _)
 have hfin:=fun Y w' (hb:Below W.heap.size W Y) (hw:zaq w' x.p x.b (d.m.put c (za8 kind 0))) (ho:Only (fun k=> k=x.b) Y w')=> (⟨WdP.put (h.below hb) (Only.weak ho fun i hi=> .inr hi) hw,Only.trans (F:=F) (Only.of_below hb) ho (fun i _ hi=> by subst hi;exact h.fb.1)⟩:WdP B F w' g s { d with m:=d.m.put c (za8 kind 0) } x/\Only F W w')
 obtain ⟨c0,c1,c2⟩:=ci3 s.p s.c s.m h.top.cell
 have c3:=ce (.pointer (some ⟨x.p,0,.none⟩)) (h.top.cell 3)
 have lg:g < W.heap.size:=h.top.lt
 have hw:=hd' h.wds
 replace hcp:=hd' hcp
 replace hps:=hd' hps
 replace hpt:=hd' hpt
 replace hfin:=hd' hfin
 clear h hf hst
 go_enter Tryz.func72,Tryz.ntmps72
 go_upto_region 0 with fail
 refine zad 12 (by kernel_rfl) (by kernel_rfl) ?_
 dsimp only [List.take,List.drop]
 repeat (go_big_quiet_step ((first | (go_at_call 67;exact zam (hcp.out _)) | (go_at_call 119;exact zam (hps.out _)) | fail)))
 refine wpQuiet_nil ?_
 rintro _ ⟨e',rfl⟩
 have hX:=e'.below
 generalize e'.w=X at *
 change wpList _ _ _ _ _ X
 have hwX:=hw.out.below hX
 clear c0 c1 c2 c3
 go_wp2_with (first | (go_at_call 118;(with_reducible refine (hpt.out _ hwX).mono ?_);rintro r w2 ⟨rfl,hw2,ho2⟩) | fail)
 refine bodyPost_end (results_none rfl _ _ _) rfl ⟨rfl,hfin.out _ _ hX hw2 ho2⟩
def zrl (s:Sh) (d:Wd) (c:Int):Int:=if 0<=zae s.p s.c s.m c then d.stat c else 0
theorem zmv (h:WdP B F W g s d x) (hf:Fits s d.m) (hfit:d.m.fit) (c:Int):
  Calls Tryz.prog 31 #[.pointer (some ⟨g,0,.none⟩),.int .i64 c] W fun e w'=> e= .returned (.int .i64 (zrl s d c))/\Below W.heap.size W w':=by
 have hcp:=fun Y=> zau s.p s.c s.m c Y
 obtain ⟨c0,c1,c2⟩:=ci3 s.p s.c s.m h.top.cell
 have c3:=ce (.pointer (some ⟨x.p,0,.none⟩)) (h.top.cell 3)
 have lg:g < W.heap.size:=h.top.lt
 have hnil:∀ (p:Nat) (W:World),(binOp .eql 27 (.pointer (some ⟨p,0,.none⟩)) (.pointer none)).run Tryz.prog W= .ok (.bool false) W:=fun p W=> by kernel_rfl
 unfold zrl
 by_cases hc:0<=zae s.p s.c s.m c
 ·rw [if_pos hc]
  have hst:=zbe hc
  have hcr:0<=c/\c < s.c:=by omega
  have hix:=hf.status hcr
  rw [hix.1] at hcp hc
  have hlk:=fun Y (hY:zaq Y x.p x.b d.m)=> z3c x.p x.b d.m c Y hY hix.2
  have hrd:=fun Y=> zfz (d.m.get c) Y (Mem.ze4 hfit c).1 (Mem.ze4 hfit c).2
  have hk:d.stat c=if (za8 (zbx (d.m.get c)) (za2 (d.m.get c) 0)==d.m.get c)=true then zbx (d.m.get c) else 0:=rfl
  rw [hk]
  have hw:=hd' h.wds
  have hnl:¬ c < 0:=by omega
  generalize d.m.get c=v at *
  generalize zbx v=kv at *
  generalize za2 v 0=pv at *
  generalize (za8 kv pv==v)=bb at *
  have hhX:∀ Y,Below W.heap.size W Y->zaq Y x.p x.b d.m:=fun Y hY=> hw.out.below hY
  have hrd2:∀ Y,Calls Tryz.prog 75 #[.int .u64 v] Y fun e w'=> e= .returned (.tuple #[.int .i64 (if bb=true then kv else 0),.int .i64 (if bb=true then pv else 0)])/\Below Y.heap.size Y w':=fun Y=> (hrd Y).mono fun e w' ⟨a,b⟩=> ⟨by rw [b];cases bb <;> rfl,a⟩
  generalize (if bb=true then kv else 0)=k1 at *
  generalize (if bb=true then pv else 0)=k2 at *
  replace hhX:=hd' hhX
  replace hcp:=hd' hcp
  replace hlk:=hd' hlk
  replace hrd2:=hd' hrd2
  clear h hf hfit hst hix hk hrd
  go_enter Tryz.func31,Tryz.ntmps31
  go_upto_region 3 with (first | (go_at_call 67;(with_reducible refine (hcp.out _).mono ?_);rintro r w1 ⟨rfl,hb1⟩;have d0:=zai hb1 _ _ _ c0;have d1:=zai hb1 _ _ _ c1;have d2:=zai hb1 _ _ _ c2;have d3:=zai hb1 _ _ _ c3;have lg1:g < w1.heap.size:=(by have:=hb1.size;omega)) | fail)
  clear c0 c1 c2 c3
  refine zaj (by kernel_rfl) (by kernel_rfl) ?_
  repeat (go_big_quiet_step ((first | (go_at_call 67;exact zam (hcp.out _)) | (go_at_call 76;exact zdx (hlk.out _ (hhX.out _ (zab hb1 (Ext.below _))))) | (go_at_call 75;exact zam (hrd2.out _)) | fail)))
  refine wpQuiet_nil ?_
  rintro _ ⟨e',rfl⟩
  have hX:=zab hb1 e'.below
  generalize e'.w=X at *
  go_wp2_with fail
  go_returns
  exact ⟨rfl,hX⟩
 ·rw [if_neg hc]
  have hlt:zae s.p s.c s.m c < 0:=by omega
  generalize zae s.p s.c s.m c=sx at *
  replace hcp:=hd' hcp
  clear h hf hfit hc
  go_enter Tryz.func31,Tryz.ntmps31
  go_wp2_with (first | (go_at_call 67;(with_reducible refine (hcp.out _).mono ?_);rintro r w1 ⟨rfl,hb1⟩) | fail)
  go_returns
  exact ⟨rfl,hb1⟩
end

end

end Go.Proofs.YtampacmmhhilaaaGreat
