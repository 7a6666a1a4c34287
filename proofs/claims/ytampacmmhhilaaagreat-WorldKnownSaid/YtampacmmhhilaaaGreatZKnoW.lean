/- Chapter 22's example: the walk of the law. -/
import Derived.Test.YtampacmmhhilaaaGreatZIntW

import Derived.Test.YtampacmmhhilaaaGreatZWPlay

import Derived.Test.YtampacmmhhilaaaGreatZSchAl

import Derived.Test.YtampacmmhhilaaaGreatZWWho

set_option linter.all false
set_option maxHeartbeats 8000000
set_option maxRecDepth 100000
namespace Go.Proofs.YtampacmmhhilaaaGreat

open Go.RowKit

attribute [local go_sem ↓] Go.wp_at_zero Go.wp_at_succ

def sK:Sh:=⟨1,2,0⟩
def dk0:Wd:=zde sK
def dk1:Wd:=(dk0.act sK ⟨3,0,0,0,0,0⟩).1
theorem ek1:(dk0.act sK ⟨3,0,0,0,0,0⟩).2=2:=by decide +kernel
def dk2:Wd:=(dk1.act sK ⟨1,2,0,0,0,0⟩).1
theorem ek2:(dk1.act sK ⟨1,2,0,0,0,0⟩).2=1:=by decide +kernel
def dk3:Wd:=(dk2.act sK ⟨1,0,0,0,0,0⟩).1
theorem ek3:(dk2.act sK ⟨1,0,0,0,0,0⟩).2=0:=by decide +kernel
def dk4:Wd:=(dk3.act sK ⟨1,0,0,0,0,0⟩).1
theorem ek4:(dk3.act sK ⟨1,0,0,0,0,0⟩).2=5:=by decide +kernel
def dk5:Wd:=(dk4.act sK ⟨3,0,0,0,0,0⟩).1
theorem ek5:(dk4.act sK ⟨3,0,0,0,0,0⟩).2=2:=by decide +kernel
def dk6:Wd:=(dk5.act sK ⟨2,0,1,0,4,0⟩).1
theorem ek6:(dk5.act sK ⟨2,0,1,0,4,0⟩).2=0:=by decide +kernel
def dk7:Wd:=(dk6.play sK (turnsR [0] 3)).1
theorem ek7:(dk6.play sK (turnsR [0] 3)).2=3:=by decide +kernel
def dk8:Wd:=(dk7.act sK ⟨4,0,0,0,0,0⟩).1
theorem ek8:(dk7.act sK ⟨4,0,0,0,0,0⟩).2=0:=by decide +kernel
def dk9:Wd:=(dk8.act sK ⟨3,0,0,0,0,0⟩).1
theorem ek9:(dk8.act sK ⟨3,0,0,0,0,0⟩).2=2:=by decide +kernel
def dk10:Wd:=(dk9.act sK ⟨1,0,0,0,0,0⟩).1
theorem ek10:(dk9.act sK ⟨1,0,0,0,0,0⟩).2=5:=by decide +kernel
theorem rk:whoL (fun k=> !k.rests) dk6.l dk6.l.length= [0]:=by decide +kernel
theorem zk:whoL (fun _=> true) dk10.l dk10.l.length= []/\dk10.lg.length=3/\zrl sK dk10 0=2/\dk10.kl 0=none:=⟨by decide +kernel,by decide +kernel,by decide +kernel,by decide +kernel⟩
theorem lk:(turnsR [0] 3:List Ch).length=3:=by decide +kernel
theorem onlyCell {G:Nat->Prop} {w w':World} {b o:Nat} {v:Value} (h:Only G w w') (hb:¬ G b) (hc:w.cell? ⟨b,o,.none⟩=some v):w'.cell? ⟨b,o,.none⟩=some v:=(by simp only [World.cell?] at hc ⊢;rw [h.block b (by rcases Nat.lt_or_ge b w.heap.size with h' | h';exact h';simp [Array.getElem?_eq_none h'] at hc) hb];exact hc)
theorem rdz_one {k:IntKind} {w:World} {b o cap:Nat} {z:Int} (h1:1<=cap) (h2:(cap:Int)<=9223372036854775807) (h:w.cell? ⟨b,o,.none⟩=some (.int k z)):RdZ k w (.slice (some ⟨b,o,.none⟩) 1 cap) [z]:=by
 refine ⟨_,cap,rfl,h1,h2,rfl,fun _=> ⟨b,o,rfl,zqe h,fun i hi=> ?_⟩⟩
 have h0:i=0:=by simpa using hi
 subst h0
 exact h
theorem known22_any (W:World):Calls Tryz.prog 10 #[] W fun e w'=> e= .returned (.bool true)/\Below W.heap.size W w':=by
 have haw:=fun Y=> zn0 Y
 have o0:wdOk sK dk0 0:=zl9 (s:=sK) (by decide)
 have o1:wdOk sK dk1 1:=zeo o0 _
 have o2:wdOk sK dk2 2:=zeo o1 _
 have o3:wdOk sK dk3 3:=zeo o2 _
 have o4:wdOk sK dk4 4:=zeo o3 _
 have o5:wdOk sK dk5 5:=zeo o4 _
 have o6:wdOk sK dk6 6:=zeo o5 _
 have o7:wdOk sK dk7 9:=by
  have h:=zv6 o6 (turnsR [0] 3)
  rw [lk] at h
  unfold dk7
  rw [ztk]
  exact h
 have o8:wdOk sK dk8 10:=zeo o7 _
 have o9:wdOk sK dk9 11:=zeo o8 _
 have o10:wdOk sK dk10 12:=zeo o9 _
 have hno:∀ Y,Calls Tryz.prog 47 #[.agg #[.int .i64 0,.int .i64 0,.int .i64 0]] Y fun e w'=> Below Y.heap.size Y w'/\e= .returned (.tuple #[.pointer none,.int .i64 1]):=fun Y=> z8i ⟨0,0,0⟩ Y (by decide)
 have hye:∀ Y,Calls Tryz.prog 47 #[.agg #[.int .i64 1,.int .i64 2,.int .i64 0]] Y fun e w'=> Below Y.heap.size Y w'/\∃ g x,e= .returned (.tuple #[.pointer (some ⟨g,0,.none⟩),.int .i64 0])/\WdP Y.heap.size (fun i=> Y.heap.size<=i/\i < w'.heap.size) w' g sK dk0 x:=fun Y=> zzx sK Y (by decide)
 have hal:=fun Y=> alone_any 0 3 Y (by omega) (by omega)
 have hnil:∀ (p:Nat) (W:World),(binOp .eql 27 (.pointer (some ⟨p,0,.none⟩)) (.pointer none)).run Tryz.prog W= .ok (.bool false) W:=fun p W=> by kernel_rfl
 have hnk:∀ (W:World),(binOp .eql 36 (.pointer none) (.pointer none)).run Tryz.prog W= .ok (.bool true) W:=fun W=> by kernel_rfl
 have hd0:∀ (B:Nat) (F:Nat->Prop) X g x,WdP B F X g sK dk0 x->B<=X.heap.size->Calls Tryz.prog 25 #[.pointer (some ⟨g,0,.none⟩),.agg #[.int .i64 3,.int .i64 0,.int .i64 0,.int .i64 0,.int .i64 0,.float .f64 0]] X fun e w'=> e= .returned (.int .i64 2)/\WdTo B F X w' g sK dk1:=fun B F X g x hx hB=> by
  have h:=zkm hx hB o0 (by omega) ⟨3,0,0,0,0,0⟩
  rw [ek1] at h
  exact h
 have hd1:∀ (B:Nat) (F:Nat->Prop) X g x,WdP B F X g sK dk1 x->B<=X.heap.size->Calls Tryz.prog 25 #[.pointer (some ⟨g,0,.none⟩),.agg #[.int .i64 1,.int .i64 2,.int .i64 0,.int .i64 0,.int .i64 0,.float .f64 0]] X fun e w'=> e= .returned (.int .i64 1)/\WdTo B F X w' g sK dk2:=fun B F X g x hx hB=> by
  have h:=zkm hx hB o1 (by omega) ⟨1,2,0,0,0,0⟩
  rw [ek2] at h
  exact h
 have hd2:∀ (B:Nat) (F:Nat->Prop) X g x,WdP B F X g sK dk2 x->B<=X.heap.size->Calls Tryz.prog 25 #[.pointer (some ⟨g,0,.none⟩),.agg #[.int .i64 1,.int .i64 0,.int .i64 0,.int .i64 0,.int .i64 0,.float .f64 0]] X fun e w'=> e= .returned (.int .i64 0)/\WdTo B F X w' g sK dk3:=fun B F X g x hx hB=> by
  have h:=zkm hx hB o2 (by omega) ⟨1,0,0,0,0,0⟩
  rw [ek3] at h
  exact h
 have hd3:∀ (B:Nat) (F:Nat->Prop) X g x,WdP B F X g sK dk3 x->B<=X.heap.size->Calls Tryz.prog 25 #[.pointer (some ⟨g,0,.none⟩),.agg #[.int .i64 1,.int .i64 0,.int .i64 0,.int .i64 0,.int .i64 0,.float .f64 0]] X fun e w'=> e= .returned (.int .i64 5)/\WdTo B F X w' g sK dk4:=fun B F X g x hx hB=> by
  have h:=zkm hx hB o3 (by omega) ⟨1,0,0,0,0,0⟩
  rw [ek4] at h
  exact h
 have hd4:∀ (B:Nat) (F:Nat->Prop) X g x,WdP B F X g sK dk4 x->B<=X.heap.size->Calls Tryz.prog 25 #[.pointer (some ⟨g,0,.none⟩),.agg #[.int .i64 3,.int .i64 0,.int .i64 0,.int .i64 0,.int .i64 0,.float .f64 0]] X fun e w'=> e= .returned (.int .i64 2)/\WdTo B F X w' g sK dk5:=fun B F X g x hx hB=> by
  have h:=zkm hx hB o4 (by omega) ⟨3,0,0,0,0,0⟩
  rw [ek5] at h
  exact h
 have hd5:∀ (B:Nat) (F:Nat->Prop) X g x,WdP B F X g sK dk5 x->B<=X.heap.size->Calls Tryz.prog 25 #[.pointer (some ⟨g,0,.none⟩),.agg #[.int .i64 2,.int .i64 0,.int .i64 1,.int .i64 0,.int .i64 4,.float .f64 0]] X fun e w'=> e= .returned (.int .i64 0)/\WdTo B F X w' g sK dk6:=fun B F X g x hx hB=> by
  have h:=zkm hx hB o5 (by omega) ⟨2,0,1,0,4,0⟩
  rw [ek6] at h
  exact h
 have hd7:∀ (B:Nat) (F:Nat->Prop) X g x,WdP B F X g sK dk7 x->B<=X.heap.size->Calls Tryz.prog 25 #[.pointer (some ⟨g,0,.none⟩),.agg #[.int .i64 4,.int .i64 0,.int .i64 0,.int .i64 0,.int .i64 0,.float .f64 0]] X fun e w'=> e= .returned (.int .i64 0)/\WdTo B F X w' g sK dk8:=fun B F X g x hx hB=> by
  have h:=zkm hx hB o7 (by omega) ⟨4,0,0,0,0,0⟩
  rw [ek8] at h
  exact h
 have hd8:∀ (B:Nat) (F:Nat->Prop) X g x,WdP B F X g sK dk8 x->B<=X.heap.size->Calls Tryz.prog 25 #[.pointer (some ⟨g,0,.none⟩),.agg #[.int .i64 3,.int .i64 0,.int .i64 0,.int .i64 0,.int .i64 0,.float .f64 0]] X fun e w'=> e= .returned (.int .i64 2)/\WdTo B F X w' g sK dk9:=fun B F X g x hx hB=> by
  have h:=zkm hx hB o8 (by omega) ⟨3,0,0,0,0,0⟩
  rw [ek9] at h
  exact h
 have hd9:∀ (B:Nat) (F:Nat->Prop) X g x,WdP B F X g sK dk9 x->B<=X.heap.size->Calls Tryz.prog 25 #[.pointer (some ⟨g,0,.none⟩),.agg #[.int .i64 1,.int .i64 0,.int .i64 0,.int .i64 0,.int .i64 0,.float .f64 0]] X fun e w'=> e= .returned (.int .i64 5)/\WdTo B F X w' g sK dk10:=fun B F X g x hx hB=> by
  have h:=zkm hx hB o9 (by omega) ⟨1,0,0,0,0,0⟩
  rw [ek10] at h
  exact h
 have hrd:∀ (B:Nat) (F:Nat->Prop) X g x,WdP B F X g sK dk6 x->Calls Tryz.prog 20 #[.pointer (some ⟨g,0,.none⟩)] X fun e w'=> Below X.heap.size X w'/\∃ b off cap,e= .returned (.slice (some ⟨b,off,.none⟩) 1 cap)/\1<=cap/\(cap:Int)<=9223372036854775807/\X.heap.size<=b/\w'.cell? ⟨b,off,.none⟩=some (.int .i64 0):=fun B F X g x hx=> by
  refine (ycy hx (by rw [o6.len];decide)).mono fun e w' ⟨v,h1,h2,h3⟩=> ⟨h2,?_⟩
  rw [rk] at h3
  have hl:=h3.lt
  obtain ⟨ao,cap,rfl,hc,hm,_,hr⟩:=RdS.zew h3
  obtain ⟨b,off,rfl,hb,hcell⟩:=hr (by decide)
  exact ⟨b,off,cap,h1,hc,hm,(hl b rfl).1,hcell 0 (by decide)⟩
 have hpl:∀ (B:Nat) (F:Nat->Prop) X X' g x v,WdP B F X g sK dk6 x->B<=X.heap.size->Below X.heap.size X X'->OC X.heap.size X' v (turnsR [0] 3)->Calls Tryz.prog 18 #[.pointer (some ⟨g,0,.none⟩),v] X' fun e w'=> e= .returned (.int .i64 3)/\WdTo B F X' w' g sK dk7:=fun B F X X' g x v hx hB hb hv=> by
  have h:=yds (hx.below hb) (Nat.le_trans hB hb.size) o6 (turnsR [0] 3) (by rw [lk];omega) v (RdS.zew hv) (fun b off cap e hF=> by have h1:=(hv.lt b (by rw [e];rfl)).1;have:=(hx.lt b hF).2;omega)
  rw [ek7] at h
  exact h
 have hli:∀ (B:Nat) (F:Nat->Prop) X g x,WdP B F X g sK dk10 x->Calls Tryz.prog 43 #[.pointer (some ⟨g,0,.none⟩)] X fun e w'=> Below X.heap.size X w'/\∃ ao cap,e= .returned (.slice ao 0 cap):=fun B F X g x hx=> by
  refine (ydq hx (by rw [o10.len];decide)).mono fun e w' ⟨v,h1,h2,h3⟩=> ⟨h2,?_⟩
  rw [zk.1] at h3
  obtain ⟨ao,cap,rfl,_⟩:=RdS.zew h3
  exact ⟨ao,cap,h1⟩
 have hst:∀ (B:Nat) (F:Nat->Prop) X g x,WdP B F X g sK dk10 x->Calls Tryz.prog 30 #[.pointer (some ⟨g,0,.none⟩)] X fun e w'=> Below X.heap.size X w'/\∃ ao cap,e= .returned (.slice ao 3 cap):=fun B F X g x hx=> by
  refine (zw1 hx (by rw [zk.2.1];omega)).mono fun e w' ⟨v,h1,h2,h3⟩=> ⟨h2,?_⟩
  rw [zk.2.1] at h3
  obtain ⟨ao,cap,rfl,_⟩:=RdS.zew h3
  exact ⟨ao,cap,h1⟩
 have hsu:∀ (B:Nat) (F:Nat->Prop) X g x,WdP B F X g sK dk10 x->Calls Tryz.prog 31 #[.pointer (some ⟨g,0,.none⟩),.int .i64 0] X fun e w'=> e= .returned (.int .i64 2)/\Below X.heap.size X w':=fun B F X g x hx=> by
  have h:=zmv hx o10.fi o10.fit 0
  rw [zk.2.2.1] at h
  exact h
 have hcl:∀ (B:Nat) (F:Nat->Prop) X g x,WdP B F X g sK dk10 x->Calls Tryz.prog 21 #[.pointer (some ⟨g,0,.none⟩),.int .i64 0] X fun e w'=> e= .returned (.pointer none)/\Below X.heap.size X w':=fun B F X g x hx=> by
  have h:=zva hx 0 ⟨by omega,by rw [o10.len];decide⟩ (by rw [o10.len];decide)
  rw [zk.2.2.2] at h
  exact h
 replace haw:=hd' haw
 replace hno:=hd' hno
 replace hye:=hd' hye
 replace hal:=hd' hal
 replace hd0:=hd' hd0
 replace hd1:=hd' hd1
 replace hd2:=hd' hd2
 replace hd3:=hd' hd3
 replace hd4:=hd' hd4
 replace hd5:=hd' hd5
 replace hd7:=hd' hd7
 replace hd8:=hd' hd8
 replace hd9:=hd' hd9
 replace hrd:=hd' hrd
 replace hpl:=hd' hpl
 replace hli:=hd' hli
 replace hst:=hd' hst
 replace hsu:=hd' hsu
 replace hcl:=hd' hcl
 clear o0 o1 o2 o3 o4 o5 o6 o7 o8 o9 o10
 go_enter Tryz.func10,Tryz.ntmps10
 go_upto_region 13 with (first
  | (go_at_call 27;(with_reducible refine (haw.out _).mono ?_);rintro r w1 ⟨rfl,hb1⟩)
  | (go_at_call 47;(with_reducible refine (hno.out _).mono ?_);rintro r w2 ⟨hb2,rfl⟩)
  | (go_at_call 47;(with_reducible refine (hye.out _).mono ?_);rintro r w3 ⟨hb3,g,x0,rfl,hx0⟩;have hB0:=hb3.size)
  | (go_at_call 25;(with_reducible refine (hd0.out _ _ _ _ _ hx0 hB0).mono ?_);rintro r v1 ⟨rfl,⟨x1,hx1⟩,ho1,hB1⟩)
  | (go_at_call 25;(with_reducible refine (hd1.out _ _ _ _ _ hx1 hB1).mono ?_);rintro r v2 ⟨rfl,⟨x2,hx2⟩,ho2,hB2⟩)
  | (go_at_call 25;(with_reducible refine (hd2.out _ _ _ _ _ hx2 hB2).mono ?_);rintro r v3 ⟨rfl,⟨x3,hx3⟩,ho3,hB3⟩)
  | (go_at_call 25;(with_reducible refine (hd3.out _ _ _ _ _ hx3 hB3).mono ?_);rintro r v4 ⟨rfl,⟨x4,hx4⟩,ho4,hB4⟩)
  | (go_at_call 25;(with_reducible refine (hd4.out _ _ _ _ _ hx4 hB4).mono ?_);rintro r v5 ⟨rfl,⟨x5,hx5⟩,ho5,hB5⟩)
  | (go_at_call 25;(with_reducible refine (hd5.out _ _ _ _ _ hx5 hB5).mono ?_);rintro r v6 ⟨rfl,⟨x6,hx6⟩,ho6,hB6⟩)
  | fail)
 have hbs:Below W.heap.size W v6:=hb1.trans ((hb2.trans ((hb3.trans ((ho1.below hB0 (fun i hi=> (hx0.lt i hi).1)).trans ((ho2.below hB1 (fun i hi=> (hx1.lt i hi).1)).trans ((ho3.below hB2 (fun i hi=> (hx2.lt i hi).1)).trans ((ho4.below hB3 (fun i hi=> (hx3.lt i hi).1)).trans ((ho5.below hB4 (fun i hi=> (hx4.lt i hi).1)).trans (ho6.below hB5 (fun i hi=> (hx5.lt i hi).1)))))))).mono hb2.size)).mono hb1.size)
 have hsz:W.heap.size<=w2.heap.size:=Nat.le_trans hb1.size hb2.size
 clear hb1 hb2 hb3 hx0 hx1 hx2 hx3 hx4 hx5 ho1 ho2 ho3 ho4 ho5 ho6 hB0 hB1 hB2 hB3 hB4 hB5 hd0 hd1 hd2 hd3 hd4 hd5 hno hye haw
 go_upto_region 18 with (first
  | (go_at_call 20;(with_reducible refine (hrd.out _ _ _ _ _ hx6).mono ?_);rintro r wR ⟨hbR,bq,offr,capr,rfl,cr1,cr2,hlo,yR⟩;have hx6R:=hx6.below hbR;have hsR:=hbR.size;have nF6:=(fun e=> (by have:=(hx6.lt bq e).2;omega):¬ _))
  | (go_at_call 48;(with_reducible refine (hal.out _).mono ?_);rintro r wA ⟨vA,rfl,hbA,hoA⟩;have yA:=zai hbA _ _ _ yR;have hsA:=hbA.size)
  | (go_at_call 18;(with_reducible refine (hpl.out _ _ _ _ _ _ _ hx6R (by omega) hbA hoA).mono ?_);rintro r v7 ⟨rfl,⟨x7,hx7⟩,ho7,hB7⟩;have y7:=onlyCell ho7 nF6 yA;have nF7:=zif (W':=v7) nF6 (zqe yA))
  | (go_at_call 25;(with_reducible refine (hd7.out _ _ _ _ _ hx7 hB7).mono ?_);rintro r v8 ⟨rfl,⟨x8,hx8⟩,ho8,hB8⟩;have y8:=onlyCell ho8 nF7 y7;have nF8:=zif (W':=v8) nF7 (zqe y7))
  | (go_at_call 25;(with_reducible refine (hd8.out _ _ _ _ _ hx8 hB8).mono ?_);rintro r v9 ⟨rfl,⟨x9,hx9⟩,ho9,hB9⟩;have y9:=onlyCell ho9 nF8 y8;have nF9:=zif (W':=v9) nF8 (zqe y8))
  | (go_at_call 25;(with_reducible refine (hd9.out _ _ _ _ _ hx9 hB9).mono ?_);rintro r v10 ⟨rfl,⟨x10,hx10⟩,ho10,hB10⟩;have y10:=onlyCell ho10 nF9 y9;have nF10:=zif (W':=v10) nF9 (zqe y9))
  | fail)
 have s6:=hbs.size
 have hbs2:Below W.heap.size W v10:=(((((hbs.trans (hbR.mono s6)).trans (hbA.mono (Nat.le_trans s6 hsR))).trans (ho7.below (B:=W.heap.size) (by omega) (fun i hi=> Nat.le_trans hsz (hx6R.lt i hi).1))).trans (ho8.below (B:=W.heap.size) (by omega) (fun i hi=> Nat.le_trans hsz (hx7.lt i hi).1))).trans (ho9.below (B:=W.heap.size) (by omega) (fun i hi=> Nat.le_trans hsz (hx8.lt i hi).1))).trans (ho10.below (B:=W.heap.size) (by omega) (fun i hi=> Nat.le_trans hsz (hx9.lt i hi).1))
 have lZ:=Nat.lt_of_lt_of_le (zqe y10) lr
 have hZ:=(Below.refl v10.heap.size v10).alloc lr (.cells #[.int .i64 0] 3)
 have yZ:=zai hZ _ _ _ y10
 have hr1:RdZ .i64 (v10.alloc (.cells #[.int .i64 0] 3)) (.slice (some ⟨bq,offr,.none⟩) 1 capr) [0]:=rdz_one cr1 cr2 yZ
 have hr2:RdZ .i64 (v10.alloc (.cells #[.int .i64 0] 3)) (.slice (some ⟨v10.heap.size,0,.none⟩) 1 1) [0]:=RdS.new (cs:= #[.int .i64 0]) (t:=3) (sz:=1) (n:=1) (heap_alloc_new v10 _) rfl (by omega)
 have hin:=hd' (yc9 [0] _ _ _ hr1 hr2)
 have hxZ:=hx10.below hZ
 clear hr1 hr2 yZ hd7 hd8 hd9 hpl hal hrd
 go_wp2_with (first
  | (go_at_call 46;(with_reducible refine hin.out.mono ?_);rintro r z1 ⟨rfl,hz1⟩;have hX1:=hxZ.below hz1)
  | (go_at_call 31;(with_reducible refine (hsu.out _ _ _ _ _ hX1).mono ?_);rintro r z2 ⟨rfl,hz2⟩;have hX2:=hX1.below hz2)
  | (go_at_call 43;(with_reducible refine (hli.out _ _ _ _ _ hX2).mono ?_);rintro r z3 ⟨hz3,al,cl,rfl⟩;have hX3:=hX2.below hz3)
  | (go_at_call 30;(with_reducible refine (hst.out _ _ _ _ _ hX3).mono ?_);rintro r z4 ⟨hz4,as4,cs4,rfl⟩;have hX4:=hX3.below hz4)
  | (go_at_call 21;(with_reducible refine (hcl.out _ _ _ _ _ hX4).mono ?_);rintro r z5 ⟨rfl,hz5⟩)
  | fail)
 go_returns
 exact ⟨rfl,zab hbs2 (zab (zab (zab (zab (zab hZ hz1) hz2) hz3) hz4) hz5)⟩
end Go.Proofs.YtampacmmhhilaaaGreat
