/- Texts bound together: MchS PlnS PlnX QTail. -/
import Derived.StillTail

import Derived.Test.YthgekdlegbmehaaGreatBq5

set_option linter.all false
set_option maxHeartbeats 1000000
namespace Go.Proofs.YthgekdlegbmehaaGreat

section

structure rsIs (s:Sh) (cl:Int) (t:Rs):Prop where
 sk:∀ x,t.seeker=some x->skIs s cl t.k x/\zvw x
 rn:∀ x,t.runner=some x->rnIs s cl t.pages x
def zi3 (s:Sh) (t:Rs):Int:=match t.seeker,t.runner with
 | some x,_=> zcm s x
 | none,some x=> zct s x
 | none,none=> 0
theorem zf6 {s:Sh} {cl:Int} {t:Rs} (h:rsIs s cl t):0<=zi3 s t:=by
 obtain ⟨k,pg,sk,rn⟩:=t
 rcases sk with _ | x
 ·rcases rn with _ | y
  ·exact Int.le_refl _
  ·exact z2y (h.rn y rfl).ok
 ·exact z2i (h.sk x rfl).1.ok
theorem zvz {s:Sh} {cl:Int} {t:Rs} {m:Mem} (h:rsIs s cl t) (hd:t.done=false) (hf:Fits s m):Acts cl m (zb0 s t m).2/\rsIs s cl (zb0 s t m).1/\zi3 s (zb0 s t m).1 + 1<=zi3 s t:=by
 obtain ⟨k,pg,sk,rn⟩:=t
 rcases sk with _ | x
 ·rcases rn with _ | y
  ·cases hd
  ·have h1:=yat (h.rn y rfl) hd hf
   exact ⟨h1.1,⟨fun z hz=> (by cases hz),fun z hz=> (by injection hz with hz;subst hz;exact h1.2.1)⟩,h1.2.2⟩
 ·have h1:=ybz (h.sk x rfl).1 (h.sk x rfl).2 hd hf
  exact ⟨h1.1,⟨fun z hz=> (by injection hz with hz;subst hz;exact ⟨h1.2.1,h1.2.2.1⟩),h.rn⟩,h1.2.2.2⟩
theorem z0h {s:Sh} (c n f:Int) (hm:mayB s.p s.c s.m=true):rsIs s c (zdh s c n f)/\zi3 s (zdh s c n f)<=67 * s.p + s.m + 33:=by
 have hb:=zar.1 hm
 unfold zdh
 split
 ·have h1:=yek c (zcn n) f hm
  exact ⟨⟨fun x hx=> (by injection hx with hx;subst hx;exact ⟨h1.1,h1.2.1⟩),fun x hx=> (by cases hx)⟩,h1.2.2⟩
 ·split
  ·have h1:=yfb c (runV n) hm
   refine ⟨⟨fun x hx=> (by cases hx),fun x hx=> (by injection hx with hx;subst hx;exact h1.1)⟩,?_⟩
   have:zi3 s ⟨0,runV n,none,some (zf8 s c (runV n))⟩=zct s (zf8 s c (runV n)):=rfl
   omega
  ·exact ⟨⟨fun x hx=> (by cases hx),fun x hx=> (by cases hx)⟩,by show (0:Int)<=_;omega⟩
theorem zlb {s:Sh} {cl:Int} {t:Rs} {b:Blk} (h:rsIs s cl t) (hm:mayB s.p s.c s.m=true) (hc:0<=cl/\cl < s.c) (hg:t.got=some b):b.fits s cl=true/\t.done=true:=by
 obtain ⟨k,pg,sk,rn⟩:=t
 rcases sk with _ | x
 ·rcases rn with _ | y
  ·cases hg
  ·have h1:=h.rn y rfl
   unfold Rs.got at hg
   dsimp only at hg
   split at hg
   ·rename_i hf
    injection hg with hg
    subst hg
    have h2:=h1.ok.fd hf
    have h3:=h1.n
    dsimp only at h3
    refine ⟨zdi.2 ⟨hm,hc,by dsimp only;omega,fun _=> by dsimp only;omega,fun e=> (by cases e)⟩,h2.1⟩
   ·cases hg
 ·have h1:=(h.sk x rfl).1
  unfold Rs.got at hg
  dsimp only at hg
  split at hg
  ·rename_i hf
   injection hg with hg
   subst hg
   have h2:=h1.ok.fd hf
   have h3:=h1.k
   dsimp only at h3
   refine ⟨zdi.2 ⟨hm,hc,by dsimp only;omega,fun e=> (by cases e),fun _=> by dsimp only;rw [<- h3];omega⟩,h2.1⟩
  ·cases hg
theorem z3w {s:Sh} {t:Cm} {m:Mem} (h:t.b.fits s t.c=true) (hd:t.done=false) (hf:Fits s m):Acts t.c m (zb3 s t m).2/\(zb3 s t m).1= { t with done:=true }:=by
 have h1:=zdi.1 h
 unfold zb3
 rw [if_neg (by rw [hd];decide)]
 refine ⟨?_,rfl⟩
 dsimp only
 cases hl:t.b.large
 ·rw [if_neg (by decide)]
  have h2:=h1.2.2.2.2 hl
  have h3:=zb4 (by omega:0 < zah t.b.k)
  exact .store (hf.zj0 h1.2.2.1 (by omega)) (zx7 _)
 ·rw [if_pos rfl]
  exact .store (hf.zhu h1.2.2.1) (zc0 _ _ _)
def ze0 (t:Un):Int:=if t.done=true then 0 else if t.b.large=true then t.b.pages - t.i else 1
theorem z8p {s:Sh} {t:Un} (h:unOk s t) (hd:t.done=false):1<=ze0 t:=by
 have h1:=(h.cl hd).2
 unfold ze0
 rw [if_neg (by rw [hd];decide)]
 split
 ·rename_i hl;have:=h1 hl;omega
 ·omega
theorem ybv {s:Sh} {t:Un} {m:Mem} (h:unOk s t) (hd:t.done=false) (hf:Fits s m):Acts t.c m (zcf s t m).2/\(zcf s t m).1.c=t.c/\(zcf s t m).1.b=t.b/\ze0 (zcf s t m).1 + 1<=ze0 t:=by
 obtain ⟨hfi,hi⟩:=h.cl hd
 have h1:=zdi.1 hfi
 have hL:ze0 t=if t.b.large=true then t.b.pages - t.i else 1:=by unfold ze0;rw [if_neg (by rw [hd];decide)]
 rw [hL]
 unfold zcf
 rw [if_neg (by rw [hd];decide)]
 cases hl:t.b.large
 ·rw [if_pos rfl,if_neg (by decide)]
  have h2:=h1.2.2.2.2 hl
  have h3:=zb4 (by omega:0 < zah t.b.k)
  refine ⟨.store (hf.zj0 h1.2.2.1 (by omega)) (zkf _),rfl,rfl,?_⟩
  unfold ze0;rw [if_pos rfl];omega
 ·rw [if_neg (by decide),if_pos rfl]
  have h2:=h1.2.2.2.1 hl
  have hi:=hi hl
  split
  ·refine ⟨.store (hf.zhu h1.2.2.1) zms,rfl,rfl,?_⟩
   unfold ze0;rw [if_pos rfl];omega
  ·refine ⟨.store (hf.zhu (by omega)) zms,rfl,rfl,?_⟩
   unfold ze0
   dsimp only
   rw [if_neg (by rw [hd];decide),if_pos hl]
   omega
theorem ydl {s:Sh} (c:Int) (b:Blk) (h:b.fits s c=true):ze0 (zf1 s c b)<=8/\(zf1 s c b).done=false:=by
 have h1:=zdi.1 h
 have hd:(zf1 s c b).done=false:=by simp [zf1,h]
 refine ⟨?_,hd⟩
 unfold ze0
 rw [if_neg (by rw [hd];decide)]
 split
 ·rename_i hl
  have h2:=h1.2.2.2.1 hl
  simp only [zf1];omega
 ·omega
structure feIs (s:Sh) (cl:Int) (t:Fe):Prop where
 ok:feOk s t
 c:t.c=cl
 put:∀ x,t.put=some x->x.c=cl
 gv:t.next<=1->t.gave=false
 gv2:2<=t.next->t.done=false->t.gave=true
def zcw (s:Sh) (t:Fe):Int:=if t.done=true then 0 else if t.next=0 then s.m + 12 else if t.next=1 then s.m + 11
 else if t.next=2 then (match t.put with | some x=> zh2 s x | none=> 0) + 1 else if t.next=3 then 1 else t.pa - t.i
theorem z9j {s:Sh} {t:Fe} (h:feOk s t) (hm:0<=s.m) (hd:t.done=false):1<=zcw s t:=by
 obtain ⟨c1,c2,c3,c4,c5,c6,c7,c8,c9,c10⟩:=h.cl hd
 unfold zcw
 rw [if_neg (by rw [hd];decide)]
 split
 ·omega
 ·split
  ·omega
  ·split
   ·rename_i n2
    obtain ⟨_,x,hx,hxo,hxd⟩:=c8 n2
    have:=ztc hxo
    rw [hx];dsimp only;omega
   ·split
    ·omega
    ·have:=c10 (by omega);omega
theorem zsa {s:Sh} {t:Fe} (h:feOk s t) (hm:0<=s.m):0<=zcw s t:=by
 rcases Bool.eq_false_or_eq_true t.done with hd | hd
 ·unfold zcw;rw [if_pos hd];omega
 ·have:=z9j h hm hd;omega
theorem z9h {s:Sh} (c a:Int) (hm:mayB s.p s.c s.m=true):feIs s c (zc2 s c a)/\zcw s (zc2 s c a)<=s.m + 12:=by
 have hb:=zar.1 hm
 refine ⟨⟨zwa _ _ _,rfl,fun x hx=> (by cases hx),fun _=> rfl,fun e=> (by simp [zc2] at e)⟩,?_⟩
 unfold zcw
 split
 ·omega
 ·rw [if_pos (show (zc2 s c a).next=0 from rfl)];omega
theorem z1e {s:Sh} {cl:Int} {t:Fe} {m:Mem} (h:feIs s cl t) (hd:t.done=false) (hf:Fits s m) (hfit:m.fit):Acts cl m (zca s t m).2/\feIs s cl (zca s t m).1/\zcw s (zca s t m).1 + 1<=zcw s t/\(t.gave=true->(zca s t m).1.gave=true):=by
 obtain ⟨c1,c2,c3,c4,c5,c6,c7,c8,c9,c10⟩:=h.ok.cl hd
 have hb:=hf.bd
 have hnd:¬ t.done=true:=by rw [hd];decide
 have ho:=z1a m hfit h.ok
 have hL:zcw s t=if t.next=0 then s.m + 12 else if t.next=1 then s.m + 11
  else if t.next=2 then (match t.put with | some x=> zh2 s x | none=> 0) + 1 else if t.next=3 then 1 else t.pa - t.i:=by unfold zcw;rw [if_neg hnd]
 have hdn:∀ u:Fe,u.done=true->zcw s u=0:=fun u e=> by unfold zcw;rw [if_pos e]
 have hm1:=hf.zhu c2
 rw [hL]
 unfold zca at ho ⊢
 rw [if_neg hnd] at ho ⊢
 by_cases n0:t.next=0
 ·have hgv:=h.gv (by omega)
  rw [if_pos n0] at ho ⊢
  rw [if_pos n0]
  unfold Fe.look at ho ⊢
  dsimp only at ho ⊢
  refine ⟨(Acts.load hm1).of h.c,?_⟩
  split at ho <;> rename_i h1
  ·rw [if_pos h1]
   refine ⟨⟨ho,h.c,h.put,fun _=> hgv,fun e=> (by dsimp only at e;omega)⟩,?_,fun e=> (by rw [hgv] at e;cases e)⟩
   unfold zcw
   dsimp only
   rw [if_neg hnd,if_neg (by decide),if_pos rfl]
   omega
  ·rw [if_neg h1]
   split at ho <;> rename_i h2
   ·rw [if_pos h2]
    refine ⟨⟨ho,h.c,h.put,fun _=> hgv,fun e=> (by dsimp only at e;omega)⟩,?_,fun e=> (by rw [hgv] at e;cases e)⟩
    unfold zcw
    dsimp only
    rw [if_neg hnd,if_neg (by decide),if_pos rfl]
    omega
   ·rw [if_neg h2]
    refine ⟨⟨ho,h.c,h.put,fun _=> hgv,fun e=> (by dsimp only at e;omega)⟩,?_,fun e=> (by rw [hgv] at e;cases e)⟩
    rw [hdn _ rfl]
    omega
 rw [if_neg n0] at ho ⊢
 rw [if_neg n0]
 by_cases n1:t.next=1
 ·have hgv:=h.gv (by omega)
  have c5:=c5 (by omega)
  have c6:=c6 (by omega)
  rw [if_pos n1] at ho ⊢
  rw [if_pos n1]
  unfold Fe.claim at ho ⊢
  dsimp only at ho ⊢
  by_cases hk:t.pk=3
  ·have c6:1<=t.pa/\t.pa<=8/\t.pa<=s.p - t.page:=by rcases c6 with h | h <;> omega
   rw [if_pos hk] at ho ⊢
   dsimp only at ho ⊢
   refine ⟨(Acts.swap hm1 (zj1 _)).of h.c,⟨ho,h.c,h.put,fun e=> (by dsimp only at e;omega),fun _ e=> (by dsimp only at e ⊢;simpa using e)⟩,?_,fun e=> (by rw [hgv] at e;cases e)⟩
   unfold zcw
   dsimp only
   split
   ·omega
   ·rw [if_neg (by decide),if_neg (by decide),if_neg (by decide),if_neg (by decide)]
    omega
  ·have c6:t.pk=2/\0 < zah t.pa/\(0<=t.slot/\t.slot < zah t.pa):=by rcases c6 with h | h;exact absurd h.1 hk;exact h
   have hsl:=zb4 c6.2.1
   have hm2:=hf.zj0 (x:=t.page) (i:=t.slot) c2 (by omega)
   rw [if_neg hk] at ho ⊢
   dsimp only at ho ⊢
   refine ⟨(Acts.swap hm2 (zmd _)).of h.c,?_⟩
   generalize hg:decide (m.get (zbk s.p s.c s.m t.page t.slot)=zfl t.pa)=g at ho ⊢
   by_cases hpb:t.pb=t.c
   ·rw [if_pos hpb] at ho ⊢
    have hpn:=yfa s t.c t.page t.slot t.pa (by omega)
    rcases zcv ({ t with gave:=g,next:=2,put:=some (zg5 s t.c t.page t.slot t.pa) }:Fe) _ rfl with ⟨h1,_⟩ | ⟨h1,h2,h3⟩ | ⟨h1,h2,h3⟩
    ·simp [zg5] at h1
    ·rw [h3] at ho ⊢
     dsimp only at ho ⊢
     refine ⟨⟨ho,h.c,fun x hx=> ?_,fun e=> (by dsimp only at e;omega),fun _ e=> (by dsimp only at e ⊢;simpa using e)⟩,?_,fun e=> (by rw [hgv] at e;cases e)⟩
     ·have hx:some (zg5 s t.c t.page t.slot t.pa)=some x:=hx
      injection hx with hx;subst hx;exact hpn.2.trans h.c
     ·unfold zcw
      dsimp only
      split
      ·omega
      ·rw [if_neg (by decide),if_neg (by decide),if_neg (by decide),if_pos rfl]
       omega
    ·rw [h3] at ho ⊢
     dsimp only at ho ⊢
     refine ⟨⟨ho,h.c,fun x hx=> ?_,fun e=> (by dsimp only at e;omega),fun _ e=> (by dsimp only at e ⊢;simpa using e)⟩,?_,fun e=> (by rw [hgv] at e;cases e)⟩
     ·have hx:some (zg5 s t.c t.page t.slot t.pa)=some x:=hx
      injection hx with hx;subst hx;exact hpn.2.trans h.c
     ·unfold zcw
      dsimp only
      split
      ·omega
      ·rw [if_neg (by decide),if_neg (by decide),if_pos rfl]
       omega
   ·rw [if_neg hpb] at ho ⊢
    dsimp only at ho ⊢
    refine ⟨⟨ho,h.c,h.put,fun e=> (by dsimp only at e;omega),fun _ e=> (by dsimp only at e ⊢;simpa using e)⟩,?_,fun e=> (by rw [hgv] at e;cases e)⟩
    unfold zcw
    dsimp only
    split
    ·omega
    ·rw [if_neg (by decide),if_neg (by decide),if_neg (by decide),if_pos rfl]
     omega
 rw [if_neg n1] at ho ⊢
 rw [if_neg n1]
 have hgt:=h.gv2 (by omega) hd
 have c6:=c6 (by omega)
 by_cases n2:t.next=2
 ·obtain ⟨hk,x,hx,hxo,hxd⟩:=c8 n2
  have hst:=ybu hxo hxd hf
  have hxc:=h.put x hx
  have hnn:=ztc (zq5 m hxo)
  rw [if_pos n2,hx] at ho ⊢
  rw [if_pos n2]
  dsimp only at ho ⊢
  refine ⟨hst.1.of hxc,?_⟩
  have hput:∀ y,some (zd3 s x m).1=some y->y.c=cl:=fun y hy=> by injection hy with hy;subst hy;exact hst.2.1.trans hxc
  rcases zcv ({ t with put:=some (zd3 s x m).1 }:Fe) _ rfl with ⟨h1,h3⟩ | ⟨h1,h2,h3⟩ | ⟨h1,h2,h3⟩
  ·rw [h3] at ho ⊢
   exact ⟨⟨ho,h.c,hput,fun e=> (by dsimp only at e;omega),fun _ _=> hgt⟩,by rw [hdn _ rfl];omega,fun _=> hgt⟩
  ·rw [h3] at ho ⊢
   refine ⟨⟨ho,h.c,hput,fun e=> (by dsimp only at e;omega),fun _ _=> hgt⟩,?_,fun _=> hgt⟩
   unfold zcw
   dsimp only
   rw [if_neg hnd,if_neg (by decide),if_neg (by decide),if_neg (by decide),if_pos rfl]
   omega
  ·rw [h3] at ho ⊢
   refine ⟨⟨ho,h.c,hput,fun e=> (by dsimp only at e;omega),fun _ _=> hgt⟩,?_,fun _=> hgt⟩
   unfold zcw
   dsimp only
   rw [if_neg hnd,if_neg n0,if_neg n1,if_pos n2]
   omega
 rw [if_neg n2] at ho ⊢
 rw [if_neg n2]
 by_cases n3:t.next=3
 ·have c6:t.pk=2/\0 < zah t.pa/\(0<=t.slot/\t.slot < zah t.pa):=by
   have:=c9 n3
   rcases c6 with h | h
   ·omega
   ·exact h
  have hsl:=zb4 c6.2.1
  have hm2:=hf.zj0 (x:=t.page) (i:=t.slot) c2 (by omega)
  rw [if_pos n3] at ho ⊢
  rw [if_pos n3]
  exact ⟨(Acts.store hm2 (zkf _)).of h.c,⟨ho,h.c,h.put,fun e=> (by dsimp only at e;omega),fun _ _=> hgt⟩,by rw [hdn _ rfl];omega,fun _=> hgt⟩
 rw [if_neg n3] at ho ⊢
 rw [if_neg n3]
 have n4:t.next=4:=by omega
 have c10:=c10 n4
 have c6:1<=t.pa/\t.pa<=8/\t.pa<=s.p - t.page:=by rcases c6 with h | h <;> omega
 split at ho <;> rename_i h1
 ·rw [if_pos h1]
  exact ⟨(Acts.store hm1 zms).of h.c,⟨ho,h.c,h.put,fun e=> (by dsimp only at e;omega),fun _ _=> hgt⟩,by rw [hdn _ rfl];omega,fun _=> hgt⟩
 ·rw [if_neg h1]
  refine ⟨(Acts.store (hf.zhu (by omega)) zms).of h.c,⟨ho,h.c,h.put,fun e=> (by dsimp only at e;omega),fun _ _=> hgt⟩,?_,fun _=> hgt⟩
  unfold zcw
  dsimp only
  rw [if_neg hnd,if_neg n0,if_neg n1,if_neg n2,if_neg n3]
  omega
end

section

open Go.RowKit

attribute [local go_sem ↓] Go.wp_at_zero Go.wp_at_succ

theorem zgq (k:Int) (w:World):
  Calls Tryz.prog 50 #[.int .i64 k] w fun e w'=> e= .returned (.int .i64 (zbj k))/\w'=w:=by
 by_cases h:0<=k/\k<=3
 ·have h1:wi k 0 3=true:=zbc.2 h
  have:k=0\/k=1\/k=2\/k=3:=by omega
  rcases this with rfl | rfl | rfl | rfl <;>
  ·go_enter Tryz.func50,Tryz.ntmps50
   go_wp2_with (go_at_call 31;refine (za9 _ _ _ _).mono ?_;rintro e w' ⟨rfl,rfl⟩)
   go_ret
   exact ⟨rfl,rfl⟩
 ·have h1:wi k 0 3=false:=zgo.2 h
  go_enter Tryz.func50,Tryz.ntmps50
  go_wp2_with (go_at_call 31;refine (za9 _ _ _ _).mono ?_;rintro e w' ⟨rfl,rfl⟩)
  go_ret
  exact ⟨zf5 (by rw [zbj,if_neg (by omega),if_neg (by omega),if_neg (by omega),if_neg (by omega)]),rfl⟩
theorem zmu (n:Int) (w:World):
  Calls Tryz.prog 49 #[.int .i64 n] w fun e w'=> e= .returned (.tuple #[.int .i64 (zcn n),.bool (wi n 1 32)])/\w'=w:=by
 by_cases h:1<=n/\n<=32
 ·have h1:wi n 1 32=true:=zbc.2 h
  have hbd:=zwh n
  have hnx:=fun k h0=> zxo (k:=k) h h0
  obtain ⟨c,hc⟩:∃ c:Nat,zcn n=c:=⟨(zcn n).toNat,by omega⟩
  rw [h1,hc]
  rw [hc] at hbd
  simp only [hc] at hnx
  clear hc
  go_enter Tryz.func49,Tryz.ntmps49
  go_wp2_with (go_at_call 31;refine (za9 _ _ _ _).mono ?_;rintro e w' ⟨rfl,hw⟩;obtain rfl:=hw.symm)
  go_loopw [4] (fun vi wr=> ∃ k:Nat,k<=c/\vi= .int .i64 k/\wr=w) (fun vi _=> c - (intOf vi).toNat)
  case atStart=> exact ⟨0,Nat.zero_le _,rfl,by first | rfl | trivial⟩
  case round=>
   obtain ⟨k,hk,rfl,hwr⟩:=hrel
   obtain rfl:=hwr.symm
   have hx:=hnx k (by omega) (by omega)
   clear hnx
   by_cases hlt:k < c
   ·have hs:zbj k < n:=hx.2 (by omega)
    clear hx
    go_wp2_with (go_at_call 50;refine (zgq _ _).mono ?_;rintro e w' ⟨rfl,hw⟩;obtain rfl:=hw.symm)
    exact ⟨⟨k + 1,by omega,by go_num,by first | rfl | trivial⟩,by simp [intOf];omega⟩
   ·have hs:¬ zbj k < n:=fun h=> by have:=hx.1 h;omega
    have hkc:k=c:=by omega
    subst hkc
    clear hx
    go_wp2_with (go_at_call 50;refine (zgq _ _).mono ?_;rintro e w' ⟨rfl,hw⟩;obtain rfl:=hw.symm)
    go_ret2
    exact ⟨rfl,rfl⟩
 ·have h1:wi n 1 32=false:=zgo.2 h
  have h2:zcn n=0:=by unfold zcn;rw [if_neg (by rw [h1];simp)]
  rw [h1,h2]
  go_enter Tryz.func49,Tryz.ntmps49
  go_wp2_with (go_at_call 31;refine (za9 _ _ _ _).mono ?_;rintro e w' ⟨rfl,rfl⟩)
  go_ret2
  exact ⟨rfl,rfl⟩
theorem zur (n:Int) (w:World):
  Calls Tryz.prog 36 #[.int .i64 n] w fun e w'=> e= .returned (.tuple #[.int .i64 (runV n),.bool (wi n 33 512)])/\w'=w:=by
 by_cases h:33<=n/\n<=512
 ·have h1:wi n 33 512=true:=zbc.2 h
  have h2:runV n=(n - 1) / 64 + 1:=by unfold runV;rw [if_pos h1]
  have h3:=wrp (n - 1)
  have h4:=wrp ((n - 1) / 64 + 1)
  rw [h1,h2]
  clear h2
  go_enter Tryz.func36,Tryz.ntmps36
  go_wp2_with (go_at_call 31;refine (za9 _ _ _ _).mono ?_;rintro e w' ⟨rfl,rfl⟩)
  go_ret2
  exact ⟨rfl,rfl⟩
 ·have h1:wi n 33 512=false:=zgo.2 h
  have h2:runV n=0:=by unfold runV;rw [if_neg (by rw [h1];simp)]
  rw [h1,h2]
  go_enter Tryz.func36,Tryz.ntmps36
  go_wp2_with (go_at_call 31;refine (za9 _ _ _ _).mono ?_;rintro e w' ⟨rfl,rfl⟩)
  go_ret2
  exact ⟨rfl,rfl⟩
theorem zo1 (n:Int) (w:World):
  Calls Tryz.prog 34 #[.int .i64 n] w fun e w'=> e= .returned (.tuple #[.int .i64 (lenV n),.bool (lenB n)])/\w'=w:=by
 by_cases h:1<=n/\n<=32
 ·have h1:wi n 1 32=true:=zbc.2 h
  have h2:lenV n=zbj (zcn n):=by unfold lenV;rw [if_pos h1]
  have h3:lenB n=true:=zbc.2 (by omega)
  rw [h2,h3]
  clear h2
  go_enter Tryz.func34,Tryz.ntmps34
  go_wp2_with (first
   | (go_at_call 49;refine (zmu _ _).mono ?_;rintro e w' ⟨rfl,rfl⟩)
   | (go_at_call 50;refine (zgq _ _).mono ?_;rintro e w' ⟨rfl,rfl⟩))
  go_ret2
  exact ⟨rfl,rfl⟩
 ·have h1:wi n 1 32=false:=zgo.2 h
  have h2:lenV n=runV n * 64:=by unfold lenV;rw [if_neg (by rw [h1];simp)]
  have h3:lenB n=wi n 33 512:=by rw [Bool.eq_iff_iff];unfold lenB;rw [zbc,zbc];omega
  have hb:=yc6 n
  have h4:=wrp (runV n * 64)
  rw [h2,h3]
  clear h2 h3
  go_enter Tryz.func34,Tryz.ntmps34
  go_wp2_with (first
   | (go_at_call 49;refine (zmu _ _).mono ?_;rintro e w' ⟨rfl,rfl⟩)
   | (go_at_call 36;refine (zur _ _).mono ?_;rintro e w' ⟨rfl,rfl⟩))
  go_ret2
  exact ⟨rfl,rfl⟩
end

section

open Go.RowKit

theorem zau (p c m x:Int) (w:World):
  Calls Tryz.prog 14 #[.agg #[.int .i64 p,.int .i64 c,.int .i64 m],.int .i64 x] w fun e w'=> e= .returned (.int .i64 (zae p c m x))/\Below w.heap.size w w':=by
 by_cases h1:mayB p c m=true
 case neg=>
  have h1':mayB p c m=false:=by simpa using h1
  have hv:zae p c m x= -1:=by unfold zae;rw [if_neg (fun h=> h1 h.1)]
  rw [hv]
  clear h1 hv
  go_enter Tryz.func14,Tryz.ntmps14
  go_wp2_with (first
    | (go_at_call 30;refine (zcc _ _ _ _).mono ?_;rintro e w1 ⟨rfl,rfl⟩)
    | (go_at_call 31;refine (za9 _ _ _ _).mono ?_;rintro e w' ⟨rfl,rfl⟩))
  go_ret
  exact ⟨rfl,by go_grown⟩
 case pos=>
  have hb:=zar.1 h1
  have wc:wrap64 (c - 1)=c - 1:=IntWalk.wrap64_in _ ⟨by omega,by omega⟩
  by_cases q0:wi x 0 (c - 1)=true
  case neg=>
   have q':wi x 0 (c - 1)=false:=by simpa using q0
   have hv:zae p c m x= -1:=by unfold zae;rw [if_neg (fun h=> q0 h.2)]
   rw [hv]
   clear q0 hv
   go_enter Tryz.func14,Tryz.ntmps14
   go_wp2_with (first
    | (go_at_call 30;refine (zcc _ _ _ _).mono ?_;rintro e w1 ⟨rfl,rfl⟩)
    | (go_at_call 31;refine (za9 _ _ _ _).mono ?_;rintro e w' ⟨rfl,rfl⟩))
   go_ret
   exact ⟨rfl,by go_grown⟩
  have b0:=zbc.1 q0
  have hv:zae p c m x=x:=by unfold zae;rw [if_pos ⟨h1,q0⟩]
  rw [hv]
  clear hv
  go_enter Tryz.func14,Tryz.ntmps14
  go_wp2_with (first
    | (go_at_call 30;refine (zcc _ _ _ _).mono ?_;rintro e w1 ⟨rfl,rfl⟩)
    | (go_at_call 31;refine (za9 _ _ _ _).mono ?_;rintro e w' ⟨rfl,rfl⟩))
  go_ret
  exact ⟨rfl,by go_grown⟩
theorem zbm (p c m a i:Int) (w:World):
  Calls Tryz.prog 120 #[.agg #[.int .i64 p,.int .i64 c,.int .i64 m],.int .i64 a,.int .i64 i] w fun e w'=> e= .returned (.int .i64 (zbk p c m a i))/\Below w.heap.size w w':=by
 by_cases h1:mayB p c m=true
 case neg=>
  have h1':mayB p c m=false:=by simpa using h1
  have hv:zbk p c m a i= -1:=by unfold zbk;rw [if_neg (fun h=> h1 h.1)]
  rw [hv]
  clear h1 hv
  go_enter Tryz.func120,Tryz.ntmps120
  go_wp2_with (first
    | (go_at_call 30;refine (zcc _ _ _ _).mono ?_;rintro e w1 ⟨rfl,rfl⟩)
    | (go_at_call 31;refine (za9 _ _ _ _).mono ?_;rintro e w' ⟨rfl,rfl⟩))
  go_ret
  exact ⟨rfl,by go_grown⟩
 case pos=>
  have hb:=zar.1 h1
  have wc:wrap64 (p - 1)=p - 1:=IntWalk.wrap64_in _ ⟨by omega,by omega⟩
  by_cases q0:wi a 0 (p - 1)=true
  case neg=>
   have q':wi a 0 (p - 1)=false:=by simpa using q0
   have hv:zbk p c m a i= -1:=by unfold zbk;rw [if_neg (fun h=> q0 h.2.1)]
   rw [hv]
   clear q0 hv
   go_enter Tryz.func120,Tryz.ntmps120
   go_wp2_with (first
    | (go_at_call 30;refine (zcc _ _ _ _).mono ?_;rintro e w1 ⟨rfl,rfl⟩)
    | (go_at_call 31;refine (za9 _ _ _ _).mono ?_;rintro e w' ⟨rfl,rfl⟩))
   go_ret
   exact ⟨rfl,by go_grown⟩
  have b0:=zbc.1 q0
  by_cases q1:wi i 0 15=true
  case neg=>
   have q':wi i 0 15=false:=by simpa using q1
   have hv:zbk p c m a i= -1:=by unfold zbk;rw [if_neg (fun h=> q1 h.2.2)]
   rw [hv]
   clear q1 hv
   go_enter Tryz.func120,Tryz.ntmps120
   go_wp2_with (first
    | (go_at_call 30;refine (zcc _ _ _ _).mono ?_;rintro e w1 ⟨rfl,rfl⟩)
    | (go_at_call 31;refine (za9 _ _ _ _).mono ?_;rintro e w' ⟨rfl,rfl⟩))
   go_ret
   exact ⟨rfl,by go_grown⟩
  have b1:=zbc.1 q1
  have hv:zbk p c m a i=c + p + a * 16 + i:=by unfold zbk;rw [if_pos ⟨h1,q0,q1⟩]
  rw [hv]
  clear hv
  have w1:=wrp (c + p)
  have w2:=wrp (a * 16)
  have w3:=wrp (c + p + a * 16)
  have w4:=wrp (c + p + a * 16 + i)
  go_enter Tryz.func120,Tryz.ntmps120
  go_wp2_with (first
    | (go_at_call 30;refine (zcc _ _ _ _).mono ?_;rintro e w1 ⟨rfl,rfl⟩)
    | (go_at_call 31;refine (za9 _ _ _ _).mono ?_;rintro e w' ⟨rfl,rfl⟩))
  go_ret
  exact ⟨rfl,by go_grown⟩
theorem zjh (p c m x i:Int) (w:World):
  Calls Tryz.prog 149 #[.agg #[.int .i64 p,.int .i64 c,.int .i64 m],.int .i64 x,.int .i64 i] w fun e w'=> e= .returned (.int .i64 (ze9 p c m x i))/\Below w.heap.size w w':=by
 by_cases h1:mayB p c m=true
 case neg=>
  have h1':mayB p c m=false:=by simpa using h1
  have hv:ze9 p c m x i= -1:=by unfold ze9;rw [if_neg (fun h=> h1 h.1)]
  rw [hv]
  clear h1 hv
  go_enter Tryz.func149,Tryz.ntmps149
  go_wp2_with (first
    | (go_at_call 30;refine (zcc _ _ _ _).mono ?_;rintro e w1 ⟨rfl,rfl⟩)
    | (go_at_call 31;refine (za9 _ _ _ _).mono ?_;rintro e w' ⟨rfl,rfl⟩))
  go_ret
  exact ⟨rfl,by go_grown⟩
 case pos=>
  have hb:=zar.1 h1
  have wc:wrap64 (c - 1)=c - 1:=IntWalk.wrap64_in _ ⟨by omega,by omega⟩
  have wd:wrap64 (m - 1)=m - 1:=IntWalk.wrap64_in _ ⟨by omega,by omega⟩
  by_cases q0:wi x 0 (c - 1)=true
  case neg=>
   have q':wi x 0 (c - 1)=false:=by simpa using q0
   have hv:ze9 p c m x i= -1:=by unfold ze9;rw [if_neg (fun h=> q0 h.2.1)]
   rw [hv]
   clear q0 hv
   go_enter Tryz.func149,Tryz.ntmps149
   go_wp2_with (first
    | (go_at_call 30;refine (zcc _ _ _ _).mono ?_;rintro e w1 ⟨rfl,rfl⟩)
    | (go_at_call 31;refine (za9 _ _ _ _).mono ?_;rintro e w' ⟨rfl,rfl⟩))
   go_ret
   exact ⟨rfl,by go_grown⟩
  have b0:=zbc.1 q0
  by_cases q1:wi i 0 (m - 1)=true
  case neg=>
   have q':wi i 0 (m - 1)=false:=by simpa using q1
   have hv:ze9 p c m x i= -1:=by unfold ze9;rw [if_neg (fun h=> q1 h.2.2)]
   rw [hv]
   clear q1 hv
   go_enter Tryz.func149,Tryz.ntmps149
   go_wp2_with (first
    | (go_at_call 30;refine (zcc _ _ _ _).mono ?_;rintro e w1 ⟨rfl,rfl⟩)
    | (go_at_call 31;refine (za9 _ _ _ _).mono ?_;rintro e w' ⟨rfl,rfl⟩))
   go_ret
   exact ⟨rfl,by go_grown⟩
  have b1:=zbc.1 q1
  have hv:ze9 p c m x i=c + p + p * 16 + x * m + i:=by unfold ze9;rw [if_pos ⟨h1,q0,q1⟩]
  rw [hv]
  clear hv
  have hm:=zk3 (c:=x) (m:=m) (C:=11) (M:=8) (by omega) (by omega)
  have w1:=wrp (c + p)
  have w2:=wrp (p * 16)
  have w3:=wrp (c + p + p * 16)
  have w4:=wrp (x * m)
  have w5:=wrp (c + p + p * 16 + x * m)
  have w6:=wrp (c + p + p * 16 + x * m + i)
  go_enter Tryz.func149,Tryz.ntmps149
  go_wp2_with (first
    | (go_at_call 30;refine (zcc _ _ _ _).mono ?_;rintro e w1 ⟨rfl,rfl⟩)
    | (go_at_call 31;refine (za9 _ _ _ _).mono ?_;rintro e w' ⟨rfl,rfl⟩))
  go_ret
  exact ⟨rfl,by go_grown⟩
def splitB (p c m a:Int):Bool:=mayB p c m && wi a 0 (p * 64 - 1)
theorem ygw (x:Int) (h0:0<=x) (h1:x < 9223372036854775808):bits .and .i64 x 63=x % 64:=
 bits_mask .i64 63 (by decide) (fun n a b=> IntWalk.i64_in _ ⟨by omega,by omega⟩) 6 (by decide) x h0 h1
theorem z0r (p c m a:Int) (w:World):
  Calls Tryz.prog 35 #[.agg #[.int .i64 p,.int .i64 c,.int .i64 m],.int .i64 a] w fun e w'=> e= .returned (.tuple (if splitB p c m a=true then #[.int .i64 (a / 64),.int .i64 (a % 64),.bool true] else #[.int .i64 0,.int .i64 0,.bool false]))/\Below w.heap.size w w':=by
 by_cases h1:mayB p c m=true
 case neg=>
  have h1':mayB p c m=false:=by simpa using h1
  have hv:splitB p c m a=false:=by unfold splitB;rw [h1'];rfl
  rw [hv,if_neg Bool.false_ne_true]
  clear h1 hv
  go_enter Tryz.func35,Tryz.ntmps35
  go_wp2_with (first
    | (go_at_call 30;refine (zcc _ _ _ _).mono ?_;rintro e w1 ⟨rfl,rfl⟩)
    | (go_at_call 31;refine (za9 _ _ _ _).mono ?_;rintro e w' ⟨rfl,rfl⟩))
  go_ret3
  exact ⟨rfl,by go_grown⟩
 case pos=>
  have hb:=zar.1 h1
  have w1:=wrp (p * 64)
  have w2:=wrp (p * 64 - 1)
  by_cases q0:wi a 0 (p * 64 - 1)=true
  case neg=>
   have q':wi a 0 (p * 64 - 1)=false:=by simpa using q0
   have hv:splitB p c m a=false:=by unfold splitB;rw [q',Bool.and_false]
   rw [hv,if_neg Bool.false_ne_true]
   clear q0 hv
   go_enter Tryz.func35,Tryz.ntmps35
   go_wp2_with (first
    | (go_at_call 30;refine (zcc _ _ _ _).mono ?_;rintro e w1 ⟨rfl,rfl⟩)
    | (go_at_call 31;refine (za9 _ _ _ _).mono ?_;rintro e w' ⟨rfl,rfl⟩))
   go_ret3
   exact ⟨rfl,by go_grown⟩
  have b0:=zbc.1 q0
  have hv:splitB p c m a=true:=by unfold splitB;rw [h1,q0];rfl
  rw [hv,if_pos rfl]
  clear hv
  have hand:=ygw a (by omega) (by omega)
  go_enter Tryz.func35,Tryz.ntmps35
  go_wp2_with (first
    | (go_at_call 30;refine (zcc _ _ _ _).mono ?_;rintro e w1 ⟨rfl,rfl⟩)
    | (go_at_call 31;refine (za9 _ _ _ _).mono ?_;rintro e w' ⟨rfl,rfl⟩))
  go_ret3
  exact ⟨rfl,by go_grown⟩
theorem zug (p i k:Int) (w:World) (hp:0<=p/\p<=64) (hi:0<=i/\i<=16):
  Calls Tryz.prog 56 #[.int .i64 p,.int .i64 i,.int .i64 k] w fun e w'=> e= .returned (.int .i64 (p * 64 + i * zbj k))/\w'=w:=by
 have hs:=znt k
 have hm:=zk3 (c:=i) (m:=zbj k) (C:=16) (M:=32) (by omega) (by omega)
 have w1:=wrp (p * 64)
 have w2:=wrp (i * zbj k)
 have w3:=wrp (p * 64 + i * zbj k)
 go_enter Tryz.func56,Tryz.ntmps56
 go_wp2_with (go_at_call 50;refine (zgq _ _).mono ?_;rintro e w' ⟨rfl,rfl⟩)
 go_ret
 exact ⟨rfl,rfl⟩
section

variable {P:Program} {ops:Array Oper} {md:Region.Mode} {C:World->Prop}

def z3n (P:Program) (md:Region.Mode) (ops:Array Oper) (C:World->Prop) (n:Nat) (L:Array Bool->Act->Prop):Nat->Array Bool->Act->Prop
 | 0,listed,a=> L listed a
 | f + 1,listed,a=> Region.ready md ops listed≠ []/\∀ i ∈ Region.ready md ops listed,i < n/\qOp P ops C i (z3n P md ops C n L f (listed.setIfInBounds i true)) a
theorem z3r {n g:Nat} {L:Array Bool->Act->Prop} {Q':Exit->Act->World->Prop} (hL:∀ listed a w,C w->L listed a->wpAny P md ops Q' g listed a w) (f:Nat):
  ∀ (listed:Array Bool) (a:Act) (w:World),C w->z3n P md ops C n L f listed a->wpAny P md ops Q' (f + g) listed a w:=by
 induction f with
 | zero=> intro listed a w hw h;rw [Nat.zero_add];exact hL _ _ _ hw h
 | succ f ih=>
  intro listed a w hw h
  rw [show f + 1 + g=(f + g) + 1 by omega]
  exact ⟨fun h0=> absurd h0 h.1,fun i hi=> wpOp_of_qOp hw (fun a' w' hw' h'=> ih _ a' w' hw' h') (h.2 i hi).2⟩
theorem zvv {n i:Nat} {oi:Oper} {v:Value} {L:Array Bool->Act->Prop} (hi:ops[i]?=some oi) (hsel:∀ (j:Nat) (o:Oper) cs b,ops[j]?=some o->o.op≠ .select cs b)
  (hs:Region.sinkB md ops n=true) (hc:Region.chainB md ops n=true) (hn:n < ops.size) (hin:i < n)
  (hdone:∀ listed a,L listed a->∀ j ∈ Region.ready md ops listed,n<=j) (f:Nat):
  ∀ (listed:Array Bool) (a:Act),HeadInv md ops n listed->
   (∀ j oj,ops[j]?=some oj->j≠i->listed.getD j true=false->(∀ e ∈ oj.after,Region.binds md e=true->e.on≠i)->oi.apart ops oj=true)->
   i ∈ Region.ready md ops listed->YieldsIn P ops C oi v a->z3n P md ops C n L f (listed.setIfInBounds i true) (a.put oi.dst v)->z3n P md ops C n L (f + 1) listed a:=by
 have small:∀ listed:Array Bool,HeadInv md ops n listed->i ∈ Region.ready md ops listed->∀ j ∈ Region.ready md ops listed,j < n:=fun listed inv hr j hj=> by
  rcases Nat.lt_or_ge j n with h | h
  ·exact h
  ·exact absurd hj (tail_waits hs hc hn inv _ i rfl hin (mem_ready.1 hr).1 j h)
 induction f with
 | zero=>
  intro listed a inv _ hr hy H
  refine ⟨fun h=> (by rw [h] at hr;cases hr),fun j hj=> ?_⟩
  have hjn:=small listed inv hr j hj
  by_cases hji:j=i
  ·subst hji;exact ⟨hjn,hy.qOp hi H⟩
  ·have:=hdone _ _ H j (ready_mono hj hji)
   omega
 | succ f ih=>
  intro listed a inv hfree hr hy H
  refine ⟨fun h=> (by rw [h] at hr;cases hr),fun j hj=> ?_⟩
  have hjn:=small listed inv hr j hj
  refine ⟨hjn,?_⟩
  by_cases hji:j=i
  ·subst hji;exact hy.qOp hi H
  ·have h1:=(H.2 j (ready_mono hj hji)).2
   obtain ⟨hjun,oj,hoj,hall⟩:=mem_ready.1 hj
   have hnot:∀ e ∈ oj.after,Region.binds md e=true->e.on≠i:=fun e he hb heq=> by
    have h1:=hall e he hb
    rw [heq,getD_both (mem_ready.1 hr).1] at h1
    cases h1
   have h2:=qOp_put hoj (hfree j oj hoj hji hjun hnot) (fun cs b=> hsel i oi cs b hi) (fun cs b=> hsel j oj cs b hoj) hy h1
   refine qOp_mono (fun a' h3=> ih (listed.setIfInBounds j true) a' (inv.set hj hjn) (fun k ok hk hki hun hno=> ?_) (ready_mono hr (Ne.symm hji)) h3.1 ?_) h2
   ·refine hfree k ok hk hki ?_ hno
    by_cases hjk:j=k
    ·subst hjk;exact hjun
    ·rw [getD_set_ne true hjk] at hun;exact hun
   ·rw [Array.setIfInBounds_comm _ _ hji]
    exact h3.2
theorem z3y {n g:Nat} {Lq:Act->Prop} (hsel:Region.noSelect ops=true) (hs:Region.sinkB md ops n=true) (hc:Region.chainB md ops n=true) (hn:n < ops.size) (l:List Oper):
  ∀ (k:Nat) (listed:Array Bool) (a:Act),(∀ j,j < l.length->l[j]?=ops[k + j]?)->k + l.length=n->HeadInv md ops n listed->
  Region.lexHead md ops g l.length k listed=true->wpQuiet P ops C Lq l a->z3n P md ops C n (fun listed' a'=> Region.seqB md ops g n listed'=true/\Lq a') l.length listed a:=by
 induction l with
 | nil=>
  intro k listed a _ hk _ hB h
  have:k=n:=by simpa using hk
  subst this
  exact ⟨by simpa [Region.lexHead] using hB,h⟩
 | cons o l ih=>
  intro k listed a hl hk inv hB h
  have h0:ops[k]?=some o:=by simpa using (hl 0 (by simp)).symm
  simp only [List.length_cons,Region.lexHead,Bool.and_eq_true] at hB
  obtain ⟨⟨hr,hf⟩,hB'⟩:=hB
  have hkn:k < n:=by simp only [List.length_cons] at hk;omega
  have hr':k ∈ Region.ready md ops listed:=by simpa using hr
  have hst:qOp P ops C k (wpQuiet P ops C Lq l) a:=by unfold qOp;simp only [h0];exact h
  obtain ⟨v,hy,hK⟩:=yieldsIn_of_qOp h0 hst
  exact zvv h0 (Region.noSelect_spec hsel) hs hc hn hkn (fun listed' a' hL=> seqB_ready hL.1) l.length listed a inv (Region.free_spec h0 hf) hr' hy
   (ih (k + 1) _ _ (fun j hj=> by have:=hl (j + 1) (by simp;omega);simpa [Nat.add_assoc,Nat.add_comm 1 j] using this) (by simp only [List.length_cons] at hk;omega) (inv.set hr' hkn) hB' hK)
theorem zit {id:Nat} {Q:Exit->Act->World->Prop} {a:Act} {w:World} {l:List Oper} (n:Nat) (hm:P.follows .mixedOrders=true) (hB:Region.lexTailB .any l.toArray n=true) (hC:C { w with drawn:=w.drawn + 1 })
  (h:wpQuiet P l.toArray C (fun a'=> ∀ w',C w'->wpList P l.toArray Q (l.drop n) a' w') (l.take n) a):(Code.region id l.toArray true).wp P Q a w:=by
 simp only [Region.lexTailB,Bool.and_eq_true,decide_eq_true_eq] at hB
 obtain ⟨⟨⟨⟨hsel,hn⟩,hs⟩,hc⟩,hlex⟩:=hB
 have hn':n < l.length:=by simpa using hn
 have htl:(l.take n).length=n:=by simp;omega
 have hdl:(l.drop n).length=l.toArray.size - n:=by simp
 have inv0:HeadInv .any l.toArray n (Array.replicate l.toArray.size false):=
  ⟨by simp,fun j oj _ hl=> (by rw [getD_replicate_false] at hl;cases hl),fun t _ ht=> getD_in (by simpa using ht) (getD_replicate_false _ _)⟩
 have H:=z3y (md:= .any) (g:=l.toArray.size - n) hsel hs hc hn (l.take n) 0 _ a (fun j hj=> by
  have hj':j < n:=by rw [htl] at hj;exact hj
  simp [hj']) (by simpa using htl) inv0 (by rw [htl];exact hlex) h
 refine wp_region_any hm ?_
 have:=z3r (Q':=Q) (g:=l.toArray.size - n) (fun listed a' w' hw' hL=> by
  have:=wpAny_of_seq (md:= .any) (Q':=Q) (l.drop n) n listed a' w' (fun j=> by simp [List.getElem?_drop]) (by rw [hdl];exact hL.1) (hL.2 w' hw')
  rwa [hdl] at this) _ _ _ _ hC H
 rw [htl,show n + (l.toArray.size - n)=l.toArray.size by omega] at this
 exact this
end

theorem zad {P:Program} {id:Nat} {Q:Exit->Act->World->Prop} {a:Act} {w:World} {l:List Oper} (n:Nat) (hm:P.follows .mixedOrders=true) (hB:Region.lexTailB .any l.toArray n=true)
  (h:wpQuiet P l.toArray (fun w'=> ∃ e:Ext w,w'=e.w) (fun a'=> ∀ w',(∃ e:Ext w,w'=e.w)->wpList P l.toArray Q (l.drop n) a' w') (l.take n) a):(Code.region id l.toArray true).wp P Q a w:=
 zit n hm hB ⟨⟨_,br.drew⟩,rfl⟩ h
end

end Go.Proofs.YthgekdlegbmehaaGreat
