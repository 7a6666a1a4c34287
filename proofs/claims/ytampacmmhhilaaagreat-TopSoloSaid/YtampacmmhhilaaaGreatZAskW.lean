/- One asks alone, to its answer: the walk of the great laws' ask. -/
import Derived.Test.YtampacmmhhilaaaGreatZSolP

import Derived.Test.YtampacmmhhilaaaGreatZWAwk

set_option linter.all false
set_option maxHeartbeats 8000000
set_option maxRecDepth 100000
namespace Go.Proofs.YtampacmmhhilaaaGreat

open Go.RowKit

attribute [local go_sem ↓] Go.wp_at_zero Go.wp_at_succ

theorem yg0 (s:Sh) (hm:mayB s.p s.c s.m=true) (w:World):
  Calls Tryz.prog 24 #[.agg #[.int .i64 s.p,.int .i64 s.c,.int .i64 s.m]] w fun e w'=> e= .returned (.int .i64 (z5k s:Int))/\Below w.heap.size w w':=by
 have hb:=zar.1 hm
 have hr:=fun W=> zcc s.p s.c s.m W
 rw [hm] at hr
 have hM:((z5k s:Nat):Int)=110 * s.p + 4 * s.m + 60:=by unfold z5k;omega
 rw [hM]
 clear hM
 obtain ⟨p,c,m⟩:=s
 dsimp only at hr hb ⊢
 have w1:=wrp (110 * p)
 have w2:=wrp (4 * m)
 have w3:=wrp (110 * p + 4 * m)
 have w4:=wrp (110 * p + 4 * m + 60)
 replace hr:=hd' hr
 clear hm hb
 go_enter Tryz.func24,Tryz.ntmps24
 go_wp2_with (go_at_call 65;refine (hr.out _).mono ?_;rintro e w1 ⟨rfl,rfl⟩)
 go_ret
 exact ⟨rfl,by go_grown⟩
section

variable {B:Nat} {F:Nat->Prop} {W W1 W2:World} {g:Nat} {s:Sh} {d d2:Wd} {x:Wx} {n:Nat}

theorem WdTq.below {R:(Nat->Nat)->Prop} (h:WdTq R B F W W1 g s d) (hB:B<=W.heap.size) (hF:∀ i,F i->B<=i/\i < W.heap.size) (hb:Below W1.heap.size W1 W2):WdTq R B F W W2 g s d:=by
 obtain ⟨⟨x,h1,hR⟩,h2,h3⟩:=h
 have hs:=hb.size
 refine ⟨⟨x,(h1.below hb).weak (fun i hi=> ?_) (fun i hi=> ?_),hR⟩,Only.trans (F:=F) h2 (Only.of_below (F:=fun _=> False) hb) (fun _ _ e=> e.elim),by omega⟩
 ·rcases hi with hi | hi
  ·exact .inl hi
  ·exact .inr ⟨hi.1,by omega⟩
 ·have:=h2.size
  rcases hi with hi | hi
  ·exact ⟨(hF i hi).1,by have:=(hF i hi).2;omega⟩
  ·exact ⟨by omega,hi.2⟩
theorem yg6 (h:WdP B F W g s d x) (hB:B<=W.heap.size) (ho:wdOk s d n) (hn:n<=10000000) (c:Int) (hc:0<=c/\c < s.c):
  Calls Tryz.prog 25 #[.pointer (some ⟨g,0,.none⟩),.agg #[.int .i64 3,.int .i64 c,.int .i64 0,.int .i64 0,.int .i64 0,.float .f64 0]] W fun e w'=> e= .returned (.int .i64 (d.act s (zjx c)).2)/\WdTq (fun q=> q=x.qs) B F W w' g s (d.act s (zjx c)).1:=
 (z0t h hB ho hn (zjx c) (by unfold Ch.bad zjx;dsimp only;omega)).mono fun e w' h=> ⟨h.1,h.2.imp fun q e=> e rfl⟩
def TrAt (w:World) (v:Value) (c er:Int):Prop:=∃ b off cap m:Nat,v= .slice (some ⟨b,off,.none⟩) (m + 1) cap/\m + 1<=cap/\(cap:Int)<=9223372036854775807/\b < w.heap.size/\w.cell? ⟨b,off + m * 8,.none⟩=some (.int .i64 5)/\w.cell? ⟨b,off + m * 8 + 1,.none⟩=some (.int .i64 c)/\w.cell? ⟨b,off + m * 8 + 7,.none⟩=some (.int .i64 er)
theorem yg1 (l:List Ev) (e:Ev) (k:Nat) (hk:k < 8):((l ++ [e]).flatMap fun e=> e.cells.toList)[l.length * 8 + k]?=e.cells.toList[k]?:=by
 have hl:(l.flatMap fun e=> e.cells.toList).length=l.length * 8:=by
  induction l with
  | nil=> rfl
  | cons a l ih=> rw [List.flatMap_cons,List.length_append,ih];show 8 + _=(l.length + 1) * 8;omega
 rw [List.flatMap_append,List.getElem?_append_right (by omega),hl,show l.length * 8 + k - l.length * 8=k by omega]
 simp
theorem yg2 (h:WdP B F W g s d x) (hl:d.tr.length<=100000000) (c:Int) (ht:Told d c):
  Calls Tryz.prog 26 #[.pointer (some ⟨g,0,.none⟩)] W fun e w'=> Below W.heap.size W w'/\∃ v,e= .returned v/\TrAt w' v c (ygv d):=by
 obtain ⟨l,e0,h1,h2,h3⟩:=ht
 refine (zko h hl).mono fun e w' ⟨v,g1,g2,g3⟩=> ⟨g2,v,g1,?_⟩
 obtain ⟨ao,cap,rfl,hc,hm,_,hr⟩:=RdS.zew g3
 have hlen:d.tr.length=l.length + 1:=by rw [h1];simp
 obtain ⟨b,off,rfl,hb,hcell⟩:=hr (by omega)
 have he:ygv d=e0.er:=by unfold ygv;rw [h1];simp
 rw [he]
 refine ⟨b,off,cap,l.length,by rw [hlen],by omega,hm,hb,?_,?_,?_⟩
 ·refine (hcell (l.length * 8) (by rw [hlen];omega)).trans ?_
  rw [h1]
  refine (yg1 l e0 0 (by omega)).trans ?_
  rw [<- h2];rfl
 ·rw [Nat.add_assoc]
  refine (hcell (l.length * 8 + 1) (by rw [hlen];omega)).trans ?_
  rw [h1]
  refine (yg1 l e0 1 (by omega)).trans ?_
  rw [<- h3];rfl
 ·rw [Nat.add_assoc]
  refine (hcell (l.length * 8 + 7) (by rw [hlen];omega)).trans ?_
  rw [h1]
  exact yg1 l e0 7 (by omega)
theorem yha (h:WdP B F W g s d x) (hB:B<=W.heap.size) (ho:wdOk s d n) (hn:n + 1 + z5k s<=10000000) (c:Int) (o:Op3):
  Calls Tryz.prog 57 #[.pointer (some ⟨g,0,.none⟩),.agg #[.int .i64 s.p,.int .i64 s.c,.int .i64 s.m],.int .i64 c,.agg #[.int .i64 o.k,.int .i64 o.a,.int .i64 o.n]] W fun e w'=>
   (if (d.act s ⟨2,c,o.k,o.a,o.n,0⟩).2=0 then e= .returned (.tuple #[.int .i64 (ygv (askW s d c o)),.bool true])/\WdTo B F W w' g s (askW s d c o)
    else e= .returned (.tuple #[.int .i64 0,.bool false])/\WdTo B F W w' g s (d.act s ⟨2,c,o.k,o.a,o.n,0⟩).1):=by
 have hm:=ho.fi.may
 have hcs:=fun Y=> yg0 s hm Y
 have hbA:=((Below.refl W.heap.size W).alloc lr (.cells #[.int .i64 s.p,.int .i64 s.c,.int .i64 s.m] 23))
 have hbO:=hbA.alloc hbA.size (.cells #[.int .i64 o.k,.int .i64 o.a,.int .i64 o.n] 43)
 obtain ⟨rA,rO,hsz,_⟩:=zc5 W (.cells #[.int .i64 s.p,.int .i64 s.c,.int .i64 s.m] 23) (.cells #[.int .i64 o.k,.int .i64 o.a,.int .i64 o.n] 43)
 have tA:zaa ((W.alloc (.cells #[.int .i64 s.p,.int .i64 s.c,.int .i64 s.m] 23)).alloc (.cells #[.int .i64 o.k,.int .i64 o.a,.int .i64 o.n] 43)) W.heap.size #[.int .i64 s.p,.int .i64 s.c,.int .i64 s.m] 23:=rA
 have tO:zaa ((W.alloc (.cells #[.int .i64 s.p,.int .i64 s.c,.int .i64 s.m] 23)).alloc (.cells #[.int .i64 o.k,.int .i64 o.a,.int .i64 o.n] 43)) (W.heap.size + 1) #[.int .i64 o.k,.int .i64 o.a,.int .i64 o.n] 43:=rO
 have hnil1:∀ (p:Nat) (W:World),(binOp .eql 36 (.pointer (some ⟨p,0,.none⟩)) (.pointer none)).run Tryz.prog W= .ok (.bool false) W:=fun p W=> by kernel_rfl
 clear rA rO hbA
 have hok1:=zeo ho ⟨2,c,o.k,o.a,o.n,0⟩
 have hdue:=fun e=> yct ho (x:=⟨2,c,o.k,o.a,o.n,0⟩) rfl e
 obtain ⟨b1,hb1,hb1'⟩:=hidv (askW s d c o)
 rw [<- hb1']
 clear hb1'
 replace hb1:=hd' (hb1.out.trans (show askW s d c o=(d.act s ⟨2,c,o.k,o.a,o.n,0⟩).1.goN s c (z5k s) from rfl))
 obtain ⟨d1,he1,he1'⟩:∃ b,Hid (b=(d.act s ⟨2,c,o.k,o.a,o.n,0⟩).1)/\b=(d.act s ⟨2,c,o.k,o.a,o.n,0⟩).1:=⟨_,hd' rfl,rfl⟩
 obtain ⟨er,he2,he2'⟩:∃ b,Hid (b=(d.act s ⟨2,c,o.k,o.a,o.n,0⟩).2)/\b=(d.act s ⟨2,c,o.k,o.a,o.n,0⟩).2:=⟨_,hd' rfl,rfl⟩
 rw [<- he1'] at hb1 hok1 hdue ⊢
 rw [<- he2'] at hdue ⊢
 clear he1' he2'
 go_enter Tryz.func57,Tryz.ntmps57
 go_upto_region 1 with fail
 generalize (W.alloc (.cells #[.int .i64 s.p,.int .i64 s.c,.int .i64 s.m] 23)).alloc (.cells #[.int .i64 o.k,.int .i64 o.a,.int .i64 o.n] 43)=W2 at *
 obtain ⟨H,hH,hH'⟩:=hidv W.heap.size
 rw [<- hH'] at tA tO ⊢
 clear hH'
 have hx2:=h.below hbO
 have lH2:=tA.lt
 have hB2:B<=W2.heap.size:=by omega
 have hlt2:∀ i,F i->B<=i/\i < H:=fun i hi=> by have:=h.lt i hi;have:=hH.out;omega
 have hFH:¬ F H:=fun e=> by have:=(hlt2 H e).2;omega
 have hdo:Calls Tryz.prog 25 #[.pointer (some ⟨g,0,.none⟩),.agg #[.int .i64 2,.int .i64 c,.int .i64 o.k,.int .i64 o.a,.int .i64 o.n,.float .f64 0]] W2 fun e w'=> e= .returned (.int .i64 (d.act s ⟨2,c,o.k,o.a,o.n,0⟩).2)/\WdTo B F W2 w' g s (d.act s ⟨2,c,o.k,o.a,o.n,0⟩).1:=zkm hx2 hB2 ho (by omega) ⟨2,c,o.k,o.a,o.n,0⟩
 have hend:∀ w' dd,WdTo B F W2 w' g s dd->WdTo B F W w' g s dd:=fun w' dd hk=> WdTo.from h hB hbO hk
 rw [<- he1.out,<- he2.out] at hdo
 obtain ⟨a0,a1,a2⟩:=ci3 o.k o.a o.n tO.cell
 have lO:=tO.lt
 replace hdo:=hd' hdo
 replace hcs:=hd' hcs
 replace hdue:=hd' hdue
 replace hend:=hd' hend
 replace hbO:=hd' hbO
 clear h
 by_cases h0:¬ er=0
 ·have be:(er==0)=false:=by rw [beq_eq_false_iff_ne];exact h0
  go_wp2_with (first
   | (go_at_call 25;(with_reducible refine hdo.out.mono ?_);rintro r w3 ⟨rfl,hT⟩)
   | fail)
  go_returns
  exact ⟨rfl,hend.out _ _ hT⟩
 ·replace h0:=Decidable.not_not.1 h0
  obtain ⟨hc0,hc1,hD⟩:=hdue.out h0
  dsimp only at hc0 hc1 hD
  subst h0
  obtain ⟨k1,hk1,_⟩:=id hD
  have hcl:c.toNat < d1.l.length:=(Wd.zfs hk1).2
  have hll:d1.l.length<=100:=by rw [hok1.len];have:=ho.fi.bd;omega
  go_upto_region 3 with (first
   | (go_at_call 25;(with_reducible refine hdo.out.mono ?_);rintro r w3 ⟨rfl,hT⟩)
   | fail)
  have tA3:=tA.only hT.2.1 hFH
  obtain ⟨⟨x3,hx3⟩,ho3,hB3⟩:=id hT
  have hcl3:=zva hx3 c ⟨hc0,hcl⟩ hll
  rw [hk1] at hcl3
  replace hcl3:Hid (Calls Tryz.prog 21 #[.pointer (some ⟨g,0,.none⟩),.int .i64 c] w3 fun e w'=> e= .returned (.pointer (some ⟨x3.qs c.toNat,0,.none⟩))/\Below w3.heap.size w3 w'):=hd' hcl3
  have hTq:WdTq (fun q=> q=x3.qs) B F W2 w3 g s d1:=⟨⟨x3,hx3,rfl⟩,ho3,hB3⟩
  clear a0 a1 a2 lO tO hx3 ho3 hB3
  replace hTq:=hd' hTq
  go_upto_region 6 with (first
   | (go_at_call 21;(with_reducible refine hcl3.out.mono ?_);rintro r w4 ⟨rfl,hb4⟩)
   | fail)
  have hT4:=hTq.out.below hB2 (fun i hi=> ⟨(hlt2 i hi).1,by have:=(hlt2 i hi).2;omega⟩) hb4
  have tA4:=tA3.below hb4
  generalize x3.qs=Q at *
  clear hTq hcl3 hb4 hT tA3
  have hlast:∀ i,z5k s<=i->∃ k,(d1.goN s c i).kl c=some k/\k.job=none:=fun i hi=> by
   obtain ⟨k,h1,h2,_⟩:=ya0 (zz6 hok1 i) (yav hok1 hD i) (by unfold z5k at hi;omega)
   exact ⟨k,h1,h2⟩
  have hM:z5k s<=8000:=by unfold z5k;have:=ho.fi.bd;omega
  have hcr:0<=c/\c < s.c:=⟨hc0,hc1⟩
  generalize z5k s=M at *
  replace hlast:=hd' hlast
  go_wp2
  go_loopw [11] (fun v11 wr=> ∃ i:Nat,i<=M/\v11= .int .i64 i/\WdTq (fun q=> q=Q) B F W2 wr g s (d1.goN s c i)) (fun v11 _=> M - (intOf v11).toNat)
  case atStart=> exact ⟨0,Nat.zero_le _,rfl,hT4⟩
  case round=>
   clear hT4 tA4
   obtain ⟨i,hi,rfl,hT⟩:=hrel
   have hoki:=zz6 hok1 (c:=c) i
   have hDi:=yav hok1 hD i
   have tAr:=tA.only hT.2.1 hFH
   have hgo:=fun k h1 h2=> yfl (s:=s) (d:=d1) (c:=c) (i:=i) (k:=k) h1 h2 (M - i)
   rw [show i + (M - i)=M by omega] at hgo
   have hgs:=fun k h1 h2=> (z5n (s:=s) (d:=d1.goN s c i) (c:=c) (k:=k) h1 h2:(d1.goN s c i).goS s c=_)
   have hnext:d1.goN s c (i + 1)=(d1.goN s c i).goS s c:=rfl
   have hlasti:=hlast.out i
   obtain ⟨k,hk,hDk⟩:=hDi
   replace hb1:=hb1.out
   generalize d1.goN s c i=di at *
   have hTk:=hT
   obtain ⟨⟨x',hx',hq'⟩,ho',hB'⟩:=hT
   replace hq':x'.qs=Q:=hq'
   have hkD:di.l.getD c.toNat none=some k:=by
    have h1:=hk
    unfold Wd.kl at h1
    rw [if_pos hc0] at h1;exact h1
   have hid:∀ Y,Below wr.heap.size wr Y->Calls Tryz.prog 22 #[.pointer (some ⟨Q c.toNat,0,.none⟩)] Y fun e w'=> e= .returned (.bool k.rests)/\w'=Y:=fun Y hb=> by
    have h1:=zyp ((hx'.below hb).cl c.toNat k hkD)
    rw [hq'] at h1
    exact h1
   have hdoS:∀ Y,Below wr.heap.size wr Y->Calls Tryz.prog 25 #[.pointer (some ⟨g,0,.none⟩),.agg #[.int .i64 3,.int .i64 c,.int .i64 0,.int .i64 0,.int .i64 0,.float .f64 0]] Y fun e w'=> e= .returned (.int .i64 (di.act s (zjx c)).2)/\WdTq (fun q=> q=Q) B (grow F W2 wr) wr w' g s (di.act s (zjx c)).1:=fun Y hb=> by
    refine (yg6 (hx'.below hb) (by have:=hb.size;omega) hoki (by omega) c hcr).mono fun e w' h=> ⟨h.1,?_⟩
    have h2:=h.2
    rw [hq'] at h2
    exact WdTq.from hx' hB' hb h2
   obtain ⟨a0,a1,a2⟩:=ci3 s.p s.c s.m tAr.cell
   have lA:=tAr.lt
   have hi0:(0:Int)<=(i:Int):=by omega
   replace hdoS:=hd' hdoS
   by_cases hr:k.job=none
   ·have hkr:k.rests=true:=by unfold Kl.rests;rw [hr];rfl
    rw [hkr] at hid
    have htold:Told di c:=hDk.elim (fun h=> absurd hr h.1) (fun h=> h.2)
    have hbe:b1=di:=hb1.trans (hgo k hk hr)
    have htl:di.tr.length<=100000000:=by have:=hoki.tr;omega
    have htr:=fun Y (hb:Below wr.heap.size wr Y)=> yg2 (hx'.below hb) htl c htold
    have hfinT:∀ Y,Below wr.heap.size wr Y->WdTo B F W Y g s di:=fun Y hb=> hend.out _ _ (hTk.below hB2 (fun j hj=> ⟨(hlt2 j hj).1,by have:=(hlt2 j hj).2;omega⟩) hb).to
    obtain ⟨le,hle,hle'⟩:=hidv (ygv di)
    rw [<- hle'] at htr
    clear hle'
    replace hbe:=hd' hbe
    clear hb1 hgo hgs hnext hlasti hTk hx' hoki hDk hk hkD htold htl hr hkr
    replace htr:=hd' htr
    replace hid:=hd' hid
    replace hfinT:=hd' hfinT
    by_cases hlt:i < M
    all_goals
     have hlt':(i:Int) < (M:Int)\/¬ (i:Int) < (M:Int):=by omega
     first
      | (have hlt2:(i:Int) < (M:Int):=by omega)
      | (have hlt2:¬ (i:Int) < (M:Int):=by omega)
     clear hlt'
     go_upto_region 11 with (first
      | (go_at_call 24;(with_reducible refine (hcs.out _).mono ?_);rintro r w5 ⟨rfl,hb5⟩)
      | (go_at_call 22;(with_reducible refine (hid.out _ hb5).mono ?_);rintro r w6 ⟨rfl,hw6⟩;obtain rfl:=hw6.symm)
      | (go_at_call 26;(with_reducible refine (htr.out _ hb5).mono ?_);rintro r w7 ⟨hb7,v,rfl,bb,off,cap,m,rfl,hm1,hm2,lb,y0,y1,y7⟩)
      | fail)
     have b1:((m:Int) + 1==0)=false:=by rw [beq_eq_false_iff_ne];omega
     have wm:IntKind.i64.wrap (m:Int)=(m:Int):=IntWalk.i64_in _ ⟨by omega,by omega⟩
     have wm1:IntKind.i64.wrap ((m:Int) + 1 - 1)=(m:Int):=IntWalk.i64_in _ ⟨by omega,by omega⟩ |>.trans (by omega)
     have im0:(0:Int)<=(m:Int):=by omega
     have im1:(m:Int) < (m:Int) + 1:=by omega
     have hb57:=zab hb5 hb7
     go_wp2_with (first
      | (go_at_call 22;(with_reducible refine (hid.out _ hb57).mono ?_);rintro r w6 ⟨rfl,hw6⟩;obtain rfl:=hw6.symm)
      | fail)
     go_returns
     rw [hbe.out,<- hle.out]
     exact ⟨rfl,hfinT.out _ hb57⟩
   ·have hjr:k.rests=false:=by
     unfold Kl.rests
     rcases hj:k.job with _ | j
     ·exact absurd hj hr
     ·rfl
    rw [hjr] at hid
    have hlt:i < M:=by
     rcases Nat.lt_or_ge i M with h1 | h1
     ·exact h1
     ·obtain ⟨k',hk',hj'⟩:=hlasti h1
      rw [hk] at hk'
      injection hk' with hk'
      exact absurd (hk' ▸ hj') hr
    have hlt':(i:Int) < (M:Int):=by omega
    have wi1:IntKind.i64.wrap ((i:Int) + 1)=(i:Int) + 1:=IntWalk.i64_in _ ⟨by omega,by omega⟩
    have hfinS:∀ Y,WdTq (fun q=> q=Q) B (grow F W2 wr) wr Y g s (di.act s (zjx c)).1->∃ i':Nat,i'<=M/\Value.int .i64 ((i:Int) + 1)= .int .i64 i'/\WdTq (fun q=> q=Q) B F W2 Y g s (d1.goN s c i'):=fun Y h=> ⟨i + 1,by omega,by go_num,by
     rw [hnext,hgs k hk hr]
     exact WdTq.trans hTk.to h⟩
    replace hfinS:=hd' hfinS
    replace hid:=hd' hid
    clear hTk hx' hoki hDk hb1 hgo hgs hnext hlasti hk hkD hr hjr
    go_wp2_with (first
     | (go_at_call 24;(with_reducible refine (hcs.out _).mono ?_);rintro r w5 ⟨rfl,hb5⟩)
     | (go_at_call 22;(with_reducible refine (hid.out _ hb5).mono ?_);rintro r w6 ⟨rfl,hw6⟩;obtain rfl:=hw6.symm)
     | (go_at_call 25;(with_reducible refine (hdoS.out _ hb5).mono ?_);rintro r w7 ⟨rfl,hT7⟩)
     | fail)
    exact ⟨hfinS.out _ hT7,by simp only [intOf];omega⟩
end

end Go.Proofs.YtampacmmhhilaaaGreat
