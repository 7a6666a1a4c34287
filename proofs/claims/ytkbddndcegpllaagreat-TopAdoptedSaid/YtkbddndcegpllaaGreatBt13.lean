/- Texts bound together: SeekS SeekT. -/
import Derived.Test.YtkbddndcegpllaaGreatBt12

set_option linter.all false
set_option maxHeartbeats 2000000
set_option maxRecDepth 100000
namespace Go.Proofs.YtkbddndcegpllaaGreat

attribute [local go_sem] za1 zc9 mcV

section

open Go.RowKit

attribute [local go_sem ↓] Go.wp_at_zero Go.wp_at_succ
noncomputable def rkW (q:Nat) (w:World):Nat:=match w.cell? ⟨q,11,.none⟩ with
 | some (.bool true)=> 0
 | _=> match w.cell? ⟨q,6,.none⟩ with
  | some (.iface T _)=> if T=293 then 4 else if T=317 then 3 else if T=319 then 2 else if T=295 then 2 else 1
  | _=> 0
theorem z8s{w:World}{q q2:Nat}{s:Sh}{t:Sk}(h:SkAt w q q2 s t):rkW q w=zdj t:=by
 have b:=ce (.bool t.done) (h.row.cell 11);have f:=ce (nowV t.now q2) (h.row.cell 6);unfold rkW zdj;rw[b,f];rcases Bool.eq_false_or_eq_true t.done with hd|hd<;>rw[hd]
 ·rfl
 simp only[Bool.false_eq_true,if_false];rcases t.now with _|x
 ·rfl
 cases x<;>rfl
theorem zlm(W:World):(binOp .neq 290 .nilIface .nilIface).run Tryz.prog W= .ok (.bool false) W:=by kernel_rfl
theorem zlk(T:TypeId)(v:Value)(W:World):(binOp .neq 290 (.iface T v) .nilIface).run Tryz.prog W= .ok (.bool true) W:=by kernel_rfl
theorem zrv(W:World):(eqGuard .neq 290 (.tmp 11) (.const .nilIface) .nilIface .nilIface).run Tryz.prog W= .ok () W:=by kernel_rfl
theorem zsx(T:TypeId)(v:Value)(W:World):(eqGuard .neq 290 (.tmp 11) (.const .nilIface) (.iface T v) .nilIface).run Tryz.prog W= .ok () W:=by kernel_rfl
attribute [local go_sem ↓] zlm zlk zrv zsx

theorem zx4(q2:Nat)(s:Sh)(x:Mc)(w:World)(h:zaa w q2 (zku s x) (mcT x))(F:FuncId)
  (b:F=match x with | .tk _=> 306 | .sc _=> 308 | .pc _=> 312 | .sp _=> 265 | .bn _=> 314):
  Calls Tryz.prog F #[some q2] w fun e w'=>e= .returned (.bool x.done)/\w'=w:=by
 subst b;cases x with
 |tk x=>exact zxx q2 _ _ w h rfl
 |sc x=>exact zyy q2 _ _ w h rfl
 |pc x=>exact zzg q2 _ _ w h rfl
 |sp x=>exact zog q2 _ _ w h rfl
 |bn x=>exact zyi q2 _ _ w h rfl
theorem zli(q q2:Nat)(s:Sh)(t:Sk)(w:World)(h:SkAt w q q2 s t)(O:1<=s.p/\s.p<=64)(T:skOk s t):
  Calls Tryz.prog 188 #[some q] w fun e w'=>zbo q q2 w w' e s (za5 s 5 t):=by
 obtain⟨tF,E,L⟩:=hidv (za5 s 5 t);rw[<-L];clear L;have b2:q<w.heap.size:=h.row.lt;go_in;go_wp2_with fail;go_loopw [] (fun wr=>∃ tr q3,SkAt wr q q3 s tr/\skOk s tr/\Hid (tF=za5 s 5 tr)/\(q3=q2\/w.heap.size<=q3)/\Only (fun k=>k=q) w wr) (fun wr=>rkW q wr);case atStart=>exact⟨t,q2,h,T,E,.inl rfl,Only.refl _ _⟩
 case round=>
  obtain⟨tr,q3,C,z,H,B,M⟩:=hrel;obtain⟨Y,rfl⟩:∃ V:World,V=wr:=⟨_,rfl⟩;have b1:q<Y.heap.size:=C.row.lt;have D:=hd' (z8s C);have R:=ce (.bool tr.done) (C.row.cell 11);have l:=ce (nowV tr.now q3) (C.row.cell 6);have i:Hid ((tr.done=true\/tr.now=none\/∃ x,tr.now=some x/\x.done=false)->zbo q q2 w Y (.returned (.tuple #[])) s tF):=hd' fun hh=>by have e:=H.out.trans (zgs hh 5);exact⟨rfl,⟨q3,by rw[e];exact C,B⟩,M⟩
  rcases Bool.eq_false_or_eq_true tr.done with hd|hd
  ·rw[hd]at R;replace i:=hd' (i.out (.inl hd));clear hd h T z C M O H E B D;go_wp2_with fail;go_returns;exact i.out
  rw[hd]at R;rcases hnw:tr.now with _|x
  ·rw[hnw]at l;replace i:=hd' (i.out (.inr (.inl hnw)));replace l:Y.cell? ⟨q,6,.none⟩=some .nilIface:=l;clear hd h T z C M O H E B D hnw;go_wp2_with fail;go_returns;exact i.out
  rw[hnw]at l;obtain⟨b0,b3⟩:=C.inn x hnw;have b:=fun F H=>zx4 q3 s x Y b0 F H;rcases Bool.eq_false_or_eq_true x.done with o|o
  ·rw[o]at b;have y:=zvb q q3 s tr x Y C hnw O z hd;have S:=H.out.trans (zm5 hd hnw o);have I:=zid z hd hnw o O.1;have J:=ze1 (s:=s) hd hnw;have m:Hid (∀ Z e,zbo q q3 Y Z e s (tr.after s x)->(∃ tr q3,SkAt Z q q3 s tr/\skOk s tr/\Hid (tF=za5 s 5 tr)/\(q3=q2\/w.heap.size<=q3)/\Only (fun k=>k=q) w Z)/\rkW q Z<rkW q Y):=hd' fun Z e n=>by
    obtain⟨q4,h4,N⟩:=n.at';refine⟨⟨_,q4,h4,I,hd' S,?_,M.trans n.only (fun _ _ e=>e)⟩,?_⟩
    ·rcases N with N|N
     ·rcases B with X|X
      ·exact .inl (N.trans X)
      exact .inr (N ▸ X)
     exact .inr (Nat.le_trans M.size N)
    rw[z8s h4,D.out];exact J
   clear hd h T z C M O H E B D hnw i o I J S;generalize tr.after s x=t3 at *;replace y:=hd' y;cases x with
   |tk x=>replace l:Y.cell? ⟨q,6,.none⟩=some (.iface 293 (.pointer (some ⟨q3,0,.none⟩))):=l;replace b:=hd' (b _ rfl);go_wp2_with (first|(go_at_call 306;(with_reducible refine b.out.mono ?_);rintro r G ⟨rfl,j⟩;obtain rfl:=j.symm)|(go_at_call 202;(with_reducible refine y.out.mono ?_);rintro r U n;obtain rfl:=n.ret));exact m.out _ _ n
   |sc x=>replace l:Y.cell? ⟨q,6,.none⟩=some (.iface 317 (.pointer (some ⟨q3,0,.none⟩))):=l;replace b:=hd' (b _ rfl);go_wp2_with (first|(go_at_call 308;(with_reducible refine b.out.mono ?_);rintro r G ⟨rfl,j⟩;obtain rfl:=j.symm)|(go_at_call 202;(with_reducible refine y.out.mono ?_);rintro r U n;obtain rfl:=n.ret));exact m.out _ _ n
   |pc x=>replace l:Y.cell? ⟨q,6,.none⟩=some (.iface 319 (.pointer (some ⟨q3,0,.none⟩))):=l;replace b:=hd' (b _ rfl);go_wp2_with (first|(go_at_call 312;(with_reducible refine b.out.mono ?_);rintro r G ⟨rfl,j⟩;obtain rfl:=j.symm)|(go_at_call 202;(with_reducible refine y.out.mono ?_);rintro r U n;obtain rfl:=n.ret));exact m.out _ _ n
   |sp x=>replace l:Y.cell? ⟨q,6,.none⟩=some (.iface 295 (.pointer (some ⟨q3,0,.none⟩))):=l;replace b:=hd' (b _ rfl);go_wp2_with (first|(go_at_call 265;(with_reducible refine b.out.mono ?_);rintro r G ⟨rfl,j⟩;obtain rfl:=j.symm)|(go_at_call 202;(with_reducible refine y.out.mono ?_);rintro r U n;obtain rfl:=n.ret));exact m.out _ _ n
   |bn x=>replace l:Y.cell? ⟨q,6,.none⟩=some (.iface 322 (.pointer (some ⟨q3,0,.none⟩))):=l;replace b:=hd' (b _ rfl);go_wp2_with (first|(go_at_call 314;(with_reducible refine b.out.mono ?_);rintro r G ⟨rfl,j⟩;obtain rfl:=j.symm)|(go_at_call 202;(with_reducible refine y.out.mono ?_);rintro r U n;obtain rfl:=n.ret));exact m.out _ _ n
  rw[o]at b;replace i:=hd' (i.out (.inr (.inr ⟨x,hnw,o⟩)));clear hd h T z C M O H E B D hnw o;cases x with
  |tk x=>replace l:Y.cell? ⟨q,6,.none⟩=some (.iface 293 (.pointer (some ⟨q3,0,.none⟩))):=l;replace b:=hd' (b _ rfl);go_wp2_with (first|(go_at_call 306;(with_reducible refine b.out.mono ?_);rintro r G ⟨rfl,j⟩;obtain rfl:=j.symm));go_returns;exact i.out
  |sc x=>replace l:Y.cell? ⟨q,6,.none⟩=some (.iface 317 (.pointer (some ⟨q3,0,.none⟩))):=l;replace b:=hd' (b _ rfl);go_wp2_with (first|(go_at_call 308;(with_reducible refine b.out.mono ?_);rintro r G ⟨rfl,j⟩;obtain rfl:=j.symm));go_returns;exact i.out
  |pc x=>replace l:Y.cell? ⟨q,6,.none⟩=some (.iface 319 (.pointer (some ⟨q3,0,.none⟩))):=l;replace b:=hd' (b _ rfl);go_wp2_with (first|(go_at_call 312;(with_reducible refine b.out.mono ?_);rintro r G ⟨rfl,j⟩;obtain rfl:=j.symm));go_returns;exact i.out
  |sp x=>replace l:Y.cell? ⟨q,6,.none⟩=some (.iface 295 (.pointer (some ⟨q3,0,.none⟩))):=l;replace b:=hd' (b _ rfl);go_wp2_with (first|(go_at_call 265;(with_reducible refine b.out.mono ?_);rintro r G ⟨rfl,j⟩;obtain rfl:=j.symm));go_returns;exact i.out
  |bn x=>replace l:Y.cell? ⟨q,6,.none⟩=some (.iface 322 (.pointer (some ⟨q3,0,.none⟩))):=l;replace b:=hd' (b _ rfl);go_wp2_with (first|(go_at_call 314;(with_reducible refine b.out.mono ?_);rintro r G ⟨rfl,j⟩;obtain rfl:=j.symm));go_returns;exact i.out
theorem zzq(q:Nat)(cs:Array Value)(v:Bool)(w:World)(h:zaa w q cs 292)(b:cs[11]?=some (.bool v)):Calls Tryz.prog 205 #[some q] w fun e w'=>e= .returned (.bool v)/\w'=w:=by
 have c:=(h.cell 11).trans b;clear h b;go_in;go_wp2_with fail;go_returns;exact⟨rfl,rfl⟩
theorem zt7(q:Nat)(s:Sh)(t:Sk)(p:Value)(w:World)(i:zaa w q (za1 s t p) 292):
  Calls Tryz.prog 203 #[some q] w fun e w'=>e= .returned (zgd t.found t.page t.slot)/\Below w.heap.size w w':=by
 obtain⟨B,tk,tf,n,C,l,m,b,j⟩:=t;obtain⟨sp,y,z⟩:=s;have r:=i.lt;have o:=i.cell;clear i;unfold zgd;dsimp only;cases b
 ·go_in;go_wp2_with fail;go_returns;exact⟨rfl,Below.refl _ _⟩
 go_in;go_wp2_with fail;go_quiet (fail);have hb:=below_drewN (Below.refl w.heap.size w) nq;go_wp2_with fail;go_returns;exact⟨rfl,hb⟩
theorem zmh(w:World):Calls Tryz.prog 203 #[.pointer none] w fun e w'=>e= .returned (zgd false 0 0)/\w'=w:=by
 unfold zgd;go_in;go_wp2_with fail;go_returns;exact⟨rfl,rfl⟩
structure z02 (w w':World) (e:Ending) (s:Sh) (t:Sk):Prop where
 at':∃ q q2,e= .returned (.pointer (some ⟨q,0,.none⟩))/\w.heap.size<=q/\SkAt w' q q2 s t/\(t.now≠none->w.heap.size<=q2)
 below:Below w.heap.size w w'
theorem z1m(s:Sh)(c k f:Int)(w:World):
  Calls Tryz.prog 172 #[.agg #[s.p,s.c,s.m],c,k,f] w fun e w'=>z02 w w' e s (zhb s c k f):=by
 have y:=fun W=>zau s.p s.c s.m c W;have o:=fun W=>planPage_any s.p s.c s.m f W;have D:=fun W=>slots_any k W;have M:=fun W=>z0e s c k W;have b0:=fun W q q2 (t:Sk) (h:SkAt W q q2 s t) hp ho=>zli q q2 s t W h hp ho;obtain⟨tN,b1,O⟩:=hidv (zhb s c k f);rw[<-O];clear O;have l:Hid (∀ W X,Below w.heap.size w W->Below W.heap.size W X->¬ (0<=zae s.p s.c s.m c/\0<zah k/\0<=zak s.p s.c s.m f)->z02 w (X.alloc (.cells (za1 s ⟨c,k,f,none,0,0,0,false,true⟩ .nilIface) 292)) (.returned (.pointer (some ⟨X.heap.size,0,.none⟩))) s tN):=hd' fun W X G S C=>by
  have e:tN=⟨c,k,f,none,0,0,0,false,true⟩:=by rw[b1.out];unfold zhb;rw[if_neg C]
  have hb:=zab G S;refine⟨⟨_,0,rfl,hb.size,⟨by rw[e];exact heap_alloc_new _ _,fun x R=>?_⟩,fun hn=>?_⟩,hb.trans (br.alloc hb.size _)⟩
  ·rw[e]at R;cases R
  rw[e]at hn;exact absurd rfl hn
 have E:Hid (0<=zae s.p s.c s.m c/\0<zah k/\0<=zak s.p s.c s.m f->tN=za5 s 5 ⟨c,k,f,some (.tk (zg3 s c k)),0,0,0,false,false⟩/\(1<=s.p/\s.p<=64)/\skOk s ⟨c,k,f,some (.tk (zg3 s c k)),0,0,0,false,false⟩):=hd' fun h=>by refine⟨by rw[b1.out];unfold zhb;rw[if_pos h],?_⟩;have G:=zbe h.1;have S:=zar.1 G.1;have C:=zcs h.2.2;refine⟨by omega,⟨fun _=>⟨by dsimp only;omega,h.2.1,by dsimp only;omega,by dsimp only;omega,fun x R=>?_⟩,fun e=>(by cases e)⟩⟩;simp only[Option.some.injEq]at R;subst R;exact⟨zl1 _ _ _,rfl⟩
 generalize zae s.p s.c s.m c=sx at *;generalize zak s.p s.c s.m f=px at *;generalize zah k=sv at *;obtain⟨sp,z,B⟩:=s;dsimp only at y o M ⊢;replace y:=hd' y;replace o:=hd' o;replace D:=hd' D;replace M:=hd' M;replace b0:=hd' b0;clear b1;have J:=(Below.refl w.heap.size w).alloc lr (.cells #[sp,z,B] 23);have t0:=heap_alloc_new w (.cells #[sp,z,B] 23);have b4:(sx<0)\/(0<=sx/\sv<=0)\/(0<=sx/\0<sv/\px<0)\/(0<=sx/\0<sv/\0<=px):=by omega
 go_in;go_upto_region 1 with fail;generalize w.alloc (.cells #[sp,z,B] 23)=W at *;obtain⟨H,hH,b3⟩:=hidv w.heap.size;rw[<-b3]at t0 ⊢;have lH:H<W.heap.size:=(Array.getElem?_eq_some_iff.1 t0).1;have c0:W.cell? ⟨H,0,.none⟩=some (.int .i64 sp):=zac t0 0;have c1:W.cell? ⟨H,1,.none⟩=some (.int .i64 z):=zac t0 1;have c2:W.cell? ⟨H,2,.none⟩=some (.int .i64 B):=zac t0 2;clear b3 t0;rcases b4 with G|⟨G,S⟩|⟨G,S,C⟩|⟨G,S,C⟩;case inr.inr.inr=>
  go_upto_region 4 with(first|(go_at_call 57;(with_reducible refine(y.out _).mono ?_);rintro r w1 ⟨rfl,b⟩;have d0:=zai b _ _ _ c0;have d1:=zai b _ _ _ c1;have d2:=zai b _ _ _ c2)|(go_at_call 65;(with_reducible refine(D.out _).mono ?_);rintro r w3 ⟨rfl,rfl⟩)|(go_at_call 119;(with_reducible refine(o.out _).mono ?_);rintro r n ⟨rfl,i⟩;have e0:=zai i _ _ _ d0;have e1:=zai i _ _ _ d1;have e2:=zai i _ _ _ d2));obtain⟨hN,b8,b5⟩:=E.out ⟨G,S,C⟩;replace hN:=hd' hN;have L:=zab J (zab b i);have U:=L.trans ((Below.refl n.heap.size n).alloc lr (.cells #[sp,z,B,c,k,f,.nilIface,.int .i64 0,.int .i64 0,.int .i64 0,.bool false,.bool false] 292) |>.mono L.size);have tq:zaa (n.alloc (.cells #[sp,z,B,c,k,f,.nilIface,.int .i64 0,.int .i64 0,.int .i64 0,.bool false,.bool false] 292)) n.heap.size (za1 ⟨sp,z,B⟩ ⟨c,k,f,none,0,0,0,false,false⟩ .nilIface) 292:=heap_alloc_new _ _;have j:=(Below.refl n.heap.size n).alloc lr (.cells #[sp,z,B,c,k,f,.nilIface,.int .i64 0,.int .i64 0,.int .i64 0,.bool false,.bool false] 292);have N:n.heap.size+1=(n.alloc (.cells #[sp,z,B,c,k,f,.nilIface,.int .i64 0,.int .i64 0,.int .i64 0,.bool false,.bool false] 292)).heap.size:=by simp
  generalize n.alloc (.cells #[sp,z,B,c,k,f,.nilIface,.int .i64 0,.int .i64 0,.int .i64 0,.bool false,.bool false] 292)=Z at *;have lq:=tq.lt;have V:w.heap.size<=n.heap.size:=L.size;have I:H<n.heap.size:=zqe e0;have b7:n.heap.size+1=Z.heap.size:=N;have y0:Z.cell? ⟨H,0,.none⟩=some (.int .i64 sp):=(j.cell (p:=⟨H,0,.none⟩) I).trans e0;have y1:Z.cell? ⟨H,1,.none⟩=some (.int .i64 z):=(j.cell (p:=⟨H,1,.none⟩) I).trans e1;have y2:Z.cell? ⟨H,2,.none⟩=some (.int .i64 B):=(j.cell (p:=⟨H,2,.none⟩) I).trans e2;clear l E j L b i d0 d1 d2 e0 e1 e2 c0 c1 c2 G S C y o D b7 N;obtain⟨q,hq,b6⟩:=hidv n.heap.size;rw[<-b6]at tq lq V ⊢;clear b6 I;go_wp2_with (first|(go_at_call 187;(with_reducible refine(M.out _).mono ?_);rintro r w4 ⟨q2,rfl,b9,Y,T⟩;have b2:=tq.below T;have z6:=b2.cell 6;have zf:=zax b2)|(go_at_call 188;(with_reducible refine(b0.out _ q q2 ⟨c,k,f,some (.tk (zg3 ⟨sp,z,B⟩ c k)),0,0,0,false,false⟩ ⟨(b2.set 6 _).cast rfl,fun x R=>by simp only[Option.some.injEq]at R;subst R;exact⟨Y.other (by omega) _ _,by omega⟩⟩ b8 b5).mono ?_);rintro r w5 hT;obtain rfl:=hT.ret));go_returns;obtain⟨q3,hk,C⟩:=hT.at';rw[hN.out];have ba:(w4.setCell ⟨q,6,.none⟩ (.iface 293 (.pointer (some ⟨q2,0,.none⟩)))).heap.size=w4.heap.size:=by simp[World.setCell]
  refine⟨⟨q,q3,rfl,V,hk,fun _=>?_⟩,?_⟩
  ·have:=U.size;have:=T.size;rcases C with C|C<;>omega
  exact(((Only.of_below (F:=fun k=>k=q) (U.trans (T.mono U.size))).setCell (.inl rfl) _).trans hT.only (fun _ _ e=>e)).below lr (fun k e=>e ▸ V)
 all_goals
  try have q3:decide (0<=px)=false:=decide_eq_false (Int.not_le.2 C)
  go_wp2_with (first|(go_at_call 57;(with_reducible refine(y.out _).mono ?_);rintro r w1 ⟨rfl,b⟩;have d0:=zai b _ _ _ c0;have d1:=zai b _ _ _ c1;have d2:=zai b _ _ _ c2)|(go_at_call 65;(with_reducible refine(D.out _).mono ?_);rintro r w3 ⟨rfl,rfl⟩)|(go_at_call 119;(with_reducible refine(o.out _).mono ?_);rintro r n ⟨rfl,i⟩;have e0:=zai i _ _ _ d0;have e1:=zai i _ _ _ d1;have e2:=zai i _ _ _ d2));go_returns
 ·exact l.out _ _ J b (by omega)
 ·exact l.out _ _ J b (by omega)
 exact l.out _ _ J (zab b i) (by omega)
end

section

open Go.RowKit

attribute [local go_sem ↓] Go.wp_at_zero Go.wp_at_succ

attribute [local go_sem ↓] zlm zlk

theorem zql(W:World):(eqGuard .neq 290 (.tmp 17) (.const .nilIface) .nilIface .nilIface).run Tryz.prog W= .ok () W:=by kernel_rfl
theorem zpn(T:TypeId)(v:Value)(W:World):(eqGuard .neq 290 (.tmp 17) (.const .nilIface) (.iface T v) .nilIface).run Tryz.prog W= .ok () W:=by kernel_rfl
attribute [local go_sem ↓] zql zpn

def ybo:Mc->FuncId
 | .tk _=> 307
 | .sc _=> 309
 | .pc _=> 313
 | .sp _=> 264
 | .bn _=> 315
theorem zxy(q2 p b:Nat)(s:Sh)(x:Mc)(m:Mem)(w:World)(h:zaa w q2 (zku s x) (mcT x))(n:zaq w p b m)(i:q2≠p)(f:q2≠b)(j:Fits s m)(l:mcOk s x)(hs:m.st<1000000000)(F:FuncId)
  (o:F=ybo x):
  Calls Tryz.prog F #[some q2,some p] w fun e w'=>Stepped q2 p b w w' e (zku s (zbr s x m).1) (mcT (zbr s x m).1) (zbr s x m).2:=by
 subst o;cases x with
 |tk x=>exact zxs q2 p b s x m w h n i f j l hs
 |sc x=>exact zys q2 p b s x m w h n i f j l hs
 |pc x=>exact zxr q2 p b s x m w h n i f j l hs
 |sp x=>exact zox q2 p b s x m w h n i f j l hs
 |bn x=>exact zyw q2 p b s x m w h n i f j l hs
theorem z6u(s:Sh)(x:Mc)(m:Mem)(q:Nat):mcV (zbr s x m).1 q=mcV x q:=by cases x<;>rfl
structure zez (q q2 p b:Nat) (now:Bool) (w w':World) (e:Ending) (s:Sh) (t:Sk) (m:Mem):Prop where
 ret:e= .returned (.tuple #[])
 at':∃ q3,SkAt w' q q3 s t/\(q3=q2/\(now=false->t.now=none)\/w.heap.size<=q3)
 wds:zaq w' p b m
 only:Only (fun k=> k=q\/(now=true/\k=q2)\/k=p\/k=b) w w'
theorem zzl(q q2 p b:Nat)(s:Sh)(t:Sk)(x:Mc)(m:Mem)(w:World)(h:SkAt w q q2 s t)(J:t.now=some x)(hw:zaq w p b m)(D:q≠p/\q2≠p)(C:q≠b/\q2≠b)(U:Fits s m)(V:skOk s t)(hs:m.st<1000000000)(hd:t.done=false):
  Calls Tryz.prog 255 #[some q,some p] w fun e w'=>zez q q2 p b true w w' e s (zbv s t m).1 (zbv s t m).2:=by
 obtain⟨c1,c2,c3,X,c5⟩:=V.cl hd;obtain⟨M,L⟩:=c5 x J;obtain⟨H,I⟩:=h.inn x J;have T:=U.bd;have b0:w.cell? ⟨q,11,.none⟩=some (.bool false):=by rw[<-hd];exact h.row.cell 11
 have B:w.cell? ⟨q,6,.none⟩=some (mcV x q2):=by have:=h.row.cell 6;rw[J]at this;exact this
 have hr:zbv s t m=(za5 s 5 {t with now:=some (zbr s x m).1},(zbr s x m).2):=by unfold zbv;rw[if_neg (by rw[hd];decide),J]
 have E:skOk s {t with now:=some (zbr s x m).1}:=⟨fun _=>⟨c1,c2,c3,X,fun z N=>by simp only[Option.some.injEq]at N;subst N;exact⟨zjq m M,zg1 (t:=t) m L⟩⟩,fun e=>by have e:t.found=true:=e;rw[zb7 V.fd hd]at e;cases e⟩;rw[hr];dsimp only;have i:=fun F hF=>zxy q2 p b s x m w H hw D.2 C.2 U M hs F hF;have y:=h.row;have b1:=h.row.lt;have o:=hd' (fun Y (hY:SkAt Y q q2 s {t with now:=some (zbr s x m).1})=>zli q q2 s {t with now:=some (zbr s x m).1} Y hY (by omega) E);have n:Hid (∀ Y e,Stepped q2 p b w Y e (zku s (zbr s x m).1) (mcT (zbr s x m).1) (zbr s x m).2->SkAt Y q q2 s {t with now:=some (zbr s x m).1}):=hd' fun Y e hS=>by
  refine⟨?_,fun z N=>?_⟩
  ·have h1:=y.only hS.only (by rintro(e|e|e);exact I e;exact D.1 e;exact C.1 e);rw[J]at h1;have h2:nowV (some (zbr s x m).1) q2=nowV (some x) q2:=z6u s x m q2;show zaa Y q (za1 s {t with now:=some (zbr s x m).1} (nowV (some (zbr s x m).1) q2)) _;rw[h2];exact h1
  simp only[Option.some.injEq]at N;subst N;exact⟨hS.row,I⟩
 have l:Hid (∀ Y e Z S,Stepped q2 p b w Y e (zku s (zbr s x m).1) (mcT (zbr s x m).1) (zbr s x m).2->zbo q q2 Y Z S s (za5 s 5 {t with now:=some (zbr s x m).1})->zez q q2 p b true w Z S s (za5 s 5 {t with now:=some (zbr s x m).1}) (zbr s x m).2):=hd' fun Y e Z S hS j=>by
  obtain⟨q3,h3,h4⟩:=j.at';refine⟨j.ret,⟨q3,h3,h4.imp (fun e=>⟨e,fun e=>by cases e⟩) (fun e=>Nat.le_trans hS.only.size e)⟩,hS.wds.only j.only (fun e=>D.1 e.symm) (fun e=>C.1 e.symm),?_⟩;refine(hS.only.weak (G:=fun k=>k=q\/(true=true/\k=q2)\/k=p\/k=b) fun k e=>?_).trans j.only (fun _ _ e=>.inl e);rcases e with e|e|e
  ·exact .inr (.inl ⟨rfl,e⟩)
  ·exact .inr (.inr (.inl e))
  exact .inr (.inr (.inr e))
 clear hr E c1 c2 c3 X c5 y T hd U V D C h hw L H;generalize za5 s 5 {t with now:=some (zbr s x m).1}=t2 at *;generalize ({t with now:=some (zbr s x m).1}:Sk)=t1 at *;cases x with
 |tk x=>replace B:w.cell? ⟨q,6,.none⟩=some (.iface 293 (.pointer (some ⟨q2,0,.none⟩))):=B;replace i:=hd' (i 307 rfl);go_in;go_wp2_with (first|(go_at_call 307;(with_reducible refine i.out.mono ?_);rintro r O hS;obtain rfl:=hS.ret)|(go_at_call 188;(with_reducible refine(o.out _ (n.out _ _ hS)).mono ?_);rintro r R j;obtain rfl:=j.ret));go_returns;exact l.out _ _ _ _ hS j
 |sc x=>replace B:w.cell? ⟨q,6,.none⟩=some (.iface 317 (.pointer (some ⟨q2,0,.none⟩))):=B;replace i:=hd' (i 309 rfl);go_in;go_wp2_with (first|(go_at_call 309;(with_reducible refine i.out.mono ?_);rintro r O hS;obtain rfl:=hS.ret)|(go_at_call 188;(with_reducible refine(o.out _ (n.out _ _ hS)).mono ?_);rintro r R j;obtain rfl:=j.ret));go_returns;exact l.out _ _ _ _ hS j
 |pc x=>replace B:w.cell? ⟨q,6,.none⟩=some (.iface 319 (.pointer (some ⟨q2,0,.none⟩))):=B;replace i:=hd' (i 313 rfl);go_in;go_wp2_with (first|(go_at_call 313;(with_reducible refine i.out.mono ?_);rintro r O hS;obtain rfl:=hS.ret)|(go_at_call 188;(with_reducible refine(o.out _ (n.out _ _ hS)).mono ?_);rintro r R j;obtain rfl:=j.ret));go_returns;exact l.out _ _ _ _ hS j
 |sp x=>replace B:w.cell? ⟨q,6,.none⟩=some (.iface 295 (.pointer (some ⟨q2,0,.none⟩))):=B;replace i:=hd' (i 264 rfl);go_in;go_wp2_with (first|(go_at_call 264;(with_reducible refine i.out.mono ?_);rintro r O hS;obtain rfl:=hS.ret)|(go_at_call 188;(with_reducible refine(o.out _ (n.out _ _ hS)).mono ?_);rintro r R j;obtain rfl:=j.ret));go_returns;exact l.out _ _ _ _ hS j
 |bn x=>replace B:w.cell? ⟨q,6,.none⟩=some (.iface 322 (.pointer (some ⟨q2,0,.none⟩))):=B;replace i:=hd' (i 315 rfl);go_in;go_wp2_with (first|(go_at_call 315;(with_reducible refine i.out.mono ?_);rintro r O hS;obtain rfl:=hS.ret)|(go_at_call 188;(with_reducible refine(o.out _ (n.out _ _ hS)).mono ?_);rintro r R j;obtain rfl:=j.ret));go_returns;exact l.out _ _ _ _ hS j
theorem zuy(q q2 p b:Nat)(s:Sh)(t:Sk)(m:Mem)(w:World)(h:SkAt w q q2 s t)(hx:t.now=none)(hw:zaq w p b m)(bu:q≠p)(bs:q≠b)(hf:Fits s m)(ho:skOk s t)(hs:m.st<1000000000)(hd:t.done=false):
  Calls Tryz.prog 255 #[some q,some p] w fun e w'=>zez q q2 p b false w w' e s (zbv s t m).1 (zbv s t m).2:=by
 obtain⟨c1,c2,c3,c4,c5⟩:=ho.cl hd;have bk:=hf.bd;have U:At3 q p b w w (za1 s t .nilIface) 292 m:=At3.start (by have:=h.row;rw[hx]at this;exact this) hw bu bs;have ba:=t.zt4 (s:=s) (by omega);obtain⟨b2,bf⟩:=hf.page ba;have j:=fun Y=>planPage_any s.p s.c s.m (t.here s) Y;rw[b2]at j;have L:=fun Y (hY:zaa Y q (za1 s t .nilIface) 292)=>zo6 q s t .nilIface Y hY (by omega) (by omega) (by omega);have R:=fun Y (hY:zaa Y q (za1 s t .nilIface) 292)=>zol q s t .nilIface Y hY (by omega);have H:=fun Y (hY:zaq Y p b m)=>zc1 p b m t.c (s.c+t.here s) Y hY bf hs;have o:=fun Y=>zh3 s (t.here s) (m.get (s.c+t.here s)) Y (Mem.ze4 hw.fit _);have I:=fun k Y=>zs8 s t.c (t.here s) k Y;obtain⟨r,T⟩:∃ r,r=zbv s t m:=⟨_,rfl⟩;rw[<-T];unfold zbv at T;rw[if_neg (by rw[hd];decide),hx]at T;dsimp only at T;rw[b2]at T;generalize bp:s.c+t.here s=pa at H j o T;obtain⟨x,bh⟩:∃ x,x=m.get pa:=⟨_,rfl⟩;rw[<-bh]at H o T;have O:r=(if zal s.p s.c s.m (t.here s) x=true/\pgK s (t.here s) x=2 then {t with now:=some (.sp (zfa s t.c (t.here s) (pgP s (t.here s) x 0)))} else t.turn s,m.load t.c pa):=by rw[T];unfold pgK pgP;by_cases G:zal s.p s.c s.m (t.here s) x=true<;>simp[G]
 clear T bh bp;generalize zal s.p s.c s.m (t.here s) x=B at o O;generalize pgK s (t.here s) x=e0 at o O;generalize pgP s (t.here s) x 0=e1 at o O;generalize pgP s (t.here s) x 1=e2 at o;replace I:=fun Y=>I e1 Y;generalize bc:t.here s=pg at *;generalize bn:zfa s t.c pg e1=nb at *;obtain⟨t2,b5,X⟩:∃ t2:Sk,Hid (t2=if B=true/\e0=2 then {t with now:=some (.sp nb)} else t.turn s)/\t2=_:=⟨_,hd' rfl,rfl⟩;rw[<-X]at O;clear X;subst O;dsimp only;have l:Hid (∀ Y q3,B=true/\e0=2->w.heap.size<=q3->zaa Y q3 (zc9 s nb) 329->At3 q p b w Y (za1 s {t with now:=some (.sp nb)} (mcV (.sp nb) q3)) 292 (m.load t.c pa)->zez q q2 p b false w Y (.returned (.tuple #[])) s t2 (m.load t.c pa)):=hd' fun Y q3 G V bg J=>by
  have e:=b5.out.trans (if_pos G);rw[e];refine⟨rfl,⟨q3,⟨J.row,fun z hz=>?_⟩,.inr V⟩,J.wds,J.only.weak fun k D=>?_⟩
  ·simp only[Option.some.injEq]at hz;subst hz;exact⟨bg,by have:=U.ls;omega⟩
  rcases D with D|D|D
  ·exact .inl D
  ·exact .inr (.inr (.inl D))
  exact .inr (.inr (.inr D))
 have n:Hid (∀ Y,¬ (B=true/\e0=2)->At3 q p b w Y (za1 s (t.turn s) .nilIface) 292 (m.load t.c pa)->zez q q2 p b false w Y (.returned (.tuple #[])) s t2 (m.load t.c pa)):=hd' fun Y G J=>by
  have e:=b5.out.trans (if_neg G);rw[e];refine⟨rfl,⟨q2,⟨J.row,fun z hz=>(by cases hz)⟩,.inl ⟨rfl,fun _=>rfl⟩⟩,J.wds,J.only.weak fun k D=>?_⟩;rcases D with D|D|D
  ·exact .inl D
  ·exact .inr (.inr (.inl D))
  exact .inr (.inr (.inr D))
 clear b5 bn bc b2 bf ba c1 c2 c3 c4 c5 bk ho hf h hw hx;generalize t.turn s=tT at *;generalize zc9 s nb=c6 at *;obtain⟨sp,Z,sm⟩:=s;obtain⟨S,tk,tf,F,tm,y,C,i,bv⟩:=t;dsimp only at hd H o L j R I l n ⊢;subst hd;replace H:=hd' H;replace o:=hd' o;replace L:=hd' L;replace j:=hd' j;replace R:=hd' R;replace I:=hd' I;have lq:=U.lt;obtain⟨c0,c1,c2,c3,c4,c5⟩:=ci6 sp Z sm S tk tf U.cell;have bi:=U.cell;go_in;go_upto_region 4 with fail;clear bi c4 c5;go_cut [4,5] (fun s4 s5 wx=>∃ E,s4= .pointer (some ⟨E,0,.none⟩)/\s5= .bool B/\w.heap.size<=E/\zaa wx E #[e0,e1,e2] 128/\At3 q p b w wx (za1 ⟨sp,Z,sm⟩ ⟨S,tk,tf,F,tm,y,C,i,false⟩ .nilIface) 292 (m.load S pa));case first=>
  refine zcl (x:=⟨23,24,21,4,48,128, #[.int .i64 0,.int .i64 0,.int .i64 0], #[e0,e1,e2]⟩) (ld:=18) (v:= .int .u64 x) (ts:= [34,38,45])
   (K0:=fun Y=>At3 q p b w Y (za1 ⟨sp,Z,sm⟩ ⟨S,tk,tf,F,tm,y,C,i,false⟩ .nilIface) 292 m) (K1:=fun Y=>At3 q p b w Y (za1 ⟨sp,Z,sm⟩ ⟨S,tk,tf,F,tm,y,C,i,false⟩ .nilIface) 292 (m.load S pa))
   (by kernel_rfl) (by simp only[zfq,zej,nopO,nopC,Nat.reduceBEq,Bool.or_false,Bool.or_true,Bool.false_eq_true,↓reduceIte,Nat.reduceAdd];exact rfl) (by kernel_rfl) (by kernel_rfl) (by kernel_rfl) (by dsimp only;decide) (by dsimp only;simp) (by dsimp only;decide) (by dsimp only;simp) (by kernel_rfl) (by dsimp only;decide) (by simp)
   ⟨⟨fun Y Y' h1 h2 V=>h1.far h2 V U.only.size⟩,⟨fun Y Y' h1 h2 V=>h1.far h2 V U.only.size⟩⟩ U.drew ?_
  apply Exists.intro;refine⟨fun B hb hs=>?_,fun _=>?_,?_,?_⟩;case refine_1=>
   have b3:zaa B q (za1 ⟨sp,Z,sm⟩ ⟨S,tk,tf,F,tm,y,C,i,false⟩ .nilIface) 292:=hb.elim (fun h=>h.row) (fun h=>h.row);have lB:=b3.lt;have bx:=b3.cell;repeat (go_big_quiet_step ((first|(go_at_call 220;exact zam (L.out _ (b3.below (Ext.below _))))|(go_at_call 119;exact zam (j.out _))|(go_at_call 118;exact zam (o.out _)))))
   exact wpQuiet_nil rfl
  case refine_2=>exact zqa rfl rfl rfl rfl rfl rfl rfl rfl (by dsimp only;decide +kernel) (by dsimp only;decide +kernel)
  case refine_3=>exact zcz rfl (fun _ _=>by simp[go_sem]) fun Y b1 hs=>(H.out Y b1.wds).mono fun r Y' ⟨h1,h2,V⟩=>⟨h1,b1.load h2 V,V.weak fun k D=>D ▸ b1.ls.2.1⟩
  case refine_4=>intro a w4 M hf;obtain⟨rfl,bw,bm,N⟩:=hf;obtain⟨hM,N⟩:=N (by simp);simp only[Act.put,vput,vptr];go_wp2;go_meet;exact⟨_,rfl,rfl,hM,N,bm⟩
 case rest=>
  obtain⟨E,rfl,rfl,hE,b0,J⟩:=hcut;have bj:E≠q:=fun e=>by rw[e]at hE;omega
  have bz:=b0.cell;clear U c0 c1 c2 c3 H o j;by_cases G:B=true/\e0=2
  ·replace l:=hd' (fun Y q3=>l.out Y q3 G);obtain⟨rfl,rfl⟩:=G;clear n R;go_upto_region 6 with fail;have hS:=hd' (fun (Y:World) (v:Value) (h:zaa Y q (za1 ⟨sp,Z,sm⟩ ⟨S,tk,tf,F,tm,y,C,i,false⟩ v) 292) (h2:zaa Y E #[.int .i64 2,e1,e2] 128)=>(⟨h.cell 0,h.cell 1,h.cell 2,h.cell 3,h2.cell 1⟩:Y.cell? ⟨q,0,.none⟩=some (.int .i64 sp)/\Y.cell? ⟨q,1,.none⟩=some (.int .i64 Z)/\Y.cell? ⟨q,2,.none⟩=some (.int .i64 sm)/\Y.cell? ⟨q,3,.none⟩=some (.int .i64 S)/\Y.cell? ⟨E,1,.none⟩=some (.int .i64 e1)))
   go_region_held3 (fun Y=>Y.cell? ⟨q,0,.none⟩=some (.int .i64 sp)/\Y.cell? ⟨q,1,.none⟩=some (.int .i64 Z)/\Y.cell? ⟨q,2,.none⟩=some (.int .i64 sm)/\Y.cell? ⟨q,3,.none⟩=some (.int .i64 S)/\Y.cell? ⟨E,1,.none⟩=some (.int .i64 e1))
    (first|exact hS.out _ _ J.row.drew b0.drew|exact hS.out _ _ G.row b6|exact hS.out _ _ hC.row b7|exact hS.out _ _ ((hC.set 6 _).row.cast rfl) (b7.other bj _ _))
    (first|(go_at_call 220;(with_reducible refine(L.out _ J.row.drew).mono ?_);rintro r w5 ⟨rfl,b8⟩;have G:=J.drew.below b8;have b6:=b0.drew.below b8)|(go_at_call 259;(with_reducible refine(I.out _).mono ?_);rintro r w6 ⟨q3,rfl,bq,b4,b9⟩;have hC:=G.below b9;have b7:=b6.below b9;have z6:=hC.cell 6;have zf:=hC.free))
   go_wp2_with fail;go_returns;exact l.out _ q3 (Nat.le_trans G.only.size bq) (b4.other (by have:=G.lt;omega) _ _) (hC.set 6 _)
  replace n:=hd' (fun Y=>n.out Y G);have bb:B=false\/(B=true/\(e0==2)=false):=by
   rcases Bool.eq_false_or_eq_true B with h|h
   ·exact .inr ⟨h,by simpa[h] using G⟩
   exact .inl h
  clear G l L I;rcases bb with rfl|⟨rfl,bb⟩;all_goals go_wp2_with (go_at_call 221;(with_reducible refine(R.out _ J.row).mono ?_);rintro r w1 hT;obtain rfl:=hT.ret);go_returns;exact n.out _ (J.turned hT)
theorem zns(q q2 p b:Nat)(s:Sh)(t:Sk)(m:Mem)(w:World)(h:SkAt w q q2 s t)(n:zaq w p b m)(hd:t.done=true)(now:Bool)(j:now=false->t.now=none):
  Calls Tryz.prog 255 #[some q,some p] w fun e w'=>zez q q2 p b now w w' e s (zbv s t m).1 (zbv s t m).2:=by
 have l:zbv s t m=(t,m):=by unfold zbv;rw[if_pos hd]
 rw[l];have o:w.cell? ⟨q,11,.none⟩=some (.bool true):=by rw[<-hd];exact h.row.cell 11
 have i:zez q q2 p b now w w (.returned (.tuple #[])) s t m:=⟨rfl,⟨q2,h,.inl ⟨rfl,j⟩⟩,n,Only.refl _ _⟩;replace i:=hd' i;clear h n hd l j;go_in;go_wp2_with fail;go_returns;exact i.out
theorem zos(p:Nat)(w:World):
  Calls Tryz.prog 255 #[.pointer none,some p] w fun e w'=>e= .returned (.tuple #[])/\w'=w:=by
 go_in;go_wp2_with fail;go_returns;exact⟨rfl,rfl⟩
end

end Go.Proofs.YtkbddndcegpllaaGreat
