
import Derived.Test.YtkilokkopbajkaaGreatBw14

import Derived.Test.YtkilokkopbajkaaGreatBw15

set_option linter.all false
set_option maxHeartbeats 2000000
set_option maxRecDepth 100000
namespace Go.Proofs.YtkilokkopbajkaaGreat

open RowKit

attribute [local go_sem ↓] wp_at_zero wp_at_succ

attribute [local go_sem] SA IC mcV

section
noncomputable def rkW (q:Nat) (w:World):Nat:=match w.cell? ⟨q,11,.none⟩ with
 |some (.bool true)=>0
 |_=>match w.cell? ⟨q,6,.none⟩ with
  |some (.iface T _)=>if T=260 then 4 else if T=280 then 3 else if T=282 then 2 else if T=262 then 2 else 1
  |_=>0
theorem ZT{w:World}{q q2:Nat}{s:Sh}{t:Sk}(h:SkAt w q q2 s t):rkW q w=KC t:=by
 have b:=ce (.bool t.done) (h.row.cell 11);have c6:=ce (nowV t.now q2) (h.row.cell 6);unfold rkW KC;rw[b,c6];rcases jB t.done with hd|hd<;>rw[hd]
 .rfl
 simp only[Bool.false_eq_true,if_false];rcases t.now with _|x
 .rfl
 cases x<;>rfl
theorem VU(W:World):(binOp .neq 257 .nilIface .nilIface).run Tryz.prog W=.ok (.bool false) W:=by kernel_rfl
theorem UU(T:TypeId)(v:Value)(W:World):(binOp .neq 257 (.iface T v) .nilIface).run Tryz.prog W=.ok (.bool true) W:=by kernel_rfl
theorem zrv(W:World):(eqGuard .neq 257 (.tmp 11) (.const .nilIface) .nilIface .nilIface).run Tryz.prog W=.ok () W:=by kernel_rfl
theorem zsx(T:TypeId)(v:Value)(W:World):(eqGuard .neq 257 (.tmp 11) (.const .nilIface) (.iface T v) .nilIface).run Tryz.prog W=.ok () W:=by kernel_rfl
attribute [local go_sem ↓] VU UU zrv zsx

theorem zx4(q2:Nat)(s:Sh)(x:Mc)(w:World)(h:aA w q2 (UI s x) (mcT x))(F:FuncId)(b:F=match x with|.tk _=>267|.sc _=>269|.pc _=>273|.sp _=>226|.bn _=>275):
  Calls Tryz.prog F #[some q2] w λe w'=>e=.returned (.bool x.done)/\w'=w:=by
 subst b;cases x with
 |tk x=>exact zxx q2 _ _ w h rfl
 |sc x=>exact zyy q2 _ _ w h rfl
 |pc x=>exact zzg q2 _ _ w h rfl
 |sp x=>exact vV q2 _ _ w h rfl
 |bn x=>exact zyi q2 _ _ w h rfl
theorem TU(q q2:Nat)(s:Sh)(t:Sk)(w:World)(h:SkAt w q q2 s t)(N:1<=s.p/\s.p<=64)(S:skOk s t):
  Calls Tryz.prog 157 #[some q] w λe w'=>uC q q2 w w' e s (OA s 5 t):=by
 obtain⟨tF,D,J⟩:=hidv (OA s 5 t);rw[<-J];clear J;have b1:q<w.heap.size:=h.row.lt;go_in;go_wp2_with fail;go_loopw [] (λwr=>∃tr q3,SkAt wr q q3 s tr/\skOk s tr/\Hid (tF=OA s 5 tr)/\(q3=q2\/w.heap.size<=q3)/\Only (λk=>k=q) w wr) (λwr=>rkW q wr);case atStart=>exact⟨t,q2,h,S,D,.inl rfl,Only.refl _ _⟩
 case round=>
  obtain⟨tr,q3,B,y,G,z,L⟩:=hrel;obtain⟨Y,rfl⟩:∃V:World,V=wr:=⟨_,rfl⟩;have b0:q<Y.heap.size:=B.row.lt;have C:=hd' (ZT B);have O:=ce (.bool tr.done) (B.row.cell 11);have c6:=ce (nowV tr.now q3) (B.row.cell 6);have i:Hid ((tr.done=true\/tr.now=none\/∃x,tr.now=some x/\x.done=false)->uC q q2 w Y (.returned (.tuple #[])) s tF):=hd' λhh=>by have e:=G.out.trans (kP hh 5);exact⟨rfl,⟨q3,by rw[e];exact B,z⟩,L⟩
  rcases jB tr.done with hd|hd
  .rw[hd]at O;replace i:=hd' (i (.inl hd));clear hd h S y B L N G D z C;go_wp2_with fail;go_returns;exact i.out
  rw[hd]at O;rcases hnw:tr.now with _|x
  .rw[hnw]at c6;replace i:=hd' (i (.inr (.inl hnw)));replace c6:Y.cell? ⟨q,6,.none⟩=some .nilIface:=c6;clear hd h S y B L N G D z C hnw;go_wp2_with fail;go_returns;exact i.out
  rw[hnw]at c6;obtain⟨X,b2⟩:=B.inn x hnw;have b:=λF G=>zx4 q3 s x Y X F G;rcases jB x.done with n|n
  .rw[n]at b;have o:=zvb q q3 s tr x Y B hnw N y hd;have R:=G.out.trans (XU hd hnw n);have H:=WL y hd hnw n N.1;have I:=RJ (s:=s) hd hnw;have l:Hid (∀Z e,uC q q3 Y Z e s (tr.after s x)->(∃tr q3,SkAt Z q q3 s tr/\skOk s tr/\Hid (tF=OA s 5 tr)/\(q3=q2\/w.heap.size<=q3)/\Only (λk=>k=q) w Z)/\rkW q Z<rkW q Y):=hd' λZ e m=>by
    obtain⟨q4,h4,M⟩:=m.at';refine⟨⟨_,q4,h4,H,hd' R,?_,L.trans m.only (λ_ _ e=>e)⟩,?_⟩
    .rcases M with M|M
     .rcases z with U|U
      .exact .inl (M.trans U)
      exact .inr (M▸U)
     exact .inr (Nat.le_trans L.size M)
    rw[ZT h4,C];exact I
   clear hd h S y B L N G D z C hnw i n H I R;generalize tr.after s x=t3 at*;replace o:=hd' o;cases x with
   |tk x=>replace c6:Y.cell? ⟨q,6,.none⟩=some (.iface 260 (.pointer (some ⟨q3,0,.none⟩))):=c6;replace b:=hd' (b _ rfl);go_wp2_with (first|(go_at_call 267;(with_reducible refine b.out.mono ?_);rintro r E ⟨rfl,j⟩;obtain rfl:=j.symm)|(go_at_call 168;(with_reducible refine o.out.mono ?_);rintro r T m;obtain rfl:=m.ret));exact l _ _ m
   |sc x=>replace c6:Y.cell? ⟨q,6,.none⟩=some (.iface 280 (.pointer (some ⟨q3,0,.none⟩))):=c6;replace b:=hd' (b _ rfl);go_wp2_with (first|(go_at_call 269;(with_reducible refine b.out.mono ?_);rintro r E ⟨rfl,j⟩;obtain rfl:=j.symm)|(go_at_call 168;(with_reducible refine o.out.mono ?_);rintro r T m;obtain rfl:=m.ret));exact l _ _ m
   |pc x=>replace c6:Y.cell? ⟨q,6,.none⟩=some (.iface 282 (.pointer (some ⟨q3,0,.none⟩))):=c6;replace b:=hd' (b _ rfl);go_wp2_with (first|(go_at_call 273;(with_reducible refine b.out.mono ?_);rintro r E ⟨rfl,j⟩;obtain rfl:=j.symm)|(go_at_call 168;(with_reducible refine o.out.mono ?_);rintro r T m;obtain rfl:=m.ret));exact l _ _ m
   |sp x=>replace c6:Y.cell? ⟨q,6,.none⟩=some (.iface 262 (.pointer (some ⟨q3,0,.none⟩))):=c6;replace b:=hd' (b _ rfl);go_wp2_with (first|(go_at_call 226;(with_reducible refine b.out.mono ?_);rintro r E ⟨rfl,j⟩;obtain rfl:=j.symm)|(go_at_call 168;(with_reducible refine o.out.mono ?_);rintro r T m;obtain rfl:=m.ret));exact l _ _ m
   |bn x=>replace c6:Y.cell? ⟨q,6,.none⟩=some (.iface 285 (.pointer (some ⟨q3,0,.none⟩))):=c6;replace b:=hd' (b _ rfl);go_wp2_with (first|(go_at_call 275;(with_reducible refine b.out.mono ?_);rintro r E ⟨rfl,j⟩;obtain rfl:=j.symm)|(go_at_call 168;(with_reducible refine o.out.mono ?_);rintro r T m;obtain rfl:=m.ret));exact l _ _ m
  rw[n]at b;replace i:=hd' (i (.inr (.inr ⟨x,hnw,n⟩)));clear hd h S y B L N G D z C hnw n;cases x with
  |tk x=>replace c6:Y.cell? ⟨q,6,.none⟩=some (.iface 260 (.pointer (some ⟨q3,0,.none⟩))):=c6;replace b:=hd' (b _ rfl);go_wp2_with (first|(go_at_call 267;(with_reducible refine b.out.mono ?_);rintro r E ⟨rfl,j⟩;obtain rfl:=j.symm));go_returns;exact i.out
  |sc x=>replace c6:Y.cell? ⟨q,6,.none⟩=some (.iface 280 (.pointer (some ⟨q3,0,.none⟩))):=c6;replace b:=hd' (b _ rfl);go_wp2_with (first|(go_at_call 269;(with_reducible refine b.out.mono ?_);rintro r E ⟨rfl,j⟩;obtain rfl:=j.symm));go_returns;exact i.out
  |pc x=>replace c6:Y.cell? ⟨q,6,.none⟩=some (.iface 282 (.pointer (some ⟨q3,0,.none⟩))):=c6;replace b:=hd' (b _ rfl);go_wp2_with (first|(go_at_call 273;(with_reducible refine b.out.mono ?_);rintro r E ⟨rfl,j⟩;obtain rfl:=j.symm));go_returns;exact i.out
  |sp x=>replace c6:Y.cell? ⟨q,6,.none⟩=some (.iface 262 (.pointer (some ⟨q3,0,.none⟩))):=c6;replace b:=hd' (b _ rfl);go_wp2_with (first|(go_at_call 226;(with_reducible refine b.out.mono ?_);rintro r E ⟨rfl,j⟩;obtain rfl:=j.symm));go_returns;exact i.out
  |bn x=>replace c6:Y.cell? ⟨q,6,.none⟩=some (.iface 285 (.pointer (some ⟨q3,0,.none⟩))):=c6;replace b:=hd' (b _ rfl);go_wp2_with (first|(go_at_call 275;(with_reducible refine b.out.mono ?_);rintro r E ⟨rfl,j⟩;obtain rfl:=j.symm));go_returns;exact i.out
theorem zzq(q:Nat)(cs:Array Value)(v:Bool)(w:World)(h:aA w q cs 259)(b:cs[11]?=some (.bool v)):Calls Tryz.prog 171 #[some q] w λe w'=>e=.returned (.bool v)/\w'=w:=by
 have c:=(h.cell 11).trans b;clear h b;go_in;go_wp2_with fail;go_returns;exact⟨rfl,rfl⟩
theorem zt7(q:Nat)(s:Sh)(t:Sk)(p:Value)(w:World)(i:aA w q (SA s t p) 259):
  Calls Tryz.prog 169 #[some q] w λe w'=>e=.returned (bG t.found t.page t.slot)/\Below w.heap.size w w':=by
 obtain⟨B,tk,tf,n,C,l,m,b,j⟩:=t;obtain⟨sp,y,z⟩:=s;have r:=i.lt;have o:=i.cell;clear i;unfold bG;dsimp only;cases b
 .go_in;go_wp2_with fail;go_returns;exact⟨rfl,Below.refl _ _⟩
 go_in;go_wp2_with fail;go_quiet (fail);have hb:=below_drewN (Below.refl w.heap.size w) nq;go_wp2_with fail;go_returns;exact⟨rfl,hb⟩
theorem aV(w:World):Calls Tryz.prog 169 #[.pointer none] w λe w'=>e=.returned (bG false 0 0)/\w'=w:=by
 unfold bG;go_in;go_wp2_with fail;go_returns;exact⟨rfl,rfl⟩
structure DO (w w':World) (e:Ending) (s:Sh) (t:Sk):Prop where
 at':∃q q2,e=.returned (.pointer (some ⟨q,0,.none⟩))/\w.heap.size<=q/\SkAt w' q q2 s t/\(t.now≠none->w.heap.size<=q2)
 below:Below w.heap.size w w'
theorem z1m(s:Sh)(c k f:Int)(w:World):
  Calls Tryz.prog 148 #[.agg #[s.p,s.c,s.m],c,k,f] w λe w'=>DO w w' e s (dD s c k f):=by
 have y:=λW=>pC s.p s.c s.m c W;have o:=λW=>JB s.p s.c s.m f W;have C:=λW=>gD k W;have J:=λW=>z0e s c k W;have U:=λW q q2 (t:Sk) (h:SkAt W q q2 s t) hp ho=>TU q q2 s t W h hp ho;obtain⟨tN,V,M⟩:=hidv (dD s c k f);rw[<-M];clear M;have l:Hid (∀W X,jW w W->jW W X->¬(0<=uA s.p s.c s.m c/\0<mA k/\0<=pA s.p s.c s.m f)->DO w (X.alloc (.cells (SA s ⟨c,k,f,none,0,0,0,false,true⟩ .nilIface) 259)) (.returned (.pointer (some ⟨X.heap.size,0,.none⟩))) s tN):=hd' λW X h1 h2 h3=>by
  have e:tN=⟨c,k,f,none,0,0,0,false,true⟩:=by rw[V];unfold dD;rw[jN h3]
  have hb:=qA h1 h2;refine⟨⟨_,0,rfl,hb.size,⟨by rw[e];exact jA _ _,λx N=>?_⟩,λhn=>?_⟩,hb.trans (br.alloc hb.size _)⟩
  .rw[e]at N;cases N
  rw[e]at hn;exact absurd rfl hn
 have D:Hid (0<=uA s.p s.c s.m c/\0<mA k/\0<=pA s.p s.c s.m f->tN=OA s 5 ⟨c,k,f,some (.tk (sC s c k)),0,0,0,false,false⟩/\(1<=s.p/\s.p<=64)/\skOk s ⟨c,k,f,some (.tk (sC s c k)),0,0,0,false,false⟩):=hd' λh=>by refine⟨by rw[V];unfold dD;rw[jP h],?_⟩;have h1:=sD h.1;have h2:=JA.1 h1.1;have h3:=XE h.2.2;refine⟨by omega,⟨λ_=>⟨by dsimp only;omega,h.2.1,by dsimp only;omega,by dsimp only;omega,λx N=>?_⟩,λe=>(by cases e)⟩⟩;simp only[Option.some.injEq]at N;subst N;exact⟨uM _ _ _,rfl⟩
 generalize uA s.p s.c s.m c=sx at*;generalize pA s.p s.c s.m f=px at*;generalize mA k=sv at*;obtain⟨sp,z,B⟩:=s;dsimp only at y o J|-;replace y:=hd' y;replace o:=hd' o;replace C:=hd' C;replace J:=hd' J;replace U:=hd' U;clear V;have G:=(Below.refl w.heap.size w).alloc lr (.cells #[sp,z,B] 23);have t0:=jA w (.cells #[sp,z,B] 23);have b1:(sx<0)\/(0<=sx/\sv<=0)\/(0<=sx/\0<sv/\px<0)\/(0<=sx/\0<sv/\0<=px):=by omega
 go_in;go_upto_region 1 with fail;generalize w.alloc (.cells #[sp,z,B] 23)=W at*;obtain⟨H,hH,b0⟩:=hidv w.heap.size;rw[<-b0]at t0|-;have lH:H<W.heap.size:=(jE t0);have c0:W.cell? ⟨H,0,.none⟩=some (.int .i64 sp):=iA t0 0;have c1:W.cell? ⟨H,1,.none⟩=some (.int .i64 z):=iA t0 1;have c2:W.cell? ⟨H,2,.none⟩=some (.int .i64 B):=iA t0 2;clear b0 t0;rcases b1 with h1|⟨h1,h2⟩|⟨h1,h2,h3⟩|⟨h1,h2,h3⟩;case inr.inr.inr=>
  go_upto_region 4 with(first|(go_at_call 44;refine(y _).mono ?_;rintro r w1 ⟨rfl,b⟩;have d0:=kA b _ _ _ c0;have d1:=kA b _ _ _ c1;have d2:=kA b _ _ _ c2)|(go_at_call 75;refine(C _).mono ?_;rintro r w3 ⟨rfl,rfl⟩)|(go_at_call 112;refine(o _).mono ?_;rintro r n ⟨rfl,i⟩;have e0:=kA i _ _ _ d0;have e1:=kA i _ _ _ d1;have e2:=kA i _ _ _ d2));obtain⟨hN,b5,b2⟩:=D ⟨h1,h2,h3⟩;replace hN:=hd' hN;have I:=qA G (qA b i);have R:=I.trans ((Below.refl n.heap.size n).alloc lr (.cells #[sp,z,B,c,k,f,.nilIface,.int .i64 0,.int .i64 0,.int .i64 0,.bool false,.bool false] 259)|>.mono I.size);have tq:aA (n.alloc (.cells #[sp,z,B,c,k,f,.nilIface,.int .i64 0,.int .i64 0,.int .i64 0,.bool false,.bool false] 259)) n.heap.size (SA ⟨sp,z,B⟩ ⟨c,k,f,none,0,0,0,false,false⟩ .nilIface) 259:=jA _ _;have j:=(Below.refl n.heap.size n).alloc lr (.cells #[sp,z,B,c,k,f,.nilIface,.int .i64 0,.int .i64 0,.int .i64 0,.bool false,.bool false] 259);have L:n.heap.size+1=(n.alloc (.cells #[sp,z,B,c,k,f,.nilIface,.int .i64 0,.int .i64 0,.int .i64 0,.bool false,.bool false] 259)).heap.size:=by simp
  generalize n.alloc (.cells #[sp,z,B,c,k,f,.nilIface,.int .i64 0,.int .i64 0,.int .i64 0,.bool false,.bool false] 259)=Z at*;have lq:=tq.lt;have S:w.heap.size<=n.heap.size:=I.size;have E:H<n.heap.size:=GG e0;have b4:n.heap.size+1=Z.heap.size:=L;have y0:Z.cell? ⟨H,0,.none⟩=some (.int .i64 sp):=(j.cell (p:=⟨H,0,.none⟩) E).trans e0;have y1:Z.cell? ⟨H,1,.none⟩=some (.int .i64 z):=(j.cell (p:=⟨H,1,.none⟩) E).trans e1;have y2:Z.cell? ⟨H,2,.none⟩=some (.int .i64 B):=(j.cell (p:=⟨H,2,.none⟩) E).trans e2;clear l D j I b i d0 d1 d2 e0 e1 e2 c0 c1 c2 h1 h2 h3 y o C b4 L;obtain⟨q,hq,b3⟩:=hidv n.heap.size;rw[<-b3]at tq lq S|-;clear b3 E;go_wp2_with (first|(go_at_call 156;refine(J _).mono ?_;rintro r w4 ⟨q2,rfl,b6,T,O⟩;have Y:=tq.below O;have z6:=Y.cell 6;have zf:=KA Y)|(go_at_call 157;(with_reducible refine(U _ q q2 ⟨c,k,f,some (.tk (sC ⟨sp,z,B⟩ c k)),0,0,0,false,false⟩ ⟨(Y.set 6 _).cast rfl,λx N=>by simp only[Option.some.injEq]at N;subst N;exact⟨T.other (by omega) _ _,by omega⟩⟩ b5 b2).mono ?_);rintro r w5 hT;obtain rfl:=hT.ret));go_returns;obtain⟨q3,hk,h3⟩:=hT.at';rw[hN];have b7:(w4.setCell ⟨q,6,.none⟩ (.iface 260 (.pointer (some ⟨q2,0,.none⟩)))).heap.size=w4.heap.size:=by simp[World.setCell]
  refine⟨⟨q,q3,rfl,S,hk,λ_=>?_⟩,?_⟩
  .have:=R.size;have:=O.size;rcases h3 with h3|h3<;>omega
  exact(((Only.of_below (F:=λk=>k=q) (R.trans (O.mono R.size))).setCell (.inl rfl) _).trans hT.only (λ_ _ e=>e)).below lr (λk e=>e▸S)
 all_goals
  try have q3:decide (0<=px)=false:=jF (Int.not_le.2 h3)
  go_wp2_with (first|(go_at_call 44;refine(y _).mono ?_;rintro r w1 ⟨rfl,b⟩;have d0:=kA b _ _ _ c0;have d1:=kA b _ _ _ c1;have d2:=kA b _ _ _ c2)|(go_at_call 75;refine(C _).mono ?_;rintro r w3 ⟨rfl,rfl⟩)|(go_at_call 112;refine(o _).mono ?_;rintro r n ⟨rfl,i⟩;have e0:=kA i _ _ _ d0;have e1:=kA i _ _ _ d1;have e2:=kA i _ _ _ d2));go_returns
 .exact l _ _ G b (by omega)
 .exact l _ _ G b (by omega)
 exact l _ _ G (qA b i) (by omega)
end

section

attribute [local go_sem ↓] VU UU

theorem zql(W:World):(eqGuard .neq 257 (.tmp 17) (.const .nilIface) .nilIface .nilIface).run Tryz.prog W=.ok () W:=by kernel_rfl
theorem zpn(T:TypeId)(v:Value)(W:World):(eqGuard .neq 257 (.tmp 17) (.const .nilIface) (.iface T v) .nilIface).run Tryz.prog W=.ok () W:=by kernel_rfl
attribute [local go_sem ↓] zql zpn

def eZ:Mc->FuncId
 |.tk _=>268
 |.sc _=>270
 |.pc _=>274
 |.sp _=>225
 |.bn _=>276
theorem zxy(q2 p b:Nat)(s:Sh)(x:Mc)(m:Mem)(w:World)(h:aA w q2 (UI s x) (mcT x))(n:oA w p b m)(i:q2≠p)(f:q2≠b)(j:Fits s m)(l:mcOk s x)(hs:m.st<1000000000)(F:FuncId)(o:F=eZ x):
  Calls Tryz.prog F #[some q2,some p] w λe w'=>Stepped q2 p b w w' e (UI s (yB s x m).1) (mcT (yB s x m).1) (yB s x m).2:=by
 subst o;cases x with
 |tk x=>exact zxs q2 p b s x m w h n i f j l hs
 |sc x=>exact zys q2 p b s x m w h n i f j l hs
 |pc x=>exact zxr q2 p b s x m w h n i f j l hs
 |sp x=>exact LV q2 p b s x m w h n i f j l hs
 |bn x=>exact zyw q2 p b s x m w h n i f j l hs
theorem z6u(s:Sh)(x:Mc)(m:Mem)(q:Nat):mcV (yB s x m).1 q=mcV x q:=by cases x<;>rfl
structure rH (q q2 p b:Nat) (now:Bool) (w w':World) (e:Ending) (s:Sh) (t:Sk) (m:Mem):Prop where
 ret:e=.returned (.tuple #[])
 at':∃q3,SkAt w' q q3 s t/\(q3=q2/\(now=false->t.now=none)\/w.heap.size<=q3)
 wds:oA w' p b m
 only:Only (λk=>k=q\/(now=true/\k=q2)\/k=p\/k=b) w w'
theorem zzl(q q2 p b:Nat)(s:Sh)(t:Sk)(x:Mc)(m:Mem)(w:World)(h:SkAt w q q2 s t)(I:t.now=some x)(X:oA w p b m)(C:q≠p/\q2≠p)(B:q≠b/\q2≠b)(T:Fits s m)(U:skOk s t)(hs:m.st<1000000000)(hd:t.done=false):
  Calls Tryz.prog 216 #[some q,some p] w λe w'=>rH q q2 p b true w w' e s (AB s t m).1 (AB s t m).2:=by
 obtain⟨c1,c2,c3,c4,c5⟩:=U.cl hd;obtain⟨L,J⟩:=c5 x I;obtain⟨E,H⟩:=h.inn x I;have S:=T.bd;have b0:w.cell? ⟨q,11,.none⟩=some (.bool false):=by rw[<-hd];exact h.row.cell 11
 have c6:w.cell? ⟨q,6,.none⟩=some (mcV x q2):=by have:=h.row.cell 6;rw[I]at this;exact this
 have V:AB s t m=(OA s 5 {t with now:=some (yB s x m).1},(yB s x m).2):=by unfold AB;rw[jN (by rw[hd];decide),I]
 have D:skOk s {t with now:=some (yB s x m).1}:=⟨λ_=>⟨c1,c2,c3,c4,λz M=>by simp only[Option.some.injEq]at M;subst M;exact⟨jM m L,QL (t:=t) m J⟩⟩,λe=>by have e:t.found=true:=e;rw[VD U.fd hd]at e;cases e⟩;rw[V];dsimp only;have i:=λF hF=>zxy q2 p b s x m w E X C.2 B.2 T L hs F hF;have y:=h.row;have b1:=h.row.lt;have o:=hd' (λY (hY:SkAt Y q q2 s {t with now:=some (yB s x m).1})=>TU q q2 s {t with now:=some (yB s x m).1} Y hY (by omega) D);have n:Hid (∀Y e,Stepped q2 p b w Y e (UI s (yB s x m).1) (mcT (yB s x m).1) (yB s x m).2->SkAt Y q q2 s {t with now:=some (yB s x m).1}):=hd' λY e hS=>by
  refine⟨?_,λz M=>?_⟩
  .have h1:=y.only hS.only (by rintro(e|e|e);exact H e;exact C.1 e;exact B.1 e);rw[I]at h1;have h2:nowV (some (yB s x m).1) q2=nowV (some x) q2:=z6u s x m q2;show aA Y q (SA s {t with now:=some (yB s x m).1} (nowV (some (yB s x m).1) q2)) _;rw[h2];exact h1
  simp only[Option.some.injEq]at M;subst M;exact⟨hS.row,H⟩
 have l:Hid (∀Y e Z R,Stepped q2 p b w Y e (UI s (yB s x m).1) (mcT (yB s x m).1) (yB s x m).2->uC q q2 Y Z R s (OA s 5 {t with now:=some (yB s x m).1})->rH q q2 p b true w Z R s (OA s 5 {t with now:=some (yB s x m).1}) (yB s x m).2):=hd' λY e Z R hS j=>by
  obtain⟨q3,h3,h4⟩:=j.at';refine⟨j.ret,⟨q3,h3,h4.imp (λe=>⟨e,λe=>by cases e⟩) (λe=>Nat.le_trans hS.only.size e)⟩,hS.wds.only j.only (λe=>C.1 e.symm) (λe=>B.1 e.symm),?_⟩;refine(hS.only.weak (G:=λk=>k=q\/(true=true/\k=q2)\/k=p\/k=b) λk e=>?_).trans j.only (λ_ _ e=>.inl e);rcases e with e|e|e
  .exact .inr (.inl ⟨rfl,e⟩)
  .exact .inr (.inr (.inl e))
  exact .inr (.inr (.inr e))
 clear V D c1 c2 c3 c4 c5 y S hd T U C B h X J E;generalize OA s 5 {t with now:=some (yB s x m).1}=t2 at*;generalize ({t with now:=some (yB s x m).1}:Sk)=t1 at*;cases x with
 |tk x=>replace c6:w.cell? ⟨q,6,.none⟩=some (.iface 260 (.pointer (some ⟨q2,0,.none⟩))):=c6;replace i:=hd' (i 268 rfl);go_in;go_wp2_with (first|(go_at_call 268;(with_reducible refine i.out.mono ?_);rintro r N hS;obtain rfl:=hS.ret)|(go_at_call 157;(with_reducible refine(o _ (n _ _ hS)).mono ?_);rintro r O j;obtain rfl:=j.ret));go_returns;exact l _ _ _ _ hS j
 |sc x=>replace c6:w.cell? ⟨q,6,.none⟩=some (.iface 280 (.pointer (some ⟨q2,0,.none⟩))):=c6;replace i:=hd' (i 270 rfl);go_in;go_wp2_with (first|(go_at_call 270;(with_reducible refine i.out.mono ?_);rintro r N hS;obtain rfl:=hS.ret)|(go_at_call 157;(with_reducible refine(o _ (n _ _ hS)).mono ?_);rintro r O j;obtain rfl:=j.ret));go_returns;exact l _ _ _ _ hS j
 |pc x=>replace c6:w.cell? ⟨q,6,.none⟩=some (.iface 282 (.pointer (some ⟨q2,0,.none⟩))):=c6;replace i:=hd' (i 274 rfl);go_in;go_wp2_with (first|(go_at_call 274;(with_reducible refine i.out.mono ?_);rintro r N hS;obtain rfl:=hS.ret)|(go_at_call 157;(with_reducible refine(o _ (n _ _ hS)).mono ?_);rintro r O j;obtain rfl:=j.ret));go_returns;exact l _ _ _ _ hS j
 |sp x=>replace c6:w.cell? ⟨q,6,.none⟩=some (.iface 262 (.pointer (some ⟨q2,0,.none⟩))):=c6;replace i:=hd' (i 225 rfl);go_in;go_wp2_with (first|(go_at_call 225;(with_reducible refine i.out.mono ?_);rintro r N hS;obtain rfl:=hS.ret)|(go_at_call 157;(with_reducible refine(o _ (n _ _ hS)).mono ?_);rintro r O j;obtain rfl:=j.ret));go_returns;exact l _ _ _ _ hS j
 |bn x=>replace c6:w.cell? ⟨q,6,.none⟩=some (.iface 285 (.pointer (some ⟨q2,0,.none⟩))):=c6;replace i:=hd' (i 276 rfl);go_in;go_wp2_with (first|(go_at_call 276;(with_reducible refine i.out.mono ?_);rintro r N hS;obtain rfl:=hS.ret)|(go_at_call 157;(with_reducible refine(o _ (n _ _ hS)).mono ?_);rintro r O j;obtain rfl:=j.ret));go_returns;exact l _ _ _ _ hS j
theorem zuy(q q2 p b:Nat)(s:Sh)(t:Sk)(m:Mem)(w:World)(h:SkAt w q q2 s t)(hx:t.now=none)(hw:oA w p b m)(bu:q≠p)(bs:q≠b)(hf:Fits s m)(ho:skOk s t)(hs:m.st<1000000000)(hd:t.done=false):
  Calls Tryz.prog 216 #[some q,some p] w λe w'=>rH q q2 p b false w w' e s (AB s t m).1 (AB s t m).2:=by
 obtain⟨c1,c2,c3,c4,c5⟩:=ho.cl hd;have bk:=hf.bd;have h0:At3 q p b w w (SA s t .nilIface) 259 m:=At3.start (by have:=h.row;rw[hx]at this;exact this) hw bu bs;have ba:=t.uQ (s:=s) (by omega);obtain⟨b2,bf⟩:=hf.page ba;have j:=λY=>JB s.p s.c s.m (t.here s) Y;rw[b2]at j;have L:=λY (hY:aA Y q (SA s t .nilIface) 259)=>qV q s t .nilIface Y hY (by omega) (by omega) (by omega);have R:=λY (hY:aA Y q (SA s t .nilIface) 259)=>BV q s t .nilIface Y hY (by omega);have H:=λY (hY:oA Y p b m)=>uF p b m t.c (s.c+t.here s) Y hY bf hs;have o:=λY=>ZJ s (t.here s) (m.get (s.c+t.here s)) Y (Mem.yF hw.fit _);have I:=λk Y=>GW s t.c (t.here s) k Y;obtain⟨r,T⟩:∃r,r=AB s t m:=⟨_,rfl⟩;rw[<-T];unfold AB at T;rw[jN (by rw[hd];decide),hx]at T;dsimp only at T;rw[b2]at T;generalize bp:s.c+t.here s=pa at H j o T;obtain⟨x,bh⟩:∃x,x=m.get pa:=⟨_,rfl⟩;rw[<-bh]at H o T;have O:r=(if LA s.p s.c s.m (t.here s) x=true/\pgK s (t.here s) x=2 then {t with now:=some (.sp (VB s t.c (t.here s) (pgP s (t.here s) x 0)))} else t.turn s,m.load t.c pa):=by rw[T];unfold pgK pgP;by_cases G:LA s.p s.c s.m (t.here s) x=true<;>simp[G]
 clear T bh bp;generalize LA s.p s.c s.m (t.here s) x=B at o O;generalize pgK s (t.here s) x=Z at o O;generalize pgP s (t.here s) x 0=e1 at o O;generalize pgP s (t.here s) x 1=e2 at o;replace I:=λY=>I e1 Y;generalize bc:t.here s=pg at*;generalize bn:VB s t.c pg e1=nb at*;obtain⟨t2,b5,U⟩:∃t2:Sk,Hid (t2=if B=true/\Z=2 then {t with now:=some (.sp nb)} else t.turn s)/\t2=_:=⟨_,hd' rfl,rfl⟩;rw[<-U]at O;clear U;subst O;dsimp only;have l:Hid (∀Y q3,B=true/\Z=2->w.heap.size<=q3->aA Y q3 (IC s nb) 292->At3 q p b w Y (SA s {t with now:=some (.sp nb)} (mcV (.sp nb) q3)) 259 (m.load t.c pa)->rH q q2 p b false w Y (.returned (.tuple #[])) s t2 (m.load t.c pa)):=hd' λY q3 G h3 bg J=>by
  have e:=b5.out.trans (jP G);rw[e];refine⟨rfl,⟨q3,⟨J.row,λz hz=>?_⟩,.inr h3⟩,J.wds,J.only.weak λk D=>?_⟩
  .simp only[Option.some.injEq]at hz;subst hz;exact⟨bg,by have:=h0.ls;omega⟩
  rcases D with D|D|D
  .exact .inl D
  .exact .inr (.inr (.inl D))
  exact .inr (.inr (.inr D))
 have n:Hid (∀Y,¬(B=true/\Z=2)->At3 q p b w Y (SA s (t.turn s) .nilIface) 259 (m.load t.c pa)->rH q q2 p b false w Y (.returned (.tuple #[])) s t2 (m.load t.c pa)):=hd' λY G J=>by
  have e:=b5.out.trans (jN G);rw[e];refine⟨rfl,⟨q2,⟨J.row,λz hz=>(by cases hz)⟩,.inl ⟨rfl,λ_=>rfl⟩⟩,J.wds,J.only.weak λk D=>?_⟩;rcases D with D|D|D
  .exact .inl D
  .exact .inr (.inr (.inl D))
  exact .inr (.inr (.inr D))
 clear b5 bn bc b2 bf ba c1 c2 c3 c4 c5 bk ho hf h hw hx;generalize t.turn s=tT at*;generalize IC s nb=c6 at*;obtain⟨sp,V,X⟩:=s;obtain⟨S,tk,tf,F,tm,y,C,i,bv⟩:=t;dsimp only at hd H o L j R I l n|-;subst hd;replace H:=hd' H;replace o:=hd' o;replace L:=hd' L;replace j:=hd' j;replace R:=hd' R;replace I:=hd' I;have lq:=h0.lt;obtain⟨c0,c1,c2,c3,c4,c5⟩:=ci6 sp V X S tk tf h0.cell;have bi:=h0.cell;go_in;go_upto_region 4 with fail;clear bi c4 c5;go_cut [4,5] (λs4 s5 wx=>∃E,s4=.pointer (some ⟨E,0,.none⟩)/\s5=.bool B/\w.heap.size<=E/\aA wx E #[Z,e1,e2] 136/\At3 q p b w wx (SA ⟨sp,V,X⟩ ⟨S,tk,tf,F,tm,y,C,i,false⟩ .nilIface) 259 (m.load S pa));case first=>
  refine wrl (x:=⟨23,24,21,4,48,136,#[.int .i64 0,.int .i64 0,.int .i64 0],#[Z,e1,e2]⟩) (ld:=18) (v:=.int .u64 x) (ts:=[34,38,45])
   (K0:=λY=>At3 q p b w Y (SA ⟨sp,V,X⟩ ⟨S,tk,tf,F,tm,y,C,i,false⟩ .nilIface) 259 m) (K1:=λY=>At3 q p b w Y (SA ⟨sp,V,X⟩ ⟨S,tk,tf,F,tm,y,C,i,false⟩ .nilIface) 259 (m.load S pa))
   ⟨⟨λY Y' h1 h2 h3=>h1.far h2 h3 h0.only.size⟩,⟨λY Y' h1 h2 h3=>h1.far h2 h3 h0.only.size⟩⟩ h0.drew ?_
  apply Exists.intro;refine⟨λB hb hs=>?_,λ_=>?_,?_,?_⟩;case refine_1=>
   have b3:aA B q (SA ⟨sp,V,X⟩ ⟨S,tk,tf,F,tm,y,C,i,false⟩ .nilIface) 259:=hb.elim (λh=>h.row) (λh=>h.row);have lB:=b3.lt;have bx:=b3.cell;repeat (go_big_quiet_step ((first|(go_at_call 184;exact AA (L _ (b3.below (Ext.below _))))|(go_at_call 112;exact AA (j _))|(go_at_call 111;exact AA (o _)))))
   exact wpQuiet_nil rfl
  case refine_2=>exact YM rfl rfl rfl rfl rfl rfl rfl rfl (by dsimp only;decide +kernel) (by dsimp only;decide +kernel)
  case refine_3=>exact vF rfl (λ_ _=>by simp[go_sem]) λY b1 hs=>(H Y b1.wds).mono λr Y' ⟨h1,h2,h3⟩=>⟨h1,b1.load h2 h3,h3.weak λk D=>D▸b1.ls.2.1⟩
  case refine_4=>intro a w4 M hf;obtain⟨rfl,bw,bm,N⟩:=hf;obtain⟨hM,N⟩:=N (by simp);simp only[Act.put,vput,vptr];go_wp2;go_meet;exact⟨_,rfl,rfl,hM,N,bm⟩
 case rest=>
  obtain⟨E,rfl,rfl,hE,b0,J⟩:=hcut;have bj:E≠q:=λe=>by rw[e]at hE;omega
  have bz:=b0.cell;clear h0 c0 c1 c2 c3 H o j;by_cases G:B=true/\Z=2
  .replace l:=hd' (λY q3=>l Y q3 G);obtain⟨rfl,rfl⟩:=G;clear n R;go_upto_region 6 with fail;have hS:=hd' (λ(Y:World) (v:Value) (h:aA Y q (SA ⟨sp,V,X⟩ ⟨S,tk,tf,F,tm,y,C,i,false⟩ v) 259) (h2:aA Y E #[.int .i64 2,e1,e2] 136)=>(⟨h.cell 0,h.cell 1,h.cell 2,h.cell 3,h2.cell 1⟩:Y.cell? ⟨q,0,.none⟩=some (.int .i64 sp)/\Y.cell? ⟨q,1,.none⟩=some (.int .i64 V)/\Y.cell? ⟨q,2,.none⟩=some (.int .i64 X)/\Y.cell? ⟨q,3,.none⟩=some (.int .i64 S)/\Y.cell? ⟨E,1,.none⟩=some (.int .i64 e1)))
   go_region_held3 (λY=>Y.cell? ⟨q,0,.none⟩=some (.int .i64 sp)/\Y.cell? ⟨q,1,.none⟩=some (.int .i64 V)/\Y.cell? ⟨q,2,.none⟩=some (.int .i64 X)/\Y.cell? ⟨q,3,.none⟩=some (.int .i64 S)/\Y.cell? ⟨E,1,.none⟩=some (.int .i64 e1))
    (first|exact hS _ _ J.row.drew b0.drew|exact hS _ _ G.row b6|exact hS _ _ hC.row b7|exact hS _ _ ((hC.set 6 _).row.cast rfl) (b7.other bj _ _))
    (first|(go_at_call 184;(with_reducible refine(L _ J.row.drew).mono ?_);rintro r w5 ⟨rfl,b8⟩;have G:=J.drew.below b8;have b6:=b0.drew.below b8)|(go_at_call 220;refine(I _).mono ?_;rintro r w6 ⟨q3,rfl,bq,b4,b9⟩;have hC:=G.below b9;have b7:=b6.below b9;have z6:=hC.cell 6;have zf:=hC.free))
   go_wp2_with fail;go_returns;exact l _ q3 (Nat.le_trans G.only.size bq) (b4.other (by have:=G.lt;omega) _ _) (hC.set 6 _)
  replace n:=hd' (λY=>n Y G);have bb:B=false\/(B=true/\(Z==2)=false):=by
   rcases jB B with h|h
   .exact .inr ⟨h,by simpa[h] using G⟩
   exact .inl h
  clear G l L I;rcases bb with rfl|⟨rfl,bb⟩;all_goals go_wp2_with (go_at_call 185;(with_reducible refine(R _ J.row).mono ?_);rintro r w1 hT;obtain rfl:=hT.ret);go_returns;exact n _ (J.turned hT)
theorem kV(q q2 p b:Nat)(s:Sh)(t:Sk)(m:Mem)(w:World)(h:SkAt w q q2 s t)(n:oA w p b m)(hd:t.done=true)(now:Bool)(j:now=false->t.now=none):
  Calls Tryz.prog 216 #[some q,some p] w λe w'=>rH q q2 p b now w w' e s (AB s t m).1 (AB s t m).2:=by
 have l:AB s t m=(t,m):=by unfold AB;rw[jP hd]
 rw[l];have o:w.cell? ⟨q,11,.none⟩=some (.bool true):=by rw[<-hd];exact h.row.cell 11
 have i:rH q q2 p b now w w (.returned (.tuple #[])) s t m:=⟨rfl,⟨q2,h,.inl ⟨rfl,j⟩⟩,n,Only.refl _ _⟩;replace i:=hd' i;clear h n hd l j;go_in;go_wp2_with fail;go_returns;exact i.out
theorem GV(p:Nat)(w:World):
  Calls Tryz.prog 216 #[.pointer none,some p] w λe w'=>e=.returned (.tuple #[])/\w'=w:=by
 go_in;go_wp2_with fail;go_returns;exact⟨rfl,rfl⟩
end

end Go.Proofs.YtkilokkopbajkaaGreat
