/- Texts bound together: BindW DoneW SeekW. -/
import Derived.Test.YtedcnffebdpmmaaGreatBu12

set_option linter.all false
set_option maxHeartbeats 2000000
set_option maxRecDepth 100000
namespace Go.Proofs.YtedcnffebdpmmaaGreat

attribute [local go_sem] zbt zc9 zd1 ze5 zfn

section

open Go.RowKit

attribute [local go_sem ↓] Go.wp_at_zero Go.wp_at_succ

theorem zyw(q p b:Nat)(s:Sh)(t:Bn)(m:Mem)(w:World)(hq:zaa w q (ze5 s t) 268)(hw:zaq w p b m)(bj:q≠p)(bi:q≠b)(hf:Fits s m)(ho:bnOk s t)(hs:m.st<1000000000):
  Calls Tryz.prog 243 #[some q,some p] w fun e w'=>Stepped q p b w w' e (ze5 s (ze6 s t m).1) 268 (ze6 s t m).2:=by
 have h0:=At3.start hq hw bj bi;clear hq hw;rcases Bool.eq_false_or_eq_true t.done with hd|hd
 ·have B:ze6 s t m=(t,m):=by unfold ze6;rw[if_pos hd]
  rw[B];clear B;have c8:w.cell? ⟨q,8,.none⟩=some (.bool true):=by rw[<-hd];exact h0.cell 8
  clear ho hd hf;go_in;go_wp2_with fail;go_returns;exact h0.fin rfl rfl
 obtain⟨hc,I,hk,hi,U⟩:=ho.cl hd;have b3:=hf.bd;have b4:=zdg hk;obtain⟨T,b1⟩:=hf.page I;have y:=fun Y=>planPage_any s.p s.c s.m t.page Y;rw[T]at y;have E:=fun Y=>zcd 2 t.k t.c Y;have C:=fun Y=>zbl 1 t.k Y;have D:=fun Y=>zbl 2 t.c Y;have l:=fun Y=>slots_any t.k Y;have j:=fun Y=>zbm s.p s.c s.m t.page t.i Y;obtain⟨r,B⟩:∃ r,r=ze6 s t m:=⟨_,rfl⟩;rw[<-B];unfold ze6 at B;rw[if_neg (by rw[hd];decide)]at B;have b7:Hid (zc8 t.k=zc3 1 t.k):=hd' rfl;have b8:Hid (wayW t.c=zc3 2 t.c):=hd' rfl;rw[<-b7.out]at C;rw[<-b8.out]at D;have V:0<=zb8 2 t.k t.c/\zb8 2 t.k t.c<18446744073709551616:=zc0 _ _ _;have b0:0<=zc8 t.k/\zc8 t.k<18446744073709551616:=zch _ _;have b2:0<=wayW t.c/\wayW t.c<18446744073709551616:=zch _ _;clear b7 b8;rw[T]at B;have w1:=wrp (t.i-1);have w2:=wrp (t.i+1);have w3:=wrp (zah t.k-1);rcases Bool.eq_false_or_eq_true t.bound with hb|hb
 ·rw[if_pos hb]at B;have bh:=U hb;obtain⟨L,J⟩:=hf.slot I (i:=t.i) (by omega);rw[L]at j B;have n:=fun Y (hY:zaq Y p b m)=>zba p b m t.c (s.c+s.p+t.page*16+t.i) (zc8 t.k) Y hY J b0 hs;generalize s.c+s.p+t.page*16+t.i=sa at j n B;generalize zc8 t.k=ow at *;generalize zah t.k=sv at *;clear y E D L J b1 T ho hf hc I U V b0 b2 w2 w3 b3 b4 hk hi bh;obtain⟨R,F,o⟩:∃ R:Bn,Hid (R= {t with i:=t.i-1,done:=decide (t.i-1=0)})/\R=_:=⟨_,hd' rfl,rfl⟩;rw[<-o]at B;clear o;subst B;obtain⟨tc,tg,tk,ti,G,S⟩:=t;obtain⟨sp,sc,sm⟩:=s;dsimp only at hd hb n j C l F w1 ⊢;subst hd hb;replace n:=hd' n;replace j:=hd' j;replace C:=hd' C;replace l:=hd' l;have lq:=h0.lt;have b9:=h0.cell;have c8:=ce (.bool false) (h0.cell 8);go_in;go_upto_region 2 with(go_at_call 67;(with_reducible refine(l.out _).mono ?_);rintro r w1 ⟨rfl,rfl⟩);refine wre ?_;repeat (go_big_quiet_step (((go_at_call 96;exact zam (j.out _)))))
  refine wqn fun X z=>?_;have H:=h0.below z;clear b9 c8 h0 lq;have ba:=H.cell;go_upto_region 6 with fail;have lX:=H.lt;refine wret 12 ?_;repeat (go_big_quiet_step (((go_at_call 110;exact zam (C.out _)))))
  refine wqn fun Z z=>?_;have hZ:=H.below z;clear ba H lX;go_wp2_with (go_at_call 185;(with_reducible refine(n.out _ hZ.wds).mono ?_);rintro r w2 ⟨rfl,O,N⟩;have M:=hZ.access O N;have bn:=M.cell;have zf:=M.free);go_returns;exact((M.set 6 _).set 8 _).fin (by rw[F.out];rfl) rfl
 rw[if_neg (by rw[hb];decide)]at B;rcases(by omega:t.i=16\/(¬ t.i=16/\t.i<zah t.k)\/(¬ t.i=16/\¬ t.i<zah t.k)) with hi6|⟨hi6,hlt⟩|⟨hi6,hlt⟩
 ·rw[if_pos hi6]at B;have n:=fun Y (hY:zaq Y p b m)=>zba p b m t.c (s.c+t.page) (zb8 2 t.k t.c) Y hY b1 V hs;generalize s.c+t.page=pa at y n B;generalize zb8 2 t.k t.c=pw at *;generalize zbk s.p s.c s.m t.page t.i=sa at *;generalize zah t.k=sv at *;clear C D b1 T ho hf hc I U V b0 b2 w1 w2 b3 b4 hk hi;obtain⟨R,F,o⟩:∃ R:Bn,Hid (R= {t with bound:=true,i:=sv-1})/\R=_:=⟨_,hd' rfl,rfl⟩;rw[<-o]at B;clear o;subst B;obtain⟨tc,tg,tk,ti,G,S⟩:=t;obtain⟨sp,sc,sm⟩:=s;dsimp only at hd hb n j y E l F w3 hi6 ⊢;subst hd hb hi6;replace n:=hd' n;replace j:=hd' j;replace y:=hd' y;replace E:=hd' E;replace l:=hd' l;have lq:=h0.lt;have bb:=h0.cell;have c8:=ce (.bool false) (h0.cell 8);go_in;go_upto_region 2 with(go_at_call 67;(with_reducible refine(l.out _).mono ?_);rintro r w1 ⟨rfl,rfl⟩);refine wre ?_;repeat (go_big_quiet_step (((go_at_call 96;exact zam (j.out _)))))
  refine wqn fun X z=>?_;have H:=h0.below z;clear bb c8 h0 lq;have bc:=H.cell;go_upto_region 10 with fail;have lX:=H.lt;refine wret 24 ?_;repeat (go_big_quiet_step ((first|(go_at_call 65;exact zam (y.out _))|(go_at_call 93;exact zam (E.out _)))))
  refine wqn fun Z z=>?_;have hZ:=H.below z;clear bc H lX;go_wp2_with (go_at_call 185;(with_reducible refine(n.out _ hZ.wds).mono ?_);rintro r w2 ⟨rfl,O,N⟩;have M:=hZ.access O N;have bp:=M.cell;have zf:=M.free);go_returns;exact((M.set 7 _).set 6 _).fin (by rw[F.out];rfl) rfl
 ·rw[if_neg hi6,if_pos hlt]at B;obtain⟨L,J⟩:=hf.slot I (i:=t.i) (by omega);rw[L]at j B;have n:=fun Y (hY:zaq Y p b m)=>zba p b m t.c (s.c+s.p+t.page*16+t.i) (wayW t.c) Y hY J b2 hs;have b5:(t.i==16)=false:=by simpa using hi6
  generalize s.c+s.p+t.page*16+t.i=sa at j n B;generalize wayW t.c=ww at *;generalize zah t.k=sv at *;clear y E C L J b1 T ho hf hc I U V b0 b2 w1 w3 b3 b4 hk hi hi6;obtain⟨R,F,o⟩:∃ R:Bn,Hid (R= {t with i:=t.i+1})/\R=_:=⟨_,hd' rfl,rfl⟩;rw[<-o]at B;clear o;subst B;obtain⟨tc,tg,tk,ti,G,S⟩:=t;obtain⟨sp,sc,sm⟩:=s;dsimp only at hd hb n j D l F w2 b5 hlt ⊢;subst hd hb;replace n:=hd' n;replace j:=hd' j;replace D:=hd' D;replace l:=hd' l;have lq:=h0.lt;have bf:=h0.cell;have c8:=ce (.bool false) (h0.cell 8);go_in;go_upto_region 2 with(go_at_call 67;(with_reducible refine(l.out _).mono ?_);rintro r w1 ⟨rfl,rfl⟩);refine wre ?_;repeat (go_big_quiet_step (((go_at_call 96;exact zam (j.out _)))))
  refine wqn fun X z=>?_;have H:=h0.below z;clear bf c8 h0 lq;have bg:=H.cell;go_upto_region 13 with fail;have lX:=H.lt;refine wret 12 ?_;repeat (go_big_quiet_step (((go_at_call 110;exact zam (D.out _)))))
  refine wqn fun Z z=>?_;have hZ:=H.below z;clear bg H lX;go_wp2_with (go_at_call 185;(with_reducible refine(n.out _ hZ.wds).mono ?_);rintro r w2 ⟨rfl,O,N⟩;have M:=hZ.access O N;have bq:=M.cell;have zf:=M.free);go_returns;exact(M.set 6 _).fin (by rw[F.out];rfl) rfl
 rw[if_neg hi6,if_neg hlt]at B;obtain⟨L,J⟩:=hf.slot I (i:=t.i) (by omega);rw[L]at j B;have n:=fun Y (hY:zaq Y p b m)=>zba p b m t.c (s.c+s.p+t.page*16+t.i) 0 Y hY J (by decide) hs;have b5:(t.i==16)=false:=by simpa using hi6
 generalize s.c+s.p+t.page*16+t.i=sa at j n B;generalize zah t.k=sv at *;clear y E C D L J b1 T ho hf hc I U V b0 b2 w1 w3 b3 b4 hk hi hi6;obtain⟨R,F,o⟩:∃ R:Bn,Hid (R= {t with i:=t.i+1})/\R=_:=⟨_,hd' rfl,rfl⟩;rw[<-o]at B;clear o;subst B;obtain⟨tc,tg,tk,ti,G,S⟩:=t;obtain⟨sp,sc,sm⟩:=s;dsimp only at hd hb n j l F w2 b5 hlt ⊢;subst hd hb;replace n:=hd' n;replace j:=hd' j;replace l:=hd' l;have lq:=h0.lt;have b6:=h0.cell;have c8:=ce (.bool false) (h0.cell 8);go_in;go_upto_region 2 with(go_at_call 67;(with_reducible refine(l.out _).mono ?_);rintro r w1 ⟨rfl,rfl⟩);refine wre ?_;repeat (go_big_quiet_step (((go_at_call 96;exact zam (j.out _)))))
 refine wqn fun X z=>?_;have H:=h0.below z;clear b6 c8 h0 lq;have bk:=H.cell;go_wp2_with (go_at_call 185;(with_reducible refine(n.out _ H.wds).mono ?_);rintro r w2 ⟨rfl,O,N⟩;have M:=H.access O N;have bm:=M.cell;have zf:=M.free);go_returns;exact(M.set 6 _).fin (by rw[F.out];rfl) rfl
theorem zxx(q:Nat)(cs:Array Value)(v:Bool)(w:World)(h:zaa w q cs 244)(b:cs[11]?=some (.bool v)):Calls Tryz.prog 234 #[some q] w fun e w'=>e= .returned (.bool v)/\w'=w:=by
 have c:=(h.cell 11).trans b;clear h b;go_in;go_wp2_with fail;go_returns;exact⟨rfl,rfl⟩
theorem zxw(q:Nat)(cs:Array Value)(v:Bool)(w:World)(h:zaa w q cs 292)(b:cs[10]?=some (.bool v)):Calls Tryz.prog 206 #[some q] w fun e w'=>e= .returned (.bool v)/\w'=w:=by
 have c:=(h.cell 10).trans b;clear h b;go_in;go_wp2_with fail;go_returns;exact⟨rfl,rfl⟩
theorem z4h(q:Nat)(cs:Array Value)(v:Bool)(w:World)(h:zaa w q cs 292)(b:cs[9]?=some (.bool v)):Calls Tryz.prog 205 #[some q] w fun e w'=>e= .returned (.bool v)/\w'=w:=by
 have c:=(h.cell 9).trans b;clear h b;go_in;go_wp2_with fail;go_returns;exact⟨rfl,rfl⟩
theorem zyy(q:Nat)(cs:Array Value)(v:Bool)(w:World)(h:zaa w q cs 261)(b:cs[10]?=some (.bool v)):Calls Tryz.prog 236 #[some q] w fun e w'=>e= .returned (.bool v)/\w'=w:=by
 have c:=(h.cell 10).trans b;clear h b;go_in;go_wp2_with fail;go_returns;exact⟨rfl,rfl⟩
theorem zzg(q:Nat)(cs:Array Value)(v:Bool)(w:World)(h:zaa w q cs 263)(b:cs[8]?=some (.bool v)):Calls Tryz.prog 240 #[some q] w fun e w'=>e= .returned (.bool v)/\w'=w:=by
 have c:=(h.cell 8).trans b;clear h b;go_in;go_wp2_with fail;go_returns;exact⟨rfl,rfl⟩
theorem zog(q:Nat)(cs:Array Value)(v:Bool)(w:World)(h:zaa w q cs 266)(b:cs[9]?=some (.bool v)):Calls Tryz.prog 193 #[some q] w fun e w'=>e= .returned (.bool v)/\w'=w:=by
 have c:=(h.cell 9).trans b;clear h b;go_in;go_wp2_with fail;go_returns;exact⟨rfl,rfl⟩
theorem zpa(q:Nat)(cs:Array Value)(v:Bool)(w:World)(h:zaa w q cs 266)(b:cs[8]?=some (.bool v)):Calls Tryz.prog 149 #[some q] w fun e w'=>e= .returned (.bool v)/\w'=w:=by
 have c:=(h.cell 8).trans b;clear h b;go_in;go_wp2_with fail;go_returns;exact⟨rfl,rfl⟩
theorem zyi(q:Nat)(cs:Array Value)(v:Bool)(w:World)(h:zaa w q cs 268)(b:cs[8]?=some (.bool v)):Calls Tryz.prog 242 #[some q] w fun e w'=>e= .returned (.bool v)/\w'=w:=by
 have c:=(h.cell 8).trans b;clear h b;go_in;go_wp2_with fail;go_returns;exact⟨rfl,rfl⟩
def zgd (f:Bool) (a b:Int):Value:= .tuple #[.int .i64 (if f=true then a else 0),.int .i64 (if f=true then b else 0),f]
theorem zu4(q:Nat)(s:Sh)(t:Tk)(w:World)(i:zaa w q (zd1 s t) 244):
  Calls Tryz.prog 142 #[some q] w fun e w'=>e= .returned (zgd t.found t.ep t.es)/\Below w.heap.size w w':=by
 obtain⟨B,D,C,o,p,n,l,b,j⟩:=t;obtain⟨sp,y,z⟩:=s;have r:=i.lt;have m:=i.cell;clear i;unfold zgd;dsimp only;cases b
 ·go_in;go_wp2_with fail;go_returns;exact⟨rfl,Below.refl _ _⟩
 go_in;go_wp2_with fail;go_quiet (fail);have hb:=below_drewN (Below.refl w.heap.size w) nq;go_wp2_with fail;go_returns;exact⟨rfl,hb⟩
theorem zum(q:Nat)(s:Sh)(t:Sc)(w:World)(n:zaa w q (zbt s t) 261)(z:1<=s.p/\s.p<=64)(h:t.found=true->(0<=t.first/\t.first<64)/\(0<=t.many/\t.many<=64)):
  Calls Tryz.prog 145 #[some q] w fun e w'=>e= .returned (zgd t.found (t.page s) t.i)/\Below w.heap.size w w':=by
 have b:=fun Y (l:zaa Y q (zbt s t) 261) (r:t.found=true)=>zoi q s t Y l z (h r).1 (h r).2;generalize t.page s=pg at *;obtain⟨E,G,tf,H,F,I,j,o⟩:=t;obtain⟨sp,C,D⟩:=s;have B:=n.lt;have y:=n.cell;unfold zgd;dsimp only at b h ⊢;clear h;cases j
 ·clear b;go_in;go_wp2_with fail;go_returns;exact⟨rfl,Below.refl _ _⟩
 replace b:=hd' (fun Y l=>b Y l rfl);go_in;go_upto_region 3 with fail;refine wre ?_;repeat (go_big_quiet_step (((go_at_call 152;exact zam (b.out _ (n.below (Ext.below _)))))))
 refine wqn fun X m=>?_;have hb:=m;go_wp2_with fail;go_returns;exact⟨rfl,hb⟩
theorem zu1(q:Nat)(s:Sh)(t:Pc)(w:World)(l:zaa w q (zfn s t) 263)(z:1<=s.p/\s.p<=64)(h:t.found=true->(0<=t.first/\t.first<64)/\(0<=t.many/\t.many<=64)):
  Calls Tryz.prog 147 #[some q] w fun e w'=>e= .returned (.tuple #[.int .i64 (if t.found=true then t.page s else 0),t.found])/\Below w.heap.size w w':=by
 have b:=fun Y (y:zaa Y q (zfn s t) 263) (n:t.found=true)=>zoo q s t Y y z (h n).1 (h n).2;generalize t.page s=pg at *;obtain⟨E,tf,F,j,i,m⟩:=t;obtain⟨sp,C,D⟩:=s;have B:=l.lt;have o:=l.cell;dsimp only at b h ⊢;clear h;cases i
 ·clear b;go_in;go_wp2_with fail;go_returns;exact⟨rfl,Below.refl _ _⟩
 replace b:=hd' (b w l rfl);go_in;go_wp2_with (go_at_call 153;(with_reducible refine b.out.mono ?_);rintro r G ⟨rfl,hb⟩);go_returns;exact⟨rfl,hb⟩
theorem zrb(v:Value)(W:World):(Instr.typeAssert (.iface 234 v) 231 234 true).run Tryz.prog W= .ok (.tuple #[v,.bool true]) W:=by kernel_rfl
theorem zrt(v:Value)(W:World):(Instr.typeAssert (.iface 254 v) 231 234 true).run Tryz.prog W= .ok (.tuple #[.pointer none,.bool false]) W:=by kernel_rfl
theorem zsu(v:Value)(W:World):(Instr.typeAssert (.iface 254 v) 231 254 true).run Tryz.prog W= .ok (.tuple #[v,.bool true]) W:=by kernel_rfl
theorem zr1(v:Value)(W:World):(Instr.typeAssert (.iface 256 v) 231 234 true).run Tryz.prog W= .ok (.tuple #[.pointer none,.bool false]) W:=by kernel_rfl
theorem zr6(v:Value)(W:World):(Instr.typeAssert (.iface 256 v) 231 254 true).run Tryz.prog W= .ok (.tuple #[.pointer none,.bool false]) W:=by kernel_rfl
theorem zsy(v:Value)(W:World):(Instr.typeAssert (.iface 256 v) 231 256 true).run Tryz.prog W= .ok (.tuple #[v,.bool true]) W:=by kernel_rfl
theorem zta(v:Value)(W:World):(Instr.typeAssert (.iface 236 v) 231 234 true).run Tryz.prog W= .ok (.tuple #[.pointer none,.bool false]) W:=by kernel_rfl
theorem zte(v:Value)(W:World):(Instr.typeAssert (.iface 236 v) 231 254 true).run Tryz.prog W= .ok (.tuple #[.pointer none,.bool false]) W:=by kernel_rfl
theorem zr7(v:Value)(W:World):(Instr.typeAssert (.iface 236 v) 231 256 true).run Tryz.prog W= .ok (.tuple #[.pointer none,.bool false]) W:=by kernel_rfl
theorem zsl(v:Value)(W:World):(Instr.typeAssert (.iface 236 v) 231 236 true).run Tryz.prog W= .ok (.tuple #[v,.bool true]) W:=by kernel_rfl
theorem zsd(v:Value)(W:World):(Instr.typeAssert (.iface 259 v) 231 234 true).run Tryz.prog W= .ok (.tuple #[.pointer none,.bool false]) W:=by kernel_rfl
theorem zss(v:Value)(W:World):(Instr.typeAssert (.iface 259 v) 231 254 true).run Tryz.prog W= .ok (.tuple #[.pointer none,.bool false]) W:=by kernel_rfl
theorem zrc(v:Value)(W:World):(Instr.typeAssert (.iface 259 v) 231 256 true).run Tryz.prog W= .ok (.tuple #[.pointer none,.bool false]) W:=by kernel_rfl
theorem zr9(v:Value)(W:World):(Instr.typeAssert (.iface 259 v) 231 236 true).run Tryz.prog W= .ok (.tuple #[.pointer none,.bool false]) W:=by kernel_rfl
theorem zq3(v:Value)(W:World):(Instr.typeAssert (.iface 259 v) 231 259 true).run Tryz.prog W= .ok (.tuple #[v,.bool true]) W:=by kernel_rfl
attribute [local go_sem ↓] zrb zrt zsu zr1 zr6 zsy zta zte zr7 zsl zsd zss zrc zr9 zq3

def zku (s:Sh):Mc->Array Value
 | .tk t=> zd1 s t
 | .sc t=> zbt s t
 | .pc t=> zfn s t
 | .sp t=> zc9 s t
 | .bn t=> ze5 s t
def mcT:Mc->TypeId
 | .tk _=> 244
 | .sc _=> 261
 | .pc _=> 263
 | .sp _=> 266
 | .bn _=> 268
def mcV:Mc->Nat->Value
 | .tk _,q=> .iface 234 (.pointer (some ⟨q,0,.none⟩))
 | .sc _,q=> .iface 254 (.pointer (some ⟨q,0,.none⟩))
 | .pc _,q=> .iface 256 (.pointer (some ⟨q,0,.none⟩))
 | .sp _,q=> .iface 236 (.pointer (some ⟨q,0,.none⟩))
 | .bn _,q=> .iface 259 (.pointer (some ⟨q,0,.none⟩))
attribute [local go_sem] mcV

def nowV (o:Option Mc) (q:Nat):Value:=match o with
 | none=> .nilIface
 | some x=> mcV x q
def za1 (s:Sh) (t:Sk) (nv:Value):Array Value:= #[s.p,s.c,s.m,t.c,t.k,t.first,nv,t.many,t.page,t.slot,t.found,t.done]
attribute [local go_sem] za1

structure SkAt (w:World) (q q2:Nat) (s:Sh) (t:Sk):Prop where
 row:zaa w q (za1 s t (nowV t.now q2)) 233
 inn:∀ x,t.now=some x->zaa w q2 (zku s x) (mcT x)/\q≠q2
theorem SkAt.zfe{w w':World}{q q2:Nat}{s:Sh}{t:Sk}(h:SkAt w q q2 s t)(h1:w'.heap[q]?=w.heap[q]?)(h2:t.now≠none->w'.heap[q2]?=w.heap[q2]?):SkAt w' q q2 s t:=
 ⟨h1.trans h.row,fun x b=>⟨(h2 (by rw[b];exact fun e=>by cases e)).trans (h.inn x b).1,(h.inn x b).2⟩⟩
theorem SkAt.below{w w':World}{q q2:Nat}{s:Sh}{t:Sk}(h:SkAt w q q2 s t)(hb:Below w.heap.size w w'):SkAt w' q q2 s t:=
 ⟨h.row.below hb,fun x b=>⟨(h.inn x b).1.below hb,(h.inn x b).2⟩⟩
structure zbo (q q2:Nat) (w w':World) (e:Ending) (s:Sh) (t:Sk):Prop where
 ret:e= .returned (.tuple #[])
 at':∃ q3,SkAt w' q q3 s t/\(q3=q2\/w.heap.size<=q3)
 only:Only (fun k=> k=q) w w'
theorem zmr(q:Nat)(s:Sh)(t:Sk)(n:Value)(pg sl:Int)(w:World)(m:zaa w q (za1 s t n) 233):
  Calls Tryz.prog 143 #[some q,pg,sl] w fun e w'=>Turned q w w' e (za1 s (t.fin pg sl) n) 233:=by
 have h0:=At1.start m;clear m;obtain⟨sp,r,y⟩:=s;obtain⟨z,B,tf,o,C,j,l,b,i⟩:=t;have p:=h0.cell;have D:=h0.free;go_in;go_wp2_with fail;go_returns;exact((((h0.set 8 _).set 9 _).set 10 _).set 11 _).fin rfl
theorem zol(q:Nat)(s:Sh)(t:Sk)(E:Value)(w:World)(y:zaa w q (za1 s t E) 233)(h2:0<=t.many/\t.many<64):
  Calls Tryz.prog 151 #[some q] w fun e w'=>Turned q w w' e (za1 s (t.turn s) .nilIface) 233:=by
 have h0:=At1.start y;clear y;unfold Sk.turn;obtain⟨sp,I,J⟩:=s;obtain⟨L,M,tf,z,o,p,r,b,n⟩:=t;dsimp only at h2 ⊢;obtain⟨G,H⟩:=h2;have i:=h0.cell;have B:=h0.free;have N:=wrp (o+1);go_in;go_upto_region 2 with fail;have j:=(h0.set 6 .nilIface).set 7 (.int .i64 (o+1));generalize World.setCell _ ⟨q,7,.none⟩ (.int .i64 (o+1))=U at *;clear i h0 B;have C:=j.cell;have F:=j.lt;refine wret 13 ?_;repeat (go_big_quiet_step (fail))
 refine wqn fun T m=>?_;have l:=j.below m;have D:=l.cell;have B:=l.free;go_wp2_with fail;go_returns;exact(l.set 11 _).fin rfl
theorem zo6(q:Nat)(s:Sh)(t:Sk)(z:Value)(w:World)(j:zaa w q (za1 s t z) 233)(o:1<=s.p/\s.p<=64)(h1:0<=t.first/\t.first<64)(h2:0<=t.many/\t.many<=64):
  Calls Tryz.prog 150 #[some q] w fun e w'=>e= .returned (.int .i64 (t.here s))/\Below w.heap.size w w':=by
 unfold Sk.here;obtain⟨sp,L,M⟩:=s;obtain⟨N,O,tf,r,b,m,n,i,l⟩:=t;dsimp only at o h1 h2 ⊢;have F:=j.lt;have y:=j.cell;obtain⟨I,J⟩:=o;obtain⟨D,E⟩:=h1;obtain⟨G,H⟩:=h2;have R:=wrp (tf+b);have S:(tf+b).tmod sp=(tf+b)%sp:=Int.tmod_eq_emod_of_nonneg (by omega);have U:(sp==0)=false:=by simp;omega
 have T:IntKind.i64.wrap ((tf+b)%sp)=(tf+b)%sp:=by have B:=Int.emod_nonneg (tf+b) (by omega:sp≠0);have C:=Int.emod_lt_of_pos (tf+b) (by omega:0<sp);exact IntWalk.i64_in _ ⟨by omega,by omega⟩
 clear j;go_in;go_wp2_with fail;go_quiet (fail);have hb:=below_drewN (Below.refl w.heap.size w) nq;go_wp2_with fail;go_returns;exact⟨rfl,hb⟩
theorem zow(q:Nat)(s:Sh)(t:Sk)(S:Value)(pg:Int)(w:World)(R:zaa w q (za1 s t S) 233):
  Calls Tryz.prog 148 #[some q,pg] w fun e w'=>∃ q3,w.heap.size<=q3/\zaa w' q3 (ze5 s (zfi s t.c pg t.k)) 268/\Turned q w w' e (za1 s (t.bind s pg) (mcV (.bn (zfi s t.c pg t.k)) q3)) 233:=by
 have h0:=At1.start R;clear R;have i:=fun Y=>z1j s t.c pg t.k Y;generalize B:zfi s t.c pg t.k=O at *;obtain⟨M,C,n⟩:∃ M:Sk,Hid (M= {t with page:=pg,now:=some (.bn O)})/\M=t.bind s pg:=⟨_,hd' (by rw[Sk.bind,B]),rfl⟩;rw[<-n];clear n B;obtain⟨cs,J,m⟩:=hidv (ze5 s O);rw[<-m]at i ⊢;clear m J;obtain⟨sp,D,E⟩:=s;obtain⟨F,G,tf,o,T,N,l,b,j⟩:=t;dsimp only at i C ⊢;replace i:=hd' i;have H:=h0.cell;have V:=h0.free;go_in;go_upto_region 1 with fail;have p:=h0.set 8 (.int .i64 pg);generalize World.setCell _ ⟨q,8,.none⟩ (.int .i64 pg)=U at *;clear H h0 V;replace p:At1 q w U (za1 ⟨sp,D,E⟩ ⟨F,G,tf,o,T,pg,l,b,j⟩ S) 233:=p;have hS:=hd' (fun (Y:World) (v:Value) (h:zaa Y q (za1 ⟨sp,D,E⟩ ⟨F,G,tf,o,T,pg,l,b,j⟩ v) 233)=>(⟨h.cell 0,h.cell 1,h.cell 2,h.cell 3,h.cell 4,h.cell 8⟩:Y.cell? ⟨q,0,.none⟩=some (.int .i64 sp)/\Y.cell? ⟨q,1,.none⟩=some (.int .i64 D)/\Y.cell? ⟨q,2,.none⟩=some (.int .i64 E)/\Y.cell? ⟨q,3,.none⟩=some (.int .i64 F)/\Y.cell? ⟨q,4,.none⟩=some (.int .i64 G)/\Y.cell? ⟨q,8,.none⟩=some (.int .i64 pg)))
 go_region_held3 (fun Y=>Y.cell? ⟨q,0,.none⟩=some (.int .i64 sp)/\Y.cell? ⟨q,1,.none⟩=some (.int .i64 D)/\Y.cell? ⟨q,2,.none⟩=some (.int .i64 E)/\Y.cell? ⟨q,3,.none⟩=some (.int .i64 F)/\Y.cell? ⟨q,4,.none⟩=some (.int .i64 G)/\Y.cell? ⟨q,8,.none⟩=some (.int .i64 pg))
  (first|exact hS.out _ _ p.row.drew|exact hS.out _ _ z.row|exact hS.out _ _ ((z.set 6 _).row.cast rfl))
  ((go_at_call 154;(with_reducible refine(i.out _).mono ?_);rintro r Z ⟨q3,rfl,L,y,I⟩;have z:=(At1.drewN p 1).below I;have X:=z.cell;have V:=z.free))
 go_wp2_with fail;go_returns;exact⟨q3,Nat.le_trans p.only.size L,y.other (by have:=p.ls;have:=p.only.size;have hd:U.drew.heap.size=U.heap.size:=rfl;omega) _ _,(z.set 6 _).fin (by rw[C.out];rfl)⟩
theorem zbo.zna{q q2:Nat}{w w':World}{e:Ending}{s:Sh}{t t':Sk}(h:SkAt w q q2 s t)(b:t'.now=t.now\/t'.now=none)(f:Turned q w w' e (za1 s t' (nowV t'.now q2)) 233):zbo q q2 w w' e s t':=by
 refine⟨f.ret,⟨q2,⟨f.row,fun x i=>?_⟩,.inl rfl⟩,f.only⟩;rcases b with b|b
 ·obtain⟨h1,h2⟩:=h.inn x (b ▸ i);exact⟨h1.only f.only (fun e=>h2 e.symm),h2⟩
 rw[b]at i;cases i
theorem zyv(q q2:Nat)(s:Sh)(t:Sk)(x:Tk)(w:World)(h:SkAt w q q2 s t)(S:t.now=some (.tk x)):
  Calls Tryz.prog 134 #[some q] w fun e w'=>zbo q q2 w w' e s (t.after s (.tk x)):=by
 obtain⟨B,b0⟩:=h.inn _ S;have h0:=At1.start h.row;rw[S]at h0;have i:=fun Y (T:zaa Y q2 (zd1 s x) 244)=>zu4 q2 s x Y T;have M:zaa w q2 (zd1 s x) 244:=B;clear B;have R:=fun Y (T:zaa Y q (za1 s t (mcV (.tk x) q2)) 233)=>zmr q s t (mcV (.tk x) q2) x.ep x.es Y T;have l:=fun Y=>z1s s t.c t.k t.first Y;have hr:t.after s (.tk x)=if x.found=true then t.fin x.ep x.es else {t with now:=some (.sc (ziq s t.c t.k t.first))}:=rfl;have j:Hid (∀ Y e,Turned q w Y e (za1 s (t.fin x.ep x.es) (mcV (.tk x) q2)) 233->zbo q q2 w Y e s (t.fin x.ep x.es)):=hd' fun Y e p=>zbo.zna h (.inl rfl) (by show Turned q w Y e (za1 s (t.fin x.ep x.es) (nowV t.now q2)) _;rw[S];exact p);rw[hr];clear hr h S;rcases Bool.eq_false_or_eq_true x.found with E|E
 ·rw[if_pos E];unfold zgd at i;rw[E]at i;clear l E;simp only[if_true]at i;generalize x.ep=a at *;generalize x.es=b at *;generalize X:t.fin a b=t2 at *;clear X;generalize zd1 s x=Z at *;have c6:=ce (.iface 234 (.pointer (some ⟨q2,0,.none⟩))) (h0.cell 6);replace i:=hd' i;replace R:=hd' R;go_in;go_wp2_with (first|(go_at_call 142;(with_reducible refine(i.out _ M).mono ?_);rintro r w1 ⟨rfl,D⟩;have o:=h0.below D)|(go_at_call 143;(with_reducible refine(R.out _ o.row).mono ?_);rintro r w2 p;obtain rfl:=p.ret));go_returns;exact j.out _ _ ((o.turned p).fin rfl)
 rw[if_neg (by rw[E];decide)];unfold zgd at i;rw[E]at i;clear j R E;simp only[Bool.false_eq_true,if_false]at i;obtain⟨y,hy,N⟩:=hidv (ziq s t.c t.k t.first);rw[<-N]at l ⊢;clear hy N;obtain⟨J,m⟩:∃ J,J=zbt s y:=⟨_,rfl⟩;rw[<-m]at l
 have j:Hid (∀ Y e q3,w.heap.size<=q3->zaa Y q3 J 261->Turned q w Y e (za1 s {t with now:=some (.sc y)} (mcV (.sc y) q3)) 233->zbo q q2 w Y e s {t with now:=some (.sc y)}):=hd' fun Y e q3 h3 C p=>⟨p.ret,⟨q3,⟨p.row,fun z hz=>by
  simp only[Option.some.injEq]at hz
  subst hz
  rw[m]at C
  exact⟨C,by have:=h0.ls;omega⟩⟩,.inr h3⟩,p.only⟩
 clear m;generalize zd1 s x=Z at *;obtain⟨sp,sc,sm⟩:=s;obtain⟨tc,tk,tf,O,tm,H,I,n,G⟩:=t;dsimp only at l j ⊢;have c6:=ce (.iface 234 (.pointer (some ⟨q2,0,.none⟩))) (h0.cell 6);replace i:=hd' i;replace l:=hd' l;go_in;go_upto_region 6 with(first|(go_at_call 142;(with_reducible refine(i.out _ M).mono ?_);rintro r w1 ⟨rfl,D⟩;have o:=h0.below D));clear c6;have hS:=hd' (fun (Y:World) (v:Value) (h:zaa Y q (za1 ⟨sp,sc,sm⟩ ⟨tc,tk,tf,O,tm,H,I,n,G⟩ v) 233)=>(⟨h.cell 0,h.cell 1,h.cell 2,h.cell 3,h.cell 4,h.cell 5⟩:Y.cell? ⟨q,0,.none⟩=some (.int .i64 sp)/\Y.cell? ⟨q,1,.none⟩=some (.int .i64 sc)/\Y.cell? ⟨q,2,.none⟩=some (.int .i64 sm)/\Y.cell? ⟨q,3,.none⟩=some (.int .i64 tc)/\Y.cell? ⟨q,4,.none⟩=some (.int .i64 tk)/\Y.cell? ⟨q,5,.none⟩=some (.int .i64 tf)))
 go_region_held3 (fun Y=>Y.cell? ⟨q,0,.none⟩=some (.int .i64 sp)/\Y.cell? ⟨q,1,.none⟩=some (.int .i64 sc)/\Y.cell? ⟨q,2,.none⟩=some (.int .i64 sm)/\Y.cell? ⟨q,3,.none⟩=some (.int .i64 tc)/\Y.cell? ⟨q,4,.none⟩=some (.int .i64 tk)/\Y.cell? ⟨q,5,.none⟩=some (.int .i64 tf))
  (first|exact hS.out _ _ o.row.drew|exact hS.out _ _ L.row|exact hS.out _ _ ((L.set 6 _).row.cast rfl))
  ((go_at_call 144;(with_reducible refine(l.out _).mono ?_);rintro r w2 ⟨q3,rfl,V,F,U⟩;have L:=(At1.drewN o 1).below U;have z6:=L.cell 6;have zf:=L.free))
 go_wp2_with fail;go_returns;exact j.out _ _ q3 (Nat.le_trans o.only.size V) (F.other (by have:=o.ls;have:=o.only.size;have hd:w1.drew.heap.size=w1.heap.size:=rfl;omega) _ _) ((L.set 6 _).fin rfl)
theorem zx0(q q2:Nat)(s:Sh)(t:Sk)(x:Sc)(w:World)(h:SkAt w q q2 s t)(V:t.now=some (.sc x))(hp:1<=s.p/\s.p<=64)(R:x.found=true->(0<=x.first/\x.first<64)/\(0<=x.many/\x.many<=64)):
  Calls Tryz.prog 134 #[some q] w fun e w'=>zbo q q2 w w' e s (t.after s (.sc x)):=by
 obtain⟨D,b3⟩:=h.inn _ V;have h0:=At1.start h.row;rw[V]at h0;have j:=fun Y (X:zaa Y q2 (zbt s x) 261)=>zum q2 s x Y X hp R;have O:zaa w q2 (zbt s x) 261:=D;clear D;have U:=fun Y (X:zaa Y q (za1 s t (mcV (.sc x) q2)) 233)=>zmr q s t (mcV (.sc x) q2) (x.page s) x.i Y X;have m:=fun Y=>z3d s t.c t.first Y;have hr:t.after s (.sc x)=if x.found=true then t.fin (x.page s) x.i else {t with now:=some (.pc (zlu s t.c t.first))}:=rfl;have l:Hid (∀ Y e,Turned q w Y e (za1 s (t.fin (x.page s) x.i) (mcV (.sc x) q2)) 233->zbo q q2 w Y e s (t.fin (x.page s) x.i)):=hd' fun Y e C=>zbo.zna h (.inl rfl) (by show Turned q w Y e (za1 s (t.fin (x.page s) x.i) (nowV t.now q2)) _;rw[V];exact C);rw[hr];clear hr h V R;unfold zgd at j;rcases Bool.eq_false_or_eq_true x.found with G|G
 ·rw[if_pos G];rw[G]at j;clear m G;simp only[if_true]at j;generalize x.page s=a at *;generalize x.i=b at *;generalize b1:t.fin a b=t2 at *;clear b1;generalize zbt s x=b2 at *;have c6:=ce (.iface 254 (.pointer (some ⟨q2,0,.none⟩))) (h0.cell 6);replace j:=hd' j;replace U:=hd' U;go_in;go_wp2_with (first|(go_at_call 145;(with_reducible refine(j.out _ O).mono ?_);rintro r w1 ⟨rfl,F⟩;have B:=h0.below F)|(go_at_call 143;(with_reducible refine(U.out _ B.row).mono ?_);rintro r w2 C;obtain rfl:=C.ret));go_returns;exact l.out _ _ ((B.turned C).fin rfl)
 rw[if_neg (by rw[G];decide)];rw[G]at j;clear l U G;simp only[Bool.false_eq_true,if_false]at j;obtain⟨y,hy,S⟩:=hidv (zlu s t.c t.first);rw[<-S]at m ⊢;clear hy S;obtain⟨M,n⟩:∃ M,M=zfn s y:=⟨_,rfl⟩;rw[<-n]at m
 have l:Hid (∀ Y e q3,w.heap.size<=q3->zaa Y q3 M 263->Turned q w Y e (za1 s {t with now:=some (.pc y)} (mcV (.pc y) q3)) 233->zbo q q2 w Y e s {t with now:=some (.pc y)}):=hd' fun Y e q3 h3 E C=>⟨C.ret,⟨q3,⟨C.row,fun z hz=>by
  simp only[Option.some.injEq]at hz
  subst hz
  rw[n]at E
  exact⟨E,by have:=h0.ls;omega⟩⟩,.inr h3⟩,C.only⟩
 clear n;generalize zbt s x=b2 at *;obtain⟨sp,sc,sm⟩:=s;obtain⟨tc,tk,tf,T,tm,J,L,o,I⟩:=t;dsimp only at m l ⊢;have c6:=ce (.iface 254 (.pointer (some ⟨q2,0,.none⟩))) (h0.cell 6);replace j:=hd' j;replace m:=hd' m;go_in;go_upto_region 12 with(first|(go_at_call 145;(with_reducible refine(j.out _ O).mono ?_);rintro r w1 ⟨rfl,F⟩;have B:=h0.below F));clear c6;have hS:=hd' (fun (Y:World) (v:Value) (h:zaa Y q (za1 ⟨sp,sc,sm⟩ ⟨tc,tk,tf,T,tm,J,L,o,I⟩ v) 233)=>(⟨h.cell 0,h.cell 1,h.cell 2,h.cell 3,h.cell 4,h.cell 5⟩:Y.cell? ⟨q,0,.none⟩=some (.int .i64 sp)/\Y.cell? ⟨q,1,.none⟩=some (.int .i64 sc)/\Y.cell? ⟨q,2,.none⟩=some (.int .i64 sm)/\Y.cell? ⟨q,3,.none⟩=some (.int .i64 tc)/\Y.cell? ⟨q,4,.none⟩=some (.int .i64 tk)/\Y.cell? ⟨q,5,.none⟩=some (.int .i64 tf)))
 go_region_held3 (fun Y=>Y.cell? ⟨q,0,.none⟩=some (.int .i64 sp)/\Y.cell? ⟨q,1,.none⟩=some (.int .i64 sc)/\Y.cell? ⟨q,2,.none⟩=some (.int .i64 sm)/\Y.cell? ⟨q,3,.none⟩=some (.int .i64 tc)/\Y.cell? ⟨q,4,.none⟩=some (.int .i64 tk)/\Y.cell? ⟨q,5,.none⟩=some (.int .i64 tf))
  (first|exact hS.out _ _ B.row.drew|exact hS.out _ _ N.row|exact hS.out _ _ ((N.set 6 _).row.cast rfl))
  ((go_at_call 146;(with_reducible refine(m.out _).mono ?_);rintro r w2 ⟨q3,rfl,b0,H,Z⟩;have N:=(At1.drewN B 1).below Z;have z6:=N.cell 6;have zf:=N.free))
 go_wp2_with fail;go_returns;exact l.out _ _ q3 (Nat.le_trans B.only.size b0) (H.other (by have:=B.ls;have:=B.only.size;have hd:w1.drew.heap.size=w1.heap.size:=rfl;omega) _ _) ((N.set 6 _).fin rfl)
theorem zyx(q q2:Nat)(s:Sh)(t:Sk)(x:Pc)(w:World)(h:SkAt w q q2 s t)(G:t.now=some (.pc x))(T:1<=s.p/\s.p<=64)(B:x.found=true->(0<=x.first/\x.first<64)/\(0<=x.many/\x.many<=64)):
  Calls Tryz.prog 134 #[some q] w fun e w'=>zbo q q2 w w' e s (t.after s (.pc x)):=by
 obtain⟨m,S⟩:=h.inn _ G;have h0:At1 q w w (za1 s t (mcV (.pc x) q2)) 233:=by have h1:=At1.start h.row;rw[G]at h1;exact h1
 have J:zaa w q2 (zfn s x) 263:=m;clear m;have c6:=ce (.iface 256 (.pointer (some ⟨q2,0,.none⟩))) (h0.cell 6);have b:=zu1 q2 s x w J T B;have n:=fun Y (R:zaa Y q (za1 s t (mcV (.pc x) q2)) 233)=>zow q s t (mcV (.pc x) q2) (x.page s) Y R;have M:t.after s (.pc x)=if x.found=true then t.bind s (x.page s) else {t with now:=none}:=rfl;rw[M];rcases Bool.eq_false_or_eq_true x.found with o|o
 ·rw[if_pos o];rw[o]at b;simp only[if_true]at b
  have i:Hid (∀ Y e F q3,Below w.heap.size w Y->Y.heap.size<=q3->zaa F q3 (ze5 s (zfi s t.c (x.page s) t.k)) 268->Turned q Y F e (za1 s (t.bind s (x.page s)) (mcV (.bn (zfi s t.c (x.page s) t.k)) q3)) 233->zbo q q2 w F e s (t.bind s (x.page s))):=hd' fun Y e F q3 hb h3 E j=>⟨j.ret,⟨q3,⟨j.row,fun z H=>by
   simp only[Sk.bind,Option.some.injEq]at H
   subst H
   exact⟨E,by have:=h0.ls;have:=hb.size;omega⟩⟩,.inr (by have:=hb.size;omega)⟩,(Only.of_below hb).trans j.only (fun _ _ e=>e)⟩
  have O:=h0;clear h G B M o;generalize za1 s t (mcV (.pc x) q2)=I at *;generalize ze5 s (zfi s t.c (x.page s) t.k)=N at *;have D:Hid (∀ Y,zaa Y q I 233->Calls Tryz.prog 148 #[some q,.int .i64 (x.page s)] Y fun e w'=>∃ q3,Y.heap.size<=q3/\zaa w' q3 N 268/\Turned q Y w' e (za1 s (t.bind s (x.page s)) (mcV (.bn (zfi s t.c (x.page s) t.k)) q3)) 233):=hd' n;generalize x.page s=a at *;generalize t.bind s a=V at *;clear n;replace b:=hd' b;go_in;go_wp2_with (first|(go_at_call 147;(with_reducible refine b.out.mono ?_);rintro r U ⟨rfl,l⟩;have C:=h0.below l)|(go_at_call 148;(with_reducible refine(D.out _ C.row).mono ?_);rintro r X ⟨q3,L,y,j⟩;obtain rfl:=j.ret));go_returns;exact i.out _ _ _ q3 l L y j
 rw[if_neg (by rw[o];decide)];rw[o]at b;simp only[Bool.false_eq_true,if_false]at b;have i:Hid (∀ Y e,Turned q w Y e (za1 s {t with now:=none} .nilIface) 233->zbo q q2 w Y e s {t with now:=none}):=hd' fun Y e j=>⟨j.ret,⟨q2,⟨j.row,fun z H=>(by cases H)⟩,.inl rfl⟩,j.only⟩;clear h G B M o n;replace b:=hd' b;go_in;go_wp2_with (first|(go_at_call 147;(with_reducible refine b.out.mono ?_);rintro r U ⟨rfl,l⟩;have C:=h0.below l;have Z:=C.cell 6;have zf:=C.free));go_returns;exact i.out _ _ ((C.set 6 _).fin rfl)
theorem zxn(q q2:Nat)(s:Sh)(t:Sk)(x:Sp)(w:World)(h:SkAt w q q2 s t)(J:t.now=some (.sp x))(N:1<=s.p/\s.p<=64)(h1:0<=t.first/\t.first<64)(h2:0<=t.many/\t.many<64):
  Calls Tryz.prog 134 #[some q] w fun e w'=>zbo q q2 w w' e s (t.after s (.sp x)):=by
 obtain⟨n,U⟩:=h.inn _ J;have h0:At1 q w w (za1 s t (mcV (.sp x) q2)) 233:=by have h1:=At1.start h.row;rw[J]at h1;exact h1
 have M:zaa w q2 (zc9 s x) 266:=n;clear n;have c6:=ce (.iface 236 (.pointer (some ⟨q2,0,.none⟩))) (h0.cell 6);have b:=zpa q2 (zc9 s x) x.held w M rfl;have y:=fun Y (E:zaa Y q (za1 s t (mcV (.sp x) q2)) 233)=>zow q s t (mcV (.sp x) q2) (t.here s) Y E;have l:=fun Y (E:zaa Y q (za1 s t (mcV (.sp x) q2)) 233)=>zo6 q s t (mcV (.sp x) q2) Y E N h1 (by omega);have m:=fun Y (E:zaa Y q (za1 s t (mcV (.sp x) q2)) 233)=>zol q s t (mcV (.sp x) q2) Y E h2;have R:t.after s (.sp x)=if x.held=true then t.bind s (t.here s) else t.turn s:=rfl;rw[R];rcases Bool.eq_false_or_eq_true x.held with B|B
 ·rw[if_pos B];rw[B]at b
  have j:Hid (∀ Y e I q3,Below w.heap.size w Y->Y.heap.size<=q3->zaa I q3 (ze5 s (zfi s t.c (t.here s) t.k)) 268->Turned q Y I e (za1 s (t.bind s (t.here s)) (mcV (.bn (zfi s t.c (t.here s) t.k)) q3)) 233->zbo q q2 w I e s (t.bind s (t.here s))):=hd' fun Y e I q3 hb h3 H i=>⟨i.ret,⟨q3,⟨i.row,fun z L=>by
   simp only[Sk.bind,Option.some.injEq]at L
   subst L
   exact⟨H,by have:=h0.ls;have:=hb.size;omega⟩⟩,.inr (by have:=hb.size;omega)⟩,(Only.of_below hb).trans i.only (fun _ _ e=>e)⟩
  clear h J R B m h1 h2 N;generalize za1 s t (mcV (.sp x) q2)=D at *;generalize ze5 s (zfi s t.c (t.here s) t.k)=S at *;have G:Hid (∀ Y,zaa Y q D 233->Calls Tryz.prog 148 #[some q,.int .i64 (t.here s)] Y fun e w'=>∃ q3,Y.heap.size<=q3/\zaa w' q3 S 268/\Turned q Y w' e (za1 s (t.bind s (t.here s)) (mcV (.bn (zfi s t.c (t.here s) t.k)) q3)) 233):=hd' y;generalize t.here s=a at *;generalize t.bind s a=V at *;clear y;replace b:=hd' b;replace l:=hd' l;go_in;go_wp2_with (first|(go_at_call 149;(with_reducible refine b.out.mono ?_);rintro r X ⟨rfl,o⟩;obtain rfl:=o.symm)|(go_at_call 150;(with_reducible refine(l.out _ h0.row).mono ?_);rintro r Z ⟨rfl,F⟩;have T:=h0.below F)|(go_at_call 148;(with_reducible refine(G.out _ T.row).mono ?_);rintro r w3 ⟨q3,O,C,i⟩;obtain rfl:=i.ret));go_returns;exact j.out _ _ _ q3 F O C i
 rw[if_neg (by rw[B];decide)];rw[B]at b;have j:Hid (∀ Y e,Turned q w Y e (za1 s (t.turn s) .nilIface) 233->zbo q q2 w Y e s (t.turn s)):=hd' fun Y e i=>⟨i.ret,⟨q2,⟨i.row,fun z L=>(by cases L)⟩,.inl rfl⟩,i.only⟩;clear h J R B y l h1 h2 N;generalize za1 s t (mcV (.sp x) q2)=D at *;generalize t.turn s=V at *;replace b:=hd' b;replace m:=hd' m;go_in;go_wp2_with (first|(go_at_call 149;(with_reducible refine b.out.mono ?_);rintro r X ⟨rfl,o⟩;obtain rfl:=o.symm)|(go_at_call 151;(with_reducible refine(m.out _ h0.row).mono ?_);rintro r Z i;obtain rfl:=i.ret));go_returns;exact j.out _ _ i
theorem zy4(q q2:Nat)(s:Sh)(t:Sk)(x:Bn)(w:World)(h:SkAt w q q2 s t)(l:t.now=some (.bn x)):
  Calls Tryz.prog 134 #[some q] w fun e w'=>zbo q q2 w w' e s (t.after s (.bn x)):=by
 obtain⟨b,p⟩:=h.inn _ l;have h0:At1 q w w (za1 s t (mcV (.bn x) q2)) 233:=by have h1:=At1.start h.row;rw[l]at h1;exact h1
 have o:zaa w q2 (ze5 s x) 268:=b;clear b;have c6:=ce (.iface 259 (.pointer (some ⟨q2,0,.none⟩))) (h0.cell 6);have m:=zmr q s t (mcV (.bn x) q2) t.page 0 w h0.row;have n:t.after s (.bn x)=t.fin t.page 0:=rfl;rw[n];have i:Hid (∀ Y e,Turned q w Y e (za1 s (t.fin t.page 0) (mcV (.bn x) q2)) 233->zbo q q2 w Y e s (t.fin t.page 0)):=hd' fun Y e j=>zbo.zna h (.inl rfl) (by show Turned q w Y e (za1 s (t.fin t.page 0) (nowV t.now q2)) _;rw[l];exact j);have c8:=ci t.page (h0.cell 8);clear h l n;generalize t.fin t.page 0=y at *;generalize t.page=pg at *;replace m:=hd' m;go_in;go_wp2_with (first|(go_at_call 143;(with_reducible refine m.out.mono ?_);rintro r z j;obtain rfl:=j.ret));go_returns;exact i.out _ _ j
theorem zvb(q q2:Nat)(s:Sh)(t:Sk)(x:Mc)(w:World)(h:SkAt w q q2 s t)(b:t.now=some x)(l:1<=s.p/\s.p<=64)(m:skOk s t)(hd:t.done=false):
  Calls Tryz.prog 134 #[some q] w fun e w'=>zbo q q2 w w' e s (t.after s x):=by
 obtain⟨c1,c2,c3,c4,c5⟩:=m.cl hd;obtain⟨i,_⟩:=c5 x b;cases x with
 |tk x=>exact zyv q q2 s t x w h b
 |sc x=>exact zx0 q q2 s t x w h b l (fun j=>by have:=i.fd j;omega)
 |pc x=>exact zyx q q2 s t x w h b l (fun j=>by have:=i.fd j;omega)
 |sp x=>exact zxn q q2 s t x w h b l (by omega) (by omega)
 |bn x=>exact zy4 q q2 s t x w h b
end

end Go.Proofs.YtedcnffebdpmmaaGreat
