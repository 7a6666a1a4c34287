/- The magazine's machines in memory: Taker, Putter. -/
import Derived.Deep.CutBlock

import Derived.Test.YtkbddndcegpllaaGreatBg9

set_option linter.all false
set_option maxHeartbeats 1000000
set_option maxRecDepth 100000
namespace Go.Proofs.YtkbddndcegpllaaGreat

open Go.RowKit

attribute [local go_sem ↓] Go.wp_at_zero Go.wp_at_succ

def zd1 (s:Sh) (t:Tk):Array Value:= #[.int .i64 s.p,.int .i64 s.c,.int .i64 s.m,.int .i64 t.c,.int .i64 t.k,.int .i64 t.i,.int .i64 t.ep,.int .i64 t.es,.int .i64 t.ek,.bool t.hit,.bool t.found,.bool t.done]
def z1r (s:Sh) (c k:Int):Bool:=decide (0<=zae s.p s.c s.m c) && decide (0 < zah k)
theorem zwl(s:Sh)(c k:Int)(w:World):
  Calls Tryz.prog 201 #[.agg #[.int .i64 s.p,.int .i64 s.c,.int .i64 s.m],.int .i64 c,.int .i64 k] w fun e w'=>e= .returned (.bool (z1r s c k))/\Below w.heap.size w w':=by
 unfold z1r;rcases Int.lt_or_le (zae s.p s.c s.m c) 0 with i|i
 ·rw[decide_eq_false (by omega:¬ 0<=zae s.p s.c s.m c),Bool.false_and];go_in;go_wp2_with (go_at_call 57;(with_reducible refine(zau _ _ _ _ _).mono ?_);rintro r j ⟨rfl,b⟩);go_ret;exact⟨rfl,boxedB b⟩
 rw[decide_eq_true i,Bool.true_and];go_in;go_wp2_with (first|(go_at_call 57;(with_reducible refine(zau _ _ _ _ _).mono ?_);rintro r j ⟨rfl,b⟩)|(go_at_call 65;(with_reducible refine(slots_any _ _).mono ?_);rintro r l ⟨rfl,rfl⟩));go_ret;exact⟨rfl,boxedB b⟩
theorem z0e(s:Sh)(c k:Int)(w:World):
  Calls Tryz.prog 187 #[.agg #[.int .i64 s.p,.int .i64 s.c,.int .i64 s.m],.int .i64 c,.int .i64 k] w fun e w'=>Born w w' e (zd1 s (zg3 s c k)) 305:=by
 have n:=fun W=>zwl s c k W;obtain⟨g,o,b⟩:=hidv (z1r s c k);rw[<-b]at n;clear b;obtain⟨sp,j,i⟩:=s;dsimp only at n;replace n:=hd' n;have z:zd1 ⟨sp,j,i⟩ (zg3 ⟨sp,j,i⟩ c k)= #[.int .i64 sp,.int .i64 j,.int .i64 i,.int .i64 c,.int .i64 k,.int .i64 0,.int .i64 0,.int .i64 0,.int .i64 0,.bool false,.bool false,.bool (!g||i==0)]:=by rw[o.out];rfl
 rw[z];clear z o;have q:=(Below.refl w.heap.size w).alloc lr (.cells #[.int .i64 sp,.int .i64 j,.int .i64 i] 23);have t0:=heap_alloc_new w (.cells #[.int .i64 sp,.int .i64 j,.int .i64 i] 23);go_in;go_upto_region 1 with fail;generalize w.alloc (.cells #[.int .i64 sp,.int .i64 j,.int .i64 i] 23)=W at *;obtain⟨H,B,l⟩:=hidv w.heap.size;rw[<-l]at t0 ⊢;have C:H<W.heap.size:=(Array.getElem?_eq_some_iff.1 t0).1;have c0:W.cell? ⟨H,0,.none⟩=some (.int .i64 sp):=zac t0 0;have c1:W.cell? ⟨H,1,.none⟩=some (.int .i64 j):=zac t0 1;have c2:W.cell? ⟨H,2,.none⟩=some (.int .i64 i):=zac t0 2;clear l t0;cases g;all_goals
  refine zad 14 (by kernel_rfl) (by kernel_rfl) ?_;dsimp only[List.take,List.drop];repeat (go_big_quiet_step (((go_at_call 201;exact zam (n.out _)))))
  refine wpQuiet_nil ?_;rintro _ ⟨y,rfl⟩;have r:=y.below;generalize y.w=X at *;change wpList _ _ _ _ _ X;go_wp2_with fail;go_ret;exact za6 q r rfl
def enP (s:Sh) (x:Int) (i:Nat):Int:=if zbi s.p s.c s.m x=true then za2 x i else 0
theorem zzr(s:Sh)(x:Int)(w:World)(b:0<=x/\x<18446744073709551616):
  Calls Tryz.prog 166 #[.agg #[.int .i64 s.p,.int .i64 s.c,.int .i64 s.m],.int .u64 x] w fun e w'=>e= .returned (.tuple #[.agg #[.int .i64 (enP s x 0),.int .i64 (enP s x 1),.int .i64 (enP s x 2)],.bool (zbi s.p s.c s.m x)])/\Below w.heap.size w w':=by
 refine(zp3 s.p s.c s.m x w b.1 b.2).mono ?_;rintro e w' ⟨hb,rfl⟩;refine⟨?_,hb⟩;unfold enP;cases zbi s.p s.c s.m x<;>rfl
theorem yam{l:List Oper}{aF:Act}{Q:Exit->Act->World->Prop}{x:zd0}{a0 a1 q:Int}{z B:TypeId}{Z p2:String}{r b:Array Edge}{y:Oper}
  (U:x.t=207) (X:x.zero= #[.int .i64 0,.int .i64 0,.int .i64 0]) (V:x.val= #[.int .i64 a0,.int .i64 a1,.int .i64 q]) (D:aF.eval (.tmp x.src)= .agg #[.int .i64 a0,.int .i64 a1,.int .i64 q])
  (J:l.toArray[x.al]?=some { dst:=some x.d,op:= .alloc 207,type:=z,pos:=Z,after:=r,guard:=none})
  (C:l.toArray[x.st]?=some { dst:=none,op:= .store 207 (.tmp x.d) (.tmp x.src),type:=B,pos:=p2,after:=b,guard:=none})
  (L:l.toArray[x.so]?=some y) (N:y.dst=some x.src) (O:(b.any fun e=>Region.binds .any e&&e.on==x.al)=true) (hs:(b.any fun e=>Region.binds .any e&&e.on==x.so)=true):ze2 Tryz.prog l Q aF x:=by
 obtain⟨al,st,so,d,src,t,zero,val⟩:=x;subst U X V;dsimp only at *;refine⟨fun a w K s=>?_,fun a w K M E F f s=>?_,fun listed T=>?_,⟨y,L,N⟩⟩
 ·unfold wpOp;rw[J];simp only[Region.wanted,if_true];left;simp[go_sem,Oper.wp];exact s
 ·unfold wpOp;rw[C];simp only[Region.wanted,if_true];left;have Y:w.cell? ⟨M,0,.none⟩=some (.int .i64 0):=zac f 0;have m1:w.cell? ⟨M,1,.none⟩=some (.int .i64 0):=zac f 1;have m2:w.cell? ⟨M,2,.none⟩=some (.int .i64 0):=zac f 2;have I:∀ i,w.frozen? ⟨M,i,.none⟩=false:=fun i=>zax f i;rw[<-F]at D;have G:a.tmps[d]?.getD undef= .pointer (some ⟨M,0,.none⟩):=by simpa[Act.eval,vptr] using E
  have H:a.tmps[src]?.getD undef= .agg #[.int .i64 a0,.int .i64 a1,.int .i64 q]:=by simpa[Act.eval] using D
  simp[go_sem,Oper.wp,G,H,Y,m1,m2,I];refine s _ ?_ ?_ ?_
  ·rw[heap_setCell_same _ M 2 _ _ _ (heap_setCell_same _ M 1 _ _ _ (heap_setCell_same _ M 0 _ _ _ f))];rfl
  ·exact((((Only.refl (fun k=>k=M) w).setCell (p:=⟨M,0,.none⟩) (.inl rfl) _).setCell (p:=⟨M,1,.none⟩) (.inl rfl) _).setCell (p:=⟨M,2,.none⟩) (.inl rfl) _)
  simp[World.setCell]
 obtain⟨_,o,m,R⟩:=mem_ready.1 T;rw[C]at m;injection m with m;subst m;have j:∀ n,(b.any fun e=>Region.binds .any e&&e.on==n)=true->listed.getD n false=true:=fun n S=>by obtain⟨i,hi,hu⟩:=Array.any_eq_true.1 S;simp only[Bool.and_eq_true,beq_iff_eq]at hu;exact hu.2 ▸ R _ (Array.getElem_mem hi) hu.1
 exact⟨j _ O,j _ hs⟩
def yen (t:Tk) (s:Sh) (_:Mem):Prop:=(0<=t.i/\t.i < s.m)/\0<=s.m/\s.m<=8
theorem zxs(q p b:Nat)(s:Sh)(t:Tk)(m:Mem)(w:World)(hq:zaa w q (zd1 s t) 305)(hw:zaq w p b m)(bs:q≠p)(bq:q≠b)(hf:Fits s m)(ho:tkOk s t)(hs:m.st<1000000000):
  Calls Tryz.prog 307 #[.pointer (some ⟨q,0,.none⟩),.pointer (some ⟨p,0,.none⟩)] w fun e w'=>Stepped q p b w w' e (zd1 s (zd2 s t m).1) 305 (zd2 s t m).2:=by
 have F:=At3.start hq hw bs bq;clear hq hw;rcases Bool.eq_false_or_eq_true t.done with hd|hd
 ·have R:zd2 s t m=(t,m):=by unfold zd2;rw[if_pos hd]
  rw[R];clear R;have b3:w.cell? ⟨q,11,.none⟩=some (.bool true):=by rw[<-hd];exact F.cell 11
  clear ho hd hf;go_in;go_wp2_with fail;go_returns;exact F.fin rfl rfl
 obtain⟨hc,hi⟩:=ho.cl hd;obtain⟨Z,N⟩:=hf.mag hc hi;have n:=fun W=>zjh s.p s.c s.m t.c t.i W;rw[Z]at n;rcases Bool.eq_false_or_eq_true t.hit with hh|hh
 ·have R:zd2 s t m=({t with found:=true,done:=true},m.store t.c (s.c+s.p+s.p*16+t.c*s.m+t.i) 0):=by unfold zd2;rw[if_neg (by rw[hd];decide),if_pos hh,Z]
  rw[R];clear R;have b1:=fun W (hW:zaq W p b m)=>zba p b m t.c (s.c+s.p+s.p*16+t.c*s.m+t.i) 0 W hW N (by decide) hs;clear Z N hf ho hc hi;obtain⟨a,ha⟩:∃ a,a=s.c+s.p+s.p*16+t.c*s.m+t.i:=⟨_,rfl⟩;rw[<-ha]at b1 n ⊢;clear ha;obtain⟨D,tk,C,y,z,o,bk,j,ba⟩:=t;obtain⟨sp,O,L⟩:=s;dsimp only at hd hh b1 n ⊢;subst hd hh;have lq:=F.lt;obtain⟨c0,c1,c2,c3⟩:=ci4 sp O L D F.cell;have c5:=ci C (F.cell 5);have c9:=ce (.bool true) (F.cell 9);have b3:=ce (.bool false) (F.cell 11);replace b1:=hd' b1;replace n:=hd' n;go_in;go_upto_region 1 with fail;refine zaj (by kernel_rfl) (by kernel_rfl) ?_;repeat (go_big_quiet_step (((go_at_call 136;exact zam (n.out _)))))
  refine wpQuiet_nil ?_;rintro _ ⟨e',rfl⟩;have H:=F.below e'.below;generalize e'.w=X at *;have k3:=ci D (H.cell 3);have k5:=ci C (H.cell 5);have k9:=ce (.bool true) (H.cell 9);clear c0 c1 c2 c3 c5 c9 b3 F n;go_wp2_with (go_at_call 257;(with_reducible refine(b1.out _ H.wds).mono ?_);rintro r w1 ⟨rfl,bu,bp⟩;have I:=H.access bu bp;have b5:=ce (.bool j) (I.cell 10);have b2:=ce (.bool false) (I.cell 11);have zf:=I.free);go_returns;exact((I.set 10 _).set 11 _).fin rfl rfl
 have R:zd2 s t m=(if zbi s.p s.c s.m (m.get (s.c+s.p+s.p*16+t.c*s.m+t.i))=true/\enP s (m.get (s.c+s.p+s.p*16+t.c*s.m+t.i)) 2=t.k then {t with ep:=enP s (m.get (s.c+s.p+s.p*16+t.c*s.m+t.i)) 0,es:=enP s (m.get (s.c+s.p+s.p*16+t.c*s.m+t.i)) 1,ek:=enP s (m.get (s.c+s.p+s.p*16+t.c*s.m+t.i)) 2,hit:=true} else {t with i:=t.i+1,done:=decide (t.i+1=s.m)},m.load t.c (s.c+s.p+s.p*16+t.c*s.m+t.i)):=by
  unfold zd2 enP;rw[if_neg (by rw[hd];decide),if_neg (by rw[hh];decide),Z];by_cases hx:zbi s.p s.c s.m (m.get (s.c+s.p+s.p*16+t.c*s.m+t.i))=true
  ·simp only[hx,true_and,if_true];split<;>rfl
  simp[hx]
 rw[R];clear R;have J:=fun W (hW:zaq W p b m)=>zc1 p b m t.c (s.c+s.p+s.p*16+t.c*s.m+t.i) W hW N hs;have G:=fun W=>zzr s (m.get (s.c+s.p+s.p*16+t.c*s.m+t.i)) W (Mem.ze4 F.wds.fit _);have bh:yen t s m:=⟨hi,hf.bd.2.2.2.2⟩;clear Z N hf ho hc hi;obtain⟨a,ha⟩:∃ a,a=s.c+s.p+s.p*16+t.c*s.m+t.i:=⟨_,rfl⟩;rw[<-ha]at J n G ⊢;clear ha;obtain⟨x,hx⟩:∃ x,x=m.get a:=⟨_,rfl⟩;rw[<-hx]at J G ⊢;clear hx;obtain⟨B,hB⟩:∃ B,B=zbi s.p s.c s.m x:=⟨_,rfl⟩;obtain⟨e0,bc⟩:∃ e,e=enP s x 0:=⟨_,rfl⟩;obtain⟨e1,bf⟩:∃ e,e=enP s x 1:=⟨_,rfl⟩;obtain⟨e2,bg⟩:∃ e,e=enP s x 2:=⟨_,rfl⟩;rw[<-hB,<- bc,<- bf,<- bg]at G ⊢;clear hB bc bf bg;obtain⟨D,tk,C,y,z,o,bk,j,ba⟩:=t;obtain⟨sp,O,L⟩:=s;dsimp only[yen]at hd hh J n G bh ⊢;subst hd hh;obtain⟨⟨i0,i1⟩,i2,i3⟩:=bh;obtain⟨t2,b9,b6⟩:∃ t2:Tk,Hid (t2=if B=true/\e2=tk then⟨D,tk,C,e0,e1,e2,true,j,false⟩ else⟨D,tk,C+1,y,z,o,false,j,decide (C+1=L)⟩)/\t2=_:=⟨_,hd' rfl,rfl⟩;rw[<-b6];clear b6;have lq:=F.lt;obtain⟨c0,c1,c2,c3⟩:=ci4 sp O L D F.cell;have c5:=ci C (F.cell 5);have c9:=ce (.bool false) (F.cell 9);have b3:=ce (.bool false) (F.cell 11);replace J:=hd' J;replace G:=hd' G;replace n:=hd' n;go_in;go_upto_region 1 with fail;refine zaj (by kernel_rfl) (by kernel_rfl) ?_;repeat (go_big_quiet_step (((go_at_call 136;exact zam (n.out _)))))
 refine wpQuiet_nil ?_;rintro _ ⟨e',rfl⟩;have H:=F.below e'.below;generalize e'.w=X at *;have bv:=H.lt;obtain⟨k0,k1,k2,k3⟩:=ci4 sp O L D H.cell;have k5:=ci C (H.cell 5);have k9:=ce (.bool false) (H.cell 9);clear c0 c1 c2 c3 c5 c9 b3 F n;go_upto_region 5 with fail;go_cut [5,6] (fun s5 s6 wx=>∃ E,s5= .pointer (some ⟨E,0,.none⟩)/\s6= .bool B/\w.heap.size<=E/\zaa wx E #[.int .i64 e0,.int .i64 e1,.int .i64 e2] 207/\At3 q p b w wx (zd1 ⟨sp,O,L⟩ ⟨D,tk,C,y,z,o,false,j,false⟩) 305 (m.load D a));case first=>
  refine zcl (x:=⟨15,16,13,5,58,207, #[.int .i64 0,.int .i64 0,.int .i64 0], #[.int .i64 e0,.int .i64 e1,.int .i64 e2]⟩) (ld:=10) (v:= .int .u64 x) (ts:= [50,54,55])
   (K0:=fun Y=>At3 q p b w Y (zd1 ⟨sp,O,L⟩ ⟨D,tk,C,y,z,o,false,j,false⟩) 305 m) (K1:=fun Y=>At3 q p b w Y (zd1 ⟨sp,O,L⟩ ⟨D,tk,C,y,z,o,false,j,false⟩) 305 (m.load D a))
   (by kernel_rfl) (by simp only[zfq,zej,nopO,nopC,Nat.reduceBEq,Bool.or_false,Bool.or_true,Bool.false_eq_true,↓reduceIte,Nat.reduceAdd];exact rfl) (by kernel_rfl) (by kernel_rfl) (by kernel_rfl) (by dsimp only;decide) (by dsimp only;simp) (by dsimp only;decide) (by dsimp only;simp) (by kernel_rfl) (by dsimp only;decide) (by simp)
   ⟨⟨fun Y Y' h1 h2 h3=>h1.far h2 h3 H.only.size⟩,⟨fun Y Y' h1 h2 h3=>h1.far h2 h3 H.only.size⟩⟩ H.drew ?_
  apply Exists.intro;refine⟨fun B hb hs=>?_,fun _=>?_,?_,?_⟩;case refine_1=>
   have bj:zaa B q (zd1 ⟨sp,O,L⟩ ⟨D,tk,C,y,z,o,false,j,false⟩) 305:=hb.elim (fun h=>h.row) (fun h=>h.row);have lB:=bj.lt;obtain⟨k0,k1,k2,k3⟩:=ci4 sp O L D bj.cell;repeat (go_big_quiet_step (((go_at_call 166;exact zam (G.out _)))))
   exact wpQuiet_nil rfl
  case refine_2=>exact yam rfl rfl rfl rfl rfl rfl rfl rfl (by dsimp only;decide +kernel) (by dsimp only;decide +kernel)
  case refine_3=>exact zcz rfl (fun _ _=>by simp[go_sem]) fun Y hY hs=>(J.out Y hY.wds).mono fun r Y' ⟨h1,h2,h3⟩=>⟨h1,hY.load h2 h3,h3.weak fun k hk=>hk ▸ Nat.lt_of_lt_of_le hY.ls.2.1 H.only.size⟩
  case refine_4=>intro a w4 M hf;obtain⟨rfl,bw,bn,b0⟩:=hf;obtain⟨hM,b0⟩:=b0 (by simp);simp only[Act.put,vput,vptr];go_wp2;go_meet;exact⟨_,rfl,rfl,Nat.le_trans H.only.size hM,b0,bn⟩
 case rest=>
  obtain⟨E,rfl,rfl,hE,b4,I⟩:=hcut;have bx:E≠q:=fun e=>by rw[e]at hE;omega
  obtain⟨g0,g1,g2⟩:=ci3 e0 e1 e2 b4.cell;obtain⟨z0,z1,z2,z3,z4,z5,z6,z7⟩:=ci8 sp O L D tk C y z I.cell;have z8:=ci o (I.cell 8);have z9:=ce (.bool false) (I.cell 9);have b5:=ce (.bool j) (I.cell 10);have b2:=ce (.bool false) (I.cell 11);have zf:=I.free;clear k0 k1 k2 k3 k5 k9 H bv J G;have w1:=wrp (C+1);have b8:∀ (Y:World),At3 q p b w Y (zd1 ⟨sp,O,L⟩ ⟨D,tk,C,y,z,o,false,j,false⟩) 305 (m.load D a)->True:=fun _ _=>trivial;by_cases hB:B=true/\e2=tk
  ·obtain⟨rfl,rfl⟩:=hB;go_wp2_with fail;go_quiet (fail);have l:=I.drewN nq;have bm:=b4.drewN nq;clear g0 g1 g2 z0 z1 z2 z3 z4 z5 z6 z7 z8 z9 b5 b2 zf b4 I w1 b8;generalize wc.drewN nq=V at *;obtain⟨g0,g1,g2⟩:=ci3 e0 e1 e2 bm.cell;have z6:=ci y (l.cell 6);have z7:=ci z (l.cell 7);have z8:=ci o (l.cell 8);have z9:=ce (.bool false) (l.cell 9);have b5:=ce (.bool j) (l.cell 10);have b2:=ce (.bool false) (l.cell 11);have zf:=l.free;go_wp2_with fail;go_returns;exact((((l.set 6 _).set 7 _).set 8 _).set 9 _).fin (by rw[b9.out,if_pos (by simp)];rfl) rfl
  have R:t2=⟨D,tk,C+1,y,z,o,false,j,decide (C+1=L)⟩:=by rw[b9.out,if_neg hB]
  replace R:=hd' R;clear b9;have bi:B=false\/(B=true/\(e2==tk)=false):=by
   rcases Bool.eq_false_or_eq_true B with h|h
   ·exact .inr ⟨h,by simpa[h] using hB⟩
   exact .inl h
  clear hB;rcases bi with rfl|⟨rfl,bi⟩;all_goals
   go_wp2_with fail;go_quiet (fail);have l:=I.drewN nq;clear g0 g1 g2 z0 z1 z2 z3 z4 z5 z6 z7 z8 z9 b5 b2 zf b4 I;generalize wc.drewN nq=V at *;obtain⟨z0,z1,z2,z3⟩:=ci4 sp O L D l.cell;have z5:=ci C (l.cell 5);have zf:=l.free;go_upto_region 9 with fail;have S:=l.set 5 (.int .i64 (C+1));generalize V.setCell ⟨q,5,.none⟩ (.int .i64 (C+1))=U at *;have lU:=S.lt;clear z0 z1 z2 z3 z5 zf l;obtain⟨z0,z1,z2,z3⟩:=ci4 sp O L D S.cell;have z5:=ci (C+1) (S.cell 5);refine zad 13 (by kernel_rfl) (by kernel_rfl) ?_;dsimp only[List.take,List.drop];repeat (go_big_quiet_step (fail))
   refine wpQuiet_nil ?_;rintro _ ⟨bb,rfl⟩;have b7:=S.below bb.below;clear z0 z1 z2 z3 z5 S lU;generalize bb.w=T at *;change wpList _ _ _ _ _ T;have b2:=ce (.bool false) (b7.cell 11);have zf:=b7.free;go_wp2_with fail;go_returns;exact(b7.set 11 _).fin (by rw[R.out];rfl) rfl
def zeh (s:Sh) (t:Pu):Array Value:= #[.int .i64 s.p,.int .i64 s.c,.int .i64 s.m,.int .i64 t.c,.int .i64 t.i,.int .i64 t.ep,.int .i64 t.es,.int .i64 t.ek,.bool t.hit,.bool t.put,.bool t.done]
theorem z00(s:Sh)(c pg sl k:Int)(w:World):
  Calls Tryz.prog 279 #[.agg #[.int .i64 s.p,.int .i64 s.c,.int .i64 s.m],.int .i64 c,.int .i64 pg,.int .i64 sl,.int .i64 k] w fun e w'=>Born w w' e (zeh s (zg5 s c pg sl k)) 356:=by
 have q:=fun W=>zwl s c k W;have y:=fun W=>planPage_any s.p s.c s.m pg W;have hs:=fun W=>slots_any k W;have F:zeh s (zg5 s c pg sl k)= #[.int .i64 s.p,.int .i64 s.c,.int .i64 s.m,.int .i64 c,.int .i64 0,.int .i64 pg,.int .i64 sl,.int .i64 k,.bool false,.bool false,.bool (!(z1r s c k&&decide (0<=zak s.p s.c s.m pg)&&decide (0<=sl)&&decide (sl<zah k))||s.m==0)]:=rfl;rw[F];clear F;generalize z1r s c k=g at *;generalize zak s.p s.c s.m pg=z at *;generalize zah k=sv at *;obtain⟨sp,B,C⟩:=s;dsimp only at q y ⊢;replace q:=hd' q;replace y:=hd' y;replace hs:=hd' hs;have E:(g=false)\/(g=true/\z<0)\/(g=true/\0<=z/\sl<0)\/(g=true/\0<=z/\0<=sl/\sl<sv)\/(g=true/\0<=z/\0<=sl/\sv<=sl):=by cases g<;>simp<;>omega
 have o:=(Below.refl w.heap.size w).alloc lr (.cells #[.int .i64 sp,.int .i64 B,.int .i64 C] 23);have t0:=heap_alloc_new w (.cells #[.int .i64 sp,.int .i64 B,.int .i64 C] 23);go_in;go_upto_region 1 with fail;generalize w.alloc (.cells #[.int .i64 sp,.int .i64 B,.int .i64 C] 23)=W at *;obtain⟨H,I,n⟩:=hidv w.heap.size;rw[<-n]at t0 ⊢;have L:H<W.heap.size:=(Array.getElem?_eq_some_iff.1 t0).1;have c0:W.cell? ⟨H,0,.none⟩=some (.int .i64 sp):=zac t0 0;have c1:W.cell? ⟨H,1,.none⟩=some (.int .i64 B):=zac t0 1;have c2:W.cell? ⟨H,2,.none⟩=some (.int .i64 C):=zac t0 2;clear n t0;rcases E with rfl|⟨rfl,j⟩|⟨rfl,j,l⟩|⟨rfl,j,l,D⟩|⟨rfl,j,l,D⟩;all_goals go_wp2_with (first|(go_at_call 201;(with_reducible refine(q.out _).mono ?_);rintro r M ⟨rfl,b⟩;have G:=zai b _ _ _ c0;have d1:=zai b _ _ _ c1;have d2:=zai b _ _ _ c2)|(go_at_call 119;(with_reducible refine(y.out _).mono ?_);rintro r N ⟨rfl,i⟩;have k0:=zai i _ _ _ G;have k1:=zai i _ _ _ d1;have J:=zai i _ _ _ d2)|(go_at_call 65;(with_reducible refine(hs.out _).mono ?_);rintro r O ⟨rfl,rfl⟩));go_returns;first|exact za6 o b rfl|refine za6 o (zab b i) ?_
 ·simp[Int.not_le.2 j]
 ·simp[Int.not_le.2 l]
 ·simp[j,l,D]
 simp[j,l,Int.not_lt.2 D]
theorem zxz(q p b:Nat)(s:Sh)(t:Pu)(m:Mem)(w:World)(hq:zaa w q (zeh s t) 356)(hw:zaq w p b m)(b2:q≠p)(b1:q≠b)(hf:Fits s m)(ho:puOk s t)(hs:m.st<1000000000):
  Calls Tryz.prog 275 #[.pointer (some ⟨q,0,.none⟩),.pointer (some ⟨p,0,.none⟩)] w fun e w'=>Stepped q p b w w' e (zeh s (zd3 s t m).1) 356 (zd3 s t m).2:=by
 have n:=At3.start hq hw b2 b1;clear hq hw;rcases Bool.eq_false_or_eq_true t.done with hd|hd
 ·have j:zd3 s t m=(t,m):=by unfold zd3;rw[if_pos hd]
  rw[j];clear j;have J:w.cell? ⟨q,10,.none⟩=some (.bool true):=by rw[<-hd];exact n.cell 10
  clear ho hd hf;go_in;go_wp2_with fail;go_returns;exact n.fin rfl rfl
 obtain⟨hc,hi⟩:=ho.cl hd;obtain⟨O,E⟩:=hf.mag hc hi;have S:=hf.bd.2.2.2.2;have z:=fun W=>zjh s.p s.c s.m t.c t.i W;rw[O]at z;have o:=fun W (hW:zaq W p b m)=>zc1 p b m t.c (s.c+s.p+s.p*16+t.c*s.m+t.i) W hW E hs;have G:=fun W=>zes t.ep t.es t.ek W;have C:=fun W (hW:zaq W p b m)=>zba p b m t.c (s.c+s.p+s.p*16+t.c*s.m+t.i) (putV 1 [t.ep,t.es,t.ek]) W hW E (zj3 _ _ (by decide) (by simp)) hs;obtain⟨r,j⟩:∃ r,r=zd3 s t m:=⟨_,rfl⟩;rw[<-j];unfold zd3 at j;rw[if_neg (by rw[hd];decide),O]at j;generalize s.c+s.p+s.p*16+t.c*s.m+t.i=a at j z o C;clear O E hf ho;obtain⟨Z,R,M,N,L,b0,I,b3⟩:=t;obtain⟨sp,sc,sm⟩:=s;dsimp only at hd hc hi S z o G C j;subst hd;obtain⟨i0,i1⟩:=hi;obtain⟨i2,i3⟩:=S;clear hc;have lq:=n.lt;generalize putV 1 [M,N,L]=y at C G j;have w1:=wrp (R+1);replace z:=hd' z;replace o:=hd' o;replace G:=hd' G;replace C:=hd' C;rcases Bool.eq_false_or_eq_true b0 with hh|hh
 ·subst hh;rw[if_pos rfl]at j;subst j;obtain⟨c0,c1,c2,c3,c4,c5,c6,c7⟩:=ci8 sp sc sm Z R M N L n.cell;have c8:=ce (.bool true) (n.cell 8);have c9:=ce (.bool I) (n.cell 9);have J:=ce (.bool false) (n.cell 10);go_in;go_upto_region 1 with fail;refine zaj (by kernel_rfl) (by kernel_rfl) ?_;repeat (go_big_quiet_step (((go_at_call 136;exact zam (z.out _)))))
  refine wpQuiet_nil ?_;rintro _ ⟨D,rfl⟩;have l:=n.below D.below;generalize D.w=X at *;clear c0 c1 c2 c3 c4 c5 c6 c7 c8 c9 J n;have k3:=ci Z (l.cell 3);have k5:=ci M (l.cell 5);have k6:=ci N (l.cell 6);have k7:=ci L (l.cell 7);have k8:=ce (.bool true) (l.cell 8);have lX:=l.lt;go_upto_region 5 with fail;refine zad 11 (by kernel_rfl) (by kernel_rfl) ?_;dsimp only[List.take,List.drop];repeat (go_big_quiet_step (((go_at_call 184;exact zam (G.out _)))))
  refine wpQuiet_nil ?_;rintro _ ⟨D,rfl⟩;have hY:=l.below D.below;generalize D.w=Y at *;change wpList _ _ _ _ _ Y;clear k3 k5 k6 k7 k8 l lX;go_wp2_with (go_at_call 257;(with_reducible refine(C.out _ hY.wds).mono ?_);rintro r w1 ⟨rfl,H,F⟩;have B:=hY.access H F;have z9:=ce (.bool I) (B.cell 9);have b5:=ce (.bool false) (B.cell 10);have zf:=B.free);go_returns;exact((B.set 9 _).set 10 _).fin rfl rfl
 subst hh;rw[if_neg (by decide)]at j;have hx:m.get a=0\/(m.get a==0)=false:=by
  by_cases h:m.get a=0
  ·exact .inl h
  exact .inr (by simpa using h)
 obtain⟨x,V⟩:∃ x,x=m.get a:=⟨_,rfl⟩;rw[<-V]at hx j o;clear V;obtain⟨c0,c1,c2,c3,c4,c5,c6,c7⟩:=ci8 sp sc sm Z R M N L n.cell;have c8:=ce (.bool false) (n.cell 8);have c9:=ce (.bool I) (n.cell 9);have J:=ce (.bool false) (n.cell 10);go_in;go_upto_region 1 with fail;refine zaj (by kernel_rfl) (by kernel_rfl) ?_;repeat (go_big_quiet_step (((go_at_call 136;exact zam (z.out _)))))
 refine wpQuiet_nil ?_;rintro _ ⟨D,rfl⟩;have l:=n.below D.below;generalize D.w=X at *;clear c0 c1 c2 c3 c4 c5 c6 c7 c8 c9 J n;have k3:=ci Z (l.cell 3);have k8:=ce (.bool false) (l.cell 8);rcases hx with rfl|hx
 ·rw[if_pos rfl]at j;subst j;go_wp2_with (go_at_call 258;(with_reducible refine(o.out _ l.wds).mono ?_);rintro r w1 ⟨rfl,H,F⟩;have B:=l.load H F;have z8:=ce (.bool false) (B.cell 8);have zf:=B.free);go_returns;exact(B.set 8 _).fin rfl rfl
 rw[if_neg (by simpa using hx)]at j;subst j;go_upto_region 3 with(go_at_call 258;(with_reducible refine(o.out _ l.wds).mono ?_);rintro r w1 ⟨rfl,H,F⟩;have B:=l.load H F;have z4:=ci R (B.cell 4);have zf:=B.free);have hB:=B.set 4 (.int .i64 (R+1));generalize World.setCell _ ⟨q,4,.none⟩ (.int .i64 (R+1))=U at *;clear z4 zf B l k3 k8;obtain⟨z0,z1,z2,z3,z4⟩:=ci5 sp sc sm Z (R+1) hB.cell;have lU:=hB.lt;refine zad 13 (by kernel_rfl) (by kernel_rfl) ?_;dsimp only[List.take,List.drop];repeat (go_big_quiet_step (fail))
 refine wpQuiet_nil ?_;rintro _ ⟨D,rfl⟩;have hC:=hB.below D.below;generalize D.w=T at *;change wpList _ _ _ _ _ T;have b4:=ce (.bool false) (hC.cell 10);have zf:=hC.free;go_wp2_with fail;go_returns;exact(hC.set 10 _).fin rfl rfl
end Go.Proofs.YtkbddndcegpllaaGreat
