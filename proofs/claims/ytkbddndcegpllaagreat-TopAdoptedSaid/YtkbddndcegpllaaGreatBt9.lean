/- The magazine's machines in memory: Taker, Putter. -/
import Derived.Deep.CutBlock

import Derived.Test.YtkbddndcegpllaaGreatBt8

set_option linter.all false
set_option maxHeartbeats 1000000
set_option maxRecDepth 100000
namespace Go.Proofs.YtkbddndcegpllaaGreat

open Go.RowKit

attribute [local go_sem ↓] Go.wp_at_zero Go.wp_at_succ

def zd1 (s:Sh) (t:Tk):Array Value:= #[s.p,s.c,s.m,t.c,t.k,t.i,t.ep,t.es,t.ek,t.hit,t.found,t.done]
attribute [local go_sem] zd1

def z1r (s:Sh) (c k:Int):Bool:=decide (0<=zae s.p s.c s.m c) && decide (0 < zah k)
theorem zwl(s:Sh)(c k:Int)(w:World):
  Calls Tryz.prog 201 #[.agg #[s.p,s.c,s.m],c,k] w fun e w'=>e= .returned (.bool (z1r s c k))/\Below w.heap.size w w':=by
 unfold z1r;rcases Int.lt_or_le (zae s.p s.c s.m c) 0 with i|i
 ·rw[decide_eq_false (by omega:¬ 0<=zae s.p s.c s.m c),Bool.false_and];go_in;go_wp2_with (go_at_call 57;(with_reducible refine(zau _ _ _ _ _).mono ?_);rintro r j ⟨rfl,b⟩);go_ret;exact⟨rfl,boxedB b⟩
 rw[decide_eq_true i,Bool.true_and];go_in;go_wp2_with (first|(go_at_call 57;(with_reducible refine(zau _ _ _ _ _).mono ?_);rintro r j ⟨rfl,b⟩)|(go_at_call 65;(with_reducible refine(slots_any _ _).mono ?_);rintro r l ⟨rfl,rfl⟩));go_ret;exact⟨rfl,boxedB b⟩
theorem z0e(s:Sh)(c k:Int)(w:World):
  Calls Tryz.prog 187 #[.agg #[s.p,s.c,s.m],c,k] w fun e w'=>Born w w' e (zd1 s (zg3 s c k)) 305:=by
 have n:=fun W=>zwl s c k W;obtain⟨g,o,b⟩:=hidv (z1r s c k);rw[<-b]at n;clear b;obtain⟨sp,j,i⟩:=s;dsimp only at n;replace n:=hd' n;have z:zd1 ⟨sp,j,i⟩ (zg3 ⟨sp,j,i⟩ c k)= #[.int .i64 sp,.int .i64 j,.int .i64 i,.int .i64 c,.int .i64 k,.int .i64 0,.int .i64 0,.int .i64 0,.int .i64 0,.bool false,.bool false,.bool (!g||i==0)]:=by rw[o.out];rfl
 rw[z];clear z o;have q:=(Below.refl w.heap.size w).alloc lr (.cells #[sp,j,i] 23);have t0:=heap_alloc_new w (.cells #[sp,j,i] 23);go_in;go_upto_region 1 with fail;generalize w.alloc (.cells #[sp,j,i] 23)=W at *;obtain⟨H,C,l⟩:=hidv w.heap.size;rw[<-l]at t0 ⊢;have D:H<W.heap.size:=(Array.getElem?_eq_some_iff.1 t0).1;have B:=zac t0;clear l t0;cases g;all_goals
  refine zad 14 (by kernel_rfl) (by kernel_rfl) ?_;dsimp only[List.take,List.drop];repeat (go_big_quiet_step (((go_at_call 201;exact zam (n.out _)))))
  refine wpQuiet_nil ?_;rintro _ ⟨y,rfl⟩;have r:=y.below;generalize y.w=X at *;change wpList _ _ _ _ _ X;go_wp2_with fail;go_ret;exact za6 q r rfl
def enP (s:Sh) (x:Int) (i:Nat):Int:=if zbi s.p s.c s.m x=true then za2 x i else 0
theorem zzr(s:Sh)(x:Int)(w:World)(b:0<=x/\x<18446744073709551616):
  Calls Tryz.prog 166 #[.agg #[s.p,s.c,s.m],.int .u64 x] w fun e w'=>e= .returned (.tuple #[.agg #[.int .i64 (enP s x 0),.int .i64 (enP s x 1),.int .i64 (enP s x 2)],.bool (zbi s.p s.c s.m x)])/\Below w.heap.size w w':=by
 refine(zp3 s.p s.c s.m x w b.1 b.2).mono ?_;rintro e w' ⟨hb,rfl⟩;refine⟨?_,hb⟩;unfold enP;cases zbi s.p s.c s.m x<;>rfl
theorem yam{l:List Oper}{aF:Act}{Q:Exit->Act->World->Prop}{x:zd0}{a0 a1 q:Int}{z B:TypeId}{Z p2:String}{r b:Array Edge}{y:Oper}
  (U:x.t=207) (X:x.zero= #[.int .i64 0,.int .i64 0,.int .i64 0]) (V:x.val= #[.int .i64 a0,.int .i64 a1,.int .i64 q]) (D:aF.eval (.tmp x.src)= .agg #[a0,a1,q])
  (J:l.toArray[x.al]?=some { dst:=some x.d,op:= .alloc 207,type:=z,pos:=Z,after:=r,guard:=none})
  (C:l.toArray[x.st]?=some { dst:=none,op:= .store 207 (.tmp x.d) (.tmp x.src),type:=B,pos:=p2,after:=b,guard:=none})
  (L:l.toArray[x.so]?=some y) (N:y.dst=some x.src) (O:(b.any fun e=>Region.binds .any e&&e.on==x.al)=true) (hs:(b.any fun e=>Region.binds .any e&&e.on==x.so)=true):ze2 Tryz.prog l Q aF x:=by
 obtain⟨al,st,so,d,src,t,zero,val⟩:=x;subst U X V;dsimp only at *;refine⟨fun a w K s=>?_,fun a w K M E F f s=>?_,fun listed T=>?_,⟨y,L,N⟩⟩
 ·unfold wpOp;rw[J];simp only[Region.wanted,if_true];left;simp[go_sem,Oper.wp];exact s
 ·unfold wpOp;rw[C];simp only[Region.wanted,if_true];left;have Y:w.cell? ⟨M,0,.none⟩=some (.int .i64 0):=zac f 0;have m1:w.cell? ⟨M,1,.none⟩=some (.int .i64 0):=zac f 1;have m2:w.cell? ⟨M,2,.none⟩=some (.int .i64 0):=zac f 2;have I:∀ i,w.frozen? ⟨M,i,.none⟩=false:=fun i=>zax f i;rw[<-F]at D;have G:a.tmps[d]?.getD undef= .pointer (some ⟨M,0,.none⟩):=by simpa[Act.eval,vptr] using E
  have H:a.tmps[src]?.getD undef= .agg #[a0,a1,q]:=by simpa[Act.eval] using D
  simp[go_sem,Oper.wp,G,H,Y,m1,m2,I];refine s _ ?_ ?_ ?_
  ·rw[heap_setCell_same _ M 2 _ _ _ (heap_setCell_same _ M 1 _ _ _ (heap_setCell_same _ M 0 _ _ _ f))];rfl
  ·exact((((Only.refl (fun k=>k=M) w).setCell (p:=⟨M,0,.none⟩) (.inl rfl) _).setCell (p:=⟨M,1,.none⟩) (.inl rfl) _).setCell (p:=⟨M,2,.none⟩) (.inl rfl) _)
  simp[World.setCell]
 obtain⟨_,o,m,R⟩:=mem_ready.1 T;rw[C]at m;injection m with m;subst m;have j:∀ n,(b.any fun e=>Region.binds .any e&&e.on==n)=true->listed.getD n false=true:=fun n S=>by obtain⟨i,hi,hu⟩:=Array.any_eq_true.1 S;simp only[Bool.and_eq_true,beq_iff_eq]at hu;exact hu.2 ▸ R _ (Array.getElem_mem hi) hu.1
 exact⟨j _ O,j _ hs⟩
def yen (t:Tk) (s:Sh) (_:Mem):Prop:=(0<=t.i/\t.i < s.m)/\0<=s.m/\s.m<=8
theorem zxs(q p b:Nat)(s:Sh)(t:Tk)(m:Mem)(w:World)(hq:zaa w q (zd1 s t) 305)(hw:zaq w p b m)(bw:q≠p)(bv:q≠b)(hf:Fits s m)(ho:tkOk s t)(hs:m.st<1000000000):
  Calls Tryz.prog 307 #[some q,some p] w fun e w'=>Stepped q p b w w' e (zd1 s (zd2 s t m).1) 305 (zd2 s t m).2:=by
 have H:=At3.start hq hw bw bv;clear hq hw;rcases Bool.eq_false_or_eq_true t.done with hd|hd
 ·have J:zd2 s t m=(t,m):=by unfold zd2;rw[if_pos hd]
  rw[J];clear J;have Z:w.cell? ⟨q,11,.none⟩=some (.bool true):=by rw[<-hd];exact H.cell 11
  clear ho hd hf;go_in;go_wp2_with fail;go_returns;exact H.fin rfl rfl
 obtain⟨hc,hi⟩:=ho.cl hd;obtain⟨N,F⟩:=hf.mag hc hi;have l:=fun W=>zjh s.p s.c s.m t.c t.i W;rw[N]at l;rcases Bool.eq_false_or_eq_true t.hit with hh|hh
 ·have J:zd2 s t m=({t with found:=true,done:=true},m.store t.c (s.c+s.p+s.p*16+t.c*s.m+t.i) 0):=by unfold zd2;rw[if_neg (by rw[hd];decide),if_pos hh,N]
  rw[J];clear J;have R:=fun W (hW:zaq W p b m)=>zba p b m t.c (s.c+s.p+s.p*16+t.c*s.m+t.i) 0 W hW F (by decide) hs;clear N F hf ho hc hi;obtain⟨a,ha⟩:∃ a,a=s.c+s.p+s.p*16+t.c*s.m+t.i:=⟨_,rfl⟩;rw[<-ha]at R l ⊢;clear ha;obtain⟨L,tk,G,z,C,y,bk,j,b6⟩:=t;obtain⟨sp,sc,sm⟩:=s;dsimp only at hd hh R l ⊢;subst hd hh;have lq:=H.lt;have bm:=H.cell;have Z:=ce (.bool false) (H.cell 11);replace R:=hd' R;replace l:=hd' l;go_in;go_upto_region 1 with fail;refine zaj (by kernel_rfl) (by kernel_rfl) ?_;repeat (go_big_quiet_step (((go_at_call 136;exact zam (l.out _)))))
  refine wpQuiet_nil ?_;rintro _ ⟨e',rfl⟩;have I:=H.below e'.below;generalize e'.w=X at *;have c7:=I.cell;clear bm Z H l;go_wp2_with (go_at_call 257;(with_reducible refine(R.out _ I.wds).mono ?_);rintro r w1 ⟨rfl,bx,bu⟩;have S:=I.access bx bu;have c8:=S.cell;have zf:=S.free);go_returns;exact((S.set 10 _).set 11 _).fin rfl rfl
 have J:zd2 s t m=(if zbi s.p s.c s.m (m.get (s.c+s.p+s.p*16+t.c*s.m+t.i))=true/\enP s (m.get (s.c+s.p+s.p*16+t.c*s.m+t.i)) 2=t.k then {t with ep:=enP s (m.get (s.c+s.p+s.p*16+t.c*s.m+t.i)) 0,es:=enP s (m.get (s.c+s.p+s.p*16+t.c*s.m+t.i)) 1,ek:=enP s (m.get (s.c+s.p+s.p*16+t.c*s.m+t.i)) 2,hit:=true} else {t with i:=t.i+1,done:=decide (t.i+1=s.m)},m.load t.c (s.c+s.p+s.p*16+t.c*s.m+t.i)):=by
  unfold zd2 enP;rw[if_neg (by rw[hd];decide),if_neg (by rw[hh];decide),N];by_cases hx:zbi s.p s.c s.m (m.get (s.c+s.p+s.p*16+t.c*s.m+t.i))=true
  ·simp only[hx,true_and,if_true];split<;>rfl
  simp[hx]
 rw[J];clear J;have D:=fun W (hW:zaq W p b m)=>zc1 p b m t.c (s.c+s.p+s.p*16+t.c*s.m+t.i) W hW F hs;have o:=fun W=>zzr s (m.get (s.c+s.p+s.p*16+t.c*s.m+t.i)) W (Mem.ze4 H.wds.fit _);have bh:yen t s m:=⟨hi,hf.bd.2.2.2.2⟩;clear N F hf ho hc hi;obtain⟨a,ha⟩:∃ a,a=s.c+s.p+s.p*16+t.c*s.m+t.i:=⟨_,rfl⟩;rw[<-ha]at D l o ⊢;clear ha;obtain⟨x,hx⟩:∃ x,x=m.get a:=⟨_,rfl⟩;rw[<-hx]at D o ⊢;clear hx;obtain⟨B,hB⟩:∃ B,B=zbi s.p s.c s.m x:=⟨_,rfl⟩;obtain⟨e0,bc⟩:∃ e,e=enP s x 0:=⟨_,rfl⟩;obtain⟨e1,bf⟩:∃ e,e=enP s x 1:=⟨_,rfl⟩;obtain⟨e2,bg⟩:∃ e,e=enP s x 2:=⟨_,rfl⟩;rw[<-hB,<- bc,<- bf,<- bg]at o ⊢;clear hB bc bf bg;obtain⟨L,tk,G,z,C,y,bk,j,b6⟩:=t;obtain⟨sp,sc,sm⟩:=s;dsimp only[yen]at hd hh D l o bh ⊢;subst hd hh;obtain⟨⟨i0,i1⟩,i2,i3⟩:=bh;obtain⟨t2,b5,b2⟩:∃ t2:Tk,Hid (t2=if B=true/\e2=tk then⟨L,tk,G,e0,e1,e2,true,j,false⟩ else⟨L,tk,G+1,z,C,y,false,j,decide (G+1=sm)⟩)/\t2=_:=⟨_,hd' rfl,rfl⟩;rw[<-b2];clear b2;have lq:=H.lt;have bn:=H.cell;have Z:=ce (.bool false) (H.cell 11);replace D:=hd' D;replace o:=hd' o;replace l:=hd' l;go_in;go_upto_region 1 with fail;refine zaj (by kernel_rfl) (by kernel_rfl) ?_;repeat (go_big_quiet_step (((go_at_call 136;exact zam (l.out _)))))
 refine wpQuiet_nil ?_;rintro _ ⟨e',rfl⟩;have I:=H.below e'.below;generalize e'.w=X at *;have bz:=I.lt;have bp:=I.cell;clear bn Z H l;go_upto_region 5 with fail;go_cut [5,6] (fun s5 s6 wx=>∃ E,s5= .pointer (some ⟨E,0,.none⟩)/\s6= .bool B/\w.heap.size<=E/\zaa wx E #[e0,e1,e2] 207/\At3 q p b w wx (zd1 ⟨sp,sc,sm⟩ ⟨L,tk,G,z,C,y,false,j,false⟩) 305 (m.load L a));case first=>
  refine zcl (x:=⟨15,16,13,5,58,207, #[.int .i64 0,.int .i64 0,.int .i64 0], #[e0,e1,e2]⟩) (ld:=10) (v:= .int .u64 x) (ts:= [50,54,55])
   (K0:=fun Y=>At3 q p b w Y (zd1 ⟨sp,sc,sm⟩ ⟨L,tk,G,z,C,y,false,j,false⟩) 305 m) (K1:=fun Y=>At3 q p b w Y (zd1 ⟨sp,sc,sm⟩ ⟨L,tk,G,z,C,y,false,j,false⟩) 305 (m.load L a))
   (by kernel_rfl) (by simp only[zfq,zej,nopO,nopC,Nat.reduceBEq,Bool.or_false,Bool.or_true,Bool.false_eq_true,↓reduceIte,Nat.reduceAdd];exact rfl) (by kernel_rfl) (by kernel_rfl) (by kernel_rfl) (by dsimp only;decide) (by dsimp only;simp) (by dsimp only;decide) (by dsimp only;simp) (by kernel_rfl) (by dsimp only;decide) (by simp)
   ⟨⟨fun Y Y' h1 h2 h3=>h1.far h2 h3 I.only.size⟩,⟨fun Y Y' h1 h2 h3=>h1.far h2 h3 I.only.size⟩⟩ I.drew ?_
  apply Exists.intro;refine⟨fun B hb hs=>?_,fun _=>?_,?_,?_⟩;case refine_1=>
   have bj:zaa B q (zd1 ⟨sp,sc,sm⟩ ⟨L,tk,G,z,C,y,false,j,false⟩) 305:=hb.elim (fun h=>h.row) (fun h=>h.row);have lB:=bj.lt;have c9:=bj.cell;repeat (go_big_quiet_step (((go_at_call 166;exact zam (o.out _)))))
   exact wpQuiet_nil rfl
  case refine_2=>exact yam rfl rfl rfl rfl rfl rfl rfl rfl (by dsimp only;decide +kernel) (by dsimp only;decide +kernel)
  case refine_3=>exact zcz rfl (fun _ _=>by simp[go_sem]) fun Y hY hs=>(D.out Y hY.wds).mono fun r Y' ⟨h1,h2,h3⟩=>⟨h1,hY.load h2 h3,h3.weak fun k hk=>hk ▸ Nat.lt_of_lt_of_le hY.ls.2.1 I.only.size⟩
  case refine_4=>intro a w4 M hf;obtain⟨rfl,c6,bs,O⟩:=hf;obtain⟨hM,O⟩:=O (by simp);simp only[Act.put,vput,vptr];go_wp2;go_meet;exact⟨_,rfl,rfl,Nat.le_trans I.only.size hM,O,bs⟩
 case rest=>
  obtain⟨E,rfl,rfl,hE,b1,S⟩:=hcut;have cb:E≠q:=fun e=>by rw[e]at hE;omega
  have b9:=b1.cell;have ba:=S.cell;have zf:=S.free;clear bp I bz D o;have w1:=wrp (G+1);have b4:∀ (Y:World),At3 q p b w Y (zd1 ⟨sp,sc,sm⟩ ⟨L,tk,G,z,C,y,false,j,false⟩) 305 (m.load L a)->True:=fun _ _=>trivial;by_cases hB:B=true/\e2=tk
  ·obtain⟨rfl,rfl⟩:=hB;go_wp2_with fail;go_quiet (fail);have n:=S.drewN nq;have bq:=b1.drewN nq;clear b9 ba zf b1 S w1 b4;generalize wc.drewN nq=V at *;have ca:=bq.cell;have c4:=n.cell;have zf:=n.free;go_wp2_with fail;go_returns;exact((((n.set 6 _).set 7 _).set 8 _).set 9 _).fin (by rw[b5.out,if_pos (by simp)];rfl) rfl
  have J:t2=⟨L,tk,G+1,z,C,y,false,j,decide (G+1=sm)⟩:=by rw[b5.out,if_neg hB]
  replace J:=hd' J;clear b5;have bi:B=false\/(B=true/\(e2==tk)=false):=by
   rcases Bool.eq_false_or_eq_true B with h|h
   ·exact .inr ⟨h,by simpa[h] using hB⟩
   exact .inl h
  clear hB;rcases bi with rfl|⟨rfl,bi⟩;all_goals
   go_wp2_with fail;go_quiet (fail);have n:=S.drewN nq;clear b9 ba zf b1 S;generalize wc.drewN nq=V at *;have b7:=n.cell;have zf:=n.free;go_upto_region 9 with fail;have b0:=n.set 5 (.int .i64 (G+1));generalize V.setCell ⟨q,5,.none⟩ (.int .i64 (G+1))=U at *;have lU:=b0.lt;clear b7 zf n;have b8:=b0.cell;refine zad 13 (by kernel_rfl) (by kernel_rfl) ?_;dsimp only[List.take,List.drop];repeat (go_big_quiet_step (fail))
   refine wpQuiet_nil ?_;rintro _ ⟨bb,rfl⟩;have b3:=b0.below bb.below;clear b8 b0 lU;generalize bb.w=T at *;change wpList _ _ _ _ _ T;have c5:=b3.cell;have zf:=b3.free;go_wp2_with fail;go_returns;exact(b3.set 11 _).fin (by rw[J.out];rfl) rfl
def zeh (s:Sh) (t:Pu):Array Value:= #[s.p,s.c,s.m,t.c,t.i,t.ep,t.es,t.ek,t.hit,t.put,t.done]
attribute [local go_sem] zeh

theorem z00(s:Sh)(c pg sl k:Int)(w:World):
  Calls Tryz.prog 279 #[.agg #[s.p,s.c,s.m],c,pg,sl,k] w fun e w'=>Born w w' e (zeh s (zg5 s c pg sl k)) 356:=by
 have q:=fun W=>zwl s c k W;have y:=fun W=>planPage_any s.p s.c s.m pg W;have hs:=fun W=>slots_any k W;have F:zeh s (zg5 s c pg sl k)= #[.int .i64 s.p,.int .i64 s.c,.int .i64 s.m,.int .i64 c,.int .i64 0,.int .i64 pg,.int .i64 sl,.int .i64 k,.bool false,.bool false,.bool (!(z1r s c k&&decide (0<=zak s.p s.c s.m pg)&&decide (0<=sl)&&decide (sl<zah k))||s.m==0)]:=rfl;rw[F];clear F;generalize z1r s c k=g at *;generalize zak s.p s.c s.m pg=z at *;generalize zah k=sv at *;obtain⟨sp,B,C⟩:=s;dsimp only at q y ⊢;replace q:=hd' q;replace y:=hd' y;replace hs:=hd' hs;have E:(g=false)\/(g=true/\z<0)\/(g=true/\0<=z/\sl<0)\/(g=true/\0<=z/\0<=sl/\sl<sv)\/(g=true/\0<=z/\0<=sl/\sv<=sl):=by cases g<;>simp<;>omega
 have o:=(Below.refl w.heap.size w).alloc lr (.cells #[sp,B,C] 23);have t0:=heap_alloc_new w (.cells #[sp,B,C] 23);go_in;go_upto_region 1 with fail;generalize w.alloc (.cells #[sp,B,C] 23)=W at *;obtain⟨H,I,n⟩:=hidv w.heap.size;rw[<-n]at t0 ⊢;have L:H<W.heap.size:=(Array.getElem?_eq_some_iff.1 t0).1;have c0:W.cell? ⟨H,0,.none⟩=some (.int .i64 sp):=zac t0 0;have c1:W.cell? ⟨H,1,.none⟩=some (.int .i64 B):=zac t0 1;have c2:W.cell? ⟨H,2,.none⟩=some (.int .i64 C):=zac t0 2;clear n t0;rcases E with rfl|⟨rfl,j⟩|⟨rfl,j,l⟩|⟨rfl,j,l,D⟩|⟨rfl,j,l,D⟩;all_goals go_wp2_with (first|(go_at_call 201;(with_reducible refine(q.out _).mono ?_);rintro r M ⟨rfl,b⟩;have G:=zai b _ _ _ c0;have d1:=zai b _ _ _ c1;have d2:=zai b _ _ _ c2)|(go_at_call 119;(with_reducible refine(y.out _).mono ?_);rintro r N ⟨rfl,i⟩;have k0:=zai i _ _ _ G;have k1:=zai i _ _ _ d1;have J:=zai i _ _ _ d2)|(go_at_call 65;(with_reducible refine(hs.out _).mono ?_);rintro r O ⟨rfl,rfl⟩));go_returns;first|exact za6 o b rfl|refine za6 o (zab b i) ?_
 ·simp[Int.not_le.2 j]
 ·simp[Int.not_le.2 l]
 ·simp[j,l,D]
 simp[j,l,Int.not_lt.2 D]
theorem zxz(q p b:Nat)(s:Sh)(t:Pu)(m:Mem)(w:World)(hq:zaa w q (zeh s t) 356)(hw:zaq w p b m)(b4:q≠p)(b3:q≠b)(O:Fits s m)(ho:puOk s t)(hs:m.st<1000000000):
  Calls Tryz.prog 275 #[some q,some p] w fun e w'=>Stepped q p b w w' e (zeh s (zd3 s t m).1) 356 (zd3 s t m).2:=by
 have C:=At3.start hq hw b4 b3;clear hq hw;rcases Bool.eq_false_or_eq_true t.done with hd|hd
 ·have j:zd3 s t m=(t,m):=by unfold zd3;rw[if_pos hd]
  rw[j];clear j;have I:w.cell? ⟨q,10,.none⟩=some (.bool true):=by rw[<-hd];exact C.cell 10
  clear ho hd O;go_in;go_wp2_with fail;go_returns;exact C.fin rfl rfl
 obtain⟨hc,hi⟩:=ho.cl hd;obtain⟨J,E⟩:=O.mag hc hi;have L:=O.bd.2.2.2.2;have n:=fun W=>zjh s.p s.c s.m t.c t.i W;rw[J]at n;have l:=fun W (hW:zaq W p b m)=>zc1 p b m t.c (s.c+s.p+s.p*16+t.c*s.m+t.i) W hW E hs;have G:=fun W=>zes t.ep t.es t.ek W;have o:=fun W (hW:zaq W p b m)=>zba p b m t.c (s.c+s.p+s.p*16+t.c*s.m+t.i) (putV 1 [t.ep,t.es,t.ek]) W hW E (zj3 _ _ (by decide) (by simp)) hs;obtain⟨r,j⟩:∃ r,r=zd3 s t m:=⟨_,rfl⟩;rw[<-j];unfold zd3 at j;rw[if_neg (by rw[hd];decide),J]at j;generalize s.c+s.p+s.p*16+t.c*s.m+t.i=a at j n l o;clear J E O ho;obtain⟨tc,ti,b7,b8,b6,N,b9,b5⟩:=t;obtain⟨sp,sc,sm⟩:=s;dsimp only at hd hc hi L n l G o j;subst hd;obtain⟨i0,i1⟩:=hi;obtain⟨i2,i3⟩:=L;clear hc;have lq:=C.lt;generalize putV 1 [b7,b8,b6]=y at o G j;have w1:=wrp (ti+1);replace n:=hd' n;replace l:=hd' l;replace G:=hd' G;replace o:=hd' o;rcases Bool.eq_false_or_eq_true N with hh|hh
 ·subst hh;rw[if_pos rfl]at j;subst j;have V:=C.cell;have I:=ce (.bool false) (C.cell 10);go_in;go_upto_region 1 with fail;refine zaj (by kernel_rfl) (by kernel_rfl) ?_;repeat (go_big_quiet_step (((go_at_call 136;exact zam (n.out _)))))
  refine wpQuiet_nil ?_;rintro _ ⟨B,rfl⟩;have D:=C.below B.below;generalize B.w=X at *;clear V I C;have Z:=D.cell;have lX:=D.lt;go_upto_region 5 with fail;refine zad 11 (by kernel_rfl) (by kernel_rfl) ?_;dsimp only[List.take,List.drop];repeat (go_big_quiet_step (((go_at_call 184;exact zam (G.out _)))))
  refine wpQuiet_nil ?_;rintro _ ⟨B,rfl⟩;have hY:=D.below B.below;generalize B.w=Y at *;change wpList _ _ _ _ _ Y;clear Z D lX;go_wp2_with (go_at_call 257;(with_reducible refine(o.out _ hY.wds).mono ?_);rintro r w1 ⟨rfl,H,F⟩;have z:=hY.access H F;have ba:=z.cell;have S:=z.free);go_returns;exact((z.set 9 _).set 10 _).fin rfl rfl
 subst hh;rw[if_neg (by decide)]at j;have R:m.get a=0\/(m.get a==0)=false:=by
  by_cases h:m.get a=0
  ·exact .inl h
  exact .inr (by simpa using h)
 obtain⟨x,M⟩:∃ x,x=m.get a:=⟨_,rfl⟩;rw[<-M]at R j l;clear M;have b0:=C.cell;have I:=ce (.bool false) (C.cell 10);go_in;go_upto_region 1 with fail;refine zaj (by kernel_rfl) (by kernel_rfl) ?_;repeat (go_big_quiet_step (((go_at_call 136;exact zam (n.out _)))))
 refine wpQuiet_nil ?_;rintro _ ⟨B,rfl⟩;have D:=C.below B.below;generalize B.w=X at *;clear b0 I C;have b1:=D.cell;rcases R with rfl|R
 ·rw[if_pos rfl]at j;subst j;go_wp2_with (go_at_call 258;(with_reducible refine(l.out _ D.wds).mono ?_);rintro r w1 ⟨rfl,H,F⟩;have z:=D.load H F;have bb:=z.cell;have S:=z.free);go_returns;exact(z.set 8 _).fin rfl rfl
 rw[if_neg (by simpa using R)]at j;subst j;go_upto_region 3 with(go_at_call 258;(with_reducible refine(l.out _ D.wds).mono ?_);rintro r w1 ⟨rfl,H,F⟩;have z:=D.load H F;have b2:=z.cell;have S:=z.free);have hB:=z.set 4 (.int .i64 (ti+1));generalize World.setCell _ ⟨q,4,.none⟩ (.int .i64 (ti+1))=U at *;clear b2 S z D b1;have bc:=hB.cell;have lU:=hB.lt;refine zad 13 (by kernel_rfl) (by kernel_rfl) ?_;dsimp only[List.take,List.drop];repeat (go_big_quiet_step (fail))
 refine wpQuiet_nil ?_;rintro _ ⟨B,rfl⟩;have hC:=hB.below B.below;generalize B.w=T at *;change wpList _ _ _ _ _ T;have bf:=hC.cell;have S:=hC.free;go_wp2_with fail;go_returns;exact(hC.set 10 _).fin rfl rfl
end Go.Proofs.YtkbddndcegpllaaGreat
