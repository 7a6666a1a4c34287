/- Lemmas for the claim. -/
import Derived.Deep.CutBlock

import Derived.Test.YtmmbicppdjgbmaaGreatBw6

import Derived.Test.YtmmbicppdjgbmaaGreatBw11

set_option linter.all false
set_option maxHeartbeats 1000000
set_option maxRecDepth 100000
namespace Go.Proofs.YtmmbicppdjgbmaaGreat

open Go.RowKit

attribute [local go_sem ↓] Go.wp_at_zero Go.wp_at_succ

def yD (s:Sh) (t:Tk):Array Value:= #[s.p,s.c,s.m,t.c,t.k,t.i,t.ep,t.es,t.ek,t.hit,t.found,t.done]
attribute [local go_sem] yD

def YI (s:Sh) (c k:Int):Bool:=decide (0<=uA s.p s.c s.m c) && decide (0 < mA k)
theorem iX(s:Sh)(c k:Int)(w:World):
  Calls Tryz.prog 169 #[.agg #[s.p,s.c,s.m],c,k] w fun e w'=>e= .returned (.bool (YI s c k))/\Below w.heap.size w w':=by
 unfold YI;rcases Int.lt_or_le (uA s.p s.c s.m c) 0 with h1|h1
 ·rw[jF (by omega:¬ 0<=uA s.p s.c s.m c),Bool.false_and];go_in;go_wp2_with (go_at_call 29;(with_reducible refine(lC _ _ _ _ _).mono ?_);rintro r i ⟨rfl,b⟩);go_ret;exact⟨rfl,boxedB b⟩
 rw[jT h1,Bool.true_and];go_in;go_wp2_with (first|(go_at_call 29;refine(lC _ _ _ _ _).mono ?_;rintro r i ⟨rfl,b⟩)|(go_at_call 83;refine(kD _ _).mono ?_;rintro r j ⟨rfl,rfl⟩));go_ret;exact⟨rfl,boxedB b⟩
theorem z0e(s:Sh)(c k:Int)(w:World):
  Calls Tryz.prog 152 #[.agg #[s.p,s.c,s.m],c,k] w fun e w'=>Born w w' e (yD s (bD s c k)) 283:=by
 have n:=fun W=>iX s c k W;obtain⟨g,o,b⟩:=hidv (YI s c k);rw[<-b]at n;clear b;obtain⟨sp,j,i⟩:=s;dsimp only at n;replace n:=hd' n;have z:yD ⟨sp,j,i⟩ (bD ⟨sp,j,i⟩ c k)= #[.int .i64 sp,.int .i64 j,.int .i64 i,.int .i64 c,.int .i64 k,.int .i64 0,.int .i64 0,.int .i64 0,.int .i64 0,.bool false,.bool false,.bool (!g||i==0)]:=by rw[o];rfl
 rw[z];clear z o;have r:=(Below.refl w.heap.size w).alloc lr (.cells #[sp,j,i] 23);have t0:=jA w (.cells #[sp,j,i] 23);go_in;go_upto_region 1 with fail;generalize w.alloc (.cells #[sp,j,i] 23)=W at *;obtain⟨H,C,l⟩:=hidv w.heap.size;rw[<-l]at t0 ⊢;have D:H<W.heap.size:=(jE t0);have B:=iA t0;clear l t0;cases g;all_goals
  refine wret 14 ?_;repeat (go_big_quiet_step (((go_at_call 169;exact xA (n _)))))
  refine wqn fun X q=>?_;have y:=q;go_wp2_with fail;go_ret;exact RB r y rfl
def enP (s:Sh) (x:Int) (i:Nat):Int:=if HC s.p s.c s.m x=true then nA x i else 0
theorem zzr(s:Sh)(x:Int)(w:World)(b:0<=x/\x<18446744073709551616):
  Calls Tryz.prog 123 #[.agg #[s.p,s.c,s.m],.int .u64 x] w fun e w'=>e= .returned (.tuple #[.agg #[.int .i64 (enP s x 0),.int .i64 (enP s x 1),.int .i64 (enP s x 2)],.bool (HC s.p s.c s.m x)])/\Below w.heap.size w w':=by
 refine(qV s.p s.c s.m x w b.1 b.2).mono ?_;rintro e w' ⟨hb,rfl⟩;refine⟨?_,hb⟩;unfold enP;cases HC s.p s.c s.m x<;>rfl
theorem XX{l:List Oper}{aF:Act}{Q:Exit->Act->World->Prop}{x:OB}{a0 a1 q:Int}{z B:TypeId}{U V:String}{r b:Array Edge}{y:Oper}(O:x.t=175) (S:x.zero= #[.int .i64 0,.int .i64 0,.int .i64 0]) (R:x.val= #[.int .i64 a0,.int .i64 a1,.int .i64 q]) (C:aF.eval (.tmp x.src)= .agg #[a0,a1,q])(h1:l.toArray[x.al]?=some { dst:=some x.d,op:= .alloc 175,type:=z,pos:=U,after:=r,guard:=none})(h2:l.toArray[x.st]?=some { dst:=none,op:= .store 175 (.tmp x.d) (.tmp x.src),type:=B,pos:=V,after:=b,guard:=none})(h3:l.toArray[x.so]?=some y) (h4:y.dst=some x.src) (I:(b.any fun e=>Region.binds .any e&&e.on==x.al)=true) (hs:(b.any fun e=>Region.binds .any e&&e.on==x.so)=true):OE Tryz.prog l Q aF x:=by
 obtain⟨al,st,so,d,src,t,zero,val⟩:=x;subst O S R;dsimp only at *;refine⟨fun a w K s=>?_,fun a w K M D E f s=>?_,fun listed N=>?_,⟨y,h3,h4⟩⟩
 ·unfold wpOp;rw[h1];simp only[Region.wanted,if_true];left;simp[go_sem,Oper.wp];exact s
 ·unfold wpOp;rw[h2];simp only[Region.wanted,if_true];left;have T:w.cell? ⟨M,0,.none⟩=some (.int .i64 0):=iA f 0;have m1:w.cell? ⟨M,1,.none⟩=some (.int .i64 0):=iA f 1;have m2:w.cell? ⟨M,2,.none⟩=some (.int .i64 0):=iA f 2;have H:∀ i,w.frozen? ⟨M,i,.none⟩=false:=fun i=>DA f i;rw[<-E]at C;have F:a.tmps[d]?.getD undef= .pointer (some ⟨M,0,.none⟩):=by simpa[Act.eval,vptr] using D
  have G:a.tmps[src]?.getD undef= .agg #[a0,a1,q]:=by simpa[Act.eval] using C
  simp[go_sem,Oper.wp,F,G,T,m1,m2,H];refine s _ ?_ ?_ ?_
  ·rw[heap_setCell_same _ M 2 _ _ _ (heap_setCell_same _ M 1 _ _ _ (heap_setCell_same _ M 0 _ _ _ f))];rfl
  ·exact((((Only.refl (fun k=>k=M) w).setCell (p:=⟨M,0,.none⟩) (.inl rfl) _).setCell (p:=⟨M,1,.none⟩) (.inl rfl) _).setCell (p:=⟨M,2,.none⟩) (.inl rfl) _)
  simp[World.setCell]
 obtain⟨_,o,m,J⟩:=mem_ready.1 N;rw[h2]at m;injection m with m;subst m;have j:∀ n,(b.any fun e=>Region.binds .any e&&e.on==n)=true->listed.getD n false=true:=fun n L=>by obtain⟨i,hi,hu⟩:=Array.any_eq_true.1 L;simp only[jC,beq_iff_eq]at hu;exact hu.2 ▸ J _ (Array.getElem_mem hi) hu.1
 exact⟨j _ I,j _ hs⟩
def FQ (t:Tk) (s:Sh) (_:Mem):Prop:=(0<=t.i/\t.i < s.m)/\0<=s.m/\s.m<=8
theorem zxs(q p b:Nat)(s:Sh)(t:Tk)(m:Mem)(w:World)(hq:aA w q (yD s t) 283)(hw:oA w p b m)(bw:q≠p)(bv:q≠b)(hf:Fits s m)(ho:tkOk s t)(hs:m.st<1000000000):
  Calls Tryz.prog 276 #[some q,some p] w fun e w'=>Stepped q p b w w' e (yD s (RC s t m).1) 283 (RC s t m).2:=by
 have h0:=At3.start hq hw bw bv;clear hq hw;rcases jB t.done with hd|hd
 ·have I:RC s t m=(t,m):=by unfold RC;rw[jP hd]
  rw[I];clear I;have S:w.cell? ⟨q,11,.none⟩=some (.bool true):=by rw[<-hd];exact h0.cell 11
  clear ho hd hf;go_in;go_wp2_with fail;go_returns;exact h0.fin rfl rfl
 obtain⟨hc,hi⟩:=ho.cl hd;obtain⟨L,F⟩:=hf.mag hc hi;have l:=fun W=>qL s.p s.c s.m t.c t.i W;rw[L]at l;rcases jB t.hit with hh|hh
 ·have I:RC s t m=({t with found:=true,done:=true},m.store t.c (s.c+s.p+s.p*16+t.c*s.m+t.i) 0):=by unfold RC;rw[jN (by rw[hd];decide),jP hh,L]
  rw[I];clear I;have O:=fun W (hW:oA W p b m)=>nC p b m t.c (s.c+s.p+s.p*16+t.c*s.m+t.i) 0 W hW F (by decide) hs;clear L F hf ho hc hi;obtain⟨a,ha⟩:∃ a,a=s.c+s.p+s.p*16+t.c*s.m+t.i:=⟨_,rfl⟩;rw[<-ha]at O l ⊢;clear ha;obtain⟨J,tk,G,z,C,y,bk,j,b6⟩:=t;obtain⟨sp,sc,sm⟩:=s;dsimp only at hd hh O l ⊢;subst hd hh;have lq:=h0.lt;have bm:=h0.cell;have S:=ce (.bool false) (h0.cell 11);replace O:=hd' O;replace l:=hd' l;go_in;go_upto_region 1 with fail;refine wre ?_;repeat (go_big_quiet_step (((go_at_call 90;exact xA (l _)))))
  refine wqn fun X b3=>?_;have H:=h0.below b3;have c7:=H.cell;clear bm S h0 l;go_wp2_with (go_at_call 226;(with_reducible refine(O _ H.wds).mono ?_);rintro r w1 ⟨rfl,bx,bu⟩;have R:=H.access bx bu;have c8:=R.cell;have zf:=R.free);go_returns;exact((R.set 10 _).set 11 _).fin rfl rfl
 have I:RC s t m=(if HC s.p s.c s.m (m.get (s.c+s.p+s.p*16+t.c*s.m+t.i))=true/\enP s (m.get (s.c+s.p+s.p*16+t.c*s.m+t.i)) 2=t.k then {t with ep:=enP s (m.get (s.c+s.p+s.p*16+t.c*s.m+t.i)) 0,es:=enP s (m.get (s.c+s.p+s.p*16+t.c*s.m+t.i)) 1,ek:=enP s (m.get (s.c+s.p+s.p*16+t.c*s.m+t.i)) 2,hit:=true} else {t with i:=t.i+1,done:=decide (t.i+1=s.m)},m.load t.c (s.c+s.p+s.p*16+t.c*s.m+t.i)):=by
  unfold RC enP;rw[jN (by rw[hd];decide),jN (by rw[hh];decide),L];by_cases hx:HC s.p s.c s.m (m.get (s.c+s.p+s.p*16+t.c*s.m+t.i))=true
  ·simp only[hx,true_and,if_true];split<;>rfl
  simp[hx]
 rw[I];clear I;have D:=fun W (hW:oA W p b m)=>fF p b m t.c (s.c+s.p+s.p*16+t.c*s.m+t.i) W hW F hs;have o:=fun W=>zzr s (m.get (s.c+s.p+s.p*16+t.c*s.m+t.i)) W (Mem.kF h0.wds.fit _);have bh:FQ t s m:=⟨hi,hf.bd.2.2.2.2⟩;clear L F hf ho hc hi;obtain⟨a,ha⟩:∃ a,a=s.c+s.p+s.p*16+t.c*s.m+t.i:=⟨_,rfl⟩;rw[<-ha]at D l o ⊢;clear ha;obtain⟨x,hx⟩:∃ x,x=m.get a:=⟨_,rfl⟩;rw[<-hx]at D o ⊢;clear hx;obtain⟨B,hB⟩:∃ B,B=HC s.p s.c s.m x:=⟨_,rfl⟩;obtain⟨e0,bc⟩:∃ e,e=enP s x 0:=⟨_,rfl⟩;obtain⟨e1,bf⟩:∃ e,e=enP s x 1:=⟨_,rfl⟩;obtain⟨e2,bg⟩:∃ e,e=enP s x 2:=⟨_,rfl⟩;rw[<-hB,<- bc,<- bf,<- bg]at o ⊢;clear hB bc bf bg;obtain⟨J,tk,G,z,C,y,bk,j,b6⟩:=t;obtain⟨sp,sc,sm⟩:=s;dsimp only[FQ]at hd hh D l o bh ⊢;subst hd hh;obtain⟨⟨i0,i1⟩,i2,i3⟩:=bh;obtain⟨t2,b5,b1⟩:∃ t2:Tk,Hid (t2=if B=true/\e2=tk then⟨J,tk,G,e0,e1,e2,true,j,false⟩ else⟨J,tk,G+1,z,C,y,false,j,decide (G+1=sm)⟩)/\t2=_:=⟨_,hd' rfl,rfl⟩;rw[<-b1];clear b1;have lq:=h0.lt;have bn:=h0.cell;have S:=ce (.bool false) (h0.cell 11);replace D:=hd' D;replace o:=hd' o;replace l:=hd' l;go_in;go_upto_region 1 with fail;refine wre ?_;repeat (go_big_quiet_step (((go_at_call 90;exact xA (l _)))))
 refine wqn fun X b3=>?_;have H:=h0.below b3;have bz:=H.lt;have bp:=H.cell;clear bn S h0 l;go_upto_region 5 with fail;go_cut [5,6] (fun s5 s6 wx=>∃ E,s5= .pointer (some ⟨E,0,.none⟩)/\s6= .bool B/\w.heap.size<=E/\aA wx E #[e0,e1,e2] 175/\At3 q p b w wx (yD ⟨sp,sc,sm⟩ ⟨J,tk,G,z,C,y,false,j,false⟩) 283 (m.load J a));case first=>
  refine wrl (x:=⟨15,16,13,5,58,175, #[.int .i64 0,.int .i64 0,.int .i64 0], #[e0,e1,e2]⟩) (ld:=10) (v:= .int .u64 x) (ts:= [50,54,55])
   (K0:=fun Y=>At3 q p b w Y (yD ⟨sp,sc,sm⟩ ⟨J,tk,G,z,C,y,false,j,false⟩) 283 m) (K1:=fun Y=>At3 q p b w Y (yD ⟨sp,sc,sm⟩ ⟨J,tk,G,z,C,y,false,j,false⟩) 283 (m.load J a))
   ⟨⟨fun Y Y' h1 h2 h3=>h1.far h2 h3 H.only.size⟩,⟨fun Y Y' h1 h2 h3=>h1.far h2 h3 H.only.size⟩⟩ H.drew ?_
  apply Exists.intro;refine⟨fun B hb hs=>?_,fun _=>?_,?_,?_⟩;case refine_1=>
   have bj:aA B q (yD ⟨sp,sc,sm⟩ ⟨J,tk,G,z,C,y,false,j,false⟩) 283:=hb.elim (fun h=>h.row) (fun h=>h.row);have lB:=bj.lt;have c9:=bj.cell;repeat (go_big_quiet_step (((go_at_call 123;exact xA (o _)))))
   exact wpQuiet_nil rfl
  case refine_2=>exact XX rfl rfl rfl rfl rfl rfl rfl rfl (by dsimp only;decide +kernel) (by dsimp only;decide +kernel)
  case refine_3=>exact gF rfl (fun _ _=>by simp[go_sem]) fun Y hY hs=>(D Y hY.wds).mono fun r Y' ⟨h1,h2,h3⟩=>⟨h1,hY.load h2 h3,h3.weak fun k hk=>hk ▸ Nat.lt_of_lt_of_le hY.ls.2.1 H.only.size⟩
  case refine_4=>intro a w4 M hf;obtain⟨rfl,c6,bs,N⟩:=hf;obtain⟨hM,N⟩:=N (by simp);simp only[Act.put,vput,vptr];go_wp2;go_meet;exact⟨_,rfl,rfl,Nat.le_trans H.only.size hM,N,bs⟩
 case rest=>
  obtain⟨E,rfl,rfl,hE,b0,R⟩:=hcut;have cb:E≠q:=fun e=>by rw[e]at hE;omega
  have b9:=b0.cell;have ba:=R.cell;have zf:=R.free;clear bp H bz D o;have w1:=wrp (G+1);have b4:∀ (Y:World),At3 q p b w Y (yD ⟨sp,sc,sm⟩ ⟨J,tk,G,z,C,y,false,j,false⟩) 283 (m.load J a)->True:=fun _ _=>trivial;by_cases hB:B=true/\e2=tk
  ·obtain⟨rfl,rfl⟩:=hB;go_wp2_with fail;go_quiet (fail);have n:=R.drewN nq;have bq:=b0.drewN nq;clear b9 ba zf b0 R w1 b4;generalize wc.drewN nq=V at *;have ca:=bq.cell;have c4:=n.cell;have zf:=n.free;go_wp2_with fail;go_returns;exact((((n.set 6 _).set 7 _).set 8 _).set 9 _).fin (by rw[b5,jP (by simp)];rfl) rfl
  have I:t2=⟨J,tk,G+1,z,C,y,false,j,decide (G+1=sm)⟩:=by rw[b5,jN hB]
  replace I:=hd' I;clear b5;have bi:B=false\/(B=true/\(e2==tk)=false):=by
   rcases jB B with h|h
   ·exact .inr ⟨h,by simpa[h] using hB⟩
   exact .inl h
  clear hB;rcases bi with rfl|⟨rfl,bi⟩;all_goals
   go_wp2_with fail;go_quiet (fail);have n:=R.drewN nq;clear b9 ba zf b0 R;generalize wc.drewN nq=V at *;have b7:=n.cell;have zf:=n.free;go_upto_region 9 with fail;have Z:=n.set 5 (.int .i64 (G+1));generalize V.setCell ⟨q,5,.none⟩ (.int .i64 (G+1))=U at *;have lU:=Z.lt;clear b7 zf n;have b8:=Z.cell;refine wret 13 ?_;repeat (go_big_quiet_step (fail))
   refine wpQuiet_nil ?_;rintro _ ⟨bb,rfl⟩;have b2:=Z.below bb.below;clear b8 Z lU;generalize bb.w=T at *;change wpList _ _ _ _ _ T;have c5:=b2.cell;have zf:=b2.free;go_wp2_with fail;go_returns;exact(b2.set 11 _).fin (by rw[I];rfl) rfl
def RD (s:Sh) (t:Pu):Array Value:= #[s.p,s.c,s.m,t.c,t.i,t.ep,t.es,t.ek,t.hit,t.put,t.done]
attribute [local go_sem] RD

theorem z00(s:Sh)(c pg sl k:Int)(w:World):
  Calls Tryz.prog 248 #[.agg #[s.p,s.c,s.m],c,pg,sl,k] w fun e w'=>Born w w' e (RD s (eD s c pg sl k)) 334:=by
 have n:=fun W=>iX s c k W;have o:=fun W=>DB s.p s.c s.m pg W;have hs:=fun W=>kD k W;have C:RD s (eD s c pg sl k)= #[.int .i64 s.p,.int .i64 s.c,.int .i64 s.m,.int .i64 c,.int .i64 0,.int .i64 pg,.int .i64 sl,.int .i64 k,.bool false,.bool false,.bool (!(YI s c k&&decide (0<=pA s.p s.c s.m pg)&&decide (0<=sl)&&decide (sl<mA k))||s.m==0)]:=rfl;rw[C];clear C;generalize YI s c k=g at *;generalize pA s.p s.c s.m pg=q at *;generalize mA k=sv at *;obtain⟨sp,y,z⟩:=s;dsimp only at n o ⊢;replace n:=hd' n;replace o:=hd' o;replace hs:=hd' hs;have B:(g=false)\/(g=true/\q<0)\/(g=true/\0<=q/\sl<0)\/(g=true/\0<=q/\0<=sl/\sl<sv)\/(g=true/\0<=q/\0<=sl/\sv<=sl):=by cases g<;>simp<;>omega
 have l:=(Below.refl w.heap.size w).alloc lr (.cells #[sp,y,z] 23);have t0:=jA w (.cells #[sp,y,z] 23);go_in;go_upto_region 1 with fail;generalize w.alloc (.cells #[sp,y,z] 23)=W at *;obtain⟨H,E,j⟩:=hidv w.heap.size;rw[<-j]at t0 ⊢;have G:H<W.heap.size:=(jE t0);have c0:W.cell? ⟨H,0,.none⟩=some (.int .i64 sp):=iA t0 0;have c1:W.cell? ⟨H,1,.none⟩=some (.int .i64 y):=iA t0 1;have c2:W.cell? ⟨H,2,.none⟩=some (.int .i64 z):=iA t0 2;clear j t0;rcases B with rfl|⟨rfl,h1⟩|⟨rfl,h1,h2⟩|⟨rfl,h1,h2,h3⟩|⟨rfl,h1,h2,h3⟩;all_goals go_wp2_with (first|(go_at_call 169;refine(n _).mono ?_;rintro r I ⟨rfl,b⟩;have D:=kA b _ _ _ c0;have d1:=kA b _ _ _ c1;have d2:=kA b _ _ _ c2)|(go_at_call 120;refine(o _).mono ?_;rintro r J ⟨rfl,i⟩;have k0:=kA i _ _ _ D;have k1:=kA i _ _ _ d1;have F:=kA i _ _ _ d2)|(go_at_call 83;refine(hs _).mono ?_;rintro r L ⟨rfl,rfl⟩));go_returns;first|exact RB l b rfl|refine RB l (zA b i) ?_
 ·simp[Int.not_le.2 h1]
 ·simp[Int.not_le.2 h2]
 ·simp[h1,h2,h3]
 simp[h1,h2,Int.not_lt.2 h3]
theorem zxz(q p b:Nat)(s:Sh)(t:Pu)(m:Mem)(w:World)(hq:aA w q (RD s t) 334)(hw:oA w p b m)(b3:q≠p)(b2:q≠b)(N:Fits s m)(ho:puOk s t)(hs:m.st<1000000000):
  Calls Tryz.prog 244 #[some q,some p] w fun e w'=>Stepped q p b w w' e (RD s (SC s t m).1) 334 (SC s t m).2:=by
 have h0:=At3.start hq hw b3 b2;clear hq hw;rcases jB t.done with hd|hd
 ·have j:SC s t m=(t,m):=by unfold SC;rw[jP hd]
  rw[j];clear j;have H:w.cell? ⟨q,10,.none⟩=some (.bool true):=by rw[<-hd];exact h0.cell 10
  clear ho hd N;go_in;go_wp2_with fail;go_returns;exact h0.fin rfl rfl
 obtain⟨hc,hi⟩:=ho.cl hd;obtain⟨I,D⟩:=N.mag hc hi;have J:=N.bd.2.2.2.2;have o:=fun W=>qL s.p s.c s.m t.c t.i W;rw[I]at o;have n:=fun W (hW:oA W p b m)=>fF p b m t.c (s.c+s.p+s.p*16+t.c*s.m+t.i) W hW D hs;have F:=fun W=>pJ t.ep t.es t.ek W;have z:=fun W (hW:oA W p b m)=>nC p b m t.c (s.c+s.p+s.p*16+t.c*s.m+t.i) (putV 1 [t.ep,t.es,t.ek]) W hW D (CJ _ _ (by decide) (by simp)) hs;obtain⟨r,j⟩:∃ r,r=SC s t m:=⟨_,rfl⟩;rw[<-j];unfold SC at j;rw[jN (by rw[hd];decide),I]at j;generalize s.c+s.p+s.p*16+t.c*s.m+t.i=a at j o n z;clear I D N ho;obtain⟨tc,ti,b6,b7,b5,M,b8,b4⟩:=t;obtain⟨sp,sc,sm⟩:=s;dsimp only at hd hc hi J o n F z j;subst hd;obtain⟨i0,i1⟩:=hi;obtain⟨i2,i3⟩:=J;clear hc;have lq:=h0.lt;generalize putV 1 [b6,b7,b5]=y at z F j;have w1:=wrp (ti+1);replace o:=hd' o;replace n:=hd' n;replace F:=hd' F;replace z:=hd' z;rcases jB M with hh|hh
 ·subst hh;rw[jP rfl]at j;subst j;have S:=h0.cell;have H:=ce (.bool false) (h0.cell 10);go_in;go_upto_region 1 with fail;refine wre ?_;repeat (go_big_quiet_step (((go_at_call 90;exact xA (o _)))))
  refine wqn fun X l=>?_;have C:=h0.below l;clear S H h0;have V:=C.cell;have lX:=C.lt;go_upto_region 5 with fail;refine wret 11 ?_;repeat (go_big_quiet_step (((go_at_call 149;exact xA (F _)))))
  refine wqn fun Y l=>?_;have hY:=C.below l;clear V C lX;go_wp2_with (go_at_call 226;(with_reducible refine(z _ hY.wds).mono ?_);rintro r w1 ⟨rfl,G,E⟩;have B:=hY.access G E;have b9:=B.cell;have R:=B.free);go_returns;exact((B.set 9 _).set 10 _).fin rfl rfl
 subst hh;rw[jN (by decide)]at j;have O:m.get a=0\/(m.get a==0)=false:=by
  by_cases h:m.get a=0
  ·exact .inl h
  exact .inr (by simpa using h)
 obtain⟨x,L⟩:∃ x,x=m.get a:=⟨_,rfl⟩;rw[<-L]at O j n;clear L;have Z:=h0.cell;have H:=ce (.bool false) (h0.cell 10);go_in;go_upto_region 1 with fail;refine wre ?_;repeat (go_big_quiet_step (((go_at_call 90;exact xA (o _)))))
 refine wqn fun X l=>?_;have C:=h0.below l;clear Z H h0;have b0:=C.cell;rcases O with rfl|O
 ·rw[jP rfl]at j;subst j;go_wp2_with (go_at_call 227;(with_reducible refine(n _ C.wds).mono ?_);rintro r w1 ⟨rfl,G,E⟩;have B:=C.load G E;have ba:=B.cell;have R:=B.free);go_returns;exact(B.set 8 _).fin rfl rfl
 rw[jN (by simpa using O)]at j;subst j;go_upto_region 3 with(go_at_call 227;(with_reducible refine(n _ C.wds).mono ?_);rintro r w1 ⟨rfl,G,E⟩;have B:=C.load G E;have b1:=B.cell;have R:=B.free);have hB:=B.set 4 (.int .i64 (ti+1));generalize World.setCell _ ⟨q,4,.none⟩ (.int .i64 (ti+1))=U at *;clear b1 R B C b0;have bb:=hB.cell;have lU:=hB.lt;refine wret 13 ?_;repeat (go_big_quiet_step (fail))
 refine wqn fun T l=>?_;have hC:=hB.below l;have bc:=hC.cell;have R:=hC.free;go_wp2_with fail;go_returns;exact(hC.set 10 _).fin rfl rfl
end Go.Proofs.YtmmbicppdjgbmaaGreat
