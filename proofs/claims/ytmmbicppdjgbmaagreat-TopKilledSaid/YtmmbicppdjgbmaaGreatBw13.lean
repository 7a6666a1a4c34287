/- Lemmas for the claim. -/
import Derived.Deep.CutBlock

import Derived.Test.YtmmbicppdjgbmaaGreatBw6

import Derived.Test.YtmmbicppdjgbmaaGreatBw11

set_option linter.all false
set_option maxHeartbeats 2000000
set_option maxRecDepth 100000
namespace Go.Proofs.YtmmbicppdjgbmaaGreat

open Go.RowKit

attribute [local go_sem ↓] Go.wp_at_zero Go.wp_at_succ

def NB (s:Sh) (t:Sc):Array Value:= #[s.p,s.c,s.m,t.c,t.k,t.first,t.many,t.i,t.next,t.found,t.done]
attribute [local go_sem] NB

theorem z1s(s:Sh)(c k f:Int)(w:World):
  Calls Tryz.prog 182 #[.agg #[s.p,s.c,s.m],c,k,f] w fun e w'=>Born w w' e (NB s (TD s c k f)) 302:=by
 have n:=fun W=>lC s.p s.c s.m c W;have o:=fun W=>DB s.p s.c s.m f W;have hs:=fun W=>kD k W;have C:NB s (TD s c k f)= #[.int .i64 s.p,.int .i64 s.c,.int .i64 s.m,.int .i64 c,.int .i64 k,.int .i64 f,.int .i64 0,.int .i64 0,.int .i64 0,.bool false,.bool (!(decide (0<=uA s.p s.c s.m c)&&decide (0<mA k)&&decide (0<=pA s.p s.c s.m f)))]:=rfl;rw[C];clear C;generalize uA s.p s.c s.m c=z at *;generalize pA s.p s.c s.m f=D at *;generalize mA k=sv at *;obtain⟨sp,q,y⟩:=s;dsimp only at n o ⊢;replace n:=hd' n;replace o:=hd' o;replace hs:=hd' hs;have B:(z<0)\/(0<=z/\sv<=0)\/(0<=z/\0<sv/\D<0)\/(0<=z/\0<sv/\0<=D):=by omega
 have j:=(Below.refl w.heap.size w).alloc lr (.cells #[sp,q,y] 23);have t0:=jA w (.cells #[sp,q,y] 23);go_in;go_upto_region 1 with fail;generalize w.alloc (.cells #[sp,q,y] 23)=W at *;obtain⟨H,F,l⟩:=hidv w.heap.size;rw[<-l]at t0 ⊢;have I:H<W.heap.size:=(jE t0);have c0:W.cell? ⟨H,0,.none⟩=some (.int .i64 sp):=iA t0 0;have c1:W.cell? ⟨H,1,.none⟩=some (.int .i64 q):=iA t0 1;have c2:W.cell? ⟨H,2,.none⟩=some (.int .i64 y):=iA t0 2;clear l t0;rcases B with h1|⟨h1,h2⟩|⟨h1,h2,h3⟩|⟨h1,h2,h3⟩;all_goals go_wp2_with (first|(go_at_call 29;refine(n _).mono ?_;rintro r J ⟨rfl,b⟩;have E:=kA b _ _ _ c0;have d1:=kA b _ _ _ c1;have d2:=kA b _ _ _ c2)|(go_at_call 120;refine(o _).mono ?_;rintro r L ⟨rfl,i⟩;have k0:=kA i _ _ _ E;have k1:=kA i _ _ _ d1;have G:=kA i _ _ _ d2)|(go_at_call 83;refine(hs _).mono ?_;rintro r M ⟨rfl,rfl⟩));go_returns
 ·exact RB j b (by simp[Int.not_le.2 h1])
 ·exact RB j b (by simp[h1,Int.not_lt.2 h2])
 ·exact RB j (zA b i) (by simp[h1,h2,Int.not_le.2 h3])
 exact RB j (zA b i) (by simp[h1,h2,h3])
theorem XU(q:Nat)(s:Sh)(t:Sc)(w:World)(m:aA w q (NB s t) 302)(l:1<=s.p/\s.p<=64)(h1:0<=t.first/\t.first<64)(h2:0<=t.many/\t.many<=64):
  Calls Tryz.prog 191 #[some q] w fun e w'=>e= .returned (.int .i64 (t.page s))/\Below w.heap.size w w':=by
 unfold Sc.page;obtain⟨sp,C,D⟩:=s;obtain⟨E,tk,tf,b,F,G,i,j⟩:=t;dsimp only at l h1 h2 ⊢;have y:=m.lt;have n:=m.cell;obtain⟨z,B⟩:=l;obtain⟨f1,f2⟩:=h1;obtain⟨m1,m2⟩:=h2;have H:=wrp (tf+b);have I:(tf+b).tmod sp=(tf+b)%sp:=Int.tmod_eq_emod_of_nonneg (by omega);have L:(sp==0)=false:=by simp;omega
 have J:IntKind.i64.wrap ((tf+b)%sp)=(tf+b)%sp:=by have o:=Int.emod_nonneg (tf+b) (by omega:sp≠0);have r:=Int.emod_lt_of_pos (tf+b) (by omega:0<sp);exact IntWalk.i64_in _ ⟨by omega,by omega⟩
 go_in;go_wp2_with fail;go_quiet (fail);have hb:=below_drewN (Below.refl w.heap.size w) nq;go_wp2_with fail;go_returns;exact⟨rfl,hb⟩
theorem ZU(q:Nat)(s:Sh)(t:Sc)(w:World)(o:aA w q (NB s t) 302)(h2:0<=t.many/\t.many<64):
  Calls Tryz.prog 280 #[some q] w fun e w'=>Turned q w w' e (NB s (t.turn s)) 302:=by
 have h0:=At1.start o;clear o;unfold Sc.turn;obtain⟨sp,C,D⟩:=s;obtain⟨E,tk,tf,p,F,G,b,n⟩:=t;dsimp only at h2 ⊢;obtain⟨m1,m2⟩:=h2;have i:=h0.cell;have r:=h0.free;have H:=wrp (p+1);go_in;go_upto_region 2 with fail;have j:=((h0.set 6 (.int .i64 (p+1))).set 7 (.int .i64 0)).set 8 (.int .i64 0);generalize World.setCell _ ⟨q,8,.none⟩ (.int .i64 0)=U at *;clear i h0 r;have y:=j.cell;have B:=j.lt;refine wret 13 ?_;repeat (go_big_quiet_step (fail))
 refine wqn fun T m=>?_;have l:=j.below m;have z:=l.cell;have r:=l.free;go_wp2_with fail;go_returns;exact(l.set 10 _).fin rfl
theorem zxm(q:Nat)(s:Sh)(t:Sc)(w:World)(G:aA w q (NB s t) 302)(h2:0<=t.many/\t.many<64)(h3:0<=t.i/\t.i<16):
  Calls Tryz.prog 279 #[some q] w fun e w'=>Turned q w w' e (NB s (t.miss s)) 302:=by
 have h0:=At1.start G;clear G;unfold Sc.miss;have l:=fun W=>kD t.k W;have m:=fun Y (J:aA Y q (NB s {t with i:=t.i+1,next:=1}) 302)=>ZU q s {t with i:=t.i+1,next:=1} Y J h2;have j:t.i+1=mA t.k\/(¬ t.i+1=mA t.k/\(t.i+1==mA t.k)=false):=by
  by_cases h:t.i+1=mA t.k
  ·exact .inl h
  exact .inr ⟨h,by simpa using h⟩
 obtain⟨C,b,n⟩:∃ C:Sc,Hid (C=if t.i+1=mA t.k then({t with i:=t.i+1,next:=1}:Sc).turn s else {t with i:=t.i+1,next:=1})/\C=_:=⟨_,hd' rfl,rfl⟩;rw[<-n];clear n;generalize mA t.k=sv at *;obtain⟨sp,S,T⟩:=s;obtain⟨V,tk,tf,Z,H,tn,o,D⟩:=t;dsimp only at h2 h3 l m j b;obtain⟨N,O⟩:=h3;clear h2;replace l:=hd' l;replace m:=hd' m;have p:=h0.cell;have M:=h0.free;have L:=wrp (H+1);go_in;go_upto_region 2 with fail;have y:=(h0.set 7 (.int .i64 (H+1))).set 8 (.int .i64 1);generalize World.setCell _ ⟨q,8,.none⟩ (.int .i64 1)=U at *;clear p h0 M;have I:=y.cell;have R:=y.lt;refine wre ?_;repeat (go_big_quiet_step (((go_at_call 83;exact jG ((l _).mono fun _ _ h=>⟨h.1,h.2⟩)))))
 refine wqn fun X B=>?_;have z:=y.below B;rcases j with j|⟨F,j⟩
 ·subst j;replace b:=hd' (b.out.trans (jP rfl));go_wp2_with (go_at_call 280;(with_reducible refine(m _ z.row).mono ?_);rintro r L E;obtain rfl:=E.ret);go_returns;exact(z.turned E).fin (by rw[b])
 replace b:=hd' (b.out.trans (jN F));clear F;go_wp2_with fail;go_returns;exact z.fin (by rw[b];rfl)
theorem sM{l:List Oper}{aF:Act}{Q:Exit->Act->World->Prop}{x:OB}{a0 a1 q:Int}{z B:TypeId}{U V:String}{r b:Array Edge}{y:Oper}(O:x.t=158) (S:x.zero= #[.int .i64 0,.int .i64 0,.int .i64 0]) (R:x.val= #[.int .i64 a0,.int .i64 a1,.int .i64 q]) (C:aF.eval (.tmp x.src)= .agg #[a0,a1,q])(h1:l.toArray[x.al]?=some { dst:=some x.d,op:= .alloc 158,type:=z,pos:=U,after:=r,guard:=none})(h2:l.toArray[x.st]?=some { dst:=none,op:= .store 158 (.tmp x.d) (.tmp x.src),type:=B,pos:=V,after:=b,guard:=none})(h3:l.toArray[x.so]?=some y) (h4:y.dst=some x.src) (I:(b.any fun e=>Region.binds .any e&&e.on==x.al)=true) (hs:(b.any fun e=>Region.binds .any e&&e.on==x.so)=true):OE Tryz.prog l Q aF x:=by
 obtain⟨al,st,so,d,src,t,zero,val⟩:=x;subst O S R;dsimp only at *;refine⟨fun a w K s=>?_,fun a w K M D E f s=>?_,fun listed N=>?_,⟨y,h3,h4⟩⟩
 ·unfold wpOp;rw[h1];simp only[Region.wanted,if_true];left;simp[go_sem,Oper.wp];exact s
 ·unfold wpOp;rw[h2];simp only[Region.wanted,if_true];left;have T:w.cell? ⟨M,0,.none⟩=some (.int .i64 0):=iA f 0;have m1:w.cell? ⟨M,1,.none⟩=some (.int .i64 0):=iA f 1;have m2:w.cell? ⟨M,2,.none⟩=some (.int .i64 0):=iA f 2;have H:∀ i,w.frozen? ⟨M,i,.none⟩=false:=fun i=>DA f i;rw[<-E]at C;have F:a.tmps[d]?.getD undef= .pointer (some ⟨M,0,.none⟩):=by simpa[Act.eval,vptr] using D
  have G:a.tmps[src]?.getD undef= .agg #[a0,a1,q]:=by simpa[Act.eval] using C
  simp[go_sem,Oper.wp,F,G,T,m1,m2,H];refine s _ ?_ ?_ ?_
  ·rw[heap_setCell_same _ M 2 _ _ _ (heap_setCell_same _ M 1 _ _ _ (heap_setCell_same _ M 0 _ _ _ f))];rfl
  ·exact((((Only.refl (fun k=>k=M) w).setCell (p:=⟨M,0,.none⟩) (.inl rfl) _).setCell (p:=⟨M,1,.none⟩) (.inl rfl) _).setCell (p:=⟨M,2,.none⟩) (.inl rfl) _)
  simp[World.setCell]
 obtain⟨_,o,m,J⟩:=mem_ready.1 N;rw[h2]at m;injection m with m;subst m;have j:∀ n,(b.any fun e=>Region.binds .any e&&e.on==n)=true->listed.getD n false=true:=fun n L=>by obtain⟨i,hi,hu⟩:=Array.any_eq_true.1 L;simp only[jC,beq_iff_eq]at hu;exact hu.2 ▸ J _ (Array.getElem_mem hi) hu.1
 exact⟨j _ I,j _ hs⟩
theorem zys(q p b:Nat)(s:Sh)(t:Sc)(m:Mem)(w:World)(hq:aA w q (NB s t) 302)(hw:oA w p b m)(cd:q≠p)(cc:q≠b)(hf:Fits s m)(ho:scOk s t)(hs:m.st<1000000000):
  Calls Tryz.prog 278 #[some q,some p] w fun e w'=>Stepped q p b w w' e (NB s (oD s t m).1) 302 (oD s t m).2:=by
 have h0:=At3.start hq hw cd cc;clear hq hw;rcases jB t.done with hd|hd
 ·have O:oD s t m=(t,m):=by unfold oD;rw[jP hd]
  rw[O];clear O;have b3:w.cell? ⟨q,10,.none⟩=some (.bool true):=by rw[<-hd];exact h0.cell 10
  clear ho hd hf;go_in;go_wp2_with fail;go_returns;exact h0.fin rfl rfl
 obtain⟨hc,hk,c9,cb,hi,hn⟩:=ho.cl hd;have bf:=hf.bd;have ba:0<=t.i/\t.i<16:=by have:=VG hk;omega
 have bg:0<=t.page s/\t.page s<s.p:=⟨Int.emod_nonneg _ (by omega),Int.emod_lt_of_pos _ (by omega)⟩;obtain⟨bh,bx⟩:=hf.page bg;obtain⟨bk,bj⟩:=hf.slot bg ba;have o:=fun Y (z:aA Y q (NB s t) 302)=>XU q s t Y z (by omega) (by omega) (by omega);have D:=fun Y=>DB s.p s.c s.m (t.page s) Y;have l:=fun Y=>iE s.p s.c s.m (t.page s) t.i Y;have b9:=fun k Y=>gE k t.k Y;have F:=fun Y=>gE 2 t.c Y;have H:=fun t' (h:t'.many=t.many) Y (z:aA Y q (NB s t') 302)=>ZU q s t' Y z (by omega);have y:=fun t' (h:t'.many=t.many) (h2:t'.i=t.i) Y (z:aA Y q (NB s t') 302)=>zxm q s t' Y z (by omega) (by omega);rw[bh]at D;rw[bk]at l;obtain⟨r,O⟩:∃ r,r=oD s t m:=⟨_,rfl⟩;rw[<-O];unfold oD at O;rw[jN (by rw[hd];decide)]at O;dsimp only at O;rw[bh,bk]at O;have L:t.next=0\/t.next=1\/t.next=2:=by omega
 have T:=fun Y (z:oA Y p b m)=>fF p b m t.c (s.c+t.page s) Y z bx hs;have U:=fun Y (z:oA Y p b m)=>fF p b m t.c (s.c+s.p+t.page s*16+t.i) Y z bj hs;have R:=fun Y (z:oA Y p b m)=>HH p b m t.c (s.c+s.p+t.page s*16+t.i) (sB t.k) (wayW t.c) Y z bj (zE _ _) hs;have G:=fun Y=>uJ s (t.page s) (m.get (s.c+t.page s)) Y (Mem.kF h0.wds.fit _);generalize s.c+s.p+t.page s*16+t.i=sa at U R l O;generalize s.c+t.page s=pa at T D G O;generalize bw:t.page s=pg at o D l G O;clear bw bx bj bh bk bg ho hf ba cb c9 hi;have bv:Hid (sB t.k=pB 1 t.k):=hd' rfl;have bz:Hid (wayW t.c=pB 2 t.c):=hd' rfl;rw[<-bz]at F;have j:=fun Y=>b9 1 Y;rw[<-bv]at j;clear b9 bv bz;generalize sB t.k=ow at j R O;generalize wayW t.c=ww at F R O;rcases L with L|L|L
 ·rw[jP L]at O;obtain⟨x,hx⟩:∃ x,x=m.get pa:=⟨_,rfl⟩;rw[<-hx]at T G O;clear hx U R y;have b7:r=(if MA s.p s.c s.m pg x=true/\pgK s pg x=2/\pgP s pg x 0=t.k then {t with next:=1} else t.turn s,m.load t.c pa):=by rw[O];unfold pgK pgP;by_cases hB:MA s.p s.c s.m pg x=true<;>simp[hB]
  clear O;generalize MA s.p s.c s.m pg x=B at G b7;generalize pgK s pg x=e0 at G b7;generalize pgP s pg x 0=e1 at G b7;generalize pgP s pg x 1=e2 at G;obtain⟨t2,n,I⟩:∃ t2:Sc,Hid (t2=if B=true/\e0=2/\e1=t.k then {t with next:=1} else t.turn s)/\t2=_:=⟨_,hd' rfl,rfl⟩;rw[<-I]at b7;clear I;subst b7;replace H:=fun Y (z:aA Y q (NB s t) 302)=>H t rfl Y z;obtain⟨tc,tk,tf,tm,ti,tn,C,b8⟩:=t;obtain⟨sp,sc,sm⟩:=s;dsimp only at hd L T G o D l j F H n ⊢;subst hd L;replace T:=hd' T;replace G:=hd' G;replace o:=hd' o;replace D:=hd' D;replace l:=hd' l;replace j:=hd' j;replace H:=hd' H;clear F hc hk bf;have lq:=h0.lt;have c5:=h0.cell;have b3:=ce (.bool false) (h0.cell 10);go_in;go_upto_region 1 with fail;refine wre ?_;repeat (go_big_quiet_step ((first|(go_at_call 191;exact xA (o _ (h0.row.below (Ext.below _))))|(go_at_call 122;exact xA (l _)))))
  refine wqn fun X S=>?_;have hX:=h0.below S;clear c5 b3 h0 lq;have c6:=hX.cell;go_upto_region 5 with(go_at_call 148;(with_reducible refine(j _).mono ?_);rintro r w1 ⟨rfl,b0⟩;have z:=hX.below b0;have c7:=z.cell);clear c6 c7 hX;go_cut [6,7] (fun s6 s7 wx=>∃ E,s6= .pointer (some ⟨E,0,.none⟩)/\s7= .bool B/\w.heap.size<=E/\aA wx E #[e0,e1,e2] 158/\At3 q p b w wx (NB ⟨sp,sc,sm⟩ ⟨tc,tk,tf,tm,ti,0,C,false⟩) 302 (m.load tc pa));case first=>
   refine wrl (x:=⟨23,24,21,6,60,158, #[.int .i64 0,.int .i64 0,.int .i64 0], #[e0,e1,e2]⟩) (ld:=18) (v:= .int .u64 x) (ts:= [46,50,57])
    (K0:=fun Y=>At3 q p b w Y (NB ⟨sp,sc,sm⟩ ⟨tc,tk,tf,tm,ti,0,C,false⟩) 302 m) (K1:=fun Y=>At3 q p b w Y (NB ⟨sp,sc,sm⟩ ⟨tc,tk,tf,tm,ti,0,C,false⟩) 302 (m.load tc pa))
    ⟨⟨fun Y Y' h1 h2 h3=>h1.far h2 h3 z.only.size⟩,⟨fun Y Y' h1 h2 h3=>h1.far h2 h3 z.only.size⟩⟩ z.drew ?_
   apply Exists.intro;refine⟨fun B hb hs=>?_,fun _=>?_,?_,?_⟩;case refine_1=>
    have bi:aA B q (NB ⟨sp,sc,sm⟩ ⟨tc,tk,tf,tm,ti,0,C,false⟩) 302:=hb.elim (fun h=>h.row) (fun h=>h.row);have lB:=bi.lt;have cq:=bi.cell;repeat (go_big_quiet_step ((first|(go_at_call 191;exact xA (o _ (bi.below (Ext.below _))))|(go_at_call 120;exact xA (D _))|(go_at_call 119;exact xA (G _)))))
    exact wpQuiet_nil rfl
   case refine_2=>exact sM rfl rfl rfl rfl rfl rfl rfl rfl (by dsimp only;decide +kernel) (by dsimp only;decide +kernel)
   case refine_3=>exact gF rfl (fun _ _=>by simp[go_sem]) fun Y bc hs=>(T Y bc.wds).mono fun r Y' ⟨h1,h2,h3⟩=>⟨h1,bc.load h2 h3,h3.weak fun k hk=>hk ▸ Nat.lt_of_lt_of_le bc.ls.2.1 z.only.size⟩
   case refine_4=>intro a w4 M hf;obtain⟨rfl,cp,ca,b6⟩:=hf;obtain⟨hM,b6⟩:=b6 (by simp);simp only[Act.put,vput,vptr];go_wp2;go_meet;exact⟨_,rfl,rfl,Nat.le_trans z.only.size hM,b6,ca⟩
  case rest=>
   obtain⟨E,rfl,rfl,hE,bb,N⟩:=hcut;have cu:E≠q:=fun e=>by rw[e]at hE;have:=z.ls.1;omega
   have bq:=bb.cell;have bs:=N.cell;have zf:=N.free;clear z T G o D l j b0;by_cases hB:B=true/\e0=2/\e1=tk
   ·obtain⟨rfl,rfl,rfl⟩:=hB;replace n:=hd' (n.out.trans (jP ⟨rfl,rfl,rfl⟩));go_wp2_with fail;go_quiet (fail);have b4:=N.drewN nq;clear bq bs zf bb N;generalize wc.drewN nq=V at *;have cr:=b4.cell;have zf:=b4.free;go_wp2_with fail;go_returns;exact(b4.set 8 _).fin (by rw[n];rfl) rfl
   replace n:=hd' (n.out.trans (jN hB));have J:B=false\/(B=true/\(e0==2)=false)\/(B=true/\e0=2/\(e1==tk)=false):=by
    rcases jB B with h|h
    ·by_cases h1:e0=2
     ·exact .inr (.inr ⟨h,h1,by simpa[h,h1] using hB⟩)
     exact .inr (.inl ⟨h,by simpa using h1⟩)
    exact .inl h
   clear hB;rcases J with rfl|⟨rfl,J⟩|⟨rfl,rfl,J⟩;all_goals go_wp2_with fail;go_quiet (fail);have b4:=N.drewN nq;clear bq bs zf bb N;generalize wc.drewN nq=V at *;go_wp2_with (go_at_call 280;(with_reducible refine(H _ b4.row).mono ?_);rintro r w1 hT;obtain rfl:=hT.ret);go_returns;exact(b4.turned hT).fin (by rw[n]) rfl
 ·rw[jN (by omega),jP L]at O;clear T G R F H D;have b5:m.get sa=ow\/(¬ m.get sa=ow/\(m.get sa==ow)=false):=by
   by_cases h:m.get sa=ow
   ·exact .inl h
   exact .inr ⟨h,by simpa using h⟩
  obtain⟨t2,n,I⟩:∃ t2:Sc,Hid (t2=if m.get sa=ow then {t with next:=2} else t.miss s)/\t2=_:=⟨_,hd' rfl,rfl⟩;rw[<-I]at O;clear I;subst O;replace y:=fun Y (z:aA Y q (NB s t) 302)=>y t rfl rfl Y z;obtain⟨x,hx,c4⟩:=hidv (m.get sa);rw[<-c4]at U b5 n;clear hx c4;obtain⟨tc,tk,tf,tm,ti,tn,C,b8⟩:=t;obtain⟨sp,sc,sm⟩:=s;dsimp only at hd L U o l j y n ⊢;subst hd L;replace o:=hd' o;replace l:=hd' l;replace j:=hd' j;replace y:=hd' y;clear hc hk bf;have lq:=h0.lt;have c8:=h0.cell;have b3:=ce (.bool false) (h0.cell 10);go_in;go_upto_region 1 with fail;refine wre ?_;repeat (go_big_quiet_step ((first|(go_at_call 191;exact xA (o _ (h0.row.below (Ext.below _))))|(go_at_call 122;exact xA (l _)))))
  refine wqn fun X S=>?_;have hX:=h0.below S;clear c8 b3 h0 lq;have cs:=hX.cell;replace U:=hd' U;rcases b5 with rfl|⟨J,b5⟩
  ·replace n:=hd' (n.out.trans (jP rfl));go_wp2_with (first|(go_at_call 148;refine(j _).mono ?_;rintro r w1 ⟨rfl,b0⟩;have z:=hX.below b0;have cf:=z.cell)|(go_at_call 227;(with_reducible refine(U _ z.wds).mono ?_);rintro r w2 ⟨rfl,b2,b1⟩;have N:=z.load b2 b1;have cg:=N.cell;have zf:=N.free)|(go_at_call 279;(with_reducible refine(y _ N.row).mono ?_);rintro r w3 hT;obtain rfl:=hT.ret));go_returns;exact(N.set 8 _).fin (by rw[n];rfl) rfl
  replace n:=hd' (n.out.trans (jN J));clear J;go_wp2_with (first|(go_at_call 148;refine(j _).mono ?_;rintro r w1 ⟨rfl,b0⟩;have z:=hX.below b0;have ch:=z.cell)|(go_at_call 227;(with_reducible refine(U _ z.wds).mono ?_);rintro r w2 ⟨rfl,b2,b1⟩;have N:=z.load b2 b1;have cj:=N.cell;have zf:=N.free)|(go_at_call 279;(with_reducible refine(y _ N.row).mono ?_);rintro r w3 hT;obtain rfl:=hT.ret));go_returns;exact(N.turned hT).fin (by rw[n]) rfl
 rw[jN (by omega),jN (by omega)]at O;clear T G U H D;have b5:(m.get sa=ow/\decide (m.get sa=ow)=true)\/(¬ m.get sa=ow/\decide (m.get sa=ow)=false):=by
  by_cases h:m.get sa=ow
  ·exact .inl ⟨h,jT h⟩
  exact .inr ⟨h,jF h⟩
 obtain⟨t2,n,I⟩:∃ t2:Sc,Hid (t2=if m.get sa=ow then {t with found:=true,done:=true} else t.miss s)/\t2=_:=⟨_,hd' rfl,rfl⟩;rw[<-I]at O;clear I;subst O;replace y:=fun Y (z:aA Y q (NB s t) 302)=>y t rfl rfl Y z;obtain⟨g,hg,bu⟩:∃ g,Hid (g=decide (m.get sa=ow))/\g=decide (m.get sa=ow):=⟨_,hd' rfl,rfl⟩;rw[<-bu]at R b5;clear hg bu;obtain⟨tc,tk,tf,tm,ti,tn,C,b8⟩:=t;obtain⟨sp,sc,sm⟩:=s;dsimp only at hd L R o l j F y n ⊢;subst hd L;replace o:=hd' o;replace l:=hd' l;replace j:=hd' j;replace y:=hd' y;clear hc hk bf;have lq:=h0.lt;have bm:=h0.cell;have b3:=ce (.bool false) (h0.cell 10);go_in;go_upto_region 1 with fail;refine wre ?_;repeat (go_big_quiet_step ((first|(go_at_call 191;exact xA (o _ (h0.row.below (Ext.below _))))|(go_at_call 122;exact xA (l _)))))
 refine wqn fun X S=>?_;have hX:=h0.below S;clear bm b3 h0 lq;have bn:=hX.cell;replace R:=hd' R;replace F:=hd' F;go_upto_region 14 with(go_at_call 148;(with_reducible refine(j _).mono ?_);rintro r w1 ⟨rfl,b0⟩;have z:=hX.below b0;have bp:=z.cell);clear bn bp hX;have lY:=z.lt;have ck:=z.cell;rcases b5 with⟨J,rfl⟩|⟨J,rfl⟩
 ·replace n:=hd' (n.out.trans (jP J));clear J;refine wret 13 ?_;repeat (go_big_quiet_step (((go_at_call 148;exact xA (F _)))))
  refine wqn fun Z S=>?_;have hZ:=z.below S;go_wp2_with (go_at_call 230;(with_reducible refine(R _ hZ.wds).mono ?_);rintro r w2 ⟨rfl,b2,b1⟩;have N:=hZ.access b2 b1;have cm:=N.cell;have zf:=N.free);go_returns;exact((N.set 9 _).set 10 _).fin (by rw[n];rfl) rfl
 replace n:=hd' (n.out.trans (jN J));clear J;refine wret 13 ?_;repeat (go_big_quiet_step (((go_at_call 148;exact xA (F _)))))
 refine wqn fun Z S=>?_;have hZ:=z.below S;go_wp2_with (first|(go_at_call 230;(with_reducible refine(R _ hZ.wds).mono ?_);rintro r w2 ⟨rfl,b2,b1⟩;have N:=hZ.access b2 b1)|(go_at_call 279;(with_reducible refine(y _ N.row).mono ?_);rintro r w3 hT;obtain rfl:=hT.ret));go_returns;exact(N.turned hT).fin (by rw[n]) rfl
end Go.Proofs.YtmmbicppdjgbmaaGreat
