/- The Claimer of slots in memory. -/
import Derived.Test.YtkbddndcegpllaaGreatBg10

set_option linter.all false
set_option maxHeartbeats 2000000
set_option maxRecDepth 100000
namespace Go.Proofs.YtkbddndcegpllaaGreat

open Go.RowKit

attribute [local go_sem ↓] Go.wp_at_zero Go.wp_at_succ

def zbt (s:Sh) (t:Sc):Array Value:= #[.int .i64 s.p,.int .i64 s.c,.int .i64 s.m,.int .i64 t.c,.int .i64 t.k,.int .i64 t.first,.int .i64 t.many,.int .i64 t.i,.int .i64 t.next,.bool t.found,.bool t.done]
theorem z1s(s:Sh)(c k f:Int)(w:World):
  Calls Tryz.prog 214 #[.agg #[.int .i64 s.p,.int .i64 s.c,.int .i64 s.m],.int .i64 c,.int .i64 k,.int .i64 f] w fun e w'=>Born w w' e (zbt s (ziq s c k f)) 324:=by
 have q:=fun W=>zau s.p s.c s.m c W;have y:=fun W=>planPage_any s.p s.c s.m f W;have hs:=fun W=>slots_any k W;have F:zbt s (ziq s c k f)= #[.int .i64 s.p,.int .i64 s.c,.int .i64 s.m,.int .i64 c,.int .i64 k,.int .i64 f,.int .i64 0,.int .i64 0,.int .i64 0,.bool false,.bool (!(decide (0<=zae s.p s.c s.m c)&&decide (0<zah k)&&decide (0<=zak s.p s.c s.m f)))]:=rfl;rw[F];clear F;generalize zae s.p s.c s.m c=C at *;generalize zak s.p s.c s.m f=G at *;generalize zah k=sv at *;obtain⟨sp,z,B⟩:=s;dsimp only at q y ⊢;replace q:=hd' q;replace y:=hd' y;replace hs:=hd' hs;have E:(C<0)\/(0<=C/\sv<=0)\/(0<=C/\0<sv/\G<0)\/(0<=C/\0<sv/\0<=G):=by omega
 have j:=(Below.refl w.heap.size w).alloc lr (.cells #[.int .i64 sp,.int .i64 z,.int .i64 B] 23);have t0:=heap_alloc_new w (.cells #[.int .i64 sp,.int .i64 z,.int .i64 B] 23);go_in;go_upto_region 1 with fail;generalize w.alloc (.cells #[.int .i64 sp,.int .i64 z,.int .i64 B] 23)=W at *;obtain⟨H,J,o⟩:=hidv w.heap.size;rw[<-o]at t0 ⊢;have M:H<W.heap.size:=(Array.getElem?_eq_some_iff.1 t0).1;have c0:W.cell? ⟨H,0,.none⟩=some (.int .i64 sp):=zac t0 0;have c1:W.cell? ⟨H,1,.none⟩=some (.int .i64 z):=zac t0 1;have c2:W.cell? ⟨H,2,.none⟩=some (.int .i64 B):=zac t0 2;clear o t0;rcases E with l|⟨l,n⟩|⟨l,n,D⟩|⟨l,n,D⟩;all_goals go_wp2_with (first|(go_at_call 57;(with_reducible refine(q.out _).mono ?_);rintro r N ⟨rfl,b⟩;have I:=zai b _ _ _ c0;have d1:=zai b _ _ _ c1;have d2:=zai b _ _ _ c2)|(go_at_call 119;(with_reducible refine(y.out _).mono ?_);rintro r O ⟨rfl,i⟩;have k0:=zai i _ _ _ I;have k1:=zai i _ _ _ d1;have L:=zai i _ _ _ d2)|(go_at_call 65;(with_reducible refine(hs.out _).mono ?_);rintro r R ⟨rfl,rfl⟩));go_returns
 ·exact za6 j b (by simp[Int.not_le.2 l])
 ·exact za6 j b (by simp[l,Int.not_lt.2 n])
 ·exact za6 j (zab b i) (by simp[l,n,Int.not_le.2 D])
 exact za6 j (zab b i) (by simp[l,n,D])
theorem zoi(q:Nat)(s:Sh)(t:Sc)(w:World)(i:zaa w q (zbt s t) 324)(o:1<=s.p/\s.p<=64)(m:0<=t.first/\t.first<64)(n:0<=t.many/\t.many<=64):
  Calls Tryz.prog 223 #[.pointer (some ⟨q,0,.none⟩)] w fun e w'=>e= .returned (.int .i64 (t.page s))/\Below w.heap.size w w':=by
 unfold Sc.page;obtain⟨sp,F,G⟩:=s;obtain⟨H,tk,tf,b,I,J,j,l⟩:=t;dsimp only at o m n ⊢;have C:=i.lt;have c0:=ci sp (i.cell 0);have z:=ci tf (i.cell 5);have B:=ci b (i.cell 6);obtain⟨D,E⟩:=o;obtain⟨f1,f2⟩:=m;obtain⟨m1,m2⟩:=n;have L:=wrp (tf+b);have M:(tf+b).tmod sp=(tf+b)%sp:=Int.tmod_eq_emod_of_nonneg (by omega);have O:(sp==0)=false:=by simp;omega
 have N:IntKind.i64.wrap ((tf+b)%sp)=(tf+b)%sp:=by have r:=Int.emod_nonneg (tf+b) (by omega:sp≠0);have y:=Int.emod_lt_of_pos (tf+b) (by omega:0<sp);exact IntWalk.i64_in _ ⟨by omega,by omega⟩
 go_in;go_wp2_with fail;go_quiet (fail);have hb:=below_drewN (Below.refl w.heap.size w) nq;go_wp2_with fail;go_returns;exact⟨rfl,hb⟩
theorem zok(q:Nat)(s:Sh)(t:Sc)(w:World)(y:zaa w q (zbt s t) 324)(r:0<=t.many/\t.many<64):
  Calls Tryz.prog 311 #[.pointer (some ⟨q,0,.none⟩)] w fun e w'=>Turned q w w' e (zbt s (t.turn s)) 324:=by
 have j:=At1.start y;clear y;unfold Sc.turn;obtain⟨sp,I,J⟩:=s;obtain⟨L,tk,tf,m,M,N,i,b⟩:=t;dsimp only at r ⊢;obtain⟨m1,m2⟩:=r;obtain⟨c0,c1,c2,c3,B,C,D,E⟩:=ci8 sp I J L tk tf m M j.cell;have F:=ci N (j.cell 8);have G:=ce (.bool i) (j.cell 9);have n:=ce (.bool b) (j.cell 10);have z:=j.free;have R:=wrp (m+1);go_in;go_upto_region 2 with fail;have l:=((j.set 6 (.int .i64 (m+1))).set 7 (.int .i64 0)).set 8 (.int .i64 0);generalize World.setCell _ ⟨q,8,.none⟩ (.int .i64 0)=U at *;clear c0 c1 c2 c3 B C D E F G n j z;have S:=ci sp (l.cell 0);have V:=ci (m+1) (l.cell 6);have O:=l.lt;refine zad 13 (by kernel_rfl) (by kernel_rfl) ?_;dsimp only[List.take,List.drop];repeat (go_big_quiet_step (fail))
 refine wpQuiet_nil ?_;rintro _ ⟨p,rfl⟩;have o:=l.below p.below;generalize p.w=T at *;change wpList _ _ _ _ _ T;have H:=ce (.bool b) (o.cell 10);have z:=o.free;go_wp2_with fail;go_returns;exact(o.set 10 _).fin rfl
theorem zxm(q:Nat)(s:Sh)(t:Sc)(w:World)(L:zaa w q (zbt s t) 324)(D:0<=t.many/\t.many<64)(H:0<=t.i/\t.i<16):
  Calls Tryz.prog 310 #[.pointer (some ⟨q,0,.none⟩)] w fun e w'=>Turned q w w' e (zbt s (t.miss s)) 324:=by
 have p:=At1.start L;clear L;unfold Sc.miss;have l:=fun W=>slots_any t.k W;have m:=fun Y (V:zaa Y q (zbt s {t with i:=t.i+1,next:=1}) 324)=>zok q s {t with i:=t.i+1,next:=1} Y V D;have j:t.i+1=zah t.k\/(¬ t.i+1=zah t.k/\(t.i+1==zah t.k)=false):=by
  by_cases h:t.i+1=zah t.k
  ·exact .inl h
  exact .inr ⟨h,by simpa using h⟩
 obtain⟨F,b,o⟩:∃ F:Sc,Hid (F=if t.i+1=zah t.k then({t with i:=t.i+1,next:=1}:Sc).turn s else {t with i:=t.i+1,next:=1})/\F=_:=⟨_,hd' rfl,rfl⟩;rw[<-o];clear o;generalize zah t.k=sv at *;obtain⟨sp,Z,sm⟩:=s;obtain⟨tc,tk,tf,tm,B,tn,n,y⟩:=t;dsimp only at D H l m j b;obtain⟨i1,i2⟩:=H;clear D;replace l:=hd' l;replace m:=hd' m;obtain⟨c0,c1,c2,c3,M,N,O,R⟩:=ci8 sp Z sm tc tk tf tm B p.cell;have S:=ci tn (p.cell 8);have T:=ce (.bool n) (p.cell 9);have C:=ce (.bool y) (p.cell 10);have zf:=p.free;have w1:=wrp (B+1);go_in;go_upto_region 2 with fail;have z:=(p.set 7 (.int .i64 (B+1))).set 8 (.int .i64 1);generalize World.setCell _ ⟨q,8,.none⟩ (.int .i64 1)=U at *;clear c0 c1 c2 c3 M N O R S T C p zf;have z4:=ci tk (z.cell 4);have z7:=ci (B+1) (z.cell 7);have lU:=z.lt;refine zaj (by kernel_rfl) (by kernel_rfl) ?_;repeat (go_big_quiet_step (((go_at_call 65;exact zdx ((l.out _).mono fun _ _ h=>⟨h.1,h.2⟩)))))
 refine wpQuiet_nil ?_;rintro _ ⟨G,rfl⟩;have E:=z.below G.below;generalize G.w=X at *;rcases j with j|⟨J,j⟩
 ·subst j;replace b:=hd' (b.out.trans (if_pos rfl));go_wp2_with (go_at_call 311;(with_reducible refine(m.out _ E.row).mono ?_);rintro r w1 I;obtain rfl:=I.ret);go_returns;exact(E.turned I).fin (by rw[b.out])
 replace b:=hd' (b.out.trans (if_neg J));clear J;go_wp2_with fail;go_returns;exact E.fin (by rw[b.out];rfl)
theorem zqa{l:List Oper}{aF:Act}{Q:Exit->Act->World->Prop}{x:zd0}{a0 a1 q:Int}{z B:TypeId}{Z p2:String}{r b:Array Edge}{y:Oper}
  (U:x.t=128) (X:x.zero= #[.int .i64 0,.int .i64 0,.int .i64 0]) (V:x.val= #[.int .i64 a0,.int .i64 a1,.int .i64 q]) (D:aF.eval (.tmp x.src)= .agg #[.int .i64 a0,.int .i64 a1,.int .i64 q])
  (J:l.toArray[x.al]?=some { dst:=some x.d,op:= .alloc 128,type:=z,pos:=Z,after:=r,guard:=none})
  (C:l.toArray[x.st]?=some { dst:=none,op:= .store 128 (.tmp x.d) (.tmp x.src),type:=B,pos:=p2,after:=b,guard:=none})
  (L:l.toArray[x.so]?=some y) (N:y.dst=some x.src) (O:(b.any fun e=>Region.binds .any e&&e.on==x.al)=true) (hs:(b.any fun e=>Region.binds .any e&&e.on==x.so)=true):ze2 Tryz.prog l Q aF x:=by
 obtain⟨al,st,so,d,src,t,zero,val⟩:=x;subst U X V;dsimp only at *;refine⟨fun a w K s=>?_,fun a w K M E F f s=>?_,fun listed T=>?_,⟨y,L,N⟩⟩
 ·unfold wpOp;rw[J];simp only[Region.wanted,if_true];left;simp[go_sem,Oper.wp];exact s
 ·unfold wpOp;rw[C];simp only[Region.wanted,if_true];left;have Y:w.cell? ⟨M,0,.none⟩=some (.int .i64 0):=zac f 0;have m1:w.cell? ⟨M,1,.none⟩=some (.int .i64 0):=zac f 1;have m2:w.cell? ⟨M,2,.none⟩=some (.int .i64 0):=zac f 2;have I:∀ i,w.frozen? ⟨M,i,.none⟩=false:=fun i=>zax f i;rw[<-F]at D;have G:a.tmps[d]?.getD undef= .pointer (some ⟨M,0,.none⟩):=by simpa[Act.eval,vptr] using E
  have H:a.tmps[src]?.getD undef= .agg #[.int .i64 a0,.int .i64 a1,.int .i64 q]:=by simpa[Act.eval] using D
  simp[go_sem,Oper.wp,G,H,Y,m1,m2,I];refine s _ ?_ ?_ ?_
  ·rw[heap_setCell_same _ M 2 _ _ _ (heap_setCell_same _ M 1 _ _ _ (heap_setCell_same _ M 0 _ _ _ f))];rfl
  ·exact((((Only.refl (fun k=>k=M) w).setCell (p:=⟨M,0,.none⟩) (.inl rfl) _).setCell (p:=⟨M,1,.none⟩) (.inl rfl) _).setCell (p:=⟨M,2,.none⟩) (.inl rfl) _)
  simp[World.setCell]
 obtain⟨_,o,m,R⟩:=mem_ready.1 T;rw[C]at m;injection m with m;subst m;have j:∀ n,(b.any fun e=>Region.binds .any e&&e.on==n)=true->listed.getD n false=true:=fun n S=>by obtain⟨i,hi,hu⟩:=Array.any_eq_true.1 S;simp only[Bool.and_eq_true,beq_iff_eq]at hu;exact hu.2 ▸ R _ (Array.getElem_mem hi) hu.1
 exact⟨j _ O,j _ hs⟩
theorem zys(q p b:Nat)(s:Sh)(t:Sc)(m:Mem)(w:World)(hq:zaa w q (zbt s t) 324)(hw:zaq w p b m)(cb:q≠p)(ca:q≠b)(hf:Fits s m)(ho:scOk s t)(hs:m.st<1000000000):
  Calls Tryz.prog 309 #[.pointer (some ⟨q,0,.none⟩),.pointer (some ⟨p,0,.none⟩)] w fun e w'=>Stepped q p b w w' e (zbt s (zed s t m).1) 324 (zed s t m).2:=by
 have H:=At3.start hq hw cb ca;clear hq hw;rcases Bool.eq_false_or_eq_true t.done with hd|hd
 ·have R:zed s t m=(t,m):=by unfold zed;rw[if_pos hd]
  rw[R];clear R;have b3:w.cell? ⟨q,10,.none⟩=some (.bool true):=by rw[<-hd];exact H.cell 10
  clear ho hd hf;go_in;go_wp2_with fail;go_returns;exact H.fin rfl rfl
 obtain⟨hc,hk,bw,bz,hi,hn⟩:=ho.cl hd;have bf:=hf.bd;have bb:0<=t.i/\t.i<16:=by have:=zdg hk;omega
 have bg:0<=t.page s/\t.page s<s.p:=⟨Int.emod_nonneg _ (by omega),Int.emod_lt_of_pos _ (by omega)⟩;obtain⟨bh,bq⟩:=hf.page bg;obtain⟨bk,bj⟩:=hf.slot bg bb;have y:=fun Y (C:zaa Y q (zbt s t) 324)=>zoi q s t Y C (by omega) (by omega) (by omega);have D:=fun Y=>planPage_any s.p s.c s.m (t.page s) Y;have n:=fun Y=>zbm s.p s.c s.m (t.page s) t.i Y;have ba:=fun k Y=>zbl k t.k Y;have F:=fun Y=>zbl 2 t.c Y;have J:=fun t' (h:t'.many=t.many) Y (C:zaa Y q (zbt s t') 324)=>zok q s t' Y C (by omega);have z:=fun t' (h:t'.many=t.many) (h2:t'.i=t.i) Y (C:zaa Y q (zbt s t') 324)=>zxm q s t' Y C (by omega) (by omega);rw[bh]at D;rw[bk]at n;obtain⟨r,R⟩:∃ r,r=zed s t m:=⟨_,rfl⟩;rw[<-R];unfold zed at R;rw[if_neg (by rw[hd];decide)]at R;dsimp only at R;rw[bh,bk]at R;have O:t.next=0\/t.next=1\/t.next=2:=by omega
 have T:=fun Y (C:zaq Y p b m)=>zc1 p b m t.c (s.c+t.page s) Y C bq hs;have U:=fun Y (C:zaq Y p b m)=>zc1 p b m t.c (s.c+s.p+t.page s*16+t.i) Y C bj hs;have S:=fun Y (C:zaq Y p b m)=>zff p b m t.c (s.c+s.p+t.page s*16+t.i) (zc8 t.k) (wayW t.c) Y C bj (zch _ _) hs;have G:=fun Y=>zh3 s (t.page s) (m.get (s.c+t.page s)) Y (Mem.ze4 H.wds.fit _);generalize s.c+s.p+t.page s*16+t.i=sa at U S n R;generalize s.c+t.page s=pa at T D G R;generalize bp:t.page s=pg at y D n G R;clear bp bq bj bh bk bg ho hf bb bz bw hi;have bn:Hid (zc8 t.k=zc3 1 t.k):=hd' rfl;have bs:Hid (wayW t.c=zc3 2 t.c):=hd' rfl;rw[<-bs.out]at F;have l:=fun Y=>ba 1 Y;rw[<-bn.out]at l;clear ba bn bs;generalize zc8 t.k=ow at l S R;generalize wayW t.c=ww at F S R;rcases O with O|O|O
 ·rw[if_pos O]at R;obtain⟨x,hx⟩:∃ x,x=m.get pa:=⟨_,rfl⟩;rw[<-hx]at T G R;clear hx U S z;have b7:r=(if zal s.p s.c s.m pg x=true/\pgK s pg x=2/\pgP s pg x 0=t.k then {t with next:=1} else t.turn s,m.load t.c pa):=by rw[R];unfold pgK pgP;by_cases hB:zal s.p s.c s.m pg x=true<;>simp[hB]
  clear R;generalize zal s.p s.c s.m pg x=B at G b7;generalize pgK s pg x=e0 at G b7;generalize pgP s pg x 0=e1 at G b7;generalize pgP s pg x 1=e2 at G;obtain⟨t2,o,L⟩:∃ t2:Sc,Hid (t2=if B=true/\e0=2/\e1=t.k then {t with next:=1} else t.turn s)/\t2=_:=⟨_,hd' rfl,rfl⟩;rw[<-L]at b7;clear L;subst b7;replace J:=fun Y (C:zaa Y q (zbt s t) 324)=>J t rfl Y C;obtain⟨tc,tk,tf,tm,ti,tn,j,b8⟩:=t;obtain⟨sp,sc,sm⟩:=s;dsimp only at hd O T G y D n l F J o ⊢;subst hd O;replace T:=hd' T;replace G:=hd' G;replace y:=hd' y;replace D:=hd' D;replace n:=hd' n;replace l:=hd' l;replace J:=hd' J;clear F hc hk bf;have lq:=H.lt;obtain⟨c0,c1,c2,c3,c4,c5,c6,c7⟩:=ci8 sp sc sm tc tk tf tm ti H.cell;have c8:=ci 0 (H.cell 8);have c9:=ce (.bool j) (H.cell 9);have b3:=ce (.bool false) (H.cell 10);go_in;go_upto_region 1 with fail;refine zaj (by kernel_rfl) (by kernel_rfl) ?_;repeat (go_big_quiet_step ((first|(go_at_call 223;exact zam (y.out _ (H.row.below (Ext.below _))))|(go_at_call 121;exact zam (n.out _)))))
  refine wpQuiet_nil ?_;rintro _ ⟨e',rfl⟩;have hX:=H.below e'.below;generalize e'.w=X at *;clear c0 c1 c2 c3 c4 c5 c6 c7 c8 c9 b3 H lq;have k4:=ci tk (hX.cell 4);have k8:=ci 0 (hX.cell 8);go_upto_region 5 with(go_at_call 156;(with_reducible refine(l.out _).mono ?_);rintro r w1 ⟨rfl,b0⟩;have C:=hX.below b0;have z8:=ci 0 (C.cell 8));clear k4 k8 z8 hX;go_cut [6,7] (fun s6 s7 wx=>∃ E,s6= .pointer (some ⟨E,0,.none⟩)/\s7= .bool B/\w.heap.size<=E/\zaa wx E #[.int .i64 e0,.int .i64 e1,.int .i64 e2] 128/\At3 q p b w wx (zbt ⟨sp,sc,sm⟩ ⟨tc,tk,tf,tm,ti,0,j,false⟩) 324 (m.load tc pa));case first=>
   refine zcl (x:=⟨23,24,21,6,60,128, #[.int .i64 0,.int .i64 0,.int .i64 0], #[.int .i64 e0,.int .i64 e1,.int .i64 e2]⟩) (ld:=18) (v:= .int .u64 x) (ts:= [46,50,57])
    (K0:=fun Y=>At3 q p b w Y (zbt ⟨sp,sc,sm⟩ ⟨tc,tk,tf,tm,ti,0,j,false⟩) 324 m) (K1:=fun Y=>At3 q p b w Y (zbt ⟨sp,sc,sm⟩ ⟨tc,tk,tf,tm,ti,0,j,false⟩) 324 (m.load tc pa))
    (by kernel_rfl) (by simp only[zfq,zej,nopO,nopC,Nat.reduceBEq,Bool.or_false,Bool.or_true,Bool.false_eq_true,↓reduceIte,Nat.reduceAdd];exact rfl) (by kernel_rfl) (by kernel_rfl) (by kernel_rfl) (by dsimp only;decide) (by dsimp only;simp) (by dsimp only;decide) (by dsimp only;simp) (by kernel_rfl) (by dsimp only;decide) (by simp)
    ⟨⟨fun Y Y' h1 h2 h3=>h1.far h2 h3 C.only.size⟩,⟨fun Y Y' h1 h2 h3=>h1.far h2 h3 C.only.size⟩⟩ C.drew ?_
   apply Exists.intro;refine⟨fun B hb hs=>?_,fun _=>?_,?_,?_⟩;case refine_1=>
    have bi:zaa B q (zbt ⟨sp,sc,sm⟩ ⟨tc,tk,tf,tm,ti,0,j,false⟩) 324:=hb.elim (fun h=>h.row) (fun h=>h.row);have lB:=bi.lt;obtain⟨k0,k1,k2,k3⟩:=ci4 sp sc sm tc bi.cell;repeat (go_big_quiet_step ((first|(go_at_call 223;exact zam (y.out _ (bi.below (Ext.below _))))|(go_at_call 119;exact zam (D.out _))|(go_at_call 118;exact zam (G.out _)))))
    exact wpQuiet_nil rfl
   case refine_2=>exact zqa rfl rfl rfl rfl rfl rfl rfl rfl (by dsimp only;decide +kernel) (by dsimp only;decide +kernel)
   case refine_3=>exact zcz rfl (fun _ _=>by simp[go_sem]) fun Y bc hs=>(T.out Y bc.wds).mono fun r Y' ⟨h1,h2,h3⟩=>⟨h1,bc.load h2 h3,h3.weak fun k hk=>hk ▸ Nat.lt_of_lt_of_le bc.ls.2.1 C.only.size⟩
   case refine_4=>intro a w4 M hf;obtain⟨rfl,cc,bx,b6⟩:=hf;obtain⟨hM,b6⟩:=b6 (by simp);simp only[Act.put,vput,vptr];go_wp2;go_meet;exact⟨_,rfl,rfl,Nat.le_trans C.only.size hM,b6,bx⟩
  case rest=>
   obtain⟨E,rfl,rfl,hE,b9,I⟩:=hcut;have cd:E≠q:=fun e=>by rw[e]at hE;have:=C.ls.1;omega
   have g0:=ci e0 (b9.cell 0);have g1:=ci e1 (b9.cell 1);obtain⟨z0,z1,z2,z3,z4,z5,z6,z7⟩:=ci8 sp sc sm tc tk tf tm ti I.cell;have z8:=ci 0 (I.cell 8);have z9:=ce (.bool j) (I.cell 9);have bv:=ce (.bool false) (I.cell 10);have zf:=I.free;clear C T G y D n l b0;by_cases hB:B=true/\e0=2/\e1=tk
   ·obtain⟨rfl,rfl,rfl⟩:=hB;replace o:=hd' (o.out.trans (if_pos ⟨rfl,rfl,rfl⟩));go_wp2_with fail;go_quiet (fail);have b4:=I.drewN nq;clear g0 g1 z0 z1 z2 z3 z4 z5 z6 z7 z8 z9 bv zf b9 I;generalize wc.drewN nq=V at *;have z8:=ci 0 (b4.cell 8);have zf:=b4.free;go_wp2_with fail;go_returns;exact(b4.set 8 _).fin (by rw[o.out];rfl) rfl
   replace o:=hd' (o.out.trans (if_neg hB));have N:B=false\/(B=true/\(e0==2)=false)\/(B=true/\e0=2/\(e1==tk)=false):=by
    rcases Bool.eq_false_or_eq_true B with h|h
    ·by_cases h1:e0=2
     ·exact .inr (.inr ⟨h,h1,by simpa[h,h1] using hB⟩)
     exact .inr (.inl ⟨h,by simpa using h1⟩)
    exact .inl h
   clear hB;rcases N with rfl|⟨rfl,N⟩|⟨rfl,rfl,N⟩;all_goals go_wp2_with fail;go_quiet (fail);have b4:=I.drewN nq;clear g0 g1 z0 z1 z2 z3 z4 z5 z6 z7 z8 z9 bv zf b9 I;generalize wc.drewN nq=V at *;go_wp2_with (go_at_call 311;(with_reducible refine(J.out _ b4.row).mono ?_);rintro r w1 hT;obtain rfl:=hT.ret);go_returns;exact(b4.turned hT).fin (by rw[o.out]) rfl
 ·rw[if_neg (by omega),if_pos O]at R;clear T G S F J D;have b5:m.get sa=ow\/(¬ m.get sa=ow/\(m.get sa==ow)=false):=by
   by_cases h:m.get sa=ow
   ·exact .inl h
   exact .inr ⟨h,by simpa using h⟩
  obtain⟨t2,o,L⟩:∃ t2:Sc,Hid (t2=if m.get sa=ow then {t with next:=2} else t.miss s)/\t2=_:=⟨_,hd' rfl,rfl⟩;rw[<-L]at R;clear L;subst R;replace z:=fun Y (C:zaa Y q (zbt s t) 324)=>z t rfl rfl Y C;obtain⟨x,hx,bu⟩:=hidv (m.get sa);rw[<-bu]at U b5 o;clear hx bu;obtain⟨tc,tk,tf,tm,ti,tn,j,b8⟩:=t;obtain⟨sp,sc,sm⟩:=s;dsimp only at hd O U y n l z o ⊢;subst hd O;replace y:=hd' y;replace n:=hd' n;replace l:=hd' l;replace z:=hd' z;clear hc hk bf;have lq:=H.lt;obtain⟨c0,c1,c2,c3,c4,c5,c6,c7⟩:=ci8 sp sc sm tc tk tf tm ti H.cell;have c8:=ci 1 (H.cell 8);have c9:=ce (.bool j) (H.cell 9);have b3:=ce (.bool false) (H.cell 10);go_in;go_upto_region 1 with fail;refine zaj (by kernel_rfl) (by kernel_rfl) ?_;repeat (go_big_quiet_step ((first|(go_at_call 223;exact zam (y.out _ (H.row.below (Ext.below _))))|(go_at_call 121;exact zam (n.out _)))))
  refine wpQuiet_nil ?_;rintro _ ⟨e',rfl⟩;have hX:=H.below e'.below;generalize e'.w=X at *;clear c0 c1 c2 c3 c4 c5 c6 c7 c8 c9 b3 H lq;have k4:=ci tk (hX.cell 4);have k8:=ci 1 (hX.cell 8);replace U:=hd' U;rcases b5 with rfl|⟨N,b5⟩
  ·replace o:=hd' (o.out.trans (if_pos rfl));go_wp2_with (first|(go_at_call 156;(with_reducible refine(l.out _).mono ?_);rintro r w1 ⟨rfl,b0⟩;have C:=hX.below b0;have z3:=ci tc (C.cell 3);have z8:=ci 1 (C.cell 8))|(go_at_call 258;(with_reducible refine(U.out _ C.wds).mono ?_);rintro r w2 ⟨rfl,b2,b1⟩;have I:=C.load b2 b1;have y8:=ci 1 (I.cell 8);have zf:=I.free)|(go_at_call 310;(with_reducible refine(z.out _ I.row).mono ?_);rintro r w3 hT;obtain rfl:=hT.ret));go_returns;exact(I.set 8 _).fin (by rw[o.out];rfl) rfl
  replace o:=hd' (o.out.trans (if_neg N));clear N;go_wp2_with (first|(go_at_call 156;(with_reducible refine(l.out _).mono ?_);rintro r w1 ⟨rfl,b0⟩;have C:=hX.below b0;have z3:=ci tc (C.cell 3);have z8:=ci 1 (C.cell 8))|(go_at_call 258;(with_reducible refine(U.out _ C.wds).mono ?_);rintro r w2 ⟨rfl,b2,b1⟩;have I:=C.load b2 b1;have y8:=ci 1 (I.cell 8);have zf:=I.free)|(go_at_call 310;(with_reducible refine(z.out _ I.row).mono ?_);rintro r w3 hT;obtain rfl:=hT.ret));go_returns;exact(I.turned hT).fin (by rw[o.out]) rfl
 rw[if_neg (by omega),if_neg (by omega)]at R;clear T G U J D;have b5:(m.get sa=ow/\decide (m.get sa=ow)=true)\/(¬ m.get sa=ow/\decide (m.get sa=ow)=false):=by
  by_cases h:m.get sa=ow
  ·exact .inl ⟨h,decide_eq_true h⟩
  exact .inr ⟨h,decide_eq_false h⟩
 obtain⟨t2,o,L⟩:∃ t2:Sc,Hid (t2=if m.get sa=ow then {t with found:=true,done:=true} else t.miss s)/\t2=_:=⟨_,hd' rfl,rfl⟩;rw[<-L]at R;clear L;subst R;replace z:=fun Y (C:zaa Y q (zbt s t) 324)=>z t rfl rfl Y C;obtain⟨g,hg,bm⟩:∃ g,Hid (g=decide (m.get sa=ow))/\g=decide (m.get sa=ow):=⟨_,hd' rfl,rfl⟩;rw[<-bm]at S b5;clear hg bm;obtain⟨tc,tk,tf,tm,ti,tn,j,b8⟩:=t;obtain⟨sp,sc,sm⟩:=s;dsimp only at hd O S y n l F z o ⊢;subst hd O;replace y:=hd' y;replace n:=hd' n;replace l:=hd' l;replace z:=hd' z;clear hc hk bf;have lq:=H.lt;obtain⟨c0,c1,c2,c3,c4,c5,c6,c7⟩:=ci8 sp sc sm tc tk tf tm ti H.cell;have c8:=ci 2 (H.cell 8);have c9:=ce (.bool j) (H.cell 9);have b3:=ce (.bool false) (H.cell 10);go_in;go_upto_region 1 with fail;refine zaj (by kernel_rfl) (by kernel_rfl) ?_;repeat (go_big_quiet_step ((first|(go_at_call 223;exact zam (y.out _ (H.row.below (Ext.below _))))|(go_at_call 121;exact zam (n.out _)))))
 refine wpQuiet_nil ?_;rintro _ ⟨e',rfl⟩;have hX:=H.below e'.below;generalize e'.w=X at *;clear c0 c1 c2 c3 c4 c5 c6 c7 c8 c9 b3 H lq;have k4:=ci tk (hX.cell 4);have k8:=ci 2 (hX.cell 8);replace S:=hd' S;replace F:=hd' F;go_upto_region 14 with(go_at_call 156;(with_reducible refine(l.out _).mono ?_);rintro r w1 ⟨rfl,b0⟩;have C:=hX.below b0;have z3:=ci tc (C.cell 3);have z8:=ci 2 (C.cell 8));clear k4 k8 z8 hX;have lY:=C.lt;have z3:=ci tc (C.cell 3);rcases b5 with⟨N,rfl⟩|⟨N,rfl⟩
 ·replace o:=hd' (o.out.trans (if_pos N));clear N;refine zad 13 (by kernel_rfl) (by kernel_rfl) ?_;dsimp only[List.take,List.drop];repeat (go_big_quiet_step (((go_at_call 156;exact zam (F.out _)))))
  refine wpQuiet_nil ?_;rintro _ ⟨e',rfl⟩;have hZ:=C.below e'.below;generalize e'.w=Z at *;change wpList _ _ _ _ _ Z;go_wp2_with (go_at_call 261;(with_reducible refine(S.out _ hZ.wds).mono ?_);rintro r w2 ⟨rfl,b2,b1⟩;have I:=hZ.access b2 b1;have y9:=ce (.bool j) (I.cell 9);have cf:=ce (.bool false) (I.cell 10);have zf:=I.free);go_returns;exact((I.set 9 _).set 10 _).fin (by rw[o.out];rfl) rfl
 replace o:=hd' (o.out.trans (if_neg N));clear N;refine zad 13 (by kernel_rfl) (by kernel_rfl) ?_;dsimp only[List.take,List.drop];repeat (go_big_quiet_step (((go_at_call 156;exact zam (F.out _)))))
 refine wpQuiet_nil ?_;rintro _ ⟨e',rfl⟩;have hZ:=C.below e'.below;generalize e'.w=Z at *;change wpList _ _ _ _ _ Z;go_wp2_with (first|(go_at_call 261;(with_reducible refine(S.out _ hZ.wds).mono ?_);rintro r w2 ⟨rfl,b2,b1⟩;have I:=hZ.access b2 b1)|(go_at_call 310;(with_reducible refine(z.out _ I.row).mono ?_);rintro r w3 hT;obtain rfl:=hT.ret));go_returns;exact(I.turned hT).fin (by rw[o.out]) rfl
end Go.Proofs.YtkbddndcegpllaaGreat
