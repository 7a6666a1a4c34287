/- The Claimer of slots in memory. -/
import Derived.Test.YtkbddndcegpllaaGreatBt9

set_option linter.all false
set_option maxHeartbeats 2000000
set_option maxRecDepth 100000
namespace Go.Proofs.YtkbddndcegpllaaGreat

open Go.RowKit

attribute [local go_sem ↓] Go.wp_at_zero Go.wp_at_succ

def zbt (s:Sh) (t:Sc):Array Value:= #[s.p,s.c,s.m,t.c,t.k,t.first,t.many,t.i,t.next,t.found,t.done]
attribute [local go_sem] zbt

theorem z1s(s:Sh)(c k f:Int)(w:World):
  Calls Tryz.prog 214 #[.agg #[s.p,s.c,s.m],c,k,f] w fun e w'=>Born w w' e (zbt s (ziq s c k f)) 324:=by
 have q:=fun W=>zau s.p s.c s.m c W;have y:=fun W=>planPage_any s.p s.c s.m f W;have hs:=fun W=>slots_any k W;have F:zbt s (ziq s c k f)= #[.int .i64 s.p,.int .i64 s.c,.int .i64 s.m,.int .i64 c,.int .i64 k,.int .i64 f,.int .i64 0,.int .i64 0,.int .i64 0,.bool false,.bool (!(decide (0<=zae s.p s.c s.m c)&&decide (0<zah k)&&decide (0<=zak s.p s.c s.m f)))]:=rfl;rw[F];clear F;generalize zae s.p s.c s.m c=C at *;generalize zak s.p s.c s.m f=G at *;generalize zah k=sv at *;obtain⟨sp,z,B⟩:=s;dsimp only at q y ⊢;replace q:=hd' q;replace y:=hd' y;replace hs:=hd' hs;have E:(C<0)\/(0<=C/\sv<=0)\/(0<=C/\0<sv/\G<0)\/(0<=C/\0<sv/\0<=G):=by omega
 have j:=(Below.refl w.heap.size w).alloc lr (.cells #[sp,z,B] 23);have t0:=heap_alloc_new w (.cells #[sp,z,B] 23);go_in;go_upto_region 1 with fail;generalize w.alloc (.cells #[sp,z,B] 23)=W at *;obtain⟨H,J,o⟩:=hidv w.heap.size;rw[<-o]at t0 ⊢;have M:H<W.heap.size:=(Array.getElem?_eq_some_iff.1 t0).1;have c0:W.cell? ⟨H,0,.none⟩=some (.int .i64 sp):=zac t0 0;have c1:W.cell? ⟨H,1,.none⟩=some (.int .i64 z):=zac t0 1;have c2:W.cell? ⟨H,2,.none⟩=some (.int .i64 B):=zac t0 2;clear o t0;rcases E with l|⟨l,n⟩|⟨l,n,D⟩|⟨l,n,D⟩;all_goals go_wp2_with (first|(go_at_call 57;(with_reducible refine(q.out _).mono ?_);rintro r N ⟨rfl,b⟩;have I:=zai b _ _ _ c0;have d1:=zai b _ _ _ c1;have d2:=zai b _ _ _ c2)|(go_at_call 119;(with_reducible refine(y.out _).mono ?_);rintro r O ⟨rfl,i⟩;have k0:=zai i _ _ _ I;have k1:=zai i _ _ _ d1;have L:=zai i _ _ _ d2)|(go_at_call 65;(with_reducible refine(hs.out _).mono ?_);rintro r R ⟨rfl,rfl⟩));go_returns
 ·exact za6 j b (by simp[Int.not_le.2 l])
 ·exact za6 j b (by simp[l,Int.not_lt.2 n])
 ·exact za6 j (zab b i) (by simp[l,n,Int.not_le.2 D])
 exact za6 j (zab b i) (by simp[l,n,D])
theorem zoi(q:Nat)(s:Sh)(t:Sc)(w:World)(o:zaa w q (zbt s t) 324)(n:1<=s.p/\s.p<=64)(l:0<=t.first/\t.first<64)(m:0<=t.many/\t.many<=64):
  Calls Tryz.prog 223 #[some q] w fun e w'=>e= .returned (.int .i64 (t.page s))/\Below w.heap.size w w':=by
 unfold Sc.page;obtain⟨sp,E,F⟩:=s;obtain⟨G,tk,tf,b,H,I,i,j⟩:=t;dsimp only at n l m ⊢;have B:=o.lt;have r:=o.cell;obtain⟨C,D⟩:=n;obtain⟨f1,f2⟩:=l;obtain⟨m1,m2⟩:=m;have J:=wrp (tf+b);have L:(tf+b).tmod sp=(tf+b)%sp:=Int.tmod_eq_emod_of_nonneg (by omega);have N:(sp==0)=false:=by simp;omega
 have M:IntKind.i64.wrap ((tf+b)%sp)=(tf+b)%sp:=by have y:=Int.emod_nonneg (tf+b) (by omega:sp≠0);have z:=Int.emod_lt_of_pos (tf+b) (by omega:0<sp);exact IntWalk.i64_in _ ⟨by omega,by omega⟩
 go_in;go_wp2_with fail;go_quiet (fail);have hb:=below_drewN (Below.refl w.heap.size w) nq;go_wp2_with fail;go_returns;exact⟨rfl,hb⟩
theorem zok(q:Nat)(s:Sh)(t:Sc)(w:World)(r:zaa w q (zbt s t) 324)(p:0<=t.many/\t.many<64):
  Calls Tryz.prog 311 #[some q] w fun e w'=>Turned q w w' e (zbt s (t.turn s)) 324:=by
 have b:=At1.start r;clear r;unfold Sc.turn;obtain⟨sp,E,F⟩:=s;obtain⟨G,tk,tf,y,H,I,i,n⟩:=t;dsimp only at p ⊢;obtain⟨m1,m2⟩:=p;have j:=b.cell;have z:=b.free;have J:=wrp (y+1);go_in;go_upto_region 2 with fail;have l:=((b.set 6 (.int .i64 (y+1))).set 7 (.int .i64 0)).set 8 (.int .i64 0);generalize World.setCell _ ⟨q,8,.none⟩ (.int .i64 0)=U at *;clear j b z;have B:=l.cell;have D:=l.lt;refine zad 13 (by kernel_rfl) (by kernel_rfl) ?_;dsimp only[List.take,List.drop];repeat (go_big_quiet_step (fail))
 refine wpQuiet_nil ?_;rintro _ ⟨o,rfl⟩;have m:=l.below o.below;generalize o.w=T at *;change wpList _ _ _ _ _ T;have C:=m.cell;have z:=m.free;go_wp2_with fail;go_returns;exact(m.set 10 _).fin rfl
theorem zxm(q:Nat)(s:Sh)(t:Sc)(w:World)(J:zaa w q (zbt s t) 324)(z:0<=t.many/\t.many<64)(G:0<=t.i/\t.i<16):
  Calls Tryz.prog 310 #[some q] w fun e w'=>Turned q w w' e (zbt s (t.miss s)) 324:=by
 have o:=At1.start J;clear J;unfold Sc.miss;have l:=fun W=>slots_any t.k W;have m:=fun Y (N:zaa Y q (zbt s {t with i:=t.i+1,next:=1}) 324)=>zok q s {t with i:=t.i+1,next:=1} Y N z;have j:t.i+1=zah t.k\/(¬ t.i+1=zah t.k/\(t.i+1==zah t.k)=false):=by
  by_cases h:t.i+1=zah t.k
  ·exact .inl h
  exact .inr ⟨h,by simpa using h⟩
 obtain⟨D,b,n⟩:∃ D:Sc,Hid (D=if t.i+1=zah t.k then({t with i:=t.i+1,next:=1}:Sc).turn s else {t with i:=t.i+1,next:=1})/\D=_:=⟨_,hd' rfl,rfl⟩;rw[<-n];clear n;generalize zah t.k=sv at *;obtain⟨sp,Z,sm⟩:=s;obtain⟨tc,tk,tf,tm,L,tn,p,E⟩:=t;dsimp only at z G l m j b;obtain⟨S,T⟩:=G;clear z;replace l:=hd' l;replace m:=hd' m;have y:=o.cell;have R:=o.free;have O:=wrp (L+1);go_in;go_upto_region 2 with fail;have B:=(o.set 7 (.int .i64 (L+1))).set 8 (.int .i64 1);generalize World.setCell _ ⟨q,8,.none⟩ (.int .i64 1)=U at *;clear y o R;have M:=B.cell;have V:=B.lt;refine zaj (by kernel_rfl) (by kernel_rfl) ?_;repeat (go_big_quiet_step (((go_at_call 65;exact zdx ((l.out _).mono fun _ _ h=>⟨h.1,h.2⟩)))))
 refine wpQuiet_nil ?_;rintro _ ⟨F,rfl⟩;have C:=B.below F.below;generalize F.w=X at *;rcases j with j|⟨I,j⟩
 ·subst j;replace b:=hd' (b.out.trans (if_pos rfl));go_wp2_with (go_at_call 311;(with_reducible refine(m.out _ C.row).mono ?_);rintro r O H;obtain rfl:=H.ret);go_returns;exact(C.turned H).fin (by rw[b.out])
 replace b:=hd' (b.out.trans (if_neg I));clear I;go_wp2_with fail;go_returns;exact C.fin (by rw[b.out];rfl)
theorem zqa{l:List Oper}{aF:Act}{Q:Exit->Act->World->Prop}{x:zd0}{a0 a1 q:Int}{z B:TypeId}{Z p2:String}{r b:Array Edge}{y:Oper}
  (U:x.t=128) (X:x.zero= #[.int .i64 0,.int .i64 0,.int .i64 0]) (V:x.val= #[.int .i64 a0,.int .i64 a1,.int .i64 q]) (D:aF.eval (.tmp x.src)= .agg #[a0,a1,q])
  (J:l.toArray[x.al]?=some { dst:=some x.d,op:= .alloc 128,type:=z,pos:=Z,after:=r,guard:=none})
  (C:l.toArray[x.st]?=some { dst:=none,op:= .store 128 (.tmp x.d) (.tmp x.src),type:=B,pos:=p2,after:=b,guard:=none})
  (L:l.toArray[x.so]?=some y) (N:y.dst=some x.src) (O:(b.any fun e=>Region.binds .any e&&e.on==x.al)=true) (hs:(b.any fun e=>Region.binds .any e&&e.on==x.so)=true):ze2 Tryz.prog l Q aF x:=by
 obtain⟨al,st,so,d,src,t,zero,val⟩:=x;subst U X V;dsimp only at *;refine⟨fun a w K s=>?_,fun a w K M E F f s=>?_,fun listed T=>?_,⟨y,L,N⟩⟩
 ·unfold wpOp;rw[J];simp only[Region.wanted,if_true];left;simp[go_sem,Oper.wp];exact s
 ·unfold wpOp;rw[C];simp only[Region.wanted,if_true];left;have Y:w.cell? ⟨M,0,.none⟩=some (.int .i64 0):=zac f 0;have m1:w.cell? ⟨M,1,.none⟩=some (.int .i64 0):=zac f 1;have m2:w.cell? ⟨M,2,.none⟩=some (.int .i64 0):=zac f 2;have I:∀ i,w.frozen? ⟨M,i,.none⟩=false:=fun i=>zax f i;rw[<-F]at D;have G:a.tmps[d]?.getD undef= .pointer (some ⟨M,0,.none⟩):=by simpa[Act.eval,vptr] using E
  have H:a.tmps[src]?.getD undef= .agg #[a0,a1,q]:=by simpa[Act.eval] using D
  simp[go_sem,Oper.wp,G,H,Y,m1,m2,I];refine s _ ?_ ?_ ?_
  ·rw[heap_setCell_same _ M 2 _ _ _ (heap_setCell_same _ M 1 _ _ _ (heap_setCell_same _ M 0 _ _ _ f))];rfl
  ·exact((((Only.refl (fun k=>k=M) w).setCell (p:=⟨M,0,.none⟩) (.inl rfl) _).setCell (p:=⟨M,1,.none⟩) (.inl rfl) _).setCell (p:=⟨M,2,.none⟩) (.inl rfl) _)
  simp[World.setCell]
 obtain⟨_,o,m,R⟩:=mem_ready.1 T;rw[C]at m;injection m with m;subst m;have j:∀ n,(b.any fun e=>Region.binds .any e&&e.on==n)=true->listed.getD n false=true:=fun n S=>by obtain⟨i,hi,hu⟩:=Array.any_eq_true.1 S;simp only[Bool.and_eq_true,beq_iff_eq]at hu;exact hu.2 ▸ R _ (Array.getElem_mem hi) hu.1
 exact⟨j _ O,j _ hs⟩
theorem zys(q p b:Nat)(s:Sh)(t:Sc)(m:Mem)(w:World)(hq:zaa w q (zbt s t) 324)(hw:zaq w p b m)(cd:q≠p)(cc:q≠b)(hf:Fits s m)(ho:scOk s t)(hs:m.st<1000000000):
  Calls Tryz.prog 309 #[some q,some p] w fun e w'=>Stepped q p b w w' e (zbt s (zed s t m).1) 324 (zed s t m).2:=by
 have S:=At3.start hq hw cd cc;clear hq hw;rcases Bool.eq_false_or_eq_true t.done with hd|hd
 ·have O:zed s t m=(t,m):=by unfold zed;rw[if_pos hd]
  rw[O];clear O;have b3:w.cell? ⟨q,10,.none⟩=some (.bool true):=by rw[<-hd];exact S.cell 10
  clear ho hd hf;go_in;go_wp2_with fail;go_returns;exact S.fin rfl rfl
 obtain⟨hc,hk,c9,cb,hi,hn⟩:=ho.cl hd;have bf:=hf.bd;have ba:0<=t.i/\t.i<16:=by have:=zdg hk;omega
 have bg:0<=t.page s/\t.page s<s.p:=⟨Int.emod_nonneg _ (by omega),Int.emod_lt_of_pos _ (by omega)⟩;obtain⟨bh,bx⟩:=hf.page bg;obtain⟨bk,bj⟩:=hf.slot bg ba;have o:=fun Y (z:zaa Y q (zbt s t) 324)=>zoi q s t Y z (by omega) (by omega) (by omega);have D:=fun Y=>planPage_any s.p s.c s.m (t.page s) Y;have l:=fun Y=>zbm s.p s.c s.m (t.page s) t.i Y;have b9:=fun k Y=>zbl k t.k Y;have F:=fun Y=>zbl 2 t.c Y;have H:=fun t' (h:t'.many=t.many) Y (z:zaa Y q (zbt s t') 324)=>zok q s t' Y z (by omega);have y:=fun t' (h:t'.many=t.many) (h2:t'.i=t.i) Y (z:zaa Y q (zbt s t') 324)=>zxm q s t' Y z (by omega) (by omega);rw[bh]at D;rw[bk]at l;obtain⟨r,O⟩:∃ r,r=zed s t m:=⟨_,rfl⟩;rw[<-O];unfold zed at O;rw[if_neg (by rw[hd];decide)]at O;dsimp only at O;rw[bh,bk]at O;have L:t.next=0\/t.next=1\/t.next=2:=by omega
 have T:=fun Y (z:zaq Y p b m)=>zc1 p b m t.c (s.c+t.page s) Y z bx hs;have U:=fun Y (z:zaq Y p b m)=>zc1 p b m t.c (s.c+s.p+t.page s*16+t.i) Y z bj hs;have R:=fun Y (z:zaq Y p b m)=>zff p b m t.c (s.c+s.p+t.page s*16+t.i) (zc8 t.k) (wayW t.c) Y z bj (zch _ _) hs;have G:=fun Y=>zh3 s (t.page s) (m.get (s.c+t.page s)) Y (Mem.ze4 S.wds.fit _);generalize s.c+s.p+t.page s*16+t.i=sa at U R l O;generalize s.c+t.page s=pa at T D G O;generalize bw:t.page s=pg at o D l G O;clear bw bx bj bh bk bg ho hf ba cb c9 hi;have bv:Hid (zc8 t.k=zc3 1 t.k):=hd' rfl;have bz:Hid (wayW t.c=zc3 2 t.c):=hd' rfl;rw[<-bz.out]at F;have j:=fun Y=>b9 1 Y;rw[<-bv.out]at j;clear b9 bv bz;generalize zc8 t.k=ow at j R O;generalize wayW t.c=ww at F R O;rcases L with L|L|L
 ·rw[if_pos L]at O;obtain⟨x,hx⟩:∃ x,x=m.get pa:=⟨_,rfl⟩;rw[<-hx]at T G O;clear hx U R y;have b7:r=(if zal s.p s.c s.m pg x=true/\pgK s pg x=2/\pgP s pg x 0=t.k then {t with next:=1} else t.turn s,m.load t.c pa):=by rw[O];unfold pgK pgP;by_cases hB:zal s.p s.c s.m pg x=true<;>simp[hB]
  clear O;generalize zal s.p s.c s.m pg x=B at G b7;generalize pgK s pg x=e0 at G b7;generalize pgP s pg x 0=e1 at G b7;generalize pgP s pg x 1=e2 at G;obtain⟨t2,n,I⟩:∃ t2:Sc,Hid (t2=if B=true/\e0=2/\e1=t.k then {t with next:=1} else t.turn s)/\t2=_:=⟨_,hd' rfl,rfl⟩;rw[<-I]at b7;clear I;subst b7;replace H:=fun Y (z:zaa Y q (zbt s t) 324)=>H t rfl Y z;obtain⟨tc,tk,tf,tm,ti,tn,C,b8⟩:=t;obtain⟨sp,sc,sm⟩:=s;dsimp only at hd L T G o D l j F H n ⊢;subst hd L;replace T:=hd' T;replace G:=hd' G;replace o:=hd' o;replace D:=hd' D;replace l:=hd' l;replace j:=hd' j;replace H:=hd' H;clear F hc hk bf;have lq:=S.lt;have c5:=S.cell;have b3:=ce (.bool false) (S.cell 10);go_in;go_upto_region 1 with fail;refine zaj (by kernel_rfl) (by kernel_rfl) ?_;repeat (go_big_quiet_step ((first|(go_at_call 223;exact zam (o.out _ (S.row.below (Ext.below _))))|(go_at_call 121;exact zam (l.out _)))))
  refine wpQuiet_nil ?_;rintro _ ⟨e',rfl⟩;have hX:=S.below e'.below;generalize e'.w=X at *;clear c5 b3 S lq;have c6:=hX.cell;go_upto_region 5 with(go_at_call 156;(with_reducible refine(j.out _).mono ?_);rintro r w1 ⟨rfl,b0⟩;have z:=hX.below b0;have c7:=z.cell);clear c6 c7 hX;go_cut [6,7] (fun s6 s7 wx=>∃ E,s6= .pointer (some ⟨E,0,.none⟩)/\s7= .bool B/\w.heap.size<=E/\zaa wx E #[e0,e1,e2] 128/\At3 q p b w wx (zbt ⟨sp,sc,sm⟩ ⟨tc,tk,tf,tm,ti,0,C,false⟩) 324 (m.load tc pa));case first=>
   refine zcl (x:=⟨23,24,21,6,60,128, #[.int .i64 0,.int .i64 0,.int .i64 0], #[e0,e1,e2]⟩) (ld:=18) (v:= .int .u64 x) (ts:= [46,50,57])
    (K0:=fun Y=>At3 q p b w Y (zbt ⟨sp,sc,sm⟩ ⟨tc,tk,tf,tm,ti,0,C,false⟩) 324 m) (K1:=fun Y=>At3 q p b w Y (zbt ⟨sp,sc,sm⟩ ⟨tc,tk,tf,tm,ti,0,C,false⟩) 324 (m.load tc pa))
    (by kernel_rfl) (by simp only[zfq,zej,nopO,nopC,Nat.reduceBEq,Bool.or_false,Bool.or_true,Bool.false_eq_true,↓reduceIte,Nat.reduceAdd];exact rfl) (by kernel_rfl) (by kernel_rfl) (by kernel_rfl) (by dsimp only;decide) (by dsimp only;simp) (by dsimp only;decide) (by dsimp only;simp) (by kernel_rfl) (by dsimp only;decide) (by simp)
    ⟨⟨fun Y Y' h1 h2 h3=>h1.far h2 h3 z.only.size⟩,⟨fun Y Y' h1 h2 h3=>h1.far h2 h3 z.only.size⟩⟩ z.drew ?_
   apply Exists.intro;refine⟨fun B hb hs=>?_,fun _=>?_,?_,?_⟩;case refine_1=>
    have bi:zaa B q (zbt ⟨sp,sc,sm⟩ ⟨tc,tk,tf,tm,ti,0,C,false⟩) 324:=hb.elim (fun h=>h.row) (fun h=>h.row);have lB:=bi.lt;have cq:=bi.cell;repeat (go_big_quiet_step ((first|(go_at_call 223;exact zam (o.out _ (bi.below (Ext.below _))))|(go_at_call 119;exact zam (D.out _))|(go_at_call 118;exact zam (G.out _)))))
    exact wpQuiet_nil rfl
   case refine_2=>exact zqa rfl rfl rfl rfl rfl rfl rfl rfl (by dsimp only;decide +kernel) (by dsimp only;decide +kernel)
   case refine_3=>exact zcz rfl (fun _ _=>by simp[go_sem]) fun Y bc hs=>(T.out Y bc.wds).mono fun r Y' ⟨h1,h2,h3⟩=>⟨h1,bc.load h2 h3,h3.weak fun k hk=>hk ▸ Nat.lt_of_lt_of_le bc.ls.2.1 z.only.size⟩
   case refine_4=>intro a w4 M hf;obtain⟨rfl,cp,ca,b6⟩:=hf;obtain⟨hM,b6⟩:=b6 (by simp);simp only[Act.put,vput,vptr];go_wp2;go_meet;exact⟨_,rfl,rfl,Nat.le_trans z.only.size hM,b6,ca⟩
  case rest=>
   obtain⟨E,rfl,rfl,hE,bb,N⟩:=hcut;have cu:E≠q:=fun e=>by rw[e]at hE;have:=z.ls.1;omega
   have bq:=bb.cell;have bs:=N.cell;have zf:=N.free;clear z T G o D l j b0;by_cases hB:B=true/\e0=2/\e1=tk
   ·obtain⟨rfl,rfl,rfl⟩:=hB;replace n:=hd' (n.out.trans (if_pos ⟨rfl,rfl,rfl⟩));go_wp2_with fail;go_quiet (fail);have b4:=N.drewN nq;clear bq bs zf bb N;generalize wc.drewN nq=V at *;have cr:=b4.cell;have zf:=b4.free;go_wp2_with fail;go_returns;exact(b4.set 8 _).fin (by rw[n.out];rfl) rfl
   replace n:=hd' (n.out.trans (if_neg hB));have J:B=false\/(B=true/\(e0==2)=false)\/(B=true/\e0=2/\(e1==tk)=false):=by
    rcases Bool.eq_false_or_eq_true B with h|h
    ·by_cases h1:e0=2
     ·exact .inr (.inr ⟨h,h1,by simpa[h,h1] using hB⟩)
     exact .inr (.inl ⟨h,by simpa using h1⟩)
    exact .inl h
   clear hB;rcases J with rfl|⟨rfl,J⟩|⟨rfl,rfl,J⟩;all_goals go_wp2_with fail;go_quiet (fail);have b4:=N.drewN nq;clear bq bs zf bb N;generalize wc.drewN nq=V at *;go_wp2_with (go_at_call 311;(with_reducible refine(H.out _ b4.row).mono ?_);rintro r w1 hT;obtain rfl:=hT.ret);go_returns;exact(b4.turned hT).fin (by rw[n.out]) rfl
 ·rw[if_neg (by omega),if_pos L]at O;clear T G R F H D;have b5:m.get sa=ow\/(¬ m.get sa=ow/\(m.get sa==ow)=false):=by
   by_cases h:m.get sa=ow
   ·exact .inl h
   exact .inr ⟨h,by simpa using h⟩
  obtain⟨t2,n,I⟩:∃ t2:Sc,Hid (t2=if m.get sa=ow then {t with next:=2} else t.miss s)/\t2=_:=⟨_,hd' rfl,rfl⟩;rw[<-I]at O;clear I;subst O;replace y:=fun Y (z:zaa Y q (zbt s t) 324)=>y t rfl rfl Y z;obtain⟨x,hx,c4⟩:=hidv (m.get sa);rw[<-c4]at U b5 n;clear hx c4;obtain⟨tc,tk,tf,tm,ti,tn,C,b8⟩:=t;obtain⟨sp,sc,sm⟩:=s;dsimp only at hd L U o l j y n ⊢;subst hd L;replace o:=hd' o;replace l:=hd' l;replace j:=hd' j;replace y:=hd' y;clear hc hk bf;have lq:=S.lt;have c8:=S.cell;have b3:=ce (.bool false) (S.cell 10);go_in;go_upto_region 1 with fail;refine zaj (by kernel_rfl) (by kernel_rfl) ?_;repeat (go_big_quiet_step ((first|(go_at_call 223;exact zam (o.out _ (S.row.below (Ext.below _))))|(go_at_call 121;exact zam (l.out _)))))
  refine wpQuiet_nil ?_;rintro _ ⟨e',rfl⟩;have hX:=S.below e'.below;generalize e'.w=X at *;clear c8 b3 S lq;have cs:=hX.cell;replace U:=hd' U;rcases b5 with rfl|⟨J,b5⟩
  ·replace n:=hd' (n.out.trans (if_pos rfl));go_wp2_with (first|(go_at_call 156;(with_reducible refine(j.out _).mono ?_);rintro r w1 ⟨rfl,b0⟩;have z:=hX.below b0;have cf:=z.cell)|(go_at_call 258;(with_reducible refine(U.out _ z.wds).mono ?_);rintro r w2 ⟨rfl,b2,b1⟩;have N:=z.load b2 b1;have cg:=N.cell;have zf:=N.free)|(go_at_call 310;(with_reducible refine(y.out _ N.row).mono ?_);rintro r w3 hT;obtain rfl:=hT.ret));go_returns;exact(N.set 8 _).fin (by rw[n.out];rfl) rfl
  replace n:=hd' (n.out.trans (if_neg J));clear J;go_wp2_with (first|(go_at_call 156;(with_reducible refine(j.out _).mono ?_);rintro r w1 ⟨rfl,b0⟩;have z:=hX.below b0;have ch:=z.cell)|(go_at_call 258;(with_reducible refine(U.out _ z.wds).mono ?_);rintro r w2 ⟨rfl,b2,b1⟩;have N:=z.load b2 b1;have cj:=N.cell;have zf:=N.free)|(go_at_call 310;(with_reducible refine(y.out _ N.row).mono ?_);rintro r w3 hT;obtain rfl:=hT.ret));go_returns;exact(N.turned hT).fin (by rw[n.out]) rfl
 rw[if_neg (by omega),if_neg (by omega)]at O;clear T G U H D;have b5:(m.get sa=ow/\decide (m.get sa=ow)=true)\/(¬ m.get sa=ow/\decide (m.get sa=ow)=false):=by
  by_cases h:m.get sa=ow
  ·exact .inl ⟨h,decide_eq_true h⟩
  exact .inr ⟨h,decide_eq_false h⟩
 obtain⟨t2,n,I⟩:∃ t2:Sc,Hid (t2=if m.get sa=ow then {t with found:=true,done:=true} else t.miss s)/\t2=_:=⟨_,hd' rfl,rfl⟩;rw[<-I]at O;clear I;subst O;replace y:=fun Y (z:zaa Y q (zbt s t) 324)=>y t rfl rfl Y z;obtain⟨g,hg,bu⟩:∃ g,Hid (g=decide (m.get sa=ow))/\g=decide (m.get sa=ow):=⟨_,hd' rfl,rfl⟩;rw[<-bu]at R b5;clear hg bu;obtain⟨tc,tk,tf,tm,ti,tn,C,b8⟩:=t;obtain⟨sp,sc,sm⟩:=s;dsimp only at hd L R o l j F y n ⊢;subst hd L;replace o:=hd' o;replace l:=hd' l;replace j:=hd' j;replace y:=hd' y;clear hc hk bf;have lq:=S.lt;have bm:=S.cell;have b3:=ce (.bool false) (S.cell 10);go_in;go_upto_region 1 with fail;refine zaj (by kernel_rfl) (by kernel_rfl) ?_;repeat (go_big_quiet_step ((first|(go_at_call 223;exact zam (o.out _ (S.row.below (Ext.below _))))|(go_at_call 121;exact zam (l.out _)))))
 refine wpQuiet_nil ?_;rintro _ ⟨e',rfl⟩;have hX:=S.below e'.below;generalize e'.w=X at *;clear bm b3 S lq;have bn:=hX.cell;replace R:=hd' R;replace F:=hd' F;go_upto_region 14 with(go_at_call 156;(with_reducible refine(j.out _).mono ?_);rintro r w1 ⟨rfl,b0⟩;have z:=hX.below b0;have bp:=z.cell);clear bn bp hX;have lY:=z.lt;have ck:=z.cell;rcases b5 with⟨J,rfl⟩|⟨J,rfl⟩
 ·replace n:=hd' (n.out.trans (if_pos J));clear J;refine zad 13 (by kernel_rfl) (by kernel_rfl) ?_;dsimp only[List.take,List.drop];repeat (go_big_quiet_step (((go_at_call 156;exact zam (F.out _)))))
  refine wpQuiet_nil ?_;rintro _ ⟨e',rfl⟩;have hZ:=z.below e'.below;generalize e'.w=Z at *;change wpList _ _ _ _ _ Z;go_wp2_with (go_at_call 261;(with_reducible refine(R.out _ hZ.wds).mono ?_);rintro r w2 ⟨rfl,b2,b1⟩;have N:=hZ.access b2 b1;have cm:=N.cell;have zf:=N.free);go_returns;exact((N.set 9 _).set 10 _).fin (by rw[n.out];rfl) rfl
 replace n:=hd' (n.out.trans (if_neg J));clear J;refine zad 13 (by kernel_rfl) (by kernel_rfl) ?_;dsimp only[List.take,List.drop];repeat (go_big_quiet_step (((go_at_call 156;exact zam (F.out _)))))
 refine wpQuiet_nil ?_;rintro _ ⟨e',rfl⟩;have hZ:=z.below e'.below;generalize e'.w=Z at *;change wpList _ _ _ _ _ Z;go_wp2_with (first|(go_at_call 261;(with_reducible refine(R.out _ hZ.wds).mono ?_);rintro r w2 ⟨rfl,b2,b1⟩;have N:=hZ.access b2 b1)|(go_at_call 310;(with_reducible refine(y.out _ N.row).mono ?_);rintro r w3 hT;obtain rfl:=hT.ret));go_returns;exact(N.turned hT).fin (by rw[n.out]) rfl
end Go.Proofs.YtkbddndcegpllaaGreat
