/- Texts bound together: MagW SlotW. -/
import Derived.Deep.CutBlock

import Derived.Test.YtedcnffebdpmmaaGreatBu6

set_option linter.all false
set_option maxHeartbeats 2000000
set_option maxRecDepth 100000
namespace Go.Proofs.YtedcnffebdpmmaaGreat

open Go.RowKit

attribute [local go_sem ↓] Go.wp_at_zero Go.wp_at_succ

def zd1 (s:Sh) (t:Tk):Array Value:= #[s.p,s.c,s.m,t.c,t.k,t.i,t.ep,t.es,t.ek,t.hit,t.found,t.done]
attribute [local go_sem] zd1

def z1r (s:Sh) (c k:Int):Bool:=decide (0<=zae s.p s.c s.m c) && decide (0 < zah k)
theorem zwl(s:Sh)(c k:Int)(w:World):
  Calls Tryz.prog 133 #[.agg #[s.p,s.c,s.m],c,k] w fun e w'=>e= .returned (.bool (z1r s c k))/\Below w.heap.size w w':=by
 unfold z1r;rcases Int.lt_or_le (zae s.p s.c s.m c) 0 with h1|h1
 ·rw[decide_eq_false (by omega:¬ 0<=zae s.p s.c s.m c),Bool.false_and];go_in;go_wp2_with (go_at_call 22;(with_reducible refine(zau _ _ _ _ _).mono ?_);rintro r i ⟨rfl,b⟩);go_ret;exact⟨rfl,boxedB b⟩
 rw[decide_eq_true h1,Bool.true_and];go_in;go_wp2_with (first|(go_at_call 22;(with_reducible refine(zau _ _ _ _ _).mono ?_);rintro r i ⟨rfl,b⟩)|(go_at_call 67;(with_reducible refine(slots_any _ _).mono ?_);rintro r j ⟨rfl,rfl⟩));go_ret;exact⟨rfl,boxedB b⟩
theorem z0e(s:Sh)(c k:Int)(w:World):
  Calls Tryz.prog 119 #[.agg #[s.p,s.c,s.m],c,k] w fun e w'=>Born w w' e (zd1 s (zg3 s c k)) 244:=by
 have n:=fun W=>zwl s c k W;obtain⟨g,o,b⟩:=hidv (z1r s c k);rw[<-b]at n;clear b;obtain⟨sp,j,i⟩:=s;dsimp only at n;replace n:=hd' n;have B:zd1 ⟨sp,j,i⟩ (zg3 ⟨sp,j,i⟩ c k)= #[.int .i64 sp,.int .i64 j,.int .i64 i,.int .i64 c,.int .i64 k,.int .i64 0,.int .i64 0,.int .i64 0,.int .i64 0,.bool false,.bool false,.bool (!g||i==0)]:=by rw[o.out];rfl
 rw[B];clear B o;have y:=(Below.refl w.heap.size w).alloc lr (.cells #[sp,j,i] 23);have q:=heap_alloc_new w (.cells #[sp,j,i] 23);go_in;go_upto_region 1 with fail;generalize w.alloc (.cells #[sp,j,i] 23)=W at *;obtain⟨H,D,l⟩:=hidv w.heap.size;rw[<-l]at q ⊢;have E:H<W.heap.size:=(Array.getElem?_eq_some_iff.1 q).1;have C:=zac q;clear l q;cases g;all_goals
  refine wret 14 ?_;repeat (go_big_quiet_step (((go_at_call 133;exact zam (n.out _)))))
  refine wqn fun X r=>?_;have z:=r;go_wp2_with fail;go_ret;exact za6 y z rfl
def enP (s:Sh) (x:Int) (i:Nat):Int:=if zbi s.p s.c s.m x=true then za2 x i else 0
theorem zzr(s:Sh)(x:Int)(w:World)(b:0<=x/\x<18446744073709551616):
  Calls Tryz.prog 97 #[.agg #[s.p,s.c,s.m],.int .u64 x] w fun e w'=>e= .returned (.tuple #[.agg #[.int .i64 (enP s x 0),.int .i64 (enP s x 1),.int .i64 (enP s x 2)],.bool (zbi s.p s.c s.m x)])/\Below w.heap.size w w':=by
 refine(zp3 s.p s.c s.m x w b.1 b.2).mono ?_;rintro e w' ⟨hb,rfl⟩;refine⟨?_,hb⟩;unfold enP;cases zbi s.p s.c s.m x<;>rfl
theorem yam{l:List Oper}{aF:Act}{Q:Exit->Act->World->Prop}{x:zd0}{a0 q r:Int}{B C:TypeId}{Y Z:String}{s b:Array Edge}{z:Oper}
  (R:x.t=142) (T:x.zero= #[.int .i64 0,.int .i64 0,.int .i64 0]) (S:x.val= #[.int .i64 a0,.int .i64 q,.int .i64 r]) (D:aF.eval (.tmp x.src)= .agg #[a0,q,r])
  (h1:l.toArray[x.al]?=some { dst:=some x.d,op:= .alloc 142,type:=B,pos:=Y,after:=s,guard:=none})
  (h2:l.toArray[x.st]?=some { dst:=none,op:= .store 142 (.tmp x.d) (.tmp x.src),type:=C,pos:=Z,after:=b,guard:=none})
  (h3:l.toArray[x.so]?=some z) (h4:z.dst=some x.src) (J:(b.any fun e=>Region.binds .any e&&e.on==x.al)=true) (hs:(b.any fun e=>Region.binds .any e&&e.on==x.so)=true):ze2 Tryz.prog l Q aF x:=by
 obtain⟨al,st,so,d,src,t,zero,val⟩:=x;subst R T S;dsimp only at *;refine⟨fun a w K y=>?_,fun a w K M E F f y=>?_,fun listed O=>?_,⟨z,h3,h4⟩⟩
 ·unfold wpOp;rw[h1];simp only[Region.wanted,if_true];left;simp[go_sem,Oper.wp];exact y
 ·unfold wpOp;rw[h2];simp only[Region.wanted,if_true];left;have U:w.cell? ⟨M,0,.none⟩=some (.int .i64 0):=zac f 0;have V:w.cell? ⟨M,1,.none⟩=some (.int .i64 0):=zac f 1;have X:w.cell? ⟨M,2,.none⟩=some (.int .i64 0):=zac f 2;have I:∀ i,w.frozen? ⟨M,i,.none⟩=false:=fun i=>zax f i;rw[<-F]at D;have G:a.tmps[d]?.getD undef= .pointer (some ⟨M,0,.none⟩):=by simpa[Act.eval,vptr] using E
  have H:a.tmps[src]?.getD undef= .agg #[a0,q,r]:=by simpa[Act.eval] using D
  simp[go_sem,Oper.wp,G,H,U,V,X,I];refine y _ ?_ ?_ ?_
  ·rw[heap_setCell_same _ M 2 _ _ _ (heap_setCell_same _ M 1 _ _ _ (heap_setCell_same _ M 0 _ _ _ f))];rfl
  ·exact((((Only.refl (fun k=>k=M) w).setCell (p:=⟨M,0,.none⟩) (.inl rfl) _).setCell (p:=⟨M,1,.none⟩) (.inl rfl) _).setCell (p:=⟨M,2,.none⟩) (.inl rfl) _)
  simp[World.setCell]
 obtain⟨_,o,m,L⟩:=mem_ready.1 O;rw[h2]at m;injection m with m;subst m;have j:∀ n,(b.any fun e=>Region.binds .any e&&e.on==n)=true->listed.getD n false=true:=fun n N=>by obtain⟨i,hi,hu⟩:=Array.any_eq_true.1 N;simp only[Bool.and_eq_true,beq_iff_eq]at hu;exact hu.2 ▸ L _ (Array.getElem_mem hi) hu.1
 exact⟨j _ J,j _ hs⟩
def yen (t:Tk) (s:Sh) (_:Mem):Prop:=(0<=t.i/\t.i < s.m)/\0<=s.m/\s.m<=8
theorem zxs(q p b:Nat)(s:Sh)(t:Tk)(m:Mem)(w:World)(hq:zaa w q (zd1 s t) 244)(hw:zaq w p b m)(bx:q≠p)(bw:q≠b)(hf:Fits s m)(ho:tkOk s t)(hs:m.st<1000000000):
  Calls Tryz.prog 235 #[some q,some p] w fun e w'=>Stepped q p b w w' e (zd1 s (zd2 s t m).1) 244 (zd2 s t m).2:=by
 have h0:=At3.start hq hw bx bw;clear hq hw;rcases Bool.eq_false_or_eq_true t.done with hd|hd
 ·have I:zd2 s t m=(t,m):=by unfold zd2;rw[if_pos hd]
  rw[I];clear I;have Z:w.cell? ⟨q,11,.none⟩=some (.bool true):=by rw[<-hd];exact h0.cell 11
  clear ho hd hf;go_in;go_wp2_with fail;go_returns;exact h0.fin rfl rfl
 obtain⟨hc,hi⟩:=ho.cl hd;obtain⟨N,F⟩:=hf.mag hc hi;have l:=fun W=>zjh s.p s.c s.m t.c t.i W;rw[N]at l;rcases Bool.eq_false_or_eq_true t.hit with hh|hh
 ·have I:zd2 s t m=({t with found:=true,done:=true},m.store t.c (s.c+s.p+s.p*16+t.c*s.m+t.i) 0):=by unfold zd2;rw[if_neg (by rw[hd];decide),if_pos hh,N]
  rw[I];clear I;have R:=fun W (hW:zaq W p b m)=>zba p b m t.c (s.c+s.p+s.p*16+t.c*s.m+t.i) 0 W hW F (by decide) hs;clear N F hf ho hc hi;obtain⟨a,ha⟩:∃ a,a=s.c+s.p+s.p*16+t.c*s.m+t.i:=⟨_,rfl⟩;rw[<-ha]at R l ⊢;clear ha;obtain⟨J,L,G,z,C,y,bm,j,b7⟩:=t;obtain⟨sp,sc,sm⟩:=s;dsimp only at hd hh R l ⊢;subst hd hh;have lq:=h0.lt;have bn:=h0.cell;have Z:=ce (.bool false) (h0.cell 11);replace R:=hd' R;replace l:=hd' l;go_in;go_upto_region 1 with fail;refine wre ?_;repeat (go_big_quiet_step (((go_at_call 73;exact zam (l.out _)))))
  refine wqn fun X b4=>?_;have H:=h0.below b4;have c8:=H.cell;clear bn Z h0 l;go_wp2_with (go_at_call 185;(with_reducible refine(R.out _ H.wds).mono ?_);rintro r w1 ⟨rfl,bz,bv⟩;have S:=H.access bz bv;have c9:=S.cell;have zf:=S.free);go_returns;exact((S.set 10 _).set 11 _).fin rfl rfl
 have I:zd2 s t m=(if zbi s.p s.c s.m (m.get (s.c+s.p+s.p*16+t.c*s.m+t.i))=true/\enP s (m.get (s.c+s.p+s.p*16+t.c*s.m+t.i)) 2=t.k then {t with ep:=enP s (m.get (s.c+s.p+s.p*16+t.c*s.m+t.i)) 0,es:=enP s (m.get (s.c+s.p+s.p*16+t.c*s.m+t.i)) 1,ek:=enP s (m.get (s.c+s.p+s.p*16+t.c*s.m+t.i)) 2,hit:=true} else {t with i:=t.i+1,done:=decide (t.i+1=s.m)},m.load t.c (s.c+s.p+s.p*16+t.c*s.m+t.i)):=by
  unfold zd2 enP;rw[if_neg (by rw[hd];decide),if_neg (by rw[hh];decide),N];by_cases hx:zbi s.p s.c s.m (m.get (s.c+s.p+s.p*16+t.c*s.m+t.i))=true
  ·simp only[hx,true_and,if_true];split<;>rfl
  simp[hx]
 rw[I];clear I;have D:=fun W (hW:zaq W p b m)=>zc1 p b m t.c (s.c+s.p+s.p*16+t.c*s.m+t.i) W hW F hs;have o:=fun W=>zzr s (m.get (s.c+s.p+s.p*16+t.c*s.m+t.i)) W (Mem.ze4 h0.wds.fit _);have bi:yen t s m:=⟨hi,hf.bd.2.2.2.2⟩;clear N F hf ho hc hi;obtain⟨a,ha⟩:∃ a,a=s.c+s.p+s.p*16+t.c*s.m+t.i:=⟨_,rfl⟩;rw[<-ha]at D l o ⊢;clear ha;obtain⟨x,hx⟩:∃ x,x=m.get a:=⟨_,rfl⟩;rw[<-hx]at D o ⊢;clear hx;obtain⟨B,hB⟩:∃ B,B=zbi s.p s.c s.m x:=⟨_,rfl⟩;obtain⟨e0,bf⟩:∃ e,e=enP s x 0:=⟨_,rfl⟩;obtain⟨e1,bg⟩:∃ e,e=enP s x 1:=⟨_,rfl⟩;obtain⟨e2,bh⟩:∃ e,e=enP s x 2:=⟨_,rfl⟩;rw[<-hB,<- bf,<- bg,<- bh]at o ⊢;clear hB bf bg bh;obtain⟨J,L,G,z,C,y,bm,j,b7⟩:=t;obtain⟨sp,sc,sm⟩:=s;dsimp only[yen]at hd hh D l o bi ⊢;subst hd hh;obtain⟨⟨i0,i1⟩,i2,i3⟩:=bi;obtain⟨t2,b6,b2⟩:∃ t2:Tk,Hid (t2=if B=true/\e2=L then⟨J,L,G,e0,e1,e2,true,j,false⟩ else⟨J,L,G+1,z,C,y,false,j,decide (G+1=sm)⟩)/\t2=_:=⟨_,hd' rfl,rfl⟩;rw[<-b2];clear b2;have lq:=h0.lt;have bp:=h0.cell;have Z:=ce (.bool false) (h0.cell 11);replace D:=hd' D;replace o:=hd' o;replace l:=hd' l;go_in;go_upto_region 1 with fail;refine wre ?_;repeat (go_big_quiet_step (((go_at_call 73;exact zam (l.out _)))))
 refine wqn fun X b4=>?_;have H:=h0.below b4;have c4:=H.lt;have bq:=H.cell;clear bp Z h0 l;go_upto_region 5 with fail;go_cut [5,6] (fun s5 s6 wx=>∃ E,s5= .pointer (some ⟨E,0,.none⟩)/\s6= .bool B/\w.heap.size<=E/\zaa wx E #[e0,e1,e2] 142/\At3 q p b w wx (zd1 ⟨sp,sc,sm⟩ ⟨J,L,G,z,C,y,false,j,false⟩) 244 (m.load J a));case first=>
  refine wrl (x:=⟨15,16,13,5,58,142, #[.int .i64 0,.int .i64 0,.int .i64 0], #[e0,e1,e2]⟩) (ld:=10) (v:= .int .u64 x) (ts:= [50,54,55])
   (K0:=fun Y=>At3 q p b w Y (zd1 ⟨sp,sc,sm⟩ ⟨J,L,G,z,C,y,false,j,false⟩) 244 m) (K1:=fun Y=>At3 q p b w Y (zd1 ⟨sp,sc,sm⟩ ⟨J,L,G,z,C,y,false,j,false⟩) 244 (m.load J a))
   ⟨⟨fun Y Y' h1 h2 h3=>h1.far h2 h3 H.only.size⟩,⟨fun Y Y' h1 h2 h3=>h1.far h2 h3 H.only.size⟩⟩ H.drew ?_
  apply Exists.intro;refine⟨fun B hb hs=>?_,fun _=>?_,?_,?_⟩;case refine_1=>
   have bk:zaa B q (zd1 ⟨sp,sc,sm⟩ ⟨J,L,G,z,C,y,false,j,false⟩) 244:=hb.elim (fun h=>h.row) (fun h=>h.row);have lB:=bk.lt;have ca:=bk.cell;repeat (go_big_quiet_step (((go_at_call 97;exact zam (o.out _)))))
   exact wpQuiet_nil rfl
  case refine_2=>exact yam rfl rfl rfl rfl rfl rfl rfl rfl (by dsimp only;decide +kernel) (by dsimp only;decide +kernel)
  case refine_3=>exact zcz rfl (fun _ _=>by simp[go_sem]) fun Y hY hs=>(D.out Y hY.wds).mono fun r Y' ⟨h1,h2,h3⟩=>⟨h1,hY.load h2 h3,h3.weak fun k hk=>hk ▸ Nat.lt_of_lt_of_le hY.ls.2.1 H.only.size⟩
  case refine_4=>intro a w4 M hf;obtain⟨rfl,c7,bu,O⟩:=hf;obtain⟨hM,O⟩:=O (by simp);simp only[Act.put,vput,vptr];go_wp2;go_meet;exact⟨_,rfl,rfl,Nat.le_trans H.only.size hM,O,bu⟩
 case rest=>
  obtain⟨E,rfl,rfl,hE,b1,S⟩:=hcut;have cc:E≠q:=fun e=>by rw[e]at hE;omega
  have ba:=b1.cell;have bb:=S.cell;have zf:=S.free;clear bq H c4 D o;have w1:=wrp (G+1);have b5:∀ (Y:World),At3 q p b w Y (zd1 ⟨sp,sc,sm⟩ ⟨J,L,G,z,C,y,false,j,false⟩) 244 (m.load J a)->True:=fun _ _=>trivial;by_cases hB:B=true/\e2=L
  ·obtain⟨rfl,rfl⟩:=hB;go_wp2_with fail;go_quiet (fail);have n:=S.drewN nq;have bs:=b1.drewN nq;clear ba bb zf b1 S w1 b5;generalize wc.drewN nq=V at *;have cb:=bs.cell;have c5:=n.cell;have zf:=n.free;go_wp2_with fail;go_returns;exact((((n.set 6 _).set 7 _).set 8 _).set 9 _).fin (by rw[b6.out,if_pos (by simp)];rfl) rfl
  have I:t2=⟨J,L,G+1,z,C,y,false,j,decide (G+1=sm)⟩:=by rw[b6.out,if_neg hB]
  replace I:=hd' I;clear b6;have bj:B=false\/(B=true/\(e2==L)=false):=by
   rcases Bool.eq_false_or_eq_true B with h|h
   ·exact .inr ⟨h,by simpa[h] using hB⟩
   exact .inl h
  clear hB;rcases bj with rfl|⟨rfl,bj⟩;all_goals
   go_wp2_with fail;go_quiet (fail);have n:=S.drewN nq;clear ba bb zf b1 S;generalize wc.drewN nq=V at *;have b8:=n.cell;have zf:=n.free;go_upto_region 9 with fail;have b0:=n.set 5 (.int .i64 (G+1));generalize V.setCell ⟨q,5,.none⟩ (.int .i64 (G+1))=U at *;have lU:=b0.lt;clear b8 zf n;have b9:=b0.cell;refine wret 13 ?_;repeat (go_big_quiet_step (fail))
   refine wpQuiet_nil ?_;rintro _ ⟨bc,rfl⟩;have b3:=b0.below bc.below;clear b9 b0 lU;generalize bc.w=T at *;change wpList _ _ _ _ _ T;have c6:=b3.cell;have zf:=b3.free;go_wp2_with fail;go_returns;exact(b3.set 11 _).fin (by rw[I.out];rfl) rfl
def zeh (s:Sh) (t:Pu):Array Value:= #[s.p,s.c,s.m,t.c,t.i,t.ep,t.es,t.ek,t.hit,t.put,t.done]
attribute [local go_sem] zeh

theorem z00(s:Sh)(c pg sl k:Int)(w:World):
  Calls Tryz.prog 207 #[.agg #[s.p,s.c,s.m],c,pg,sl,k] w fun e w'=>Born w w' e (zeh s (zg5 s c pg sl k)) 292:=by
 have o:=fun W=>zwl s c k W;have q:=fun W=>planPage_any s.p s.c s.m pg W;have hs:=fun W=>slots_any k W;have D:zeh s (zg5 s c pg sl k)= #[.int .i64 s.p,.int .i64 s.c,.int .i64 s.m,.int .i64 c,.int .i64 0,.int .i64 pg,.int .i64 sl,.int .i64 k,.bool false,.bool false,.bool (!(z1r s c k&&decide (0<=zak s.p s.c s.m pg)&&decide (0<=sl)&&decide (sl<zah k))||s.m==0)]:=rfl;rw[D];clear D;generalize z1r s c k=g at *;generalize zak s.p s.c s.m pg=y at *;generalize zah k=sv at *;obtain⟨sp,z,B⟩:=s;dsimp only at o q ⊢;replace o:=hd' o;replace q:=hd' q;replace hs:=hd' hs;have C:(g=false)\/(g=true/\y<0)\/(g=true/\0<=y/\sl<0)\/(g=true/\0<=y/\0<=sl/\sl<sv)\/(g=true/\0<=y/\0<=sl/\sv<=sl):=by cases g<;>simp<;>omega
 have n:=(Below.refl w.heap.size w).alloc lr (.cells #[sp,z,B] 23);have j:=heap_alloc_new w (.cells #[sp,z,B] 23);go_in;go_upto_region 1 with fail;generalize w.alloc (.cells #[sp,z,B] 23)=W at *;obtain⟨H,F,l⟩:=hidv w.heap.size;rw[<-l]at j ⊢;have I:H<W.heap.size:=(Array.getElem?_eq_some_iff.1 j).1;have c0:W.cell? ⟨H,0,.none⟩=some (.int .i64 sp):=zac j 0;have c1:W.cell? ⟨H,1,.none⟩=some (.int .i64 z):=zac j 1;have c2:W.cell? ⟨H,2,.none⟩=some (.int .i64 B):=zac j 2;clear l j;rcases C with rfl|⟨rfl,h1⟩|⟨rfl,h1,h2⟩|⟨rfl,h1,h2,h3⟩|⟨rfl,h1,h2,h3⟩;all_goals go_wp2_with (first|(go_at_call 133;(with_reducible refine(o.out _).mono ?_);rintro r J ⟨rfl,b⟩;have E:=zai b _ _ _ c0;have d1:=zai b _ _ _ c1;have d2:=zai b _ _ _ c2)|(go_at_call 65;(with_reducible refine(q.out _).mono ?_);rintro r L ⟨rfl,i⟩;have k0:=zai i _ _ _ E;have k1:=zai i _ _ _ d1;have G:=zai i _ _ _ d2)|(go_at_call 67;(with_reducible refine(hs.out _).mono ?_);rintro r M ⟨rfl,rfl⟩));go_returns;first|exact za6 n b rfl|refine za6 n (zab b i) ?_
 ·simp[Int.not_le.2 h1]
 ·simp[Int.not_le.2 h2]
 ·simp[h1,h2,h3]
 simp[h1,h2,Int.not_lt.2 h3]
theorem zxz(q p b:Nat)(s:Sh)(t:Pu)(m:Mem)(w:World)(hq:zaa w q (zeh s t) 292)(hw:zaq w p b m)(b3:q≠p)(b2:q≠b)(N:Fits s m)(ho:puOk s t)(hs:m.st<1000000000):
  Calls Tryz.prog 203 #[some q,some p] w fun e w'=>Stepped q p b w w' e (zeh s (zd3 s t m).1) 292 (zd3 s t m).2:=by
 have h0:=At3.start hq hw b3 b2;clear hq hw;rcases Bool.eq_false_or_eq_true t.done with hd|hd
 ·have j:zd3 s t m=(t,m):=by unfold zd3;rw[if_pos hd]
  rw[j];clear j;have H:w.cell? ⟨q,10,.none⟩=some (.bool true):=by rw[<-hd];exact h0.cell 10
  clear ho hd N;go_in;go_wp2_with fail;go_returns;exact h0.fin rfl rfl
 obtain⟨hc,hi⟩:=ho.cl hd;obtain⟨I,D⟩:=N.mag hc hi;have J:=N.bd.2.2.2.2;have o:=fun W=>zjh s.p s.c s.m t.c t.i W;rw[I]at o;have n:=fun W (hW:zaq W p b m)=>zc1 p b m t.c (s.c+s.p+s.p*16+t.c*s.m+t.i) W hW D hs;have F:=fun W=>zes t.ep t.es t.ek W;have z:=fun W (hW:zaq W p b m)=>zba p b m t.c (s.c+s.p+s.p*16+t.c*s.m+t.i) (putV 1 [t.ep,t.es,t.ek]) W hW D (zj3 _ _ (by decide) (by simp)) hs;obtain⟨r,j⟩:∃ r,r=zd3 s t m:=⟨_,rfl⟩;rw[<-j];unfold zd3 at j;rw[if_neg (by rw[hd];decide),I]at j;generalize s.c+s.p+s.p*16+t.c*s.m+t.i=a at j o n z;clear I D N ho;obtain⟨tc,ti,b6,b7,b5,M,b8,b4⟩:=t;obtain⟨sp,sc,sm⟩:=s;dsimp only at hd hc hi J o n F z j;subst hd;obtain⟨i0,i1⟩:=hi;obtain⟨i2,i3⟩:=J;clear hc;have lq:=h0.lt;generalize putV 1 [b6,b7,b5]=y at z F j;have w1:=wrp (ti+1);replace o:=hd' o;replace n:=hd' n;replace F:=hd' F;replace z:=hd' z;rcases Bool.eq_false_or_eq_true M with hh|hh
 ·subst hh;rw[if_pos rfl]at j;subst j;have S:=h0.cell;have H:=ce (.bool false) (h0.cell 10);go_in;go_upto_region 1 with fail;refine wre ?_;repeat (go_big_quiet_step (((go_at_call 73;exact zam (o.out _)))))
  refine wqn fun X l=>?_;have C:=h0.below l;clear S H h0;have V:=C.cell;have lX:=C.lt;go_upto_region 5 with fail;refine wret 11 ?_;repeat (go_big_quiet_step (((go_at_call 111;exact zam (F.out _)))))
  refine wqn fun Y l=>?_;have hY:=C.below l;clear V C lX;go_wp2_with (go_at_call 185;(with_reducible refine(z.out _ hY.wds).mono ?_);rintro r w1 ⟨rfl,G,E⟩;have B:=hY.access G E;have b9:=B.cell;have R:=B.free);go_returns;exact((B.set 9 _).set 10 _).fin rfl rfl
 subst hh;rw[if_neg (by decide)]at j;have O:m.get a=0\/(m.get a==0)=false:=by
  by_cases h:m.get a=0
  ·exact .inl h
  exact .inr (by simpa using h)
 obtain⟨x,L⟩:∃ x,x=m.get a:=⟨_,rfl⟩;rw[<-L]at O j n;clear L;have Z:=h0.cell;have H:=ce (.bool false) (h0.cell 10);go_in;go_upto_region 1 with fail;refine wre ?_;repeat (go_big_quiet_step (((go_at_call 73;exact zam (o.out _)))))
 refine wqn fun X l=>?_;have C:=h0.below l;clear Z H h0;have b0:=C.cell;rcases O with rfl|O
 ·rw[if_pos rfl]at j;subst j;go_wp2_with (go_at_call 186;(with_reducible refine(n.out _ C.wds).mono ?_);rintro r w1 ⟨rfl,G,E⟩;have B:=C.load G E;have ba:=B.cell;have R:=B.free);go_returns;exact(B.set 8 _).fin rfl rfl
 rw[if_neg (by simpa using O)]at j;subst j;go_upto_region 3 with(go_at_call 186;(with_reducible refine(n.out _ C.wds).mono ?_);rintro r w1 ⟨rfl,G,E⟩;have B:=C.load G E;have b1:=B.cell;have R:=B.free);have hB:=B.set 4 (.int .i64 (ti+1));generalize World.setCell _ ⟨q,4,.none⟩ (.int .i64 (ti+1))=U at *;clear b1 R B C b0;have bb:=hB.cell;have lU:=hB.lt;refine wret 13 ?_;repeat (go_big_quiet_step (fail))
 refine wqn fun T l=>?_;have hC:=hB.below l;have bc:=hC.cell;have R:=hC.free;go_wp2_with fail;go_returns;exact(hC.set 10 _).fin rfl rfl
def zbt (s:Sh) (t:Sc):Array Value:= #[s.p,s.c,s.m,t.c,t.k,t.first,t.many,t.i,t.next,t.found,t.done]
attribute [local go_sem] zbt

theorem z1s(s:Sh)(c k f:Int)(w:World):
  Calls Tryz.prog 144 #[.agg #[s.p,s.c,s.m],c,k,f] w fun e w'=>Born w w' e (zbt s (ziq s c k f)) 261:=by
 have o:=fun W=>zau s.p s.c s.m c W;have q:=fun W=>planPage_any s.p s.c s.m f W;have hs:=fun W=>slots_any k W;have D:zbt s (ziq s c k f)= #[.int .i64 s.p,.int .i64 s.c,.int .i64 s.m,.int .i64 c,.int .i64 k,.int .i64 f,.int .i64 0,.int .i64 0,.int .i64 0,.bool false,.bool (!(decide (0<=zae s.p s.c s.m c)&&decide (0<zah k)&&decide (0<=zak s.p s.c s.m f)))]:=rfl;rw[D];clear D;generalize zae s.p s.c s.m c=B at *;generalize zak s.p s.c s.m f=E at *;generalize zah k=sv at *;obtain⟨sp,y,z⟩:=s;dsimp only at o q ⊢;replace o:=hd' o;replace q:=hd' q;replace hs:=hd' hs;have C:(B<0)\/(0<=B/\sv<=0)\/(0<=B/\0<sv/\E<0)\/(0<=B/\0<sv/\0<=E):=by omega
 have j:=(Below.refl w.heap.size w).alloc lr (.cells #[sp,y,z] 23);have l:=heap_alloc_new w (.cells #[sp,y,z] 23);go_in;go_upto_region 1 with fail;generalize w.alloc (.cells #[sp,y,z] 23)=W at *;obtain⟨H,G,n⟩:=hidv w.heap.size;rw[<-n]at l ⊢;have J:H<W.heap.size:=(Array.getElem?_eq_some_iff.1 l).1;have c0:W.cell? ⟨H,0,.none⟩=some (.int .i64 sp):=zac l 0;have c1:W.cell? ⟨H,1,.none⟩=some (.int .i64 y):=zac l 1;have c2:W.cell? ⟨H,2,.none⟩=some (.int .i64 z):=zac l 2;clear n l;rcases C with h1|⟨h1,h2⟩|⟨h1,h2,h3⟩|⟨h1,h2,h3⟩;all_goals go_wp2_with (first|(go_at_call 22;(with_reducible refine(o.out _).mono ?_);rintro r L ⟨rfl,b⟩;have F:=zai b _ _ _ c0;have d1:=zai b _ _ _ c1;have d2:=zai b _ _ _ c2)|(go_at_call 65;(with_reducible refine(q.out _).mono ?_);rintro r M ⟨rfl,i⟩;have k0:=zai i _ _ _ F;have k1:=zai i _ _ _ d1;have I:=zai i _ _ _ d2)|(go_at_call 67;(with_reducible refine(hs.out _).mono ?_);rintro r N ⟨rfl,rfl⟩));go_returns
 ·exact za6 j b (by simp[Int.not_le.2 h1])
 ·exact za6 j b (by simp[h1,Int.not_lt.2 h2])
 ·exact za6 j (zab b i) (by simp[h1,h2,Int.not_le.2 h3])
 exact za6 j (zab b i) (by simp[h1,h2,h3])
theorem zoi(q:Nat)(s:Sh)(t:Sc)(w:World)(m:zaa w q (zbt s t) 261)(l:1<=s.p/\s.p<=64)(h1:0<=t.first/\t.first<64)(h2:0<=t.many/\t.many<=64):
  Calls Tryz.prog 152 #[some q] w fun e w'=>e= .returned (.int .i64 (t.page s))/\Below w.heap.size w w':=by
 unfold Sc.page;obtain⟨sp,G,H⟩:=s;obtain⟨I,L,tf,b,J,M,i,j⟩:=t;dsimp only at l h1 h2 ⊢;have B:=m.lt;have n:=m.cell;obtain⟨E,F⟩:=l;obtain⟨y,z⟩:=h1;obtain⟨C,D⟩:=h2;have N:=wrp (tf+b);have O:(tf+b).tmod sp=(tf+b)%sp:=Int.tmod_eq_emod_of_nonneg (by omega);have S:(sp==0)=false:=by simp;omega
 have R:IntKind.i64.wrap ((tf+b)%sp)=(tf+b)%sp:=by have o:=Int.emod_nonneg (tf+b) (by omega:sp≠0);have r:=Int.emod_lt_of_pos (tf+b) (by omega:0<sp);exact IntWalk.i64_in _ ⟨by omega,by omega⟩
 go_in;go_wp2_with fail;go_quiet (fail);have hb:=below_drewN (Below.refl w.heap.size w) nq;go_wp2_with fail;go_returns;exact⟨rfl,hb⟩
theorem zok(q:Nat)(s:Sh)(t:Sc)(w:World)(o:zaa w q (zbt s t) 261)(h2:0<=t.many/\t.many<64):
  Calls Tryz.prog 239 #[some q] w fun e w'=>Turned q w w' e (zbt s (t.turn s)) 261:=by
 have h0:=At1.start o;clear o;unfold Sc.turn;obtain⟨sp,E,F⟩:=s;obtain⟨G,I,tf,p,H,J,b,n⟩:=t;dsimp only at h2 ⊢;obtain⟨C,D⟩:=h2;have i:=h0.cell;have r:=h0.free;have L:=wrp (p+1);go_in;go_upto_region 2 with fail;have j:=((h0.set 6 (.int .i64 (p+1))).set 7 (.int .i64 0)).set 8 (.int .i64 0);generalize World.setCell _ ⟨q,8,.none⟩ (.int .i64 0)=U at *;clear i h0 r;have y:=j.cell;have B:=j.lt;refine wret 13 ?_;repeat (go_big_quiet_step (fail))
 refine wqn fun T m=>?_;have l:=j.below m;have z:=l.cell;have r:=l.free;go_wp2_with fail;go_returns;exact(l.set 10 _).fin rfl
theorem zxm(q:Nat)(s:Sh)(t:Sc)(w:World)(G:zaa w q (zbt s t) 261)(h2:0<=t.many/\t.many<64)(h3:0<=t.i/\t.i<16):
  Calls Tryz.prog 238 #[some q] w fun e w'=>Turned q w w' e (zbt s (t.miss s)) 261:=by
 have h0:=At1.start G;clear G;unfold Sc.miss;have l:=fun W=>slots_any t.k W;have m:=fun Y (J:zaa Y q (zbt s {t with i:=t.i+1,next:=1}) 261)=>zok q s {t with i:=t.i+1,next:=1} Y J h2;have j:t.i+1=zah t.k\/(¬ t.i+1=zah t.k/\(t.i+1==zah t.k)=false):=by
  by_cases h:t.i+1=zah t.k
  ·exact .inl h
  exact .inr ⟨h,by simpa using h⟩
 obtain⟨C,b,n⟩:∃ C:Sc,Hid (C=if t.i+1=zah t.k then({t with i:=t.i+1,next:=1}:Sc).turn s else {t with i:=t.i+1,next:=1})/\C=_:=⟨_,hd' rfl,rfl⟩;rw[<-n];clear n;generalize zah t.k=sv at *;obtain⟨sp,S,T⟩:=s;obtain⟨V,Z,tf,tm,H,tn,o,D⟩:=t;dsimp only at h2 h3 l m j b;obtain⟨N,O⟩:=h3;clear h2;replace l:=hd' l;replace m:=hd' m;have p:=h0.cell;have M:=h0.free;have L:=wrp (H+1);go_in;go_upto_region 2 with fail;have y:=(h0.set 7 (.int .i64 (H+1))).set 8 (.int .i64 1);generalize World.setCell _ ⟨q,8,.none⟩ (.int .i64 1)=U at *;clear p h0 M;have I:=y.cell;have R:=y.lt;refine wre ?_;repeat (go_big_quiet_step (((go_at_call 67;exact zdx ((l.out _).mono fun _ _ h=>⟨h.1,h.2⟩)))))
 refine wqn fun X B=>?_;have z:=y.below B;rcases j with j|⟨F,j⟩
 ·subst j;replace b:=hd' (b.out.trans (if_pos rfl));go_wp2_with (go_at_call 239;(with_reducible refine(m.out _ z.row).mono ?_);rintro r L E;obtain rfl:=E.ret);go_returns;exact(z.turned E).fin (by rw[b.out])
 replace b:=hd' (b.out.trans (if_neg F));clear F;go_wp2_with fail;go_returns;exact z.fin (by rw[b.out];rfl)
theorem zqa{l:List Oper}{aF:Act}{Q:Exit->Act->World->Prop}{x:zd0}{a0 q r:Int}{B C:TypeId}{Y Z:String}{s b:Array Edge}{z:Oper}
  (R:x.t=88) (T:x.zero= #[.int .i64 0,.int .i64 0,.int .i64 0]) (S:x.val= #[.int .i64 a0,.int .i64 q,.int .i64 r]) (D:aF.eval (.tmp x.src)= .agg #[a0,q,r])
  (h1:l.toArray[x.al]?=some { dst:=some x.d,op:= .alloc 88,type:=B,pos:=Y,after:=s,guard:=none})
  (h2:l.toArray[x.st]?=some { dst:=none,op:= .store 88 (.tmp x.d) (.tmp x.src),type:=C,pos:=Z,after:=b,guard:=none})
  (h3:l.toArray[x.so]?=some z) (h4:z.dst=some x.src) (J:(b.any fun e=>Region.binds .any e&&e.on==x.al)=true) (hs:(b.any fun e=>Region.binds .any e&&e.on==x.so)=true):ze2 Tryz.prog l Q aF x:=by
 obtain⟨al,st,so,d,src,t,zero,val⟩:=x;subst R T S;dsimp only at *;refine⟨fun a w K y=>?_,fun a w K M E F f y=>?_,fun listed O=>?_,⟨z,h3,h4⟩⟩
 ·unfold wpOp;rw[h1];simp only[Region.wanted,if_true];left;simp[go_sem,Oper.wp];exact y
 ·unfold wpOp;rw[h2];simp only[Region.wanted,if_true];left;have U:w.cell? ⟨M,0,.none⟩=some (.int .i64 0):=zac f 0;have V:w.cell? ⟨M,1,.none⟩=some (.int .i64 0):=zac f 1;have X:w.cell? ⟨M,2,.none⟩=some (.int .i64 0):=zac f 2;have I:∀ i,w.frozen? ⟨M,i,.none⟩=false:=fun i=>zax f i;rw[<-F]at D;have G:a.tmps[d]?.getD undef= .pointer (some ⟨M,0,.none⟩):=by simpa[Act.eval,vptr] using E
  have H:a.tmps[src]?.getD undef= .agg #[a0,q,r]:=by simpa[Act.eval] using D
  simp[go_sem,Oper.wp,G,H,U,V,X,I];refine y _ ?_ ?_ ?_
  ·rw[heap_setCell_same _ M 2 _ _ _ (heap_setCell_same _ M 1 _ _ _ (heap_setCell_same _ M 0 _ _ _ f))];rfl
  ·exact((((Only.refl (fun k=>k=M) w).setCell (p:=⟨M,0,.none⟩) (.inl rfl) _).setCell (p:=⟨M,1,.none⟩) (.inl rfl) _).setCell (p:=⟨M,2,.none⟩) (.inl rfl) _)
  simp[World.setCell]
 obtain⟨_,o,m,L⟩:=mem_ready.1 O;rw[h2]at m;injection m with m;subst m;have j:∀ n,(b.any fun e=>Region.binds .any e&&e.on==n)=true->listed.getD n false=true:=fun n N=>by obtain⟨i,hi,hu⟩:=Array.any_eq_true.1 N;simp only[Bool.and_eq_true,beq_iff_eq]at hu;exact hu.2 ▸ L _ (Array.getElem_mem hi) hu.1
 exact⟨j _ J,j _ hs⟩
theorem zys(q p b:Nat)(s:Sh)(t:Sc)(m:Mem)(w:World)(hq:zaa w q (zbt s t) 261)(hw:zaq w p b m)(cd:q≠p)(cc:q≠b)(hf:Fits s m)(ho:scOk s t)(hs:m.st<1000000000):
  Calls Tryz.prog 237 #[some q,some p] w fun e w'=>Stepped q p b w w' e (zbt s (zed s t m).1) 261 (zed s t m).2:=by
 have h0:=At3.start hq hw cd cc;clear hq hw;rcases Bool.eq_false_or_eq_true t.done with hd|hd
 ·have O:zed s t m=(t,m):=by unfold zed;rw[if_pos hd]
  rw[O];clear O;have b3:w.cell? ⟨q,10,.none⟩=some (.bool true):=by rw[<-hd];exact h0.cell 10
  clear ho hd hf;go_in;go_wp2_with fail;go_returns;exact h0.fin rfl rfl
 obtain⟨hc,hk,c9,cb,hi,hn⟩:=ho.cl hd;have bf:=hf.bd;have ba:0<=t.i/\t.i<16:=by have:=zdg hk;omega
 have bg:0<=t.page s/\t.page s<s.p:=⟨Int.emod_nonneg _ (by omega),Int.emod_lt_of_pos _ (by omega)⟩;obtain⟨bh,bx⟩:=hf.page bg;obtain⟨bk,bj⟩:=hf.slot bg ba;have o:=fun Y (z:zaa Y q (zbt s t) 261)=>zoi q s t Y z (by omega) (by omega) (by omega);have D:=fun Y=>planPage_any s.p s.c s.m (t.page s) Y;have l:=fun Y=>zbm s.p s.c s.m (t.page s) t.i Y;have b9:=fun k Y=>zbl k t.k Y;have F:=fun Y=>zbl 2 t.c Y;have H:=fun t' (h:t'.many=t.many) Y (z:zaa Y q (zbt s t') 261)=>zok q s t' Y z (by omega);have y:=fun t' (h:t'.many=t.many) (h2:t'.i=t.i) Y (z:zaa Y q (zbt s t') 261)=>zxm q s t' Y z (by omega) (by omega);rw[bh]at D;rw[bk]at l;obtain⟨r,O⟩:∃ r,r=zed s t m:=⟨_,rfl⟩;rw[<-O];unfold zed at O;rw[if_neg (by rw[hd];decide)]at O;dsimp only at O;rw[bh,bk]at O;have L:t.next=0\/t.next=1\/t.next=2:=by omega
 have T:=fun Y (z:zaq Y p b m)=>zc1 p b m t.c (s.c+t.page s) Y z bx hs;have U:=fun Y (z:zaq Y p b m)=>zc1 p b m t.c (s.c+s.p+t.page s*16+t.i) Y z bj hs;have R:=fun Y (z:zaq Y p b m)=>zff p b m t.c (s.c+s.p+t.page s*16+t.i) (zc8 t.k) (wayW t.c) Y z bj (zch _ _) hs;have G:=fun Y=>zh3 s (t.page s) (m.get (s.c+t.page s)) Y (Mem.ze4 h0.wds.fit _);generalize s.c+s.p+t.page s*16+t.i=sa at U R l O;generalize s.c+t.page s=pa at T D G O;generalize bw:t.page s=pg at o D l G O;clear bw bx bj bh bk bg ho hf ba cb c9 hi;have bv:Hid (zc8 t.k=zc3 1 t.k):=hd' rfl;have bz:Hid (wayW t.c=zc3 2 t.c):=hd' rfl;rw[<-bz.out]at F;have j:=fun Y=>b9 1 Y;rw[<-bv.out]at j;clear b9 bv bz;generalize zc8 t.k=ow at j R O;generalize wayW t.c=ww at F R O;rcases L with L|L|L
 ·rw[if_pos L]at O;obtain⟨x,hx⟩:∃ x,x=m.get pa:=⟨_,rfl⟩;rw[<-hx]at T G O;clear hx U R y;have b7:r=(if zal s.p s.c s.m pg x=true/\pgK s pg x=2/\pgP s pg x 0=t.k then {t with next:=1} else t.turn s,m.load t.c pa):=by rw[O];unfold pgK pgP;by_cases hB:zal s.p s.c s.m pg x=true<;>simp[hB]
  clear O;generalize zal s.p s.c s.m pg x=B at G b7;generalize pgK s pg x=e0 at G b7;generalize pgP s pg x 0=e1 at G b7;generalize pgP s pg x 1=e2 at G;obtain⟨t2,n,I⟩:∃ t2:Sc,Hid (t2=if B=true/\e0=2/\e1=t.k then {t with next:=1} else t.turn s)/\t2=_:=⟨_,hd' rfl,rfl⟩;rw[<-I]at b7;clear I;subst b7;replace H:=fun Y (z:zaa Y q (zbt s t) 261)=>H t rfl Y z;obtain⟨tc,tk,tf,tm,ti,tn,C,b8⟩:=t;obtain⟨sp,sc,sm⟩:=s;dsimp only at hd L T G o D l j F H n ⊢;subst hd L;replace T:=hd' T;replace G:=hd' G;replace o:=hd' o;replace D:=hd' D;replace l:=hd' l;replace j:=hd' j;replace H:=hd' H;clear F hc hk bf;have lq:=h0.lt;have c5:=h0.cell;have b3:=ce (.bool false) (h0.cell 10);go_in;go_upto_region 1 with fail;refine wre ?_;repeat (go_big_quiet_step ((first|(go_at_call 152;exact zam (o.out _ (h0.row.below (Ext.below _))))|(go_at_call 96;exact zam (l.out _)))))
  refine wqn fun X S=>?_;have hX:=h0.below S;clear c5 b3 h0 lq;have c6:=hX.cell;go_upto_region 5 with(go_at_call 110;(with_reducible refine(j.out _).mono ?_);rintro r w1 ⟨rfl,b0⟩;have z:=hX.below b0;have c7:=z.cell);clear c6 c7 hX;go_cut [6,7] (fun s6 s7 wx=>∃ E,s6= .pointer (some ⟨E,0,.none⟩)/\s7= .bool B/\w.heap.size<=E/\zaa wx E #[e0,e1,e2] 88/\At3 q p b w wx (zbt ⟨sp,sc,sm⟩ ⟨tc,tk,tf,tm,ti,0,C,false⟩) 261 (m.load tc pa));case first=>
   refine wrl (x:=⟨23,24,21,6,60,88, #[.int .i64 0,.int .i64 0,.int .i64 0], #[e0,e1,e2]⟩) (ld:=18) (v:= .int .u64 x) (ts:= [46,50,57])
    (K0:=fun Y=>At3 q p b w Y (zbt ⟨sp,sc,sm⟩ ⟨tc,tk,tf,tm,ti,0,C,false⟩) 261 m) (K1:=fun Y=>At3 q p b w Y (zbt ⟨sp,sc,sm⟩ ⟨tc,tk,tf,tm,ti,0,C,false⟩) 261 (m.load tc pa))
    ⟨⟨fun Y Y' h1 h2 h3=>h1.far h2 h3 z.only.size⟩,⟨fun Y Y' h1 h2 h3=>h1.far h2 h3 z.only.size⟩⟩ z.drew ?_
   apply Exists.intro;refine⟨fun B hb hs=>?_,fun _=>?_,?_,?_⟩;case refine_1=>
    have bi:zaa B q (zbt ⟨sp,sc,sm⟩ ⟨tc,tk,tf,tm,ti,0,C,false⟩) 261:=hb.elim (fun h=>h.row) (fun h=>h.row);have lB:=bi.lt;have cq:=bi.cell;repeat (go_big_quiet_step ((first|(go_at_call 152;exact zam (o.out _ (bi.below (Ext.below _))))|(go_at_call 65;exact zam (D.out _))|(go_at_call 64;exact zam (G.out _)))))
    exact wpQuiet_nil rfl
   case refine_2=>exact zqa rfl rfl rfl rfl rfl rfl rfl rfl (by dsimp only;decide +kernel) (by dsimp only;decide +kernel)
   case refine_3=>exact zcz rfl (fun _ _=>by simp[go_sem]) fun Y bc hs=>(T.out Y bc.wds).mono fun r Y' ⟨h1,h2,h3⟩=>⟨h1,bc.load h2 h3,h3.weak fun k hk=>hk ▸ Nat.lt_of_lt_of_le bc.ls.2.1 z.only.size⟩
   case refine_4=>intro a w4 M hf;obtain⟨rfl,cp,ca,b6⟩:=hf;obtain⟨hM,b6⟩:=b6 (by simp);simp only[Act.put,vput,vptr];go_wp2;go_meet;exact⟨_,rfl,rfl,Nat.le_trans z.only.size hM,b6,ca⟩
  case rest=>
   obtain⟨E,rfl,rfl,hE,bb,N⟩:=hcut;have cu:E≠q:=fun e=>by rw[e]at hE;have:=z.ls.1;omega
   have bq:=bb.cell;have bs:=N.cell;have zf:=N.free;clear z T G o D l j b0;by_cases hB:B=true/\e0=2/\e1=tk
   ·obtain⟨rfl,rfl,rfl⟩:=hB;replace n:=hd' (n.out.trans (if_pos ⟨rfl,rfl,rfl⟩));go_wp2_with fail;go_quiet (fail);have b4:=N.drewN nq;clear bq bs zf bb N;generalize wc.drewN nq=V at *;have cr:=b4.cell;have zf:=b4.free;go_wp2_with fail;go_returns;exact(b4.set 8 _).fin (by rw[n.out];rfl) rfl
   replace n:=hd' (n.out.trans (if_neg hB));have J:B=false\/(B=true/\(e0==2)=false)\/(B=true/\e0=2/\(e1==tk)=false):=by
    rcases Bool.eq_false_or_eq_true B with h|h
    ·by_cases h1:e0=2
     ·exact .inr (.inr ⟨h,h1,by simpa[h,h1] using hB⟩)
     exact .inr (.inl ⟨h,by simpa using h1⟩)
    exact .inl h
   clear hB;rcases J with rfl|⟨rfl,J⟩|⟨rfl,rfl,J⟩;all_goals go_wp2_with fail;go_quiet (fail);have b4:=N.drewN nq;clear bq bs zf bb N;generalize wc.drewN nq=V at *;go_wp2_with (go_at_call 239;(with_reducible refine(H.out _ b4.row).mono ?_);rintro r w1 hT;obtain rfl:=hT.ret);go_returns;exact(b4.turned hT).fin (by rw[n.out]) rfl
 ·rw[if_neg (by omega),if_pos L]at O;clear T G R F H D;have b5:m.get sa=ow\/(¬ m.get sa=ow/\(m.get sa==ow)=false):=by
   by_cases h:m.get sa=ow
   ·exact .inl h
   exact .inr ⟨h,by simpa using h⟩
  obtain⟨t2,n,I⟩:∃ t2:Sc,Hid (t2=if m.get sa=ow then {t with next:=2} else t.miss s)/\t2=_:=⟨_,hd' rfl,rfl⟩;rw[<-I]at O;clear I;subst O;replace y:=fun Y (z:zaa Y q (zbt s t) 261)=>y t rfl rfl Y z;obtain⟨x,hx,c4⟩:=hidv (m.get sa);rw[<-c4]at U b5 n;clear hx c4;obtain⟨tc,tk,tf,tm,ti,tn,C,b8⟩:=t;obtain⟨sp,sc,sm⟩:=s;dsimp only at hd L U o l j y n ⊢;subst hd L;replace o:=hd' o;replace l:=hd' l;replace j:=hd' j;replace y:=hd' y;clear hc hk bf;have lq:=h0.lt;have c8:=h0.cell;have b3:=ce (.bool false) (h0.cell 10);go_in;go_upto_region 1 with fail;refine wre ?_;repeat (go_big_quiet_step ((first|(go_at_call 152;exact zam (o.out _ (h0.row.below (Ext.below _))))|(go_at_call 96;exact zam (l.out _)))))
  refine wqn fun X S=>?_;have hX:=h0.below S;clear c8 b3 h0 lq;have cs:=hX.cell;replace U:=hd' U;rcases b5 with rfl|⟨J,b5⟩
  ·replace n:=hd' (n.out.trans (if_pos rfl));go_wp2_with (first|(go_at_call 110;(with_reducible refine(j.out _).mono ?_);rintro r w1 ⟨rfl,b0⟩;have z:=hX.below b0;have cf:=z.cell)|(go_at_call 186;(with_reducible refine(U.out _ z.wds).mono ?_);rintro r w2 ⟨rfl,b2,b1⟩;have N:=z.load b2 b1;have cg:=N.cell;have zf:=N.free)|(go_at_call 238;(with_reducible refine(y.out _ N.row).mono ?_);rintro r w3 hT;obtain rfl:=hT.ret));go_returns;exact(N.set 8 _).fin (by rw[n.out];rfl) rfl
  replace n:=hd' (n.out.trans (if_neg J));clear J;go_wp2_with (first|(go_at_call 110;(with_reducible refine(j.out _).mono ?_);rintro r w1 ⟨rfl,b0⟩;have z:=hX.below b0;have ch:=z.cell)|(go_at_call 186;(with_reducible refine(U.out _ z.wds).mono ?_);rintro r w2 ⟨rfl,b2,b1⟩;have N:=z.load b2 b1;have cj:=N.cell;have zf:=N.free)|(go_at_call 238;(with_reducible refine(y.out _ N.row).mono ?_);rintro r w3 hT;obtain rfl:=hT.ret));go_returns;exact(N.turned hT).fin (by rw[n.out]) rfl
 rw[if_neg (by omega),if_neg (by omega)]at O;clear T G U H D;have b5:(m.get sa=ow/\decide (m.get sa=ow)=true)\/(¬ m.get sa=ow/\decide (m.get sa=ow)=false):=by
  by_cases h:m.get sa=ow
  ·exact .inl ⟨h,decide_eq_true h⟩
  exact .inr ⟨h,decide_eq_false h⟩
 obtain⟨t2,n,I⟩:∃ t2:Sc,Hid (t2=if m.get sa=ow then {t with found:=true,done:=true} else t.miss s)/\t2=_:=⟨_,hd' rfl,rfl⟩;rw[<-I]at O;clear I;subst O;replace y:=fun Y (z:zaa Y q (zbt s t) 261)=>y t rfl rfl Y z;obtain⟨g,hg,bu⟩:∃ g,Hid (g=decide (m.get sa=ow))/\g=decide (m.get sa=ow):=⟨_,hd' rfl,rfl⟩;rw[<-bu]at R b5;clear hg bu;obtain⟨tc,tk,tf,tm,ti,tn,C,b8⟩:=t;obtain⟨sp,sc,sm⟩:=s;dsimp only at hd L R o l j F y n ⊢;subst hd L;replace o:=hd' o;replace l:=hd' l;replace j:=hd' j;replace y:=hd' y;clear hc hk bf;have lq:=h0.lt;have bm:=h0.cell;have b3:=ce (.bool false) (h0.cell 10);go_in;go_upto_region 1 with fail;refine wre ?_;repeat (go_big_quiet_step ((first|(go_at_call 152;exact zam (o.out _ (h0.row.below (Ext.below _))))|(go_at_call 96;exact zam (l.out _)))))
 refine wqn fun X S=>?_;have hX:=h0.below S;clear bm b3 h0 lq;have bn:=hX.cell;replace R:=hd' R;replace F:=hd' F;go_upto_region 14 with(go_at_call 110;(with_reducible refine(j.out _).mono ?_);rintro r w1 ⟨rfl,b0⟩;have z:=hX.below b0;have bp:=z.cell);clear bn bp hX;have lY:=z.lt;have ck:=z.cell;rcases b5 with⟨J,rfl⟩|⟨J,rfl⟩
 ·replace n:=hd' (n.out.trans (if_pos J));clear J;refine wret 13 ?_;repeat (go_big_quiet_step (((go_at_call 110;exact zam (F.out _)))))
  refine wqn fun Z S=>?_;have hZ:=z.below S;go_wp2_with (go_at_call 189;(with_reducible refine(R.out _ hZ.wds).mono ?_);rintro r w2 ⟨rfl,b2,b1⟩;have N:=hZ.access b2 b1;have cm:=N.cell;have zf:=N.free);go_returns;exact((N.set 9 _).set 10 _).fin (by rw[n.out];rfl) rfl
 replace n:=hd' (n.out.trans (if_neg J));clear J;refine wret 13 ?_;repeat (go_big_quiet_step (((go_at_call 110;exact zam (F.out _)))))
 refine wqn fun Z S=>?_;have hZ:=z.below S;go_wp2_with (first|(go_at_call 189;(with_reducible refine(R.out _ hZ.wds).mono ?_);rintro r w2 ⟨rfl,b2,b1⟩;have N:=hZ.access b2 b1)|(go_at_call 238;(with_reducible refine(y.out _ N.row).mono ?_);rintro r w3 hT;obtain rfl:=hT.ret));go_returns;exact(N.turned hT).fin (by rw[n.out]) rfl
end Go.Proofs.YtedcnffebdpmmaaGreat
