
import Derived.Deep.CutBlock

import Derived.Test.YtkilokkopbajkaaGreatBw6

import Derived.Test.YtkilokkopbajkaaGreatBw11

set_option linter.all false
set_option maxHeartbeats 2000000
set_option maxRecDepth 100000
namespace Go.Proofs.YtkilokkopbajkaaGreat

open RowKit

attribute [local go_sem ↓] wp_at_zero wp_at_succ

def GD (s:Sh) (t:Tk):Array Value:=#[s.p,s.c,s.m,t.c,t.k,t.i,t.ep,t.es,t.ek,t.hit,t.found,t.done]
attribute [local go_sem] GD

def DJ (s:Sh) (c k:Int):Bool:=decide (0<=uA s.p s.c s.m c)&&decide (0<mA k)
theorem IX(s:Sh)(c k:Int)(w:World):
  Calls Tryz.prog 167 #[.agg #[s.p,s.c,s.m],c,k] w λe w'=>e=.returned (.bool (DJ s c k))/\Below w.heap.size w w':=by
 unfold DJ;rcases Int.lt_or_le (uA s.p s.c s.m c) 0 with h1|h1
 .rw[jF (by omega:¬ 0<=uA s.p s.c s.m c),Bool.false_and];go_in;go_wp2_with (go_at_call 44;(with_reducible refine(pC _ _ _ _ _).mono ?_);rintro r i ⟨rfl,b⟩);go_ret;exact⟨rfl,boxedB b⟩
 rw[jT h1,Bool.true_and];go_in;go_wp2_with (first|(go_at_call 44;refine(pC _ _ _ _ _).mono ?_;rintro r i ⟨rfl,b⟩)|(go_at_call 75;refine(gD _ _).mono ?_;rintro r j ⟨rfl,rfl⟩));go_ret;exact⟨rfl,boxedB b⟩
theorem z0e(s:Sh)(c k:Int)(w:World):
  Calls Tryz.prog 156 #[.agg #[s.p,s.c,s.m],c,k] w λe w'=>Born w w' e (GD s (sC s c k)) 270:=by
 have n:=λW=>IX s c k W;obtain⟨g,o,b⟩:=hidv (DJ s c k);rw[<-b]at n;clear b;obtain⟨sp,j,i⟩:=s;dsimp only at n;replace n:=hd' n;have z:GD ⟨sp,j,i⟩ (sC ⟨sp,j,i⟩ c k)=#[.int .i64 sp,.int .i64 j,.int .i64 i,.int .i64 c,.int .i64 k,.int .i64 0,.int .i64 0,.int .i64 0,.int .i64 0,.bool false,.bool false,.bool (!g||i==0)]:=by rw[o];rfl
 rw[z];clear z o;have r:=(Below.refl w.heap.size w).alloc lr (.cells #[sp,j,i] 23);have t0:=jA w (.cells #[sp,j,i] 23);go_in;go_upto_region 1 with fail;generalize w.alloc (.cells #[sp,j,i] 23)=W at*;obtain⟨H,C,l⟩:=hidv w.heap.size;rw[<-l]at t0|-;have D:H<W.heap.size:=(jE t0);have B:=iA t0;clear l t0;cases g;all_goals
  refine wret 14 ?_;repeat (go_big_quiet_step (((go_at_call 167;exact AA (n _)))))
  refine wqn λX q=>?_;have y:=q;go_wp2_with fail;go_ret;exact WB r y rfl
def enP (s:Sh) (x:Int) (i:Nat):Int:=if QC s.p s.c s.m x=true then nA x i else 0
theorem zzr(s:Sh)(x:Int)(w:World)(b:0<=x/\x<18446744073709551616):
  Calls Tryz.prog 142 #[.agg #[s.p,s.c,s.m],.int .u64 x] w λe w'=>e=.returned (.tuple #[.agg #[.int .i64 (enP s x 0),.int .i64 (enP s x 1),.int .i64 (enP s x 2)],.bool (QC s.p s.c s.m x)])/\Below w.heap.size w w':=by
 refine(OV s.p s.c s.m x w b.1 b.2).mono ?_;rintro e w' ⟨hb,rfl⟩;refine⟨?_,hb⟩;unfold enP;cases QC s.p s.c s.m x<;>rfl
theorem BY{l:List Oper}{aF:Act}{Q:Exit->Act->World->Prop}{x:TB}{a0 a1 q:Int}{z B:TypeId}{U V:String}{r b:Array Edge}{y:Oper}(O:x.t=183) (S:x.zero=#[.int .i64 0,.int .i64 0,.int .i64 0]) (R:x.val=#[.int .i64 a0,.int .i64 a1,.int .i64 q]) (C:aF.eval (.tmp x.src)=.agg #[a0,a1,q])(h1:l.toArray[x.al]?=some {dst:=some x.d,op:=.alloc 183,type:=z,pos:=U,after:=r,guard:=none})(h2:l.toArray[x.st]?=some {dst:=none,op:=.store 183 (.tmp x.d) (.tmp x.src),type:=B,pos:=V,after:=b,guard:=none})(h3:l.toArray[x.so]?=some y) (h4:y.dst=some x.src) (I:(b.any λe=>Region.binds .any e&&e.on==x.al)=true) (hs:(b.any λe=>Region.binds .any e&&e.on==x.so)=true):ZE Tryz.prog l Q aF x:=by
 obtain⟨al,st,so,d,src,t,zero,val⟩:=x;subst O S R;dsimp only at*;refine⟨λa w K s=>?_,λa w K M D E f s=>?_,λlisted N=>?_,⟨y,h3,h4⟩⟩
 .unfold wpOp;rw[h1];simp only[Region.wanted,if_true];left;simp[go_sem,Oper.wp];exact s
 .unfold wpOp;rw[h2];simp only[Region.wanted,if_true];left;have T:w.cell? ⟨M,0,.none⟩=some (.int .i64 0):=iA f 0;have m1:w.cell? ⟨M,1,.none⟩=some (.int .i64 0):=iA f 1;have m2:w.cell? ⟨M,2,.none⟩=some (.int .i64 0):=iA f 2;have H:∀i,w.frozen? ⟨M,i,.none⟩=false:=λi=>KA f i;rw[<-E]at C;have F:a.tmps[d]?.getD undef=.pointer (some ⟨M,0,.none⟩):=by simpa[Act.eval,vptr] using D
  have G:a.tmps[src]?.getD undef=.agg #[a0,a1,q]:=by simpa[Act.eval] using C
  simp[go_sem,Oper.wp,F,G,T,m1,m2,H];refine s _ ?_ ?_ ?_
  .rw[heap_setCell_same _ M 2 _ _ _ (heap_setCell_same _ M 1 _ _ _ (heap_setCell_same _ M 0 _ _ _ f))];rfl
  .exact((((Only.refl (λk=>k=M) w).setCell (p:=⟨M,0,.none⟩) (.inl rfl) _).setCell (p:=⟨M,1,.none⟩) (.inl rfl) _).setCell (p:=⟨M,2,.none⟩) (.inl rfl) _)
  simp[World.setCell]
 obtain⟨_,o,m,J⟩:=mem_ready.1 N;rw[h2]at m;injection m with m;subst m;have j:∀n,(b.any λe=>Region.binds .any e&&e.on==n)=true->listed.getD n false=true:=λn L=>by obtain⟨i,hi,hu⟩:=Array.any_eq_true.1 L;simp only[jC,beq_iff_eq]at hu;exact hu.2▸J _ (Array.getElem_mem hi) hu.1
 exact⟨j _ I,j _ hs⟩
def XQ (t:Tk) (s:Sh) (_:Mem):Prop:=(0<=t.i/\t.i<s.m)/\0<=s.m/\s.m<=8
theorem zxs(q p b:Nat)(s:Sh)(t:Tk)(m:Mem)(w:World)(hq:aA w q (GD s t) 270)(hw:oA w p b m)(bw:q≠p)(bv:q≠b)(hf:Fits s m)(ho:tkOk s t)(hs:m.st<1000000000):
  Calls Tryz.prog 268 #[some q,some p] w λe w'=>Stepped q p b w w' e (GD s (XC s t m).1) 270 (XC s t m).2:=by
 have h0:=At3.start hq hw bw bv;clear hq hw;rcases jB t.done with hd|hd
 .have I:XC s t m=(t,m):=by unfold XC;rw[jP hd]
  rw[I];clear I;have S:w.cell? ⟨q,11,.none⟩=some (.bool true):=by rw[<-hd];exact h0.cell 11
  clear ho hd hf;go_in;go_wp2_with fail;go_returns;exact h0.fin rfl rfl
 obtain⟨hc,hi⟩:=ho.cl hd;obtain⟨L,F⟩:=hf.mag hc hi;have l:=λW=>gM s.p s.c s.m t.c t.i W;rw[L]at l;rcases jB t.hit with hh|hh
 .have I:XC s t m=({t with found:=true,done:=true},m.store t.c (s.c+s.p+s.p*16+t.c*s.m+t.i) 0):=by unfold XC;rw[jN (by rw[hd];decide),jP hh,L]
  rw[I];clear I;have O:=λW (hW:oA W p b m)=>tC p b m t.c (s.c+s.p+s.p*16+t.c*s.m+t.i) 0 W hW F (by decide) hs;clear L F hf ho hc hi;obtain⟨a,ha⟩:∃a,a=s.c+s.p+s.p*16+t.c*s.m+t.i:=⟨_,rfl⟩;rw[<-ha]at O l|-;clear ha;obtain⟨J,tk,G,z,C,y,bk,j,b6⟩:=t;obtain⟨sp,sc,sm⟩:=s;dsimp only at hd hh O l|-;subst hd hh;have lq:=h0.lt;have bm:=h0.cell;have S:=ce (.bool false) (h0.cell 11);replace O:=hd' O;replace l:=hd' l;go_in;go_upto_region 1 with fail;refine wre ?_;repeat (go_big_quiet_step (((go_at_call 118;exact AA (l _)))))
  refine wqn λX b3=>?_;have H:=h0.below b3;have c7:=H.cell;clear bm S h0 l;go_wp2_with (go_at_call 218;(with_reducible refine(O _ H.wds).mono ?_);rintro r w1 ⟨rfl,bx,bu⟩;have R:=H.access bx bu;have c8:=R.cell;have zf:=R.free);go_returns;exact((R.set 10 _).set 11 _).fin rfl rfl
 have I:XC s t m=(if QC s.p s.c s.m (m.get (s.c+s.p+s.p*16+t.c*s.m+t.i))=true/\enP s (m.get (s.c+s.p+s.p*16+t.c*s.m+t.i)) 2=t.k then {t with ep:=enP s (m.get (s.c+s.p+s.p*16+t.c*s.m+t.i)) 0,es:=enP s (m.get (s.c+s.p+s.p*16+t.c*s.m+t.i)) 1,ek:=enP s (m.get (s.c+s.p+s.p*16+t.c*s.m+t.i)) 2,hit:=true} else {t with i:=t.i+1,done:=decide (t.i+1=s.m)},m.load t.c (s.c+s.p+s.p*16+t.c*s.m+t.i)):=by
  unfold XC enP;rw[jN (by rw[hd];decide),jN (by rw[hh];decide),L];by_cases hx:QC s.p s.c s.m (m.get (s.c+s.p+s.p*16+t.c*s.m+t.i))=true
  .simp only[hx,true_and,if_true];split<;>rfl
  simp[hx]
 rw[I];clear I;have D:=λW (hW:oA W p b m)=>uF p b m t.c (s.c+s.p+s.p*16+t.c*s.m+t.i) W hW F hs;have o:=λW=>zzr s (m.get (s.c+s.p+s.p*16+t.c*s.m+t.i)) W (Mem.yF h0.wds.fit _);have bh:XQ t s m:=⟨hi,hf.bd.2.2.2.2⟩;clear L F hf ho hc hi;obtain⟨a,ha⟩:∃a,a=s.c+s.p+s.p*16+t.c*s.m+t.i:=⟨_,rfl⟩;rw[<-ha]at D l o|-;clear ha;obtain⟨x,hx⟩:∃x,x=m.get a:=⟨_,rfl⟩;rw[<-hx]at D o|-;clear hx;obtain⟨B,hB⟩:∃B,B=QC s.p s.c s.m x:=⟨_,rfl⟩;obtain⟨e0,bc⟩:∃e,e=enP s x 0:=⟨_,rfl⟩;obtain⟨e1,bf⟩:∃e,e=enP s x 1:=⟨_,rfl⟩;obtain⟨e2,bg⟩:∃e,e=enP s x 2:=⟨_,rfl⟩;rw[<-hB,<- bc,<- bf,<- bg]at o|-;clear hB bc bf bg;obtain⟨J,tk,G,z,C,y,bk,j,b6⟩:=t;obtain⟨sp,sc,sm⟩:=s;dsimp only[XQ]at hd hh D l o bh|-;subst hd hh;obtain⟨⟨i0,i1⟩,i2,i3⟩:=bh;obtain⟨t2,b5,b1⟩:∃t2:Tk,Hid (t2=if B=true/\e2=tk then⟨J,tk,G,e0,e1,e2,true,j,false⟩ else⟨J,tk,G+1,z,C,y,false,j,decide (G+1=sm)⟩)/\t2=_:=⟨_,hd' rfl,rfl⟩;rw[<-b1];clear b1;have lq:=h0.lt;have bn:=h0.cell;have S:=ce (.bool false) (h0.cell 11);replace D:=hd' D;replace o:=hd' o;replace l:=hd' l;go_in;go_upto_region 1 with fail;refine wre ?_;repeat (go_big_quiet_step (((go_at_call 118;exact AA (l _)))))
 refine wqn λX b3=>?_;have H:=h0.below b3;have bz:=H.lt;have bp:=H.cell;clear bn S h0 l;go_upto_region 5 with fail;go_cut [5,6] (λs5 s6 wx=>∃E,s5=.pointer (some ⟨E,0,.none⟩)/\s6=.bool B/\w.heap.size<=E/\aA wx E #[e0,e1,e2] 183/\At3 q p b w wx (GD ⟨sp,sc,sm⟩ ⟨J,tk,G,z,C,y,false,j,false⟩) 270 (m.load J a));case first=>
  refine wrl (x:=⟨15,16,13,5,58,183,#[.int .i64 0,.int .i64 0,.int .i64 0],#[e0,e1,e2]⟩) (ld:=10) (v:=.int .u64 x) (ts:=[50,54,55])
   (K0:=λY=>At3 q p b w Y (GD ⟨sp,sc,sm⟩ ⟨J,tk,G,z,C,y,false,j,false⟩) 270 m) (K1:=λY=>At3 q p b w Y (GD ⟨sp,sc,sm⟩ ⟨J,tk,G,z,C,y,false,j,false⟩) 270 (m.load J a))
   ⟨⟨λY Y' h1 h2 h3=>h1.far h2 h3 H.only.size⟩,⟨λY Y' h1 h2 h3=>h1.far h2 h3 H.only.size⟩⟩ H.drew ?_
  apply Exists.intro;refine⟨λB hb hs=>?_,λ_=>?_,?_,?_⟩;case refine_1=>
   have bj:aA B q (GD ⟨sp,sc,sm⟩ ⟨J,tk,G,z,C,y,false,j,false⟩) 270:=hb.elim (λh=>h.row) (λh=>h.row);have lB:=bj.lt;have c9:=bj.cell;repeat (go_big_quiet_step (((go_at_call 142;exact AA (o _)))))
   exact wpQuiet_nil rfl
  case refine_2=>exact BY rfl rfl rfl rfl rfl rfl rfl rfl (by dsimp only;decide +kernel) (by dsimp only;decide +kernel)
  case refine_3=>exact vF rfl (λ_ _=>by simp[go_sem]) λY hY hs=>(D Y hY.wds).mono λr Y' ⟨h1,h2,h3⟩=>⟨h1,hY.load h2 h3,h3.weak λk hk=>hk▸Nat.lt_of_lt_of_le hY.ls.2.1 H.only.size⟩
  case refine_4=>intro a w4 M hf;obtain⟨rfl,c6,bs,N⟩:=hf;obtain⟨hM,N⟩:=N (by simp);simp only[Act.put,vput,vptr];go_wp2;go_meet;exact⟨_,rfl,rfl,Nat.le_trans H.only.size hM,N,bs⟩
 case rest=>
  obtain⟨E,rfl,rfl,hE,b0,R⟩:=hcut;have cb:E≠q:=λe=>by rw[e]at hE;omega
  have b9:=b0.cell;have ba:=R.cell;have zf:=R.free;clear bp H bz D o;have w1:=wrp (G+1);have b4:∀(Y:World),At3 q p b w Y (GD ⟨sp,sc,sm⟩ ⟨J,tk,G,z,C,y,false,j,false⟩) 270 (m.load J a)->True:=λ_ _=>trivial;by_cases hB:B=true/\e2=tk
  .obtain⟨rfl,rfl⟩:=hB;go_wp2_with fail;go_quiet (fail);have n:=R.drewN nq;have bq:=b0.drewN nq;clear b9 ba zf b0 R w1 b4;generalize wc.drewN nq=V at*;have ca:=bq.cell;have c4:=n.cell;have zf:=n.free;go_wp2_with fail;go_returns;exact((((n.set 6 _).set 7 _).set 8 _).set 9 _).fin (by rw[b5,jP (by simp)];rfl) rfl
  have I:t2=⟨J,tk,G+1,z,C,y,false,j,decide (G+1=sm)⟩:=by rw[b5,jN hB]
  replace I:=hd' I;clear b5;have bi:B=false\/(B=true/\(e2==tk)=false):=by
   rcases jB B with h|h
   .exact .inr ⟨h,by simpa[h] using hB⟩
   exact .inl h
  clear hB;rcases bi with rfl|⟨rfl,bi⟩;all_goals
   go_wp2_with fail;go_quiet (fail);have n:=R.drewN nq;clear b9 ba zf b0 R;generalize wc.drewN nq=V at*;have b7:=n.cell;have zf:=n.free;go_upto_region 9 with fail;have Z:=n.set 5 (.int .i64 (G+1));generalize V.setCell ⟨q,5,.none⟩ (.int .i64 (G+1))=U at*;have lU:=Z.lt;clear b7 zf n;have b8:=Z.cell;refine wret 13 ?_;repeat (go_big_quiet_step (fail))
   refine wpQuiet_nil ?_;rintro _ ⟨bb,rfl⟩;have b2:=Z.below bb.below;clear b8 Z lU;generalize bb.w=T at*;change wpList _ _ _ _ _ T;have c5:=b2.cell;have zf:=b2.free;go_wp2_with fail;go_returns;exact(b2.set 11 _).fin (by rw[I];rfl) rfl
def zE (s:Sh) (t:Pu):Array Value:=#[s.p,s.c,s.m,t.c,t.i,t.ep,t.es,t.ek,t.hit,t.put,t.done]
attribute [local go_sem] zE

theorem z00(s:Sh)(c pg sl k:Int)(w:World):
  Calls Tryz.prog 240 #[.agg #[s.p,s.c,s.m],c,pg,sl,k] w λe w'=>Born w w' e (zE s (nD s c pg sl k)) 318:=by
 have n:=λW=>IX s c k W;have o:=λW=>JB s.p s.c s.m pg W;have hs:=λW=>gD k W;have C:zE s (nD s c pg sl k)=#[.int .i64 s.p,.int .i64 s.c,.int .i64 s.m,.int .i64 c,.int .i64 0,.int .i64 pg,.int .i64 sl,.int .i64 k,.bool false,.bool false,.bool (!(DJ s c k&&decide (0<=pA s.p s.c s.m pg)&&decide (0<=sl)&&decide (sl<mA k))||s.m==0)]:=rfl;rw[C];clear C;generalize DJ s c k=g at*;generalize pA s.p s.c s.m pg=q at*;generalize mA k=sv at*;obtain⟨sp,y,z⟩:=s;dsimp only at n o|-;replace n:=hd' n;replace o:=hd' o;replace hs:=hd' hs;have B:(g=false)\/(g=true/\q<0)\/(g=true/\0<=q/\sl<0)\/(g=true/\0<=q/\0<=sl/\sl<sv)\/(g=true/\0<=q/\0<=sl/\sv<=sl):=by cases g<;>simp<;>omega
 have l:=(Below.refl w.heap.size w).alloc lr (.cells #[sp,y,z] 23);have t0:=jA w (.cells #[sp,y,z] 23);go_in;go_upto_region 1 with fail;generalize w.alloc (.cells #[sp,y,z] 23)=W at*;obtain⟨H,E,j⟩:=hidv w.heap.size;rw[<-j]at t0|-;have G:H<W.heap.size:=(jE t0);have c0:W.cell? ⟨H,0,.none⟩=some (.int .i64 sp):=iA t0 0;have c1:W.cell? ⟨H,1,.none⟩=some (.int .i64 y):=iA t0 1;have c2:W.cell? ⟨H,2,.none⟩=some (.int .i64 z):=iA t0 2;clear j t0;rcases B with rfl|⟨rfl,h1⟩|⟨rfl,h1,h2⟩|⟨rfl,h1,h2,h3⟩|⟨rfl,h1,h2,h3⟩;all_goals go_wp2_with (first|(go_at_call 167;refine(n _).mono ?_;rintro r I ⟨rfl,b⟩;have D:=kA b _ _ _ c0;have d1:=kA b _ _ _ c1;have d2:=kA b _ _ _ c2)|(go_at_call 112;refine(o _).mono ?_;rintro r J ⟨rfl,i⟩;have k0:=kA i _ _ _ D;have k1:=kA i _ _ _ d1;have F:=kA i _ _ _ d2)|(go_at_call 75;refine(hs _).mono ?_;rintro r L ⟨rfl,rfl⟩));go_returns;first|exact WB l b rfl|refine WB l (qA b i) ?_
 .simp[Int.not_le.2 h1]
 .simp[Int.not_le.2 h2]
 .simp[h1,h2,h3]
 simp[h1,h2,Int.not_lt.2 h3]
theorem zxz(q p b:Nat)(s:Sh)(t:Pu)(m:Mem)(w:World)(hq:aA w q (zE s t) 318)(hw:oA w p b m)(b3:q≠p)(b2:q≠b)(N:Fits s m)(ho:puOk s t)(hs:m.st<1000000000):
  Calls Tryz.prog 236 #[some q,some p] w λe w'=>Stepped q p b w w' e (zE s (YC s t m).1) 318 (YC s t m).2:=by
 have h0:=At3.start hq hw b3 b2;clear hq hw;rcases jB t.done with hd|hd
 .have j:YC s t m=(t,m):=by unfold YC;rw[jP hd]
  rw[j];clear j;have H:w.cell? ⟨q,10,.none⟩=some (.bool true):=by rw[<-hd];exact h0.cell 10
  clear ho hd N;go_in;go_wp2_with fail;go_returns;exact h0.fin rfl rfl
 obtain⟨hc,hi⟩:=ho.cl hd;obtain⟨I,D⟩:=N.mag hc hi;have J:=N.bd.2.2.2.2;have o:=λW=>gM s.p s.c s.m t.c t.i W;rw[I]at o;have n:=λW (hW:oA W p b m)=>uF p b m t.c (s.c+s.p+s.p*16+t.c*s.m+t.i) W hW D hs;have F:=λW=>UJ t.ep t.es t.ek W;have z:=λW (hW:oA W p b m)=>tC p b m t.c (s.c+s.p+s.p*16+t.c*s.m+t.i) (putV 1 [t.ep,t.es,t.ek]) W hW D (mK _ _ (by decide) (by simp)) hs;obtain⟨r,j⟩:∃r,r=YC s t m:=⟨_,rfl⟩;rw[<-j];unfold YC at j;rw[jN (by rw[hd];decide),I]at j;generalize s.c+s.p+s.p*16+t.c*s.m+t.i=a at j o n z;clear I D N ho;obtain⟨tc,ti,b6,b7,b5,M,b8,b4⟩:=t;obtain⟨sp,sc,sm⟩:=s;dsimp only at hd hc hi J o n F z j;subst hd;obtain⟨i0,i1⟩:=hi;obtain⟨i2,i3⟩:=J;clear hc;have lq:=h0.lt;generalize putV 1 [b6,b7,b5]=y at z F j;have w1:=wrp (ti+1);replace o:=hd' o;replace n:=hd' n;replace F:=hd' F;replace z:=hd' z;rcases jB M with hh|hh
 .subst hh;rw[jP rfl]at j;subst j;have S:=h0.cell;have H:=ce (.bool false) (h0.cell 10);go_in;go_upto_region 1 with fail;refine wre ?_;repeat (go_big_quiet_step (((go_at_call 118;exact AA (o _)))))
  refine wqn λX l=>?_;have C:=h0.below l;clear S H h0;have V:=C.cell;have lX:=C.lt;go_upto_region 5 with fail;refine wret 11 ?_;repeat (go_big_quiet_step (((go_at_call 153;exact AA (F _)))))
  refine wqn λY l=>?_;have hY:=C.below l;clear V C lX;go_wp2_with (go_at_call 218;(with_reducible refine(z _ hY.wds).mono ?_);rintro r w1 ⟨rfl,G,E⟩;have B:=hY.access G E;have b9:=B.cell;have R:=B.free);go_returns;exact((B.set 9 _).set 10 _).fin rfl rfl
 subst hh;rw[jN (by decide)]at j;have O:m.get a=0\/(m.get a==0)=false:=by
  by_cases h:m.get a=0
  .exact .inl h
  exact .inr (by simpa using h)
 obtain⟨x,L⟩:∃x,x=m.get a:=⟨_,rfl⟩;rw[<-L]at O j n;clear L;have Z:=h0.cell;have H:=ce (.bool false) (h0.cell 10);go_in;go_upto_region 1 with fail;refine wre ?_;repeat (go_big_quiet_step (((go_at_call 118;exact AA (o _)))))
 refine wqn λX l=>?_;have C:=h0.below l;clear Z H h0;have b0:=C.cell;rcases O with rfl|O
 .rw[jP rfl]at j;subst j;go_wp2_with (go_at_call 219;(with_reducible refine(n _ C.wds).mono ?_);rintro r w1 ⟨rfl,G,E⟩;have B:=C.load G E;have ba:=B.cell;have R:=B.free);go_returns;exact(B.set 8 _).fin rfl rfl
 rw[jN (by simpa using O)]at j;subst j;go_upto_region 3 with(go_at_call 219;(with_reducible refine(n _ C.wds).mono ?_);rintro r w1 ⟨rfl,G,E⟩;have B:=C.load G E;have b1:=B.cell;have R:=B.free);have hB:=B.set 4 (.int .i64 (ti+1));generalize World.setCell _ ⟨q,4,.none⟩ (.int .i64 (ti+1))=U at*;clear b1 R B C b0;have bb:=hB.cell;have lU:=hB.lt;refine wret 13 ?_;repeat (go_big_quiet_step (fail))
 refine wqn λT l=>?_;have hC:=hB.below l;have bc:=hC.cell;have R:=hC.free;go_wp2_with fail;go_returns;exact(hC.set 10 _).fin rfl rfl
def SB (s:Sh) (t:Sc):Array Value:=#[s.p,s.c,s.m,t.c,t.k,t.first,t.many,t.i,t.next,t.found,t.done]
attribute [local go_sem] SB

theorem z1s(s:Sh)(c k f:Int)(w:World):
  Calls Tryz.prog 178 #[.agg #[s.p,s.c,s.m],c,k,f] w λe w'=>Born w w' e (SB s (eD s c k f)) 287:=by
 have n:=λW=>pC s.p s.c s.m c W;have o:=λW=>JB s.p s.c s.m f W;have hs:=λW=>gD k W;have C:SB s (eD s c k f)=#[.int .i64 s.p,.int .i64 s.c,.int .i64 s.m,.int .i64 c,.int .i64 k,.int .i64 f,.int .i64 0,.int .i64 0,.int .i64 0,.bool false,.bool (!(decide (0<=uA s.p s.c s.m c)&&decide (0<mA k)&&decide (0<=pA s.p s.c s.m f)))]:=rfl;rw[C];clear C;generalize uA s.p s.c s.m c=z at*;generalize pA s.p s.c s.m f=D at*;generalize mA k=sv at*;obtain⟨sp,q,y⟩:=s;dsimp only at n o|-;replace n:=hd' n;replace o:=hd' o;replace hs:=hd' hs;have B:(z<0)\/(0<=z/\sv<=0)\/(0<=z/\0<sv/\D<0)\/(0<=z/\0<sv/\0<=D):=by omega
 have j:=(Below.refl w.heap.size w).alloc lr (.cells #[sp,q,y] 23);have t0:=jA w (.cells #[sp,q,y] 23);go_in;go_upto_region 1 with fail;generalize w.alloc (.cells #[sp,q,y] 23)=W at*;obtain⟨H,F,l⟩:=hidv w.heap.size;rw[<-l]at t0|-;have I:H<W.heap.size:=(jE t0);have c0:W.cell? ⟨H,0,.none⟩=some (.int .i64 sp):=iA t0 0;have c1:W.cell? ⟨H,1,.none⟩=some (.int .i64 q):=iA t0 1;have c2:W.cell? ⟨H,2,.none⟩=some (.int .i64 y):=iA t0 2;clear l t0;rcases B with h1|⟨h1,h2⟩|⟨h1,h2,h3⟩|⟨h1,h2,h3⟩;all_goals go_wp2_with (first|(go_at_call 44;refine(n _).mono ?_;rintro r J ⟨rfl,b⟩;have E:=kA b _ _ _ c0;have d1:=kA b _ _ _ c1;have d2:=kA b _ _ _ c2)|(go_at_call 112;refine(o _).mono ?_;rintro r L ⟨rfl,i⟩;have k0:=kA i _ _ _ E;have k1:=kA i _ _ _ d1;have G:=kA i _ _ _ d2)|(go_at_call 75;refine(hs _).mono ?_;rintro r M ⟨rfl,rfl⟩));go_returns
 .exact WB j b (by simp[Int.not_le.2 h1])
 .exact WB j b (by simp[h1,Int.not_lt.2 h2])
 .exact WB j (qA b i) (by simp[h1,h2,Int.not_le.2 h3])
 exact WB j (qA b i) (by simp[h1,h2,h3])
theorem yV(q:Nat)(s:Sh)(t:Sc)(w:World)(m:aA w q (SB s t) 287)(l:1<=s.p/\s.p<=64)(h1:0<=t.first/\t.first<64)(h2:0<=t.many/\t.many<=64):
  Calls Tryz.prog 186 #[some q] w λe w'=>e=.returned (.int .i64 (t.page s))/\Below w.heap.size w w':=by
 unfold Sc.page;obtain⟨sp,C,D⟩:=s;obtain⟨E,tk,tf,b,F,G,i,j⟩:=t;dsimp only at l h1 h2|-;have y:=m.lt;have n:=m.cell;obtain⟨z,B⟩:=l;obtain⟨f1,f2⟩:=h1;obtain⟨m1,m2⟩:=h2;have H:=wrp (tf+b);have I:(tf+b).tmod sp=(tf+b)%sp:=Int.tmod_eq_emod_of_nonneg (by omega);have L:(sp==0)=false:=by simp;omega
 have J:IntKind.i64.wrap ((tf+b)%sp)=(tf+b)%sp:=by have o:=Int.emod_nonneg (tf+b) (by omega:sp≠0);have r:=Int.emod_lt_of_pos (tf+b) (by omega:0<sp);exact IntWalk.i64_in _ ⟨by omega,by omega⟩
 go_in;go_wp2_with fail;go_quiet (fail);have hb:=below_drewN (Below.refl w.heap.size w) nq;go_wp2_with fail;go_returns;exact⟨rfl,hb⟩
theorem AV(q:Nat)(s:Sh)(t:Sc)(w:World)(o:aA w q (SB s t) 287)(h2:0<=t.many/\t.many<64):
  Calls Tryz.prog 272 #[some q] w λe w'=>Turned q w w' e (SB s (t.turn s)) 287:=by
 have h0:=At1.start o;clear o;unfold Sc.turn;obtain⟨sp,C,D⟩:=s;obtain⟨E,tk,tf,p,F,G,b,n⟩:=t;dsimp only at h2|-;obtain⟨m1,m2⟩:=h2;have i:=h0.cell;have r:=h0.free;have H:=wrp (p+1);go_in;go_upto_region 2 with fail;have j:=((h0.set 6 (.int .i64 (p+1))).set 7 (.int .i64 0)).set 8 (.int .i64 0);generalize World.setCell _ ⟨q,8,.none⟩ (.int .i64 0)=U at*;clear i h0 r;have y:=j.cell;have B:=j.lt;refine wret 13 ?_;repeat (go_big_quiet_step (fail))
 refine wqn λT m=>?_;have l:=j.below m;have z:=l.cell;have r:=l.free;go_wp2_with fail;go_returns;exact(l.set 10 _).fin rfl
theorem zxm(q:Nat)(s:Sh)(t:Sc)(w:World)(G:aA w q (SB s t) 287)(h2:0<=t.many/\t.many<64)(h3:0<=t.i/\t.i<16):
  Calls Tryz.prog 271 #[some q] w λe w'=>Turned q w w' e (SB s (t.miss s)) 287:=by
 have h0:=At1.start G;clear G;unfold Sc.miss;have l:=λW=>gD t.k W;have m:=λY (J:aA Y q (SB s {t with i:=t.i+1,next:=1}) 287)=>AV q s {t with i:=t.i+1,next:=1} Y J h2;have j:t.i+1=mA t.k\/(¬t.i+1=mA t.k/\(t.i+1==mA t.k)=false):=by
  by_cases h:t.i+1=mA t.k
  .exact .inl h
  exact .inr ⟨h,by simpa using h⟩
 obtain⟨C,b,n⟩:∃C:Sc,Hid (C=if t.i+1=mA t.k then({t with i:=t.i+1,next:=1}:Sc).turn s else {t with i:=t.i+1,next:=1})/\C=_:=⟨_,hd' rfl,rfl⟩;rw[<-n];clear n;generalize mA t.k=sv at*;obtain⟨sp,S,T⟩:=s;obtain⟨V,tk,tf,Z,H,tn,o,D⟩:=t;dsimp only at h2 h3 l m j b;obtain⟨N,O⟩:=h3;clear h2;replace l:=hd' l;replace m:=hd' m;have p:=h0.cell;have M:=h0.free;have L:=wrp (H+1);go_in;go_upto_region 2 with fail;have y:=(h0.set 7 (.int .i64 (H+1))).set 8 (.int .i64 1);generalize World.setCell _ ⟨q,8,.none⟩ (.int .i64 1)=U at*;clear p h0 M;have I:=y.cell;have R:=y.lt;refine wre ?_;repeat (go_big_quiet_step (((go_at_call 75;exact yG ((l _).mono λ_ _ h=>⟨h.1,h.2⟩)))))
 refine wqn λX B=>?_;have z:=y.below B;rcases j with j|⟨F,j⟩
 .subst j;replace b:=hd' (b.out.trans (jP rfl));go_wp2_with (go_at_call 272;(with_reducible refine(m _ z.row).mono ?_);rintro r L E;obtain rfl:=E.ret);go_returns;exact(z.turned E).fin (by rw[b])
 replace b:=hd' (b.out.trans (jN F));clear F;go_wp2_with fail;go_returns;exact z.fin (by rw[b];rfl)
theorem YM{l:List Oper}{aF:Act}{Q:Exit->Act->World->Prop}{x:TB}{a0 a1 q:Int}{z B:TypeId}{U V:String}{r b:Array Edge}{y:Oper}(O:x.t=136) (S:x.zero=#[.int .i64 0,.int .i64 0,.int .i64 0]) (R:x.val=#[.int .i64 a0,.int .i64 a1,.int .i64 q]) (C:aF.eval (.tmp x.src)=.agg #[a0,a1,q])(h1:l.toArray[x.al]?=some {dst:=some x.d,op:=.alloc 136,type:=z,pos:=U,after:=r,guard:=none})(h2:l.toArray[x.st]?=some {dst:=none,op:=.store 136 (.tmp x.d) (.tmp x.src),type:=B,pos:=V,after:=b,guard:=none})(h3:l.toArray[x.so]?=some y) (h4:y.dst=some x.src) (I:(b.any λe=>Region.binds .any e&&e.on==x.al)=true) (hs:(b.any λe=>Region.binds .any e&&e.on==x.so)=true):ZE Tryz.prog l Q aF x:=by
 obtain⟨al,st,so,d,src,t,zero,val⟩:=x;subst O S R;dsimp only at*;refine⟨λa w K s=>?_,λa w K M D E f s=>?_,λlisted N=>?_,⟨y,h3,h4⟩⟩
 .unfold wpOp;rw[h1];simp only[Region.wanted,if_true];left;simp[go_sem,Oper.wp];exact s
 .unfold wpOp;rw[h2];simp only[Region.wanted,if_true];left;have T:w.cell? ⟨M,0,.none⟩=some (.int .i64 0):=iA f 0;have m1:w.cell? ⟨M,1,.none⟩=some (.int .i64 0):=iA f 1;have m2:w.cell? ⟨M,2,.none⟩=some (.int .i64 0):=iA f 2;have H:∀i,w.frozen? ⟨M,i,.none⟩=false:=λi=>KA f i;rw[<-E]at C;have F:a.tmps[d]?.getD undef=.pointer (some ⟨M,0,.none⟩):=by simpa[Act.eval,vptr] using D
  have G:a.tmps[src]?.getD undef=.agg #[a0,a1,q]:=by simpa[Act.eval] using C
  simp[go_sem,Oper.wp,F,G,T,m1,m2,H];refine s _ ?_ ?_ ?_
  .rw[heap_setCell_same _ M 2 _ _ _ (heap_setCell_same _ M 1 _ _ _ (heap_setCell_same _ M 0 _ _ _ f))];rfl
  .exact((((Only.refl (λk=>k=M) w).setCell (p:=⟨M,0,.none⟩) (.inl rfl) _).setCell (p:=⟨M,1,.none⟩) (.inl rfl) _).setCell (p:=⟨M,2,.none⟩) (.inl rfl) _)
  simp[World.setCell]
 obtain⟨_,o,m,J⟩:=mem_ready.1 N;rw[h2]at m;injection m with m;subst m;have j:∀n,(b.any λe=>Region.binds .any e&&e.on==n)=true->listed.getD n false=true:=λn L=>by obtain⟨i,hi,hu⟩:=Array.any_eq_true.1 L;simp only[jC,beq_iff_eq]at hu;exact hu.2▸J _ (Array.getElem_mem hi) hu.1
 exact⟨j _ I,j _ hs⟩
theorem zys(q p b:Nat)(s:Sh)(t:Sc)(m:Mem)(w:World)(hq:aA w q (SB s t) 287)(hw:oA w p b m)(cd:q≠p)(cc:q≠b)(hf:Fits s m)(ho:scOk s t)(hs:m.st<1000000000):
  Calls Tryz.prog 270 #[some q,some p] w λe w'=>Stepped q p b w w' e (SB s (xD s t m).1) 287 (xD s t m).2:=by
 have h0:=At3.start hq hw cd cc;clear hq hw;rcases jB t.done with hd|hd
 .have O:xD s t m=(t,m):=by unfold xD;rw[jP hd]
  rw[O];clear O;have b3:w.cell? ⟨q,10,.none⟩=some (.bool true):=by rw[<-hd];exact h0.cell 10
  clear ho hd hf;go_in;go_wp2_with fail;go_returns;exact h0.fin rfl rfl
 obtain⟨hc,hk,c9,cb,hi,hn⟩:=ho.cl hd;have bf:=hf.bd;have ba:0<=t.i/\t.i<16:=by have:=pH hk;omega
 have bg:0<=t.page s/\t.page s<s.p:=⟨Int.emod_nonneg _ (by omega),Int.emod_lt_of_pos _ (by omega)⟩;obtain⟨bh,bx⟩:=hf.page bg;obtain⟨bk,bj⟩:=hf.slot bg ba;have o:=λY (z:aA Y q (SB s t) 287)=>yV q s t Y z (by omega) (by omega) (by omega);have D:=λY=>JB s.p s.c s.m (t.page s) Y;have l:=λY=>uE s.p s.c s.m (t.page s) t.i Y;have b9:=λk Y=>tE k t.k Y;have F:=λY=>tE 2 t.c Y;have H:=λt' (h:t'.many=t.many) Y (z:aA Y q (SB s t') 287)=>AV q s t' Y z (by omega);have y:=λt' (h:t'.many=t.many) (h2:t'.i=t.i) Y (z:aA Y q (SB s t') 287)=>zxm q s t' Y z (by omega) (by omega);rw[bh]at D;rw[bk]at l;obtain⟨r,O⟩:∃r,r=xD s t m:=⟨_,rfl⟩;rw[<-O];unfold xD at O;rw[jN (by rw[hd];decide)]at O;dsimp only at O;rw[bh,bk]at O;have L:t.next=0\/t.next=1\/t.next=2:=by omega
 have T:=λY (z:oA Y p b m)=>uF p b m t.c (s.c+t.page s) Y z bx hs;have U:=λY (z:oA Y p b m)=>uF p b m t.c (s.c+s.p+t.page s*16+t.i) Y z bj hs;have R:=λY (z:oA Y p b m)=>WH p b m t.c (s.c+s.p+t.page s*16+t.i) (BB t.k) (wayW t.c) Y z bj (IE _ _) hs;have G:=λY=>ZJ s (t.page s) (m.get (s.c+t.page s)) Y (Mem.yF h0.wds.fit _);generalize s.c+s.p+t.page s*16+t.i=sa at U R l O;generalize s.c+t.page s=pa at T D G O;generalize bw:t.page s=pg at o D l G O;clear bw bx bj bh bk bg ho hf ba cb c9 hi;have bv:Hid (BB t.k=VA 1 t.k):=hd' rfl;have bz:Hid (wayW t.c=VA 2 t.c):=hd' rfl;rw[<-bz]at F;have j:=λY=>b9 1 Y;rw[<-bv]at j;clear b9 bv bz;generalize BB t.k=ow at j R O;generalize wayW t.c=ww at F R O;rcases L with L|L|L
 .rw[jP L]at O;obtain⟨x,hx⟩:∃x,x=m.get pa:=⟨_,rfl⟩;rw[<-hx]at T G O;clear hx U R y;have b7:r=(if LA s.p s.c s.m pg x=true/\pgK s pg x=2/\pgP s pg x 0=t.k then {t with next:=1} else t.turn s,m.load t.c pa):=by rw[O];unfold pgK pgP;by_cases hB:LA s.p s.c s.m pg x=true<;>simp[hB]
  clear O;generalize LA s.p s.c s.m pg x=B at G b7;generalize pgK s pg x=e0 at G b7;generalize pgP s pg x 0=e1 at G b7;generalize pgP s pg x 1=e2 at G;obtain⟨t2,n,I⟩:∃t2:Sc,Hid (t2=if B=true/\e0=2/\e1=t.k then {t with next:=1} else t.turn s)/\t2=_:=⟨_,hd' rfl,rfl⟩;rw[<-I]at b7;clear I;subst b7;replace H:=λY (z:aA Y q (SB s t) 287)=>H t rfl Y z;obtain⟨tc,tk,tf,tm,ti,tn,C,b8⟩:=t;obtain⟨sp,sc,sm⟩:=s;dsimp only at hd L T G o D l j F H n|-;subst hd L;replace T:=hd' T;replace G:=hd' G;replace o:=hd' o;replace D:=hd' D;replace l:=hd' l;replace j:=hd' j;replace H:=hd' H;clear F hc hk bf;have lq:=h0.lt;have c5:=h0.cell;have b3:=ce (.bool false) (h0.cell 10);go_in;go_upto_region 1 with fail;refine wre ?_;repeat (go_big_quiet_step ((first|(go_at_call 186;exact AA (o _ (h0.row.below (Ext.below _))))|(go_at_call 114;exact AA (l _)))))
  refine wqn λX S=>?_;have hX:=h0.below S;clear c5 b3 h0 lq;have c6:=hX.cell;go_upto_region 5 with(go_at_call 141;(with_reducible refine(j _).mono ?_);rintro r w1 ⟨rfl,b0⟩;have z:=hX.below b0;have c7:=z.cell);clear c6 c7 hX;go_cut [6,7] (λs6 s7 wx=>∃E,s6=.pointer (some ⟨E,0,.none⟩)/\s7=.bool B/\w.heap.size<=E/\aA wx E #[e0,e1,e2] 136/\At3 q p b w wx (SB ⟨sp,sc,sm⟩ ⟨tc,tk,tf,tm,ti,0,C,false⟩) 287 (m.load tc pa));case first=>
   refine wrl (x:=⟨23,24,21,6,60,136,#[.int .i64 0,.int .i64 0,.int .i64 0],#[e0,e1,e2]⟩) (ld:=18) (v:=.int .u64 x) (ts:=[46,50,57])
    (K0:=λY=>At3 q p b w Y (SB ⟨sp,sc,sm⟩ ⟨tc,tk,tf,tm,ti,0,C,false⟩) 287 m) (K1:=λY=>At3 q p b w Y (SB ⟨sp,sc,sm⟩ ⟨tc,tk,tf,tm,ti,0,C,false⟩) 287 (m.load tc pa))
    ⟨⟨λY Y' h1 h2 h3=>h1.far h2 h3 z.only.size⟩,⟨λY Y' h1 h2 h3=>h1.far h2 h3 z.only.size⟩⟩ z.drew ?_
   apply Exists.intro;refine⟨λB hb hs=>?_,λ_=>?_,?_,?_⟩;case refine_1=>
    have bi:aA B q (SB ⟨sp,sc,sm⟩ ⟨tc,tk,tf,tm,ti,0,C,false⟩) 287:=hb.elim (λh=>h.row) (λh=>h.row);have lB:=bi.lt;have cq:=bi.cell;repeat (go_big_quiet_step ((first|(go_at_call 186;exact AA (o _ (bi.below (Ext.below _))))|(go_at_call 112;exact AA (D _))|(go_at_call 111;exact AA (G _)))))
    exact wpQuiet_nil rfl
   case refine_2=>exact YM rfl rfl rfl rfl rfl rfl rfl rfl (by dsimp only;decide +kernel) (by dsimp only;decide +kernel)
   case refine_3=>exact vF rfl (λ_ _=>by simp[go_sem]) λY bc hs=>(T Y bc.wds).mono λr Y' ⟨h1,h2,h3⟩=>⟨h1,bc.load h2 h3,h3.weak λk hk=>hk▸Nat.lt_of_lt_of_le bc.ls.2.1 z.only.size⟩
   case refine_4=>intro a w4 M hf;obtain⟨rfl,cp,ca,b6⟩:=hf;obtain⟨hM,b6⟩:=b6 (by simp);simp only[Act.put,vput,vptr];go_wp2;go_meet;exact⟨_,rfl,rfl,Nat.le_trans z.only.size hM,b6,ca⟩
  case rest=>
   obtain⟨E,rfl,rfl,hE,bb,N⟩:=hcut;have cu:E≠q:=λe=>by rw[e]at hE;have:=z.ls.1;omega
   have bq:=bb.cell;have bs:=N.cell;have zf:=N.free;clear z T G o D l j b0;by_cases hB:B=true/\e0=2/\e1=tk
   .obtain⟨rfl,rfl,rfl⟩:=hB;replace n:=hd' (n.out.trans (jP ⟨rfl,rfl,rfl⟩));go_wp2_with fail;go_quiet (fail);have b4:=N.drewN nq;clear bq bs zf bb N;generalize wc.drewN nq=V at*;have cr:=b4.cell;have zf:=b4.free;go_wp2_with fail;go_returns;exact(b4.set 8 _).fin (by rw[n];rfl) rfl
   replace n:=hd' (n.out.trans (jN hB));have J:B=false\/(B=true/\(e0==2)=false)\/(B=true/\e0=2/\(e1==tk)=false):=by
    rcases jB B with h|h
    .by_cases h1:e0=2
     .exact .inr (.inr ⟨h,h1,by simpa[h,h1] using hB⟩)
     exact .inr (.inl ⟨h,by simpa using h1⟩)
    exact .inl h
   clear hB;rcases J with rfl|⟨rfl,J⟩|⟨rfl,rfl,J⟩;all_goals go_wp2_with fail;go_quiet (fail);have b4:=N.drewN nq;clear bq bs zf bb N;generalize wc.drewN nq=V at*;go_wp2_with (go_at_call 272;(with_reducible refine(H _ b4.row).mono ?_);rintro r w1 hT;obtain rfl:=hT.ret);go_returns;exact(b4.turned hT).fin (by rw[n]) rfl
 .rw[jN (by omega),jP L]at O;clear T G R F H D;have b5:m.get sa=ow\/(¬m.get sa=ow/\(m.get sa==ow)=false):=by
   by_cases h:m.get sa=ow
   .exact .inl h
   exact .inr ⟨h,by simpa using h⟩
  obtain⟨t2,n,I⟩:∃t2:Sc,Hid (t2=if m.get sa=ow then {t with next:=2} else t.miss s)/\t2=_:=⟨_,hd' rfl,rfl⟩;rw[<-I]at O;clear I;subst O;replace y:=λY (z:aA Y q (SB s t) 287)=>y t rfl rfl Y z;obtain⟨x,hx,c4⟩:=hidv (m.get sa);rw[<-c4]at U b5 n;clear hx c4;obtain⟨tc,tk,tf,tm,ti,tn,C,b8⟩:=t;obtain⟨sp,sc,sm⟩:=s;dsimp only at hd L U o l j y n|-;subst hd L;replace o:=hd' o;replace l:=hd' l;replace j:=hd' j;replace y:=hd' y;clear hc hk bf;have lq:=h0.lt;have c8:=h0.cell;have b3:=ce (.bool false) (h0.cell 10);go_in;go_upto_region 1 with fail;refine wre ?_;repeat (go_big_quiet_step ((first|(go_at_call 186;exact AA (o _ (h0.row.below (Ext.below _))))|(go_at_call 114;exact AA (l _)))))
  refine wqn λX S=>?_;have hX:=h0.below S;clear c8 b3 h0 lq;have cs:=hX.cell;replace U:=hd' U;rcases b5 with rfl|⟨J,b5⟩
  .replace n:=hd' (n.out.trans (jP rfl));go_wp2_with (first|(go_at_call 141;refine(j _).mono ?_;rintro r w1 ⟨rfl,b0⟩;have z:=hX.below b0;have cf:=z.cell)|(go_at_call 219;(with_reducible refine(U _ z.wds).mono ?_);rintro r w2 ⟨rfl,b2,b1⟩;have N:=z.load b2 b1;have cg:=N.cell;have zf:=N.free)|(go_at_call 271;(with_reducible refine(y _ N.row).mono ?_);rintro r w3 hT;obtain rfl:=hT.ret));go_returns;exact(N.set 8 _).fin (by rw[n];rfl) rfl
  replace n:=hd' (n.out.trans (jN J));clear J;go_wp2_with (first|(go_at_call 141;refine(j _).mono ?_;rintro r w1 ⟨rfl,b0⟩;have z:=hX.below b0;have ch:=z.cell)|(go_at_call 219;(with_reducible refine(U _ z.wds).mono ?_);rintro r w2 ⟨rfl,b2,b1⟩;have N:=z.load b2 b1;have cj:=N.cell;have zf:=N.free)|(go_at_call 271;(with_reducible refine(y _ N.row).mono ?_);rintro r w3 hT;obtain rfl:=hT.ret));go_returns;exact(N.turned hT).fin (by rw[n]) rfl
 rw[jN (by omega),jN (by omega)]at O;clear T G U H D;have b5:(m.get sa=ow/\decide (m.get sa=ow)=true)\/(¬m.get sa=ow/\decide (m.get sa=ow)=false):=by
  by_cases h:m.get sa=ow
  .exact .inl ⟨h,jT h⟩
  exact .inr ⟨h,jF h⟩
 obtain⟨t2,n,I⟩:∃t2:Sc,Hid (t2=if m.get sa=ow then {t with found:=true,done:=true} else t.miss s)/\t2=_:=⟨_,hd' rfl,rfl⟩;rw[<-I]at O;clear I;subst O;replace y:=λY (z:aA Y q (SB s t) 287)=>y t rfl rfl Y z;obtain⟨g,hg,bu⟩:∃g,Hid (g=decide (m.get sa=ow))/\g=decide (m.get sa=ow):=⟨_,hd' rfl,rfl⟩;rw[<-bu]at R b5;clear hg bu;obtain⟨tc,tk,tf,tm,ti,tn,C,b8⟩:=t;obtain⟨sp,sc,sm⟩:=s;dsimp only at hd L R o l j F y n|-;subst hd L;replace o:=hd' o;replace l:=hd' l;replace j:=hd' j;replace y:=hd' y;clear hc hk bf;have lq:=h0.lt;have bm:=h0.cell;have b3:=ce (.bool false) (h0.cell 10);go_in;go_upto_region 1 with fail;refine wre ?_;repeat (go_big_quiet_step ((first|(go_at_call 186;exact AA (o _ (h0.row.below (Ext.below _))))|(go_at_call 114;exact AA (l _)))))
 refine wqn λX S=>?_;have hX:=h0.below S;clear bm b3 h0 lq;have bn:=hX.cell;replace R:=hd' R;replace F:=hd' F;go_upto_region 14 with(go_at_call 141;(with_reducible refine(j _).mono ?_);rintro r w1 ⟨rfl,b0⟩;have z:=hX.below b0;have bp:=z.cell);clear bn bp hX;have lY:=z.lt;have ck:=z.cell;rcases b5 with⟨J,rfl⟩|⟨J,rfl⟩
 .replace n:=hd' (n.out.trans (jP J));clear J;refine wret 13 ?_;repeat (go_big_quiet_step (((go_at_call 141;exact AA (F _)))))
  refine wqn λZ S=>?_;have hZ:=z.below S;go_wp2_with (go_at_call 222;(with_reducible refine(R _ hZ.wds).mono ?_);rintro r w2 ⟨rfl,b2,b1⟩;have N:=hZ.access b2 b1;have cm:=N.cell;have zf:=N.free);go_returns;exact((N.set 9 _).set 10 _).fin (by rw[n];rfl) rfl
 replace n:=hd' (n.out.trans (jN J));clear J;refine wret 13 ?_;repeat (go_big_quiet_step (((go_at_call 141;exact AA (F _)))))
 refine wqn λZ S=>?_;have hZ:=z.below S;go_wp2_with (first|(go_at_call 222;(with_reducible refine(R _ hZ.wds).mono ?_);rintro r w2 ⟨rfl,b2,b1⟩;have N:=hZ.access b2 b1)|(go_at_call 271;(with_reducible refine(y _ N.row).mono ?_);rintro r w3 hT;obtain rfl:=hT.ret));go_returns;exact(N.turned hT).fin (by rw[n]) rfl
end Go.Proofs.YtkilokkopbajkaaGreat
