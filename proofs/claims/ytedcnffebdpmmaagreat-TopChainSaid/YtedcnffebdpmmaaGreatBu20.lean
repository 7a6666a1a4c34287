/- Texts bound together: AdA AdB AdC AdD AdE. -/
import Derived.Test.YtedcnffebdpmmaaGreatBu18

set_option linter.all false
set_option maxHeartbeats 2000000
set_option maxRecDepth 100000
namespace Go.Proofs.YtedcnffebdpmmaaGreat

open Go.RowKit

attribute [local go_sem ↓] Go.wp_at_zero Go.wp_at_succ

def zan (s:Sh) (t:Ad):Array Value:= #[s.p,s.c,s.m,t.c,t.d,t.next,.int .u64 t.was,t.who,t.at',t.i,t.pk,t.pa,t.pb,t.err,t.done]
attribute [local go_sem] zan

theorem zxq(q:Nat)(cs:Array Value)(v:Bool)(w:World)(h:zaa w q cs 222)(b:cs[14]?=some (.bool v)):Calls Tryz.prog 220 #[some q] w fun e w'=>e= .returned (.bool v)/\w'=w:=by
 have c:=(h.cell 14).trans b;clear h b;go_in;go_wp2_with fail;go_returns;exact⟨rfl,rfl⟩
theorem zhr(q:Nat)(s:Sh)(t:Ad)(x:Int)(w:World)(i:zaa w q (zan s t) 222):
  Calls Tryz.prog 109 #[some q,x] w fun e w'=>Turned q w w' e (zan s (t.fin x)) 222:=by
 have h0:=At1.start i;clear i;obtain⟨sp,n,o⟩:=s;obtain⟨r,y,B,C,m,p,z,pk,pa,pb,j,b⟩:=t;have l:=h0.cell;have D:=h0.free;go_in;go_wp2_with fail;go_returns;exact((h0.set 13 _).set 14 _).fin rfl
theorem z0i(q:Nat)(s:Sh)(t:Ad)(w:World)(b:zaa w q (zan s t) 222):
  Calls Tryz.prog 233 #[some q] w fun e w'=>e= .returned (.int .i64 t.err)/\w'=w:=by
 have i:=b.cell;clear b;go_in;go_wp2_with fail;go_returns;exact⟨rfl,rfl⟩
theorem zp2(s:Sh)(t:Ad)(again next:Int):(t.at'+1=s.p/\next=9/\s.m=0/\t.turn s again next= {t with at':=0,i:=0,next:=10})\/(t.at'+1=s.p/\next=9/\(s.m==0)=false/\t.turn s again next= {t with at':=0,i:=0,next:=9})\/(t.at'+1=s.p/\(next==9)=false/\t.turn s again next= {t with at':=0,i:=0,next:=next})
  \/((t.at'+1==s.p)=false/\again=9/\s.m=0/\t.turn s again next= {t with at':=t.at'+1,next:=10})\/((t.at'+1==s.p)=false/\again=9/\(s.m==0)=false/\t.turn s again next= {t with at':=t.at'+1,next:=9})\/((t.at'+1==s.p)=false/\(again==9)=false/\t.turn s again next= {t with at':=t.at'+1,next:=again}):=by
 by_cases h1:t.at'+1=s.p<;>by_cases h2:next=9<;>by_cases h3:s.m=0<;>by_cases h4:again=9<;>simp[Ad.turn,h1,h2,h3,h4]
theorem zek(q:Nat)(s:Sh)(t:Ad)(again next:Int)(w:World)(r:zaa w q (zan s t) 222)(E:0<=t.at'/\t.at'<64):
  Calls Tryz.prog 228 #[some q,again,next] w fun e w'=>Turned q w w' e (zan s (t.turn s again next)) 222:=by
 have h0:=At1.start r;clear r;have n:=zp2 s t again next
 have I:=wrp (t.at'+1);obtain⟨y,b⟩:∃ y,y=t.turn s again next:=⟨_,rfl⟩
 rw[<-b]at n ⊢;clear b E;obtain⟨sp,L,M⟩:=s;obtain⟨N,O,S,T,H,G,R,pk,pa,pb,z,p⟩:=t;dsimp only at n I;have j:=h0.cell;have B:=h0.free;go_in;go_upto_region 2 with fail;have l:=(h0.set 8 (.int .i64 (G+1))).set 5 (.int .i64 again);generalize World.setCell _ ⟨q,5,.none⟩ (.int .i64 again)=U at *;clear j h0 B;have C:=l.cell;have J:=l.lt;refine wre ?_;repeat (go_big_quiet_step (fail))
 refine wqn fun X m=>?_;have i:=l.below m;have D:=i.cell;have B:=i.free;rcases n with⟨hs,rfl,o,b⟩|⟨hs,rfl,o,b⟩|⟨hs,F,b⟩|⟨hs,rfl,o,b⟩|⟨hs,rfl,o,b⟩|⟨hs,F,b⟩;all_goals
  replace b:=hd' b;try subst hs
  go_wp2_with fail;go_returns
 ·exact((((i.set 8 _).set 9 _).set 5 _).set 5 _).fin (by rw[b.out];rfl)
 ·exact(((i.set 8 _).set 9 _).set 5 _).fin (by rw[b.out];rfl)
 ·exact(((i.set 8 _).set 9 _).set 5 _).fin (by rw[b.out];rfl)
 ·exact(i.set 5 _).fin (by rw[b.out];rfl)
 ·exact i.fin (by rw[b.out];rfl)
 exact i.fin (by rw[b.out];rfl)
theorem zo4(q:Nat)(s:Sh)(t:Ad)(w:World)(H:zaa w q (zan s t) 222)(F:0<=t.at'/\t.at'<64)(hi:0<=t.i/\t.i<16):
  Calls Tryz.prog 222 #[some q] w fun e w'=>Turned q w w' e (zan s (t.slot s)) 222:=by
 have h0:=At1.start H;clear H;unfold Ad.slot;have l:=fun W=>slots_any t.pa W;have m:=fun Y (O:zaa Y q (zan s {t with i:=0,next:=11}) 222)=>zek q s {t with i:=0,next:=11} 10 13 Y O F;have J:=wrp (t.i+1);have j:t.i+1=zah t.pa\/(¬ t.i+1=zah t.pa/\(t.i+1==zah t.pa)=false):=by
  by_cases h:t.i+1=zah t.pa
  ·exact .inl h
  exact .inr ⟨h,by simpa using h⟩
 obtain⟨B,b,n⟩:∃ B:Ad,Hid (B=if t.i+1=zah t.pa then({t with i:=0,next:=11}:Ad).turn s 10 13 else {t with i:=t.i+1,next:=11})/\B=_:=⟨_,hd' rfl,rfl⟩;rw[<-n];clear n;generalize zah t.pa=sv at *;obtain⟨sp,V,Z⟩:=s;obtain⟨tc,td,tn,tw,R,ta,S,pk,pa,pb,I,C⟩:=t;dsimp only at l m j b J;clear F hi;replace l:=hd' l;replace m:=hd' m;have p:=h0.cell;have L:=h0.free;go_in;go_upto_region 2 with fail;have y:=(h0.set 9 (.int .i64 (S+1))).set 5 (.int .i64 11);generalize World.setCell _ ⟨q,5,.none⟩ (.int .i64 11)=U at *;clear p h0 L;have M:=y.cell;have T:=y.lt;refine wre ?_;repeat (go_big_quiet_step (((go_at_call 67;exact zdx ((l.out _).mono fun _ _ h=>⟨h.1,h.2⟩)))))
 refine wqn fun X z=>?_;have o:=y.below z;rcases j with j|⟨G,j⟩
 ·subst j;replace b:=hd' (b.out.trans (if_pos rfl));have N:=o.cell;have L:=o.free;have D:=o.set 9 (.int .i64 0);go_wp2_with (go_at_call 228;(with_reducible refine(m.out _ D.row).mono ?_);rintro r J E;obtain rfl:=E.ret);go_returns;exact(D.turned E).fin (by rw[b.out])
 replace b:=hd' (b.out.trans (if_neg G));clear G;go_wp2_with fail;go_returns;exact o.fin (by rw[b.out];rfl)
theorem zr3(q:Nat)(s:Sh)(t:Ad)(k a b:Int)(ok:Bool)(w:World)(p:zaa w q (zan s t) 222):
  Calls Tryz.prog 229 #[some q,.agg #[k,a,b],ok] w fun e w'=>e= .returned (.bool (ok&&(k==1&&a==t.d)))/\Below w.heap.size w w':=by
 have h0:=p;clear p;obtain⟨sp,G,I⟩:=s;obtain⟨L,M,O,R,C,J,N,pk,pa,pb,r,o⟩:=t;dsimp only;have i:=(Below.refl w.heap.size w).alloc lr (.cells #[k,a,b] 88);have n:=heap_alloc_new w (.cells #[k,a,b] 88);have F:=h0.lt;go_in;go_upto_region 1 with fail;generalize w.alloc (.cells #[k,a,b] 88)=W at *;have h1:=h0.below i;obtain⟨H,D,m⟩:=hidv w.heap.size;rw[<-m]at n ⊢;have E:H<W.heap.size:=(Array.getElem?_eq_some_iff.1 n).1;have y:=zac n;have z:=h1.cell;have B:=h1.lt;clear m n h0;rcases(by cases ok<;>simp:ok=false\/ok=true) with rfl|rfl;case inr=>
  rcases(by by_cases h:k=1<;>simp[h]:k=1\/(k==1)=false) with rfl|hk;all_goals
   refine wre ?_;repeat (go_big_quiet_step (fail))
   refine wqn fun X l=>?_;have j:=l;go_wp2_with fail;go_returns
  ·exact⟨by simp,zab i j⟩
  exact⟨by simp[hk],zab i j⟩
 case inl=>
  refine wre ?_;repeat (go_big_quiet_step (fail))
  refine wqn fun X l=>?_;have j:=l;go_wp2_with fail;go_returns;exact⟨by simp,zab i j⟩
theorem zim(q p b:Nat)(s:Sh)(t:Ad)(m:Mem)(a:Int)(w:World)(h0:At3 q p b w w (zan s t) 222 m)(T:Fits s m)(hs:m.st<1000000000)(ha:0<=a/\a<s.p):
  Calls Tryz.prog 227 #[some q,some p,a] w fun e w'=>e= .returned (.tuple #[.agg #[.int .i64 (pgK s a (m.get (zak s.p s.c s.m a))),.int .i64 (pgP s a (m.get (zak s.p s.c s.m a)) 0),.int .i64 (pgP s a (m.get (zak s.p s.c s.m a)) 1)],.bool (zal s.p s.c s.m a (m.get (zak s.p s.c s.m a)))])/\At3 q p b w w' (zan s t) 222 (m.load t.c (zak s.p s.c s.m a)):=by
 obtain⟨N,L⟩:=T.page ha;have j:=fun Y=>planPage_any s.p s.c s.m a Y;rw[N]at j ⊢;have z:=fun Y (hY:zaq Y p b m)=>zc1 p b m t.c (s.c+a) Y hY L hs;have C:=fun Y=>zh3 s a (m.get (s.c+a)) Y (Mem.ze4 h0.wds.fit _);clear N L T ha;generalize s.c+a=R at *;generalize m.get R=x at *;generalize zal s.p s.c s.m a x=B at *;generalize pgK s a x=Z at *;generalize pgP s a x 0=e1 at *;generalize pgP s a x 1=S at *;obtain⟨sp,sc,sm⟩:=s;obtain⟨U,td,tn,tw,F,ta,ti,pk,pa,pb,n,l⟩:=t;dsimp only at j z C ⊢;replace j:=hd' j;replace z:=hd' z;replace C:=hd' C;have t0:=heap_alloc_new w (.cells #[.int .i64 0,.int .i64 0,.int .i64 0] 88);have G:=h0.alloc (.cells #[.int .i64 0,.int .i64 0,.int .i64 0] 88);go_in;go_upto_region 1 with fail;generalize w.alloc (.cells #[.int .i64 0,.int .i64 0,.int .i64 0] 88)=X at *;obtain⟨H,hH,I⟩:=hidv w.heap.size;rw[<-I]at t0 ⊢;have E:w.heap.size<=H:=by omega
 clear I;have b4:H≠q:=fun e=>by have:=h0.lt;omega
 have b0:H≠p:=fun e=>by have:=h0.wds.ltp;omega
 have b3:H≠b:=fun e=>by have:=h0.wds.ltb;omega
 have D:zaa X H #[.int .i64 0,.int .i64 0,.int .i64 0] 88:=t0;clear t0;have lX:=G.lt
 refine ziv 20 (p:= { dst:=none,op:=Op.store 88 (Operand.tmp 6) (Operand.tmp 26),type:=0,pos:=_,after:=_,guard:=none}) (q:= { dst:=some 7,op:=Op.assign (Operand.tmp 27),type:=_,pos:=_,after:=_,guard:=none}) (x:=zbb 4) (ld:=16) (v:= .int .u64 x) (ts:= [13,17,23])
  (K0:=fun Y=>At3 q p b w Y (zan ⟨sp,sc,sm⟩ ⟨U,td,tn,tw,F,ta,ti,pk,pa,pb,n,l⟩) 222 m/\zaa Y H #[.int .i64 0,.int .i64 0,.int .i64 0] 88) (K1:=fun Y=>At3 q p b w Y (zan ⟨sp,sc,sm⟩ ⟨U,td,tn,tw,F,ta,ti,pk,pa,pb,n,l⟩) 222 (m.load U R)/\zaa Y H #[.int .i64 0,.int .i64 0,.int .i64 0] 88)
  (by kernel_rfl) rfl (by kernel_rfl) (by kernel_rfl) (by simp only[List.take,zbb,zfq,zej,nopO,nopC,Nat.reduceBEq,Bool.or_false,Bool.or_true,Bool.false_eq_true,↓reduceIte,Nat.reduceAdd];exact rfl) (by kernel_rfl) (by kernel_rfl) (by kernel_rfl) (by simp[zbb]) (by simp[zbb]) (by simp[zbb]) (by simp[zbb]) (by kernel_rfl) (by simp[zbb]) (by simp[zbb])
  ⟨⟨fun Y Y' h1 h2 h3=>⟨h1.1.far h2 h3 G.only.size,h1.2.only h3 (by have:=D.lt;omega)⟩⟩,⟨fun Y Y' h1 h2 h3=>⟨h1.1.far h2 h3 G.only.size,h1.2.only h3 (by have:=D.lt;omega)⟩⟩⟩ ⟨G.drew,D.drew⟩ ?_
 apply Exists.intro;refine⟨fun B hb hs=>?_,fun h=>(by simp[zbb]at h),fun Q0=>?_,?_⟩;case refine_1=>
  have O:zaa B q (zan ⟨sp,sc,sm⟩ ⟨U,td,tn,tw,F,ta,ti,pk,pa,pb,n,l⟩) 222:=hb.elim (fun h=>h.1.row) (fun h=>h.1.row);have lB:=O.lt;have b2:=O.cell;repeat (go_big_quiet_step ((first|(go_at_call 65;exact zam (j.out _))|(go_at_call 64;exact zam (C.out _)))))
  exact wpQuiet_nil rfl
 case refine_2=>exact zcz rfl (fun _ _=>by simp[go_sem]) fun Y o hs=>(z.out Y o.1.wds).mono fun r Y' ⟨h1,h2,h3⟩=>⟨h1,⟨o.1.load h2 h3,o.2.only h3 b0⟩,h3.weak fun k hk=>hk ▸ Nat.lt_of_lt_of_le o.1.ls.2.1 G.only.size⟩
 case refine_3=>intro a w4 M T;obtain⟨rfl,b1,⟨J,y⟩,_⟩:=T;obtain⟨z0,z1,z2⟩:=ci3 0 0 0 y.cell;have zf:∀ i,w4.frozen? ⟨H,i,.none⟩=false:=fun i=>zax y i;have hB:=((J.new E 0 (.int .i64 Z)).new E 1 (.int .i64 e1)).new E 2 (.int .i64 S);have hR:=((y.set 0 (.int .i64 Z)).set 1 (.int .i64 e1)).set 2 (.int .i64 S);simp only[zbb,vput,List.take,List.size_toArray,List.length_cons,List.length_nil,Nat.reduceAdd,Nat.reduceLT,decide_false,Bool.false_eq_true,if_false];clear J y G h0;go_wp2;generalize World.setCell _ ⟨H,2,.none⟩ (.int .i64 S)=V at *;clear z0 z1 z2 zf;obtain⟨z0,z1,z2⟩:=ci3 Z e1 S hR.cell;refine bodyPost_ret (by simp[results,Tryz.results227,go_sem,z0,z1,z2];try rfl) rfl ?_;exact⟨rfl,hB⟩
theorem rs2(x:Int)(w:World)(h0:0<=x/\x<18446744073709551616):
  Calls Tryz.prog 30 #[.int .u64 x] w fun e w'=>e= .returned (.tuple #[.int .i64 (zdc x),.int .i64 (zda x)])/\Below w.heap.size w w':=by
 refine(zfz x w h0.1 h0.2).mono ?_;rintro e w' ⟨hb,rfl⟩;refine⟨?_,hb⟩;have h:(za8 (zbx x) (za2 x 0)==x)=zjc x:=rfl;rw[h];unfold zdc zda;cases zjc x<;>rfl
theorem z2a(s:Sh)(c d:Int)(w:World):
  Calls Tryz.prog 91 #[.agg #[s.p,s.c,s.m],c,d] w fun e w'=>Born w w' e (zan s (zix s c d)) 222:=by
 have q:=fun W=>zau s.p s.c s.m c W;have z:=fun W=>zau s.p s.c s.m d W;have j:=fun k Y (hY:zaa Y k (zan s ⟨c,d,0,0,0,0,0,0,0,0,0,false⟩) 222)=>zhr k s ⟨c,d,0,0,0,0,0,0,0,0,0,false⟩ 1 Y hY;obtain⟨t2,i,L⟩:∃ t2:Ad,Hid (t2=if zae s.p s.c s.m c<0\/zae s.p s.c s.m d<0\/c=d then(⟨c,d,0,0,0,0,0,0,0,0,0,false⟩:Ad).fin 1 else⟨c,d,0,0,0,0,0,0,0,0,0,false⟩)/\t2=zix s c d:=⟨_,hd' rfl,rfl⟩;rw[<-L];clear L;generalize zae s.p s.c s.m c=S at *;generalize zae s.p s.c s.m d=T at *;obtain⟨sp,E,F⟩:=s;dsimp only at q z;replace q:=hd' q;replace z:=hd' z;replace j:=hd' j;have G:=(Below.refl w.heap.size w).alloc lr (.cells #[sp,E,F] 23);have t0:=heap_alloc_new w (.cells #[sp,E,F] 23);go_in;go_upto_region 1 with fail;generalize w.alloc (.cells #[sp,E,F] 23)=W at *;obtain⟨H,hH,O⟩:=hidv w.heap.size;rw[<-O]at t0 ⊢;have I:zaa W H #[sp,E,F] 23:=t0;have lH:H<W.heap.size:=I.lt;obtain⟨c0,c1,c2⟩:=ci3 sp E F I.cell;clear t0 O;have X:=hd' G.size;go_upto_region 2 with fail;have N:zaa (W.alloc (.cells (zan ⟨sp,E,F⟩ ⟨c,d,0,0,0,0,0,0,0,0,0,false⟩) 222)) W.heap.size (zan ⟨sp,E,F⟩ ⟨c,d,0,0,0,0,0,0,0,0,0,false⟩) 222:=heap_alloc_new _ _;have C:=G.trans ((Below.refl w.heap.size W).alloc G.size (.cells (zan ⟨sp,E,F⟩ ⟨c,d,0,0,0,0,0,0,0,0,0,false⟩) 222));have J:=I.alloc (.cells (zan ⟨sp,E,F⟩ ⟨c,d,0,0,0,0,0,0,0,0,0,false⟩) 222);dsimp only[zan]at N C J j;generalize W.alloc (.cells #[sp,E,F,c,d,.int .i64 0,.int .u64 0,.int .i64 0,.int .i64 0,.int .i64 0,.int .i64 0,.int .i64 0,.int .i64 0,.int .i64 0,.bool false] 222)=V at *;obtain⟨K,hK,M⟩:=hidv W.heap.size;rw[<-M]at N ⊢;have o:w.heap.size<=K:=M ▸ X.out;have b0:H<V.heap.size:=J.lt;have b1:K<V.heap.size:=N.lt;clear M c0 c1 c2 lH I G;obtain⟨c0,c1,c2⟩:=ci3 sp E F J.cell;clear J;have Z:S<0\/(0<=S/\T<0)\/(0<=S/\0<=T/\c=d)\/(0<=S/\0<=T/\(c==d)=false):=by
  by_cases h1:S<0
  ·exact .inl h1
  by_cases h2:T<0
  ·exact .inr (.inl ⟨by omega,h2⟩)
  by_cases h:c=d
  ·exact .inr (.inr (.inl ⟨by omega,by omega,h⟩))
  exact .inr (.inr (.inr ⟨by omega,by omega,by simpa using h⟩))
 rcases Z with h1|⟨h1,h2⟩|⟨h1,h2,rfl⟩|⟨h1,h2,h3⟩;case inr.inr.inr=>replace i:=hd' (i.out.trans (if_neg (by rintro(h|h|h)<;>first|omega|(rw[h]at h3;simp at h3))));clear j;go_wp2_with (first|(go_at_call 22;(with_reducible refine(q.out _).mono ?_);rintro r w1 ⟨rfl,b⟩;have U:=zai b _ _ _ c0;have d1:=zai b _ _ _ c1;have d2:=zai b _ _ _ c2;have y:=N.below b)|(go_at_call 22;(with_reducible refine(z.out _).mono ?_);rintro r w2 ⟨rfl,l⟩;have D:=y.below l));go_returns;exact⟨K,rfl,o,by rw[i.out];exact D,zab (zab C b) l⟩
 case inl=>replace i:=hd' (i.out.trans (if_pos (.inl h1)));go_wp2_with (first|(go_at_call 22;(with_reducible refine(q.out _).mono ?_);rintro r w1 ⟨rfl,b⟩;have U:=zai b _ _ _ c0;have d1:=zai b _ _ _ c1;have d2:=zai b _ _ _ c2;have y:=N.below b)|(go_at_call 109;(with_reducible refine(j.out _ _ y).mono ?_);rintro r w3 B;obtain rfl:=B.ret));go_returns;have n:=zab C b;exact⟨K,rfl,o,by rw[i.out];exact B.row,n.trans (B.only.below n.size fun k R=>by rw[R];exact o)⟩
 case inr.inl=>replace i:=hd' (i.out.trans (if_pos (.inr (.inl h2))));go_wp2_with (first|(go_at_call 22;(with_reducible refine(q.out _).mono ?_);rintro r w1 ⟨rfl,b⟩;have U:=zai b _ _ _ c0;have d1:=zai b _ _ _ c1;have d2:=zai b _ _ _ c2;have y:=N.below b)|(go_at_call 22;(with_reducible refine(z.out _).mono ?_);rintro r w2 ⟨rfl,l⟩;have D:=y.below l)|(go_at_call 109;(with_reducible refine(j.out _ _ D).mono ?_);rintro r w3 B;obtain rfl:=B.ret));go_returns;have n:=zab (zab C b) l;exact⟨K,rfl,o,by rw[i.out];exact B.row,n.trans (B.only.below n.size fun k R=>by rw[R];exact o)⟩
 case inr.inr.inl=>replace i:=hd' (i.out.trans (if_pos (.inr (.inr rfl))));go_wp2_with (first|(go_at_call 22;(with_reducible refine(q.out _).mono ?_);rintro r w1 ⟨rfl,b⟩;have U:=zai b _ _ _ c0;have d1:=zai b _ _ _ c1;have d2:=zai b _ _ _ c2;have y:=N.below b)|(go_at_call 22;(with_reducible refine(z.out _).mono ?_);rintro r w2 ⟨rfl,l⟩;have D:=y.below l)|(go_at_call 109;(with_reducible refine(j.out _ _ D).mono ?_);rintro r w3 B;obtain rfl:=B.ret));go_returns;have n:=zab (zab C b) l;exact⟨K,rfl,o,by rw[i.out];exact B.row,n.trans (B.only.below n.size fun k R=>by rw[R];exact o)⟩
def Ad.asked (s:Sh) (t:Ad) (x:Int):Ad:=
 if zdc x=2 then { t with was:=x,next:=2 }
 else if zdc x≠3 then ({ t with was:=x }:Ad).fin 5
 else if zae s.p s.c s.m (zda x) < 0 then ({ t with was:=x }:Ad).fin 4
 else { t with was:=x,who:=zda x,next:=1 }
theorem z3b(q p b:Nat)(s:Sh)(t:Ad)(m:Mem)(w:World)(h0:At3 q p b w w (zan s t) 222 m)(X:Fits s m)(hs:m.st<1000000000)(hd:0<=t.d/\t.d<s.c):
  Calls Tryz.prog 226 #[some q,some p] w fun e w'=>e= .returned (.tuple #[])/\At3 q p b w w' (zan s (t.asked s (m.get (zae s.p s.c s.m t.d)))) 222 (m.load t.c (zae s.p s.c s.m t.d)):=by
 obtain⟨U,T⟩:=X.status hd;have y:=fun Y=>zau s.p s.c s.m t.d Y;rw[U]at y ⊢;have D:=fun Y (hY:zaq Y p b m)=>zc1 p b m t.c t.d Y hY T hs;have z:=fun Y=>rs2 (m.get t.d) Y (Mem.ze4 h0.wds.fit _);generalize m.get t.d=x at *;have n:=fun Y=>zau s.p s.c s.m (zda x) Y;have j:=fun e Y (hY:zaa Y q (zan s {t with was:=x}) 222)=>zhr q s {t with was:=x} e Y hY;clear U T X hd;unfold Ad.asked;obtain⟨t2,i,G⟩:∃ t2:Ad,Hid (t2=if zdc x=2 then {t with was:=x,next:=2} else if zdc x≠3 then({t with was:=x}:Ad).fin 5 else if zae s.p s.c s.m (zda x)<0 then({t with was:=x}:Ad).fin 4 else {t with was:=x,who:=zda x,next:=1})/\t2=_:=⟨_,hd' rfl,rfl⟩;rw[<-G];clear G;generalize zdc x=k at *;generalize zda x=A at *;generalize zae s.p s.c s.m A=Z at *;obtain⟨sp,sc,sm⟩:=s;obtain⟨tc,td,tn,tw,L,ta,ti,pk,pa,pb,E,o⟩:=t;dsimp only at y D n j i ⊢;replace y:=hd' y;replace D:=hd' D;replace z:=hd' z;replace n:=hd' n;replace j:=hd' j;have b1:k=2\/((k==2)=false/\(k==3)=false)\/(k=3/\Z<0)\/(k=3/\¬ Z<0):=by
  by_cases h1:k=2
  ·exact .inl h1
  by_cases h2:k=3
  ·by_cases h3:Z<0
   ·exact .inr (.inr (.inl ⟨h2,h3⟩))
   exact .inr (.inr (.inr ⟨h2,h3⟩))
  exact .inr (.inl ⟨by simpa using h1,by simpa using h2⟩)
 have R:=h0;clear h0;have lw:=R.lt;go_in;go_upto_region 0 with fail
 refine zcx 18 (last:= { dst:=none,op:=Op.store 81 (Operand.tmp 23) (Operand.tmp 21),type:=0,pos:=_,after:=_,guard:=none}) (x:=zbb 2) (ld:=15) (v:= .int .u64 x) (ts:= [7,11,20])
  (K0:=fun Y=>At3 q p b w Y (zan ⟨sp,sc,sm⟩ ⟨tc,td,tn,tw,L,ta,ti,pk,pa,pb,E,o⟩) 222 m) (K1:=fun Y=>At3 q p b w Y (zan ⟨sp,sc,sm⟩ ⟨tc,td,tn,tw,L,ta,ti,pk,pa,pb,E,o⟩) 222 (m.load tc td))
  (by kernel_rfl) rfl (by kernel_rfl) (by simp only[List.take,zbb,zfq,zej,nopO,nopC,Nat.reduceBEq,Bool.or_false,Bool.or_true,Bool.false_eq_true,↓reduceIte,Nat.reduceAdd];exact rfl) (by kernel_rfl) (by kernel_rfl) (by kernel_rfl) (by simp[zbb]) (by simp[zbb]) (by simp[zbb]) (by simp[zbb]) (by kernel_rfl) (by simp[zbb]) (by simp[zbb])
  ⟨⟨fun Y Y' h1 h2 h3=>h1.far h2 h3 R.only.size⟩,⟨fun Y Y' h1 h2 h3=>h1.far h2 h3 R.only.size⟩⟩ R.drew ?_
 apply Exists.intro;refine⟨fun B hb hs=>?_,fun h=>(by simp[zbb]at h),fun Q0=>?_,?_⟩;case refine_1=>
  have V:zaa B q (zan ⟨sp,sc,sm⟩ ⟨tc,td,tn,tw,L,ta,ti,pk,pa,pb,E,o⟩) 222:=hb.elim (fun h=>h.row) (fun h=>h.row);have lB:=V.lt;have b6:=V.cell;repeat (go_big_quiet_step (((go_at_call 22;exact zam (y.out _)))))
  exact wpQuiet_nil rfl
 case refine_2=>exact zcz rfl (fun _ _=>by simp[go_sem]) fun Y H hs=>(D.out Y H.wds).mono fun r Y' ⟨h1,h2,h3⟩=>⟨h1,H.load h2 h3,h3.weak fun k hk=>hk ▸ Nat.lt_of_lt_of_le H.ls.2.1 R.only.size⟩
 case refine_3=>
  intro a w4 M X;obtain⟨rfl,b4,F,_⟩:=X;have b0:=F.cell;have zf:=F.free;have N:=F.set 6 (.int .u64 x);simp only[zbb,vput,List.take,List.size_toArray,List.length_cons,List.length_nil,Nat.reduceAdd,Nat.reduceLT,decide_false,Bool.false_eq_true,if_false];clear F R D y;go_upto_region 1 with fail;generalize World.setCell _ ⟨q,6,.none⟩ (.int .u64 x)=Y at *;clear b0 zf;have lY:=N.lt;have b7:=N.cell;rcases b1 with rfl|⟨b2,b3⟩|⟨rfl,J⟩|⟨rfl,J⟩
  ·replace i:=hd' (i.out.trans (if_pos rfl));clear j n;go_wp2_with (first|(go_at_call 30;(with_reducible refine(z.out _).mono ?_);rintro r w1 ⟨rfl,l⟩;have C:=N.below l;have b8:=C.cell;have zf:=C.free));go_returns;exact⟨rfl,by rw[i.out];exact C.set 5 _⟩
  ·replace i:=hd' ((i.out.trans (if_neg (by simpa using b2))).trans (if_pos (by simpa using b3)));clear n;go_wp2_with (first|(go_at_call 30;(with_reducible refine(z.out _).mono ?_);rintro r w1 ⟨rfl,l⟩;have C:=N.below l)|(go_at_call 109;(with_reducible refine(j.out _ _ C.row).mono ?_);rintro r w3 S;obtain rfl:=S.ret));go_returns;exact⟨rfl,by rw[i.out];exact C.turned S⟩
  ·replace i:=hd' (((i.out.trans (if_neg (by decide))).trans (if_neg (by decide))).trans (if_pos J));go_wp2_with (first|(go_at_call 30;(with_reducible refine(z.out _).mono ?_);rintro r w1 ⟨rfl,l⟩;have C:=N.below l;have b9:=C.cell)|(go_at_call 22;(with_reducible refine(n.out _).mono ?_);rintro r w2 ⟨rfl,I⟩;have O:=C.below I)|(go_at_call 109;(with_reducible refine(j.out _ _ O.row).mono ?_);rintro r w3 S;obtain rfl:=S.ret));go_returns;exact⟨rfl,by rw[i.out];exact O.turned S⟩
  replace i:=hd' (((i.out.trans (if_neg (by decide))).trans (if_neg (by decide))).trans (if_neg J));clear j;have b5:0<=Z:=by omega
  go_wp2_with (first|(go_at_call 30;(with_reducible refine(z.out _).mono ?_);rintro r w1 ⟨rfl,l⟩;have C:=N.below l;have ba:=C.cell)|(go_at_call 22;(with_reducible refine(n.out _).mono ?_);rintro r w2 ⟨rfl,I⟩;have O:=C.below I;have bb:=O.cell;have zf:=O.free));go_returns;exact⟨rfl,by rw[i.out];exact(O.set 7 _).set 5 _⟩
theorem zl2(s:Sh)(t:Ad)(m:Mem)(h:t.done=false)(h0:t.next=0):za0 s t m=(t.asked s (m.get (zae s.p s.c s.m t.d)),m.load t.c (zae s.p s.c s.m t.d)):=by
 unfold za0 Ad.asked;simp[h,h0]
theorem zmf(s:Sh)(t:Ad)(m:Mem)(h:t.done=false)(h0:t.next=1):za0 s t m=(if zdc (m.get (zae s.p s.c s.m t.who))=1 then({t with next:=2}:Ad).fin 4 else {t with next:=2},m.load t.c (zae s.p s.c s.m t.who)):=by
 unfold za0;simp[h,h0]
theorem zlx(s:Sh)(t:Ad)(m:Mem)(h:t.done=false)(h0:t.next=2):za0 s t m=(if m.get (zae s.p s.c s.m t.d)=t.was then {t with next:=3} else({t with next:=3}:Ad).fin 4,m.swap t.c (zae s.p s.c s.m t.d) t.was (za8 3 t.c)):=by
 unfold za0;simp[h,h0]
theorem zvq(q p b:Nat)(s:Sh)(t:Ad)(m:Mem)(w:World)(h0:At3 q p b w w (zan s t) 222 m)(S:Fits s m)(hs:m.st<1000000000)(y:t.done=false)(hn:0<=t.next/\t.next<=2)(hd:0<=t.d/\t.d<s.c)(hw:t.next=1->0<=t.who/\t.who<s.c):
  Calls Tryz.prog 223 #[some q,some p] w fun e w'=>e= .returned (.tuple #[])/\At3 q p b w w' (zan s (za0 s t m).1) 222 (za0 s t m).2:=by
 rcases(by omega:t.next=0\/t.next=1\/t.next=2) with b1|U|b2
 ·rw[zl2 s t m y b1];have E:=z3b q p b s t m w h0 S hs hd;obtain⟨G,i⟩:∃ G,G=t.asked s (m.get (zae s.p s.c s.m t.d)):=⟨_,rfl⟩;obtain⟨m2,b0⟩:∃ m2,m2=m.load t.c (zae s.p s.c s.m t.d):=⟨_,rfl⟩;rw[<-i,<- b0]at E;dsimp only;rw[<-i,<- b0];clear i b0 hd hw S hs hn;obtain⟨sp,sc,sm⟩:=s;obtain⟨O,X,tn,Z,z,ta,ti,pk,pa,pb,n,R⟩:=t;dsimp only at y b1;subst y b1;replace E:=hd' E;have b6:=h0.cell;clear h0;go_in;go_wp2_with (go_at_call 226;(with_reducible refine E.out.mono ?_);rintro r w1 ⟨rfl,T⟩);go_returns;exact⟨rfl,T⟩
 ·rw[zmf s t m y U];obtain⟨L,I⟩:=S.status (hw U);have l:=fun Y=>zau s.p s.c s.m t.who Y;rw[L]at l ⊢;have H:=fun Y (hY:zaq Y p b m)=>zc1 p b m t.c t.who Y hY I hs;have V:=fun Y=>rs2 (m.get t.who) Y (Mem.ze4 h0.wds.fit _);generalize m.get t.who=x at *;have j:=fun Y (hY:zaa Y q (zan s {t with next:=2}) 222)=>zhr q s {t with next:=2} 4 Y hY;obtain⟨G,i,D⟩:∃ G:Ad,Hid (G=if zdc x=1 then({t with next:=2}:Ad).fin 4 else {t with next:=2})/\G=_:=⟨_,hd' rfl,rfl⟩;dsimp only;rw[<-D];clear D L I S hd hw hn;generalize zdc x=k at *;generalize zda x=A at *;obtain⟨sp,sc,sm⟩:=s;obtain⟨O,X,tn,Z,z,ta,ti,pk,pa,pb,n,R⟩:=t;dsimp only at l H j i y U;subst y U;replace l:=hd' l;replace H:=hd' H;replace V:=hd' V;replace j:=hd' j;have b7:=h0.cell;go_in;go_upto_region 7 with fail
  refine wrl (x:=zbb 2) (ld:=14) (v:= .int .u64 x) (ts:= [48,52,61])
   (K0:=fun Y=>At3 q p b w Y (zan ⟨sp,sc,sm⟩ ⟨O,X,1,Z,z,ta,ti,pk,pa,pb,n,false⟩) 222 m) (K1:=fun Y=>At3 q p b w Y (zan ⟨sp,sc,sm⟩ ⟨O,X,1,Z,z,ta,ti,pk,pa,pb,n,false⟩) 222 (m.load O z))
   ⟨⟨fun Y Y' h1 h2 h3=>h1.far h2 h3 h0.only.size⟩,⟨fun Y Y' h1 h2 h3=>h1.far h2 h3 h0.only.size⟩⟩ h0.drew ?_
  apply Exists.intro;refine⟨fun B hb hs=>?_,fun h=>(by simp[zbb]at h),?_,?_⟩;case refine_1=>
   have N:zaa B q (zan ⟨sp,sc,sm⟩ ⟨O,X,1,Z,z,ta,ti,pk,pa,pb,n,false⟩) 222:=hb.elim (fun h=>h.row) (fun h=>h.row);have lB:=N.lt;have b8:=N.cell;repeat (go_big_quiet_step ((first|(go_at_call 22;exact zam (l.out _))|(go_at_call 30;exact zam (V.out _)))))
   exact wpQuiet_nil rfl
  case refine_2=>exact zcz rfl (fun _ _=>by simp[go_sem]) fun Y C hs=>(H.out Y C.wds).mono fun r Y' ⟨h1,h2,h3⟩=>⟨h1,C.load h2 h3,h3.weak fun k hk=>hk ▸ Nat.lt_of_lt_of_le C.ls.2.1 h0.only.size⟩
  case refine_3=>
   intro a w4 M S;obtain⟨rfl,b4,T,_⟩:=S;simp only[zbb,vput,List.size_toArray,List.length_cons,List.length_nil,Nat.reduceAdd,Nat.reduceLT,decide_false,Bool.false_eq_true,if_false];have b9:=T.cell;have zf:=T.free;have hB:=T.set 5 (.int .i64 2);clear h0 H l V;rcases(by by_cases h:k=1<;>simp[h]:k=1\/(k≠1/\(k==1)=false)) with rfl|⟨hk,hk2⟩
   ·replace i:=hd' (i.out.trans (if_pos rfl));go_wp2_with (go_at_call 109;(with_reducible refine(j.out _ hB.row).mono ?_);rintro r w3 hT;obtain rfl:=hT.ret);go_returns;exact⟨rfl,by rw[i.out];exact hB.turned hT⟩
   replace i:=hd' (i.out.trans (if_neg hk));clear j;go_wp2_with fail;go_returns;exact⟨rfl,by rw[i.out];exact hB⟩
 rw[zlx s t m y b2];obtain⟨L,I⟩:=S.status hd;have l:=fun Y=>zau s.p s.c s.m t.d Y;rw[L]at l ⊢;have J:=fun Y=>zgn 3 t.c Y;have F:=fun Y (hY:zaq Y p b m)=>zff p b m t.c t.d t.was (za8 3 t.c) Y hY I (zdz _ _) hs;have j:=fun Y (hY:zaa Y q (zan s {t with next:=3}) 222)=>zhr q s {t with next:=3} 4 Y hY;obtain⟨G,i,D⟩:∃ G:Ad,Hid (G=if m.get t.d=t.was then {t with next:=3} else({t with next:=3}:Ad).fin 4)/\G=_:=⟨_,hd' rfl,rfl⟩;dsimp only;rw[<-D];obtain⟨sb,b3⟩:∃ sb,sb=decide (m.get t.d=t.was):=⟨_,rfl⟩;rw[<-b3]at F;have o:(sb=true/\G= {t with next:=3})\/(sb=false/\G=({t with next:=3}:Ad).fin 4):=by rw[b3,i.out];by_cases h:m.get t.d=t.was<;>simp[h]
 clear D L I S hd hw hn i b3;obtain⟨sp,sc,sm⟩:=s;obtain⟨O,X,tn,Z,z,ta,ti,pk,pa,pb,n,R⟩:=t;dsimp only at l J F j o y b2 ⊢;subst y b2;replace l:=hd' l;replace J:=hd' J;replace F:=hd' F;replace j:=hd' j;replace o:=hd' o;have b5:=h0.cell;have zf:=h0.free;go_in;go_upto_region 2 with fail;have hX:=h0.set 5 (.int .i64 3);generalize World.setCell _ ⟨q,5,.none⟩ (.int .i64 3)=W at *;clear h0 b5 zf
 refine wrl (x:=zbb 2) (ld:=23) (v:= .bool sb) (ts:= [13,17,26,30,35])
  (K0:=fun Y=>At3 q p b w Y (zan ⟨sp,sc,sm⟩ ⟨O,X,3,Z,z,ta,ti,pk,pa,pb,n,false⟩) 222 m) (K1:=fun Y=>At3 q p b w Y (zan ⟨sp,sc,sm⟩ ⟨O,X,3,Z,z,ta,ti,pk,pa,pb,n,false⟩) 222 (m.swap O X Z (za8 3 O)))
  ⟨⟨fun Y Y' h1 h2 h3=>h1.far h2 h3 hX.only.size⟩,⟨fun Y Y' h1 h2 h3=>h1.far h2 h3 hX.only.size⟩⟩ hX.drew ?_
 apply Exists.intro;refine⟨fun B hb hs=>?_,fun h=>(by simp[zbb]at h),?_,?_⟩;case refine_1=>
  have N:zaa B q (zan ⟨sp,sc,sm⟩ ⟨O,X,3,Z,z,ta,ti,pk,pa,pb,n,false⟩) 222:=hb.elim (fun h=>h.row) (fun h=>h.row);have lB:=N.lt;have ba:=N.cell;repeat (go_big_quiet_step ((first|(go_at_call 22;exact zam (l.out _))|(go_at_call 59;exact zam (J.out _)))))
  exact wpQuiet_nil rfl
 case refine_2=>exact zcz rfl (fun _ _=>by simp[go_sem]) fun Y C hs=>(F.out Y C.wds).mono fun r Y' ⟨h1,h2,h3⟩=>⟨h1,C.access h2 h3,h3.weak fun k hk=>hk.elim (fun e=>e ▸ Nat.lt_of_lt_of_le C.ls.2.1 hX.only.size) (fun e=>e ▸ Nat.lt_of_lt_of_le C.ls.2.2 hX.only.size)⟩
 case refine_3=>
  intro a w4 M S;obtain⟨rfl,b4,T,_⟩:=S;simp only[zbb,vput,List.size_toArray,List.length_cons,List.length_nil,Nat.reduceAdd,Nat.reduceLT,decide_false,Bool.false_eq_true,if_false];clear hX F l J;rcases o.out with⟨rfl,i⟩|⟨rfl,i⟩
  ·replace i:=hd' i;clear o j;go_wp2_with fail;go_returns;exact⟨rfl,by rw[i.out];exact T⟩
  replace i:=hd' i;clear o;go_wp2_with (go_at_call 109;(with_reducible refine(j.out _ T.row).mono ?_);rintro r w3 hT;obtain rfl:=hT.ret);go_returns;exact⟨rfl,by rw[i.out];exact T.turned hT⟩
end Go.Proofs.YtedcnffebdpmmaaGreat
