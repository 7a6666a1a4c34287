/- Texts bound together: AdA AdB AdC AdD AdE AdF AdG AdH AdI. -/
import Derived.Test.YtkbddndcegpllaaGreatBt18

import Derived.Test.YtkbddndcegpllaaGreatBt20

set_option linter.all false
set_option maxHeartbeats 4000000
set_option maxRecDepth 100000
namespace Go.Proofs.YtkbddndcegpllaaGreat

open Go.RowKit

attribute [local go_sem ↓] Go.wp_at_zero Go.wp_at_succ

def zan (s:Sh) (t:Ad):Array Value:= #[s.p,s.c,s.m,t.c,t.d,t.next,.int .u64 t.was,t.who,t.at',t.i,t.pk,t.pa,t.pb,t.err,t.done]
attribute [local go_sem] zan

theorem zxq(q:Nat)(cs:Array Value)(v:Bool)(w:World)(h:zaa w q cs 282)(b:cs[14]?=some (.bool v)):Calls Tryz.prog 292 #[some q] w fun e w'=>e= .returned (.bool v)/\w'=w:=by
 have c:=(h.cell 14).trans b;clear h b;go_in;go_wp2_with fail;go_returns;exact⟨rfl,rfl⟩
theorem zhr(q:Nat)(s:Sh)(t:Ad)(x:Int)(w:World)(j:zaa w q (zan s t) 282):
  Calls Tryz.prog 176 #[some q,x] w fun e w'=>Turned q w w' e (zan s (t.fin x)) 282:=by
 have b:=At1.start j;clear j;obtain⟨sp,o,p⟩:=s;obtain⟨y,z,C,D,n,r,B,pk,pa,pb,l,i⟩:=t;have m:=b.cell;have E:=b.free;go_in;go_wp2_with fail;go_returns;exact((b.set 13 _).set 14 _).fin rfl
theorem z0i(q:Nat)(s:Sh)(t:Ad)(w:World)(b:zaa w q (zan s t) 282):
  Calls Tryz.prog 305 #[some q] w fun e w'=>e= .returned (.int .i64 t.err)/\w'=w:=by
 have i:=b.cell;clear b;go_in;go_wp2_with fail;go_returns;exact⟨rfl,rfl⟩
theorem zp2(s:Sh)(t:Ad)(again next:Int):(t.at'+1=s.p/\next=9/\s.m=0/\t.turn s again next= {t with at':=0,i:=0,next:=10})\/(t.at'+1=s.p/\next=9/\(s.m==0)=false/\t.turn s again next= {t with at':=0,i:=0,next:=9})\/(t.at'+1=s.p/\(next==9)=false/\t.turn s again next= {t with at':=0,i:=0,next:=next})
  \/((t.at'+1==s.p)=false/\again=9/\s.m=0/\t.turn s again next= {t with at':=t.at'+1,next:=10})\/((t.at'+1==s.p)=false/\again=9/\(s.m==0)=false/\t.turn s again next= {t with at':=t.at'+1,next:=9})\/((t.at'+1==s.p)=false/\(again==9)=false/\t.turn s again next= {t with at':=t.at'+1,next:=again}):=by
 by_cases b:t.at'+1=s.p<;>by_cases f:next=9<;>by_cases j:s.m=0<;>by_cases l:again=9<;>simp[Ad.turn,b,f,j,l]
theorem zek(q:Nat)(s:Sh)(t:Ad)(again next:Int)(w:World)(y:zaa w q (zan s t) 282)(F:0<=t.at'/\t.at'<64):
  Calls Tryz.prog 300 #[some q,again,next] w fun e w'=>Turned q w w' e (zan s (t.turn s again next)) 282:=by
 have j:=At1.start y;clear y;have n:=zp2 s t again next
 have J:=wrp (t.at'+1);obtain⟨z,b⟩:∃ z,z=t.turn s again next:=⟨_,rfl⟩
 rw[<-b]at n ⊢;clear b F;obtain⟨sp,M,N⟩:=s;obtain⟨O,R,T,V,I,H,S,pk,pa,pb,B,p⟩:=t;dsimp only at n J;have l:=j.cell;have C:=j.free;go_in;go_upto_region 2 with fail;have m:=(j.set 8 (.int .i64 (H+1))).set 5 (.int .i64 again);generalize World.setCell _ ⟨q,5,.none⟩ (.int .i64 again)=U at *;clear l j C;have D:=m.cell;have L:=m.lt;refine zaj (by kernel_rfl) (by kernel_rfl) ?_;repeat (go_big_quiet_step (fail))
 refine wpQuiet_nil ?_;rintro _ ⟨r,rfl⟩;have i:=m.below r.below;generalize r.w=X at *;have E:=i.cell;have C:=i.free;rcases n with⟨hs,rfl,o,b⟩|⟨hs,rfl,o,b⟩|⟨hs,G,b⟩|⟨hs,rfl,o,b⟩|⟨hs,rfl,o,b⟩|⟨hs,G,b⟩;all_goals
  replace b:=hd' b;try subst hs
  go_wp2_with fail;go_returns
 ·exact((((i.set 8 _).set 9 _).set 5 _).set 5 _).fin (by rw[b.out];rfl)
 ·exact(((i.set 8 _).set 9 _).set 5 _).fin (by rw[b.out];rfl)
 ·exact(((i.set 8 _).set 9 _).set 5 _).fin (by rw[b.out];rfl)
 ·exact(i.set 5 _).fin (by rw[b.out];rfl)
 ·exact i.fin (by rw[b.out];rfl)
 exact i.fin (by rw[b.out];rfl)
theorem zo4(q:Nat)(s:Sh)(t:Ad)(w:World)(I:zaa w q (zan s t) 282)(G:0<=t.at'/\t.at'<64)(hi:0<=t.i/\t.i<16):
  Calls Tryz.prog 294 #[some q] w fun e w'=>Turned q w w' e (zan s (t.slot s)) 282:=by
 have o:=At1.start I;clear I;unfold Ad.slot;have l:=fun W=>slots_any t.pa W;have m:=fun Y (R:zaa Y q (zan s {t with i:=0,next:=11}) 282)=>zek q s {t with i:=0,next:=11} 10 13 Y R G;have L:=wrp (t.i+1);have j:t.i+1=zah t.pa\/(¬ t.i+1=zah t.pa/\(t.i+1==zah t.pa)=false):=by
  by_cases h:t.i+1=zah t.pa
  ·exact .inl h
  exact .inr ⟨h,by simpa using h⟩
 obtain⟨B,b,n⟩:∃ B:Ad,Hid (B=if t.i+1=zah t.pa then({t with i:=0,next:=11}:Ad).turn s 10 13 else {t with i:=t.i+1,next:=11})/\B=_:=⟨_,hd' rfl,rfl⟩;rw[<-n];clear n;generalize zah t.pa=sv at *;obtain⟨sp,Z,sm⟩:=s;obtain⟨tc,td,tn,tw,S,ta,T,pk,pa,pb,J,C⟩:=t;dsimp only at l m j b L;clear G hi;replace l:=hd' l;replace m:=hd' m;have y:=o.cell;have M:=o.free;go_in;go_upto_region 2 with fail;have z:=(o.set 9 (.int .i64 (T+1))).set 5 (.int .i64 11);generalize World.setCell _ ⟨q,5,.none⟩ (.int .i64 11)=U at *;clear y o M;have N:=z.cell;have V:=z.lt;refine zaj (by kernel_rfl) (by kernel_rfl) ?_;repeat (go_big_quiet_step (((go_at_call 65;exact zdx ((l.out _).mono fun _ _ h=>⟨h.1,h.2⟩)))))
 refine wpQuiet_nil ?_;rintro _ ⟨D,rfl⟩;have p:=z.below D.below;generalize D.w=X at *;rcases j with j|⟨H,j⟩
 ·subst j;replace b:=hd' (b.out.trans (if_pos rfl));have O:=p.cell;have M:=p.free;have E:=p.set 9 (.int .i64 0);go_wp2_with (go_at_call 300;(with_reducible refine(m.out _ E.row).mono ?_);rintro r L F;obtain rfl:=F.ret);go_returns;exact(E.turned F).fin (by rw[b.out])
 replace b:=hd' (b.out.trans (if_neg H));clear H;go_wp2_with fail;go_returns;exact p.fin (by rw[b.out];rfl)
theorem zr3(q:Nat)(s:Sh)(t:Ad)(k a b:Int)(ok:Bool)(w:World)(r:zaa w q (zan s t) 282):
  Calls Tryz.prog 301 #[some q,.agg #[k,a,b],ok] w fun e w'=>e= .returned (.bool (ok&&(k==1&&a==t.d)))/\Below w.heap.size w w':=by
 have n:=r;clear r;obtain⟨sp,I,J⟩:=s;obtain⟨M,N,R,S,D,L,O,pk,pa,pb,y,o⟩:=t;dsimp only;have i:=(Below.refl w.heap.size w).alloc lr (.cells #[k,a,b] 128);have t0:=heap_alloc_new w (.cells #[k,a,b] 128);have G:=n.lt;go_in;go_upto_region 1 with fail;generalize w.alloc (.cells #[k,a,b] 128)=W at *;have p:=n.below i;obtain⟨H,E,m⟩:=hidv w.heap.size;rw[<-m]at t0 ⊢;have F:H<W.heap.size:=(Array.getElem?_eq_some_iff.1 t0).1;have z:=zac t0;have B:=p.cell;have C:=p.lt;clear m t0 n;rcases(by cases ok<;>simp:ok=false\/ok=true) with rfl|rfl;case inr=>
  rcases(by by_cases h:k=1<;>simp[h]:k=1\/(k==1)=false) with rfl|hk;all_goals
   refine zaj (by kernel_rfl) (by kernel_rfl) ?_;repeat (go_big_quiet_step (fail))
   refine wpQuiet_nil ?_;rintro _ ⟨l,rfl⟩;have j:=l.below;generalize l.w=X at *;go_wp2_with fail;go_returns
  ·exact⟨by simp,zab i j⟩
  exact⟨by simp[hk],zab i j⟩
 case inl=>
  refine zaj (by kernel_rfl) (by kernel_rfl) ?_;repeat (go_big_quiet_step (fail))
  refine wpQuiet_nil ?_;rintro _ ⟨l,rfl⟩;have j:=l.below;generalize l.w=X at *;go_wp2_with fail;go_returns;exact⟨by simp,zab i j⟩
theorem zim(q p b:Nat)(s:Sh)(t:Ad)(m:Mem)(a:Int)(w:World)(J:At3 q p b w w (zan s t) 282 m)(hf:Fits s m)(hs:m.st<1000000000)(ha:0<=a/\a<s.p):
  Calls Tryz.prog 299 #[some q,some p,a] w fun e w'=>e= .returned (.tuple #[.agg #[.int .i64 (pgK s a (m.get (zak s.p s.c s.m a))),.int .i64 (pgP s a (m.get (zak s.p s.c s.m a)) 0),.int .i64 (pgP s a (m.get (zak s.p s.c s.m a)) 1)],.bool (zal s.p s.c s.m a (m.get (zak s.p s.c s.m a)))])/\At3 q p b w w' (zan s t) 282 (m.load t.c (zak s.p s.c s.m a)):=by
 obtain⟨T,S⟩:=hf.page ha;have j:=fun Y=>planPage_any s.p s.c s.m a Y;rw[T]at j ⊢;have C:=fun Y (hY:zaq Y p b m)=>zc1 p b m t.c (s.c+a) Y hY S hs;have D:=fun Y=>zh3 s a (m.get (s.c+a)) Y (Mem.ze4 J.wds.fit _);clear T S hf ha;generalize s.c+a=Z at *;generalize m.get Z=x at *;generalize zal s.p s.c s.m a x=B at *;generalize pgK s a x=e0 at *;generalize pgP s a x 0=e1 at *;generalize pgP s a x 1=e2 at *;obtain⟨sp,sc,sm⟩:=s;obtain⟨tc,td,tn,tw,I,ta,ti,pk,pa,pb,n,l⟩:=t;dsimp only at j C D ⊢;replace j:=hd' j;replace C:=hd' C;replace D:=hd' D;have t0:=heap_alloc_new w (.cells #[.int .i64 0,.int .i64 0,.int .i64 0] 128);have L:=J.alloc (.cells #[.int .i64 0,.int .i64 0,.int .i64 0] 128);go_in;go_upto_region 1 with fail;generalize w.alloc (.cells #[.int .i64 0,.int .i64 0,.int .i64 0] 128)=X at *;obtain⟨H,hH,O⟩:=hidv w.heap.size;rw[<-O]at t0 ⊢;have G:w.heap.size<=H:=by omega
 clear O;have b4:H≠q:=fun e=>by have:=J.lt;omega
 have b0:H≠p:=fun e=>by have:=J.wds.ltp;omega
 have b3:H≠b:=fun e=>by have:=J.wds.ltb;omega
 have F:zaa X H #[.int .i64 0,.int .i64 0,.int .i64 0] 128:=t0;clear t0;have lX:=L.lt
 refine ziv 20 (p:= { dst:=none,op:=Op.store 128 (Operand.tmp 6) (Operand.tmp 26),type:=0,pos:=_,after:=_,guard:=none}) (q:= { dst:=some 7,op:=Op.assign (Operand.tmp 27),type:=_,pos:=_,after:=_,guard:=none}) (x:=zbb 4) (ld:=16) (v:= .int .u64 x) (ts:= [13,17,23])
  (K0:=fun Y=>At3 q p b w Y (zan ⟨sp,sc,sm⟩ ⟨tc,td,tn,tw,I,ta,ti,pk,pa,pb,n,l⟩) 282 m/\zaa Y H #[.int .i64 0,.int .i64 0,.int .i64 0] 128) (K1:=fun Y=>At3 q p b w Y (zan ⟨sp,sc,sm⟩ ⟨tc,td,tn,tw,I,ta,ti,pk,pa,pb,n,l⟩) 282 (m.load tc Z)/\zaa Y H #[.int .i64 0,.int .i64 0,.int .i64 0] 128)
  (by kernel_rfl) rfl (by kernel_rfl) (by kernel_rfl) (by simp only[List.take,zbb,zfq,zej,nopO,nopC,Nat.reduceBEq,Bool.or_false,Bool.or_true,Bool.false_eq_true,↓reduceIte,Nat.reduceAdd];exact rfl) (by kernel_rfl) (by kernel_rfl) (by kernel_rfl) (by simp[zbb]) (by simp[zbb]) (by simp[zbb]) (by simp[zbb]) (by kernel_rfl) (by simp[zbb]) (by simp[zbb])
  ⟨⟨fun Y Y' E N o=>⟨E.1.far N o L.only.size,E.2.only o (by have:=F.lt;omega)⟩⟩,⟨fun Y Y' E N o=>⟨E.1.far N o L.only.size,E.2.only o (by have:=F.lt;omega)⟩⟩⟩ ⟨L.drew,F.drew⟩ ?_
 apply Exists.intro;refine⟨fun B hb hs=>?_,fun h=>(by simp[zbb]at h),fun Q0=>?_,?_⟩;case refine_1=>
  have U:zaa B q (zan ⟨sp,sc,sm⟩ ⟨tc,td,tn,tw,I,ta,ti,pk,pa,pb,n,l⟩) 282:=hb.elim (fun h=>h.1.row) (fun h=>h.1.row);have lB:=U.lt;have b2:=U.cell;repeat (go_big_quiet_step ((first|(go_at_call 119;exact zam (j.out _))|(go_at_call 118;exact zam (D.out _)))))
  exact wpQuiet_nil rfl
 case refine_2=>exact zcz rfl (fun _ _=>by simp[go_sem]) fun Y y hs=>(C.out Y y.1.wds).mono fun r Y' ⟨E,N,o⟩=>⟨E,⟨y.1.load N o,y.2.only o b0⟩,o.weak fun k hk=>hk ▸ Nat.lt_of_lt_of_le y.1.ls.2.1 L.only.size⟩
 case refine_3=>intro a w4 M hf;obtain⟨rfl,b1,⟨R,z⟩,_⟩:=hf;obtain⟨z0,z1,z2⟩:=ci3 0 0 0 z.cell;have zf:∀ i,w4.frozen? ⟨H,i,.none⟩=false:=fun i=>zax z i;have hB:=((R.new G 0 (.int .i64 e0)).new G 1 (.int .i64 e1)).new G 2 (.int .i64 e2);have hR:=((z.set 0 (.int .i64 e0)).set 1 (.int .i64 e1)).set 2 (.int .i64 e2);simp only[zbb,vput,List.take,List.size_toArray,List.length_cons,List.length_nil,Nat.reduceAdd,Nat.reduceLT,decide_false,Bool.false_eq_true,if_false];clear R z L J;go_wp2;generalize World.setCell _ ⟨H,2,.none⟩ (.int .i64 e2)=V at *;clear z0 z1 z2 zf;obtain⟨z0,z1,z2⟩:=ci3 e0 e1 e2 hR.cell;refine bodyPost_ret (by simp[results,Tryz.results299,go_sem,z0,z1,z2];try rfl) rfl ?_;exact⟨rfl,hB⟩
theorem rs2(x:Int)(w:World)(b:0<=x/\x<18446744073709551616):
  Calls Tryz.prog 97 #[.int .u64 x] w fun e w'=>e= .returned (.tuple #[.int .i64 (zdc x),.int .i64 (zda x)])/\Below w.heap.size w w':=by
 refine(zfz x w b.1 b.2).mono ?_;rintro e w' ⟨hb,rfl⟩;refine⟨?_,hb⟩;have h:(za8 (zbx x) (za2 x 0)==x)=zjc x:=rfl;rw[h];unfold zdc zda;cases zjc x<;>rfl
theorem z2a(s:Sh)(c d:Int)(w:World):
  Calls Tryz.prog 152 #[.agg #[s.p,s.c,s.m],c,d] w fun e w'=>Born w w' e (zan s (zix s c d)) 282:=by
 have q:=fun W=>zau s.p s.c s.m c W;have z:=fun W=>zau s.p s.c s.m d W;have j:=fun k Y (hY:zaa Y k (zan s ⟨c,d,0,0,0,0,0,0,0,0,0,false⟩) 282)=>zhr k s ⟨c,d,0,0,0,0,0,0,0,0,0,false⟩ 1 Y hY;obtain⟨t2,i,L⟩:∃ t2:Ad,Hid (t2=if zae s.p s.c s.m c<0\/zae s.p s.c s.m d<0\/c=d then(⟨c,d,0,0,0,0,0,0,0,0,0,false⟩:Ad).fin 1 else⟨c,d,0,0,0,0,0,0,0,0,0,false⟩)/\t2=zix s c d:=⟨_,hd' rfl,rfl⟩;rw[<-L];clear L;generalize zae s.p s.c s.m c=U at *;generalize zae s.p s.c s.m d=X at *;obtain⟨sp,E,F⟩:=s;dsimp only at q z;replace q:=hd' q;replace z:=hd' z;replace j:=hd' j;have G:=(Below.refl w.heap.size w).alloc lr (.cells #[sp,E,F] 23);have t0:=heap_alloc_new w (.cells #[sp,E,F] 23);go_in;go_upto_region 1 with fail;generalize w.alloc (.cells #[sp,E,F] 23)=W at *;obtain⟨H,hH,S⟩:=hidv w.heap.size;rw[<-S]at t0 ⊢;have I:zaa W H #[sp,E,F] 23:=t0;have lH:H<W.heap.size:=I.lt;obtain⟨c0,c1,c2⟩:=ci3 sp E F I.cell;clear t0 S;have b0:=hd' G.size;go_upto_region 2 with fail;have N:zaa (W.alloc (.cells (zan ⟨sp,E,F⟩ ⟨c,d,0,0,0,0,0,0,0,0,0,false⟩) 282)) W.heap.size (zan ⟨sp,E,F⟩ ⟨c,d,0,0,0,0,0,0,0,0,0,false⟩) 282:=heap_alloc_new _ _;have C:=G.trans ((Below.refl w.heap.size W).alloc G.size (.cells (zan ⟨sp,E,F⟩ ⟨c,d,0,0,0,0,0,0,0,0,0,false⟩) 282));have J:=I.alloc (.cells (zan ⟨sp,E,F⟩ ⟨c,d,0,0,0,0,0,0,0,0,0,false⟩) 282);dsimp only[zan]at N C J j;generalize W.alloc (.cells #[sp,E,F,c,d,.int .i64 0,.int .u64 0,.int .i64 0,.int .i64 0,.int .i64 0,.int .i64 0,.int .i64 0,.int .i64 0,.int .i64 0,.bool false] 282)=V at *;obtain⟨K,hK,M⟩:=hidv W.heap.size;rw[<-M]at N ⊢;have o:w.heap.size<=K:=M ▸ b0.out;have b2:H<V.heap.size:=J.lt;have b3:K<V.heap.size:=N.lt;clear M c0 c1 c2 lH I G;obtain⟨c0,c1,c2⟩:=ci3 sp E F J.cell;clear J;have b1:U<0\/(0<=U/\X<0)\/(0<=U/\0<=X/\c=d)\/(0<=U/\0<=X/\(c==d)=false):=by
  by_cases O:U<0
  ·exact .inl O
  by_cases R:X<0
  ·exact .inr (.inl ⟨by omega,R⟩)
  by_cases h:c=d
  ·exact .inr (.inr (.inl ⟨by omega,by omega,h⟩))
  exact .inr (.inr (.inr ⟨by omega,by omega,by simpa using h⟩))
 rcases b1 with O|⟨O,R⟩|⟨O,R,rfl⟩|⟨O,R,h3⟩;case inr.inr.inr=>replace i:=hd' (i.out.trans (if_neg (by rintro(h|h|h)<;>first|omega|(rw[h]at h3;simp at h3))));clear j;go_wp2_with (first|(go_at_call 57;(with_reducible refine(q.out _).mono ?_);rintro r w1 ⟨rfl,b⟩;have Z:=zai b _ _ _ c0;have d1:=zai b _ _ _ c1;have d2:=zai b _ _ _ c2;have y:=N.below b)|(go_at_call 57;(with_reducible refine(z.out _).mono ?_);rintro r w2 ⟨rfl,l⟩;have D:=y.below l));go_returns;exact⟨K,rfl,o,by rw[i.out];exact D,zab (zab C b) l⟩
 case inl=>replace i:=hd' (i.out.trans (if_pos (.inl O)));go_wp2_with (first|(go_at_call 57;(with_reducible refine(q.out _).mono ?_);rintro r w1 ⟨rfl,b⟩;have Z:=zai b _ _ _ c0;have d1:=zai b _ _ _ c1;have d2:=zai b _ _ _ c2;have y:=N.below b)|(go_at_call 176;(with_reducible refine(j.out _ _ y).mono ?_);rintro r w3 B;obtain rfl:=B.ret));go_returns;have n:=zab C b;exact⟨K,rfl,o,by rw[i.out];exact B.row,n.trans (B.only.below n.size fun k T=>by rw[T];exact o)⟩
 case inr.inl=>replace i:=hd' (i.out.trans (if_pos (.inr (.inl R))));go_wp2_with (first|(go_at_call 57;(with_reducible refine(q.out _).mono ?_);rintro r w1 ⟨rfl,b⟩;have Z:=zai b _ _ _ c0;have d1:=zai b _ _ _ c1;have d2:=zai b _ _ _ c2;have y:=N.below b)|(go_at_call 57;(with_reducible refine(z.out _).mono ?_);rintro r w2 ⟨rfl,l⟩;have D:=y.below l)|(go_at_call 176;(with_reducible refine(j.out _ _ D).mono ?_);rintro r w3 B;obtain rfl:=B.ret));go_returns;have n:=zab (zab C b) l;exact⟨K,rfl,o,by rw[i.out];exact B.row,n.trans (B.only.below n.size fun k T=>by rw[T];exact o)⟩
 case inr.inr.inl=>replace i:=hd' (i.out.trans (if_pos (.inr (.inr rfl))));go_wp2_with (first|(go_at_call 57;(with_reducible refine(q.out _).mono ?_);rintro r w1 ⟨rfl,b⟩;have Z:=zai b _ _ _ c0;have d1:=zai b _ _ _ c1;have d2:=zai b _ _ _ c2;have y:=N.below b)|(go_at_call 57;(with_reducible refine(z.out _).mono ?_);rintro r w2 ⟨rfl,l⟩;have D:=y.below l)|(go_at_call 176;(with_reducible refine(j.out _ _ D).mono ?_);rintro r w3 B;obtain rfl:=B.ret));go_returns;have n:=zab (zab C b) l;exact⟨K,rfl,o,by rw[i.out];exact B.row,n.trans (B.only.below n.size fun k T=>by rw[T];exact o)⟩
def Ad.asked (s:Sh) (t:Ad) (x:Int):Ad:=
 if zdc x=2 then { t with was:=x,next:=2 }
 else if zdc x≠3 then ({ t with was:=x }:Ad).fin 5
 else if zae s.p s.c s.m (zda x) < 0 then ({ t with was:=x }:Ad).fin 4
 else { t with was:=x,who:=zda x,next:=1 }
theorem z3b(q p b:Nat)(s:Sh)(t:Ad)(m:Mem)(w:World)(h0:At3 q p b w w (zan s t) 282 m)(hf:Fits s m)(hs:m.st<1000000000)(hd:0<=t.d/\t.d<s.c):
  Calls Tryz.prog 298 #[some q,some p] w fun e w'=>e= .returned (.tuple #[])/\At3 q p b w w' (zan s (t.asked s (m.get (zae s.p s.c s.m t.d)))) 282 (m.load t.c (zae s.p s.c s.m t.d)):=by
 obtain⟨Z,X⟩:=hf.status hd;have y:=fun Y=>zau s.p s.c s.m t.d Y;rw[Z]at y ⊢;have D:=fun Y (hY:zaq Y p b m)=>zc1 p b m t.c t.d Y hY X hs;have z:=fun Y=>rs2 (m.get t.d) Y (Mem.ze4 h0.wds.fit _);generalize m.get t.d=x at *;have n:=fun Y=>zau s.p s.c s.m (zda x) Y;have j:=fun e Y (hY:zaa Y q (zan s {t with was:=x}) 282)=>zhr q s {t with was:=x} e Y hY;clear Z X hf hd;unfold Ad.asked;obtain⟨t2,i,J⟩:∃ t2:Ad,Hid (t2=if zdc x=2 then {t with was:=x,next:=2} else if zdc x≠3 then({t with was:=x}:Ad).fin 5 else if zae s.p s.c s.m (zda x)<0 then({t with was:=x}:Ad).fin 4 else {t with was:=x,who:=zda x,next:=1})/\t2=_:=⟨_,hd' rfl,rfl⟩;rw[<-J];clear J;generalize zdc x=k at *;generalize zda x=A at *;generalize zae s.p s.c s.m A=sx at *;obtain⟨sp,sc,sm⟩:=s;obtain⟨tc,td,tn,tw,R,ta,ti,pk,pa,pb,E,o⟩:=t;dsimp only at y D n j i ⊢;replace y:=hd' y;replace D:=hd' D;replace z:=hd' z;replace n:=hd' n;replace j:=hd' j;have b2:k=2\/((k==2)=false/\(k==3)=false)\/(k=3/\sx<0)\/(k=3/\¬ sx<0):=by
  by_cases I:k=2
  ·exact .inl I
  by_cases F:k=3
  ·by_cases G:sx<0
   ·exact .inr (.inr (.inl ⟨F,G⟩))
   exact .inr (.inr (.inr ⟨F,G⟩))
  exact .inr (.inl ⟨by simpa using I,by simpa using F⟩)
 have U:=h0;clear h0;have lw:=U.lt;go_in;go_upto_region 0 with fail
 refine zcx 18 (last:= { dst:=none,op:=Op.store 137 (Operand.tmp 23) (Operand.tmp 21),type:=0,pos:=_,after:=_,guard:=none}) (x:=zbb 2) (ld:=15) (v:= .int .u64 x) (ts:= [7,11,20])
  (K0:=fun Y=>At3 q p b w Y (zan ⟨sp,sc,sm⟩ ⟨tc,td,tn,tw,R,ta,ti,pk,pa,pb,E,o⟩) 282 m) (K1:=fun Y=>At3 q p b w Y (zan ⟨sp,sc,sm⟩ ⟨tc,td,tn,tw,R,ta,ti,pk,pa,pb,E,o⟩) 282 (m.load tc td))
  (by kernel_rfl) rfl (by kernel_rfl) (by simp only[List.take,zbb,zfq,zej,nopO,nopC,Nat.reduceBEq,Bool.or_false,Bool.or_true,Bool.false_eq_true,↓reduceIte,Nat.reduceAdd];exact rfl) (by kernel_rfl) (by kernel_rfl) (by kernel_rfl) (by simp[zbb]) (by simp[zbb]) (by simp[zbb]) (by simp[zbb]) (by kernel_rfl) (by simp[zbb]) (by simp[zbb])
  ⟨⟨fun Y Y' I F G=>I.far F G U.only.size⟩,⟨fun Y Y' I F G=>I.far F G U.only.size⟩⟩ U.drew ?_
 apply Exists.intro;refine⟨fun B hb hs=>?_,fun h=>(by simp[zbb]at h),fun Q0=>?_,?_⟩;case refine_1=>
  have b0:zaa B q (zan ⟨sp,sc,sm⟩ ⟨tc,td,tn,tw,R,ta,ti,pk,pa,pb,E,o⟩) 282:=hb.elim (fun h=>h.row) (fun h=>h.row);have lB:=b0.lt;have b7:=b0.cell;repeat (go_big_quiet_step (((go_at_call 57;exact zam (y.out _)))))
  exact wpQuiet_nil rfl
 case refine_2=>exact zcz rfl (fun _ _=>by simp[go_sem]) fun Y L hs=>(D.out Y L.wds).mono fun r Y' ⟨I,F,G⟩=>⟨I,L.load F G,G.weak fun k hk=>hk ▸ Nat.lt_of_lt_of_le L.ls.2.1 U.only.size⟩
 case refine_3=>
  intro a w4 M hf;obtain⟨rfl,b5,H,_⟩:=hf;have b1:=H.cell;have zf:=H.free;have S:=H.set 6 (.int .u64 x);simp only[zbb,vput,List.take,List.size_toArray,List.length_cons,List.length_nil,Nat.reduceAdd,Nat.reduceLT,decide_false,Bool.false_eq_true,if_false];clear H U D y;go_upto_region 1 with fail;generalize World.setCell _ ⟨q,6,.none⟩ (.int .u64 x)=Y at *;clear b1 zf;have lY:=S.lt;have b8:=S.cell;rcases b2 with rfl|⟨b3,b4⟩|⟨rfl,O⟩|⟨rfl,O⟩
  ·replace i:=hd' (i.out.trans (if_pos rfl));clear j n;go_wp2_with (first|(go_at_call 97;(with_reducible refine(z.out _).mono ?_);rintro r w1 ⟨rfl,l⟩;have C:=S.below l;have b9:=C.cell;have zf:=C.free));go_returns;exact⟨rfl,by rw[i.out];exact C.set 5 _⟩
  ·replace i:=hd' ((i.out.trans (if_neg (by simpa using b3))).trans (if_pos (by simpa using b4)));clear n;go_wp2_with (first|(go_at_call 97;(with_reducible refine(z.out _).mono ?_);rintro r w1 ⟨rfl,l⟩;have C:=S.below l)|(go_at_call 176;(with_reducible refine(j.out _ _ C.row).mono ?_);rintro r w3 V;obtain rfl:=V.ret));go_returns;exact⟨rfl,by rw[i.out];exact C.turned V⟩
  ·replace i:=hd' (((i.out.trans (if_neg (by decide))).trans (if_neg (by decide))).trans (if_pos O));go_wp2_with (first|(go_at_call 97;(with_reducible refine(z.out _).mono ?_);rintro r w1 ⟨rfl,l⟩;have C:=S.below l;have ba:=C.cell)|(go_at_call 57;(with_reducible refine(n.out _).mono ?_);rintro r w2 ⟨rfl,N⟩;have T:=C.below N)|(go_at_call 176;(with_reducible refine(j.out _ _ T.row).mono ?_);rintro r w3 V;obtain rfl:=V.ret));go_returns;exact⟨rfl,by rw[i.out];exact T.turned V⟩
  replace i:=hd' (((i.out.trans (if_neg (by decide))).trans (if_neg (by decide))).trans (if_neg O));clear j;have b6:0<=sx:=by omega
  go_wp2_with (first|(go_at_call 97;(with_reducible refine(z.out _).mono ?_);rintro r w1 ⟨rfl,l⟩;have C:=S.below l;have bb:=C.cell)|(go_at_call 57;(with_reducible refine(n.out _).mono ?_);rintro r w2 ⟨rfl,N⟩;have T:=C.below N;have bc:=T.cell;have zf:=T.free));go_returns;exact⟨rfl,by rw[i.out];exact(T.set 7 _).set 5 _⟩
theorem zl2(s:Sh)(t:Ad)(m:Mem)(h:t.done=false)(b:t.next=0):za0 s t m=(t.asked s (m.get (zae s.p s.c s.m t.d)),m.load t.c (zae s.p s.c s.m t.d)):=by
 unfold za0 Ad.asked;simp[h,b]
theorem zmf(s:Sh)(t:Ad)(m:Mem)(h:t.done=false)(b:t.next=1):za0 s t m=(if zdc (m.get (zae s.p s.c s.m t.who))=1 then({t with next:=2}:Ad).fin 4 else {t with next:=2},m.load t.c (zae s.p s.c s.m t.who)):=by
 unfold za0;simp[h,b]
theorem zlx(s:Sh)(t:Ad)(m:Mem)(h:t.done=false)(b:t.next=2):za0 s t m=(if m.get (zae s.p s.c s.m t.d)=t.was then {t with next:=3} else({t with next:=3}:Ad).fin 4,m.swap t.c (zae s.p s.c s.m t.d) t.was (za8 3 t.c)):=by
 unfold za0;simp[h,b]
theorem zvq(q p b:Nat)(s:Sh)(t:Ad)(m:Mem)(w:World)(E:At3 q p b w w (zan s t) 282 m)(X:Fits s m)(hs:m.st<1000000000)(y:t.done=false)(hn:0<=t.next/\t.next<=2)(hd:0<=t.d/\t.d<s.c)(hw:t.next=1->0<=t.who/\t.who<s.c):
  Calls Tryz.prog 295 #[some q,some p] w fun e w'=>e= .returned (.tuple #[])/\At3 q p b w w' (zan s (za0 s t m).1) 282 (za0 s t m).2:=by
 rcases(by omega:t.next=0\/t.next=1\/t.next=2) with b3|b0|b4
 ·rw[zl2 s t m y b3];have F:=z3b q p b s t m w E X hs hd;obtain⟨I,i⟩:∃ I,I=t.asked s (m.get (zae s.p s.c s.m t.d)):=⟨_,rfl⟩;obtain⟨m2,b2⟩:∃ m2,m2=m.load t.c (zae s.p s.c s.m t.d):=⟨_,rfl⟩;rw[<-i,<- b2]at F;dsimp only;rw[<-i,<- b2];clear i b2 hd hw X hs hn;obtain⟨sp,sc,sm⟩:=s;obtain⟨U,td,tn,tw,z,ta,ti,pk,pa,pb,n,V⟩:=t;dsimp only at y b3;subst y b3;replace F:=hd' F;have b8:=E.cell;clear E;go_in;go_wp2_with (go_at_call 298;(with_reducible refine F.out.mono ?_);rintro r w1 ⟨rfl,Z⟩);go_returns;exact⟨rfl,Z⟩
 ·rw[zmf s t m y b0];obtain⟨S,O⟩:=X.status (hw b0);have l:=fun Y=>zau s.p s.c s.m t.who Y;rw[S]at l ⊢;have N:=fun Y (hY:zaq Y p b m)=>zc1 p b m t.c t.who Y hY O hs;have b1:=fun Y=>rs2 (m.get t.who) Y (Mem.ze4 E.wds.fit _);generalize m.get t.who=x at *;have j:=fun Y (hY:zaa Y q (zan s {t with next:=2}) 282)=>zhr q s {t with next:=2} 4 Y hY;obtain⟨I,i,D⟩:∃ I:Ad,Hid (I=if zdc x=1 then({t with next:=2}:Ad).fin 4 else {t with next:=2})/\I=_:=⟨_,hd' rfl,rfl⟩;dsimp only;rw[<-D];clear D S O X hd hw hn;generalize zdc x=k at *;generalize zda x=A at *;obtain⟨sp,sc,sm⟩:=s;obtain⟨U,td,tn,tw,z,ta,ti,pk,pa,pb,n,V⟩:=t;dsimp only at l N j i y b0;subst y b0;replace l:=hd' l;replace N:=hd' N;replace b1:=hd' b1;replace j:=hd' j;have b9:=E.cell;go_in;go_upto_region 7 with fail
  refine zcl (x:=zbb 2) (ld:=14) (v:= .int .u64 x) (ts:= [48,52,61])
   (K0:=fun Y=>At3 q p b w Y (zan ⟨sp,sc,sm⟩ ⟨U,td,1,tw,z,ta,ti,pk,pa,pb,n,false⟩) 282 m) (K1:=fun Y=>At3 q p b w Y (zan ⟨sp,sc,sm⟩ ⟨U,td,1,tw,z,ta,ti,pk,pa,pb,n,false⟩) 282 (m.load U z))
   (by kernel_rfl) (by simp only[zbb,zfq,zej,nopO,nopC,Nat.reduceBEq,Bool.or_false,Bool.or_true,Bool.false_eq_true,↓reduceIte,Nat.reduceAdd];exact rfl) (by kernel_rfl) (by kernel_rfl) (by kernel_rfl) (by simp[zbb]) (by simp[zbb]) (by simp[zbb]) (by simp[zbb]) (by kernel_rfl) (by simp[zbb]) (by simp[zbb])
   ⟨⟨fun Y Y' J L G=>J.far L G E.only.size⟩,⟨fun Y Y' J L G=>J.far L G E.only.size⟩⟩ E.drew ?_
  apply Exists.intro;refine⟨fun B hb hs=>?_,fun h=>(by simp[zbb]at h),?_,?_⟩;case refine_1=>
   have T:zaa B q (zan ⟨sp,sc,sm⟩ ⟨U,td,1,tw,z,ta,ti,pk,pa,pb,n,false⟩) 282:=hb.elim (fun h=>h.row) (fun h=>h.row);have lB:=T.lt;have ba:=T.cell;repeat (go_big_quiet_step ((first|(go_at_call 57;exact zam (l.out _))|(go_at_call 97;exact zam (b1.out _)))))
   exact wpQuiet_nil rfl
  case refine_2=>exact zcz rfl (fun _ _=>by simp[go_sem]) fun Y C hs=>(N.out Y C.wds).mono fun r Y' ⟨J,L,G⟩=>⟨J,C.load L G,G.weak fun k hk=>hk ▸ Nat.lt_of_lt_of_le C.ls.2.1 E.only.size⟩
  case refine_3=>
   intro a w4 M X;obtain⟨rfl,b6,Z,_⟩:=X;simp only[zbb,vput,List.size_toArray,List.length_cons,List.length_nil,Nat.reduceAdd,Nat.reduceLT,decide_false,Bool.false_eq_true,if_false];have bb:=Z.cell;have zf:=Z.free;have hB:=Z.set 5 (.int .i64 2);clear E N l b1;rcases(by by_cases h:k=1<;>simp[h]:k=1\/(k≠1/\(k==1)=false)) with rfl|⟨hk,hk2⟩
   ·replace i:=hd' (i.out.trans (if_pos rfl));go_wp2_with (go_at_call 176;(with_reducible refine(j.out _ hB.row).mono ?_);rintro r w3 hT;obtain rfl:=hT.ret);go_returns;exact⟨rfl,by rw[i.out];exact hB.turned hT⟩
   replace i:=hd' (i.out.trans (if_neg hk));clear j;go_wp2_with fail;go_returns;exact⟨rfl,by rw[i.out];exact hB⟩
 rw[zlx s t m y b4];obtain⟨S,O⟩:=X.status hd;have l:=fun Y=>zau s.p s.c s.m t.d Y;rw[S]at l ⊢;have R:=fun Y=>zgn 3 t.c Y;have H:=fun Y (hY:zaq Y p b m)=>zff p b m t.c t.d t.was (za8 3 t.c) Y hY O (zdz _ _) hs;have j:=fun Y (hY:zaa Y q (zan s {t with next:=3}) 282)=>zhr q s {t with next:=3} 4 Y hY;obtain⟨I,i,D⟩:∃ I:Ad,Hid (I=if m.get t.d=t.was then {t with next:=3} else({t with next:=3}:Ad).fin 4)/\I=_:=⟨_,hd' rfl,rfl⟩;dsimp only;rw[<-D];obtain⟨sb,b5⟩:∃ sb,sb=decide (m.get t.d=t.was):=⟨_,rfl⟩;rw[<-b5]at H;have o:(sb=true/\I= {t with next:=3})\/(sb=false/\I=({t with next:=3}:Ad).fin 4):=by rw[b5,i.out];by_cases h:m.get t.d=t.was<;>simp[h]
 clear D S O X hd hw hn i b5;obtain⟨sp,sc,sm⟩:=s;obtain⟨U,td,tn,tw,z,ta,ti,pk,pa,pb,n,V⟩:=t;dsimp only at l R H j o y b4 ⊢;subst y b4;replace l:=hd' l;replace R:=hd' R;replace H:=hd' H;replace j:=hd' j;replace o:=hd' o;have b7:=E.cell;have zf:=E.free;go_in;go_upto_region 2 with fail;have hX:=E.set 5 (.int .i64 3);generalize World.setCell _ ⟨q,5,.none⟩ (.int .i64 3)=W at *;clear E b7 zf
 refine zcl (x:=zbb 2) (ld:=23) (v:= .bool sb) (ts:= [13,17,26,30,35])
  (K0:=fun Y=>At3 q p b w Y (zan ⟨sp,sc,sm⟩ ⟨U,td,3,tw,z,ta,ti,pk,pa,pb,n,false⟩) 282 m) (K1:=fun Y=>At3 q p b w Y (zan ⟨sp,sc,sm⟩ ⟨U,td,3,tw,z,ta,ti,pk,pa,pb,n,false⟩) 282 (m.swap U td tw (za8 3 U)))
  (by kernel_rfl) (by simp only[zbb,zfq,zej,nopO,nopC,Nat.reduceBEq,Bool.or_false,Bool.or_true,Bool.false_eq_true,↓reduceIte,Nat.reduceAdd];exact rfl) (by kernel_rfl) (by kernel_rfl) (by kernel_rfl) (by simp[zbb]) (by simp[zbb]) (by simp[zbb]) (by simp[zbb]) (by kernel_rfl) (by simp[zbb]) (by simp[zbb])
  ⟨⟨fun Y Y' J L G=>J.far L G hX.only.size⟩,⟨fun Y Y' J L G=>J.far L G hX.only.size⟩⟩ hX.drew ?_
 apply Exists.intro;refine⟨fun B hb hs=>?_,fun h=>(by simp[zbb]at h),?_,?_⟩;case refine_1=>
  have T:zaa B q (zan ⟨sp,sc,sm⟩ ⟨U,td,3,tw,z,ta,ti,pk,pa,pb,n,false⟩) 282:=hb.elim (fun h=>h.row) (fun h=>h.row);have lB:=T.lt;have bc:=T.cell;repeat (go_big_quiet_step ((first|(go_at_call 57;exact zam (l.out _))|(go_at_call 117;exact zam (R.out _)))))
  exact wpQuiet_nil rfl
 case refine_2=>exact zcz rfl (fun _ _=>by simp[go_sem]) fun Y C hs=>(H.out Y C.wds).mono fun r Y' ⟨J,L,G⟩=>⟨J,C.access L G,G.weak fun k hk=>hk.elim (fun e=>e ▸ Nat.lt_of_lt_of_le C.ls.2.1 hX.only.size) (fun e=>e ▸ Nat.lt_of_lt_of_le C.ls.2.2 hX.only.size)⟩
 case refine_3=>
  intro a w4 M X;obtain⟨rfl,b6,Z,_⟩:=X;simp only[zbb,vput,List.size_toArray,List.length_cons,List.length_nil,Nat.reduceAdd,Nat.reduceLT,decide_false,Bool.false_eq_true,if_false];clear hX H l R;rcases o.out with⟨rfl,i⟩|⟨rfl,i⟩
  ·replace i:=hd' i;clear o j;go_wp2_with fail;go_returns;exact⟨rfl,by rw[i.out];exact Z⟩
  replace i:=hd' i;clear o;go_wp2_with (go_at_call 176;(with_reducible refine(j.out _ Z.row).mono ?_);rintro r w3 hT;obtain rfl:=hT.ret);go_returns;exact⟨rfl,by rw[i.out];exact Z.turned hT⟩
def Ad.page (s:Sh) (t:Ad) (a x:Int):Ad:= { t with pk:=pgK s a x,pa:=pgP s a x 0,pb:=pgP s a x 1 }
theorem z1l(s:Sh)(t:Ad)(a x:Int):t.keep s a x=t.page s a x:=rfl
theorem zpw(s:Sh)(a x k:Int):(zal s.p s.c s.m a x=true/\zbx x=k)↔(zal s.p s.c s.m a x=true/\pgK s a x=k):=by
 unfold pgK;cases zal s.p s.c s.m a x<;>simp
theorem z8q(s:Sh)(t:Ad)(a x:Int):t.own s a x=(zal s.p s.c s.m a x&&(pgK s a x==1&&pgP s a x 0==t.d)):=by
 unfold Ad.own pgK pgP;cases zal s.p s.c s.m a x<;>simp
theorem zl7(s:Sh)(t:Ad)(m:Mem)(h:t.done=false)(b:t.next=3):za0 s t m=(if zal s.p s.c s.m t.at' (m.get (zak s.p s.c s.m t.at'))=true/\pgK s t.at' (m.get (zak s.p s.c s.m t.at'))=4 then { t.page s t.at' (m.get (zak s.p s.c s.m t.at')) with next:=4} else(t.page s t.at' (m.get (zak s.p s.c s.m t.at'))).turn s 3 6,m.load t.c (zak s.p s.c s.m t.at')):=by
 unfold za0;simp[h,b,z1l,zpw]
theorem zmc(s:Sh)(t:Ad)(m:Mem)(h:t.done=false)(b:t.next=4):za0 s t m=(if t.own s t.pa (m.get (zak s.p s.c s.m t.pa))=true then {t with next:=5} else t.turn s 3 6,m.load t.c (zak s.p s.c s.m t.pa)):=by
 unfold za0;simp[h,b]
theorem zl5(s:Sh)(t:Ad)(m:Mem)(h:t.done=false)(b:t.next=5):za0 s t m=(t.turn s 3 6,m.store t.c (zak s.p s.c s.m t.at') 0):=by
 unfold za0;simp[h,b]
theorem zmg(s:Sh)(t:Ad)(m:Mem)(h:t.done=false)(b:t.next=6):za0 s t m=(if t.own s t.at' (m.get (zak s.p s.c s.m t.at'))=true then {t with next:=7,i:=0} else t.turn s 6 9,m.load t.c (zak s.p s.c s.m t.at')):=by
 unfold za0;simp[h,b]
theorem zl3(s:Sh)(t:Ad)(m:Mem)(h:t.done=false)(b:t.next=7):za0 s t m=(if t.i+1=16 then {t with i:=t.i+1,next:=8} else {t with i:=t.i+1},m.store t.c (zbk s.p s.c s.m t.at' t.i) 0):=by
 unfold za0;simp[h,b]
theorem zl6(s:Sh)(t:Ad)(m:Mem)(h:t.done=false)(b:t.next=8):za0 s t m=(t.turn s 6 9,m.store t.c (zak s.p s.c s.m t.at') 0):=by
 unfold za0;simp[h,b]
theorem z9q(q p b:Nat)(s:Sh)(t:Ad)(m:Mem)(w:World)(M:At3 q p b w w (zan s t) 282 m)(U:Fits s m)(hs:m.st<1000000000)(G:t.done=false)(V:t.next=3)(H:0<=t.at'/\t.at'<s.p):
  Calls Tryz.prog 296 #[some q,some p] w fun e w'=>e= .returned (.tuple #[])/\At3 q p b w w' (zan s (za0 s t m).1) 282 (za0 s t m).2:=by
 have j:0<=t.at'/\t.at'<64:=by have:=U.bd;omega
 rw[zl7 s t m G V];have l:=zim q p b s t m t.at' w M U hs H;generalize zak s.p s.c s.m t.at'=pg at *;generalize m.get pg=x at *;unfold Ad.page;have n:=fun Y (hY:zaa Y q (zan s {t with pk:=pgK s t.at' x,pa:=pgP s t.at' x 0,pb:=pgP s t.at' x 1}) 282)=>zek q s {t with pk:=pgK s t.at' x,pa:=pgP s t.at' x 0,pb:=pgP s t.at' x 1} 3 6 Y hY j;generalize zal s.p s.c s.m t.at' x=B at *;generalize pgK s t.at' x=o at *;generalize pgP s t.at' x 0=D at *;generalize pgP s t.at' x 1=F at *;dsimp only;obtain⟨X,i,C⟩:∃ X:Ad,Hid (X=if B=true/\o=4 then {t with pk:=o,pa:=D,pb:=F,next:=4} else({t with pk:=o,pa:=D,pb:=F}:Ad).turn s 3 6)/\X=_:=⟨_,hd' rfl,rfl⟩;rw[<-C];clear C j;obtain⟨sp,sc,sm⟩:=s;obtain⟨tc,td,tn,tw,b3,ta,ti,pk,pa,pb,b0,Z⟩:=t;dsimp only at G V H l n i ⊢;subst G V;replace l:=hd' l;replace n:=hd' n;have lq:=M.lt;have L:=M.cell;clear U hs;go_in;go_upto_region 5 with(go_at_call 299;(with_reducible refine l.out.mono ?_);rintro r J ⟨rfl,N⟩);have y:=N.alloc (.cells #[o,D,F] 128);have R:zaa (J.alloc (.cells #[o,D,F] 128)) J.heap.size #[o,D,F] 128:=heap_alloc_new _ _;have T:J.heap.size≠q:=fun e=>by have:=N.lt;omega
 generalize J.alloc (.cells #[o,D,F] 128)=Y at *;obtain⟨E,S,z⟩:=hidv J.heap.size;simp only[<-z]at R T ⊢;clear z S N L l;have lY:=y.lt;have lE:=R.lt;have b1:=R.cell;have b2:=y.cell;have zf:=y.free;have O:=((y.set 10 (.int .i64 o)).set 11 (.int .i64 D)).set 12 (.int .i64 F);by_cases hc:B=true/\o=4
 ·replace i:=hd' (i.out.trans (if_pos hc));obtain⟨rfl,rfl⟩:=hc;have hD:=((O.set 5 (.int .i64 4)));clear n;go_wp2_with fail;go_returns;exact⟨rfl,by rw[i.out];exact hD⟩
 replace i:=hd' (i.out.trans (if_neg hc));have I:B=false\/(B=true/\(o==4)=false):=by
  cases B
  ·exact .inl rfl
  exact .inr ⟨rfl,by simpa using hc⟩
 clear hc;rcases I with rfl|⟨rfl,I⟩;all_goals go_wp2_with (go_at_call 300;(with_reducible refine(n.out _ O.row).mono ?_);rintro r w3 hT;obtain rfl:=hT.ret);go_returns;exact⟨rfl,by rw[i.out];exact O.turned hT⟩
theorem yak(q p b:Nat)(s:Sh)(t:Ad)(m:Mem)(w:World)(H:At3 q p b w w (zan s t) 282 m)(L:Fits s m)(hs:m.st<1000000000)(E:t.done=false)(G:t.next=4)(J:0<=t.at'/\t.at'<s.p)(M:t.next=4->0<=t.pa/\t.pa<s.p):
  Calls Tryz.prog 296 #[some q,some p] w fun e w'=>e= .returned (.tuple #[])/\At3 q p b w w' (zan s (za0 s t m).1) 282 (za0 s t m).2:=by
 have l:0<=t.at'/\t.at'<64:=by have:=L.bd;omega
 rw[zmc s t m E G];rw[z8q];have n:=zim q p b s t m t.pa w H L hs (M G);have y:=fun Y (I:zaa Y q (zan s t) 282)=>zek q s t 3 6 Y I l;generalize zak s.p s.c s.m t.pa=pg at *;generalize m.get pg=x at *;generalize zal s.p s.c s.m t.pa x=B at *;generalize pgK s t.pa x=R at *;generalize pgP s t.pa x 0=S at *;generalize pgP s t.pa x 1=e2 at *;have i:=fun Y (I:zaa Y q (zan s t) 282)=>zr3 q s t R S e2 B Y I;generalize (B&&(R==1&&S==t.d))=o at *;dsimp only;obtain⟨N,j,C⟩:∃ N:Ad,Hid (N=if o=true then {t with next:=5} else t.turn s 3 6)/\N=_:=⟨_,hd' rfl,rfl⟩;rw[<-C];clear C l;obtain⟨sp,sc,sm⟩:=s;obtain⟨tc,td,tn,tw,b0,ta,ti,pk,pa,pb,U,O⟩:=t;dsimp only at E G J n y i j ⊢;subst E G;replace n:=hd' n;replace y:=hd' y;replace i:=hd' i;have lq:=H.lt;have V:=H.cell;clear L hs;go_in;rcases(by cases o<;>simp:o=true\/o=false) with rfl|rfl
 ·replace j:=hd' (j.out.trans (if_pos rfl));clear y;go_wp2_with (first|(go_at_call 299;(with_reducible refine n.out.mono ?_);rintro r w1 ⟨rfl,F⟩)|(go_at_call 301;(with_reducible refine(i.out _ F.row).mono ?_);rintro r w2 ⟨rfl,D⟩;have z:=F.below D;have X:=z.cell;have zf:=z.free));go_returns;exact⟨rfl,by rw[j.out];exact z.set 5 _⟩
 replace j:=hd' (j.out.trans (if_neg (by decide)));go_wp2_with (first|(go_at_call 299;(with_reducible refine n.out.mono ?_);rintro r w1 ⟨rfl,F⟩)|(go_at_call 301;(with_reducible refine(i.out _ F.row).mono ?_);rintro r w2 ⟨rfl,D⟩;have z:=F.below D;have Z:=z.cell;have zf:=z.free)|(go_at_call 300;(with_reducible refine(y.out _ z.row).mono ?_);rintro r w3 T;obtain rfl:=T.ret));go_returns;exact⟨rfl,by rw[j.out];exact z.turned T⟩
theorem z9w(q p b:Nat)(s:Sh)(t:Ad)(m:Mem)(w:World)(D:At3 q p b w w (zan s t) 282 m)(F:Fits s m)(hs:m.st<1000000000)(y:t.done=false)(G:t.next=5)(o:0<=t.at'/\t.at'<s.p):
  Calls Tryz.prog 296 #[some q,some p] w fun e w'=>e= .returned (.tuple #[])/\At3 q p b w w' (zan s (za0 s t m).1) 282 (za0 s t m).2:=by
 have j:0<=t.at'/\t.at'<64:=by have:=F.bd;omega
 rw[zl5 s t m y G];obtain⟨B,z⟩:=F.page o;have i:=fun Y=>planPage_any s.p s.c s.m t.at' Y;rw[B]at i ⊢;have n:=fun Y (E:zaq Y p b m)=>zba p b m t.c (s.c+t.at') 0 Y E z (by decide) hs;have l:=fun Y (E:zaa Y q (zan s t) 282)=>zek q s t 3 6 Y E j;generalize s.c+t.at'=pg at *;dsimp only;obtain⟨R,C⟩:∃ R,R=t.turn s 3 6:=⟨_,rfl⟩;rw[<-C]at l ⊢;clear C B z F j;obtain⟨sp,X,sm⟩:=s;obtain⟨tc,td,tn,tw,V,ta,ti,pk,pa,pb,S,J⟩:=t;dsimp only at y G o i n l ⊢;subst y G;replace i:=hd' i;replace n:=hd' n;replace l:=hd' l;have U:=D.lt;have T:=D.cell;clear o;go_in;go_upto_region 14 with fail;refine zad 14 (by kernel_rfl) (by kernel_rfl) ?_;dsimp only[List.take,List.drop];repeat (go_big_quiet_step (((go_at_call 119;exact zam (i.out _)))))
 refine wpQuiet_nil ?_;rintro _ ⟨L,rfl⟩;have O:=D.below L.below;generalize L.w=Z at *;change wpList _ _ _ _ _ Z;clear U D;go_wp2_with (first|(go_at_call 257;(with_reducible refine(n.out _ O.wds).mono ?_);rintro r w2 ⟨rfl,I,H⟩;have M:=O.access I H)|(go_at_call 300;(with_reducible refine(l.out _ M.row).mono ?_);rintro r w3 N;obtain rfl:=N.ret));go_returns;exact⟨rfl,M.turned N⟩
theorem yb9(q p b:Nat)(s:Sh)(t:Ad)(m:Mem)(w:World)(I:At3 q p b w w (zan s t) 282 m)(L:Fits s m)(hs:m.st<1000000000)(F:t.done=false)(M:t.next=6)(H:0<=t.at'/\t.at'<s.p):
  Calls Tryz.prog 296 #[some q,some p] w fun e w'=>e= .returned (.tuple #[])/\At3 q p b w w' (zan s (za0 s t m).1) 282 (za0 s t m).2:=by
 have n:0<=t.at'/\t.at'<64:=by have:=L.bd;omega
 rw[zmg s t m F M];rw[z8q];have y:=zim q p b s t m t.at' w I L hs H;have z:=fun Y (J:zaa Y q (zan s t) 282)=>zek q s t 6 9 Y J n;generalize zak s.p s.c s.m t.at'=pg at *;generalize m.get pg=x at *;generalize zal s.p s.c s.m t.at' x=B at *;generalize pgK s t.at' x=R at *;generalize pgP s t.at' x 0=S at *;generalize pgP s t.at' x 1=e2 at *;have j:=fun Y (J:zaa Y q (zan s t) 282)=>zr3 q s t R S e2 B Y J;generalize (B&&(R==1&&S==t.d))=o at *;dsimp only;obtain⟨N,l,D⟩:∃ N:Ad,Hid (N=if o=true then {t with next:=7,i:=0} else t.turn s 6 9)/\N=_:=⟨_,hd' rfl,rfl⟩;rw[<-D];clear D n;obtain⟨sp,sc,sm⟩:=s;obtain⟨tc,td,tn,tw,b0,ta,ti,pk,pa,pb,U,O⟩:=t;dsimp only at F M H y z j l ⊢;subst F M;replace y:=hd' y;replace z:=hd' z;replace j:=hd' j;have lq:=I.lt;have V:=I.cell;clear L hs;go_in;rcases(by cases o<;>simp:o=true\/o=false) with rfl|rfl
 ·replace l:=hd' (l.out.trans (if_pos rfl));clear z;go_wp2_with (first|(go_at_call 299;(with_reducible refine y.out.mono ?_);rintro r w1 ⟨rfl,G⟩)|(go_at_call 301;(with_reducible refine(j.out _ G.row).mono ?_);rintro r w2 ⟨rfl,E⟩;have C:=G.below E;have X:=C.cell;have zf:=C.free));go_returns;exact⟨rfl,by rw[l.out];exact(C.set 5 _).set 9 _⟩
 replace l:=hd' (l.out.trans (if_neg (by decide)));go_wp2_with (first|(go_at_call 299;(with_reducible refine y.out.mono ?_);rintro r w1 ⟨rfl,G⟩)|(go_at_call 301;(with_reducible refine(j.out _ G.row).mono ?_);rintro r w2 ⟨rfl,E⟩;have C:=G.below E;have Z:=C.cell;have zf:=C.free)|(go_at_call 300;(with_reducible refine(z.out _ C.row).mono ?_);rintro r w3 T;obtain rfl:=T.ret));go_returns;exact⟨rfl,by rw[l.out];exact C.turned T⟩
theorem yap(q p b:Nat)(s:Sh)(t:Ad)(m:Mem)(w:World)(G:At3 q p b w w (zan s t) 282 m)(J:Fits s m)(hs:m.st<1000000000)(D:t.done=false)(L:t.next=7)(B:0<=t.at'/\t.at'<s.p)(hi:0<=t.i/\t.i<16):
  Calls Tryz.prog 296 #[some q,some p] w fun e w'=>e= .returned (.tuple #[])/\At3 q p b w w' (zan s (za0 s t m).1) 282 (za0 s t m).2:=by
 have C:0<=t.at'/\t.at'<64:=by have:=J.bd;omega
 rw[zl3 s t m D L];obtain⟨F,E⟩:=J.slot B hi;have j:=fun Y=>zbm s.p s.c s.m t.at' t.i Y;rw[F]at j ⊢;have o:=fun Y (hY:zaq Y p b m)=>zba p b m t.c (s.c+s.p+t.at'*16+t.i) 0 Y hY E (by decide) hs;generalize s.c+s.p+t.at'*16+t.i=pg at *;have V:=wrp (t.i+1);have n:t.i+1=16\/(¬ t.i+1=16/\(t.i+1==16)=false):=by
  by_cases h:t.i+1=16
  ·exact .inl h
  exact .inr ⟨h,by simpa using h⟩
 dsimp only;obtain⟨O,l,y⟩:∃ O:Ad,Hid (O=if t.i+1=16 then {t with i:=t.i+1,next:=8} else {t with i:=t.i+1})/\O=_:=⟨_,hd' rfl,rfl⟩;rw[<-y];clear y F E J C hi;obtain⟨sp,sc,sm⟩:=s;obtain⟨tc,td,tn,tw,b1,ta,ti,pk,pa,pb,U,R⟩:=t;dsimp only at D L B j o l n V ⊢;subst D L;replace j:=hd' j;replace o:=hd' o;replace n:=hd' n;have lq:=G.lt;have X:=G.cell;clear B;go_in;go_upto_region 21 with fail;refine zad 18 (by kernel_rfl) (by kernel_rfl) ?_;dsimp only[List.take,List.drop];repeat (go_big_quiet_step (((go_at_call 121;exact zam (j.out _)))))
 refine wpQuiet_nil ?_;rintro _ ⟨S,rfl⟩;have T:=G.below S.below;generalize S.w=Z at *;change wpList _ _ _ _ _ Z;clear lq G;go_upto_region 23 with(first|(go_at_call 257;(with_reducible refine(o.out _ T.wds).mono ?_);rintro r w2 ⟨rfl,N,M⟩;have H:=T.access N M;have b0:=H.cell;have zf:=H.free));have I:=H.set 9 (.int .i64 (ti+1));rcases n.out with z|⟨z,h2⟩
 ·replace l:=hd' (l.out.trans (if_pos z));rw[z]at l I V;simp only[z];clear n z;go_wp2_with fail;go_returns;exact⟨rfl,by rw[l.out];exact I.set 5 _⟩
 replace l:=hd' (l.out.trans (if_neg z));clear n z;go_wp2_with fail;go_returns;exact⟨rfl,by rw[l.out];exact I⟩
theorem yau(q p b:Nat)(s:Sh)(t:Ad)(m:Mem)(w:World)(D:At3 q p b w w (zan s t) 282 m)(F:Fits s m)(hs:m.st<1000000000)(y:t.done=false)(G:t.next=8)(o:0<=t.at'/\t.at'<s.p):
  Calls Tryz.prog 296 #[some q,some p] w fun e w'=>e= .returned (.tuple #[])/\At3 q p b w w' (zan s (za0 s t m).1) 282 (za0 s t m).2:=by
 have j:0<=t.at'/\t.at'<64:=by have:=F.bd;omega
 rw[zl6 s t m y G];obtain⟨B,z⟩:=F.page o;have i:=fun Y=>planPage_any s.p s.c s.m t.at' Y;rw[B]at i ⊢;have n:=fun Y (E:zaq Y p b m)=>zba p b m t.c (s.c+t.at') 0 Y E z (by decide) hs;have l:=fun Y (E:zaa Y q (zan s t) 282)=>zek q s t 6 9 Y E j;generalize s.c+t.at'=pg at *;dsimp only;obtain⟨R,C⟩:∃ R,R=t.turn s 6 9:=⟨_,rfl⟩;rw[<-C]at l ⊢;clear C B z F j;obtain⟨sp,X,sm⟩:=s;obtain⟨tc,td,tn,tw,V,ta,ti,pk,pa,pb,S,J⟩:=t;dsimp only at y G o i n l ⊢;subst y G;replace i:=hd' i;replace n:=hd' n;replace l:=hd' l;have U:=D.lt;have T:=D.cell;clear o;go_in;go_upto_region 1 with fail;refine zad 14 (by kernel_rfl) (by kernel_rfl) ?_;dsimp only[List.take,List.drop];repeat (go_big_quiet_step (((go_at_call 119;exact zam (i.out _)))))
 refine wpQuiet_nil ?_;rintro _ ⟨L,rfl⟩;have O:=D.below L.below;generalize L.w=Z at *;change wpList _ _ _ _ _ Z;clear U D;go_wp2_with (first|(go_at_call 257;(with_reducible refine(n.out _ O.wds).mono ?_);rintro r w2 ⟨rfl,I,H⟩;have M:=O.access I H)|(go_at_call 300;(with_reducible refine(l.out _ M.row).mono ?_);rintro r w3 N;obtain rfl:=N.ret));go_returns;exact⟨rfl,M.turned N⟩
theorem zjn(s:Sh)(t:Ad)(m:Mem)(h:t.done=false)(b:t.next=10):za0 s t m=(if zal s.p s.c s.m t.at' (m.get (zak s.p s.c s.m t.at'))=true/\pgK s t.at' (m.get (zak s.p s.c s.m t.at'))=2 then { t.page s t.at' (m.get (zak s.p s.c s.m t.at')) with next:=11,i:=0} else(t.page s t.at' (m.get (zak s.p s.c s.m t.at'))).turn s 10 13,m.load t.c (zak s.p s.c s.m t.at')):=by
 unfold za0;simp[h,b,z1l,zpw]
theorem zju(s:Sh)(t:Ad)(m:Mem)(h:t.done=false)(b:t.next=11):za0 s t m=(if m.get (zbk s.p s.c s.m t.at' t.i)=zc3 2 t.d then {t with next:=12} else t.slot s,m.load t.c (zbk s.p s.c s.m t.at' t.i)):=by
 unfold za0;simp[h,b,wayW]
theorem zkg(s:Sh)(t:Ad)(m:Mem)(h:t.done=false)(b:t.next=12):za0 s t m=(t.slot s,m.store t.c (zbk s.p s.c s.m t.at' t.i) (zc3 1 t.pa)):=by
 unfold za0;simp[h,b,zc8]
theorem zj8(s:Sh)(t:Ad)(m:Mem)(h:t.done=false)(b:t.next=13):za0 s t m=(t.fin 0,m.store t.c (zae s.p s.c s.m t.d) (za8 4 0)):=by
 unfold za0;simp[h,b]
theorem z7h(q p b:Nat)(s:Sh)(t:Ad)(m:Mem)(w:World)(N:At3 q p b w w (zan s t) 282 m)(V:Fits s m)(hs:m.st<1000000000)(H:t.done=false)(X:t.next=10)(I:0<=t.at'/\t.at'<s.p):
  Calls Tryz.prog 297 #[some q,some p] w fun e w'=>e= .returned (.tuple #[])/\At3 q p b w w' (zan s (za0 s t m).1) 282 (za0 s t m).2:=by
 have l:0<=t.at'/\t.at'<64:=by have:=V.bd;omega
 rw[zjn s t m H X];have n:=zim q p b s t m t.at' w N V hs I;generalize zak s.p s.c s.m t.at'=pg at *;generalize m.get pg=x at *;unfold Ad.page;have o:=fun Y (hY:zaa Y q (zan s {t with pk:=pgK s t.at' x,pa:=pgP s t.at' x 0,pb:=pgP s t.at' x 1}) 282)=>zek q s {t with pk:=pgK s t.at' x,pa:=pgP s t.at' x 0,pb:=pgP s t.at' x 1} 10 13 Y hY l;generalize zal s.p s.c s.m t.at' x=B at *;generalize pgK s t.at' x=y at *;generalize pgP s t.at' x 0=F at *;generalize pgP s t.at' x 1=G at *;dsimp only;obtain⟨Z,j,D⟩:∃ Z:Ad,Hid (Z=if B=true/\y=2 then {t with pk:=y,pa:=F,pb:=G,next:=11,i:=0} else({t with pk:=y,pa:=F,pb:=G}:Ad).turn s 10 13)/\Z=_:=⟨_,hd' rfl,rfl⟩;rw[<-D];clear D l;obtain⟨sp,sc,sm⟩:=s;obtain⟨tc,td,tn,tw,b4,ta,ti,pk,pa,pb,b1,b0⟩:=t;dsimp only at H X I n o j ⊢;subst H X;replace n:=hd' n;replace o:=hd' o;have lq:=N.lt;have M:=N.cell;clear V hs;go_in;go_upto_region 5 with(go_at_call 299;(with_reducible refine n.out.mono ?_);rintro r L ⟨rfl,O⟩);have z:=O.alloc (.cells #[y,F,G] 128);have S:zaa (L.alloc (.cells #[y,F,G] 128)) L.heap.size #[y,F,G] 128:=heap_alloc_new _ _;have U:L.heap.size≠q:=fun e=>by have:=O.lt;omega
 generalize L.alloc (.cells #[y,F,G] 128)=Y at *;obtain⟨E,T,C⟩:=hidv L.heap.size;simp only[<-C]at S U ⊢;clear C T O M n;have lY:=z.lt;have lE:=S.lt;have b2:=S.cell;have b3:=z.cell;have zf:=z.free;have R:=((z.set 10 (.int .i64 y)).set 11 (.int .i64 F)).set 12 (.int .i64 G);by_cases hc:B=true/\y=2
 ·replace j:=hd' (j.out.trans (if_pos hc));obtain⟨rfl,rfl⟩:=hc;have hD:=((R.set 5 (.int .i64 11)).set 9 (.int .i64 0));clear o;go_wp2_with fail;go_returns;exact⟨rfl,by rw[j.out];exact hD⟩
 replace j:=hd' (j.out.trans (if_neg hc));have J:B=false\/(B=true/\(y==2)=false):=by
  cases B
  ·exact .inl rfl
  exact .inr ⟨rfl,by simpa using hc⟩
 clear hc;rcases J with rfl|⟨rfl,J⟩;all_goals go_wp2_with (go_at_call 300;(with_reducible refine(o.out _ R.row).mono ?_);rintro r w3 hT;obtain rfl:=hT.ret);go_returns;exact⟨rfl,by rw[j.out];exact R.turned hT⟩
theorem z7x(q p b:Nat)(s:Sh)(t:Ad)(m:Mem)(w:World)(F:At3 q p b w w (zan s t) 282 m)(S:Fits s m)(hs:m.st<1000000000)(I:t.done=false)(hn:t.next=11)(H:0<=t.at'/\t.at'<s.p)(hi:0<=t.i/\t.i<16):
  Calls Tryz.prog 297 #[some q,some p] w fun e w'=>e= .returned (.tuple #[])/\At3 q p b w w' (zan s (za0 s t m).1) 282 (za0 s t m).2:=by
 have n:0<=t.at'/\t.at'<64:=by have:=S.bd;omega
 rw[zju s t m I hn];obtain⟨U,T⟩:=S.slot H hi;have j:=fun Y=>zbm s.p s.c s.m t.at' t.i Y;rw[U]at j ⊢;have o:=fun Y (hY:zaq Y p b m)=>zc1 p b m t.c (s.c+s.p+t.at'*16+t.i) Y hY T hs;have z:=fun Y=>zbl 2 t.d Y;have C:=fun Y (hY:zaa Y q (zan s t) 282)=>zo4 q s t Y hY n hi;generalize s.c+s.p+t.at'*16+t.i=pg at *;generalize m.get pg=x at *;generalize zc3 2 t.d=y at *;dsimp only;obtain⟨t2,l,E⟩:∃ t2:Ad,Hid (t2=if x=y then {t with next:=12} else t.slot s)/\t2=_:=⟨_,hd' rfl,rfl⟩;rw[<-E];clear E U T S n hi;obtain⟨sp,sc,sm⟩:=s;obtain⟨X,td,tn,tw,J,ta,ti,pk,pa,pb,D,b0⟩:=t;dsimp only at I hn H j o z C l ⊢;subst I hn;replace j:=hd' j;replace o:=hd' o;replace z:=hd' z;replace C:=hd' C;have lq:=F.lt;have Z:=F.cell;clear H;go_in;go_upto_region 10 with fail
 refine zcl (x:=zbb 2) (ld:=18) (v:= .int .u64 x) (ts:= [60,64,77])
  (K0:=fun Y=>At3 q p b w Y (zan ⟨sp,sc,sm⟩ ⟨X,td,11,tw,J,ta,ti,pk,pa,pb,D,false⟩) 282 m) (K1:=fun Y=>At3 q p b w Y (zan ⟨sp,sc,sm⟩ ⟨X,td,11,tw,J,ta,ti,pk,pa,pb,D,false⟩) 282 (m.load X pg))
  (by kernel_rfl) (by simp only[zbb,zfq,zej,nopO,nopC,Nat.reduceBEq,Bool.or_false,Bool.or_true,Bool.false_eq_true,↓reduceIte,Nat.reduceAdd];exact rfl) (by kernel_rfl) (by kernel_rfl) (by kernel_rfl) (by simp[zbb]) (by simp[zbb]) (by simp[zbb]) (by simp[zbb]) (by kernel_rfl) (by simp[zbb]) (by simp[zbb])
  ⟨⟨fun Y Y' O R L=>O.far R L F.only.size⟩,⟨fun Y Y' O R L=>O.far R L F.only.size⟩⟩ F.drew ?_
 apply Exists.intro;refine⟨fun B hb hs=>?_,fun h=>(by simp[zbb]at h),?_,?_⟩;case refine_1=>
  have V:zaa B q (zan ⟨sp,sc,sm⟩ ⟨X,td,11,tw,J,ta,ti,pk,pa,pb,D,false⟩) 282:=hb.elim (fun h=>h.row) (fun h=>h.row);have lB:=V.lt;have b2:=V.cell;repeat (go_big_quiet_step ((first|(go_at_call 121;exact zam (j.out _))|(go_at_call 156;exact zam (z.out _)))))
  exact wpQuiet_nil rfl
 case refine_2=>exact zcz rfl (fun _ _=>by simp[go_sem]) fun Y G hs=>(o.out Y G.wds).mono fun r Y' ⟨O,R,L⟩=>⟨O,G.load R L,L.weak fun k hk=>hk ▸ Nat.lt_of_lt_of_le G.ls.2.1 F.only.size⟩
 case refine_3=>
  intro a w4 M S;obtain⟨rfl,b1,N,_⟩:=S;simp only[zbb,vput,List.size_toArray,List.length_cons,List.length_nil,Nat.reduceAdd,Nat.reduceLT,decide_false,Bool.false_eq_true,if_false];have b3:=N.cell;have zf:=N.free;have lA:=N.lt;clear F o j z Z;rcases(by by_cases h:x=y<;>simp[h]:x=y\/(x≠y/\(x==y)=false)) with rfl|⟨hk,hk2⟩
  ·replace l:=hd' (l.out.trans (if_pos rfl));clear C;go_wp2_with fail;go_returns;exact⟨rfl,by rw[l.out];exact N.set 5 _⟩
  replace l:=hd' (l.out.trans (if_neg hk));go_wp2_with (go_at_call 294;(with_reducible refine(C.out _ N.row).mono ?_);rintro r w3 hT;obtain rfl:=hT.ret);go_returns;exact⟨rfl,by rw[l.out];exact N.turned hT⟩
theorem z6v(q p b:Nat)(s:Sh)(t:Ad)(m:Mem)(w:World)(G:At3 q p b w w (zan s t) 282 m)(I:Fits s m)(hs:m.st<1000000000)(C:t.done=false)(J:t.next=12)(B:0<=t.at'/\t.at'<s.p)(hi:0<=t.i/\t.i<16):
  Calls Tryz.prog 297 #[some q,some p] w fun e w'=>e= .returned (.tuple #[])/\At3 q p b w w' (zan s (za0 s t m).1) 282 (za0 s t m).2:=by
 have l:0<=t.at'/\t.at'<64:=by have:=I.bd;omega
 rw[zkg s t m C J];obtain⟨E,D⟩:=I.slot B hi;have j:=fun Y=>zbm s.p s.c s.m t.at' t.i Y;rw[E]at j ⊢;have z:=fun Y (H:zaq Y p b m)=>zba p b m t.c (s.c+s.p+t.at'*16+t.i) (zc3 1 t.pa) Y H D (zch _ _) hs;have o:=fun Y=>zbl 1 t.pa Y;have n:=fun Y (H:zaa Y q (zan s t) 282)=>zo4 q s t Y H l hi;generalize s.c+s.p+t.at'*16+t.i=pg at *;generalize zc3 1 t.pa=y at *;dsimp only;obtain⟨U,F⟩:∃ U,U=t.slot s:=⟨_,rfl⟩;rw[<-F]at n ⊢;clear F E D I l hi;obtain⟨sp,sc,sm⟩:=s;obtain⟨tc,td,tn,tw,b0,ta,ti,pk,pa,pb,V,N⟩:=t;dsimp only at C J B j z o n ⊢;subst C J;replace j:=hd' j;replace z:=hd' z;replace o:=hd' o;replace n:=hd' n;have lq:=G.lt;have X:=G.cell;clear B;go_in;go_upto_region 14 with fail;refine zad 25 (by kernel_rfl) (by kernel_rfl) ?_;dsimp only[List.take,List.drop];repeat (go_big_quiet_step ((first|(go_at_call 121;exact zam (j.out _))|(go_at_call 156;exact zam (o.out _)))))
 refine wpQuiet_nil ?_;rintro _ ⟨O,rfl⟩;have T:=G.below O.below;generalize O.w=Z at *;change wpList _ _ _ _ _ Z;clear lq G;go_wp2_with (first|(go_at_call 257;(with_reducible refine(z.out _ T.wds).mono ?_);rintro r w2 ⟨rfl,M,L⟩;have R:=T.access M L)|(go_at_call 294;(with_reducible refine(n.out _ R.row).mono ?_);rintro r w3 S;obtain rfl:=S.ret));go_returns;exact⟨rfl,R.turned S⟩
theorem z7k(q p b:Nat)(s:Sh)(t:Ad)(m:Mem)(w:World)(F:At3 q p b w w (zan s t) 282 m)(H:Fits s m)(hs:m.st<1000000000)(z:t.done=false)(I:t.next=13)(B:0<=t.at'/\t.at'<s.p)(hd:0<=t.d/\t.d<s.c):
  Calls Tryz.prog 297 #[some q,some p] w fun e w'=>e= .returned (.tuple #[])/\At3 q p b w w' (zan s (za0 s t m).1) 282 (za0 s t m).2:=by
 have o:0<=t.at'/\t.at'<64:=by have:=H.bd;omega
 rw[zj8 s t m z I];obtain⟨D,C⟩:=H.status hd;have i:=fun Y=>zau s.p s.c s.m t.d Y;rw[D]at i ⊢;have n:=fun Y (G:zaq Y p b m)=>zba p b m t.c t.d (za8 4 0) Y G C (zdz _ _) hs;have l:=fun Y=>zgn 4 0 Y;have j:=fun Y (G:zaa Y q (zan s t) 282)=>zhr q s t 0 Y G;generalize za8 4 0=y at *;dsimp only;obtain⟨T,E⟩:∃ T,T=t.fin 0:=⟨_,rfl⟩;rw[<-E]at j ⊢;clear E D C H o hd;obtain⟨sp,sc,sm⟩:=s;obtain⟨tc,td,tn,tw,b0,ta,ti,pk,pa,pb,U,M⟩:=t;dsimp only at z I B i n l j ⊢;subst z I;replace i:=hd' i;replace n:=hd' n;replace l:=hd' l;replace j:=hd' j;have X:=F.lt;have V:=F.cell;clear B;go_in;go_upto_region 1 with fail;refine zad 15 (by kernel_rfl) (by kernel_rfl) ?_;dsimp only[List.take,List.drop];repeat (go_big_quiet_step ((first|(go_at_call 57;exact zam (i.out _))|(go_at_call 117;exact zam (l.out _)))))
 refine wpQuiet_nil ?_;rintro _ ⟨N,rfl⟩;have S:=F.below N.below;generalize N.w=Z at *;change wpList _ _ _ _ _ Z;clear X F;go_wp2_with (first|(go_at_call 257;(with_reducible refine(n.out _ S.wds).mono ?_);rintro r w2 ⟨rfl,L,J⟩;have O:=S.access L J)|(go_at_call 176;(with_reducible refine(j.out _ O.row).mono ?_);rintro r w3 R;obtain rfl:=R.ret));go_returns;exact⟨rfl,O.turned R⟩
theorem zl8(s:Sh)(t:Ad)(m:Mem)(h:t.done=false)(b:t.next=9):za0 s t m=(if t.i+1=s.m then {t with i:=0,next:=10} else {t with i:=t.i+1},m.store t.c (ze9 s.p s.c s.m t.d t.i) 0):=by
 unfold za0;simp[h,b]
theorem zkx(s:Sh)(t:Ad)(m:Mem)(h:t.done=true):za0 s t m=(t,m):=by
 unfold za0;simp[h]
structure adOk (s:Sh) (t:Ad):Prop where
 cl:t.done=false->mayB s.p s.c s.m=true/\(0<=t.c/\t.c < s.c)/\(0<=t.d/\t.d < s.c)/\(0<=t.next/\t.next<=13)/\(0<=t.at'/\t.at' < s.p)/\(t.next=1->0<=t.who/\t.who < s.c)/\(t.next=4->0<=t.pa/\t.pa < s.p)/\
  (t.next=7->0<=t.i/\t.i < 16)/\(t.next=9->0<=t.i/\t.i < s.m)/\(t.next=11\/t.next=12->0 < zah t.pa/\0<=t.i/\t.i < zah t.pa)
theorem zh9{s:Sh}(t:Ad)(e:Int):adOk s (t.fin e):=⟨fun h=>by cases h⟩
theorem z7f(s:Sh)(c d:Int):adOk s (zix s c d):=by
 unfold zix;dsimp only;split
 ·exact zh9 _ _
 rename_i h;have b:=zbe (by omega:0<=zae s.p s.c s.m c);have f:=zbe (by omega:0<=zae s.p s.c s.m d);have hb:=zar.1 b.1;exact⟨fun _=>⟨b.1,b.2,f.2,by dsimp only;omega,by dsimp only;omega,fun e=>by dsimp only at e;omega,fun e=>by dsimp only at e;omega,fun e=>by dsimp only at e;omega,fun e=>by dsimp only at e;omega,fun e=>by dsimp only at e;omega⟩⟩
theorem zsf{s:Sh}{t:Ad}{again next:Int}(i:mayB s.p s.c s.m=true)(l:0<=t.c/\t.c<s.c)(n:0<=t.d/\t.d<s.c)(o:0<=t.at'/\t.at'<s.p)(q:again=3\/again=6\/again=10)(r:next=6\/next=9\/next=13):adOk s (t.turn s again next):=by
 have hb:=zar.1 i;have j:=zp2 s t again next
 simp only[beq_eq_false_iff_ne,ne_eq]at j;rcases j with⟨k1,b,f,e⟩|⟨k1,b,f,e⟩|⟨k1,b,e⟩|⟨k1,b,f,e⟩|⟨k1,b,f,e⟩|⟨k1,b,e⟩;all_goals
  rw[e];refine⟨fun _=>⟨i,l,n,?_,?_,fun e=>?_,fun e=>?_,fun e=>?_,fun e=>?_,fun e=>?_⟩⟩;all_goals try dsimp only at e
  all_goals dsimp only
  all_goals omega
theorem zs9{s:Sh}{t:Ad}(b:mayB s.p s.c s.m=true)(f:0<=t.c/\t.c<s.c)(j:0<=t.d/\t.d<s.c)(l:0<=t.at'/\t.at'<s.p)(n:0<zah t.pa/\0<=t.i/\t.i<zah t.pa):adOk s (t.slot s):=by
 unfold Ad.slot;split
 ·exact zsf b f j l (.inr (.inr rfl)) (.inr (.inr rfl))
 refine⟨fun _=>⟨b,f,j,?_,l,fun e=>?_,fun e=>?_,fun e=>?_,fun e=>?_,fun e=>?_⟩⟩;all_goals try dsimp only at e
 all_goals dsimp only
 all_goals omega
theorem z0s{s:Sh}{t:Ad}(m:Mem)(h:adOk s t):adOk s (za0 s t m).1:=by
 rcases Bool.eq_false_or_eq_true t.done with hd|hd
 ·rw[zkx s t m hd];exact h
 obtain⟨l,o,q,T,r,c1,S,E,F,f⟩:=h.cl hd;have hb:=zar.1 l;have b:∀ (u:Ad),u.c=t.c->u.d=t.d->u.at'=t.at'->(0<=u.next/\u.next<=13)->u.next≠1->u.next≠4->(u.next=7->0<=u.i/\u.i<16)->(u.next=9->0<=u.i/\u.i<s.m)->(u.next=11\/u.next=12->0<zah u.pa/\0<=u.i/\u.i<zah u.pa)->adOk s u:=fun u z C D H I J L M B=>⟨fun _=>⟨l,by rw[z];exact o,by rw[C];exact q,H,by rw[D];exact r,fun e=>absurd e I,fun e=>absurd e J,L,M,B⟩⟩
 have turn:∀ (u:Ad) again next,u.c=t.c->u.d=t.d->u.at'=t.at'->(again=3\/again=6\/again=10)->(next=6\/next=9\/next=13)->adOk s (u.turn s again next):=fun u a n z C D N O=>zsf l (by rw[z];exact o) (by rw[C];exact q) (by rw[D];exact r) N O
 rcases(by omega:t.next=0\/t.next=1\/t.next=2\/t.next=3\/t.next=4\/t.next=5\/t.next=6\/t.next=7\/t.next=8\/t.next=9\/t.next=10\/t.next=11\/t.next=12\/t.next=13) with n|n|n|n|n|n|n|n|n|n|n|n|n|n
 ·rw[zl2 s t m hd n];unfold Ad.asked;dsimp only;split
  ·exact b _ rfl rfl rfl (by dsimp only;omega) (by dsimp only;omega) (by dsimp only;omega) (fun e=>by dsimp only at e;omega) (fun e=>by dsimp only at e;omega) (fun e=>by dsimp only at e;omega)
  split
  ·exact zh9 _ _
  split
  ·exact zh9 _ _
  rename_i G;have G:=zbe (by omega:0<=zae s.p s.c s.m (zda (m.get (zae s.p s.c s.m t.d))));exact⟨fun _=>⟨l,o,q,by dsimp only;omega,r,fun _=>G.2,fun e=>by dsimp only at e;omega,fun e=>by dsimp only at e;omega,fun e=>by dsimp only at e;omega,fun e=>by dsimp only at e;omega⟩⟩
 ·rw[zmf s t m hd n];dsimp only;split
  ·exact zh9 _ _
  exact b _ rfl rfl rfl (by dsimp only;omega) (by dsimp only;omega) (by dsimp only;omega) (fun e=>by dsimp only at e;omega) (fun e=>by dsimp only at e;omega) (fun e=>by dsimp only at e;omega)
 ·rw[zlx s t m hd n];dsimp only;split
  ·exact b _ rfl rfl rfl (by dsimp only;omega) (by dsimp only;omega) (by dsimp only;omega) (fun e=>by dsimp only at e;omega) (fun e=>by dsimp only at e;omega) (fun e=>by dsimp only at e;omega)
  exact zh9 _ _
 ·rw[zl7 s t m hd n];dsimp only;split
  ·rename_i y;have j:=(zpw s t.at' (m.get (zak s.p s.c s.m t.at')) 4).2 y;have R:=zpu j.1 j.2;refine⟨fun _=>⟨l,o,q,by dsimp only;omega,r,fun e=>by dsimp only at e;omega,fun _=>?_,fun e=>by dsimp only at e;omega,fun e=>by dsimp only at e;omega,fun e=>by dsimp only at e;omega⟩⟩;show 0<=pgP s t.at' (m.get (zak s.p s.c s.m t.at')) 0/\pgP s t.at' (m.get (zak s.p s.c s.m t.at')) 0<s.p;unfold pgP;rw[if_pos y.1];omega
  exact turn _ _ _ rfl rfl rfl (.inl rfl) (.inl rfl)
 ·rw[zmc s t m hd n];dsimp only;split
  ·exact b _ rfl rfl rfl (by dsimp only;omega) (by dsimp only;omega) (by dsimp only;omega) (fun e=>by dsimp only at e;omega) (fun e=>by dsimp only at e;omega) (fun e=>by dsimp only at e;omega)
  exact turn _ _ _ rfl rfl rfl (.inl rfl) (.inl rfl)
 ·rw[zl5 s t m hd n];exact turn _ _ _ rfl rfl rfl (.inl rfl) (.inl rfl)
 ·rw[zmg s t m hd n];dsimp only;split
  ·exact b _ rfl rfl rfl (by dsimp only;omega) (by dsimp only;omega) (by dsimp only;omega) (fun e=>by dsimp only;omega) (fun e=>by dsimp only at e;omega) (fun e=>by dsimp only at e;omega)
  exact turn _ _ _ rfl rfl rfl (.inr (.inl rfl)) (.inr (.inl rfl))
 ·rw[zl3 s t m hd n];have E:=E n;dsimp only;split
  ·exact b _ rfl rfl rfl (by dsimp only;omega) (by dsimp only;omega) (by dsimp only;omega) (fun e=>by dsimp only at e;omega) (fun e=>by dsimp only at e;omega) (fun e=>by dsimp only at e;omega)
  exact b _ rfl rfl rfl (by dsimp only;omega) (by dsimp only;omega) (by dsimp only;omega) (fun e=>by dsimp only;omega) (fun e=>by dsimp only at e;omega) (fun e=>by dsimp only at e;omega)
 ·rw[zl6 s t m hd n];exact turn _ _ _ rfl rfl rfl (.inr (.inl rfl)) (.inr (.inl rfl))
 ·rw[zl8 s t m hd n];have F:=F n;dsimp only;split
  ·exact b _ rfl rfl rfl (by dsimp only;omega) (by dsimp only;omega) (by dsimp only;omega) (fun e=>by dsimp only at e;omega) (fun e=>by dsimp only at e;omega) (fun e=>by dsimp only at e;omega)
  exact b _ rfl rfl rfl (by dsimp only;omega) (by dsimp only;omega) (by dsimp only;omega) (fun e=>by dsimp only at e;omega) (fun e=>by dsimp only;omega) (fun e=>by dsimp only at e;omega)
 ·rw[zjn s t m hd n];dsimp only;split
  ·rename_i y;have j:=(zpw s t.at' (m.get (zak s.p s.c s.m t.at')) 2).2 y;have R:=(zdq j.1 j.2).2.2;refine b _ rfl rfl rfl (by dsimp only;omega) (by dsimp only;omega) (by dsimp only;omega) (fun e=>by dsimp only at e;omega) (fun e=>by dsimp only at e;omega) (fun _=>?_);show 0<zah (pgP s t.at' (m.get (zak s.p s.c s.m t.at')) 0)/\(0:Int)<=0/\0<zah (pgP s t.at' (m.get (zak s.p s.c s.m t.at')) 0);unfold pgP;rw[if_pos y.1];omega
  exact turn _ _ _ rfl rfl rfl (.inr (.inr rfl)) (.inr (.inr rfl))
 ·rw[zju s t m hd n];have f:=f (.inl n);dsimp only;split
  ·exact b _ rfl rfl rfl (by dsimp only;omega) (by dsimp only;omega) (by dsimp only;omega) (fun e=>by dsimp only at e;omega) (fun e=>by dsimp only at e;omega) (fun _=>f)
  exact zs9 l o q r f
 ·rw[zkg s t m hd n];exact zs9 l o q r (f (.inr n))
 rw[zj8 s t m hd n];exact zh9 _ _
theorem zxp(q p b:Nat)(s:Sh)(t:Ad)(m:Mem)(w:World)(j:At3 q p b w w (zan s t) 282 m)(o:Fits s m)(hs:m.st<1000000000)(B:adOk s t)(i:t.done=false)(H:3<=t.next/\t.next<=8):
  Calls Tryz.prog 296 #[some q,some p] w fun e w'=>e= .returned (.tuple #[])/\At3 q p b w w' (zan s (za0 s t m).1) 282 (za0 s t m).2:=by
 obtain⟨D,E,F,G,l,c1,y,z,C,r⟩:=B.cl i;rcases(by omega:t.next=3\/t.next=4\/t.next=5\/t.next=6\/t.next=7\/t.next=8) with n|n|n|n|n|n
 ·exact z9q q p b s t m w j o hs i n l
 ·exact yak q p b s t m w j o hs i n l y
 ·exact z9w q p b s t m w j o hs i n l
 ·exact yb9 q p b s t m w j o hs i n l
 ·exact yap q p b s t m w j o hs i n l (z n)
 exact yau q p b s t m w j o hs i n l
theorem zyj(q p b:Nat)(s:Sh)(t:Ad)(m:Mem)(w:World)(l:At3 q p b w w (zan s t) 282 m)(r:Fits s m)(hs:m.st<1000000000)(B:adOk s t)(j:t.done=false)(I:10<=t.next):
  Calls Tryz.prog 297 #[some q,some p] w fun e w'=>e= .returned (.tuple #[])/\At3 q p b w w' (zan s (za0 s t m).1) 282 (za0 s t m).2:=by
 obtain⟨F,G,z,H,o,c1,C,D,E,y⟩:=B.cl j;have hi:t.next=11\/t.next=12->0<=t.i/\t.i<16:=fun e=>by have h:=y e;have:=zb4 h.1;omega
 rcases(by omega:t.next=10\/t.next=11\/t.next=12\/t.next=13) with n|n|n|n
 ·exact z7h q p b s t m w l r hs j n o
 ·exact z7x q p b s t m w l r hs j n o (hi (.inl n))
 ·exact z6v q p b s t m w l r hs j n o (hi (.inr n))
 exact z7k q p b s t m w l r hs j n o z
theorem zyd(q p b:Nat)(s:Sh)(t:Ad)(m:Mem)(w:World)(hq:zaa w q (zan s t) 282)(hw:zaq w p b m)(b4:q≠p)(b3:q≠b)(I:Fits s m)(M:adOk s t)(hs:m.st<1000000000):
  Calls Tryz.prog 293 #[some q,some p] w fun e w'=>Stepped q p b w w' e (zan s (za0 s t m).1) 282 (za0 s t m).2:=by
 have n:=At3.start hq hw b4 b3;clear hq hw b4 b3;rcases Bool.eq_false_or_eq_true t.done with hd|hd
 ·rw[zkx s t m hd];obtain⟨sp,sc,R⟩:=s;obtain⟨tc,td,o,tw,L,ta,H,pk,pa,pb,C,y⟩:=t;dsimp only at hd;subst hd;have F:=ce (.bool true) (n.cell 14);clear I M hs;go_in;go_wp2_with fail;go_returns;exact n.fin rfl rfl
 have l:=M.cl hd;by_cases O:t.next=9;case pos=>
  obtain⟨b1,c0,d0,n0,b5,w1,w4,w7,w9,ba⟩:=l;have hi:=w9 O;have b7:=zar.1 b1;rw[zl8 s t m hd O];obtain⟨b2,b0⟩:=I.mag d0 hi;have z:=fun Y=>zjh s.p s.c s.m t.d t.i Y;rw[b2]at z ⊢;have J:=fun Y (hY:zaq Y p b m)=>zba p b m t.c (s.c+s.p+s.p*16+t.d*s.m+t.i) 0 Y hY b0 (by decide) hs;generalize s.c+s.p+s.p*16+t.d*s.m+t.i=pg at *;have w1:=wrp (t.i+1);have D:t.i+1=s.m\/(¬ t.i+1=s.m/\(t.i+1==s.m)=false):=by
   by_cases h:t.i+1=s.m
   ·exact .inl h
   exact .inr ⟨h,by simpa using h⟩
  dsimp only;obtain⟨E,j,N⟩:∃ E:Ad,Hid (E=if t.i+1=s.m then {t with i:=0,next:=10} else {t with i:=t.i+1})/\E=_:=⟨_,hd' rfl,rfl⟩;rw[<-N];clear N b2 b0 I M hi b7 b1 c0 d0 n0 b5 w4 w7 w9 ba;obtain⟨sp,sc,R⟩:=s;obtain⟨tc,td,o,tw,L,ta,H,pk,pa,pb,C,y⟩:=t;dsimp only at hd O z J j D w1;subst hd O;replace z:=hd' z;replace J:=hd' J;replace D:=hd' D;have lq:=n.lt;obtain⟨c0,c1,c2,c3,c4,c5⟩:=ci6 sp sc R tc td 9 n.cell;have c9:=ci H (n.cell 9);have F:=ce (.bool false) (n.cell 14);go_in;go_upto_region 7 with fail;refine zad 18 (by kernel_rfl) (by kernel_rfl) ?_;dsimp only[List.take,List.drop];repeat (go_big_quiet_step (((go_at_call 136;exact zam (z.out _)))))
  refine wpQuiet_nil ?_;rintro _ ⟨S,rfl⟩;have hZ:=n.below S.below;generalize S.w=Z at *;change wpList _ _ _ _ _ Z;clear lq n c0 c1 c2 c3 c4 c5 c9 F;go_upto_region 9 with(first|(go_at_call 257;(with_reducible refine(J.out _ hZ.wds).mono ?_);rintro r w2 ⟨rfl,b9,b8⟩;have G:=hZ.access b9 b8;have k9:=ci H (G.cell 9);have zf:=G.free));have hB:=G.set 9 (.int .i64 (H+1));generalize World.setCell _ ⟨q,9,.none⟩ (.int .i64 (H+1))=U at *;clear k9 zf G;have lU:=hB.lt;have c2:=ci R (hB.cell 2);have c9:=ci (H+1) (hB.cell 9);refine zaj (by kernel_rfl) (by kernel_rfl) ?_;repeat (go_big_quiet_step (fail))
  refine wpQuiet_nil ?_;rintro _ ⟨S,rfl⟩;have V:=hB.below S.below;generalize S.w=X at *;clear c2 c9;rcases D.out with h1|⟨h1,T⟩
  ·subst h1;replace j:=hd' (j.out.trans (if_pos rfl));clear D;have k5:=ci 9 (V.cell 5);have k9:=ci (H+1) (V.cell 9);have zf:=V.free;go_wp2_with fail;go_returns;exact((V.set 9 _).set 5 _).fin (by rw[j.out];rfl) rfl
  replace j:=hd' (j.out.trans (if_neg h1));clear D h1;go_wp2_with fail;go_returns;exact V.fin (by rw[j.out];rfl) rfl
 case neg=>
  by_cases T:t.next<=2
  ·have hb:=zvq q p b s t m w n I hs hd ⟨l.2.2.2.1.1,T⟩ l.2.2.1 l.2.2.2.2.2.1;obtain⟨E,j⟩:∃ E,E=(za0 s t m).1:=⟨_,rfl⟩;obtain⟨m2,B⟩:∃ m2,m2=(za0 s t m).2:=⟨_,rfl⟩;rw[<-j,<- B]at hb ⊢;clear j B I M hs;obtain⟨sp,sc,R⟩:=s;obtain⟨tc,td,o,tw,L,ta,H,pk,pa,pb,C,y⟩:=t;dsimp only at hd O l T;have hn:=l.2.2.2.1;clear l;subst hd;replace hb:=hd' hb;have c5:=ci o (n.cell 5);have F:=ce (.bool false) (n.cell 14);clear n;rcases(by omega:o=0\/o=1\/o=2) with rfl|rfl|rfl;all_goals go_in;go_wp2_with (go_at_call 295;(with_reducible refine hb.out.mono ?_);rintro r w1 ⟨rfl,G⟩);go_returns;exact G.fin rfl rfl
  by_cases h8:t.next<=8
  ·have hb:=zxp q p b s t m w n I hs M hd ⟨by omega,h8⟩;obtain⟨E,j⟩:∃ E,E=(za0 s t m).1:=⟨_,rfl⟩;obtain⟨m2,B⟩:∃ m2,m2=(za0 s t m).2:=⟨_,rfl⟩;rw[<-j,<- B]at hb ⊢;clear j B I M hs;obtain⟨sp,sc,R⟩:=s;obtain⟨tc,td,o,tw,L,ta,H,pk,pa,pb,C,y⟩:=t;dsimp only at hd O l T h8;have hn:=l.2.2.2.1;clear l;subst hd;replace hb:=hd' hb;have c5:=ci o (n.cell 5);have F:=ce (.bool false) (n.cell 14);clear n;rcases(by omega:o=3\/o=4\/o=5\/o=6\/o=7\/o=8) with rfl|rfl|rfl|rfl|rfl|rfl;all_goals go_in;go_wp2_with (go_at_call 296;(with_reducible refine hb.out.mono ?_);rintro r w1 ⟨rfl,G⟩);go_returns;exact G.fin rfl rfl
  by_cases b6:t.next<=13
  ·have hb:=zyj q p b s t m w n I hs M hd (by omega);obtain⟨E,j⟩:∃ E,E=(za0 s t m).1:=⟨_,rfl⟩;obtain⟨m2,B⟩:∃ m2,m2=(za0 s t m).2:=⟨_,rfl⟩;rw[<-j,<- B]at hb ⊢;clear j B I M hs;obtain⟨sp,sc,R⟩:=s;obtain⟨tc,td,o,tw,L,ta,H,pk,pa,pb,C,y⟩:=t;dsimp only at hd O l T h8 b6;have hn:=l.2.2.2.1;clear l;subst hd;replace hb:=hd' hb;have c5:=ci o (n.cell 5);have F:=ce (.bool false) (n.cell 14);clear n;rcases(by omega:o=10\/o=11\/o=12\/o=13) with rfl|rfl|rfl|rfl;all_goals go_in;go_wp2_with (go_at_call 297;(with_reducible refine hb.out.mono ?_);rintro r w1 ⟨rfl,G⟩);go_returns;exact G.fin rfl rfl
  exact absurd l.2.2.2.1.2 (by omega)
end Go.Proofs.YtkbddndcegpllaaGreat
