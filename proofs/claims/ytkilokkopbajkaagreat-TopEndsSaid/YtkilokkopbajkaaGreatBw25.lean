
import Derived.Test.YtkilokkopbajkaaGreatBw20

import Derived.Test.YtkilokkopbajkaaGreatBw24

set_option linter.all false
set_option maxHeartbeats 4000000
set_option maxRecDepth 100000
namespace Go.Proofs.YtkilokkopbajkaaGreat

open RowKit

attribute [local go_sem ↓] wp_at_zero wp_at_succ

attribute [local go_sem] CA

def Ad.asked (s:Sh) (t:Ad) (x:Int):Ad:=
 if XD x=2 then {t with was:=x,next:=2}
 else if XD x≠3 then ({t with was:=x}:Ad).fin 5
 else if uA s.p s.c s.m (uD x)<0 then ({t with was:=x}:Ad).fin 4
 else {t with was:=x,who:=uD x,next:=1}
theorem z3b(q p b:Nat)(s:Sh)(t:Ad)(m:Mem)(w:World)(h0:At3 q p b w w (CA s t) 252 m)(X:Fits s m)(hs:m.st<1000000000)(hd:0<=t.d/\t.d<s.c):
  Calls Tryz.prog 259 #[some q,some p] w λe w'=>e=.returned (.tuple #[])/\At3 q p b w w' (CA s (t.asked s (m.get (uA s.p s.c s.m t.d)))) 252 (m.load t.c (uA s.p s.c s.m t.d)):=by
 obtain⟨U,T⟩:=X.status hd;have y:=λY=>pC s.p s.c s.m t.d Y;rw[U]at y|-;have D:=λY (hY:oA Y p b m)=>uF p b m t.c t.d Y hY T hs;have z:=λY=>rs2 (m.get t.d) Y (Mem.yF h0.wds.fit _);generalize m.get t.d=x at*;have n:=λY=>pC s.p s.c s.m (uD x) Y;have j:=λe Y (hY:aA Y q (CA s {t with was:=x}) 252)=>fK q s {t with was:=x} e Y hY;clear U T X hd;unfold Ad.asked;obtain⟨t2,i,G⟩:∃t2:Ad,Hid (t2=if XD x=2 then {t with was:=x,next:=2} else if XD x≠3 then({t with was:=x}:Ad).fin 5 else if uA s.p s.c s.m (uD x)<0 then({t with was:=x}:Ad).fin 4 else {t with was:=x,who:=uD x,next:=1})/\t2=_:=⟨_,hd' rfl,rfl⟩;rw[<-G];clear G;generalize XD x=k at*;generalize uD x=A at*;generalize uA s.p s.c s.m A=Z at*;obtain⟨sp,sc,sm⟩:=s;obtain⟨tc,td,tn,tw,L,ta,ti,pk,pa,pb,E,o⟩:=t;dsimp only at y D n j i|-;replace y:=hd' y;replace D:=hd' D;replace z:=hd' z;replace n:=hd' n;replace j:=hd' j;have b1:k=2\/((k==2)=false/\(k==3)=false)\/(k=3/\Z<0)\/(k=3/\¬Z<0):=by
  by_cases h1:k=2
  .exact .inl h1
  by_cases h2:k=3
  .by_cases h3:Z<0
   .exact .inr (.inr (.inl ⟨h2,h3⟩))
   exact .inr (.inr (.inr ⟨h2,h3⟩))
  exact .inr (.inl ⟨by simpa using h1,by simpa using h2⟩)
 have R:=h0;clear h0;have lw:=R.lt;go_in;go_upto_region 0 with fail
 refine IL 18 (last:={dst:=none,op:=Op.store 118 (Operand.tmp 23) (Operand.tmp 21),type:=0,pos:=_,after:=_,guard:=none}) (x:=MA 2) (ld:=15) (v:=.int .u64 x) (ts:=[7,11,20])
  (K0:=λY=>At3 q p b w Y (CA ⟨sp,sc,sm⟩ ⟨tc,td,tn,tw,L,ta,ti,pk,pa,pb,E,o⟩) 252 m) (K1:=λY=>At3 q p b w Y (CA ⟨sp,sc,sm⟩ ⟨tc,td,tn,tw,L,ta,ti,pk,pa,pb,E,o⟩) 252 (m.load tc td))
  (by kernel_rfl) rfl (by kernel_rfl) (by simp only[List.take,MA,LD,TC,nopO,nopC,Nat.reduceBEq,Bool.or_false,Bool.or_true,Bool.false_eq_true,↓reduceIte,Nat.reduceAdd];exact rfl) (by kernel_rfl) (by kernel_rfl) (by kernel_rfl) (by simp[MA]) (by simp[MA]) (by simp[MA]) (by simp[MA]) (by kernel_rfl) (by simp[MA]) (by simp[MA])
  ⟨⟨λY Y' h1 h2 h3=>h1.far h2 h3 R.only.size⟩,⟨λY Y' h1 h2 h3=>h1.far h2 h3 R.only.size⟩⟩ R.drew ?_
 apply Exists.intro;refine⟨λB hb hs=>?_,λh=>(by simp[MA]at h),λQ0=>?_,?_⟩;case refine_1=>
  have V:aA B q (CA ⟨sp,sc,sm⟩ ⟨tc,td,tn,tw,L,ta,ti,pk,pa,pb,E,o⟩) 252:=hb.elim (λh=>h.row) (λh=>h.row);have lB:=V.lt;have b6:=V.cell;repeat (go_big_quiet_step (((go_at_call 44;exact AA (y _)))))
  exact wpQuiet_nil rfl
 case refine_2=>exact vF rfl (λ_ _=>by simp[go_sem]) λY H hs=>(D Y H.wds).mono λr Y' ⟨h1,h2,h3⟩=>⟨h1,H.load h2 h3,h3.weak λk hk=>hk▸Nat.lt_of_lt_of_le H.ls.2.1 R.only.size⟩
 case refine_3=>
  intro a w4 M X;obtain⟨rfl,b4,F,_⟩:=X;have b0:=F.cell;have zf:=F.free;have N:=F.set 6 (.int .u64 x);simp only[MA,vput,List.take,List.size_toArray,List.length_cons,List.length_nil,Nat.reduceAdd,Nat.reduceLT,decide_false,Bool.false_eq_true,if_false];clear F R D y;go_upto_region 1 with fail;generalize World.setCell _ ⟨q,6,.none⟩ (.int .u64 x)=Y at*;clear b0 zf;have lY:=N.lt;have b7:=N.cell;rcases b1 with rfl|⟨b2,b3⟩|⟨rfl,J⟩|⟨rfl,J⟩
  .replace i:=hd' (i.out.trans (jP rfl));clear j n;go_wp2_with (first|(go_at_call 101;refine(z _).mono ?_;rintro r w1 ⟨rfl,l⟩;have C:=N.below l;have b8:=C.cell;have zf:=C.free));go_returns;exact⟨rfl,by rw[i];exact C.set 5 _⟩
  .replace i:=hd' ((i.out.trans (jN (by simpa using b2))).trans (jP (by simpa using b3)));clear n;go_wp2_with (first|(go_at_call 101;refine(z _).mono ?_;rintro r w1 ⟨rfl,l⟩;have C:=N.below l)|(go_at_call 152;(with_reducible refine(j _ _ C.row).mono ?_);rintro r w3 S;obtain rfl:=S.ret));go_returns;exact⟨rfl,by rw[i];exact C.turned S⟩
  .replace i:=hd' (((i.out.trans (jN (by decide))).trans (jN (by decide))).trans (jP J));go_wp2_with (first|(go_at_call 101;refine(z _).mono ?_;rintro r w1 ⟨rfl,l⟩;have C:=N.below l;have b9:=C.cell)|(go_at_call 44;refine(n _).mono ?_;rintro r w2 ⟨rfl,I⟩;have O:=C.below I)|(go_at_call 152;(with_reducible refine(j _ _ O.row).mono ?_);rintro r w3 S;obtain rfl:=S.ret));go_returns;exact⟨rfl,by rw[i];exact O.turned S⟩
  replace i:=hd' (((i.out.trans (jN (by decide))).trans (jN (by decide))).trans (jN J));clear j;have b5:0<=Z:=by omega
  go_wp2_with (first|(go_at_call 101;refine(z _).mono ?_;rintro r w1 ⟨rfl,l⟩;have C:=N.below l;have ba:=C.cell)|(go_at_call 44;refine(n _).mono ?_;rintro r w2 ⟨rfl,I⟩;have O:=C.below I;have bb:=O.cell;have zf:=O.free));go_returns;exact⟨rfl,by rw[i];exact(O.set 7 _).set 5 _⟩
theorem vM(s:Sh)(t:Ad)(m:Mem)(h:t.done=false)(h0:t.next=0):EA s t m=(t.asked s (m.get (uA s.p s.c s.m t.d)),m.load t.c (uA s.p s.c s.m t.d)):=by
 unfold EA Ad.asked;simp[h,h0]
theorem NM(s:Sh)(t:Ad)(m:Mem)(h:t.done=false)(h0:t.next=1):EA s t m=(if XD (m.get (uA s.p s.c s.m t.who))=1 then({t with next:=2}:Ad).fin 4 else {t with next:=2},m.load t.c (uA s.p s.c s.m t.who)):=by
 unfold EA;simp[h,h0]
theorem GM(s:Sh)(t:Ad)(m:Mem)(h:t.done=false)(h0:t.next=2):EA s t m=(if m.get (uA s.p s.c s.m t.d)=t.was then {t with next:=3} else({t with next:=3}:Ad).fin 4,m.swap t.c (uA s.p s.c s.m t.d) t.was (ZA 3 t.c)):=by
 unfold EA;simp[h,h0]
theorem zvq(q p b:Nat)(s:Sh)(t:Ad)(m:Mem)(w:World)(h0:At3 q p b w w (CA s t) 252 m)(S:Fits s m)(hs:m.st<1000000000)(y:t.done=false)(hn:0<=t.next/\t.next<=2)(hd:0<=t.d/\t.d<s.c)(hw:t.next=1->0<=t.who/\t.who<s.c):
  Calls Tryz.prog 256 #[some q,some p] w λe w'=>e=.returned (.tuple #[])/\At3 q p b w w' (CA s (EA s t m).1) 252 (EA s t m).2:=by
 rcases(by omega:t.next=0\/t.next=1\/t.next=2) with b1|U|b2
 .rw[vM s t m y b1];have E:=z3b q p b s t m w h0 S hs hd;obtain⟨G,i⟩:∃G,G=t.asked s (m.get (uA s.p s.c s.m t.d)):=⟨_,rfl⟩;obtain⟨m2,b0⟩:∃m2,m2=m.load t.c (uA s.p s.c s.m t.d):=⟨_,rfl⟩;rw[<-i,<- b0]at E;dsimp only;rw[<-i,<- b0];clear i b0 hd hw S hs hn;obtain⟨sp,sc,sm⟩:=s;obtain⟨O,X,tn,Z,z,ta,ti,pk,pa,pb,n,R⟩:=t;dsimp only at y b1;subst y b1;replace E:=hd' E;have b6:=h0.cell;clear h0;go_in;go_wp2_with (go_at_call 259;(with_reducible refine E.out.mono ?_);rintro r w1 ⟨rfl,T⟩);go_returns;exact⟨rfl,T⟩
 .rw[NM s t m y U];obtain⟨L,I⟩:=S.status (hw U);have l:=λY=>pC s.p s.c s.m t.who Y;rw[L]at l|-;have H:=λY (hY:oA Y p b m)=>uF p b m t.c t.who Y hY I hs;have V:=λY=>rs2 (m.get t.who) Y (Mem.yF h0.wds.fit _);generalize m.get t.who=x at*;have j:=λY (hY:aA Y q (CA s {t with next:=2}) 252)=>fK q s {t with next:=2} 4 Y hY;obtain⟨G,i,D⟩:∃G:Ad,Hid (G=if XD x=1 then({t with next:=2}:Ad).fin 4 else {t with next:=2})/\G=_:=⟨_,hd' rfl,rfl⟩;dsimp only;rw[<-D];clear D L I S hd hw hn;generalize XD x=k at*;generalize uD x=A at*;obtain⟨sp,sc,sm⟩:=s;obtain⟨O,X,tn,Z,z,ta,ti,pk,pa,pb,n,R⟩:=t;dsimp only at l H j i y U;subst y U;replace l:=hd' l;replace H:=hd' H;replace V:=hd' V;replace j:=hd' j;have b7:=h0.cell;go_in;go_upto_region 7 with fail
  refine wrl (x:=MA 2) (ld:=14) (v:=.int .u64 x) (ts:=[48,52,61])
   (K0:=λY=>At3 q p b w Y (CA ⟨sp,sc,sm⟩ ⟨O,X,1,Z,z,ta,ti,pk,pa,pb,n,false⟩) 252 m) (K1:=λY=>At3 q p b w Y (CA ⟨sp,sc,sm⟩ ⟨O,X,1,Z,z,ta,ti,pk,pa,pb,n,false⟩) 252 (m.load O z))
   ⟨⟨λY Y' h1 h2 h3=>h1.far h2 h3 h0.only.size⟩,⟨λY Y' h1 h2 h3=>h1.far h2 h3 h0.only.size⟩⟩ h0.drew ?_
  apply Exists.intro;refine⟨λB hb hs=>?_,λh=>(by simp[MA]at h),?_,?_⟩;case refine_1=>
   have N:aA B q (CA ⟨sp,sc,sm⟩ ⟨O,X,1,Z,z,ta,ti,pk,pa,pb,n,false⟩) 252:=hb.elim (λh=>h.row) (λh=>h.row);have lB:=N.lt;have b8:=N.cell;repeat (go_big_quiet_step ((first|(go_at_call 44;exact AA (l _))|(go_at_call 101;exact AA (V _)))))
   exact wpQuiet_nil rfl
  case refine_2=>exact vF rfl (λ_ _=>by simp[go_sem]) λY C hs=>(H Y C.wds).mono λr Y' ⟨h1,h2,h3⟩=>⟨h1,C.load h2 h3,h3.weak λk hk=>hk▸Nat.lt_of_lt_of_le C.ls.2.1 h0.only.size⟩
  case refine_3=>
   intro a w4 M S;obtain⟨rfl,b4,T,_⟩:=S;simp only[MA,vput,List.size_toArray,List.length_cons,List.length_nil,Nat.reduceAdd,Nat.reduceLT,decide_false,Bool.false_eq_true,if_false];have b9:=T.cell;have zf:=T.free;have hB:=T.set 5 (.int .i64 2);clear h0 H l V;rcases(by by_cases h:k=1<;>simp[h]:k=1\/(k≠1/\(k==1)=false)) with rfl|⟨hk,hk2⟩
   .replace i:=hd' (i.out.trans (jP rfl));go_wp2_with (go_at_call 152;(with_reducible refine(j _ hB.row).mono ?_);rintro r w3 hT;obtain rfl:=hT.ret);go_returns;exact⟨rfl,by rw[i];exact hB.turned hT⟩
   replace i:=hd' (i.out.trans (jN hk));clear j;go_wp2_with fail;go_returns;exact⟨rfl,by rw[i];exact hB⟩
 rw[GM s t m y b2];obtain⟨L,I⟩:=S.status hd;have l:=λY=>pC s.p s.c s.m t.d Y;rw[L]at l|-;have J:=λY=>YJ 3 t.c Y;have F:=λY (hY:oA Y p b m)=>WH p b m t.c t.d t.was (ZA 3 t.c) Y hY I (QH _ _) hs;have j:=λY (hY:aA Y q (CA s {t with next:=3}) 252)=>fK q s {t with next:=3} 4 Y hY;obtain⟨G,i,D⟩:∃G:Ad,Hid (G=if m.get t.d=t.was then {t with next:=3} else({t with next:=3}:Ad).fin 4)/\G=_:=⟨_,hd' rfl,rfl⟩;dsimp only;rw[<-D];obtain⟨sb,b3⟩:∃sb,sb=decide (m.get t.d=t.was):=⟨_,rfl⟩;rw[<-b3]at F;have o:(sb=true/\G={t with next:=3})\/(sb=false/\G=({t with next:=3}:Ad).fin 4):=by rw[b3,i];by_cases h:m.get t.d=t.was<;>simp[h]
 clear D L I S hd hw hn i b3;obtain⟨sp,sc,sm⟩:=s;obtain⟨O,X,tn,Z,z,ta,ti,pk,pa,pb,n,R⟩:=t;dsimp only at l J F j o y b2|-;subst y b2;replace l:=hd' l;replace J:=hd' J;replace F:=hd' F;replace j:=hd' j;replace o:=hd' o;have b5:=h0.cell;have zf:=h0.free;go_in;go_upto_region 2 with fail;have hX:=h0.set 5 (.int .i64 3);generalize World.setCell _ ⟨q,5,.none⟩ (.int .i64 3)=W at*;clear h0 b5 zf
 refine wrl (x:=MA 2) (ld:=23) (v:=.bool sb) (ts:=[13,17,26,30,35])
  (K0:=λY=>At3 q p b w Y (CA ⟨sp,sc,sm⟩ ⟨O,X,3,Z,z,ta,ti,pk,pa,pb,n,false⟩) 252 m) (K1:=λY=>At3 q p b w Y (CA ⟨sp,sc,sm⟩ ⟨O,X,3,Z,z,ta,ti,pk,pa,pb,n,false⟩) 252 (m.swap O X Z (ZA 3 O)))
  ⟨⟨λY Y' h1 h2 h3=>h1.far h2 h3 hX.only.size⟩,⟨λY Y' h1 h2 h3=>h1.far h2 h3 hX.only.size⟩⟩ hX.drew ?_
 apply Exists.intro;refine⟨λB hb hs=>?_,λh=>(by simp[MA]at h),?_,?_⟩;case refine_1=>
  have N:aA B q (CA ⟨sp,sc,sm⟩ ⟨O,X,3,Z,z,ta,ti,pk,pa,pb,n,false⟩) 252:=hb.elim (λh=>h.row) (λh=>h.row);have lB:=N.lt;have ba:=N.cell;repeat (go_big_quiet_step ((first|(go_at_call 44;exact AA (l _))|(go_at_call 100;exact AA (J _)))))
  exact wpQuiet_nil rfl
 case refine_2=>exact vF rfl (λ_ _=>by simp[go_sem]) λY C hs=>(F Y C.wds).mono λr Y' ⟨h1,h2,h3⟩=>⟨h1,C.access h2 h3,h3.weak λk hk=>hk.elim (λe=>e▸Nat.lt_of_lt_of_le C.ls.2.1 hX.only.size) (λe=>e▸Nat.lt_of_lt_of_le C.ls.2.2 hX.only.size)⟩
 case refine_3=>
  intro a w4 M S;obtain⟨rfl,b4,T,_⟩:=S;simp only[MA,vput,List.size_toArray,List.length_cons,List.length_nil,Nat.reduceAdd,Nat.reduceLT,decide_false,Bool.false_eq_true,if_false];clear hX F l J;rcases o.out with⟨rfl,i⟩|⟨rfl,i⟩
  .replace i:=hd' i;clear o j;go_wp2_with fail;go_returns;exact⟨rfl,by rw[i];exact T⟩
  replace i:=hd' i;clear o;go_wp2_with (go_at_call 152;(with_reducible refine(j _ T.row).mono ?_);rintro r w3 hT;obtain rfl:=hT.ret);go_returns;exact⟨rfl,by rw[i];exact T.turned hT⟩
theorem DM(s:Sh)(t:Ad)(m:Mem)(h:t.done=false)(h0:t.next=9):EA s t m=(if t.i+1=s.m then {t with i:=0,next:=10} else {t with i:=t.i+1},m.store t.c (kC s.p s.c s.m t.d t.i) 0):=by
 unfold EA;simp[h,h0]
theorem DP(s:Sh)(t:Ad)(m:Mem)(h:t.done=true):EA s t m=(t,m):=by
 unfold EA;simp[h]
structure adOk (s:Sh) (t:Ad):Prop where
 cl:t.done=false->mayB s.p s.c s.m=true/\(0<=t.c/\t.c<s.c)/\(0<=t.d/\t.d<s.c)/\(0<=t.next/\t.next<=13)/\(0<=t.at'/\t.at'<s.p)/\(t.next=1->0<=t.who/\t.who<s.c)/\(t.next=4->0<=t.pa/\t.pa<s.p)/\
  (t.next=7->0<=t.i/\t.i<16)/\(t.next=9->0<=t.i/\t.i<s.m)/\(t.next=11\/t.next=12->0<mA t.pa/\0<=t.i/\t.i<mA t.pa)
theorem QI{s:Sh}(t:Ad)(e:Int):adOk s (t.fin e):=⟨λh=>by cases h⟩
theorem z7f(s:Sh)(c d:Int):adOk s (qD s c d):=by
 unfold qD;dsimp only;split
 .exact QI _ _
 rename_i h;have h1:=sD (by omega:0<=uA s.p s.c s.m c);have h2:=sD (by omega:0<=uA s.p s.c s.m d);have hb:=JA.1 h1.1;exact⟨λ_=>⟨h1.1,h1.2,h2.2,by dsimp only;omega,by dsimp only;omega,λe=>by dsimp only at e;omega,λe=>by dsimp only at e;omega,λe=>by dsimp only at e;omega,λe=>by dsimp only at e;omega,λe=>by dsimp only at e;omega⟩⟩
theorem LW{s:Sh}{t:Ad}{again next:Int}(h1:mayB s.p s.c s.m=true)(h2:0<=t.c/\t.c<s.c)(h3:0<=t.d/\t.d<s.c)(h4:0<=t.at'/\t.at'<s.p)(j:again=3\/again=6\/again=10)(l:next=6\/next=9\/next=13):adOk s (t.turn s again next):=by
 have hb:=JA.1 h1;have i:=bQ s t again next
 simp only[beq_eq_false_iff_ne,ne_eq]at i;rcases i with⟨k1,b,f,e⟩|⟨k1,b,f,e⟩|⟨k1,b,e⟩|⟨k1,b,f,e⟩|⟨k1,b,f,e⟩|⟨k1,b,e⟩;all_goals
  rw[e];refine⟨λ_=>⟨h1,h2,h3,?_,?_,λe=>?_,λe=>?_,λe=>?_,λe=>?_,λe=>?_⟩⟩;all_goals try dsimp only at e
  all_goals dsimp only
  all_goals omega
theorem HW{s:Sh}{t:Ad}(h1:mayB s.p s.c s.m=true)(h2:0<=t.c/\t.c<s.c)(h3:0<=t.d/\t.d<s.c)(h4:0<=t.at'/\t.at'<s.p)(b:0<mA t.pa/\0<=t.i/\t.i<mA t.pa):adOk s (t.slot s):=by
 unfold Ad.slot;split
 .exact LW h1 h2 h3 h4 (.inr (.inr rfl)) (.inr (.inr rfl))
 refine⟨λ_=>⟨h1,h2,h3,?_,h4,λe=>?_,λe=>?_,λe=>?_,λe=>?_,λe=>?_⟩⟩;all_goals try dsimp only at e
 all_goals dsimp only
 all_goals omega
theorem z0s{s:Sh}{t:Ad}(m:Mem)(h:adOk s t):adOk s (EA s t m).1:=by
 rcases jB t.done with hd|hd
 .rw[DP s t m hd];exact h
 obtain⟨h1,h2,h3,h4,l,c1,c4,c7,c9,f⟩:=h.cl hd;have hb:=JA.1 h1;have b:∀(u:Ad),u.c=t.c->u.d=t.d->u.at'=t.at'->(0<=u.next/\u.next<=13)->u.next≠1->u.next≠4->(u.next=7->0<=u.i/\u.i<16)->(u.next=9->0<=u.i/\u.i<s.m)->(u.next=11\/u.next=12->0<mA u.pa/\0<=u.i/\u.i<mA u.pa)->adOk s u:=λu q y z C D E F G r=>⟨λ_=>⟨h1,by rw[q];exact h2,by rw[y];exact h3,C,by rw[z];exact l,λe=>absurd e D,λe=>absurd e E,F,G,r⟩⟩
 have turn:∀(u:Ad) again next,u.c=t.c->u.d=t.d->u.at'=t.at'->(again=3\/again=6\/again=10)->(next=6\/next=9\/next=13)->adOk s (u.turn s again next):=λu a n q y z H I=>LW h1 (by rw[q];exact h2) (by rw[y];exact h3) (by rw[z];exact l) H I
 rcases(by omega:t.next=0\/t.next=1\/t.next=2\/t.next=3\/t.next=4\/t.next=5\/t.next=6\/t.next=7\/t.next=8\/t.next=9\/t.next=10\/t.next=11\/t.next=12\/t.next=13) with n|n|n|n|n|n|n|n|n|n|n|n|n|n
 .rw[vM s t m hd n];unfold Ad.asked;dsimp only;split
  .exact b _ rfl rfl rfl (by dsimp only;omega) (by dsimp only;omega) (by dsimp only;omega) (λe=>by dsimp only at e;omega) (λe=>by dsimp only at e;omega) (λe=>by dsimp only at e;omega)
  split
  .exact QI _ _
  split
  .exact QI _ _
  rename_i B;have B:=sD (by omega:0<=uA s.p s.c s.m (uD (m.get (uA s.p s.c s.m t.d))));exact⟨λ_=>⟨h1,h2,h3,by dsimp only;omega,l,λ_=>B.2,λe=>by dsimp only at e;omega,λe=>by dsimp only at e;omega,λe=>by dsimp only at e;omega,λe=>by dsimp only at e;omega⟩⟩
 .rw[NM s t m hd n];dsimp only;split
  .exact QI _ _
  exact b _ rfl rfl rfl (by dsimp only;omega) (by dsimp only;omega) (by dsimp only;omega) (λe=>by dsimp only at e;omega) (λe=>by dsimp only at e;omega) (λe=>by dsimp only at e;omega)
 .rw[GM s t m hd n];dsimp only;split
  .exact b _ rfl rfl rfl (by dsimp only;omega) (by dsimp only;omega) (by dsimp only;omega) (λe=>by dsimp only at e;omega) (λe=>by dsimp only at e;omega) (λe=>by dsimp only at e;omega)
  exact QI _ _
 .rw[CM s t m hd n];dsimp only;split
  .rename_i o;have j:=(WM s t.at' (m.get (pA s.p s.c s.m t.at')) 4).2 o;have J:=zpu j.1 j.2;refine⟨λ_=>⟨h1,h2,h3,by dsimp only;omega,l,λe=>by dsimp only at e;omega,λ_=>?_,λe=>by dsimp only at e;omega,λe=>by dsimp only at e;omega,λe=>by dsimp only at e;omega⟩⟩;show 0<=pgP s t.at' (m.get (pA s.p s.c s.m t.at')) 0/\pgP s t.at' (m.get (pA s.p s.c s.m t.at')) 0<s.p;unfold pgP;rw[jP o.1];omega
  exact turn _ _ _ rfl rfl rfl (.inl rfl) (.inl rfl)
 .rw[KM s t m hd n];dsimp only;split
  .exact b _ rfl rfl rfl (by dsimp only;omega) (by dsimp only;omega) (by dsimp only;omega) (λe=>by dsimp only at e;omega) (λe=>by dsimp only at e;omega) (λe=>by dsimp only at e;omega)
  exact turn _ _ _ rfl rfl rfl (.inl rfl) (.inl rfl)
 .rw[AM s t m hd n];exact turn _ _ _ rfl rfl rfl (.inl rfl) (.inl rfl)
 .rw[OM s t m hd n];dsimp only;split
  .exact b _ rfl rfl rfl (by dsimp only;omega) (by dsimp only;omega) (by dsimp only;omega) (λe=>by dsimp only;omega) (λe=>by dsimp only at e;omega) (λe=>by dsimp only at e;omega)
  exact turn _ _ _ rfl rfl rfl (.inr (.inl rfl)) (.inr (.inl rfl))
 .rw[xM s t m hd n];have c7:=c7 n;dsimp only;split
  .exact b _ rfl rfl rfl (by dsimp only;omega) (by dsimp only;omega) (by dsimp only;omega) (λe=>by dsimp only at e;omega) (λe=>by dsimp only at e;omega) (λe=>by dsimp only at e;omega)
  exact b _ rfl rfl rfl (by dsimp only;omega) (by dsimp only;omega) (by dsimp only;omega) (λe=>by dsimp only;omega) (λe=>by dsimp only at e;omega) (λe=>by dsimp only at e;omega)
 .rw[BM s t m hd n];exact turn _ _ _ rfl rfl rfl (.inr (.inl rfl)) (.inr (.inl rfl))
 .rw[DM s t m hd n];have c9:=c9 n;dsimp only;split
  .exact b _ rfl rfl rfl (by dsimp only;omega) (by dsimp only;omega) (by dsimp only;omega) (λe=>by dsimp only at e;omega) (λe=>by dsimp only at e;omega) (λe=>by dsimp only at e;omega)
  exact b _ rfl rfl rfl (by dsimp only;omega) (by dsimp only;omega) (by dsimp only;omega) (λe=>by dsimp only at e;omega) (λe=>by dsimp only;omega) (λe=>by dsimp only at e;omega)
 .rw[iM s t m hd n];dsimp only;split
  .rename_i o;have j:=(WM s t.at' (m.get (pA s.p s.c s.m t.at')) 2).2 o;have J:=(QJ j.1 j.2).2.2;refine b _ rfl rfl rfl (by dsimp only;omega) (by dsimp only;omega) (by dsimp only;omega) (λe=>by dsimp only at e;omega) (λe=>by dsimp only at e;omega) (λ_=>?_);show 0<mA (pgP s t.at' (m.get (pA s.p s.c s.m t.at')) 0)/\(0:Int)<=0/\0<mA (pgP s t.at' (m.get (pA s.p s.c s.m t.at')) 0);unfold pgP;rw[jP o.1];omega
  exact turn _ _ _ rfl rfl rfl (.inr (.inr rfl)) (.inr (.inr rfl))
 .rw[mM s t m hd n];have f:=f (.inl n);dsimp only;split
  .exact b _ rfl rfl rfl (by dsimp only;omega) (by dsimp only;omega) (by dsimp only;omega) (λe=>by dsimp only at e;omega) (λe=>by dsimp only at e;omega) (λ_=>f)
  exact HW h1 h2 h3 l f
 .rw[qM s t m hd n];exact HW h1 h2 h3 l (f (.inr n))
 rw[dM s t m hd n];exact QI _ _
theorem zxp(q p b:Nat)(s:Sh)(t:Ad)(m:Mem)(w:World)(h0:At3 q p b w w (CA s t) 252 m)(l:Fits s m)(hs:m.st<1000000000)(r:adOk s t)(i:t.done=false)(y:3<=t.next/\t.next<=8):
  Calls Tryz.prog 257 #[some q,some p] w λe w'=>e=.returned (.tuple #[])/\At3 q p b w w' (CA s (EA s t m).1) 252 (EA s t m).2:=by
 obtain⟨h1,h2,h3,h4,j,c1,c4,c7,c9,o⟩:=r.cl i;rcases(by omega:t.next=3\/t.next=4\/t.next=5\/t.next=6\/t.next=7\/t.next=8) with n|n|n|n|n|n
 .exact z9q q p b s t m w h0 l hs i n j
 .exact AY q p b s t m w h0 l hs i n j c4
 .exact z9w q p b s t m w h0 l hs i n j
 .exact RY q p b s t m w h0 l hs i n j
 .exact DY q p b s t m w h0 l hs i n j (c7 n)
 exact HY q p b s t m w h0 l hs i n j
theorem zyj(q p b:Nat)(s:Sh)(t:Ad)(m:Mem)(w:World)(h0:At3 q p b w w (CA s t) 252 m)(o:Fits s m)(hs:m.st<1000000000)(y:adOk s t)(j:t.done=false)(z:10<=t.next):
  Calls Tryz.prog 258 #[some q,some p] w λe w'=>e=.returned (.tuple #[])/\At3 q p b w w' (CA s (EA s t m).1) 252 (EA s t m).2:=by
 obtain⟨h1,h2,h3,h4,l,c1,c4,c7,c9,r⟩:=y.cl j;have hi:t.next=11\/t.next=12->0<=t.i/\t.i<16:=λe=>by have h:=r e;have:=UD h.1;omega
 rcases(by omega:t.next=10\/t.next=11\/t.next=12\/t.next=13) with n|n|n|n
 .exact z7h q p b s t m w h0 o hs j n l
 .exact z7x q p b s t m w h0 o hs j n l (hi (.inl n))
 .exact z6v q p b s t m w h0 o hs j n l (hi (.inr n))
 exact z7k q p b s t m w h0 o hs j n l h3
theorem zyd(q p b:Nat)(s:Sh)(t:Ad)(m:Mem)(w:World)(hq:aA w q (CA s t) 252)(hw:oA w p b m)(b2:q≠p)(b0:q≠b)(H:Fits s m)(L:adOk s t)(hs:m.st<1000000000):
  Calls Tryz.prog 254 #[some q,some p] w λe w'=>Stepped q p b w w' e (CA s (EA s t m).1) 252 (EA s t m).2:=by
 have h0:=At3.start hq hw b2 b0;clear hq hw b2 b0;rcases jB t.done with hd|hd
 .rw[DP s t m hd];obtain⟨sp,sc,R⟩:=s;obtain⟨tc,td,n,tw,J,ta,G,pk,pa,pb,B,o⟩:=t;dsimp only at hd;subst hd;have E:=ce (.bool true) (h0.cell 14);clear H L hs;go_in;go_wp2_with fail;go_returns;exact h0.fin rfl rfl
 have l:=L.cl hd;by_cases O:t.next=9;case pos=>
  obtain⟨b1,c0,d0,n0,b3,w1,w4,w7,w9,b8⟩:=l;have hi:=w9 O;have b5:=JA.1 b1;rw[DM s t m hd O];obtain⟨V,T⟩:=H.mag d0 hi;have y:=λY=>gM s.p s.c s.m t.d t.i Y;rw[V]at y|-;have I:=λY (hY:oA Y p b m)=>tC p b m t.c (s.c+s.p+s.p*16+t.d*s.m+t.i) 0 Y hY T (by decide) hs;generalize s.c+s.p+s.p*16+t.d*s.m+t.i=pg at*;have w1:=wrp (t.i+1);have C:t.i+1=s.m\/(¬t.i+1=s.m/\(t.i+1==s.m)=false):=by
   by_cases h:t.i+1=s.m
   .exact .inl h
   exact .inr ⟨h,by simpa using h⟩
  dsimp only;obtain⟨D,j,M⟩:∃D:Ad,Hid (D=if t.i+1=s.m then {t with i:=0,next:=10} else {t with i:=t.i+1})/\D=_:=⟨_,hd' rfl,rfl⟩;rw[<-M];clear M V T H L hi b5 b1 c0 d0 n0 b3 w4 w7 w9 b8;obtain⟨sp,sc,R⟩:=s;obtain⟨tc,td,n,tw,J,ta,G,pk,pa,pb,B,o⟩:=t;dsimp only at hd O y I j C w1;subst hd O;replace y:=hd' y;replace I:=hd' I;replace C:=hd' C;have lq:=h0.lt;obtain⟨c0,c1,c2,c3,c4,c5⟩:=ci6 sp sc R tc td 9 h0.cell;have c9:=ci G (h0.cell 9);have E:=ce (.bool false) (h0.cell 14);go_in;go_upto_region 7 with fail;refine wret 18 ?_;repeat (go_big_quiet_step (((go_at_call 118;exact AA (y _)))))
  refine wqn λZ N=>?_;have hZ:=h0.below N;clear lq h0 c0 c1 c2 c3 c4 c5 c9 E;go_upto_region 9 with(first|(go_at_call 218;(with_reducible refine(I _ hZ.wds).mono ?_);rintro r w2 ⟨rfl,b7,b6⟩;have F:=hZ.access b7 b6;have k9:=ci G (F.cell 9);have zf:=F.free));have hB:=F.set 9 (.int .i64 (G+1));generalize World.setCell _ ⟨q,9,.none⟩ (.int .i64 (G+1))=U at*;clear k9 zf F;have lU:=hB.lt;have c2:=ci R (hB.cell 2);have c9:=ci (G+1) (hB.cell 9);refine wre ?_;repeat (go_big_quiet_step (fail))
  refine wqn λX N=>?_;have S:=hB.below N;clear c2 c9;rcases C.out with h1|⟨h1,h2⟩
  .subst h1;replace j:=hd' (j.out.trans (jP rfl));clear C;have k5:=ci 9 (S.cell 5);have k9:=ci (G+1) (S.cell 9);have zf:=S.free;go_wp2_with fail;go_returns;exact((S.set 9 _).set 5 _).fin (by rw[j];rfl) rfl
  replace j:=hd' (j.out.trans (jN h1));clear C h1;go_wp2_with fail;go_returns;exact S.fin (by rw[j];rfl) rfl
 case neg=>
  by_cases h2:t.next<=2
  .have hb:=zvq q p b s t m w h0 H hs hd ⟨l.2.2.2.1.1,h2⟩ l.2.2.1 l.2.2.2.2.2.1;obtain⟨D,j⟩:∃D,D=(EA s t m).1:=⟨_,rfl⟩;obtain⟨m2,z⟩:∃m2,m2=(EA s t m).2:=⟨_,rfl⟩;rw[<-j,<- z]at hb|-;clear j z H L hs;obtain⟨sp,sc,R⟩:=s;obtain⟨tc,td,n,tw,J,ta,G,pk,pa,pb,B,o⟩:=t;dsimp only at hd O l h2;have hn:=l.2.2.2.1;clear l;subst hd;replace hb:=hd' hb;have c5:=ci n (h0.cell 5);have E:=ce (.bool false) (h0.cell 14);clear h0;rcases(by omega:n=0\/n=1\/n=2) with rfl|rfl|rfl;all_goals go_in;go_wp2_with (go_at_call 256;(with_reducible refine hb.out.mono ?_);rintro r w1 ⟨rfl,F⟩);go_returns;exact F.fin rfl rfl
  by_cases h8:t.next<=8
  .have hb:=zxp q p b s t m w h0 H hs L hd ⟨by omega,h8⟩;obtain⟨D,j⟩:∃D,D=(EA s t m).1:=⟨_,rfl⟩;obtain⟨m2,z⟩:∃m2,m2=(EA s t m).2:=⟨_,rfl⟩;rw[<-j,<- z]at hb|-;clear j z H L hs;obtain⟨sp,sc,R⟩:=s;obtain⟨tc,td,n,tw,J,ta,G,pk,pa,pb,B,o⟩:=t;dsimp only at hd O l h2 h8;have hn:=l.2.2.2.1;clear l;subst hd;replace hb:=hd' hb;have c5:=ci n (h0.cell 5);have E:=ce (.bool false) (h0.cell 14);clear h0;rcases(by omega:n=3\/n=4\/n=5\/n=6\/n=7\/n=8) with rfl|rfl|rfl|rfl|rfl|rfl;all_goals go_in;go_wp2_with (go_at_call 257;(with_reducible refine hb.out.mono ?_);rintro r w1 ⟨rfl,F⟩);go_returns;exact F.fin rfl rfl
  by_cases b4:t.next<=13
  .have hb:=zyj q p b s t m w h0 H hs L hd (by omega);obtain⟨D,j⟩:∃D,D=(EA s t m).1:=⟨_,rfl⟩;obtain⟨m2,z⟩:∃m2,m2=(EA s t m).2:=⟨_,rfl⟩;rw[<-j,<- z]at hb|-;clear j z H L hs;obtain⟨sp,sc,R⟩:=s;obtain⟨tc,td,n,tw,J,ta,G,pk,pa,pb,B,o⟩:=t;dsimp only at hd O l h2 h8 b4;have hn:=l.2.2.2.1;clear l;subst hd;replace hb:=hd' hb;have c5:=ci n (h0.cell 5);have E:=ce (.bool false) (h0.cell 14);clear h0;rcases(by omega:n=10\/n=11\/n=12\/n=13) with rfl|rfl|rfl|rfl;all_goals go_in;go_wp2_with (go_at_call 258;(with_reducible refine hb.out.mono ?_);rintro r w1 ⟨rfl,F⟩);go_returns;exact F.fin rfl rfl
  exact absurd l.2.2.2.1.2 (by omega)
end Go.Proofs.YtkilokkopbajkaaGreat
