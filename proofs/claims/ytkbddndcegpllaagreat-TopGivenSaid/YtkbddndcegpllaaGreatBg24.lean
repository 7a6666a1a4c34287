/- Texts bound together: RwO AdC AdD AdE. -/
import Derived.Test.YtkbddndcegpllaaGreatBg23

set_option linter.all false
set_option maxHeartbeats 2000000
set_option maxRecDepth 100000
namespace Go.Proofs.YtkbddndcegpllaaGreat

section

open Go.RowKit Go.ChangeShapes Go.WideShapes Go.ChangeAt

theorem zll{b:Type}(f:b->List Value)(sz:Nat)(i:∀ a,(f a).length=sz)(xs:List b):(xs.flatMap f).length=xs.length*sz:=by
 induction xs with
 |nil=>simp
 |cons x xs j=>rw[List.flatMap_cons,List.length_append,i,j,List.length_cons,Nat.add_mul,Nat.one_mul,Nat.add_comm]
theorem zsm{l:Type}(f:l->List Value)(sz:Nat)(b:∀ a,(f a).length=sz)(xs:List l)(i j:Nat)(hi:i<xs.length)(n:j<sz):(xs.flatMap f)[i*sz+j]?=(f xs[i])[j]?:=by
 induction xs generalizing i with
 |nil=>simp at hi
 |cons x xs m=>
  rw[List.flatMap_cons]
  cases i with
  |zero=>rw[List.getElem?_append_left (by rw[b];omega)];simp
  |succ i=>
   rw[List.getElem?_append_right (by rw[b,Nat.add_mul,Nat.one_mul];omega),b,show (i+1)*sz+j-sz=i*sz+j from by rw[Nat.add_mul,Nat.one_mul];omega]
   simpa using m i (by simpa using hi)
section

variable {H:Type} {enc:TypeId × Value->H} {P:Program} {w:World}

theorem open_list{D:Type}(f:D->List Value)(m:D->Prop){t e:TypeId}{v:Value}{sz:Nat}(G:P.underlying t=some (.slice e))(ce:P.cellsOf e=sz)(o:0<sz)(M:∀ a,(f a).length=sz)
  (I:∀ es,es.length=sz->Rd enc P w e es->∃ a,f a=es/\m a) {r:Reach} {R:Nat} {d:DataW H} {ps:List MemPlace} (U:Value.okWide P w r R t v) (q:DataW.Trod enc P w 0 (fun _=>true) true t v d ps):
  ∃ xs:List D,RdS w sz v xs.length (xs.flatMap f)/\∀ a ∈ xs,m a:=by
 obtain⟨a0,len,cap,rfl⟩:=okWide_slice G U;have h:=zom q;by_cases N:len=0
 ·subst N;refine⟨[],?_,fun a E=>by cases E⟩;have n:cap<=maxLen:=by
   rcases zxe G h with q|⟨a,O,J,q,s,y,C⟩
   ·simp[Value.cells]at q;omega
   simp[Value.cells]at q;obtain⟨rfl,_,rfl⟩:=q;exact y
  exact⟨a0,cap,rfl,Nat.zero_le _,by simp only[maxLen]at n;omega,by simp,fun h=>absurd rfl h⟩
 obtain⟨b,p,rfl,hb,n,z,F⟩:=z2c G ce o h N;have key:∀ i:Fin len,∃ a,m a/\∀ j,j<sz->w.cell? ⟨b,p+i*sz+j,.none⟩=(f a)[j]?:=fun i=>by obtain⟨es,s,y,C⟩:=F i (by have:=i.2;omega);obtain⟨a,rfl,T⟩:=I es s y;exact⟨a,T,C⟩
 let xs:List D:=List.ofFn fun i:Fin len=>Classical.choose (key i);have l:xs.length=len:=List.length_ofFn;have B:∀ i (hi:i<xs.length),xs[i]=Classical.choose (key ⟨i,l ▸ hi⟩):=fun i hi=>List.getElem_ofFn _;refine⟨xs,?_,fun a E=>?_⟩
 ·rw[l];refine⟨_,cap,rfl,n,by simp only[maxLen]at z;omega,by rw[zll f sz M,l],fun _=>⟨b,p,rfl,hb,fun i hi=>?_⟩⟩;have s:i/sz<xs.length:=by rw[l];exact Nat.div_lt_of_lt_mul (by rw[Nat.mul_comm];exact hi)
  have y:=(Classical.choose_spec (key ⟨i/sz,l ▸ s⟩)).2 (i%sz) (Nat.mod_lt _ o);have C:=zsm f sz M xs (i/sz) (i%sz) s (Nat.mod_lt _ o);rw[<-B _ s,<- C]at y;have S:i/sz*sz+i%sz=i:=by rw[Nat.mul_comm];exact Nat.div_add_mod i sz
  have L:w.cell? ⟨b,p+i/sz*sz+i%sz,.none⟩=(xs.flatMap f)[i/sz*sz+i%sz]?:=y;rw[Nat.add_assoc,S]at L;exact L
 obtain⟨i,hi,rfl⟩:=List.getElem_of_mem E;rw[B i hi];exact(Classical.choose_spec (key ⟨i,l ▸ hi⟩)).1
def RdZ (k:IntKind) (w:World) (v:Value) (zs:List Int):Prop:=RdS w 1 v zs.length (zs.map (.int k))
def RdBo (w:World) (v:Value) (l:List Bool):Prop:=RdS w 1 v l.length (l.map .bool)
end

theorem RdZ.cells{k:IntKind}{w:World}{v:Value}{zs:List Int}(h:RdZ k w v zs):∃ ao cap,v= .slice ao zs.length cap/\zs.length<=cap/\(cap:Int)<=9223372036854775807/\
  (zs≠ []->∃ b f,ao=some ⟨b,f,.none⟩/\b<w.heap.size/\∀ i (hi:i<zs.length),w.cell? ⟨b,f+i,.none⟩=some (.int k zs[i])):=by
 obtain⟨ao,cap,e,m,n,_,o⟩:=h;refine⟨ao,cap,e,m,n,fun p=>?_⟩;obtain⟨b,f,l,j,hc⟩:=o (fun h=>p (List.eq_nil_of_length_eq_zero h));refine⟨b,f,l,j,fun i hi=>(hc i (by omega)).trans ?_⟩;simp[hi]
theorem RdBo.cells{w:World}{v:Value}{zs:List Bool}(h:RdBo w v zs):∃ ao cap,v= .slice ao zs.length cap/\zs.length<=cap/\(cap:Int)<=9223372036854775807/\
  (zs≠ []->∃ b f,ao=some ⟨b,f,.none⟩/\b<w.heap.size/\∀ i (hi:i<zs.length),w.cell? ⟨b,f+i,.none⟩=some (.bool zs[i])):=by
 obtain⟨ao,cap,e,m,n,_,o⟩:=h;refine⟨ao,cap,e,m,n,fun p=>?_⟩;obtain⟨b,f,l,j,hc⟩:=o (fun h=>p (List.eq_nil_of_length_eq_zero h));refine⟨b,f,l,j,fun i hi=>(hc i (by omega)).trans ?_⟩;simp[hi]
theorem RdZ.below{k:IntKind}{w w':World}{v:Value}{zs:List Int}(h:RdZ k w v zs)(hb:Below w.heap.size w w'):RdZ k w' v zs:=RdS.below h hb
theorem RdBo.below{w w':World}{v:Value}{zs:List Bool}(h:RdBo w v zs)(hb:Below w.heap.size w w'):RdBo w' v zs:=RdS.below h hb
end

section

open Go.RowKit

attribute [local go_sem ↓] Go.wp_at_zero Go.wp_at_succ

theorem rs2(x:Int)(w:World)(b:0<=x/\x<18446744073709551616):
  Calls Tryz.prog 97 #[.int .u64 x] w fun e w'=>e= .returned (.tuple #[.int .i64 (zdc x),.int .i64 (zda x)])/\Below w.heap.size w w':=by
 refine(zfz x w b.1 b.2).mono ?_;rintro e w' ⟨hb,rfl⟩;refine⟨?_,hb⟩;have h:(za8 (zbx x) (za2 x 0)==x)=zjc x:=rfl;rw[h];unfold zdc zda;cases zjc x<;>rfl
theorem z2a(s:Sh)(c d:Int)(w:World):
  Calls Tryz.prog 152 #[.agg #[.int .i64 s.p,.int .i64 s.c,.int .i64 s.m],.int .i64 c,.int .i64 d] w fun e w'=>Born w w' e (zan s (zix s c d)) 282:=by
 have q:=fun W=>zau s.p s.c s.m c W;have z:=fun W=>zau s.p s.c s.m d W;have j:=fun k Y (hY:zaa Y k (zan s ⟨c,d,0,0,0,0,0,0,0,0,0,false⟩) 282)=>zhr k s ⟨c,d,0,0,0,0,0,0,0,0,0,false⟩ 1 Y hY;obtain⟨t2,i,L⟩:∃ t2:Ad,Hid (t2=if zae s.p s.c s.m c<0\/zae s.p s.c s.m d<0\/c=d then(⟨c,d,0,0,0,0,0,0,0,0,0,false⟩:Ad).fin 1 else⟨c,d,0,0,0,0,0,0,0,0,0,false⟩)/\t2=zix s c d:=⟨_,hd' rfl,rfl⟩;rw[<-L];clear L;generalize zae s.p s.c s.m c=U at *;generalize zae s.p s.c s.m d=X at *;obtain⟨sp,E,F⟩:=s;dsimp only at q z;replace q:=hd' q;replace z:=hd' z;replace j:=hd' j;have G:=(Below.refl w.heap.size w).alloc lr (.cells #[.int .i64 sp,.int .i64 E,.int .i64 F] 23);have t0:=heap_alloc_new w (.cells #[.int .i64 sp,.int .i64 E,.int .i64 F] 23);go_in;go_upto_region 1 with fail;generalize w.alloc (.cells #[.int .i64 sp,.int .i64 E,.int .i64 F] 23)=W at *;obtain⟨H,hH,S⟩:=hidv w.heap.size;rw[<-S]at t0 ⊢;have I:zaa W H #[.int .i64 sp,.int .i64 E,.int .i64 F] 23:=t0;have lH:H<W.heap.size:=I.lt;obtain⟨c0,c1,c2⟩:=ci3 sp E F I.cell;clear t0 S;have b0:=hd' G.size;go_upto_region 2 with fail;have N:zaa (W.alloc (.cells (zan ⟨sp,E,F⟩ ⟨c,d,0,0,0,0,0,0,0,0,0,false⟩) 282)) W.heap.size (zan ⟨sp,E,F⟩ ⟨c,d,0,0,0,0,0,0,0,0,0,false⟩) 282:=heap_alloc_new _ _;have C:=G.trans ((Below.refl w.heap.size W).alloc G.size (.cells (zan ⟨sp,E,F⟩ ⟨c,d,0,0,0,0,0,0,0,0,0,false⟩) 282));have J:=I.alloc (.cells (zan ⟨sp,E,F⟩ ⟨c,d,0,0,0,0,0,0,0,0,0,false⟩) 282);dsimp only[zan]at N C J j;generalize W.alloc (.cells #[.int .i64 sp,.int .i64 E,.int .i64 F,.int .i64 c,.int .i64 d,.int .i64 0,.int .u64 0,.int .i64 0,.int .i64 0,.int .i64 0,.int .i64 0,.int .i64 0,.int .i64 0,.int .i64 0,.bool false] 282)=V at *;obtain⟨K,hK,M⟩:=hidv W.heap.size;rw[<-M]at N ⊢;have o:w.heap.size<=K:=M ▸ b0.out;have b2:H<V.heap.size:=J.lt;have b3:K<V.heap.size:=N.lt;clear M c0 c1 c2 lH I G;obtain⟨c0,c1,c2⟩:=ci3 sp E F J.cell;clear J;have b1:U<0\/(0<=U/\X<0)\/(0<=U/\0<=X/\c=d)\/(0<=U/\0<=X/\(c==d)=false):=by
  by_cases O:U<0
  ·exact .inl O
  by_cases R:X<0
  ·exact .inr (.inl ⟨by omega,R⟩)
  by_cases h:c=d
  ·exact .inr (.inr (.inl ⟨by omega,by omega,h⟩))
  exact .inr (.inr (.inr ⟨by omega,by omega,by simpa using h⟩))
 rcases b1 with O|⟨O,R⟩|⟨O,R,rfl⟩|⟨O,R,h3⟩;case inr.inr.inr=>replace i:=hd' (i.out.trans (if_neg (by rintro(h|h|h)<;>first|omega|(rw[h]at h3;simp at h3))));clear j;go_wp2_with (first|(go_at_call 57;(with_reducible refine(q.out _).mono ?_);rintro r w1 ⟨rfl,b⟩;have Z:=zai b _ _ _ c0;have d1:=zai b _ _ _ c1;have d2:=zai b _ _ _ c2;have y:=N.below b)|(go_at_call 57;(with_reducible refine(z.out _).mono ?_);rintro r w2 ⟨rfl,l⟩;have D:=y.below l));go_returns;exact⟨K,rfl,o,by rw[i.out];exact D,zab (zab C b) l⟩
 case inl=>replace i:=hd' (i.out.trans (if_pos (.inl O)));go_wp2_with (first|(go_at_call 57;(with_reducible refine(q.out _).mono ?_);rintro r w1 ⟨rfl,b⟩;have Z:=zai b _ _ _ c0;have d1:=zai b _ _ _ c1;have d2:=zai b _ _ _ c2;have y:=N.below b)|(go_at_call 176;(with_reducible refine(j.out _ _ y).mono ?_);rintro r w3 B;obtain rfl:=B.ret));go_returns;have n:=zab C b;exact⟨K,rfl,o,by rw[i.out];exact B.row,n.trans (B.only.below n.size fun k T=>by rw[T];exact o)⟩
 case inr.inl=>replace i:=hd' (i.out.trans (if_pos (.inr (.inl R))));go_wp2_with (first|(go_at_call 57;(with_reducible refine(q.out _).mono ?_);rintro r w1 ⟨rfl,b⟩;have Z:=zai b _ _ _ c0;have d1:=zai b _ _ _ c1;have d2:=zai b _ _ _ c2;have y:=N.below b)|(go_at_call 57;(with_reducible refine(z.out _).mono ?_);rintro r w2 ⟨rfl,l⟩;have D:=y.below l)|(go_at_call 176;(with_reducible refine(j.out _ _ D).mono ?_);rintro r w3 B;obtain rfl:=B.ret));go_returns;have n:=zab (zab C b) l;exact⟨K,rfl,o,by rw[i.out];exact B.row,n.trans (B.only.below n.size fun k T=>by rw[T];exact o)⟩
 case inr.inr.inl=>replace i:=hd' (i.out.trans (if_pos (.inr (.inr rfl))));go_wp2_with (first|(go_at_call 57;(with_reducible refine(q.out _).mono ?_);rintro r w1 ⟨rfl,b⟩;have Z:=zai b _ _ _ c0;have d1:=zai b _ _ _ c1;have d2:=zai b _ _ _ c2;have y:=N.below b)|(go_at_call 57;(with_reducible refine(z.out _).mono ?_);rintro r w2 ⟨rfl,l⟩;have D:=y.below l)|(go_at_call 176;(with_reducible refine(j.out _ _ D).mono ?_);rintro r w3 B;obtain rfl:=B.ret));go_returns;have n:=zab (zab C b) l;exact⟨K,rfl,o,by rw[i.out];exact B.row,n.trans (B.only.below n.size fun k T=>by rw[T];exact o)⟩
def Ad.asked (s:Sh) (t:Ad) (x:Int):Ad:=
 if zdc x=2 then { t with was:=x,next:=2 }
 else if zdc x≠3 then ({ t with was:=x }:Ad).fin 5
 else if zae s.p s.c s.m (zda x) < 0 then ({ t with was:=x }:Ad).fin 4
 else { t with was:=x,who:=zda x,next:=1 }
theorem z3b(q p b:Nat)(s:Sh)(t:Ad)(m:Mem)(w:World)(h0:At3 q p b w w (zan s t) 282 m)(hf:Fits s m)(hs:m.st<1000000000)(hd:0<=t.d/\t.d<s.c):
  Calls Tryz.prog 298 #[.pointer (some ⟨q,0,.none⟩),.pointer (some ⟨p,0,.none⟩)] w fun e w'=>e= .returned (.tuple #[])/\At3 q p b w w' (zan s (t.asked s (m.get (zae s.p s.c s.m t.d)))) 282 (m.load t.c (zae s.p s.c s.m t.d)):=by
 obtain⟨b1,b0⟩:=hf.status hd;have z:=fun Y=>zau s.p s.c s.m t.d Y;rw[b1]at z ⊢;have D:=fun Y (hY:zaq Y p b m)=>zc1 p b m t.c t.d Y hY b0 hs;have C:=fun Y=>rs2 (m.get t.d) Y (Mem.ze4 h0.wds.fit _);generalize m.get t.d=x at *;have o:=fun Y=>zau s.p s.c s.m (zda x) Y;have j:=fun e Y (hY:zaa Y q (zan s {t with was:=x}) 282)=>zhr q s {t with was:=x} e Y hY;clear b1 b0 hf hd;unfold Ad.asked;obtain⟨t2,i,N⟩:∃ t2:Ad,Hid (t2=if zdc x=2 then {t with was:=x,next:=2} else if zdc x≠3 then({t with was:=x}:Ad).fin 5 else if zae s.p s.c s.m (zda x)<0 then({t with was:=x}:Ad).fin 4 else {t with was:=x,who:=zda x,next:=1})/\t2=_:=⟨_,hd' rfl,rfl⟩;rw[<-N];clear N;generalize zdc x=k at *;generalize zda x=A at *;generalize zae s.p s.c s.m A=sx at *;obtain⟨sp,X,Z⟩:=s;obtain⟨tc,td,tn,tw,J,ta,ti,pk,pa,pb,E,y⟩:=t;dsimp only at z D o j i ⊢;replace z:=hd' z;replace D:=hd' D;replace C:=hd' C;replace o:=hd' o;replace j:=hd' j;have b3:k=2\/((k==2)=false/\(k==3)=false)\/(k=3/\sx<0)\/(k=3/\¬ sx<0):=by
  by_cases L:k=2
  ·exact .inl L
  by_cases F:k=3
  ·by_cases G:sx<0
   ·exact .inr (.inr (.inl ⟨F,G⟩))
   exact .inr (.inr (.inr ⟨F,G⟩))
  exact .inr (.inl ⟨by simpa using L,by simpa using F⟩)
 have V:=h0;clear h0;have lw:=V.lt;go_in;go_upto_region 0 with fail
 refine zcx 18 (last:= { dst:=none,op:=Op.store 137 (Operand.tmp 23) (Operand.tmp 21),type:=0,pos:=_,after:=_,guard:=none}) (x:=zbb 2) (ld:=15) (v:= .int .u64 x) (ts:= [7,11,20])
  (K0:=fun Y=>At3 q p b w Y (zan ⟨sp,X,Z⟩ ⟨tc,td,tn,tw,J,ta,ti,pk,pa,pb,E,y⟩) 282 m) (K1:=fun Y=>At3 q p b w Y (zan ⟨sp,X,Z⟩ ⟨tc,td,tn,tw,J,ta,ti,pk,pa,pb,E,y⟩) 282 (m.load tc td))
  (by kernel_rfl) rfl (by kernel_rfl) (by simp only[List.take,zbb,zfq,zej,nopO,nopC,Nat.reduceBEq,Bool.or_false,Bool.or_true,Bool.false_eq_true,↓reduceIte,Nat.reduceAdd];exact rfl) (by kernel_rfl) (by kernel_rfl) (by kernel_rfl) (by simp[zbb]) (by simp[zbb]) (by simp[zbb]) (by simp[zbb]) (by kernel_rfl) (by simp[zbb]) (by simp[zbb])
  ⟨⟨fun Y Y' L F G=>L.far F G V.only.size⟩,⟨fun Y Y' L F G=>L.far F G V.only.size⟩⟩ V.drew ?_
 apply Exists.intro;refine⟨fun B hb hs=>?_,fun h=>(by simp[zbb]at h),fun Q0=>?_,?_⟩;case refine_1=>
  have b2:zaa B q (zan ⟨sp,X,Z⟩ ⟨tc,td,tn,tw,J,ta,ti,pk,pa,pb,E,y⟩) 282:=hb.elim (fun h=>h.row) (fun h=>h.row);have lB:=b2.lt;obtain⟨k0,k1,k2,k3,k4⟩:=ci5 sp X Z tc td b2.cell;repeat (go_big_quiet_step (((go_at_call 57;exact zam (z.out _)))))
  exact wpQuiet_nil rfl
 case refine_2=>exact zcz rfl (fun _ _=>by simp[go_sem]) fun Y R hs=>(D.out Y R.wds).mono fun r Y' ⟨L,F,G⟩=>⟨L,R.load F G,G.weak fun k hk=>hk ▸ Nat.lt_of_lt_of_le R.ls.2.1 V.only.size⟩
 case refine_3=>
  intro a w4 M hf;obtain⟨rfl,b6,I,_⟩:=hf;have z6:=ce (.int .u64 tw) (I.cell 6);have zf:=I.free;have U:=I.set 6 (.int .u64 x);simp only[zbb,vput,List.take,List.size_toArray,List.length_cons,List.length_nil,Nat.reduceAdd,Nat.reduceLT,decide_false,Bool.false_eq_true,if_false];clear I V D z;go_upto_region 1 with fail;generalize World.setCell _ ⟨q,6,.none⟩ (.int .u64 x)=Y at *;clear z6 zf;have lY:=U.lt;have c6:=ce (.int .u64 x) (U.cell 6);rcases b3 with rfl|⟨b4,b5⟩|⟨rfl,T⟩|⟨rfl,T⟩
  ·replace i:=hd' (i.out.trans (if_pos rfl));clear j o;go_wp2_with (first|(go_at_call 97;(with_reducible refine(C.out _).mono ?_);rintro r w1 ⟨rfl,n⟩;have l:=U.below n;have k5:=ci tn (l.cell 5);have zf:=l.free));go_returns;exact⟨rfl,by rw[i.out];exact l.set 5 _⟩
  ·replace i:=hd' ((i.out.trans (if_neg (by simpa using b4))).trans (if_pos (by simpa using b5)));clear o;go_wp2_with (first|(go_at_call 97;(with_reducible refine(C.out _).mono ?_);rintro r w1 ⟨rfl,n⟩;have l:=U.below n)|(go_at_call 176;(with_reducible refine(j.out _ _ l.row).mono ?_);rintro r w3 hT;obtain rfl:=hT.ret));go_returns;exact⟨rfl,by rw[i.out];exact l.turned hT⟩
  ·replace i:=hd' (((i.out.trans (if_neg (by decide))).trans (if_neg (by decide))).trans (if_pos T));go_wp2_with (first|(go_at_call 97;(with_reducible refine(C.out _).mono ?_);rintro r w1 ⟨rfl,n⟩;have l:=U.below n;have k0:=ci sp (l.cell 0);have k1:=ci X (l.cell 1);have k2:=ci Z (l.cell 2))|(go_at_call 57;(with_reducible refine(o.out _).mono ?_);rintro r w2 ⟨rfl,S⟩;have O:=l.below S)|(go_at_call 176;(with_reducible refine(j.out _ _ O.row).mono ?_);rintro r w3 hT;obtain rfl:=hT.ret));go_returns;exact⟨rfl,by rw[i.out];exact O.turned hT⟩
  replace i:=hd' (((i.out.trans (if_neg (by decide))).trans (if_neg (by decide))).trans (if_neg T));clear j;have b7:0<=sx:=by omega
  go_wp2_with (first|(go_at_call 97;(with_reducible refine(C.out _).mono ?_);rintro r w1 ⟨rfl,n⟩;have l:=U.below n;have k0:=ci sp (l.cell 0);have k1:=ci X (l.cell 1);have k2:=ci Z (l.cell 2))|(go_at_call 57;(with_reducible refine(o.out _).mono ?_);rintro r w2 ⟨rfl,S⟩;have O:=l.below S;have l5:=ci tn (O.cell 5);have l7:=ci J (O.cell 7);have zf:=O.free));go_returns;exact⟨rfl,by rw[i.out];exact(O.set 7 _).set 5 _⟩
theorem zl2(s:Sh)(t:Ad)(m:Mem)(h:t.done=false)(b:t.next=0):za0 s t m=(t.asked s (m.get (zae s.p s.c s.m t.d)),m.load t.c (zae s.p s.c s.m t.d)):=by
 unfold za0 Ad.asked;simp[h,b]
theorem zmf(s:Sh)(t:Ad)(m:Mem)(h:t.done=false)(b:t.next=1):za0 s t m=(if zdc (m.get (zae s.p s.c s.m t.who))=1 then({t with next:=2}:Ad).fin 4 else {t with next:=2},m.load t.c (zae s.p s.c s.m t.who)):=by
 unfold za0;simp[h,b]
theorem zlx(s:Sh)(t:Ad)(m:Mem)(h:t.done=false)(b:t.next=2):za0 s t m=(if m.get (zae s.p s.c s.m t.d)=t.was then {t with next:=3} else({t with next:=3}:Ad).fin 4,m.swap t.c (zae s.p s.c s.m t.d) t.was (za8 3 t.c)):=by
 unfold za0;simp[h,b]
theorem zvq(q p b:Nat)(s:Sh)(t:Ad)(m:Mem)(w:World)(F:At3 q p b w w (zan s t) 282 m)(Z:Fits s m)(hs:m.st<1000000000)(z:t.done=false)(hn:0<=t.next/\t.next<=2)(hd:0<=t.d/\t.d<s.c)(hw:t.next=1->0<=t.who/\t.who<s.c):
  Calls Tryz.prog 295 #[.pointer (some ⟨q,0,.none⟩),.pointer (some ⟨p,0,.none⟩)] w fun e w'=>e= .returned (.tuple #[])/\At3 q p b w w' (zan s (za0 s t m).1) 282 (za0 s t m).2:=by
 rcases(by omega:t.next=0\/t.next=1\/t.next=2) with b3|b0|b4
 ·rw[zl2 s t m z b3];have G:=z3b q p b s t m w F Z hs hd;obtain⟨N,i⟩:∃ N,N=t.asked s (m.get (zae s.p s.c s.m t.d)):=⟨_,rfl⟩;obtain⟨m2,b2⟩:∃ m2,m2=m.load t.c (zae s.p s.c s.m t.d):=⟨_,rfl⟩;rw[<-i,<- b2]at G;dsimp only;rw[<-i,<- b2];clear i b2 hd hw Z hs hn;obtain⟨sp,sc,sm⟩:=s;obtain⟨L,td,tn,tw,o,ta,ti,pk,pa,pb,n,X⟩:=t;dsimp only at z b3;subst z b3;replace G:=hd' G;have c5:=ci 0 (F.cell 5);clear F;go_in;go_wp2_with (go_at_call 298;(with_reducible refine G.out.mono ?_);rintro r w1 ⟨rfl,hA⟩);go_returns;exact⟨rfl,hA⟩
 ·rw[zmf s t m z b0];obtain⟨V,T⟩:=Z.status (hw b0);have l:=fun Y=>zau s.p s.c s.m t.who Y;rw[V]at l ⊢;have S:=fun Y (hY:zaq Y p b m)=>zc1 p b m t.c t.who Y hY T hs;have b1:=fun Y=>rs2 (m.get t.who) Y (Mem.ze4 F.wds.fit _);generalize m.get t.who=x at *;have j:=fun Y (hY:zaa Y q (zan s {t with next:=2}) 282)=>zhr q s {t with next:=2} 4 Y hY;obtain⟨N,i,D⟩:∃ N:Ad,Hid (N=if zdc x=1 then({t with next:=2}:Ad).fin 4 else {t with next:=2})/\N=_:=⟨_,hd' rfl,rfl⟩;dsimp only;rw[<-D];clear D V T Z hd hw hn;generalize zdc x=k at *;generalize zda x=A at *;obtain⟨sp,sc,sm⟩:=s;obtain⟨L,td,tn,tw,o,ta,ti,pk,pa,pb,n,X⟩:=t;dsimp only at l S j i z b0;subst z b0;replace l:=hd' l;replace S:=hd' S;replace b1:=hd' b1;replace j:=hd' j;have c5:=ci 1 (F.cell 5);go_in;go_upto_region 7 with fail
  refine zcl (x:=zbb 2) (ld:=14) (v:= .int .u64 x) (ts:= [48,52,61])
   (K0:=fun Y=>At3 q p b w Y (zan ⟨sp,sc,sm⟩ ⟨L,td,1,tw,o,ta,ti,pk,pa,pb,n,false⟩) 282 m) (K1:=fun Y=>At3 q p b w Y (zan ⟨sp,sc,sm⟩ ⟨L,td,1,tw,o,ta,ti,pk,pa,pb,n,false⟩) 282 (m.load L o))
   (by kernel_rfl) (by simp only[zbb,zfq,zej,nopO,nopC,Nat.reduceBEq,Bool.or_false,Bool.or_true,Bool.false_eq_true,↓reduceIte,Nat.reduceAdd];exact rfl) (by kernel_rfl) (by kernel_rfl) (by kernel_rfl) (by simp[zbb]) (by simp[zbb]) (by simp[zbb]) (by simp[zbb]) (by kernel_rfl) (by simp[zbb]) (by simp[zbb])
   ⟨⟨fun Y Y' O R I=>O.far R I F.only.size⟩,⟨fun Y Y' O R I=>O.far R I F.only.size⟩⟩ F.drew ?_
  apply Exists.intro;refine⟨fun B hb hs=>?_,fun h=>(by simp[zbb]at h),?_,?_⟩;case refine_1=>
   have E:zaa B q (zan ⟨sp,sc,sm⟩ ⟨L,td,1,tw,o,ta,ti,pk,pa,pb,n,false⟩) 282:=hb.elim (fun h=>h.row) (fun h=>h.row);have lB:=E.lt;obtain⟨k0,k1,k2,k3⟩:=ci4 sp sc sm L E.cell;have k7:=ci o (E.cell 7);repeat (go_big_quiet_step ((first|(go_at_call 57;exact zam (l.out _))|(go_at_call 97;exact zam (b1.out _)))))
   exact wpQuiet_nil rfl
  case refine_2=>exact zcz rfl (fun _ _=>by simp[go_sem]) fun Y C hs=>(S.out Y C.wds).mono fun r Y' ⟨O,R,I⟩=>⟨O,C.load R I,I.weak fun k hk=>hk ▸ Nat.lt_of_lt_of_le C.ls.2.1 F.only.size⟩
  case refine_3=>
   intro a w4 M Z;obtain⟨rfl,b6,hA,_⟩:=Z;simp only[zbb,vput,List.size_toArray,List.length_cons,List.length_nil,Nat.reduceAdd,Nat.reduceLT,decide_false,Bool.false_eq_true,if_false];have z5:=ci 1 (hA.cell 5);have zf:=hA.free;have hB:=hA.set 5 (.int .i64 2);clear F S l b1;rcases(by by_cases h:k=1<;>simp[h]:k=1\/(k≠1/\(k==1)=false)) with rfl|⟨hk,hk2⟩
   ·replace i:=hd' (i.out.trans (if_pos rfl));go_wp2_with (go_at_call 176;(with_reducible refine(j.out _ hB.row).mono ?_);rintro r w3 hT;obtain rfl:=hT.ret);go_returns;exact⟨rfl,by rw[i.out];exact hB.turned hT⟩
   replace i:=hd' (i.out.trans (if_neg hk));clear j;go_wp2_with fail;go_returns;exact⟨rfl,by rw[i.out];exact hB⟩
 rw[zlx s t m z b4];obtain⟨V,T⟩:=Z.status hd;have l:=fun Y=>zau s.p s.c s.m t.d Y;rw[V]at l ⊢;have U:=fun Y=>zgn 3 t.c Y;have J:=fun Y (hY:zaq Y p b m)=>zff p b m t.c t.d t.was (za8 3 t.c) Y hY T (zdz _ _) hs;have j:=fun Y (hY:zaa Y q (zan s {t with next:=3}) 282)=>zhr q s {t with next:=3} 4 Y hY;obtain⟨N,i,D⟩:∃ N:Ad,Hid (N=if m.get t.d=t.was then {t with next:=3} else({t with next:=3}:Ad).fin 4)/\N=_:=⟨_,hd' rfl,rfl⟩;dsimp only;rw[<-D];obtain⟨sb,b5⟩:∃ sb,sb=decide (m.get t.d=t.was):=⟨_,rfl⟩;rw[<-b5]at J;have y:(sb=true/\N= {t with next:=3})\/(sb=false/\N=({t with next:=3}:Ad).fin 4):=by rw[b5,i.out];by_cases h:m.get t.d=t.was<;>simp[h]
 clear D V T Z hd hw hn i b5;obtain⟨sp,sc,sm⟩:=s;obtain⟨L,td,tn,tw,o,ta,ti,pk,pa,pb,n,X⟩:=t;dsimp only at l U J j y z b4 ⊢;subst z b4;replace l:=hd' l;replace U:=hd' U;replace J:=hd' J;replace j:=hd' j;replace y:=hd' y;have c5:=ci 2 (F.cell 5);have zf:=F.free;go_in;go_upto_region 2 with fail;have hX:=F.set 5 (.int .i64 3);generalize World.setCell _ ⟨q,5,.none⟩ (.int .i64 3)=W at *;clear F c5 zf
 refine zcl (x:=zbb 2) (ld:=23) (v:= .bool sb) (ts:= [13,17,26,30,35])
  (K0:=fun Y=>At3 q p b w Y (zan ⟨sp,sc,sm⟩ ⟨L,td,3,tw,o,ta,ti,pk,pa,pb,n,false⟩) 282 m) (K1:=fun Y=>At3 q p b w Y (zan ⟨sp,sc,sm⟩ ⟨L,td,3,tw,o,ta,ti,pk,pa,pb,n,false⟩) 282 (m.swap L td tw (za8 3 L)))
  (by kernel_rfl) (by simp only[zbb,zfq,zej,nopO,nopC,Nat.reduceBEq,Bool.or_false,Bool.or_true,Bool.false_eq_true,↓reduceIte,Nat.reduceAdd];exact rfl) (by kernel_rfl) (by kernel_rfl) (by kernel_rfl) (by simp[zbb]) (by simp[zbb]) (by simp[zbb]) (by simp[zbb]) (by kernel_rfl) (by simp[zbb]) (by simp[zbb])
  ⟨⟨fun Y Y' O R I=>O.far R I hX.only.size⟩,⟨fun Y Y' O R I=>O.far R I hX.only.size⟩⟩ hX.drew ?_
 apply Exists.intro;refine⟨fun B hb hs=>?_,fun h=>(by simp[zbb]at h),?_,?_⟩;case refine_1=>
  have E:zaa B q (zan ⟨sp,sc,sm⟩ ⟨L,td,3,tw,o,ta,ti,pk,pa,pb,n,false⟩) 282:=hb.elim (fun h=>h.row) (fun h=>h.row);have lB:=E.lt;obtain⟨k0,k1,k2,k3,k4⟩:=ci5 sp sc sm L td E.cell;have k6:=ce (.int .u64 tw) (E.cell 6);repeat (go_big_quiet_step ((first|(go_at_call 57;exact zam (l.out _))|(go_at_call 117;exact zam (U.out _)))))
  exact wpQuiet_nil rfl
 case refine_2=>exact zcz rfl (fun _ _=>by simp[go_sem]) fun Y C hs=>(J.out Y C.wds).mono fun r Y' ⟨O,R,I⟩=>⟨O,C.access R I,I.weak fun k hk=>hk.elim (fun e=>e ▸ Nat.lt_of_lt_of_le C.ls.2.1 hX.only.size) (fun e=>e ▸ Nat.lt_of_lt_of_le C.ls.2.2 hX.only.size)⟩
 case refine_3=>
  intro a w4 M Z;obtain⟨rfl,b6,hA,_⟩:=Z;simp only[zbb,vput,List.size_toArray,List.length_cons,List.length_nil,Nat.reduceAdd,Nat.reduceLT,decide_false,Bool.false_eq_true,if_false];clear hX J l U;rcases y.out with⟨rfl,i⟩|⟨rfl,i⟩
  ·replace i:=hd' i;clear y j;go_wp2_with fail;go_returns;exact⟨rfl,by rw[i.out];exact hA⟩
  replace i:=hd' i;clear y;go_wp2_with (go_at_call 176;(with_reducible refine(j.out _ hA.row).mono ?_);rintro r w3 hT;obtain rfl:=hT.ret);go_returns;exact⟨rfl,by rw[i.out];exact hA.turned hT⟩
end

end Go.Proofs.YtkbddndcegpllaaGreat
