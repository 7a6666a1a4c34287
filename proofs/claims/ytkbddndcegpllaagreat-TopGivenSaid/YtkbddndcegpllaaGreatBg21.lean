/- Texts bound together: FreeT FreeU. -/
import Derived.Test.YtkbddndcegpllaaGreatBg20

set_option linter.all false
set_option maxHeartbeats 2000000
set_option maxRecDepth 100000
namespace Go.Proofs.YtkbddndcegpllaaGreat

open Go.RowKit

attribute [local go_sem ↓] Go.wp_at_zero Go.wp_at_succ

theorem zy7(q p b:Nat)(s:Sh)(t:Fe)(pv:Value)(m:Mem)(w:World)(h0:At3 q p b w w (za7 s t pv) 276 m)(hf:Fits s m)(hs:m.st<1000000000)(b8:0<=t.page/\t.page<s.p)(bc:spB s t.a=true):
  Calls Tryz.prog 273 #[.pointer (some ⟨q,0,.none⟩),.pointer (some ⟨p,0,.none⟩)] w fun e w'=>e= .returned (.tuple #[])/\At3 q p b w w' (za7 s (t.look s m).1 pv) 276 (t.look s m).2:=by
 have bi:=hf.bd;have j:=fun Y=>zxk s t.a Y;rw[bc,if_pos rfl,if_pos rfl]at j;have b1:0<=t.a%64/\t.a%64<64:=by omega
 obtain⟨b5,b9⟩:=hf.page b8;have F:=fun Y=>planPage_any s.p s.c s.m t.page Y;rw[b5]at F;have T:=fun Y (hY:zaq Y p b m)=>zc1 p b m t.c (s.c+t.page) Y hY b9 hs;have U:=fun Y=>zh3 s t.page (m.get (s.c+t.page)) Y (Mem.ze4 h0.wds.fit _);have R:=fun k Y=>zgq k Y
 have hr:t.look s m=(if zal s.p s.c s.m t.page (m.get (s.c+t.page))=true/\pgK s t.page (m.get (s.c+t.page))=3/\t.a%64=0 then {t with word:=m.get (s.c+t.page),pk:=pgK s t.page (m.get (s.c+t.page)),pa:=pgP s t.page (m.get (s.c+t.page)) 0,pb:=pgP s t.page (m.get (s.c+t.page)) 1,next:=1}
   else if zal s.p s.c s.m t.page (m.get (s.c+t.page))=true/\pgK s t.page (m.get (s.c+t.page))=2/\t.a%64%zbj (pgP s t.page (m.get (s.c+t.page)) 0)=0 then {t with word:=m.get (s.c+t.page),pk:=pgK s t.page (m.get (s.c+t.page)),pa:=pgP s t.page (m.get (s.c+t.page)) 0,pb:=pgP s t.page (m.get (s.c+t.page)) 1,next:=1,slot:=t.a%64/zbj (pgP s t.page (m.get (s.c+t.page)) 0)}
   else {t with word:=m.get (s.c+t.page),pk:=pgK s t.page (m.get (s.c+t.page)),pa:=pgP s t.page (m.get (s.c+t.page)) 0,pb:=pgP s t.page (m.get (s.c+t.page)) 1,next:=1,done:=true},m.load t.c (s.c+t.page)):=by
  unfold Fe.look pgK pgP
  dsimp only
  rw[b5]
  by_cases hB:zal s.p s.c s.m t.page (m.get (s.c+t.page))=true<;>simp[hB]
 have n:zal s.p s.c s.m t.page (m.get (s.c+t.page))=true/\pgK s t.page (m.get (s.c+t.page))=2->0<zbj (pgP s t.page (m.get (s.c+t.page)) 0):=fun h=>by have H:=h.2;unfold pgK at H;rw[if_pos h.1]at H;unfold pgP;rw[if_pos h.1];exact(zwy b1 (zdq h.1 H).2.2).1
 rw[hr];clear hr bc b5 b9 b8 bi hf;generalize s.c+t.page=b6 at *;generalize m.get b6=x at *;generalize zal s.p s.c s.m t.page x=B at *;generalize pgK s t.page x=D at *;generalize pgP s t.page x 0=S at *;generalize pgP s t.page x 1=e2 at *;replace R:=fun Y=>R S Y;have bf:=znt S;generalize zbj S=z at *;generalize t.a%64=i at *;generalize t.a/64=qu at *;dsimp only;obtain⟨t2,G,b2⟩:∃ t2:Fe,Hid (t2=if B=true/\D=3/\i=0 then {t with word:=x,pk:=D,pa:=S,pb:=e2,next:=1} else if B=true/\D=2/\i%z=0 then {t with word:=x,pk:=D,pa:=S,pb:=e2,next:=1,slot:=i/z} else {t with word:=x,pk:=D,pa:=S,pb:=e2,next:=1,done:=true})/\t2=_:=⟨_,hd' rfl,rfl⟩;rw[<-b2];clear b2;obtain⟨sp,sc,sm⟩:=s;obtain⟨tc,ta,tg,tl,tw,pk,pa,pb,tn,ti,L,C,o⟩:=t;dsimp only at j F T U G ⊢;replace j:=hd' j;replace F:=hd' F;replace T:=hd' T;replace U:=hd' U;replace R:=hd' R;replace n:=hd' n;have lq:=h0.lt;obtain⟨c0,c1,c2,c3,c4⟩:=ci5 sp sc sm tc ta h0.cell;go_in;go_upto_region 0 with fail;refine zaj (by kernel_rfl) (by kernel_rfl) ?_;repeat (go_big_quiet_step (((go_at_call 147;exact zam (j.out _)))))
 refine wpQuiet_nil ?_;rintro _ ⟨e',rfl⟩;have hX:=h0.below e'.below;generalize e'.w=X at *;clear c0 c1 c2 c3 c4 lq;go_upto_region 1 with fail;go_cut [5] (fun s5 wx=>s5= .int .i64 i/\At3 q p b w wx (za7 ⟨sp,sc,sm⟩ ⟨tc,ta,tg,tl,x,pk,pa,pb,tn,ti,L,C,o⟩ pv) 276 (m.load tc b6));case first=>
  refine zcx 18 (last:= { dst:=none,op:=Op.store 137 (Operand.tmp 39) (Operand.tmp 37),type:=0,pos:=_,after:=_,guard:=none}) (x:=zbb 60) (ld:=15) (v:= .int .u64 x) (ts:= [23,27,36])
   (K0:=fun Y=>At3 q p b w Y (za7 ⟨sp,sc,sm⟩ ⟨tc,ta,tg,tl,tw,pk,pa,pb,tn,ti,L,C,o⟩ pv) 276 m) (K1:=fun Y=>At3 q p b w Y (za7 ⟨sp,sc,sm⟩ ⟨tc,ta,tg,tl,tw,pk,pa,pb,tn,ti,L,C,o⟩ pv) 276 (m.load tc b6))
   (by kernel_rfl) rfl (by kernel_rfl) (by simp only[List.take,zbb,zfq,zej,nopO,nopC,Nat.reduceBEq,Bool.or_false,Bool.or_true,Bool.false_eq_true,↓reduceIte,Nat.reduceAdd];exact rfl) (by kernel_rfl) (by kernel_rfl) (by kernel_rfl) (by simp[zbb]) (by simp[zbb]) (by simp[zbb]) (by simp[zbb]) (by kernel_rfl) (by simp[zbb]) (by simp[zbb])
   ⟨⟨fun Y Y' O H h3=>O.far H h3 hX.only.size⟩,⟨fun Y Y' O H h3=>O.far H h3 hX.only.size⟩⟩ hX.drew ?_
  apply Exists.intro;refine⟨fun B hb hs=>?_,fun h=>(by simp[zbb]at h),fun Q0=>?_,?_⟩;case refine_1=>
   have J:zaa B q (za7 ⟨sp,sc,sm⟩ ⟨tc,ta,tg,tl,tw,pk,pa,pb,tn,ti,L,C,o⟩ pv) 276:=hb.elim (fun h=>h.row) (fun h=>h.row);have lB:=J.lt;obtain⟨k0,k1,k2,k3⟩:=ci4 sp sc sm tc J.cell;have k5:=ci tg (J.cell 5);repeat (go_big_quiet_step (((go_at_call 119;exact zam (F.out _)))))
   exact wpQuiet_nil rfl
  case refine_2=>exact zcz rfl (fun _ _=>by simp[go_sem]) fun Y b3 hs=>(T.out Y b3.wds).mono fun r Y' ⟨O,H,h3⟩=>⟨O,b3.load H h3,h3.weak fun k hk=>hk ▸ Nat.lt_of_lt_of_le b3.ls.2.1 hX.only.size⟩
  case refine_3=>intro a w4 M hf;obtain⟨rfl,bk,b4,_⟩:=hf;have z7:=ce (.int .u64 tw) (b4.cell 7);have zf:=b4.free;have hB:=b4.set 7 (.int .u64 x);simp only[zbb,vput,List.take,List.size_toArray,List.length_cons,List.length_nil,Nat.reduceAdd,Nat.reduceLT,decide_false,Bool.false_eq_true,if_false];go_wp2;go_meet;exact⟨rfl,hB⟩
 case rest=>
  obtain⟨rfl,hA⟩:=hcut;clear hX T F j;obtain⟨Y,rfl⟩:∃ V:World,V=wc:=⟨_,rfl⟩;have lY:=hA.lt;obtain⟨c0,c1,c2,c3⟩:=ci4 sp sc sm tc hA.cell;have c5:=ci tg (hA.cell 5);have c7:=ce (.int .u64 x) (hA.cell 7);go_upto_region 2 with fail;go_cut [7,8] (fun s7 s8 wx=>∃ E,s7= .pointer (some ⟨E,0,.none⟩)/\s8= .bool B/\Y.heap.size<=E/\zaa wx E #[.int .i64 D,.int .i64 S,.int .i64 e2] 128/\Below Y.heap.size Y wx);case first=>
   refine zkt (x:=⟨16,17,14,7,54,128, #[.int .i64 0,.int .i64 0,.int .i64 0], #[.int .i64 D,.int .i64 S,.int .i64 e2]⟩) (y:=⟨1000,1001,0,98,97,0, #[], #[]⟩) (by kernel_rfl) (by simp only[nopF,nopO,ownB,Nat.reduceBEq,Bool.or_false,Bool.or_true,Bool.false_eq_true,↓reduceIte,Nat.reduceAdd];exact rfl) (by kernel_rfl) (by kernel_rfl) (by kernel_rfl) (by constructor<;>(dsimp only;decide)) (by refine⟨?_,?_,?_,?_⟩<;>(dsimp only;decide)) rfl (by constructor<;>simp) ?_;apply Exists.intro;refine⟨fun B hb=>?_,?_,?_⟩;case refine_1=>
    have J:=hA.row.below hb;have lB:=J.lt;obtain⟨k0,k1,k2,k3⟩:=ci4 sp sc sm tc J.cell;have k5:=ci tg (J.cell 5);have k7:=ce (.int .u64 x) (J.cell 7);repeat (go_big_quiet_step (((go_at_call 118;exact zam (U.out _)))))
    exact wpQuiet_nil rfl
   case refine_2=>exact zqa rfl rfl rfl rfl rfl rfl rfl rfl (by dsimp only;decide +kernel) (by dsimp only;decide +kernel)
   case refine_3=>intro a w4 M hf;obtain⟨rfl,hb,bh,hM⟩:=hf;simp only[Act.put,vptr];go_wp2;go_meet;exact⟨_,rfl,rfl,bh,hM,hb⟩
  case rest=>
   obtain⟨E,rfl,rfl,hE,bg,b7⟩:=hcut;have hC:=hA.below b7;clear hA c0 c1 c2 c3 c5 c7 U;have bu:E≠q:=fun e=>by rw[e]at hE;omega
   obtain⟨Z,rfl⟩:∃ V:World,V=wc:=⟨_,rfl⟩;clear b7;obtain⟨g0,g1,g2⟩:=ci3 D S e2 bg.cell;have c6:=ci tl (hC.cell 6);have c8:=ci pk (hC.cell 8);have c9:=ci pa (hC.cell 9);have bp:=ci pb (hC.cell 10);have bq:=ci tn (hC.cell 11);have bs:=ce (.bool o) (hC.cell 15);have zf:=hC.free;have hD:=(((hC.set 8 (.int .i64 D)).set 9 (.int .i64 S)).set 10 (.int .i64 e2)).set 11 (.int .i64 1);obtain⟨o1,o2⟩:=b1;obtain⟨z1,z2⟩:=bf;have l:∀ (O:¬ (B=true/\D=3/\i=0)) (H:¬ (B=true/\D=2/\i%z=0)),t2=⟨tc,ta,tg,tl,x,D,S,e2,1,ti,L,C,true⟩:=fun O H=>(G.out.trans (if_neg O)).trans (if_neg H);replace l:=hd' l;by_cases N:B=true/\D=3/\i=0
   ·replace G:=hd' (G.out.trans (if_pos N));obtain⟨rfl,rfl,rfl⟩:=N;clear l n;go_wp2_with fail;go_returns;exact⟨rfl,by rw[G.out];exact hD⟩
   by_cases I:B=true/\D=2/\i%z=0
   ·replace G:=hd' ((G.out.trans (if_neg N)).trans (if_pos I));have hz:0<z:=n.out ⟨I.1,I.2.1⟩;have bb:i.tmod z=0:=by rw[Int.tmod_eq_emod_of_nonneg o1];exact I.2.2
    have bn:i.tdiv z=i/z:=Int.tdiv_eq_ediv_of_nonneg o1;have bj:(z==0)=false:=by simp;omega
    have bv:IntKind.i64.wrap (i/z)=i/z:=by have O:0<=i/z:=Int.ediv_nonneg o1 (by omega);have H:i/z<=i:=Int.ediv_le_self _ o1;exact IntWalk.i64_in _ ⟨by omega,by omega⟩
    obtain⟨rfl,rfl,ba⟩:=I;clear l n N;replace ba:=hd' ba;go_wp2_with (go_at_call 68;(with_reducible refine(R.out _).mono ?_);rintro r w1 ⟨rfl,rfl⟩);go_returns;exact⟨rfl,by rw[G.out];exact hD.set 6 _⟩
   have b0:B=false\/(B=true/\D=3/\(i==0)=false)\/(B=true/\D=2/\(i%z==0)=false/\0<z)\/(B=true/\(D==3)=false/\(D==2)=false):=by
    rcases Bool.eq_false_or_eq_true B with h|h
    ·by_cases O:D=3
     ·exact .inr (.inl ⟨h,O,by simpa[h,O] using N⟩)
     by_cases H:D=2
     ·exact .inr (.inr (.inl ⟨h,H,by simpa[h,H] using I,n.out ⟨h,H⟩⟩))
     exact .inr (.inr (.inr ⟨h,by simpa using O,by simpa using H⟩))
    exact .inl h
   replace l:=hd' (l.out N I);clear N I n G;rcases b0 with rfl|⟨rfl,rfl,b0⟩|⟨rfl,rfl,b0,hz⟩|⟨rfl,b0,bm⟩
   ·go_wp2_with fail;go_returns;exact⟨rfl,by rw[l.out];exact hD.set 15 _⟩
   ·go_wp2_with fail;go_returns;exact⟨rfl,by rw[l.out];exact hD.set 15 _⟩
   ·have bb:i.tmod z=i%z:=Int.tmod_eq_emod_of_nonneg o1;have bj:(z==0)=false:=by simp;omega
    go_wp2_with (go_at_call 68;(with_reducible refine(R.out _).mono ?_);rintro r w1 ⟨rfl,rfl⟩);go_returns;exact⟨rfl,by rw[l.out];exact hD.set 15 _⟩
   go_wp2_with fail;go_returns;exact⟨rfl,by rw[l.out];exact hD.set 15 _⟩
structure zce (q q2 p b:Nat) (has:Bool) (w w':World) (e:Ending) (s:Sh) (t:Fe) (m:Mem):Prop where
 ret:e= .returned (.tuple #[])
 at':∃ q3,FeAt w' q q3 s t/\(q3=q2/\(has=false->t.put=none)\/w.heap.size<=q3)
 wds:zaq w' p b m
 only:Only (fun k=> k=q\/(has=true/\k=q2)\/k=p\/k=b) w w'
theorem zce.zoq{q q2 p b:Nat}{w w':World}{s:Sh}{t t':Fe}{m:Mem}(h:FeAt w q q2 s t)(y:t.put≠none->q2≠p/\q2≠b)(i:At3 q p b w w' (za7 s t' (ptrV t'.put q2)) 276 m)(o:t'.put=t.put):zce q q2 p b t.put.isSome w w' (.returned (.tuple #[])) s t' m:=by
 refine⟨rfl,⟨q2,⟨i.row,fun x j=>?_⟩,.inl ⟨rfl,fun e=>?_⟩⟩,i.wds,i.only.weak fun k f=>?_⟩
 ·rw[o]at j;obtain⟨r,l⟩:=h.inn x j;have n:=y (by rw[j];exact fun e=>by cases e);exact⟨r.only i.only (by rintro(e|e|e);exact l e.symm;exact n.1 e;exact n.2 e),l⟩
 ·rw[o];exact isSome_none e
 rcases f with f|f|f
 ·exact .inl f
 ·exact .inr (.inr (.inl f))
 exact .inr (.inr (.inr f))
theorem zpj(q p b:Nat)(s:Sh)(t:Fe)(J:Value)(m:Mem)(w:World)(C:At3 q p b w w (za7 s t J) 276 m)(hf:Fits s m)(hs:m.st<1000000000)(U:0<=t.page/\t.page<s.p)(T:t.pk=3)(hw:0<=t.word/\t.word<18446744073709551616):
  Calls Tryz.prog 274 #[.pointer (some ⟨q,0,.none⟩),.pointer (some ⟨p,0,.none⟩)] w fun e w'=>e= .returned (.tuple #[])/\At3 q p b w w' (za7 s (t.claim s m).1 J) 276 (t.claim s m).2/\(t.claim s m).1.put=t.put:=by
 obtain⟨E,V⟩:=hf.page U;have j:=fun Y=>planPage_any s.p s.c s.m t.page Y;rw[E]at j;have n:=fun Y=>zcd 1 t.c 0 Y;have S:Hid (zf4 t.c=zb8 1 t.c 0):=hd' rfl;rw[<-S.out]at n;have y:=fun Y (hY:zaq Y p b m)=>zff p b m t.c (s.c+t.page) t.word (zf4 t.c) Y hY V (zc0 _ _ _) hs;have hr:t.claim s m=({t with gave:=decide (m.get (s.c+t.page)=t.word),next:=4,done:= !decide (m.get (s.c+t.page)=t.word)},m.swap t.c (s.c+t.page) t.word (zf4 t.c)):=by unfold Fe.claim;rw[if_pos T,E]
 rw[hr];clear hr E V U hf S hw;generalize s.c+t.page=F at *;generalize zf4 t.c=hw at *;generalize decide (m.get F=t.word)=g at *;dsimp only;obtain⟨sp,X,Z⟩:=s;obtain⟨G,ta,tg,tl,H,pk,pa,pb,tn,ti,o,l,i⟩:=t;dsimp only at j y T ⊢;subst T;replace j:=hd' j;replace n:=hd' n;replace y:=hd' y;have lq:=C.lt;have c8:=ci 3 (C.cell 8);go_in;go_upto_region 1 with fail;go_cut [1] (fun s1 wx=>s1= .pointer (some ⟨p,0,.none⟩)/\At3 q p b w wx (za7 ⟨sp,X,Z⟩ ⟨G,ta,tg,tl,H,3,pa,pb,tn,ti,o,g,i⟩ J) 276 (m.swap G F H hw));case first=>
  refine zcx 28 (last:= { dst:=none,op:=Op.store 4 (Operand.tmp 38) (Operand.tmp 36),type:=0,pos:=_,after:=_,guard:=none}) (x:=zbb 60) (ld:=25) (v:= .bool g) (ts:= [12,16,25,29,35])
   (K0:=fun Y=>At3 q p b w Y (za7 ⟨sp,X,Z⟩ ⟨G,ta,tg,tl,H,3,pa,pb,tn,ti,o,l,i⟩ J) 276 m) (K1:=fun Y=>At3 q p b w Y (za7 ⟨sp,X,Z⟩ ⟨G,ta,tg,tl,H,3,pa,pb,tn,ti,o,l,i⟩ J) 276 (m.swap G F H hw))
   (by kernel_rfl) rfl (by kernel_rfl) (by simp only[List.take,zbb,zfq,zej,nopO,nopC,Nat.reduceBEq,Bool.or_false,Bool.or_true,Bool.false_eq_true,↓reduceIte,Nat.reduceAdd];exact rfl) (by kernel_rfl) (by kernel_rfl) (by kernel_rfl) (by simp[zbb]) (by simp[zbb]) (by simp[zbb]) (by simp[zbb]) (by kernel_rfl) (by simp[zbb]) (by simp[zbb])
   ⟨⟨fun Y Y' L N I=>L.far N I C.only.size⟩,⟨fun Y Y' L N I=>L.far N I C.only.size⟩⟩ C.drew ?_
  apply Exists.intro;refine⟨fun B hb hs=>?_,fun h=>(by simp[zbb]at h),fun Q0=>?_,?_⟩;case refine_1=>
   have z:zaa B q (za7 ⟨sp,X,Z⟩ ⟨G,ta,tg,tl,H,3,pa,pb,tn,ti,o,l,i⟩ J) 276:=hb.elim (fun h=>h.row) (fun h=>h.row);have lB:=z.lt;obtain⟨k0,k1,k2,k3⟩:=ci4 sp X Z G z.cell;have k5:=ci tg (z.cell 5);have k7:=ce (.int .u64 H) (z.cell 7);repeat (go_big_quiet_step ((first|(go_at_call 119;exact zam (j.out _))|(go_at_call 154;exact zam (n.out _)))))
   exact wpQuiet_nil rfl
  case refine_2=>exact zcz rfl (fun _ _=>by simp[go_sem]) fun Y R hs=>(y.out Y R.wds).mono fun r Y' ⟨L,N,I⟩=>⟨L,R.access N I,I.weak fun k T=>by rcases T with rfl|rfl;exact C.ls.2.1;exact C.ls.2.2⟩
  case refine_3=>intro a w4 M hf;obtain⟨rfl,b1,D,_⟩:=hf;have b0:=ce (.bool l) (D.cell 14);have zf:=D.free;have hB:=D.set 14 (.bool g);simp only[zbb,vput,List.take,List.size_toArray,List.length_cons,List.length_nil,Nat.reduceAdd,Nat.reduceLT,decide_false,Bool.false_eq_true,if_false];go_wp2;go_meet;exact⟨rfl,hB⟩
 case rest=>obtain⟨rfl,O⟩:=hcut;clear C y j n c8 lq;have b2:=ci tn (O.cell 11);have b0:=ce (.bool g) (O.cell 14);have b3:=ce (.bool i) (O.cell 15);have zf:=O.free;go_wp2_with fail;go_returns;exact⟨rfl,(O.set 11 _).set 15 _,by first|rfl|trivial⟩
theorem zsz(q q2 p b:Nat)(s:Sh)(t:Fe)(m:Mem)(w:World)(h:FeAt w q q2 s t)(hw:zaq w p b m)(bw:q≠p)(bv:q≠b)(bb:t.put≠none->q2≠p/\q2≠b)(hf:Fits s m)(hs:m.st<1000000000)(bc:0<=t.page/\t.page<s.p)(J:t.pk=2)(bi:0<zah t.pa/\(0<=t.slot/\t.slot<zah t.pa)):
  Calls Tryz.prog 274 #[.pointer (some ⟨q,0,.none⟩),.pointer (some ⟨p,0,.none⟩)] w fun e w'=>zce q q2 p b t.put.isSome w w' e s (t.claim s m).1 (t.claim s m).2:=by
 have h0:At3 q p b w w (za7 s t (ptrV t.put q2)) 276 m:=At3.start h.row hw bw bv;have bx:=zdg bi.1;obtain⟨b6,bh⟩:=hf.slot bc (i:=t.slot) (by omega);have C:=fun Y=>zbm s.p s.c s.m t.page t.slot Y;rw[b6]at C;have H:=fun Y=>zbl 3 t.pa Y;have I:=fun Y=>zbl 2 t.c Y;have bj:Hid (zfl t.pa=zc3 3 t.pa):=hd' rfl;have bk:Hid (wayW t.c=zc3 2 t.c):=hd' rfl;rw[<-bj.out]at H;rw[<-bk.out]at I;have X:=fun Y (hY:zaq Y p b m)=>zff p b m t.c (s.c+s.p+t.page*16+t.slot) (zfl t.pa) (wayW t.c) Y hY bh (zch _ _) hs;have O:=fun Y=>z00 s t.c t.page t.slot t.pa Y;obtain⟨r,hr⟩:∃ r,r=t.claim s m:=⟨_,rfl⟩;rw[<-hr];unfold Fe.claim at hr;rw[if_neg (by omega),b6]at hr;dsimp only at hr;generalize s.c+s.p+t.page*16+t.slot=sa at *;generalize zfl t.pa=G at *;generalize wayW t.c=ww at *;generalize decide (m.get sa=G)=g at *;generalize bq:zg5 s t.c t.page t.slot t.pa=E at *;have l:Hid (∀ Y,¬ t.pb=t.c->At3 q p b w Y (za7 s {t with gave:=g,next:=3,done:= !g} (ptrV t.put q2)) 276 (m.swap t.c sa G ww)->zce q q2 p b t.put.isSome w Y (.returned (.tuple #[])) s r.1 r.2):=hd' fun Y bs hA=>by rw[hr,if_neg bs];exact zce.zoq h bb hA rfl
 have n:Hid (∀ Y q3,t.pb=t.c->w.heap.size<=q3->zaa Y q3 (zeh s E) 356->At3 q p b w Y (za7 s { (({t with gave:=g,next:=2,put:=some E}:Fe).kept) with done:= !g} (.pointer (some ⟨q3,0,.none⟩))) 276 (m.swap t.c sa G ww)->zce q q2 p b t.put.isSome w Y (.returned (.tuple #[])) s r.1 r.2):=hd' fun Y q3 he Z bg hA=>by
  rw[hr,if_pos he];have ba:(({t with gave:=g,next:=2,put:=some E}:Fe).kept).put=some E:=by rcases zcv ({t with gave:=g,next:=2,put:=some E}:Fe) E rfl with⟨_,e⟩|⟨_,_,e⟩|⟨_,_,e⟩<;>rw[e]
  refine⟨rfl,⟨q3,⟨by show zaa Y q (za7 s _ (ptrV (({t with gave:=g,next:=2,put:=some E}:Fe).kept).put q3)) _;rw[ba];exact hA.row,fun z hz=>?_⟩,.inr Z⟩,hA.wds,hA.only.weak fun k J=>?_⟩
  ·have hz:(({t with gave:=g,next:=2,put:=some E}:Fe).kept).put=some z:=hz;rw[ba]at hz;obtain rfl:=Option.some.inj hz;exact⟨bg,by have:=h0.ls;omega⟩
  rcases J with J|J|J
  ·exact .inl J
  ·exact .inr (.inr (.inl J))
  exact .inr (.inr (.inr J))
 have o:=fun Y q3 (hY:FeAt Y q q3 s {t with gave:=g,next:=2,put:=some E})=>zoz q q3 s {t with gave:=g,next:=2,put:=some E} E Y hY rfl;have b3:(({t with gave:=g,next:=2,put:=some E}:Fe).kept).gave=g:=by rcases zcv ({t with gave:=g,next:=2,put:=some E}:Fe) E rfl with⟨_,e⟩|⟨_,_,e⟩|⟨_,_,e⟩<;>rw[e]
 generalize bp:(({t with gave:=g,next:=2,put:=some E}:Fe).kept)=tk at *;replace b3:=hd' b3
 have b1:Hid (∀ Y q3,zaa Y q3 (zeh s E) 356->q≠q3->zaa Y q (za7 s {t with gave:=g,next:=2} (.pointer (some ⟨q3,0,.none⟩))) 276->FeAt Y q q3 s {t with gave:=g,next:=2,put:=some E}):=hd' fun Y q3 h1 h2 Z=>⟨Z,fun z hz=>by
  simp only[Option.some.injEq]at hz
  subst hz
  exact⟨h1,h2⟩⟩
 clear hr bq bp b6 bh bc hf bj bk bi bx h hw bb;generalize ptrV t.put q2=pv at *;generalize t.put.isSome=has at *;generalize zeh s E=c7 at *;obtain⟨sp,sc,sm⟩:=s;obtain⟨L,ta,tg,tl,tw,pk,pa,pb,tn,ti,y,D,j⟩:=t;dsimp only at C H I X O J l n o b1 ⊢;subst J;replace C:=hd' C;replace H:=hd' H;replace I:=hd' I;replace X:=hd' X;replace O:=hd' O;replace o:=hd' o;have lq:=h0.lt;have c8:=ci 2 (h0.cell 8);have c9:=ci pa (h0.cell 9);go_in;go_upto_region 4 with(go_at_call 156;(with_reducible refine(H.out _).mono ?_);rintro r1 w1 ⟨rfl,b8⟩;have hX:=h0.below b8);clear c8 c9 lq;go_cut [1] (fun s1 wx=>s1= .pointer (some ⟨p,0,.none⟩)/\At3 q p b w wx (za7 ⟨sp,sc,sm⟩ ⟨L,ta,tg,tl,tw,2,pa,pb,tn,ti,y,g,j⟩ pv) 276 (m.swap L sa G ww));case first=>
  refine zcx 29 (last:= { dst:=none,op:=Op.store 4 (Operand.tmp 77) (Operand.tmp 75),type:=0,pos:=_,after:=_,guard:=none}) (x:=zbb 90) (ld:=26) (v:= .bool g) (ts:= [50,54,67,68,74])
   (K0:=fun Y=>At3 q p b w Y (za7 ⟨sp,sc,sm⟩ ⟨L,ta,tg,tl,tw,2,pa,pb,tn,ti,y,D,j⟩ pv) 276 m) (K1:=fun Y=>At3 q p b w Y (za7 ⟨sp,sc,sm⟩ ⟨L,ta,tg,tl,tw,2,pa,pb,tn,ti,y,D,j⟩ pv) 276 (m.swap L sa G ww))
   (by kernel_rfl) rfl (by kernel_rfl) (by simp only[List.take,zbb,zfq,zej,nopO,nopC,Nat.reduceBEq,Bool.or_false,Bool.or_true,Bool.false_eq_true,↓reduceIte,Nat.reduceAdd];exact rfl) (by kernel_rfl) (by kernel_rfl) (by kernel_rfl) (by simp[zbb]) (by simp[zbb]) (by simp[zbb]) (by simp[zbb]) (by kernel_rfl) (by simp[zbb]) (by simp[zbb])
   ⟨⟨fun Y Y' h1 h2 Z=>h1.far h2 Z hX.only.size⟩,⟨fun Y Y' h1 h2 Z=>h1.far h2 Z hX.only.size⟩⟩ hX.drew ?_
  apply Exists.intro;refine⟨fun B hb hs=>?_,fun h=>(by simp[zbb]at h),fun Q0=>?_,?_⟩;case refine_1=>
   have b0:zaa B q (za7 ⟨sp,sc,sm⟩ ⟨L,ta,tg,tl,tw,2,pa,pb,tn,ti,y,D,j⟩ pv) 276:=hb.elim (fun h=>h.row) (fun h=>h.row);have lB:=b0.lt;obtain⟨k0,k1,k2,k3⟩:=ci4 sp sc sm L b0.cell;have k5:=ci tg (b0.cell 5);have k6:=ci tl (b0.cell 6);repeat (go_big_quiet_step ((first|(go_at_call 121;exact zam (C.out _))|(go_at_call 156;exact zam (I.out _)))))
   exact wpQuiet_nil rfl
  case refine_2=>exact zcz rfl (fun _ _=>by simp[go_sem]) fun Y b7 hs=>(X.out Y b7.wds).mono fun r Y' ⟨h1,h2,Z⟩=>⟨h1,b7.access h2 Z,Z.weak fun k J=>by have:=hX.only.size;rcases J with rfl|rfl;exact Nat.lt_of_lt_of_le h0.ls.2.1 this;exact Nat.lt_of_lt_of_le h0.ls.2.2 this⟩
  case refine_3=>intro a w4 M hf;obtain⟨rfl,c4,b2,_⟩:=hf;have cf:=ce (.bool D) (b2.cell 14);have zf:=b2.free;have N:=b2.set 14 (.bool g);simp only[zbb,vput,List.take,List.size_toArray,List.length_cons,List.length_nil,Nat.reduceAdd,Nat.reduceLT,decide_false,Bool.false_eq_true,if_false];go_wp2;go_meet;exact⟨rfl,N⟩
 case rest=>
  obtain⟨rfl,hA⟩:=hcut;have c6:=h0.ls;clear h0 X C H I hX b8;have bn:=ci tn (hA.cell 11);have zf:=hA.free;go_upto_region 6 with fail;have N:=hA.set 11 (.int .i64 3);generalize World.setCell _ ⟨q,11,.none⟩ (.int .i64 3)=U at *;clear hA bn zf;replace N:At3 q p b w U (za7 ⟨sp,sc,sm⟩ ⟨L,ta,tg,tl,tw,2,pa,pb,3,ti,y,g,j⟩ pv) 276 (m.swap L sa G ww):=N;have lU:=N.lt;have z3:=ci L (N.cell 3);have bm:=ci pb (N.cell 10);by_cases he:pb=L
  ·replace n:=hd' (fun Y q3=>n.out Y q3 he);subst he;clear l;go_quiet (fail);have hC:=N.drewN nq;clear N z3 bm lU;generalize U.drewN nq=V at *;go_upto_region 7 with fail;have hS:=hd' (fun (Y:World) (v:Value) (h:zaa Y q (za7 ⟨sp,sc,sm⟩ ⟨pb,ta,tg,tl,tw,2,pa,pb,3,ti,y,g,j⟩ v) 276)=>(⟨h.cell 0,h.cell 1,h.cell 2,h.cell 3,h.cell 5,h.cell 6,h.cell 9⟩:Y.cell? ⟨q,0,.none⟩=some (.int .i64 sp)/\Y.cell? ⟨q,1,.none⟩=some (.int .i64 sc)/\Y.cell? ⟨q,2,.none⟩=some (.int .i64 sm)/\Y.cell? ⟨q,3,.none⟩=some (.int .i64 pb)/\Y.cell? ⟨q,5,.none⟩=some (.int .i64 tg)/\Y.cell? ⟨q,6,.none⟩=some (.int .i64 tl)/\Y.cell? ⟨q,9,.none⟩=some (.int .i64 pa)))
   go_region_held3 (fun Y=>Y.cell? ⟨q,0,.none⟩=some (.int .i64 sp)/\Y.cell? ⟨q,1,.none⟩=some (.int .i64 sc)/\Y.cell? ⟨q,2,.none⟩=some (.int .i64 sm)/\Y.cell? ⟨q,3,.none⟩=some (.int .i64 pb)/\Y.cell? ⟨q,5,.none⟩=some (.int .i64 tg)/\Y.cell? ⟨q,6,.none⟩=some (.int .i64 tl)/\Y.cell? ⟨q,9,.none⟩=some (.int .i64 pa))
    (first|exact hS.out _ _ hC.row.drew|exact hS.out _ _ hD.row|exact hS.out _ _ ((hD.set 13 _).row.cast rfl))
    (first|(go_at_call 279;(with_reducible refine(O.out _).mono ?_);rintro r w6 ⟨q3,rfl,bu,R,b9⟩;have hD:=hC.drew.below b9;have bz:=hD.cell 13;have zf:=hD.free))
   have hE:=hD.set 13 (.pointer (some ⟨q3,0,.none⟩));have F:q3≠q:=by have:=hC.lt;have hd:V.drew.heap.size=V.heap.size:=rfl;omega
   have bf:w.heap.size<=q3:=Nat.le_trans hC.only.size bu;have b4:=R.other F 13 (.pointer (some ⟨q3,0,.none⟩));generalize World.setCell w6 ⟨q,13,.none⟩ (.pointer (some ⟨q3,0,.none⟩))=T at *;clear hD bz zf R b9 hC;replace hE:At3 q p b w T (za7 ⟨sp,sc,sm⟩ ⟨pb,ta,tg,tl,tw,2,pa,pb,3,ti,y,g,j⟩ (.pointer (some ⟨q3,0,.none⟩))) 276 (m.swap pb sa G ww):=hE;have bn:=ci 3 (hE.cell 11);have zf:=hE.free;have hG:=hE.set 11 (.int .i64 2);have S:=b4.other F 11 (.int .i64 2);go_wp2_with (first|(go_at_call 272;refine(o.out _ q3 (b1.out _ q3 S (fun e=>F e.symm) (hG.row.cast rfl))).mono ?_;rintro r w7 hT;obtain rfl:=hT.ret;have hJ:=hG.turned hT;have b5:=S.only hT.only F;have cc:w7.cell? ⟨q,14,.none⟩=some (.bool g):=(by rw[<-b3.out];exact hJ.cell 14);have cd:=ce (.bool tk.done) (hJ.cell 15);have yf:=hJ.free));go_returns;exact n.out _ q3 bf (b5.other F _ _) (hJ.set 15 _)
  replace l:=hd' (fun Y=>l.out Y he);have c5:(pb==L)=false:=by simpa using he
  clear he n o O;go_quiet (fail);have hC:=N.drewN nq;clear N z3 bm lU;generalize U.drewN nq=V at *;have ca:=ce (.bool g) (hC.cell 14);have cb:=ce (.bool j) (hC.cell 15);have zf:=hC.free;go_wp2_with fail;go_returns;exact l.out _ (hC.set 15 _)
theorem zyu(q q2 p b:Nat)(s:Sh)(t:Fe)(m:Mem)(w:World)(h:FeAt w q q2 s t)(O:zaq w p b m)(b0:q≠p)(X:q≠b)(C:t.put≠none->q2≠p/\q2≠b)(L:Fits s m)(ho:feOk s t)(hs:m.st<1000000000):
  Calls Tryz.prog 271 #[.pointer (some ⟨q,0,.none⟩),.pointer (some ⟨p,0,.none⟩)] w fun e w'=>zce q q2 p b t.put.isSome w w' e s (zca s t m).1 (zca s t m).2:=by
 rcases Bool.eq_false_or_eq_true t.done with hd|hd
 ·have n:zca s t m=(t,m):=by unfold zca;rw[if_pos hd]
  rw[n];dsimp only;have b6:w.cell? ⟨q,15,.none⟩=some (.bool true):=by rw[<-hd];exact h.row.cell 15
  have j:zce q q2 p b t.put.isSome w w (.returned (.tuple #[])) s t m:=⟨rfl,⟨q2,h,.inl ⟨rfl,isSome_none⟩⟩,O,Only.refl _ _⟩;replace j:=hd' j;clear h O hd n ho L C;go_in;go_wp2_with fail;go_returns;exact j.out
 obtain⟨c1,c2,c3,c4,c5,M,N,R,S,B⟩:=ho.cl hd;have F:At3 q p b w w (za7 s t (ptrV t.put q2)) 276 m:=At3.start h.row O b0 X;have j:Hid (∀ Y (t':Fe) m',t'.put=t.put->At3 q p b w Y (za7 s t' (ptrV t.put q2)) 276 m'->zce q q2 p b t.put.isSome w Y (.returned (.tuple #[])) s t' m'):=hd' fun Y t' m' e o=>zce.zoq h C (by rw[e];exact o) e;have bv:w.cell? ⟨q,15,.none⟩=some (.bool false):=by rw[<-hd];exact h.row.cell 15
 have J:=ci t.next (h.row.cell 11);obtain⟨r,n⟩:∃ r,r=zca s t m:=⟨_,rfl⟩;rw[<-n];unfold zca at n;rw[if_neg (by rw[hd];decide)]at n;by_cases n0:t.next=0
 ·rw[if_pos n0]at n;have bw:=hd' (zy7 q p b s t (ptrV t.put q2) m w F L hs c2 c3);have bb:(t.look s m).1.put=t.put:=by unfold Fe.look;dsimp only;split<;>(try split)<;>rfl
  have l:Hid (∀ Y,At3 q p b w Y (za7 s (t.look s m).1 (ptrV t.put q2)) 276 (t.look s m).2->zce q q2 p b t.put.isSome w Y (.returned (.tuple #[])) s r.1 r.2):=hd' fun Y o=>by rw[n];exact j.out Y _ _ bb o
  rw[n0]at J;clear n j c1 c2 c3 c4 c5 M N R S B ho L h O C n0 hd bb;generalize t.look s m=lk at *;go_in;go_wp2_with (go_at_call 273;(with_reducible refine bw.out.mono ?_);rintro r1 w1 ⟨rfl,o⟩);go_returns;exact l.out _ o
 rw[if_neg n0]at n;by_cases n1:t.next=1
 ·rw[if_pos n1]at n;rw[n1]at J;have N:=N n1;rcases M (by omega) with⟨U,_⟩|⟨U,ba⟩
  ·have T:=hd' (zpj q p b s t (ptrV t.put q2) m w F L hs c2 U N);have l:Hid (∀ Y,At3 q p b w Y (za7 s (t.claim s m).1 (ptrV t.put q2)) 276 (t.claim s m).2/\(t.claim s m).1.put=t.put->zce q q2 p b t.put.isSome w Y (.returned (.tuple #[])) s r.1 r.2):=hd' fun Y o=>by rw[n];exact j.out Y _ _ o.2 o.1
   clear n j c1 c2 c3 c4 c5 M N R S B ho L h O C n0 n1 hd U;generalize t.claim s m=lk at *;go_in;go_wp2_with (go_at_call 274;(with_reducible refine T.out.mono ?_);rintro r1 w1 ⟨rfl,o⟩);go_returns;exact l.out _ o
  have T:=hd' (zsz q q2 p b s t m w h O b0 X C L hs c2 U ba);rw[<-n]at T;clear n j c1 c2 c3 c4 c5 M N R S B ho L h O C n0 n1 hd U ba;go_in;go_wp2_with (go_at_call 274;(with_reducible refine T.out.mono ?_);rintro r1 w1 hS;obtain rfl:=hS.ret);go_returns;exact hS
 rw[if_neg n1]at n;by_cases n2:t.next=2
 ·rw[if_pos n2]at n;rw[n2]at J;obtain⟨U,x,hx,bn,cb⟩:=R n2;rw[hx]at n;dsimp only at n;obtain⟨b9,V⟩:=h.inn x hx;have b3:=C (by rw[hx];exact fun e=>by cases e);have E:=zxz q2 p b s x m w b9 O b3.1 b3.2 L bn hs;have D:=h.row;rw[hx]at D;have cf:=ce (.pointer (some ⟨q2,0,.none⟩)) (D.cell 13);generalize zd3 s x m=ym at *;obtain⟨y,m2⟩:=ym;dsimp only at E n;have b1:=hd' (fun Y (hY:FeAt Y q q2 s {t with put:=some y})=>zoz q q2 s {t with put:=some y} y Y hY rfl)
  have bc:Hid (∀ Y e,Stepped q2 p b w Y e (zeh s y) 356 m2->FeAt Y q q2 s {t with put:=some y}):=hd' fun Y e hS=>⟨D.only hS.only (by rintro(e|e|e);exact V e;exact b0 e;exact X e),fun z hz=>by
   simp only[Option.some.injEq]at hz
   subst hz
   exact⟨hS.row,V⟩⟩
  have b2:(({t with put:=some y}:Fe).kept).put=some y:=by rcases zcv ({t with put:=some y}:Fe) y rfl with⟨_,e⟩|⟨_,_,e⟩|⟨_,_,e⟩<;>rw[e]
  have b8:Hid (∀ Y e Z e2,Stepped q2 p b w Y e (zeh s y) 356 m2->Turned q Y Z e2 (za7 s (({t with put:=some y}:Fe).kept) (.pointer (some ⟨q2,0,.none⟩))) 276->zce q q2 p b t.put.isSome w Z (.returned (.tuple #[])) s r.1 r.2):=hd' fun Y e Z e2 hS o=>by
   rw[n];refine⟨rfl,⟨q2,⟨by show zaa Z q (za7 s _ (ptrV (({t with put:=some y}:Fe).kept).put q2)) _;rw[b2];exact o.row,fun z hz=>?_⟩,.inl ⟨rfl,fun e=>by rw[hx]at e;cases e⟩⟩,hS.wds.only o.only (fun e=>b0 e.symm) (fun e=>X e.symm),?_⟩
   ·have hz:(({t with put:=some y}:Fe).kept).put=some z:=hz;rw[b2]at hz;obtain rfl:=Option.some.inj hz;exact⟨hS.row.only o.only (fun e=>V e.symm),V⟩
   refine(hS.only.weak (G:=fun k=>k=q\/(t.put.isSome=true/\k=q2)\/k=p\/k=b) fun k e=>?_).trans o.only (fun _ _ e=>.inl e);rcases e with e|e|e
   ·exact .inr (.inl ⟨by rw[hx];rfl,e⟩)
   ·exact .inr (.inr (.inl e))
   exact .inr (.inr (.inr e))
  replace E:=hd' E;clear n j F c1 c2 c3 c4 c5 M N R S B ho L h O n0 n1 n2 b9 bn cb D b3 C b2 hd U;generalize ({t with put:=some y}:Fe).kept=t2 at *;go_in;go_wp2_with (first|(go_at_call 275;(with_reducible refine E.out.mono ?_);rintro r1 w1 hS;obtain rfl:=hS.ret)|(go_at_call 272;refine(b1.out _ (bc.out _ _ hS)).mono ?_;rintro r2 w2 hT;obtain rfl:=hT.ret));go_returns;exact b8.out _ _ _ _ hS hT
 rw[if_neg n2]at n;by_cases n3:t.next=3
 ·rw[if_pos n3]at n;rw[n3]at J;have U:=S n3;have bj:0<zah t.pa/\(0<=t.slot/\t.slot<zah t.pa):=by rcases M (by omega) with h1|h1;omega;exact h1.2
  have bz:=zdg bj.1;obtain⟨bk,bi⟩:=L.slot c2 (i:=t.slot) (by omega);have H:=fun Y=>zbm s.p s.c s.m t.page t.slot Y;rw[bk]at H n;have I:=fun Y=>zbl 1 t.pa Y;have bm:Hid (zc8 t.pa=zc3 1 t.pa):=hd' rfl;rw[<-bm.out]at I;have E:=fun Y (hY:zaq Y p b m)=>zba p b m t.c (s.c+s.p+t.page*16+t.slot) (zc8 t.pa) Y hY bi (zch _ _) hs;generalize s.c+s.p+t.page*16+t.slot=sa at *;generalize zc8 t.pa=ow at *;have l:Hid (∀ Y,At3 q p b w Y (za7 s {t with done:=true} (ptrV t.put q2)) 276 (m.store t.c sa ow)->zce q q2 p b t.put.isSome w Y (.returned (.tuple #[])) s r.1 r.2):=hd' fun Y o=>by rw[n];exact j.out Y _ _ rfl o
  clear n j c1 c2 c3 c4 c5 M N R S B ho L h O C n0 n1 n2 U bj bz bk bi bm J bv;generalize ptrV t.put q2=pv at *;generalize t.put.isSome=has at *;obtain⟨sp,sc,sm⟩:=s;obtain⟨tc,ta,tg,tl,tw,pk,pa,pb,tn,ti,cd,b5,cc⟩:=t;dsimp only at H I E l n3 hd ⊢;subst n3 hd;replace H:=hd' H;replace I:=hd' I;replace E:=hd' E;have lq:=F.lt;obtain⟨c0,c1,c2,c3,c4,c5,M⟩:=ci7 sp sc sm tc ta tg tl F.cell;have N:=ce (.int .u64 tw) (F.cell 7);have R:=ci pk (F.cell 8);have S:=ci pa (F.cell 9);have B:=ci pb (F.cell 10);have bp:=ci 3 (F.cell 11);have bq:=ci ti (F.cell 12);have bs:=ce (pv) (F.cell 13);have bu:=ce (.bool b5) (F.cell 14);have b6:=ce (.bool false) (F.cell 15);go_in;go_upto_region 10 with fail;refine zad 25 (by kernel_rfl) (by kernel_rfl) ?_;dsimp only[List.take,List.drop];repeat (go_big_quiet_step ((first|(go_at_call 121;exact zam (H.out _))|(go_at_call 156;exact zam (I.out _)))))
  refine wpQuiet_nil ?_;rintro _ ⟨e',rfl⟩;have hZ:=F.below e'.below;generalize e'.w=Z at *;change wpList _ _ _ _ _ Z;clear c0 c1 c2 c3 c4 c5 M N R S B bp bq bs bu b6 F lq;go_wp2_with (go_at_call 257;(with_reducible refine(E.out _ hZ.wds).mono ?_);rintro r1 w2 ⟨rfl,ca,bx⟩;have o:=hZ.access ca bx;have cg:=ce (.bool false) (o.cell 15);have zf:=o.free);go_returns;exact l.out _ (o.set 15 _)
 rw[if_neg n3]at n;have n4:t.next=4:=by omega
 rw[n4]at J;have B:=B n4;have bf:1<=t.pa/\t.pa<=8/\t.pa<=s.p-t.page:=by rcases M (by omega) with h1|h1;exact h1.2;omega
 have b7:=hd' (zvp q p b s t (ptrV t.put q2) m w F L hs c2 bf B.2);have b4:r.1=if t.i=t.pa-1 then {t with done:=true} else {t with i:=t.i+1}:=by rw[n];split<;>rfl
 have bg:r.2=if t.i=t.pa-1 then m.store t.c (zak s.p s.c s.m t.page) 0 else m.store t.c (zak s.p s.c s.m (t.page+t.i+1)) 0:=by rw[n];split<;>rfl
 rw[<-b4,<- bg]at b7;have bh:r.1.put=t.put:=by rw[b4];split<;>rfl
 have l:Hid (∀ Y,At3 q p b w Y (za7 s r.1 (ptrV t.put q2)) 276 r.2->zce q q2 p b t.put.isSome w Y (.returned (.tuple #[])) s r.1 r.2):=hd' fun Y o=>j.out Y _ _ bh o;clear n b4 bg bh j c1 c2 c3 c4 c5 M N R S B ho L h O C n0 n1 n2 n3 n4 hd bf;go_in;go_wp2_with (go_at_call 276;(with_reducible refine b7.out.mono ?_);rintro r1 w1 ⟨rfl,o⟩);go_returns;exact l.out _ o
end Go.Proofs.YtkbddndcegpllaaGreat
