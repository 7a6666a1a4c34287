/- Lemmas for the claim. -/
import Derived.Test.YtkilokkopbajkaaGreatBw20

set_option linter.all false
set_option maxHeartbeats 2000000
set_option maxRecDepth 100000
namespace Go.Proofs.YtkilokkopbajkaaGreat

attribute [local go_sem] RA UD

open Go.RowKit

attribute [local go_sem ↓] Go.wp_at_zero Go.wp_at_succ

theorem zy7(q p b:Nat)(s:Sh)(t:Fe)(pv:Value)(m:Mem)(w:World)(h0:At3 q p b w w (RA s t pv) 246 m)(hf:Fits s m)(hs:m.st<1000000000)(b6:0<=t.page/\t.page<s.p)(ba:spB s t.a=true):
  Calls Tryz.prog 234 #[some q,some p] w fun e w'=>e= .returned (.tuple #[])/\At3 q p b w w' (RA s (t.look s m).1 pv) 246 (t.look s m).2:=by
 have bj:=hf.bd;have j:=fun Y=>MM s t.a Y;rw[ba,jP rfl,jP rfl]at j;have U:0<=t.a%64/\t.a%64<64:=by omega
 obtain⟨b3,b7⟩:=hf.page b6;have C:=fun Y=>EB s.p s.c s.m t.page Y;rw[b3]at C;have N:=fun Y (hY:oA Y p b m)=>fF p b m t.c (s.c+t.page) Y hY b7 hs;have R:=fun Y=>xJ s t.page (m.get (s.c+t.page)) Y (Mem.kF h0.wds.fit _);have L:=fun k Y=>mH k Y
 have hr:t.look s m=(if MA s.p s.c s.m t.page (m.get (s.c+t.page))=true/\pgK s t.page (m.get (s.c+t.page))=3/\t.a%64=0 then {t with word:=m.get (s.c+t.page),pk:=pgK s t.page (m.get (s.c+t.page)),pa:=pgP s t.page (m.get (s.c+t.page)) 0,pb:=pgP s t.page (m.get (s.c+t.page)) 1,next:=1}
   else if MA s.p s.c s.m t.page (m.get (s.c+t.page))=true/\pgK s t.page (m.get (s.c+t.page))=2/\t.a%64%qA (pgP s t.page (m.get (s.c+t.page)) 0)=0 then {t with word:=m.get (s.c+t.page),pk:=pgK s t.page (m.get (s.c+t.page)),pa:=pgP s t.page (m.get (s.c+t.page)) 0,pb:=pgP s t.page (m.get (s.c+t.page)) 1,next:=1,slot:=t.a%64/qA (pgP s t.page (m.get (s.c+t.page)) 0)}
   else {t with word:=m.get (s.c+t.page),pk:=pgK s t.page (m.get (s.c+t.page)),pa:=pgP s t.page (m.get (s.c+t.page)) 0,pb:=pgP s t.page (m.get (s.c+t.page)) 1,next:=1,done:=true},m.load t.c (s.c+t.page)):=by
  unfold Fe.look pgK pgP
  dsimp only
  rw[b3]
  by_cases hB:MA s.p s.c s.m t.page (m.get (s.c+t.page))=true<;>simp[hB]
 have n:MA s.p s.c s.m t.page (m.get (s.c+t.page))=true/\pgK s t.page (m.get (s.c+t.page))=2->0<qA (pgP s t.page (m.get (s.c+t.page)) 0):=fun h=>by have h2:=h.2;unfold pgK at h2;rw[jP h.1]at h2;unfold pgP;rw[jP h.1];exact(BX U (oJ h.1 h2).2.2).1
 rw[hr];clear hr ba b3 b7 b6 bj hf;generalize s.c+t.page=b4 at *;generalize m.get b4=x at *;generalize MA s.p s.c s.m t.page x=B at *;generalize pgK s t.page x=D at *;generalize pgP s t.page x 0=S at *;generalize pgP s t.page x 1=e2 at *;replace L:=fun Y=>L S Y;have bb:=wH S;generalize qA S=z at *;generalize t.a%64=i at *;generalize t.a/64=qu at *;dsimp only;obtain⟨t2,F,b0⟩:∃ t2:Fe,Hid (t2=if B=true/\D=3/\i=0 then {t with word:=x,pk:=D,pa:=S,pb:=e2,next:=1} else if B=true/\D=2/\i%z=0 then {t with word:=x,pk:=D,pa:=S,pb:=e2,next:=1,slot:=i/z} else {t with word:=x,pk:=D,pa:=S,pb:=e2,next:=1,done:=true})/\t2=_:=⟨_,hd' rfl,rfl⟩;rw[<-b0];clear b0;obtain⟨sp,sc,sm⟩:=s;obtain⟨tc,ta,tg,tl,tw,pk,pa,pb,tn,ti,I,o,G⟩:=t;dsimp only at j C N R F ⊢;replace j:=hd' j;replace C:=hd' C;replace N:=hd' N;replace R:=hd' R;replace L:=hd' L;replace n:=hd' n;have lq:=h0.lt;have bc:=h0.cell;go_in;go_upto_region 0 with fail;refine wre ?_;repeat (go_big_quiet_step (((go_at_call 126;exact AA (j _)))))
 refine wqn fun X bi=>?_;have hX:=h0.below bi;clear bc lq;go_upto_region 1 with fail;go_cut [5] (fun s5 wx=>s5= .int .i64 i/\At3 q p b w wx (RA ⟨sp,sc,sm⟩ ⟨tc,ta,tg,tl,x,pk,pa,pb,tn,ti,I,o,G⟩ pv) 246 (m.load tc b4));case first=>
  refine UK 18 (last:= { dst:=none,op:=Op.store 118 (Operand.tmp 39) (Operand.tmp 37),type:=0,pos:=_,after:=_,guard:=none}) (x:=KA 60) (ld:=15) (v:= .int .u64 x) (ts:= [23,27,36])
   (K0:=fun Y=>At3 q p b w Y (RA ⟨sp,sc,sm⟩ ⟨tc,ta,tg,tl,tw,pk,pa,pb,tn,ti,I,o,G⟩ pv) 246 m) (K1:=fun Y=>At3 q p b w Y (RA ⟨sp,sc,sm⟩ ⟨tc,ta,tg,tl,tw,pk,pa,pb,tn,ti,I,o,G⟩ pv) 246 (m.load tc b4))
   (by kernel_rfl) rfl (by kernel_rfl) (by simp only[List.take,KA,GD,MC,nopO,nopC,Nat.reduceBEq,Bool.or_false,Bool.or_true,Bool.false_eq_true,↓reduceIte,Nat.reduceAdd];exact rfl) (by kernel_rfl) (by kernel_rfl) (by kernel_rfl) (by simp[KA]) (by simp[KA]) (by simp[KA]) (by simp[KA]) (by kernel_rfl) (by simp[KA]) (by simp[KA])
   ⟨⟨fun Y Y' h1 h2 h3=>h1.far h2 h3 hX.only.size⟩,⟨fun Y Y' h1 h2 h3=>h1.far h2 h3 hX.only.size⟩⟩ hX.drew ?_
  apply Exists.intro;refine⟨fun B hb hs=>?_,fun h=>(by simp[KA]at h),fun Q0=>?_,?_⟩;case refine_1=>
   have O:aA B q (RA ⟨sp,sc,sm⟩ ⟨tc,ta,tg,tl,tw,pk,pa,pb,tn,ti,I,o,G⟩ pv) 246:=hb.elim (fun h=>h.row) (fun h=>h.row);have lB:=O.lt;have bq:=O.cell;repeat (go_big_quiet_step (((go_at_call 112;exact AA (C _)))))
   exact wpQuiet_nil rfl
  case refine_2=>exact gF rfl (fun _ _=>by simp[go_sem]) fun Y b1 hs=>(N Y b1.wds).mono fun r Y' ⟨h1,h2,h3⟩=>⟨h1,b1.load h2 h3,h3.weak fun k hk=>hk ▸ Nat.lt_of_lt_of_le b1.ls.2.1 hX.only.size⟩
  case refine_3=>intro a w4 M hf;obtain⟨rfl,bm,b2,_⟩:=hf;have bs:=b2.cell;have zf:=b2.free;have hB:=b2.set 7 (.int .u64 x);simp only[KA,vput,List.take,List.size_toArray,List.length_cons,List.length_nil,Nat.reduceAdd,Nat.reduceLT,decide_false,Bool.false_eq_true,if_false];go_wp2;go_meet;exact⟨rfl,hB⟩
 case rest=>
  obtain⟨rfl,hA⟩:=hcut;clear hX N C j;obtain⟨Y,rfl⟩:∃ V:World,V=wc:=⟨_,rfl⟩;have lY:=hA.lt;have bf:=hA.cell;go_upto_region 2 with fail;go_cut [7,8] (fun s7 s8 wx=>∃ E,s7= .pointer (some ⟨E,0,.none⟩)/\s8= .bool B/\Y.heap.size<=E/\aA wx E #[D,S,e2] 136/\Below Y.heap.size Y wx);case first=>
   refine zkt (x:=⟨16,17,14,7,54,136, #[.int .i64 0,.int .i64 0,.int .i64 0], #[D,S,e2]⟩) (y:=⟨1000,1001,0,98,97,0, #[], #[]⟩) (by kernel_rfl) (by simp only[nopF,nopO,ownB,Nat.reduceBEq,Bool.or_false,Bool.or_true,Bool.false_eq_true,↓reduceIte,Nat.reduceAdd];exact rfl) (by kernel_rfl) (by kernel_rfl) (by kernel_rfl) (by constructor<;>(dsimp only;decide)) (by refine⟨?_,?_,?_,?_⟩<;>(dsimp only;decide)) rfl (by constructor<;>simp) ?_;apply Exists.intro;refine⟨fun B hb=>?_,?_,?_⟩;case refine_1=>
    have O:=hA.row.below hb;have lB:=O.lt;have bu:=O.cell;repeat (go_big_quiet_step (((go_at_call 111;exact AA (R _)))))
    exact wpQuiet_nil rfl
   case refine_2=>exact sM rfl rfl rfl rfl rfl rfl rfl rfl (by dsimp only;decide +kernel) (by dsimp only;decide +kernel)
   case refine_3=>intro a w4 M hf;obtain⟨rfl,hb,bh,hM⟩:=hf;simp only[Act.put,vptr];go_wp2;go_meet;exact⟨_,rfl,rfl,bh,hM,hb⟩
  case rest=>
   obtain⟨E,rfl,rfl,hE,bg,b5⟩:=hcut;have hC:=hA.below b5;clear hA bf R;have bx:E≠q:=fun e=>by rw[e]at hE;omega
   obtain⟨Z,rfl⟩:∃ V:World,V=wc:=⟨_,rfl⟩;clear b5;have bv:=bg.cell;have bw:=hC.cell;have zf:=hC.free;have hD:=(((hC.set 8 (.int .i64 D)).set 9 (.int .i64 S)).set 10 (.int .i64 e2)).set 11 (.int .i64 1);obtain⟨o1,o2⟩:=U;obtain⟨z1,z2⟩:=bb;have l:∀ (h1:¬ (B=true/\D=3/\i=0)) (h2:¬ (B=true/\D=2/\i%z=0)),t2=⟨tc,ta,tg,tl,x,D,S,e2,1,ti,I,o,true⟩:=fun h1 h2=>(F.out.trans (jN h1)).trans (jN h2);replace l:=hd' l;by_cases J:B=true/\D=3/\i=0
   ·replace F:=hd' (F.out.trans (jP J));obtain⟨rfl,rfl,rfl⟩:=J;clear l n;go_wp2_with fail;go_returns;exact⟨rfl,by rw[F];exact hD⟩
   by_cases H:B=true/\D=2/\i%z=0
   ·replace F:=hd' ((F.out.trans (jN J)).trans (jP H));have hz:0<z:=n ⟨H.1,H.2.1⟩;have b9:i.tmod z=0:=by rw[Int.tmod_eq_emod_of_nonneg o1];exact H.2.2
    have bp:i.tdiv z=i/z:=Int.tdiv_eq_ediv_of_nonneg o1;have bk:(z==0)=false:=by simp;omega
    have bz:IntKind.i64.wrap (i/z)=i/z:=by have h1:0<=i/z:=Int.ediv_nonneg o1 (by omega);have h2:i/z<=i:=Int.ediv_le_self _ o1;exact IntWalk.i64_in _ ⟨by omega,by omega⟩
    obtain⟨rfl,rfl,b8⟩:=H;clear l n J;replace b8:=hd' b8;go_wp2_with (go_at_call 78;(with_reducible refine(L _).mono ?_);rintro r w1 ⟨rfl,rfl⟩);go_returns;exact⟨rfl,by rw[F];exact hD.set 6 _⟩
   have T:B=false\/(B=true/\D=3/\(i==0)=false)\/(B=true/\D=2/\(i%z==0)=false/\0<z)\/(B=true/\(D==3)=false/\(D==2)=false):=by
    rcases jB B with h|h
    ·by_cases h1:D=3
     ·exact .inr (.inl ⟨h,h1,by simpa[h,h1] using J⟩)
     by_cases h2:D=2
     ·exact .inr (.inr (.inl ⟨h,h2,by simpa[h,h2] using H,n ⟨h,h2⟩⟩))
     exact .inr (.inr (.inr ⟨h,by simpa using h1,by simpa using h2⟩))
    exact .inl h
   replace l:=hd' (l J H);clear J H n F;rcases T with rfl|⟨rfl,rfl,T⟩|⟨rfl,rfl,T,hz⟩|⟨rfl,T,bn⟩
   ·go_wp2_with fail;go_returns;exact⟨rfl,by rw[l];exact hD.set 15 _⟩
   ·go_wp2_with fail;go_returns;exact⟨rfl,by rw[l];exact hD.set 15 _⟩
   ·have b9:i.tmod z=i%z:=Int.tmod_eq_emod_of_nonneg o1;have bk:(z==0)=false:=by simp;omega
    go_wp2_with (go_at_call 78;(with_reducible refine(L _).mono ?_);rintro r w1 ⟨rfl,rfl⟩);go_returns;exact⟨rfl,by rw[l];exact hD.set 15 _⟩
   go_wp2_with fail;go_returns;exact⟨rfl,by rw[l];exact hD.set 15 _⟩
structure qE (q q2 p b:Nat) (has:Bool) (w w':World) (e:Ending) (s:Sh) (t:Fe) (m:Mem):Prop where
 ret:e= .returned (.tuple #[])
 at':∃ q3,FeAt w' q q3 s t/\(q3=q2/\(has=false->t.put=none)\/w.heap.size<=q3)
 wds:oA w' p b m
 only:Only (fun k=> k=q\/(has=true/\k=q2)\/k=p\/k=b) w w'
theorem qE.CI{q q2 p b:Nat}{w w':World}{s:Sh}{t t':Fe}{m:Mem}(h:FeAt w q q2 s t)(n:t.put≠none->q2≠p/\q2≠b)(i:At3 q p b w w' (RA s t' (ptrV t'.put q2)) 246 m)(l:t'.put=t.put):qE q q2 p b t.put.isSome w w' (.returned (.tuple #[])) s t' m:=by
 refine⟨rfl,⟨q2,⟨i.row,fun x j=>?_⟩,.inl ⟨rfl,fun e=>?_⟩⟩,i.wds,i.only.weak fun k f=>?_⟩
 ·rw[l]at j;obtain⟨h1,h2⟩:=h.inn x j;have h3:=n (by rw[j];exact fun e=>by cases e);exact⟨h1.only i.only (by rintro(e|e|e);exact h2 e.symm;exact h3.1 e;exact h3.2 e),h2⟩
 ·rw[l];exact isSome_none e
 rcases f with f|f|f
 ·exact .inl f
 ·exact .inr (.inr (.inl f))
 exact .inr (.inr (.inr f))
theorem zpj(q p b:Nat)(s:Sh)(t:Fe)(E:Value)(m:Mem)(w:World)(h0:At3 q p b w w (RA s t E) 246 m)(R:Fits s m)(hs:m.st<1000000000)(L:0<=t.page/\t.page<s.p)(J:t.pk=3)(S:0<=t.word/\t.word<18446744073709551616):
  Calls Tryz.prog 235 #[some q,some p] w fun e w'=>e= .returned (.tuple #[])/\At3 q p b w w' (RA s (t.claim s m).1 E) 246 (t.claim s m).2/\(t.claim s m).1.put=t.put:=by
 obtain⟨C,N⟩:=R.page L;have i:=fun Y=>EB s.p s.c s.m t.page Y;rw[C]at i;have l:=fun Y=>KF 1 t.c 0 Y;have I:Hid (QC t.c=UA 1 t.c 0):=hd' rfl;rw[<-I]at l;have y:=fun Y (hY:oA Y p b m)=>NH p b m t.c (s.c+t.page) t.word (QC t.c) Y hY N (eF _ _ _) hs;have hr:t.claim s m=({t with gave:=decide (m.get (s.c+t.page)=t.word),next:=4,done:= !decide (m.get (s.c+t.page)=t.word)},m.swap t.c (s.c+t.page) t.word (QC t.c)):=by unfold Fe.claim;rw[jP J,C]
 rw[hr];clear hr C N L R I S;generalize s.c+t.page=D at *;generalize QC t.c=S at *;generalize decide (m.get D=t.word)=g at *;dsimp only;obtain⟨sp,T,U⟩:=s;obtain⟨F,V,X,tl,G,pk,pa,pb,tn,Z,o,n,j⟩:=t;dsimp only at i y J ⊢;subst J;replace i:=hd' i;replace l:=hd' l;replace y:=hd' y;have lq:=h0.lt;have b0:=h0.cell;go_in;go_upto_region 1 with fail;go_cut [1] (fun s1 wx=>s1= .pointer (some ⟨p,0,.none⟩)/\At3 q p b w wx (RA ⟨sp,T,U⟩ ⟨F,V,X,tl,G,3,pa,pb,tn,Z,o,g,j⟩ E) 246 (m.swap F D G S));case first=>
  refine UK 28 (last:= { dst:=none,op:=Op.store 4 (Operand.tmp 38) (Operand.tmp 36),type:=0,pos:=_,after:=_,guard:=none}) (x:=KA 60) (ld:=25) (v:= .bool g) (ts:= [12,16,25,29,35])
   (K0:=fun Y=>At3 q p b w Y (RA ⟨sp,T,U⟩ ⟨F,V,X,tl,G,3,pa,pb,tn,Z,o,n,j⟩ E) 246 m) (K1:=fun Y=>At3 q p b w Y (RA ⟨sp,T,U⟩ ⟨F,V,X,tl,G,3,pa,pb,tn,Z,o,n,j⟩ E) 246 (m.swap F D G S))
   (by kernel_rfl) rfl (by kernel_rfl) (by simp only[List.take,KA,GD,MC,nopO,nopC,Nat.reduceBEq,Bool.or_false,Bool.or_true,Bool.false_eq_true,↓reduceIte,Nat.reduceAdd];exact rfl) (by kernel_rfl) (by kernel_rfl) (by kernel_rfl) (by simp[KA]) (by simp[KA]) (by simp[KA]) (by simp[KA]) (by kernel_rfl) (by simp[KA]) (by simp[KA])
   ⟨⟨fun Y Y' h1 h2 h3=>h1.far h2 h3 h0.only.size⟩,⟨fun Y Y' h1 h2 h3=>h1.far h2 h3 h0.only.size⟩⟩ h0.drew ?_
  apply Exists.intro;refine⟨fun B hb hs=>?_,fun h=>(by simp[KA]at h),fun Q0=>?_,?_⟩;case refine_1=>
   have O:aA B q (RA ⟨sp,T,U⟩ ⟨F,V,X,tl,G,3,pa,pb,tn,Z,o,n,j⟩ E) 246:=hb.elim (fun h=>h.row) (fun h=>h.row);have lB:=O.lt;have b2:=O.cell;repeat (go_big_quiet_step ((first|(go_at_call 112;exact AA (i _))|(go_at_call 139;exact AA (l _)))))
   exact wpQuiet_nil rfl
  case refine_2=>exact gF rfl (fun _ _=>by simp[go_sem]) fun Y H hs=>(y Y H.wds).mono fun r Y' ⟨h1,h2,h3⟩=>⟨h1,H.access h2 h3,h3.weak fun k J=>by rcases J with rfl|rfl;exact h0.ls.2.1;exact h0.ls.2.2⟩
  case refine_3=>intro a w4 M R;obtain⟨rfl,b1,z,_⟩:=R;have b3:=z.cell;have zf:=z.free;have hB:=z.set 14 (.bool g);simp only[KA,vput,List.take,List.size_toArray,List.length_cons,List.length_nil,Nat.reduceAdd,Nat.reduceLT,decide_false,Bool.false_eq_true,if_false];go_wp2;go_meet;exact⟨rfl,hB⟩
 case rest=>obtain⟨rfl,hA⟩:=hcut;clear h0 y i l b0 lq;have b4:=hA.cell;have zf:=hA.free;go_wp2_with fail;go_returns;exact⟨rfl,(hA.set 11 _).set 15 _,by first|rfl|trivial⟩
theorem zsz(q q2 p b:Nat)(s:Sh)(t:Fe)(m:Mem)(w:World)(h:FeAt w q q2 s t)(hw:oA w p b m)(bx:q≠p)(bw:q≠b)(bb:t.put≠none->q2≠p/\q2≠b)(hf:Fits s m)(hs:m.st<1000000000)(bc:0<=t.page/\t.page<s.p)(J:t.pk=2)(bj:0<mA t.pa/\(0<=t.slot/\t.slot<mA t.pa)):
  Calls Tryz.prog 235 #[some q,some p] w fun e w'=>qE q q2 p b t.put.isSome w w' e s (t.claim s m).1 (t.claim s m).2:=by
 have h0:At3 q p b w w (RA s t (ptrV t.put q2)) 246 m:=At3.start h.row hw bx bw;have bz:=eH bj.1;obtain⟨b5,bi⟩:=hf.slot bc (i:=t.slot) (by omega);have C:=fun Y=>oE s.p s.c s.m t.page t.slot Y;rw[b5]at C;have H:=fun Y=>mE 3 t.pa Y;have I:=fun Y=>mE 2 t.c Y;have bk:Hid (vE t.pa=qB 3 t.pa):=hd' rfl;have bm:Hid (wayW t.c=qB 2 t.c):=hd' rfl;rw[<-bk]at H;rw[<-bm]at I;have R:=fun Y (hY:oA Y p b m)=>NH p b m t.c (s.c+s.p+t.page*16+t.slot) (vE t.pa) (wayW t.c) Y hY bi (EE _ _) hs;have L:=fun Y=>z00 s t.c t.page t.slot t.pa Y;obtain⟨r,hr⟩:∃ r,r=t.claim s m:=⟨_,rfl⟩;rw[<-hr];unfold Fe.claim at hr;rw[jN (by omega),b5]at hr;dsimp only at hr;generalize s.c+s.p+t.page*16+t.slot=sa at *;generalize vE t.pa=G at *;generalize wayW t.c=ww at *;generalize decide (m.get sa=G)=g at *;generalize bs:fD s t.c t.page t.slot t.pa=D at *;have l:Hid (∀ Y,¬ t.pb=t.c->At3 q p b w Y (RA s {t with gave:=g,next:=3,done:= !g} (ptrV t.put q2)) 246 (m.swap t.c sa G ww)->qE q q2 p b t.put.isSome w Y (.returned (.tuple #[])) s r.1 r.2):=hd' fun Y bu S=>by rw[hr,jN bu];exact qE.CI h bb S rfl
 have n:Hid (∀ Y q3,t.pb=t.c->w.heap.size<=q3->aA Y q3 (UD s D) 318->At3 q p b w Y (RA s { (({t with gave:=g,next:=2,put:=some D}:Fe).kept) with done:= !g} (.pointer (some ⟨q3,0,.none⟩))) 246 (m.swap t.c sa G ww)->qE q q2 p b t.put.isSome w Y (.returned (.tuple #[])) s r.1 r.2):=hd' fun Y q3 he h3 bh S=>by
  rw[hr,jP he];have ba:(({t with gave:=g,next:=2,put:=some D}:Fe).kept).put=some D:=by rcases dH ({t with gave:=g,next:=2,put:=some D}:Fe) D rfl with⟨_,e⟩|⟨_,_,e⟩|⟨_,_,e⟩<;>rw[e]
  refine⟨rfl,⟨q3,⟨by show aA Y q (RA s _ (ptrV (({t with gave:=g,next:=2,put:=some D}:Fe).kept).put q3)) _;rw[ba];exact S.row,fun z hz=>?_⟩,.inr h3⟩,S.wds,S.only.weak fun k J=>?_⟩
  ·have hz:(({t with gave:=g,next:=2,put:=some D}:Fe).kept).put=some z:=hz;rw[ba]at hz;obtain rfl:=Option.some.inj hz;exact⟨bh,by have:=h0.ls;omega⟩
  rcases J with J|J|J
  ·exact .inl J
  ·exact .inr (.inr (.inl J))
  exact .inr (.inr (.inr J))
 have o:=fun Y q3 (hY:FeAt Y q q3 s {t with gave:=g,next:=2,put:=some D})=>vV q q3 s {t with gave:=g,next:=2,put:=some D} D Y hY rfl;have b2:(({t with gave:=g,next:=2,put:=some D}:Fe).kept).gave=g:=by rcases dH ({t with gave:=g,next:=2,put:=some D}:Fe) D rfl with⟨_,e⟩|⟨_,_,e⟩|⟨_,_,e⟩<;>rw[e]
 generalize bq:(({t with gave:=g,next:=2,put:=some D}:Fe).kept)=tk at *;replace b2:=hd' b2
 have b0:Hid (∀ Y q3,aA Y q3 (UD s D) 318->q≠q3->aA Y q (RA s {t with gave:=g,next:=2} (.pointer (some ⟨q3,0,.none⟩))) 246->FeAt Y q q3 s {t with gave:=g,next:=2,put:=some D}):=hd' fun Y q3 h1 h2 h3=>⟨h3,fun z hz=>by
  simp only[Option.some.injEq]at hz
  subst hz
  exact⟨h1,h2⟩⟩
 clear hr bs bq b5 bi bc hf bk bm bj bz h hw bb;generalize ptrV t.put q2=pv at *;generalize t.put.isSome=has at *;generalize UD s D=cd at *;obtain⟨sp,sc,sm⟩:=s;obtain⟨Z,ta,tg,tl,tw,pk,pa,pb,tn,ti,y,F,j⟩:=t;dsimp only at C H I R L J l n o b0 ⊢;subst J;replace C:=hd' C;replace H:=hd' H;replace I:=hd' I;replace R:=hd' R;replace L:=hd' L;replace o:=hd' o;have lq:=h0.lt;have bn:=h0.cell;go_in;go_upto_region 4 with(go_at_call 141;(with_reducible refine(H _).mono ?_);rintro r1 w1 ⟨rfl,b8⟩;have hX:=h0.below b8);clear bn lq;go_cut [1] (fun s1 wx=>s1= .pointer (some ⟨p,0,.none⟩)/\At3 q p b w wx (RA ⟨sp,sc,sm⟩ ⟨Z,ta,tg,tl,tw,2,pa,pb,tn,ti,y,g,j⟩ pv) 246 (m.swap Z sa G ww));case first=>
  refine UK 29 (last:= { dst:=none,op:=Op.store 4 (Operand.tmp 77) (Operand.tmp 75),type:=0,pos:=_,after:=_,guard:=none}) (x:=KA 90) (ld:=26) (v:= .bool g) (ts:= [50,54,67,68,74])
   (K0:=fun Y=>At3 q p b w Y (RA ⟨sp,sc,sm⟩ ⟨Z,ta,tg,tl,tw,2,pa,pb,tn,ti,y,F,j⟩ pv) 246 m) (K1:=fun Y=>At3 q p b w Y (RA ⟨sp,sc,sm⟩ ⟨Z,ta,tg,tl,tw,2,pa,pb,tn,ti,y,F,j⟩ pv) 246 (m.swap Z sa G ww))
   (by kernel_rfl) rfl (by kernel_rfl) (by simp only[List.take,KA,GD,MC,nopO,nopC,Nat.reduceBEq,Bool.or_false,Bool.or_true,Bool.false_eq_true,↓reduceIte,Nat.reduceAdd];exact rfl) (by kernel_rfl) (by kernel_rfl) (by kernel_rfl) (by simp[KA]) (by simp[KA]) (by simp[KA]) (by simp[KA]) (by kernel_rfl) (by simp[KA]) (by simp[KA])
   ⟨⟨fun Y Y' h1 h2 h3=>h1.far h2 h3 hX.only.size⟩,⟨fun Y Y' h1 h2 h3=>h1.far h2 h3 hX.only.size⟩⟩ hX.drew ?_
  apply Exists.intro;refine⟨fun B hb hs=>?_,fun h=>(by simp[KA]at h),fun Q0=>?_,?_⟩;case refine_1=>
   have bg:aA B q (RA ⟨sp,sc,sm⟩ ⟨Z,ta,tg,tl,tw,2,pa,pb,tn,ti,y,F,j⟩ pv) 246:=hb.elim (fun h=>h.row) (fun h=>h.row);have lB:=bg.lt;have c6:=bg.cell;repeat (go_big_quiet_step ((first|(go_at_call 114;exact AA (C _))|(go_at_call 141;exact AA (I _)))))
   exact wpQuiet_nil rfl
  case refine_2=>exact gF rfl (fun _ _=>by simp[go_sem]) fun Y b7 hs=>(R Y b7.wds).mono fun r Y' ⟨h1,h2,h3⟩=>⟨h1,b7.access h2 h3,h3.weak fun k J=>by have:=hX.only.size;rcases J with rfl|rfl;exact Nat.lt_of_lt_of_le h0.ls.2.1 this;exact Nat.lt_of_lt_of_le h0.ls.2.2 this⟩
  case refine_3=>intro a w4 M hf;obtain⟨rfl,c5,b1,_⟩:=hf;have c7:=b1.cell;have zf:=b1.free;have X:=b1.set 14 (.bool g);simp only[KA,vput,List.take,List.size_toArray,List.length_cons,List.length_nil,Nat.reduceAdd,Nat.reduceLT,decide_false,Bool.false_eq_true,if_false];go_wp2;go_meet;exact⟨rfl,X⟩
 case rest=>
  obtain⟨rfl,S⟩:=hcut;have cc:=h0.ls;clear h0 R C H I hX b8;have bp:=S.cell;have zf:=S.free;go_upto_region 6 with fail;have X:=S.set 11 (.int .i64 3);generalize World.setCell _ ⟨q,11,.none⟩ (.int .i64 3)=U at *;clear S bp zf;replace X:At3 q p b w U (RA ⟨sp,sc,sm⟩ ⟨Z,ta,tg,tl,tw,2,pa,pb,3,ti,y,g,j⟩ pv) 246 (m.swap Z sa G ww):=X;have lU:=X.lt;have b6:=X.cell;by_cases he:pb=Z
  ·replace n:=hd' (fun Y q3=>n Y q3 he);subst he;clear l;go_quiet (fail);have hC:=X.drewN nq;clear X b6 lU;generalize U.drewN nq=V at *;go_upto_region 7 with fail;have hS:=hd' (fun (Y:World) (v:Value) (h:aA Y q (RA ⟨sp,sc,sm⟩ ⟨pb,ta,tg,tl,tw,2,pa,pb,3,ti,y,g,j⟩ v) 246)=>(⟨h.cell 0,h.cell 1,h.cell 2,h.cell 3,h.cell 5,h.cell 6,h.cell 9⟩:Y.cell? ⟨q,0,.none⟩=some (.int .i64 sp)/\Y.cell? ⟨q,1,.none⟩=some (.int .i64 sc)/\Y.cell? ⟨q,2,.none⟩=some (.int .i64 sm)/\Y.cell? ⟨q,3,.none⟩=some (.int .i64 pb)/\Y.cell? ⟨q,5,.none⟩=some (.int .i64 tg)/\Y.cell? ⟨q,6,.none⟩=some (.int .i64 tl)/\Y.cell? ⟨q,9,.none⟩=some (.int .i64 pa)))
   go_region_held3 (fun Y=>Y.cell? ⟨q,0,.none⟩=some (.int .i64 sp)/\Y.cell? ⟨q,1,.none⟩=some (.int .i64 sc)/\Y.cell? ⟨q,2,.none⟩=some (.int .i64 sm)/\Y.cell? ⟨q,3,.none⟩=some (.int .i64 pb)/\Y.cell? ⟨q,5,.none⟩=some (.int .i64 tg)/\Y.cell? ⟨q,6,.none⟩=some (.int .i64 tl)/\Y.cell? ⟨q,9,.none⟩=some (.int .i64 pa))
    (first|exact hS _ _ hC.row.drew|exact hS _ _ hD.row|exact hS _ _ ((hD.set 13 _).row.cast rfl))
    (first|(go_at_call 240;refine(L _).mono ?_;rintro r w6 ⟨q3,rfl,bv,N,b9⟩;have hD:=hC.drew.below b9;have c4:=hD.cell 13;have zf:=hD.free))
   have hE:=hD.set 13 (.pointer (some ⟨q3,0,.none⟩));have E:q3≠q:=by have:=hC.lt;have hd:V.drew.heap.size=V.heap.size:=rfl;omega
   have bf:w.heap.size<=q3:=Nat.le_trans hC.only.size bv;have b3:=N.other E 13 (.pointer (some ⟨q3,0,.none⟩));generalize World.setCell w6 ⟨q,13,.none⟩ (.pointer (some ⟨q3,0,.none⟩))=T at *;clear hD c4 zf N b9 hC;replace hE:At3 q p b w T (RA ⟨sp,sc,sm⟩ ⟨pb,ta,tg,tl,tw,2,pa,pb,3,ti,y,g,j⟩ (.pointer (some ⟨q3,0,.none⟩))) 246 (m.swap pb sa G ww):=hE;have c8:=hE.cell;have zf:=hE.free;have hG:=hE.set 11 (.int .i64 2);have O:=b3.other E 11 (.int .i64 2);go_wp2_with (first|(go_at_call 233;refine(o _ q3 (b0 _ q3 O (fun e=>E e.symm) (hG.row.cast rfl))).mono ?_;rintro r w7 hT;obtain rfl:=hT.ret;have hJ:=hG.turned hT;have b4:=O.only hT.only E;have cf:w7.cell? ⟨q,14,.none⟩=some (.bool g):=(by rw[<-b2];exact hJ.cell 14);have c9:=hJ.cell;have yf:=hJ.free));go_returns;exact n _ q3 bf (b4.other E _ _) (hJ.set 15 _)
  replace l:=hd' (fun Y=>l Y he);have cb:(pb==Z)=false:=by simpa using he
  clear he n o L;go_quiet (fail);have hC:=X.drewN nq;clear X b6 lU;generalize U.drewN nq=V at *;have ca:=hC.cell;have zf:=hC.free;go_wp2_with fail;go_returns;exact l _ (hC.set 15 _)
theorem zyu(q q2 p b:Nat)(s:Sh)(t:Fe)(m:Mem)(w:World)(h:FeAt w q q2 s t)(L:oA w p b m)(S:q≠p)(R:q≠b)(C:t.put≠none->q2≠p/\q2≠b)(J:Fits s m)(U:feOk s t)(hs:m.st<1000000000):
  Calls Tryz.prog 232 #[some q,some p] w fun e w'=>qE q q2 p b t.put.isSome w w' e s (KB s t m).1 (KB s t m).2:=by
 rcases jB t.done with hd|hd
 ·have n:KB s t m=(t,m):=by unfold KB;rw[jP hd]
  rw[n];dsimp only;have b3:w.cell? ⟨q,15,.none⟩=some (.bool true):=by rw[<-hd];exact h.row.cell 15
  have j:qE q q2 p b t.put.isSome w w (.returned (.tuple #[])) s t m:=⟨rfl,⟨q2,h,.inl ⟨rfl,isSome_none⟩⟩,L,Only.refl _ _⟩;replace j:=hd' j;clear h L hd n U J C;go_in;go_wp2_with fail;go_returns;exact j.out
 obtain⟨c1,c2,c3,c4,c5,c6,c7,c8,c9,B⟩:=U.cl hd;have h0:At3 q p b w w (RA s t (ptrV t.put q2)) 246 m:=At3.start h.row L S R;have j:Hid (∀ Y (t':Fe) m',t'.put=t.put->At3 q p b w Y (RA s t' (ptrV t.put q2)) 246 m'->qE q q2 p b t.put.isSome w Y (.returned (.tuple #[])) s t' m'):=hd' fun Y t' m' e o=>qE.CI h C (by rw[e];exact o) e;have bq:w.cell? ⟨q,15,.none⟩=some (.bool false):=by rw[<-hd];exact h.row.cell 15
 have I:=ci t.next (h.row.cell 11);obtain⟨r,n⟩:∃ r,r=KB s t m:=⟨_,rfl⟩;rw[<-n];unfold KB at n;rw[jN (by rw[hd];decide)]at n;by_cases T:t.next=0
 ·rw[jP T]at n;have bu:=hd' (zy7 q p b s t (ptrV t.put q2) m w h0 J hs c2 c3);have b8:(t.look s m).1.put=t.put:=by unfold Fe.look;dsimp only;split<;>(try split)<;>rfl
  have l:Hid (∀ Y,At3 q p b w Y (RA s (t.look s m).1 (ptrV t.put q2)) 246 (t.look s m).2->qE q q2 p b t.put.isSome w Y (.returned (.tuple #[])) s r.1 r.2):=hd' fun Y o=>by rw[n];exact j Y _ _ b8 o
  rw[T]at I;clear n j c1 c2 c3 c4 c5 c6 c7 c8 c9 B U J h L C T hd b8;generalize t.look s m=lk at *;go_in;go_wp2_with (go_at_call 234;(with_reducible refine bu.out.mono ?_);rintro r1 w1 ⟨rfl,o⟩);go_returns;exact l _ o
 rw[jN T]at n;by_cases n1:t.next=1
 ·rw[jP n1]at n;rw[n1]at I;have c7:=c7 n1;rcases c6 (by omega) with⟨N,_⟩|⟨N,b7⟩
  ·have M:=hd' (zpj q p b s t (ptrV t.put q2) m w h0 J hs c2 N c7);have l:Hid (∀ Y,At3 q p b w Y (RA s (t.claim s m).1 (ptrV t.put q2)) 246 (t.claim s m).2/\(t.claim s m).1.put=t.put->qE q q2 p b t.put.isSome w Y (.returned (.tuple #[])) s r.1 r.2):=hd' fun Y o=>by rw[n];exact j Y _ _ o.2 o.1
   clear n j c1 c2 c3 c4 c5 c6 c7 c8 c9 B U J h L C T n1 hd N;generalize t.claim s m=lk at *;go_in;go_wp2_with (go_at_call 235;(with_reducible refine M.out.mono ?_);rintro r1 w1 ⟨rfl,o⟩);go_returns;exact l _ o
  have M:=hd' (zsz q q2 p b s t m w h L S R C J hs c2 N b7);rw[<-n]at M;clear n j c1 c2 c3 c4 c5 c6 c7 c8 c9 B U J h L C T n1 hd N b7;go_in;go_wp2_with (go_at_call 235;(with_reducible refine M.out.mono ?_);rintro r1 w1 hS;obtain rfl:=hS.ret);go_returns;exact hS
 rw[jN n1]at n;by_cases n2:t.next=2
 ·rw[jP n2]at n;rw[n2]at I;obtain⟨N,x,hx,bj,bz⟩:=c8 n2;rw[hx]at n;dsimp only at n;obtain⟨b6,O⟩:=h.inn x hx;have b0:=C (by rw[hx];exact fun e=>by cases e);have E:=zxz q2 p b s x m w b6 L b0.1 b0.2 J bj hs;have D:=h.row;rw[hx]at D;have cc:=ce (.pointer (some ⟨q2,0,.none⟩)) (D.cell 13);generalize TC s x m=ym at *;obtain⟨y,m2⟩:=ym;dsimp only at E n;have V:=hd' (fun Y (hY:FeAt Y q q2 s {t with put:=some y})=>vV q q2 s {t with put:=some y} y Y hY rfl)
  have b9:Hid (∀ Y e,Stepped q2 p b w Y e (UD s y) 318 m2->FeAt Y q q2 s {t with put:=some y}):=hd' fun Y e hS=>⟨D.only hS.only (by rintro(e|e|e);exact O e;exact S e;exact R e),fun z hz=>by
   simp only[Option.some.injEq]at hz
   subst hz
   exact⟨hS.row,O⟩⟩
  have X:(({t with put:=some y}:Fe).kept).put=some y:=by rcases dH ({t with put:=some y}:Fe) y rfl with⟨_,e⟩|⟨_,_,e⟩|⟨_,_,e⟩<;>rw[e]
  have b5:Hid (∀ Y e Z e2,Stepped q2 p b w Y e (UD s y) 318 m2->Turned q Y Z e2 (RA s (({t with put:=some y}:Fe).kept) (.pointer (some ⟨q2,0,.none⟩))) 246->qE q q2 p b t.put.isSome w Z (.returned (.tuple #[])) s r.1 r.2):=hd' fun Y e Z e2 hS o=>by
   rw[n];refine⟨rfl,⟨q2,⟨by show aA Z q (RA s _ (ptrV (({t with put:=some y}:Fe).kept).put q2)) _;rw[X];exact o.row,fun z hz=>?_⟩,.inl ⟨rfl,fun e=>by rw[hx]at e;cases e⟩⟩,hS.wds.only o.only (fun e=>S e.symm) (fun e=>R e.symm),?_⟩
   ·have hz:(({t with put:=some y}:Fe).kept).put=some z:=hz;rw[X]at hz;obtain rfl:=Option.some.inj hz;exact⟨hS.row.only o.only (fun e=>O e.symm),O⟩
   refine(hS.only.weak (G:=fun k=>k=q\/(t.put.isSome=true/\k=q2)\/k=p\/k=b) fun k e=>?_).trans o.only (fun _ _ e=>.inl e);rcases e with e|e|e
   ·exact .inr (.inl ⟨by rw[hx];rfl,e⟩)
   ·exact .inr (.inr (.inl e))
   exact .inr (.inr (.inr e))
  replace E:=hd' E;clear n j h0 c1 c2 c3 c4 c5 c6 c7 c8 c9 B U J h L T n1 n2 b6 bj bz D b0 C X hd N;generalize ({t with put:=some y}:Fe).kept=t2 at *;go_in;go_wp2_with (first|(go_at_call 236;(with_reducible refine E.out.mono ?_);rintro r1 w1 hS;obtain rfl:=hS.ret)|(go_at_call 233;refine(V _ (b9 _ _ hS)).mono ?_;rintro r2 w2 hT;obtain rfl:=hT.ret));go_returns;exact b5 _ _ _ _ hS hT
 rw[jN n2]at n;by_cases n3:t.next=3
 ·rw[jP n3]at n;rw[n3]at I;have N:=c9 n3;have bg:0<mA t.pa/\(0<=t.slot/\t.slot<mA t.pa):=by rcases c6 (by omega) with h1|h1;omega;exact h1.2
  have bw:=eH bg.1;obtain⟨bh,bf⟩:=J.slot c2 (i:=t.slot) (by omega);have F:=fun Y=>oE s.p s.c s.m t.page t.slot Y;rw[bh]at F n;have H:=fun Y=>mE 1 t.pa Y;have bi:Hid (xB t.pa=qB 1 t.pa):=hd' rfl;rw[<-bi]at H;have E:=fun Y (hY:oA Y p b m)=>nC p b m t.c (s.c+s.p+t.page*16+t.slot) (xB t.pa) Y hY bf (EE _ _) hs;generalize s.c+s.p+t.page*16+t.slot=sa at *;generalize xB t.pa=ow at *;have l:Hid (∀ Y,At3 q p b w Y (RA s {t with done:=true} (ptrV t.put q2)) 246 (m.store t.c sa ow)->qE q q2 p b t.put.isSome w Y (.returned (.tuple #[])) s r.1 r.2):=hd' fun Y o=>by rw[n];exact j Y _ _ rfl o
  clear n j c1 c2 c3 c4 c5 c6 c7 c8 c9 B U J h L C T n1 n2 N bg bw bh bf bi I bq;generalize ptrV t.put q2=pv at *;generalize t.put.isSome=has at *;obtain⟨sp,sc,sm⟩:=s;obtain⟨tc,ta,tg,tl,tw,pk,pa,pb,tn,ti,cb,b2,ca⟩:=t;dsimp only at F H E l n3 hd ⊢;subst n3 hd;replace F:=hd' F;replace H:=hd' H;replace E:=hd' E;have lq:=h0.lt;obtain⟨c0,c1,c2,c3,c4,c5,c6⟩:=ci7 sp sc sm tc ta tg tl h0.cell;have c7:=ce (.int .u64 tw) (h0.cell 7);have c8:=ci pk (h0.cell 8);have c9:=ci pa (h0.cell 9);have B:=ci pb (h0.cell 10);have bk:=ci 3 (h0.cell 11);have bm:=ci ti (h0.cell 12);have bn:=ce (pv) (h0.cell 13);have bp:=ce (.bool b2) (h0.cell 14);have b3:=ce (.bool false) (h0.cell 15);go_in;go_upto_region 10 with fail;refine wret 25 ?_;repeat (go_big_quiet_step ((first|(go_at_call 114;exact AA (F _))|(go_at_call 141;exact AA (H _)))))
  refine wqn fun Z bs=>?_;have hZ:=h0.below bs;clear c0 c1 c2 c3 c4 c5 c6 c7 c8 c9 B bk bm bn bp b3 h0 lq;go_wp2_with (go_at_call 218;(with_reducible refine(E _ hZ.wds).mono ?_);rintro r1 w2 ⟨rfl,bx,bv⟩;have o:=hZ.access bx bv;have cd:=ce (.bool false) (o.cell 15);have zf:=o.free);go_returns;exact l _ (o.set 15 _)
 rw[jN n3]at n;have n4:t.next=4:=by omega
 rw[n4]at I;have B:=B n4;have ba:1<=t.pa/\t.pa<=8/\t.pa<=s.p-t.page:=by rcases c6 (by omega) with h1|h1;exact h1.2;omega
 have b4:=hd' (zvp q p b s t (ptrV t.put q2) m w h0 J hs c2 ba B.2);have b1:r.1=if t.i=t.pa-1 then {t with done:=true} else {t with i:=t.i+1}:=by rw[n];split<;>rfl
 have bb:r.2=if t.i=t.pa-1 then m.store t.c (pA s.p s.c s.m t.page) 0 else m.store t.c (pA s.p s.c s.m (t.page+t.i+1)) 0:=by rw[n];split<;>rfl
 rw[<-b1,<- bb]at b4;have bc:r.1.put=t.put:=by rw[b1];split<;>rfl
 have l:Hid (∀ Y,At3 q p b w Y (RA s r.1 (ptrV t.put q2)) 246 r.2->qE q q2 p b t.put.isSome w Y (.returned (.tuple #[])) s r.1 r.2):=hd' fun Y o=>j Y _ _ bc o;clear n b1 bb bc j c1 c2 c3 c4 c5 c6 c7 c8 c9 B U J h L C T n1 n2 n3 n4 hd ba;go_in;go_wp2_with (go_at_call 237;(with_reducible refine b4.out.mono ?_);rintro r1 w1 ⟨rfl,o⟩);go_returns;exact l _ o
end Go.Proofs.YtkilokkopbajkaaGreat
